/- What is written to the machine in lock step. (written by ygen2.py) -/
import Derived.Test.YtjgggmcnbdjdjaaGreatY9
import Derived.Test.YtjgggmcnbdjdjaaGreatQ5
import Derived.Test.YtjgggmcnbdjdjaaGreatX
import Derived.Test.YtjgggmcnbdjdjaaGreatB2
namespace Go.Proofs.YtjgggmcnbdjdjaaGreat.C
open Go.RowKit Go.Proofs.YtjgggmcnbdjdjaaGreat.K Go.Proofs.YtjgggmcnbdjdjaaGreat.B
attribute [local go_sem] max2_int min2_int max_two min_two i64_and255 i64_and65535 i64_and1
set_option maxRecDepth 20000
set_option linter.unusedVariables false
set_option linter.unusedSimpArgs false
theorem wr_dots (x : PpuD) (r v : Int) : (x.wr r v).dots = x.dots := by unfold PpuD.wr PpuD.poke; (repeat' split) <;> rfl
theorem wr_tlen (x : PpuD) (r v : Int) : (x.wr r v).table.length = x.table.length := by unfold PpuD.wr PpuD.poke; (repeat' split) <;> simp
theorem poke_len (x : MemD) (m : ImageD) (a v : Int) : (x.poke m a v).ram.length = x.ram.length := by unfold MemD.poke; (repeat' split) <;> simp
def LockD.writeR (l : LockD) (a v : Int) : LockD :=
  if regR a = 2 then ⟨l.img, l.pads, l.mem, l.cpu, l.ppu.wr (regA a) v, l.apu, l.pad, l.nmi, l.steps, l.obs⟩
  else if regR a = 3 then ⟨l.img, l.pads, l.mem, l.cpu, l.ppu, l.apu.write (regA a) v, l.pad, l.nmi, l.steps, l.obs⟩
  else if regR a = 4 then ⟨l.img, l.pads, l.mem, l.cpu, l.ppu, l.apu, l.pad.write l.pads l.ppu.t v, l.nmi, l.steps, l.obs⟩
  else ⟨l.img, l.pads, l.mem.poke l.img a v, l.cpu, l.ppu, l.apu, l.pad, l.nmi, l.steps, l.obs⟩
def LockD.write (l : LockD) (a v : Int) : LockD := if l.ok = true then l.writeR a v else l
theorem LockD.write_mk (l : LockD) (a v : Int) : (l.write a v).mk_ = l.mk_ := by
  unfold LockD.write LockD.writeR
  split
  · split
    · simp only [LockD.mk_, PpuD.mk_, wr_tlen, wr_dots]
    · split
      · rfl
      · split
        · rfl
        · simp only [LockD.mk_, MemD.mk_, poke_len]
  · rfl
theorem poke_1 {x : MemD} {m : ImageD} {a v : Int} {k : Nat} (e1 : regR a = 1) (e2 : regA a = (k : Int)) : x.poke m a v = ⟨x.ram.set k (v % 256), x.bank⟩ := by simp [MemD.poke, e1, e2]
theorem poke_5 {x : MemD} {m : ImageD} {a v : Int} (e1 : regR a = 5 ∨ regR a = 6) : x.poke m a v = ⟨x.ram, v % 256 % (m.banks.length : Int)⟩ := by rcases e1 with e | e <;> simp [MemD.poke, e]
theorem poke_no {x : MemD} {m : ImageD} {a v : Int} (e1 : regR a ≠ 1) (e5 : regR a ≠ 5) (e6 : regR a ≠ 6) : x.poke m a v = x := by simp [MemD.poke, e1, e5, e6]
set_option maxHeartbeats 8000000 in
theorem impl_poke_L (x : MemD) (q : MemP) (v0 : Value) (v1 : Value) (u0 : Value) (u1 : Value) (u2 : Value) (u3 : Value) (u4 : Value) (u5 : Value) (u6 : Value) (u7 : Value) (u8 : Value) (u9 : Value) (u10 : Value) (u11 : Value) (u12 : Value) (u13 : Value) (u14 : Value) (u15 : Value) (u16 : Value) (u17 : Value) (u18 : Value) (u19 : Value) (u20 : Value) (u21 : Value) (u22 : Value) (u23 : Value) (u24 : Value) (u25 : Value) (u26 : Value) (u27 : Value) (u28 : Value) (u29 : Value) (m : ImageD) (qm : ImageP) (a v : Int) (g : Nat) (w : World) (hH : Hol w [Ast.blk g [v0, v1, .slice q.ram.A x.ram.length q.ram.c, .int .i64 x.bank, u0, u1, u2, u3, u4, u5, u6, u7, u8, u9, u10, u11, u12, u13, u14, u15, u16, u17, u18, u19, u20, u21, u22, u23, u24, u25, u26, u27, u28, u29] 49, intsA q.ram x.ram]) (hm1 : 1 ≤ m.banks.length) (hm8 : m.banks.length ≤ 8) (hlen0 : x.ram.length = 512) : Calls Tryz.prog 139 #[.pointer (some ⟨g, 2, none⟩), .agg #[.slice qm.banks.s.A m.banks.length qm.banks.s.c], .int .i64 a, .int .i64 v] w fun e w' => e = .returned (.tuple #[]) ∧ St w ([Ast.blk g [v0, v1, .slice q.ram.A x.ram.length q.ram.c, .int .i64 x.bank, u0, u1, u2, u3, u4, u5, u6, u7, u8, u9, u10, u11, u12, u13, u14, u15, u16, u17, u18, u19, u20, u21, u22, u23, u24, u25, u26, u27, u28, u29] 49, intsA q.ram x.ram].flatMap Ast.fp) w' [Ast.blk g [v0, v1, .slice q.ram.A (x.poke m a v).ram.length q.ram.c, .int .i64 (x.poke m a v).bank, u0, u1, u2, u3, u4, u5, u6, u7, u8, u9, u10, u11, u12, u13, u14, u15, u16, u17, u18, u19, u20, u21, u22, u23, u24, u25, u26, u27, u28, u29] 49, intsA q.ram (x.poke m a v).ram] := by
  have H := hH.st
  obtain ⟨gr, hA, hc⟩ := own_some (H.get (x := intsA q.ram x.ram) pkA) (by omega)
  obtain ⟨⟨A1, c1⟩⟩ := q
  obtain ⟨ram, bank⟩ := x
  simp only at hA hc hlen0 H ⊢
  subst hA
  have hlen : ram.length = 512 := hlen0
  have hc1 : 512 ≤ c1 := by omega
  clear hH hc hlen0
  generalize hF : List.flatMap Ast.fp _ = F at H ⊢
  clear hF
  rcases reg_cases a with ⟨e1, a0, a1⟩ | ⟨e1, a0, a1⟩ | ⟨e1, a0, a1⟩ | ⟨e1, a0⟩ | ⟨e1, a0, a1⟩ | ⟨e1, a0, a1⟩ | ⟨e1, a0⟩
  · obtain ⟨k, e2⟩ : ∃ k : Nat, regA a = (k : Int) := ⟨(regA a).toNat, by omega⟩
    have hk : k < ram.length := by omega
    have hlen2 : 512 ≤ c1 := by omega
    rw [poke_1 e1 e2]
    have E1 := Lib.hid e1
    have E2 := Lib.hid e2
    have HL := Lib.hid hlen
    clear e1 e2 a0 a1 hlen
    go_enter Tryz.func139, Tryz.ntmps139
    go_upto_region 4 with (first | (go_at_call 126; (with_reducible refine (impl_Region _ _).mono ?_); rintro e w1 ⟨rfl, rfl⟩; rw [E1.out, E2.out]) | ((with_reducible refine g_box rfl ?_); refine eBa H ?_; clear H; intro g_ W_ H) | ((with_reducible refine g_load rfl ?_); refine eL1 H ?_) | ((with_reducible refine g_store rfl ?_); refine eSi H ?_; clear H; intro W_ H))
    (with_reducible refine g_draw ?_)
    try simp only [Act.put, List.setIfInBounds_toArray, List.set_cons_succ, List.set_cons_zero]
    refine F_begin (ls := #[false, false, false, false, false, false, false, false, false]) (by kernel_rfl) rfl (by kernel_rfl) ?_
    have H_ := H.drew
    (clear H; have H := H_; clear H_)
    refine T_go [(0, 0, 18), (0, 1, 19), (0, 2, 20), (1, 3, 21), (0, 4, 22), (0, 5, 23), (0, 6, 24), (0, 7, 25)] ?_; (repeat (first | (refine' T_pure _ rfl rfl (by kernel_rfl) (Nat.le_of_ble_eq_true (by kernel_rfl)) (fun w2_ K_ hK_ => ?_) ?_; rotate_left 1; focus ((conv => (arg 4; arg 1; whnf)); (repeat (first | exact hK_ rfl | (go_big_may; (first | (go_at_call 192; (with_reducible refine (impl_Byte _ _).mono ?_); rintro e w1 ⟨rfl, rfl⟩) | ((with_reducible refine g_load rfl ?_); refine eL1 H ?_))) | go_step | go_guarded | go_upon | dsimp only)); done)) | (refine' T_read _ rfl rfl (by kernel_rfl) (Nat.le_of_ble_eq_true (by kernel_rfl)) (fun K_ hK_ => ?_) ?_; rotate_left 1; focus ((conv => (arg 4; arg 1; whnf)); (repeat (first | exact hK_ rfl | (go_big_may; (first | (go_at_call 192; (with_reducible refine (impl_Byte _ _).mono ?_); rintro e w1 ⟨rfl, rfl⟩) | ((with_reducible refine g_load rfl ?_); refine eL1 H ?_))) | go_step | go_guarded | go_upon | dsimp only)); done)))); refine T_end ?_
    refine F_eA (ls' := #[true, true, true, true, true, true, true, true, true]) (pend' := []) 8 ?_; intro K_ hK_; (conv => (arg 4; arg 1; whnf)); (repeat (first | refine hK_ _ _ rfl ?_ ?_ | (go_big_may; (first | ((with_reducible refine g_load rfl ?_); refine eL1 H ?_) | ((with_reducible refine g_store rfl ?_); refine' ev_store_own (v := .int _ _) H rfl rfl rfl rfl rfl ?_ ?_ ?_ ?_ ?_ ?_ ?_; rotate_left 8; (focus exact pkA); (focus exact szT rfl); (focus rfl); (focus (rw [nums_length]; omega)); (focus rfl); (focus exact nums_set ram k _ (by omega)); intro W_ H_; rw [own_set] at H_; (clear H; have H := H_; clear H_)) | ((with_reducible refine g_store rfl ?_); refine eSi H ?_; clear H; intro W_ H))) | go_step | go_guarded | go_upon | dsimp only)); exact kept_nil
    refine F_done (by kernel_rfl) ?_
    go_wp2_with (first | ((with_reducible refine g_box rfl ?_); refine eBa H ?_; clear H; intro g_ W_ H) | ((with_reducible refine g_load rfl ?_); refine eL1 H ?_) | ((with_reducible refine g_store rfl ?_); refine eSi H ?_; clear H; intro W_ H))
    have H_ := H.take (xs := [Ast.blk g _ _, intsA ⟨some ⟨gr, 0, none⟩, c1⟩ _]) pksA
    go_end0
    exact ⟨rfl, H_⟩
  · obtain ⟨k, e2⟩ : ∃ k : Int, regA a = k := ⟨_, rfl⟩
    rw [poke_no (by omega) (by omega) (by omega)]
    have E1 := Lib.hid e1
    have E2 := Lib.hid e2
    have HL := Lib.hid hlen
    clear e1 e2 a0 a1 hlen
    go_enter Tryz.func139, Tryz.ntmps139
    go_wp2_with (first | (go_at_call 126; (with_reducible refine (impl_Region _ _).mono ?_); rintro e w1 ⟨rfl, rfl⟩; rw [E1.out, E2.out]) | ((with_reducible refine g_box rfl ?_); refine eBa H ?_; clear H; intro g_ W_ H) | ((with_reducible refine g_load rfl ?_); refine eL1 H ?_) | ((with_reducible refine g_store rfl ?_); refine eSi H ?_; clear H; intro W_ H))
    have H_ := H.take (xs := [Ast.blk g _ _, intsA ⟨some ⟨gr, 0, none⟩, c1⟩ _]) pksA
    go_end0
    exact ⟨rfl, H_⟩
  · obtain ⟨k, e2⟩ : ∃ k : Int, regA a = k := ⟨_, rfl⟩
    rw [poke_no (by omega) (by omega) (by omega)]
    have E1 := Lib.hid e1
    have E2 := Lib.hid e2
    have HL := Lib.hid hlen
    clear e1 e2 a0 a1 hlen
    go_enter Tryz.func139, Tryz.ntmps139
    go_wp2_with (first | (go_at_call 126; (with_reducible refine (impl_Region _ _).mono ?_); rintro e w1 ⟨rfl, rfl⟩; rw [E1.out, E2.out]) | ((with_reducible refine g_box rfl ?_); refine eBa H ?_; clear H; intro g_ W_ H) | ((with_reducible refine g_load rfl ?_); refine eL1 H ?_) | ((with_reducible refine g_store rfl ?_); refine eSi H ?_; clear H; intro W_ H))
    have H_ := H.take (xs := [Ast.blk g _ _, intsA ⟨some ⟨gr, 0, none⟩, c1⟩ _]) pksA
    go_end0
    exact ⟨rfl, H_⟩
  · obtain ⟨k, e2⟩ : ∃ k : Int, regA a = k := ⟨_, rfl⟩
    rw [poke_no (by omega) (by omega) (by omega)]
    have E1 := Lib.hid e1
    have E2 := Lib.hid e2
    have HL := Lib.hid hlen
    clear e1 e2 a0  hlen
    go_enter Tryz.func139, Tryz.ntmps139
    go_wp2_with (first | (go_at_call 126; (with_reducible refine (impl_Region _ _).mono ?_); rintro e w1 ⟨rfl, rfl⟩; rw [E1.out, E2.out]) | ((with_reducible refine g_box rfl ?_); refine eBa H ?_; clear H; intro g_ W_ H) | ((with_reducible refine g_load rfl ?_); refine eL1 H ?_) | ((with_reducible refine g_store rfl ?_); refine eSi H ?_; clear H; intro W_ H))
    have H_ := H.take (xs := [Ast.blk g _ _, intsA ⟨some ⟨gr, 0, none⟩, c1⟩ _]) pksA
    go_end0
    exact ⟨rfl, H_⟩
  · obtain ⟨k, e2⟩ : ∃ k : Int, regA a = k := ⟨_, rfl⟩
    have b0 : 0 ≤ v % 256 := by omega
    have hrem : (v % 256).tmod (m.banks.length : Int) = v % 256 % (m.banks.length : Int) := tm b0
    rw [poke_5 (.inl e1)]
    have E1 := Lib.hid e1
    have E2 := Lib.hid e2
    have HL := Lib.hid hlen
    clear e1 e2 a0 a1 hlen
    go_enter Tryz.func139, Tryz.ntmps139
    go_upto_region 7 with (first | (go_at_call 126; (with_reducible refine (impl_Region _ _).mono ?_); rintro e w1 ⟨rfl, rfl⟩; rw [E1.out, E2.out]) | ((with_reducible refine g_box rfl ?_); refine eBa H ?_; clear H; intro g_ W_ H) | ((with_reducible refine g_load rfl ?_); refine eL1 H ?_) | ((with_reducible refine g_store rfl ?_); refine eSi H ?_; clear H; intro W_ H))
    (with_reducible refine g_draw ?_)
    try simp only [Act.put, List.setIfInBounds_toArray, List.set_cons_succ, List.set_cons_zero]
    refine F_begin (ls := #[false, false, false, false, false, false, false, false, false, false]) (by kernel_rfl) rfl (by kernel_rfl) ?_
    have H_ := H.drew
    (clear H; have H := H_; clear H_)
    refine T_go [(0, 0, 29), (0, 1, 30), (0, 2, 31), (0, 3, 32), (1, 4, 33), (0, 5, 34), (0, 6, 35), (0, 7, 36), (0, 8, 37)] ?_; (repeat (first | (refine' T_pure _ rfl rfl (by kernel_rfl) (Nat.le_of_ble_eq_true (by kernel_rfl)) (fun w2_ K_ hK_ => ?_) ?_; rotate_left 1; focus ((conv => (arg 4; arg 1; whnf)); (repeat (first | exact hK_ rfl | (go_big_may; (first | (go_at_call 192; (with_reducible refine (impl_Byte _ _).mono ?_); rintro e w1 ⟨rfl, rfl⟩) | ((with_reducible refine g_load rfl ?_); refine eL1 H ?_) | ((with_reducible refine g_store rfl ?_); refine eSi H ?_; clear H; intro W_ H))) | go_step | go_guarded | go_upon | dsimp only)); done)) | (refine' T_read _ rfl rfl (by kernel_rfl) (Nat.le_of_ble_eq_true (by kernel_rfl)) (fun K_ hK_ => ?_) ?_; rotate_left 1; focus ((conv => (arg 4; arg 1; whnf)); (repeat (first | exact hK_ rfl | (go_big_may; (first | (go_at_call 192; (with_reducible refine (impl_Byte _ _).mono ?_); rintro e w1 ⟨rfl, rfl⟩) | ((with_reducible refine g_load rfl ?_); refine eL1 H ?_) | ((with_reducible refine g_store rfl ?_); refine eSi H ?_; clear H; intro W_ H))) | go_step | go_guarded | go_upon | dsimp only)); done)))); refine T_end ?_
    refine F_eA (ls' := #[true, true, true, true, true, true, true, true, true, true]) (pend' := []) 9 ?_; intro K_ hK_; (conv => (arg 4; arg 1; whnf)); (repeat (first | refine hK_ _ _ rfl ?_ ?_ | (go_big_may; (first | ((with_reducible refine g_load rfl ?_); refine eL1 H ?_) | ((with_reducible refine g_store rfl ?_); refine eSi H ?_; clear H; intro W_ H))) | go_step | go_guarded | go_upon | dsimp only)); exact kept_nil
    refine F_done (by kernel_rfl) ?_
    go_wp2_with (first | ((with_reducible refine g_box rfl ?_); refine eBa H ?_; clear H; intro g_ W_ H) | ((with_reducible refine g_load rfl ?_); refine eL1 H ?_) | ((with_reducible refine g_store rfl ?_); refine eSi H ?_; clear H; intro W_ H))
    have H_ := H.take (xs := [Ast.blk g _ _, intsA ⟨some ⟨gr, 0, none⟩, c1⟩ _]) pksA
    go_end0
    exact ⟨rfl, H_⟩
  · obtain ⟨k, e2⟩ : ∃ k : Int, regA a = k := ⟨_, rfl⟩
    have b0 : 0 ≤ v % 256 := by omega
    have hrem : (v % 256).tmod (m.banks.length : Int) = v % 256 % (m.banks.length : Int) := tm b0
    rw [poke_5 (.inr e1)]
    have E1 := Lib.hid e1
    have E2 := Lib.hid e2
    have HL := Lib.hid hlen
    clear e1 e2 a0 a1 hlen
    go_enter Tryz.func139, Tryz.ntmps139
    go_upto_region 7 with (first | (go_at_call 126; (with_reducible refine (impl_Region _ _).mono ?_); rintro e w1 ⟨rfl, rfl⟩; rw [E1.out, E2.out]) | ((with_reducible refine g_box rfl ?_); refine eBa H ?_; clear H; intro g_ W_ H) | ((with_reducible refine g_load rfl ?_); refine eL1 H ?_) | ((with_reducible refine g_store rfl ?_); refine eSi H ?_; clear H; intro W_ H))
    (with_reducible refine g_draw ?_)
    try simp only [Act.put, List.setIfInBounds_toArray, List.set_cons_succ, List.set_cons_zero]
    refine F_begin (ls := #[false, false, false, false, false, false, false, false, false, false]) (by kernel_rfl) rfl (by kernel_rfl) ?_
    have H_ := H.drew
    (clear H; have H := H_; clear H_)
    refine T_go [(0, 0, 29), (0, 1, 30), (0, 2, 31), (0, 3, 32), (1, 4, 33), (0, 5, 34), (0, 6, 35), (0, 7, 36), (0, 8, 37)] ?_; (repeat (first | (refine' T_pure _ rfl rfl (by kernel_rfl) (Nat.le_of_ble_eq_true (by kernel_rfl)) (fun w2_ K_ hK_ => ?_) ?_; rotate_left 1; focus ((conv => (arg 4; arg 1; whnf)); (repeat (first | exact hK_ rfl | (go_big_may; (first | (go_at_call 192; (with_reducible refine (impl_Byte _ _).mono ?_); rintro e w1 ⟨rfl, rfl⟩) | ((with_reducible refine g_load rfl ?_); refine eL1 H ?_) | ((with_reducible refine g_store rfl ?_); refine eSi H ?_; clear H; intro W_ H))) | go_step | go_guarded | go_upon | dsimp only)); done)) | (refine' T_read _ rfl rfl (by kernel_rfl) (Nat.le_of_ble_eq_true (by kernel_rfl)) (fun K_ hK_ => ?_) ?_; rotate_left 1; focus ((conv => (arg 4; arg 1; whnf)); (repeat (first | exact hK_ rfl | (go_big_may; (first | (go_at_call 192; (with_reducible refine (impl_Byte _ _).mono ?_); rintro e w1 ⟨rfl, rfl⟩) | ((with_reducible refine g_load rfl ?_); refine eL1 H ?_) | ((with_reducible refine g_store rfl ?_); refine eSi H ?_; clear H; intro W_ H))) | go_step | go_guarded | go_upon | dsimp only)); done)))); refine T_end ?_
    refine F_eA (ls' := #[true, true, true, true, true, true, true, true, true, true]) (pend' := []) 9 ?_; intro K_ hK_; (conv => (arg 4; arg 1; whnf)); (repeat (first | refine hK_ _ _ rfl ?_ ?_ | (go_big_may; (first | ((with_reducible refine g_load rfl ?_); refine eL1 H ?_) | ((with_reducible refine g_store rfl ?_); refine eSi H ?_; clear H; intro W_ H))) | go_step | go_guarded | go_upon | dsimp only)); exact kept_nil
    refine F_done (by kernel_rfl) ?_
    go_wp2_with (first | ((with_reducible refine g_box rfl ?_); refine eBa H ?_; clear H; intro g_ W_ H) | ((with_reducible refine g_load rfl ?_); refine eL1 H ?_) | ((with_reducible refine g_store rfl ?_); refine eSi H ?_; clear H; intro W_ H))
    have H_ := H.take (xs := [Ast.blk g _ _, intsA ⟨some ⟨gr, 0, none⟩, c1⟩ _]) pksA
    go_end0
    exact ⟨rfl, H_⟩
  · obtain ⟨k, e2⟩ : ∃ k : Int, regA a = k := ⟨_, rfl⟩
    rw [poke_no (by omega) (by omega) (by omega)]
    have E1 := Lib.hid e1
    have E2 := Lib.hid e2
    have HL := Lib.hid hlen
    clear e1 e2 a0  hlen
    go_enter Tryz.func139, Tryz.ntmps139
    go_wp2_with (first | (go_at_call 126; (with_reducible refine (impl_Region _ _).mono ?_); rintro e w1 ⟨rfl, rfl⟩; rw [E1.out, E2.out]) | ((with_reducible refine g_box rfl ?_); refine eBa H ?_; clear H; intro g_ W_ H) | ((with_reducible refine g_load rfl ?_); refine eL1 H ?_) | ((with_reducible refine g_store rfl ?_); refine eSi H ?_; clear H; intro W_ H))
    have H_ := H.take (xs := [Ast.blk g _ _, intsA ⟨some ⟨gr, 0, none⟩, c1⟩ _]) pksA
    go_end0
    exact ⟨rfl, H_⟩
set_option maxHeartbeats 8000000 in
theorem spec_Poke (m : ImageD) (qm : ImageP) (x : MemD) (q : MemP) (a v : Int) (w : World) (hm : ImageIn w m qm) (hx : MemIn w x q) (hs : x.ram.length ≤ 1048576) (hok : x.ok m = true) : Calls Tryz.prog 135 #[.agg #[.slice qm.banks.s.A m.banks.length qm.banks.s.c], .agg #[.slice q.ram.A x.ram.length q.ram.c, .int .i64 x.bank], .int .i64 a, .int .i64 v] w fun e w' => ∃ q' : MemP, e = .returned (.agg #[.slice q'.ram.A (x.poke m a v).ram.length q'.ram.c, .int .i64 (x.poke m a v).bank]) ∧ St w [] w' [intsA q'.ram (x.poke m a v).ram] := by
  have H := St.nil w []
  obtain ⟨ho1, ho2, ho3, ho4, ho5⟩ := MemD.ok_at hok
  obtain ⟨go1, hm1, hm8⟩ := ImageD.ok_at ho1
  clear ho3 ho4 ho5 go1 ho1
  have HO := Lib.hid hok
  clear hok
  obtain ⟨ram, bank⟩ := x
  simp only at ho2 HO hs ⊢
  have hlen : ram.length = 512 := ho2
  clear ho2
  rcases reg_cases a with ⟨e1, a0, a1⟩ | ⟨e1, a0, a1⟩ | ⟨e1, a0, a1⟩ | ⟨e1, a0⟩ | ⟨e1, a0, a1⟩ | ⟨e1, a0, a1⟩ | ⟨e1, a0⟩
  · obtain ⟨k, e2⟩ : ∃ k : Nat, regA a = (k : Int) := ⟨(regA a).toNat, by omega⟩
    have hk : k < ram.length := by omega
    have hk5 : k < 512 := by omega
    rw [poke_1 e1 e2]
    have E1 := Lib.hid e1
    have E2 := Lib.hid e2
    have HL := Lib.hid hlen
    clear e1 e2 a0 a1 hlen
    go_enter Tryz.func135, Tryz.ntmps135
    go_upto_region 4 with (first | (go_at_call 98; (with_reducible refine (spec_l6Copy ⟨ram, bank⟩ q _ (hx.on H) hs).mono ?_); rintro e w1 ⟨q1_, rfl, kk⟩; replace H := H.cN kk; clear kk) | (go_at_call 102; (with_reducible refine (spec_MemOk m qm ⟨ram, bank⟩ q _ (hm.on H) (hx.on H)).mono ?_); rintro e w1 ⟨rfl, hb⟩; rw [HO.out]; (replace H := H.callB hb; clear hb)) | ((with_reducible refine g_box rfl ?_); refine eBa H ?_; clear H; intro g_ W_ H) | ((with_reducible refine g_alloc rfl ?_); refine eNw H ?_; clear H; intro g_ W_ H) | ((with_reducible refine g_load rfl ?_); first | refine eL1 H ?_ | refine eLa H ?_) | ((with_reducible refine g_store rfl ?_); (first | refine eSi H ?_ | refine eSa H ?_); clear H; intro W_ H))
    obtain ⟨⟨A1, c1⟩⟩ := q1_
    obtain ⟨gr_, hA, hc⟩ := own_some (H.get (x := intsA ⟨A1, c1⟩ ram) pkA) (by have := HL.out; omega)
    simp only at hA hc
    subst hA
    have hc1 : 512 ≤ c1 := by have := HL.out; omega
    clear hc
    go_upto_region 7 with (first | (go_at_call 109; (with_reducible refine (spec_Region _ _).mono ?_); rintro e w1 ⟨rfl, rfl⟩; rw [E1.out, E2.out]) | ((with_reducible refine g_box rfl ?_); refine eBa H ?_; clear H; intro g_ W_ H) | ((with_reducible refine g_alloc rfl ?_); refine eNw H ?_; clear H; intro g_ W_ H) | ((with_reducible refine g_load rfl ?_); first | refine eL1 H ?_ | refine eLa H ?_) | ((with_reducible refine g_store rfl ?_); (first | refine eSi H ?_ | refine eSa H ?_); clear H; intro W_ H))
    (with_reducible refine g_draw ?_)
    try simp only [Act.put, List.setIfInBounds_toArray, List.set_cons_succ, List.set_cons_zero]
    refine F_begin (ls := #[false, false, false, false, false, false, false]) (by kernel_rfl) rfl (by kernel_rfl) ?_
    have H_ := H.drew
    (clear H; have H := H_; clear H_)
    refine T_go [(0, 0, 27), (1, 1, 28), (0, 2, 29), (0, 3, 30), (0, 4, 31), (0, 5, 32)] ?_; (repeat (first | (refine' T_pure _ rfl rfl (by kernel_rfl) (Nat.le_of_ble_eq_true (by kernel_rfl)) (fun w2_ K_ hK_ => ?_) ?_; rotate_left 1; focus ((conv => (arg 4; arg 1; whnf)); (repeat (first | exact hK_ rfl | (go_big_may; (first | (go_at_call 191; (with_reducible refine (spec_Byte _ _).mono ?_); rintro e w1 ⟨rfl, rfl⟩) | ((with_reducible refine g_load rfl ?_); first | refine eL1 H ?_ | refine eLa H ?_))) | go_step | go_guarded | go_upon | dsimp only)); done)) | (refine' T_read _ rfl rfl (by kernel_rfl) (Nat.le_of_ble_eq_true (by kernel_rfl)) (fun K_ hK_ => ?_) ?_; rotate_left 1; focus ((conv => (arg 4; arg 1; whnf)); (repeat (first | exact hK_ rfl | (go_big_may; (first | (go_at_call 191; (with_reducible refine (spec_Byte _ _).mono ?_); rintro e w1 ⟨rfl, rfl⟩) | ((with_reducible refine g_load rfl ?_); first | refine eL1 H ?_ | refine eLa H ?_))) | go_step | go_guarded | go_upon | dsimp only)); done)))); refine T_end ?_
    refine F_eA (ls' := #[true, true, true, true, true, true, true]) (pend' := []) 6 ?_; intro K_ hK_; (conv => (arg 4; arg 1; whnf)); (repeat (first | refine hK_ _ _ rfl ?_ ?_ | (go_big_may; (first | ((with_reducible refine g_load rfl ?_); first | refine eL1 H ?_ | refine eLa H ?_) | ((with_reducible refine g_store rfl ?_); refine' ev_store_own (v := .int _ _) H rfl rfl rfl rfl rfl ?_ ?_ ?_ ?_ ?_ ?_ ?_; rotate_left 8; (focus exact pkA); (focus exact szT rfl); (focus rfl); (focus (rw [nums_length]; omega)); (focus rfl); (focus exact nums_set ram k _ (by omega)); intro W_ H_; rw [own_set] at H_; (clear H; have H := H_; clear H_)) | ((with_reducible refine g_store rfl ?_); (first | refine eSi H ?_ | refine eSa H ?_); clear H; intro W_ H))) | go_step | go_guarded | go_upon | dsimp only)); exact kept_nil
    refine F_done (by kernel_rfl) ?_
    go_wp2_with (first | ((with_reducible refine g_box rfl ?_); refine eBa H ?_; clear H; intro g_ W_ H) | ((with_reducible refine g_alloc rfl ?_); refine eNw H ?_; clear H; intro g_ W_ H) | ((with_reducible refine g_load rfl ?_); first | refine eL1 H ?_ | refine eLa H ?_) | ((with_reducible refine g_store rfl ?_); (first | refine eSi H ?_ | refine eSa H ?_); clear H; intro W_ H))
    have H_ := H.take (xs := [intsA ⟨some ⟨gr_, 0, none⟩, c1⟩ _]) pksA
    refine' back1 Tryz.results135 ?_ rfl ⟨⟨⟨some ⟨gr_, 0, none⟩, c1⟩⟩, ?_, H_⟩; rotate_left 1; exact rvA
    simp
  · obtain ⟨k, e2⟩ : ∃ k : Int, regA a = k := ⟨_, rfl⟩
    rw [poke_no (by omega) (by omega) (by omega)]
    have E1 := Lib.hid e1
    have E2 := Lib.hid e2
    have HL := Lib.hid hlen
    clear e1 e2 a0 a1 hlen
    go_enter Tryz.func135, Tryz.ntmps135
    go_upto_region 4 with (first | (go_at_call 98; (with_reducible refine (spec_l6Copy ⟨ram, bank⟩ q _ (hx.on H) hs).mono ?_); rintro e w1 ⟨q1_, rfl, kk⟩; replace H := H.cN kk; clear kk) | (go_at_call 102; (with_reducible refine (spec_MemOk m qm ⟨ram, bank⟩ q _ (hm.on H) (hx.on H)).mono ?_); rintro e w1 ⟨rfl, hb⟩; rw [HO.out]; (replace H := H.callB hb; clear hb)) | ((with_reducible refine g_box rfl ?_); refine eBa H ?_; clear H; intro g_ W_ H) | ((with_reducible refine g_alloc rfl ?_); refine eNw H ?_; clear H; intro g_ W_ H) | ((with_reducible refine g_load rfl ?_); first | refine eL1 H ?_ | refine eLa H ?_) | ((with_reducible refine g_store rfl ?_); (first | refine eSi H ?_ | refine eSa H ?_); clear H; intro W_ H))
    obtain ⟨⟨A1, c1⟩⟩ := q1_
    obtain ⟨gr_, hA, hc⟩ := own_some (H.get (x := intsA ⟨A1, c1⟩ ram) pkA) (by have := HL.out; omega)
    simp only at hA hc
    subst hA
    have hc1 : 512 ≤ c1 := by have := HL.out; omega
    clear hc
    go_wp2_with (first | (go_at_call 109; (with_reducible refine (spec_Region _ _).mono ?_); rintro e w1 ⟨rfl, rfl⟩; rw [E1.out, E2.out]) | ((with_reducible refine g_box rfl ?_); refine eBa H ?_; clear H; intro g_ W_ H) | ((with_reducible refine g_alloc rfl ?_); refine eNw H ?_; clear H; intro g_ W_ H) | ((with_reducible refine g_load rfl ?_); first | refine eL1 H ?_ | refine eLa H ?_) | ((with_reducible refine g_store rfl ?_); (first | refine eSi H ?_ | refine eSa H ?_); clear H; intro W_ H))
    have H_ := H.take (xs := [intsA ⟨some ⟨gr_, 0, none⟩, c1⟩ _]) pksA
    refine' back1 Tryz.results135 ?_ rfl ⟨⟨⟨some ⟨gr_, 0, none⟩, c1⟩⟩, ?_, H_⟩; rotate_left 1; exact rvA
    simp
  · obtain ⟨k, e2⟩ : ∃ k : Int, regA a = k := ⟨_, rfl⟩
    rw [poke_no (by omega) (by omega) (by omega)]
    have E1 := Lib.hid e1
    have E2 := Lib.hid e2
    have HL := Lib.hid hlen
    clear e1 e2 a0 a1 hlen
    go_enter Tryz.func135, Tryz.ntmps135
    go_upto_region 4 with (first | (go_at_call 98; (with_reducible refine (spec_l6Copy ⟨ram, bank⟩ q _ (hx.on H) hs).mono ?_); rintro e w1 ⟨q1_, rfl, kk⟩; replace H := H.cN kk; clear kk) | (go_at_call 102; (with_reducible refine (spec_MemOk m qm ⟨ram, bank⟩ q _ (hm.on H) (hx.on H)).mono ?_); rintro e w1 ⟨rfl, hb⟩; rw [HO.out]; (replace H := H.callB hb; clear hb)) | ((with_reducible refine g_box rfl ?_); refine eBa H ?_; clear H; intro g_ W_ H) | ((with_reducible refine g_alloc rfl ?_); refine eNw H ?_; clear H; intro g_ W_ H) | ((with_reducible refine g_load rfl ?_); first | refine eL1 H ?_ | refine eLa H ?_) | ((with_reducible refine g_store rfl ?_); (first | refine eSi H ?_ | refine eSa H ?_); clear H; intro W_ H))
    obtain ⟨⟨A1, c1⟩⟩ := q1_
    obtain ⟨gr_, hA, hc⟩ := own_some (H.get (x := intsA ⟨A1, c1⟩ ram) pkA) (by have := HL.out; omega)
    simp only at hA hc
    subst hA
    have hc1 : 512 ≤ c1 := by have := HL.out; omega
    clear hc
    go_wp2_with (first | (go_at_call 109; (with_reducible refine (spec_Region _ _).mono ?_); rintro e w1 ⟨rfl, rfl⟩; rw [E1.out, E2.out]) | ((with_reducible refine g_box rfl ?_); refine eBa H ?_; clear H; intro g_ W_ H) | ((with_reducible refine g_alloc rfl ?_); refine eNw H ?_; clear H; intro g_ W_ H) | ((with_reducible refine g_load rfl ?_); first | refine eL1 H ?_ | refine eLa H ?_) | ((with_reducible refine g_store rfl ?_); (first | refine eSi H ?_ | refine eSa H ?_); clear H; intro W_ H))
    have H_ := H.take (xs := [intsA ⟨some ⟨gr_, 0, none⟩, c1⟩ _]) pksA
    refine' back1 Tryz.results135 ?_ rfl ⟨⟨⟨some ⟨gr_, 0, none⟩, c1⟩⟩, ?_, H_⟩; rotate_left 1; exact rvA
    simp
  · obtain ⟨k, e2⟩ : ∃ k : Int, regA a = k := ⟨_, rfl⟩
    rw [poke_no (by omega) (by omega) (by omega)]
    have E1 := Lib.hid e1
    have E2 := Lib.hid e2
    have HL := Lib.hid hlen
    clear e1 e2 a0  hlen
    go_enter Tryz.func135, Tryz.ntmps135
    go_upto_region 4 with (first | (go_at_call 98; (with_reducible refine (spec_l6Copy ⟨ram, bank⟩ q _ (hx.on H) hs).mono ?_); rintro e w1 ⟨q1_, rfl, kk⟩; replace H := H.cN kk; clear kk) | (go_at_call 102; (with_reducible refine (spec_MemOk m qm ⟨ram, bank⟩ q _ (hm.on H) (hx.on H)).mono ?_); rintro e w1 ⟨rfl, hb⟩; rw [HO.out]; (replace H := H.callB hb; clear hb)) | ((with_reducible refine g_box rfl ?_); refine eBa H ?_; clear H; intro g_ W_ H) | ((with_reducible refine g_alloc rfl ?_); refine eNw H ?_; clear H; intro g_ W_ H) | ((with_reducible refine g_load rfl ?_); first | refine eL1 H ?_ | refine eLa H ?_) | ((with_reducible refine g_store rfl ?_); (first | refine eSi H ?_ | refine eSa H ?_); clear H; intro W_ H))
    obtain ⟨⟨A1, c1⟩⟩ := q1_
    obtain ⟨gr_, hA, hc⟩ := own_some (H.get (x := intsA ⟨A1, c1⟩ ram) pkA) (by have := HL.out; omega)
    simp only at hA hc
    subst hA
    have hc1 : 512 ≤ c1 := by have := HL.out; omega
    clear hc
    go_wp2_with (first | (go_at_call 109; (with_reducible refine (spec_Region _ _).mono ?_); rintro e w1 ⟨rfl, rfl⟩; rw [E1.out, E2.out]) | ((with_reducible refine g_box rfl ?_); refine eBa H ?_; clear H; intro g_ W_ H) | ((with_reducible refine g_alloc rfl ?_); refine eNw H ?_; clear H; intro g_ W_ H) | ((with_reducible refine g_load rfl ?_); first | refine eL1 H ?_ | refine eLa H ?_) | ((with_reducible refine g_store rfl ?_); (first | refine eSi H ?_ | refine eSa H ?_); clear H; intro W_ H))
    have H_ := H.take (xs := [intsA ⟨some ⟨gr_, 0, none⟩, c1⟩ _]) pksA
    refine' back1 Tryz.results135 ?_ rfl ⟨⟨⟨some ⟨gr_, 0, none⟩, c1⟩⟩, ?_, H_⟩; rotate_left 1; exact rvA
    simp
  · obtain ⟨k, e2⟩ : ∃ k : Int, regA a = k := ⟨_, rfl⟩
    have b0 : 0 ≤ v % 256 := by omega
    have hrem : (v % 256).tmod (m.banks.length : Int) = v % 256 % (m.banks.length : Int) := tm b0
    rw [poke_5 (.inl e1)]
    have E1 := Lib.hid e1
    have E2 := Lib.hid e2
    have HL := Lib.hid hlen
    clear e1 e2 a0 a1 hlen
    go_enter Tryz.func135, Tryz.ntmps135
    go_upto_region 4 with (first | (go_at_call 98; (with_reducible refine (spec_l6Copy ⟨ram, bank⟩ q _ (hx.on H) hs).mono ?_); rintro e w1 ⟨q1_, rfl, kk⟩; replace H := H.cN kk; clear kk) | (go_at_call 102; (with_reducible refine (spec_MemOk m qm ⟨ram, bank⟩ q _ (hm.on H) (hx.on H)).mono ?_); rintro e w1 ⟨rfl, hb⟩; rw [HO.out]; (replace H := H.callB hb; clear hb)) | ((with_reducible refine g_box rfl ?_); refine eBa H ?_; clear H; intro g_ W_ H) | ((with_reducible refine g_alloc rfl ?_); refine eNw H ?_; clear H; intro g_ W_ H) | ((with_reducible refine g_load rfl ?_); first | refine eL1 H ?_ | refine eLa H ?_) | ((with_reducible refine g_store rfl ?_); (first | refine eSi H ?_ | refine eSa H ?_); clear H; intro W_ H))
    obtain ⟨⟨A1, c1⟩⟩ := q1_
    obtain ⟨gr_, hA, hc⟩ := own_some (H.get (x := intsA ⟨A1, c1⟩ ram) pkA) (by have := HL.out; omega)
    simp only at hA hc
    subst hA
    have hc1 : 512 ≤ c1 := by have := HL.out; omega
    clear hc
    go_upto_region 10 with (first | (go_at_call 109; (with_reducible refine (spec_Region _ _).mono ?_); rintro e w1 ⟨rfl, rfl⟩; rw [E1.out, E2.out]) | ((with_reducible refine g_box rfl ?_); refine eBa H ?_; clear H; intro g_ W_ H) | ((with_reducible refine g_alloc rfl ?_); refine eNw H ?_; clear H; intro g_ W_ H) | ((with_reducible refine g_load rfl ?_); first | refine eL1 H ?_ | refine eLa H ?_) | ((with_reducible refine g_store rfl ?_); (first | refine eSi H ?_ | refine eSa H ?_); clear H; intro W_ H))
    (with_reducible refine g_draw ?_)
    try simp only [Act.put, List.setIfInBounds_toArray, List.set_cons_succ, List.set_cons_zero]
    refine F_begin (ls := #[false, false, false, false, false, false, false, false]) (by kernel_rfl) rfl (by kernel_rfl) ?_
    have H_ := H.drew
    (clear H; have H := H_; clear H_)
    refine T_go [(0, 0, 36), (0, 1, 37), (0, 2, 38), (1, 3, 39), (0, 4, 40), (0, 5, 41), (0, 6, 42)] ?_; (repeat (first | (refine' T_pure _ rfl rfl (by kernel_rfl) (Nat.le_of_ble_eq_true (by kernel_rfl)) (fun w2_ K_ hK_ => ?_) ?_; rotate_left 1; focus ((conv => (arg 4; arg 1; whnf)); (repeat (first | exact hK_ rfl | (go_big_may; (first | (go_at_call 191; (with_reducible refine (spec_Byte _ _).mono ?_); rintro e w1 ⟨rfl, rfl⟩) | ((with_reducible refine g_load rfl ?_); first | refine eL1 H ?_ | refine eLa H ?_) | ((with_reducible refine g_store rfl ?_); (first | refine eSi H ?_ | refine eSa H ?_); clear H; intro W_ H))) | go_step | go_guarded | go_upon | dsimp only)); done)) | (refine' T_read _ rfl rfl (by kernel_rfl) (Nat.le_of_ble_eq_true (by kernel_rfl)) (fun K_ hK_ => ?_) ?_; rotate_left 1; focus ((conv => (arg 4; arg 1; whnf)); (repeat (first | exact hK_ rfl | (go_big_may; (first | (go_at_call 191; (with_reducible refine (spec_Byte _ _).mono ?_); rintro e w1 ⟨rfl, rfl⟩) | ((with_reducible refine g_load rfl ?_); first | refine eL1 H ?_ | refine eLa H ?_) | ((with_reducible refine g_store rfl ?_); (first | refine eSi H ?_ | refine eSa H ?_); clear H; intro W_ H))) | go_step | go_guarded | go_upon | dsimp only)); done)))); refine T_end ?_
    refine F_eA (ls' := #[true, true, true, true, true, true, true, true]) (pend' := []) 7 ?_; intro K_ hK_; (conv => (arg 4; arg 1; whnf)); (repeat (first | refine hK_ _ _ rfl ?_ ?_ | (go_big_may; (first | ((with_reducible refine g_load rfl ?_); first | refine eL1 H ?_ | refine eLa H ?_) | ((with_reducible refine g_store rfl ?_); (first | refine eSi H ?_ | refine eSa H ?_); clear H; intro W_ H))) | go_step | go_guarded | go_upon | dsimp only)); exact kept_nil
    refine F_done (by kernel_rfl) ?_
    go_wp2_with (first | ((with_reducible refine g_box rfl ?_); refine eBa H ?_; clear H; intro g_ W_ H) | ((with_reducible refine g_alloc rfl ?_); refine eNw H ?_; clear H; intro g_ W_ H) | ((with_reducible refine g_load rfl ?_); first | refine eL1 H ?_ | refine eLa H ?_) | ((with_reducible refine g_store rfl ?_); (first | refine eSi H ?_ | refine eSa H ?_); clear H; intro W_ H))
    have H_ := H.take (xs := [intsA ⟨some ⟨gr_, 0, none⟩, c1⟩ _]) pksA
    refine' back1 Tryz.results135 ?_ rfl ⟨⟨⟨some ⟨gr_, 0, none⟩, c1⟩⟩, ?_, H_⟩; rotate_left 1; exact rvA
    simp
  · obtain ⟨k, e2⟩ : ∃ k : Int, regA a = k := ⟨_, rfl⟩
    have b0 : 0 ≤ v % 256 := by omega
    have hrem : (v % 256).tmod (m.banks.length : Int) = v % 256 % (m.banks.length : Int) := tm b0
    rw [poke_5 (.inr e1)]
    have E1 := Lib.hid e1
    have E2 := Lib.hid e2
    have HL := Lib.hid hlen
    clear e1 e2 a0 a1 hlen
    go_enter Tryz.func135, Tryz.ntmps135
    go_upto_region 4 with (first | (go_at_call 98; (with_reducible refine (spec_l6Copy ⟨ram, bank⟩ q _ (hx.on H) hs).mono ?_); rintro e w1 ⟨q1_, rfl, kk⟩; replace H := H.cN kk; clear kk) | (go_at_call 102; (with_reducible refine (spec_MemOk m qm ⟨ram, bank⟩ q _ (hm.on H) (hx.on H)).mono ?_); rintro e w1 ⟨rfl, hb⟩; rw [HO.out]; (replace H := H.callB hb; clear hb)) | ((with_reducible refine g_box rfl ?_); refine eBa H ?_; clear H; intro g_ W_ H) | ((with_reducible refine g_alloc rfl ?_); refine eNw H ?_; clear H; intro g_ W_ H) | ((with_reducible refine g_load rfl ?_); first | refine eL1 H ?_ | refine eLa H ?_) | ((with_reducible refine g_store rfl ?_); (first | refine eSi H ?_ | refine eSa H ?_); clear H; intro W_ H))
    obtain ⟨⟨A1, c1⟩⟩ := q1_
    obtain ⟨gr_, hA, hc⟩ := own_some (H.get (x := intsA ⟨A1, c1⟩ ram) pkA) (by have := HL.out; omega)
    simp only at hA hc
    subst hA
    have hc1 : 512 ≤ c1 := by have := HL.out; omega
    clear hc
    go_upto_region 10 with (first | (go_at_call 109; (with_reducible refine (spec_Region _ _).mono ?_); rintro e w1 ⟨rfl, rfl⟩; rw [E1.out, E2.out]) | ((with_reducible refine g_box rfl ?_); refine eBa H ?_; clear H; intro g_ W_ H) | ((with_reducible refine g_alloc rfl ?_); refine eNw H ?_; clear H; intro g_ W_ H) | ((with_reducible refine g_load rfl ?_); first | refine eL1 H ?_ | refine eLa H ?_) | ((with_reducible refine g_store rfl ?_); (first | refine eSi H ?_ | refine eSa H ?_); clear H; intro W_ H))
    (with_reducible refine g_draw ?_)
    try simp only [Act.put, List.setIfInBounds_toArray, List.set_cons_succ, List.set_cons_zero]
    refine F_begin (ls := #[false, false, false, false, false, false, false, false]) (by kernel_rfl) rfl (by kernel_rfl) ?_
    have H_ := H.drew
    (clear H; have H := H_; clear H_)
    refine T_go [(0, 0, 36), (0, 1, 37), (0, 2, 38), (1, 3, 39), (0, 4, 40), (0, 5, 41), (0, 6, 42)] ?_; (repeat (first | (refine' T_pure _ rfl rfl (by kernel_rfl) (Nat.le_of_ble_eq_true (by kernel_rfl)) (fun w2_ K_ hK_ => ?_) ?_; rotate_left 1; focus ((conv => (arg 4; arg 1; whnf)); (repeat (first | exact hK_ rfl | (go_big_may; (first | (go_at_call 191; (with_reducible refine (spec_Byte _ _).mono ?_); rintro e w1 ⟨rfl, rfl⟩) | ((with_reducible refine g_load rfl ?_); first | refine eL1 H ?_ | refine eLa H ?_) | ((with_reducible refine g_store rfl ?_); (first | refine eSi H ?_ | refine eSa H ?_); clear H; intro W_ H))) | go_step | go_guarded | go_upon | dsimp only)); done)) | (refine' T_read _ rfl rfl (by kernel_rfl) (Nat.le_of_ble_eq_true (by kernel_rfl)) (fun K_ hK_ => ?_) ?_; rotate_left 1; focus ((conv => (arg 4; arg 1; whnf)); (repeat (first | exact hK_ rfl | (go_big_may; (first | (go_at_call 191; (with_reducible refine (spec_Byte _ _).mono ?_); rintro e w1 ⟨rfl, rfl⟩) | ((with_reducible refine g_load rfl ?_); first | refine eL1 H ?_ | refine eLa H ?_) | ((with_reducible refine g_store rfl ?_); (first | refine eSi H ?_ | refine eSa H ?_); clear H; intro W_ H))) | go_step | go_guarded | go_upon | dsimp only)); done)))); refine T_end ?_
    refine F_eA (ls' := #[true, true, true, true, true, true, true, true]) (pend' := []) 7 ?_; intro K_ hK_; (conv => (arg 4; arg 1; whnf)); (repeat (first | refine hK_ _ _ rfl ?_ ?_ | (go_big_may; (first | ((with_reducible refine g_load rfl ?_); first | refine eL1 H ?_ | refine eLa H ?_) | ((with_reducible refine g_store rfl ?_); (first | refine eSi H ?_ | refine eSa H ?_); clear H; intro W_ H))) | go_step | go_guarded | go_upon | dsimp only)); exact kept_nil
    refine F_done (by kernel_rfl) ?_
    go_wp2_with (first | ((with_reducible refine g_box rfl ?_); refine eBa H ?_; clear H; intro g_ W_ H) | ((with_reducible refine g_alloc rfl ?_); refine eNw H ?_; clear H; intro g_ W_ H) | ((with_reducible refine g_load rfl ?_); first | refine eL1 H ?_ | refine eLa H ?_) | ((with_reducible refine g_store rfl ?_); (first | refine eSi H ?_ | refine eSa H ?_); clear H; intro W_ H))
    have H_ := H.take (xs := [intsA ⟨some ⟨gr_, 0, none⟩, c1⟩ _]) pksA
    refine' back1 Tryz.results135 ?_ rfl ⟨⟨⟨some ⟨gr_, 0, none⟩, c1⟩⟩, ?_, H_⟩; rotate_left 1; exact rvA
    simp
  · obtain ⟨k, e2⟩ : ∃ k : Int, regA a = k := ⟨_, rfl⟩
    rw [poke_no (by omega) (by omega) (by omega)]
    have E1 := Lib.hid e1
    have E2 := Lib.hid e2
    have HL := Lib.hid hlen
    clear e1 e2 a0  hlen
    go_enter Tryz.func135, Tryz.ntmps135
    go_upto_region 4 with (first | (go_at_call 98; (with_reducible refine (spec_l6Copy ⟨ram, bank⟩ q _ (hx.on H) hs).mono ?_); rintro e w1 ⟨q1_, rfl, kk⟩; replace H := H.cN kk; clear kk) | (go_at_call 102; (with_reducible refine (spec_MemOk m qm ⟨ram, bank⟩ q _ (hm.on H) (hx.on H)).mono ?_); rintro e w1 ⟨rfl, hb⟩; rw [HO.out]; (replace H := H.callB hb; clear hb)) | ((with_reducible refine g_box rfl ?_); refine eBa H ?_; clear H; intro g_ W_ H) | ((with_reducible refine g_alloc rfl ?_); refine eNw H ?_; clear H; intro g_ W_ H) | ((with_reducible refine g_load rfl ?_); first | refine eL1 H ?_ | refine eLa H ?_) | ((with_reducible refine g_store rfl ?_); (first | refine eSi H ?_ | refine eSa H ?_); clear H; intro W_ H))
    obtain ⟨⟨A1, c1⟩⟩ := q1_
    obtain ⟨gr_, hA, hc⟩ := own_some (H.get (x := intsA ⟨A1, c1⟩ ram) pkA) (by have := HL.out; omega)
    simp only at hA hc
    subst hA
    have hc1 : 512 ≤ c1 := by have := HL.out; omega
    clear hc
    go_wp2_with (first | (go_at_call 109; (with_reducible refine (spec_Region _ _).mono ?_); rintro e w1 ⟨rfl, rfl⟩; rw [E1.out, E2.out]) | ((with_reducible refine g_box rfl ?_); refine eBa H ?_; clear H; intro g_ W_ H) | ((with_reducible refine g_alloc rfl ?_); refine eNw H ?_; clear H; intro g_ W_ H) | ((with_reducible refine g_load rfl ?_); first | refine eL1 H ?_ | refine eLa H ?_) | ((with_reducible refine g_store rfl ?_); (first | refine eSi H ?_ | refine eSa H ?_); clear H; intro W_ H))
    have H_ := H.take (xs := [intsA ⟨some ⟨gr_, 0, none⟩, c1⟩ _]) pksA
    refine' back1 Tryz.results135 ?_ rfl ⟨⟨⟨some ⟨gr_, 0, none⟩, c1⟩⟩, ?_, H_⟩; rotate_left 1; exact rvA
    simp
theorem spec_PpuWriteK (x : PpuD) (q : PpuP) (r v : Int) (w : World) (hx : PpuIn w x q) (hs : PpuSmall x) (hok : x.ok = true) : Calls Tryz.prog 132 #[.agg #[.int .i64 x.t, .int .i64 x.ctrl, .int .i64 x.scroll, .int .i64 x.addr, .int .i64 x.pal, .bool x.blank, .slice q.table.A x.table.length q.table.c, .slice q.dots.A x.dots.length q.dots.c], .int .i64 r, .int .i64 v] w fun e w' => ∃ q', e = .returned (.agg #[.int .i64 (x.wr r v).t, .int .i64 (x.wr r v).ctrl, .int .i64 (x.wr r v).scroll, .int .i64 (x.wr r v).addr, .int .i64 (x.wr r v).pal, .bool (x.wr r v).blank, .slice q'.table.A (x.wr r v).table.length q'.table.c, .slice q'.dots.A (x.wr r v).dots.length q'.dots.c]) ∧ St w [] w' [ppuA (x.wr r v) q'] := by
  have h := spec_PpuWrite x q r v w hx hs
  have e1 : x.write r v = x.wr r v := by simp [PpuD.write, hok]
  rwa [e1] at h
set_option maxHeartbeats 16000000 in
theorem impl_lwrite (l : LockD) (q : LockP) (a v : Int) (g : Nat) (w : World) (hH : Hol w [Ast.blk g [.slice q.img.banks.s.A l.img.banks.length q.img.banks.s.c, .slice q.pads.A l.pads.length q.pads.c, .slice q.mem.ram.A l.mem.ram.length q.mem.ram.c, .int .i64 l.mem.bank, .int .i64 l.cpu.a, .int .i64 l.cpu.x, .int .i64 l.cpu.s, .int .i64 l.cpu.pc, .bool l.cpu.z, .bool l.cpu.n, .bool l.cpu.c, .bool l.cpu.i, .int .i64 l.ppu.t, .int .i64 l.ppu.ctrl, .int .i64 l.ppu.scroll, .int .i64 l.ppu.addr, .int .i64 l.ppu.pal, .bool l.ppu.blank, .slice q.ppu.table.A l.ppu.table.length q.ppu.table.c, .slice q.ppu.dots.A l.ppu.dots.length q.ppu.dots.c, .int .i64 l.apu.t, .int .i64 l.apu.p, .int .i64 l.apu.c, .int .i64 l.apu.b, .int .i64 l.apu.l, .bool l.apu.k, .bool l.apu.i, .bool l.pad.h, .int .i64 l.pad.s, .bool l.nmi, .int .i64 l.steps, .slice q.obs.frames.s.A l.obs.frames.length q.obs.frames.s.c, .slice q.obs.samples.A l.obs.samples.length q.obs.samples.c, .slice q.obs.reads.A l.obs.reads.length q.obs.reads.c] 49, frA q.img.banks l.img.banks, intsA q.pads l.pads, intsA q.mem.ram l.mem.ram, intsA q.ppu.table l.ppu.table, intsA q.ppu.dots l.ppu.dots, frA q.obs.frames l.obs.frames, intsA q.obs.samples l.obs.samples, intsA q.obs.reads l.obs.reads]) (hok : l.ok = true) : Calls Tryz.prog 66 #[.pointer (some ⟨g, 0, none⟩), .int .i64 a, .int .i64 v] w fun e w' => e = .returned (.tuple #[]) ∧ ∃ q' : LockP, St w ([Ast.blk g [.slice q.img.banks.s.A l.img.banks.length q.img.banks.s.c, .slice q.pads.A l.pads.length q.pads.c, .slice q.mem.ram.A l.mem.ram.length q.mem.ram.c, .int .i64 l.mem.bank, .int .i64 l.cpu.a, .int .i64 l.cpu.x, .int .i64 l.cpu.s, .int .i64 l.cpu.pc, .bool l.cpu.z, .bool l.cpu.n, .bool l.cpu.c, .bool l.cpu.i, .int .i64 l.ppu.t, .int .i64 l.ppu.ctrl, .int .i64 l.ppu.scroll, .int .i64 l.ppu.addr, .int .i64 l.ppu.pal, .bool l.ppu.blank, .slice q.ppu.table.A l.ppu.table.length q.ppu.table.c, .slice q.ppu.dots.A l.ppu.dots.length q.ppu.dots.c, .int .i64 l.apu.t, .int .i64 l.apu.p, .int .i64 l.apu.c, .int .i64 l.apu.b, .int .i64 l.apu.l, .bool l.apu.k, .bool l.apu.i, .bool l.pad.h, .int .i64 l.pad.s, .bool l.nmi, .int .i64 l.steps, .slice q.obs.frames.s.A l.obs.frames.length q.obs.frames.s.c, .slice q.obs.samples.A l.obs.samples.length q.obs.samples.c, .slice q.obs.reads.A l.obs.reads.length q.obs.reads.c] 49, frA q.img.banks l.img.banks, intsA q.pads l.pads, intsA q.mem.ram l.mem.ram, intsA q.ppu.table l.ppu.table, intsA q.ppu.dots l.ppu.dots, frA q.obs.frames l.obs.frames, intsA q.obs.samples l.obs.samples, intsA q.obs.reads l.obs.reads].flatMap Ast.fp) w' [Ast.blk g [.slice q'.img.banks.s.A (l.writeR a v).img.banks.length q'.img.banks.s.c, .slice q'.pads.A (l.writeR a v).pads.length q'.pads.c, .slice q'.mem.ram.A (l.writeR a v).mem.ram.length q'.mem.ram.c, .int .i64 (l.writeR a v).mem.bank, .int .i64 (l.writeR a v).cpu.a, .int .i64 (l.writeR a v).cpu.x, .int .i64 (l.writeR a v).cpu.s, .int .i64 (l.writeR a v).cpu.pc, .bool (l.writeR a v).cpu.z, .bool (l.writeR a v).cpu.n, .bool (l.writeR a v).cpu.c, .bool (l.writeR a v).cpu.i, .int .i64 (l.writeR a v).ppu.t, .int .i64 (l.writeR a v).ppu.ctrl, .int .i64 (l.writeR a v).ppu.scroll, .int .i64 (l.writeR a v).ppu.addr, .int .i64 (l.writeR a v).ppu.pal, .bool (l.writeR a v).ppu.blank, .slice q'.ppu.table.A (l.writeR a v).ppu.table.length q'.ppu.table.c, .slice q'.ppu.dots.A (l.writeR a v).ppu.dots.length q'.ppu.dots.c, .int .i64 (l.writeR a v).apu.t, .int .i64 (l.writeR a v).apu.p, .int .i64 (l.writeR a v).apu.c, .int .i64 (l.writeR a v).apu.b, .int .i64 (l.writeR a v).apu.l, .bool (l.writeR a v).apu.k, .bool (l.writeR a v).apu.i, .bool (l.writeR a v).pad.h, .int .i64 (l.writeR a v).pad.s, .bool (l.writeR a v).nmi, .int .i64 (l.writeR a v).steps, .slice q'.obs.frames.s.A (l.writeR a v).obs.frames.length q'.obs.frames.s.c, .slice q'.obs.samples.A (l.writeR a v).obs.samples.length q'.obs.samples.c, .slice q'.obs.reads.A (l.writeR a v).obs.reads.length q'.obs.reads.c] 49, frA q'.img.banks (l.writeR a v).img.banks, intsA q'.pads (l.writeR a v).pads, intsA q'.mem.ram (l.writeR a v).mem.ram, intsA q'.ppu.table (l.writeR a v).ppu.table, intsA q'.ppu.dots (l.writeR a v).ppu.dots, frA q'.obs.frames (l.writeR a v).obs.frames, intsA q'.obs.samples (l.writeR a v).obs.samples, intsA q'.obs.reads (l.writeR a v).obs.reads] := by
  have H := hH.st
  have hmem := (LockD.ok_at hok).1
  have hppu := (LockD.ok_at hok).2.2.2.1
  have htb := (PpuD.ok_at hppu).1
  obtain ⟨t0_, t1_⟩ := htb
  clear hok
  generalize hF : List.flatMap Ast.fp _ = F at H ⊢
  clear hF hH
  obtain ⟨hb1, hb8⟩ := (ImageD.ok_at (MemD.ok_at hmem).1).2
  have HM := Lib.hid (MemD.ok_at hmem).2.1
  rcases reg_cases a with ⟨e1, a0, a1⟩ | ⟨e1, a0, a1⟩ | ⟨e1, a0, a1⟩ | ⟨e1, a0⟩ | ⟨e1, a0, a1⟩ | ⟨e1, a0, a1⟩ | ⟨e1, a0⟩
  · obtain ⟨k, e2⟩ : ∃ k : Int, regA a = k := ⟨_, rfl⟩
    have hz : l.writeR a v = (LockD.mk l.img l.pads (l.mem.poke l.img a v) l.cpu (l.ppu) (l.apu) (l.pad) l.nmi l.steps l.obs) := by simp [LockD.writeR, e1, e2]
    rw [hz]
    have E1 := Lib.hid e1
    have E2 := Lib.hid e2
    clear e1 e2 hz a0 a1
    go_enter Tryz.func66, Tryz.ntmps66
    go_upto_region 11 with (first | (go_at_call 126; (with_reducible refine (impl_Region _ _).mono ?_); rintro e w1 ⟨rfl, rfl⟩; rw [E1.out, E2.out]) | ((with_reducible refine g_load rfl ?_); first | refine eL1 H ?_ | refine eLa H ?_) | ((with_reducible refine g_store rfl ?_); refine eSa H ?_; clear H; intro W_ H))
    (with_reducible refine g_draw ?_)
    try simp only [Act.put, List.setIfInBounds_toArray, List.set_cons_succ, List.set_cons_zero]
    refine F_begin (ls := #[false, false, false, false, false, false, false, false, false, false]) (by kernel_rfl) rfl (by kernel_rfl) ?_
    have H_ := H.drew
    (clear H; have H := H_; clear H_)
    refine T_go [(0, 0, 58), (0, 1, 59), (0, 2, 60), (0, 3, 61), (0, 4, 62), (0, 5, 63), (1, 6, 64), (0, 7, 65), (0, 8, 66)] ?_; (repeat (first | refine T_pA ?_ | refine T_rA ?_)); refine T_end ?_
    refine F_eA (ls' := #[true, true, true, true, true, true, true, true, true, true]) (pend' := []) 9 ?_; intro K_ hK_; (conv => (arg 4; arg 1; whnf)); (repeat (first | refine hK_ _ _ rfl ?_ ?_ | (go_big_may; (go_at_call 139; (with_reducible refine (impl_poke_L l.mem q.mem _ _ _ _ _ _ _ _ _ _ _ _ _ _ _ _ _ _ _ _ _ _ _ _ _ _ _ _ _ _ _ _ l.img q.img a v g _ (St.holL (H.picks (xs := [Ast.blk g _ _, intsA q.mem.ram l.mem.ram]) pksA)) hb1 hb8 HM.out).mono ?_); rintro e w1 ⟨rfl, kk⟩; replace H := St.uN (H.picks (xs := [Ast.blk g _ _, intsA q.mem.ram l.mem.ram]) pksA) kk; clear kk)) | go_step | go_guarded | go_upon | dsimp only)); exact kept_nil
    refine F_done (by kernel_rfl) ?_
    go_wp2_with (first | ((with_reducible refine g_load rfl ?_); first | refine eL1 H ?_ | refine eLa H ?_) | ((with_reducible refine g_store rfl ?_); refine eSa H ?_; clear H; intro W_ H))
    have H_ := H.take (xs := [Ast.blk g _ _, frA q.img.banks (LockD.mk l.img l.pads (l.mem.poke l.img a v) l.cpu (l.ppu) (l.apu) (l.pad) l.nmi l.steps l.obs).img.banks, intsA q.pads (LockD.mk l.img l.pads (l.mem.poke l.img a v) l.cpu (l.ppu) (l.apu) (l.pad) l.nmi l.steps l.obs).pads, intsA q.mem.ram (LockD.mk l.img l.pads (l.mem.poke l.img a v) l.cpu (l.ppu) (l.apu) (l.pad) l.nmi l.steps l.obs).mem.ram, intsA q.ppu.table (LockD.mk l.img l.pads (l.mem.poke l.img a v) l.cpu (l.ppu) (l.apu) (l.pad) l.nmi l.steps l.obs).ppu.table, intsA q.ppu.dots (LockD.mk l.img l.pads (l.mem.poke l.img a v) l.cpu (l.ppu) (l.apu) (l.pad) l.nmi l.steps l.obs).ppu.dots, frA q.obs.frames (LockD.mk l.img l.pads (l.mem.poke l.img a v) l.cpu (l.ppu) (l.apu) (l.pad) l.nmi l.steps l.obs).obs.frames, intsA q.obs.samples (LockD.mk l.img l.pads (l.mem.poke l.img a v) l.cpu (l.ppu) (l.apu) (l.pad) l.nmi l.steps l.obs).obs.samples, intsA q.obs.reads (LockD.mk l.img l.pads (l.mem.poke l.img a v) l.cpu (l.ppu) (l.apu) (l.pad) l.nmi l.steps l.obs).obs.reads]) pksA
    go_end0
    exact ⟨rfl, q, H_⟩
  · obtain ⟨k, e2⟩ : ∃ k : Int, regA a = k := ⟨_, rfl⟩
    have hz : l.writeR a v = (LockD.mk l.img l.pads l.mem l.cpu (l.ppu.wr k v) (l.apu) (l.pad) l.nmi l.steps l.obs) := by simp [LockD.writeR, e1, e2]
    rw [hz]
    have E1 := Lib.hid e1
    have E2 := Lib.hid e2
    clear e1 e2 hz a0 a1
    go_enter Tryz.func66, Tryz.ntmps66
    go_wp2_with (first | (go_at_call 126; (with_reducible refine (impl_Region _ _).mono ?_); rintro e w1 ⟨rfl, rfl⟩; rw [E1.out, E2.out]) | (go_at_call 136; (with_reducible refine (impl_write_L l.ppu q.ppu _ _ _ _ _ _ _ _ _ _ _ _ _ _ _ _ _ _ _ _ _ _ _ _ _ _ _ _ g _ (St.holL (H.picks (xs := [Ast.blk g _ _, intsA q.ppu.table l.ppu.table]) pksA)) hppu).mono ?_); rintro e w1 ⟨rfl, kk⟩; replace H := St.uN (H.picks (xs := [Ast.blk g _ _, intsA q.ppu.table l.ppu.table]) pksA) kk; clear kk) | ((with_reducible refine g_load rfl ?_); first | refine eL1 H ?_ | refine eLa H ?_) | ((with_reducible refine g_store rfl ?_); refine eSa H ?_; clear H; intro W_ H))
    have hd : intsA q.ppu.dots l.ppu.dots = intsA q.ppu.dots (l.ppu.wr k v).dots := by rw [wr_dots]
    rw [hd] at H
    have H_ := H.take (xs := [Ast.blk g _ _, frA q.img.banks (LockD.mk l.img l.pads l.mem l.cpu (l.ppu.wr k v) (l.apu) (l.pad) l.nmi l.steps l.obs).img.banks, intsA q.pads (LockD.mk l.img l.pads l.mem l.cpu (l.ppu.wr k v) (l.apu) (l.pad) l.nmi l.steps l.obs).pads, intsA q.mem.ram (LockD.mk l.img l.pads l.mem l.cpu (l.ppu.wr k v) (l.apu) (l.pad) l.nmi l.steps l.obs).mem.ram, intsA q.ppu.table (LockD.mk l.img l.pads l.mem l.cpu (l.ppu.wr k v) (l.apu) (l.pad) l.nmi l.steps l.obs).ppu.table, intsA q.ppu.dots (LockD.mk l.img l.pads l.mem l.cpu (l.ppu.wr k v) (l.apu) (l.pad) l.nmi l.steps l.obs).ppu.dots, frA q.obs.frames (LockD.mk l.img l.pads l.mem l.cpu (l.ppu.wr k v) (l.apu) (l.pad) l.nmi l.steps l.obs).obs.frames, intsA q.obs.samples (LockD.mk l.img l.pads l.mem l.cpu (l.ppu.wr k v) (l.apu) (l.pad) l.nmi l.steps l.obs).obs.samples, intsA q.obs.reads (LockD.mk l.img l.pads l.mem l.cpu (l.ppu.wr k v) (l.apu) (l.pad) l.nmi l.steps l.obs).obs.reads]) pksA
    go_end0
    exact ⟨rfl, q, H_⟩
  · obtain ⟨k, e2⟩ : ∃ k : Int, regA a = k := ⟨_, rfl⟩
    have hz : l.writeR a v = (LockD.mk l.img l.pads l.mem l.cpu (l.ppu) (l.apu.write k v) (l.pad) l.nmi l.steps l.obs) := by simp [LockD.writeR, e1, e2]
    rw [hz]
    have E1 := Lib.hid e1
    have E2 := Lib.hid e2
    clear e1 e2 hz a0 a1
    go_enter Tryz.func66, Tryz.ntmps66
    go_wp2_with (first | (go_at_call 126; (with_reducible refine (impl_Region _ _).mono ?_); rintro e w1 ⟨rfl, rfl⟩; rw [E1.out, E2.out]) | (go_at_call 137; (with_reducible refine (impl_ApuWrite l.apu _ _ _).mono ?_); rintro e w1 ⟨rfl, hb⟩; (replace H := H.callB hb; clear hb)) | ((with_reducible refine g_load rfl ?_); first | refine eL1 H ?_ | refine eLa H ?_) | ((with_reducible refine g_store rfl ?_); refine eSa H ?_; clear H; intro W_ H))
    have H_ := H.take (xs := [Ast.blk g _ _, frA q.img.banks (LockD.mk l.img l.pads l.mem l.cpu (l.ppu) (l.apu.write k v) (l.pad) l.nmi l.steps l.obs).img.banks, intsA q.pads (LockD.mk l.img l.pads l.mem l.cpu (l.ppu) (l.apu.write k v) (l.pad) l.nmi l.steps l.obs).pads, intsA q.mem.ram (LockD.mk l.img l.pads l.mem l.cpu (l.ppu) (l.apu.write k v) (l.pad) l.nmi l.steps l.obs).mem.ram, intsA q.ppu.table (LockD.mk l.img l.pads l.mem l.cpu (l.ppu) (l.apu.write k v) (l.pad) l.nmi l.steps l.obs).ppu.table, intsA q.ppu.dots (LockD.mk l.img l.pads l.mem l.cpu (l.ppu) (l.apu.write k v) (l.pad) l.nmi l.steps l.obs).ppu.dots, frA q.obs.frames (LockD.mk l.img l.pads l.mem l.cpu (l.ppu) (l.apu.write k v) (l.pad) l.nmi l.steps l.obs).obs.frames, intsA q.obs.samples (LockD.mk l.img l.pads l.mem l.cpu (l.ppu) (l.apu.write k v) (l.pad) l.nmi l.steps l.obs).obs.samples, intsA q.obs.reads (LockD.mk l.img l.pads l.mem l.cpu (l.ppu) (l.apu.write k v) (l.pad) l.nmi l.steps l.obs).obs.reads]) pksA
    go_end0
    exact ⟨rfl, q, H_⟩
  · obtain ⟨k, e2⟩ : ∃ k : Int, regA a = k := ⟨_, rfl⟩
    have hz : l.writeR a v = (LockD.mk l.img l.pads l.mem l.cpu (l.ppu) (l.apu) (l.pad.write l.pads l.ppu.t v) l.nmi l.steps l.obs) := by simp [LockD.writeR, e1, e2]
    rw [hz]
    have E1 := Lib.hid e1
    have E2 := Lib.hid e2
    clear e1 e2 hz a0 
    go_enter Tryz.func66, Tryz.ntmps66
    go_upto_region 7 with (first | (go_at_call 126; (with_reducible refine (impl_Region _ _).mono ?_); rintro e w1 ⟨rfl, rfl⟩; rw [E1.out, E2.out]) | ((with_reducible refine g_load rfl ?_); first | refine eL1 H ?_ | refine eLa H ?_) | ((with_reducible refine g_store rfl ?_); refine eSa H ?_; clear H; intro W_ H))
    (with_reducible refine g_draw ?_)
    try simp only [Act.put, List.setIfInBounds_toArray, List.set_cons_succ, List.set_cons_zero]
    refine F_begin (ls := #[false, false, false, false, false, false, false, false, false, false, false, false, false, false, false, false, false, false, false]) (by kernel_rfl) rfl (by kernel_rfl) ?_
    have H_ := H.drew
    (clear H; have H := H_; clear H_)
    refine T_go [(0, 0, 36), (0, 1, 37), (0, 2, 38), (0, 3, 39), (1, 4, 40), (0, 5, 41), (0, 6, 42), (0, 7, 43), (1, 8, 44), (0, 9, 45), (0, 10, 46), (0, 11, 47), (0, 12, 48), (1, 13, 49), (0, 14, 50)] ?_; (repeat (first | refine T_pA ?_ | refine T_rA ?_)); refine T_end ?_
    refine F_eA (ls' := #[true, true, true, true, true, true, true, true, true, true, true, true, true, true, true, true, false, false, false]) (pend' := []) 15 ?_; intro K_ hK_; (conv => (arg 4; arg 1; whnf)); (repeat (first | refine hK_ _ _ rfl ?_ ?_ | (go_big_may; (go_at_call 138; (with_reducible refine (impl_PadWrite l.pad _ _ l.pads l.ppu.t _ _ (InI.of (H.get (x := intsA q.pads l.pads) pkA)) (by omega)).mono ?_); rintro e w1 ⟨rfl, hb⟩; (replace H := H.callB hb; clear hb))) | go_step | go_guarded | go_upon | dsimp only)); exact kept_nil
    refine T_go [(0, 16, 52), (0, 17, 53)] ?_; (repeat (refine T_pA ?_)); refine T_end ?_
    refine F_eA (ls' := #[true, true, true, true, true, true, true, true, true, true, true, true, true, true, true, true, true, true, true]) (pend' := []) 18 ?_; intro K_ hK_; (conv => (arg 4; arg 1; whnf)); (repeat (first | refine hK_ _ _ rfl ?_ ?_ | (go_big_may; (first | ((with_reducible refine g_load rfl ?_); first | refine eL1 H ?_ | refine eLa H ?_) | ((with_reducible refine g_store rfl ?_); refine eSa H ?_; clear H; intro W_ H))) | go_step | go_guarded | go_upon | dsimp only)); exact kept_nil
    refine F_done (by kernel_rfl) ?_
    go_wp2_with (first | ((with_reducible refine g_load rfl ?_); first | refine eL1 H ?_ | refine eLa H ?_) | ((with_reducible refine g_store rfl ?_); refine eSa H ?_; clear H; intro W_ H))
    have H_ := H.take (xs := [Ast.blk g _ _, frA q.img.banks (LockD.mk l.img l.pads l.mem l.cpu (l.ppu) (l.apu) (l.pad.write l.pads l.ppu.t v) l.nmi l.steps l.obs).img.banks, intsA q.pads (LockD.mk l.img l.pads l.mem l.cpu (l.ppu) (l.apu) (l.pad.write l.pads l.ppu.t v) l.nmi l.steps l.obs).pads, intsA q.mem.ram (LockD.mk l.img l.pads l.mem l.cpu (l.ppu) (l.apu) (l.pad.write l.pads l.ppu.t v) l.nmi l.steps l.obs).mem.ram, intsA q.ppu.table (LockD.mk l.img l.pads l.mem l.cpu (l.ppu) (l.apu) (l.pad.write l.pads l.ppu.t v) l.nmi l.steps l.obs).ppu.table, intsA q.ppu.dots (LockD.mk l.img l.pads l.mem l.cpu (l.ppu) (l.apu) (l.pad.write l.pads l.ppu.t v) l.nmi l.steps l.obs).ppu.dots, frA q.obs.frames (LockD.mk l.img l.pads l.mem l.cpu (l.ppu) (l.apu) (l.pad.write l.pads l.ppu.t v) l.nmi l.steps l.obs).obs.frames, intsA q.obs.samples (LockD.mk l.img l.pads l.mem l.cpu (l.ppu) (l.apu) (l.pad.write l.pads l.ppu.t v) l.nmi l.steps l.obs).obs.samples, intsA q.obs.reads (LockD.mk l.img l.pads l.mem l.cpu (l.ppu) (l.apu) (l.pad.write l.pads l.ppu.t v) l.nmi l.steps l.obs).obs.reads]) pksA
    go_end0
    exact ⟨rfl, q, H_⟩
  · obtain ⟨k, e2⟩ : ∃ k : Int, regA a = k := ⟨_, rfl⟩
    have hz : l.writeR a v = (LockD.mk l.img l.pads (l.mem.poke l.img a v) l.cpu (l.ppu) (l.apu) (l.pad) l.nmi l.steps l.obs) := by simp [LockD.writeR, e1, e2]
    rw [hz]
    have E1 := Lib.hid e1
    have E2 := Lib.hid e2
    clear e1 e2 hz a0 a1
    go_enter Tryz.func66, Tryz.ntmps66
    go_upto_region 11 with (first | (go_at_call 126; (with_reducible refine (impl_Region _ _).mono ?_); rintro e w1 ⟨rfl, rfl⟩; rw [E1.out, E2.out]) | ((with_reducible refine g_load rfl ?_); first | refine eL1 H ?_ | refine eLa H ?_) | ((with_reducible refine g_store rfl ?_); refine eSa H ?_; clear H; intro W_ H))
    (with_reducible refine g_draw ?_)
    try simp only [Act.put, List.setIfInBounds_toArray, List.set_cons_succ, List.set_cons_zero]
    refine F_begin (ls := #[false, false, false, false, false, false, false, false, false, false]) (by kernel_rfl) rfl (by kernel_rfl) ?_
    have H_ := H.drew
    (clear H; have H := H_; clear H_)
    refine T_go [(0, 0, 58), (0, 1, 59), (0, 2, 60), (0, 3, 61), (0, 4, 62), (0, 5, 63), (1, 6, 64), (0, 7, 65), (0, 8, 66)] ?_; (repeat (first | refine T_pA ?_ | refine T_rA ?_)); refine T_end ?_
    refine F_eA (ls' := #[true, true, true, true, true, true, true, true, true, true]) (pend' := []) 9 ?_; intro K_ hK_; (conv => (arg 4; arg 1; whnf)); (repeat (first | refine hK_ _ _ rfl ?_ ?_ | (go_big_may; (go_at_call 139; (with_reducible refine (impl_poke_L l.mem q.mem _ _ _ _ _ _ _ _ _ _ _ _ _ _ _ _ _ _ _ _ _ _ _ _ _ _ _ _ _ _ _ _ l.img q.img a v g _ (St.holL (H.picks (xs := [Ast.blk g _ _, intsA q.mem.ram l.mem.ram]) pksA)) hb1 hb8 HM.out).mono ?_); rintro e w1 ⟨rfl, kk⟩; replace H := St.uN (H.picks (xs := [Ast.blk g _ _, intsA q.mem.ram l.mem.ram]) pksA) kk; clear kk)) | go_step | go_guarded | go_upon | dsimp only)); exact kept_nil
    refine F_done (by kernel_rfl) ?_
    go_wp2_with (first | ((with_reducible refine g_load rfl ?_); first | refine eL1 H ?_ | refine eLa H ?_) | ((with_reducible refine g_store rfl ?_); refine eSa H ?_; clear H; intro W_ H))
    have H_ := H.take (xs := [Ast.blk g _ _, frA q.img.banks (LockD.mk l.img l.pads (l.mem.poke l.img a v) l.cpu (l.ppu) (l.apu) (l.pad) l.nmi l.steps l.obs).img.banks, intsA q.pads (LockD.mk l.img l.pads (l.mem.poke l.img a v) l.cpu (l.ppu) (l.apu) (l.pad) l.nmi l.steps l.obs).pads, intsA q.mem.ram (LockD.mk l.img l.pads (l.mem.poke l.img a v) l.cpu (l.ppu) (l.apu) (l.pad) l.nmi l.steps l.obs).mem.ram, intsA q.ppu.table (LockD.mk l.img l.pads (l.mem.poke l.img a v) l.cpu (l.ppu) (l.apu) (l.pad) l.nmi l.steps l.obs).ppu.table, intsA q.ppu.dots (LockD.mk l.img l.pads (l.mem.poke l.img a v) l.cpu (l.ppu) (l.apu) (l.pad) l.nmi l.steps l.obs).ppu.dots, frA q.obs.frames (LockD.mk l.img l.pads (l.mem.poke l.img a v) l.cpu (l.ppu) (l.apu) (l.pad) l.nmi l.steps l.obs).obs.frames, intsA q.obs.samples (LockD.mk l.img l.pads (l.mem.poke l.img a v) l.cpu (l.ppu) (l.apu) (l.pad) l.nmi l.steps l.obs).obs.samples, intsA q.obs.reads (LockD.mk l.img l.pads (l.mem.poke l.img a v) l.cpu (l.ppu) (l.apu) (l.pad) l.nmi l.steps l.obs).obs.reads]) pksA
    go_end0
    exact ⟨rfl, q, H_⟩
  · obtain ⟨k, e2⟩ : ∃ k : Int, regA a = k := ⟨_, rfl⟩
    have hz : l.writeR a v = (LockD.mk l.img l.pads (l.mem.poke l.img a v) l.cpu (l.ppu) (l.apu) (l.pad) l.nmi l.steps l.obs) := by simp [LockD.writeR, e1, e2]
    rw [hz]
    have E1 := Lib.hid e1
    have E2 := Lib.hid e2
    clear e1 e2 hz a0 a1
    go_enter Tryz.func66, Tryz.ntmps66
    go_upto_region 11 with (first | (go_at_call 126; (with_reducible refine (impl_Region _ _).mono ?_); rintro e w1 ⟨rfl, rfl⟩; rw [E1.out, E2.out]) | ((with_reducible refine g_load rfl ?_); first | refine eL1 H ?_ | refine eLa H ?_) | ((with_reducible refine g_store rfl ?_); refine eSa H ?_; clear H; intro W_ H))
    (with_reducible refine g_draw ?_)
    try simp only [Act.put, List.setIfInBounds_toArray, List.set_cons_succ, List.set_cons_zero]
    refine F_begin (ls := #[false, false, false, false, false, false, false, false, false, false]) (by kernel_rfl) rfl (by kernel_rfl) ?_
    have H_ := H.drew
    (clear H; have H := H_; clear H_)
    refine T_go [(0, 0, 58), (0, 1, 59), (0, 2, 60), (0, 3, 61), (0, 4, 62), (0, 5, 63), (1, 6, 64), (0, 7, 65), (0, 8, 66)] ?_; (repeat (first | refine T_pA ?_ | refine T_rA ?_)); refine T_end ?_
    refine F_eA (ls' := #[true, true, true, true, true, true, true, true, true, true]) (pend' := []) 9 ?_; intro K_ hK_; (conv => (arg 4; arg 1; whnf)); (repeat (first | refine hK_ _ _ rfl ?_ ?_ | (go_big_may; (go_at_call 139; (with_reducible refine (impl_poke_L l.mem q.mem _ _ _ _ _ _ _ _ _ _ _ _ _ _ _ _ _ _ _ _ _ _ _ _ _ _ _ _ _ _ _ _ l.img q.img a v g _ (St.holL (H.picks (xs := [Ast.blk g _ _, intsA q.mem.ram l.mem.ram]) pksA)) hb1 hb8 HM.out).mono ?_); rintro e w1 ⟨rfl, kk⟩; replace H := St.uN (H.picks (xs := [Ast.blk g _ _, intsA q.mem.ram l.mem.ram]) pksA) kk; clear kk)) | go_step | go_guarded | go_upon | dsimp only)); exact kept_nil
    refine F_done (by kernel_rfl) ?_
    go_wp2_with (first | ((with_reducible refine g_load rfl ?_); first | refine eL1 H ?_ | refine eLa H ?_) | ((with_reducible refine g_store rfl ?_); refine eSa H ?_; clear H; intro W_ H))
    have H_ := H.take (xs := [Ast.blk g _ _, frA q.img.banks (LockD.mk l.img l.pads (l.mem.poke l.img a v) l.cpu (l.ppu) (l.apu) (l.pad) l.nmi l.steps l.obs).img.banks, intsA q.pads (LockD.mk l.img l.pads (l.mem.poke l.img a v) l.cpu (l.ppu) (l.apu) (l.pad) l.nmi l.steps l.obs).pads, intsA q.mem.ram (LockD.mk l.img l.pads (l.mem.poke l.img a v) l.cpu (l.ppu) (l.apu) (l.pad) l.nmi l.steps l.obs).mem.ram, intsA q.ppu.table (LockD.mk l.img l.pads (l.mem.poke l.img a v) l.cpu (l.ppu) (l.apu) (l.pad) l.nmi l.steps l.obs).ppu.table, intsA q.ppu.dots (LockD.mk l.img l.pads (l.mem.poke l.img a v) l.cpu (l.ppu) (l.apu) (l.pad) l.nmi l.steps l.obs).ppu.dots, frA q.obs.frames (LockD.mk l.img l.pads (l.mem.poke l.img a v) l.cpu (l.ppu) (l.apu) (l.pad) l.nmi l.steps l.obs).obs.frames, intsA q.obs.samples (LockD.mk l.img l.pads (l.mem.poke l.img a v) l.cpu (l.ppu) (l.apu) (l.pad) l.nmi l.steps l.obs).obs.samples, intsA q.obs.reads (LockD.mk l.img l.pads (l.mem.poke l.img a v) l.cpu (l.ppu) (l.apu) (l.pad) l.nmi l.steps l.obs).obs.reads]) pksA
    go_end0
    exact ⟨rfl, q, H_⟩
  · obtain ⟨k, e2⟩ : ∃ k : Int, regA a = k := ⟨_, rfl⟩
    have hz : l.writeR a v = l := by simp [LockD.writeR, e1, poke_no (x := l.mem) (m := l.img) (a := a) (v := v) (by omega) (by omega) (by omega)]
    rw [hz]
    have E1 := Lib.hid e1
    have E2 := Lib.hid e2
    clear e1 e2 hz a0 
    go_enter Tryz.func66, Tryz.ntmps66
    go_wp2_with (first | (go_at_call 126; (with_reducible refine (impl_Region _ _).mono ?_); rintro e w1 ⟨rfl, rfl⟩; rw [E1.out, E2.out]) | ((with_reducible refine g_load rfl ?_); first | refine eL1 H ?_ | refine eLa H ?_) | ((with_reducible refine g_store rfl ?_); refine eSa H ?_; clear H; intro W_ H))
    have H_ := H.take (xs := [Ast.blk g _ _, frA q.img.banks l.img.banks, intsA q.pads l.pads, intsA q.mem.ram l.mem.ram, intsA q.ppu.table l.ppu.table, intsA q.ppu.dots l.ppu.dots, frA q.obs.frames l.obs.frames, intsA q.obs.samples l.obs.samples, intsA q.obs.reads l.obs.reads]) pksA
    go_end0
    exact ⟨rfl, q, H_⟩
set_option maxHeartbeats 16000000 in
theorem spec_l12Write (l : LockD) (q : LockP) (a v : Int) (w : World) (hH : Hol w [frA q.img.banks l.img.banks, intsA q.pads l.pads, intsA q.mem.ram l.mem.ram, ppuA l.ppu q.ppu, frA q.obs.frames l.obs.frames, intsA q.obs.samples l.obs.samples, intsA q.obs.reads l.obs.reads]) (hok : l.ok = true) (hsp : PpuSmall l.ppu) (hsm : l.mem.ram.length ≤ 1048576) : Calls Tryz.prog 65 #[.agg #[.slice q.img.banks.s.A l.img.banks.length q.img.banks.s.c, .slice q.pads.A l.pads.length q.pads.c, .slice q.mem.ram.A l.mem.ram.length q.mem.ram.c, .int .i64 l.mem.bank, .int .i64 l.cpu.a, .int .i64 l.cpu.x, .int .i64 l.cpu.s, .int .i64 l.cpu.pc, .bool l.cpu.z, .bool l.cpu.n, .bool l.cpu.c, .bool l.cpu.i, .int .i64 l.ppu.t, .int .i64 l.ppu.ctrl, .int .i64 l.ppu.scroll, .int .i64 l.ppu.addr, .int .i64 l.ppu.pal, .bool l.ppu.blank, .slice q.ppu.table.A l.ppu.table.length q.ppu.table.c, .slice q.ppu.dots.A l.ppu.dots.length q.ppu.dots.c, .int .i64 l.apu.t, .int .i64 l.apu.p, .int .i64 l.apu.c, .int .i64 l.apu.b, .int .i64 l.apu.l, .bool l.apu.k, .bool l.apu.i, .bool l.pad.h, .int .i64 l.pad.s, .bool l.nmi, .int .i64 l.steps, .slice q.obs.frames.s.A l.obs.frames.length q.obs.frames.s.c, .slice q.obs.samples.A l.obs.samples.length q.obs.samples.c, .slice q.obs.reads.A l.obs.reads.length q.obs.reads.c], .int .i64 a, .int .i64 v] w fun e w' => ∃ q' : LockP, e = .returned (.agg #[.slice q'.img.banks.s.A (l.writeR a v).img.banks.length q'.img.banks.s.c, .slice q'.pads.A (l.writeR a v).pads.length q'.pads.c, .slice q'.mem.ram.A (l.writeR a v).mem.ram.length q'.mem.ram.c, .int .i64 (l.writeR a v).mem.bank, .int .i64 (l.writeR a v).cpu.a, .int .i64 (l.writeR a v).cpu.x, .int .i64 (l.writeR a v).cpu.s, .int .i64 (l.writeR a v).cpu.pc, .bool (l.writeR a v).cpu.z, .bool (l.writeR a v).cpu.n, .bool (l.writeR a v).cpu.c, .bool (l.writeR a v).cpu.i, .int .i64 (l.writeR a v).ppu.t, .int .i64 (l.writeR a v).ppu.ctrl, .int .i64 (l.writeR a v).ppu.scroll, .int .i64 (l.writeR a v).ppu.addr, .int .i64 (l.writeR a v).ppu.pal, .bool (l.writeR a v).ppu.blank, .slice q'.ppu.table.A (l.writeR a v).ppu.table.length q'.ppu.table.c, .slice q'.ppu.dots.A (l.writeR a v).ppu.dots.length q'.ppu.dots.c, .int .i64 (l.writeR a v).apu.t, .int .i64 (l.writeR a v).apu.p, .int .i64 (l.writeR a v).apu.c, .int .i64 (l.writeR a v).apu.b, .int .i64 (l.writeR a v).apu.l, .bool (l.writeR a v).apu.k, .bool (l.writeR a v).apu.i, .bool (l.writeR a v).pad.h, .int .i64 (l.writeR a v).pad.s, .bool (l.writeR a v).nmi, .int .i64 (l.writeR a v).steps, .slice q'.obs.frames.s.A (l.writeR a v).obs.frames.length q'.obs.frames.s.c, .slice q'.obs.samples.A (l.writeR a v).obs.samples.length q'.obs.samples.c, .slice q'.obs.reads.A (l.writeR a v).obs.reads.length q'.obs.reads.c]) ∧ St w ([frA q.img.banks l.img.banks, intsA q.pads l.pads, intsA q.mem.ram l.mem.ram, ppuA l.ppu q.ppu, frA q.obs.frames l.obs.frames, intsA q.obs.samples l.obs.samples, intsA q.obs.reads l.obs.reads].flatMap Ast.fp) w' [frA q'.img.banks (l.writeR a v).img.banks, intsA q'.pads (l.writeR a v).pads, intsA q'.mem.ram (l.writeR a v).mem.ram, ppuA (l.writeR a v).ppu q'.ppu, frA q'.obs.frames (l.writeR a v).obs.frames, intsA q'.obs.samples (l.writeR a v).obs.samples, intsA q'.obs.reads (l.writeR a v).obs.reads] := by
  have H := hH.st
  have hmem := (LockD.ok_at hok).1
  have hppu := (LockD.ok_at hok).2.2.2.1
  have htb := (PpuD.ok_at hppu).1
  obtain ⟨t0_, t1_⟩ := htb
  clear hok
  generalize hF : List.flatMap Ast.fp _ = F at H ⊢
  clear hF hH
  obtain ⟨hb1, hb8⟩ := (ImageD.ok_at (MemD.ok_at hmem).1).2
  have HM := Lib.hid (MemD.ok_at hmem).2.1
  rcases reg_cases a with ⟨e1, a0, a1⟩ | ⟨e1, a0, a1⟩ | ⟨e1, a0, a1⟩ | ⟨e1, a0⟩ | ⟨e1, a0, a1⟩ | ⟨e1, a0, a1⟩ | ⟨e1, a0⟩
  · obtain ⟨k, e2⟩ : ∃ k : Int, regA a = k := ⟨_, rfl⟩
    have hz : l.writeR a v = (LockD.mk l.img l.pads (l.mem.poke l.img a v) l.cpu (l.ppu) (l.apu) (l.pad) l.nmi l.steps l.obs) := by simp [LockD.writeR, e1, e2]
    rw [hz]
    have E1 := Lib.hid e1
    have E2 := Lib.hid e2
    clear e1 e2 hz a0 a1
    go_enter Tryz.func65, Tryz.ntmps65
    go_wp2_with (first | (go_at_call 109; (with_reducible refine (spec_Region _ _).mono ?_); rintro e w1 ⟨rfl, rfl⟩; rw [E1.out, E2.out]) | (go_at_call 135; (with_reducible refine (spec_Poke l.img q.img l.mem q.mem a v _ ⟨InRR.ofFr (H.get (x := frA q.img.banks l.img.banks) pkA)⟩ ⟨InI.of (H.get (x := intsA q.mem.ram l.mem.ram) pkA)⟩ hsm hmem).mono ?_); rintro e w1 ⟨qm_, rfl, kk⟩; replace H := H.cN kk; clear kk) | ((with_reducible refine g_box rfl ?_); refine eBa H ?_; clear H; intro g_ W_ H) | ((with_reducible refine g_alloc rfl ?_); refine eNw H ?_; clear H; intro g_ W_ H) | ((with_reducible refine g_load rfl ?_); first | refine eL1 H ?_ | refine eLa H ?_) | ((with_reducible refine g_store rfl ?_); refine eSa H ?_; clear H; intro W_ H))
    have H_ := H.take (xs := [frA (LockP.mk q.img q.pads qm_ q.ppu q.obs).img.banks (LockD.mk l.img l.pads (l.mem.poke l.img a v) l.cpu (l.ppu) (l.apu) (l.pad) l.nmi l.steps l.obs).img.banks, intsA (LockP.mk q.img q.pads qm_ q.ppu q.obs).pads (LockD.mk l.img l.pads (l.mem.poke l.img a v) l.cpu (l.ppu) (l.apu) (l.pad) l.nmi l.steps l.obs).pads, intsA (LockP.mk q.img q.pads qm_ q.ppu q.obs).mem.ram (LockD.mk l.img l.pads (l.mem.poke l.img a v) l.cpu (l.ppu) (l.apu) (l.pad) l.nmi l.steps l.obs).mem.ram, ppuA (LockD.mk l.img l.pads (l.mem.poke l.img a v) l.cpu (l.ppu) (l.apu) (l.pad) l.nmi l.steps l.obs).ppu (LockP.mk q.img q.pads qm_ q.ppu q.obs).ppu, frA (LockP.mk q.img q.pads qm_ q.ppu q.obs).obs.frames (LockD.mk l.img l.pads (l.mem.poke l.img a v) l.cpu (l.ppu) (l.apu) (l.pad) l.nmi l.steps l.obs).obs.frames, intsA (LockP.mk q.img q.pads qm_ q.ppu q.obs).obs.samples (LockD.mk l.img l.pads (l.mem.poke l.img a v) l.cpu (l.ppu) (l.apu) (l.pad) l.nmi l.steps l.obs).obs.samples, intsA (LockP.mk q.img q.pads qm_ q.ppu q.obs).obs.reads (LockD.mk l.img l.pads (l.mem.poke l.img a v) l.cpu (l.ppu) (l.apu) (l.pad) l.nmi l.steps l.obs).obs.reads]) pksA
    refine' back1 Tryz.results65 ?_ rfl ⟨(LockP.mk q.img q.pads qm_ q.ppu q.obs), ?_, H_⟩; rotate_left 1; exact rvA
    rfl
  · obtain ⟨k, e2⟩ : ∃ k : Int, regA a = k := ⟨_, rfl⟩
    have hz : l.writeR a v = (LockD.mk l.img l.pads l.mem l.cpu (l.ppu.wr k v) (l.apu) (l.pad) l.nmi l.steps l.obs) := by simp [LockD.writeR, e1, e2]
    rw [hz]
    have E1 := Lib.hid e1
    have E2 := Lib.hid e2
    clear e1 e2 hz a0 a1
    go_enter Tryz.func65, Tryz.ntmps65
    go_wp2_with (first | (go_at_call 109; (with_reducible refine (spec_Region _ _).mono ?_); rintro e w1 ⟨rfl, rfl⟩; rw [E1.out, E2.out]) | (go_at_call 132; (with_reducible refine (spec_PpuWriteK l.ppu q.ppu _ _ _ (PpuIn.of (H.get (x := ppuA l.ppu q.ppu) pkA)) hsp hppu).mono ?_); rintro e w1 ⟨qp_, rfl, kk⟩; replace H := H.cN kk; clear kk) | ((with_reducible refine g_box rfl ?_); refine eBa H ?_; clear H; intro g_ W_ H) | ((with_reducible refine g_alloc rfl ?_); refine eNw H ?_; clear H; intro g_ W_ H) | ((with_reducible refine g_load rfl ?_); first | refine eL1 H ?_ | refine eLa H ?_) | ((with_reducible refine g_store rfl ?_); refine eSa H ?_; clear H; intro W_ H))
    have H_ := H.take (xs := [frA (LockP.mk q.img q.pads q.mem qp_ q.obs).img.banks (LockD.mk l.img l.pads l.mem l.cpu (l.ppu.wr k v) (l.apu) (l.pad) l.nmi l.steps l.obs).img.banks, intsA (LockP.mk q.img q.pads q.mem qp_ q.obs).pads (LockD.mk l.img l.pads l.mem l.cpu (l.ppu.wr k v) (l.apu) (l.pad) l.nmi l.steps l.obs).pads, intsA (LockP.mk q.img q.pads q.mem qp_ q.obs).mem.ram (LockD.mk l.img l.pads l.mem l.cpu (l.ppu.wr k v) (l.apu) (l.pad) l.nmi l.steps l.obs).mem.ram, ppuA (LockD.mk l.img l.pads l.mem l.cpu (l.ppu.wr k v) (l.apu) (l.pad) l.nmi l.steps l.obs).ppu (LockP.mk q.img q.pads q.mem qp_ q.obs).ppu, frA (LockP.mk q.img q.pads q.mem qp_ q.obs).obs.frames (LockD.mk l.img l.pads l.mem l.cpu (l.ppu.wr k v) (l.apu) (l.pad) l.nmi l.steps l.obs).obs.frames, intsA (LockP.mk q.img q.pads q.mem qp_ q.obs).obs.samples (LockD.mk l.img l.pads l.mem l.cpu (l.ppu.wr k v) (l.apu) (l.pad) l.nmi l.steps l.obs).obs.samples, intsA (LockP.mk q.img q.pads q.mem qp_ q.obs).obs.reads (LockD.mk l.img l.pads l.mem l.cpu (l.ppu.wr k v) (l.apu) (l.pad) l.nmi l.steps l.obs).obs.reads]) pksA
    refine' back1 Tryz.results65 ?_ rfl ⟨(LockP.mk q.img q.pads q.mem qp_ q.obs), ?_, H_⟩; rotate_left 1; exact rvA
    rfl
  · obtain ⟨k, e2⟩ : ∃ k : Int, regA a = k := ⟨_, rfl⟩
    have hz : l.writeR a v = (LockD.mk l.img l.pads l.mem l.cpu (l.ppu) (l.apu.write k v) (l.pad) l.nmi l.steps l.obs) := by simp [LockD.writeR, e1, e2]
    rw [hz]
    have E1 := Lib.hid e1
    have E2 := Lib.hid e2
    clear e1 e2 hz a0 a1
    go_enter Tryz.func65, Tryz.ntmps65
    go_wp2_with (first | (go_at_call 109; (with_reducible refine (spec_Region _ _).mono ?_); rintro e w1 ⟨rfl, rfl⟩; rw [E1.out, E2.out]) | (go_at_call 133; (with_reducible refine (spec_ApuWrite l.apu _ _ _).mono ?_); rintro e w1 ⟨rfl, hb⟩; (replace H := H.callB hb; clear hb)) | ((with_reducible refine g_box rfl ?_); refine eBa H ?_; clear H; intro g_ W_ H) | ((with_reducible refine g_alloc rfl ?_); refine eNw H ?_; clear H; intro g_ W_ H) | ((with_reducible refine g_load rfl ?_); first | refine eL1 H ?_ | refine eLa H ?_) | ((with_reducible refine g_store rfl ?_); refine eSa H ?_; clear H; intro W_ H))
    have H_ := H.take (xs := [frA q.img.banks (LockD.mk l.img l.pads l.mem l.cpu (l.ppu) (l.apu.write k v) (l.pad) l.nmi l.steps l.obs).img.banks, intsA q.pads (LockD.mk l.img l.pads l.mem l.cpu (l.ppu) (l.apu.write k v) (l.pad) l.nmi l.steps l.obs).pads, intsA q.mem.ram (LockD.mk l.img l.pads l.mem l.cpu (l.ppu) (l.apu.write k v) (l.pad) l.nmi l.steps l.obs).mem.ram, ppuA (LockD.mk l.img l.pads l.mem l.cpu (l.ppu) (l.apu.write k v) (l.pad) l.nmi l.steps l.obs).ppu q.ppu, frA q.obs.frames (LockD.mk l.img l.pads l.mem l.cpu (l.ppu) (l.apu.write k v) (l.pad) l.nmi l.steps l.obs).obs.frames, intsA q.obs.samples (LockD.mk l.img l.pads l.mem l.cpu (l.ppu) (l.apu.write k v) (l.pad) l.nmi l.steps l.obs).obs.samples, intsA q.obs.reads (LockD.mk l.img l.pads l.mem l.cpu (l.ppu) (l.apu.write k v) (l.pad) l.nmi l.steps l.obs).obs.reads]) pksA
    refine' back1 Tryz.results65 ?_ rfl ⟨q, ?_, H_⟩; rotate_left 1; exact rvA
    rfl
  · obtain ⟨k, e2⟩ : ∃ k : Int, regA a = k := ⟨_, rfl⟩
    have hz : l.writeR a v = (LockD.mk l.img l.pads l.mem l.cpu (l.ppu) (l.apu) (l.pad.write l.pads l.ppu.t v) l.nmi l.steps l.obs) := by simp [LockD.writeR, e1, e2]
    rw [hz]
    have E1 := Lib.hid e1
    have E2 := Lib.hid e2
    clear e1 e2 hz a0 
    go_enter Tryz.func65, Tryz.ntmps65
    go_wp2_with (first | (go_at_call 109; (with_reducible refine (spec_Region _ _).mono ?_); rintro e w1 ⟨rfl, rfl⟩; rw [E1.out, E2.out]) | (go_at_call 134; (with_reducible refine (spec_PadWrite l.pad _ _ l.pads l.ppu.t _ _ (InI.of (H.get (x := intsA q.pads l.pads) pkA)) (by omega)).mono ?_); rintro e w1 ⟨rfl, hb⟩; (replace H := H.callB hb; clear hb)) | ((with_reducible refine g_box rfl ?_); refine eBa H ?_; clear H; intro g_ W_ H) | ((with_reducible refine g_alloc rfl ?_); refine eNw H ?_; clear H; intro g_ W_ H) | ((with_reducible refine g_load rfl ?_); first | refine eL1 H ?_ | refine eLa H ?_) | ((with_reducible refine g_store rfl ?_); refine eSa H ?_; clear H; intro W_ H))
    have H_ := H.take (xs := [frA q.img.banks (LockD.mk l.img l.pads l.mem l.cpu (l.ppu) (l.apu) (l.pad.write l.pads l.ppu.t v) l.nmi l.steps l.obs).img.banks, intsA q.pads (LockD.mk l.img l.pads l.mem l.cpu (l.ppu) (l.apu) (l.pad.write l.pads l.ppu.t v) l.nmi l.steps l.obs).pads, intsA q.mem.ram (LockD.mk l.img l.pads l.mem l.cpu (l.ppu) (l.apu) (l.pad.write l.pads l.ppu.t v) l.nmi l.steps l.obs).mem.ram, ppuA (LockD.mk l.img l.pads l.mem l.cpu (l.ppu) (l.apu) (l.pad.write l.pads l.ppu.t v) l.nmi l.steps l.obs).ppu q.ppu, frA q.obs.frames (LockD.mk l.img l.pads l.mem l.cpu (l.ppu) (l.apu) (l.pad.write l.pads l.ppu.t v) l.nmi l.steps l.obs).obs.frames, intsA q.obs.samples (LockD.mk l.img l.pads l.mem l.cpu (l.ppu) (l.apu) (l.pad.write l.pads l.ppu.t v) l.nmi l.steps l.obs).obs.samples, intsA q.obs.reads (LockD.mk l.img l.pads l.mem l.cpu (l.ppu) (l.apu) (l.pad.write l.pads l.ppu.t v) l.nmi l.steps l.obs).obs.reads]) pksA
    refine' back1 Tryz.results65 ?_ rfl ⟨q, ?_, H_⟩; rotate_left 1; exact rvA
    rfl
  · obtain ⟨k, e2⟩ : ∃ k : Int, regA a = k := ⟨_, rfl⟩
    have hz : l.writeR a v = (LockD.mk l.img l.pads (l.mem.poke l.img a v) l.cpu (l.ppu) (l.apu) (l.pad) l.nmi l.steps l.obs) := by simp [LockD.writeR, e1, e2]
    rw [hz]
    have E1 := Lib.hid e1
    have E2 := Lib.hid e2
    clear e1 e2 hz a0 a1
    go_enter Tryz.func65, Tryz.ntmps65
    go_wp2_with (first | (go_at_call 109; (with_reducible refine (spec_Region _ _).mono ?_); rintro e w1 ⟨rfl, rfl⟩; rw [E1.out, E2.out]) | (go_at_call 135; (with_reducible refine (spec_Poke l.img q.img l.mem q.mem a v _ ⟨InRR.ofFr (H.get (x := frA q.img.banks l.img.banks) pkA)⟩ ⟨InI.of (H.get (x := intsA q.mem.ram l.mem.ram) pkA)⟩ hsm hmem).mono ?_); rintro e w1 ⟨qm_, rfl, kk⟩; replace H := H.cN kk; clear kk) | ((with_reducible refine g_box rfl ?_); refine eBa H ?_; clear H; intro g_ W_ H) | ((with_reducible refine g_alloc rfl ?_); refine eNw H ?_; clear H; intro g_ W_ H) | ((with_reducible refine g_load rfl ?_); first | refine eL1 H ?_ | refine eLa H ?_) | ((with_reducible refine g_store rfl ?_); refine eSa H ?_; clear H; intro W_ H))
    have H_ := H.take (xs := [frA (LockP.mk q.img q.pads qm_ q.ppu q.obs).img.banks (LockD.mk l.img l.pads (l.mem.poke l.img a v) l.cpu (l.ppu) (l.apu) (l.pad) l.nmi l.steps l.obs).img.banks, intsA (LockP.mk q.img q.pads qm_ q.ppu q.obs).pads (LockD.mk l.img l.pads (l.mem.poke l.img a v) l.cpu (l.ppu) (l.apu) (l.pad) l.nmi l.steps l.obs).pads, intsA (LockP.mk q.img q.pads qm_ q.ppu q.obs).mem.ram (LockD.mk l.img l.pads (l.mem.poke l.img a v) l.cpu (l.ppu) (l.apu) (l.pad) l.nmi l.steps l.obs).mem.ram, ppuA (LockD.mk l.img l.pads (l.mem.poke l.img a v) l.cpu (l.ppu) (l.apu) (l.pad) l.nmi l.steps l.obs).ppu (LockP.mk q.img q.pads qm_ q.ppu q.obs).ppu, frA (LockP.mk q.img q.pads qm_ q.ppu q.obs).obs.frames (LockD.mk l.img l.pads (l.mem.poke l.img a v) l.cpu (l.ppu) (l.apu) (l.pad) l.nmi l.steps l.obs).obs.frames, intsA (LockP.mk q.img q.pads qm_ q.ppu q.obs).obs.samples (LockD.mk l.img l.pads (l.mem.poke l.img a v) l.cpu (l.ppu) (l.apu) (l.pad) l.nmi l.steps l.obs).obs.samples, intsA (LockP.mk q.img q.pads qm_ q.ppu q.obs).obs.reads (LockD.mk l.img l.pads (l.mem.poke l.img a v) l.cpu (l.ppu) (l.apu) (l.pad) l.nmi l.steps l.obs).obs.reads]) pksA
    refine' back1 Tryz.results65 ?_ rfl ⟨(LockP.mk q.img q.pads qm_ q.ppu q.obs), ?_, H_⟩; rotate_left 1; exact rvA
    rfl
  · obtain ⟨k, e2⟩ : ∃ k : Int, regA a = k := ⟨_, rfl⟩
    have hz : l.writeR a v = (LockD.mk l.img l.pads (l.mem.poke l.img a v) l.cpu (l.ppu) (l.apu) (l.pad) l.nmi l.steps l.obs) := by simp [LockD.writeR, e1, e2]
    rw [hz]
    have E1 := Lib.hid e1
    have E2 := Lib.hid e2
    clear e1 e2 hz a0 a1
    go_enter Tryz.func65, Tryz.ntmps65
    go_wp2_with (first | (go_at_call 109; (with_reducible refine (spec_Region _ _).mono ?_); rintro e w1 ⟨rfl, rfl⟩; rw [E1.out, E2.out]) | (go_at_call 135; (with_reducible refine (spec_Poke l.img q.img l.mem q.mem a v _ ⟨InRR.ofFr (H.get (x := frA q.img.banks l.img.banks) pkA)⟩ ⟨InI.of (H.get (x := intsA q.mem.ram l.mem.ram) pkA)⟩ hsm hmem).mono ?_); rintro e w1 ⟨qm_, rfl, kk⟩; replace H := H.cN kk; clear kk) | ((with_reducible refine g_box rfl ?_); refine eBa H ?_; clear H; intro g_ W_ H) | ((with_reducible refine g_alloc rfl ?_); refine eNw H ?_; clear H; intro g_ W_ H) | ((with_reducible refine g_load rfl ?_); first | refine eL1 H ?_ | refine eLa H ?_) | ((with_reducible refine g_store rfl ?_); refine eSa H ?_; clear H; intro W_ H))
    have H_ := H.take (xs := [frA (LockP.mk q.img q.pads qm_ q.ppu q.obs).img.banks (LockD.mk l.img l.pads (l.mem.poke l.img a v) l.cpu (l.ppu) (l.apu) (l.pad) l.nmi l.steps l.obs).img.banks, intsA (LockP.mk q.img q.pads qm_ q.ppu q.obs).pads (LockD.mk l.img l.pads (l.mem.poke l.img a v) l.cpu (l.ppu) (l.apu) (l.pad) l.nmi l.steps l.obs).pads, intsA (LockP.mk q.img q.pads qm_ q.ppu q.obs).mem.ram (LockD.mk l.img l.pads (l.mem.poke l.img a v) l.cpu (l.ppu) (l.apu) (l.pad) l.nmi l.steps l.obs).mem.ram, ppuA (LockD.mk l.img l.pads (l.mem.poke l.img a v) l.cpu (l.ppu) (l.apu) (l.pad) l.nmi l.steps l.obs).ppu (LockP.mk q.img q.pads qm_ q.ppu q.obs).ppu, frA (LockP.mk q.img q.pads qm_ q.ppu q.obs).obs.frames (LockD.mk l.img l.pads (l.mem.poke l.img a v) l.cpu (l.ppu) (l.apu) (l.pad) l.nmi l.steps l.obs).obs.frames, intsA (LockP.mk q.img q.pads qm_ q.ppu q.obs).obs.samples (LockD.mk l.img l.pads (l.mem.poke l.img a v) l.cpu (l.ppu) (l.apu) (l.pad) l.nmi l.steps l.obs).obs.samples, intsA (LockP.mk q.img q.pads qm_ q.ppu q.obs).obs.reads (LockD.mk l.img l.pads (l.mem.poke l.img a v) l.cpu (l.ppu) (l.apu) (l.pad) l.nmi l.steps l.obs).obs.reads]) pksA
    refine' back1 Tryz.results65 ?_ rfl ⟨(LockP.mk q.img q.pads qm_ q.ppu q.obs), ?_, H_⟩; rotate_left 1; exact rvA
    rfl
  · obtain ⟨k, e2⟩ : ∃ k : Int, regA a = k := ⟨_, rfl⟩
    have hz : l.writeR a v = (LockD.mk l.img l.pads (l.mem.poke l.img a v) l.cpu (l.ppu) (l.apu) (l.pad) l.nmi l.steps l.obs) := by simp [LockD.writeR, e1, e2]
    rw [hz]
    have E1 := Lib.hid e1
    have E2 := Lib.hid e2
    clear e1 e2 hz a0 
    go_enter Tryz.func65, Tryz.ntmps65
    go_wp2_with (first | (go_at_call 109; (with_reducible refine (spec_Region _ _).mono ?_); rintro e w1 ⟨rfl, rfl⟩; rw [E1.out, E2.out]) | (go_at_call 135; (with_reducible refine (spec_Poke l.img q.img l.mem q.mem a v _ ⟨InRR.ofFr (H.get (x := frA q.img.banks l.img.banks) pkA)⟩ ⟨InI.of (H.get (x := intsA q.mem.ram l.mem.ram) pkA)⟩ hsm hmem).mono ?_); rintro e w1 ⟨qm_, rfl, kk⟩; replace H := H.cN kk; clear kk) | ((with_reducible refine g_box rfl ?_); refine eBa H ?_; clear H; intro g_ W_ H) | ((with_reducible refine g_alloc rfl ?_); refine eNw H ?_; clear H; intro g_ W_ H) | ((with_reducible refine g_load rfl ?_); first | refine eL1 H ?_ | refine eLa H ?_) | ((with_reducible refine g_store rfl ?_); refine eSa H ?_; clear H; intro W_ H))
    have H_ := H.take (xs := [frA (LockP.mk q.img q.pads qm_ q.ppu q.obs).img.banks (LockD.mk l.img l.pads (l.mem.poke l.img a v) l.cpu (l.ppu) (l.apu) (l.pad) l.nmi l.steps l.obs).img.banks, intsA (LockP.mk q.img q.pads qm_ q.ppu q.obs).pads (LockD.mk l.img l.pads (l.mem.poke l.img a v) l.cpu (l.ppu) (l.apu) (l.pad) l.nmi l.steps l.obs).pads, intsA (LockP.mk q.img q.pads qm_ q.ppu q.obs).mem.ram (LockD.mk l.img l.pads (l.mem.poke l.img a v) l.cpu (l.ppu) (l.apu) (l.pad) l.nmi l.steps l.obs).mem.ram, ppuA (LockD.mk l.img l.pads (l.mem.poke l.img a v) l.cpu (l.ppu) (l.apu) (l.pad) l.nmi l.steps l.obs).ppu (LockP.mk q.img q.pads qm_ q.ppu q.obs).ppu, frA (LockP.mk q.img q.pads qm_ q.ppu q.obs).obs.frames (LockD.mk l.img l.pads (l.mem.poke l.img a v) l.cpu (l.ppu) (l.apu) (l.pad) l.nmi l.steps l.obs).obs.frames, intsA (LockP.mk q.img q.pads qm_ q.ppu q.obs).obs.samples (LockD.mk l.img l.pads (l.mem.poke l.img a v) l.cpu (l.ppu) (l.apu) (l.pad) l.nmi l.steps l.obs).obs.samples, intsA (LockP.mk q.img q.pads qm_ q.ppu q.obs).obs.reads (LockD.mk l.img l.pads (l.mem.poke l.img a v) l.cpu (l.ppu) (l.apu) (l.pad) l.nmi l.steps l.obs).obs.reads]) pksA
    refine' back1 Tryz.results65 ?_ rfl ⟨(LockP.mk q.img q.pads qm_ q.ppu q.obs), ?_, H_⟩; rotate_left 1; exact rvA
    rfl
end Go.Proofs.YtjgggmcnbdjdjaaGreat.C

