/- What the picture unit does in a variable of another struct: dot, next, write, read, tick. (written by qgen.py) -/
import Derived.Test.YtjgggmcnbdjdjaaGreatV
namespace Go.Proofs.YtjgggmcnbdjdjaaGreat.C
open Go.RowKit Go.Proofs.YtjgggmcnbdjdjaaGreat.K Go.Proofs.YtjgggmcnbdjdjaaGreat.B
attribute [local go_sem] max2_int min2_int max_two min_two i64_and255 i64_and65535 i64_and1
set_option maxRecDepth 20000
set_option linter.unusedVariables false
set_option linter.unusedSimpArgs false
set_option maxHeartbeats 4000000 in
theorem impl_dot_L (x : PpuD) (v0 : Value) (v1 : Value) (v2 : Value) (v3 : Value) (v4 : Value) (v5 : Value) (v6 : Value) (v7 : Value) (v8 : Value) (v9 : Value) (v10 : Value) (v11 : Value) (u0 : Value) (u1 : Value) (u2 : Value) (u3 : Value) (u4 : Value) (u5 : Value) (u6 : Value) (u7 : Value) (u8 : Value) (u9 : Value) (u10 : Value) (u11 : Value) (u12 : Value) (u13 : Value) (q : PpuP) (at_ : Int) (g : Nat) (w : World) (hb : (Ast.blk g [v0, v1, v2, v3, v4, v5, v6, v7, v8, v9, v10, v11, .int .i64 x.t, .int .i64 x.ctrl, .int .i64 x.scroll, .int .i64 x.addr, .int .i64 x.pal, .bool x.blank, .slice q.table.A x.table.length q.table.c, .slice q.dots.A x.dots.length q.dots.c, u0, u1, u2, u3, u4, u5, u6, u7, u8, u9, u10, u11, u12, u13] 49).p w) (ht : InI w q.table.A q.table.c x.table) (hl : x.table.length = 16) (h1 : 0 ≤ x.scroll) (h2 : x.scroll ≤ 255) (h3 : 0 ≤ at_) (h4 : at_ ≤ 47) :
    Calls Tryz.prog 232 #[.pointer (some ⟨g, 12, none⟩), .int .i64 at_] w fun e w' => e = .returned (.int .i64 (x.dot at_)) ∧ Below w.heap.size w w' := by
  have H := St.nil w []
  have e0 : 0 ≤ at_ % 8 + x.scroll + at_ / 8 := by omega
  have e1 : 0 ≤ (at_ % 8 + x.scroll + at_ / 8) % 16 := by omega
  have e2 : (at_ % 8 + x.scroll + at_ / 8) % 16 < 16 := by omega
  have e5 : (at_ % 8 + x.scroll + at_ / 8) % 16 < (x.table.length : Int) := by omega
  have hk : x.place at_ < x.table.length := by unfold PpuD.place; omega
  obtain ⟨⟨A1, c1⟩, ⟨A2, c2⟩⟩ := q
  simp only at ht hb
  have hle := ht.1
  obtain ⟨ad, hA, _⟩ := ht.cell H hk
  subst hA
  have hcell : ∀ {W : World} {l : List Ast}, St w [] W l → W.cell? (ad.add (x.place at_)) = some (.int .i64 (rd x.table (x.place at_))) := fun H' => by
    obtain ⟨ad', h1, h2⟩ := ht.cell H' hk
    injection h1 with h1; subst h1; exact h2
  have HL := Lib.hid hl
  clear hl hk
  unfold PpuD.dot
  unfold PpuD.place at hcell ⊢
  go_enter Tryz.func232, Tryz.ntmps232
  go_wp2_with (first | ((with_reducible refine g_load rfl ?_); refine eL1 H ?_) | ((with_reducible refine g_load rfl ?_); first | refine ev_load_in_one rfl rfl rfl (oneT rfl) (hcell H) ?_ | refine ev_load_blk1 (H.old0 hb) rfl rfl rfl (oneT rfl) rfl ?_))
  (with_reducible refine g_draw ?_)
  try simp only [Act.put, List.setIfInBounds_toArray, List.set_cons_succ, List.set_cons_zero]
  refine F_begin (ls := #[false, false, false, false, false, false, false, false, false, false, false, false, false, false, false, false, false, false, false, false, false, false, false]) (by kernel_rfl) rfl (by kernel_rfl) ?_
  have H_ := H.drew
  (clear H; have H := H_; clear H_)
  refine T_go [(0, 0, 5), (0, 1, 6), (0, 2, 7), (1, 3, 8), (0, 4, 9), (0, 5, 10), (0, 6, 11), (0, 7, 12), (0, 8, 13), (1, 9, 14), (0, 10, 15), (0, 11, 16), (0, 12, 17), (0, 13, 18), (0, 14, 19), (0, 15, 20), (1, 16, 21), (0, 17, 22), (0, 18, 23), (0, 19, 24), (1, 20, 25), (0, 21, 26), (0, 22, 4)] ?_; (repeat (first | refine T_pA ?_ | (refine' T_read _ rfl rfl (by kernel_rfl) (Nat.le_of_ble_eq_true (by kernel_rfl)) (fun K_ hK_ => ?_) ?_; rotate_left 1; focus ((conv => (arg 4; arg 1; whnf)); (repeat (first | exact hK_ rfl | (go_big_may; (first | ((with_reducible refine g_load rfl ?_); first | refine ev_load_in_one rfl rfl rfl (oneT rfl) (hcell H) ?_ | refine ev_load_blk1 (H.old0 hb) rfl rfl rfl (oneT rfl) rfl ?_) | ((with_reducible refine g_load rfl ?_); refine eL1 H ?_))) | go_step | go_guarded | go_upon | dsimp only)); done)))); refine T_end ?_
  refine F_done (by kernel_rfl) ?_
  go_wp2_with (first | ((with_reducible refine g_load rfl ?_); refine eL1 H ?_) | ((with_reducible refine g_load rfl ?_); first | refine ev_load_in_one rfl rfl rfl (oneT rfl) (hcell H) ?_ | refine ev_load_blk1 (H.old0 hb) rfl rfl rfl (oneT rfl) rfl ?_))
  go_ret
  exact ⟨rfl, H.below⟩
theorem impl_dott_L (x : PpuD) (v0 : Value) (v1 : Value) (v2 : Value) (v3 : Value) (v4 : Value) (v5 : Value) (v6 : Value) (v7 : Value) (v8 : Value) (v9 : Value) (v10 : Value) (v11 : Value) (u0 : Value) (u1 : Value) (u2 : Value) (u3 : Value) (u4 : Value) (u5 : Value) (u6 : Value) (u7 : Value) (u8 : Value) (u9 : Value) (u10 : Value) (u11 : Value) (u12 : Value) (u13 : Value) (tt : Int) (q : PpuP) (at_ : Int) (g : Nat) (w : World) (hb : (Ast.blk g [v0, v1, v2, v3, v4, v5, v6, v7, v8, v9, v10, v11, .int .i64 tt, .int .i64 x.ctrl, .int .i64 x.scroll, .int .i64 x.addr, .int .i64 x.pal, .bool x.blank, .slice q.table.A x.table.length q.table.c, .slice q.dots.A x.dots.length q.dots.c, u0, u1, u2, u3, u4, u5, u6, u7, u8, u9, u10, u11, u12, u13] 49).p w) (ht : InI w q.table.A q.table.c x.table) (hl : x.table.length = 16) (h1 : 0 ≤ x.scroll) (h2 : x.scroll ≤ 255) (h3 : 0 ≤ at_) (h4 : at_ ≤ 47) :
    Calls Tryz.prog 232 #[.pointer (some ⟨g, 12, none⟩), .int .i64 at_] w fun e w' => e = .returned (.int .i64 (x.dot at_)) ∧ Below w.heap.size w w' :=
  impl_dot_L { x with t := tt } v0 v1 v2 v3 v4 v5 v6 v7 v8 v9 v10 v11 u0 u1 u2 u3 u4 u5 u6 u7 u8 u9 u10 u11 u12 u13 q at_ g w hb ht hl h1 h2 h3 h4
set_option maxHeartbeats 2000000 in
theorem impl_next_L (x : PpuD) (q : PpuP) (v0 : Value) (v1 : Value) (v2 : Value) (v3 : Value) (v4 : Value) (v5 : Value) (v6 : Value) (v7 : Value) (v8 : Value) (v9 : Value) (v10 : Value) (v11 : Value) (u0 : Value) (u1 : Value) (u2 : Value) (u3 : Value) (u4 : Value) (u5 : Value) (u6 : Value) (u7 : Value) (u8 : Value) (u9 : Value) (u10 : Value) (u11 : Value) (u12 : Value) (u13 : Value) (g : Nat) (w : World) (hH : Hol w [Ast.blk g [v0, v1, v2, v3, v4, v5, v6, v7, v8, v9, v10, v11, .int .i64 x.t, .int .i64 x.ctrl, .int .i64 x.scroll, .int .i64 x.addr, .int .i64 x.pal, .bool x.blank, .slice q.table.A x.table.length q.table.c, .slice q.dots.A x.dots.length q.dots.c, u0, u1, u2, u3, u4, u5, u6, u7, u8, u9, u10, u11, u12, u13] 49]) (h1 : 0 ≤ x.addr) (h2 : x.addr ≤ 15) : Calls Tryz.prog 189 #[.pointer (some ⟨g, 12, none⟩)] w fun e w' => e = .returned (.tuple #[]) ∧ St w ([Ast.blk g [v0, v1, v2, v3, v4, v5, v6, v7, v8, v9, v10, v11, .int .i64 x.t, .int .i64 x.ctrl, .int .i64 x.scroll, .int .i64 x.addr, .int .i64 x.pal, .bool x.blank, .slice q.table.A x.table.length q.table.c, .slice q.dots.A x.dots.length q.dots.c, u0, u1, u2, u3, u4, u5, u6, u7, u8, u9, u10, u11, u12, u13] 49].flatMap Ast.fp) w' [Ast.blk g [v0, v1, v2, v3, v4, v5, v6, v7, v8, v9, v10, v11, .int .i64 x.t, .int .i64 x.ctrl, .int .i64 x.scroll, .int .i64 ((x.addr + 1) % 16), .int .i64 x.pal, .bool x.blank, .slice q.table.A x.table.length q.table.c, .slice q.dots.A x.dots.length q.dots.c, u0, u1, u2, u3, u4, u5, u6, u7, u8, u9, u10, u11, u12, u13] 49] := by
  have H := hH.st
  have e0 : 0 ≤ x.addr + 1 := by omega
  go_enter Tryz.func189, Tryz.ntmps189
  go_wp2_with (first | ((with_reducible refine g_load rfl ?_); refine eL1 H ?_) | ((with_reducible refine g_store rfl ?_); refine eSi H ?_; clear H; intro W_ H))
  go_end0
  exact ⟨rfl, H⟩
set_option maxHeartbeats 8000000 in
theorem impl_write_L (x : PpuD) (q : PpuP) (v0 : Value) (v1 : Value) (v2 : Value) (v3 : Value) (v4 : Value) (v5 : Value) (v6 : Value) (v7 : Value) (v8 : Value) (v9 : Value) (v10 : Value) (v11 : Value) (u0 : Value) (u1 : Value) (u2 : Value) (u3 : Value) (u4 : Value) (u5 : Value) (u6 : Value) (u7 : Value) (u8 : Value) (u9 : Value) (u10 : Value) (u11 : Value) (u12 : Value) (u13 : Value) (r v : Int) (g : Nat) (w : World) (hH : Hol w [Ast.blk g [v0, v1, v2, v3, v4, v5, v6, v7, v8, v9, v10, v11, .int .i64 x.t, .int .i64 x.ctrl, .int .i64 x.scroll, .int .i64 x.addr, .int .i64 x.pal, .bool x.blank, .slice q.table.A x.table.length q.table.c, .slice q.dots.A x.dots.length q.dots.c, u0, u1, u2, u3, u4, u5, u6, u7, u8, u9, u10, u11, u12, u13] 49, intsA q.table x.table]) (hok : x.ok = true) : Calls Tryz.prog 136 #[.pointer (some ⟨g, 12, none⟩), .int .i64 r, .int .i64 v] w fun e w' => e = .returned (.tuple #[]) ∧ St w ([Ast.blk g [v0, v1, v2, v3, v4, v5, v6, v7, v8, v9, v10, v11, .int .i64 x.t, .int .i64 x.ctrl, .int .i64 x.scroll, .int .i64 x.addr, .int .i64 x.pal, .bool x.blank, .slice q.table.A x.table.length q.table.c, .slice q.dots.A x.dots.length q.dots.c, u0, u1, u2, u3, u4, u5, u6, u7, u8, u9, u10, u11, u12, u13] 49, intsA q.table x.table].flatMap Ast.fp) w' [Ast.blk g [v0, v1, v2, v3, v4, v5, v6, v7, v8, v9, v10, v11, .int .i64 (x.wr r v).t, .int .i64 (x.wr r v).ctrl, .int .i64 (x.wr r v).scroll, .int .i64 (x.wr r v).addr, .int .i64 (x.wr r v).pal, .bool (x.wr r v).blank, .slice q.table.A (x.wr r v).table.length q.table.c, .slice q.dots.A (x.wr r v).dots.length q.dots.c, u0, u1, u2, u3, u4, u5, u6, u7, u8, u9, u10, u11, u12, u13] 49, intsA q.table (x.wr r v).table] := by
  have H := hH.st
  obtain ⟨_, _, _, ⟨b1, b2⟩, _, b3, _⟩ := PpuD.ok_at hok
  have HL := Lib.hid b3
  obtain ⟨g1, hA, hc⟩ := own_some (H.get (x := intsA q.table x.table) pkA) (by omega)
  obtain ⟨⟨A1, c1⟩, q2⟩ := q
  simp only at hA
  subst hA
  have hlen : 16 ≤ c1 := by simp only at hc; omega
  clear b3 hc hH
  have e1 : 0 ≤ v % 256 := by omega
  have e2 : x.addr < 16 := by omega
  generalize hF : List.flatMap Ast.fp _ = F at H ⊢
  clear hF
  by_cases r0 : r = 0
  · subst r0
    go_enter Tryz.func136, Tryz.ntmps136
    go_wp2_with (first | ((with_reducible refine g_load rfl ?_); refine eL1 H ?_) | ((with_reducible refine g_store rfl ?_); refine eSi H ?_; clear H; intro W_ H) | (go_at_call 192; (with_reducible refine (impl_Byte _ _).mono ?_); rintro e w1 ⟨rfl, rfl⟩))
    go_end0
    exact ⟨rfl, H⟩
  by_cases r1 : r = 1
  · subst r1
    go_enter Tryz.func136, Tryz.ntmps136
    go_wp2_with (first | ((with_reducible refine g_load rfl ?_); refine eL1 H ?_) | ((with_reducible refine g_store rfl ?_); refine eSi H ?_; clear H; intro W_ H) | (go_at_call 192; (with_reducible refine (impl_Byte _ _).mono ?_); rintro e w1 ⟨rfl, rfl⟩))
    go_end0
    exact ⟨rfl, H⟩
  by_cases r3 : r = 3
  · subst r3
    go_enter Tryz.func136, Tryz.ntmps136
    go_wp2_with (first | ((with_reducible refine g_load rfl ?_); refine eL1 H ?_) | ((with_reducible refine g_store rfl ?_); refine eSi H ?_; clear H; intro W_ H) | (go_at_call 192; (with_reducible refine (impl_Byte _ _).mono ?_); rintro e w1 ⟨rfl, rfl⟩))
    go_end0
    exact ⟨rfl, H⟩
  by_cases r5 : r = 5
  · subst r5
    go_enter Tryz.func136, Tryz.ntmps136
    go_wp2_with (first | ((with_reducible refine g_load rfl ?_); refine eL1 H ?_) | ((with_reducible refine g_store rfl ?_); refine eSi H ?_; clear H; intro W_ H) | (go_at_call 192; (with_reducible refine (impl_Byte _ _).mono ?_); rintro e w1 ⟨rfl, rfl⟩))
    go_end0
    exact ⟨rfl, H⟩
  by_cases r4 : r = 4
  · subst r4
    have hbt : x.addr.toNat < x.table.length := by have := HL.out; omega
    have hbl : x.addr < (x.table.length : Int) := by have := HL.out; omega
    go_enter Tryz.func136, Tryz.ntmps136
    have e3 : 0 ≤ v % 256 % 64 := by omega
    have hw : x.wr 4 v = x.poke (v % 256) := by simp [PpuD.wr]
    go_wp2_with (first | ((with_reducible refine g_load rfl ?_); refine eL1 H ?_) | ((with_reducible refine g_store rfl ?_); refine eSi H ?_; clear H; intro W_ H) | (go_at_call 192; (with_reducible refine (impl_Byte _ _).mono ?_); rintro e w1 ⟨rfl, rfl⟩))
    (with_reducible refine g_draw ?_)
    try simp only [Act.put, List.setIfInBounds_toArray, List.set_cons_succ, List.set_cons_zero]
    refine F_begin (ls := #[false, false, false, false, false, false, false, false, false, false, false, false]) (by kernel_rfl) rfl (by kernel_rfl) ?_
    have H_ := H.drew
    (clear H; have H := H_; clear H_)
    refine T_go [(0, 0, 30), (0, 1, 31), (0, 2, 32), (1, 3, 33), (0, 4, 34), (0, 5, 35), (0, 6, 36), (1, 7, 37), (0, 8, 38), (0, 9, 39), (0, 10, 40)] ?_; (repeat (first | refine T_pA ?_ | refine T_rA ?_)); refine T_end ?_
    refine F_eA (ls' := #[true, true, true, true, true, true, true, true, true, true, true, true]) (pend' := []) 11 ?_; intro K_ hK_; (conv => (arg 4; arg 1; whnf)); (repeat (first | refine hK_ _ _ rfl ?_ ?_ | (go_big_may; (first | ((with_reducible refine g_store rfl ?_); refine' ev_store_own (v := .int _ _) H rfl rfl rfl rfl rfl ?_ ?_ ?_ ?_ ?_ ?_ ?_; rotate_left 8; (focus exact pkA); (focus exact szT rfl); (focus rfl); (focus (rw [nums_length]; omega)); (focus rfl); (focus exact nums_set x.table x.addr.toNat _ (by omega)); intro W_ H_; rw [own_set] at H_; (clear H; have H := H_; clear H_)) | ((with_reducible refine g_store rfl ?_); refine eSi H ?_; clear H; intro W_ H))) | go_step | go_guarded | go_upon | dsimp only)); exact kept_nil
    refine F_done (by kernel_rfl) ?_
    go_wp2_with (first | (go_at_call 189; (with_reducible refine (impl_next_L x ⟨⟨some ⟨g1, 0, none⟩, c1⟩, q2⟩ _ _ _ _ _ _ _ _ _ _ _ _ _ _ _ _ _ _ _ _ _ _ _ _ _ _ g _ (St.holL (H.picks (xs := [_]) pksA)) b1 b2).mono ?_); rintro e w1 ⟨rfl, kk⟩; have H_ := St.upL (H.picks (xs := [_]) pksA) kk; simp only [List.cons_append, List.nil_append] at H_; (clear H; have H := H_; clear H_); clear kk) | ((with_reducible refine g_load rfl ?_); refine eL1 H ?_) | ((with_reducible refine g_store rfl ?_); refine eSi H ?_; clear H; intro W_ H))
    go_end0
    refine ⟨rfl, ?_⟩
    rw [hw]
    simp only [PpuD.poke, List.length_set]
    exact H.take pksA
  · have s0 : (r == 0) = false := by simp [r0]
    have s1 : (r == 1) = false := by simp [r1]
    have s3 : (r == 3) = false := by simp [r3]
    have s4 : (r == 4) = false := by simp [r4]
    have s5 : (r == 5) = false := by simp [r5]
    have hw : x.wr r v = x := by simp [PpuD.wr, r0, r1, r3, r4, r5]
    rw [hw]
    clear r0 r1 r3 r4 r5 hw
    go_enter Tryz.func136, Tryz.ntmps136
    go_wp2_with (first | ((with_reducible refine g_load rfl ?_); refine eL1 H ?_) | ((with_reducible refine g_store rfl ?_); refine eSi H ?_; clear H; intro W_ H) | (go_at_call 192; (with_reducible refine (impl_Byte _ _).mono ?_); rintro e w1 ⟨rfl, rfl⟩))
    go_end0
    exact ⟨rfl, H⟩
set_option maxHeartbeats 8000000 in
theorem impl_read_L (x : PpuD) (q : PpuP) (v0 : Value) (v1 : Value) (v2 : Value) (v3 : Value) (v4 : Value) (v5 : Value) (v6 : Value) (v7 : Value) (v8 : Value) (v9 : Value) (v10 : Value) (v11 : Value) (u0 : Value) (u1 : Value) (u2 : Value) (u3 : Value) (u4 : Value) (u5 : Value) (u6 : Value) (u7 : Value) (u8 : Value) (u9 : Value) (u10 : Value) (u11 : Value) (u12 : Value) (u13 : Value) (r : Int) (g : Nat) (w : World) (hH : Hol w [Ast.blk g [v0, v1, v2, v3, v4, v5, v6, v7, v8, v9, v10, v11, .int .i64 x.t, .int .i64 x.ctrl, .int .i64 x.scroll, .int .i64 x.addr, .int .i64 x.pal, .bool x.blank, .slice q.table.A x.table.length q.table.c, .slice q.dots.A x.dots.length q.dots.c, u0, u1, u2, u3, u4, u5, u6, u7, u8, u9, u10, u11, u12, u13] 49, intsA q.table x.table]) (hok : x.ok = true) : Calls Tryz.prog 127 #[.pointer (some ⟨g, 12, none⟩), .int .i64 r] w fun e w' => e = .returned (.int .i64 (x.rdv r)) ∧ St w ([Ast.blk g [v0, v1, v2, v3, v4, v5, v6, v7, v8, v9, v10, v11, .int .i64 x.t, .int .i64 x.ctrl, .int .i64 x.scroll, .int .i64 x.addr, .int .i64 x.pal, .bool x.blank, .slice q.table.A x.table.length q.table.c, .slice q.dots.A x.dots.length q.dots.c, u0, u1, u2, u3, u4, u5, u6, u7, u8, u9, u10, u11, u12, u13] 49, intsA q.table x.table].flatMap Ast.fp) w' [Ast.blk g [v0, v1, v2, v3, v4, v5, v6, v7, v8, v9, v10, v11, .int .i64 (x.rdx r).t, .int .i64 (x.rdx r).ctrl, .int .i64 (x.rdx r).scroll, .int .i64 (x.rdx r).addr, .int .i64 (x.rdx r).pal, .bool (x.rdx r).blank, .slice q.table.A (x.rdx r).table.length q.table.c, .slice q.dots.A (x.rdx r).dots.length q.dots.c, u0, u1, u2, u3, u4, u5, u6, u7, u8, u9, u10, u11, u12, u13] 49, intsA q.table x.table] := by
  have H := hH.st
  obtain ⟨_, _, _, ⟨b1, b2⟩, _, b3, _⟩ := PpuD.ok_at hok
  have HL := Lib.hid b3
  obtain ⟨g1, hA, hc⟩ := own_some (H.get (x := intsA q.table x.table) pkA) (by omega)
  obtain ⟨⟨A1, c1⟩, q2⟩ := q
  simp only at hA
  subst hA
  have hlen : 16 ≤ c1 := by simp only at hc; omega
  clear b3 hc hH
  have e2 : x.addr < 16 := by omega
  generalize hF : List.flatMap Ast.fp _ = F at H ⊢
  clear hF
  by_cases r2 : r = 2
  · subst r2
    cases hb : x.blank
    all_goals
      have hv : x.rdv 2 = 128 * (if x.blank = true then 1 else 0) := rfl
      simp only [hb, if_true, Bool.false_eq_true, if_false] at hv
      rw [hv]
      go_enter Tryz.func127, Tryz.ntmps127
      go_wp2_with (first | ((with_reducible refine g_load rfl ?_); refine eL1 H ?_) | ((with_reducible refine g_store rfl ?_); refine eSb H ?_; clear H; intro W_ H) | (go_at_call 188; (with_reducible refine (impl_flag _ _).mono ?_); rintro e w1 ⟨rfl, rfl⟩))
      go_ret
      exact ⟨rfl, H⟩
  by_cases r4 : r = 4
  · subst r4
    have hbt : x.addr.toNat < x.table.length := by have := HL.out; omega
    have hbl : x.addr < (x.table.length : Int) := by have := HL.out; omega
    have hv : x.rdv 4 = rd x.table x.addr.toNat := rfl
    rw [hv]
    go_enter Tryz.func127, Tryz.ntmps127
    go_wp2_with (first | ((with_reducible refine g_load rfl ?_); refine eL1 H ?_) | ((with_reducible refine g_store rfl ?_); refine eSb H ?_; clear H; intro W_ H) | ((with_reducible refine g_load rfl ?_); refine ev_load_in_one rfl rfl rfl (oneT rfl) (own_cell_int (H.get (x := intsA ⟨some ⟨g1, 0, none⟩, c1⟩ x.table) pkA) hbt) ?_) | (go_at_call 189; (with_reducible refine (impl_next_L x ⟨⟨some ⟨g1, 0, none⟩, c1⟩, q2⟩ _ _ _ _ _ _ _ _ _ _ _ _ _ _ _ _ _ _ _ _ _ _ _ _ _ _ g _ (St.holL (H.picks (xs := [_]) pksA)) b1 b2).mono ?_); rintro e w1 ⟨rfl, kk⟩; have H_ := St.upL (H.picks (xs := [_]) pksA) kk; simp only [List.cons_append, List.nil_append] at H_; (clear H; have H := H_; clear H_); clear kk))
    (with_reducible refine g_draw ?_)
    try simp only [Act.put, List.setIfInBounds_toArray, List.set_cons_succ, List.set_cons_zero]
    refine F_begin (ls := #[false, false, false, false, false, false, false, false, false, false, false]) (by kernel_rfl) rfl (by kernel_rfl) ?_
    have H_ := H.drew
    (clear H; have H := H_; clear H_)
    refine T_go [(0, 0, 22), (0, 1, 23), (0, 2, 24), (1, 3, 25), (0, 4, 26), (0, 5, 27), (0, 6, 28), (1, 7, 29), (0, 8, 30), (1, 9, 31), (0, 10, 6)] ?_; (repeat (first | refine T_pA ?_ | (refine' T_read _ rfl rfl (by kernel_rfl) (Nat.le_of_ble_eq_true (by kernel_rfl)) (fun K_ hK_ => ?_) ?_; rotate_left 1; focus ((conv => (arg 4; arg 1; whnf)); (repeat (first | exact hK_ rfl | (go_big_may; (first | ((with_reducible refine g_load rfl ?_); refine ev_load_in_one rfl rfl rfl (oneT rfl) (own_cell_int (H.get (x := intsA ⟨some ⟨g1, 0, none⟩, c1⟩ x.table) pkA) hbt) ?_) | ((with_reducible refine g_load rfl ?_); refine eL1 H ?_))) | go_step | go_guarded | go_upon | dsimp only)); done)))); refine T_end ?_
    refine F_done (by kernel_rfl) ?_
    go_wp2_with (first | ((with_reducible refine g_load rfl ?_); refine eL1 H ?_) | ((with_reducible refine g_store rfl ?_); refine eSb H ?_; clear H; intro W_ H) | ((with_reducible refine g_load rfl ?_); refine ev_load_in_one rfl rfl rfl (oneT rfl) (own_cell_int (H.get (x := intsA ⟨some ⟨g1, 0, none⟩, c1⟩ x.table) pkA) hbt) ?_) | (go_at_call 189; (with_reducible refine (impl_next_L x ⟨⟨some ⟨g1, 0, none⟩, c1⟩, q2⟩ _ _ _ _ _ _ _ _ _ _ _ _ _ _ _ _ _ _ _ _ _ _ _ _ _ _ g _ (St.holL (H.picks (xs := [_]) pksA)) b1 b2).mono ?_); rintro e w1 ⟨rfl, kk⟩; have H_ := St.upL (H.picks (xs := [_]) pksA) kk; simp only [List.cons_append, List.nil_append] at H_; (clear H; have H := H_; clear H_); clear kk))
    go_ret
    exact ⟨rfl, H⟩
  · have s2 : (r == 2) = false := by simp [r2]
    have s4 : (r == 4) = false := by simp [r4]
    have hw : x.rdx r = x := by simp [PpuD.rdx, r2, r4]
    have hv : x.rdv r = 0 := by simp [PpuD.rdv, r2, r4]
    rw [hw, hv]
    clear r2 r4 hw hv
    go_enter Tryz.func127, Tryz.ntmps127
    go_wp2_with (first | ((with_reducible refine g_load rfl ?_); refine eL1 H ?_) | ((with_reducible refine g_store rfl ?_); refine eSb H ?_; clear H; intro W_ H))
    go_ret
    exact ⟨rfl, H⟩
set_option maxHeartbeats 8000000 in
theorem impl_tick_L (x : PpuD) (q : PpuP) (v0 : Value) (v1 : Value) (v2 : Value) (v3 : Value) (v4 : Value) (v5 : Value) (v6 : Value) (v7 : Value) (v8 : Value) (v9 : Value) (v10 : Value) (v11 : Value) (u0 : Value) (u1 : Value) (u2 : Value) (u3 : Value) (u4 : Value) (u5 : Value) (u6 : Value) (u7 : Value) (u8 : Value) (u9 : Value) (u10 : Value) (u11 : Value) (u12 : Value) (u13 : Value) (g : Nat) (w : World) (hH : Hol w [Ast.blk g [v0, v1, v2, v3, v4, v5, v6, v7, v8, v9, v10, v11, .int .i64 x.t, .int .i64 x.ctrl, .int .i64 x.scroll, .int .i64 x.addr, .int .i64 x.pal, .bool x.blank, .slice q.table.A x.table.length q.table.c, .slice q.dots.A x.dots.length q.dots.c, u0, u1, u2, u3, u4, u5, u6, u7, u8, u9, u10, u11, u12, u13] 49, intsA q.table x.table, intsA q.dots x.dots]) (hok : x.ok = true) : Calls Tryz.prog 201 #[.pointer (some ⟨g, 12, none⟩)] w fun e w' => ∃ qd qf : Sl, e = .returned (.tuple #[.bool x.told, .slice qf.A x.frame.length qf.c, .bool x.asks]) ∧ St w ([Ast.blk g [v0, v1, v2, v3, v4, v5, v6, v7, v8, v9, v10, v11, .int .i64 x.t, .int .i64 x.ctrl, .int .i64 x.scroll, .int .i64 x.addr, .int .i64 x.pal, .bool x.blank, .slice q.table.A x.table.length q.table.c, .slice q.dots.A x.dots.length q.dots.c, u0, u1, u2, u3, u4, u5, u6, u7, u8, u9, u10, u11, u12, u13] 49, intsA q.table x.table, intsA q.dots x.dots].flatMap Ast.fp) w' [Ast.blk g [v0, v1, v2, v3, v4, v5, v6, v7, v8, v9, v10, v11, .int .i64 x.tk.t, .int .i64 x.tk.ctrl, .int .i64 x.tk.scroll, .int .i64 x.tk.addr, .int .i64 x.tk.pal, .bool x.tk.blank, .slice (PpuP.mk q.table qd).table.A x.tk.table.length (PpuP.mk q.table qd).table.c, .slice (PpuP.mk q.table qd).dots.A x.tk.dots.length (PpuP.mk q.table qd).dots.c, u0, u1, u2, u3, u4, u5, u6, u7, u8, u9, u10, u11, u12, u13] 49, intsA q.table x.table, intsA qd x.tk.dots, intsA qf x.frame] := by
  have H := hH.st
  obtain ⟨⟨t0, t1⟩, ⟨c0, c1⟩, ⟨s0, s1⟩, _, _, b3, _, b4, _⟩ := PpuD.ok_at hok
  have HL := Lib.hid b3
  have HD := Lib.hid b4
  clear b3 b4 hH
  generalize hF : List.flatMap Ast.fp _ = F at H ⊢
  clear hF
  have u0 : 0 ≤ x.t % 64 := by omega
  have u1 : x.t % 64 < 64 := by omega
  rcases (by omega : x.t % 64 < 48 ∨ x.t % 64 = 48 ∨ x.t % 64 = 63 ∨ (48 < x.t % 64 ∧ x.t % 64 < 63)) with hs | hs | hs | ⟨hs, hs'⟩
  · have z1 : (x.t % 64 == 48) = false := by rw [beq_eq_false_iff_ne]; omega
    have hk : x.tk = { x with t := x.t + 1, dots := x.dots ++ [x.dot (x.t % 64)] } := by simp [PpuD.tk, hs]
    have hf : x.frame = [] := by simp [PpuD.frame]; omega
    have h1 : x.told = false := z1
    have h2 : x.asks = false := by simp [PpuD.asks, z1]
    have hdl : x.dots.length ≤ 48 := by have := HD.out; unfold dotsN at this; split at this <;> omega
    rw [hk, hf, h1, h2]
    clear hk hf h1 h2
    go_enter Tryz.func201, Tryz.ntmps201
    go_wp2_with (first | ((with_reducible refine g_load rfl ?_); refine eL1 H ?_) | ((with_reducible refine g_store rfl ?_); (first | refine eSi H ?_ | refine eSb H ?_ | refine eSs H ?_); clear H; intro W_ H))
    (with_reducible refine g_draw ?_)
    try simp only [Act.put, List.setIfInBounds_toArray, List.set_cons_succ, List.set_cons_zero]
    refine F_begin (ls := #[false, false, false, false, false, false, false, false, false, false, false, false, false]) (by kernel_rfl) rfl (by kernel_rfl) ?_
    have H_ := H.drew
    (clear H; have H := H_; clear H_)
    refine T_go [(0, 0, 22), (0, 1, 23), (0, 2, 24), (0, 3, 25), (1, 4, 26), (0, 5, 27), (0, 6, 28)] ?_; (repeat (first | refine T_pA ?_ | refine T_rA ?_)); refine T_end ?_
    refine F_eA (ls' := #[true, true, true, true, true, true, true, true, false, false, false, false, false]) (pend' := [4]) 7 ?_; intro K_ hK_; (conv => (arg 4; arg 1; whnf)); (repeat (first | refine hK_ _ _ rfl ?_ ?_ | (go_big_may; (go_at_call 232; (with_reducible refine (impl_dott_L x _ _ _ _ _ _ _ _ _ _ _ _ _ _ _ _ _ _ _ _ _ _ _ _ _ _ (x.t + 1) q _ _ _ (H.get pkA) (InI.of (H.get (x := intsA q.table x.table) pkA)) HL.out s0 s1 u0 (by omega)).mono ?_); rintro e w1 ⟨rfl, hb⟩; (replace H := H.callB hb; clear hb))) | go_step | go_guarded | go_upon | dsimp only)); (focus (refine kept_cA 4 26 ?_; exact kept_nil))
    refine F_eA (ls' := #[true, true, true, true, true, true, true, true, true, false, false, false, false]) (pend' := [4]) 8 ?_; intro K_ hK_; (conv => (arg 4; arg 1; whnf)); (repeat (first | refine hK_ _ _ rfl ?_ ?_ | (go_big_may; ((with_reducible refine g_buildSlice rfl ?_); refine ev_buildSlice1 (v := .int .i64 _) H rfl rfl rfl Tryz.underlying25 info_int (fill_int _) rfl (by decide) (by decide) (by decide) ?_; intro g_ W_ H_; (clear H; have H := H_; clear H_))) | go_step | go_guarded | go_upon | dsimp only)); (focus (refine kept_cA 4 26 ?_; exact kept_nil))
    refine F_eA (ls' := #[true, true, true, true, true, true, true, true, true, true, false, false, false]) (pend' := []) 9 ?_; intro K_ hK_; (conv => (arg 4; arg 1; whnf)); (repeat (first | refine hK_ _ _ rfl ?_ ?_ | (go_big_may; ((with_reducible refine g_append rfl ?_); refine ev_appendN (xs := nums x.dots) (news := [.int .i64 (x.dot (x.t % 64))]) (N := (x.dots ++ [x.dot (x.t % 64)]).length) (cs' := nums (x.dots ++ [x.dot (x.t % 64)])) H rfl rfl Tryz.underlying25 info_int rfl (by decide) rfl rfl pkA (own_in (H.get pkA)) (fun h => by cases h) rfl rfl (by omega) (by unfold maxLen; omega) (by simp) (by simp [nums]) ?_; intro A_ c_ W_ H_; (clear H; have H := H_; clear H_))) | go_step | go_guarded | go_upon | dsimp only)); exact kept_nil
    refine T_go [(0, 10, 32), (0, 11, 33)] ?_; (repeat (refine T_pA ?_)); refine T_end ?_
    refine F_eA (ls' := #[true, true, true, true, true, true, true, true, true, true, true, true, true]) (pend' := []) 12 ?_; intro K_ hK_; (conv => (arg 4; arg 1; whnf)); (repeat (first | refine hK_ _ _ rfl ?_ ?_ | (go_big_may; ((with_reducible refine g_store rfl ?_); (first | refine eSi H ?_ | refine eSb H ?_ | refine eSs H ?_); clear H; intro W_ H)) | go_step | go_guarded | go_upon | dsimp only)); exact kept_nil
    refine F_done (by kernel_rfl) ?_
    go_wp2
    go_ret3
    exact ⟨⟨A_, c_⟩, ⟨none, 0⟩, rfl, (St.addNil H).take pksA⟩
  · have z1 : (x.t % 64 == 48) = true := by rw [beq_iff_eq]; omega
    have z2 : (x.t % 64 == 63) = false := by rw [beq_eq_false_iff_ne]; omega
    have hk : x.tk = { x with t := x.t + 1, blank := true, dots := [] } := by simp [PpuD.tk, hs]
    have hf : x.frame = x.dots := by simp [PpuD.frame, hs]
    have h1 : x.told = true := z1
    have h2 : x.asks = decide (127 < x.ctrl) := by simp [PpuD.asks, z1]
    have hs1 : 48 ≤ x.t % 64 := by omega
    rw [hk, hf, h1, h2]
    clear hk hf h1 h2 hs
    go_enter Tryz.func201, Tryz.ntmps201
    go_wp2_with (first | ((with_reducible refine g_load rfl ?_); refine eL1 H ?_) | ((with_reducible refine g_store rfl ?_); (first | refine eSi H ?_ | refine eSb H ?_ | refine eSs H ?_); clear H; intro W_ H))
    (with_reducible refine g_draw ?_)
    try simp only [Act.put, List.setIfInBounds_toArray, List.set_cons_succ, List.set_cons_zero]
    refine F_begin (ls := #[false, false, false, false, false, false, false, false, false]) (by kernel_rfl) rfl (by kernel_rfl) ?_
    have H_ := H.drew
    (clear H; have H := H_; clear H_)
    refine T_go [(0, 0, 47), (0, 1, 48), (0, 2, 49), (0, 3, 50), (1, 4, 51), (0, 5, 52), (0, 6, 2), (0, 7, 3), (0, 8, 4)] ?_; (repeat (first | refine T_pA ?_ | refine T_rA ?_)); refine T_end ?_
    refine F_done (by kernel_rfl) ?_
    go_wp2
    go_ret3
    exact ⟨⟨none, 0⟩, q.dots, rfl, (St.addNil H).take pksA⟩
  · have z1 : (x.t % 64 == 48) = false := by rw [beq_eq_false_iff_ne]; omega
    have z2 : (x.t % 64 == 63) = true := by rw [beq_iff_eq]; omega
    have hk : x.tk = { x with t := x.t + 1, blank := false } := by simp [PpuD.tk, hs]
    have hf : x.frame = [] := by simp [PpuD.frame]; omega
    have h1 : x.told = false := z1
    have h2 : x.asks = false := by simp [PpuD.asks, z1]
    have hs1 : 48 < x.t % 64 := by omega
    rw [hk, hf, h1, h2]
    clear hk hf h1 h2 hs
    go_enter Tryz.func201, Tryz.ntmps201
    go_wp2_with (first | ((with_reducible refine g_load rfl ?_); refine eL1 H ?_) | ((with_reducible refine g_store rfl ?_); (first | refine eSi H ?_ | refine eSb H ?_ | refine eSs H ?_); clear H; intro W_ H))
    go_ret3
    exact ⟨q.dots, ⟨none, 0⟩, rfl, (St.addNil H).take pksA⟩
  · have z1 : (x.t % 64 == 48) = false := by rw [beq_eq_false_iff_ne]; omega
    have z2 : (x.t % 64 == 63) = false := by rw [beq_eq_false_iff_ne]; omega
    have n1 : ¬ x.t % 64 < 48 := by omega
    have n2 : ¬ x.t % 64 = 48 := by omega
    have n3 : ¬ x.t % 64 = 63 := by omega
    have hk : x.tk = { x with t := x.t + 1 } := by simp [PpuD.tk, n1, n2, n3]
    have hf : x.frame = [] := by simp [PpuD.frame, n2]
    have h1 : x.told = false := z1
    have h2 : x.asks = false := by simp [PpuD.asks, z1]
    rw [hk, hf, h1, h2]
    clear hk hf h1 h2 n1 n2 n3
    go_enter Tryz.func201, Tryz.ntmps201
    go_wp2_with (first | ((with_reducible refine g_load rfl ?_); refine eL1 H ?_) | ((with_reducible refine g_store rfl ?_); (first | refine eSi H ?_ | refine eSb H ?_ | refine eSs H ?_); clear H; intro W_ H))
    go_ret3
    exact ⟨q.dots, ⟨none, 0⟩, rfl, (St.addNil H).take pksA⟩
end Go.Proofs.YtjgggmcnbdjdjaaGreat.C

