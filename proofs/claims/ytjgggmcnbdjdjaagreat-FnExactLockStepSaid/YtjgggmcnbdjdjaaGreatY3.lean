/- Images that are copied. (written by ygen2.py) -/
import Derived.Test.YtjgggmcnbdjdjaaGreatY4
import Derived.Test.YtjgggmcnbdjdjaaGreatX
namespace Go.Proofs.YtjgggmcnbdjdjaaGreat.C
open Go.RowKit Go.Proofs.YtjgggmcnbdjdjaaGreat.K Go.Proofs.YtjgggmcnbdjdjaaGreat.B
attribute [local go_sem] max2_int min2_int max_two min_two i64_and255 i64_and65535 i64_and1
set_option maxRecDepth 20000
set_option linter.unusedVariables false
set_option linter.unusedSimpArgs false
set_option maxHeartbeats 8000000 in
theorem impl_copyImage (x : ImageD) (q : ImageP) (w : World) (hx : ImageIn w x q) (hs : ImageSmall x) : Calls Tryz.prog 77 #[.agg #[.slice q.banks.s.A x.banks.length q.banks.s.c]] w fun e w' => ∃ q' : ImageP, e = .returned (.agg #[.slice q'.banks.s.A x.banks.length q'.banks.s.c]) ∧ St w [] w' [frA q'.banks x.banks] := by
  have H := St.nil w []
  have hb := hx.banks
  obtain ⟨hs1, hs2⟩ := hs.banks
  clear hx hs
  obtain ⟨fs⟩ := x
  obtain ⟨⟨⟨A, c⟩, r⟩⟩ := q
  simp only at hb hs1 hs2 ⊢
  have hm := hb.mx
  have HS := Lib.hid hs2
  clear hs2
  go_enter Tryz.func77, Tryz.ntmps77
  go_upto_region 1 with (first | ((with_reducible refine g_box rfl ?_); refine ev_box (v := .agg _) H rfl rfl rfl rfl ?_; intro gb_ W_ H_; (clear H; have H := H_; clear H_)) | ((with_reducible refine g_box rfl ?_); refine eBa H ?_; clear H; intro g_ W_ H) | ((with_reducible refine g_alloc rfl ?_); refine eNw H ?_; clear H; intro g_ W_ H) | ((with_reducible refine g_load rfl ?_); first | refine eL1 H ?_ | refine eLa H ?_) | ((with_reducible refine g_store rfl ?_); (first | refine eSs H ?_ | refine eSa H ?_); clear H; intro W_ H))
  rename Nat => gr_
  go_wp2_with (first | ((with_reducible refine g_box rfl ?_); refine eBa H ?_; clear H; intro g_ W_ H) | ((with_reducible refine g_alloc rfl ?_); refine eNw H ?_; clear H; intro g_ W_ H) | ((with_reducible refine g_load rfl ?_); first | refine eL1 H ?_ | refine eLa H ?_) | ((with_reducible refine g_store rfl ?_); (first | refine eSs H ?_ | refine eSa H ?_); clear H; intro W_ H))
  rename Nat => go_
  have H_ := St.addFree (a := Ast.own 25 1 none 0 0 (rowVals (fs.take 0) [])) H rfl ⟨rfl, .inl ⟨rfl, rfl⟩⟩
  (clear H; have H := H_; clear H_)
  have H_ := St.addFree (a := Ast.all (rowAs (fs.take 0) [])) H (by simp [rowAs, Ast.all]) (fun a ha => by simp [rowAs] at ha)
  (clear H; have H := H_; clear H_)
  go_loopw [10] (fun i wr => ∃ (k : Nat) (qs : List Sl) (A1 : Option Addr) (c1 : Nat), k ≤ fs.length ∧ i = .int .i64 k ∧ Hid (qs.length = k) ∧ St w [] wr [Ast.blk go_ [.slice A1 k c1] 41, Ast.own 25 1 A1 k c1 (rowVals (fs.take k) qs), Ast.all (rowAs (fs.take k) qs), Ast.blk gb_ [.slice A fs.length c] 41, Ast.blk gr_ [.slice none 0 0] 41]) (fun i _ => fs.length - (intOf i).toNat)
  case atStart => exact ⟨0, [], none, 0, Nat.zero_le _, rfl, Lib.hid rfl, H.take pksA⟩
  case round =>
    clear H
    obtain ⟨k, qs, A1, c1, hk, rfl, HL, H⟩ := hrel
    by_cases hlt : k < fs.length
    · obtain ⟨ad, hA, _⟩ := hb.cell H hlt
      simp only at hA
      subst hA
      have hsk := HS.out k hlt
      have hr := hb.row k hlt
      simp only at hr
      have hcell : ∀ {W : World} {l : List Ast}, St w [] W l → W.cell? (ad.add k) = some (.slice (slAt r k).A (rwAt fs k).length (slAt r k).c) := fun H' => rows_at_ hb H' hlt
      go_wp2_with (first | ((with_reducible refine g_load rfl ?_); refine ev_load_in_one rfl rfl rfl (oneT rfl) (hcell H) ?_) | ((with_reducible refine g_box rfl ?_); refine eBa H ?_; clear H; intro g_ W_ H) | ((with_reducible refine g_alloc rfl ?_); refine eNw H ?_; clear H; intro g_ W_ H) | ((with_reducible refine g_load rfl ?_); first | refine eL1 H ?_ | refine eLa H ?_) | ((with_reducible refine g_store rfl ?_); (first | refine eSs H ?_ | refine eSa H ?_); clear H; intro W_ H))
      (with_reducible refine g_draw ?_)
      try simp only [Act.put, List.setIfInBounds_toArray, List.set_cons_succ, List.set_cons_zero]
      refine F_begin (ls := #[false, false, false, false, false, false, false, false]) (by kernel_rfl) rfl (by kernel_rfl) ?_
      have H_ := H.drew
      (clear H; have H := H_; clear H_)
      refine T_go [(0, 0, 14), (1, 1, 15), (0, 2, 16)] ?_; (repeat (first | refine T_pA ?_ | refine T_rA ?_)); refine T_end ?_
      refine F_eA (ls' := #[true, true, true, true, false, false, false, false]) (pend' := [1]) 3 ?_; intro K_ hK_; (conv => (arg 4; arg 1; whnf)); (repeat (first | refine hK_ _ _ rfl ?_ ?_ | (go_big_may; (go_at_call 78; (with_reducible refine (impl_copyInts _ _ (rwAt fs k) _ (hr.on H) hsk).mono ?_); rintro e w1 ⟨⟨Ai_, ci_⟩, rfl, kq⟩; have H_ := H.call kq; simp only [List.cons_append, List.nil_append] at H_; (clear H; have H := H_; clear H_); clear kq)) | go_step | go_guarded | go_upon | dsimp only)); (focus (refine kept_cA 1 15 ?_; exact kept_nil))
      refine F_eA (ls' := #[true, true, true, true, true, false, false, false]) (pend' := [1]) 4 ?_; intro K_ hK_; (conv => (arg 4; arg 1; whnf)); (repeat (first | refine hK_ _ _ rfl ?_ ?_ | (go_big_may; (first | ((with_reducible refine g_load rfl ?_); first | refine eL1 H ?_ | refine eLa H ?_) | ((with_reducible refine g_buildSlice rfl ?_); refine ev_buildSlice1 (v := .slice _ _ _) H rfl rfl rfl Tryz.underlying22 info_ints (fill_sl _ _ _) rfl (by decide) (by decide) (by decide) ?_; intro g_ W_ H_; (clear H; have H := H_; clear H_)) | ((with_reducible refine g_store rfl ?_); (first | refine eSs H ?_ | refine eSa H ?_); clear H; intro W_ H))) | go_step | go_guarded | go_upon | dsimp only)); (focus (refine kept_cA 1 15 ?_; exact kept_nil))
      refine F_eA (ls' := #[true, true, true, true, true, true, false, false]) (pend' := []) 5 ?_; intro K_ hK_; (conv => (arg 4; arg 1; whnf)); (repeat (first | refine hK_ _ _ rfl ?_ ?_ | (go_big_may; (first | ((with_reducible refine g_load rfl ?_); first | refine eL1 H ?_ | refine eLa H ?_) | ((with_reducible refine g_append rfl ?_); refine ev_appendN (xs := rowVals (fs.take k) qs) (news := [.slice (Sl.mk Ai_ ci_).A (rwAt fs k).length (Sl.mk Ai_ ci_).c]) (N := k + 1) (cs' := rowVals (fs.take (k + 1)) (qs ++ [(Sl.mk Ai_ ci_)])) H rfl rfl Tryz.underlying22 info_ints rfl (by decide) rfl rfl pkA (own_in (H.get pkA)) (fun h => by cases h) rfl rfl (by omega) (by unfold maxLen; omega) (by omega) (by rw [take_succ_rw hlt]; exact rowVals_more (by have := HL.out; simp; omega)) ?_; intro A_ c_ W_ H_; (clear H; have H := H_; clear H_)) | ((with_reducible refine g_store rfl ?_); (first | refine eSs H ?_ | refine eSa H ?_); clear H; intro W_ H))) | go_step | go_guarded | go_upon | dsimp only)); exact kept_nil
      refine T_go [(0, 6, 20)] ?_; (repeat (refine T_pA ?_)); refine T_end ?_
      refine F_eA (ls' := #[true, true, true, true, true, true, true, true]) (pend' := []) 7 ?_; intro K_ hK_; (conv => (arg 4; arg 1; whnf)); (repeat (first | refine hK_ _ _ rfl ?_ ?_ | (go_big_may; (first | ((with_reducible refine g_load rfl ?_); first | refine eL1 H ?_ | refine eLa H ?_) | ((with_reducible refine g_store rfl ?_); (first | refine eSs H ?_ | refine eSa H ?_); clear H; intro W_ H))) | go_step | go_guarded | go_upon | dsimp only)); exact kept_nil
      refine F_done (by kernel_rfl) ?_
      go_wp2_with (first | ((with_reducible refine g_box rfl ?_); refine eBa H ?_; clear H; intro g_ W_ H) | ((with_reducible refine g_alloc rfl ?_); refine eNw H ?_; clear H; intro g_ W_ H) | ((with_reducible refine g_load rfl ?_); first | refine eL1 H ?_ | refine eLa H ?_) | ((with_reducible refine g_store rfl ?_); (first | refine eSs H ?_ | refine eSa H ?_); clear H; intro W_ H))
      go_roundw
      case rel =>
        refine ⟨k + 1, qs ++ [Sl.mk Ai_ ci_], A_, c_, by omega, by go_num, Lib.hid (by rw [List.length_append, HL.out]; rfl), ?_⟩
        have h1 := H.picks (xs := [intsA (Sl.mk Ai_ ci_) (rwAt fs k), Ast.all (rowAs (fs.take k) qs), Ast.blk go_ [.slice A_ (k + 1) c_] 41, Ast.own 25 1 A_ (k + 1) c_ (rowVals (fs.take (k + 1)) (qs ++ [Sl.mk Ai_ ci_])), Ast.blk gb_ _ _, Ast.blk gr_ _ _]) pksA
        have h2 := St.join (l2 := []) (l1 := rowAs (fs.take k) qs) (x := intsA (Sl.mk Ai_ ci_) (rwAt fs k)) (by rw [List.append_nil]; exact h1)
        have h3 : rowAs (fs.take (k + 1)) (qs ++ [Sl.mk Ai_ ci_]) = rowAs (fs.take k) qs ++ [intsA (Sl.mk Ai_ ci_) (rwAt fs k)] := by rw [take_succ_rw hlt, rowAs_append _ _ _ _ (by have := HL.out; simp; omega)]; rfl
        rw [h3]
        simp only [List.append_eq, List.cons_append, List.nil_append] at h2
        exact h2.take pksA
      case measure => simp [intOf]; omega
    · have hkn : k = fs.length := by omega
      subst hkn
      simp only [List.take_length] at H
      go_wp2_with (first | ((with_reducible refine g_box rfl ?_); refine eBa H ?_; clear H; intro g_ W_ H) | ((with_reducible refine g_alloc rfl ?_); refine eNw H ?_; clear H; intro g_ W_ H) | ((with_reducible refine g_load rfl ?_); first | refine eL1 H ?_ | refine eLa H ?_) | ((with_reducible refine g_store rfl ?_); (first | refine eSs H ?_ | refine eSa H ?_); clear H; intro W_ H))
      have H_ := (St.frShut (q := ⟨⟨A1, c1⟩, qs⟩) H HL.out.symm pksA).take (Picks.cons Pick.here Picks.nil)
      refine' back1 Tryz.results77 ?_ rfl ⟨⟨⟨⟨A1, c1⟩, qs⟩⟩, ?_, H_⟩; rotate_left 1; exact rvA
      rfl
set_option maxHeartbeats 8000000 in
theorem spec_l12Image (x : ImageD) (q : ImageP) (w : World) (hx : ImageIn w x q) (hs : ImageSmall x) : Calls Tryz.prog 70 #[.agg #[.slice q.banks.s.A x.banks.length q.banks.s.c]] w fun e w' => ∃ q' : ImageP, e = .returned (.agg #[.slice q'.banks.s.A x.banks.length q'.banks.s.c]) ∧ St w [] w' [frA q'.banks x.banks] := by
  have H := St.nil w []
  have hb := hx.banks
  obtain ⟨hs1, hs2⟩ := hs.banks
  clear hx hs
  obtain ⟨fs⟩ := x
  obtain ⟨⟨⟨A, c⟩, r⟩⟩ := q
  simp only at hb hs1 hs2 ⊢
  have hm := hb.mx
  have HS := Lib.hid hs2
  clear hs2
  go_enter Tryz.func70, Tryz.ntmps70
  go_upto_region 1 with (first | ((with_reducible refine g_box rfl ?_); refine ev_box (v := .agg _) H rfl rfl rfl rfl ?_; intro gb_ W_ H_; (clear H; have H := H_; clear H_)) | ((with_reducible refine g_box rfl ?_); refine eBa H ?_; clear H; intro g_ W_ H) | ((with_reducible refine g_alloc rfl ?_); refine eNw H ?_; clear H; intro g_ W_ H) | ((with_reducible refine g_load rfl ?_); first | refine eL1 H ?_ | refine eLa H ?_) | ((with_reducible refine g_store rfl ?_); (first | refine eSs H ?_ | refine eSa H ?_); clear H; intro W_ H))
  rename Nat => gr_
  go_wp2_with (first | ((with_reducible refine g_box rfl ?_); refine eBa H ?_; clear H; intro g_ W_ H) | ((with_reducible refine g_alloc rfl ?_); refine eNw H ?_; clear H; intro g_ W_ H) | ((with_reducible refine g_load rfl ?_); first | refine eL1 H ?_ | refine eLa H ?_) | ((with_reducible refine g_store rfl ?_); (first | refine eSs H ?_ | refine eSa H ?_); clear H; intro W_ H))
  rename Nat => go_
  have H_ := St.addFree (a := Ast.own 25 1 none 0 0 (rowVals (fs.take 0) [])) H rfl ⟨rfl, .inl ⟨rfl, rfl⟩⟩
  (clear H; have H := H_; clear H_)
  have H_ := St.addFree (a := Ast.all (rowAs (fs.take 0) [])) H (by simp [rowAs, Ast.all]) (fun a ha => by simp [rowAs] at ha)
  (clear H; have H := H_; clear H_)
  go_loopw [4] (fun i wr => ∃ (k : Nat) (qs : List Sl) (A1 : Option Addr) (c1 : Nat), k ≤ fs.length ∧ i = .int .i64 k ∧ Hid (qs.length = k) ∧ St w [] wr [Ast.blk go_ [.slice A1 k c1] 41, Ast.own 25 1 A1 k c1 (rowVals (fs.take k) qs), Ast.all (rowAs (fs.take k) qs), Ast.blk gb_ [.slice A fs.length c] 41, Ast.blk gr_ [.slice none 0 0] 41]) (fun i _ => fs.length - (intOf i).toNat)
  case atStart => exact ⟨0, [], none, 0, Nat.zero_le _, rfl, Lib.hid rfl, H.take pksA⟩
  case round =>
    clear H
    obtain ⟨k, qs, A1, c1, hk, rfl, HL, H⟩ := hrel
    by_cases hlt : k < fs.length
    · obtain ⟨ad, hA, _⟩ := hb.cell H hlt
      simp only at hA
      subst hA
      have hsk := HS.out k hlt
      have hr := hb.row k hlt
      simp only at hr
      have hcell : ∀ {W : World} {l : List Ast}, St w [] W l → W.cell? (ad.add k) = some (.slice (slAt r k).A (rwAt fs k).length (slAt r k).c) := fun H' => rows_at_ hb H' hlt
      go_wp2_with (first | ((with_reducible refine g_load rfl ?_); refine ev_load_in_one rfl rfl rfl (oneT rfl) (hcell H) ?_) | ((with_reducible refine g_box rfl ?_); refine eBa H ?_; clear H; intro g_ W_ H) | ((with_reducible refine g_alloc rfl ?_); refine eNw H ?_; clear H; intro g_ W_ H) | ((with_reducible refine g_load rfl ?_); first | refine eL1 H ?_ | refine eLa H ?_) | ((with_reducible refine g_store rfl ?_); (first | refine eSs H ?_ | refine eSa H ?_); clear H; intro W_ H))
      (with_reducible refine g_draw ?_)
      try simp only [Act.put, List.setIfInBounds_toArray, List.set_cons_succ, List.set_cons_zero]
      refine F_begin (ls := #[false, false, false, false, false, false, false, false, false, false, false, false, false]) (by kernel_rfl) rfl (by kernel_rfl) ?_
      have H_ := H.drew
      (clear H; have H := H_; clear H_)
      refine T_go [(0, 0, 13), (1, 1, 14), (0, 3, 16), (1, 4, 17), (0, 5, 18), (0, 6, 19), (1, 7, 20)] ?_; (repeat (first | refine T_pA ?_ | (refine' T_read _ rfl rfl (by kernel_rfl) (Nat.le_of_ble_eq_true (by kernel_rfl)) (fun K_ hK_ => ?_) ?_; rotate_left 1; focus ((conv => (arg 4; arg 1; whnf)); (repeat (first | exact hK_ rfl | (go_big_may; (first | ((with_reducible refine g_load rfl ?_); refine ev_load_in_one rfl rfl rfl (oneT rfl) (hcell H) ?_) | ((with_reducible refine g_load rfl ?_); first | refine eL1 H ?_ | refine eLa H ?_) | ((with_reducible refine g_store rfl ?_); (first | refine eSs H ?_ | refine eSa H ?_); clear H; intro W_ H))) | go_step | go_guarded | go_upon | dsimp only)); done)))); refine T_end ?_
      refine F_eA (ls' := #[true, true, true, true, true, true, true, true, false, false, false, false, false]) (pend' := [7, 4, 1]) 2 ?_; intro K_ hK_; (conv => (arg 4; arg 1; whnf)); (repeat (first | refine hK_ _ _ rfl ?_ ?_ | (go_big_may; (first | ((with_reducible refine g_load rfl ?_); first | refine eL1 H ?_ | refine eLa H ?_) | ((with_reducible refine g_buildSlice rfl ?_); refine ev_buildSlice0 H rfl rfl Tryz.underlying25 info_int ?_; intro g_ W_ H_; (clear H; have H := H_; clear H_)) | ((with_reducible refine g_buildSlice rfl ?_); refine ev_buildSlice1 (v := .slice _ _ _) H rfl rfl rfl Tryz.underlying22 info_ints (fill_sl _ _ _) rfl (by decide) (by decide) (by decide) ?_; intro g_ W_ H_; (clear H; have H := H_; clear H_)) | ((with_reducible refine g_store rfl ?_); (first | refine eSs H ?_ | refine eSa H ?_); clear H; intro W_ H))) | go_step | go_guarded | go_upon | dsimp only)); (focus (refine kept_cons 7 20 _ rfl rfl (Nat.le_of_ble_eq_true (by kernel_rfl)) (fun K_ hK_ => ?_) ?_; (focus ((conv => (arg 4; arg 1; whnf)); repeat (first | exact hK_ rfl | (go_big_may; (first | ((with_reducible refine g_load rfl ?_); refine ev_load_in_one rfl rfl rfl (oneT rfl) (hcell H) ?_) | ((with_reducible refine g_load rfl ?_); first | refine eL1 H ?_ | refine eLa H ?_) | ((with_reducible refine g_store rfl ?_); (first | refine eSs H ?_ | refine eSa H ?_); clear H; intro W_ H))) | go_step | go_guarded | go_upon | dsimp only))); refine kept_cons 4 17 _ rfl rfl (Nat.le_of_ble_eq_true (by kernel_rfl)) (fun K_ hK_ => ?_) ?_; (focus ((conv => (arg 4; arg 1; whnf)); repeat (first | exact hK_ rfl | (go_big_may; (first | ((with_reducible refine g_load rfl ?_); refine ev_load_in_one rfl rfl rfl (oneT rfl) (hcell H) ?_) | ((with_reducible refine g_load rfl ?_); first | refine eL1 H ?_ | refine eLa H ?_) | ((with_reducible refine g_store rfl ?_); (first | refine eSs H ?_ | refine eSa H ?_); clear H; intro W_ H))) | go_step | go_guarded | go_upon | dsimp only))); refine kept_cons 1 14 _ rfl rfl (Nat.le_of_ble_eq_true (by kernel_rfl)) (fun K_ hK_ => ?_) ?_; (focus ((conv => (arg 4; arg 1; whnf)); repeat (first | exact hK_ rfl | (go_big_may; (first | ((with_reducible refine g_load rfl ?_); refine ev_load_in_one rfl rfl rfl (oneT rfl) (hcell H) ?_) | ((with_reducible refine g_load rfl ?_); first | refine eL1 H ?_ | refine eLa H ?_) | ((with_reducible refine g_store rfl ?_); (first | refine eSs H ?_ | refine eSa H ?_); clear H; intro W_ H))) | go_step | go_guarded | go_upon | dsimp only))); exact kept_nil))
      refine F_eA (ls' := #[true, true, true, true, true, true, true, true, true, false, false, false, false]) (pend' := [1]) 8 ?_; intro K_ hK_; (conv => (arg 4; arg 1; whnf)); (repeat (first | refine hK_ _ _ rfl ?_ ?_ | (go_big_may; (first | ((with_reducible refine g_load rfl ?_); first | refine eL1 H ?_ | refine eLa H ?_) | ((with_reducible refine g_append rfl ?_); refine ev_appendN (N := (rwAt fs k).length) (cs' := nums (rwAt fs k)) H rfl rfl Tryz.underlying25 info_int rfl (by decide) rfl rfl pkA (hr.on H).in (hr.none) (by rw [nums_length]; omega) (nums_one' _) (by omega) (by unfold maxLen; omega) (Nat.zero_add _) (List.nil_append _) ?_; intro Ai_ ci_ W_ H_; (clear H; have H := H_; clear H_)) | ((with_reducible refine g_append rfl ?_); refine ev_appendN (xs := rowVals (fs.take k) qs) (news := [.slice (Sl.mk Ai_ ci_).A (rwAt fs k).length (Sl.mk Ai_ ci_).c]) (N := k + 1) (cs' := rowVals (fs.take (k + 1)) (qs ++ [(Sl.mk Ai_ ci_)])) H rfl rfl Tryz.underlying22 info_ints rfl (by decide) rfl rfl pkA (own_in (H.get pkA)) (fun h => by cases h) rfl rfl (by omega) (by unfold maxLen; omega) (by omega) (by rw [take_succ_rw hlt]; exact rowVals_more (by have := HL.out; simp; omega)) ?_; intro A_ c_ W_ H_; (clear H; have H := H_; clear H_)) | ((with_reducible refine g_store rfl ?_); (first | refine eSs H ?_ | refine eSa H ?_); clear H; intro W_ H))) | go_step | go_guarded | go_upon | dsimp only)); (focus (refine kept_cons 1 14 _ rfl rfl (Nat.le_of_ble_eq_true (by kernel_rfl)) (fun K_ hK_ => ?_) ?_; (focus ((conv => (arg 4; arg 1; whnf)); repeat (first | exact hK_ rfl | (go_big_may; (first | ((with_reducible refine g_load rfl ?_); refine ev_load_in_one rfl rfl rfl (oneT rfl) (hcell H) ?_) | ((with_reducible refine g_load rfl ?_); first | refine eL1 H ?_ | refine eLa H ?_) | ((with_reducible refine g_store rfl ?_); (first | refine eSs H ?_ | refine eSa H ?_); clear H; intro W_ H))) | go_step | go_guarded | go_upon | dsimp only))); exact kept_nil))
      refine F_eA (ls' := #[true, true, true, true, true, true, true, true, true, true, false, false, false]) (pend' := [1]) 9 ?_; intro K_ hK_; (conv => (arg 4; arg 1; whnf)); (repeat (first | refine hK_ _ _ rfl ?_ ?_ | (go_big_may; (first | ((with_reducible refine g_load rfl ?_); first | refine eL1 H ?_ | refine eLa H ?_) | ((with_reducible refine g_buildSlice rfl ?_); refine ev_buildSlice0 H rfl rfl Tryz.underlying25 info_int ?_; intro g_ W_ H_; (clear H; have H := H_; clear H_)) | ((with_reducible refine g_buildSlice rfl ?_); refine ev_buildSlice1 (v := .slice _ _ _) H rfl rfl rfl Tryz.underlying22 info_ints (fill_sl _ _ _) rfl (by decide) (by decide) (by decide) ?_; intro g_ W_ H_; (clear H; have H := H_; clear H_)) | ((with_reducible refine g_store rfl ?_); (first | refine eSs H ?_ | refine eSa H ?_); clear H; intro W_ H))) | go_step | go_guarded | go_upon | dsimp only)); (focus (refine kept_cons 1 14 _ rfl rfl (Nat.le_of_ble_eq_true (by kernel_rfl)) (fun K_ hK_ => ?_) ?_; (focus ((conv => (arg 4; arg 1; whnf)); repeat (first | exact hK_ rfl | (go_big_may; (first | ((with_reducible refine g_load rfl ?_); refine ev_load_in_one rfl rfl rfl (oneT rfl) (hcell H) ?_) | ((with_reducible refine g_load rfl ?_); first | refine eL1 H ?_ | refine eLa H ?_) | ((with_reducible refine g_store rfl ?_); (first | refine eSs H ?_ | refine eSa H ?_); clear H; intro W_ H))) | go_step | go_guarded | go_upon | dsimp only))); exact kept_nil))
      refine F_eA (ls' := #[true, true, true, true, true, true, true, true, true, true, true, false, false]) (pend' := []) 10 ?_; intro K_ hK_; (conv => (arg 4; arg 1; whnf)); (repeat (first | refine hK_ _ _ rfl ?_ ?_ | (go_big_may; (first | ((with_reducible refine g_load rfl ?_); first | refine eL1 H ?_ | refine eLa H ?_) | ((with_reducible refine g_append rfl ?_); refine ev_appendN (N := (rwAt fs k).length) (cs' := nums (rwAt fs k)) H rfl rfl Tryz.underlying25 info_int rfl (by decide) rfl rfl pkA (hr.on H).in (hr.none) (by rw [nums_length]; omega) (nums_one' _) (by omega) (by unfold maxLen; omega) (Nat.zero_add _) (List.nil_append _) ?_; intro Ai_ ci_ W_ H_; (clear H; have H := H_; clear H_)) | ((with_reducible refine g_append rfl ?_); refine ev_appendN (xs := rowVals (fs.take k) qs) (news := [.slice (Sl.mk Ai_ ci_).A (rwAt fs k).length (Sl.mk Ai_ ci_).c]) (N := k + 1) (cs' := rowVals (fs.take (k + 1)) (qs ++ [(Sl.mk Ai_ ci_)])) H rfl rfl Tryz.underlying22 info_ints rfl (by decide) rfl rfl pkA (own_in (H.get pkA)) (fun h => by cases h) rfl rfl (by omega) (by unfold maxLen; omega) (by omega) (by rw [take_succ_rw hlt]; exact rowVals_more (by have := HL.out; simp; omega)) ?_; intro A_ c_ W_ H_; (clear H; have H := H_; clear H_)) | ((with_reducible refine g_store rfl ?_); (first | refine eSs H ?_ | refine eSa H ?_); clear H; intro W_ H))) | go_step | go_guarded | go_upon | dsimp only)); exact kept_nil
      refine T_go [(0, 11, 24)] ?_; (repeat (refine T_pA ?_)); refine T_end ?_
      refine F_eA (ls' := #[true, true, true, true, true, true, true, true, true, true, true, true, true]) (pend' := []) 12 ?_; intro K_ hK_; (conv => (arg 4; arg 1; whnf)); (repeat (first | refine hK_ _ _ rfl ?_ ?_ | (go_big_may; (first | ((with_reducible refine g_load rfl ?_); first | refine eL1 H ?_ | refine eLa H ?_) | ((with_reducible refine g_store rfl ?_); (first | refine eSs H ?_ | refine eSa H ?_); clear H; intro W_ H))) | go_step | go_guarded | go_upon | dsimp only)); exact kept_nil
      refine F_done (by kernel_rfl) ?_
      go_wp2_with (first | ((with_reducible refine g_box rfl ?_); refine eBa H ?_; clear H; intro g_ W_ H) | ((with_reducible refine g_alloc rfl ?_); refine eNw H ?_; clear H; intro g_ W_ H) | ((with_reducible refine g_load rfl ?_); first | refine eL1 H ?_ | refine eLa H ?_) | ((with_reducible refine g_store rfl ?_); (first | refine eSs H ?_ | refine eSa H ?_); clear H; intro W_ H))
      go_roundw
      case rel =>
        refine ⟨k + 1, qs ++ [Sl.mk Ai_ ci_], A_, c_, by omega, by go_num, Lib.hid (by rw [List.length_append, HL.out]; rfl), ?_⟩
        have h1 := H.picks (xs := [intsA (Sl.mk Ai_ ci_) (rwAt fs k), Ast.all (rowAs (fs.take k) qs), Ast.blk go_ [.slice A_ (k + 1) c_] 41, Ast.own 25 1 A_ (k + 1) c_ (rowVals (fs.take (k + 1)) (qs ++ [Sl.mk Ai_ ci_])), Ast.blk gb_ _ _, Ast.blk gr_ _ _]) pksA
        have h2 := St.join (l2 := []) (l1 := rowAs (fs.take k) qs) (x := intsA (Sl.mk Ai_ ci_) (rwAt fs k)) (by rw [List.append_nil]; exact h1)
        have h3 : rowAs (fs.take (k + 1)) (qs ++ [Sl.mk Ai_ ci_]) = rowAs (fs.take k) qs ++ [intsA (Sl.mk Ai_ ci_) (rwAt fs k)] := by rw [take_succ_rw hlt, rowAs_append _ _ _ _ (by have := HL.out; simp; omega)]; rfl
        rw [h3]
        simp only [List.append_eq, List.cons_append, List.nil_append] at h2
        exact h2.take pksA
      case measure => simp [intOf]; omega
    · have hkn : k = fs.length := by omega
      subst hkn
      simp only [List.take_length] at H
      go_wp2_with (first | ((with_reducible refine g_box rfl ?_); refine eBa H ?_; clear H; intro g_ W_ H) | ((with_reducible refine g_alloc rfl ?_); refine eNw H ?_; clear H; intro g_ W_ H) | ((with_reducible refine g_load rfl ?_); first | refine eL1 H ?_ | refine eLa H ?_) | ((with_reducible refine g_store rfl ?_); (first | refine eSs H ?_ | refine eSa H ?_); clear H; intro W_ H))
      have H_ := (St.frShut (q := ⟨⟨A1, c1⟩, qs⟩) H HL.out.symm pksA).take (Picks.cons Pick.here Picks.nil)
      refine' back1 Tryz.results70 ?_ rfl ⟨⟨⟨⟨A1, c1⟩, qs⟩⟩, ?_, H_⟩; rotate_left 1; exact rvA
      rfl
end Go.Proofs.YtjgggmcnbdjdjaaGreat.C

/- What the tests of the two machines tell. (written by ygen.py) -/
namespace Go.Proofs.YtjgggmcnbdjdjaaGreat.C
open Go.RowKit Go.Proofs.YtjgggmcnbdjdjaaGreat.K Go.Proofs.YtjgggmcnbdjdjaaGreat.B
attribute [local go_sem] max2_int min2_int max_two min_two i64_and255 i64_and65535 i64_and1
set_option maxRecDepth 20000
set_option linter.unusedVariables false
set_option linter.unusedSimpArgs false
set_option maxHeartbeats 16000000 in
theorem impl_LockOk (l : LockD) (q : LockP) (w : World) (hx : LockIn w l q) : Calls Tryz.prog 49 #[.agg #[.slice q.img.banks.s.A l.img.banks.length q.img.banks.s.c, .slice q.pads.A l.pads.length q.pads.c, .slice q.mem.ram.A l.mem.ram.length q.mem.ram.c, .int .i64 l.mem.bank, .int .i64 l.cpu.a, .int .i64 l.cpu.x, .int .i64 l.cpu.s, .int .i64 l.cpu.pc, .bool l.cpu.z, .bool l.cpu.n, .bool l.cpu.c, .bool l.cpu.i, .int .i64 l.ppu.t, .int .i64 l.ppu.ctrl, .int .i64 l.ppu.scroll, .int .i64 l.ppu.addr, .int .i64 l.ppu.pal, .bool l.ppu.blank, .slice q.ppu.table.A l.ppu.table.length q.ppu.table.c, .slice q.ppu.dots.A l.ppu.dots.length q.ppu.dots.c, .int .i64 l.apu.t, .int .i64 l.apu.p, .int .i64 l.apu.c, .int .i64 l.apu.b, .int .i64 l.apu.l, .bool l.apu.k, .bool l.apu.i, .bool l.pad.h, .int .i64 l.pad.s, .bool l.nmi, .int .i64 l.steps, .slice q.obs.frames.s.A l.obs.frames.length q.obs.frames.s.c, .slice q.obs.samples.A l.obs.samples.length q.obs.samples.c, .slice q.obs.reads.A l.obs.reads.length q.obs.reads.c]] w fun e w' => e = .returned (.bool l.ok) ∧ Below w.heap.size w w' := by
  have H := St.nil w []
  have hm := hx.obs.samples.2.1
  cases h4 : l.ppu.ok
  · go_enter Tryz.func49, Tryz.ntmps49; (try simp only [List.append_eq, List.cons_append, List.nil_append])
    go_wp2_with (first | (go_at_call 117; (with_reducible refine (impl_MemOk l.img q.img l.mem q.mem _ (hx.img.on H) (hx.mem.on H)).mono ?_); rintro e w1 ⟨rfl, hb⟩; (replace H := H.callB hb; clear hb)) | (go_at_call 118; (with_reducible refine (impl_PadsOk _ _ l.pads _ (hx.pads.on H)).mono ?_); rintro e w1 ⟨rfl, rfl⟩) | (go_at_call 119; (with_reducible refine (impl_CpuOk l.cpu _).mono ?_); rintro e w1 ⟨rfl, hb⟩; (replace H := H.callB hb; clear hb)) | (go_at_call 120; (with_reducible refine (impl_PpuOk l.ppu q.ppu _ (hx.ppu.on H)).mono ?_); rintro e w1 ⟨rfl, hb⟩; rw [h4]; (replace H := H.callB hb; clear hb)) | (go_at_call 121; (with_reducible refine (impl_ApuOk l.apu _).mono ?_); rintro e w1 ⟨rfl, hb⟩; (replace H := H.callB hb; clear hb)) | (go_at_call 122; (with_reducible refine (impl_isByte _ _).mono ?_); rintro e w1 ⟨rfl, rfl⟩) | (go_at_call 123; (with_reducible refine (impl_within _ _ _ _).mono ?_); rintro e w1 ⟨rfl, rfl⟩) | ((with_reducible refine g_box rfl ?_); refine eBa H ?_; clear H; intro g_ W_ H) | ((with_reducible refine g_load rfl ?_); first | refine eL1 H ?_ | refine eLa H ?_))
    all_goals (go_ret; exact ⟨ret_b (by simp [LockD.ok, *]), H.below⟩)
  · have b01 := (PpuD.ok_at h4).1
    obtain ⟨b0, b1⟩ := b01
    cases hT : (l.apu.t == l.ppu.t)
    all_goals
      have hT2 := hT
      rw [Bool.beq_comm] at hT2
      go_enter Tryz.func49, Tryz.ntmps49; (try simp only [List.append_eq, List.cons_append, List.nil_append])
      go_wp2_with (first | (go_at_call 117; (with_reducible refine (impl_MemOk l.img q.img l.mem q.mem _ (hx.img.on H) (hx.mem.on H)).mono ?_); rintro e w1 ⟨rfl, hb⟩; (replace H := H.callB hb; clear hb)) | (go_at_call 118; (with_reducible refine (impl_PadsOk _ _ l.pads _ (hx.pads.on H)).mono ?_); rintro e w1 ⟨rfl, rfl⟩) | (go_at_call 119; (with_reducible refine (impl_CpuOk l.cpu _).mono ?_); rintro e w1 ⟨rfl, hb⟩; (replace H := H.callB hb; clear hb)) | (go_at_call 120; (with_reducible refine (impl_PpuOk l.ppu q.ppu _ (hx.ppu.on H)).mono ?_); rintro e w1 ⟨rfl, hb⟩; rw [h4]; (replace H := H.callB hb; clear hb)) | (go_at_call 121; (with_reducible refine (impl_ApuOk l.apu _).mono ?_); rintro e w1 ⟨rfl, hb⟩; (replace H := H.callB hb; clear hb)) | (go_at_call 122; (with_reducible refine (impl_isByte _ _).mono ?_); rintro e w1 ⟨rfl, rfl⟩) | (go_at_call 123; (with_reducible refine (impl_within _ _ _ _).mono ?_); rintro e w1 ⟨rfl, rfl⟩) | (go_at_call 124; (with_reducible refine (impl_framesOk q.obs.frames l.obs.frames l.ppu.t _ (hx.obs.frames.on H) b0 b1).mono ?_); rintro e w1 ⟨rfl, rfl⟩) | (go_at_call 125; (with_reducible refine (impl_samplesOk _ _ l.obs.samples l.ppu.t _ b0 b1).mono ?_); rintro e w1 ⟨rfl, rfl⟩) | ((with_reducible refine g_box rfl ?_); refine eBa H ?_; clear H; intro g_ W_ H) | ((with_reducible refine g_load rfl ?_); first | refine eL1 H ?_ | refine eLa H ?_))
      all_goals (go_ret; exact ⟨ret_b (by simp [LockD.ok, *]), H.below⟩)
set_option maxHeartbeats 16000000 in
theorem spec_LockOk (l : LockD) (q : LockP) (w : World) (hx : LockIn w l q) : Calls Tryz.prog 40 #[.agg #[.slice q.img.banks.s.A l.img.banks.length q.img.banks.s.c, .slice q.pads.A l.pads.length q.pads.c, .slice q.mem.ram.A l.mem.ram.length q.mem.ram.c, .int .i64 l.mem.bank, .int .i64 l.cpu.a, .int .i64 l.cpu.x, .int .i64 l.cpu.s, .int .i64 l.cpu.pc, .bool l.cpu.z, .bool l.cpu.n, .bool l.cpu.c, .bool l.cpu.i, .int .i64 l.ppu.t, .int .i64 l.ppu.ctrl, .int .i64 l.ppu.scroll, .int .i64 l.ppu.addr, .int .i64 l.ppu.pal, .bool l.ppu.blank, .slice q.ppu.table.A l.ppu.table.length q.ppu.table.c, .slice q.ppu.dots.A l.ppu.dots.length q.ppu.dots.c, .int .i64 l.apu.t, .int .i64 l.apu.p, .int .i64 l.apu.c, .int .i64 l.apu.b, .int .i64 l.apu.l, .bool l.apu.k, .bool l.apu.i, .bool l.pad.h, .int .i64 l.pad.s, .bool l.nmi, .int .i64 l.steps, .slice q.obs.frames.s.A l.obs.frames.length q.obs.frames.s.c, .slice q.obs.samples.A l.obs.samples.length q.obs.samples.c, .slice q.obs.reads.A l.obs.reads.length q.obs.reads.c]] w fun e w' => e = .returned (.bool l.ok) ∧ Below w.heap.size w w' := by
  have H := St.nil w []
  have hm := hx.obs.samples.2.1
  cases h4 : l.ppu.ok
  · go_enter Tryz.func40, Tryz.ntmps40; (try simp only [List.append_eq, List.cons_append, List.nil_append])
    go_wp2_with (first | (go_at_call 102; (with_reducible refine (spec_MemOk l.img q.img l.mem q.mem _ (hx.img.on H) (hx.mem.on H)).mono ?_); rintro e w1 ⟨rfl, hb⟩; (replace H := H.callB hb; clear hb)) | (go_at_call 101; (with_reducible refine (spec_PadsOk _ _ l.pads _ (hx.pads.on H)).mono ?_); rintro e w1 ⟨rfl, rfl⟩) | (go_at_call 103; (with_reducible refine (spec_CpuOk l.cpu _).mono ?_); rintro e w1 ⟨rfl, hb⟩; (replace H := H.callB hb; clear hb)) | (go_at_call 104; (with_reducible refine (spec_PpuOk l.ppu q.ppu _ (hx.ppu.on H)).mono ?_); rintro e w1 ⟨rfl, hb⟩; rw [h4]; (replace H := H.callB hb; clear hb)) | (go_at_call 105; (with_reducible refine (spec_ApuOk l.apu _).mono ?_); rintro e w1 ⟨rfl, hb⟩; (replace H := H.callB hb; clear hb)) | (go_at_call 106; (with_reducible refine (spec_l5Byte _ _).mono ?_); rintro e w1 ⟨rfl, rfl⟩) | (go_at_call 107; (with_reducible refine (spec_l1In _ _ _ _).mono ?_); rintro e w1 ⟨rfl, rfl⟩) | ((with_reducible refine g_box rfl ?_); refine eBa H ?_; clear H; intro g_ W_ H) | ((with_reducible refine g_load rfl ?_); first | refine eL1 H ?_ | refine eLa H ?_))
    all_goals (go_ret; exact ⟨ret_b (by simp [LockD.ok, *]), H.below⟩)
  · have b01 := (PpuD.ok_at h4).1
    obtain ⟨b0, b1⟩ := b01
    cases hT : (l.apu.t == l.ppu.t)
    all_goals
      have hT2 := hT
      rw [Bool.beq_comm] at hT2
      go_enter Tryz.func40, Tryz.ntmps40; (try simp only [List.append_eq, List.cons_append, List.nil_append])
      go_wp2_with (first | (go_at_call 102; (with_reducible refine (spec_MemOk l.img q.img l.mem q.mem _ (hx.img.on H) (hx.mem.on H)).mono ?_); rintro e w1 ⟨rfl, hb⟩; (replace H := H.callB hb; clear hb)) | (go_at_call 101; (with_reducible refine (spec_PadsOk _ _ l.pads _ (hx.pads.on H)).mono ?_); rintro e w1 ⟨rfl, rfl⟩) | (go_at_call 103; (with_reducible refine (spec_CpuOk l.cpu _).mono ?_); rintro e w1 ⟨rfl, hb⟩; (replace H := H.callB hb; clear hb)) | (go_at_call 104; (with_reducible refine (spec_PpuOk l.ppu q.ppu _ (hx.ppu.on H)).mono ?_); rintro e w1 ⟨rfl, hb⟩; rw [h4]; (replace H := H.callB hb; clear hb)) | (go_at_call 105; (with_reducible refine (spec_ApuOk l.apu _).mono ?_); rintro e w1 ⟨rfl, hb⟩; (replace H := H.callB hb; clear hb)) | (go_at_call 106; (with_reducible refine (spec_l5Byte _ _).mono ?_); rintro e w1 ⟨rfl, rfl⟩) | (go_at_call 107; (with_reducible refine (spec_l1In _ _ _ _).mono ?_); rintro e w1 ⟨rfl, rfl⟩) | (go_at_call 108; (with_reducible refine (spec_l12FramesOk q.obs.frames l.obs.frames l.ppu.t _ (hx.obs.frames.on H) b0 b1).mono ?_); rintro e w1 ⟨rfl, rfl⟩) | ((with_reducible refine g_box rfl ?_); refine eBa H ?_; clear H; intro g_ W_ H) | ((with_reducible refine g_load rfl ?_); first | refine eL1 H ?_ | refine eLa H ?_))
      all_goals (go_ret; exact ⟨ret_b (by simp [LockD.ok, *]), H.below⟩)
def SplitD.parts (s : SplitD) : Bool := s.mem.ok s.img && (padsB s.pads && (s.cpu.ok && (s.picture.ok && s.sound.ok)))
end Go.Proofs.YtjgggmcnbdjdjaaGreat.C

