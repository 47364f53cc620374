/- What PpuWrite, PpuRead tell. -/
import Derived.Test.YtjgggmcnbdjdjaaGreatV
import Derived.Test.YtjgggmcnbdjdjaaGreatY4
namespace Go.Proofs.YtjgggmcnbdjdjaaGreat.C
open Go.RowKit Go.Proofs.YtjgggmcnbdjdjaaGreat.K Go.Proofs.YtjgggmcnbdjdjaaGreat.B
attribute [local go_sem] max2_int min2_int max_two min_two i64_and255 i64_and65535 i64_and1
set_option maxRecDepth 20000
set_option linter.unusedVariables false
set_option linter.unusedSimpArgs false
def PpuD.write (x : PpuD) (r v : Int) : PpuD := if x.ok = true then x.wr r v else x
def PpuD.read (x : PpuD) (r : Int) : PpuD := if x.ok = true then x.rdx r else x
def PpuD.says (x : PpuD) (r : Int) : Int := if x.ok = true then x.rdv r else 0
theorem PpuD.wr_dots (x : PpuD) (r v : Int) : (x.wr r v).dots = x.dots := by unfold PpuD.wr; (repeat' split) <;> rfl
theorem PpuD.rdx_dots (x : PpuD) (r : Int) : (x.rdx r).dots = x.dots := by unfold PpuD.rdx; (repeat' split) <;> rfl
theorem PpuD.rdx_table (x : PpuD) (r : Int) : (x.rdx r).table = x.table := by unfold PpuD.rdx; (repeat' split) <;> rfl
theorem PpuD.wr_len (x : PpuD) (r v : Int) : (x.wr r v).table.length = x.table.length := by unfold PpuD.wr PpuD.poke; (repeat' split) <;> simp
theorem PpuD.write_mk {x : PpuD} (h : PpuSmall x) (r v : Int) : (x.write r v).mk_ ≤ 100000000 := by
  have h1 := h.table
  have h2 := h.dots
  unfold PpuD.write PpuD.mk_
  split
  · rw [PpuD.wr_len, PpuD.wr_dots]; omega
  · omega
theorem PpuD.read_mk {x : PpuD} (h : PpuSmall x) (r : Int) : (x.read r).mk_ ≤ 100000000 := by
  have h1 := h.table
  have h2 := h.dots
  unfold PpuD.read PpuD.mk_
  split
  · rw [PpuD.rdx_table, PpuD.rdx_dots]; omega
  · omega
set_option maxHeartbeats 8000000 in
theorem spec_PpuWrite (x : PpuD) (q : PpuP) (r v : Int) (w : World) (hx : PpuIn w x q) (hs : PpuSmall x) : Calls Tryz.prog 132 #[.agg #[.int .i64 x.t, .int .i64 x.ctrl, .int .i64 x.scroll, .int .i64 x.addr, .int .i64 x.pal, .bool x.blank, .slice q.table.A x.table.length q.table.c, .slice q.dots.A x.dots.length q.dots.c], .int .i64 r, .int .i64 v] w fun e w' => ∃ q', e = .returned (.agg #[.int .i64 (x.write r v).t, .int .i64 (x.write r v).ctrl, .int .i64 (x.write r v).scroll, .int .i64 (x.write r v).addr, .int .i64 (x.write r v).pal, .bool (x.write r v).blank, .slice q'.table.A (x.write r v).table.length q'.table.c, .slice q'.dots.A (x.write r v).dots.length q'.dots.c]) ∧ St w [] w' [ppuA (x.write r v) q'] := by
  have H := St.nil w []
  cases h : x.ok
  · have hw : x.write r v = x := by simp [PpuD.write, h]
    rw [hw]
    clear hw
    go_enter Tryz.func132, Tryz.ntmps132
    go_wp2_with (first | ((with_reducible refine g_box rfl ?_); refine eBa H ?_; clear H; intro g_ W_ H) | ((with_reducible refine g_alloc rfl ?_); refine eNw H ?_; clear H; intro g_ W_ H) | ((with_reducible refine g_load rfl ?_); first | refine eL1 H ?_ | refine eLa H ?_) | ((with_reducible refine g_store rfl ?_); (first | refine eSi H ?_ | refine eSa H ?_); clear H; intro W_ H) | (go_at_call 99; (with_reducible refine (spec_l8Copy x _ _ (hx.on H) hs).mono ?_); rintro e w1 ⟨q1, rfl, kq⟩; have H_ := H.call kq; simp only [List.cons_append, List.nil_append] at H_; (clear H; have H := H_; clear H_); have H_ := St.opn (l1 := [intsA q1.table x.table, intsA q1.dots x.dots]) H; simp only [List.cons_append, List.nil_append] at H_; (clear H; have H := H_; clear H_); clear kq) | (go_at_call 104; (with_reducible refine (spec_PpuOk x _ _ (hx.on H)).mono ?_); rintro e w1 ⟨rfl, hb⟩; rw [h]; (replace H := H.callB hb; clear hb)))
    refine' back1 Tryz.results132 ?_ rfl ⟨q1, ?_, (H.pack (l1 := [intsA q1.table x.table, intsA q1.dots x.dots]) pksA).take (Picks.cons Pick.here Picks.nil)⟩; rotate_left 1; exact rvA
    rfl
  · have hw : x.write r v = x.wr r v := by simp [PpuD.write, h]
    rw [hw]
    clear hw
    obtain ⟨_, _, _, ⟨b1, b2⟩, _, b3, _⟩ := PpuD.ok_at h
    have HL := Lib.hid b3
    clear b3
    have e1 : 0 ≤ v % 256 := by omega
    have e2 : x.addr < 16 := by omega
    have e4 : 0 ≤ x.addr + 1 := by omega
    by_cases r4 : r = 4
    · subst r4
      have hw : x.wr 4 v = x.poke (v % 256) := by simp [PpuD.wr]
      rw [hw]
      clear hw
      have hbt : x.addr.toNat < x.table.length := by have := HL.out; omega
      have hbl : x.addr < (x.table.length : Int) := by have := HL.out; omega
      have e3 : 0 ≤ v % 256 % 64 := by omega
      go_enter Tryz.func132, Tryz.ntmps132
      go_upto_region 4 with (first | ((with_reducible refine g_box rfl ?_); refine eBa H ?_; clear H; intro g_ W_ H) | ((with_reducible refine g_alloc rfl ?_); refine eNw H ?_; clear H; intro g_ W_ H) | ((with_reducible refine g_load rfl ?_); first | refine eL1 H ?_ | refine eLa H ?_) | ((with_reducible refine g_store rfl ?_); (first | refine eSi H ?_ | refine eSa H ?_); clear H; intro W_ H) | (go_at_call 104; (with_reducible refine (spec_PpuOk x _ _ (hx.on H)).mono ?_); rintro e w1 ⟨rfl, hb⟩; rw [h]; (replace H := H.callB hb; clear hb)) | (go_at_call 99; (with_reducible refine (spec_l8Copy x _ _ (hx.on H) hs).mono ?_); rintro e w1 ⟨q1, rfl, kq⟩; have H_ := H.call kq; simp only [List.cons_append, List.nil_append] at H_; (clear H; have H := H_; clear H_); have H_ := St.opn (l1 := [intsA q1.table x.table, intsA q1.dots x.dots]) H; simp only [List.cons_append, List.nil_append] at H_; (clear H; have H := H_; clear H_); clear kq))
      obtain ⟨g1, hA1, hc1⟩ := own_some (H.get (x := intsA q1.table x.table) pkA) (by have := HL.out; omega)
      obtain ⟨⟨A1, c1⟩, q2⟩ := q1
      (try simp only at hA1)
      (try simp only at hc1)
      subst hA1
      have hc2 : 16 ≤ c1 := by have := HL.out; omega
      clear hc1
      go_wp2_with (first | ((with_reducible refine g_store rfl ?_); refine' ev_store_own (v := .int _ _) H rfl rfl rfl rfl rfl ?_ ?_ ?_ ?_ ?_ ?_ ?_; rotate_left 8; (focus exact pkA); (focus exact szT rfl); (focus rfl); (focus (rw [nums_length]; omega)); (focus rfl); (focus exact nums_set x.table x.addr.toNat _ (by omega)); intro W_ H_; rw [own_set] at H_; (clear H; have H := H_; clear H_)) | ((with_reducible refine g_box rfl ?_); refine eBa H ?_; clear H; intro g_ W_ H) | ((with_reducible refine g_alloc rfl ?_); refine eNw H ?_; clear H; intro g_ W_ H) | ((with_reducible refine g_load rfl ?_); first | refine eL1 H ?_ | refine eLa H ?_) | ((with_reducible refine g_store rfl ?_); (first | refine eSi H ?_ | refine eSa H ?_); clear H; intro W_ H) | (go_at_call 191; (with_reducible refine (spec_Byte _ _).mono ?_); rintro e w1 ⟨rfl, rfl⟩))
      refine' back1 Tryz.results132 ?_ rfl ⟨⟨⟨some ⟨g1, 0, none⟩, c1⟩, q2⟩, ?_, (H.pack (l1 := [intsA ⟨some ⟨g1, 0, none⟩, c1⟩ (x.table.set x.addr.toNat (v % 256 % 64)), intsA q2 x.dots]) pksA).take (Picks.cons Pick.here Picks.nil)⟩; rotate_left 1; exact rvA
      simp [PpuD.poke]
    · have hcase : (r = 0 ∨ r = 1 ∨ r = 3 ∨ r = 5) ∨ (¬ r = 0 ∧ ¬ r = 1 ∧ ¬ r = 3 ∧ ¬ r = 5) := by omega
      rcases hcase with (rfl | rfl | rfl | rfl) | ⟨r0, r1, r3, r5⟩
      iterate 4
        clear r4
        go_enter Tryz.func132, Tryz.ntmps132
        go_wp2_with (first | ((with_reducible refine g_box rfl ?_); refine eBa H ?_; clear H; intro g_ W_ H) | ((with_reducible refine g_alloc rfl ?_); refine eNw H ?_; clear H; intro g_ W_ H) | ((with_reducible refine g_load rfl ?_); first | refine eL1 H ?_ | refine eLa H ?_) | ((with_reducible refine g_store rfl ?_); (first | refine eSi H ?_ | refine eSa H ?_); clear H; intro W_ H) | (go_at_call 99; (with_reducible refine (spec_l8Copy x _ _ (hx.on H) hs).mono ?_); rintro e w1 ⟨q1, rfl, kq⟩; have H_ := H.call kq; simp only [List.cons_append, List.nil_append] at H_; (clear H; have H := H_; clear H_); have H_ := St.opn (l1 := [intsA q1.table x.table, intsA q1.dots x.dots]) H; simp only [List.cons_append, List.nil_append] at H_; (clear H; have H := H_; clear H_); clear kq) | (go_at_call 104; (with_reducible refine (spec_PpuOk x _ _ (hx.on H)).mono ?_); rintro e w1 ⟨rfl, hb⟩; rw [h]; (replace H := H.callB hb; clear hb)) | (go_at_call 191; (with_reducible refine (spec_Byte _ _).mono ?_); rintro e w1 ⟨rfl, rfl⟩))
        refine' back1 Tryz.results132 ?_ rfl ⟨q1, ?_, (H.pack (l1 := [intsA q1.table x.table, intsA q1.dots x.dots]) pksA).take (Picks.cons Pick.here Picks.nil)⟩; rotate_left 1; exact rvA
        rfl
      have s0 : (r == 0) = false := by simp [r0]
      have s1 : (r == 1) = false := by simp [r1]
      have s3 : (r == 3) = false := by simp [r3]
      have s4 : (r == 4) = false := by simp [r4]
      have s5 : (r == 5) = false := by simp [r5]
      have hw : x.wr r v = x := by simp [PpuD.wr, r0, r1, r3, r4, r5]
      rw [hw]
      clear r0 r1 r3 r4 r5 hw
      go_enter Tryz.func132, Tryz.ntmps132
      go_wp2_with (first | ((with_reducible refine g_box rfl ?_); refine eBa H ?_; clear H; intro g_ W_ H) | ((with_reducible refine g_alloc rfl ?_); refine eNw H ?_; clear H; intro g_ W_ H) | ((with_reducible refine g_load rfl ?_); first | refine eL1 H ?_ | refine eLa H ?_) | ((with_reducible refine g_store rfl ?_); (first | refine eSi H ?_ | refine eSa H ?_); clear H; intro W_ H) | (go_at_call 99; (with_reducible refine (spec_l8Copy x _ _ (hx.on H) hs).mono ?_); rintro e w1 ⟨q1, rfl, kq⟩; have H_ := H.call kq; simp only [List.cons_append, List.nil_append] at H_; (clear H; have H := H_; clear H_); have H_ := St.opn (l1 := [intsA q1.table x.table, intsA q1.dots x.dots]) H; simp only [List.cons_append, List.nil_append] at H_; (clear H; have H := H_; clear H_); clear kq) | (go_at_call 104; (with_reducible refine (spec_PpuOk x _ _ (hx.on H)).mono ?_); rintro e w1 ⟨rfl, hb⟩; rw [h]; (replace H := H.callB hb; clear hb)) | (go_at_call 191; (with_reducible refine (spec_Byte _ _).mono ?_); rintro e w1 ⟨rfl, rfl⟩))
      refine' back1 Tryz.results132 ?_ rfl ⟨q1, ?_, (H.pack (l1 := [intsA q1.table x.table, intsA q1.dots x.dots]) pksA).take (Picks.cons Pick.here Picks.nil)⟩; rotate_left 1; exact rvA
      rfl
set_option maxHeartbeats 4000000 in
theorem spec_PpuRead (x : PpuD) (q : PpuP) (r : Int) (w : World) (hx : PpuIn w x q) (hs : PpuSmall x) : Calls Tryz.prog 110 #[.agg #[.int .i64 x.t, .int .i64 x.ctrl, .int .i64 x.scroll, .int .i64 x.addr, .int .i64 x.pal, .bool x.blank, .slice q.table.A x.table.length q.table.c, .slice q.dots.A x.dots.length q.dots.c], .int .i64 r] w fun e w' => ∃ q', e = .returned (.tuple #[.agg #[.int .i64 (x.read r).t, .int .i64 (x.read r).ctrl, .int .i64 (x.read r).scroll, .int .i64 (x.read r).addr, .int .i64 (x.read r).pal, .bool (x.read r).blank, .slice q'.table.A (x.read r).table.length q'.table.c, .slice q'.dots.A (x.read r).dots.length q'.dots.c], .int .i64 (x.says r)]) ∧ St w [] w' [ppuA (x.read r) q'] := by
  have H := St.nil w []
  cases h : x.ok
  · have hw : x.read r = x := by simp [PpuD.read, h]
    have hv : x.says r = 0 := by simp [PpuD.says, h]
    rw [hw, hv]
    clear hw hv
    go_enter Tryz.func110, Tryz.ntmps110
    go_wp2_with (first | ((with_reducible refine g_box rfl ?_); refine eBa H ?_; clear H; intro g_ W_ H) | ((with_reducible refine g_alloc rfl ?_); refine eNw H ?_; clear H; intro g_ W_ H) | ((with_reducible refine g_load rfl ?_); first | refine eL1 H ?_ | refine eLa H ?_) | ((with_reducible refine g_store rfl ?_); (first | refine eSi H ?_ | refine eSb H ?_ | refine eSa H ?_); clear H; intro W_ H) | (go_at_call 99; (with_reducible refine (spec_l8Copy x _ _ (hx.on H) hs).mono ?_); rintro e w1 ⟨q1, rfl, kq⟩; have H_ := H.call kq; simp only [List.cons_append, List.nil_append] at H_; (clear H; have H := H_; clear H_); have H_ := St.opn (l1 := [intsA q1.table x.table, intsA q1.dots x.dots]) H; simp only [List.cons_append, List.nil_append] at H_; (clear H; have H := H_; clear H_); clear kq) | (go_at_call 104; (with_reducible refine (spec_PpuOk x _ _ (hx.on H)).mono ?_); rintro e w1 ⟨rfl, hb⟩; rw [h]; (replace H := H.callB hb; clear hb)))
    refine' back2 Tryz.results110 ?_ ?_ rfl ⟨q1, ?_, (H.pack (l1 := [intsA q1.table x.table, intsA q1.dots x.dots]) pksA).take (Picks.cons Pick.here Picks.nil)⟩; rotate_left 2; exact rvA; exact rvA
    rfl
  · have hw : x.read r = x.rdx r := by simp [PpuD.read, h]
    have hv : x.says r = x.rdv r := by simp [PpuD.says, h]
    rw [hw, hv]
    clear hw hv
    obtain ⟨_, _, _, ⟨b1, b2⟩, _, b3, _⟩ := PpuD.ok_at h
    have HL := Lib.hid b3
    clear b3
    have e4 : 0 ≤ x.addr + 1 := by omega
    by_cases r2 : r = 2
    · subst r2
      have hv : x.rdv 2 = 128 * (if x.blank = true then 1 else 0) := rfl
      rw [hv]
      clear hv
      have hb0 : (0 : Int) ≤ (if x.blank = true then 1 else 0) := by split <;> omega
      have hb1 : (if x.blank = true then (1 : Int) else 0) ≤ 1 := by split <;> omega
      go_enter Tryz.func110, Tryz.ntmps110
      go_wp2_with (first | ((with_reducible refine g_box rfl ?_); refine eBa H ?_; clear H; intro g_ W_ H) | ((with_reducible refine g_alloc rfl ?_); refine eNw H ?_; clear H; intro g_ W_ H) | ((with_reducible refine g_load rfl ?_); first | refine eL1 H ?_ | refine eLa H ?_) | ((with_reducible refine g_store rfl ?_); (first | refine eSi H ?_ | refine eSb H ?_ | refine eSa H ?_); clear H; intro W_ H) | (go_at_call 99; (with_reducible refine (spec_l8Copy x _ _ (hx.on H) hs).mono ?_); rintro e w1 ⟨q1, rfl, kq⟩; have H_ := H.call kq; simp only [List.cons_append, List.nil_append] at H_; (clear H; have H := H_; clear H_); have H_ := St.opn (l1 := [intsA q1.table x.table, intsA q1.dots x.dots]) H; simp only [List.cons_append, List.nil_append] at H_; (clear H; have H := H_; clear H_); clear kq) | (go_at_call 104; (with_reducible refine (spec_PpuOk x _ _ (hx.on H)).mono ?_); rintro e w1 ⟨rfl, hb⟩; rw [h]; (replace H := H.callB hb; clear hb)))
      (with_reducible refine g_draw ?_)
      try simp only [Act.put, List.setIfInBounds_toArray, List.set_cons_succ, List.set_cons_zero]
      refine F_begin (ls := #[false, false, false, false, false, false, false]) (by kernel_rfl) rfl (by kernel_rfl) ?_
      have H_ := H.drew
      (clear H; have H := H_; clear H_)
      refine T_go [(1, 0, 17), (0, 1, 18), (1, 2, 19), (0, 3, 20), (0, 4, 21)] ?_; (repeat (first | (refine' T_pure _ rfl rfl (by kernel_rfl) (Nat.le_of_ble_eq_true (by kernel_rfl)) (fun w2_ K_ hK_ => ?_) ?_; rotate_left 1; focus ((conv => (arg 4; arg 1; whnf)); (repeat (first | exact hK_ rfl | (go_big_may; (first | (go_at_call 181; (with_reducible refine (spec_l1Bit _ _).mono ?_); rintro e w1 ⟨rfl, rfl⟩) | ((with_reducible refine g_load rfl ?_); first | refine eL1 H ?_ | refine eLa H ?_))) | go_step | go_guarded | go_upon | dsimp only)); done)) | (refine' T_read _ rfl rfl (by kernel_rfl) (Nat.le_of_ble_eq_true (by kernel_rfl)) (fun K_ hK_ => ?_) ?_; rotate_left 1; focus ((conv => (arg 4; arg 1; whnf)); (repeat (first | exact hK_ rfl | (go_big_may; (first | (go_at_call 181; (with_reducible refine (spec_l1Bit _ _).mono ?_); rintro e w1 ⟨rfl, rfl⟩) | ((with_reducible refine g_load rfl ?_); first | refine eL1 H ?_ | refine eLa H ?_))) | go_step | go_guarded | go_upon | dsimp only)); done)))); refine T_end ?_
      refine F_eA (ls' := #[true, true, true, true, true, true, false]) (pend' := []) 5 ?_; intro K_ hK_; (conv => (arg 4; arg 1; whnf)); (repeat (first | refine hK_ _ _ rfl ?_ ?_ | (go_big_may; ((with_reducible refine g_store rfl ?_); (first | refine eSi H ?_ | refine eSb H ?_ | refine eSa H ?_); clear H; intro W_ H)) | go_step | go_guarded | go_upon | dsimp only)); exact kept_nil
      refine T_go [(0, 6, 5)] ?_; (repeat (refine T_pA ?_)); refine T_end ?_
      refine F_done (by kernel_rfl) ?_
      all_goals go_wp2
      all_goals (refine' back2 Tryz.results110 ?_ ?_ rfl ⟨q1, ?_, (H.pack (l1 := [intsA q1.table x.table, intsA q1.dots x.dots]) pksA).take (Picks.cons Pick.here Picks.nil)⟩; rotate_left 2; exact rvA; exact rvA; rfl)
    by_cases r4 : r = 4
    · subst r4
      clear r2
      have hv : x.rdv 4 = rd x.table x.addr.toNat := rfl
      rw [hv]
      have hbt : x.addr.toNat < x.table.length := by have := HL.out; omega
      have hbl : x.addr < (x.table.length : Int) := by have := HL.out; omega
      obtain ⟨⟨A1, c1⟩, q2⟩ := q
      have ht := hx.table
      simp only at ht
      obtain ⟨ad, hA, _⟩ := ht.cell H hbt
      subst hA
      have hcell : ∀ {W : World} {l : List Ast}, St w [] W l → W.cell? (ad.add x.addr.toNat) = some (.int .i64 (rd x.table x.addr.toNat)) := fun H' => by
        obtain ⟨ad', h1, h2⟩ := ht.cell H' hbt
        injection h1 with h1; subst h1; exact h2
      have hc1 := ht.1
      go_enter Tryz.func110, Tryz.ntmps110
      go_wp2_with (first | ((with_reducible refine g_box rfl ?_); refine eBa H ?_; clear H; intro g_ W_ H) | ((with_reducible refine g_alloc rfl ?_); refine eNw H ?_; clear H; intro g_ W_ H) | ((with_reducible refine g_load rfl ?_); first | refine eL1 H ?_ | refine eLa H ?_) | ((with_reducible refine g_store rfl ?_); (first | refine eSi H ?_ | refine eSb H ?_ | refine eSa H ?_); clear H; intro W_ H) | (go_at_call 99; (with_reducible refine (spec_l8Copy x _ _ (hx.on H) hs).mono ?_); rintro e w1 ⟨q1, rfl, kq⟩; have H_ := H.call kq; simp only [List.cons_append, List.nil_append] at H_; (clear H; have H := H_; clear H_); have H_ := St.opn (l1 := [intsA q1.table x.table, intsA q1.dots x.dots]) H; simp only [List.cons_append, List.nil_append] at H_; (clear H; have H := H_; clear H_); clear kq) | (go_at_call 104; (with_reducible refine (spec_PpuOk x _ _ (hx.on H)).mono ?_); rintro e w1 ⟨rfl, hb⟩; rw [h]; (replace H := H.callB hb; clear hb)))
      (with_reducible refine g_draw ?_)
      try simp only [Act.put, List.setIfInBounds_toArray, List.set_cons_succ, List.set_cons_zero]
      refine F_begin (ls := #[false, false, false, false, false, false, false, false, false]) (by kernel_rfl) rfl (by kernel_rfl) ?_
      have H_ := H.drew
      (clear H; have H := H_; clear H_)
      refine T_go [(1, 0, 29), (0, 1, 30), (1, 2, 31), (0, 3, 32), (1, 4, 33), (0, 5, 34), (1, 6, 35)] ?_; (repeat (first | refine T_pA ?_ | (refine' T_read _ rfl rfl (by kernel_rfl) (Nat.le_of_ble_eq_true (by kernel_rfl)) (fun K_ hK_ => ?_) ?_; rotate_left 1; focus ((conv => (arg 4; arg 1; whnf)); (repeat (first | exact hK_ rfl | (go_big_may; (first | ((with_reducible refine g_load rfl ?_); refine ev_load_in_one rfl rfl rfl (oneT rfl) (hcell H) ?_) | ((with_reducible refine g_load rfl ?_); first | refine eL1 H ?_ | refine eLa H ?_))) | go_step | go_guarded | go_upon | dsimp only)); done)))); refine T_end ?_
      refine F_eA (ls' := #[true, true, true, true, true, true, true, true, false]) (pend' := [6, 4, 2]) 7 ?_; intro K_ hK_; (conv => (arg 4; arg 1; whnf)); (repeat (first | refine hK_ _ _ rfl ?_ ?_ | (go_big_may; ((with_reducible refine g_store rfl ?_); (first | refine eSi H ?_ | refine eSb H ?_ | refine eSa H ?_); clear H; intro W_ H)) | go_step | go_guarded | go_upon | dsimp only)); (focus (refine kept_cons 6 35 _ rfl rfl (Nat.le_of_ble_eq_true (by kernel_rfl)) (fun K_ hK_ => ?_) ?_; (focus ((conv => (arg 4; arg 1; whnf)); repeat (first | exact hK_ rfl | (go_big_may; (first | ((with_reducible refine g_load rfl ?_); refine ev_load_in_one rfl rfl rfl (oneT rfl) (hcell H) ?_) | ((with_reducible refine g_load rfl ?_); first | refine eL1 H ?_ | refine eLa H ?_))) | go_step | go_guarded | go_upon | dsimp only))); refine kept_cons 4 33 _ rfl rfl (Nat.le_of_ble_eq_true (by kernel_rfl)) (fun K_ hK_ => ?_) ?_; (focus ((conv => (arg 4; arg 1; whnf)); repeat (first | exact hK_ rfl | (go_big_may; (first | ((with_reducible refine g_load rfl ?_); refine ev_load_in_one rfl rfl rfl (oneT rfl) (hcell H) ?_) | ((with_reducible refine g_load rfl ?_); first | refine eL1 H ?_ | refine eLa H ?_))) | go_step | go_guarded | go_upon | dsimp only))); refine kept_cons 2 31 _ rfl rfl (Nat.le_of_ble_eq_true (by kernel_rfl)) (fun K_ hK_ => ?_) ?_; (focus ((conv => (arg 4; arg 1; whnf)); repeat (first | exact hK_ rfl | (go_big_may; (first | ((with_reducible refine g_load rfl ?_); refine ev_load_in_one rfl rfl rfl (oneT rfl) (hcell H) ?_) | ((with_reducible refine g_load rfl ?_); first | refine eL1 H ?_ | refine eLa H ?_))) | go_step | go_guarded | go_upon | dsimp only))); exact kept_nil))
      refine T_go [(0, 8, 5)] ?_; (repeat (refine T_pA ?_)); refine T_end ?_
      refine F_done (by kernel_rfl) ?_
      go_wp2
      refine' back2 Tryz.results110 ?_ ?_ rfl ⟨q1, ?_, (H.pack (l1 := [intsA q1.table x.table, intsA q1.dots x.dots]) pksA).take (Picks.cons Pick.here Picks.nil)⟩; rotate_left 2; exact rvA; exact rvA
      rfl
    · have s2 : (r == 2) = false := by simp [r2]
      have s4 : (r == 4) = false := by simp [r4]
      have hw : x.rdx r = x := by simp [PpuD.rdx, r2, r4]
      have hv : x.rdv r = 0 := by simp [PpuD.rdv, r2, r4]
      rw [hw, hv]
      clear r2 r4 hw hv
      go_enter Tryz.func110, Tryz.ntmps110
      go_wp2_with (first | ((with_reducible refine g_box rfl ?_); refine eBa H ?_; clear H; intro g_ W_ H) | ((with_reducible refine g_alloc rfl ?_); refine eNw H ?_; clear H; intro g_ W_ H) | ((with_reducible refine g_load rfl ?_); first | refine eL1 H ?_ | refine eLa H ?_) | ((with_reducible refine g_store rfl ?_); (first | refine eSi H ?_ | refine eSb H ?_ | refine eSa H ?_); clear H; intro W_ H) | (go_at_call 99; (with_reducible refine (spec_l8Copy x _ _ (hx.on H) hs).mono ?_); rintro e w1 ⟨q1, rfl, kq⟩; have H_ := H.call kq; simp only [List.cons_append, List.nil_append] at H_; (clear H; have H := H_; clear H_); have H_ := St.opn (l1 := [intsA q1.table x.table, intsA q1.dots x.dots]) H; simp only [List.cons_append, List.nil_append] at H_; (clear H; have H := H_; clear H_); clear kq) | (go_at_call 104; (with_reducible refine (spec_PpuOk x _ _ (hx.on H)).mono ?_); rintro e w1 ⟨rfl, hb⟩; rw [h]; (replace H := H.callB hb; clear hb)))
      refine' back2 Tryz.results110 ?_ ?_ rfl ⟨q1, ?_, (H.pack (l1 := [intsA q1.table x.table, intsA q1.dots x.dots]) pksA).take (Picks.cons Pick.here Picks.nil)⟩; rotate_left 2; exact rvA; exact rvA
      rfl
end Go.Proofs.YtjgggmcnbdjdjaaGreat.C

/- What PpuTick tells. -/
namespace Go.Proofs.YtjgggmcnbdjdjaaGreat.C
open Go.RowKit Go.Proofs.YtjgggmcnbdjdjaaGreat.K Go.Proofs.YtjgggmcnbdjdjaaGreat.B
attribute [local go_sem] max2_int min2_int max_two min_two i64_and255 i64_and65535 i64_and1
set_option maxRecDepth 20000
set_option linter.unusedVariables false
set_option linter.unusedSimpArgs false
def PpuD.zero : PpuD := ⟨0, 0, 0, 0, 0, false, [], []⟩
def PpuD.tick (x : PpuD) : PpuD := if x.ok = true then (if (x.t == 20000) = true then x else x.tk) else PpuD.zero
def PpuD.tickF (x : PpuD) : List Int := if x.ok = true then (if (x.t == 20000) = true then [] else x.frame) else []
def PpuD.tickA (x : PpuD) : Bool := if x.ok = true then (if (x.t == 20000) = true then false else x.asks) else false
theorem PpuD.tk_table (x : PpuD) : x.tk.table = x.table := by unfold PpuD.tk; (repeat' split) <;> rfl
set_option maxHeartbeats 1000000 in
theorem spec_l8Tick (x : PpuD) (q : PpuP) (w : World) (hx : PpuIn w x q) (hs : PpuSmall x) (hok : x.ok = true) : Calls Tryz.prog 195 #[.agg #[.int .i64 x.t, .int .i64 x.ctrl, .int .i64 x.scroll, .int .i64 x.addr, .int .i64 x.pal, .bool x.blank, .slice q.table.A x.table.length q.table.c, .slice q.dots.A x.dots.length q.dots.c]] w fun e w' => ∃ (q' : PpuP) (qf : Sl), e = .returned (.tuple #[.agg #[.int .i64 x.tick.t, .int .i64 x.tick.ctrl, .int .i64 x.tick.scroll, .int .i64 x.tick.addr, .int .i64 x.tick.pal, .bool x.tick.blank, .slice q'.table.A x.tick.table.length q'.table.c, .slice q'.dots.A x.tick.dots.length q'.dots.c], .slice qf.A x.tickF.length qf.c, .bool x.tickA]) ∧ St w [] w' [ppuA x.tick q', intsA qf x.tickF] := by
  have H := St.nil w []
  have hd := hx.dots
  have ht := hx.table
  have hsd := hs.dots
  obtain ⟨⟨t0, t1⟩, ⟨c0, c1⟩, ⟨s0, s1⟩, _, _, b3, _, b4, _⟩ := PpuD.ok_at hok
  have HL := Lib.hid b3
  have HD := Lib.hid b4
  clear b3 b4
  have u0 : 0 ≤ x.t % 64 := by omega
  have u1 : x.t % 64 < 64 := by omega
  cases h2 : (x.t == 20000)
  case true =>
    have hw1 : x.tick = x := by simp [PpuD.tick, hok, h2]
    have hw2 : x.tickF = [] := by simp [PpuD.tickF, hok, h2]
    have hw3 : x.tickA = false := by simp [PpuD.tickA, hok, h2]
    rw [hw1, hw2, hw3]
    clear hw1 hw2 hw3
    go_enter Tryz.func195, Tryz.ntmps195
    go_wp2_with (first | ((with_reducible refine g_box rfl ?_); refine eBa H ?_; clear H; intro g_ W_ H) | ((with_reducible refine g_alloc rfl ?_); refine eNw H ?_; clear H; intro g_ W_ H) | ((with_reducible refine g_load rfl ?_); first | refine eL1 H ?_ | refine eLa H ?_) | ((with_reducible refine g_store rfl ?_); (first | refine eSi H ?_ | refine eSb H ?_ | refine eSs H ?_ | refine eSa H ?_); clear H; intro W_ H) | (go_at_call 99; (with_reducible refine (spec_l8Copy x _ _ (hx.on H) hs).mono ?_); rintro e w1 ⟨q1, rfl, kq⟩; have H_ := H.call kq; simp only [List.cons_append, List.nil_append] at H_; (clear H; have H := H_; clear H_); have H_ := St.opn (l1 := [intsA q1.table x.table, intsA q1.dots x.dots]) H; simp only [List.cons_append, List.nil_append] at H_; (clear H; have H := H_; clear H_); clear kq) | ((with_reducible refine g_buildSlice rfl ?_); refine ev_buildSlice0 H rfl rfl Tryz.underlying25 info_int ?_; intro gb_ W_ H_; (clear H; have H := H_; clear H_)))
    refine' back3 Tryz.results195 ?_ ?_ ?_ rfl ⟨q1, ⟨some ⟨gb_, 0, none⟩, 0⟩, ?_, (show St w [] _ [Ast.all _, Ast.own 3 1 (some ⟨gb_, 0, none⟩) 0 0 []] from (St.pack (l1 := [intsA q1.table x.table, intsA q1.dots x.dots]) H pksA).take (Picks.cons Pick.here pksA))⟩; rotate_left 3; exact rvA; exact rvA; exact rvA
    rfl
  have hw1 : x.tick = x.tk := by simp [PpuD.tick, hok, h2]
  have hw2 : x.tickF = x.frame := by simp [PpuD.tickF, hok, h2]
  have hw3 : x.tickA = x.asks := by simp [PpuD.tickA, hok, h2]
  rw [hw1, hw2, hw3]
  clear hw1 hw2 hw3
  rcases (by omega : x.t % 64 < 48 ∨ x.t % 64 = 48 ∨ x.t % 64 = 63 ∨ (48 < x.t % 64 ∧ x.t % 64 < 63)) with hu | hu | hu | ⟨hu, hu'⟩
  · have z1 : (x.t % 64 == 48) = false := by rw [beq_eq_false_iff_ne]; omega
    have hk : x.tk = { x with t := x.t + 1, dots := x.dots ++ [x.dot (x.t % 64)] } := by simp [PpuD.tk, hu]
    have hf : x.frame = [] := by simp [PpuD.frame]; omega
    have h3 : x.asks = false := by simp [PpuD.asks, z1]
    have hdl : x.dots.length ≤ 48 := by have := HD.out; unfold dotsN at this; split at this <;> omega
    rw [hk, hf, h3]
    clear hk hf h3
    go_enter Tryz.func195, Tryz.ntmps195
    go_wp2_with (first | ((with_reducible refine g_box rfl ?_); refine eBa H ?_; clear H; intro g_ W_ H) | ((with_reducible refine g_alloc rfl ?_); refine eNw H ?_; clear H; intro g_ W_ H) | ((with_reducible refine g_load rfl ?_); first | refine eL1 H ?_ | refine eLa H ?_) | ((with_reducible refine g_store rfl ?_); (first | refine eSi H ?_ | refine eSb H ?_ | refine eSs H ?_ | refine eSa H ?_); clear H; intro W_ H) | (go_at_call 99; (with_reducible refine (spec_l8Copy x _ _ (hx.on H) hs).mono ?_); rintro e w1 ⟨q1, rfl, kq⟩; have H_ := H.call kq; simp only [List.cons_append, List.nil_append] at H_; (clear H; have H := H_; clear H_); have H_ := St.opn (l1 := [intsA q1.table x.table, intsA q1.dots x.dots]) H; simp only [List.cons_append, List.nil_append] at H_; (clear H; have H := H_; clear H_); clear kq) | ((with_reducible refine g_buildSlice rfl ?_); refine ev_buildSlice0 H rfl rfl Tryz.underlying25 info_int ?_; intro gb_ W_ H_; (clear H; have H := H_; clear H_)))
    (with_reducible refine g_draw ?_)
    try simp only [Act.put, List.setIfInBounds_toArray, List.set_cons_succ, List.set_cons_zero]
    refine F_begin (ls := #[false, false, false, false, false, false, false, false, false]) (by kernel_rfl) rfl (by kernel_rfl) ?_
    have H_ := H.drew
    (clear H; have H := H_; clear H_)
    refine T_go [(0, 0, 26), (1, 1, 27), (1, 2, 28), (0, 3, 29)] ?_; (repeat (first | refine T_pA ?_ | refine T_rA ?_)); refine T_end ?_
    refine F_eA (ls' := #[true, true, true, true, true, false, false, false, false]) (pend' := [1]) 4 ?_; intro K_ hK_; (conv => (arg 4; arg 1; whnf)); (repeat (first | refine hK_ _ _ rfl ?_ ?_ | (go_big_may; (go_at_call 225; (with_reducible refine (spec_l8Dot x q _ _ (ht.on H) HL.out s0 s1 u0 (by omega)).mono ?_); rintro e w1 ⟨rfl, hb⟩; (replace H := H.callB hb; clear hb))) | go_step | go_guarded | go_upon | dsimp only)); (focus (refine kept_cA 1 27 ?_; exact kept_nil))
    refine F_eA (ls' := #[true, true, true, true, true, true, false, false, false]) (pend' := [1]) 5 ?_; intro K_ hK_; (conv => (arg 4; arg 1; whnf)); (repeat (first | refine hK_ _ _ rfl ?_ ?_ | (go_big_may; ((with_reducible refine g_buildSlice rfl ?_); refine ev_buildSlice1 (v := .int .i64 _) H rfl rfl rfl Tryz.underlying25 info_int (fill_int _) rfl (by decide) (by decide) (by decide) ?_; intro g_ W_ H_; (clear H; have H := H_; clear H_))) | go_step | go_guarded | go_upon | dsimp only)); (focus (refine kept_cA 1 27 ?_; exact kept_nil))
    refine F_eA (ls' := #[true, true, true, true, true, true, true, false, false]) (pend' := []) 6 ?_; intro K_ hK_; (conv => (arg 4; arg 1; whnf)); (repeat (first | refine hK_ _ _ rfl ?_ ?_ | (go_big_may; ((with_reducible refine g_append rfl ?_); refine ev_appendN (xs := nums x.dots) (news := [.int .i64 (x.dot (x.t % 64))]) (N := (x.dots ++ [x.dot (x.t % 64)]).length) (cs' := nums (x.dots ++ [x.dot (x.t % 64)])) H rfl rfl Tryz.underlying25 info_int rfl (by decide) rfl rfl pkA (own_in (H.get pkA)) (fun h => by cases h) rfl rfl (by omega) (by unfold maxLen; omega) (by simp) (by simp [nums]) ?_; intro A_ c_ W_ H_; (clear H; have H := H_; clear H_))) | go_step | go_guarded | go_upon | dsimp only)); exact kept_nil
    refine T_go [(0, 7, 33)] ?_; (repeat (refine T_pA ?_)); refine T_end ?_
    refine F_eA (ls' := #[true, true, true, true, true, true, true, true, true]) (pend' := []) 8 ?_; intro K_ hK_; (conv => (arg 4; arg 1; whnf)); (repeat (first | refine hK_ _ _ rfl ?_ ?_ | (go_big_may; ((with_reducible refine g_store rfl ?_); (first | refine eSi H ?_ | refine eSb H ?_ | refine eSs H ?_ | refine eSa H ?_); clear H; intro W_ H)) | go_step | go_guarded | go_upon | dsimp only)); exact kept_nil
    refine F_done (by kernel_rfl) ?_
    go_wp2_with (first | ((with_reducible refine g_box rfl ?_); refine eBa H ?_; clear H; intro g_ W_ H) | ((with_reducible refine g_alloc rfl ?_); refine eNw H ?_; clear H; intro g_ W_ H) | ((with_reducible refine g_load rfl ?_); first | refine eL1 H ?_ | refine eLa H ?_) | ((with_reducible refine g_store rfl ?_); (first | refine eSi H ?_ | refine eSb H ?_ | refine eSs H ?_ | refine eSa H ?_); clear H; intro W_ H))
    refine' back3 Tryz.results195 ?_ ?_ ?_ rfl ⟨⟨q1.table, ⟨A_, c_⟩⟩, ⟨some ⟨gb_, 0, none⟩, 0⟩, ?_, (show St w [] _ [Ast.all _, Ast.own 3 1 (some ⟨gb_, 0, none⟩) 0 0 []] from (St.pack (l1 := [intsA q1.table x.table, intsA ⟨A_, c_⟩ (x.dots ++ [x.dot (x.t % 64)])]) H pksA).take (Picks.cons Pick.here pksA))⟩; rotate_left 3; exact rvA; exact rvA; exact rvA
    rfl
  · have z1 : (x.t % 64 == 48) = true := by rw [beq_iff_eq]; omega
    have hk : x.tk = { x with t := x.t + 1, blank := true, dots := [] } := by simp [PpuD.tk, hu]
    have hf : x.frame = x.dots := by simp [PpuD.frame, hu]
    have h3 : x.asks = decide (127 < x.ctrl) := by simp [PpuD.asks, z1]
    have hs1 : 48 ≤ x.t % 64 := by omega
    rw [hk, hf, h3]
    clear hk hf h3 hu
    go_enter Tryz.func195, Tryz.ntmps195
    go_wp2_with (first | ((with_reducible refine g_box rfl ?_); refine eBa H ?_; clear H; intro g_ W_ H) | ((with_reducible refine g_alloc rfl ?_); refine eNw H ?_; clear H; intro g_ W_ H) | ((with_reducible refine g_load rfl ?_); first | refine eL1 H ?_ | refine eLa H ?_) | ((with_reducible refine g_store rfl ?_); (first | refine eSi H ?_ | refine eSb H ?_ | refine eSs H ?_ | refine eSa H ?_); clear H; intro W_ H) | (go_at_call 99; (with_reducible refine (spec_l8Copy x _ _ (hx.on H) hs).mono ?_); rintro e w1 ⟨q1, rfl, kq⟩; have H_ := H.call kq; simp only [List.cons_append, List.nil_append] at H_; (clear H; have H := H_; clear H_); have H_ := St.opn (l1 := [intsA q1.table x.table, intsA q1.dots x.dots]) H; simp only [List.cons_append, List.nil_append] at H_; (clear H; have H := H_; clear H_); clear kq) | ((with_reducible refine g_buildSlice rfl ?_); refine ev_buildSlice0 H rfl rfl Tryz.underlying25 info_int ?_; intro gb_ W_ H_; (clear H; have H := H_; clear H_)))
    (with_reducible refine g_draw ?_)
    try simp only [Act.put, List.setIfInBounds_toArray, List.set_cons_succ, List.set_cons_zero]
    refine F_begin (ls := #[false, false, false, false, false, false, false, false, false, false, false]) (by kernel_rfl) rfl (by kernel_rfl) ?_
    have H_ := H.drew
    (clear H; have H := H_; clear H_)
    refine T_go [(1, 0, 39), (0, 1, 40), (0, 2, 41), (1, 3, 42), (0, 5, 44), (1, 6, 45), (0, 7, 46)] ?_; (repeat (first | refine T_pA ?_ | refine T_rA ?_)); refine T_end ?_
    refine F_eA (ls' := #[true, true, true, true, true, true, true, true, false, false, false]) (pend' := [6, 0]) 4 ?_; intro K_ hK_; (conv => (arg 4; arg 1; whnf)); (repeat (first | refine hK_ _ _ rfl ?_ ?_ | (go_big_may; ((with_reducible refine g_append rfl ?_); refine ev_appendN (N := x.dots.length) (cs' := nums x.dots) H rfl rfl Tryz.underlying25 info_int rfl (by decide) rfl rfl pkA (hd.on H).in (hd.none) (by rw [nums_length]; omega) (nums_one' _) (by omega) (by unfold maxLen; omega) (Nat.zero_add _) (List.nil_append _) ?_; intro A_ c_ W_ H_; (clear H; have H := H_; clear H_))) | go_step | go_guarded | go_upon | dsimp only)); (focus (refine kept_cA 6 45 ?_; refine kept_cA 0 39 ?_; exact kept_nil))
    refine F_eA (ls' := #[true, true, true, true, true, true, true, true, true, false, false]) (pend' := [6]) 8 ?_; intro K_ hK_; (conv => (arg 4; arg 1; whnf)); (repeat (first | refine hK_ _ _ rfl ?_ ?_ | (go_big_may; ((with_reducible refine g_store rfl ?_); (first | refine eSi H ?_ | refine eSb H ?_ | refine eSs H ?_ | refine eSa H ?_); clear H; intro W_ H)) | go_step | go_guarded | go_upon | dsimp only)); (focus (refine kept_cA 6 45 ?_; exact kept_nil))
    refine T_go [(0, 9, 3), (0, 10, 4)] ?_; (repeat (refine T_pA ?_)); refine T_end ?_
    refine F_done (by kernel_rfl) ?_
    go_wp2
    refine' back3 Tryz.results195 ?_ ?_ ?_ rfl ⟨⟨q1.table, ⟨none, 0⟩⟩, ⟨A_, c_⟩, ?_, (St.pack (l1 := [intsA q1.table x.table, intsA ⟨none, 0⟩ []]) (St.addNil H) pksA).take (Picks.cons Pick.here pksA)⟩; rotate_left 3; exact rvA; exact rvA; exact rvA
    rfl
  · have z1 : (x.t % 64 == 48) = false := by rw [beq_eq_false_iff_ne]; omega
    have z2 : (x.t % 64 == 63) = true := by rw [beq_iff_eq]; omega
    have hk : x.tk = { x with t := x.t + 1, blank := false } := by simp [PpuD.tk, hu]
    have hf : x.frame = [] := by simp [PpuD.frame]; omega
    have h3 : x.asks = false := by simp [PpuD.asks, z1]
    have hs1 : 48 < x.t % 64 := by omega
    rw [hk, hf, h3]
    clear hk hf h3 hu
    go_enter Tryz.func195, Tryz.ntmps195
    go_wp2_with (first | ((with_reducible refine g_box rfl ?_); refine eBa H ?_; clear H; intro g_ W_ H) | ((with_reducible refine g_alloc rfl ?_); refine eNw H ?_; clear H; intro g_ W_ H) | ((with_reducible refine g_load rfl ?_); first | refine eL1 H ?_ | refine eLa H ?_) | ((with_reducible refine g_store rfl ?_); (first | refine eSi H ?_ | refine eSb H ?_ | refine eSs H ?_ | refine eSa H ?_); clear H; intro W_ H) | (go_at_call 99; (with_reducible refine (spec_l8Copy x _ _ (hx.on H) hs).mono ?_); rintro e w1 ⟨q1, rfl, kq⟩; have H_ := H.call kq; simp only [List.cons_append, List.nil_append] at H_; (clear H; have H := H_; clear H_); have H_ := St.opn (l1 := [intsA q1.table x.table, intsA q1.dots x.dots]) H; simp only [List.cons_append, List.nil_append] at H_; (clear H; have H := H_; clear H_); clear kq) | ((with_reducible refine g_buildSlice rfl ?_); refine ev_buildSlice0 H rfl rfl Tryz.underlying25 info_int ?_; intro gb_ W_ H_; (clear H; have H := H_; clear H_)))
    refine' back3 Tryz.results195 ?_ ?_ ?_ rfl ⟨q1, ⟨some ⟨gb_, 0, none⟩, 0⟩, ?_, (show St w [] _ [Ast.all _, Ast.own 3 1 (some ⟨gb_, 0, none⟩) 0 0 []] from (St.pack (l1 := [intsA q1.table x.table, intsA q1.dots x.dots]) H pksA).take (Picks.cons Pick.here pksA))⟩; rotate_left 3; exact rvA; exact rvA; exact rvA
    rfl
  · have z1 : (x.t % 64 == 48) = false := by rw [beq_eq_false_iff_ne]; omega
    have z2 : (x.t % 64 == 63) = false := by rw [beq_eq_false_iff_ne]; omega
    have n1 : ¬ x.t % 64 < 48 := by omega
    have n2 : ¬ x.t % 64 = 48 := by omega
    have n3 : ¬ x.t % 64 = 63 := by omega
    have hk : x.tk = { x with t := x.t + 1 } := by simp [PpuD.tk, n1, n2, n3]
    have hf : x.frame = [] := by simp [PpuD.frame, n2]
    have h3 : x.asks = false := by simp [PpuD.asks, z1]
    rw [hk, hf, h3]
    clear hk hf h3 n1 n2 n3
    go_enter Tryz.func195, Tryz.ntmps195
    go_wp2_with (first | ((with_reducible refine g_box rfl ?_); refine eBa H ?_; clear H; intro g_ W_ H) | ((with_reducible refine g_alloc rfl ?_); refine eNw H ?_; clear H; intro g_ W_ H) | ((with_reducible refine g_load rfl ?_); first | refine eL1 H ?_ | refine eLa H ?_) | ((with_reducible refine g_store rfl ?_); (first | refine eSi H ?_ | refine eSb H ?_ | refine eSs H ?_ | refine eSa H ?_); clear H; intro W_ H) | (go_at_call 99; (with_reducible refine (spec_l8Copy x _ _ (hx.on H) hs).mono ?_); rintro e w1 ⟨q1, rfl, kq⟩; have H_ := H.call kq; simp only [List.cons_append, List.nil_append] at H_; (clear H; have H := H_; clear H_); have H_ := St.opn (l1 := [intsA q1.table x.table, intsA q1.dots x.dots]) H; simp only [List.cons_append, List.nil_append] at H_; (clear H; have H := H_; clear H_); clear kq) | ((with_reducible refine g_buildSlice rfl ?_); refine ev_buildSlice0 H rfl rfl Tryz.underlying25 info_int ?_; intro gb_ W_ H_; (clear H; have H := H_; clear H_)))
    refine' back3 Tryz.results195 ?_ ?_ ?_ rfl ⟨q1, ⟨some ⟨gb_, 0, none⟩, 0⟩, ?_, (show St w [] _ [Ast.all _, Ast.own 3 1 (some ⟨gb_, 0, none⟩) 0 0 []] from (St.pack (l1 := [intsA q1.table x.table, intsA q1.dots x.dots]) H pksA).take (Picks.cons Pick.here pksA))⟩; rotate_left 3; exact rvA; exact rvA; exact rvA
    rfl
end Go.Proofs.YtjgggmcnbdjdjaaGreat.C

/- Rows of rows that are copied and grow. (written by xgen.py) -/
namespace Go.Proofs.YtjgggmcnbdjdjaaGreat.C
open Go.RowKit Go.Proofs.YtjgggmcnbdjdjaaGreat.K Go.Proofs.YtjgggmcnbdjdjaaGreat.B
attribute [local go_sem] max2_int min2_int max_two min_two i64_and255 i64_and65535 i64_and1
set_option maxRecDepth 20000
set_option linter.unusedVariables false
set_option linter.unusedSimpArgs false
/-- Rows of rows of the program's own. -/
def frA (q : Rw) (fs : List (List Int)) : Ast := Ast.all [Ast.pure (fs.length = q.r.length), Ast.own 25 1 q.s.A fs.length q.s.c (rowVals fs q.r), Ast.all (rowAs fs q.r)]
theorem frA_fp (q : Rw) (fs : List (List Int)) : (rowsA q fs).fp = (frA q fs).fp := by simp [rowsA, frA, outA, Ast.all, Ast.pure]
theorem rowsA_ofFr {w : World} {q : Rw} {fs : List (List Int)} (h : (frA q fs).p w) : (rowsA q fs).p w := by
  intro a ha
  simp only [List.mem_cons, List.not_mem_nil, or_false] at ha
  rcases ha with rfl | rfl
  · exact h (Ast.own 25 1 q.s.A fs.length q.s.c (rowVals fs q.r)) (by simp)
  · exact h _ (by simp)
theorem InRR.ofFr {w : World} {q : Rw} {fs : List (List Int)} (h : (frA q fs).p w) : InRR w q fs := InRR.of (rowsA_ofFr h)
theorem frA_len {w : World} {q : Rw} {fs : List (List Int)} (h : (frA q fs).p w) : fs.length = q.r.length := h (Ast.pure (fs.length = q.r.length)) (by simp)
/-- They are opened. -/
theorem St.frOpen {w0 W : World} {S : List Nat} {l l' : List Ast} {q : Rw} {fs : List (List Int)} (h : St w0 S W l) (k : Pick (frA q fs) l l') : St w0 S W ([Ast.pure (fs.length = q.r.length), Ast.own 25 1 q.s.A fs.length q.s.c (rowVals fs q.r), Ast.all (rowAs fs q.r)] ++ l') := h.unpack k
theorem St.frShut {w0 W : World} {S : List Nat} {l l' : List Ast} {q : Rw} {fs : List (List Int)} (h : St w0 S W l) (hl : fs.length = q.r.length) (k : Picks [Ast.own 25 1 q.s.A fs.length q.s.c (rowVals fs q.r), Ast.all (rowAs fs q.r)] l l') : St w0 S W (frA q fs :: l') :=
  St.all (l1 := [Ast.pure (fs.length = q.r.length), Ast.own 25 1 q.s.A fs.length q.s.c (rowVals fs q.r), Ast.all (rowAs fs q.r)]) (St.addFree (h.picks k) rfl hl)
/-- One row more. -/
theorem St.frMore {w0 W : World} {S : List Nat} {l l' : List Ast} {qs : List Sl} {fs ff : List (List Int)} {fr : List Int} {qf : Sl} {A : Option Addr} {c : Nat} (h : St w0 S W l) (hl : fs.length = qs.length) (hf : ff = fs ++ [fr])
    (k : Picks [Ast.own 25 1 A ff.length c (rowVals ff (qs ++ [qf])), intsA qf fr, Ast.all (rowAs fs qs)] l l') : St w0 S W (frA ⟨⟨A, c⟩, qs ++ [qf]⟩ ff :: l') := by
  have h1 := h.picks k
  have h2 : St w0 S W ([intsA qf fr, Ast.all (rowAs fs qs), Ast.own 25 1 A ff.length c (rowVals ff (qs ++ [qf]))] ++ l') := h1.perm (by simpa using (List.perm_append_comm (l₁ := [Ast.own 25 1 A ff.length c (rowVals ff (qs ++ [qf]))]) (l₂ := [intsA qf fr, Ast.all (rowAs fs qs)])).append_right l')
  have h3 : St w0 S W (Ast.all (rowAs fs qs ++ [intsA qf fr]) :: ([Ast.own 25 1 A ff.length c (rowVals ff (qs ++ [qf]))] ++ l')) := St.join (l2 := []) (l1 := rowAs fs qs) (x := intsA qf fr) (by rw [List.append_nil]; exact h2)
  have h4 : rowAs ff (qs ++ [qf]) = rowAs fs qs ++ [intsA qf fr] := by rw [hf, rowAs_append _ _ _ _ hl]; rfl
  rw [← h4] at h3
  exact St.frShut (q := ⟨⟨A, c⟩, qs ++ [qf]⟩) h3 (by rw [hf]; simp [hl]) (Picks.cons (.there .here) (Picks.cons .here .nil))
theorem rowVals_more {fs : List (List Int)} {qs : List Sl} {fr : List Int} {qf : Sl} (hl : fs.length = qs.length) : rowVals fs qs ++ [.slice qf.A fr.length qf.c] = rowVals (fs ++ [fr]) (qs ++ [qf]) := by rw [rowVals_append _ _ _ _ hl]; rfl
theorem fill_sl (A : Option Addr) (n c : Nat) : Instr.fill (fun i => some (i * 1, 1)) ((Array.range (1 * 1)).map ((Value.cells (.slice none 0 0))[· % (Value.cells (.slice none 0 0)).size]!)) [(0, .slice A n c)] = some [Value.slice A n c].toArray := by
  kernel_rfl
set_option maxHeartbeats 4000000 in
theorem impl_copyFrames (q : Rw) (fs : List (List Int)) (w : World) (hx : InRR w q fs) (hs : fs.length ≤ 1048576 ∧ ∀ k, k < fs.length → (rwAt fs k).length ≤ 1048576) : Calls Tryz.prog 116 #[.slice q.s.A fs.length q.s.c] w fun e w' => ∃ q' : Rw, e = .returned (.slice q'.s.A fs.length q'.s.c) ∧ St w [] w' [frA q' fs] := by
  have H := St.nil w []
  have hm := hx.mx
  obtain ⟨hs1, hs2⟩ := hs
  have HS := Lib.hid hs2
  clear hs2
  obtain ⟨⟨A, c⟩, r⟩ := q
  go_enter Tryz.func116, Tryz.ntmps116
  go_wp2_with ((with_reducible refine g_buildSlice rfl ?_); refine ev_buildSlice0 H rfl rfl Tryz.underlying22 info_ints ?_; intro g_ W_ H_; (clear H; have H := H_; clear H_))
  go_loopw [3, 9] (fun v i wr => ∃ (k : Nat) (qs : List Sl) (A1 : Option Addr) (c1 : Nat), k ≤ fs.length ∧ v = .slice A1 k c1 ∧ i = .int .i64 k ∧ Hid (qs.length = k) ∧ St w [] wr [Ast.own 25 1 A1 k c1 (rowVals (fs.take k) qs), Ast.all (rowAs (fs.take k) qs)]) (fun _ i _ => fs.length - (intOf i).toNat)
  case atStart => exact ⟨0, [], _, _, Nat.zero_le _, rfl, rfl, rfl, (St.all (l := [_]) [] H).perm (List.Perm.swap _ _ _)⟩
  case round =>
    clear H
    obtain ⟨k, qs, A1, c1, hk, rfl, rfl, HL, H⟩ := hrel
    by_cases hlt : k < fs.length
    · obtain ⟨ad, hA, hc⟩ := hx.cell H hlt
      simp only at hA hc
      subst hA
      have hsk := HS.out k hlt
      have hr := hx.row k hlt
      simp only at hr
      have hcell : ∀ {W : World} {l : List Ast}, St w [] W l → W.cell? (ad.add k) = some (.slice (slAt r k).A (rwAt fs k).length (slAt r k).c) := fun H' => by
        obtain ⟨ad', h1, h2⟩ := hx.cell H' hlt
        injection h1 with h1; subst h1; exact h2
      clear hx hc
      go_wp2_with (first | ((with_reducible refine g_load rfl ?_); refine ev_load_in_one rfl rfl rfl (oneT rfl) (hcell H) ?_) | (go_at_call 78; (with_reducible refine (impl_copyInts _ _ (rwAt fs k) _ (hr.on H) hsk).mono ?_); rintro e w1 ⟨qn, rfl, kq⟩; have H_ := H.call kq; simp only [List.cons_append, List.nil_append] at H_; (clear H; have H := H_; clear H_); clear kq) | ((with_reducible refine g_buildSlice rfl ?_); refine ev_buildSlice1 (v := .slice _ _ _) H rfl rfl rfl Tryz.underlying22 info_ints (fill_sl _ _ _) rfl (by decide) (by decide) (by decide) ?_; intro g_ W_ H_; (clear H; have H := H_; clear H_)) | ((with_reducible refine g_append rfl ?_); refine ev_appendN (xs := rowVals (fs.take k) qs) (news := [.slice qn.A (rwAt fs k).length qn.c]) (N := k + 1) (cs' := rowVals (fs.take (k + 1)) (qs ++ [qn])) H rfl rfl Tryz.underlying22 info_ints rfl (by decide) rfl rfl pkA (own_in (H.get pkA)) (fun h => by cases h) rfl rfl (by omega) (by unfold maxLen; omega) (by omega) (by rw [take_succ_rw hlt]; exact rowVals_more (by have := HL.out; simp; omega)) ?_; intro A_ c_ W_ H_; (clear H; have H := H_; clear H_)))
      go_roundw
      case rel =>
        refine ⟨k + 1, qs ++ [qn], A_, c_, by omega, by go_num, by go_num, Lib.hid (by rw [List.length_append, HL.out]; rfl), ?_⟩
        have h1 := H.picks (xs := [intsA qn (rwAt fs k), Ast.all (rowAs (fs.take k) qs), Ast.own 25 1 A_ (k + 1) c_ (rowVals (fs.take (k + 1)) (qs ++ [qn]))]) pksA
        have h2 := St.join (l2 := []) (l1 := rowAs (fs.take k) qs) (x := intsA qn (rwAt fs k)) (by rw [List.append_nil]; exact h1)
        have h3 : rowAs (fs.take (k + 1)) (qs ++ [qn]) = rowAs (fs.take k) qs ++ [intsA qn (rwAt fs k)] := by rw [take_succ_rw hlt, rowAs_append _ _ _ _ (by have := HL.out; simp; omega)]; rfl
        rw [h3]
        simp only [List.append_eq, List.cons_append, List.nil_append] at h2
        exact h2.take pksA
      case measure => simp [intOf]; omega
    · go_wp2
      go_ret
      have hkn : k = fs.length := by omega
      subst hkn
      simp only [List.take_length] at H
      exact ⟨⟨⟨A1, c1⟩, qs⟩, rfl, (St.frShut (q := ⟨⟨A1, c1⟩, qs⟩) H HL.out.symm pksA).take (Picks.cons Pick.here Picks.nil)⟩
set_option maxHeartbeats 4000000 in
theorem spec_l12List (q : Rw) (fs : List (List Int)) (w : World) (hx : InRR w q fs) (hs : fs.length ≤ 1048576 ∧ ∀ k, k < fs.length → (rwAt fs k).length ≤ 1048576) : Calls Tryz.prog 100 #[.slice q.s.A fs.length q.s.c] w fun e w' => ∃ q' : Rw, e = .returned (.slice q'.s.A fs.length q'.s.c) ∧ St w [] w' [frA q' fs] := by
  have H := St.nil w []
  have hm := hx.mx
  obtain ⟨hs1, hs2⟩ := hs
  have HS := Lib.hid hs2
  clear hs2
  obtain ⟨⟨A, c⟩, r⟩ := q
  go_enter Tryz.func100, Tryz.ntmps100
  go_wp2_with ((with_reducible refine g_buildSlice rfl ?_); refine ev_buildSlice0 H rfl rfl Tryz.underlying22 info_ints ?_; intro g_ W_ H_; (clear H; have H := H_; clear H_))
  go_loopw [3, 4] (fun v i wr => ∃ (k : Nat) (qs : List Sl) (A1 : Option Addr) (c1 : Nat), k ≤ fs.length ∧ v = .slice A1 k c1 ∧ i = .int .i64 k ∧ Hid (qs.length = k) ∧ St w [] wr [Ast.own 25 1 A1 k c1 (rowVals (fs.take k) qs), Ast.all (rowAs (fs.take k) qs)]) (fun _ i _ => fs.length - (intOf i).toNat)
  case atStart => exact ⟨0, [], _, _, Nat.zero_le _, rfl, rfl, rfl, (St.all (l := [_]) [] H).perm (List.Perm.swap _ _ _)⟩
  case round =>
    clear H
    obtain ⟨k, qs, A1, c1, hk, rfl, rfl, HL, H⟩ := hrel
    by_cases hlt : k < fs.length
    · obtain ⟨ad, hA, hc⟩ := hx.cell H hlt
      simp only at hA hc
      subst hA
      have hsk := HS.out k hlt
      have hr := hx.row k hlt
      simp only at hr
      have hcell : ∀ {W : World} {l : List Ast}, St w [] W l → W.cell? (ad.add k) = some (.slice (slAt r k).A (rwAt fs k).length (slAt r k).c) := fun H' => by
        obtain ⟨ad', h1, h2⟩ := hx.cell H' hlt
        injection h1 with h1; subst h1; exact h2
      clear hx hc
      go_wp2_with (first | ((with_reducible refine g_load rfl ?_); refine ev_load_in_one rfl rfl rfl (oneT rfl) (hcell H) ?_) | ((with_reducible refine g_buildSlice rfl ?_); refine ev_buildSlice0 H rfl rfl Tryz.underlying25 info_int ?_; intro g_ W_ H_; (clear H; have H := H_; clear H_)) | ((with_reducible refine g_append rfl ?_); refine ev_appendN (N := (rwAt fs k).length) (cs' := nums (rwAt fs k)) H rfl rfl Tryz.underlying25 info_int rfl (by decide) rfl rfl pkA (hr.on H).in (hr.none) (by rw [nums_length]; omega) (nums_one' _) (by omega) (by unfold maxLen; omega) (Nat.zero_add _) (List.nil_append _) ?_; intro Ai_ ci_ W_ H_; (clear H; have H := H_; clear H_)) | ((with_reducible refine g_buildSlice rfl ?_); refine ev_buildSlice1 (v := .slice _ _ _) H rfl rfl rfl Tryz.underlying22 info_ints (fill_sl _ _ _) rfl (by decide) (by decide) (by decide) ?_; intro g_ W_ H_; (clear H; have H := H_; clear H_)) | ((with_reducible refine g_append rfl ?_); refine ev_appendN (xs := rowVals (fs.take k) qs) (news := [.slice (Sl.mk Ai_ ci_).A (rwAt fs k).length (Sl.mk Ai_ ci_).c]) (N := k + 1) (cs' := rowVals (fs.take (k + 1)) (qs ++ [(Sl.mk Ai_ ci_)])) H rfl rfl Tryz.underlying22 info_ints rfl (by decide) rfl rfl pkA (own_in (H.get pkA)) (fun h => by cases h) rfl rfl (by omega) (by unfold maxLen; omega) (by omega) (by rw [take_succ_rw hlt]; exact rowVals_more (by have := HL.out; simp; omega)) ?_; intro A_ c_ W_ H_; (clear H; have H := H_; clear H_)))
      go_roundw
      case rel =>
        refine ⟨k + 1, qs ++ [(Sl.mk Ai_ ci_)], A_, c_, by omega, by go_num, by go_num, Lib.hid (by rw [List.length_append, HL.out]; rfl), ?_⟩
        have h1 := H.picks (xs := [intsA (Sl.mk Ai_ ci_) (rwAt fs k), Ast.all (rowAs (fs.take k) qs), Ast.own 25 1 A_ (k + 1) c_ (rowVals (fs.take (k + 1)) (qs ++ [(Sl.mk Ai_ ci_)]))]) pksA
        have h2 := St.join (l2 := []) (l1 := rowAs (fs.take k) qs) (x := intsA (Sl.mk Ai_ ci_) (rwAt fs k)) (by rw [List.append_nil]; exact h1)
        have h3 : rowAs (fs.take (k + 1)) (qs ++ [(Sl.mk Ai_ ci_)]) = rowAs (fs.take k) qs ++ [intsA (Sl.mk Ai_ ci_) (rwAt fs k)] := by rw [take_succ_rw hlt, rowAs_append _ _ _ _ (by have := HL.out; simp; omega)]; rfl
        rw [h3]
        simp only [List.append_eq, List.cons_append, List.nil_append] at h2
        exact h2.take pksA
      case measure => simp [intOf]; omega
    · go_wp2
      go_ret
      have hkn : k = fs.length := by omega
      subst hkn
      simp only [List.take_length] at H
      exact ⟨⟨⟨A1, c1⟩, qs⟩, rfl, (St.frShut (q := ⟨⟨A1, c1⟩, qs⟩) H HL.out.symm pksA).take (Picks.cons Pick.here Picks.nil)⟩
end Go.Proofs.YtjgggmcnbdjdjaaGreat.C

