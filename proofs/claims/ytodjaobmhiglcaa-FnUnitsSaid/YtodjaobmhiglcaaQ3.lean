/- What PpuWrite, PpuRead tell. -/
import Derived.Test.YtodjaobmhiglcaaQ2
namespace Go.Proofs.Ytodjaobmhiglcaa.C
open Go.RowKit Go.Proofs.Ytodjaobmhiglcaa.K Go.Proofs.Ytodjaobmhiglcaa.B
attribute [local go_sem] max2_int min2_int max_two min_two i64_and255 i64_and65535 i64_and1
set_option maxRecDepth 20000
set_option linter.unusedVariables false
set_option linter.unusedSimpArgs false
def PpuD.write (x : PpuD) (r v : Int) : PpuD := if x.ok = true then x.wr r v else x
def PpuD.read (x : PpuD) (r : Int) : PpuD := if x.ok = true then x.rdx r else x
def PpuD.says (x : PpuD) (r : Int) : Int := if x.ok = true then x.rdv r else 0
theorem PpuD.wr_dots (x : PpuD) (r v : Int) : (x.wr r v).dots = x.dots := by unfold PpuD.wr; (repeat' split) <;> rfl
theorem PpuD.rdx_dots (x : PpuD) (r : Int) : (x.rdx r).dots = x.dots := by unfold PpuD.rdx; (repeat' split) <;> rfl
theorem PpuD.rdx_table (x : PpuD) (r : Int) : (x.rdx r).table = x.table := by unfold PpuD.rdx; (repeat' split) <;> rfl
theorem PpuD.wr_len (x : PpuD) (r v : Int) : (x.wr r v).table.length = x.table.length := by unfold PpuD.wr PpuD.poke; (repeat' split) <;> simp
theorem PpuD.write_mk {x : PpuD} (h : PpuSmall x) (r v : Int) : (x.write r v).mk_ ≤ 100000000 := by
  have h1 := h.table
  have h2 := h.dots
  unfold PpuD.write PpuD.mk_
  split
  · rw [PpuD.wr_len, PpuD.wr_dots]; omega
  · omega
theorem PpuD.read_mk {x : PpuD} (h : PpuSmall x) (r : Int) : (x.read r).mk_ ≤ 100000000 := by
  have h1 := h.table
  have h2 := h.dots
  unfold PpuD.read PpuD.mk_
  split
  · rw [PpuD.rdx_table, PpuD.rdx_dots]; omega
  · omega
set_option maxHeartbeats 8000000 in
theorem spec_PpuWrite (x : PpuD) (q : PpuP) (r v : Int) (w : World) (hx : PpuIn w x q) (hs : PpuSmall x) : Calls Try.prog 88 #[.agg #[.int .i64 x.t, .int .i64 x.ctrl, .int .i64 x.scroll, .int .i64 x.addr, .int .i64 x.pal, .bool x.blank, .slice q.table.A x.table.length q.table.c, .slice q.dots.A x.dots.length q.dots.c], .int .i64 r, .int .i64 v] w fun e w' => ∃ q', e = .returned (.agg #[.int .i64 (x.write r v).t, .int .i64 (x.write r v).ctrl, .int .i64 (x.write r v).scroll, .int .i64 (x.write r v).addr, .int .i64 (x.write r v).pal, .bool (x.write r v).blank, .slice q'.table.A (x.write r v).table.length q'.table.c, .slice q'.dots.A (x.write r v).dots.length q'.dots.c]) ∧ St w [] w' [ppuA (x.write r v) q'] := by
  have H := St.nil w []
  cases h : x.ok
  · have hw : x.write r v = x := by simp [PpuD.write, h]
    rw [hw]
    clear hw
    go_enter Try.func88, Try.ntmps88
    go_wp2_with (first | ((with_reducible refine g_box rfl ?_); (first | refine ev_box (v := .int _ _) H rfl rfl rfl rfl ?_ | refine ev_box (v := .bool _) H rfl rfl rfl rfl ?_ | refine ev_box (v := .slice _ _ _) H rfl rfl rfl rfl ?_ | refine ev_box (v := .agg _) H rfl rfl rfl rfl ?_); intro g_ W_ H_; (clear H; have H := H_; clear H_)) | ((with_reducible refine g_alloc rfl ?_); refine ev_new H rfl rfl ?_; intro g_ W_ H_; (clear H; have H := H_; clear H_)) | ((with_reducible refine g_load rfl ?_); first | refine ev_ld1 H rfl rfl rfl ?_ | refine ev_lda H rfl rfl rfl ?_) | ((with_reducible refine g_store rfl ?_); (first | refine ev_sto (v := .int _ _) H rfl rfl rfl rfl rfl ?_ | refine ev_sto (v := .bool _) H rfl rfl rfl rfl rfl ?_ | refine ev_sto (v := .slice _ _ _) H rfl rfl rfl rfl rfl ?_ | refine ev_sto (v := .agg _) H rfl rfl rfl rfl rfl ?_); intro W_ H_; (clear H; have H := H_; clear H_)) | (go_at_call 85; (with_reducible refine (spec_l8Copy x _ _ (hx.on H) hs).mono ?_); rintro e w1 ⟨q1, rfl, kq⟩; have H_ := H.call kq; simp only [List.cons_append, List.nil_append] at H_; (clear H; have H := H_; clear H_); have H_ := St.opn (l1 := [intsA q1.table x.table, intsA q1.dots x.dots]) H; simp only [List.cons_append, List.nil_append] at H_; (clear H; have H := H_; clear H_); clear kq) | (go_at_call 44; (with_reducible refine (spec_PpuOk x _ _ (hx.on H)).mono ?_); rintro e w1 ⟨rfl, hb⟩; rw [h]; (have H_ := H.callB hb; (clear H; have H := H_; clear H_); clear hb)))
    refine' back1 Try.results88 ?_ rfl ⟨q1, ?_, (H.pack (l1 := [intsA q1.table x.table, intsA q1.dots x.dots]) (by (repeat (first | (with_reducible exact Picks.nil) | (with_reducible exact Pick.here) | (with_reducible apply Pick.there) | (with_reducible apply Picks.cons))))).take (Picks.cons Pick.here Picks.nil)⟩; rotate_left 1; (focus first | (with_reducible exact rv_tmp rfl) | (refine' rv_agg H rfl ?_ ?_ ?_; rotate_left 4; (focus (repeat (first | (with_reducible exact Pick.here) | (with_reducible apply Pick.there)))); (focus exact aggT rfl); (focus rfl)) | (refine' rv_one H rfl ?_ ?_; rotate_left 3; (focus (repeat (first | (with_reducible exact Pick.here) | (with_reducible apply Pick.there)))); (focus exact oneT rfl)))
    rfl
  · have hw : x.write r v = x.wr r v := by simp [PpuD.write, h]
    rw [hw]
    clear hw
    obtain ⟨_, _, _, ⟨b1, b2⟩, _, b3, _⟩ := PpuD.ok_at h
    have HL := Lib.hid b3
    clear b3
    have e1 : 0 ≤ v % 256 := by omega
    have e2 : x.addr < 16 := by omega
    have e4 : 0 ≤ x.addr + 1 := by omega
    by_cases r4 : r = 4
    · subst r4
      have hw : x.wr 4 v = x.poke (v % 256) := by simp [PpuD.wr]
      rw [hw]
      clear hw
      have hbt : x.addr.toNat < x.table.length := by have := HL.out; omega
      have hbl : x.addr < (x.table.length : Int) := by have := HL.out; omega
      have e3 : 0 ≤ v % 256 % 64 := by omega
      go_enter Try.func88, Try.ntmps88
      go_upto_region 4 with (first | ((with_reducible refine g_box rfl ?_); (first | refine ev_box (v := .int _ _) H rfl rfl rfl rfl ?_ | refine ev_box (v := .bool _) H rfl rfl rfl rfl ?_ | refine ev_box (v := .slice _ _ _) H rfl rfl rfl rfl ?_ | refine ev_box (v := .agg _) H rfl rfl rfl rfl ?_); intro g_ W_ H_; (clear H; have H := H_; clear H_)) | ((with_reducible refine g_alloc rfl ?_); refine ev_new H rfl rfl ?_; intro g_ W_ H_; (clear H; have H := H_; clear H_)) | ((with_reducible refine g_load rfl ?_); first | refine ev_ld1 H rfl rfl rfl ?_ | refine ev_lda H rfl rfl rfl ?_) | ((with_reducible refine g_store rfl ?_); (first | refine ev_sto (v := .int _ _) H rfl rfl rfl rfl rfl ?_ | refine ev_sto (v := .bool _) H rfl rfl rfl rfl rfl ?_ | refine ev_sto (v := .slice _ _ _) H rfl rfl rfl rfl rfl ?_ | refine ev_sto (v := .agg _) H rfl rfl rfl rfl rfl ?_); intro W_ H_; (clear H; have H := H_; clear H_)) | (go_at_call 44; (with_reducible refine (spec_PpuOk x _ _ (hx.on H)).mono ?_); rintro e w1 ⟨rfl, hb⟩; rw [h]; (have H_ := H.callB hb; (clear H; have H := H_; clear H_); clear hb)) | (go_at_call 85; (with_reducible refine (spec_l8Copy x _ _ (hx.on H) hs).mono ?_); rintro e w1 ⟨q1, rfl, kq⟩; have H_ := H.call kq; simp only [List.cons_append, List.nil_append] at H_; (clear H; have H := H_; clear H_); have H_ := St.opn (l1 := [intsA q1.table x.table, intsA q1.dots x.dots]) H; simp only [List.cons_append, List.nil_append] at H_; (clear H; have H := H_; clear H_); clear kq))
      obtain ⟨g1, hA1, hc1⟩ := own_some (H.get (x := intsA q1.table x.table) (by (repeat (first | (with_reducible exact Pick.here) | (with_reducible apply Pick.there))))) (by have := HL.out; omega)
      obtain ⟨⟨A1, c1⟩, q2⟩ := q1
      (try simp only at hA1)
      (try simp only at hc1)
      subst hA1
      have hc2 : 16 ≤ c1 := by have := HL.out; omega
      clear hc1
      go_wp2_with (first | ((with_reducible refine g_store rfl ?_); refine' ev_store_own (v := .int _ _) H rfl rfl rfl rfl rfl ?_ ?_ ?_ ?_ ?_ ?_ ?_; rotate_left 8; (focus (repeat (first | (with_reducible exact Pick.here) | (with_reducible apply Pick.there)))); (focus exact szT rfl); (focus rfl); (focus (rw [nums_length]; omega)); (focus rfl); (focus exact nums_set x.table x.addr.toNat _ (by omega)); intro W_ H_; rw [own_set] at H_; (clear H; have H := H_; clear H_)) | ((with_reducible refine g_box rfl ?_); (first | refine ev_box (v := .int _ _) H rfl rfl rfl rfl ?_ | refine ev_box (v := .bool _) H rfl rfl rfl rfl ?_ | refine ev_box (v := .slice _ _ _) H rfl rfl rfl rfl ?_ | refine ev_box (v := .agg _) H rfl rfl rfl rfl ?_); intro g_ W_ H_; (clear H; have H := H_; clear H_)) | ((with_reducible refine g_alloc rfl ?_); refine ev_new H rfl rfl ?_; intro g_ W_ H_; (clear H; have H := H_; clear H_)) | ((with_reducible refine g_load rfl ?_); first | refine ev_ld1 H rfl rfl rfl ?_ | refine ev_lda H rfl rfl rfl ?_) | ((with_reducible refine g_store rfl ?_); (first | refine ev_sto (v := .int _ _) H rfl rfl rfl rfl rfl ?_ | refine ev_sto (v := .bool _) H rfl rfl rfl rfl rfl ?_ | refine ev_sto (v := .slice _ _ _) H rfl rfl rfl rfl rfl ?_ | refine ev_sto (v := .agg _) H rfl rfl rfl rfl rfl ?_); intro W_ H_; (clear H; have H := H_; clear H_)) | (go_at_call 118; (with_reducible refine (spec_Byte _ _).mono ?_); rintro e w1 ⟨rfl, rfl⟩))
      refine' back1 Try.results88 ?_ rfl ⟨⟨⟨some ⟨g1, 0, none⟩, c1⟩, q2⟩, ?_, (H.pack (l1 := [intsA ⟨some ⟨g1, 0, none⟩, c1⟩ (x.table.set x.addr.toNat (v % 256 % 64)), intsA q2 x.dots]) (by (repeat (first | (with_reducible exact Picks.nil) | (with_reducible exact Pick.here) | (with_reducible apply Pick.there) | (with_reducible apply Picks.cons))))).take (Picks.cons Pick.here Picks.nil)⟩; rotate_left 1; (focus first | (with_reducible exact rv_tmp rfl) | (refine' rv_agg H rfl ?_ ?_ ?_; rotate_left 4; (focus (repeat (first | (with_reducible exact Pick.here) | (with_reducible apply Pick.there)))); (focus exact aggT rfl); (focus rfl)) | (refine' rv_one H rfl ?_ ?_; rotate_left 3; (focus (repeat (first | (with_reducible exact Pick.here) | (with_reducible apply Pick.there)))); (focus exact oneT rfl)))
      simp [PpuD.poke]
    · have hcase : (r = 0 ∨ r = 1 ∨ r = 3 ∨ r = 5) ∨ (¬ r = 0 ∧ ¬ r = 1 ∧ ¬ r = 3 ∧ ¬ r = 5) := by omega
      rcases hcase with (rfl | rfl | rfl | rfl) | ⟨r0, r1, r3, r5⟩
      iterate 4
        clear r4
        go_enter Try.func88, Try.ntmps88
        go_wp2_with (first | ((with_reducible refine g_box rfl ?_); (first | refine ev_box (v := .int _ _) H rfl rfl rfl rfl ?_ | refine ev_box (v := .bool _) H rfl rfl rfl rfl ?_ | refine ev_box (v := .slice _ _ _) H rfl rfl rfl rfl ?_ | refine ev_box (v := .agg _) H rfl rfl rfl rfl ?_); intro g_ W_ H_; (clear H; have H := H_; clear H_)) | ((with_reducible refine g_alloc rfl ?_); refine ev_new H rfl rfl ?_; intro g_ W_ H_; (clear H; have H := H_; clear H_)) | ((with_reducible refine g_load rfl ?_); first | refine ev_ld1 H rfl rfl rfl ?_ | refine ev_lda H rfl rfl rfl ?_) | ((with_reducible refine g_store rfl ?_); (first | refine ev_sto (v := .int _ _) H rfl rfl rfl rfl rfl ?_ | refine ev_sto (v := .bool _) H rfl rfl rfl rfl rfl ?_ | refine ev_sto (v := .slice _ _ _) H rfl rfl rfl rfl rfl ?_ | refine ev_sto (v := .agg _) H rfl rfl rfl rfl rfl ?_); intro W_ H_; (clear H; have H := H_; clear H_)) | (go_at_call 85; (with_reducible refine (spec_l8Copy x _ _ (hx.on H) hs).mono ?_); rintro e w1 ⟨q1, rfl, kq⟩; have H_ := H.call kq; simp only [List.cons_append, List.nil_append] at H_; (clear H; have H := H_; clear H_); have H_ := St.opn (l1 := [intsA q1.table x.table, intsA q1.dots x.dots]) H; simp only [List.cons_append, List.nil_append] at H_; (clear H; have H := H_; clear H_); clear kq) | (go_at_call 44; (with_reducible refine (spec_PpuOk x _ _ (hx.on H)).mono ?_); rintro e w1 ⟨rfl, hb⟩; rw [h]; (have H_ := H.callB hb; (clear H; have H := H_; clear H_); clear hb)) | (go_at_call 118; (with_reducible refine (spec_Byte _ _).mono ?_); rintro e w1 ⟨rfl, rfl⟩))
        refine' back1 Try.results88 ?_ rfl ⟨q1, ?_, (H.pack (l1 := [intsA q1.table x.table, intsA q1.dots x.dots]) (by (repeat (first | (with_reducible exact Picks.nil) | (with_reducible exact Pick.here) | (with_reducible apply Pick.there) | (with_reducible apply Picks.cons))))).take (Picks.cons Pick.here Picks.nil)⟩; rotate_left 1; (focus first | (with_reducible exact rv_tmp rfl) | (refine' rv_agg H rfl ?_ ?_ ?_; rotate_left 4; (focus (repeat (first | (with_reducible exact Pick.here) | (with_reducible apply Pick.there)))); (focus exact aggT rfl); (focus rfl)) | (refine' rv_one H rfl ?_ ?_; rotate_left 3; (focus (repeat (first | (with_reducible exact Pick.here) | (with_reducible apply Pick.there)))); (focus exact oneT rfl)))
        rfl
      have s0 : (r == 0) = false := by simp [r0]
      have s1 : (r == 1) = false := by simp [r1]
      have s3 : (r == 3) = false := by simp [r3]
      have s4 : (r == 4) = false := by simp [r4]
      have s5 : (r == 5) = false := by simp [r5]
      have hw : x.wr r v = x := by simp [PpuD.wr, r0, r1, r3, r4, r5]
      rw [hw]
      clear r0 r1 r3 r4 r5 hw
      go_enter Try.func88, Try.ntmps88
      go_wp2_with (first | ((with_reducible refine g_box rfl ?_); (first | refine ev_box (v := .int _ _) H rfl rfl rfl rfl ?_ | refine ev_box (v := .bool _) H rfl rfl rfl rfl ?_ | refine ev_box (v := .slice _ _ _) H rfl rfl rfl rfl ?_ | refine ev_box (v := .agg _) H rfl rfl rfl rfl ?_); intro g_ W_ H_; (clear H; have H := H_; clear H_)) | ((with_reducible refine g_alloc rfl ?_); refine ev_new H rfl rfl ?_; intro g_ W_ H_; (clear H; have H := H_; clear H_)) | ((with_reducible refine g_load rfl ?_); first | refine ev_ld1 H rfl rfl rfl ?_ | refine ev_lda H rfl rfl rfl ?_) | ((with_reducible refine g_store rfl ?_); (first | refine ev_sto (v := .int _ _) H rfl rfl rfl rfl rfl ?_ | refine ev_sto (v := .bool _) H rfl rfl rfl rfl rfl ?_ | refine ev_sto (v := .slice _ _ _) H rfl rfl rfl rfl rfl ?_ | refine ev_sto (v := .agg _) H rfl rfl rfl rfl rfl ?_); intro W_ H_; (clear H; have H := H_; clear H_)) | (go_at_call 85; (with_reducible refine (spec_l8Copy x _ _ (hx.on H) hs).mono ?_); rintro e w1 ⟨q1, rfl, kq⟩; have H_ := H.call kq; simp only [List.cons_append, List.nil_append] at H_; (clear H; have H := H_; clear H_); have H_ := St.opn (l1 := [intsA q1.table x.table, intsA q1.dots x.dots]) H; simp only [List.cons_append, List.nil_append] at H_; (clear H; have H := H_; clear H_); clear kq) | (go_at_call 44; (with_reducible refine (spec_PpuOk x _ _ (hx.on H)).mono ?_); rintro e w1 ⟨rfl, hb⟩; rw [h]; (have H_ := H.callB hb; (clear H; have H := H_; clear H_); clear hb)) | (go_at_call 118; (with_reducible refine (spec_Byte _ _).mono ?_); rintro e w1 ⟨rfl, rfl⟩))
      refine' back1 Try.results88 ?_ rfl ⟨q1, ?_, (H.pack (l1 := [intsA q1.table x.table, intsA q1.dots x.dots]) (by (repeat (first | (with_reducible exact Picks.nil) | (with_reducible exact Pick.here) | (with_reducible apply Pick.there) | (with_reducible apply Picks.cons))))).take (Picks.cons Pick.here Picks.nil)⟩; rotate_left 1; (focus first | (with_reducible exact rv_tmp rfl) | (refine' rv_agg H rfl ?_ ?_ ?_; rotate_left 4; (focus (repeat (first | (with_reducible exact Pick.here) | (with_reducible apply Pick.there)))); (focus exact aggT rfl); (focus rfl)) | (refine' rv_one H rfl ?_ ?_; rotate_left 3; (focus (repeat (first | (with_reducible exact Pick.here) | (with_reducible apply Pick.there)))); (focus exact oneT rfl)))
      rfl
end Go.Proofs.Ytodjaobmhiglcaa.C
