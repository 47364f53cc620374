/- The statement FnKnowsSaid: a drawn picture unit tells so in a stretch of time just if the processor knows that it does. No conditions. -/
import Derived.Test.YtolfbmdgkbbnfaaRows
import Derived.Test.YtolfbmdgkbbnfaaChecked
import Derived.Test.YtolfbmdgkbbnfaaO3
import Derived.Test.YtolfbmdgkbbnfaaDR7
namespace Go.Proofs.Ytolfbmdgkbbnfaa.fnKnows
open Go.RowKit Go.Proofs.Ytolfbmdgkbbnfaa.K Go.Proofs.Ytolfbmdgkbbnfaa.B Go.Proofs.Ytolfbmdgkbbnfaa.C
set_option maxRecDepth 20000
set_option linter.unusedVariables false
set_option linter.unusedSimpArgs false
theorem tk_ctrl (x : PpuD) : x.tk.ctrl = x.ctrl := by unfold PpuD.tk; (repeat' split) <;> rfl
theorem tick_at {y : PpuD} (h : y.ok = true) (ht : y.t < 20000) : y.tick = y.tk ∧ y.tickA = y.asks := by
  have hne : (y.t == 20000) = false := by simp; omega
  constructor
  · unfold PpuD.tick; rw [if_pos h, hne]; rfl
  · unfold PpuD.tickA; rw [if_pos h, hne]; rfl
theorem cyc_same (a : Int) : cyc a a 48 64 = false := by unfold cyc; simp
theorem cyc_next {a b : Int} (h0 : 0 ≤ a) (h1 : a ≤ b) (h2 : b + 1 ≤ 20000) : cyc a (b + 1) 48 64 = (cyc a b 48 64 || (b % 64 == 48)) := by
  have e1 : tim a = a := by unfold tim; (repeat' split) <;> omega
  have e2 : tim b = b := by unfold tim; (repeat' split) <;> omega
  have e3 : tim (b + 1) = b + 1 := by unfold tim; (repeat' split) <;> omega
  unfold cyc
  rw [e1, e2, e3, Bool.eq_iff_iff]
  simp only [Bool.or_eq_true, decide_eq_true_eq, beq_iff_eq]
  omega
/-- A unit that goes on from time a on, and what it told. -/
structure On (a : Int) (k : Nat) (y : PpuD) (b : Bool) : Prop where
  ok : y.ok = true
  t : y.t = a + k
  b : b = (decide (127 < y.ctrl) && cyc a y.t 48 64)
theorem On.start {x : PpuD} (h : x.ok = true) : On x.t 0 x false := ⟨h, by simp, by rw [cyc_same]; simp⟩
theorem On.next {a : Int} {k : Nat} {y : PpuD} {b : Bool} (h : On a k y b) (h0 : 0 ≤ a) (h1 : a + k + 1 ≤ 20000) : On a (k + 1) y.tick (b || y.tickA) := by
  have ht := h.t
  obtain ⟨e1, e2⟩ := tick_at h.ok (by omega)
  refine ⟨PpuD.tick_ok h.ok, ?_, ?_⟩
  · rw [e1, PpuD.tk_t]; omega
  · rw [e1, e2, PpuD.tk_t, tk_ctrl, cyc_next h0 (by omega) (by omega), h.b]
    unfold PpuD.asks
    cases decide (127 < y.ctrl) <;> simp [gt_iff_lt, *] <;> cases hh : decide (127 < y.ctrl) <;> simp_all
set_option maxRecDepth 100000 in
set_option maxHeartbeats 8000000 in
theorem walk (w : World) (A : Option Addr) (c : Nat) (bs : List Int) (hb : InB w A c bs) : Calls Try.prog 3 #[.slice A bs.length c] w fun e w' => e = .returned (.bool true) ∧ Below w.heap.size w w' := by
  have H := St.nil w []
  have hm := hb.2.1
  by_cases hbig : 1048576 < bs.length
  · go_enter Try.func3, Try.ntmps3
    go_wp2_with (first | (go_at_call 14; (with_reducible refine (laws_big _ _ _ _ hm).mono ?_); rintro e w1 ⟨rfl, rfl⟩) | ((with_reducible refine g_box rfl ?_); (first | refine ev_box (v := .int _ _) H rfl rfl rfl rfl ?_ | refine ev_box (v := .bool _) H rfl rfl rfl rfl ?_ | refine ev_box (v := .slice _ _ _) H rfl rfl rfl rfl ?_ | refine ev_box (v := .agg _) H rfl rfl rfl rfl ?_); intro g_ W_ H_; (clear H; have H := H_; clear H_)) | ((with_reducible refine g_alloc rfl ?_); refine ev_new H rfl rfl ?_; intro g_ W_ H_; (clear H; have H := H_; clear H_)) | ((with_reducible refine g_load rfl ?_); first | refine ev_ld1 H rfl rfl rfl ?_ | refine ev_lda H rfl rfl rfl ?_) | ((with_reducible refine g_store rfl ?_); (first | refine ev_sto (v := .int _ _) H rfl rfl rfl rfl rfl ?_ | refine ev_sto (v := .bool _) H rfl rfl rfl rfl rfl ?_ | refine ev_sto (v := .slice _ _ _) H rfl rfl rfl rfl rfl ?_ | refine ev_sto (v := .agg _) H rfl rfl rfl rfl rfl ?_); intro W_ H_; (clear H; have H := H_; clear H_)))
    all_goals (go_ret; exact ⟨rfl, H.below⟩)
  · go_enter Try.func3, Try.ntmps3
    go_upto_region 4 with (first | (go_at_call 14; (with_reducible refine (laws_big _ _ _ _ hm).mono ?_); rintro e w1 ⟨rfl, rfl⟩) | (go_at_call 15; (with_reducible refine (spec_DrawPpuTick A c bs _ (hb.on0 H)).mono ?_); rintro e w1 ⟨x, q, rfl, kk⟩; have H_ := H.call kk; simp only [List.append_eq, List.cons_append, List.nil_append] at H_; (clear H; have H := H_; clear H_); clear kk) | ((with_reducible refine g_alloc rfl ?_); refine ev_new (T := 26) H rfl rfl ?_; intro g3_ W_ H_; (clear H; have H := H_; clear H_)) | ((with_reducible refine g_box rfl ?_); (first | refine ev_box (v := .int _ _) H rfl rfl rfl rfl ?_ | refine ev_box (v := .bool _) H rfl rfl rfl rfl ?_ | refine ev_box (v := .slice _ _ _) H rfl rfl rfl rfl ?_ | refine ev_box (v := .agg _) H rfl rfl rfl rfl ?_); intro g_ W_ H_; (clear H; have H := H_; clear H_)) | ((with_reducible refine g_alloc rfl ?_); refine ev_new H rfl rfl ?_; intro g_ W_ H_; (clear H; have H := H_; clear H_)) | ((with_reducible refine g_load rfl ?_); first | refine ev_ld1 H rfl rfl rfl ?_ | refine ev_lda H rfl rfl rfl ?_) | ((with_reducible refine g_store rfl ?_); (first | refine ev_sto (v := .int _ _) H rfl rfl rfl rfl rfl ?_ | refine ev_sto (v := .bool _) H rfl rfl rfl rfl rfl ?_ | refine ev_sto (v := .slice _ _ _) H rfl rfl rfl rfl rfl ?_ | refine ev_sto (v := .agg _) H rfl rfl rfl rfl rfl ?_); intro W_ H_; (clear H; have H := H_; clear H_)))
    have hnn : (x.tickA != x.tickA) = false := by simp
    cases hk : x.ok
    · go_wp2_with (first | (go_at_call 16; (with_reducible refine (impl_PpuTick x q _ (PpuIn.ofO (H.get (x := ppuO x q) (by ((repeat (first | (with_reducible exact Pick.here) | (with_reducible apply Pick.there))); done)))) (PpuSmall.ofO (H.get (x := ppuO x q) (by ((repeat (first | (with_reducible exact Pick.here) | (with_reducible apply Pick.there))); done))))).mono ?_); rintro e w1 ⟨qa_, fa_, rfl, kk⟩; have H_ := H.call kk; simp only [List.append_eq, List.cons_append, List.nil_append] at H_; (clear H; have H := H_; clear H_); clear kk) | (go_at_call 17; (with_reducible refine (spec_PpuTick x q _ (PpuIn.ofO (H.get (x := ppuO x q) (by ((repeat (first | (with_reducible exact Pick.here) | (with_reducible apply Pick.there))); done)))) (PpuSmall.ofO (H.get (x := ppuO x q) (by ((repeat (first | (with_reducible exact Pick.here) | (with_reducible apply Pick.there))); done))))).mono ?_); rintro e w1 ⟨qb_, fb_, rfl, kk⟩; have H_ := H.call kk; simp only [List.append_eq, List.cons_append, List.nil_append] at H_; (clear H; have H := H_; clear H_); clear kk) | (go_at_call 18; (with_reducible refine (spec_PpuOk x q _ (PpuIn.ofO (H.get (x := ppuO x q) (by ((repeat (first | (with_reducible exact Pick.here) | (with_reducible apply Pick.there))); done))))).mono ?_); rintro e w1 ⟨rfl, kb⟩; (try rw [hk]); (have H_ := H.callB kb; (clear H; have H := H_; clear H_); clear kb)) | ((with_reducible refine g_box rfl ?_); (first | refine ev_box (v := .int _ _) H rfl rfl rfl rfl ?_ | refine ev_box (v := .bool _) H rfl rfl rfl rfl ?_ | refine ev_box (v := .slice _ _ _) H rfl rfl rfl rfl ?_ | refine ev_box (v := .agg _) H rfl rfl rfl rfl ?_); intro g_ W_ H_; (clear H; have H := H_; clear H_)) | ((with_reducible refine g_alloc rfl ?_); refine ev_new H rfl rfl ?_; intro g_ W_ H_; (clear H; have H := H_; clear H_)) | ((with_reducible refine g_load rfl ?_); first | refine ev_ld1 H rfl rfl rfl ?_ | refine ev_lda H rfl rfl rfl ?_) | ((with_reducible refine g_store rfl ?_); (first | refine ev_sto (v := .int _ _) H rfl rfl rfl rfl rfl ?_ | refine ev_sto (v := .bool _) H rfl rfl rfl rfl rfl ?_ | refine ev_sto (v := .slice _ _ _) H rfl rfl rfl rfl rfl ?_ | refine ev_sto (v := .agg _) H rfl rfl rfl rfl rfl ?_); intro W_ H_; (clear H; have H := H_; clear H_)))
      all_goals (go_ret; exact ⟨rfl, H.below⟩)
    · obtain ⟨t0_, t1_⟩ := (PpuD.ok_at hk).1
      have HK := Lib.hid hk
      by_cases hl : 20000 < x.t + 8
      · go_wp2_with (first | (go_at_call 16; (with_reducible refine (impl_PpuTick x q _ (PpuIn.ofO (H.get (x := ppuO x q) (by ((repeat (first | (with_reducible exact Pick.here) | (with_reducible apply Pick.there))); done)))) (PpuSmall.ofO (H.get (x := ppuO x q) (by ((repeat (first | (with_reducible exact Pick.here) | (with_reducible apply Pick.there))); done))))).mono ?_); rintro e w1 ⟨qa_, fa_, rfl, kk⟩; have H_ := H.call kk; simp only [List.append_eq, List.cons_append, List.nil_append] at H_; (clear H; have H := H_; clear H_); clear kk) | (go_at_call 17; (with_reducible refine (spec_PpuTick x q _ (PpuIn.ofO (H.get (x := ppuO x q) (by ((repeat (first | (with_reducible exact Pick.here) | (with_reducible apply Pick.there))); done)))) (PpuSmall.ofO (H.get (x := ppuO x q) (by ((repeat (first | (with_reducible exact Pick.here) | (with_reducible apply Pick.there))); done))))).mono ?_); rintro e w1 ⟨qb_, fb_, rfl, kk⟩; have H_ := H.call kk; simp only [List.append_eq, List.cons_append, List.nil_append] at H_; (clear H; have H := H_; clear H_); clear kk) | (go_at_call 18; (with_reducible refine (spec_PpuOk x q _ (PpuIn.ofO (H.get (x := ppuO x q) (by ((repeat (first | (with_reducible exact Pick.here) | (with_reducible apply Pick.there))); done))))).mono ?_); rintro e w1 ⟨rfl, kb⟩; (try rw [hk]); (have H_ := H.callB kb; (clear H; have H := H_; clear H_); clear kb)) | ((with_reducible refine g_box rfl ?_); (first | refine ev_box (v := .int _ _) H rfl rfl rfl rfl ?_ | refine ev_box (v := .bool _) H rfl rfl rfl rfl ?_ | refine ev_box (v := .slice _ _ _) H rfl rfl rfl rfl ?_ | refine ev_box (v := .agg _) H rfl rfl rfl rfl ?_); intro g_ W_ H_; (clear H; have H := H_; clear H_)) | ((with_reducible refine g_alloc rfl ?_); refine ev_new H rfl rfl ?_; intro g_ W_ H_; (clear H; have H := H_; clear H_)) | ((with_reducible refine g_load rfl ?_); first | refine ev_ld1 H rfl rfl rfl ?_ | refine ev_lda H rfl rfl rfl ?_) | ((with_reducible refine g_store rfl ?_); (first | refine ev_sto (v := .int _ _) H rfl rfl rfl rfl rfl ?_ | refine ev_sto (v := .bool _) H rfl rfl rfl rfl rfl ?_ | refine ev_sto (v := .slice _ _ _) H rfl rfl rfl rfl rfl ?_ | refine ev_sto (v := .agg _) H rfl rfl rfl rfl rfl ?_); intro W_ H_; (clear H; have H := H_; clear H_)))
        all_goals (go_ret; exact ⟨rfl, H.below⟩)
      · go_upto_region 13 with (first | (go_at_call 16; (with_reducible refine (impl_PpuTick x q _ (PpuIn.ofO (H.get (x := ppuO x q) (by ((repeat (first | (with_reducible exact Pick.here) | (with_reducible apply Pick.there))); done)))) (PpuSmall.ofO (H.get (x := ppuO x q) (by ((repeat (first | (with_reducible exact Pick.here) | (with_reducible apply Pick.there))); done))))).mono ?_); rintro e w1 ⟨qa_, fa_, rfl, kk⟩; have H_ := H.call kk; simp only [List.append_eq, List.cons_append, List.nil_append] at H_; (clear H; have H := H_; clear H_); clear kk) | (go_at_call 17; (with_reducible refine (spec_PpuTick x q _ (PpuIn.ofO (H.get (x := ppuO x q) (by ((repeat (first | (with_reducible exact Pick.here) | (with_reducible apply Pick.there))); done)))) (PpuSmall.ofO (H.get (x := ppuO x q) (by ((repeat (first | (with_reducible exact Pick.here) | (with_reducible apply Pick.there))); done))))).mono ?_); rintro e w1 ⟨qb_, fb_, rfl, kk⟩; have H_ := H.call kk; simp only [List.append_eq, List.cons_append, List.nil_append] at H_; (clear H; have H := H_; clear H_); clear kk) | (go_at_call 18; (with_reducible refine (spec_PpuOk x q _ (PpuIn.ofO (H.get (x := ppuO x q) (by ((repeat (first | (with_reducible exact Pick.here) | (with_reducible apply Pick.there))); done))))).mono ?_); rintro e w1 ⟨rfl, kb⟩; (try rw [hk]); (have H_ := H.callB kb; (clear H; have H := H_; clear H_); clear kb)) | ((with_reducible refine g_box rfl ?_); (first | refine ev_box (v := .int _ _) H rfl rfl rfl rfl ?_ | refine ev_box (v := .bool _) H rfl rfl rfl rfl ?_ | refine ev_box (v := .slice _ _ _) H rfl rfl rfl rfl ?_ | refine ev_box (v := .agg _) H rfl rfl rfl rfl ?_); intro g_ W_ H_; (clear H; have H := H_; clear H_)) | ((with_reducible refine g_alloc rfl ?_); refine ev_new H rfl rfl ?_; intro g_ W_ H_; (clear H; have H := H_; clear H_)) | ((with_reducible refine g_load rfl ?_); first | refine ev_ld1 H rfl rfl rfl ?_ | refine ev_lda H rfl rfl rfl ?_) | ((with_reducible refine g_store rfl ?_); (first | refine ev_sto (v := .int _ _) H rfl rfl rfl rfl rfl ?_ | refine ev_sto (v := .bool _) H rfl rfl rfl rfl rfl ?_ | refine ev_sto (v := .slice _ _ _) H rfl rfl rfl rfl rfl ?_ | refine ev_sto (v := .agg _) H rfl rfl rfl rfl rfl ?_); intro W_ H_; (clear H; have H := H_; clear H_)))
        clear hk
        have hp := PpuIn.ofO (H.get (x := ppuO x q) (by ((repeat (first | (with_reducible exact Pick.here) | (with_reducible apply Pick.there))); done)))
        go_loopw [11, 12] (fun tv i wr => ∃ (k : Nat) (y : PpuD) (q1 : PpuP) (b : Bool), k ≤ 7 ∧ i = .int .i64 k ∧ tv = .bool b ∧ Hid (On x.t k y b) ∧ St w [] wr [Ast.blk g3_ [.int .i64 y.t, .int .i64 y.ctrl, .int .i64 y.scroll, .int .i64 y.addr, .int .i64 y.pal, .bool y.blank, .slice q1.table.A y.table.length q1.table.c, .slice q1.dots.A y.dots.length q1.dots.c] 26, ppuO y q1]) (fun _ i _ => 7 - (intOf i).toNat)
        case atStart => exact ⟨0, x, q, false, by omega, rfl, rfl, On.start HK.out, H.take (by (repeat (first | (with_reducible exact Picks.nil) | (with_reducible exact Pick.here) | (with_reducible apply Pick.there) | (with_reducible apply Picks.cons))))⟩
        case round =>
          clear H hp
          obtain ⟨k, y, q1, b, hk, rfl, rfl, HO, H⟩ := hrel
          by_cases hlt : (k : Int) < 7
          · cases b
            · go_wp2_with (first | (go_at_call 16; (with_reducible refine (impl_PpuTick y q1 _ (PpuIn.ofO (H.get (x := ppuO y q1) (by ((repeat (first | (with_reducible exact Pick.here) | (with_reducible apply Pick.there))); done)))) (PpuSmall.ofO (H.get (x := ppuO y q1) (by ((repeat (first | (with_reducible exact Pick.here) | (with_reducible apply Pick.there))); done))))).mono ?_); rintro e w1 ⟨q2_, f2_, rfl, kk⟩; have H_ := H.call kk; simp only [List.append_eq, List.cons_append, List.nil_append] at H_; (clear H; have H := H_; clear H_); clear kk) | ((with_reducible refine g_box rfl ?_); (first | refine ev_box (v := .int _ _) H rfl rfl rfl rfl ?_ | refine ev_box (v := .bool _) H rfl rfl rfl rfl ?_ | refine ev_box (v := .slice _ _ _) H rfl rfl rfl rfl ?_ | refine ev_box (v := .agg _) H rfl rfl rfl rfl ?_); intro g_ W_ H_; (clear H; have H := H_; clear H_)) | ((with_reducible refine g_alloc rfl ?_); refine ev_new H rfl rfl ?_; intro g_ W_ H_; (clear H; have H := H_; clear H_)) | ((with_reducible refine g_load rfl ?_); first | refine ev_ld1 H rfl rfl rfl ?_ | refine ev_lda H rfl rfl rfl ?_) | ((with_reducible refine g_store rfl ?_); (first | refine ev_sto (v := .int _ _) H rfl rfl rfl rfl rfl ?_ | refine ev_sto (v := .bool _) H rfl rfl rfl rfl rfl ?_ | refine ev_sto (v := .slice _ _ _) H rfl rfl rfl rfl rfl ?_ | refine ev_sto (v := .agg _) H rfl rfl rfl rfl rfl ?_); intro W_ H_; (clear H; have H := H_; clear H_)))
              have H_ := St.ppuO (x := y.tick) (q := q2_) H (by (repeat (first | (with_reducible exact Pick.here) | (with_reducible apply Pick.there)))) (ok_lens (PpuD.tick_ok HO.out.ok)).1 (ok_lens (PpuD.tick_ok HO.out.ok)).2
              (clear H; have H := H_; clear H_)
              go_roundw
              case rel => exact ⟨k + 1, y.tick, q2_, _, by omega, by go_num, rfl, (HO.out.next t0_ (by omega)), H.take (by (repeat (first | (with_reducible exact Picks.nil) | (with_reducible exact Pick.here) | (with_reducible apply Pick.there) | (with_reducible apply Picks.cons))))⟩
              case measure => simp [intOf]; omega
            · go_wp2_with (first | (go_at_call 16; (with_reducible refine (impl_PpuTick y q1 _ (PpuIn.ofO (H.get (x := ppuO y q1) (by ((repeat (first | (with_reducible exact Pick.here) | (with_reducible apply Pick.there))); done)))) (PpuSmall.ofO (H.get (x := ppuO y q1) (by ((repeat (first | (with_reducible exact Pick.here) | (with_reducible apply Pick.there))); done))))).mono ?_); rintro e w1 ⟨q2_, f2_, rfl, kk⟩; have H_ := H.call kk; simp only [List.append_eq, List.cons_append, List.nil_append] at H_; (clear H; have H := H_; clear H_); clear kk) | ((with_reducible refine g_box rfl ?_); (first | refine ev_box (v := .int _ _) H rfl rfl rfl rfl ?_ | refine ev_box (v := .bool _) H rfl rfl rfl rfl ?_ | refine ev_box (v := .slice _ _ _) H rfl rfl rfl rfl ?_ | refine ev_box (v := .agg _) H rfl rfl rfl rfl ?_); intro g_ W_ H_; (clear H; have H := H_; clear H_)) | ((with_reducible refine g_alloc rfl ?_); refine ev_new H rfl rfl ?_; intro g_ W_ H_; (clear H; have H := H_; clear H_)) | ((with_reducible refine g_load rfl ?_); first | refine ev_ld1 H rfl rfl rfl ?_ | refine ev_lda H rfl rfl rfl ?_) | ((with_reducible refine g_store rfl ?_); (first | refine ev_sto (v := .int _ _) H rfl rfl rfl rfl rfl ?_ | refine ev_sto (v := .bool _) H rfl rfl rfl rfl rfl ?_ | refine ev_sto (v := .slice _ _ _) H rfl rfl rfl rfl rfl ?_ | refine ev_sto (v := .agg _) H rfl rfl rfl rfl rfl ?_); intro W_ H_; (clear H; have H := H_; clear H_)))
              have H_ := St.ppuO (x := y.tick) (q := q2_) H (by (repeat (first | (with_reducible exact Pick.here) | (with_reducible apply Pick.there)))) (ok_lens (PpuD.tick_ok HO.out.ok)).1 (ok_lens (PpuD.tick_ok HO.out.ok)).2
              (clear H; have H := H_; clear H_)
              go_roundw
              case rel => exact ⟨k + 1, y.tick, q2_, _, by omega, by go_num, rfl, (HO.out.next t0_ (by omega)), H.take (by (repeat (first | (with_reducible exact Picks.nil) | (with_reducible exact Pick.here) | (with_reducible apply Pick.there) | (with_reducible apply Picks.cons))))⟩
              case measure => simp [intOf]; omega
          · have hb := Lib.hid HO.out.b
            by_cases hc : 127 < y.ctrl
            · go_wp2_with (first | (go_at_call 19; (with_reducible refine (impl_BlankIn _ _ _).mono ?_); rintro e w1 ⟨rfl, rfl⟩) | ((with_reducible refine g_box rfl ?_); (first | refine ev_box (v := .int _ _) H rfl rfl rfl rfl ?_ | refine ev_box (v := .bool _) H rfl rfl rfl rfl ?_ | refine ev_box (v := .slice _ _ _) H rfl rfl rfl rfl ?_ | refine ev_box (v := .agg _) H rfl rfl rfl rfl ?_); intro g_ W_ H_; (clear H; have H := H_; clear H_)) | ((with_reducible refine g_alloc rfl ?_); refine ev_new H rfl rfl ?_; intro g_ W_ H_; (clear H; have H := H_; clear H_)) | ((with_reducible refine g_load rfl ?_); first | refine ev_ld1 H rfl rfl rfl ?_ | refine ev_lda H rfl rfl rfl ?_) | ((with_reducible refine g_store rfl ?_); (first | refine ev_sto (v := .int _ _) H rfl rfl rfl rfl rfl ?_ | refine ev_sto (v := .bool _) H rfl rfl rfl rfl rfl ?_ | refine ev_sto (v := .slice _ _ _) H rfl rfl rfl rfl rfl ?_ | refine ev_sto (v := .agg _) H rfl rfl rfl rfl rfl ?_); intro W_ H_; (clear H; have H := H_; clear H_)))
              all_goals (go_ret; exact ⟨ret_b (by have := hb.out; simp_all), H.below⟩)
            · go_wp2_with (first | (go_at_call 19; (with_reducible refine (impl_BlankIn _ _ _).mono ?_); rintro e w1 ⟨rfl, rfl⟩) | ((with_reducible refine g_box rfl ?_); (first | refine ev_box (v := .int _ _) H rfl rfl rfl rfl ?_ | refine ev_box (v := .bool _) H rfl rfl rfl rfl ?_ | refine ev_box (v := .slice _ _ _) H rfl rfl rfl rfl ?_ | refine ev_box (v := .agg _) H rfl rfl rfl rfl ?_); intro g_ W_ H_; (clear H; have H := H_; clear H_)) | ((with_reducible refine g_alloc rfl ?_); refine ev_new H rfl rfl ?_; intro g_ W_ H_; (clear H; have H := H_; clear H_)) | ((with_reducible refine g_load rfl ?_); first | refine ev_ld1 H rfl rfl rfl ?_ | refine ev_lda H rfl rfl rfl ?_) | ((with_reducible refine g_store rfl ?_); (first | refine ev_sto (v := .int _ _) H rfl rfl rfl rfl rfl ?_ | refine ev_sto (v := .bool _) H rfl rfl rfl rfl rfl ?_ | refine ev_sto (v := .slice _ _ _) H rfl rfl rfl rfl rfl ?_ | refine ev_sto (v := .agg _) H rfl rfl rfl rfl rfl ?_); intro W_ H_; (clear H; have H := H_; clear H_)))
              all_goals (go_ret; exact ⟨ret_b (by have := hb.out; simp_all), H.below⟩)
end Go.Proofs.Ytolfbmdgkbbnfaa.fnKnows
namespace Go.Proofs.Ytolfbmdgkbbnfaa.fnKnows
open Go.ChangeShapes Go.WideShapes Go.ChangeAt Go.RowKit Go.Proofs.Ytolfbmdgkbbnfaa.K Go.Proofs.Ytolfbmdgkbbnfaa.B Go.Proofs.Ytolfbmdgkbbnfaa.C
set_option linter.unusedVariables false
theorem own : ownKnob Try.prog.godebug = none := by kernel_rfl
theorem laidOut : laidOutB Try.prog = true := by kernel_rfl
set_option maxRecDepth 100000 in
set_option maxHeartbeats 1000000 in
theorem lifted (os : Os) (started : os.Started) (H : Type) (enc : TypeId × Value → H) :
    ReturnsInHanded {} Try.checked os 3 .any (Rows.fnKnowsSpec.pre6 enc Try.prog Try.f3 Rows.fnKnowsRow.domain false) (Rows.fnKnowsSpec.post enc Try.prog Try.f3 false true false false) := by
  refine returnsInHanded_of_change_sized (C := Try.checked) own started (by kernel_rfl) Try.func3
    (ChangeSpec.witness6 (enc := enc) (C := Try.checked) false ⟨#[], #[.slice none 0 0], []⟩ 8 (by kernel_rfl) (by kernel_rfl) (by kernel_rfl) (by kernel_rfl)) ?_
  intro W base args ds gs before hval0 hW hcnd hsz0 _
  have hval : ∀ (j : Nat) t v, Try.f3.params[j]? = some t → args[j]? = some v → Value.okWide Try.prog W .any base t v := hval0
  have hW' := hW
  obtain ⟨p, q, hA0, hV, rfl, hfz, hnd⟩ := hW
  have hA : DataW.TrodAll enc Try.prog W 0 (fun _ => true) true Try.f3.params.toList args.toList ds p := hA0
  rw [Try.params3] at hA hval
  obtain ⟨v0, vs0, d0, ds0, p0, q0, hargs, rfl, rfl, h0, r0⟩ := trodAll_cons hA
  obtain ⟨rfl, rfl, rfl⟩ := trodAll_nil r0
  obtain rfl : args = #[v0] := by cases args; simp_all
  obtain ⟨rfl, rfl⟩ := trodVars_none hV
  have k0 := h0
  have lt0 : ∀ x ∈ p0, x.block < W.heap.size := by obtain ⟨m, hm⟩ := k0; exact DataW.trod_lt m _ _ _ hm
  obtain ⟨A0_, n0_, c0_, rfl⟩ := okWide_slice Try.underlying22 (hval 0 22 v0 rfl rfl)
  obtain ⟨m0, hm0⟩ := h0
  obtain ⟨A0, c0, l0, e0, i0⟩ := leaf_bytes Try.underlying22 Try.underlying5 (by kernel_rfl) (by simpa [Value.cells] using hm0)
  injection e0 with e0a e0b e0c
  subst e0a e0b e0c
  clear hA0 hval0 hsz0
  refine (walk W A0_ c0_ l0 i0).mono fun e W' ⟨he, bel⟩ => ?_
  subst he
  exact ⟨_, rfl, _, _, _, [], _, [], hW', trodAll_mk1 (shut_bool Try.underlying4 _), (trodAll_cons_mk (Below.trod laidOut (by kernel_rfl) (of_decide_eq_true (by kernel_rfl)) k0 bel lt0) trodAll_mk0), rfl, bel.frame _, fun h => by cases h⟩
theorem over : Rows.fnKnowsRow.holds Try.pinned (OpenSpec.ofChange Rows.fnKnowsSpec) :=
  OpenClaim.holds_of_wide 3 Try.f3 rfl rfl rfl rfl rfl rfl rfl ⟨rfl, rfl, rfl, rfl, rfl⟩ rfl rfl rfl rfl rfl (by kernel_rfl) Try.func3 (by kernel_rfl)
    (of_decide_eq_true (by kernel_rfl)) (by unfold Func.isWrapper; first | (rw [if_pos (by decide +kernel)]; kernel_rfl) | (rw [if_neg (by decide +kernel)]; exact ⟨rfl, rfl⟩))
    (fun os started H enc _ => lifted os started H enc)
theorem proved : Rows.FnKnowsSaid := over
end Go.Proofs.Ytolfbmdgkbbnfaa.fnKnows
namespace Go.Proofs.Ytolfbmdgkbbnfaa
theorem fnKnows_holds : Rows.FnKnowsSaid := fnKnows.proved
end Go.Proofs.Ytolfbmdgkbbnfaa
