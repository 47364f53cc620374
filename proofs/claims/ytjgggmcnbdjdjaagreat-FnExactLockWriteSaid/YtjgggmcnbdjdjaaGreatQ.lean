/- What the dots of the picture unit tell. -/
import Derived.Test.YtjgggmcnbdjdjaaGreatP
namespace Go.Proofs.YtjgggmcnbdjdjaaGreat.C
open Go.RowKit Go.Proofs.YtjgggmcnbdjdjaaGreat.K Go.Proofs.YtjgggmcnbdjdjaaGreat.B
attribute [local go_sem] max2_int min2_int max_two min_two i64_and255 i64_and65535 i64_and1
set_option maxRecDepth 20000
set_option linter.unusedVariables false
set_option linter.unusedSimpArgs false
/-- The place in the table of a dot. -/
def PpuD.place (x : PpuD) (at_ : Int) : Nat := ((at_ % 8 + x.scroll + at_ / 8) % 16).toNat
def PpuD.dot (x : PpuD) (at_ : Int) : Int := bits .xor .i64 (rd x.table (x.place at_)) x.pal
theorem PpuD.ok_at {x : PpuD} (h : x.ok = true) : (0 ≤ x.t ∧ x.t ≤ 20000) ∧ (0 ≤ x.ctrl ∧ x.ctrl ≤ 255) ∧ (0 ≤ x.scroll ∧ x.scroll ≤ 255) ∧ (0 ≤ x.addr ∧ x.addr ≤ 15) ∧ (0 ≤ x.pal ∧ x.pal ≤ 63) ∧ x.table.length = 16 ∧ allB 0 63 x.table = true ∧ (x.dots.length : Int) = dotsN x.t ∧ allB 0 63 x.dots = true := by
  simp only [PpuD.ok, Bool.and_eq_true, inB_iff, beq_iff_eq] at h
  obtain ⟨h1, h2, h3, h4, h5, h6, h7, h8, h9⟩ := h
  exact ⟨h1, h2, h3, h4, h5, by omega, h7, h8, h9⟩
def PpuD.dotAt (x : PpuD) (at_ : Int) : Int := if x.ok = true ∧ inB at_ 0 47 = true then x.dot at_ else 0
set_option maxHeartbeats 4000000 in
theorem impl_dot (x : PpuD) (q : PpuP) (at_ : Int) (g : Nat) (w : World) (hb : (Ast.blk g [.int .i64 x.t, .int .i64 x.ctrl, .int .i64 x.scroll, .int .i64 x.addr, .int .i64 x.pal, .bool x.blank, .slice q.table.A x.table.length q.table.c, .slice q.dots.A x.dots.length q.dots.c] 44).p w) (ht : InI w q.table.A q.table.c x.table) (hl : x.table.length = 16) (h1 : 0 ≤ x.scroll) (h2 : x.scroll ≤ 255) (h3 : 0 ≤ at_) (h4 : at_ ≤ 47) :
    Calls Tryz.prog 232 #[.pointer (some ⟨g, 0, none⟩), .int .i64 at_] w fun e w' => e = .returned (.int .i64 (x.dot at_)) ∧ Below w.heap.size w w' := by
  have H := St.nil w []
  have e0 : 0 ≤ at_ % 8 + x.scroll + at_ / 8 := by omega
  have e1 : 0 ≤ (at_ % 8 + x.scroll + at_ / 8) % 16 := by omega
  have e2 : (at_ % 8 + x.scroll + at_ / 8) % 16 < 16 := by omega
  have e5 : (at_ % 8 + x.scroll + at_ / 8) % 16 < (x.table.length : Int) := by omega
  have hk : x.place at_ < x.table.length := by unfold PpuD.place; omega
  obtain ⟨⟨A1, c1⟩, ⟨A2, c2⟩⟩ := q
  simp only at ht hb
  have hle := ht.1
  obtain ⟨ad, hA, _⟩ := ht.cell H hk
  subst hA
  have hcell : ∀ {W : World} {l : List Ast}, St w [] W l → W.cell? (ad.add (x.place at_)) = some (.int .i64 (rd x.table (x.place at_))) := fun H' => by
    obtain ⟨ad', h1, h2⟩ := ht.cell H' hk
    injection h1 with h1; subst h1; exact h2
  have HL := Lib.hid hl
  clear hl hk
  unfold PpuD.dot
  unfold PpuD.place at hcell ⊢
  go_enter Tryz.func232, Tryz.ntmps232
  go_wp2_with (first | ((with_reducible refine g_box rfl ?_); (first | refine ev_box (v := .int _ _) H rfl rfl rfl rfl ?_ | refine ev_box (v := .bool _) H rfl rfl rfl rfl ?_ | refine ev_box (v := .slice _ _ _) H rfl rfl rfl rfl ?_ | refine ev_box (v := .agg _) H rfl rfl rfl rfl ?_); intro g_ W_ H_; (clear H; have H := H_; clear H_)) | ((with_reducible refine g_alloc rfl ?_); refine ev_new H rfl rfl ?_; intro g_ W_ H_; (clear H; have H := H_; clear H_)) | ((with_reducible refine g_load rfl ?_); first | refine ev_ld1 H rfl rfl rfl ?_ | refine ev_lda H rfl rfl rfl ?_) | ((with_reducible refine g_store rfl ?_); (first | refine ev_sto (v := .int _ _) H rfl rfl rfl rfl rfl ?_ | refine ev_sto (v := .bool _) H rfl rfl rfl rfl rfl ?_ | refine ev_sto (v := .slice _ _ _) H rfl rfl rfl rfl rfl ?_ | refine ev_sto (v := .agg _) H rfl rfl rfl rfl rfl ?_); intro W_ H_; (clear H; have H := H_; clear H_)) | ((with_reducible refine g_load rfl ?_); first | refine ev_load_in_one rfl rfl rfl (oneT rfl) (hcell H) ?_ | refine ev_load_blk1 (H.old0 hb) rfl rfl rfl (oneT rfl) rfl ?_))
  (with_reducible refine g_draw ?_)
  try simp only [Act.put, List.setIfInBounds_toArray, List.set_cons_succ, List.set_cons_zero]
  refine F_begin (ls := #[false, false, false, false, false, false, false, false, false, false, false, false, false, false, false, false, false, false, false, false, false, false, false]) (by kernel_rfl) rfl (by kernel_rfl) ?_
  have H_ := H.drew
  (clear H; have H := H_; clear H_)
  refine T_go [(0, 0, 5), (0, 1, 6), (0, 2, 7), (1, 3, 8), (0, 4, 9), (0, 5, 10), (0, 6, 11), (0, 7, 12), (0, 8, 13), (1, 9, 14), (0, 10, 15), (0, 11, 16), (0, 12, 17), (0, 13, 18), (0, 14, 19), (0, 15, 20), (1, 16, 21), (0, 17, 22), (0, 18, 23), (0, 19, 24), (1, 20, 25), (0, 21, 26), (0, 22, 4)] ?_; (repeat (first | (refine' T_pure _ rfl rfl (by kernel_rfl) (Nat.le_of_ble_eq_true (by kernel_rfl)) (fun w2_ K_ hK_ => ?_) ?_; rotate_left 1; focus ((conv => (arg 4; arg 1; whnf)); (repeat (first | exact hK_ rfl | go_step | go_guarded | go_upon | dsimp only)); done)) | (refine' T_read _ rfl rfl (by kernel_rfl) (Nat.le_of_ble_eq_true (by kernel_rfl)) (fun K_ hK_ => ?_) ?_; rotate_left 1; focus ((conv => (arg 4; arg 1; whnf)); (repeat (first | exact hK_ rfl | (go_big_may; (first | ((with_reducible refine g_load rfl ?_); first | refine ev_load_in_one rfl rfl rfl (oneT rfl) (hcell H) ?_ | refine ev_load_blk1 (H.old0 hb) rfl rfl rfl (oneT rfl) rfl ?_) | ((with_reducible refine g_load rfl ?_); first | refine ev_ld1 H rfl rfl rfl ?_ | refine ev_lda H rfl rfl rfl ?_))) | go_step | go_guarded | go_upon | dsimp only)); done)))); refine T_end ?_
  refine F_done (by kernel_rfl) ?_
  go_wp2_with (first | ((with_reducible refine g_box rfl ?_); (first | refine ev_box (v := .int _ _) H rfl rfl rfl rfl ?_ | refine ev_box (v := .bool _) H rfl rfl rfl rfl ?_ | refine ev_box (v := .slice _ _ _) H rfl rfl rfl rfl ?_ | refine ev_box (v := .agg _) H rfl rfl rfl rfl ?_); intro g_ W_ H_; (clear H; have H := H_; clear H_)) | ((with_reducible refine g_alloc rfl ?_); refine ev_new H rfl rfl ?_; intro g_ W_ H_; (clear H; have H := H_; clear H_)) | ((with_reducible refine g_load rfl ?_); first | refine ev_ld1 H rfl rfl rfl ?_ | refine ev_lda H rfl rfl rfl ?_) | ((with_reducible refine g_store rfl ?_); (first | refine ev_sto (v := .int _ _) H rfl rfl rfl rfl rfl ?_ | refine ev_sto (v := .bool _) H rfl rfl rfl rfl rfl ?_ | refine ev_sto (v := .slice _ _ _) H rfl rfl rfl rfl rfl ?_ | refine ev_sto (v := .agg _) H rfl rfl rfl rfl rfl ?_); intro W_ H_; (clear H; have H := H_; clear H_)) | ((with_reducible refine g_load rfl ?_); first | refine ev_load_in_one rfl rfl rfl (oneT rfl) (hcell H) ?_ | refine ev_load_blk1 (H.old0 hb) rfl rfl rfl (oneT rfl) rfl ?_))
  go_ret
  exact ⟨rfl, H.below⟩
theorem impl_dott (x : PpuD) (tt : Int) (q : PpuP) (at_ : Int) (g : Nat) (w : World) (hb : (Ast.blk g [.int .i64 tt, .int .i64 x.ctrl, .int .i64 x.scroll, .int .i64 x.addr, .int .i64 x.pal, .bool x.blank, .slice q.table.A x.table.length q.table.c, .slice q.dots.A x.dots.length q.dots.c] 44).p w) (ht : InI w q.table.A q.table.c x.table) (hl : x.table.length = 16) (h1 : 0 ≤ x.scroll) (h2 : x.scroll ≤ 255) (h3 : 0 ≤ at_) (h4 : at_ ≤ 47) :
    Calls Tryz.prog 232 #[.pointer (some ⟨g, 0, none⟩), .int .i64 at_] w fun e w' => e = .returned (.int .i64 (x.dot at_)) ∧ Below w.heap.size w w' :=
  impl_dot { x with t := tt } q at_ g w hb ht hl h1 h2 h3 h4
set_option maxHeartbeats 4000000 in
theorem spec_l8Dot (x : PpuD) (q : PpuP) (at_ : Int) (w : World) (ht : InI w q.table.A q.table.c x.table) (hl : x.table.length = 16) (h1 : 0 ≤ x.scroll) (h2 : x.scroll ≤ 255) (h3 : 0 ≤ at_) (h4 : at_ ≤ 47) :
    Calls Tryz.prog 225 #[.agg #[.int .i64 x.t, .int .i64 x.ctrl, .int .i64 x.scroll, .int .i64 x.addr, .int .i64 x.pal, .bool x.blank, .slice q.table.A x.table.length q.table.c, .slice q.dots.A x.dots.length q.dots.c], .int .i64 at_] w fun e w' => e = .returned (.int .i64 (x.dot at_)) ∧ Below w.heap.size w w' := by
  have H := St.nil w []
  have e0 : 0 ≤ at_ % 8 + x.scroll + at_ / 8 := by omega
  have e1 : 0 ≤ (at_ % 8 + x.scroll + at_ / 8) % 16 := by omega
  have e2 : (at_ % 8 + x.scroll + at_ / 8) % 16 < 16 := by omega
  have e5 : (at_ % 8 + x.scroll + at_ / 8) % 16 < (x.table.length : Int) := by omega
  have hk : x.place at_ < x.table.length := by unfold PpuD.place; omega
  obtain ⟨⟨A1, c1⟩, ⟨A2, c2⟩⟩ := q
  simp only at ht
  have hle := ht.1
  obtain ⟨ad, hA, _⟩ := ht.cell H hk
  subst hA
  have hcell : ∀ {W : World} {l : List Ast}, St w [] W l → W.cell? (ad.add (x.place at_)) = some (.int .i64 (rd x.table (x.place at_))) := fun H' => by
    obtain ⟨ad', h1, h2⟩ := ht.cell H' hk
    injection h1 with h1; subst h1; exact h2
  have HL := Lib.hid hl
  clear hl hk
  unfold PpuD.dot
  unfold PpuD.place at hcell ⊢
  go_enter Tryz.func225, Tryz.ntmps225
  go_wp2_with (first | ((with_reducible refine g_box rfl ?_); (first | refine ev_box (v := .int _ _) H rfl rfl rfl rfl ?_ | refine ev_box (v := .bool _) H rfl rfl rfl rfl ?_ | refine ev_box (v := .slice _ _ _) H rfl rfl rfl rfl ?_ | refine ev_box (v := .agg _) H rfl rfl rfl rfl ?_); intro g_ W_ H_; (clear H; have H := H_; clear H_)) | ((with_reducible refine g_alloc rfl ?_); refine ev_new H rfl rfl ?_; intro g_ W_ H_; (clear H; have H := H_; clear H_)) | ((with_reducible refine g_load rfl ?_); first | refine ev_ld1 H rfl rfl rfl ?_ | refine ev_lda H rfl rfl rfl ?_) | ((with_reducible refine g_store rfl ?_); (first | refine ev_sto (v := .int _ _) H rfl rfl rfl rfl rfl ?_ | refine ev_sto (v := .bool _) H rfl rfl rfl rfl rfl ?_ | refine ev_sto (v := .slice _ _ _) H rfl rfl rfl rfl rfl ?_ | refine ev_sto (v := .agg _) H rfl rfl rfl rfl rfl ?_); intro W_ H_; (clear H; have H := H_; clear H_)) | ((with_reducible refine g_load rfl ?_); refine ev_load_in_one rfl rfl rfl (oneT rfl) (hcell H) ?_))
  (with_reducible refine g_draw ?_)
  try simp only [Act.put, List.setIfInBounds_toArray, List.set_cons_succ, List.set_cons_zero]
  refine F_begin (ls := #[false, false, false, false, false, false, false, false, false, false, false, false, false, false, false, false, false]) (by kernel_rfl) rfl (by kernel_rfl) ?_
  have H_ := H.drew
  (clear H; have H := H_; clear H_)
  refine T_go [(0, 0, 5), (1, 1, 6), (0, 2, 7), (0, 3, 8), (0, 4, 9), (1, 5, 10), (0, 6, 11), (0, 7, 12), (0, 8, 13), (0, 9, 14), (0, 10, 15), (0, 11, 16), (1, 12, 17), (0, 13, 18), (1, 14, 19), (0, 15, 20), (0, 16, 4)] ?_; (repeat (first | (refine' T_pure _ rfl rfl (by kernel_rfl) (Nat.le_of_ble_eq_true (by kernel_rfl)) (fun w2_ K_ hK_ => ?_) ?_; rotate_left 1; focus ((conv => (arg 4; arg 1; whnf)); (repeat (first | exact hK_ rfl | go_step | go_guarded | go_upon | dsimp only)); done)) | (refine' T_read _ rfl rfl (by kernel_rfl) (Nat.le_of_ble_eq_true (by kernel_rfl)) (fun K_ hK_ => ?_) ?_; rotate_left 1; focus ((conv => (arg 4; arg 1; whnf)); (repeat (first | exact hK_ rfl | (go_big_may; (first | ((with_reducible refine g_load rfl ?_); refine ev_load_in_one rfl rfl rfl (oneT rfl) (hcell H) ?_) | ((with_reducible refine g_load rfl ?_); first | refine ev_ld1 H rfl rfl rfl ?_ | refine ev_lda H rfl rfl rfl ?_))) | go_step | go_guarded | go_upon | dsimp only)); done)))); refine T_end ?_
  refine F_done (by kernel_rfl) ?_
  go_wp2_with (first | ((with_reducible refine g_box rfl ?_); (first | refine ev_box (v := .int _ _) H rfl rfl rfl rfl ?_ | refine ev_box (v := .bool _) H rfl rfl rfl rfl ?_ | refine ev_box (v := .slice _ _ _) H rfl rfl rfl rfl ?_ | refine ev_box (v := .agg _) H rfl rfl rfl rfl ?_); intro g_ W_ H_; (clear H; have H := H_; clear H_)) | ((with_reducible refine g_alloc rfl ?_); refine ev_new H rfl rfl ?_; intro g_ W_ H_; (clear H; have H := H_; clear H_)) | ((with_reducible refine g_load rfl ?_); first | refine ev_ld1 H rfl rfl rfl ?_ | refine ev_lda H rfl rfl rfl ?_) | ((with_reducible refine g_store rfl ?_); (first | refine ev_sto (v := .int _ _) H rfl rfl rfl rfl rfl ?_ | refine ev_sto (v := .bool _) H rfl rfl rfl rfl rfl ?_ | refine ev_sto (v := .slice _ _ _) H rfl rfl rfl rfl rfl ?_ | refine ev_sto (v := .agg _) H rfl rfl rfl rfl rfl ?_); intro W_ H_; (clear H; have H := H_; clear H_)) | ((with_reducible refine g_load rfl ?_); refine ev_load_in_one rfl rfl rfl (oneT rfl) (hcell H) ?_))
  go_ret
  exact ⟨rfl, H.below⟩
end Go.Proofs.YtjgggmcnbdjdjaaGreat.C
