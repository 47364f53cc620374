/- What is drawn of picture units. -/
import Derived.Test.YtodjaobmhiglcaaDR3
import Derived.Test.YtodjaobmhiglcaaQ6
import Derived.Test.YtodjaobmhiglcaaQ4
namespace Go.Proofs.Ytodjaobmhiglcaa.C
open Go.RowKit Go.Proofs.Ytodjaobmhiglcaa.K Go.Proofs.Ytodjaobmhiglcaa.B
attribute [local go_sem] max2_int min2_int max_two min_two i64_and255 i64_and65535 i64_and1
set_option maxRecDepth 20000
set_option linter.unusedVariables false
set_option linter.unusedSimpArgs false
def PpuD.new : PpuD := ⟨0, 0, 0, 0, 0, false, List.replicate 16 0, []⟩
theorem PpuD.new_ok : PpuD.new.ok = true := by decide +kernel
set_option maxHeartbeats 4000000 in
theorem spec_PpuNew (w : World) : Calls Try.prog 120 #[] w fun e w' => ∃ q : PpuP, e = .returned (.agg #[.int .i64 0, .int .i64 0, .int .i64 0, .int .i64 0, .int .i64 0, .bool false, .slice q.table.A 16 q.table.c, .slice q.dots.A 0 q.dots.c]) ∧ St w [] w' [ppuA PpuD.new q] := by
  have H := St.nil w []
  go_enter Try.func120, Try.ntmps120
  go_wp2_with (first | ((with_reducible refine g_make rfl ?_); refine ev_make (n := 16) H rfl rfl Try.underlying24 info_int rfl rfl rfl rfl (by omega) (by omega) ?_; intro gt_ W_ H_; rw [made_nums] at H_; (clear H; have H := (show St _ _ _ (intsA ⟨some ⟨gt_, 0, none⟩, 16⟩ (List.replicate 16 0) :: _) from H_); clear H_)) | ((with_reducible refine g_box rfl ?_); (first | refine ev_box (v := .int _ _) H rfl rfl rfl rfl ?_ | refine ev_box (v := .bool _) H rfl rfl rfl rfl ?_ | refine ev_box (v := .slice _ _ _) H rfl rfl rfl rfl ?_ | refine ev_box (v := .agg _) H rfl rfl rfl rfl ?_); intro g_ W_ H_; (clear H; have H := H_; clear H_)) | ((with_reducible refine g_alloc rfl ?_); refine ev_new H rfl rfl ?_; intro g_ W_ H_; (clear H; have H := H_; clear H_)) | ((with_reducible refine g_load rfl ?_); first | refine ev_ld1 H rfl rfl rfl ?_ | refine ev_lda H rfl rfl rfl ?_) | ((with_reducible refine g_store rfl ?_); (first | refine ev_sto (v := .int _ _) H rfl rfl rfl rfl rfl ?_ | refine ev_sto (v := .bool _) H rfl rfl rfl rfl rfl ?_ | refine ev_sto (v := .slice _ _ _) H rfl rfl rfl rfl rfl ?_ | refine ev_sto (v := .agg _) H rfl rfl rfl rfl rfl ?_); intro W_ H_; (clear H; have H := H_; clear H_)))
  have H_ := St.addNil H
  (clear H; have H := H_; clear H_)
  have H_ := (St.pack (l1 := [intsA ⟨some ⟨gt_, 0, none⟩, 16⟩ (List.replicate 16 0), intsA ⟨none, 0⟩ []]) (show St w [] _ [intsA ⟨none, 0⟩ [], _, intsA ⟨some ⟨gt_, 0, none⟩, 16⟩ (List.replicate 16 0)] from H) (Picks.cons (.there (.there .here)) (Picks.cons .here .nil))).take (Picks.cons Pick.here Picks.nil)
  refine' back1 Try.results120 ?_ rfl ⟨⟨⟨some ⟨gt_, 0, none⟩, 16⟩, ⟨none, 0⟩⟩, ?_, H_⟩; rotate_left 1; (focus first | (with_reducible exact rv_tmp rfl) | (refine' rv_agg H rfl ?_ ?_ ?_; rotate_left 4; (focus (repeat (first | (with_reducible exact Pick.here) | (with_reducible apply Pick.there)))); (focus exact aggT rfl); (focus rfl)) | (refine' rv_one H rfl ?_ ?_; rotate_left 3; (focus (repeat (first | (with_reducible exact Pick.here) | (with_reducible apply Pick.there)))); (focus exact oneT rfl)))
  rfl
end Go.Proofs.Ytodjaobmhiglcaa.C
