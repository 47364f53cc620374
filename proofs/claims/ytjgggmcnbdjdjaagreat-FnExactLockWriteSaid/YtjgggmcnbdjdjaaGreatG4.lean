/- The time of a ring's last record. -/
import Derived.Test.YtjgggmcnbdjdjaaGreatC2
import Derived.Test.YtjgggmcnbdjdjaaGreatP
namespace Go.Proofs.YtjgggmcnbdjdjaaGreat.C
open Go.RowKit Go.Proofs.YtjgggmcnbdjdjaaGreat.K Go.Proofs.YtjgggmcnbdjdjaaGreat.B
attribute [local go_sem] max2_int min2_int max_two min_two i64_and255 i64_and65535 i64_and1
set_option maxRecDepth 20000
set_option linter.unusedVariables false
set_option linter.unusedSimpArgs false
/-- The time of the last record; 0: there is none. -/
def RingD.last (x : RingD) : Int := if x.list.length = 0 then 0 else (rdr x.list (x.list.length - 1)).t
set_option maxHeartbeats 4000000 in
theorem spec_l14Last (x : RingD) (q : RingP) (w : World) (hx : RingIn w x q) : Calls Tryz.prog 151 #[.agg #[.int .i64 x.cap, .slice q.list.A x.list.length q.list.c]] w fun e w' => e = .returned (.int .i64 x.last) ∧ Below w.heap.size w w' := by
  have H := St.nil w []
  have hi := hx.list
  have hm := hi.2.1
  obtain ⟨⟨A, c⟩⟩ := q
  simp only at hi
  rcases Nat.eq_zero_or_pos x.list.length with h0 | h0
  · have hz : x.last = 0 := by simp [RingD.last, h0]
    rw [hz, h0]
    clear hz hm
    go_enter Tryz.func151, Tryz.ntmps151
    go_wp2_with (first | ((with_reducible refine g_box rfl ?_); (first | refine ev_box (v := .int _ _) H rfl rfl rfl rfl ?_ | refine ev_box (v := .bool _) H rfl rfl rfl rfl ?_ | refine ev_box (v := .slice _ _ _) H rfl rfl rfl rfl ?_ | refine ev_box (v := .agg _) H rfl rfl rfl rfl ?_); intro g_ W_ H_; (clear H; have H := H_; clear H_)) | ((with_reducible refine g_alloc rfl ?_); refine ev_new H rfl rfl ?_; intro g_ W_ H_; (clear H; have H := H_; clear H_)) | ((with_reducible refine g_load rfl ?_); first | refine ev_ld1 H rfl rfl rfl ?_ | refine ev_lda H rfl rfl rfl ?_) | ((with_reducible refine g_store rfl ?_); (first | refine ev_sto (v := .int _ _) H rfl rfl rfl rfl rfl ?_ | refine ev_sto (v := .bool _) H rfl rfl rfl rfl rfl ?_ | refine ev_sto (v := .slice _ _ _) H rfl rfl rfl rfl rfl ?_ | refine ev_sto (v := .agg _) H rfl rfl rfl rfl rfl ?_); intro W_ H_; (clear H; have H := H_; clear H_)))
    go_ret
    exact ⟨rfl, H.below⟩
  · obtain ⟨p, hp⟩ : ∃ p, x.list.length = p + 1 := ⟨x.list.length - 1, by omega⟩
    have hlt : p < x.list.length := by omega
    have hz : x.last = (rdr x.list p).t := by simp [RingD.last, hp]
    have hp1 : p + 1 ≤ 9223372036854775807 := by omega
    obtain ⟨ad, rfl, _⟩ := hi.cell H h0
    rw [hz, hp]
    clear hz hp h0 hm
    go_enter Tryz.func151, Tryz.ntmps151
    go_wp2_with (first | ((with_reducible refine g_load rfl ?_); refine ev_load_in_one rfl rfl rfl (oneT rfl) (hi.at0 H hlt) ?_) | ((with_reducible refine g_box rfl ?_); (first | refine ev_box (v := .int _ _) H rfl rfl rfl rfl ?_ | refine ev_box (v := .bool _) H rfl rfl rfl rfl ?_ | refine ev_box (v := .slice _ _ _) H rfl rfl rfl rfl ?_ | refine ev_box (v := .agg _) H rfl rfl rfl rfl ?_); intro g_ W_ H_; (clear H; have H := H_; clear H_)) | ((with_reducible refine g_alloc rfl ?_); refine ev_new H rfl rfl ?_; intro g_ W_ H_; (clear H; have H := H_; clear H_)) | ((with_reducible refine g_load rfl ?_); first | refine ev_ld1 H rfl rfl rfl ?_ | refine ev_lda H rfl rfl rfl ?_) | ((with_reducible refine g_store rfl ?_); (first | refine ev_sto (v := .int _ _) H rfl rfl rfl rfl rfl ?_ | refine ev_sto (v := .bool _) H rfl rfl rfl rfl rfl ?_ | refine ev_sto (v := .slice _ _ _) H rfl rfl rfl rfl rfl ?_ | refine ev_sto (v := .agg _) H rfl rfl rfl rfl rfl ?_); intro W_ H_; (clear H; have H := H_; clear H_)))
    go_ret
    exact ⟨rfl, H.below⟩
end Go.Proofs.YtjgggmcnbdjdjaaGreat.C
