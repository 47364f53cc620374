/- What the tests of the units that come after tell. -/
import Derived.Test.YtjgggmcnbdjdjaaGreatC2
import Derived.Test.YtjgggmcnbdjdjaaGreatP
namespace Go.Proofs.YtjgggmcnbdjdjaaGreat.C
open Go.RowKit Go.Proofs.YtjgggmcnbdjdjaaGreat.K Go.Proofs.YtjgggmcnbdjdjaaGreat.B
attribute [local go_sem] max2_int min2_int max_two min_two i64_and255 i64_and65535 i64_and1
set_option maxRecDepth 20000
set_option linter.unusedVariables false
set_option linter.unusedSimpArgs false
/-- No record is of a time ahead of t. -/
def RingD.from_ (x : RingD) (t : Int) : Bool := x.ok && ((x.list.length : Int) == 0 || decide (t ≤ (rdr x.list 0).t))
/-- There are as many pictures as are told ahead of a time, each whole. -/
def full (rs : List (List Int)) : Bool := rs.all fun r => r.length == 48
def framesB (rs : List (List Int)) (t : Int) : Bool := full rs && ((rs.length : Int) == (t + 15) / 64)
theorem full_no {rs : List (List Int)} {k : Nat} (hk : k < rs.length) (h : ¬ (rwAt rs k).length = 48) : full rs = false := by
  cases e : full rs with
  | false => rfl
  | true =>
    have := List.all_eq_true.1 e rs[k] (List.getElem_mem hk)
    rw [rwAt_at hk] at h
    simp at this
    exact absurd this h
theorem full_yes {rs : List (List Int)} (h : ∀ k, k < rs.length → (rwAt rs k).length = 48) : full rs = true := by
  refine List.all_eq_true.2 fun x hx => ?_
  obtain ⟨k, hk, rfl⟩ := List.getElem_of_mem hx
  have := h k hk
  rw [rwAt_at hk] at this
  simp [this]
set_option maxHeartbeats 4000000 in
theorem impl_ringFrom (x : RingD) (q : RingP) (t : Int) (w : World) (hx : RingIn w x q) : Calls Tryz.prog 205 #[.agg #[.int .i64 x.cap, .slice q.list.A x.list.length q.list.c], .int .i64 t] w fun e w' => e = .returned (.bool (x.from_ t)) ∧ Below w.heap.size w w' := by
  have H := St.nil w []
  have hi := hx.list
  have hm := hi.2.1
  obtain ⟨⟨A, c⟩⟩ := q
  simp only at hi
  cases h : x.ok
  · have hz : x.from_ t = false := by simp [RingD.from_, h]
    rw [hz]
    go_enter Tryz.func205, Tryz.ntmps205
    go_wp2_with (first | ((with_reducible refine g_box rfl ?_); (first | refine ev_box (v := .int _ _) H rfl rfl rfl rfl ?_ | refine ev_box (v := .bool _) H rfl rfl rfl rfl ?_ | refine ev_box (v := .slice _ _ _) H rfl rfl rfl rfl ?_ | refine ev_box (v := .agg _) H rfl rfl rfl rfl ?_); intro g_ W_ H_; (clear H; have H := H_; clear H_)) | ((with_reducible refine g_alloc rfl ?_); refine ev_new H rfl rfl ?_; intro g_ W_ H_; (clear H; have H := H_; clear H_)) | ((with_reducible refine g_load rfl ?_); first | refine ev_ld1 H rfl rfl rfl ?_ | refine ev_lda H rfl rfl rfl ?_) | ((with_reducible refine g_store rfl ?_); (first | refine ev_sto (v := .int _ _) H rfl rfl rfl rfl rfl ?_ | refine ev_sto (v := .bool _) H rfl rfl rfl rfl rfl ?_ | refine ev_sto (v := .slice _ _ _) H rfl rfl rfl rfl rfl ?_ | refine ev_sto (v := .agg _) H rfl rfl rfl rfl rfl ?_); intro W_ H_; (clear H; have H := H_; clear H_)) | (go_at_call 152; (with_reducible refine (impl_RingOk x _ _ (hx.on H)).mono ?_); rintro e w1 ⟨rfl, hb⟩; rw [h]; (have H_ := H.callB hb; (clear H; have H := H_; clear H_); clear hb)))
    go_ret
    exact ⟨rfl, H.below⟩
  · rcases Nat.eq_zero_or_pos x.list.length with h0 | h0
    · have hn : ((x.list.length : Int) == 0) = true := by rw [beq_iff_eq]; omega
      have hz : x.from_ t = true := by simp only [RingD.from_, h, hn]; rfl
      rw [hz]
      clear h0
      go_enter Tryz.func205, Tryz.ntmps205
      go_wp2_with (first | ((with_reducible refine g_box rfl ?_); (first | refine ev_box (v := .int _ _) H rfl rfl rfl rfl ?_ | refine ev_box (v := .bool _) H rfl rfl rfl rfl ?_ | refine ev_box (v := .slice _ _ _) H rfl rfl rfl rfl ?_ | refine ev_box (v := .agg _) H rfl rfl rfl rfl ?_); intro g_ W_ H_; (clear H; have H := H_; clear H_)) | ((with_reducible refine g_alloc rfl ?_); refine ev_new H rfl rfl ?_; intro g_ W_ H_; (clear H; have H := H_; clear H_)) | ((with_reducible refine g_load rfl ?_); first | refine ev_ld1 H rfl rfl rfl ?_ | refine ev_lda H rfl rfl rfl ?_) | ((with_reducible refine g_store rfl ?_); (first | refine ev_sto (v := .int _ _) H rfl rfl rfl rfl rfl ?_ | refine ev_sto (v := .bool _) H rfl rfl rfl rfl rfl ?_ | refine ev_sto (v := .slice _ _ _) H rfl rfl rfl rfl rfl ?_ | refine ev_sto (v := .agg _) H rfl rfl rfl rfl rfl ?_); intro W_ H_; (clear H; have H := H_; clear H_)) | (go_at_call 152; (with_reducible refine (impl_RingOk x _ _ (hx.on H)).mono ?_); rintro e w1 ⟨rfl, hb⟩; rw [h]; (have H_ := H.callB hb; (clear H; have H := H_; clear H_); clear hb)))
      go_ret
      exact ⟨rfl, H.below⟩
    · have hn : ((x.list.length : Int) == 0) = false := by rw [beq_eq_false_iff_ne]; omega
      have hz : x.from_ t = decide (t ≤ (rdr x.list 0).t) := by simp only [RingD.from_, h, hn]; rfl
      rw [hz]
      obtain ⟨ad, rfl, _⟩ := hi.cell H h0
      have hle := hi.1
      have hlt := h0
      go_enter Tryz.func205, Tryz.ntmps205
      go_wp2_with (first | ((with_reducible refine g_load rfl ?_); refine ev_load_in_one rfl rfl rfl (oneT rfl) (hi.head H h0) ?_) | ((with_reducible refine g_box rfl ?_); (first | refine ev_box (v := .int _ _) H rfl rfl rfl rfl ?_ | refine ev_box (v := .bool _) H rfl rfl rfl rfl ?_ | refine ev_box (v := .slice _ _ _) H rfl rfl rfl rfl ?_ | refine ev_box (v := .agg _) H rfl rfl rfl rfl ?_); intro g_ W_ H_; (clear H; have H := H_; clear H_)) | ((with_reducible refine g_alloc rfl ?_); refine ev_new H rfl rfl ?_; intro g_ W_ H_; (clear H; have H := H_; clear H_)) | ((with_reducible refine g_load rfl ?_); first | refine ev_ld1 H rfl rfl rfl ?_ | refine ev_lda H rfl rfl rfl ?_) | ((with_reducible refine g_store rfl ?_); (first | refine ev_sto (v := .int _ _) H rfl rfl rfl rfl rfl ?_ | refine ev_sto (v := .bool _) H rfl rfl rfl rfl rfl ?_ | refine ev_sto (v := .slice _ _ _) H rfl rfl rfl rfl rfl ?_ | refine ev_sto (v := .agg _) H rfl rfl rfl rfl rfl ?_); intro W_ H_; (clear H; have H := H_; clear H_)) | (go_at_call 152; (with_reducible refine (impl_RingOk x _ _ (hx.on H)).mono ?_); rintro e w1 ⟨rfl, hb⟩; rw [h]; (have H_ := H.callB hb; (clear H; have H := H_; clear H_); clear hb)))
      go_ret
      exact ⟨rfl, H.below⟩
theorem impl_samplesOk (A : Option Addr) (c : Nat) (xs : List Int) (t : Int) (w : World) (h0 : 0 ≤ t) (h1 : t ≤ 20000) : Calls Tryz.prog 125 #[.slice A xs.length c, .int .i64 t] w fun e w' => e = .returned (.bool ((xs.length : Int) == t / 16)) ∧ w = w' := by
  go_enter Tryz.func125, Tryz.ntmps125
  go_wp2_with (first | (go_at_call 186; (with_reducible refine (impl_cyclesAhead _ _ _ _ h0 h1 (by decide) (by decide) (by decide)).mono ?_); rintro e w1 ⟨rfl, rfl⟩))
  go_ret
  exact ⟨ret_b (by rw [show t + 16 - 1 - 15 = t by omega]), rfl⟩
set_option maxHeartbeats 4000000 in
theorem impl_framesOk (q : Rw) (rs : List (List Int)) (t : Int) (w : World) (hx : InRR w q rs) (h0 : 0 ≤ t) (h1 : t ≤ 20000) : Calls Tryz.prog 124 #[.slice q.s.A rs.length q.s.c, .int .i64 t] w fun e w' => e = .returned (.bool (framesB rs t)) ∧ w = w' := by
  have hm := hx.mx
  obtain ⟨⟨A, c⟩, r⟩ := q
  go_enter Tryz.func124, Tryz.ntmps124
  go_wp2
  go_loop [9] (fun i => ∃ k : Nat, k ≤ rs.length ∧ i = .int .i64 k ∧ Hid (∀ j, j < k → (rwAt rs j).length = 48)) (fun i => rs.length - (intOf i).toNat)
  case atStart => exact ⟨0, Nat.zero_le _, rfl, Lib.hid fun j hj => absurd hj (Nat.not_lt_zero _)⟩
  case round =>
    obtain ⟨k, hk, rfl, HA⟩ := hrel
    by_cases hlt : k < rs.length
    · obtain ⟨ad, hA, hc⟩ := hx.cell (St.nil w []) hlt
      (try simp only at hA hc)
      subst hA
      clear hx
      by_cases hb : (rwAt rs k).length = 48
      · have hb1 : (((rwAt rs k).length : Int) != 48) = false := by rw [hb]; rfl
        have HB := Lib.hid hb
        clear hb
        go_wp2_with ((with_reducible refine g_load rfl ?_); refine ev_load_in_one rfl rfl rfl (oneT rfl) hc ?_)
        go_round
        case rel => exact ⟨k + 1, by omega, by go_num, Lib.hid fun j hj => if e : j = k then by rw [e]; exact HB.out else HA.out j (by omega)⟩
        case measure => simp [intOf]; omega
      · have hb1 : (((rwAt rs k).length : Int) != 48) = true := by rw [bne_iff_ne]; omega
        have hz : framesB rs t = false := by simp [framesB, full_no hlt hb]
        have HZ := Lib.hid hz
        clear hb hz
        go_wp2_with ((with_reducible refine g_load rfl ?_); refine ev_load_in_one rfl rfl rfl (oneT rfl) hc ?_)
        go_ret
        exact ⟨ret_b HZ.out.symm, rfl⟩
    · have hf : full rs = true := full_yes fun j hj => HA.out j (by omega)
      have hz : framesB rs t = ((rs.length : Int) == (t + 15) / 64) := by simp [framesB, hf]
      have HZ := Lib.hid hz
      clear hz hf
      go_wp2_with (first | (go_at_call 186; (with_reducible refine (impl_cyclesAhead _ _ _ _ h0 h1 (by decide) (by decide) (by decide)).mono ?_); rintro e w1 ⟨rfl, rfl⟩))
      go_ret
      exact ⟨ret_b (by rw [HZ.out, show t + 64 - 1 - 48 = t + 15 by omega]), rfl⟩
theorem spec_l12Frames (t : Int) (w : World) (h0 : 0 ≤ t) (h1 : t ≤ 20000) : Calls Tryz.prog 179 #[.int .i64 t] w fun e w' => e = .returned (.int .i64 ((t + 15) / 64)) ∧ w = w' := by
  have e1 : 0 ≤ t + 64 - 48 - 1 := by omega
  go_enter Tryz.func179, Tryz.ntmps179
  go_wp2
  go_ret
  exact ⟨ret_i (by rw [show t + 64 - 48 - 1 = t + 15 by omega]), rfl⟩
set_option maxHeartbeats 4000000 in
theorem spec_l12FramesOk (q : Rw) (rs : List (List Int)) (t : Int) (w : World) (hx : InRR w q rs) (h0 : 0 ≤ t) (h1 : t ≤ 20000) : Calls Tryz.prog 108 #[.slice q.s.A rs.length q.s.c, .int .i64 t] w fun e w' => e = .returned (.bool (framesB rs t)) ∧ w = w' := by
  have hm := hx.mx
  obtain ⟨⟨A, c⟩, r⟩ := q
  go_enter Tryz.func108, Tryz.ntmps108
  go_wp2
  go_loop [5] (fun i => ∃ k : Nat, k ≤ rs.length ∧ i = .int .i64 k ∧ Hid (∀ j, j < k → (rwAt rs j).length = 48)) (fun i => rs.length - (intOf i).toNat)
  case atStart => exact ⟨0, Nat.zero_le _, rfl, Lib.hid fun j hj => absurd hj (Nat.not_lt_zero _)⟩
  case round =>
    obtain ⟨k, hk, rfl, HA⟩ := hrel
    by_cases hlt : k < rs.length
    · obtain ⟨ad, hA, hc⟩ := hx.cell (St.nil w []) hlt
      (try simp only at hA hc)
      subst hA
      clear hx
      by_cases hb : (rwAt rs k).length = 48
      · have hb1 : (((rwAt rs k).length : Int) != 48) = false := by rw [hb]; rfl
        have HB := Lib.hid hb
        clear hb
        go_wp2_with ((with_reducible refine g_load rfl ?_); refine ev_load_in_one rfl rfl rfl (oneT rfl) hc ?_)
        go_round
        case rel => exact ⟨k + 1, by omega, by go_num, Lib.hid fun j hj => if e : j = k then by rw [e]; exact HB.out else HA.out j (by omega)⟩
        case measure => simp [intOf]; omega
      · have hb1 : (((rwAt rs k).length : Int) != 48) = true := by rw [bne_iff_ne]; omega
        have hz : framesB rs t = false := by simp [framesB, full_no hlt hb]
        have HZ := Lib.hid hz
        clear hb hz
        go_wp2_with ((with_reducible refine g_load rfl ?_); refine ev_load_in_one rfl rfl rfl (oneT rfl) hc ?_)
        go_ret
        exact ⟨ret_b HZ.out.symm, rfl⟩
    · have hf : full rs = true := full_yes fun j hj => HA.out j (by omega)
      have hz : framesB rs t = ((rs.length : Int) == (t + 15) / 64) := by simp [framesB, hf]
      have HZ := Lib.hid hz
      clear hz hf
      go_wp2_with (first | (go_at_call 179; (with_reducible refine (spec_l12Frames _ _ h0 h1).mono ?_); rintro e w1 ⟨rfl, rfl⟩))
      go_ret
      exact ⟨ret_b HZ.out.symm, rfl⟩
end Go.Proofs.YtjgggmcnbdjdjaaGreat.C
