/- What the units that come after do in a variable of their own. (written by wgen.py) -/
import Derived.Test.YtodjaobmhiglcaaV
namespace Go.Proofs.Ytodjaobmhiglcaa.C
open Go.RowKit Go.Proofs.Ytodjaobmhiglcaa.K Go.Proofs.Ytodjaobmhiglcaa.B
attribute [local go_sem] max2_int min2_int max_two min_two i64_and255 i64_and65535 i64_and1
set_option maxRecDepth 20000
set_option linter.unusedVariables false
set_option linter.unusedSimpArgs false
theorem ringO_some {w : World} {x : RingD} {q : RingP} (h : (ringO x q).p w) (h0 : 0 < x.list.length) : ∃ g off, q.list.A = some ⟨g, off, none⟩ := by
  have h2 : (rowR q.list.A (recs x.list)).p w := h _ (by simp)
  cases hA : q.list.A with
  | none =>
    rw [hA] at h2
    have h3 : recs x.list = [] := h2
    have := recs_length x.list
    rw [h3] at this
    simp at this
    omega
  | some ad =>
    rw [hA] at h2
    obtain ⟨h3, _⟩ := h2
    obtain ⟨g, off, sp⟩ := ad
    simp only at h3
    subst h3
    exact ⟨g, off, rfl⟩
theorem ringO_tail {w : World} {x : RingD} {g off c : Nat} (h : (ringO x ⟨⟨some ⟨g, off, none⟩, c⟩⟩).p w) (h0 : 0 < x.list.length) : (ringO x.tail ⟨⟨some ⟨g, off + 3, none⟩, c - 1⟩⟩).p w := by
  have h1 : x.list.length ≤ c ∧ x.list.length ≤ 1048576 := h _ (List.mem_cons_self)
  have h2 : (rowR (some ⟨g, off, none⟩) (recs x.list)).p w := h _ (by simp)
  have h3 := row_tail h2 (k := 3) (by rw [recs_length]; omega) rfl
  rw [recs_drop1] at h3
  intro a ha
  simp only [List.mem_cons, List.not_mem_nil, or_false] at ha
  rcases ha with rfl | rfl
  · show x.tail.list.length ≤ c - 1 ∧ x.tail.list.length ≤ 1048576
    rw [RingD.tail_len]; omega
  · exact h3
theorem ringO_tail0 {w : World} {x : RingD} {g off c : Nat} (h : (ringO x ⟨⟨some ⟨g, off, none⟩, c⟩⟩).p w) (h0 : x.list.length ≤ 1) : (ringO x.tail ⟨⟨some ⟨g, off, none⟩, 0⟩⟩).p w := by
  have h2 : (rowR (some ⟨g, off, none⟩) (recs x.list)).p w := h _ (by simp)
  obtain ⟨h1, cur, hh, h2, h3⟩ := h2
  intro a ha
  simp only [List.mem_cons, List.not_mem_nil, or_false] at ha
  rcases ha with rfl | rfl
  · show x.tail.list.length ≤ 0 ∧ x.tail.list.length ≤ 1048576
    rw [RingD.tail_len]; omega
  · refine ⟨rfl, cur, hh, ?_, ?_⟩ <;> simp [RingD.tail, drop1_nil h0, recs]
    simp at h2; omega
set_option maxHeartbeats 4000000 in
theorem impl_rnextF_S (x : RingD) (q : RingP) (v0 v1 v2 v3 v4 v5 v6 u0 : Value) (t : Int) (g : Nat) (w : World) (hp : (Ast.blk g [v0, v1, v2, v3, v4, v5, v6, .int .i64 x.cap, .slice q.list.A x.list.length q.list.c, u0] 40).p w) (hr : RingIn w x q) (hi : x.is t = false) : Calls Try.prog 107 #[.pointer (some ⟨g, 7, none⟩), .int .i64 t] w fun e w' => e = .returned (.tuple #[.agg #[.int .i64 0, .int .i64 0, .int .i64 0], .bool false]) ∧ Below w.heap.size w w' := by
  have H := St.nil w []
  have hl := hr.list
  have hm := hl.2.1
  have hneg := RingD.is_neg hi
  have hp1 : ∀ (l : List Ast) (W : World), St w [] W l → (Ast.blk g [v0, v1, v2, v3, v4, v5, v6, .int .i64 x.cap, .slice q.list.A x.list.length q.list.c, u0] 40).p W := fun l W h => h.old0 hp
  rcases Nat.eq_zero_or_pos x.list.length with h0 | h0
  · have hn : ((x.list.length : Int) == 0) = true := by rw [beq_iff_eq]; omega
    clear hneg h0 hi
    go_enter Try.func107, Try.ntmps107
    go_wp2_with (first | ((with_reducible refine g_load rfl ?_); refine ev_load_blk1 (hp1 _ _ H) rfl rfl rfl (oneT rfl) rfl ?_) | ((with_reducible refine g_box rfl ?_); (first | refine ev_box (v := .int _ _) H rfl rfl rfl rfl ?_ | refine ev_box (v := .bool _) H rfl rfl rfl rfl ?_ | refine ev_box (v := .slice _ _ _) H rfl rfl rfl rfl ?_ | refine ev_box (v := .agg _) H rfl rfl rfl rfl ?_); intro g_ W_ H_; (clear H; have H := H_; clear H_)) | ((with_reducible refine g_alloc rfl ?_); refine ev_new H rfl rfl ?_; intro g_ W_ H_; (clear H; have H := H_; clear H_)) | ((with_reducible refine g_load rfl ?_); first | refine ev_ld1 H rfl rfl rfl ?_ | refine ev_lda H rfl rfl rfl ?_) | ((with_reducible refine g_store rfl ?_); (first | refine ev_sto (v := .int _ _) H rfl rfl rfl rfl rfl ?_ | refine ev_sto (v := .bool _) H rfl rfl rfl rfl rfl ?_ | refine ev_sto (v := .slice _ _ _) H rfl rfl rfl rfl rfl ?_ | refine ev_sto (v := .agg _) H rfl rfl rfl rfl rfl ?_); intro W_ H_; (clear H; have H := H_; clear H_)))
    refine' back2 Try.results107 ?_ ?_ rfl ⟨?_, H.below⟩; rotate_left 2; (focus first | (with_reducible exact rv_tmp rfl) | (refine' rv_agg H rfl ?_ ?_ ?_; rotate_left 4; (focus (repeat (first | (with_reducible exact Pick.here) | (with_reducible apply Pick.there)))); (focus exact aggT rfl); (focus rfl)) | (refine' rv_one H rfl ?_ ?_; rotate_left 3; (focus (repeat (first | (with_reducible exact Pick.here) | (with_reducible apply Pick.there)))); (focus exact oneT rfl))); (focus first | (with_reducible exact rv_tmp rfl) | (refine' rv_agg H rfl ?_ ?_ ?_; rotate_left 4; (focus (repeat (first | (with_reducible exact Pick.here) | (with_reducible apply Pick.there)))); (focus exact aggT rfl); (focus rfl)) | (refine' rv_one H rfl ?_ ?_; rotate_left 3; (focus (repeat (first | (with_reducible exact Pick.here) | (with_reducible apply Pick.there)))); (focus exact oneT rfl)))
    rfl
  · have hn : ((x.list.length : Int) == 0) = false := by rw [beq_eq_false_iff_ne]; omega
    have ht : (rdr x.list 0).t ≠ t := fun h => hneg ⟨h0, h⟩
    have ht1 : ((rdr x.list 0).t != t) = true := by simp [ht]
    obtain ⟨ad, hA, _⟩ := hl.cell H h0
    obtain ⟨⟨A, cc⟩⟩ := q
    simp only at hA hl hp hp1
    subst hA
    have hle := hl.1
    have hlt := h0
    clear hneg hi
    go_enter Try.func107, Try.ntmps107
    go_wp2_with (first | ((with_reducible refine g_load rfl ?_); refine ev_load_in_one rfl rfl rfl (oneT rfl) (hl.head H h0) ?_) | ((with_reducible refine g_load rfl ?_); refine ev_load_blk1 (hp1 _ _ H) rfl rfl rfl (oneT rfl) rfl ?_) | ((with_reducible refine g_box rfl ?_); (first | refine ev_box (v := .int _ _) H rfl rfl rfl rfl ?_ | refine ev_box (v := .bool _) H rfl rfl rfl rfl ?_ | refine ev_box (v := .slice _ _ _) H rfl rfl rfl rfl ?_ | refine ev_box (v := .agg _) H rfl rfl rfl rfl ?_); intro g_ W_ H_; (clear H; have H := H_; clear H_)) | ((with_reducible refine g_alloc rfl ?_); refine ev_new H rfl rfl ?_; intro g_ W_ H_; (clear H; have H := H_; clear H_)) | ((with_reducible refine g_load rfl ?_); first | refine ev_ld1 H rfl rfl rfl ?_ | refine ev_lda H rfl rfl rfl ?_) | ((with_reducible refine g_store rfl ?_); (first | refine ev_sto (v := .int _ _) H rfl rfl rfl rfl rfl ?_ | refine ev_sto (v := .bool _) H rfl rfl rfl rfl rfl ?_ | refine ev_sto (v := .slice _ _ _) H rfl rfl rfl rfl rfl ?_ | refine ev_sto (v := .agg _) H rfl rfl rfl rfl rfl ?_); intro W_ H_; (clear H; have H := H_; clear H_)))
    refine' back2 Try.results107 ?_ ?_ rfl ⟨?_, H.below⟩; rotate_left 2; (focus first | (with_reducible exact rv_tmp rfl) | (refine' rv_agg H rfl ?_ ?_ ?_; rotate_left 4; (focus (repeat (first | (with_reducible exact Pick.here) | (with_reducible apply Pick.there)))); (focus exact aggT rfl); (focus rfl)) | (refine' rv_one H rfl ?_ ?_; rotate_left 3; (focus (repeat (first | (with_reducible exact Pick.here) | (with_reducible apply Pick.there)))); (focus exact oneT rfl))); (focus first | (with_reducible exact rv_tmp rfl) | (refine' rv_agg H rfl ?_ ?_ ?_; rotate_left 4; (focus (repeat (first | (with_reducible exact Pick.here) | (with_reducible apply Pick.there)))); (focus exact aggT rfl); (focus rfl)) | (refine' rv_one H rfl ?_ ?_; rotate_left 3; (focus (repeat (first | (with_reducible exact Pick.here) | (with_reducible apply Pick.there)))); (focus exact oneT rfl)))
    rfl
set_option maxHeartbeats 4000000 in
theorem impl_rnextT_S (x : RingD) (q : RingP) (v0 v1 v2 v3 v4 v5 v6 u0 : Value) (t : Int) (g : Nat) (w : World) (hH : Hol w [Ast.blk g [v0, v1, v2, v3, v4, v5, v6, .int .i64 x.cap, .slice q.list.A x.list.length q.list.c, u0] 40, ringO x q]) (hi : x.is t = true) : Calls Try.prog 107 #[.pointer (some ⟨g, 7, none⟩), .int .i64 t] w fun e w' => ∃ q', e = .returned (.tuple #[.agg #[.int .i64 (rdr x.list 0).t, .int .i64 (rdr x.list 0).r, .int .i64 (rdr x.list 0).v], .bool true]) ∧ St w ([Ast.blk g [v0, v1, v2, v3, v4, v5, v6, .int .i64 x.cap, .slice q.list.A x.list.length q.list.c, u0] 40, ringO x q].flatMap Ast.fp) w' [Ast.blk g [v0, v1, v2, v3, v4, v5, v6, .int .i64 x.tail.cap, .slice q'.list.A x.tail.list.length q'.list.c, u0] 40, ringO x.tail q'] := by
  have H := hH.st
  have ho : (ringO x q).p w := H.get (by (repeat (first | (with_reducible exact Pick.here) | (with_reducible apply Pick.there))))
  have hl := (RingIn.ofO ho).list
  have hm := hl.2.1
  obtain ⟨h0, ht⟩ := RingD.is_pos hi
  have hn : ((x.list.length : Int) == 0) = false := by rw [beq_eq_false_iff_ne]; omega
  have hne : ((rdr x.list 0).t != t) = false := by simp [ht]
  obtain ⟨gr, off, hA⟩ := ringO_some ho h0
  obtain ⟨⟨A, cc⟩⟩ := q
  simp only at hA hl
  subst hA
  have hlc := hl.1
  have hn1 : (1 : Int) ≤ (x.list.length : Int) := by omega
  generalize hF : List.flatMap Ast.fp _ = F at H ⊢
  clear hF hi ht hH
  have htl : x.list.length - 1 = x.tail.list.length := by simp [RingD.tail]
  have hlt := h0
  rcases (by omega : cc = 1 ∨ 1 < cc) with hcc | hcc
  · subst hcc
    have hl1 : x.list.length ≤ 1 := by omega
    go_enter Try.func107, Try.ntmps107
    go_upto_region 3 with (first | ((with_reducible refine g_load rfl ?_); refine ev_load_in_one rfl rfl rfl (oneT rfl) ((RingIn.ofO (H.get (x := ringO x _) (by ((repeat (first | (with_reducible exact Pick.here) | (with_reducible apply Pick.there))); done)))).list.head (St.nil _ []) h0) ?_) | ((with_reducible refine g_box rfl ?_); (first | refine ev_box (v := .int _ _) H rfl rfl rfl rfl ?_ | refine ev_box (v := .bool _) H rfl rfl rfl rfl ?_ | refine ev_box (v := .slice _ _ _) H rfl rfl rfl rfl ?_ | refine ev_box (v := .agg _) H rfl rfl rfl rfl ?_); intro g_ W_ H_; (clear H; have H := H_; clear H_)) | ((with_reducible refine g_alloc rfl ?_); refine ev_new H rfl rfl ?_; intro g_ W_ H_; (clear H; have H := H_; clear H_)) | ((with_reducible refine g_load rfl ?_); first | refine ev_ld1 H rfl rfl rfl ?_ | refine ev_lda H rfl rfl rfl ?_) | ((with_reducible refine g_store rfl ?_); (first | refine ev_sto (v := .int _ _) H rfl rfl rfl rfl rfl ?_ | refine ev_sto (v := .bool _) H rfl rfl rfl rfl rfl ?_ | refine ev_sto (v := .slice _ _ _) H rfl rfl rfl rfl rfl ?_ | refine ev_sto (v := .agg _) H rfl rfl rfl rfl rfl ?_); intro W_ H_; (clear H; have H := H_; clear H_)))
    go_wp2_with (first | ((with_reducible refine g_load rfl ?_); refine ev_load_in_agg (n := 3) (vs := rec1 (rdr x.list 0)) rfl rfl rfl (by kernel_rfl) rfl ((RingIn.ofO (H.get (x := ringO x _) (by ((repeat (first | (with_reducible exact Pick.here) | (with_reducible apply Pick.there))); done)))).list.at0' (St.nil _ []) h0) ?_) | ((with_reducible refine g_box rfl ?_); (first | refine ev_box (v := .int _ _) H rfl rfl rfl rfl ?_ | refine ev_box (v := .bool _) H rfl rfl rfl rfl ?_ | refine ev_box (v := .slice _ _ _) H rfl rfl rfl rfl ?_ | refine ev_box (v := .agg _) H rfl rfl rfl rfl ?_); intro g_ W_ H_; (clear H; have H := H_; clear H_)) | ((with_reducible refine g_alloc rfl ?_); refine ev_new H rfl rfl ?_; intro g_ W_ H_; (clear H; have H := H_; clear H_)) | ((with_reducible refine g_load rfl ?_); first | refine ev_ld1 H rfl rfl rfl ?_ | refine ev_lda H rfl rfl rfl ?_) | ((with_reducible refine g_store rfl ?_); (first | refine ev_sto (v := .int _ _) H rfl rfl rfl rfl rfl ?_ | refine ev_sto (v := .bool _) H rfl rfl rfl rfl rfl ?_ | refine ev_sto (v := .slice _ _ _) H rfl rfl rfl rfl rfl ?_ | refine ev_sto (v := .agg _) H rfl rfl rfl rfl rfl ?_); intro W_ H_; (clear H; have H := H_; clear H_)))
    refine' back2 Try.results107 ?_ ?_ rfl ⟨⟨⟨some ⟨gr, off, none⟩, 0⟩⟩, ?_, ?_⟩; rotate_left 2; (focus first | (with_reducible exact rv_tmp rfl) | (refine' rv_agg H rfl ?_ ?_ ?_; rotate_left 4; (focus (repeat (first | (with_reducible exact Pick.here) | (with_reducible apply Pick.there)))); (focus exact aggT rfl); (focus rfl)) | (refine' rv_one H rfl ?_ ?_; rotate_left 3; (focus (repeat (first | (with_reducible exact Pick.here) | (with_reducible apply Pick.there)))); (focus exact oneT rfl))); (focus first | (with_reducible exact rv_tmp rfl) | (refine' rv_agg H rfl ?_ ?_ ?_; rotate_left 4; (focus (repeat (first | (with_reducible exact Pick.here) | (with_reducible apply Pick.there)))); (focus exact aggT rfl); (focus rfl)) | (refine' rv_one H rfl ?_ ?_; rotate_left 3; (focus (repeat (first | (with_reducible exact Pick.here) | (with_reducible apply Pick.there)))); (focus exact oneT rfl)))
    · rfl
    · have H_ := (H.weak (a := ringO x ⟨⟨some ⟨gr, off, none⟩, 1⟩⟩) (b := ringO x.tail ⟨⟨some ⟨gr, off, none⟩, 0⟩⟩) (by (repeat (first | (with_reducible exact Pick.here) | (with_reducible apply Pick.there)))) rfl (fun w h => ringO_tail0 h hl1))
      (clear H; have H := H_; clear H_)
      have H_ := St.take (xs := [Ast.blk g _ _, ringO _ _]) H (by (repeat (first | (with_reducible exact Picks.nil) | (with_reducible exact Pick.here) | (with_reducible apply Pick.there) | (with_reducible apply Picks.cons))))
      exact H_
  · have hcz : ¬ cc = 1 := by omega
    go_enter Try.func107, Try.ntmps107
    go_upto_region 3 with (first | ((with_reducible refine g_load rfl ?_); refine ev_load_in_one rfl rfl rfl (oneT rfl) ((RingIn.ofO (H.get (x := ringO x _) (by ((repeat (first | (with_reducible exact Pick.here) | (with_reducible apply Pick.there))); done)))).list.head (St.nil _ []) h0) ?_) | ((with_reducible refine g_box rfl ?_); (first | refine ev_box (v := .int _ _) H rfl rfl rfl rfl ?_ | refine ev_box (v := .bool _) H rfl rfl rfl rfl ?_ | refine ev_box (v := .slice _ _ _) H rfl rfl rfl rfl ?_ | refine ev_box (v := .agg _) H rfl rfl rfl rfl ?_); intro g_ W_ H_; (clear H; have H := H_; clear H_)) | ((with_reducible refine g_alloc rfl ?_); refine ev_new H rfl rfl ?_; intro g_ W_ H_; (clear H; have H := H_; clear H_)) | ((with_reducible refine g_load rfl ?_); first | refine ev_ld1 H rfl rfl rfl ?_ | refine ev_lda H rfl rfl rfl ?_) | ((with_reducible refine g_store rfl ?_); (first | refine ev_sto (v := .int _ _) H rfl rfl rfl rfl rfl ?_ | refine ev_sto (v := .bool _) H rfl rfl rfl rfl rfl ?_ | refine ev_sto (v := .slice _ _ _) H rfl rfl rfl rfl rfl ?_ | refine ev_sto (v := .agg _) H rfl rfl rfl rfl rfl ?_); intro W_ H_; (clear H; have H := H_; clear H_)))
    go_wp2_with (first | ((with_reducible refine g_load rfl ?_); refine ev_load_in_agg (n := 3) (vs := rec1 (rdr x.list 0)) rfl rfl rfl (by kernel_rfl) rfl ((RingIn.ofO (H.get (x := ringO x _) (by ((repeat (first | (with_reducible exact Pick.here) | (with_reducible apply Pick.there))); done)))).list.at0' (St.nil _ []) h0) ?_) | ((with_reducible refine g_box rfl ?_); (first | refine ev_box (v := .int _ _) H rfl rfl rfl rfl ?_ | refine ev_box (v := .bool _) H rfl rfl rfl rfl ?_ | refine ev_box (v := .slice _ _ _) H rfl rfl rfl rfl ?_ | refine ev_box (v := .agg _) H rfl rfl rfl rfl ?_); intro g_ W_ H_; (clear H; have H := H_; clear H_)) | ((with_reducible refine g_alloc rfl ?_); refine ev_new H rfl rfl ?_; intro g_ W_ H_; (clear H; have H := H_; clear H_)) | ((with_reducible refine g_load rfl ?_); first | refine ev_ld1 H rfl rfl rfl ?_ | refine ev_lda H rfl rfl rfl ?_) | ((with_reducible refine g_store rfl ?_); (first | refine ev_sto (v := .int _ _) H rfl rfl rfl rfl rfl ?_ | refine ev_sto (v := .bool _) H rfl rfl rfl rfl rfl ?_ | refine ev_sto (v := .slice _ _ _) H rfl rfl rfl rfl rfl ?_ | refine ev_sto (v := .agg _) H rfl rfl rfl rfl rfl ?_); intro W_ H_; (clear H; have H := H_; clear H_)))
    refine' back2 Try.results107 ?_ ?_ rfl ⟨⟨⟨some ⟨gr, off + 3, none⟩, cc - 1⟩⟩, ?_, ?_⟩; rotate_left 2; (focus first | (with_reducible exact rv_tmp rfl) | (refine' rv_agg H rfl ?_ ?_ ?_; rotate_left 4; (focus (repeat (first | (with_reducible exact Pick.here) | (with_reducible apply Pick.there)))); (focus exact aggT rfl); (focus rfl)) | (refine' rv_one H rfl ?_ ?_; rotate_left 3; (focus (repeat (first | (with_reducible exact Pick.here) | (with_reducible apply Pick.there)))); (focus exact oneT rfl))); (focus first | (with_reducible exact rv_tmp rfl) | (refine' rv_agg H rfl ?_ ?_ ?_; rotate_left 4; (focus (repeat (first | (with_reducible exact Pick.here) | (with_reducible apply Pick.there)))); (focus exact aggT rfl); (focus rfl)) | (refine' rv_one H rfl ?_ ?_; rotate_left 3; (focus (repeat (first | (with_reducible exact Pick.here) | (with_reducible apply Pick.there)))); (focus exact oneT rfl)))
    · rfl
    · have H_ := (H.weak (a := ringO x ⟨⟨some ⟨gr, off, none⟩, cc⟩⟩) (b := ringO x.tail ⟨⟨some ⟨gr, off + 3, none⟩, cc - 1⟩⟩) (by (repeat (first | (with_reducible exact Pick.here) | (with_reducible apply Pick.there)))) rfl (fun w h => ringO_tail h h0))
      (clear H; have H := H_; clear H_)
      have H_ := St.take (xs := [Ast.blk g _ _, ringO _ _]) H (by (repeat (first | (with_reducible exact Picks.nil) | (with_reducible exact Pick.here) | (with_reducible apply Pick.there) | (with_reducible apply Picks.cons))))
      exact H_
set_option maxHeartbeats 4000000 in
theorem impl_rnextF_P (x : RingD) (q : RingP) (v0 v1 v2 v3 v4 v5 v6 v7 u0 : Value) (t : Int) (g : Nat) (w : World) (hp : (Ast.blk g [v0, v1, v2, v3, v4, v5, v6, v7, .int .i64 x.cap, .slice q.list.A x.list.length q.list.c, u0] 32).p w) (hr : RingIn w x q) (hi : x.is t = false) : Calls Try.prog 107 #[.pointer (some ⟨g, 8, none⟩), .int .i64 t] w fun e w' => e = .returned (.tuple #[.agg #[.int .i64 0, .int .i64 0, .int .i64 0], .bool false]) ∧ Below w.heap.size w w' := by
  have H := St.nil w []
  have hl := hr.list
  have hm := hl.2.1
  have hneg := RingD.is_neg hi
  have hp1 : ∀ (l : List Ast) (W : World), St w [] W l → (Ast.blk g [v0, v1, v2, v3, v4, v5, v6, v7, .int .i64 x.cap, .slice q.list.A x.list.length q.list.c, u0] 32).p W := fun l W h => h.old0 hp
  rcases Nat.eq_zero_or_pos x.list.length with h0 | h0
  · have hn : ((x.list.length : Int) == 0) = true := by rw [beq_iff_eq]; omega
    clear hneg h0 hi
    go_enter Try.func107, Try.ntmps107
    go_wp2_with (first | ((with_reducible refine g_load rfl ?_); refine ev_load_blk1 (hp1 _ _ H) rfl rfl rfl (oneT rfl) rfl ?_) | ((with_reducible refine g_box rfl ?_); (first | refine ev_box (v := .int _ _) H rfl rfl rfl rfl ?_ | refine ev_box (v := .bool _) H rfl rfl rfl rfl ?_ | refine ev_box (v := .slice _ _ _) H rfl rfl rfl rfl ?_ | refine ev_box (v := .agg _) H rfl rfl rfl rfl ?_); intro g_ W_ H_; (clear H; have H := H_; clear H_)) | ((with_reducible refine g_alloc rfl ?_); refine ev_new H rfl rfl ?_; intro g_ W_ H_; (clear H; have H := H_; clear H_)) | ((with_reducible refine g_load rfl ?_); first | refine ev_ld1 H rfl rfl rfl ?_ | refine ev_lda H rfl rfl rfl ?_) | ((with_reducible refine g_store rfl ?_); (first | refine ev_sto (v := .int _ _) H rfl rfl rfl rfl rfl ?_ | refine ev_sto (v := .bool _) H rfl rfl rfl rfl rfl ?_ | refine ev_sto (v := .slice _ _ _) H rfl rfl rfl rfl rfl ?_ | refine ev_sto (v := .agg _) H rfl rfl rfl rfl rfl ?_); intro W_ H_; (clear H; have H := H_; clear H_)))
    refine' back2 Try.results107 ?_ ?_ rfl ⟨?_, H.below⟩; rotate_left 2; (focus first | (with_reducible exact rv_tmp rfl) | (refine' rv_agg H rfl ?_ ?_ ?_; rotate_left 4; (focus (repeat (first | (with_reducible exact Pick.here) | (with_reducible apply Pick.there)))); (focus exact aggT rfl); (focus rfl)) | (refine' rv_one H rfl ?_ ?_; rotate_left 3; (focus (repeat (first | (with_reducible exact Pick.here) | (with_reducible apply Pick.there)))); (focus exact oneT rfl))); (focus first | (with_reducible exact rv_tmp rfl) | (refine' rv_agg H rfl ?_ ?_ ?_; rotate_left 4; (focus (repeat (first | (with_reducible exact Pick.here) | (with_reducible apply Pick.there)))); (focus exact aggT rfl); (focus rfl)) | (refine' rv_one H rfl ?_ ?_; rotate_left 3; (focus (repeat (first | (with_reducible exact Pick.here) | (with_reducible apply Pick.there)))); (focus exact oneT rfl)))
    rfl
  · have hn : ((x.list.length : Int) == 0) = false := by rw [beq_eq_false_iff_ne]; omega
    have ht : (rdr x.list 0).t ≠ t := fun h => hneg ⟨h0, h⟩
    have ht1 : ((rdr x.list 0).t != t) = true := by simp [ht]
    obtain ⟨ad, hA, _⟩ := hl.cell H h0
    obtain ⟨⟨A, cc⟩⟩ := q
    simp only at hA hl hp hp1
    subst hA
    have hle := hl.1
    have hlt := h0
    clear hneg hi
    go_enter Try.func107, Try.ntmps107
    go_wp2_with (first | ((with_reducible refine g_load rfl ?_); refine ev_load_in_one rfl rfl rfl (oneT rfl) (hl.head H h0) ?_) | ((with_reducible refine g_load rfl ?_); refine ev_load_blk1 (hp1 _ _ H) rfl rfl rfl (oneT rfl) rfl ?_) | ((with_reducible refine g_box rfl ?_); (first | refine ev_box (v := .int _ _) H rfl rfl rfl rfl ?_ | refine ev_box (v := .bool _) H rfl rfl rfl rfl ?_ | refine ev_box (v := .slice _ _ _) H rfl rfl rfl rfl ?_ | refine ev_box (v := .agg _) H rfl rfl rfl rfl ?_); intro g_ W_ H_; (clear H; have H := H_; clear H_)) | ((with_reducible refine g_alloc rfl ?_); refine ev_new H rfl rfl ?_; intro g_ W_ H_; (clear H; have H := H_; clear H_)) | ((with_reducible refine g_load rfl ?_); first | refine ev_ld1 H rfl rfl rfl ?_ | refine ev_lda H rfl rfl rfl ?_) | ((with_reducible refine g_store rfl ?_); (first | refine ev_sto (v := .int _ _) H rfl rfl rfl rfl rfl ?_ | refine ev_sto (v := .bool _) H rfl rfl rfl rfl rfl ?_ | refine ev_sto (v := .slice _ _ _) H rfl rfl rfl rfl rfl ?_ | refine ev_sto (v := .agg _) H rfl rfl rfl rfl rfl ?_); intro W_ H_; (clear H; have H := H_; clear H_)))
    refine' back2 Try.results107 ?_ ?_ rfl ⟨?_, H.below⟩; rotate_left 2; (focus first | (with_reducible exact rv_tmp rfl) | (refine' rv_agg H rfl ?_ ?_ ?_; rotate_left 4; (focus (repeat (first | (with_reducible exact Pick.here) | (with_reducible apply Pick.there)))); (focus exact aggT rfl); (focus rfl)) | (refine' rv_one H rfl ?_ ?_; rotate_left 3; (focus (repeat (first | (with_reducible exact Pick.here) | (with_reducible apply Pick.there)))); (focus exact oneT rfl))); (focus first | (with_reducible exact rv_tmp rfl) | (refine' rv_agg H rfl ?_ ?_ ?_; rotate_left 4; (focus (repeat (first | (with_reducible exact Pick.here) | (with_reducible apply Pick.there)))); (focus exact aggT rfl); (focus rfl)) | (refine' rv_one H rfl ?_ ?_; rotate_left 3; (focus (repeat (first | (with_reducible exact Pick.here) | (with_reducible apply Pick.there)))); (focus exact oneT rfl)))
    rfl
set_option maxHeartbeats 4000000 in
theorem impl_rnextT_P (x : RingD) (q : RingP) (v0 v1 v2 v3 v4 v5 v6 v7 u0 : Value) (t : Int) (g : Nat) (w : World) (hH : Hol w [Ast.blk g [v0, v1, v2, v3, v4, v5, v6, v7, .int .i64 x.cap, .slice q.list.A x.list.length q.list.c, u0] 32, ringO x q]) (hi : x.is t = true) : Calls Try.prog 107 #[.pointer (some ⟨g, 8, none⟩), .int .i64 t] w fun e w' => ∃ q', e = .returned (.tuple #[.agg #[.int .i64 (rdr x.list 0).t, .int .i64 (rdr x.list 0).r, .int .i64 (rdr x.list 0).v], .bool true]) ∧ St w ([Ast.blk g [v0, v1, v2, v3, v4, v5, v6, v7, .int .i64 x.cap, .slice q.list.A x.list.length q.list.c, u0] 32, ringO x q].flatMap Ast.fp) w' [Ast.blk g [v0, v1, v2, v3, v4, v5, v6, v7, .int .i64 x.tail.cap, .slice q'.list.A x.tail.list.length q'.list.c, u0] 32, ringO x.tail q'] := by
  have H := hH.st
  have ho : (ringO x q).p w := H.get (by (repeat (first | (with_reducible exact Pick.here) | (with_reducible apply Pick.there))))
  have hl := (RingIn.ofO ho).list
  have hm := hl.2.1
  obtain ⟨h0, ht⟩ := RingD.is_pos hi
  have hn : ((x.list.length : Int) == 0) = false := by rw [beq_eq_false_iff_ne]; omega
  have hne : ((rdr x.list 0).t != t) = false := by simp [ht]
  obtain ⟨gr, off, hA⟩ := ringO_some ho h0
  obtain ⟨⟨A, cc⟩⟩ := q
  simp only at hA hl
  subst hA
  have hlc := hl.1
  have hn1 : (1 : Int) ≤ (x.list.length : Int) := by omega
  generalize hF : List.flatMap Ast.fp _ = F at H ⊢
  clear hF hi ht hH
  have htl : x.list.length - 1 = x.tail.list.length := by simp [RingD.tail]
  have hlt := h0
  rcases (by omega : cc = 1 ∨ 1 < cc) with hcc | hcc
  · subst hcc
    have hl1 : x.list.length ≤ 1 := by omega
    go_enter Try.func107, Try.ntmps107
    go_upto_region 3 with (first | ((with_reducible refine g_load rfl ?_); refine ev_load_in_one rfl rfl rfl (oneT rfl) ((RingIn.ofO (H.get (x := ringO x _) (by ((repeat (first | (with_reducible exact Pick.here) | (with_reducible apply Pick.there))); done)))).list.head (St.nil _ []) h0) ?_) | ((with_reducible refine g_box rfl ?_); (first | refine ev_box (v := .int _ _) H rfl rfl rfl rfl ?_ | refine ev_box (v := .bool _) H rfl rfl rfl rfl ?_ | refine ev_box (v := .slice _ _ _) H rfl rfl rfl rfl ?_ | refine ev_box (v := .agg _) H rfl rfl rfl rfl ?_); intro g_ W_ H_; (clear H; have H := H_; clear H_)) | ((with_reducible refine g_alloc rfl ?_); refine ev_new H rfl rfl ?_; intro g_ W_ H_; (clear H; have H := H_; clear H_)) | ((with_reducible refine g_load rfl ?_); first | refine ev_ld1 H rfl rfl rfl ?_ | refine ev_lda H rfl rfl rfl ?_) | ((with_reducible refine g_store rfl ?_); (first | refine ev_sto (v := .int _ _) H rfl rfl rfl rfl rfl ?_ | refine ev_sto (v := .bool _) H rfl rfl rfl rfl rfl ?_ | refine ev_sto (v := .slice _ _ _) H rfl rfl rfl rfl rfl ?_ | refine ev_sto (v := .agg _) H rfl rfl rfl rfl rfl ?_); intro W_ H_; (clear H; have H := H_; clear H_)))
    go_wp2_with (first | ((with_reducible refine g_load rfl ?_); refine ev_load_in_agg (n := 3) (vs := rec1 (rdr x.list 0)) rfl rfl rfl (by kernel_rfl) rfl ((RingIn.ofO (H.get (x := ringO x _) (by ((repeat (first | (with_reducible exact Pick.here) | (with_reducible apply Pick.there))); done)))).list.at0' (St.nil _ []) h0) ?_) | ((with_reducible refine g_box rfl ?_); (first | refine ev_box (v := .int _ _) H rfl rfl rfl rfl ?_ | refine ev_box (v := .bool _) H rfl rfl rfl rfl ?_ | refine ev_box (v := .slice _ _ _) H rfl rfl rfl rfl ?_ | refine ev_box (v := .agg _) H rfl rfl rfl rfl ?_); intro g_ W_ H_; (clear H; have H := H_; clear H_)) | ((with_reducible refine g_alloc rfl ?_); refine ev_new H rfl rfl ?_; intro g_ W_ H_; (clear H; have H := H_; clear H_)) | ((with_reducible refine g_load rfl ?_); first | refine ev_ld1 H rfl rfl rfl ?_ | refine ev_lda H rfl rfl rfl ?_) | ((with_reducible refine g_store rfl ?_); (first | refine ev_sto (v := .int _ _) H rfl rfl rfl rfl rfl ?_ | refine ev_sto (v := .bool _) H rfl rfl rfl rfl rfl ?_ | refine ev_sto (v := .slice _ _ _) H rfl rfl rfl rfl rfl ?_ | refine ev_sto (v := .agg _) H rfl rfl rfl rfl rfl ?_); intro W_ H_; (clear H; have H := H_; clear H_)))
    refine' back2 Try.results107 ?_ ?_ rfl ⟨⟨⟨some ⟨gr, off, none⟩, 0⟩⟩, ?_, ?_⟩; rotate_left 2; (focus first | (with_reducible exact rv_tmp rfl) | (refine' rv_agg H rfl ?_ ?_ ?_; rotate_left 4; (focus (repeat (first | (with_reducible exact Pick.here) | (with_reducible apply Pick.there)))); (focus exact aggT rfl); (focus rfl)) | (refine' rv_one H rfl ?_ ?_; rotate_left 3; (focus (repeat (first | (with_reducible exact Pick.here) | (with_reducible apply Pick.there)))); (focus exact oneT rfl))); (focus first | (with_reducible exact rv_tmp rfl) | (refine' rv_agg H rfl ?_ ?_ ?_; rotate_left 4; (focus (repeat (first | (with_reducible exact Pick.here) | (with_reducible apply Pick.there)))); (focus exact aggT rfl); (focus rfl)) | (refine' rv_one H rfl ?_ ?_; rotate_left 3; (focus (repeat (first | (with_reducible exact Pick.here) | (with_reducible apply Pick.there)))); (focus exact oneT rfl)))
    · rfl
    · have H_ := (H.weak (a := ringO x ⟨⟨some ⟨gr, off, none⟩, 1⟩⟩) (b := ringO x.tail ⟨⟨some ⟨gr, off, none⟩, 0⟩⟩) (by (repeat (first | (with_reducible exact Pick.here) | (with_reducible apply Pick.there)))) rfl (fun w h => ringO_tail0 h hl1))
      (clear H; have H := H_; clear H_)
      have H_ := St.take (xs := [Ast.blk g _ _, ringO _ _]) H (by (repeat (first | (with_reducible exact Picks.nil) | (with_reducible exact Pick.here) | (with_reducible apply Pick.there) | (with_reducible apply Picks.cons))))
      exact H_
  · have hcz : ¬ cc = 1 := by omega
    go_enter Try.func107, Try.ntmps107
    go_upto_region 3 with (first | ((with_reducible refine g_load rfl ?_); refine ev_load_in_one rfl rfl rfl (oneT rfl) ((RingIn.ofO (H.get (x := ringO x _) (by ((repeat (first | (with_reducible exact Pick.here) | (with_reducible apply Pick.there))); done)))).list.head (St.nil _ []) h0) ?_) | ((with_reducible refine g_box rfl ?_); (first | refine ev_box (v := .int _ _) H rfl rfl rfl rfl ?_ | refine ev_box (v := .bool _) H rfl rfl rfl rfl ?_ | refine ev_box (v := .slice _ _ _) H rfl rfl rfl rfl ?_ | refine ev_box (v := .agg _) H rfl rfl rfl rfl ?_); intro g_ W_ H_; (clear H; have H := H_; clear H_)) | ((with_reducible refine g_alloc rfl ?_); refine ev_new H rfl rfl ?_; intro g_ W_ H_; (clear H; have H := H_; clear H_)) | ((with_reducible refine g_load rfl ?_); first | refine ev_ld1 H rfl rfl rfl ?_ | refine ev_lda H rfl rfl rfl ?_) | ((with_reducible refine g_store rfl ?_); (first | refine ev_sto (v := .int _ _) H rfl rfl rfl rfl rfl ?_ | refine ev_sto (v := .bool _) H rfl rfl rfl rfl rfl ?_ | refine ev_sto (v := .slice _ _ _) H rfl rfl rfl rfl rfl ?_ | refine ev_sto (v := .agg _) H rfl rfl rfl rfl rfl ?_); intro W_ H_; (clear H; have H := H_; clear H_)))
    go_wp2_with (first | ((with_reducible refine g_load rfl ?_); refine ev_load_in_agg (n := 3) (vs := rec1 (rdr x.list 0)) rfl rfl rfl (by kernel_rfl) rfl ((RingIn.ofO (H.get (x := ringO x _) (by ((repeat (first | (with_reducible exact Pick.here) | (with_reducible apply Pick.there))); done)))).list.at0' (St.nil _ []) h0) ?_) | ((with_reducible refine g_box rfl ?_); (first | refine ev_box (v := .int _ _) H rfl rfl rfl rfl ?_ | refine ev_box (v := .bool _) H rfl rfl rfl rfl ?_ | refine ev_box (v := .slice _ _ _) H rfl rfl rfl rfl ?_ | refine ev_box (v := .agg _) H rfl rfl rfl rfl ?_); intro g_ W_ H_; (clear H; have H := H_; clear H_)) | ((with_reducible refine g_alloc rfl ?_); refine ev_new H rfl rfl ?_; intro g_ W_ H_; (clear H; have H := H_; clear H_)) | ((with_reducible refine g_load rfl ?_); first | refine ev_ld1 H rfl rfl rfl ?_ | refine ev_lda H rfl rfl rfl ?_) | ((with_reducible refine g_store rfl ?_); (first | refine ev_sto (v := .int _ _) H rfl rfl rfl rfl rfl ?_ | refine ev_sto (v := .bool _) H rfl rfl rfl rfl rfl ?_ | refine ev_sto (v := .slice _ _ _) H rfl rfl rfl rfl rfl ?_ | refine ev_sto (v := .agg _) H rfl rfl rfl rfl rfl ?_); intro W_ H_; (clear H; have H := H_; clear H_)))
    refine' back2 Try.results107 ?_ ?_ rfl ⟨⟨⟨some ⟨gr, off + 3, none⟩, cc - 1⟩⟩, ?_, ?_⟩; rotate_left 2; (focus first | (with_reducible exact rv_tmp rfl) | (refine' rv_agg H rfl ?_ ?_ ?_; rotate_left 4; (focus (repeat (first | (with_reducible exact Pick.here) | (with_reducible apply Pick.there)))); (focus exact aggT rfl); (focus rfl)) | (refine' rv_one H rfl ?_ ?_; rotate_left 3; (focus (repeat (first | (with_reducible exact Pick.here) | (with_reducible apply Pick.there)))); (focus exact oneT rfl))); (focus first | (with_reducible exact rv_tmp rfl) | (refine' rv_agg H rfl ?_ ?_ ?_; rotate_left 4; (focus (repeat (first | (with_reducible exact Pick.here) | (with_reducible apply Pick.there)))); (focus exact aggT rfl); (focus rfl)) | (refine' rv_one H rfl ?_ ?_; rotate_left 3; (focus (repeat (first | (with_reducible exact Pick.here) | (with_reducible apply Pick.there)))); (focus exact oneT rfl)))
    · rfl
    · have H_ := (H.weak (a := ringO x ⟨⟨some ⟨gr, off, none⟩, cc⟩⟩) (b := ringO x.tail ⟨⟨some ⟨gr, off + 3, none⟩, cc - 1⟩⟩) (by (repeat (first | (with_reducible exact Pick.here) | (with_reducible apply Pick.there)))) rfl (fun w h => ringO_tail h h0))
      (clear H; have H := H_; clear H_)
      have H_ := St.take (xs := [Ast.blk g _ _, ringO _ _]) H (by (repeat (first | (with_reducible exact Picks.nil) | (with_reducible exact Pick.here) | (with_reducible apply Pick.there) | (with_reducible apply Picks.cons))))
      exact H_
set_option maxRecDepth 100000 in
set_option maxHeartbeats 4000000 in
theorem impl_atick_S (a : ApuD) (u0 u1 u2 : Value) (g : Nat) (w : World) (hok : a.ok = true) (H0 : Hol w [Ast.blk g [.int .i64 a.t, .int .i64 a.p, .int .i64 a.c, .int .i64 a.b, .int .i64 a.l, .bool a.k, .bool a.i, u0, u1, u2] 40]) : Calls Try.prog 112 #[.pointer (some ⟨g, 0, none⟩)] w fun e w' => e = .returned (.tuple #[.int .i64 a.smp, .bool a.told]) ∧ St w [g] w' [Ast.blk g [.int .i64 a.tk.t, .int .i64 a.tk.p, .int .i64 a.tk.c, .int .i64 a.tk.b, .int .i64 a.tk.l, .bool a.tk.k, .bool a.tk.i, u0, u1, u2] 40] := by
  have H := H0.st
  clear H0
  obtain ⟨b1, b2, b3, b4, b5, b6, b7, b8, b9, b10⟩ := a.ok_iff.1 hok
  clear hok
  go_enter Try.func112, Try.ntmps112
  go_upto_if 9 with (first | ((with_reducible refine g_box rfl ?_); (first | refine ev_box (v := .int _ _) H rfl rfl rfl rfl ?_ | refine ev_box (v := .bool _) H rfl rfl rfl rfl ?_ | refine ev_box (v := .slice _ _ _) H rfl rfl rfl rfl ?_ | refine ev_box (v := .agg _) H rfl rfl rfl rfl ?_); intro g_ W_ H_; (clear H; have H := H_; clear H_)) | ((with_reducible refine g_alloc rfl ?_); refine ev_new H rfl rfl ?_; intro g_ W_ H_; (clear H; have H := H_; clear H_)) | ((with_reducible refine g_load rfl ?_); first | refine ev_ld1 H rfl rfl rfl ?_ | refine ev_lda H rfl rfl rfl ?_) | ((with_reducible refine g_store rfl ?_); (first | refine ev_sto (v := .int _ _) H rfl rfl rfl rfl rfl ?_ | refine ev_sto (v := .bool _) H rfl rfl rfl rfl rfl ?_ | refine ev_sto (v := .slice _ _ _) H rfl rfl rfl rfl rfl ?_ | refine ev_sto (v := .agg _) H rfl rfl rfl rfl rfl ?_); intro W_ H_; (clear H; have H := H_; clear H_)))
  go_cut [] (fun wc => St w [g] wc [Ast.blk g [.int .i64 a.t, .int .i64 a.p, .int .i64 a.tk.c, .int .i64 a.tk.b, .int .i64 a.l, .bool a.k, .bool a.i, u0, u1, u2] 40])
  case first =>
    by_cases h1 : a.c = 0
    · cases h2 : a.loud
      · have h3 : decide (0 < a.l) = false := decide_eq_false (ApuD.loud_f h2)
        go_wp2_with (first | ((with_reducible refine g_box rfl ?_); (first | refine ev_box (v := .int _ _) H rfl rfl rfl rfl ?_ | refine ev_box (v := .bool _) H rfl rfl rfl rfl ?_ | refine ev_box (v := .slice _ _ _) H rfl rfl rfl rfl ?_ | refine ev_box (v := .agg _) H rfl rfl rfl rfl ?_); intro g_ W_ H_; (clear H; have H := H_; clear H_)) | ((with_reducible refine g_alloc rfl ?_); refine ev_new H rfl rfl ?_; intro g_ W_ H_; (clear H; have H := H_; clear H_)) | ((with_reducible refine g_load rfl ?_); first | refine ev_ld1 H rfl rfl rfl ?_ | refine ev_lda H rfl rfl rfl ?_) | ((with_reducible refine g_store rfl ?_); (first | refine ev_sto (v := .int _ _) H rfl rfl rfl rfl rfl ?_ | refine ev_sto (v := .bool _) H rfl rfl rfl rfl rfl ?_ | refine ev_sto (v := .slice _ _ _) H rfl rfl rfl rfl rfl ?_ | refine ev_sto (v := .agg _) H rfl rfl rfl rfl rfl ?_); intro W_ H_; (clear H; have H := H_; clear H_)))
        all_goals (go_meet; case rel => exact H.cast (by simp [ApuD.tk, *]))
      · have h3 : decide (0 < a.l) = true := decide_eq_true (ApuD.loud_t h2)
        go_wp2_with (first | ((with_reducible refine g_box rfl ?_); (first | refine ev_box (v := .int _ _) H rfl rfl rfl rfl ?_ | refine ev_box (v := .bool _) H rfl rfl rfl rfl ?_ | refine ev_box (v := .slice _ _ _) H rfl rfl rfl rfl ?_ | refine ev_box (v := .agg _) H rfl rfl rfl rfl ?_); intro g_ W_ H_; (clear H; have H := H_; clear H_)) | ((with_reducible refine g_alloc rfl ?_); refine ev_new H rfl rfl ?_; intro g_ W_ H_; (clear H; have H := H_; clear H_)) | ((with_reducible refine g_load rfl ?_); first | refine ev_ld1 H rfl rfl rfl ?_ | refine ev_lda H rfl rfl rfl ?_) | ((with_reducible refine g_store rfl ?_); (first | refine ev_sto (v := .int _ _) H rfl rfl rfl rfl rfl ?_ | refine ev_sto (v := .bool _) H rfl rfl rfl rfl rfl ?_ | refine ev_sto (v := .slice _ _ _) H rfl rfl rfl rfl rfl ?_ | refine ev_sto (v := .agg _) H rfl rfl rfl rfl rfl ?_); intro W_ H_; (clear H; have H := H_; clear H_)))
        all_goals (go_meet; case rel => exact H.cast (by simp [ApuD.tk, *]))
    · go_wp2_with (first | ((with_reducible refine g_box rfl ?_); (first | refine ev_box (v := .int _ _) H rfl rfl rfl rfl ?_ | refine ev_box (v := .bool _) H rfl rfl rfl rfl ?_ | refine ev_box (v := .slice _ _ _) H rfl rfl rfl rfl ?_ | refine ev_box (v := .agg _) H rfl rfl rfl rfl ?_); intro g_ W_ H_; (clear H; have H := H_; clear H_)) | ((with_reducible refine g_alloc rfl ?_); refine ev_new H rfl rfl ?_; intro g_ W_ H_; (clear H; have H := H_; clear H_)) | ((with_reducible refine g_load rfl ?_); first | refine ev_ld1 H rfl rfl rfl ?_ | refine ev_lda H rfl rfl rfl ?_) | ((with_reducible refine g_store rfl ?_); (first | refine ev_sto (v := .int _ _) H rfl rfl rfl rfl rfl ?_ | refine ev_sto (v := .bool _) H rfl rfl rfl rfl rfl ?_ | refine ev_sto (v := .slice _ _ _) H rfl rfl rfl rfl rfl ?_ | refine ev_sto (v := .agg _) H rfl rfl rfl rfl rfl ?_); intro W_ H_; (clear H; have H := H_; clear H_)))
      all_goals (go_meet; case rel => exact H.cast (by simp [ApuD.tk, *]))
  case rest =>
    clear H
    have H := hcut
    clear hcut
    go_upto_region 6 with (fail)
    go_cut [49] (fun v wc => v = .bool a.beat ∧ St w [g] wc [Ast.blk g [.int .i64 a.t, .int .i64 a.p, .int .i64 a.tk.c, .int .i64 a.tk.b, .int .i64 a.l, .bool a.k, .bool a.i, u0, u1, u2] 40])
    case first =>
      by_cases h3 : a.t % 32 = 0
      all_goals
        go_wp2_with (first | ((with_reducible refine g_box rfl ?_); (first | refine ev_box (v := .int _ _) H rfl rfl rfl rfl ?_ | refine ev_box (v := .bool _) H rfl rfl rfl rfl ?_ | refine ev_box (v := .slice _ _ _) H rfl rfl rfl rfl ?_ | refine ev_box (v := .agg _) H rfl rfl rfl rfl ?_); intro g_ W_ H_; (clear H; have H := H_; clear H_)) | ((with_reducible refine g_alloc rfl ?_); refine ev_new H rfl rfl ?_; intro g_ W_ H_; (clear H; have H := H_; clear H_)) | ((with_reducible refine g_load rfl ?_); first | refine ev_ld1 H rfl rfl rfl ?_ | refine ev_lda H rfl rfl rfl ?_) | ((with_reducible refine g_store rfl ?_); (first | refine ev_sto (v := .int _ _) H rfl rfl rfl rfl rfl ?_ | refine ev_sto (v := .bool _) H rfl rfl rfl rfl rfl ?_ | refine ev_sto (v := .slice _ _ _) H rfl rfl rfl rfl rfl ?_ | refine ev_sto (v := .agg _) H rfl rfl rfl rfl rfl ?_); intro W_ H_; (clear H; have H := H_; clear H_)))
        all_goals (go_meet; case rel => exact ⟨by simp [ApuD.beat, h3], H⟩)
    case rest =>
      clear H
      obtain ⟨rfl, H⟩ := hcut
      go_upto_if 49 with (fail)
      go_cut [] (fun wc => St w [g] wc [Ast.blk g [.int .i64 a.t, .int .i64 a.p, .int .i64 a.tk.c, .int .i64 a.tk.b, .int .i64 a.tk.l, .bool a.k, .bool a.tk.i, u0, u1, u2] 40])
      case first =>
        cases hb : a.beat
        · go_wp2_with (first | ((with_reducible refine g_box rfl ?_); (first | refine ev_box (v := .int _ _) H rfl rfl rfl rfl ?_ | refine ev_box (v := .bool _) H rfl rfl rfl rfl ?_ | refine ev_box (v := .slice _ _ _) H rfl rfl rfl rfl ?_ | refine ev_box (v := .agg _) H rfl rfl rfl rfl ?_); intro g_ W_ H_; (clear H; have H := H_; clear H_)) | ((with_reducible refine g_alloc rfl ?_); refine ev_new H rfl rfl ?_; intro g_ W_ H_; (clear H; have H := H_; clear H_)) | ((with_reducible refine g_load rfl ?_); first | refine ev_ld1 H rfl rfl rfl ?_ | refine ev_lda H rfl rfl rfl ?_) | ((with_reducible refine g_store rfl ?_); (first | refine ev_sto (v := .int _ _) H rfl rfl rfl rfl rfl ?_ | refine ev_sto (v := .bool _) H rfl rfl rfl rfl rfl ?_ | refine ev_sto (v := .slice _ _ _) H rfl rfl rfl rfl rfl ?_ | refine ev_sto (v := .agg _) H rfl rfl rfl rfl rfl ?_); intro W_ H_; (clear H; have H := H_; clear H_)))
          all_goals (go_meet; case rel => exact H.cast (by simp [ApuD.tk, *]))
        · have h4 := (ApuD.beat_t hb).2
          cases hi : a.i
          · cases ho : a.out
            · have h5 : (a.l - 1 == 0) = false := by simpa using ApuD.out_f ho
              go_wp2_with (first | ((with_reducible refine g_box rfl ?_); (first | refine ev_box (v := .int _ _) H rfl rfl rfl rfl ?_ | refine ev_box (v := .bool _) H rfl rfl rfl rfl ?_ | refine ev_box (v := .slice _ _ _) H rfl rfl rfl rfl ?_ | refine ev_box (v := .agg _) H rfl rfl rfl rfl ?_); intro g_ W_ H_; (clear H; have H := H_; clear H_)) | ((with_reducible refine g_alloc rfl ?_); refine ev_new H rfl rfl ?_; intro g_ W_ H_; (clear H; have H := H_; clear H_)) | ((with_reducible refine g_load rfl ?_); first | refine ev_ld1 H rfl rfl rfl ?_ | refine ev_lda H rfl rfl rfl ?_) | ((with_reducible refine g_store rfl ?_); (first | refine ev_sto (v := .int _ _) H rfl rfl rfl rfl rfl ?_ | refine ev_sto (v := .bool _) H rfl rfl rfl rfl rfl ?_ | refine ev_sto (v := .slice _ _ _) H rfl rfl rfl rfl rfl ?_ | refine ev_sto (v := .agg _) H rfl rfl rfl rfl rfl ?_); intro W_ H_; (clear H; have H := H_; clear H_)))
              all_goals (go_meet; case rel => exact H.cast (by simp [ApuD.tk, *]))
            · have h5 : (a.l - 1 == 0) = true := by simpa using ApuD.out_t ho
              go_wp2_with (first | ((with_reducible refine g_box rfl ?_); (first | refine ev_box (v := .int _ _) H rfl rfl rfl rfl ?_ | refine ev_box (v := .bool _) H rfl rfl rfl rfl ?_ | refine ev_box (v := .slice _ _ _) H rfl rfl rfl rfl ?_ | refine ev_box (v := .agg _) H rfl rfl rfl rfl ?_); intro g_ W_ H_; (clear H; have H := H_; clear H_)) | ((with_reducible refine g_alloc rfl ?_); refine ev_new H rfl rfl ?_; intro g_ W_ H_; (clear H; have H := H_; clear H_)) | ((with_reducible refine g_load rfl ?_); first | refine ev_ld1 H rfl rfl rfl ?_ | refine ev_lda H rfl rfl rfl ?_) | ((with_reducible refine g_store rfl ?_); (first | refine ev_sto (v := .int _ _) H rfl rfl rfl rfl rfl ?_ | refine ev_sto (v := .bool _) H rfl rfl rfl rfl rfl ?_ | refine ev_sto (v := .slice _ _ _) H rfl rfl rfl rfl rfl ?_ | refine ev_sto (v := .agg _) H rfl rfl rfl rfl rfl ?_); intro W_ H_; (clear H; have H := H_; clear H_)))
              all_goals (go_meet; case rel => exact H.cast (by simp [ApuD.tk, *]))
          · go_wp2_with (first | ((with_reducible refine g_box rfl ?_); (first | refine ev_box (v := .int _ _) H rfl rfl rfl rfl ?_ | refine ev_box (v := .bool _) H rfl rfl rfl rfl ?_ | refine ev_box (v := .slice _ _ _) H rfl rfl rfl rfl ?_ | refine ev_box (v := .agg _) H rfl rfl rfl rfl ?_); intro g_ W_ H_; (clear H; have H := H_; clear H_)) | ((with_reducible refine g_alloc rfl ?_); refine ev_new H rfl rfl ?_; intro g_ W_ H_; (clear H; have H := H_; clear H_)) | ((with_reducible refine g_load rfl ?_); first | refine ev_ld1 H rfl rfl rfl ?_ | refine ev_lda H rfl rfl rfl ?_) | ((with_reducible refine g_store rfl ?_); (first | refine ev_sto (v := .int _ _) H rfl rfl rfl rfl rfl ?_ | refine ev_sto (v := .bool _) H rfl rfl rfl rfl rfl ?_ | refine ev_sto (v := .slice _ _ _) H rfl rfl rfl rfl rfl ?_ | refine ev_sto (v := .agg _) H rfl rfl rfl rfl rfl ?_); intro W_ H_; (clear H; have H := H_; clear H_)))
            all_goals (go_meet; case rel => exact H.cast (by simp [ApuD.tk, *]))
      case rest =>
        clear H
        have H := hcut
        clear hcut
        have h6 : (a.t % 16 = 15 ∧ (a.t % 16 == 15) = true) ∨ (¬ a.t % 16 = 15 ∧ (a.t % 16 == 15) = false) := by by_cases h : a.t % 16 = 15 <;> simp [h]
        have h7 : 0 ≤ a.tk.b ∧ a.tk.b ≤ 1 := by simp only [ApuD.tk]; repeat' split <;> omega
        obtain ⟨h7, h8⟩ := h7
        have h9 : 0 ≤ a.tk.l := by simp only [ApuD.tk]; split <;> first | omega | (rename_i h; have := (ApuD.beat_t h).2; omega)
        have h10 : (a.tk.l = 0 ∧ (a.tk.l == 0) = true) ∨ (0 < a.tk.l ∧ (a.tk.l == 0) = false) := by by_cases h : a.tk.l = 0 <;> simp [h] <;> omega
        have ht : a.tk.t = a.t + 1 := rfl
        rcases h6 with ⟨h11, h12⟩ | ⟨h11, h12⟩
        · rcases h10 with ⟨h13, h14⟩ | ⟨h13, h14⟩
          all_goals
            go_wp2_with (first | ((with_reducible refine g_box rfl ?_); (first | refine ev_box (v := .int _ _) H rfl rfl rfl rfl ?_ | refine ev_box (v := .bool _) H rfl rfl rfl rfl ?_ | refine ev_box (v := .slice _ _ _) H rfl rfl rfl rfl ?_ | refine ev_box (v := .agg _) H rfl rfl rfl rfl ?_); intro g_ W_ H_; (clear H; have H := H_; clear H_)) | ((with_reducible refine g_alloc rfl ?_); refine ev_new H rfl rfl ?_; intro g_ W_ H_; (clear H; have H := H_; clear H_)) | ((with_reducible refine g_load rfl ?_); first | refine ev_ld1 H rfl rfl rfl ?_ | refine ev_lda H rfl rfl rfl ?_) | ((with_reducible refine g_store rfl ?_); (first | refine ev_sto (v := .int _ _) H rfl rfl rfl rfl rfl ?_ | refine ev_sto (v := .bool _) H rfl rfl rfl rfl rfl ?_ | refine ev_sto (v := .slice _ _ _) H rfl rfl rfl rfl rfl ?_ | refine ev_sto (v := .agg _) H rfl rfl rfl rfl rfl ?_); intro W_ H_; (clear H; have H := H_; clear H_)))
            all_goals (refine' back2 Try.results112 ?_ ?_ rfl ⟨?_, H⟩; rotate_left 2; (focus first | (with_reducible exact rv_tmp rfl) | (refine' rv_agg H rfl ?_ ?_ ?_; rotate_left 4; (focus (repeat (first | (with_reducible exact Pick.here) | (with_reducible apply Pick.there)))); (focus exact aggT rfl); (focus rfl)) | (refine' rv_one H rfl ?_ ?_; rotate_left 3; (focus (repeat (first | (with_reducible exact Pick.here) | (with_reducible apply Pick.there)))); (focus exact oneT rfl))); (focus first | (with_reducible exact rv_tmp rfl) | (refine' rv_agg H rfl ?_ ?_ ?_; rotate_left 4; (focus (repeat (first | (with_reducible exact Pick.here) | (with_reducible apply Pick.there)))); (focus exact aggT rfl); (focus rfl)) | (refine' rv_one H rfl ?_ ?_; rotate_left 3; (focus (repeat (first | (with_reducible exact Pick.here) | (with_reducible apply Pick.there)))); (focus exact oneT rfl))); simp [ApuD.smp, ApuD.told, *])
        · go_wp2_with (first | ((with_reducible refine g_box rfl ?_); (first | refine ev_box (v := .int _ _) H rfl rfl rfl rfl ?_ | refine ev_box (v := .bool _) H rfl rfl rfl rfl ?_ | refine ev_box (v := .slice _ _ _) H rfl rfl rfl rfl ?_ | refine ev_box (v := .agg _) H rfl rfl rfl rfl ?_); intro g_ W_ H_; (clear H; have H := H_; clear H_)) | ((with_reducible refine g_alloc rfl ?_); refine ev_new H rfl rfl ?_; intro g_ W_ H_; (clear H; have H := H_; clear H_)) | ((with_reducible refine g_load rfl ?_); first | refine ev_ld1 H rfl rfl rfl ?_ | refine ev_lda H rfl rfl rfl ?_) | ((with_reducible refine g_store rfl ?_); (first | refine ev_sto (v := .int _ _) H rfl rfl rfl rfl rfl ?_ | refine ev_sto (v := .bool _) H rfl rfl rfl rfl rfl ?_ | refine ev_sto (v := .slice _ _ _) H rfl rfl rfl rfl rfl ?_ | refine ev_sto (v := .agg _) H rfl rfl rfl rfl rfl ?_); intro W_ H_; (clear H; have H := H_; clear H_)))
          all_goals (refine' back2 Try.results112 ?_ ?_ rfl ⟨?_, H⟩; rotate_left 2; (focus first | (with_reducible exact rv_tmp rfl) | (refine' rv_agg H rfl ?_ ?_ ?_; rotate_left 4; (focus (repeat (first | (with_reducible exact Pick.here) | (with_reducible apply Pick.there)))); (focus exact aggT rfl); (focus rfl)) | (refine' rv_one H rfl ?_ ?_; rotate_left 3; (focus (repeat (first | (with_reducible exact Pick.here) | (with_reducible apply Pick.there)))); (focus exact oneT rfl))); (focus first | (with_reducible exact rv_tmp rfl) | (refine' rv_agg H rfl ?_ ?_ ?_; rotate_left 4; (focus (repeat (first | (with_reducible exact Pick.here) | (with_reducible apply Pick.there)))); (focus exact aggT rfl); (focus rfl)) | (refine' rv_one H rfl ?_ ?_; rotate_left 3; (focus (repeat (first | (with_reducible exact Pick.here) | (with_reducible apply Pick.there)))); (focus exact oneT rfl))); simp [ApuD.smp, ApuD.told, *])
end Go.Proofs.Ytodjaobmhiglcaa.C
