/- The cursor over the bytes of a draw: what is drawn lies within its bounds. -/
import Derived.Test.YtodjaobmhiglcaaE
import Derived.Test.YtodjaobmhiglcaaF
import Derived.Test.YtodjaobmhiglcaaB
namespace Go.Proofs.Ytodjaobmhiglcaa.C
open Go.RowKit Go.Proofs.Ytodjaobmhiglcaa.K Go.Proofs.Ytodjaobmhiglcaa.B
attribute [local go_sem] max2_int min2_int max_two min_two i64_and255 i64_and65535 i64_and1
set_option maxRecDepth 20000
set_option linter.unusedVariables false
set_option linter.unusedSimpArgs false
/-- Bytes that came in. -/
def InB (w : World) (A : Option Addr) (c : Nat) (bs : List Int) : Prop :=
  bs.length ≤ c ∧ bs.length ≤ 9223372036854775807 ∧ (0 < bs.length → ∃ ad, A = some ad ∧ ∀ j, j < bs.length → w.cell? (ad.add j) = some (.int .u8 (rd bs j)))
/-- The cursor: it lies behind the bytes. -/
def curA (g : Nat) (A : Option Addr) (n c : Nat) : Ast where
  fp := [g]
  p w := (∀ ad, 0 < n → A = some ad → ad.block < g) ∧ ∃ (i : Nat) (h : Int), i ≤ n ∧ w.heap[g]? = some (.cells #[.slice A n c, .int .i64 i, .int .i64 h] 116 (0, 0))
  st w w' hh hp := by
    obtain ⟨h1, i, h, h2, h3⟩ := hp
    exact ⟨h1, i, h, h2, (hh g (List.mem_singleton.2 rfl)).trans h3⟩
  lv w hp b hb := by
    obtain ⟨h1, i, h, h2, h3⟩ := hp
    rw [List.mem_singleton.1 hb]
    exact (Array.getElem?_eq_some_iff.1 h3).1
theorem add_block (ad : Addr) (j : Nat) : (ad.add j).block = ad.block := by unfold Addr.add; split <;> rfl
/-- The bytes are there still, whatever turned the cursor. -/
theorem InB.onC {w0 W : World} {S : List Nat} {A : Option Addr} {c : Nat} {bs : List Int} {l : List Ast} {g : Nat} (h : InB w0 A c bs) (H : St w0 S W l) (hS : ∀ b, b ∈ S → b = g ∨ w0.heap.size ≤ b) (hg : ∀ ad, 0 < bs.length → A = some ad → ad.block < g) : InB W A c bs := by
  refine ⟨h.1, h.2.1, fun h0 => ?_⟩
  obtain ⟨ad, h1, h2⟩ := h.2.2 h0
  refine ⟨ad, h1, fun j hj => ?_⟩
  have h3 := h2 j hj
  have h4 := World.block_lt_of_cell? _ _ h3
  have h5 := hg ad h0 h1
  rw [add_block] at h4
  rw [← h3]
  have h6 : W.heap[(ad.add j).block]? = w0.heap[(ad.add j).block]? := by
    rw [add_block]
    refine H.block _ h4 fun hm => ?_
    rcases hS _ hm with h7 | h7
    · omega
    · omega
  unfold World.cell?
  rw [h6]
theorem InB.on0 {w0 W : World} {A : Option Addr} {c : Nat} {bs : List Int} {l : List Ast} (h : InB w0 A c bs) (H : St w0 [] W l) : InB W A c bs :=
  ⟨h.1, h.2.1, fun hn => by
    obtain ⟨ad, h1, h2⟩ := h.2.2 hn
    exact ⟨ad, h1, fun j hj => (H.below.cell (World.block_lt_of_cell? _ _ (h2 j hj))).trans (h2 j hj)⟩⟩
theorem InB.on1 {w0 W : World} {A : Option Addr} {c : Nat} {bs : List Int} {l : List Ast} {g : Nat} (h : InB w0 A c bs) (H : St w0 [g] W l) (hg : ∀ ad, 0 < bs.length → A = some ad → ad.block < g) : InB W A c bs :=
  h.onC H (fun b hb => .inl (List.mem_singleton.1 hb)) hg
theorem cur_lt {w : World} {g n c : Nat} {A : Option Addr} (h : (curA g A n c).p w) : ∀ ad, 0 < n → A = some ad → ad.block < g := h.1
theorem cur_open {w : World} {g n c : Nat} {A : Option Addr} (h : Hol w [curA g A n c]) : ∃ (i : Nat) (hh : Int), i ≤ n ∧ Hol w [Ast.blk g [.slice A n c, .int .i64 i, .int .i64 hh] 116] := by
  obtain ⟨h1, i, hh, h2, h3⟩ := h.hp _ (List.mem_singleton.2 rfl)
  exact ⟨i, hh, h2, Hol.one h3 (by simp [Ast.blk])⟩
/-! ## the types of the cursor -/
theorem agg_cur : aggOf Try.prog 116 3 = true := by kernel_rfl
theorem sz_cur : (Try.prog.info? 116).map (·.size) = some 3 := by kernel_rfl
theorem St.curBox {w W : World} {g c : Nat} {A : Option Addr} {bs : List Int} {l l' : List Ast} {z h : Int} (H : St w [] W l) (k : Pick (Ast.blk g [.slice A bs.length c, .int .i64 z, .int .i64 h] 116) l l') (hb : InB w A c bs) (hi : 0 ≤ z ∧ z ≤ bs.length) : St w [] W (curA g A bs.length c :: l') := by
  refine H.weak (b := curA g A bs.length c) k rfl fun w' hp => ⟨fun ad h0 hA => ?_, z.toNat, h, by omega, by rw [Int.toNat_of_nonneg hi.1]; exact hp⟩
  obtain ⟨ad', h1, h2⟩ := hb.2.2 h0
  rw [hA] at h1; injection h1 with h1; subst h1
  have h4 := World.block_lt_of_cell? _ _ (h2 0 h0)
  rw [add_block] at h4
  rcases H.own _ (k.perm.mem_iff.2 List.mem_cons_self) g (List.mem_singleton.2 rfl) with h5 | h5
  · cases h5
  · omega
theorem St.curBack {w W : World} {S : List Nat} {g n c : Nat} {A : Option Addr} {l l' : List Ast} {z h : Int} (H : St w S W l) (k : Pick (Ast.blk g [.slice A n c, .int .i64 z, .int .i64 h] 116) l l') (hg : ∀ ad, 0 < n → A = some ad → ad.block < g) (hi : 0 ≤ z ∧ z ≤ n) : St w S W (curA g A n c :: l') :=
  H.weak (b := curA g A n c) k rfl fun w' hp => ⟨hg, z.toNat, h, by omega, by rw [Int.toNat_of_nonneg hi.1]; exact hp⟩
set_option maxHeartbeats 4000000 in
theorem spec_l1New (A : Option Addr) (c : Nat) (bs : List Int) (w : World) (hb : InB w A c bs) : Calls Try.prog 54 #[.slice A bs.length c] w fun e w' => ∃ g, e = .returned (.pointer (some ⟨g, 0, none⟩)) ∧ St w [] w' [curA g A bs.length c] := by
  have H := St.nil w []
  have hm := hb.2.1
  have HB := Lib.hid hb
  go_enter Try.func54, Try.ntmps54
  go_wp2
  go_loop [3, 4] (fun h i => ∃ (k : Nat) (x : Int), k ≤ bs.length ∧ i = .int .i64 k ∧ h = .int .i64 x) (fun _ i => bs.length - (intOf i).toNat)
  case atStart => exact ⟨0, _, Nat.zero_le _, rfl, rfl⟩
  case round =>
    obtain ⟨k, x, hk, rfl, rfl⟩ := hrel
    by_cases hlt : k < bs.length
    · obtain ⟨ad, rfl, hc⟩ := hb.2.2 (by omega)
      have hck := hc k hlt
      clear hc hb
      by_cases h4 : k < 4000
      · go_wp2
        go_round
        case rel => exact ⟨k + 1, _, by omega, by go_num, rfl⟩
        case measure => simp [intOf]; omega
      · go_wp2_with (first | ((with_reducible refine g_box rfl ?_); (first | refine ev_box (v := .int _ _) H rfl rfl rfl rfl ?_ | refine ev_box (v := .bool _) H rfl rfl rfl rfl ?_ | refine ev_box (v := .slice _ _ _) H rfl rfl rfl rfl ?_ | refine ev_box (v := .agg _) H rfl rfl rfl rfl ?_); intro g_ W_ H_; (clear H; have H := H_; clear H_)) | ((with_reducible refine g_alloc rfl ?_); refine ev_new H rfl rfl ?_; intro g_ W_ H_; (clear H; have H := H_; clear H_)) | ((with_reducible refine g_load rfl ?_); first | refine ev_ld1 H rfl rfl rfl ?_ | refine ev_lda H rfl rfl rfl ?_) | ((with_reducible refine g_store rfl ?_); (first | refine ev_sto (v := .int _ _) H rfl rfl rfl rfl rfl ?_ | refine ev_sto (v := .bool _) H rfl rfl rfl rfl rfl ?_ | refine ev_sto (v := .slice _ _ _) H rfl rfl rfl rfl rfl ?_ | refine ev_sto (v := .agg _) H rfl rfl rfl rfl rfl ?_); intro W_ H_; (clear H; have H := H_; clear H_)))
        have CBX_ := St.curBox H (by (repeat (first | (with_reducible exact Pick.here) | (with_reducible apply Pick.there)))) HB.out ⟨by omega, by omega⟩
        refine' back1 Try.results54 ?_ rfl ⟨g_, ?_, CBX_⟩; rotate_left 1; (focus first | (with_reducible exact rv_tmp rfl) | (refine' rv_agg H rfl ?_ ?_ ?_; rotate_left 4; (focus (repeat (first | (with_reducible exact Pick.here) | (with_reducible apply Pick.there)))); (focus exact aggT rfl); (focus rfl)) | (refine' rv_one H rfl ?_ ?_; rotate_left 3; (focus (repeat (first | (with_reducible exact Pick.here) | (with_reducible apply Pick.there)))); (focus exact oneT rfl)))
        rfl
    · go_wp2_with (first | ((with_reducible refine g_box rfl ?_); (first | refine ev_box (v := .int _ _) H rfl rfl rfl rfl ?_ | refine ev_box (v := .bool _) H rfl rfl rfl rfl ?_ | refine ev_box (v := .slice _ _ _) H rfl rfl rfl rfl ?_ | refine ev_box (v := .agg _) H rfl rfl rfl rfl ?_); intro g_ W_ H_; (clear H; have H := H_; clear H_)) | ((with_reducible refine g_alloc rfl ?_); refine ev_new H rfl rfl ?_; intro g_ W_ H_; (clear H; have H := H_; clear H_)) | ((with_reducible refine g_load rfl ?_); first | refine ev_ld1 H rfl rfl rfl ?_ | refine ev_lda H rfl rfl rfl ?_) | ((with_reducible refine g_store rfl ?_); (first | refine ev_sto (v := .int _ _) H rfl rfl rfl rfl rfl ?_ | refine ev_sto (v := .bool _) H rfl rfl rfl rfl rfl ?_ | refine ev_sto (v := .slice _ _ _) H rfl rfl rfl rfl rfl ?_ | refine ev_sto (v := .agg _) H rfl rfl rfl rfl rfl ?_); intro W_ H_; (clear H; have H := H_; clear H_)))
      have CBX_ := St.curBox H (by (repeat (first | (with_reducible exact Pick.here) | (with_reducible apply Pick.there)))) HB.out ⟨by omega, by omega⟩
      refine' back1 Try.results54 ?_ rfl ⟨g_, ?_, CBX_⟩; rotate_left 1; (focus first | (with_reducible exact rv_tmp rfl) | (refine' rv_agg H rfl ?_ ?_ ?_; rotate_left 4; (focus (repeat (first | (with_reducible exact Pick.here) | (with_reducible apply Pick.there)))); (focus exact aggT rfl); (focus rfl)) | (refine' rv_one H rfl ?_ ?_; rotate_left 3; (focus (repeat (first | (with_reducible exact Pick.here) | (with_reducible apply Pick.there)))); (focus exact oneT rfl)))
      rfl
theorem one_u8 : oneOf Try.prog 5 = true := by kernel_rfl
set_option maxHeartbeats 4000000 in
theorem spec_l1Byte (g : Nat) (A : Option Addr) (c : Nat) (bs : List Int) (w : World) (hH : Hol w [curA g A bs.length c]) (hb : InB w A c bs) : Calls Try.prog 124 #[.pointer (some ⟨g, 0, none⟩)] w fun e w' => ∃ x : Int, e = .returned (.int .i64 x) ∧ (0 ≤ x ∧ x ≤ 255) ∧ St w [g] w' [curA g A bs.length c] := by
  have hg := cur_lt (hH.hp _ (List.mem_singleton.2 rfl))
  obtain ⟨i, h, hi, hH⟩ := cur_open hH
  have H : St w [g] w _ := hH.st
  have HG := Lib.hid hg
  have hm := hb.2.1
  clear hH hg
  by_cases hlt : i < bs.length
  · obtain ⟨ad, hA, hc⟩ := hb.2.2 (by omega)
    subst hA
    have hbyte : ∀ {W : World} {l : List Ast}, St w [g] W l → W.cell? (ad.add i) = some (.int .u8 (rd bs i)) := fun H' => by
      obtain ⟨ad', h1, h2⟩ := (hb.on1 H' HG.out).2.2 (by omega)
      injection h1 with h1; subst h1; exact h2 i hlt
    clear hc hb
    go_enter Try.func124, Try.ntmps124
    go_wp2_with (first | ((with_reducible refine g_box rfl ?_); (first | refine ev_box (v := .int _ _) H rfl rfl rfl rfl ?_ | refine ev_box (v := .bool _) H rfl rfl rfl rfl ?_ | refine ev_box (v := .slice _ _ _) H rfl rfl rfl rfl ?_ | refine ev_box (v := .agg _) H rfl rfl rfl rfl ?_); intro g_ W_ H_; (clear H; have H := H_; clear H_)) | ((with_reducible refine g_alloc rfl ?_); refine ev_new H rfl rfl ?_; intro g_ W_ H_; (clear H; have H := H_; clear H_)) | ((with_reducible refine g_load rfl ?_); first | refine ev_ld1 H rfl rfl rfl ?_ | refine ev_lda H rfl rfl rfl ?_) | ((with_reducible refine g_store rfl ?_); (first | refine ev_sto (v := .int _ _) H rfl rfl rfl rfl rfl ?_ | refine ev_sto (v := .bool _) H rfl rfl rfl rfl rfl ?_ | refine ev_sto (v := .slice _ _ _) H rfl rfl rfl rfl rfl ?_ | refine ev_sto (v := .agg _) H rfl rfl rfl rfl rfl ?_); intro W_ H_; (clear H; have H := H_; clear H_)))
    (with_reducible refine g_draw ?_)
    try simp only [Act.put, List.setIfInBounds_toArray, List.set_cons_succ, List.set_cons_zero]
    refine F_begin (ls := #[false, false, false, false, false, false, false, false, false, false, false, false, false]) (by kernel_rfl) rfl (by kernel_rfl) ?_
    have H_ := H.drew
    (clear H; have H := H_; clear H_)
    refine T_go [(0, 0, 13), (0, 1, 14), (0, 2, 15), (1, 3, 16), (0, 4, 17), (0, 5, 18), (0, 6, 19), (0, 7, 20), (1, 8, 21), (0, 9, 22), (0, 10, 23), (0, 11, 24), (0, 12, 3)] ?_; (repeat (first | (refine' T_pure _ rfl rfl (by kernel_rfl) (Nat.le_of_ble_eq_true (by kernel_rfl)) (fun w2_ K_ hK_ => ?_) ?_; rotate_left 1; focus ((conv => (arg 4; arg 1; whnf)); (repeat (first | exact hK_ rfl | go_step | go_guarded | go_upon | dsimp only)); done)) | (refine' T_read _ rfl rfl (by kernel_rfl) (Nat.le_of_ble_eq_true (by kernel_rfl)) (fun K_ hK_ => ?_) ?_; rotate_left 1; focus ((conv => (arg 4; arg 1; whnf)); (repeat (first | exact hK_ rfl | (go_big_may; (first | ((with_reducible refine g_load rfl ?_); first | refine ev_ld1 H rfl rfl rfl ?_ | refine ev_lda H rfl rfl rfl ?_))) | go_step | go_guarded | go_upon | dsimp only)); done)))); refine T_end ?_
    refine F_done (by kernel_rfl) ?_
    go_wp2_with (first | ((with_reducible refine g_box rfl ?_); (first | refine ev_box (v := .int _ _) H rfl rfl rfl rfl ?_ | refine ev_box (v := .bool _) H rfl rfl rfl rfl ?_ | refine ev_box (v := .slice _ _ _) H rfl rfl rfl rfl ?_ | refine ev_box (v := .agg _) H rfl rfl rfl rfl ?_); intro g_ W_ H_; (clear H; have H := H_; clear H_)) | ((with_reducible refine g_alloc rfl ?_); refine ev_new H rfl rfl ?_; intro g_ W_ H_; (clear H; have H := H_; clear H_)) | ((with_reducible refine g_load rfl ?_); first | refine ev_ld1 H rfl rfl rfl ?_ | refine ev_lda H rfl rfl rfl ?_) | ((with_reducible refine g_store rfl ?_); (first | refine ev_sto (v := .int _ _) H rfl rfl rfl rfl rfl ?_ | refine ev_sto (v := .bool _) H rfl rfl rfl rfl rfl ?_ | refine ev_sto (v := .slice _ _ _) H rfl rfl rfl rfl rfl ?_ | refine ev_sto (v := .agg _) H rfl rfl rfl rfl rfl ?_); intro W_ H_; (clear H; have H := H_; clear H_)))
    (with_reducible refine g_draw ?_)
    try simp only [Act.put, List.setIfInBounds_toArray, List.set_cons_succ, List.set_cons_zero]
    refine F_begin (ls := #[false, false, false, false, false, false, false, false, false, false]) (by kernel_rfl) rfl (by kernel_rfl) ?_
    have H_ := H.drew
    (clear H; have H := H_; clear H_)
    refine T_go [(0, 0, 25), (0, 1, 26), (0, 2, 27), (1, 3, 28), (0, 4, 29), (0, 5, 30), (0, 6, 31), (1, 7, 32), (0, 8, 33), (0, 9, 34)] ?_; (repeat (first | (refine' T_pure _ rfl rfl (by kernel_rfl) (Nat.le_of_ble_eq_true (by kernel_rfl)) (fun w2_ K_ hK_ => ?_) ?_; rotate_left 1; focus ((conv => (arg 4; arg 1; whnf)); (repeat (first | exact hK_ rfl | go_step | go_guarded | go_upon | dsimp only)); done)) | (refine' T_read _ rfl rfl (by kernel_rfl) (Nat.le_of_ble_eq_true (by kernel_rfl)) (fun K_ hK_ => ?_) ?_; rotate_left 1; focus ((conv => (arg 4; arg 1; whnf)); (repeat (first | exact hK_ rfl | (go_big_may; (first | ((with_reducible refine g_load rfl ?_); first | refine ev_ld1 H rfl rfl rfl ?_ | refine ev_lda H rfl rfl rfl ?_))) | go_step | go_guarded | go_upon | dsimp only)); done)))); refine T_end ?_
    refine F_done (by kernel_rfl) ?_
    go_wp2_with (first | ((with_reducible refine g_box rfl ?_); (first | refine ev_box (v := .int _ _) H rfl rfl rfl rfl ?_ | refine ev_box (v := .bool _) H rfl rfl rfl rfl ?_ | refine ev_box (v := .slice _ _ _) H rfl rfl rfl rfl ?_ | refine ev_box (v := .agg _) H rfl rfl rfl rfl ?_); intro g_ W_ H_; (clear H; have H := H_; clear H_)) | ((with_reducible refine g_alloc rfl ?_); refine ev_new H rfl rfl ?_; intro g_ W_ H_; (clear H; have H := H_; clear H_)) | ((with_reducible refine g_load rfl ?_); first | refine ev_ld1 H rfl rfl rfl ?_ | refine ev_lda H rfl rfl rfl ?_) | ((with_reducible refine g_store rfl ?_); (first | refine ev_sto (v := .int _ _) H rfl rfl rfl rfl rfl ?_ | refine ev_sto (v := .bool _) H rfl rfl rfl rfl rfl ?_ | refine ev_sto (v := .slice _ _ _) H rfl rfl rfl rfl rfl ?_ | refine ev_sto (v := .agg _) H rfl rfl rfl rfl rfl ?_); intro W_ H_; (clear H; have H := H_; clear H_)))
    (with_reducible refine g_draw ?_)
    try simp only [Act.put, List.setIfInBounds_toArray, List.set_cons_succ, List.set_cons_zero]
    refine F_begin (ls := #[false, false, false, false, false, false, false, false, false, false, false, false, false, false, false]) (by kernel_rfl) rfl (by kernel_rfl) ?_
    have H_ := H.drew
    (clear H; have H := H_; clear H_)
    refine T_go [(0, 0, 35), (0, 1, 36), (0, 2, 37), (0, 3, 38), (1, 4, 39), (0, 5, 40), (0, 6, 41), (0, 7, 42), (1, 8, 43), (0, 9, 44), (1, 10, 45), (0, 11, 46), (0, 12, 47), (0, 13, 48), (0, 14, 3)] ?_; (repeat (first | (refine' T_pure _ rfl rfl (by kernel_rfl) (Nat.le_of_ble_eq_true (by kernel_rfl)) (fun w2_ K_ hK_ => ?_) ?_; rotate_left 1; focus ((conv => (arg 4; arg 1; whnf)); (repeat (first | exact hK_ rfl | go_step | go_guarded | go_upon | dsimp only)); done)) | (refine' T_read _ rfl rfl (by kernel_rfl) (Nat.le_of_ble_eq_true (by kernel_rfl)) (fun K_ hK_ => ?_) ?_; rotate_left 1; focus ((conv => (arg 4; arg 1; whnf)); (repeat (first | exact hK_ rfl | (go_big_may; (first | ((with_reducible refine g_load rfl ?_); refine ev_load_in_one rfl rfl rfl one_u8 (hbyte H) ?_) | ((with_reducible refine g_load rfl ?_); first | refine ev_ld1 H rfl rfl rfl ?_ | refine ev_lda H rfl rfl rfl ?_))) | go_step | go_guarded | go_upon | dsimp only)); done)))); refine T_end ?_
    refine F_done (by kernel_rfl) ?_
    go_wp2_with (first | ((with_reducible refine g_box rfl ?_); (first | refine ev_box (v := .int _ _) H rfl rfl rfl rfl ?_ | refine ev_box (v := .bool _) H rfl rfl rfl rfl ?_ | refine ev_box (v := .slice _ _ _) H rfl rfl rfl rfl ?_ | refine ev_box (v := .agg _) H rfl rfl rfl rfl ?_); intro g_ W_ H_; (clear H; have H := H_; clear H_)) | ((with_reducible refine g_alloc rfl ?_); refine ev_new H rfl rfl ?_; intro g_ W_ H_; (clear H; have H := H_; clear H_)) | ((with_reducible refine g_load rfl ?_); first | refine ev_ld1 H rfl rfl rfl ?_ | refine ev_lda H rfl rfl rfl ?_) | ((with_reducible refine g_store rfl ?_); (first | refine ev_sto (v := .int _ _) H rfl rfl rfl rfl rfl ?_ | refine ev_sto (v := .bool _) H rfl rfl rfl rfl rfl ?_ | refine ev_sto (v := .slice _ _ _) H rfl rfl rfl rfl rfl ?_ | refine ev_sto (v := .agg _) H rfl rfl rfl rfl rfl ?_); intro W_ H_; (clear H; have H := H_; clear H_)))
    have H_ := St.curBack H (by (repeat (first | (with_reducible exact Pick.here) | (with_reducible apply Pick.there)))) HG.out ⟨by omega, by omega⟩
    refine' back1 Try.results124 ?_ rfl ?_; rotate_left 1; (focus first | (with_reducible exact rv_tmp rfl) | (refine' rv_agg H rfl ?_ ?_ ?_; rotate_left 4; (focus (repeat (first | (with_reducible exact Pick.here) | (with_reducible apply Pick.there)))); (focus exact aggT rfl); (focus rfl)) | (refine' rv_one H rfl ?_ ?_; rotate_left 3; (focus (repeat (first | (with_reducible exact Pick.here) | (with_reducible apply Pick.there)))); (focus exact oneT rfl)))
    exact ⟨_, rfl, ⟨by omega, by omega⟩, H_⟩
  · go_enter Try.func124, Try.ntmps124
    go_wp2_with (first | ((with_reducible refine g_box rfl ?_); (first | refine ev_box (v := .int _ _) H rfl rfl rfl rfl ?_ | refine ev_box (v := .bool _) H rfl rfl rfl rfl ?_ | refine ev_box (v := .slice _ _ _) H rfl rfl rfl rfl ?_ | refine ev_box (v := .agg _) H rfl rfl rfl rfl ?_); intro g_ W_ H_; (clear H; have H := H_; clear H_)) | ((with_reducible refine g_alloc rfl ?_); refine ev_new H rfl rfl ?_; intro g_ W_ H_; (clear H; have H := H_; clear H_)) | ((with_reducible refine g_load rfl ?_); first | refine ev_ld1 H rfl rfl rfl ?_ | refine ev_lda H rfl rfl rfl ?_) | ((with_reducible refine g_store rfl ?_); (first | refine ev_sto (v := .int _ _) H rfl rfl rfl rfl rfl ?_ | refine ev_sto (v := .bool _) H rfl rfl rfl rfl rfl ?_ | refine ev_sto (v := .slice _ _ _) H rfl rfl rfl rfl rfl ?_ | refine ev_sto (v := .agg _) H rfl rfl rfl rfl rfl ?_); intro W_ H_; (clear H; have H := H_; clear H_)))
    (with_reducible refine g_draw ?_)
    try simp only [Act.put, List.setIfInBounds_toArray, List.set_cons_succ, List.set_cons_zero]
    refine F_begin (ls := #[false, false, false, false, false, false, false, false, false, false, false, false, false]) (by kernel_rfl) rfl (by kernel_rfl) ?_
    have H_ := H.drew
    (clear H; have H := H_; clear H_)
    refine T_go [(0, 0, 13), (0, 1, 14), (0, 2, 15), (1, 3, 16), (0, 4, 17), (0, 5, 18), (0, 6, 19), (0, 7, 20), (1, 8, 21), (0, 9, 22), (0, 10, 23), (0, 11, 24), (0, 12, 3)] ?_; (repeat (first | (refine' T_pure _ rfl rfl (by kernel_rfl) (Nat.le_of_ble_eq_true (by kernel_rfl)) (fun w2_ K_ hK_ => ?_) ?_; rotate_left 1; focus ((conv => (arg 4; arg 1; whnf)); (repeat (first | exact hK_ rfl | go_step | go_guarded | go_upon | dsimp only)); done)) | (refine' T_read _ rfl rfl (by kernel_rfl) (Nat.le_of_ble_eq_true (by kernel_rfl)) (fun K_ hK_ => ?_) ?_; rotate_left 1; focus ((conv => (arg 4; arg 1; whnf)); (repeat (first | exact hK_ rfl | (go_big_may; (first | ((with_reducible refine g_load rfl ?_); first | refine ev_ld1 H rfl rfl rfl ?_ | refine ev_lda H rfl rfl rfl ?_))) | go_step | go_guarded | go_upon | dsimp only)); done)))); refine T_end ?_
    refine F_done (by kernel_rfl) ?_
    go_wp2_with (first | ((with_reducible refine g_box rfl ?_); (first | refine ev_box (v := .int _ _) H rfl rfl rfl rfl ?_ | refine ev_box (v := .bool _) H rfl rfl rfl rfl ?_ | refine ev_box (v := .slice _ _ _) H rfl rfl rfl rfl ?_ | refine ev_box (v := .agg _) H rfl rfl rfl rfl ?_); intro g_ W_ H_; (clear H; have H := H_; clear H_)) | ((with_reducible refine g_alloc rfl ?_); refine ev_new H rfl rfl ?_; intro g_ W_ H_; (clear H; have H := H_; clear H_)) | ((with_reducible refine g_load rfl ?_); first | refine ev_ld1 H rfl rfl rfl ?_ | refine ev_lda H rfl rfl rfl ?_) | ((with_reducible refine g_store rfl ?_); (first | refine ev_sto (v := .int _ _) H rfl rfl rfl rfl rfl ?_ | refine ev_sto (v := .bool _) H rfl rfl rfl rfl rfl ?_ | refine ev_sto (v := .slice _ _ _) H rfl rfl rfl rfl rfl ?_ | refine ev_sto (v := .agg _) H rfl rfl rfl rfl rfl ?_); intro W_ H_; (clear H; have H := H_; clear H_)))
    (with_reducible refine g_draw ?_)
    try simp only [Act.put, List.setIfInBounds_toArray, List.set_cons_succ, List.set_cons_zero]
    refine F_begin (ls := #[false, false, false, false, false, false, false, false, false, false]) (by kernel_rfl) rfl (by kernel_rfl) ?_
    have H_ := H.drew
    (clear H; have H := H_; clear H_)
    refine T_go [(0, 0, 25), (0, 1, 26), (0, 2, 27), (1, 3, 28), (0, 4, 29), (0, 5, 30), (0, 6, 31), (1, 7, 32), (0, 8, 33), (0, 9, 34)] ?_; (repeat (first | (refine' T_pure _ rfl rfl (by kernel_rfl) (Nat.le_of_ble_eq_true (by kernel_rfl)) (fun w2_ K_ hK_ => ?_) ?_; rotate_left 1; focus ((conv => (arg 4; arg 1; whnf)); (repeat (first | exact hK_ rfl | go_step | go_guarded | go_upon | dsimp only)); done)) | (refine' T_read _ rfl rfl (by kernel_rfl) (Nat.le_of_ble_eq_true (by kernel_rfl)) (fun K_ hK_ => ?_) ?_; rotate_left 1; focus ((conv => (arg 4; arg 1; whnf)); (repeat (first | exact hK_ rfl | (go_big_may; (first | ((with_reducible refine g_load rfl ?_); first | refine ev_ld1 H rfl rfl rfl ?_ | refine ev_lda H rfl rfl rfl ?_))) | go_step | go_guarded | go_upon | dsimp only)); done)))); refine T_end ?_
    refine F_done (by kernel_rfl) ?_
    go_wp2_with (first | ((with_reducible refine g_box rfl ?_); (first | refine ev_box (v := .int _ _) H rfl rfl rfl rfl ?_ | refine ev_box (v := .bool _) H rfl rfl rfl rfl ?_ | refine ev_box (v := .slice _ _ _) H rfl rfl rfl rfl ?_ | refine ev_box (v := .agg _) H rfl rfl rfl rfl ?_); intro g_ W_ H_; (clear H; have H := H_; clear H_)) | ((with_reducible refine g_alloc rfl ?_); refine ev_new H rfl rfl ?_; intro g_ W_ H_; (clear H; have H := H_; clear H_)) | ((with_reducible refine g_load rfl ?_); first | refine ev_ld1 H rfl rfl rfl ?_ | refine ev_lda H rfl rfl rfl ?_) | ((with_reducible refine g_store rfl ?_); (first | refine ev_sto (v := .int _ _) H rfl rfl rfl rfl rfl ?_ | refine ev_sto (v := .bool _) H rfl rfl rfl rfl rfl ?_ | refine ev_sto (v := .slice _ _ _) H rfl rfl rfl rfl rfl ?_ | refine ev_sto (v := .agg _) H rfl rfl rfl rfl rfl ?_); intro W_ H_; (clear H; have H := H_; clear H_)))
    have H_ := St.curBack H (by (repeat (first | (with_reducible exact Pick.here) | (with_reducible apply Pick.there)))) HG.out ⟨by omega, by omega⟩
    refine' back1 Try.results124 ?_ rfl ?_; rotate_left 1; (focus first | (with_reducible exact rv_tmp rfl) | (refine' rv_agg H rfl ?_ ?_ ?_; rotate_left 4; (focus (repeat (first | (with_reducible exact Pick.here) | (with_reducible apply Pick.there)))); (focus exact aggT rfl); (focus rfl)) | (refine' rv_one H rfl ?_ ?_; rotate_left 3; (focus (repeat (first | (with_reducible exact Pick.here) | (with_reducible apply Pick.there)))); (focus exact oneT rfl)))
    exact ⟨_, rfl, ⟨by omega, by omega⟩, H_⟩
/-- What is known of the cursor when a function that draws is called. -/
theorem cur_st {w0 W : World} {S : List Nat} {l l' : List Ast} {g n c : Nat} {A : Option Addr} (H : St w0 S W l) (k : Pick (curA g A n c) l l') : Hol W [curA g A n c] := St.hol1 (H.pick k)
theorem cur_up {w0 W W1 : World} {S : List Nat} {l l' l1 : List Ast} {g n c : Nat} {A : Option Addr} (H : St w0 S W l) (kk : St W [g] W1 l1) (k : Pick (curA g A n c) l l' := by (repeat (first | (with_reducible exact Pick.here) | (with_reducible apply Pick.there)))) : St w0 S W1 (l1 ++ l') := (H.pick k).up1 kk (fun b hb => hb)
/-- Of a function that draws: the bytes are there at each of its worlds. -/
theorem InB.onD {w0 W : World} {A : Option Addr} {c : Nat} {bs : List Int} {l : List Ast} {g : Nat} (h : InB w0 A c bs) (H : St w0 [g] W l) (hg : Hid (∀ ad, 0 < bs.length → A = some ad → ad.block < g)) : InB W A c bs := h.on1 H hg.out
set_option maxHeartbeats 4000000 in
theorem spec_l1Below (g : Nat) (A : Option Addr) (c : Nat) (bs : List Int) (n : Int) (w : World) (hH : Hol w [curA g A bs.length c]) (hb : InB w A c bs) (hn : 0 < n) (hn1 : n ≤ 1000000) : Calls Try.prog 104 #[.pointer (some ⟨g, 0, none⟩), .int .i64 n] w fun e w' => ∃ x : Int, e = .returned (.int .i64 x) ∧ (0 ≤ x ∧ x < n) ∧ St w [g] w' [curA g A bs.length c] := by
  have H : St w [g] w _ := hH.st
  have HG := Lib.hid (cur_lt (hH.hp _ (List.mem_singleton.2 rfl)))
  clear hH
  by_cases h2 : n ≤ 256
  · go_enter Try.func104, Try.ntmps104
    go_wp2_with (go_at_call 124; (with_reducible refine (spec_l1Byte g A c bs _ (cur_st H (by (repeat (first | (with_reducible exact Pick.here) | (with_reducible apply Pick.there))))) (hb.onD H HG)).mono ?_); rintro e w1 ⟨x1_, rfl, ⟨x1_0, x1_1⟩, kk⟩; have H_ := cur_up H kk; simp only [List.append_eq, List.cons_append, List.nil_append] at H_; (clear H; have H := H_; clear H_); clear kk)
    refine' back1 Try.results104 ?_ rfl ?_; rotate_left 1; (focus first | (with_reducible exact rv_tmp rfl) | (refine' rv_agg H rfl ?_ ?_ ?_; rotate_left 4; (focus (repeat (first | (with_reducible exact Pick.here) | (with_reducible apply Pick.there)))); (focus exact aggT rfl); (focus rfl)) | (refine' rv_one H rfl ?_ ?_; rotate_left 3; (focus (repeat (first | (with_reducible exact Pick.here) | (with_reducible apply Pick.there)))); (focus exact oneT rfl)))
    exact ⟨_, rfl, ⟨Int.emod_nonneg _ (by omega), Int.emod_lt_of_pos _ (by omega)⟩, H⟩
  · go_enter Try.func104, Try.ntmps104
    go_upto_region 6 with (go_at_call 124; (with_reducible refine (spec_l1Byte g A c bs _ (cur_st H (by (repeat (first | (with_reducible exact Pick.here) | (with_reducible apply Pick.there))))) (hb.onD H HG)).mono ?_); rintro e w1 ⟨x1_, rfl, ⟨x1_0, x1_1⟩, kk⟩; have H_ := cur_up H kk; simp only [List.append_eq, List.cons_append, List.nil_append] at H_; (clear H; have H := H_; clear H_); clear kk)
    go_upto_region 7 with (go_at_call 124; (with_reducible refine (spec_l1Byte g A c bs _ (cur_st H (by (repeat (first | (with_reducible exact Pick.here) | (with_reducible apply Pick.there))))) (hb.onD H HG)).mono ?_); rintro e w1 ⟨x2_, rfl, ⟨x2_0, x2_1⟩, kk⟩; have H_ := cur_up H kk; simp only [List.append_eq, List.cons_append, List.nil_append] at H_; (clear H; have H := H_; clear H_); clear kk)
    go_upto_region 8 with (go_at_call 124; (with_reducible refine (spec_l1Byte g A c bs _ (cur_st H (by (repeat (first | (with_reducible exact Pick.here) | (with_reducible apply Pick.there))))) (hb.onD H HG)).mono ?_); rintro e w1 ⟨x3_, rfl, ⟨x3_0, x3_1⟩, kk⟩; have H_ := cur_up H kk; simp only [List.append_eq, List.cons_append, List.nil_append] at H_; (clear H; have H := H_; clear H_); clear kk)
    go_wp2_with (go_at_call 124; (with_reducible refine (spec_l1Byte g A c bs _ (cur_st H (by (repeat (first | (with_reducible exact Pick.here) | (with_reducible apply Pick.there))))) (hb.onD H HG)).mono ?_); rintro e w1 ⟨x4_, rfl, ⟨x4_0, x4_1⟩, kk⟩; have H_ := cur_up H kk; simp only [List.append_eq, List.cons_append, List.nil_append] at H_; (clear H; have H := H_; clear H_); clear kk)
    refine' back1 Try.results104 ?_ rfl ?_; rotate_left 1; (focus first | (with_reducible exact rv_tmp rfl) | (refine' rv_agg H rfl ?_ ?_ ?_; rotate_left 4; (focus (repeat (first | (with_reducible exact Pick.here) | (with_reducible apply Pick.there)))); (focus exact aggT rfl); (focus rfl)) | (refine' rv_one H rfl ?_ ?_; rotate_left 3; (focus (repeat (first | (with_reducible exact Pick.here) | (with_reducible apply Pick.there)))); (focus exact oneT rfl)))
    exact ⟨_, rfl, ⟨Int.emod_nonneg _ (by omega), Int.emod_lt_of_pos _ (by omega)⟩, H⟩
theorem fill_int2 (a0 a1 : Int) : Instr.fill (fun i => some (i * 1, 1)) ((Array.range (2 * 1)).map ((Value.cells (.int .i64 0))[· % (Value.cells (.int .i64 0)).size]!)) [(0, .int .i64 a0), (1, .int .i64 a1)] = some (nums [a0, a1]).toArray := by
  kernel_rfl
theorem fill_int3 (a0 a1 a2 : Int) : Instr.fill (fun i => some (i * 1, 1)) ((Array.range (3 * 1)).map ((Value.cells (.int .i64 0))[· % (Value.cells (.int .i64 0)).size]!)) [(0, .int .i64 a0), (1, .int .i64 a1), (2, .int .i64 a2)] = some (nums [a0, a1, a2]).toArray := by
  kernel_rfl
theorem fill_int4 (a0 a1 a2 a3 : Int) : Instr.fill (fun i => some (i * 1, 1)) ((Array.range (4 * 1)).map ((Value.cells (.int .i64 0))[· % (Value.cells (.int .i64 0)).size]!)) [(0, .int .i64 a0), (1, .int .i64 a1), (2, .int .i64 a2), (3, .int .i64 a3)] = some (nums [a0, a1, a2, a3]).toArray := by
  kernel_rfl
theorem fill_int5 (a0 a1 a2 a3 a4 : Int) : Instr.fill (fun i => some (i * 1, 1)) ((Array.range (5 * 1)).map ((Value.cells (.int .i64 0))[· % (Value.cells (.int .i64 0)).size]!)) [(0, .int .i64 a0), (1, .int .i64 a1), (2, .int .i64 a2), (3, .int .i64 a3), (4, .int .i64 a4)] = some (nums [a0, a1, a2, a3, a4]).toArray := by
  kernel_rfl
theorem fill_int6 (a0 a1 a2 a3 a4 a5 : Int) : Instr.fill (fun i => some (i * 1, 1)) ((Array.range (6 * 1)).map ((Value.cells (.int .i64 0))[· % (Value.cells (.int .i64 0)).size]!)) [(0, .int .i64 a0), (1, .int .i64 a1), (2, .int .i64 a2), (3, .int .i64 a3), (4, .int .i64 a4), (5, .int .i64 a5)] = some (nums [a0, a1, a2, a3, a4, a5]).toArray := by
  kernel_rfl
theorem fill_int7 (a0 a1 a2 a3 a4 a5 a6 : Int) : Instr.fill (fun i => some (i * 1, 1)) ((Array.range (7 * 1)).map ((Value.cells (.int .i64 0))[· % (Value.cells (.int .i64 0)).size]!)) [(0, .int .i64 a0), (1, .int .i64 a1), (2, .int .i64 a2), (3, .int .i64 a3), (4, .int .i64 a4), (5, .int .i64 a5), (6, .int .i64 a6)] = some (nums [a0, a1, a2, a3, a4, a5, a6]).toArray := by
  kernel_rfl
section
variable {ops : Array Oper} {rest : List Oper} {o : Oper} {a : Act} {Q : Exit → Act → World → Prop} {w0 W : World} {S : List Nat} {l l' : List Ast}
/-- A literal of whole numbers. -/
theorem ev_lit (H : St w0 S W l) (hgd : Region.wanted o (yielded ops a.tmps) = true) {n : Nat} {parts : Array (Nat × Operand)} (ho : o.op = .buildSlice 24 n parts) {vals : List (Nat × Value)} {xs : List Int}
    (hf : Instr.fill (fun i => some (i * 1, 1)) ((Array.range (n * 1)).map ((Value.cells (.int .i64 0))[· % (Value.cells (.int .i64 0)).size]!)) vals = some (nums xs).toArray) (hp : (parts.map fun (i, x) => (i, a.eval x)) = vals.toArray) (hn : xs.length = n) (hpos : n * 1 ≠ 0) (hsmall : n * 1 ≤ 2 ^ 24)
    (h : ∀ g W1, St w0 S W1 (intsA ⟨some ⟨g, 0, none⟩, n⟩ xs :: l) → wpList Try.prog ops Q rest (a.put o.dst (.slice (some ⟨g, 0, none⟩) n n)) W1) : wpList Try.prog ops Q (o :: rest) a W := by
  subst hn
  refine ev_buildSlice H hgd ho Try.underlying24 info_int hp hf (by rw [nums_length, Nat.mul_one]) hpos hsmall (by unfold maxLen; omega) h
theorem ev_lit2 (H : St w0 S W l) (hgd : Region.wanted o (yielded ops a.tmps) = true) {x0 x1 : Operand} (ho : o.op = .buildSlice 24 2 #[(0, x0), (1, x1)]) {a0 a1 : Int} (h0 : a.eval x0 = .int .i64 a0) (h1 : a.eval x1 = .int .i64 a1)
    (h : ∀ g W1, St w0 S W1 (intsA ⟨some ⟨g, 0, none⟩, 2⟩ [a0, a1] :: l) → wpList Try.prog ops Q rest (a.put o.dst (.slice (some ⟨g, 0, none⟩) 2 2)) W1) : wpList Try.prog ops Q (o :: rest) a W :=
  ev_lit H hgd ho (fill_int2 a0 a1) (by simp [h0, h1]) rfl (by decide) (by decide) h
theorem ev_lit3 (H : St w0 S W l) (hgd : Region.wanted o (yielded ops a.tmps) = true) {x0 x1 x2 : Operand} (ho : o.op = .buildSlice 24 3 #[(0, x0), (1, x1), (2, x2)]) {a0 a1 a2 : Int} (h0 : a.eval x0 = .int .i64 a0) (h1 : a.eval x1 = .int .i64 a1) (h2 : a.eval x2 = .int .i64 a2)
    (h : ∀ g W1, St w0 S W1 (intsA ⟨some ⟨g, 0, none⟩, 3⟩ [a0, a1, a2] :: l) → wpList Try.prog ops Q rest (a.put o.dst (.slice (some ⟨g, 0, none⟩) 3 3)) W1) : wpList Try.prog ops Q (o :: rest) a W :=
  ev_lit H hgd ho (fill_int3 a0 a1 a2) (by simp [h0, h1, h2]) rfl (by decide) (by decide) h
theorem ev_lit4 (H : St w0 S W l) (hgd : Region.wanted o (yielded ops a.tmps) = true) {x0 x1 x2 x3 : Operand} (ho : o.op = .buildSlice 24 4 #[(0, x0), (1, x1), (2, x2), (3, x3)]) {a0 a1 a2 a3 : Int} (h0 : a.eval x0 = .int .i64 a0) (h1 : a.eval x1 = .int .i64 a1) (h2 : a.eval x2 = .int .i64 a2) (h3 : a.eval x3 = .int .i64 a3)
    (h : ∀ g W1, St w0 S W1 (intsA ⟨some ⟨g, 0, none⟩, 4⟩ [a0, a1, a2, a3] :: l) → wpList Try.prog ops Q rest (a.put o.dst (.slice (some ⟨g, 0, none⟩) 4 4)) W1) : wpList Try.prog ops Q (o :: rest) a W :=
  ev_lit H hgd ho (fill_int4 a0 a1 a2 a3) (by simp [h0, h1, h2, h3]) rfl (by decide) (by decide) h
theorem ev_lit5 (H : St w0 S W l) (hgd : Region.wanted o (yielded ops a.tmps) = true) {x0 x1 x2 x3 x4 : Operand} (ho : o.op = .buildSlice 24 5 #[(0, x0), (1, x1), (2, x2), (3, x3), (4, x4)]) {a0 a1 a2 a3 a4 : Int} (h0 : a.eval x0 = .int .i64 a0) (h1 : a.eval x1 = .int .i64 a1) (h2 : a.eval x2 = .int .i64 a2) (h3 : a.eval x3 = .int .i64 a3) (h4 : a.eval x4 = .int .i64 a4)
    (h : ∀ g W1, St w0 S W1 (intsA ⟨some ⟨g, 0, none⟩, 5⟩ [a0, a1, a2, a3, a4] :: l) → wpList Try.prog ops Q rest (a.put o.dst (.slice (some ⟨g, 0, none⟩) 5 5)) W1) : wpList Try.prog ops Q (o :: rest) a W :=
  ev_lit H hgd ho (fill_int5 a0 a1 a2 a3 a4) (by simp [h0, h1, h2, h3, h4]) rfl (by decide) (by decide) h
theorem ev_lit6 (H : St w0 S W l) (hgd : Region.wanted o (yielded ops a.tmps) = true) {x0 x1 x2 x3 x4 x5 : Operand} (ho : o.op = .buildSlice 24 6 #[(0, x0), (1, x1), (2, x2), (3, x3), (4, x4), (5, x5)]) {a0 a1 a2 a3 a4 a5 : Int} (h0 : a.eval x0 = .int .i64 a0) (h1 : a.eval x1 = .int .i64 a1) (h2 : a.eval x2 = .int .i64 a2) (h3 : a.eval x3 = .int .i64 a3) (h4 : a.eval x4 = .int .i64 a4) (h5 : a.eval x5 = .int .i64 a5)
    (h : ∀ g W1, St w0 S W1 (intsA ⟨some ⟨g, 0, none⟩, 6⟩ [a0, a1, a2, a3, a4, a5] :: l) → wpList Try.prog ops Q rest (a.put o.dst (.slice (some ⟨g, 0, none⟩) 6 6)) W1) : wpList Try.prog ops Q (o :: rest) a W :=
  ev_lit H hgd ho (fill_int6 a0 a1 a2 a3 a4 a5) (by simp [h0, h1, h2, h3, h4, h5]) rfl (by decide) (by decide) h
theorem ev_lit7 (H : St w0 S W l) (hgd : Region.wanted o (yielded ops a.tmps) = true) {x0 x1 x2 x3 x4 x5 x6 : Operand} (ho : o.op = .buildSlice 24 7 #[(0, x0), (1, x1), (2, x2), (3, x3), (4, x4), (5, x5), (6, x6)]) {a0 a1 a2 a3 a4 a5 a6 : Int} (h0 : a.eval x0 = .int .i64 a0) (h1 : a.eval x1 = .int .i64 a1) (h2 : a.eval x2 = .int .i64 a2) (h3 : a.eval x3 = .int .i64 a3) (h4 : a.eval x4 = .int .i64 a4) (h5 : a.eval x5 = .int .i64 a5) (h6 : a.eval x6 = .int .i64 a6)
    (h : ∀ g W1, St w0 S W1 (intsA ⟨some ⟨g, 0, none⟩, 7⟩ [a0, a1, a2, a3, a4, a5, a6] :: l) → wpList Try.prog ops Q rest (a.put o.dst (.slice (some ⟨g, 0, none⟩) 7 7)) W1) : wpList Try.prog ops Q (o :: rest) a W :=
  ev_lit H hgd ho (fill_int7 a0 a1 a2 a3 a4 a5 a6) (by simp [h0, h1, h2, h3, h4, h5, h6]) rfl (by decide) (by decide) h
end
set_option maxHeartbeats 4000000 in
theorem spec_l1Once (g : Nat) (A : Option Addr) (c : Nat) (bs : List Int) (n : Int) (w : World) (hH : Hol w [curA g A bs.length c]) (hb : InB w A c bs) (hn : 0 < n) (hn1 : n ≤ 1000000) : Calls Try.prog 105 #[.pointer (some ⟨g, 0, none⟩), .int .i64 n] w fun e w' => ∃ b : Bool, e = .returned (.bool b) ∧ St w [g] w' [curA g A bs.length c] := by
  have H : St w [g] w _ := hH.st
  have HG := Lib.hid (cur_lt (hH.hp _ (List.mem_singleton.2 rfl)))
  clear hH
  go_enter Try.func105, Try.ntmps105
  go_wp2_with (go_at_call 104; (with_reducible refine (spec_l1Below g A c bs _ _ (cur_st H (by (repeat (first | (with_reducible exact Pick.here) | (with_reducible apply Pick.there))))) (by first | exact hb.onD H HG | exact hb.on0 H) hn hn1).mono ?_); rintro e w1 ⟨x_, rfl, ⟨x0_, x1_⟩, kk⟩; have H_ := cur_up H kk; simp only [List.append_eq, List.cons_append, List.nil_append] at H_; (clear H; have H := H_; clear H_); clear kk)
  refine' back1 Try.results105 ?_ rfl ?_; rotate_left 1; (focus first | (with_reducible exact rv_tmp rfl) | (refine' rv_agg H rfl ?_ ?_ ?_; rotate_left 4; (focus (repeat (first | (with_reducible exact Pick.here) | (with_reducible apply Pick.there)))); (focus exact aggT rfl); (focus rfl)) | (refine' rv_one H rfl ?_ ?_; rotate_left 3; (focus (repeat (first | (with_reducible exact Pick.here) | (with_reducible apply Pick.there)))); (focus exact oneT rfl)))
  exact ⟨_, rfl, H⟩
theorem own_someD {T : TypeId} {sz : Nat} {A : Option Addr} {n c : Nat} {xs : List Value} {w : World} (h : (Ast.own T sz A n c xs).p w) (h0 : 0 < n) : ∃ g, A = some ⟨g, 0, none⟩ ∧ n ≤ c := by
  rcases own_form h with ⟨_, h1, _, _⟩ | ⟨g, cur, hA, _, h1, _⟩
  · omega
  · exact ⟨g, hA, h1⟩
theorem ints_at {w : World} {q : Sl} {xs : List Int} (h : (intsA q xs).p w) {b : Nat} (hA : q.A = some ⟨b, 0, none⟩) {x : Int} (h0 : 0 ≤ x) (h1 : x < xs.length) : w.cell? ⟨b, x.toNat, none⟩ = some (.int .i64 (rd xs x.toNat)) := by
  obtain ⟨ad', h2, h3⟩ := (InI.ofS h).2.2 (by omega)
  rw [hA] at h2; injection h2 with h2; subst h2
  have := h3 x.toNat (by omega)
  rwa [Addr.add_mid, Nat.zero_add] at this
theorem rd_mem {xs : List Int} {k : Nat} (h : k < xs.length) : rd xs k ∈ xs := by rw [rd_at h]; exact List.getElem_mem h
set_option maxHeartbeats 4000000 in
theorem spec_l1PickInt (g : Nat) (A : Option Addr) (c : Nat) (bs : List Int) (A2 : Option Addr) (N c2 : Nat) (xs : List Int) (w : World) (hH : Hol w [curA g A bs.length c, intsA ⟨A2, c2⟩ xs]) (hb : InB w A c bs) (hN : N = xs.length) (h0 : 0 < xs.length) (hm : xs.length ≤ 1000) : Calls Try.prog 106 #[.pointer (some ⟨g, 0, none⟩), .slice A2 N c2] w fun e w' => ∃ x : Int, e = .returned (.int .i64 x) ∧ x ∈ xs ∧ St w ([curA g A bs.length c, intsA ⟨A2, c2⟩ xs].flatMap Ast.fp) w' [curA g A bs.length c, intsA ⟨A2, c2⟩ xs] := by
  have H := hH.st
  have HG := Lib.hid (cur_lt (hH.hp _ List.mem_cons_self))
  obtain ⟨g1, hA, hc⟩ := own_someD (H.get (x := intsA ⟨A2, c2⟩ xs) (by (repeat (first | (with_reducible exact Pick.here) | (with_reducible apply Pick.there))))) h0
  have hle : xs.length ≤ c2 := (InI.ofS (H.get (x := intsA ⟨A2, c2⟩ xs) (by (repeat (first | (with_reducible exact Pick.here) | (with_reducible apply Pick.there)))))).1
  simp only at hA
  subst hA
  subst hN
  clear hH hc
  generalize hF : List.flatMap Ast.fp _ = F at H ⊢
  clear hF
  go_enter Try.func106, Try.ntmps106
  go_wp2_with (first | (go_at_call 104; (with_reducible refine (spec_l1Below g A c bs _ _ (cur_st H (by (repeat (first | (with_reducible exact Pick.here) | (with_reducible apply Pick.there))))) hb (by omega) (by omega)).mono ?_); rintro e w1 ⟨x_, rfl, ⟨x0_, x1_⟩, kk⟩; have H_ := cur_up H kk; simp only [List.append_eq, List.cons_append, List.nil_append] at H_; (clear H; have H := H_; clear H_); clear kk) | ((with_reducible refine g_load rfl ?_); refine ev_load_in_one rfl rfl rfl (oneT rfl) (ints_at (H.get (x := intsA ⟨some ⟨g1, 0, none⟩, c2⟩ xs) (by (repeat (first | (with_reducible exact Pick.here) | (with_reducible apply Pick.there))))) rfl x0_ x1_) ?_))
  refine' back1 Try.results106 ?_ rfl ?_; rotate_left 1; (focus first | (with_reducible exact rv_tmp rfl) | (refine' rv_agg H rfl ?_ ?_ ?_; rotate_left 4; (focus (repeat (first | (with_reducible exact Pick.here) | (with_reducible apply Pick.there)))); (focus exact aggT rfl); (focus rfl)) | (refine' rv_one H rfl ?_ ?_; rotate_left 3; (focus (repeat (first | (with_reducible exact Pick.here) | (with_reducible apply Pick.there)))); (focus exact oneT rfl)))
  exact ⟨_, rfl, rd_mem (by omega), H⟩
end Go.Proofs.Ytodjaobmhiglcaa.C
