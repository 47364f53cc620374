/- What the functions over rings of records tell: copied in, alike, marked, held. -/
import Derived.Test.YtjgggmcnbdjdjaaGreatC1
namespace Go.Proofs.YtjgggmcnbdjdjaaGreat.C
open Go.RowKit Go.Proofs.YtjgggmcnbdjdjaaGreat.K Go.Proofs.YtjgggmcnbdjdjaaGreat.B
attribute [local go_sem] max2_int min2_int max_two min_two i64_and255 i64_and65535 i64_and1
set_option maxRecDepth 20000
set_option linter.unusedVariables false
set_option linter.unusedSimpArgs false
structure RecD where (t r v : Int)
abbrev rec1 (x : RecD) : List Value := [.int .i64 x.t, .int .i64 x.r, .int .i64 x.v]
def recs : List RecD → List Value
  | [] => []
  | x :: xs => rec1 x ++ recs xs
def rdr (rs : List RecD) (i : Nat) : RecD := rs.getD i ⟨0, 0, 0⟩
theorem rdr_at {rs : List RecD} {i : Nat} (h : i < rs.length) : rdr rs i = rs[i] := by simp [rdr, List.getD_eq_getElem?_getD, List.getElem?_eq_getElem h]
theorem rdr_ext {xs ys : List RecD} (h : xs.length = ys.length) (hr : ∀ j, j < xs.length → rdr xs j = rdr ys j) : xs = ys := by
  refine List.ext_getElem h fun j h1 h2 => ?_
  have := hr j h1
  rwa [rdr_at h1, rdr_at h2] at this
theorem rdr_set {xs : List RecD} {k j : Nat} {v : RecD} (h : k < xs.length) : rdr (xs.set k v) j = if j = k then v else rdr xs j := by
  unfold rdr
  rw [List.getD_eq_getElem?_getD, List.getD_eq_getElem?_getD, List.getElem?_set]
  by_cases e : j = k
  · subst e; simp [h]
  · rw [if_neg (fun h => e h.symm), if_neg e]
theorem rdr_step {cur rs : List RecD} {k : Nat} (h : ∀ j, j < k → rdr cur j = rdr rs j) (hk : k < cur.length) : ∀ j, j < k + 1 → rdr (cur.set k (rdr rs k)) j = rdr rs j := fun j hj => by
  rw [rdr_set hk]
  by_cases e : j = k
  · rw [if_pos e, e]
  · rw [if_neg e]; exact h j (by omega)
theorem recs_length : ∀ rs : List RecD, (recs rs).length = rs.length * 3
  | [] => rfl
  | x :: xs => by simp only [recs, rec1, List.length_append, List.length_cons, List.length_nil, recs_length xs]; omega
theorem recs_append : ∀ xs ys : List RecD, recs (xs ++ ys) = recs xs ++ recs ys
  | [], ys => rfl
  | x :: xs, ys => by simp only [List.cons_append, recs, recs_append xs ys, List.append_assoc]
theorem recs_take : ∀ (rs : List RecD) (k : Nat), (recs rs).take (k * 3) = recs (rs.take k)
  | [], k => by simp [recs]
  | x :: xs, 0 => by simp [recs]
  | x :: xs, k + 1 => by
    simp only [recs, List.take_succ_cons, ← recs_take xs k, rec1, List.cons_append, List.nil_append, show (k + 1) * 3 = k * 3 + 1 + 1 + 1 by omega]
theorem recs_drop : ∀ (rs : List RecD) (k : Nat), (recs rs).drop (k * 3) = recs (rs.drop k)
  | [], k => by simp [recs]
  | x :: xs, 0 => by simp [recs]
  | x :: xs, k + 1 => by
    simp only [recs, List.drop_succ_cons, ← recs_drop xs k, rec1, List.cons_append, List.nil_append, show (k + 1) * 3 = k * 3 + 1 + 1 + 1 by omega]
theorem recs_set (rs : List RecD) (k : Nat) (x : RecD) (h : k < rs.length) : (recs rs).take (k * 3) ++ rec1 x ++ (recs rs).drop (k * 3 + 3) = recs (rs.set k x) := by
  rw [recs_take, show k * 3 + 3 = (k + 1) * 3 by omega, recs_drop, List.set_eq_take_append_cons_drop, if_pos h, recs_append]
  simp [recs]
theorem recs_at {rs : List RecD} {k : Nat} (h : k < rs.length) {j : Nat} {v : Value} (hj : (rec1 (rdr rs k))[j]? = some v) : (recs rs)[k * 3 + j]? = some v := by
  have hj3 : j < 3 := by have := (List.getElem?_eq_some_iff.1 hj).1; simpa [rec1] using this
  have h1 : (recs rs)[k * 3 + j]? = ((recs rs).drop (k * 3))[j]? := by rw [List.getElem?_drop]
  rw [h1, recs_drop, List.drop_eq_getElem_cons h, ← rdr_at h]
  simp only [recs]
  rw [List.getElem?_append_left (by simp [rec1]; omega)]
  exact hj
theorem recs_one (rs : List RecD) : (recs rs).all (·.oneCell') = true := by
  induction rs with
  | nil => rfl
  | cons x xs ih => simp only [recs, List.all_append, ih]; rfl
theorem recs_zero (n : Nat) : recs (List.replicate n ⟨0, 0, 0⟩) = List.replicate (n * 3) (.int .i64 0) := by
  induction n with
  | zero => rfl
  | succ n ih => rw [List.replicate_succ, recs, ih, show (n + 1) * 3 = n * 3 + 1 + 1 + 1 by omega]; rfl
theorem made_recs (n : Nat) : (madeCells (Value.cells (.agg #[.int .i64 0, .int .i64 0, .int .i64 0])) (n * 3)).toList = recs (List.replicate n ⟨0, 0, 0⟩) := by
  rw [recs_zero]
  apply List.ext_getElem?
  intro j
  by_cases hj : j < n * 3
  · have h3 : j % 3 < 3 := Nat.mod_lt _ (by omega)
    rcases (by omega : j % 3 = 0 ∨ j % 3 = 1 ∨ j % 3 = 2) with h | h | h <;> simp [madeCells, hj, Value.cells, h]
  · simp [madeCells, hj]
abbrev rowR (A : Option Addr) (cs : List Value) : Ast := Ast.row 205 A cs
abbrev ownR (A : Option Addr) (c : Nat) (rs : List RecD) : Ast := Ast.own 205 3 A rs.length c (recs rs)
/-- A slice of records reads as rs. -/
def InR (w : World) (A : Option Addr) (c : Nat) (rs : List RecD) : Prop := rs.length ≤ c ∧ rs.length ≤ 9223372036854775807 ∧ In w A (recs rs)
theorem InR.on {w0 W : World} {A : Option Addr} {c : Nat} {rs : List RecD} (h : InR w0 A c rs) {l : List Ast} (H : St w0 [] W l) : InR W A c rs := ⟨h.1, h.2.1, h.2.2.on H⟩
theorem InR.of {w : World} {A : Option Addr} {c : Nat} {rs : List RecD} (h : (ownR A c rs).p w) : InR w A c rs := ⟨(own_le h).1, (own_le h).2, own_in h⟩
theorem InR.keep {w W : World} {A : Option Addr} {c : Nat} {rs : List RecD} (h : InR w A c rs) (hb : Below w.heap.size w W) : InR W A c rs := ⟨h.1, h.2.1, h.2.2.keep hb⟩
theorem InR.nil (w : World) : InR w none 0 [] := ⟨Nat.le_refl _, by simp, In.nil _ _⟩
theorem InR.cell {w0 W : World} {A : Option Addr} {c : Nat} {rs : List RecD} (h : InR w0 A c rs) {l : List Ast} (H : St w0 [] W l) {k : Nat} (hk : k < rs.length) :
    ∃ ad, A = some ad ∧ ∀ (j : Nat) (v : Value), (rec1 (rdr rs k))[j]? = some v → W.cell? ((ad.add (k * 3)).add j) = some v := by
  obtain ⟨ad, h1, h2⟩ := (h.on H).2.2.at (by rw [recs_length]; omega)
  refine ⟨ad, h1, fun j v hj => ?_⟩
  rw [Go.Addr.add_add]
  exact h2 _ _ (recs_at hk hj)
theorem InR.none {w : World} {A : Option Addr} {c : Nat} {rs : List RecD} (h : InR w A c rs) : A = Option.none → rs.length = 0 := fun e => by
  rcases Nat.eq_zero_or_pos rs.length with h0 | h0
  · exact h0
  · obtain ⟨ad, h1, _⟩ := h.2.2.at (by rw [recs_length]; omega)
    rw [e] at h1; cases h1
theorem info_rec : (Tryz.prog.info? 205).map (fun i => (i.zero, i.size, i.bytes)) = some (some (.agg #[.int .i64 0, .int .i64 0, .int .i64 0]), 3, 24) := by kernel_rfl
theorem laws_toRec (x : RecD) (w : World) : Calls Tryz.prog 236 #[.agg #[.int .i64 x.t, .int .i64 x.r, .int .i64 x.v]] w fun e w' => e = .returned (.agg #[.int .i64 x.t, .int .i64 x.r, .int .i64 x.v]) ∧ Below w.heap.size w w' := by
  have H := St.nil w []
  go_enter Tryz.func236, Tryz.ntmps236
  go_wp2_with (first | ((with_reducible refine g_box rfl ?_); (first | refine ev_box (v := .int _ _) H rfl rfl rfl rfl ?_ | refine ev_box (v := .bool _) H rfl rfl rfl rfl ?_ | refine ev_box (v := .slice _ _ _) H rfl rfl rfl rfl ?_ | refine ev_box (v := .agg _) H rfl rfl rfl rfl ?_); intro g_ W_ H_; (clear H; have H := H_; clear H_)) | ((with_reducible refine g_alloc rfl ?_); refine ev_new H rfl rfl ?_; intro g_ W_ H_; (clear H; have H := H_; clear H_)) | ((with_reducible refine g_load rfl ?_); first | refine ev_ld1 H rfl rfl rfl ?_ | refine ev_lda H rfl rfl rfl ?_) | ((with_reducible refine g_store rfl ?_); (first | refine ev_sto (v := .int _ _) H rfl rfl rfl rfl rfl ?_ | refine ev_sto (v := .bool _) H rfl rfl rfl rfl rfl ?_ | refine ev_sto (v := .slice _ _ _) H rfl rfl rfl rfl rfl ?_ | refine ev_sto (v := .agg _) H rfl rfl rfl rfl rfl ?_); intro W_ H_; (clear H; have H := H_; clear H_)))
  refine' back1 Tryz.results236 ?_ rfl ⟨?_, H.below⟩; rotate_left 1; (focus first | (with_reducible exact rv_tmp rfl) | (refine' rv_agg H rfl ?_ ?_ ?_; rotate_left 4; (focus (repeat (first | (with_reducible exact Pick.here) | (with_reducible apply Pick.there)))); (focus exact aggT rfl); (focus rfl)) | (refine' rv_one H rfl ?_ ?_; rotate_left 3; (focus (repeat (first | (with_reducible exact Pick.here) | (with_reducible apply Pick.there)))); (focus exact oneT rfl)))
  rfl
theorem laws_eqRec (x : RecD) (w : World) : Calls Tryz.prog 233 #[.agg #[.int .i64 x.t, .int .i64 x.r, .int .i64 x.v], .agg #[.int .i64 x.t, .int .i64 x.r, .int .i64 x.v]] w fun e w' => e = .returned (.bool true) ∧ Below w.heap.size w w' := by
  have H := St.nil w []
  go_enter Tryz.func233, Tryz.ntmps233
  go_wp2_with (first | ((with_reducible refine g_box rfl ?_); (first | refine ev_box (v := .int _ _) H rfl rfl rfl rfl ?_ | refine ev_box (v := .bool _) H rfl rfl rfl rfl ?_ | refine ev_box (v := .slice _ _ _) H rfl rfl rfl rfl ?_ | refine ev_box (v := .agg _) H rfl rfl rfl rfl ?_); intro g_ W_ H_; (clear H; have H := H_; clear H_)) | ((with_reducible refine g_alloc rfl ?_); refine ev_new H rfl rfl ?_; intro g_ W_ H_; (clear H; have H := H_; clear H_)) | ((with_reducible refine g_load rfl ?_); first | refine ev_ld1 H rfl rfl rfl ?_ | refine ev_lda H rfl rfl rfl ?_) | ((with_reducible refine g_store rfl ?_); (first | refine ev_sto (v := .int _ _) H rfl rfl rfl rfl rfl ?_ | refine ev_sto (v := .bool _) H rfl rfl rfl rfl rfl ?_ | refine ev_sto (v := .slice _ _ _) H rfl rfl rfl rfl rfl ?_ | refine ev_sto (v := .agg _) H rfl rfl rfl rfl rfl ?_); intro W_ H_; (clear H; have H := H_; clear H_)))
  all_goals (go_ret; exact ⟨rfl, H.below⟩)
set_option maxHeartbeats 1000000 in
theorem laws_toRecS (A : Option Addr) (c : Nat) (rs : List RecD) (w : World) (hx : InR w A c rs) (hs : rs.length ≤ 1048576) :
    Calls Tryz.prog 213 #[.slice A rs.length c] w fun e w' => ∃ g, e = .returned (.slice (some ⟨g, 0, none⟩) rs.length rs.length) ∧ St w [] w' [ownR (some ⟨g, 0, none⟩) rs.length rs] := by
  have H := St.nil w []
  have hm := hx.2.1
  go_enter Tryz.func213, Tryz.ntmps213
  go_wp2_with ((with_reducible refine g_make rfl ?_); refine ev_make H rfl rfl Tryz.underlying62 info_rec rfl rfl rfl rfl (by omega) (by omega) ?_; intro g_ W_ H_; rw [made_recs] at H_; (clear H; have H := H_; clear H_))
  go_loopw [4] (fun i wr => ∃ (k : Nat) (cur : List RecD), k ≤ rs.length ∧ i = .int .i64 k ∧ cur.length = rs.length ∧ Hid (∀ j, j < k → rdr cur j = rdr rs j) ∧ St w [] wr [Ast.own 205 3 (some ⟨g_, 0, none⟩) rs.length rs.length (recs cur)]) (fun i _ => rs.length - (intOf i).toNat)
  case atStart => exact ⟨0, _, Nat.zero_le _, rfl, by simp, fun j hj => absurd hj (Nat.not_lt_zero _), H⟩
  case round =>
    clear H
    obtain ⟨k, cur, hk, rfl, hl, HA, H⟩ := hrel
    have HL := Lib.hid hl
    by_cases hlt : k < rs.length
    · obtain ⟨ad, rfl, hc⟩ := hx.cell H hlt
      clear hx hl
      go_wp2_with (first | ((with_reducible refine g_load rfl ?_); refine ev_load_in_agg (n := 3) (vs := rec1 (rdr rs k)) rfl rfl rfl (by kernel_rfl) rfl hc ?_) | (go_at_call 236; (with_reducible refine (laws_toRec _ _).mono ?_); rintro e w1 ⟨rfl, hb⟩; (have H_ := H.callB hb; (clear H; have H := H_; clear H_); clear hb)) | ((with_reducible refine g_store rfl ?_); refine' ev_store_own (v := .agg _) H rfl rfl rfl rfl rfl ?_ ?_ ?_ ?_ ?_ ?_ ?_; rotate_left 8; (focus (repeat (first | (with_reducible exact Pick.here) | (with_reducible apply Pick.there)))); (focus exact szT rfl); (focus rfl); (focus (rw [recs_length, HL.out]; omega)); (focus rfl); (focus exact recs_set cur k _ (by rw [HL.out]; exact hlt)); intro W_ H_; (clear H; have H := H_; clear H_)))
      go_roundw
      case rel => exact ⟨k + 1, cur.set k (rdr rs k), by omega, by go_num, by rw [List.length_set]; exact HL.out, rdr_step HA.out (by rw [HL.out]; exact hlt), H⟩
      case measure => simp [intOf]; omega
    · go_wp2
      go_ret
      have he : cur = rs := rdr_ext HL.out fun j hj => HA.out j (by have := HL.out; omega)
      subst he
      exact ⟨_, rfl, H⟩
structure RingD where (cap : Int) (list : List RecD)
set_option maxHeartbeats 1000000 in
theorem laws_eqRecS (A B : Option Addr) (c d : Nat) (rs : List RecD) (w : World) (hx : InR w A c rs) (hy : InR w B d rs) :
    Calls Tryz.prog 206 #[.slice A rs.length c, .slice B rs.length d] w fun e w' => e = .returned (.bool true) ∧ St w [] w' [] := by
  have H := St.nil w []
  have hm := hx.2.1
  go_enter Tryz.func206, Tryz.ntmps206
  go_wp2
  go_loopw [5] (fun i wr => ∃ k : Nat, k ≤ rs.length ∧ i = .int .i64 k ∧ St w [] wr []) (fun i _ => rs.length - (intOf i).toNat)
  case atStart => exact ⟨0, Nat.zero_le _, rfl, H⟩
  case round =>
    clear H
    obtain ⟨k, hk, rfl, H⟩ := hrel
    by_cases hlt : k < rs.length
    · obtain ⟨ad, rfl, hc⟩ := hx.cell H hlt
      obtain ⟨ae, rfl, hd⟩ := hy.cell H hlt
      clear hx hy
      have hl1 : (k : Int) < (rs.length : Int) := by omega
      go_wp2
      (with_reducible refine g_draw ?_)
      try simp only [Act.put, List.setIfInBounds_toArray, List.set_cons_succ, List.set_cons_zero]
      refine F_begin (ls := #[false, false, false, false, false, false, false, false, false, false]) (by kernel_rfl) rfl (by kernel_rfl) ?_
      have H_ := H.drew
      (clear H; have H := H_; clear H_)
      refine T_go [(0, 0, 17), (0, 1, 18), (0, 2, 19), (1, 3, 20), (0, 4, 21), (0, 5, 22), (0, 6, 23), (1, 7, 24)] ?_; (repeat (first | (refine' T_pure _ rfl rfl (by kernel_rfl) (Nat.le_of_ble_eq_true (by kernel_rfl)) (fun w2_ K_ hK_ => ?_) ?_; rotate_left 1; focus ((conv => (arg 4; arg 1; whnf)); (repeat (first | exact hK_ rfl | go_step | go_guarded | go_upon | dsimp only)); done)) | (refine' T_read _ rfl rfl (by kernel_rfl) (Nat.le_of_ble_eq_true (by kernel_rfl)) (fun K_ hK_ => ?_) ?_; rotate_left 1; focus ((conv => (arg 4; arg 1; whnf)); (repeat (first | exact hK_ rfl | (go_big_may; (first | ((with_reducible refine g_load rfl ?_); refine ev_load_in_agg (n := 3) (vs := rec1 (rdr rs k)) rfl rfl rfl (by kernel_rfl) rfl (by first | exact hc | exact hd) ?_) | ((with_reducible refine g_load rfl ?_); first | refine ev_ld1 H rfl rfl rfl ?_ | refine ev_lda H rfl rfl rfl ?_))) | go_step | go_guarded | go_upon | dsimp only)); done)))); refine T_end ?_
      refine F_eff (ls' := #[true, true, true, true, true, true, true, true, true, false]) (pend' := []) 8 _ rfl (by kernel_rfl) (by kernel_rfl) (by kernel_rfl) (fun K_ hK_ => ?_); (conv => (arg 4; arg 1; whnf)); (repeat (first | refine hK_ _ _ rfl ?_ ?_ | (go_big_may; (first | (go_at_call 233; (with_reducible refine (laws_eqRec _ _).mono ?_); rintro e w1 ⟨rfl, hb⟩; (have H_ := H.callB hb; (clear H; have H := H_; clear H_); clear hb)))) | go_step | go_guarded | go_upon | dsimp only)); (focus (exact kept_nil))
      refine T_go [(0, 9, 26)] ?_; (repeat ((refine' T_pure _ rfl rfl (by kernel_rfl) (Nat.le_of_ble_eq_true (by kernel_rfl)) (fun w2_ K_ hK_ => ?_) ?_; rotate_left 1; focus ((conv => (arg 4; arg 1; whnf)); (repeat (first | exact hK_ rfl | go_step | go_guarded | go_upon | dsimp only)); done)))); refine T_end ?_
      refine F_done (by kernel_rfl) ?_
      go_wp2
      go_roundw
      case rel => exact ⟨k + 1, by omega, by go_num, H⟩
      case measure => simp [intOf]; omega
    · go_wp2
      go_ret
      exact ⟨rfl, H⟩
theorem laws_szRecS (A : Option Addr) (c : Nat) (rs : List RecD) (left : Int) (w : World) (hx : InR w A c rs) (h0 : -1 ≤ left) (h1 : left ≤ 1048576) :
    Calls Tryz.prog 209 #[.slice A rs.length c, .int .i64 left] w fun e w' => e = .returned (.int .i64 (szOf left rs.length)) ∧ w = w' := by
  have hm := hx.2.1
  by_cases hd : left - rs.length < 0
  all_goals
    go_enter Tryz.func209, Tryz.ntmps209
    go_wp2
    go_ret
    exact ⟨ret_i (by unfold szOf; omega), rfl⟩
set_option maxHeartbeats 2000000 in
theorem laws_markRecS (A : Option Addr) (n c : Nat) (cs : List Value) (k : Int) (w : World) (hx : Hol w [rowR A cs]) (hn : cs.length = n * 3) (hm : n ≤ 9223372036854775807) (h0 : 0 ≤ k) (h1 : k + n * 3 ≤ 1000000000000) :
    Calls Tryz.prog 207 #[.slice A n c, .int .i64 k] w fun e w' => e = .returned (.int .i64 (k + (n * 3 : Nat))) ∧ St w (rowR A cs).fp w' [rowR A (nums (marks k (n * 3)))] := by
  have H := hx.st
  simp only [List.flatMap_cons, List.flatMap_nil, List.append_nil] at H
  go_enter Tryz.func207, Tryz.ntmps207
  go_wp2
  go_loopw [1, 5] (fun kk i wr => ∃ j : Nat, j ≤ n ∧ i = .int .i64 j ∧ kk = .int .i64 (k + (j * 3 : Nat)) ∧ St w (rowR A cs).fp wr [rowR A (nums (marks k (j * 3)) ++ cs.drop (j * 3))]) (fun _ i _ => n - (intOf i).toNat)
  case atStart => exact ⟨0, Nat.zero_le _, rfl, by simp, by simpa [marks, nums] using H⟩
  case round =>
    clear H
    obtain ⟨j, hj, rfl, rfl, H⟩ := hrel
    by_cases hlt : j < n
    · obtain ⟨g, off, rfl⟩ : ∃ g off, A = some ⟨g, off, none⟩ := by
        have := H.n1
        cases A with
        | none =>
          have h3 : nums (marks k (j * 3)) ++ cs.drop (j * 3) = [] := this
          have := congrArg List.length h3
          simp [nums_length, marks_length] at this
          omega
        | some ad => obtain ⟨g, off, spot⟩ := ad; obtain ⟨h3, _⟩ := this; simp only at h3; subst h3; exact ⟨g, off, rfl⟩
      have hw : (1 : Int) ≤ 1000000000000 := by omega
      go_wp2_with (first | ((with_reducible refine g_store rfl ?_); refine' ev_store_row (v := .int _ _) (off := j * 3) H rfl rfl rfl rfl rfl ?_ ?_ ?_ ?_ ?_ ?_ ?_ ?_; rotate_left 6; (focus (repeat (first | (with_reducible exact Pick.here) | (with_reducible apply Pick.there)))); (focus omega); (focus exact szT rfl); (focus rfl); (focus (simp only [List.length_append, List.length_drop, nums_length, marks_length]; omega)); (focus rfl); (focus exact mark_step cs k _ (j * 3) (by omega) (by omega)); intro W_ H_; (clear H; have H := H_; clear H_)) | ((with_reducible refine g_store rfl ?_); refine' ev_store_row (v := .int _ _) (off := j * 3 + 1) H rfl rfl rfl rfl rfl ?_ ?_ ?_ ?_ ?_ ?_ ?_ ?_; rotate_left 6; (focus (repeat (first | (with_reducible exact Pick.here) | (with_reducible apply Pick.there)))); (focus omega); (focus exact szT rfl); (focus rfl); (focus (simp only [List.length_append, List.length_drop, nums_length, marks_length]; omega)); (focus rfl); (focus exact mark_step cs k _ (j * 3 + 1) (by omega) (by omega)); intro W_ H_; (clear H; have H := H_; clear H_)) | ((with_reducible refine g_store rfl ?_); refine' ev_store_row (v := .int _ _) (off := j * 3 + 1 + 1) H rfl rfl rfl rfl rfl ?_ ?_ ?_ ?_ ?_ ?_ ?_ ?_; rotate_left 6; (focus (repeat (first | (with_reducible exact Pick.here) | (with_reducible apply Pick.there)))); (focus omega); (focus exact szT rfl); (focus rfl); (focus (simp only [List.length_append, List.length_drop, nums_length, marks_length]; omega)); (focus rfl); (focus exact mark_step cs k _ (j * 3 + 1 + 1) (by omega) (by omega)); intro W_ H_; (clear H; have H := H_; clear H_)))
      go_roundw
      case rel => exact ⟨j + 1, by omega, by go_num, by go_num, by rw [show (j + 1) * 3 = j * 3 + 1 + 1 + 1 by omega]; exact H⟩
      case measure => simp [intOf]; omega
    · have hjn : j = n := by omega
      subst hjn
      clear hlt
      go_wp2
      go_ret
      refine ⟨rfl, ?_⟩
      rw [List.drop_of_length_le (by omega), List.append_nil] at H
      exact H
/-- The marks are read in three. -/
theorem held_at {w : World} {A : Option Addr} {k : Int} {n : Nat} (h : (rowR A (nums (marks k (n * 3)))).p w) {j : Nat} (hj : j < n) :
    ∃ g off, A = some ⟨g, off, none⟩ ∧ w.cell? ⟨g, off + j * 3, none⟩ = some (.int .i64 (k + j * 3)) ∧ w.cell? ⟨g, off + j * 3 + 1, none⟩ = some (.int .i64 (k + j * 3 + 1)) ∧ w.cell? ⟨g, off + j * 3 + 1 + 1, none⟩ = some (.int .i64 (k + j * 3 + 1 + 1)) := by
  obtain ⟨ad, h1, h2⟩ := (row_in h).at (by rw [nums_length, marks_length]; omega)
  subst h1
  obtain ⟨hs, _⟩ := h
  obtain ⟨g, off, spot⟩ := ad
  simp only at hs
  subst hs
  have key : ∀ i, i < 3 → w.cell? ⟨g, off + (j * 3 + i), none⟩ = some (.int .i64 (k + (j * 3 + i : Nat))) := fun i hi => by
    have := h2 _ _ (marks_at (n * 3) k (j * 3 + i) (by omega))
    rwa [Addr.add_mid] at this
  refine ⟨g, off, rfl, ?_, ?_, ?_⟩
  · have := key 0 (by omega); simpa using this
  · have := key 1 (by omega)
    rw [show off + j * 3 + 1 = off + (j * 3 + 1) by omega, this]; congr 2; omega
  · have := key 2 (by omega)
    rw [show off + j * 3 + 1 + 1 = off + (j * 3 + 2) by omega, this]; congr 2; omega
set_option maxHeartbeats 2000000 in
theorem laws_heldRecS (A : Option Addr) (n c : Nat) (k : Int) (w : World) (hx : (rowR A (nums (marks k (n * 3)))).p w) (hm : n ≤ 9223372036854775807) (h0 : 0 ≤ k) (h1 : k + n * 3 ≤ 1000000000000) :
    Calls Tryz.prog 208 #[.slice A n c, .int .i64 k] w fun e w' => e = .returned (.int .i64 (k + (n * 3 : Nat))) ∧ w = w' := by
  go_enter Tryz.func208, Tryz.ntmps208
  go_wp2
  go_loop [1, 5] (fun kk i => ∃ j : Nat, j ≤ n ∧ i = .int .i64 j ∧ kk = .int .i64 (k + (j * 3 : Nat))) (fun _ i => n - (intOf i).toNat)
  case atStart => exact ⟨0, Nat.zero_le _, rfl, by simp⟩
  case round =>
    obtain ⟨j, hj, rfl, rfl⟩ := hrel
    by_cases hlt : j < n
    · obtain ⟨g, off, rfl, c0, c1, c2⟩ := held_at hx hlt
      clear hx
      go_wp2_with ((with_reducible refine g_load rfl ?_); refine ev_load_in_one rfl rfl rfl one_int (by first | exact c0 | exact c1 | exact c2) ?_)
      go_round
      case rel => exact ⟨j + 1, by omega, by go_num, by go_num⟩
      case measure => simp [intOf]; omega
    · have hjn : j = n := by omega
      subst hjn
      clear hlt
      go_wp2
      go_ret
      exact ⟨rfl, rfl⟩
end Go.Proofs.YtjgggmcnbdjdjaaGreat.C
