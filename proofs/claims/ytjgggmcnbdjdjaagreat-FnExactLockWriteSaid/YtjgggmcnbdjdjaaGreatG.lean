/- What the functions over rings tell: made, put, looked at, taken. -/
import Derived.Test.YtjgggmcnbdjdjaaGreatC2
namespace Go.Proofs.YtjgggmcnbdjdjaaGreat.C
open Go.RowKit Go.Proofs.YtjgggmcnbdjdjaaGreat.K Go.Proofs.YtjgggmcnbdjdjaaGreat.B
attribute [local go_sem] max2_int min2_int max_two min_two i64_and255 i64_and65535 i64_and1
set_option maxRecDepth 20000
set_option linter.unusedVariables false
set_option linter.unusedSimpArgs false
def RingD.zero : RingD := ⟨0, []⟩
def RingP.zero : RingP := ⟨Sl.nil⟩
def RingD.push (x : RingD) (r : RecD) : RingD := ⟨x.cap, x.list ++ [r]⟩
def RingD.newCap (c : Int) : Int := if (RingD.mk c []).ok = true then c else 0
def RingD.canPut (x : RingD) (r : RecD) : Bool := x.ok && (x.push r).ok
def RingD.put (x : RingD) (r : RecD) : RingD := if x.ok = true then (if (x.push r).ok = true then x.push r else x) else RingD.zero
def RecD.zero : RecD := ⟨0, 0, 0⟩
def RingD.has (x : RingD) : Bool := x.ok && decide (x.list.length ≠ 0)
def RingD.head (x : RingD) : RecD := if x.has = true then rdr x.list 0 else RecD.zero
def RingD.tail (x : RingD) : RingD := ⟨x.cap, x.list.drop 1⟩
def RingD.take (x : RingD) : RingD := if x.ok = true then x.tail else RingD.zero
theorem RingIn.zero (w : World) : RingIn w RingD.zero RingP.zero := ⟨InR.nil w⟩
theorem ringZero (w : World) : St w [] w [ringA RingD.zero RingP.zero] := by
  refine ⟨rfl, rfl, rfl, Nat.le_refl _, fun _ _ _ => rfl, fun a ha => ?_, by simp [ringA, RingP.zero, Sl.nil, Ast.all, Ast.own], fun a ha b hb => ?_⟩
  · rw [List.mem_singleton.1 ha]
    intro b hb
    rw [List.mem_singleton.1 hb]
    exact ⟨rfl, .inl ⟨rfl, rfl⟩⟩
  · rw [List.mem_singleton.1 ha] at hb
    simp [ringA, RingP.zero, Sl.nil, Ast.all, Ast.own] at hb
theorem InR.at0' {w0 W : World} {ad : Addr} {c : Nat} {rs : List RecD} (h : InR w0 (some ad) c rs) {l : List Ast} (H : St w0 [] W l) (hk : 0 < rs.length) : ∀ (j : Nat) (v : Value), (rec1 (rdr rs 0))[j]? = some v → W.cell? (ad.add j) = some v := by
  have := h.at H hk
  simpa [Addr.add_zero'] using this
theorem ownR_some {w : World} {A : Option Addr} {c : Nat} {rs : List RecD} (h : (ownR A c rs).p w) (h0 : 0 < rs.length) : ∃ g, A = some ⟨g, 0, none⟩ ∧ rs.length ≤ c := by
  rcases own_form h with ⟨_, h1, _, _⟩ | ⟨g, cur, hA, _, h1, _⟩
  · omega
  · exact ⟨g, hA, h1⟩
theorem In.drop {w : World} {ad : Addr} {cs : List Value} (h : In w (some ad) cs) (k : Nat) : In w (some (ad.add k)) (cs.drop k) := fun j v hj => by
  rw [List.getElem?_drop] at hj
  obtain ⟨ad', h1, h2⟩ := h _ _ hj
  injection h1 with h1; subst h1
  exact ⟨_, rfl, by rw [Addr.add_add]; exact h2⟩
theorem recs_drop1 (rs : List RecD) : (recs rs).drop 3 = recs (rs.drop 1) := recs_drop rs 1
theorem drop1_nil {rs : List RecD} (h : rs.length ≤ 1) : rs.drop 1 = [] := List.drop_eq_nil_of_le h
theorem ring_tailR {w : World} {x : RingD} {g c : Nat} (h : (ownR (some ⟨g, 0, none⟩) c x.list).p w) (h0 : 0 < x.list.length) (c' : Nat) : (ringR x.tail ⟨⟨some ⟨g, 3, none⟩, c'⟩⟩).p w := by
  intro a ha
  rw [List.mem_singleton.1 ha]
  have h1 := row_tail (own_row h) (k := 3) (by rw [recs_length]; omega) rfl
  rw [recs_drop1] at h1
  exact h1
theorem ring_tail0 {w : World} {x : RingD} {g c : Nat} (h : (ownR (some ⟨g, 0, none⟩) c x.list).p w) (h0 : x.list.length ≤ 1) (c' : Nat) : (ringR x.tail ⟨⟨some ⟨g, 0, none⟩, c'⟩⟩).p w := by
  intro a ha
  rw [List.mem_singleton.1 ha]
  obtain ⟨h1, cur, hh, h2, h3⟩ := own_row h
  refine ⟨rfl, cur, hh, ?_, ?_⟩ <;> simp [RingD.tail, drop1_nil h0, recs]
theorem RingIn.ofR {w : World} {x : RingD} {q : RingP} (h : (ringR x q).p w) (h1 : x.list.length ≤ q.list.c) (h2 : x.list.length ≤ 1048576) : RingIn w x q := ⟨⟨h1, by omega, row_in (h (rowR q.list.A (recs x.list)) (by simp))⟩⟩
theorem RingD.put_mk {x : RingD} (h : RingSmall x) (r : RecD) : (x.put r).mk_ ≤ 100000000 := by
  have := h.list
  unfold RingD.put RingD.mk_
  split
  · split
    · simp [RingD.push]; omega
    · omega
  · simp [RingD.zero]
theorem RingD.take_mk {x : RingD} (h : RingSmall x) : x.take.mk_ ≤ 100000000 := by
  have := h.list
  unfold RingD.take RingD.mk_
  split
  · simp [RingD.tail]; omega
  · simp [RingD.zero]
theorem fill_rec (r : RecD) : Instr.fill (fun i => some (i * 3, 3)) ((Array.range (1 * 3)).map ((Value.cells (.agg #[.int .i64 0, .int .i64 0, .int .i64 0]))[· % (Value.cells (.agg #[.int .i64 0, .int .i64 0, .int .i64 0])).size]!)) [(0, .agg #[.int .i64 r.t, .int .i64 r.r, .int .i64 r.v])] = some (rec1 r).toArray := by
  kernel_rfl
theorem impl_RingOkN (x : RingD) (q : RingP) (cap : Int) (N : Nat) (h1 : cap = x.cap) (h2 : N = x.list.length) (w : World) (hx : RingIn w x q) : Calls Tryz.prog 152 #[.agg #[.int .i64 cap, .slice q.list.A N q.list.c]] w fun e w' => e = .returned (.bool x.ok) ∧ Below w.heap.size w w' := by
  subst h1; subst h2; exact impl_RingOk x q w hx
theorem spec_RingOkN (x : RingD) (q : RingP) (cap : Int) (N : Nat) (h1 : cap = x.cap) (h2 : N = x.list.length) (w : World) (hx : RingIn w x q) : Calls Tryz.prog 203 #[.agg #[.int .i64 cap, .slice q.list.A N q.list.c]] w fun e w' => e = .returned (.bool x.ok) ∧ Below w.heap.size w w' := by
  subst h1; subst h2; exact spec_RingOk x q w hx
set_option maxHeartbeats 2000000 in
theorem impl_copyRing (x : RingD) (q : RingP) (w : World) (hx : RingIn w x q) (hs : RingSmall x) : Calls Tryz.prog 82 #[.agg #[.int .i64 x.cap, .slice q.list.A x.list.length q.list.c]] w fun e w' => ∃ q', e = .returned (.agg #[.int .i64 x.cap, .slice q'.list.A x.list.length q'.list.c]) ∧ St w [] w' [ringA x q'] := by
  have H := St.nil w []
  have hi := hx.list
  have hs := hs.list
  go_enter Tryz.func82, Tryz.ntmps82
  go_wp2_with (first | ((with_reducible refine g_box rfl ?_); (first | refine ev_box (v := .int _ _) H rfl rfl rfl rfl ?_ | refine ev_box (v := .bool _) H rfl rfl rfl rfl ?_ | refine ev_box (v := .slice _ _ _) H rfl rfl rfl rfl ?_ | refine ev_box (v := .agg _) H rfl rfl rfl rfl ?_); intro g_ W_ H_; (clear H; have H := H_; clear H_)) | ((with_reducible refine g_alloc rfl ?_); refine ev_new H rfl rfl ?_; intro g_ W_ H_; (clear H; have H := H_; clear H_)) | ((with_reducible refine g_load rfl ?_); first | refine ev_ld1 H rfl rfl rfl ?_ | refine ev_lda H rfl rfl rfl ?_) | ((with_reducible refine g_store rfl ?_); (first | refine ev_sto (v := .int _ _) H rfl rfl rfl rfl rfl ?_ | refine ev_sto (v := .bool _) H rfl rfl rfl rfl rfl ?_ | refine ev_sto (v := .slice _ _ _) H rfl rfl rfl rfl rfl ?_ | refine ev_sto (v := .agg _) H rfl rfl rfl rfl rfl ?_); intro W_ H_; (clear H; have H := H_; clear H_)))
  (with_reducible refine g_draw ?_)
  try simp only [Act.put, List.setIfInBounds_toArray, List.set_cons_succ, List.set_cons_zero]
  refine F_begin (ls := #[false, false, false, false, false, false, false, false]) (by kernel_rfl) rfl (by kernel_rfl) ?_
  have H_ := H.drew
  (clear H; have H := H_; clear H_)
  refine T_go [(0, 0, 3), (1, 1, 4), (0, 3, 6), (1, 4, 7)] ?_; (repeat (first | (refine' T_pure _ rfl rfl (by kernel_rfl) (Nat.le_of_ble_eq_true (by kernel_rfl)) (fun w2_ K_ hK_ => ?_) ?_; rotate_left 1; focus ((conv => (arg 4; arg 1; whnf)); (repeat (first | exact hK_ rfl | go_step | go_guarded | go_upon | dsimp only)); done)) | (refine' T_read _ rfl rfl (by kernel_rfl) (Nat.le_of_ble_eq_true (by kernel_rfl)) (fun K_ hK_ => ?_) ?_; rotate_left 1; focus ((conv => (arg 4; arg 1; whnf)); (repeat (first | exact hK_ rfl | (go_big_may; (first | ((with_reducible refine g_load rfl ?_); first | refine ev_ld1 H rfl rfl rfl ?_ | refine ev_lda H rfl rfl rfl ?_))) | go_step | go_guarded | go_upon | dsimp only)); done)))); refine T_end ?_
  refine F_eff (ls' := #[true, true, true, true, true, false, false, false]) (pend' := [4, 1]) 2 _ rfl (by kernel_rfl) (by kernel_rfl) (by kernel_rfl) (fun K_ hK_ => ?_); (conv => (arg 4; arg 1; whnf)); (repeat (first | refine hK_ _ _ rfl ?_ ?_ | (go_big_may; (first | ((with_reducible refine g_buildSlice rfl ?_); refine ev_buildSlice0 H rfl rfl Tryz.underlying62 info_rec ?_; intro g_ W_ H_; (clear H; have H := H_; clear H_)))) | go_step | go_guarded | go_upon | dsimp only)); (focus (refine kept_cons 4 7 _ rfl rfl (Nat.le_of_ble_eq_true (by kernel_rfl)) (fun K_ hK_ => ?_) ?_; (focus ((conv => (arg 4; arg 1; whnf)); repeat (first | exact hK_ rfl | (go_big_may; (first | ((with_reducible refine g_load rfl ?_); first | refine ev_ld1 H rfl rfl rfl ?_ | refine ev_lda H rfl rfl rfl ?_))) | go_step | go_guarded | go_upon | dsimp only))); refine kept_cons 1 4 _ rfl rfl (Nat.le_of_ble_eq_true (by kernel_rfl)) (fun K_ hK_ => ?_) ?_; (focus ((conv => (arg 4; arg 1; whnf)); repeat (first | exact hK_ rfl | (go_big_may; (first | ((with_reducible refine g_load rfl ?_); first | refine ev_ld1 H rfl rfl rfl ?_ | refine ev_lda H rfl rfl rfl ?_))) | go_step | go_guarded | go_upon | dsimp only))); exact kept_nil))
  refine F_eff (ls' := #[true, true, true, true, true, true, false, false]) (pend' := [1]) 5 _ rfl (by kernel_rfl) (by kernel_rfl) (by kernel_rfl) (fun K_ hK_ => ?_); (conv => (arg 4; arg 1; whnf)); (repeat (first | refine hK_ _ _ rfl ?_ ?_ | (go_big_may; (first | ((with_reducible refine g_append rfl ?_); refine ev_appendN (N := x.list.length) (cs' := recs x.list) H rfl rfl Tryz.underlying62 info_rec rfl (by decide) rfl rfl (by (repeat (first | (with_reducible exact Pick.here) | (with_reducible apply Pick.there)))) (hi.on H).2.2 hi.none (recs_length _) (recs_one _) (by omega) (by unfold maxLen; omega) (Nat.zero_add _) (List.nil_append _) ?_; intro A_ c_ W_ H_; (clear H; have H := H_; clear H_)))) | go_step | go_guarded | go_upon | dsimp only)); (focus (refine kept_cons 1 4 _ rfl rfl (Nat.le_of_ble_eq_true (by kernel_rfl)) (fun K_ hK_ => ?_) ?_; (focus ((conv => (arg 4; arg 1; whnf)); repeat (first | exact hK_ rfl | (go_big_may; (first | ((with_reducible refine g_load rfl ?_); first | refine ev_ld1 H rfl rfl rfl ?_ | refine ev_lda H rfl rfl rfl ?_))) | go_step | go_guarded | go_upon | dsimp only))); exact kept_nil))
  refine T_go [(0, 6, 9)] ?_; (repeat ((refine' T_pure _ rfl rfl (by kernel_rfl) (Nat.le_of_ble_eq_true (by kernel_rfl)) (fun w2_ K_ hK_ => ?_) ?_; rotate_left 1; focus ((conv => (arg 4; arg 1; whnf)); (repeat (first | exact hK_ rfl | go_step | go_guarded | go_upon | dsimp only)); done)))); refine T_end ?_
  refine F_eff (ls' := #[true, true, true, true, true, true, true, true]) (pend' := []) 7 _ rfl (by kernel_rfl) (by kernel_rfl) (by kernel_rfl) (fun K_ hK_ => ?_); (conv => (arg 4; arg 1; whnf)); (repeat (first | refine hK_ _ _ rfl ?_ ?_ | (go_big_may; (first | ((with_reducible refine g_store rfl ?_); (first | refine ev_sto (v := .int _ _) H rfl rfl rfl rfl rfl ?_ | refine ev_sto (v := .bool _) H rfl rfl rfl rfl rfl ?_ | refine ev_sto (v := .slice _ _ _) H rfl rfl rfl rfl rfl ?_ | refine ev_sto (v := .agg _) H rfl rfl rfl rfl rfl ?_); intro W_ H_; (clear H; have H := H_; clear H_)))) | go_step | go_guarded | go_upon | dsimp only)); (focus (exact kept_nil))
  refine F_done (by kernel_rfl) ?_
  go_wp2
  refine' back1 Tryz.results82 ?_ rfl ⟨⟨⟨A_, c_⟩⟩, ?_, (H.pack (l1 := [ownR A_ c_ x.list]) (by (repeat (first | (with_reducible exact Picks.nil) | (with_reducible exact Pick.here) | (with_reducible apply Pick.there) | (with_reducible apply Picks.cons))))).take (Picks.cons Pick.here Picks.nil)⟩; rotate_left 1; (focus first | (with_reducible exact rv_tmp rfl) | (refine' rv_agg H rfl ?_ ?_ ?_; rotate_left 4; (focus (repeat (first | (with_reducible exact Pick.here) | (with_reducible apply Pick.there)))); (focus exact aggT rfl); (focus rfl)) | (refine' rv_one H rfl ?_ ?_; rotate_left 3; (focus (repeat (first | (with_reducible exact Pick.here) | (with_reducible apply Pick.there)))); (focus exact oneT rfl)))
  rfl
set_option maxHeartbeats 2000000 in
theorem impl_RingNew (c : Int) (w : World) : Calls Tryz.prog 76 #[.int .i64 c] w fun e w' => e = .returned (.tuple #[.agg #[.int .i64 (RingD.newCap c), .slice none 0 0], .bool (RingD.mk c []).ok]) ∧ Below w.heap.size w w' := by
  have H := St.nil w []
  cases h : (RingD.mk c []).ok
  all_goals
    simp only [RingD.newCap, h, if_true, Bool.false_eq_true, if_false]
    go_enter Tryz.func76, Tryz.ntmps76
    go_wp2_with (first | ((with_reducible refine g_box rfl ?_); (first | refine ev_box (v := .int _ _) H rfl rfl rfl rfl ?_ | refine ev_box (v := .bool _) H rfl rfl rfl rfl ?_ | refine ev_box (v := .slice _ _ _) H rfl rfl rfl rfl ?_ | refine ev_box (v := .agg _) H rfl rfl rfl rfl ?_); intro g_ W_ H_; (clear H; have H := H_; clear H_)) | ((with_reducible refine g_alloc rfl ?_); refine ev_new H rfl rfl ?_; intro g_ W_ H_; (clear H; have H := H_; clear H_)) | ((with_reducible refine g_load rfl ?_); first | refine ev_ld1 H rfl rfl rfl ?_ | refine ev_lda H rfl rfl rfl ?_) | ((with_reducible refine g_store rfl ?_); (first | refine ev_sto (v := .int _ _) H rfl rfl rfl rfl rfl ?_ | refine ev_sto (v := .bool _) H rfl rfl rfl rfl rfl ?_ | refine ev_sto (v := .slice _ _ _) H rfl rfl rfl rfl rfl ?_ | refine ev_sto (v := .agg _) H rfl rfl rfl rfl rfl ?_); intro W_ H_; (clear H; have H := H_; clear H_)) | (go_at_call 152; (refine (impl_RingOk ⟨c, []⟩ RingP.zero _ ⟨InR.nil _⟩).mono ?_); rintro e w1 ⟨rfl, hb⟩; rw [h]; (have H_ := H.callB hb; (clear H; have H := H_; clear H_); clear hb)))
    refine' back2 Tryz.results76 ?_ ?_ rfl ⟨?_, H.below⟩; rotate_left 2; (focus first | (with_reducible exact rv_tmp rfl) | (refine' rv_agg H rfl ?_ ?_ ?_; rotate_left 4; (focus (repeat (first | (with_reducible exact Pick.here) | (with_reducible apply Pick.there)))); (focus exact aggT rfl); (focus rfl)) | (refine' rv_one H rfl ?_ ?_; rotate_left 3; (focus (repeat (first | (with_reducible exact Pick.here) | (with_reducible apply Pick.there)))); (focus exact oneT rfl))); (focus first | (with_reducible exact rv_tmp rfl) | (refine' rv_agg H rfl ?_ ?_ ?_; rotate_left 4; (focus (repeat (first | (with_reducible exact Pick.here) | (with_reducible apply Pick.there)))); (focus exact aggT rfl); (focus rfl)) | (refine' rv_one H rfl ?_ ?_; rotate_left 3; (focus (repeat (first | (with_reducible exact Pick.here) | (with_reducible apply Pick.there)))); (focus exact oneT rfl)))
    rfl
end Go.Proofs.YtjgggmcnbdjdjaaGreat.C
