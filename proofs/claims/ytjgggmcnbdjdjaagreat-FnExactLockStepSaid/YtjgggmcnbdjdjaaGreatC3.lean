/- What the functions over rows of rows tell. -/
import Derived.Test.YtjgggmcnbdjdjaaGreatO2
namespace Go.Proofs.YtjgggmcnbdjdjaaGreat.C
open Go.RowKit Go.Proofs.YtjgggmcnbdjdjaaGreat.K Go.Proofs.YtjgggmcnbdjdjaaGreat.B
attribute [local go_sem] max2_int min2_int max_two min_two i64_and255 i64_and65535 i64_and1
set_option maxRecDepth 20000
set_option linter.unusedVariables false
set_option linter.unusedSimpArgs false
/-- How many numbers there are in all rows. -/
def lens : List (List Int) → Nat
  | [] => 0
  | x :: xs => x.length + lens xs
theorem lens_take : ∀ (rs : List (List Int)) (k : Nat), k < rs.length → lens (rs.take (k + 1)) = lens (rs.take k) + (rwAt rs k).length
  | [], _, h => by simp at h
  | x :: xs, 0, _ => by simp [lens, rwAt]
  | x :: xs, k + 1, h => by
    have := lens_take xs k (by simpa using h)
    simp only [List.take_succ_cons, lens, this]
    simp [rwAt]; omega
theorem lens_le : ∀ (rs : List (List Int)) (k : Nat), lens (rs.take k) ≤ lens rs
  | [], _ => by simp
  | x :: xs, 0 => by simp [lens]
  | x :: xs, k + 1 => by have := lens_le xs k; simp only [List.take_succ_cons, lens]; omega
theorem lens_row {rs : List (List Int)} {k : Nat} (h : k < rs.length) : (rwAt rs k).length ≤ lens rs := by
  have h1 := lens_take rs k h
  have h2 := lens_le rs (k + 1)
  omega
theorem rows_small {rs : List (List Int)} (h : rs.length + lens rs ≤ 1048576) : rs.length ≤ 1048576 ∧ ∀ k, k < rs.length → (rwAt rs k).length ≤ 1048576 := ⟨by omega, fun k hk => by have := lens_row hk; omega⟩
/-- Something known of no memory. -/
def Ast.pure (φ : Prop) : Ast where
  fp := []
  p w := φ
  st w w' _ h := h
  lv w _ b hb := by cases hb
/-- The rows to be marked, and marked. -/
def rowRs (rs : List (List Int)) (qs : List Sl) : List Ast := List.zipWith (fun xs q => rowI q.A (nums xs)) rs qs
def rowMs : List (List Int) → List Sl → Int → List Ast
  | x :: xs, q :: qs, k => rowI q.A (nums (marks k x.length)) :: rowMs xs qs (k + (x.length : Nat))
  | _, _, _ => []
theorem rows_fp : ∀ (rs : List (List Int)) (qs : List Sl), (rowRs rs qs).flatMap Ast.fp = (rowAs rs qs).flatMap Ast.fp
  | [], _ => rfl
  | _ :: _, [] => rfl
  | x :: xs, q :: qs => by
    have := rows_fp xs qs
    simp only [rowRs, rowAs] at this
    simp only [rowRs, rowAs, List.zipWith_cons_cons, List.flatMap_cons, this]
    rfl
theorem rowAs_row {w : World} : ∀ (rs : List (List Int)) (qs : List Sl), (∀ a, a ∈ rowAs rs qs → a.p w) → ∀ a, a ∈ rowRs rs qs → a.p w
  | [], _, _, a, ha => by simp [rowRs] at ha
  | _ :: _, [], _, a, ha => by simp [rowRs] at ha
  | x :: xs, q :: qs, h, a, ha => by
    simp only [rowRs, List.zipWith_cons_cons, List.mem_cons] at ha
    rcases ha with rfl | ha
    · exact own_row (h (intsA q x) (by simp [rowAs]))
    · exact rowAs_row xs qs (fun a ha => h a (by simp only [rowAs, List.zipWith_cons_cons, List.mem_cons] at ha ⊢; exact .inr ha)) a ha
/-- One of several comes to the head. -/
theorem St.split {w0 W : World} {S : List Nat} {l1 l2 l : List Ast} {x : Ast} (h : St w0 S W (Ast.all (l1 ++ x :: l2) :: l)) : St w0 S W (x :: Ast.all (l1 ++ l2) :: l) := by
  have h1 := h.opn
  have h2 : St w0 S W ((l1 ++ l2) ++ (x :: l)) := h1.perm (by
    simp only [List.append_assoc, List.cons_append]
    exact (List.perm_append_left_iff l1).2 List.perm_middle.symm)
  exact (St.all _ h2).perm (List.Perm.swap _ _ _)
theorem St.join {w0 W : World} {S : List Nat} {l1 l2 l : List Ast} {x : Ast} (h : St w0 S W (x :: Ast.all (l1 ++ l2) :: l)) : St w0 S W (Ast.all (l1 ++ x :: l2) :: l) := by
  have h1 := (h.perm (List.Perm.swap _ _ _)).opn
  refine St.all _ (h1.perm ?_)
  rw [List.append_assoc, List.append_assoc]
  refine (List.perm_append_left_iff l1).2 ?_
  simp only [List.cons_append]
  exact List.perm_middle
theorem take_succ_rw {rs : List (List Int)} {k : Nat} (h : k < rs.length) : rs.take (k + 1) = rs.take k ++ [rwAt rs k] := by
  rw [rwAt_at h, List.take_succ_eq_append_getElem h]
def rowsR (q : Rw) (rs : List (List Int)) : Ast := Ast.all [Ast.pure (rs.length ≤ q.r.length ∧ rs.length ≤ 9223372036854775807), Ast.row 25 q.s.A (rowVals rs q.r), Ast.all (rowRs rs q.r)]
def rowsM (q : Rw) (rs : List (List Int)) (k : Int) : Ast := Ast.all [Ast.pure (rs.length ≤ q.r.length ∧ rs.length ≤ 9223372036854775807), Ast.row 25 q.s.A (rowVals rs q.r), Ast.all (rowMs rs q.r k)]
theorem rowsR_fp (rs : List (List Int)) (q : Rw) : (rowsR q rs).fp = (rowsA q rs).fp := by
  simp only [rowsR, rowsA, Ast.all, Ast.pure, List.flatMap_cons, List.flatMap_nil, rows_fp, List.nil_append]
  rfl
theorem rowsR_of {w : World} {rs : List (List Int)} {q : Rw} (h : (rowsA q rs).p w) : (rowsR q rs).p w := by
  intro a ha
  simp only [List.mem_cons, List.not_mem_nil, or_false] at ha
  rcases ha with rfl | rfl | rfl
  · exact ⟨(InRR.of h).len, (InRR.of h).mx⟩
  · exact own_row (h (outA q rs) (by simp))
  · exact rowAs_row rs q.r (h (Ast.all (rowAs rs q.r)) (by simp))
theorem rowRs_drop {rs : List (List Int)} {qs : List Sl} {j : Nat} (h : j < rs.length) (hq : rs.length ≤ qs.length) : rowRs (rs.drop j) (qs.drop j) = rowI (slAt qs j).A (nums (rwAt rs j)) :: rowRs (rs.drop (j + 1)) (qs.drop (j + 1)) := by
  rw [List.drop_eq_getElem_cons h, List.drop_eq_getElem_cons (show j < qs.length by omega), rwAt_at h, slAt_at (show j < qs.length by omega)]
  simp only [rowRs, List.zipWith_cons_cons]
theorem rowMs_append : ∀ (rs rs' : List (List Int)) (qs qs' : List Sl) (k : Int), rs.length = qs.length → rowMs (rs ++ rs') (qs ++ qs') k = rowMs rs qs k ++ rowMs rs' qs' (k + (lens rs : Nat))
  | [], rs', [], qs', k, _ => by simp [rowMs, lens]
  | x :: xs, rs', q :: qs, qs', k, h => by
    have := rowMs_append xs rs' qs qs' (k + (x.length : Nat)) (by simpa using h)
    simp only [List.cons_append, rowMs, this, lens]
    congr 3
    omega
  | [], _, _ :: _, _, _, h => by simp at h
  | _ :: _, _, [], _, _, h => by simp at h
theorem rowMs_snoc {rs : List (List Int)} {qs : List Sl} {j : Nat} (h : j < rs.length) (hq : rs.length ≤ qs.length) (k : Int) : rowMs (rs.take (j + 1)) (qs.take (j + 1)) k = rowMs (rs.take j) (qs.take j) k ++ [rowI (slAt qs j).A (nums (marks (k + (lens (rs.take j) : Nat)) (rwAt rs j).length))] := by
  have hj : j < qs.length := by omega
  rw [take_succ_rw h, show qs.take (j + 1) = qs.take j ++ [slAt qs j] by rw [slAt_at hj, List.take_succ_eq_append_getElem hj], rowMs_append _ _ _ _ _ (by simp; omega)]
  simp [rowMs]
/-- The marks of row j, in the whole. -/
theorem rowMs_at {w : World} : ∀ (rs : List (List Int)) (qs : List Sl) (k : Int) (j : Nat), j < rs.length → rs.length ≤ qs.length → (∀ a, a ∈ rowMs rs qs k → a.p w) → (rowI (slAt qs j).A (nums (marks (k + (lens (rs.take j) : Nat)) (rwAt rs j).length))).p w := fun rs qs k j hj hq h => by
  refine h _ ?_
  have e : rowMs rs qs k = rowMs (rs.take (j + 1)) (qs.take (j + 1)) k ++ rowMs (rs.drop (j + 1)) (qs.drop (j + 1)) (k + (lens (rs.take (j + 1)) : Nat)) := by
    rw [← rowMs_append _ _ _ _ _ (by simp; omega), List.take_append_drop, List.take_append_drop]
  rw [e, rowMs_snoc hj hq]
  simp
theorem oneRows : oneOf Tryz.prog 25 = true := oneT rfl
set_option maxHeartbeats 2000000 in
theorem laws_markIntSS (q : Rw) (rs : List (List Int)) (k : Int) (w : World) (hx : Hol w [rowsR q rs]) (h0 : 0 ≤ k) (h1 : k + lens rs ≤ 1000000000000) :
    Calls Tryz.prog 87 #[.slice q.s.A rs.length q.s.c, .int .i64 k] w fun e w' => e = .returned (.int .i64 (k + (lens rs : Nat))) ∧ St w (rowsR q rs).fp w' [rowsM q rs k] := by
  have H := hx.st
  obtain ⟨hq, hm⟩ := H.n1 (Ast.pure (rs.length ≤ q.r.length ∧ rs.length ≤ 9223372036854775807)) (by simp)
  simp only [List.flatMap_cons, List.flatMap_nil, List.append_nil] at H
  have HP : St w (rowsR q rs).fp w [Ast.row 25 q.s.A (rowVals rs q.r), Ast.all (rowRs rs q.r)] := (St.opn (l1 := [Ast.pure (rs.length ≤ q.r.length ∧ rs.length ≤ 9223372036854775807), Ast.row 25 q.s.A (rowVals rs q.r), Ast.all (rowRs rs q.r)]) (l := []) H).drop
  clear H
  generalize hF : (rowsR q rs).fp = F at HP ⊢
  clear hF
  obtain ⟨⟨A, c⟩, r⟩ := q
  simp only at HP hq
  have HQ := Lib.hid hq
  clear hq
  go_enter Tryz.func87, Tryz.ntmps87
  go_wp2
  go_loopw [1, 5] (fun kk i wr => ∃ j : Nat, j ≤ rs.length ∧ i = .int .i64 j ∧ kk = .int .i64 (k + (lens (rs.take j) : Nat)) ∧ St w F wr [Ast.row 25 A (rowVals rs r), Ast.all (rowMs (rs.take j) (r.take j) k ++ rowRs (rs.drop j) (r.drop j))]) (fun _ i _ => rs.length - (intOf i).toNat)
  case atStart => exact ⟨0, Nat.zero_le _, rfl, by simp [lens], by simpa [rowMs] using HP⟩
  case round =>
    clear HP
    obtain ⟨j, hj, rfl, rfl, H⟩ := hrel
    by_cases hlt : j < rs.length
    · obtain ⟨ad, hA, hc⟩ := row_in H.n1 j _ (rowVals_at hlt HQ.out)
      subst hA
      have b1 := lens_take rs j hlt
      have b2 := lens_le rs (j + 1)
      have b3 : 0 ≤ k + (lens (rs.take j) : Nat) := by omega
      have b4 : k + (lens (rs.take j) : Nat) + (rwAt rs j).length ≤ 1000000000000 := by omega
      have b5 : (rwAt rs j).length ≤ 9223372036854775807 := by omega
      have B1 := Lib.hid b1
      clear b1 b2
      have H_ := (H.perm (List.Perm.swap _ _ _))
      rw [rowRs_drop hlt HQ.out] at H_
      have H_ := St.split H_
      (clear H; have H := H_; clear H_)
      go_wp2_with (first | ((with_reducible refine g_load rfl ?_); refine ev_load_in_one rfl rfl rfl oneRows hc ?_) | (go_at_call 28; (with_reducible refine (laws_markIntS _ _ _ (nums (rwAt rs j)) _ _ (St.hol1 H) (nums_length _) b5 b3 b4).mono ?_); rintro e w1 ⟨rfl, kk⟩; have H_ := H.up1 kk (fun b hb => hb); simp only [List.cons_append, List.nil_append] at H_; (clear H; have H := H_; clear H_); clear kk))
      go_roundw
      case rel =>
        refine ⟨j + 1, by omega, by go_num, by rw [B1.out]; go_num, ?_⟩
        have H_ := St.join H
        rw [rowMs_snoc hlt HQ.out, List.append_assoc]
        exact H_.perm (List.Perm.swap _ _ _)
      case measure => simp [intOf]; omega
    · have hjn : j = rs.length := by omega
      subst hjn
      clear hlt
      go_wp2
      go_ret
      refine ⟨by simp, ?_⟩
      have e : rowMs (rs.take rs.length) (r.take rs.length) k ++ rowRs (rs.drop rs.length) (r.drop rs.length) = rowMs rs r k := by
        have h := rowMs_append rs [] (r.take rs.length) (r.drop rs.length) k (by have := HQ.out; simp; omega)
        rw [List.append_nil, List.take_append_drop] at h
        simp only [List.take_length, List.drop_length]
        rw [h]
        simp [rowMs, rowRs]
      rw [e] at H
      have H3 : St w F _ [Ast.pure (rs.length ≤ r.length ∧ rs.length ≤ 9223372036854775807), Ast.row 25 A (rowVals rs r), Ast.all (rowMs rs r k)] :=
        ⟨H.os, H.tape, H.output, H.size, H.block, fun a ha => by
          rcases List.mem_cons.1 ha with rfl | ha
          · exact ⟨HQ.out, hm⟩
          · exact H.hp a ha, by have := H.nd; simpa [Ast.pure] using this, fun a ha b hb => by
          rcases List.mem_cons.1 ha with rfl | ha
          · cases hb
          · exact H.own a ha b hb⟩
      exact St.all (l := []) [_, _, _] H3
set_option maxHeartbeats 2000000 in
theorem laws_heldIntSS (q : Rw) (rs : List (List Int)) (k : Int) (w : World) (hx : (rowsM q rs k).p w) (h0 : 0 ≤ k) (h1 : k + lens rs ≤ 1000000000000) :
    Calls Tryz.prog 131 #[.slice q.s.A rs.length q.s.c, .int .i64 k] w fun e w' => e = .returned (.int .i64 (k + (lens rs : Nat))) ∧ Below w.heap.size w w' := by
  obtain ⟨hq, hm⟩ := hx (Ast.pure (rs.length ≤ q.r.length ∧ rs.length ≤ 9223372036854775807)) (by simp)
  have hr := hx (Ast.row 25 q.s.A (rowVals rs q.r)) (by simp)
  have hs := hx (Ast.all (rowMs rs q.r k)) (by simp)
  have HS := Lib.hid (show ∀ j, j < rs.length → _ from fun j hj => rowMs_at rs q.r k j hj hq hs)
  have HQ := Lib.hid hq
  clear hx hs hq
  obtain ⟨⟨A, c⟩, r⟩ := q
  simp only at hr HS HQ
  have key : Calls Tryz.prog 131 #[.slice A rs.length c, .int .i64 k] w fun e w' => e = .returned (.int .i64 (k + (lens rs : Nat))) ∧ w = w' := by
    go_enter Tryz.func131, Tryz.ntmps131
    go_wp2
    go_loop [1, 5] (fun kk i => ∃ j : Nat, j ≤ rs.length ∧ i = .int .i64 j ∧ kk = .int .i64 (k + (lens (rs.take j) : Nat))) (fun _ i => rs.length - (intOf i).toNat)
    case atStart => exact ⟨0, Nat.zero_le _, rfl, by simp [lens]⟩
    case round =>
      obtain ⟨j, hj, rfl, rfl⟩ := hrel
      by_cases hlt : j < rs.length
      · obtain ⟨ad, hA, hc⟩ := row_in hr j _ (rowVals_at hlt HQ.out)
        subst hA
        have hrow := HS.out j hlt
        have b1 := lens_take rs j hlt
        have b2 := lens_le rs (j + 1)
        have b3 : 0 ≤ k + (lens (rs.take j) : Nat) := by omega
        have b4 : k + (lens (rs.take j) : Nat) + (rwAt rs j).length ≤ 1000000000000 := by omega
        have b5 : (rwAt rs j).length ≤ 9223372036854775807 := by omega
        have b6 : ¬ k + (lens (rs.take j) : Nat) + ((rwAt rs j).length : Nat) < 0 := by omega
        have B1 := Lib.hid b1
        clear b1 b2
        go_wp2_with (first | ((with_reducible refine g_load rfl ?_); refine ev_load_in_one rfl rfl rfl oneRows hc ?_) | (go_at_call 61; (with_reducible refine (laws_heldIntS _ _ _ _ _ hrow b5 b3 b4).mono ?_); rintro e w1 ⟨rfl, rfl⟩))
        go_round
        case rel => exact ⟨j + 1, by omega, by go_num, by rw [B1.out]; go_num⟩
        case measure => simp [intOf]; omega
      · have hjn : j = rs.length := by omega
        subst hjn
        clear hlt
        go_wp2
        go_ret
        exact ⟨by simp, rfl⟩
  exact key.mono fun e w' ⟨h1, h2⟩ => ⟨h1, h2 ▸ Below.refl _ _⟩
theorem to_ints (A : Option Addr) (c : Nat) (xs : List Int) {w : World} (hx : InI w A c xs) (hs : xs.length ≤ 1048576) :
    Calls Tryz.prog 22 #[.slice A xs.length c] w fun e w' => ∃ q : Sl, e = .returned (.slice q.A xs.length q.c) ∧ St w [] w' [intsA q xs] :=
  (laws_toIntS A c xs w hx hs).mono fun e w' ⟨g, h1, h2⟩ => ⟨⟨some ⟨g, 0, none⟩, xs.length⟩, h1, h2⟩
/-- The outer row half filled. -/
def halfVals (rs : List (List Int)) (qs : List Sl) (k n : Nat) : List Value := rowVals (rs.take k) qs ++ List.replicate (n - k) (.slice none 0 0)
theorem made_rows (n : Nat) : (madeCells (Value.cells (.slice none 0 0)) (n * 1)).toList = List.replicate n (.slice none 0 0) := by
  have := toList_madeCells_one (.slice none 0 0) n
  rw [Nat.mul_one]
  exact this
theorem half_set {rs : List (List Int)} {qs : List Sl} {k : Nat} (hk : k < rs.length) (hq : qs.length = k) (q : Sl) :
    (halfVals rs qs k rs.length).take k ++ [.slice q.A (rwAt rs k).length q.c] ++ (halfVals rs qs k rs.length).drop (k + 1) = halfVals rs (qs ++ [q]) (k + 1) rs.length := by
  have hl : (rowVals (rs.take k) qs).length = k := by rw [rowVals_length _ _ (by simp; omega)]; simp; omega
  unfold halfVals
  rw [List.take_append_of_le_length (by omega), List.take_of_length_le (by omega), List.drop_append, List.drop_of_length_le (by omega), hl, List.nil_append, take_succ_rw hk, rowVals_append _ _ _ _ (by simp; omega)]
  simp only [List.drop_replicate, List.append_assoc]
  congr 2
  show List.replicate _ _ = List.replicate _ _
  congr 1
  omega
theorem half_length {rs : List (List Int)} {qs : List Sl} {k : Nat} (hk : k ≤ rs.length) (hq : qs.length = k) : (halfVals rs qs k rs.length).length = rs.length := by
  have hl : (rowVals (rs.take k) qs).length = k := by rw [rowVals_length _ _ (by simp; omega)]; simp; omega
  unfold halfVals
  rw [List.length_append, hl, List.length_replicate]; omega
set_option maxHeartbeats 2000000 in
theorem laws_toIntSS (q : Rw) (rs : List (List Int)) (w : World) (hx : InRR w q rs) (hs : rs.length ≤ 1048576 ∧ ∀ k, k < rs.length → (rwAt rs k).length ≤ 1048576) :
    Calls Tryz.prog 75 #[.slice q.s.A rs.length q.s.c] w fun e w' => ∃ q' : Rw, e = .returned (.slice q'.s.A rs.length q'.s.c) ∧ St w [] w' [rowsA q' rs] := by
  have H := St.nil w []
  have hm := hx.mx
  obtain ⟨hs1, hs2⟩ := hs
  have HS := Lib.hid hs2
  clear hs2
  obtain ⟨⟨A, c⟩, r⟩ := q
  go_enter Tryz.func75, Tryz.ntmps75
  go_wp2_with ((with_reducible refine g_make rfl ?_); refine ev_make H rfl rfl Tryz.underlying22 info_ints rfl rfl rfl rfl (by omega) (by omega) ?_; intro g_ W_ H_; rw [made_rows] at H_; (clear H; have H := H_; clear H_))
  go_loopw [4] (fun i wr => ∃ (k : Nat) (qs : List Sl), k ≤ rs.length ∧ i = .int .i64 k ∧ Hid (qs.length = k) ∧ St w [] wr [Ast.own 25 1 (some ⟨g_, 0, none⟩) rs.length rs.length (halfVals rs qs k rs.length), Ast.all (rowAs (rs.take k) qs)]) (fun i _ => rs.length - (intOf i).toNat)
  case atStart => exact ⟨0, [], Nat.zero_le _, rfl, rfl, (St.all (l := [_]) [] H).perm (List.Perm.swap _ _ _)⟩
  case round =>
    clear H
    obtain ⟨k, qs, hk, rfl, HL, H⟩ := hrel
    by_cases hlt : k < rs.length
    · obtain ⟨ad, hA, hc⟩ := hx.cell H hlt
      simp only at hA hc
      subst hA
      have hsk := HS.out k hlt
      have hr := hx.row k hlt
      simp only at hr
      clear hx
      go_wp2_with (first | (go_at_call 22; (with_reducible refine (to_ints _ _ _ (hr.on H) hsk).mono ?_); rintro e w1 ⟨q1, rfl, k1⟩; (have H_ := H.call k1); simp only [List.cons_append, List.nil_append] at H_; (clear H; have H := H_; clear H_); clear k1) | ((with_reducible refine g_store rfl ?_); refine' ev_store_own (v := .slice _ _ _) H rfl rfl rfl rfl rfl ?_ ?_ ?_ ?_ ?_ ?_ ?_; rotate_left 8; (focus exact pkA); (focus exact szT rfl); (focus rfl); (focus (rw [half_length (by omega) HL.out]; omega)); (focus rfl); (focus exact half_set hlt HL.out q1); intro W_ H_; (clear H; have H := H_; clear H_)))
      go_roundw
      case rel =>
        refine ⟨k + 1, qs ++ [q1], by omega, by go_num, Lib.hid (by rw [List.length_append, HL.out]; rfl), ?_⟩
        have h1 := H.picks (xs := [intsA q1 (rwAt rs k), Ast.all (rowAs (rs.take k) qs)]) pksA
        have h2 := (St.join (l2 := []) (l1 := rowAs (rs.take k) qs) (x := intsA q1 (rwAt rs k)) (by rw [List.append_nil]; exact h1)).perm (List.Perm.swap _ _ _)
        rw [take_succ_rw hlt, rowAs_append _ _ _ _ (by have := HL.out; simp; omega)]
        exact h2
      case measure => simp [intOf]; omega
    · go_wp2
      go_ret
      have hkn : k = rs.length := by omega
      subst hkn
      refine ⟨⟨⟨some ⟨g_, 0, none⟩, rs.length⟩, qs⟩, rfl, ?_⟩
      simp only [halfVals, List.take_length, Nat.sub_self, List.replicate_zero, List.append_nil] at H
      exact St.all (l := []) [_, _] H
set_option maxHeartbeats 2000000 in
theorem laws_eqIntSS (q r : Rw) (rs : List (List Int)) (w : World) (hx : InRR w q rs) (hy : InRR w r rs) :
    Calls Tryz.prog 86 #[.slice q.s.A rs.length q.s.c, .slice r.s.A rs.length r.s.c] w fun e w' => e = .returned (.bool true) ∧ St w [] w' [] := by
  have H := St.nil w []
  have hm := hx.mx
  obtain ⟨⟨A, c⟩, qr⟩ := q
  obtain ⟨⟨B, d⟩, rr⟩ := r
  go_enter Tryz.func86, Tryz.ntmps86
  go_wp2
  go_loopw [5] (fun i wr => ∃ k : Nat, k ≤ rs.length ∧ i = .int .i64 k ∧ St w [] wr []) (fun i _ => rs.length - (intOf i).toNat)
  case atStart => exact ⟨0, Nat.zero_le _, rfl, H⟩
  case round =>
    clear H
    obtain ⟨k, hk, rfl, H⟩ := hrel
    by_cases hlt : k < rs.length
    · obtain ⟨ad, hA, hc⟩ := hx.cell H hlt
      obtain ⟨ae, hB, hd⟩ := hy.cell H hlt
      have h1 := hx.row k hlt
      have h2 := hy.row k hlt
      simp only at hA hc hB hd h1 h2
      subst hA
      subst hB
      clear hx hy
      have hl1 : (k : Int) < (rs.length : Int) := by omega
      go_wp2
      (with_reducible refine g_draw ?_)
      try simp only [Act.put, List.setIfInBounds_toArray, List.set_cons_succ, List.set_cons_zero]
      refine F_begin (ls := #[false, false, false, false, false, false, false, false, false, false]) (by kernel_rfl) rfl (by kernel_rfl) ?_
      have H_ := H.drew
      (clear H; have H := H_; clear H_)
      refine T_go [(0, 0, 17), (0, 1, 18), (0, 2, 19), (1, 3, 20), (0, 4, 21), (0, 5, 22), (0, 6, 23), (1, 7, 24)] ?_; (repeat (first | refine T_pA ?_ | (refine' T_read _ rfl rfl (by kernel_rfl) (Nat.le_of_ble_eq_true (by kernel_rfl)) (fun K_ hK_ => ?_) ?_; rotate_left 1; focus ((conv => (arg 4; arg 1; whnf)); (repeat (first | exact hK_ rfl | (go_big_may; (first | ((with_reducible refine g_load rfl ?_); refine ev_load_in_one rfl rfl rfl one_ints (by first | exact hc | exact hd) ?_) | ((with_reducible refine g_load rfl ?_); refine eL1 H ?_))) | go_step | go_guarded | go_upon | dsimp only)); done)))); refine T_end ?_
      refine F_eA (ls' := #[true, true, true, true, true, true, true, true, true, false]) (pend' := []) 8 ?_; intro K_ hK_; (conv => (arg 4; arg 1; whnf)); (repeat (first | refine hK_ _ _ rfl ?_ ?_ | (go_big_may; (go_at_call 26; (with_reducible refine (laws_eqIntS _ _ _ _ _ _ (h1.on H) (h2.on H)).mono ?_); rintro e w1 ⟨rfl, kq⟩; (have H_ := H.call kq); simp only [List.cons_append, List.nil_append] at H_; (clear H; have H := H_; clear H_); clear kq)) | go_step | go_guarded | go_upon | dsimp only)); exact kept_nil
      refine T_go [(0, 9, 26)] ?_; (repeat (refine T_pA ?_)); refine T_end ?_
      refine F_done (by kernel_rfl) ?_
      go_wp2
      go_roundw
      case rel => exact ⟨k + 1, by omega, by go_num, H⟩
      case measure => simp [intOf]; omega
    · go_wp2
      go_ret
      exact ⟨rfl, H⟩
set_option maxHeartbeats 2000000 in
theorem laws_szIntSS (q : Rw) (rs : List (List Int)) (left : Int) (w : World) (hx : InRR w q rs) (h0 : -1 ≤ left) (h1 : left ≤ 1048576) :
    Calls Tryz.prog 69 #[.slice q.s.A rs.length q.s.c, .int .i64 left] w fun e w' => e = .returned (.int .i64 (szOf left (rs.length + lens rs))) ∧ w = w' := by
  have hm := hx.mx
  obtain ⟨⟨A, c⟩, qr⟩ := q
  by_cases hd : left - rs.length < 0
  · go_enter Tryz.func69, Tryz.ntmps69
    go_wp2
    go_ret
    exact ⟨ret_i (by unfold szOf; omega), rfl⟩
  · go_enter Tryz.func69, Tryz.ntmps69
    go_wp2
    go_loop [1, 5] (fun l i => ∃ k : Nat, k ≤ rs.length ∧ i = .int .i64 k ∧ ∃ m : Int, l = .int .i64 m ∧ 0 ≤ m ∧ m ≤ 1048576 ∧ Hid (m = left - rs.length - lens (rs.take k))) (fun _ i => rs.length - (intOf i).toNat)
    case atStart => exact ⟨0, Nat.zero_le _, rfl, _, rfl, by omega, by omega, Lib.hid (by simp [lens])⟩
    case round =>
      obtain ⟨k, hk, rfl, m, rfl, hm0, hm1, HM⟩ := hrel
      by_cases hlt : k < rs.length
      · obtain ⟨ad, hA, hc⟩ := hx.cell (St.nil w []) hlt
        have h2 := hx.row k hlt
        simp only at hA hc h2
        subst hA
        clear hx
        by_cases hn : m - (rwAt rs k).length < 0
        · have hz : szOf m (rwAt rs k).length < 0 := by unfold szOf; omega
          go_wp2_with (first | ((with_reducible refine g_load rfl ?_); refine ev_load_in_one rfl rfl rfl one_ints hc ?_) | (go_at_call 35; (with_reducible refine (laws_szIntS _ _ _ _ _ h2 (by omega) (by omega)).mono ?_); rintro e w1 ⟨rfl, rfl⟩))
          go_ret
          refine ⟨ret_i ?_, rfl⟩
          have a1 := lens_take rs k hlt
          have a2 := lens_le rs (k + 1)
          have a3 := HM.out
          unfold szOf; omega
        · have hz : ¬ szOf m (rwAt rs k).length < 0 := by unfold szOf; omega
          go_wp2_with (first | ((with_reducible refine g_load rfl ?_); refine ev_load_in_one rfl rfl rfl one_ints hc ?_) | (go_at_call 35; (with_reducible refine (laws_szIntS _ _ _ _ _ h2 (by omega) (by omega)).mono ?_); rintro e w1 ⟨rfl, rfl⟩))
          go_round
          case rel =>
            have a1 := lens_take rs k hlt
            have a3 := HM.out
            exact ⟨k + 1, by omega, by go_num, _, rfl, by omega, by unfold szOf; omega, Lib.hid (by unfold szOf; omega)⟩
          case measure => simp [intOf]; omega
      · go_wp2
        go_ret
        refine ⟨ret_i ?_, rfl⟩
        have a3 := HM.out
        have hkn : k = rs.length := by omega
        subst hkn
        rw [List.take_length] at a3
        unfold szOf; omega
end Go.Proofs.YtjgggmcnbdjdjaaGreat.C

