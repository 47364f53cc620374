/- Rows of rows that are copied and grow. (written by xgen.py) -/
import Derived.Test.YtjgggmcnbdjdjaaGreatW2
import Derived.Test.YtjgggmcnbdjdjaaGreatQ4
import Derived.Test.YtjgggmcnbdjdjaaGreatV2
namespace Go.Proofs.YtjgggmcnbdjdjaaGreat.C
open Go.RowKit Go.Proofs.YtjgggmcnbdjdjaaGreat.K Go.Proofs.YtjgggmcnbdjdjaaGreat.B
attribute [local go_sem] max2_int min2_int max_two min_two i64_and255 i64_and65535 i64_and1
set_option maxRecDepth 20000
set_option linter.unusedVariables false
set_option linter.unusedSimpArgs false
/-- Rows of rows of the program's own. -/
def frA (q : Rw) (fs : List (List Int)) : Ast := Ast.all [Ast.pure (fs.length = q.r.length), Ast.own 25 1 q.s.A fs.length q.s.c (rowVals fs q.r), Ast.all (rowAs fs q.r)]
theorem frA_fp (q : Rw) (fs : List (List Int)) : (rowsA q fs).fp = (frA q fs).fp := by simp [rowsA, frA, outA, Ast.all, Ast.pure]
theorem rowsA_ofFr {w : World} {q : Rw} {fs : List (List Int)} (h : (frA q fs).p w) : (rowsA q fs).p w := by
  intro a ha
  simp only [List.mem_cons, List.not_mem_nil, or_false] at ha
  rcases ha with rfl | rfl
  · exact h (Ast.own 25 1 q.s.A fs.length q.s.c (rowVals fs q.r)) (by simp)
  · exact h _ (by simp)
theorem InRR.ofFr {w : World} {q : Rw} {fs : List (List Int)} (h : (frA q fs).p w) : InRR w q fs := InRR.of (rowsA_ofFr h)
theorem frA_len {w : World} {q : Rw} {fs : List (List Int)} (h : (frA q fs).p w) : fs.length = q.r.length := h (Ast.pure (fs.length = q.r.length)) (by simp)
/-- They are opened. -/
theorem St.frOpen {w0 W : World} {S : List Nat} {l l' : List Ast} {q : Rw} {fs : List (List Int)} (h : St w0 S W l) (k : Pick (frA q fs) l l') : St w0 S W ([Ast.pure (fs.length = q.r.length), Ast.own 25 1 q.s.A fs.length q.s.c (rowVals fs q.r), Ast.all (rowAs fs q.r)] ++ l') := h.unpack k
theorem St.frShut {w0 W : World} {S : List Nat} {l l' : List Ast} {q : Rw} {fs : List (List Int)} (h : St w0 S W l) (hl : fs.length = q.r.length) (k : Picks [Ast.own 25 1 q.s.A fs.length q.s.c (rowVals fs q.r), Ast.all (rowAs fs q.r)] l l') : St w0 S W (frA q fs :: l') :=
  St.all (l1 := [Ast.pure (fs.length = q.r.length), Ast.own 25 1 q.s.A fs.length q.s.c (rowVals fs q.r), Ast.all (rowAs fs q.r)]) (St.addFree (h.picks k) rfl hl)
/-- One row more. -/
theorem St.frMore {w0 W : World} {S : List Nat} {l l' : List Ast} {qs : List Sl} {fs ff : List (List Int)} {fr : List Int} {qf : Sl} {A : Option Addr} {c : Nat} (h : St w0 S W l) (hl : fs.length = qs.length) (hf : ff = fs ++ [fr])
    (k : Picks [Ast.own 25 1 A ff.length c (rowVals ff (qs ++ [qf])), intsA qf fr, Ast.all (rowAs fs qs)] l l') : St w0 S W (frA ⟨⟨A, c⟩, qs ++ [qf]⟩ ff :: l') := by
  have h1 := h.picks k
  have h2 : St w0 S W ([intsA qf fr, Ast.all (rowAs fs qs), Ast.own 25 1 A ff.length c (rowVals ff (qs ++ [qf]))] ++ l') := h1.perm (by simpa using (List.perm_append_comm (l₁ := [Ast.own 25 1 A ff.length c (rowVals ff (qs ++ [qf]))]) (l₂ := [intsA qf fr, Ast.all (rowAs fs qs)])).append_right l')
  have h3 : St w0 S W (Ast.all (rowAs fs qs ++ [intsA qf fr]) :: ([Ast.own 25 1 A ff.length c (rowVals ff (qs ++ [qf]))] ++ l')) := St.join (l2 := []) (l1 := rowAs fs qs) (x := intsA qf fr) (by rw [List.append_nil]; exact h2)
  have h4 : rowAs ff (qs ++ [qf]) = rowAs fs qs ++ [intsA qf fr] := by rw [hf, rowAs_append _ _ _ _ hl]; rfl
  rw [← h4] at h3
  exact St.frShut (q := ⟨⟨A, c⟩, qs ++ [qf]⟩) h3 (by rw [hf]; simp [hl]) (Picks.cons (.there .here) (Picks.cons .here .nil))
theorem rowVals_more {fs : List (List Int)} {qs : List Sl} {fr : List Int} {qf : Sl} (hl : fs.length = qs.length) : rowVals fs qs ++ [.slice qf.A fr.length qf.c] = rowVals (fs ++ [fr]) (qs ++ [qf]) := by rw [rowVals_append _ _ _ _ hl]; rfl
theorem fill_sl (A : Option Addr) (n c : Nat) : Instr.fill (fun i => some (i * 1, 1)) ((Array.range (1 * 1)).map ((Value.cells (.slice none 0 0))[· % (Value.cells (.slice none 0 0)).size]!)) [(0, .slice A n c)] = some [Value.slice A n c].toArray := by
  kernel_rfl
set_option maxHeartbeats 4000000 in
theorem impl_copyFrames (q : Rw) (fs : List (List Int)) (w : World) (hx : InRR w q fs) (hs : fs.length ≤ 1048576 ∧ ∀ k, k < fs.length → (rwAt fs k).length ≤ 1048576) : Calls Tryz.prog 116 #[.slice q.s.A fs.length q.s.c] w fun e w' => ∃ q' : Rw, e = .returned (.slice q'.s.A fs.length q'.s.c) ∧ St w [] w' [frA q' fs] := by
  have H := St.nil w []
  have hm := hx.mx
  obtain ⟨hs1, hs2⟩ := hs
  have HS := Lib.hid hs2
  clear hs2
  obtain ⟨⟨A, c⟩, r⟩ := q
  go_enter Tryz.func116, Tryz.ntmps116
  go_wp2_with (first | ((with_reducible refine g_buildSlice rfl ?_); refine ev_buildSlice0 H rfl rfl Tryz.underlying22 info_ints ?_; intro g_ W_ H_; (clear H; have H := H_; clear H_)))
  go_loopw [3, 9] (fun v i wr => ∃ (k : Nat) (qs : List Sl) (A1 : Option Addr) (c1 : Nat), k ≤ fs.length ∧ v = .slice A1 k c1 ∧ i = .int .i64 k ∧ Hid (qs.length = k) ∧ St w [] wr [Ast.own 25 1 A1 k c1 (rowVals (fs.take k) qs), Ast.all (rowAs (fs.take k) qs)]) (fun _ i _ => fs.length - (intOf i).toNat)
  case atStart => exact ⟨0, [], _, _, Nat.zero_le _, rfl, rfl, rfl, (St.all (l := [_]) [] H).perm (List.Perm.swap _ _ _)⟩
  case round =>
    clear H
    obtain ⟨k, qs, A1, c1, hk, rfl, rfl, HL, H⟩ := hrel
    by_cases hlt : k < fs.length
    · obtain ⟨ad, hA, hc⟩ := hx.cell H hlt
      simp only at hA hc
      subst hA
      have hsk := HS.out k hlt
      have hr := hx.row k hlt
      simp only at hr
      have hcell : ∀ {W : World} {l : List Ast}, St w [] W l → W.cell? (ad.add k) = some (.slice (slAt r k).A (rwAt fs k).length (slAt r k).c) := fun H' => by
        obtain ⟨ad', h1, h2⟩ := hx.cell H' hlt
        injection h1 with h1; subst h1; exact h2
      clear hx hc
      go_wp2_with (first | ((with_reducible refine g_load rfl ?_); refine ev_load_in_one rfl rfl rfl (oneT rfl) (hcell H) ?_) | (go_at_call 78; (with_reducible refine (impl_copyInts _ _ (rwAt fs k) _ (hr.on H) hsk).mono ?_); rintro e w1 ⟨qn, rfl, kq⟩; have H_ := H.call kq; simp only [List.cons_append, List.nil_append] at H_; (clear H; have H := H_; clear H_); clear kq) | ((with_reducible refine g_buildSlice rfl ?_); refine ev_buildSlice1 (v := .slice _ _ _) H rfl rfl rfl Tryz.underlying22 info_ints (fill_sl _ _ _) rfl (by decide) (by decide) (by decide) ?_; intro g_ W_ H_; (clear H; have H := H_; clear H_)) | ((with_reducible refine g_append rfl ?_); refine ev_appendN (xs := rowVals (fs.take k) qs) (news := [.slice qn.A (rwAt fs k).length qn.c]) (N := k + 1) (cs' := rowVals (fs.take (k + 1)) (qs ++ [qn])) H rfl rfl Tryz.underlying22 info_ints rfl (by decide) rfl rfl (by (repeat (first | (with_reducible exact Pick.here) | (with_reducible apply Pick.there)))) (own_in (H.get (by (repeat (first | (with_reducible exact Pick.here) | (with_reducible apply Pick.there)))))) (fun h => by cases h) rfl rfl (by omega) (by unfold maxLen; omega) (by omega) (by rw [take_succ_rw hlt]; exact rowVals_more (by have := HL.out; simp; omega)) ?_; intro A_ c_ W_ H_; (clear H; have H := H_; clear H_)))
      go_roundw
      case rel =>
        refine ⟨k + 1, qs ++ [qn], A_, c_, by omega, by go_num, by go_num, Lib.hid (by rw [List.length_append, HL.out]; rfl), ?_⟩
        have h1 := H.picks (xs := [intsA qn (rwAt fs k), Ast.all (rowAs (fs.take k) qs), Ast.own 25 1 A_ (k + 1) c_ (rowVals (fs.take (k + 1)) (qs ++ [qn]))]) (by (repeat (first | (with_reducible exact Picks.nil) | (with_reducible exact Pick.here) | (with_reducible apply Pick.there) | (with_reducible apply Picks.cons))))
        have h2 := St.join (l2 := []) (l1 := rowAs (fs.take k) qs) (x := intsA qn (rwAt fs k)) (by rw [List.append_nil]; exact h1)
        have h3 : rowAs (fs.take (k + 1)) (qs ++ [qn]) = rowAs (fs.take k) qs ++ [intsA qn (rwAt fs k)] := by rw [take_succ_rw hlt, rowAs_append _ _ _ _ (by have := HL.out; simp; omega)]; rfl
        rw [h3]
        simp only [List.append_eq, List.cons_append, List.nil_append] at h2
        exact h2.take (by (repeat (first | (with_reducible exact Picks.nil) | (with_reducible exact Pick.here) | (with_reducible apply Pick.there) | (with_reducible apply Picks.cons))))
      case measure => simp [intOf]; omega
    · go_wp2
      go_ret
      have hkn : k = fs.length := by omega
      subst hkn
      simp only [List.take_length] at H
      exact ⟨⟨⟨A1, c1⟩, qs⟩, rfl, (St.frShut (q := ⟨⟨A1, c1⟩, qs⟩) H HL.out.symm (by (repeat (first | (with_reducible exact Picks.nil) | (with_reducible exact Pick.here) | (with_reducible apply Pick.there) | (with_reducible apply Picks.cons))))).take (Picks.cons Pick.here Picks.nil)⟩
set_option maxHeartbeats 4000000 in
theorem spec_l12List (q : Rw) (fs : List (List Int)) (w : World) (hx : InRR w q fs) (hs : fs.length ≤ 1048576 ∧ ∀ k, k < fs.length → (rwAt fs k).length ≤ 1048576) : Calls Tryz.prog 100 #[.slice q.s.A fs.length q.s.c] w fun e w' => ∃ q' : Rw, e = .returned (.slice q'.s.A fs.length q'.s.c) ∧ St w [] w' [frA q' fs] := by
  have H := St.nil w []
  have hm := hx.mx
  obtain ⟨hs1, hs2⟩ := hs
  have HS := Lib.hid hs2
  clear hs2
  obtain ⟨⟨A, c⟩, r⟩ := q
  go_enter Tryz.func100, Tryz.ntmps100
  go_wp2_with (first | ((with_reducible refine g_buildSlice rfl ?_); refine ev_buildSlice0 H rfl rfl Tryz.underlying22 info_ints ?_; intro g_ W_ H_; (clear H; have H := H_; clear H_)))
  go_loopw [3, 4] (fun v i wr => ∃ (k : Nat) (qs : List Sl) (A1 : Option Addr) (c1 : Nat), k ≤ fs.length ∧ v = .slice A1 k c1 ∧ i = .int .i64 k ∧ Hid (qs.length = k) ∧ St w [] wr [Ast.own 25 1 A1 k c1 (rowVals (fs.take k) qs), Ast.all (rowAs (fs.take k) qs)]) (fun _ i _ => fs.length - (intOf i).toNat)
  case atStart => exact ⟨0, [], _, _, Nat.zero_le _, rfl, rfl, rfl, (St.all (l := [_]) [] H).perm (List.Perm.swap _ _ _)⟩
  case round =>
    clear H
    obtain ⟨k, qs, A1, c1, hk, rfl, rfl, HL, H⟩ := hrel
    by_cases hlt : k < fs.length
    · obtain ⟨ad, hA, hc⟩ := hx.cell H hlt
      simp only at hA hc
      subst hA
      have hsk := HS.out k hlt
      have hr := hx.row k hlt
      simp only at hr
      have hcell : ∀ {W : World} {l : List Ast}, St w [] W l → W.cell? (ad.add k) = some (.slice (slAt r k).A (rwAt fs k).length (slAt r k).c) := fun H' => by
        obtain ⟨ad', h1, h2⟩ := hx.cell H' hlt
        injection h1 with h1; subst h1; exact h2
      clear hx hc
      go_wp2_with (first | ((with_reducible refine g_load rfl ?_); refine ev_load_in_one rfl rfl rfl (oneT rfl) (hcell H) ?_) | ((with_reducible refine g_buildSlice rfl ?_); refine ev_buildSlice0 H rfl rfl Tryz.underlying25 info_int ?_; intro g_ W_ H_; (clear H; have H := H_; clear H_)) | ((with_reducible refine g_append rfl ?_); refine ev_appendN (N := (rwAt fs k).length) (cs' := nums (rwAt fs k)) H rfl rfl Tryz.underlying25 info_int rfl (by decide) rfl rfl (by (repeat (first | (with_reducible exact Pick.here) | (with_reducible apply Pick.there)))) (hr.on H).in (hr.none) (by rw [nums_length]; omega) (nums_one' _) (by omega) (by unfold maxLen; omega) (Nat.zero_add _) (List.nil_append _) ?_; intro Ai_ ci_ W_ H_; (clear H; have H := H_; clear H_)) | ((with_reducible refine g_buildSlice rfl ?_); refine ev_buildSlice1 (v := .slice _ _ _) H rfl rfl rfl Tryz.underlying22 info_ints (fill_sl _ _ _) rfl (by decide) (by decide) (by decide) ?_; intro g_ W_ H_; (clear H; have H := H_; clear H_)) | ((with_reducible refine g_append rfl ?_); refine ev_appendN (xs := rowVals (fs.take k) qs) (news := [.slice (Sl.mk Ai_ ci_).A (rwAt fs k).length (Sl.mk Ai_ ci_).c]) (N := k + 1) (cs' := rowVals (fs.take (k + 1)) (qs ++ [(Sl.mk Ai_ ci_)])) H rfl rfl Tryz.underlying22 info_ints rfl (by decide) rfl rfl (by (repeat (first | (with_reducible exact Pick.here) | (with_reducible apply Pick.there)))) (own_in (H.get (by (repeat (first | (with_reducible exact Pick.here) | (with_reducible apply Pick.there)))))) (fun h => by cases h) rfl rfl (by omega) (by unfold maxLen; omega) (by omega) (by rw [take_succ_rw hlt]; exact rowVals_more (by have := HL.out; simp; omega)) ?_; intro A_ c_ W_ H_; (clear H; have H := H_; clear H_)))
      go_roundw
      case rel =>
        refine ⟨k + 1, qs ++ [(Sl.mk Ai_ ci_)], A_, c_, by omega, by go_num, by go_num, Lib.hid (by rw [List.length_append, HL.out]; rfl), ?_⟩
        have h1 := H.picks (xs := [intsA (Sl.mk Ai_ ci_) (rwAt fs k), Ast.all (rowAs (fs.take k) qs), Ast.own 25 1 A_ (k + 1) c_ (rowVals (fs.take (k + 1)) (qs ++ [(Sl.mk Ai_ ci_)]))]) (by (repeat (first | (with_reducible exact Picks.nil) | (with_reducible exact Pick.here) | (with_reducible apply Pick.there) | (with_reducible apply Picks.cons))))
        have h2 := St.join (l2 := []) (l1 := rowAs (fs.take k) qs) (x := intsA (Sl.mk Ai_ ci_) (rwAt fs k)) (by rw [List.append_nil]; exact h1)
        have h3 : rowAs (fs.take (k + 1)) (qs ++ [(Sl.mk Ai_ ci_)]) = rowAs (fs.take k) qs ++ [intsA (Sl.mk Ai_ ci_) (rwAt fs k)] := by rw [take_succ_rw hlt, rowAs_append _ _ _ _ (by have := HL.out; simp; omega)]; rfl
        rw [h3]
        simp only [List.append_eq, List.cons_append, List.nil_append] at h2
        exact h2.take (by (repeat (first | (with_reducible exact Picks.nil) | (with_reducible exact Pick.here) | (with_reducible apply Pick.there) | (with_reducible apply Picks.cons))))
      case measure => simp [intOf]; omega
    · go_wp2
      go_ret
      have hkn : k = fs.length := by omega
      subst hkn
      simp only [List.take_length] at H
      exact ⟨⟨⟨A1, c1⟩, qs⟩, rfl, (St.frShut (q := ⟨⟨A1, c1⟩, qs⟩) H HL.out.symm (by (repeat (first | (with_reducible exact Picks.nil) | (with_reducible exact Pick.here) | (with_reducible apply Pick.there) | (with_reducible apply Picks.cons))))).take (Picks.cons Pick.here Picks.nil)⟩
end Go.Proofs.YtjgggmcnbdjdjaaGreat.C
