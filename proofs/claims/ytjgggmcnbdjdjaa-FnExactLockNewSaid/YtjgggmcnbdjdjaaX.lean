/- Rows of rows that are copied and grow. (written by xgen.py) -/
import Derived.Test.YtjgggmcnbdjdjaaW2
import Derived.Test.YtjgggmcnbdjdjaaQ4
import Derived.Test.YtjgggmcnbdjdjaaV2
namespace Go.Proofs.Ytjgggmcnbdjdjaa.C
open Go.RowKit Go.Proofs.Ytjgggmcnbdjdjaa.K Go.Proofs.Ytjgggmcnbdjdjaa.B
attribute [local go_sem] max2_int min2_int max_two min_two i64_and255 i64_and65535 i64_and1
set_option maxRecDepth 20000
set_option linter.unusedVariables false
set_option linter.unusedSimpArgs false
/-- Rows of rows of the program's own. -/
def frA (q : Rw) (fs : List (List Int)) : Ast := Ast.all [Ast.pure (fs.length = q.r.length), Ast.own 25 1 q.s.A fs.length q.s.c (rowVals fs q.r), Ast.all (rowAs fs q.r)]
theorem frA_fp (q : Rw) (fs : List (List Int)) : (rowsA q fs).fp = (frA q fs).fp := by simp [rowsA, frA, outA, Ast.all, Ast.pure]
theorem rowsA_ofFr {w : World} {q : Rw} {fs : List (List Int)} (h : (frA q fs).p w) : (rowsA q fs).p w := by
  intro a ha
  simp only [List.mem_cons, List.not_mem_nil, or_false] at ha
  rcases ha with rfl | rfl
  · exact h (Ast.own 25 1 q.s.A fs.length q.s.c (rowVals fs q.r)) (by simp)
  · exact h _ (by simp)
theorem InRR.ofFr {w : World} {q : Rw} {fs : List (List Int)} (h : (frA q fs).p w) : InRR w q fs := InRR.of (rowsA_ofFr h)
theorem frA_len {w : World} {q : Rw} {fs : List (List Int)} (h : (frA q fs).p w) : fs.length = q.r.length := h (Ast.pure (fs.length = q.r.length)) (by simp)
/-- They are opened. -/
theorem St.frOpen {w0 W : World} {S : List Nat} {l l' : List Ast} {q : Rw} {fs : List (List Int)} (h : St w0 S W l) (k : Pick (frA q fs) l l') : St w0 S W ([Ast.pure (fs.length = q.r.length), Ast.own 25 1 q.s.A fs.length q.s.c (rowVals fs q.r), Ast.all (rowAs fs q.r)] ++ l') := h.unpack k
theorem St.frShut {w0 W : World} {S : List Nat} {l l' : List Ast} {q : Rw} {fs : List (List Int)} (h : St w0 S W l) (hl : fs.length = q.r.length) (k : Picks [Ast.own 25 1 q.s.A fs.length q.s.c (rowVals fs q.r), Ast.all (rowAs fs q.r)] l l') : St w0 S W (frA q fs :: l') :=
  St.all (l1 := [Ast.pure (fs.length = q.r.length), Ast.own 25 1 q.s.A fs.length q.s.c (rowVals fs q.r), Ast.all (rowAs fs q.r)]) (St.addFree (h.picks k) rfl hl)
/-- One row more. -/
theorem St.frMore {w0 W : World} {S : List Nat} {l l' : List Ast} {qs : List Sl} {fs ff : List (List Int)} {fr : List Int} {qf : Sl} {A : Option Addr} {c : Nat} (h : St w0 S W l) (hl : fs.length = qs.length) (hf : ff = fs ++ [fr])
    (k : Picks [Ast.own 25 1 A ff.length c (rowVals ff (qs ++ [qf])), intsA qf fr, Ast.all (rowAs fs qs)] l l') : St w0 S W (frA ⟨⟨A, c⟩, qs ++ [qf]⟩ ff :: l') := by
  have h1 := h.picks k
  have h2 : St w0 S W ([intsA qf fr, Ast.all (rowAs fs qs), Ast.own 25 1 A ff.length c (rowVals ff (qs ++ [qf]))] ++ l') := h1.perm (by simpa using (List.perm_append_comm (l₁ := [Ast.own 25 1 A ff.length c (rowVals ff (qs ++ [qf]))]) (l₂ := [intsA qf fr, Ast.all (rowAs fs qs)])).append_right l')
  have h3 : St w0 S W (Ast.all (rowAs fs qs ++ [intsA qf fr]) :: ([Ast.own 25 1 A ff.length c (rowVals ff (qs ++ [qf]))] ++ l')) := St.join (l2 := []) (l1 := rowAs fs qs) (x := intsA qf fr) (by rw [List.append_nil]; exact h2)
  have h4 : rowAs ff (qs ++ [qf]) = rowAs fs qs ++ [intsA qf fr] := by rw [hf, rowAs_append _ _ _ _ hl]; rfl
  rw [← h4] at h3
  exact St.frShut (q := ⟨⟨A, c⟩, qs ++ [qf]⟩) h3 (by rw [hf]; simp [hl]) (Picks.cons (.there .here) (Picks.cons .here .nil))
theorem rowVals_more {fs : List (List Int)} {qs : List Sl} {fr : List Int} {qf : Sl} (hl : fs.length = qs.length) : rowVals fs qs ++ [.slice qf.A fr.length qf.c] = rowVals (fs ++ [fr]) (qs ++ [qf]) := by rw [rowVals_append _ _ _ _ hl]; rfl
theorem fill_sl (A : Option Addr) (n c : Nat) : Instr.fill (fun i => some (i * 1, 1)) ((Array.range (1 * 1)).map ((Value.cells (.slice none 0 0))[· % (Value.cells (.slice none 0 0)).size]!)) [(0, .slice A n c)] = some [Value.slice A n c].toArray := by
  kernel_rfl
end Go.Proofs.Ytjgggmcnbdjdjaa.C
