/- Words of my own for bundles of what is known of memory, and for rows of rows. -/
import Derived.Test.YtjgggmcnbdjdjaaGreatR2
namespace Go.Proofs.YtjgggmcnbdjdjaaGreat.K
open Go.RowKit
set_option maxRecDepth 20000
set_option linter.unusedVariables false
set_option linter.unusedSimpArgs false
/-- Where a slice lies, and its capacity. -/
structure Sl where (A : Option Addr) (c : Nat)
def Sl.nil : Sl := ⟨none, 0⟩
/-- Where a slice of slices lies, and where its rows lie. -/
structure Rw where (s : Sl) (r : List Sl)
def Rw.nil : Rw := ⟨⟨none, 0⟩, []⟩
abbrev intsA (q : Sl) (xs : List Int) : Ast := Ast.own 3 1 q.A xs.length q.c (nums xs)
/-- Several, as one. -/
def Ast.all (l : List Ast) : Ast where
  fp := l.flatMap Ast.fp
  p w := ∀ a, a ∈ l → a.p w
  st w w' h hp a ha := a.st w w' (fun b hb => h b (List.mem_flatMap.2 ⟨a, ha, hb⟩)) (hp a ha)
  lv w hp b hb := by
    obtain ⟨a, ha, hb⟩ := List.mem_flatMap.1 hb
    exact a.lv w (hp a ha) b hb
theorem St.all {w0 W : World} {S : List Nat} (l1 : List Ast) {l : List Ast} (h : St w0 S W (l1 ++ l)) : St w0 S W (Ast.all l1 :: l) := by
  refine ⟨h.os, h.tape, h.output, h.size, h.block, fun a ha => ?_, ?_, fun a ha b hb => ?_⟩
  · rcases List.mem_cons.1 ha with rfl | ha
    · exact fun x hx => h.hp x (List.mem_append_left _ hx)
    · exact h.hp a (List.mem_append_right _ ha)
  · have := h.nd
    rw [List.flatMap_append] at this
    exact this
  · rcases List.mem_cons.1 ha with rfl | ha
    · obtain ⟨x, hx, hb⟩ := List.mem_flatMap.1 hb
      exact h.own x (List.mem_append_left _ hx) b hb
    · exact h.own a (List.mem_append_right _ ha) b hb
theorem St.opn {w0 W : World} {S : List Nat} {l1 l : List Ast} (h : St w0 S W (Ast.all l1 :: l)) : St w0 S W (l1 ++ l) := by
  refine ⟨h.os, h.tape, h.output, h.size, h.block, fun a ha => ?_, ?_, fun a ha b hb => ?_⟩
  · rcases List.mem_append.1 ha with ha | ha
    · exact h.hp _ List.mem_cons_self a ha
    · exact h.hp a (List.mem_cons_of_mem _ ha)
  · have := h.nd
    rw [List.flatMap_append]
    exact this
  · rcases List.mem_append.1 ha with ha | ha
    · exact h.own _ List.mem_cons_self b (List.mem_flatMap.2 ⟨a, ha, hb⟩)
    · exact h.own a (List.mem_cons_of_mem _ ha) b hb
theorem St.toEnd {w0 W : World} {S : List Nat} {a : Ast} {l : List Ast} (h : St w0 S W (a :: l)) : St w0 S W (l ++ [a]) := h.perm (List.perm_append_singleton a l).symm
theorem St.toSnd {w0 W : World} {S : List Nat} {a b : Ast} {l : List Ast} (h : St w0 S W (a :: b :: l)) : St w0 S W (b :: a :: l) := h.perm (List.Perm.swap _ _ _)
/-- Of what is picked one bundle is made. -/
theorem St.pack {w0 W : World} {S : List Nat} {l1 l l' : List Ast} (h : St w0 S W l) (k : Picks l1 l l') : St w0 S W (Ast.all l1 :: l') := St.all l1 (h.picks k)
/-- A bundle is opened. -/
theorem St.unpack {w0 W : World} {S : List Nat} {l1 l l' : List Ast} (h : St w0 S W l) (k : Pick (Ast.all l1) l l') : St w0 S W (l1 ++ l') := (h.pick k).opn
/-- One is known less of. -/
theorem St.weak {w0 W : World} {S : List Nat} {a b : Ast} {l l' : List Ast} (h : St w0 S W l) (k : Pick a l l') (hf : b.fp = a.fp) (hp : ∀ w, a.p w → b.p w) : St w0 S W (b :: l') := by
  have h1 := h.pick k
  refine ⟨h1.os, h1.tape, h1.output, h1.size, h1.block, fun x hx => ?_, ?_, fun x hx b' hb => ?_⟩
  · rcases List.mem_cons.1 hx with rfl | hx
    · exact hp _ (h1.hp a List.mem_cons_self)
    · exact h1.hp x (List.mem_cons_of_mem _ hx)
  · have := h1.nd
    simpa [hf] using this
  · rcases List.mem_cons.1 hx with rfl | hx
    · exact h1.own a List.mem_cons_self b' (hf ▸ hb)
    · exact h1.own x (List.mem_cons_of_mem _ hx) b' hb
theorem Hol.one {w : World} {a : Ast} (h : a.p w) (nd : a.fp.Nodup) : Hol w [a] := ⟨fun x hx => by rw [List.mem_singleton.1 hx]; exact h, by simpa using nd⟩
theorem all_hol {w : World} {l : List Ast} (h : Hol w [Ast.all l]) : Hol w l := ⟨h.hp _ (List.mem_singleton.2 rfl), by have := h.nd; simpa [Ast.all] using this⟩
theorem hol_all {w : World} {l : List Ast} (h : Hol w l) : Hol w [Ast.all l] := ⟨fun x hx => by rw [List.mem_singleton.1 hx]; exact h.hp, by have := h.nd; simpa [Ast.all] using this⟩
theorem InI.ofS {w : World} {q : Sl} {xs : List Int} (h : (intsA q xs).p w) : InI w q.A q.c xs := InI.of h
theorem InI.nil (w : World) : InI w none 0 [] := ⟨Nat.le_refl _, by simp, fun h => absurd h (by simp)⟩
theorem InI.nilS (w : World) : InI w Sl.nil.A Sl.nil.c [] := InI.nil w
theorem InI.in {w : World} {A : Option Addr} {c : Nat} {xs : List Int} (h : InI w A c xs) : In w A (nums xs) := by
  intro j v hj
  have hl : j < xs.length := by have := (List.getElem?_eq_some_iff.1 hj).1; simpa [nums] using this
  obtain ⟨ad, h1, h2⟩ := h.2.2 (by omega)
  refine ⟨ad, h1, ?_⟩
  rw [nums_at hl] at hj
  injection hj with hj
  rw [← hj]; exact h2 j hl

theorem InI.none {w : World} {A : Option Addr} {c : Nat} {xs : List Int} (h : InI w A c xs) : A = Option.none → xs.length = 0 := fun e => by
  rcases Nat.eq_zero_or_pos xs.length with h0 | h0
  · exact h0
  · obtain ⟨ad, h1, _⟩ := h.2.2 h0
    rw [e] at h1; cases h1
theorem nums_one' (xs : List Int) : (nums xs).all (·.oneCell') = true := by
  rw [List.all_eq_true]
  intro v hv
  obtain ⟨x, _, rfl⟩ := List.mem_map.1 hv
  rfl

/-! ## rows of rows -/
def rwAt (rs : List (List Int)) (k : Nat) : List Int := rs.getD k []
def slAt (qs : List Sl) (k : Nat) : Sl := qs.getD k Sl.nil
theorem rwAt_at {rs : List (List Int)} {k : Nat} (h : k < rs.length) : rwAt rs k = rs[k] := by simp [rwAt, List.getD_eq_getElem?_getD, List.getElem?_eq_getElem h]
theorem slAt_at {qs : List Sl} {k : Nat} (h : k < qs.length) : slAt qs k = qs[k] := by simp [slAt, List.getD_eq_getElem?_getD, List.getElem?_eq_getElem h]
def rowVals (rs : List (List Int)) (qs : List Sl) : List Value := List.zipWith (fun xs q => .slice q.A xs.length q.c) rs qs
theorem rowVals_length (rs : List (List Int)) (qs : List Sl) (h : rs.length ≤ qs.length) : (rowVals rs qs).length = rs.length := by simp [rowVals]; omega
theorem rowVals_at {rs : List (List Int)} {qs : List Sl} {k : Nat} (h : k < rs.length) (hq : rs.length ≤ qs.length) : (rowVals rs qs)[k]? = some (.slice (slAt qs k).A (rwAt rs k).length (slAt qs k).c) := by
  have hk : k < qs.length := by omega
  simp [rowVals, List.getElem?_zipWith, List.getElem?_eq_getElem h, List.getElem?_eq_getElem hk, rwAt_at h, slAt_at hk]
theorem rowVals_one (rs : List (List Int)) (qs : List Sl) : (rowVals rs qs).all (·.oneCell') = true := by
  rw [List.all_eq_true]
  intro v hv
  obtain ⟨j, hj⟩ := List.getElem?_of_mem hv
  simp only [rowVals, List.getElem?_zipWith] at hj
  split at hj <;> simp at hj
  subst hj; rfl
theorem rowVals_append (rs rs' : List (List Int)) (qs qs' : List Sl) (h : rs.length = qs.length) : rowVals (rs ++ rs') (qs ++ qs') = rowVals rs qs ++ rowVals rs' qs' := by
  simp [rowVals, List.zipWith_append h]
/-- The rows alone. -/
def rowAs (rs : List (List Int)) (qs : List Sl) : List Ast := List.zipWith (fun xs q => intsA q xs) rs qs
theorem rowAs_append (rs rs' : List (List Int)) (qs qs' : List Sl) (h : rs.length = qs.length) : rowAs (rs ++ rs') (qs ++ qs') = rowAs rs qs ++ rowAs rs' qs' := by
  simp [rowAs, List.zipWith_append h]
theorem rowAs_at {rs : List (List Int)} {qs : List Sl} {k : Nat} (h : k < rs.length) (hq : rs.length ≤ qs.length) : intsA (slAt qs k) (rwAt rs k) ∈ rowAs rs qs := by
  have hk : k < qs.length := by omega
  refine List.mem_of_getElem? (i := k) ?_
  simp [rowAs, List.getElem?_zipWith, List.getElem?_eq_getElem h, List.getElem?_eq_getElem hk, rwAt_at h, slAt_at hk]
def outA (q : Rw) (rs : List (List Int)) : Ast := Ast.own 25 1 q.s.A rs.length q.s.c (rowVals rs q.r)
def rowsA (q : Rw) (rs : List (List Int)) : Ast := Ast.all [outA q rs, Ast.all (rowAs rs q.r)]
/-- A slice of slices reads as rs. -/
structure InRR (w : World) (q : Rw) (rs : List (List Int)) : Prop where
  le : rs.length ≤ q.s.c
  mx : rs.length ≤ 9223372036854775807
  len : rs.length ≤ q.r.length
  out : In w q.s.A (rowVals rs q.r)
  row : ∀ k, k < rs.length → InI w (slAt q.r k).A (slAt q.r k).c (rwAt rs k)
theorem InI.keep {w W : World} {A : Option Addr} {c : Nat} {xs : List Int} (h : InI w A c xs) (hb : Below w.heap.size w W) : InI W A c xs :=
  ⟨h.1, h.2.1, fun hn => by
    obtain ⟨ad, h1, h2⟩ := h.2.2 hn
    exact ⟨ad, h1, fun j hj => (hb.cell (World.block_lt_of_cell? _ _ (h2 j hj))).trans (h2 j hj)⟩⟩
theorem InRR.keep {w W : World} {q : Rw} {rs : List (List Int)} (h : InRR w q rs) (hb : Below w.heap.size w W) : InRR W q rs := ⟨h.le, h.mx, h.len, h.out.keep hb, fun k hk => (h.row k hk).keep hb⟩
theorem InRR.on {w0 W : World} {q : Rw} {rs : List (List Int)} (h : InRR w0 q rs) {l : List Ast} (H : St w0 [] W l) : InRR W q rs := h.keep H.below
theorem InRR.nil (w : World) : InRR w Rw.nil [] := ⟨Nat.le_refl _, by simp, Nat.le_refl _, In.nil _ _, fun k hk => absurd hk (by simp)⟩
theorem InRR.cell {w0 W : World} {q : Rw} {rs : List (List Int)} (h : InRR w0 q rs) {l : List Ast} (H : St w0 [] W l) {k : Nat} (hk : k < rs.length) :
    ∃ ad, q.s.A = some ad ∧ W.cell? (ad.add k) = some (.slice (slAt q.r k).A (rwAt rs k).length (slAt q.r k).c) := by
  obtain ⟨ad, h1, h2⟩ := (h.on H).out k _ (rowVals_at hk h.len)
  exact ⟨ad, h1, h2⟩
theorem InRR.of {w : World} {q : Rw} {rs : List (List Int)} (h : (rowsA q rs).p w) : InRR w q rs := by
  have h1 : (outA q rs).p w := h _ (by simp)
  have h2 : (Ast.all (rowAs rs q.r)).p w := h _ (by simp)
  have hl : rs.length ≤ q.r.length := by
    rcases own_form h1 with ⟨_, h0, _, _⟩ | ⟨g, cur, _, _, _, _, _, _, h6⟩
    · omega
    · simp [rowVals] at h6; omega
  exact ⟨(own_le h1).1, (own_le h1).2, hl, own_in h1, fun k hk => InI.ofS (h2 _ (rowAs_at hk hl))⟩
theorem info_ints : (Tryz.prog.info? 25).map (fun i => (i.zero, i.size, i.bytes)) = some (some (.slice none 0 0), 1, 24) := by kernel_rfl
end Go.Proofs.YtjgggmcnbdjdjaaGreat.K
