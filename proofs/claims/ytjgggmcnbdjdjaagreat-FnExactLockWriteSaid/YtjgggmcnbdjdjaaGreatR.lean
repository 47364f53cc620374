/- Words of my own for rows: slices of the program's own, whole numbers read and written in them. -/
import Derived.Test.YtjgggmcnbdjdjaaGreatH
import Derived.Laws.OwnMore
import Derived.Laws.MakeOwn
import Derived.Deep.AppendLies
namespace Go.Proofs.YtjgggmcnbdjdjaaGreat.K
open Go.RowKit
set_option maxRecDepth 20000
set_option linter.unusedVariables false
set_option linter.unusedSimpArgs false

/-- n elements (of type T, sz cells each) lie at the head of a block of their own; their cells are xs. -/
def Ast.own (T : TypeId) (sz : Nat) (A : Option Addr) (n c : Nat) (xs : List Value) : Ast where
  fp := (A.map (·.block)).toList
  p w := w.ownsRow 0 T sz (.slice A n c) n xs
  st w w' h hp := by
    refine ⟨hp.1, ?_⟩
    rcases hp.2 with h0 | ⟨g, cap, cur, hv, hb, hh, r⟩
    · exact .inl h0
    · have hv' := hv
      injection hv' with ha _ _
      subst ha
      exact .inr ⟨g, cap, cur, hv, hb, (h g (by simp)).trans hh, r⟩
  lv w hp b hb := by
    rcases hp.2 with ⟨hv, _⟩ | ⟨g, cap, cur, hv, _, hh, r⟩
    · injection hv with ha _ _
      subst ha
      simp at hb
    · injection hv with ha _ _
      subst ha
      simp at hb
      subst hb
      exact (Array.getElem?_eq_some_iff.1 hh).1

/-- An element of a row (0 beyond its end). -/
def rd (xs : List Int) (i : Nat) : Int := xs.getD i 0
theorem rd_at {xs : List Int} {i : Nat} (h : i < xs.length) : rd xs i = xs[i] := by simp [rd, List.getD_eq_getElem?_getD, List.getElem?_eq_getElem h]
theorem rd_ext {xs ys : List Int} (h : xs.length = ys.length) (hr : ∀ j, j < xs.length → rd xs j = rd ys j) : xs = ys := by
  refine List.ext_getElem h fun j h1 h2 => ?_
  have := hr j h1
  rwa [rd_at h1, rd_at h2] at this
def nums (xs : List Int) : List Value := xs.map (Value.int .i64)
theorem nums_length (xs : List Int) : (nums xs).length = xs.length := by simp [nums]
theorem nums_append (xs ys : List Int) : nums (xs ++ ys) = nums xs ++ nums ys := by simp [nums]
theorem nums_one (x : Int) : nums [x] = [.int .i64 x] := rfl
theorem nums_at {xs : List Int} {i : Nat} (h : i < xs.length) : (nums xs)[i]? = some (.int .i64 (rd xs i)) := by
  simp [nums, List.getElem?_eq_getElem h, rd_at h]
theorem nums_set (xs : List Int) (i : Nat) (v : Int) (h : i < xs.length) : (nums xs).take i ++ [.int .i64 v] ++ (nums xs).drop (i + 1) = nums (xs.set i v) := by
  rw [List.set_eq_take_append_cons_drop, if_pos h]
  simp [nums, List.map_take, List.map_drop]
abbrev Ast.ints (A : Option Addr) (c : Nat) (xs : List Int) : Ast := Ast.own 3 1 A xs.length c (nums xs)

/-- The form of what is owned. -/
theorem own_form {T : TypeId} {sz : Nat} {A : Option Addr} {n c : Nat} {xs : List Value} {w : World} (h : (Ast.own T sz A n c xs).p w) :
    (A = none ∧ n = 0 ∧ c = 0 ∧ xs = []) ∨ ∃ g cur, A = some ⟨g, 0, none⟩ ∧ w.heap[g]? = some (.cells cur T (0, 0)) ∧ n ≤ c ∧ c ≤ maxLen ∧ cur.size = c * sz ∧ cur.toList.take (n * sz) = xs ∧ xs.length = n * sz := by
  have h1 := h.1
  rcases h.2 with ⟨hv, hn⟩ | ⟨g, cap, cur, hv, _, hh, h2, h3, h4, h5⟩
  · injection hv with ha _ hc
    subst hn
    exact .inl ⟨ha, rfl, hc, List.eq_nil_of_length_eq_zero (by omega)⟩
  · injection hv with ha _ hc
    subst hc
    exact .inr ⟨g, cur, ha, hh, h2, h3, h4, h5, h1⟩
theorem own_mk {T : TypeId} {sz g n c : Nat} {xs : List Value} {cur : Array Value} {w : World} (hh : w.heap[g]? = some (.cells cur T (0, 0))) (h1 : n ≤ c) (h2 : c ≤ maxLen) (h3 : cur.size = c * sz) (h4 : cur.toList.take (n * sz) = xs) :
    (Ast.own T sz (some ⟨g, 0, none⟩) n c xs).p w := by
  refine ⟨?_, .inr ⟨g, c, cur, rfl, Nat.zero_le _, hh, h1, h2, h3, h4⟩⟩
  rw [← h4, List.length_take, Array.length_toList, h3]
  exact Nat.min_eq_left (Nat.mul_le_mul_right _ h1)
theorem own_le {T : TypeId} {sz : Nat} {A : Option Addr} {n c : Nat} {xs : List Value} {w : World} (h : (Ast.own T sz A n c xs).p w) : n ≤ c ∧ n ≤ 9223372036854775807 := by
  rcases own_form h with ⟨_, h1, h2, _⟩ | ⟨g, cur, _, _, h1, h2, _⟩
  · omega
  · unfold maxLen at h2; omega
theorem own_cell {T : TypeId} {sz : Nat} {A : Option Addr} {n c : Nat} {xs : List Value} {w : World} (h : (Ast.own T sz A n c xs).p w) {j : Nat} (hj : j < xs.length) :
    ∃ g, A = some ⟨g, 0, none⟩ ∧ w.cell? ⟨g, j, none⟩ = some xs[j] ∧ w.frozen? ⟨g, j, none⟩ = false := by
  rcases own_form h with ⟨_, _, _, h4⟩ | ⟨g, cur, hA, hh, h1, h2, h3, h4, h5⟩
  · subst h4; cases hj
  · refine ⟨g, hA, ?_, by simp [World.frozen?, hh]⟩
    subst h4
    simp only [List.getElem_take, Array.getElem_toList]
    rw [cell_of_row w g j cur T (0, 0) hh]
    exact Array.getElem?_eq_getElem _
theorem ints_cell {A : Option Addr} {c : Nat} {xs : List Int} {w : World} (h : (Ast.ints A c xs).p w) {j : Nat} (hj : j < xs.length) :
    ∃ g, A = some ⟨g, 0, none⟩ ∧ w.cell? ⟨g, j, none⟩ = some (.int .i64 (rd xs j)) := by
  obtain ⟨g, h1, h2, _⟩ := own_cell h (j := j) (by rw [nums_length]; exact hj)
  refine ⟨g, h1, h2.trans ?_⟩
  simp [nums, rd_at hj]

/-! ## slices that came in -/
/-- A slice of whole numbers reads as xs. -/
def InI (w : World) (A : Option Addr) (c : Nat) (xs : List Int) : Prop :=
  xs.length ≤ c ∧ xs.length ≤ 9223372036854775807 ∧ (0 < xs.length → ∃ ad, A = some ad ∧ ∀ j, j < xs.length → w.cell? (ad.add j) = some (.int .i64 (rd xs j)))
theorem InI.cell {w0 W : World} {A : Option Addr} {c : Nat} {xs : List Int} (h : InI w0 A c xs) {l : List Ast} (H : St w0 [] W l) {j : Nat} (hj : j < xs.length) :
    ∃ ad, A = some ad ∧ W.cell? (ad.add j) = some (.int .i64 (rd xs j)) := by
  obtain ⟨ad, h1, h2⟩ := h.2.2 (by omega)
  have h3 := h2 j hj
  exact ⟨ad, h1, (H.below.cell (World.block_lt_of_cell? _ _ h3)).trans h3⟩
theorem InI.on {w0 W : World} {A : Option Addr} {c : Nat} {xs : List Int} (h : InI w0 A c xs) {l : List Ast} (H : St w0 [] W l) : InI W A c xs :=
  ⟨h.1, h.2.1, fun hn => by
    obtain ⟨ad, h1, h2⟩ := h.2.2 hn
    exact ⟨ad, h1, fun j hj => (H.below.cell (World.block_lt_of_cell? _ _ (h2 j hj))).trans (h2 j hj)⟩⟩
theorem InI.of {w : World} {A : Option Addr} {c : Nat} {xs : List Int} (h : (Ast.ints A c xs).p w) : InI w A c xs := by
  refine ⟨(own_le h).1, (own_le h).2, fun hn => ?_⟩
  obtain ⟨g, h1, _⟩ := ints_cell h hn
  refine ⟨_, h1, fun j hj => ?_⟩
  obtain ⟨g', h3, h4⟩ := ints_cell h hj
  have : g = g' := by rw [h1] at h3; injection h3 with h3; injection h3
  subst this
  rw [Addr.add_mid, Nat.zero_add]
  exact h4

/-! ## the operations on rows -/
section
variable {P : Program} {ops : Array Oper} {rest : List Oper} {o : Oper} {a : Act} {Q : Exit → Act → World → Prop} {w0 W : World} {S : List Nat} {l l' : List Ast}
/-- A store into a row of the program's own. -/
theorem ev_store_own (H : St w0 S W l) (hgd : Region.wanted o (yielded ops a.tmps) = true) {T : TypeId} {x y : Operand} (ho : o.op = .store T x y) {g off n m c sz : Nat} (hx : a.eval x = .pointer (some ⟨g, off, none⟩)) {v : Value} {cs cs' vs : List Value} {U : TypeId} (hy : a.eval y = v) (hv : v.cells = vs.toArray)
    (hk : Pick (Ast.own U sz (some ⟨g, 0, none⟩) m c cs) l l') (hT : (P.info? T).map (·.size) = some n) (hn : vs.length = n) (hl : off + n ≤ cs.length) (h1 : vs.all (·.oneCell') = true) (hcs : cs.take off ++ vs ++ cs.drop (off + n) = cs')
    (h : ∀ W1, St w0 S W1 (Ast.own U sz (some ⟨g, 0, none⟩) m c cs' :: l') → wpList P ops Q rest (a.put o.dst undef) W1) : wpList P ops Q (o :: rest) a W := by
  subst hcs
  rcases own_form (H.get hk) with ⟨h0, _⟩ | ⟨g', cur, hA, hh, h2, h3, h4, h5, h6⟩
  · cases h0
  · have : g = g' := by injection hA with hA; injection hA
    subst this
    have hlen : cs.length ≤ cur.size := by rw [← h5, List.length_take, Array.length_toList]; omega
    have hrun := run_store_at (P := P) (W := W) (v := v) (cs := cur.toList) hT (by simpa using hh) (by rw [hv]; simpa using hn) (by rw [Array.length_toList]; exact Nat.le_trans hl hlen) (by rw [hv]; exact h1) rfl
    refine ev_skip (W1 := W.setRow g (cur.toList.take off ++ v.cells.toList ++ cur.toList.drop (off + n)).toArray) hgd ?_ (h _ ?_)
    · unfold execOp
      simp only [ho, hx, hy, Instr.storeAt, Instr.sureAddr, Sem.run_bind, Sem.run_pure, Result.andThen_ok, hrun]
    · refine St.callS (t := [Ast.own U sz (some ⟨g, 0, none⟩) m c cs]) (S1 := [g]) (l1 := [Ast.own U sz (some ⟨g, 0, none⟩) m c _]) (H.pick hk) ⟨rfl, rfl, rfl, by simp [World.setRow], fun i _ hi => ?_, fun a ha => ?_, by simp [Ast.own], fun a ha b hb => ?_⟩ (by simp [Ast.own])
      · show (W.heap.modify g _)[i]? = _
        rw [Array.getElem?_modify, if_neg (by simpa using fun e => hi (by simp [e]))]
      · rw [List.mem_singleton.1 ha]
        refine own_mk (setRow_heap W g _ _ U _ hh) h2 h3 ?_ ?_
        · simp [hv, hn]; omega
        · rw [← h5]
          have e1 : off + n ≤ m * sz := by omega
          simp only [hv, List.take_append, List.length_take, List.length_append, Array.length_toList, List.take_take, List.drop_take]
          rw [show min (m * sz) off = off by omega, show min off (m * sz) = off by omega, show min off cur.size = off by omega]
          rw [List.take_of_length_le (l := vs) (by omega)]
          congr 2
          omega
      · rw [List.mem_singleton.1 ha] at hb; exact .inl (by simpa [Ast.own] using hb)
theorem g_make {T : TypeId} {x y : Operand} (_ho : o.op = .makeSlice T x y) (h : wpList P ops Q (o :: rest) a W) : wpList P ops Q (o :: rest) a W := h
/-- make([]T, n) -/
theorem ev_make (H : St w0 S W l) (hgd : Region.wanted o (yielded ops a.tmps) = true) {t e : TypeId} {x y : Operand} (ho : o.op = .makeSlice t x y) {n sz bytes : Nat} {z : Value} (h1 : P.underlying t = some (.slice e)) (h2 : (P.info? e).map (fun i => (i.zero, i.size, i.bytes)) = some (some z, sz, bytes))
    {L C : Int} (hl : a.eval x = .int .i64 L) (hc : a.eval y = .int .i64 C) (hL : L = (n : Int)) (hC : C = (n : Int)) (b2 : bytes * n ≤ 281474976710656) (b3 : n ≤ 281474976710656)
    (h : ∀ g W1, St w0 S W1 (Ast.own e sz (some ⟨g, 0, none⟩) n n (madeCells z.cells (n * sz)).toList :: l) → wpList P ops Q rest (a.put o.dst (.slice (some ⟨g, 0, none⟩) n n)) W1) : wpList P ops Q (o :: rest) a W := by
  obtain ⟨i, hi, hz, hs, hb⟩ := info_parts h2
  subst hL; subst hC
  obtain ⟨w', hrun, r1, r2⟩ := run_make_full (P := P) W 0 t e i z sz h1 hi hz hs .i64 .i64 n (by rw [hb]; exact b2) (by unfold maxLen; omega) (Nat.zero_le _)
  have hK : St W [] w' [Ast.own e sz (some ⟨W.heap.size, 0, none⟩) n n (madeCells z.cells (n * sz)).toList] :=
    ⟨r2.os, r2.tape, r2.output, r2.size, fun k hk _ => r2.block k hk (by simp), fun a ha => by rw [List.mem_singleton.1 ha]; exact r1, by simp [Ast.own], fun a ha b hb => by
      rw [List.mem_singleton.1 ha] at hb
      simp [Ast.own] at hb
      exact .inr (by omega)⟩
  refine ev_run (W1 := w') hgd ?_ (h _ _ (H.call hK))
  unfold execOp
  simp [ho, hl, hc, hrun]
theorem made_nums (n : Nat) : (madeCells (Value.cells (.int .i64 0)) (n * 1)).toList = nums (List.replicate n 0) := by
  have := toList_madeCells_one (.int .i64 0) n
  rw [Nat.mul_one]
  exact this.trans (by simp [nums])
end
theorem info_int : (Tryz.prog.info? 3).map (fun i => (i.zero, i.size, i.bytes)) = some (some (.int .i64 0), 1, 8) := by kernel_rfl
end Go.Proofs.YtjgggmcnbdjdjaaGreat.K
