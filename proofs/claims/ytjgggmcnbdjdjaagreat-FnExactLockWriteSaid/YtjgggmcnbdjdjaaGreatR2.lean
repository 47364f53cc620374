/- Words of my own for rows of whatever element: read, written, appended to, copied, cut. -/
import Derived.Test.YtjgggmcnbdjdjaaGreatR
import Derived.Great.BuildSlice
import Derived.Deep.Slices
import Derived.Maps.AppendAt
namespace Go.Proofs.YtjgggmcnbdjdjaaGreat.K
open Go.RowKit
set_option maxRecDepth 20000
set_option linter.unusedVariables false
set_option linter.unusedSimpArgs false

/-- The cells that a slice reads as. -/
def In (w : World) (A : Option Addr) (cs : List Value) : Prop := ∀ (j : Nat) (v : Value), cs[j]? = some v → ∃ ad, A = some ad ∧ w.cell? (ad.add j) = some v
theorem In.keep {w W : World} {A : Option Addr} {cs : List Value} (h : In w A cs) (hb : Below w.heap.size w W) : In W A cs := fun j v hj => by
  obtain ⟨ad, h1, h2⟩ := h j v hj
  exact ⟨ad, h1, (hb.cell (World.block_lt_of_cell? _ _ h2)).trans h2⟩
theorem In.on {w0 W : World} {A : Option Addr} {cs : List Value} (h : In w0 A cs) {l : List Ast} (H : St w0 [] W l) : In W A cs := h.keep H.below
theorem In.nil (w : World) (A : Option Addr) : In w A [] := fun j v hj => by simp at hj
/-- Where it lies, if anything is there. -/
theorem In.at {w : World} {A : Option Addr} {cs : List Value} (h : In w A cs) (h0 : 0 < cs.length) : ∃ ad, A = some ad ∧ ∀ (j : Nat) (v : Value), cs[j]? = some v → w.cell? (ad.add j) = some v := by
  obtain ⟨ad, h1, _⟩ := h 0 _ (List.getElem?_eq_getElem h0)
  refine ⟨ad, h1, fun j v hj => ?_⟩
  obtain ⟨ad', h2, h3⟩ := h j v hj
  rw [h1] at h2; injection h2 with h2; subst h2; exact h3
/-- Cells that lie at an address, on blocks that the walk knows or that stood before. -/
def Ast.row (T : TypeId) (A : Option Addr) (cs : List Value) : Ast where
  fp := (A.map (·.block)).toList
  p w := match A with
    | none => cs = []
    | some ad => ad.spot = none ∧ ∃ cur, w.heap[ad.block]? = some (.cells cur T (0, 0)) ∧ ad.off + cs.length ≤ cur.size ∧ (cur.toList.drop ad.off).take cs.length = cs
  st w w' h hp := by
    cases A with
    | none => exact hp
    | some ad =>
      obtain ⟨h1, cur, hh, r⟩ := hp
      exact ⟨h1, cur, (h ad.block (by simp)).trans hh, r⟩
  lv w hp b hb := by
    cases A with
    | none => simp at hb
    | some ad =>
      simp at hb
      subst hb
      obtain ⟨h1, cur, hh, r⟩ := hp
      exact (Array.getElem?_eq_some_iff.1 hh).1
theorem own_row {T : TypeId} {sz : Nat} {A : Option Addr} {n c : Nat} {xs : List Value} {w : World} (h : (Ast.own T sz A n c xs).p w) : (Ast.row T A xs).p w := by
  rcases own_form h with ⟨h1, _, _, h4⟩ | ⟨g, cur, hA, hh, h1, h2, h3, h4, h5⟩
  · subst h1; exact h4
  · subst hA
    refine ⟨rfl, cur, hh, ?_, ?_⟩
    · show 0 + xs.length ≤ cur.size
      rw [h5, h3, Nat.zero_add]; exact Nat.mul_le_mul_right _ h1
    · show (cur.toList.drop 0).take xs.length = xs
      rw [List.drop_zero, h5]; exact h4
theorem row_in {T : TypeId} {A : Option Addr} {cs : List Value} {w : World} (h : (Ast.row T A cs).p w) : In w A cs := by
  intro j v hj
  cases A with
  | none =>
    have h' : cs = [] := h
    subst h'; simp at hj
  | some ad =>
    obtain ⟨h1, cur, hh, h2, h3⟩ := h
    refine ⟨ad, rfl, ?_⟩
    obtain ⟨g, off, spot⟩ := ad
    simp only at h1 hh h2 h3
    subst h1
    rw [Addr.add_mid, cell_of_row w g (off + j) cur T (0, 0) hh]
    have hj' : j < cs.length := (List.getElem?_eq_some_iff.1 hj).1
    rw [← h3, List.getElem?_take, if_pos hj', List.getElem?_drop] at hj
    simpa using hj
theorem own_in {T : TypeId} {sz : Nat} {A : Option Addr} {n c : Nat} {xs : List Value} {w : World} (h : (Ast.own T sz A n c xs).p w) : In w A xs := row_in (own_row h)
/-- A row's tail: what reslicing leaves. -/
theorem row_tail {T : TypeId} {A : Option Addr} {cs : List Value} {w : World} (h : (Ast.row T A cs).p w) {k : Nat} (hk : k ≤ cs.length) {ad : Addr} (hA : A = some ad) : (Ast.row T (some ⟨ad.block, ad.off + k, none⟩) (cs.drop k)).p w := by
  subst hA
  obtain ⟨h1, cur, hh, h2, h3⟩ := h
  refine ⟨rfl, cur, hh, ?_, ?_⟩
  · show ad.off + k + (cs.drop k).length ≤ cur.size
    rw [List.length_drop]; omega
  · show (cur.toList.drop (ad.off + k)).take (cs.drop k).length = cs.drop k
    conv => rhs; rw [← h3]
    rw [List.drop_take, List.drop_drop, List.length_drop]

section
variable {P : Program} {ops : Array Oper} {rest : List Oper} {o : Oper} {a : Act} {Q : Exit → Act → World → Prop} {w0 W : World} {S : List Nat} {l l' : List Ast}
/-- A struct that lies somewhere in a row. -/
theorem ev_load_in_agg (hgd : Region.wanted o (yielded ops a.tmps) = true) {T : TypeId} {x : Operand} (ho : o.op = .load T x) {p : Addr} (hx : a.eval x = .pointer (some p)) {n : Nat} {vs : List Value} (hT : aggOf P T n = true) (hn : vs.length = n)
    (hc : ∀ (j : Nat) (v : Value), vs[j]? = some v → W.cell? (p.add j) = some v) (h : wpList P ops Q rest (a.put o.dst (.agg vs.toArray)) W) : wpList P ops Q (o :: rest) a W := by
  refine ev_run hgd ?_ h
  have hl : (loadCells p vs.length).run P W = .ok vs.toArray W := run_loadCells_list (P := P) W p vs hc
  unfold aggOf at hT
  obtain ⟨h1, h2⟩ := (Bool.and_eq_true _ _).mp hT
  have hagg : (isAgg T).run P W = .ok true W := by
    cases hu : P.underlying T with
    | none => rw [hu] at h1; cases h1
    | some d =>
      rw [hu] at h1
      unfold isAgg
      rw [Sem.run_bind, run_underlying hu W]
      cases d <;> simp_all
  cases hq : P.info? T with
  | none => simp [hq] at h2
  | some i =>
    have hs : i.size = vs.length := by rw [hn]; simpa [hq] using h2
    unfold execOp
    simp [ho, hx, Instr.loadAt, Instr.sureAddr, loadVar, Sem.run_bind, hagg, sizeOf, typeInfo, hq, hs, hl]
/-- One cell that lies somewhere in a row. -/
theorem ev_load_in_one (hgd : Region.wanted o (yielded ops a.tmps) = true) {T : TypeId} {x : Operand} (ho : o.op = .load T x) {p : Addr} (hx : a.eval x = .pointer (some p)) {v : Value} (hT : oneOf P T = true)
    (hc : W.cell? p = some v) (h : wpList P ops Q rest (a.put o.dst v) W) : wpList P ops Q (o :: rest) a W := by
  refine ev_run hgd ?_ h
  unfold oneOf at hT
  obtain ⟨h1, h2⟩ := (Bool.and_eq_true _ _).mp hT
  have hagg : (isAgg T).run P W = .ok false W := by
    cases hu : P.underlying T with
    | none => rw [hu] at h1; cases h1
    | some d =>
      rw [hu] at h1
      unfold isAgg
      rw [Sem.run_bind, run_underlying hu W]
      cases d <;> simp_all
  unfold execOp
  simp [ho, hx, Instr.loadAt, Instr.sureAddr, loadVar, Sem.run_bind, hagg, run_load, hc]
/-- Loads from a block that is known otherwise. -/
theorem ev_load_blk1 {g off : Nat} {cs : List Value} {U : TypeId} (hp : (Ast.blk g cs U).p W) (hgd : Region.wanted o (yielded ops a.tmps) = true) {T : TypeId} {x : Operand} (ho : o.op = .load T x) (hx : a.eval x = .pointer (some ⟨g, off, none⟩)) {v : Value}
    (hT : oneOf P T = true) (hv : cs[off]? = some v) (h : wpList P ops Q rest (a.put o.dst v) W) : wpList P ops Q (o :: rest) a W := by
  refine ev_run hgd ?_ h
  unfold execOp
  simp only [ho, hx, Instr.loadAt, Instr.sureAddr, Sem.run_bind, Sem.run_pure, Result.andThen_ok, run_load_one hT hp hv]
/-- A store into a row. -/
theorem ev_store_row (H : St w0 S W l) (hgd : Region.wanted o (yielded ops a.tmps) = true) {T : TypeId} {x y : Operand} (ho : o.op = .store T x y) {g off0 off n q : Nat} (hx : a.eval x = .pointer (some ⟨g, q, none⟩)) {v : Value} {cs cs' vs : List Value} {U : TypeId} (hy : a.eval y = v) (hv : v.cells = vs.toArray)
    (hk : Pick (Ast.row U (some ⟨g, off0, none⟩) cs) l l') (hq : q = off0 + off) (hT : (P.info? T).map (·.size) = some n) (hn : vs.length = n) (hl : off + n ≤ cs.length) (h1 : vs.all (·.oneCell') = true) (hcs : cs.take off ++ vs ++ cs.drop (off + n) = cs')
    (h : ∀ W1, St w0 S W1 (Ast.row U (some ⟨g, off0, none⟩) cs' :: l') → wpList P ops Q rest (a.put o.dst undef) W1) : wpList P ops Q (o :: rest) a W := by
  subst hcs; subst hq
  obtain ⟨_, cur, hh, h2, h3⟩ := H.get hk
  simp only at hh h2 h3
  have hrun := run_store_at (P := P) (W := W) (v := v) (cs := cur.toList) (off := off0 + off) hT (by simpa using hh) (by rw [hv]; simpa using hn) (by rw [Array.length_toList]; omega) (by rw [hv]; exact h1) rfl
  refine ev_skip (W1 := W.setRow g (cur.toList.take (off0 + off) ++ v.cells.toList ++ cur.toList.drop (off0 + off + n)).toArray) hgd ?_ (h _ ?_)
  · unfold execOp
    simp only [ho, hx, hy, Instr.storeAt, Instr.sureAddr, Sem.run_bind, Sem.run_pure, Result.andThen_ok, hrun]
  · refine St.callS (t := [Ast.row U (some ⟨g, off0, none⟩) cs]) (S1 := [g]) (l1 := [Ast.row U (some ⟨g, off0, none⟩) _]) (H.pick hk) ⟨rfl, rfl, rfl, by simp [World.setRow], fun i _ hi => ?_, fun a ha => ?_, by simp [Ast.row], fun a ha b hb => ?_⟩ (by simp [Ast.row])
    · show (W.heap.modify g _)[i]? = _
      rw [Array.getElem?_modify, if_neg (by simpa using fun e => hi (by simp [e]))]
    · rw [List.mem_singleton.1 ha]
      refine ⟨rfl, _, setRow_heap W g _ _ U _ hh, ?_, ?_⟩
      · simp [hv, hn]; omega
      · simp only [hv, List.toList_toArray]
        have e0 : (cs.take off ++ vs ++ cs.drop (off + n)).length = cs.length := by simp [hn]; omega
        rw [e0]
        refine List.ext_getElem? fun j => ?_
        rw [List.getElem?_take]
        by_cases hj : j < cs.length
        · rw [if_pos hj, List.getElem?_drop]
          have hcj : cs[j]? = cur.toList[off0 + j]? := by rw [← h3, List.getElem?_take, if_pos hj, List.getElem?_drop]
          simp only [List.getElem?_append, List.length_append, List.length_take, Array.length_toList, List.getElem?_take, List.getElem?_drop, hn]
          rw [show min (off0 + off) cur.size = off0 + off by omega, show min off cs.length = off by omega]
          by_cases c1 : j < off
          · rw [if_pos (by omega), if_pos (by omega), if_pos (by omega), if_pos (by omega), if_pos c1, if_pos c1, hcj]
          · by_cases c2 : j < off + n
            · rw [if_pos (by omega), if_neg (by omega), if_pos (by omega), if_neg (by omega)]
              congr 1; omega
            · rw [if_neg (by omega), if_neg (by omega)]
              rw [show off + n + (j - (off + n)) = j by omega, show off0 + off + n + (off0 + j - (off0 + off + n)) = off0 + j by omega]
              exact hcj.symm
        · rw [if_neg hj]
          exact (List.getElem?_eq_none (by rw [e0]; omega)).symm
    · rw [List.mem_singleton.1 ha] at hb; exact .inl (by simpa [Ast.row] using hb)
theorem own_append {t ty e : TypeId} {size bytes : Nat} {z : Value} (ht : P.underlying t = some (.slice e)) (hi : (P.info? e).map (fun i => (i.zero, i.size, i.bytes)) = some (some z, size, bytes)) (hzs : z.cells.size = size) (hsz : 0 < size)
    {A B : Option Addr} {n c m d : Nat} {xs news : List Value} (hown : (Ast.own e size A n c xs).p W) (hin : In W B news) (hm : B = none → m = 0) (hl : news.length = m * size) (h1 : news.all (·.oneCell') = true) (hbytes : (n + m) * bytes ≤ 140737488355328) (h63 : n + m ≤ maxLen) :
    ∃ A' c' w', (Builtin.append_ #[t, t] ty #[.slice A n c, .slice B m d]).run P W = .ok (.slice A' (n + m) c') w' ∧ St W (Ast.own e size A n c xs).fp w' [Ast.own e size A' (n + m) c' (xs ++ news)] := by
  obtain ⟨i, hi1, hz, hs, hb⟩ := info_parts hi
  cases B with
  | none =>
    have hm0 := hm rfl
    subst hm0
    have hnil : news = [] := List.eq_nil_of_length_eq_zero (by rw [hl]; omega)
    subst hnil
    refine ⟨A, c, W, ?_, ?_⟩
    · have hc := (own_le hown).1
      simp [Builtin.append_, run_underlying ht, sizeOf, typeInfo, hi1, Builtin.lenOf, Builtin.firstCells, hc]
      cases A <;> simp [storeCells]
    · rw [List.append_nil]
      exact ⟨rfl, rfl, rfl, Nat.le_refl _, fun _ _ _ => rfl, fun a ha => by rw [List.mem_singleton.1 ha]; exact hown, by cases A <;> simp [Ast.own], fun a ha b hb => by rw [List.mem_singleton.1 ha] at hb; exact .inl hb⟩
  | some ad =>
    have hin' : ∀ j u, news[j]? = some u → W.cell? (ad.add j) = some u := fun j u hj => by
      obtain ⟨ad', h2, h3⟩ := hin j u hj
      injection h2 with h2; subst h2; exact h3
    obtain ⟨v', w', hr, h2, h3, _, h5⟩ := run_append_own_at (P := P) W 0 t ty e i z size bytes ht hi1 hz hs hb hzs hsz (.slice A n c) n xs hown ad m d news hl hin' (fun u hu => List.all_eq_true.1 h1 u hu) h63 hbytes (Nat.zero_le _)
    have hform : ∃ A' c', v' = .slice A' (n + m) c' := by
      rcases h2.2 with ⟨hv, h0⟩ | ⟨g, cap, cur, hv, _⟩
      · exact ⟨none, 0, by rw [hv]; congr 1; omega⟩
      · exact ⟨_, _, hv⟩
    obtain ⟨A', c', rfl⟩ := hform
    have hfp : ∀ (A : Option Addr) (n c : Nat) (xs : List Value) (w : World), (Ast.own e size A n c xs).p w → (Value.slice A n c).ownBlock = A.map (·.block) := fun A n c xs w h => by
      rcases own_form h with ⟨h1, _, _, _⟩ | ⟨g, cur, hA, _⟩
      · subst h1; rfl
      · subst hA; rfl
    have hA := hfp A n c xs W hown
    have hA' := hfp A' (n + m) c' (xs ++ news) w' h2
    refine ⟨A', c', w', hr, ⟨h3.os, h3.tape, h3.output, h3.size, fun k hk hkS => h3.block k hk ?_, fun a ha => by rw [List.mem_singleton.1 ha]; exact h2, by cases A' <;> simp [Ast.own], fun a ha b hb => ?_⟩⟩
    · rw [hA]
      intro he
      refine hkS ?_
      cases A with
      | none => simp at he
      | some ad => simp at he; simp [Ast.own, he]
    · rw [List.mem_singleton.1 ha] at hb
      have hb' : A'.map (·.block) = some b := by cases A' <;> simp [Ast.own] at hb ⊢; exact hb.symm
      rw [hA', hb', hA] at h5
      rcases h5 with h5 | h5
      · exact .inl (by simp [Ast.own, ← h5])
      · injection h5 with h5; exact .inr (by omega)
theorem g_append {s x : Operand} {t : TypeId} (_ho : o.op = .call { callee := .builtin .append, args := #[s, x], argTypes := #[t, t] }) (h : wpList P ops Q (o :: rest) a W) : wpList P ops Q (o :: rest) a W := h
theorem ev_append (H : St w0 S W l) (hgd : Region.wanted o (yielded ops a.tmps) = true) {s x : Operand} {t e : TypeId} (ho : o.op = .call { callee := .builtin .append, args := #[s, x], argTypes := #[t, t] })
    {size bytes : Nat} {z : Value} (ht : P.underlying t = some (.slice e)) (hi : (P.info? e).map (fun i => (i.zero, i.size, i.bytes)) = some (some z, size, bytes)) (hzs : z.cells.size = size) (hsz : 0 < size)
    {A B : Option Addr} {n c m d : Nat} {xs news : List Value} (hs : a.eval s = .slice A n c) (hx : a.eval x = .slice B m d) (hk : Pick (Ast.own e size A n c xs) l l')
    (hin : In W B news) (hm : B = none → m = 0) (hl : news.length = m * size) (h1 : news.all (·.oneCell') = true) (hbytes : (n + m) * bytes ≤ 140737488355328) (h63 : n + m ≤ maxLen)
    (h : ∀ A' c' W1, St w0 S W1 (Ast.own e size A' (n + m) c' (xs ++ news) :: l') → wpList P ops Q rest (a.put o.dst (.slice A' (n + m) c')) W1) : wpList P ops Q (o :: rest) a W := by
  obtain ⟨A', c', w', hr, k⟩ := own_append (P := P) (ty := o.type) ht hi hzs hsz (H.get hk) hin hm hl h1 hbytes h63 (d := d)
  refine ev_run (W1 := w') hgd ?_ (h A' c' w' ((H.pick hk).up1 k (fun b hb => hb)))
  unfold execOp
  simp only [ho, resolve, invoke, builtin, Sem.run_bind, Sem.run_pure, Result.andThen_ok, List.map_toArray, List.map_cons, List.map_nil, hs, hx, hr]
/-- The same, what comes of it spelled as is wanted. -/
theorem ev_appendN (H : St w0 S W l) (hgd : Region.wanted o (yielded ops a.tmps) = true) {s x : Operand} {t e : TypeId} (ho : o.op = .call { callee := .builtin .append, args := #[s, x], argTypes := #[t, t] })
    {size bytes : Nat} {z : Value} (ht : P.underlying t = some (.slice e)) (hi : (P.info? e).map (fun i => (i.zero, i.size, i.bytes)) = some (some z, size, bytes)) (hzs : z.cells.size = size) (hsz : 0 < size)
    {A B : Option Addr} {n c m d : Nat} {xs news : List Value} (hs : a.eval s = .slice A n c) (hx : a.eval x = .slice B m d) (hk : Pick (Ast.own e size A n c xs) l l')
    (hin : In W B news) (hm : B = none → m = 0) (hl : news.length = m * size) (h1 : news.all (·.oneCell') = true) (hbytes : (n + m) * bytes ≤ 140737488355328) (h63 : n + m ≤ maxLen) {N : Nat} {cs' : List Value} (hN : n + m = N) (hcs : xs ++ news = cs')
    (h : ∀ A' c' W1, St w0 S W1 (Ast.own e size A' N c' cs' :: l') → wpList P ops Q rest (a.put o.dst (.slice A' N c')) W1) : wpList P ops Q (o :: rest) a W := by
  subst hN; subst hcs
  exact ev_append H hgd ho ht hi hzs hsz hs hx hk hin hm hl h1 hbytes h63 h
theorem g_buildSlice {t : TypeId} {n : Nat} {parts : Array (Nat × Operand)} (_ho : o.op = .buildSlice t n parts) (h : wpList P ops Q (o :: rest) a W) : wpList P ops Q (o :: rest) a W := h
/-- A slice literal. -/
theorem ev_buildSlice (H : St w0 S W l) (hgd : Region.wanted o (yielded ops a.tmps) = true) {t e : TypeId} {n : Nat} {parts : Array (Nat × Operand)} (ho : o.op = .buildSlice t n parts)
    {size bytes : Nat} {z : Value} (ht : P.underlying t = some (.slice e)) (hi : (P.info? e).map (fun i => (i.zero, i.size, i.bytes)) = some (some z, size, bytes)) {vals : List (Nat × Value)} {cells : List Value}
    (hp : (parts.map fun (i, x) => (i, a.eval x)) = vals.toArray) (hf : Instr.fill (fun i => some (i * size, size)) ((Array.range (n * size)).map (z.cells[· % z.cells.size]!)) vals = some cells.toArray) (hn : cells.length = n * size) (hpos : n * size ≠ 0) (hsmall : n * size ≤ 2 ^ 24) (hn63 : n ≤ maxLen)
    (h : ∀ g W1, St w0 S W1 (Ast.own e size (some ⟨g, 0, none⟩) n n cells :: l) → wpList P ops Q rest (a.put o.dst (.slice (some ⟨g, 0, none⟩) n n)) W1) : wpList P ops Q (o :: rest) a W := by
  obtain ⟨i, hi1, hz, hs, hb⟩ := info_parts hi
  subst hs
  have hr := Go.run_buildSlice (P := P) W t e n vals.toArray cells.toArray i z ht hi1 hz (by omega) hpos (by simpa using hf)
  refine ev_run (W1 := W.alloc (.cells cells.toArray e)) hgd ?_ (h W.heap.size _ ?_)
  · unfold execOp
    simp only [ho, hp, hr, Sem.run_bind, Sem.run_pure, Result.andThen_ok]
  · refine H.call (l1 := [Ast.own e i.size (some ⟨W.heap.size, 0, none⟩) n n cells]) ⟨rfl, rfl, rfl, by simp, fun k hk _ => heap_alloc_old W _ hk, fun a ha => ?_, by simp [Ast.own], fun a ha b hb => ?_⟩
    · rw [List.mem_singleton.1 ha]
      exact own_mk (heap_alloc_new W _) (Nat.le_refl _) hn63 (by simpa using hn) (by simp [← hn])
    · rw [List.mem_singleton.1 ha] at hb; simp [Ast.own] at hb; exact .inr (by omega)
theorem ev_buildSlice1 (H : St w0 S W l) (hgd : Region.wanted o (yielded ops a.tmps) = true) {t e : TypeId} {x : Operand} (ho : o.op = .buildSlice t 1 #[(0, x)]) {v : Value} (hx : a.eval x = v)
    {size bytes : Nat} {z : Value} (ht : P.underlying t = some (.slice e)) (hi : (P.info? e).map (fun i => (i.zero, i.size, i.bytes)) = some (some z, size, bytes)) {cells : List Value}
    (hf : Instr.fill (fun i => some (i * size, size)) ((Array.range (1 * size)).map (z.cells[· % z.cells.size]!)) [(0, v)] = some cells.toArray) (hn : cells.length = 1 * size) (hpos : 1 * size ≠ 0) (hsmall : 1 * size ≤ 2 ^ 24) (hn63 : 1 ≤ maxLen)
    (h : ∀ g W1, St w0 S W1 (Ast.own e size (some ⟨g, 0, none⟩) 1 1 cells :: l) → wpList P ops Q rest (a.put o.dst (.slice (some ⟨g, 0, none⟩) 1 1)) W1) : wpList P ops Q (o :: rest) a W :=
  ev_buildSlice H hgd ho ht hi (vals := [(0, v)]) (by simp [hx]) hf hn hpos hsmall hn63 h
/-- The empty slice literal. -/
theorem ev_buildSlice0 (H : St w0 S W l) (hgd : Region.wanted o (yielded ops a.tmps) = true) {t e : TypeId} (ho : o.op = .buildSlice t 0 #[])
    {size bytes : Nat} {z : Value} (ht : P.underlying t = some (.slice e)) (hi : (P.info? e).map (fun i => (i.zero, i.size, i.bytes)) = some (some z, size, bytes))
    (h : ∀ g W1, St w0 S W1 (Ast.own e size (some ⟨g, 0, none⟩) 0 0 [] :: l) → wpList P ops Q rest (a.put o.dst (.slice (some ⟨g, 0, none⟩) 0 0)) W1) : wpList P ops Q (o :: rest) a W := by
  obtain ⟨i, hi1, hz, hs, hb⟩ := info_parts hi
  refine ev_run (W1 := W.alloc (.cells #[] e)) hgd ?_ (h W.heap.size _ ?_)
  · unfold execOp
    simp [ho, Instr.buildSlice, run_underlying ht, sizeOf, typeInfo, hi1, Instr.fill, newRow]
    rw [Array.eq_empty_of_size_eq_zero (by simp : (Array.map (fun _ => (default : Value)) (Array.range 0)).size = 0)]
  · refine H.call (l1 := [Ast.own e size (some ⟨W.heap.size, 0, none⟩) 0 0 []]) ⟨rfl, rfl, rfl, by simp, fun k hk _ => heap_alloc_old W _ hk, fun a ha => ?_, by simp [Ast.own], fun a ha b hb => ?_⟩
    · rw [List.mem_singleton.1 ha]
      exact own_mk (heap_alloc_new W _) (Nat.le_refl _) (Nat.zero_le _) (by simp) (by simp)
    · rw [List.mem_singleton.1 ha] at hb; simp [Ast.own] at hb; exact .inr (by omega)
end
end Go.Proofs.YtjgggmcnbdjdjaaGreat.K
