/- Words of my own for memory: what is known of blocks (assertions with a footprint), carried over whatever a call does; the operations on variables. -/
import Derived.Test.YtjgggmcnbdjdjaaGreatK
import Derived.Deep.MidRow
import Derived.Laws.CopyRow
namespace Go.Proofs.YtjgggmcnbdjdjaaGreat.K
open Go.RowKit
set_option maxRecDepth 20000
set_option linter.unusedVariables false
set_option linter.unusedSimpArgs false

/-- Something known of memory, and the blocks on which alone it hangs. -/
structure Ast where
  fp : List Nat
  p : World → Prop
  st : ∀ w w' : World, (∀ b, b ∈ fp → w'.heap[b]? = w.heap[b]?) → p w → p w'
  lv : ∀ w : World, p w → ∀ b, b ∈ fp → b < w.heap.size

/-- Block g has just these cells. -/
def Ast.blk (g : Nat) (cs : List Value) (T : TypeId) : Ast where
  fp := [g]
  p w := w.heap[g]? = some (.cells cs.toArray T (0, 0))
  st w w' h hp := (h g (List.mem_singleton.2 rfl)).trans hp
  lv w hp b hb := by rw [List.mem_singleton.1 hb]; exact (Array.getElem?_eq_some_iff.1 hp).1

/-- From w0 to W only blocks of S and new ones were turned; in W all of l holds, each in blocks of its own, which are of S or new. -/
structure St (w0 : World) (S : List Nat) (W : World) (l : List Ast) : Prop where
  os : W.os = w0.os
  tape : W.tape = w0.tape
  output : W.output = w0.output
  size : w0.heap.size ≤ W.heap.size
  block : ∀ k, k < w0.heap.size → k ∉ S → W.heap[k]? = w0.heap[k]?
  hp : ∀ a, a ∈ l → a.p W
  nd : (l.flatMap Ast.fp).Nodup
  own : ∀ a, a ∈ l → ∀ b, b ∈ a.fp → b ∈ S ∨ w0.heap.size ≤ b

theorem St.nil (w : World) (S : List Nat) : St w S w [] := ⟨rfl, rfl, rfl, Nat.le_refl _, fun _ _ _ => rfl, (fun _ h => by cases h), by simp, (fun _ h => by cases h)⟩
theorem St.below {w W : World} {l : List Ast} (h : St w [] W l) : Below w.heap.size w W := ⟨h.os, h.tape, h.output, h.size, fun k hk => h.block k hk (by simp)⟩
theorem St.heap {w0 W W' : World} {S : List Nat} {l : List Ast} (h : St w0 S W l) (ho : W'.os = W.os) (ht : W'.tape = W.tape) (hu : W'.output = W.output) (hh : W'.heap = W.heap) : St w0 S W' l :=
  ⟨ho.trans h.os, ht.trans h.tape, hu.trans h.output, by rw [hh]; exact h.size, fun k h1 h2 => by rw [hh]; exact h.block k h1 h2, fun a ha => a.st W W' (fun b _ => by rw [hh]) (h.hp a ha), h.nd, h.own⟩
theorem St.drewN {w0 W : World} {S : List Nat} {l : List Ast} (h : St w0 S W l) (n : Nat) : St w0 S (W.drewN n) l := h.heap rfl rfl rfl rfl
theorem St.drew {w0 W : World} {S : List Nat} {l : List Ast} (h : St w0 S W l) : St w0 S W.drew l := h.heap rfl rfl rfl rfl

/-! ## picking one of what is known -/
inductive Pick (x : Ast) : List Ast → List Ast → Prop
  | here {l : List Ast} : Pick x (x :: l) l
  | there {y : Ast} {l l' : List Ast} (h : Pick x l l') : Pick x (y :: l) (y :: l')
inductive Picks : List Ast → List Ast → List Ast → Prop
  | nil {l : List Ast} : Picks [] l l
  | cons {x : Ast} {xs l l' l'' : List Ast} (h : Pick x l l') (t : Picks xs l' l'') : Picks (x :: xs) l l''
theorem Pick.perm {x : Ast} {l l' : List Ast} (h : Pick x l l') : l.Perm (x :: l') := by
  induction h with
  | here => exact List.Perm.refl _
  | there h ih => exact (ih.cons _).trans (List.Perm.swap _ _ _)
theorem Picks.perm {xs l l' : List Ast} (h : Picks xs l l') : l.Perm (xs ++ l') := by
  induction h with
  | nil => exact List.Perm.refl _
  | cons h t ih => exact h.perm.trans (ih.cons _)
theorem St.perm {w0 W : World} {S : List Nat} {l l' : List Ast} (h : St w0 S W l) (k : l.Perm l') : St w0 S W l' :=
  ⟨h.os, h.tape, h.output, h.size, h.block, fun a ha => h.hp a (k.mem_iff.2 ha), (k.flatMap_right _).nodup_iff.1 h.nd, fun a ha => h.own a (k.mem_iff.2 ha)⟩
theorem St.pick {w0 W : World} {S : List Nat} {l l' : List Ast} {x : Ast} (h : St w0 S W l) (k : Pick x l l') : St w0 S W (x :: l') := h.perm k.perm
theorem St.picks {w0 W : World} {S : List Nat} {xs l l' : List Ast} (h : St w0 S W l) (k : Picks xs l l') : St w0 S W (xs ++ l') := h.perm k.perm
theorem St.left {w0 W : World} {S : List Nat} {l l' : List Ast} (h : St w0 S W (l ++ l')) : St w0 S W l :=
  ⟨h.os, h.tape, h.output, h.size, h.block, fun a ha => h.hp a (List.mem_append_left _ ha), by have := h.nd; rw [List.flatMap_append] at this; exact (List.nodup_append.1 this).1, fun a ha => h.own a (List.mem_append_left _ ha)⟩
theorem St.take {w0 W : World} {S : List Nat} {xs l l' : List Ast} (h : St w0 S W l) (k : Picks xs l l') : St w0 S W xs := (h.picks k).left
theorem St.get {w0 W : World} {S : List Nat} {l l' : List Ast} {x : Ast} (h : St w0 S W l) (k : Pick x l l') : x.p W := h.hp x (k.perm.mem_iff.2 List.mem_cons_self)
theorem St.cast {w0 W : World} {S : List Nat} {l l' : List Ast} (h : St w0 S W l) (e : l = l') : St w0 S W l' := e ▸ h
theorem St.drop {w0 W : World} {S : List Nat} {l : List Ast} {x : Ast} (h : St w0 S W (x :: l)) : St w0 S W l :=
  ((h.perm (l' := l ++ [x]) (List.perm_append_singleton x l).symm)).left

/-- What held before the call, of blocks that were not turned. -/
theorem St.old {w0 W : World} {S : List Nat} {l : List Ast} (h : St w0 S W l) (a : Ast) (ha : a.p w0) (hS : ∀ b, b ∈ a.fp → b ∉ S) : a.p W :=
  a.st w0 W (fun b hb => h.block b (a.lv w0 ha b hb) (hS b hb)) ha
theorem St.old0 {w0 W : World} {l : List Ast} (h : St w0 [] W l) {a : Ast} (ha : a.p w0) : a.p W := h.old a ha (by simp)

/-! ## calls -/
/-- A callee that turns blocks of t alone (and new ones). -/
theorem St.callS {w0 W W1 : World} {S S1 : List Nat} {t l l1 : List Ast} (h : St w0 S W (t ++ l)) (k : St W S1 W1 l1) (hS : ∀ b, b ∈ S1 → b ∈ t.flatMap Ast.fp) : St w0 S W1 (l1 ++ l) := by
  have hnd := h.nd
  rw [List.flatMap_append] at hnd
  have hdis := (List.nodup_append.1 hnd).2.2
  have hown : ∀ b, b ∈ S1 → b ∈ S ∨ w0.heap.size ≤ b := fun b hb => by
    obtain ⟨a, ha, hab⟩ := List.mem_flatMap.1 (hS b hb)
    exact h.own a (List.mem_append_left _ ha) b hab
  have hfar : ∀ a, a ∈ l → ∀ b, b ∈ a.fp → b ∉ S1 ∧ b < W.heap.size := fun a ha b hb =>
    ⟨fun hb1 => hdis b (hS b hb1) b (List.mem_flatMap.2 ⟨a, ha, hb⟩) rfl, a.lv W (h.hp a (List.mem_append_right _ ha)) b hb⟩
  refine ⟨k.os.trans h.os, k.tape.trans h.tape, k.output.trans h.output, Nat.le_trans h.size k.size, fun i h1 h2 => ?_, fun a ha => ?_, ?_, fun a ha b hb => ?_⟩
  · refine (k.block i (Nat.lt_of_lt_of_le h1 h.size) (fun hi => ?_)).trans (h.block i h1 h2)
    rcases hown i hi with h3 | h3
    · exact h2 h3
    · omega
  · rcases List.mem_append.1 ha with ha | ha
    · exact k.hp a ha
    · exact a.st W W1 (fun b hb => k.block b (hfar a ha b hb).2 (hfar a ha b hb).1) (h.hp a (List.mem_append_right _ ha))
  · rw [List.flatMap_append]
    refine List.nodup_append.2 ⟨k.nd, (List.nodup_append.1 hnd).2.1, fun b hb b' hb' hbb => ?_⟩
    subst hbb
    obtain ⟨a, ha, hab⟩ := List.mem_flatMap.1 hb
    obtain ⟨a', ha', hab'⟩ := List.mem_flatMap.1 hb'
    have := hfar a' ha' b hab'
    rcases k.own a ha b hab with h3 | h3
    · exact this.1 h3
    · omega
  · rcases List.mem_append.1 ha with ha | ha
    · rcases k.own a ha b hb with h3 | h3
      · exact hown b h3
      · exact .inr (Nat.le_trans h.size h3)
    · exact h.own a (List.mem_append_right _ ha) b hb
theorem St.call {w0 W W1 : World} {S : List Nat} {l l1 : List Ast} (h : St w0 S W l) (k : St W [] W1 l1) : St w0 S W1 (l1 ++ l) := St.callS (t := []) h k (by simp)
theorem St.callB {w0 W W1 : World} {S : List Nat} {l : List Ast} (h : St w0 S W l) (k : Below W.heap.size W W1) : St w0 S W1 l :=
  St.call (l1 := []) h ⟨k.os, k.tape, k.output, k.size, fun i hi _ => k.block i hi, (fun _ h => by cases h), by simp, (fun _ h => by cases h)⟩

/-- All of l holds in w, each in blocks of its own. -/
structure Hol (w : World) (l : List Ast) : Prop where
  hp : ∀ a, a ∈ l → a.p w
  nd : (l.flatMap Ast.fp).Nodup
theorem St.hol {w0 W : World} {S : List Nat} {l : List Ast} (h : St w0 S W l) : Hol W l := ⟨h.hp, h.nd⟩
theorem St.rot {w0 W : World} {S : List Nat} {a b : Ast} {l : List Ast} (h : St w0 S W (a :: b :: l)) : St w0 S W (b :: a :: l) := h.perm (List.Perm.swap _ _ _)
theorem St.hol1 {w0 W : World} {S : List Nat} {a : Ast} {l : List Ast} (h : St w0 S W (a :: l)) : Hol W [a] := St.hol (St.left (l := [a]) h)
theorem St.up1 {w0 W W1 : World} {S S1 : List Nat} {a : Ast} {l l1 : List Ast} (h : St w0 S W (a :: l)) (k : St W S1 W1 l1) (hS : ∀ b, b ∈ S1 → b ∈ a.fp) : St w0 S W1 (l1 ++ l) :=
  St.callS (t := [a]) h k (by simpa using hS)
theorem St.upL {w0 W W1 : World} {S : List Nat} {t l l1 : List Ast} (h : St w0 S W (t ++ l)) (k : St W (t.flatMap Ast.fp) W1 l1) : St w0 S W1 (l1 ++ l) := St.callS h k (fun b hb => hb)
theorem St.holL {w0 W : World} {S : List Nat} {t l : List Ast} (h : St w0 S W (t ++ l)) : Hol W t := St.hol (St.left h)
theorem Hol.st {w : World} {l : List Ast} (h : Hol w l) : St w (l.flatMap Ast.fp) w l := ⟨rfl, rfl, rfl, Nat.le_refl _, fun _ _ _ => rfl, h.hp, h.nd, fun a ha b hb => .inl (List.mem_flatMap.2 ⟨a, ha, hb⟩)⟩

theorem St.n1 {w0 W : World} {S : List Nat} {a : Ast} {l : List Ast} (h : St w0 S W (a :: l)) : a.p W := h.hp a List.mem_cons_self
theorem St.n2 {w0 W : World} {S : List Nat} {a b : Ast} {l : List Ast} (h : St w0 S W (a :: b :: l)) : b.p W := h.drop.n1
theorem St.n3 {w0 W : World} {S : List Nat} {a b c : Ast} {l : List Ast} (h : St w0 S W (a :: b :: c :: l)) : c.p W := h.drop.n2
theorem St.n4 {w0 W : World} {S : List Nat} {a b c d : Ast} {l : List Ast} (h : St w0 S W (a :: b :: c :: d :: l)) : d.p W := h.drop.n3
/-- What the cells of a block are, one by one. -/
def cellsAll (w : World) (g : Nat) : Nat → List Value → Prop
  | _, [] => True
  | i, v :: vs => w.cell? ⟨g, i, none⟩ = some v ∧ cellsAll w g (i + 1) vs
theorem cellsAll_of {w : World} {g : Nat} {T : TypeId} {cs : List Value} (h : w.heap[g]? = some (.cells cs.toArray T (0, 0))) : ∀ (i : Nat) (l : List Value), (∀ j, l[j]? = cs[i + j]?) → cellsAll w g i l
  | _, [], _ => trivial
  | i, v :: vs, hl => by
    refine ⟨?_, cellsAll_of h (i + 1) vs fun j => by have := hl (j + 1); simpa [Nat.add_assoc, Nat.add_comm 1 j] using this⟩
    have h0 := hl 0
    simp only [List.getElem?_cons_zero, Nat.add_zero] at h0
    simp [World.cell?, h, ← h0]
theorem cells_of {w : World} {g : Nat} {T : TypeId} {cs : List Value} (h : (Ast.blk g cs T).p w) : cellsAll w g 0 cs := cellsAll_of h 0 cs fun j => by rw [Nat.zero_add]
theorem g_draw {P : Program} {id : Nat} {ops : Array Oper} {Q : Exit → Act → World → Prop} {a : Act} {w : World} (h : (Code.region id ops true).wp P Q a w) : (Code.region id ops true).wp P Q a w := h
theorem q_of {P : Program} {f : FuncId} {args : Array Value} {w : World} {v : Value} (h : Calls P f args w fun e w' => e = .returned v ∧ w = w') : Calls P f args w fun e w' => e = .returned v ∧ w' = w := h.mono fun _ _ ⟨a, b⟩ => ⟨a, b.symm⟩

/-! ## boxes -/
theorem St.box {w0 W : World} {S : List Nat} {l : List Ast} (h : St w0 S W l) (cs : List Value) (T : TypeId) : St w0 S (W.alloc (.cells cs.toArray T)) (Ast.blk W.heap.size cs T :: l) := by
  have hs : (W.alloc (.cells cs.toArray T)).heap.size = W.heap.size + 1 := by show (W.heap.push _).size = _; simp
  have ho : ∀ k, k < W.heap.size → (W.alloc (.cells cs.toArray T)).heap[k]? = W.heap[k]? := fun k hk => heap_alloc_old W _ hk
  have k : St W [] (W.alloc (.cells cs.toArray T)) [Ast.blk W.heap.size cs T] := by
    refine ⟨rfl, rfl, rfl, by omega, fun i hi _ => ho i hi, fun a ha => ?_, by simp [Ast.blk], fun a ha b hb => ?_⟩
    · rw [List.mem_singleton.1 ha]; exact heap_alloc_new W _
    · rw [List.mem_singleton.1 ha] at hb; rw [List.mem_singleton.1 hb]; exact .inr (Nat.le_refl _)
  exact h.call k
/-- A store into a block that is known. -/
theorem St.put {w0 W W1 : World} {S : List Nat} {l l' : List Ast} {g : Nat} {cs cs' : List Value} {T : TypeId} (h : St w0 S W l) (k : Pick (Ast.blk g cs T) l l') (ho : W1.os = W.os) (ht : W1.tape = W.tape) (hu : W1.output = W.output)
    (hsz : W1.heap.size = W.heap.size) (hoth : ∀ k, k ≠ g → W1.heap[k]? = W.heap[k]?) (hg : W1.heap[g]? = some (.cells cs'.toArray T (0, 0))) : St w0 S W1 (Ast.blk g cs' T :: l') := by
  refine St.callS (t := [Ast.blk g cs T]) (S1 := [g]) (l1 := [Ast.blk g cs' T]) (h.pick k) ⟨ho, ht, hu, by omega, fun i _ hi => hoth i (by simpa using hi), fun a ha => ?_, by simp [Ast.blk], fun a ha b hb => ?_⟩ (by simp [Ast.blk])
  · rw [List.mem_singleton.1 ha]; exact hg
  · rw [List.mem_singleton.1 ha] at hb; exact .inl hb

/-! ## the operations on variables -/
section
variable {P : Program} {ops : Array Oper} {rest : List Oper} {o : Oper} {a : Act} {Q : Exit → Act → World → Prop} {w0 W : World} {S : List Nat} {l l' : List Ast}
theorem g_box {T : TypeId} {x : Operand} (_ho : o.op = .box T x) (h : wpList P ops Q (o :: rest) a W) : wpList P ops Q (o :: rest) a W := h
theorem g_alloc {T : TypeId} (_ho : o.op = .alloc T) (h : wpList P ops Q (o :: rest) a W) : wpList P ops Q (o :: rest) a W := h
theorem g_load {T : TypeId} {x : Operand} (_ho : o.op = .load T x) (h : wpList P ops Q (o :: rest) a W) : wpList P ops Q (o :: rest) a W := h
theorem g_store {T : TypeId} {x y : Operand} (_ho : o.op = .store T x y) (h : wpList P ops Q (o :: rest) a W) : wpList P ops Q (o :: rest) a W := h
theorem ev_run {W1 : World} {v : Value} (hgd : Region.wanted o (yielded ops a.tmps) = true) (hrun : (execOp a.eval o).run P W = .ok (.value v) W1) (h : wpList P ops Q rest (a.put o.dst v) W1) : wpList P ops Q (o :: rest) a W := by
  refine BigFrame.wpList_want hgd fun K hK => ?_
  unfold Oper.wp
  rw [hrun]
  exact hK _ _ h
theorem ev_skip {W1 : World} (hgd : Region.wanted o (yielded ops a.tmps) = true) (hrun : (execOp a.eval o).run P W = .ok .skip W1) (h : wpList P ops Q rest (a.put o.dst undef) W1) : wpList P ops Q (o :: rest) a W := by
  refine BigFrame.wpList_want hgd fun K hK => ?_
  unfold Oper.wp
  rw [hrun]
  exact hK _ _ h
theorem run_newVar (T : TypeId) (v : Value) (W : World) : (newVar T v).run P W = .ok ⟨W.heap.size, 0, none⟩ (W.alloc (.cells v.cells T)) := by
  simp [newVar, newRow]
theorem ev_box (H : St w0 S W l) (hgd : Region.wanted o (yielded ops a.tmps) = true) {T : TypeId} {x : Operand} (ho : o.op = .box T x) {v : Value} (hx : a.eval x = v) {cs : List Value} (hcs : v.cells = cs.toArray)
    (h : ∀ g W1, St w0 S W1 (Ast.blk g cs T :: l) → wpList P ops Q rest (a.put o.dst (.pointer (some ⟨g, 0, none⟩))) W1) : wpList P ops Q (o :: rest) a W := by
  refine ev_run (W1 := W.alloc (.cells cs.toArray T)) hgd ?_ (h _ _ (H.box cs T))
  unfold execOp
  simp only [ho, hx, Instr.box, Sem.run_bind, run_newVar, hcs, Sem.run_pure, Result.andThen_ok]
/-- Of a type: what a new variable holds. -/
def zeroOf (P : Program) (T : TypeId) : Option Value := (P.info? T).bind (·.zero)
theorem run_zero {T : TypeId} {z : Value} (hz : zeroOf P T = some z) (W : World) : (zeroValue T).run P W = .ok z W := by
  unfold zeroOf at hz
  cases hi : P.info? T with
  | none => simp [hi] at hz
  | some i =>
    have hzz : i.zero = some z := by simpa [hi] using hz
    simp [zeroValue, typeInfo, hi, hzz]
theorem ev_alloc (H : St w0 S W l) (hgd : Region.wanted o (yielded ops a.tmps) = true) {T : TypeId} (ho : o.op = .alloc T) {z : Value} {cs : List Value} (hz : zeroOf P T = some z) (hcs : z.cells = cs.toArray)
    (h : ∀ g W1, St w0 S W1 (Ast.blk g cs T :: l) → wpList P ops Q rest (a.put o.dst (.pointer (some ⟨g, 0, none⟩))) W1) : wpList P ops Q (o :: rest) a W := by
  refine ev_run (W1 := W.alloc (.cells cs.toArray T)) hgd ?_ (h _ _ (H.box cs T))
  unfold execOp
  simp only [ho, Instr.alloc, Sem.run_bind, run_zero hz, run_newVar, hcs, Sem.run_pure, Result.andThen_ok]
/-- Of a type: is it a struct, and of how many cells? -/
def aggOf (P : Program) (T : TypeId) (n : Nat) : Bool :=
  (match P.underlying T with | some (.struct _) | some (.array _ _) => true | _ => false) && ((P.info? T).map (·.size) == some n)
def oneOf (P : Program) (T : TypeId) : Bool :=
  (match P.underlying T with | some (.struct _) | some (.array _ _) => false | some _ => true | none => false) && ((P.info? T).map (·.size) == some 1)
theorem run_load_agg {T : TypeId} {n g off : Nat} {cs vs : List Value} {U : TypeId} (hT : aggOf P T n = true) (hg : W.heap[g]? = some (.cells cs.toArray U (0, 0))) (hv : (cs.drop off).take n = vs) (hn : vs.length = n) :
    (loadVar T ⟨g, off, none⟩).run P W = .ok (.agg vs.toArray) W := by
  unfold aggOf at hT
  obtain ⟨h1, h2⟩ := (Bool.and_eq_true _ _).mp hT
  have hi : (P.info? T).map (·.size) = some vs.length := by rw [hn]; simpa using h2
  have hc : W.rangeAt g off vs := fun j v hj => by
    rw [cell_of_row W g (off + j) _ U (0, 0) hg]
    rw [← hv, List.getElem?_take] at hj
    split at hj
    · rw [List.getElem?_drop] at hj; simpa using hj
    · cases hj
  cases hu : P.underlying T with
  | none => rw [hu] at h1; cases h1
  | some d =>
    rw [hu] at h1
    refine run_loadVar_mid W g off T vs d hc hu ?_ hi
    cases d <;> simp_all
theorem run_load_one {T : TypeId} {g off : Nat} {cs : List Value} {v : Value} {U : TypeId} (hT : oneOf P T = true) (hg : W.heap[g]? = some (.cells cs.toArray U (0, 0))) (hv : cs[off]? = some v) :
    (loadVar T ⟨g, off, none⟩).run P W = .ok v W := by
  unfold oneOf at hT
  obtain ⟨h1, h2⟩ := (Bool.and_eq_true _ _).mp hT
  have hc : W.cell? ⟨g, off, none⟩ = some v := by rw [cell_of_row W g off _ U (0, 0) hg]; simpa using hv
  cases hu : P.underlying T with
  | none => rw [hu] at h1; cases h1
  | some d =>
    rw [hu] at h1
    have hagg : (isAgg T).run P W = .ok false W := by
      unfold isAgg
      rw [Sem.run_bind, run_underlying hu W]
      cases d <;> simp_all
    simp [loadVar, Sem.run_bind, hagg, run_load, hc]
theorem run_store_at {T : TypeId} {n g off : Nat} {cs cs' : List Value} {v : Value} {U : TypeId} (hT : (P.info? T).map (·.size) = some n) (hg : W.heap[g]? = some (.cells cs.toArray U (0, 0))) (hn : v.cells.size = n) (hl : off + n ≤ cs.length)
    (h1 : v.cells.toList.all (·.oneCell') = true) (hcs : cs.take off ++ v.cells.toList ++ cs.drop (off + n) = cs') :
    (storeVar T ⟨g, off, none⟩ v).run P W = .ok () (W.setRow g cs'.toArray) := by
  have hst := run_storeCells_at (P := P) g off U v.cells.toList 0 cs.toArray W hg (by simp; omega) (fun u hu => (List.all_eq_true.1 h1) u hu)
  cases hq : P.info? T with
  | none => simp [hq] at hT
  | some i =>
    have hs : i.size = n := by simpa [hq] using hT
    subst hcs
    simp only [Nat.add_zero, Array.length_toList, hn] at hst
    simp [storeVar, sizeOf, typeInfo, hq, hs, hn, hst]
theorem ev_load_agg (H : St w0 S W l) (hgd : Region.wanted o (yielded ops a.tmps) = true) {T : TypeId} {x : Operand} (ho : o.op = .load T x) {g off n : Nat} (hx : a.eval x = .pointer (some ⟨g, off, none⟩)) {cs vs : List Value} {U : TypeId} (hk : Pick (Ast.blk g cs U) l l')
    (hT : aggOf P T n = true) (hv : (cs.drop off).take n = vs) (hn : vs.length = n) (h : wpList P ops Q rest (a.put o.dst (.agg vs.toArray)) W) : wpList P ops Q (o :: rest) a W := by
  refine ev_run hgd ?_ h
  unfold execOp
  simp only [ho, hx, Instr.loadAt, Instr.sureAddr, Sem.run_bind, Sem.run_pure, Result.andThen_ok, run_load_agg hT (H.get hk) hv hn]
theorem ev_load_one (H : St w0 S W l) (hgd : Region.wanted o (yielded ops a.tmps) = true) {T : TypeId} {x : Operand} (ho : o.op = .load T x) {g off : Nat} (hx : a.eval x = .pointer (some ⟨g, off, none⟩)) {cs : List Value} {v : Value} {U : TypeId} (hk : Pick (Ast.blk g cs U) l l')
    (hT : oneOf P T = true) (hv : cs[off]? = some v) (h : wpList P ops Q rest (a.put o.dst v) W) : wpList P ops Q (o :: rest) a W := by
  refine ev_run hgd ?_ h
  unfold execOp
  simp only [ho, hx, Instr.loadAt, Instr.sureAddr, Sem.run_bind, Sem.run_pure, Result.andThen_ok, run_load_one hT (H.get hk) hv]
theorem ev_store (H : St w0 S W l) (hgd : Region.wanted o (yielded ops a.tmps) = true) {T : TypeId} {x y : Operand} (ho : o.op = .store T x y) {g off n : Nat} (hx : a.eval x = .pointer (some ⟨g, off, none⟩)) {v : Value} {cs cs' vs : List Value} {U : TypeId} (hy : a.eval y = v) (hv : v.cells = vs.toArray) (hk : Pick (Ast.blk g cs U) l l')
    (hT : (P.info? T).map (·.size) = some n) (hn : vs.length = n) (hl : off + n ≤ cs.length) (h1 : vs.all (·.oneCell') = true) (hcs : cs.take off ++ vs ++ cs.drop (off + n) = cs')
    (h : ∀ W1, St w0 S W1 (Ast.blk g cs' U :: l') → wpList P ops Q rest (a.put o.dst undef) W1) : wpList P ops Q (o :: rest) a W := by
  subst hcs
  have hg := H.get hk
  refine ev_skip (W1 := W.setRow g (cs.take off ++ vs ++ cs.drop (off + n)).toArray) hgd ?_ (h _ (H.put hk rfl rfl rfl ?_ ?_ ?_))
  · unfold execOp
    simp only [ho, hx, Instr.storeAt, Instr.sureAddr, Sem.run_bind, Sem.run_pure, Result.andThen_ok, hy, run_store_at (v := v) hT hg (by rw [hv]; simpa using hn) hl (by rw [hv]; exact h1) (by rw [hv])]
  · simp [World.setRow]
  · intro k hk
    show (W.heap.modify g _)[k]? = _
    rw [Array.getElem?_modify, if_neg (by omega)]
  · exact setRow_heap W g _ _ U _ hg

/-! ## what is handed back -/
/-- One result's value. -/
def rvM (tmps : Array Value) (r : ResultVar) : Sem Value := match r with | .tmp t => pure (tmps.getD t undef) | .cell a t => do loadVar t (← asAddr (tmps.getD a undef))
def Rv (P : Program) (tmps : Array Value) (W : World) (r : ResultVar) (v : Value) : Prop := (rvM tmps r).run P W = .ok v W
theorem results_rvM (fn : Func) (tmps : Array Value) : results fn tmps = (do let vs ← fn.results.mapM (rvM tmps); pure (if h : vs.size = 1 then vs[0] else .tuple vs)) := rfl
theorem rv_tmp {tmps : Array Value} {t : Tmp} {v : Value} (h : tmps.getD t undef = v) : Rv P tmps W (.tmp t) v := by
  subst h; unfold Rv rvM; simp only [Sem.run_pure]
theorem rv_agg (H : St w0 S W l) {tmps : Array Value} {t : Tmp} {T : TypeId} {g n : Nat} (h : tmps.getD t undef = .pointer (some ⟨g, 0, none⟩)) {cs : List Value} {U : TypeId} (hk : Pick (Ast.blk g cs U) l l') (hT : aggOf P T n = true) (hn : cs.length = n) :
    Rv P tmps W (.cell t T) (.agg cs.toArray) := by
  unfold Rv rvM
  simp only [h, asAddr, Sem.run_bind, Sem.run_pure, Result.andThen_ok]
  exact run_load_agg hT (H.get hk) (by rw [List.drop_zero, ← hn, List.take_length]) hn
theorem rv_one (H : St w0 S W l) {tmps : Array Value} {t : Tmp} {T : TypeId} {g : Nat} (h : tmps.getD t undef = .pointer (some ⟨g, 0, none⟩)) {v : Value} {U : TypeId} (hk : Pick (Ast.blk g [v] U) l l') (hT : oneOf P T = true) :
    Rv P tmps W (.cell t T) v := by
  unfold Rv rvM
  simp only [h, asAddr, Sem.run_bind, Sem.run_pure, Result.andThen_ok]
  exact run_load_one hT (H.get hk) rfl
theorem res1 {fn : Func} {tmps : Array Value} {r : ResultVar} {v : Value} (h : fn.results = #[r]) (h0 : Rv P tmps W r v) : (results fn tmps).run P W = .ok v W := by
  unfold Rv at h0
  rw [results_rvM, h]
  simp [Sem.run_bind, h0, Result.andThen_ok]
theorem res2 {fn : Func} {tmps : Array Value} {r s : ResultVar} {v u : Value} (h : fn.results = #[r, s]) (h0 : Rv P tmps W r v) (h1 : Rv P tmps W s u) : (results fn tmps).run P W = .ok (.tuple #[v, u]) W := by
  unfold Rv at h0 h1
  rw [results_rvM, h]
  simp [Sem.run_bind, h0, h1, Result.andThen_ok]
theorem res3 {fn : Func} {tmps : Array Value} {r s t : ResultVar} {v u x : Value} (h : fn.results = #[r, s, t]) (h0 : Rv P tmps W r v) (h1 : Rv P tmps W s u) (h2 : Rv P tmps W t x) : (results fn tmps).run P W = .ok (.tuple #[v, u, x]) W := by
  unfold Rv at h0 h1 h2
  rw [results_rvM, h]
  simp [Sem.run_bind, h0, h1, h2, Result.andThen_ok]
theorem back1 {fn : Func} {R : Ending → World → Prop} {r : ResultVar} {v : Value} (h : fn.results = #[r]) (h0 : Rv P a.tmps W r v) (hd : a.defers = []) (hR : R (.returned v) W) : bodyPost P fn R .ret a W := bodyPost_ret (res1 h h0) hd hR
theorem back2 {fn : Func} {R : Ending → World → Prop} {r s : ResultVar} {v u : Value} (h : fn.results = #[r, s]) (h0 : Rv P a.tmps W r v) (h1 : Rv P a.tmps W s u) (hd : a.defers = []) (hR : R (.returned (.tuple #[v, u])) W) : bodyPost P fn R .ret a W := bodyPost_ret (res2 h h0 h1) hd hR
theorem back3 {fn : Func} {R : Ending → World → Prop} {r s t : ResultVar} {v u x : Value} (h : fn.results = #[r, s, t]) (h0 : Rv P a.tmps W r v) (h1 : Rv P a.tmps W s u) (h2 : Rv P a.tmps W t x) (hd : a.defers = []) (hR : R (.returned (.tuple #[v, u, x])) W) : bodyPost P fn R .ret a W := bodyPost_ret (res3 h h0 h1 h2) hd hR
end
/-! ## the types of this program -/
theorem one_int : oneOf Tryz.prog 3 = true := by kernel_rfl
theorem sz_int : (Tryz.prog.info? 3).map (·.size) = some 1 := by kernel_rfl
theorem z_int : zeroOf Tryz.prog 3 = some (.int .i64 0) := by kernel_rfl
theorem one_bool : oneOf Tryz.prog 4 = true := by kernel_rfl
theorem sz_bool : (Tryz.prog.info? 4).map (·.size) = some 1 := by kernel_rfl
theorem z_bool : zeroOf Tryz.prog 4 = some (.bool false) := by kernel_rfl
theorem one_ints : oneOf Tryz.prog 25 = true := by kernel_rfl
theorem sz_ints : (Tryz.prog.info? 25).map (·.size) = some 1 := by kernel_rfl
theorem z_ints : zeroOf Tryz.prog 25 = some (.slice none 0 0) := by kernel_rfl
theorem one_rows : oneOf Tryz.prog 22 = true := by kernel_rfl
theorem sz_rows : (Tryz.prog.info? 22).map (·.size) = some 1 := by kernel_rfl
theorem z_rows : zeroOf Tryz.prog 22 = some (.slice none 0 0) := by kernel_rfl
theorem one_recs : oneOf Tryz.prog 62 = true := by kernel_rfl
theorem sz_recs : (Tryz.prog.info? 62).map (·.size) = some 1 := by kernel_rfl
theorem z_recs : zeroOf Tryz.prog 62 = some (.slice none 0 0) := by kernel_rfl
theorem one_lrecs : oneOf Tryz.prog 82 = true := by kernel_rfl
theorem sz_lrecs : (Tryz.prog.info? 82).map (·.size) = some 1 := by kernel_rfl
theorem z_lrecs : zeroOf Tryz.prog 82 = some (.slice none 0 0) := by kernel_rfl
theorem agg_impl_Image : aggOf Tryz.prog 41 1 = true := by kernel_rfl
theorem sz_impl_Image : (Tryz.prog.info? 41).map (·.size) = some 1 := by kernel_rfl
theorem z_impl_Image : zeroOf Tryz.prog 41 = some (.agg #[.slice none 0 0]) := by kernel_rfl
theorem agg_impl_Mem : aggOf Tryz.prog 42 2 = true := by kernel_rfl
theorem sz_impl_Mem : (Tryz.prog.info? 42).map (·.size) = some 2 := by kernel_rfl
theorem z_impl_Mem : zeroOf Tryz.prog 42 = some (.agg #[.slice none 0 0, .int .i64 0]) := by kernel_rfl
theorem agg_impl_Cpu : aggOf Tryz.prog 43 8 = true := by kernel_rfl
theorem sz_impl_Cpu : (Tryz.prog.info? 43).map (·.size) = some 8 := by kernel_rfl
theorem z_impl_Cpu : zeroOf Tryz.prog 43 = some (.agg #[.int .i64 0, .int .i64 0, .int .i64 0, .int .i64 0, .bool false, .bool false, .bool false, .bool false]) := by kernel_rfl
theorem agg_impl_Instr : aggOf Tryz.prog 166 2 = true := by kernel_rfl
theorem sz_impl_Instr : (Tryz.prog.info? 166).map (·.size) = some 2 := by kernel_rfl
theorem z_impl_Instr : zeroOf Tryz.prog 166 = some (.agg #[.int .i64 0, .int .i64 0]) := by kernel_rfl
theorem agg_impl_Ppu : aggOf Tryz.prog 44 8 = true := by kernel_rfl
theorem sz_impl_Ppu : (Tryz.prog.info? 44).map (·.size) = some 8 := by kernel_rfl
theorem z_impl_Ppu : zeroOf Tryz.prog 44 = some (.agg #[.int .i64 0, .int .i64 0, .int .i64 0, .int .i64 0, .int .i64 0, .bool false, .slice none 0 0, .slice none 0 0]) := by kernel_rfl
theorem agg_impl_Apu : aggOf Tryz.prog 45 7 = true := by kernel_rfl
theorem sz_impl_Apu : (Tryz.prog.info? 45).map (·.size) = some 7 := by kernel_rfl
theorem z_impl_Apu : zeroOf Tryz.prog 45 = some (.agg #[.int .i64 0, .int .i64 0, .int .i64 0, .int .i64 0, .int .i64 0, .bool false, .bool false]) := by kernel_rfl
theorem agg_impl_Pad : aggOf Tryz.prog 46 2 = true := by kernel_rfl
theorem sz_impl_Pad : (Tryz.prog.info? 46).map (·.size) = some 2 := by kernel_rfl
theorem z_impl_Pad : zeroOf Tryz.prog 46 = some (.agg #[.bool false, .int .i64 0]) := by kernel_rfl
theorem agg_impl_Obs : aggOf Tryz.prog 47 3 = true := by kernel_rfl
theorem sz_impl_Obs : (Tryz.prog.info? 47).map (·.size) = some 3 := by kernel_rfl
theorem z_impl_Obs : zeroOf Tryz.prog 47 = some (.agg #[.slice none 0 0, .slice none 0 0, .slice none 0 0]) := by kernel_rfl
theorem agg_impl_Lock : aggOf Tryz.prog 49 34 = true := by kernel_rfl
theorem sz_impl_Lock : (Tryz.prog.info? 49).map (·.size) = some 34 := by kernel_rfl
theorem z_impl_Lock : zeroOf Tryz.prog 49 = some (.agg #[.slice none 0 0, .slice none 0 0, .slice none 0 0, .int .i64 0, .int .i64 0, .int .i64 0, .int .i64 0, .int .i64 0, .bool false, .bool false, .bool false, .bool false, .int .i64 0, .int .i64 0, .int .i64 0, .int .i64 0, .int .i64 0, .bool false, .slice none 0 0, .slice none 0 0, .int .i64 0, .int .i64 0, .int .i64 0, .int .i64 0, .int .i64 0, .bool false, .bool false, .bool false, .int .i64 0, .bool false, .int .i64 0, .slice none 0 0, .slice none 0 0, .slice none 0 0]) := by kernel_rfl
theorem agg_impl_Rec : aggOf Tryz.prog 205 3 = true := by kernel_rfl
theorem sz_impl_Rec : (Tryz.prog.info? 205).map (·.size) = some 3 := by kernel_rfl
theorem z_impl_Rec : zeroOf Tryz.prog 205 = some (.agg #[.int .i64 0, .int .i64 0, .int .i64 0]) := by kernel_rfl
theorem agg_impl_Ring : aggOf Tryz.prog 64 2 = true := by kernel_rfl
theorem sz_impl_Ring : (Tryz.prog.info? 64).map (·.size) = some 2 := by kernel_rfl
theorem z_impl_Ring : zeroOf Tryz.prog 64 = some (.agg #[.int .i64 0, .slice none 0 0]) := by kernel_rfl
theorem agg_impl_Picture : aggOf Tryz.prog 66 11 = true := by kernel_rfl
theorem sz_impl_Picture : (Tryz.prog.info? 66).map (·.size) = some 11 := by kernel_rfl
theorem z_impl_Picture : zeroOf Tryz.prog 66 = some (.agg #[.int .i64 0, .int .i64 0, .int .i64 0, .int .i64 0, .int .i64 0, .bool false, .slice none 0 0, .slice none 0 0, .int .i64 0, .slice none 0 0, .slice none 0 0]) := by kernel_rfl
theorem agg_impl_Sound : aggOf Tryz.prog 68 10 = true := by kernel_rfl
theorem sz_impl_Sound : (Tryz.prog.info? 68).map (·.size) = some 10 := by kernel_rfl
theorem z_impl_Sound : zeroOf Tryz.prog 68 = some (.agg #[.int .i64 0, .int .i64 0, .int .i64 0, .int .i64 0, .int .i64 0, .bool false, .bool false, .int .i64 0, .slice none 0 0, .slice none 0 0]) := by kernel_rfl
theorem agg_impl_Split : aggOf Tryz.prog 70 42 = true := by kernel_rfl
theorem sz_impl_Split : (Tryz.prog.info? 70).map (·.size) = some 42 := by kernel_rfl
theorem z_impl_Split : zeroOf Tryz.prog 70 = some (.agg #[.slice none 0 0, .slice none 0 0, .slice none 0 0, .int .i64 0, .int .i64 0, .int .i64 0, .int .i64 0, .int .i64 0, .bool false, .bool false, .bool false, .bool false, .bool false, .int .i64 0, .int .i64 0, .bool false, .int .i64 0, .bool false, .int .i64 0, .int .i64 0, .slice none 0 0, .int .i64 0, .int .i64 0, .int .i64 0, .int .i64 0, .int .i64 0, .bool false, .slice none 0 0, .slice none 0 0, .int .i64 0, .slice none 0 0, .slice none 0 0, .int .i64 0, .int .i64 0, .int .i64 0, .int .i64 0, .int .i64 0, .bool false, .bool false, .int .i64 0, .slice none 0 0, .slice none 0 0]) := by kernel_rfl
theorem agg_laws_Image : aggOf Tryz.prog 24 1 = true := by kernel_rfl
theorem sz_laws_Image : (Tryz.prog.info? 24).map (·.size) = some 1 := by kernel_rfl
theorem z_laws_Image : zeroOf Tryz.prog 24 = some (.agg #[.slice none 0 0]) := by kernel_rfl
theorem agg_laws_Mem : aggOf Tryz.prog 27 2 = true := by kernel_rfl
theorem sz_laws_Mem : (Tryz.prog.info? 27).map (·.size) = some 2 := by kernel_rfl
theorem z_laws_Mem : zeroOf Tryz.prog 27 = some (.agg #[.slice none 0 0, .int .i64 0]) := by kernel_rfl
theorem agg_laws_Cpu : aggOf Tryz.prog 29 8 = true := by kernel_rfl
theorem sz_laws_Cpu : (Tryz.prog.info? 29).map (·.size) = some 8 := by kernel_rfl
theorem z_laws_Cpu : zeroOf Tryz.prog 29 = some (.agg #[.int .i64 0, .int .i64 0, .int .i64 0, .int .i64 0, .bool false, .bool false, .bool false, .bool false]) := by kernel_rfl
theorem agg_laws_Ppu : aggOf Tryz.prog 31 8 = true := by kernel_rfl
theorem sz_laws_Ppu : (Tryz.prog.info? 31).map (·.size) = some 8 := by kernel_rfl
theorem z_laws_Ppu : zeroOf Tryz.prog 31 = some (.agg #[.int .i64 0, .int .i64 0, .int .i64 0, .int .i64 0, .int .i64 0, .bool false, .slice none 0 0, .slice none 0 0]) := by kernel_rfl
theorem agg_laws_Apu : aggOf Tryz.prog 33 7 = true := by kernel_rfl
theorem sz_laws_Apu : (Tryz.prog.info? 33).map (·.size) = some 7 := by kernel_rfl
theorem z_laws_Apu : zeroOf Tryz.prog 33 = some (.agg #[.int .i64 0, .int .i64 0, .int .i64 0, .int .i64 0, .int .i64 0, .bool false, .bool false]) := by kernel_rfl
theorem agg_laws_Pad : aggOf Tryz.prog 35 2 = true := by kernel_rfl
theorem sz_laws_Pad : (Tryz.prog.info? 35).map (·.size) = some 2 := by kernel_rfl
theorem z_laws_Pad : zeroOf Tryz.prog 35 = some (.agg #[.bool false, .int .i64 0]) := by kernel_rfl
theorem agg_laws_Obs : aggOf Tryz.prog 37 3 = true := by kernel_rfl
theorem sz_laws_Obs : (Tryz.prog.info? 37).map (·.size) = some 3 := by kernel_rfl
theorem z_laws_Obs : zeroOf Tryz.prog 37 = some (.agg #[.slice none 0 0, .slice none 0 0, .slice none 0 0]) := by kernel_rfl
theorem agg_laws_Lock : aggOf Tryz.prog 39 34 = true := by kernel_rfl
theorem sz_laws_Lock : (Tryz.prog.info? 39).map (·.size) = some 34 := by kernel_rfl
theorem z_laws_Lock : zeroOf Tryz.prog 39 = some (.agg #[.slice none 0 0, .slice none 0 0, .slice none 0 0, .int .i64 0, .int .i64 0, .int .i64 0, .int .i64 0, .int .i64 0, .bool false, .bool false, .bool false, .bool false, .int .i64 0, .int .i64 0, .int .i64 0, .int .i64 0, .int .i64 0, .bool false, .slice none 0 0, .slice none 0 0, .int .i64 0, .int .i64 0, .int .i64 0, .int .i64 0, .int .i64 0, .bool false, .bool false, .bool false, .int .i64 0, .bool false, .int .i64 0, .slice none 0 0, .slice none 0 0, .slice none 0 0]) := by kernel_rfl
theorem agg_laws_Rec : aggOf Tryz.prog 226 3 = true := by kernel_rfl
theorem sz_laws_Rec : (Tryz.prog.info? 226).map (·.size) = some 3 := by kernel_rfl
theorem z_laws_Rec : zeroOf Tryz.prog 226 = some (.agg #[.int .i64 0, .int .i64 0, .int .i64 0]) := by kernel_rfl
theorem agg_laws_Ring : aggOf Tryz.prog 84 2 = true := by kernel_rfl
theorem sz_laws_Ring : (Tryz.prog.info? 84).map (·.size) = some 2 := by kernel_rfl
theorem z_laws_Ring : zeroOf Tryz.prog 84 = some (.agg #[.int .i64 0, .slice none 0 0]) := by kernel_rfl
theorem agg_laws_Picture : aggOf Tryz.prog 86 11 = true := by kernel_rfl
theorem sz_laws_Picture : (Tryz.prog.info? 86).map (·.size) = some 11 := by kernel_rfl
theorem z_laws_Picture : zeroOf Tryz.prog 86 = some (.agg #[.int .i64 0, .int .i64 0, .int .i64 0, .int .i64 0, .int .i64 0, .bool false, .slice none 0 0, .slice none 0 0, .int .i64 0, .slice none 0 0, .slice none 0 0]) := by kernel_rfl
theorem agg_laws_Sound : aggOf Tryz.prog 88 10 = true := by kernel_rfl
theorem sz_laws_Sound : (Tryz.prog.info? 88).map (·.size) = some 10 := by kernel_rfl
theorem z_laws_Sound : zeroOf Tryz.prog 88 = some (.agg #[.int .i64 0, .int .i64 0, .int .i64 0, .int .i64 0, .int .i64 0, .bool false, .bool false, .int .i64 0, .slice none 0 0, .slice none 0 0]) := by kernel_rfl
theorem agg_laws_Split : aggOf Tryz.prog 90 42 = true := by kernel_rfl
theorem sz_laws_Split : (Tryz.prog.info? 90).map (·.size) = some 42 := by kernel_rfl
theorem z_laws_Split : zeroOf Tryz.prog 90 = some (.agg #[.slice none 0 0, .slice none 0 0, .slice none 0 0, .int .i64 0, .int .i64 0, .int .i64 0, .int .i64 0, .int .i64 0, .bool false, .bool false, .bool false, .bool false, .bool false, .int .i64 0, .int .i64 0, .bool false, .int .i64 0, .bool false, .int .i64 0, .int .i64 0, .slice none 0 0, .int .i64 0, .int .i64 0, .int .i64 0, .int .i64 0, .int .i64 0, .bool false, .slice none 0 0, .slice none 0 0, .int .i64 0, .slice none 0 0, .slice none 0 0, .int .i64 0, .int .i64 0, .int .i64 0, .int .i64 0, .int .i64 0, .bool false, .bool false, .int .i64 0, .slice none 0 0, .slice none 0 0]) := by kernel_rfl
/-! ## the same as tables -/
def aggTab : Nat → Option Nat
  | 41 => some 1
  | 42 => some 2
  | 43 => some 8
  | 166 => some 2
  | 44 => some 8
  | 45 => some 7
  | 46 => some 2
  | 47 => some 3
  | 49 => some 34
  | 205 => some 3
  | 64 => some 2
  | 66 => some 11
  | 68 => some 10
  | 70 => some 42
  | 24 => some 1
  | 27 => some 2
  | 29 => some 8
  | 31 => some 8
  | 33 => some 7
  | 35 => some 2
  | 37 => some 3
  | 39 => some 34
  | 226 => some 3
  | 84 => some 2
  | 86 => some 11
  | 88 => some 10
  | 90 => some 42
  | _ => none
def oneTab : Nat → Bool
  | 3 => true
  | 4 => true
  | 25 => true
  | 22 => true
  | 62 => true
  | 82 => true
  | _ => false
def szTab : Nat → Option Nat
  | 3 => some 1
  | 4 => some 1
  | 25 => some 1
  | 22 => some 1
  | 62 => some 1
  | 82 => some 1
  | 41 => some 1
  | 42 => some 2
  | 43 => some 8
  | 166 => some 2
  | 44 => some 8
  | 45 => some 7
  | 46 => some 2
  | 47 => some 3
  | 49 => some 34
  | 205 => some 3
  | 64 => some 2
  | 66 => some 11
  | 68 => some 10
  | 70 => some 42
  | 24 => some 1
  | 27 => some 2
  | 29 => some 8
  | 31 => some 8
  | 33 => some 7
  | 35 => some 2
  | 37 => some 3
  | 39 => some 34
  | 226 => some 3
  | 84 => some 2
  | 86 => some 11
  | 88 => some 10
  | 90 => some 42
  | _ => none
def zTab : Nat → Option Value
  | 3 => some (.int .i64 0)
  | 4 => some (.bool false)
  | 25 => some (.slice none 0 0)
  | 22 => some (.slice none 0 0)
  | 62 => some (.slice none 0 0)
  | 82 => some (.slice none 0 0)
  | 41 => some (.agg #[.slice none 0 0])
  | 42 => some (.agg #[.slice none 0 0, .int .i64 0])
  | 43 => some (.agg #[.int .i64 0, .int .i64 0, .int .i64 0, .int .i64 0, .bool false, .bool false, .bool false, .bool false])
  | 166 => some (.agg #[.int .i64 0, .int .i64 0])
  | 44 => some (.agg #[.int .i64 0, .int .i64 0, .int .i64 0, .int .i64 0, .int .i64 0, .bool false, .slice none 0 0, .slice none 0 0])
  | 45 => some (.agg #[.int .i64 0, .int .i64 0, .int .i64 0, .int .i64 0, .int .i64 0, .bool false, .bool false])
  | 46 => some (.agg #[.bool false, .int .i64 0])
  | 47 => some (.agg #[.slice none 0 0, .slice none 0 0, .slice none 0 0])
  | 49 => some (.agg #[.slice none 0 0, .slice none 0 0, .slice none 0 0, .int .i64 0, .int .i64 0, .int .i64 0, .int .i64 0, .int .i64 0, .bool false, .bool false, .bool false, .bool false, .int .i64 0, .int .i64 0, .int .i64 0, .int .i64 0, .int .i64 0, .bool false, .slice none 0 0, .slice none 0 0, .int .i64 0, .int .i64 0, .int .i64 0, .int .i64 0, .int .i64 0, .bool false, .bool false, .bool false, .int .i64 0, .bool false, .int .i64 0, .slice none 0 0, .slice none 0 0, .slice none 0 0])
  | 205 => some (.agg #[.int .i64 0, .int .i64 0, .int .i64 0])
  | 64 => some (.agg #[.int .i64 0, .slice none 0 0])
  | 66 => some (.agg #[.int .i64 0, .int .i64 0, .int .i64 0, .int .i64 0, .int .i64 0, .bool false, .slice none 0 0, .slice none 0 0, .int .i64 0, .slice none 0 0, .slice none 0 0])
  | 68 => some (.agg #[.int .i64 0, .int .i64 0, .int .i64 0, .int .i64 0, .int .i64 0, .bool false, .bool false, .int .i64 0, .slice none 0 0, .slice none 0 0])
  | 70 => some (.agg #[.slice none 0 0, .slice none 0 0, .slice none 0 0, .int .i64 0, .int .i64 0, .int .i64 0, .int .i64 0, .int .i64 0, .bool false, .bool false, .bool false, .bool false, .bool false, .int .i64 0, .int .i64 0, .bool false, .int .i64 0, .bool false, .int .i64 0, .int .i64 0, .slice none 0 0, .int .i64 0, .int .i64 0, .int .i64 0, .int .i64 0, .int .i64 0, .bool false, .slice none 0 0, .slice none 0 0, .int .i64 0, .slice none 0 0, .slice none 0 0, .int .i64 0, .int .i64 0, .int .i64 0, .int .i64 0, .int .i64 0, .bool false, .bool false, .int .i64 0, .slice none 0 0, .slice none 0 0])
  | 24 => some (.agg #[.slice none 0 0])
  | 27 => some (.agg #[.slice none 0 0, .int .i64 0])
  | 29 => some (.agg #[.int .i64 0, .int .i64 0, .int .i64 0, .int .i64 0, .bool false, .bool false, .bool false, .bool false])
  | 31 => some (.agg #[.int .i64 0, .int .i64 0, .int .i64 0, .int .i64 0, .int .i64 0, .bool false, .slice none 0 0, .slice none 0 0])
  | 33 => some (.agg #[.int .i64 0, .int .i64 0, .int .i64 0, .int .i64 0, .int .i64 0, .bool false, .bool false])
  | 35 => some (.agg #[.bool false, .int .i64 0])
  | 37 => some (.agg #[.slice none 0 0, .slice none 0 0, .slice none 0 0])
  | 39 => some (.agg #[.slice none 0 0, .slice none 0 0, .slice none 0 0, .int .i64 0, .int .i64 0, .int .i64 0, .int .i64 0, .int .i64 0, .bool false, .bool false, .bool false, .bool false, .int .i64 0, .int .i64 0, .int .i64 0, .int .i64 0, .int .i64 0, .bool false, .slice none 0 0, .slice none 0 0, .int .i64 0, .int .i64 0, .int .i64 0, .int .i64 0, .int .i64 0, .bool false, .bool false, .bool false, .int .i64 0, .bool false, .int .i64 0, .slice none 0 0, .slice none 0 0, .slice none 0 0])
  | 226 => some (.agg #[.int .i64 0, .int .i64 0, .int .i64 0])
  | 84 => some (.agg #[.int .i64 0, .slice none 0 0])
  | 86 => some (.agg #[.int .i64 0, .int .i64 0, .int .i64 0, .int .i64 0, .int .i64 0, .bool false, .slice none 0 0, .slice none 0 0, .int .i64 0, .slice none 0 0, .slice none 0 0])
  | 88 => some (.agg #[.int .i64 0, .int .i64 0, .int .i64 0, .int .i64 0, .int .i64 0, .bool false, .bool false, .int .i64 0, .slice none 0 0, .slice none 0 0])
  | 90 => some (.agg #[.slice none 0 0, .slice none 0 0, .slice none 0 0, .int .i64 0, .int .i64 0, .int .i64 0, .int .i64 0, .int .i64 0, .bool false, .bool false, .bool false, .bool false, .bool false, .int .i64 0, .int .i64 0, .bool false, .int .i64 0, .bool false, .int .i64 0, .int .i64 0, .slice none 0 0, .int .i64 0, .int .i64 0, .int .i64 0, .int .i64 0, .int .i64 0, .bool false, .slice none 0 0, .slice none 0 0, .int .i64 0, .slice none 0 0, .slice none 0 0, .int .i64 0, .int .i64 0, .int .i64 0, .int .i64 0, .int .i64 0, .bool false, .bool false, .int .i64 0, .slice none 0 0, .slice none 0 0])
  | _ => none
theorem aggT {T : TypeId} {n : Nat} (h : aggTab T = some n) : aggOf Tryz.prog T n = true := by
  unfold aggTab at h
  split at h <;> first | (injection h with h; subst h; kernel_rfl) | cases h
theorem oneT {T : TypeId} (h : oneTab T = true) : oneOf Tryz.prog T = true := by
  unfold oneTab at h
  split at h <;> first | (exact absurd h (by decide)) | kernel_rfl
theorem szT {T : TypeId} {n : Nat} (h : szTab T = some n) : (Tryz.prog.info? T).map (·.size) = some n := by
  unfold szTab at h
  split at h <;> first | (injection h with h; subst h; kernel_rfl) | cases h
theorem zT {T : TypeId} {v : Value} (h : zTab T = some v) : zeroOf Tryz.prog T = some v := by
  unfold zTab at h
  split at h <;> first | (injection h with h; subst h; kernel_rfl) | cases h
/-! ## loads, stores, new variables, in short -/
section
variable {ops : Array Oper} {rest : List Oper} {o : Oper} {a : Act} {Q : Exit → Act → World → Prop} {w0 W : World} {S : List Nat} {l l' : List Ast}
theorem ev_ld1 (H : St w0 S W l) (hgd : Region.wanted o (yielded ops a.tmps) = true) {T : TypeId} {x : Operand} (ho : o.op = .load T x) {g off : Nat} (hx : a.eval x = .pointer (some ⟨g, off, none⟩)) {cs : List Value} {v : Value} {U : TypeId}
    (h : wpList Tryz.prog ops Q rest (a.put o.dst v) W) (hk : Pick (Ast.blk g cs U) l l' := by (repeat (first | (with_reducible exact Pick.here) | (with_reducible apply Pick.there)))) (hT : oneOf Tryz.prog T = true := by exact oneT rfl) (hv : cs[off]? = some v := by rfl) : wpList Tryz.prog ops Q (o :: rest) a W := ev_load_one H hgd ho hx hk hT hv h
theorem ev_lda (H : St w0 S W l) (hgd : Region.wanted o (yielded ops a.tmps) = true) {T : TypeId} {x : Operand} (ho : o.op = .load T x) {g off n : Nat} (hx : a.eval x = .pointer (some ⟨g, off, none⟩)) {cs vs : List Value} {U : TypeId}
    (h : wpList Tryz.prog ops Q rest (a.put o.dst (.agg vs.toArray)) W) (hk : Pick (Ast.blk g cs U) l l' := by (repeat (first | (with_reducible exact Pick.here) | (with_reducible apply Pick.there)))) (hT : aggOf Tryz.prog T n = true := by exact aggT rfl) (hv : (cs.drop off).take n = vs := by first | (simp only [List.take_succ_cons, List.take_zero, List.drop_succ_cons, List.drop_zero, List.cons_append, List.nil_append, Nat.reduceAdd]; rfl)) (hn : vs.length = n := by rfl) : wpList Tryz.prog ops Q (o :: rest) a W := ev_load_agg H hgd ho hx hk hT hv hn h
theorem ev_sto (H : St w0 S W l) (hgd : Region.wanted o (yielded ops a.tmps) = true) {T : TypeId} {x y : Operand} (ho : o.op = .store T x y) {g off n : Nat} (hx : a.eval x = .pointer (some ⟨g, off, none⟩)) {v : Value} {cs cs' vs : List Value} {U : TypeId} (hy : a.eval y = v) (hv : v.cells = vs.toArray)
    (h : ∀ W1, St w0 S W1 (Ast.blk g cs' U :: l') → wpList Tryz.prog ops Q rest (a.put o.dst undef) W1) (hk : Pick (Ast.blk g cs U) l l' := by (repeat (first | (with_reducible exact Pick.here) | (with_reducible apply Pick.there))))
    (hT : (Tryz.prog.info? T).map (·.size) = some n := by exact szT rfl) (hn : vs.length = n := by rfl) (hl : off + n ≤ cs.length := by exact Nat.le_of_ble_eq_true rfl) (h1 : vs.all (·.oneCell') = true := by rfl) (hcs : cs.take off ++ vs ++ cs.drop (off + n) = cs' := by (simp only [Value.cells, List.take_succ_cons, List.take_zero, List.drop_succ_cons, List.drop_zero, List.drop_nil, List.cons_append, List.nil_append, List.append_nil, Nat.reduceAdd]; rfl)) : wpList Tryz.prog ops Q (o :: rest) a W := ev_store H hgd ho hx hy hv hk hT hn hl h1 hcs h
theorem ev_new (H : St w0 S W l) (hgd : Region.wanted o (yielded ops a.tmps) = true) {T : TypeId} (ho : o.op = .alloc T) {z : Value} {cs : List Value}
    (h : ∀ g W1, St w0 S W1 (Ast.blk g cs T :: l) → wpList Tryz.prog ops Q rest (a.put o.dst (.pointer (some ⟨g, 0, none⟩))) W1) (hz : zeroOf Tryz.prog T = some z := by exact zT rfl) (hcs : z.cells = cs.toArray := by rfl) : wpList Tryz.prog ops Q (o :: rest) a W := ev_alloc H hgd ho hz hcs h
end
end Go.Proofs.YtjgggmcnbdjdjaaGreat.K
