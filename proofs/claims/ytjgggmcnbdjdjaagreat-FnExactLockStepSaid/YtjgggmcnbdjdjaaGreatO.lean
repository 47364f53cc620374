/- Words of my own for the contracts of this seat: whole numbers, worlds, boxes. -/
import Derived.Test.YtjgggmcnbdjdjaaGreatProg
import Derived.Below
import Derived.OwnWalk
import Derived.Tactics
import Derived.WalkKit
import Derived.KernelRfl
import Derived.RowKit3
import Derived.Deep.LoopGhost
import Derived.Deep.QuietTactic
import Derived.BigQuiet
import Derived.Deep.DeepCutAuto
import Derived.Deep.CutBlock
import Derived.Laws.BitsLemmas
import Derived.Lib.Hide
import Derived.BigCall
import Derived.Deep.MidRow
import Derived.Laws.CopyRow
import Derived.Laws.OwnMore
import Derived.Laws.MakeOwn
import Derived.Deep.AppendLies
import Derived.ProofKit
import Derived.OpenShut
import Derived.ChangeOld
import Derived.SizedLaws
import Derived.ChangeArms
import Derived.Deep.Slices
namespace Go.Proofs.YtjgggmcnbdjdjaaGreat.K
open Go.RowKit
set_option maxRecDepth 20000
set_option linter.unusedVariables false
set_option linter.unusedSimpArgs false

/-! ## 1. Go's max and min -/
theorem max2_int (k k' : IntKind) (x y : Int) : Builtin.max2 (.int k x) (.int k' y) = pure (.int k (if x < y then y else x)) := by simp only [Builtin.max2, gt_iff_lt]
theorem min2_int (k k' : IntKind) (x y : Int) : Builtin.min2 (.int k x) (.int k' y) = pure (.int k (if y < x then y else x)) := by simp only [Builtin.min2]
theorem max_two (ats : Array TypeId) (ty : TypeId) (a b : Value) : Builtin.max_ ats ty #[a, b] = (Builtin.max2 a b >>= fun s => pure s) := by simp only [Builtin.max_, List.foldlM_cons, List.foldlM_nil]
theorem min_two (ats : Array TypeId) (ty : TypeId) (a b : Value) : Builtin.min_ ats ty #[a, b] = (Builtin.min2 a b >>= fun s => pure s) := by simp only [Builtin.min_, List.foldlM_cons, List.foldlM_nil]

/-! ## 2. Whole numbers -/
theorem wr {x : Int} (h1 : -9223372036854775808 ≤ x) (h2 : x ≤ 9223372036854775807) : wrap64 x = x := by unfold wrap64; omega
theorem tm {a b : Int} (ha : 0 ≤ a) : Int.tmod a b = a % b := Int.tmod_eq_emod_of_nonneg ha
def inB (n lo hi : Int) : Bool := decide (lo ≤ n) && decide (n ≤ hi)
theorem inB_ge {n lo hi : Int} (h : n < lo) : inB n lo hi = false := by simp [inB]; omega
theorem inB_le {n lo hi : Int} (h : lo ≤ n) : inB n lo hi = decide (n ≤ hi) := by simp [inB, h]
theorem inB_iff {n lo hi : Int} : inB n lo hi = true ↔ lo ≤ n ∧ n ≤ hi := by simp [inB]
theorem i64_and255 (n : Int) : bits .and .i64 n 255 = n % 256 := by
  have h127 : (BitVec.ofInt 64 255).toNat = 2 ^ 8 - 1 := by decide
  have key : (BitVec.ofInt 64 n &&& BitVec.ofInt 64 255).toNat = (n % ((2 ^ 64 : Nat) : Int)).toNat % 2 ^ 8 := by
    rw [BitVec.toNat_and, BitVec.toNat_ofInt, h127, Nat.and_two_pow_sub_one_eq_mod]
  show IntKind.i64.wrap ((BitVec.ofInt 64 n &&& BitVec.ofInt 64 255).toNat : Nat) = n % 256
  rw [key, IntKind.wrap_i64]
  omega
theorem i64_and65535 (n : Int) : bits .and .i64 n 65535 = n % 65536 := by
  have h127 : (BitVec.ofInt 64 65535).toNat = 2 ^ 16 - 1 := by decide
  have key : (BitVec.ofInt 64 n &&& BitVec.ofInt 64 65535).toNat = (n % ((2 ^ 64 : Nat) : Int)).toNat % 2 ^ 16 := by
    rw [BitVec.toNat_and, BitVec.toNat_ofInt, h127, Nat.and_two_pow_sub_one_eq_mod]
  show IntKind.i64.wrap ((BitVec.ofInt 64 n &&& BitVec.ofInt 64 65535).toNat : Nat) = n % 65536
  rw [key, IntKind.wrap_i64]
  omega
theorem i64_and1 (n : Int) : bits .and .i64 n 1 = n % 2 := by
  have h127 : (BitVec.ofInt 64 1).toNat = 2 ^ 1 - 1 := by decide
  have key : (BitVec.ofInt 64 n &&& BitVec.ofInt 64 1).toNat = (n % ((2 ^ 64 : Nat) : Int)).toNat % 2 ^ 1 := by
    rw [BitVec.toNat_and, BitVec.toNat_ofInt, h127, Nat.and_two_pow_sub_one_eq_mod]
  show IntKind.i64.wrap ((BitVec.ofInt 64 n &&& BitVec.ofInt 64 1).toNat : Nat) = n % 2
  rw [key, IntKind.wrap_i64]
  omega

/-! ## 3. What is returned -/
theorem ret_b {a b : Bool} (h : a = b) : Ending.returned (.bool a) = .returned (.bool b) := by rw [h]
theorem ret_i {a b : Int} (h : a = b) : Ending.returned (.int .i64 a) = .returned (.int .i64 b) := by rw [h]

/-! ## 4. Worlds -/
theorem bA {w W : World} (h : Below w.heap.size w W) (o : Obj) : Below w.heap.size w (W.alloc o) := h.alloc h.size o
theorem bD {B : Nat} {w W : World} (h : Below B w W) (n : Nat) : Below B w (W.drewN n) := ⟨h.os, h.tape, h.output, h.size, h.block⟩
theorem bd {B : Nat} {w W : World} (h : Below B w W) : Below B w W.drew := ⟨h.os, h.tape, h.output, h.size, h.block⟩
end Go.Proofs.YtjgggmcnbdjdjaaGreat.K

/- Words of my own for memory: what is known of blocks (assertions with a footprint), carried over whatever a call does; the operations on variables. -/
namespace Go.Proofs.YtjgggmcnbdjdjaaGreat.K
open Go.RowKit
set_option maxRecDepth 20000
set_option linter.unusedVariables false
set_option linter.unusedSimpArgs false

/-- Something known of memory, and the blocks on which alone it hangs. -/
structure Ast where
  fp : List Nat
  p : World → Prop
  st : ∀ w w' : World, (∀ b, b ∈ fp → w'.heap[b]? = w.heap[b]?) → p w → p w'
  lv : ∀ w : World, p w → ∀ b, b ∈ fp → b < w.heap.size

/-- Block g has just these cells. -/
def Ast.blk (g : Nat) (cs : List Value) (T : TypeId) : Ast where
  fp := [g]
  p w := w.heap[g]? = some (.cells cs.toArray T (0, 0))
  st w w' h hp := (h g (List.mem_singleton.2 rfl)).trans hp
  lv w hp b hb := by rw [List.mem_singleton.1 hb]; exact (Array.getElem?_eq_some_iff.1 hp).1

/-- From w0 to W only blocks of S and new ones were turned; in W all of l holds, each in blocks of its own, which are of S or new. -/
structure St (w0 : World) (S : List Nat) (W : World) (l : List Ast) : Prop where
  os : W.os = w0.os
  tape : W.tape = w0.tape
  output : W.output = w0.output
  size : w0.heap.size ≤ W.heap.size
  block : ∀ k, k < w0.heap.size → k ∉ S → W.heap[k]? = w0.heap[k]?
  hp : ∀ a, a ∈ l → a.p W
  nd : (l.flatMap Ast.fp).Nodup
  own : ∀ a, a ∈ l → ∀ b, b ∈ a.fp → b ∈ S ∨ w0.heap.size ≤ b

theorem St.nil (w : World) (S : List Nat) : St w S w [] := ⟨rfl, rfl, rfl, Nat.le_refl _, fun _ _ _ => rfl, (fun _ h => by cases h), by simp, (fun _ h => by cases h)⟩
theorem St.below {w W : World} {l : List Ast} (h : St w [] W l) : Below w.heap.size w W := ⟨h.os, h.tape, h.output, h.size, fun k hk => h.block k hk (by simp)⟩
theorem St.heap {w0 W W' : World} {S : List Nat} {l : List Ast} (h : St w0 S W l) (ho : W'.os = W.os) (ht : W'.tape = W.tape) (hu : W'.output = W.output) (hh : W'.heap = W.heap) : St w0 S W' l :=
  ⟨ho.trans h.os, ht.trans h.tape, hu.trans h.output, by rw [hh]; exact h.size, fun k h1 h2 => by rw [hh]; exact h.block k h1 h2, fun a ha => a.st W W' (fun b _ => by rw [hh]) (h.hp a ha), h.nd, h.own⟩
theorem St.drewN {w0 W : World} {S : List Nat} {l : List Ast} (h : St w0 S W l) (n : Nat) : St w0 S (W.drewN n) l := h.heap rfl rfl rfl rfl
theorem St.drew {w0 W : World} {S : List Nat} {l : List Ast} (h : St w0 S W l) : St w0 S W.drew l := h.heap rfl rfl rfl rfl

/-! ## picking one of what is known -/
inductive Pick (x : Ast) : List Ast → List Ast → Prop
  | here {l : List Ast} : Pick x (x :: l) l
  | there {y : Ast} {l l' : List Ast} (h : Pick x l l') : Pick x (y :: l) (y :: l')
inductive Picks : List Ast → List Ast → List Ast → Prop
  | nil {l : List Ast} : Picks [] l l
  | cons {x : Ast} {xs l l' l'' : List Ast} (h : Pick x l l') (t : Picks xs l' l'') : Picks (x :: xs) l l''
theorem Pick.perm {x : Ast} {l l' : List Ast} (h : Pick x l l') : l.Perm (x :: l') := by
  induction h with
  | here => exact List.Perm.refl _
  | there h ih => exact (ih.cons _).trans (List.Perm.swap _ _ _)
theorem Picks.perm {xs l l' : List Ast} (h : Picks xs l l') : l.Perm (xs ++ l') := by
  induction h with
  | nil => exact List.Perm.refl _
  | cons h t ih => exact h.perm.trans (ih.cons _)
theorem St.perm {w0 W : World} {S : List Nat} {l l' : List Ast} (h : St w0 S W l) (k : l.Perm l') : St w0 S W l' :=
  ⟨h.os, h.tape, h.output, h.size, h.block, fun a ha => h.hp a (k.mem_iff.2 ha), (k.flatMap_right _).nodup_iff.1 h.nd, fun a ha => h.own a (k.mem_iff.2 ha)⟩
theorem St.pick {w0 W : World} {S : List Nat} {l l' : List Ast} {x : Ast} (h : St w0 S W l) (k : Pick x l l') : St w0 S W (x :: l') := h.perm k.perm
theorem St.picks {w0 W : World} {S : List Nat} {xs l l' : List Ast} (h : St w0 S W l) (k : Picks xs l l') : St w0 S W (xs ++ l') := h.perm k.perm
theorem St.left {w0 W : World} {S : List Nat} {l l' : List Ast} (h : St w0 S W (l ++ l')) : St w0 S W l :=
  ⟨h.os, h.tape, h.output, h.size, h.block, fun a ha => h.hp a (List.mem_append_left _ ha), by have := h.nd; rw [List.flatMap_append] at this; exact (List.nodup_append.1 this).1, fun a ha => h.own a (List.mem_append_left _ ha)⟩
theorem St.take {w0 W : World} {S : List Nat} {xs l l' : List Ast} (h : St w0 S W l) (k : Picks xs l l') : St w0 S W xs := (h.picks k).left
theorem St.get {w0 W : World} {S : List Nat} {l l' : List Ast} {x : Ast} (h : St w0 S W l) (k : Pick x l l') : x.p W := h.hp x (k.perm.mem_iff.2 List.mem_cons_self)
theorem St.cast {w0 W : World} {S : List Nat} {l l' : List Ast} (h : St w0 S W l) (e : l = l') : St w0 S W l' := e ▸ h
theorem St.drop {w0 W : World} {S : List Nat} {l : List Ast} {x : Ast} (h : St w0 S W (x :: l)) : St w0 S W l :=
  ((h.perm (l' := l ++ [x]) (List.perm_append_singleton x l).symm)).left

/-- What held before the call, of blocks that were not turned. -/
theorem St.old {w0 W : World} {S : List Nat} {l : List Ast} (h : St w0 S W l) (a : Ast) (ha : a.p w0) (hS : ∀ b, b ∈ a.fp → b ∉ S) : a.p W :=
  a.st w0 W (fun b hb => h.block b (a.lv w0 ha b hb) (hS b hb)) ha
theorem St.old0 {w0 W : World} {l : List Ast} (h : St w0 [] W l) {a : Ast} (ha : a.p w0) : a.p W := h.old a ha (by simp)

/-! ## calls -/
/-- A callee that turns blocks of t alone (and new ones). -/
theorem St.callS {w0 W W1 : World} {S S1 : List Nat} {t l l1 : List Ast} (h : St w0 S W (t ++ l)) (k : St W S1 W1 l1) (hS : ∀ b, b ∈ S1 → b ∈ t.flatMap Ast.fp) : St w0 S W1 (l1 ++ l) := by
  have hnd := h.nd
  rw [List.flatMap_append] at hnd
  have hdis := (List.nodup_append.1 hnd).2.2
  have hown : ∀ b, b ∈ S1 → b ∈ S ∨ w0.heap.size ≤ b := fun b hb => by
    obtain ⟨a, ha, hab⟩ := List.mem_flatMap.1 (hS b hb)
    exact h.own a (List.mem_append_left _ ha) b hab
  have hfar : ∀ a, a ∈ l → ∀ b, b ∈ a.fp → b ∉ S1 ∧ b < W.heap.size := fun a ha b hb =>
    ⟨fun hb1 => hdis b (hS b hb1) b (List.mem_flatMap.2 ⟨a, ha, hb⟩) rfl, a.lv W (h.hp a (List.mem_append_right _ ha)) b hb⟩
  refine ⟨k.os.trans h.os, k.tape.trans h.tape, k.output.trans h.output, Nat.le_trans h.size k.size, fun i h1 h2 => ?_, fun a ha => ?_, ?_, fun a ha b hb => ?_⟩
  · refine (k.block i (Nat.lt_of_lt_of_le h1 h.size) (fun hi => ?_)).trans (h.block i h1 h2)
    rcases hown i hi with h3 | h3
    · exact h2 h3
    · omega
  · rcases List.mem_append.1 ha with ha | ha
    · exact k.hp a ha
    · exact a.st W W1 (fun b hb => k.block b (hfar a ha b hb).2 (hfar a ha b hb).1) (h.hp a (List.mem_append_right _ ha))
  · rw [List.flatMap_append]
    refine List.nodup_append.2 ⟨k.nd, (List.nodup_append.1 hnd).2.1, fun b hb b' hb' hbb => ?_⟩
    subst hbb
    obtain ⟨a, ha, hab⟩ := List.mem_flatMap.1 hb
    obtain ⟨a', ha', hab'⟩ := List.mem_flatMap.1 hb'
    have := hfar a' ha' b hab'
    rcases k.own a ha b hab with h3 | h3
    · exact this.1 h3
    · omega
  · rcases List.mem_append.1 ha with ha | ha
    · rcases k.own a ha b hb with h3 | h3
      · exact hown b h3
      · exact .inr (Nat.le_trans h.size h3)
    · exact h.own a (List.mem_append_right _ ha) b hb
theorem St.call {w0 W W1 : World} {S : List Nat} {l l1 : List Ast} (h : St w0 S W l) (k : St W [] W1 l1) : St w0 S W1 (l1 ++ l) := St.callS (t := []) h k (by simp)
theorem St.callB {w0 W W1 : World} {S : List Nat} {l : List Ast} (h : St w0 S W l) (k : Below W.heap.size W W1) : St w0 S W1 l :=
  St.call (l1 := []) h ⟨k.os, k.tape, k.output, k.size, fun i hi _ => k.block i hi, (fun _ h => by cases h), by simp, (fun _ h => by cases h)⟩

/-- All of l holds in w, each in blocks of its own. -/
structure Hol (w : World) (l : List Ast) : Prop where
  hp : ∀ a, a ∈ l → a.p w
  nd : (l.flatMap Ast.fp).Nodup
theorem St.hol {w0 W : World} {S : List Nat} {l : List Ast} (h : St w0 S W l) : Hol W l := ⟨h.hp, h.nd⟩
theorem St.hol1 {w0 W : World} {S : List Nat} {a : Ast} {l : List Ast} (h : St w0 S W (a :: l)) : Hol W [a] := St.hol (St.left (l := [a]) h)
theorem St.up1 {w0 W W1 : World} {S S1 : List Nat} {a : Ast} {l l1 : List Ast} (h : St w0 S W (a :: l)) (k : St W S1 W1 l1) (hS : ∀ b, b ∈ S1 → b ∈ a.fp) : St w0 S W1 (l1 ++ l) :=
  St.callS (t := [a]) h k (by simpa using hS)
theorem St.upL {w0 W W1 : World} {S : List Nat} {t l l1 : List Ast} (h : St w0 S W (t ++ l)) (k : St W (t.flatMap Ast.fp) W1 l1) : St w0 S W1 (l1 ++ l) := St.callS h k (fun b hb => hb)
theorem St.holL {w0 W : World} {S : List Nat} {t l : List Ast} (h : St w0 S W (t ++ l)) : Hol W t := St.hol (St.left h)
theorem Hol.st {w : World} {l : List Ast} (h : Hol w l) : St w (l.flatMap Ast.fp) w l := ⟨rfl, rfl, rfl, Nat.le_refl _, fun _ _ _ => rfl, h.hp, h.nd, fun a ha b hb => .inl (List.mem_flatMap.2 ⟨a, ha, hb⟩)⟩

theorem St.n1 {w0 W : World} {S : List Nat} {a : Ast} {l : List Ast} (h : St w0 S W (a :: l)) : a.p W := h.hp a List.mem_cons_self
theorem St.n2 {w0 W : World} {S : List Nat} {a b : Ast} {l : List Ast} (h : St w0 S W (a :: b :: l)) : b.p W := h.drop.n1
theorem St.n3 {w0 W : World} {S : List Nat} {a b c : Ast} {l : List Ast} (h : St w0 S W (a :: b :: c :: l)) : c.p W := h.drop.n2
theorem St.n4 {w0 W : World} {S : List Nat} {a b c d : Ast} {l : List Ast} (h : St w0 S W (a :: b :: c :: d :: l)) : d.p W := h.drop.n3
/-- What the cells of a block are, one by one. -/
def cellsAll (w : World) (g : Nat) : Nat → List Value → Prop
  | _, [] => True
  | i, v :: vs => w.cell? ⟨g, i, none⟩ = some v ∧ cellsAll w g (i + 1) vs
theorem cellsAll_of {w : World} {g : Nat} {T : TypeId} {cs : List Value} (h : w.heap[g]? = some (.cells cs.toArray T (0, 0))) : ∀ (i : Nat) (l : List Value), (∀ j, l[j]? = cs[i + j]?) → cellsAll w g i l
  | _, [], _ => trivial
  | i, v :: vs, hl => by
    refine ⟨?_, cellsAll_of h (i + 1) vs fun j => by have := hl (j + 1); simpa [Nat.add_assoc, Nat.add_comm 1 j] using this⟩
    have h0 := hl 0
    simp only [List.getElem?_cons_zero, Nat.add_zero] at h0
    simp [World.cell?, h, ← h0]
theorem cells_of {w : World} {g : Nat} {T : TypeId} {cs : List Value} (h : (Ast.blk g cs T).p w) : cellsAll w g 0 cs := cellsAll_of h 0 cs fun j => by rw [Nat.zero_add]
theorem g_draw {P : Program} {id : Nat} {ops : Array Oper} {Q : Exit → Act → World → Prop} {a : Act} {w : World} (h : (Code.region id ops true).wp P Q a w) : (Code.region id ops true).wp P Q a w := h
theorem q_of {P : Program} {f : FuncId} {args : Array Value} {w : World} {v : Value} (h : Calls P f args w fun e w' => e = .returned v ∧ w = w') : Calls P f args w fun e w' => e = .returned v ∧ w' = w := h.mono fun _ _ ⟨a, b⟩ => ⟨a, b.symm⟩

/-! ## boxes -/
theorem St.box {w0 W : World} {S : List Nat} {l : List Ast} (h : St w0 S W l) (cs : List Value) (T : TypeId) : St w0 S (W.alloc (.cells cs.toArray T)) (Ast.blk W.heap.size cs T :: l) := by
  have hs : (W.alloc (.cells cs.toArray T)).heap.size = W.heap.size + 1 := by show (W.heap.push _).size = _; simp
  have ho : ∀ k, k < W.heap.size → (W.alloc (.cells cs.toArray T)).heap[k]? = W.heap[k]? := fun k hk => heap_alloc_old W _ hk
  have k : St W [] (W.alloc (.cells cs.toArray T)) [Ast.blk W.heap.size cs T] := by
    refine ⟨rfl, rfl, rfl, by omega, fun i hi _ => ho i hi, fun a ha => ?_, by simp [Ast.blk], fun a ha b hb => ?_⟩
    · rw [List.mem_singleton.1 ha]; exact heap_alloc_new W _
    · rw [List.mem_singleton.1 ha] at hb; rw [List.mem_singleton.1 hb]; exact .inr (Nat.le_refl _)
  exact h.call k
/-- A store into a block that is known. -/
theorem St.put {w0 W W1 : World} {S : List Nat} {l l' : List Ast} {g : Nat} {cs cs' : List Value} {T : TypeId} (h : St w0 S W l) (k : Pick (Ast.blk g cs T) l l') (ho : W1.os = W.os) (ht : W1.tape = W.tape) (hu : W1.output = W.output)
    (hsz : W1.heap.size = W.heap.size) (hoth : ∀ k, k ≠ g → W1.heap[k]? = W.heap[k]?) (hg : W1.heap[g]? = some (.cells cs'.toArray T (0, 0))) : St w0 S W1 (Ast.blk g cs' T :: l') := by
  refine St.callS (t := [Ast.blk g cs T]) (S1 := [g]) (l1 := [Ast.blk g cs' T]) (h.pick k) ⟨ho, ht, hu, by omega, fun i _ hi => hoth i (by simpa using hi), fun a ha => ?_, by simp [Ast.blk], fun a ha b hb => ?_⟩ (by simp [Ast.blk])
  · rw [List.mem_singleton.1 ha]; exact hg
  · rw [List.mem_singleton.1 ha] at hb; exact .inl hb

/-! ## the operations on variables -/
section
variable {P : Program} {ops : Array Oper} {rest : List Oper} {o : Oper} {a : Act} {Q : Exit → Act → World → Prop} {w0 W : World} {S : List Nat} {l l' : List Ast}
theorem g_box {T : TypeId} {x : Operand} (_ho : o.op = .box T x) (h : wpList P ops Q (o :: rest) a W) : wpList P ops Q (o :: rest) a W := h
theorem g_alloc {T : TypeId} (_ho : o.op = .alloc T) (h : wpList P ops Q (o :: rest) a W) : wpList P ops Q (o :: rest) a W := h
theorem g_load {T : TypeId} {x : Operand} (_ho : o.op = .load T x) (h : wpList P ops Q (o :: rest) a W) : wpList P ops Q (o :: rest) a W := h
theorem g_store {T : TypeId} {x y : Operand} (_ho : o.op = .store T x y) (h : wpList P ops Q (o :: rest) a W) : wpList P ops Q (o :: rest) a W := h
theorem ev_run {W1 : World} {v : Value} (hgd : Region.wanted o (yielded ops a.tmps) = true) (hrun : (execOp a.eval o).run P W = .ok (.value v) W1) (h : wpList P ops Q rest (a.put o.dst v) W1) : wpList P ops Q (o :: rest) a W := by
  refine BigFrame.wpList_want hgd fun K hK => ?_
  unfold Oper.wp
  rw [hrun]
  exact hK _ _ h
theorem ev_skip {W1 : World} (hgd : Region.wanted o (yielded ops a.tmps) = true) (hrun : (execOp a.eval o).run P W = .ok .skip W1) (h : wpList P ops Q rest (a.put o.dst undef) W1) : wpList P ops Q (o :: rest) a W := by
  refine BigFrame.wpList_want hgd fun K hK => ?_
  unfold Oper.wp
  rw [hrun]
  exact hK _ _ h
theorem run_newVar (T : TypeId) (v : Value) (W : World) : (newVar T v).run P W = .ok ⟨W.heap.size, 0, none⟩ (W.alloc (.cells v.cells T)) := by
  simp [newVar, newRow]
theorem ev_box (H : St w0 S W l) (hgd : Region.wanted o (yielded ops a.tmps) = true) {T : TypeId} {x : Operand} (ho : o.op = .box T x) {v : Value} (hx : a.eval x = v) {cs : List Value} (hcs : v.cells = cs.toArray)
    (h : ∀ g W1, St w0 S W1 (Ast.blk g cs T :: l) → wpList P ops Q rest (a.put o.dst (.pointer (some ⟨g, 0, none⟩))) W1) : wpList P ops Q (o :: rest) a W := by
  refine ev_run (W1 := W.alloc (.cells cs.toArray T)) hgd ?_ (h _ _ (H.box cs T))
  unfold execOp
  simp only [ho, hx, Instr.box, Sem.run_bind, run_newVar, hcs, Sem.run_pure, Result.andThen_ok]
/-- Of a type: what a new variable holds. -/
def zeroOf (P : Program) (T : TypeId) : Option Value := (P.info? T).bind (·.zero)
theorem run_zero {T : TypeId} {z : Value} (hz : zeroOf P T = some z) (W : World) : (zeroValue T).run P W = .ok z W := by
  unfold zeroOf at hz
  cases hi : P.info? T with
  | none => simp [hi] at hz
  | some i =>
    have hzz : i.zero = some z := by simpa [hi] using hz
    simp [zeroValue, typeInfo, hi, hzz]
theorem ev_alloc (H : St w0 S W l) (hgd : Region.wanted o (yielded ops a.tmps) = true) {T : TypeId} (ho : o.op = .alloc T) {z : Value} {cs : List Value} (hz : zeroOf P T = some z) (hcs : z.cells = cs.toArray)
    (h : ∀ g W1, St w0 S W1 (Ast.blk g cs T :: l) → wpList P ops Q rest (a.put o.dst (.pointer (some ⟨g, 0, none⟩))) W1) : wpList P ops Q (o :: rest) a W := by
  refine ev_run (W1 := W.alloc (.cells cs.toArray T)) hgd ?_ (h _ _ (H.box cs T))
  unfold execOp
  simp only [ho, Instr.alloc, Sem.run_bind, run_zero hz, run_newVar, hcs, Sem.run_pure, Result.andThen_ok]
/-- Of a type: is it a struct, and of how many cells? -/
def aggOf (P : Program) (T : TypeId) (n : Nat) : Bool :=
  (match P.underlying T with | some (.struct _) | some (.array _ _) => true | _ => false) && ((P.info? T).map (·.size) == some n)
def oneOf (P : Program) (T : TypeId) : Bool :=
  (match P.underlying T with | some (.struct _) | some (.array _ _) => false | some _ => true | none => false) && ((P.info? T).map (·.size) == some 1)
theorem run_load_agg {T : TypeId} {n g off : Nat} {cs vs : List Value} {U : TypeId} (hT : aggOf P T n = true) (hg : W.heap[g]? = some (.cells cs.toArray U (0, 0))) (hv : (cs.drop off).take n = vs) (hn : vs.length = n) :
    (loadVar T ⟨g, off, none⟩).run P W = .ok (.agg vs.toArray) W := by
  unfold aggOf at hT
  obtain ⟨h1, h2⟩ := (Bool.and_eq_true _ _).mp hT
  have hi : (P.info? T).map (·.size) = some vs.length := by rw [hn]; simpa using h2
  have hc : W.rangeAt g off vs := fun j v hj => by
    rw [cell_of_row W g (off + j) _ U (0, 0) hg]
    rw [← hv, List.getElem?_take] at hj
    split at hj
    · rw [List.getElem?_drop] at hj; simpa using hj
    · cases hj
  cases hu : P.underlying T with
  | none => rw [hu] at h1; cases h1
  | some d =>
    rw [hu] at h1
    refine run_loadVar_mid W g off T vs d hc hu ?_ hi
    cases d <;> simp_all
theorem run_load_one {T : TypeId} {g off : Nat} {cs : List Value} {v : Value} {U : TypeId} (hT : oneOf P T = true) (hg : W.heap[g]? = some (.cells cs.toArray U (0, 0))) (hv : cs[off]? = some v) :
    (loadVar T ⟨g, off, none⟩).run P W = .ok v W := by
  unfold oneOf at hT
  obtain ⟨h1, h2⟩ := (Bool.and_eq_true _ _).mp hT
  have hc : W.cell? ⟨g, off, none⟩ = some v := by rw [cell_of_row W g off _ U (0, 0) hg]; simpa using hv
  cases hu : P.underlying T with
  | none => rw [hu] at h1; cases h1
  | some d =>
    rw [hu] at h1
    have hagg : (isAgg T).run P W = .ok false W := by
      unfold isAgg
      rw [Sem.run_bind, run_underlying hu W]
      cases d <;> simp_all
    simp [loadVar, Sem.run_bind, hagg, run_load, hc]
theorem run_store_at {T : TypeId} {n g off : Nat} {cs cs' : List Value} {v : Value} {U : TypeId} (hT : (P.info? T).map (·.size) = some n) (hg : W.heap[g]? = some (.cells cs.toArray U (0, 0))) (hn : v.cells.size = n) (hl : off + n ≤ cs.length)
    (h1 : v.cells.toList.all (·.oneCell') = true) (hcs : cs.take off ++ v.cells.toList ++ cs.drop (off + n) = cs') :
    (storeVar T ⟨g, off, none⟩ v).run P W = .ok () (W.setRow g cs'.toArray) := by
  have hst := run_storeCells_at (P := P) g off U v.cells.toList 0 cs.toArray W hg (by simp; omega) (fun u hu => (List.all_eq_true.1 h1) u hu)
  cases hq : P.info? T with
  | none => simp [hq] at hT
  | some i =>
    have hs : i.size = n := by simpa [hq] using hT
    subst hcs
    simp only [Nat.add_zero, Array.length_toList, hn] at hst
    simp [storeVar, sizeOf, typeInfo, hq, hs, hn, hst]
theorem ev_load_agg (H : St w0 S W l) (hgd : Region.wanted o (yielded ops a.tmps) = true) {T : TypeId} {x : Operand} (ho : o.op = .load T x) {g off n : Nat} (hx : a.eval x = .pointer (some ⟨g, off, none⟩)) {cs vs : List Value} {U : TypeId} (hk : Pick (Ast.blk g cs U) l l')
    (hT : aggOf P T n = true) (hv : (cs.drop off).take n = vs) (hn : vs.length = n) (h : wpList P ops Q rest (a.put o.dst (.agg vs.toArray)) W) : wpList P ops Q (o :: rest) a W := by
  refine ev_run hgd ?_ h
  unfold execOp
  simp only [ho, hx, Instr.loadAt, Instr.sureAddr, Sem.run_bind, Sem.run_pure, Result.andThen_ok, run_load_agg hT (H.get hk) hv hn]
theorem ev_load_one (H : St w0 S W l) (hgd : Region.wanted o (yielded ops a.tmps) = true) {T : TypeId} {x : Operand} (ho : o.op = .load T x) {g off : Nat} (hx : a.eval x = .pointer (some ⟨g, off, none⟩)) {cs : List Value} {v : Value} {U : TypeId} (hk : Pick (Ast.blk g cs U) l l')
    (hT : oneOf P T = true) (hv : cs[off]? = some v) (h : wpList P ops Q rest (a.put o.dst v) W) : wpList P ops Q (o :: rest) a W := by
  refine ev_run hgd ?_ h
  unfold execOp
  simp only [ho, hx, Instr.loadAt, Instr.sureAddr, Sem.run_bind, Sem.run_pure, Result.andThen_ok, run_load_one hT (H.get hk) hv]
theorem ev_store (H : St w0 S W l) (hgd : Region.wanted o (yielded ops a.tmps) = true) {T : TypeId} {x y : Operand} (ho : o.op = .store T x y) {g off n : Nat} (hx : a.eval x = .pointer (some ⟨g, off, none⟩)) {v : Value} {cs cs' vs : List Value} {U : TypeId} (hy : a.eval y = v) (hv : v.cells = vs.toArray) (hk : Pick (Ast.blk g cs U) l l')
    (hT : (P.info? T).map (·.size) = some n) (hn : vs.length = n) (hl : off + n ≤ cs.length) (h1 : vs.all (·.oneCell') = true) (hcs : cs.take off ++ vs ++ cs.drop (off + n) = cs')
    (h : ∀ W1, St w0 S W1 (Ast.blk g cs' U :: l') → wpList P ops Q rest (a.put o.dst undef) W1) : wpList P ops Q (o :: rest) a W := by
  subst hcs
  have hg := H.get hk
  refine ev_skip (W1 := W.setRow g (cs.take off ++ vs ++ cs.drop (off + n)).toArray) hgd ?_ (h _ (H.put hk rfl rfl rfl ?_ ?_ ?_))
  · unfold execOp
    simp only [ho, hx, Instr.storeAt, Instr.sureAddr, Sem.run_bind, Sem.run_pure, Result.andThen_ok, hy, run_store_at (v := v) hT hg (by rw [hv]; simpa using hn) hl (by rw [hv]; exact h1) (by rw [hv])]
  · simp [World.setRow]
  · intro k hk
    show (W.heap.modify g _)[k]? = _
    rw [Array.getElem?_modify, if_neg (by omega)]
  · exact setRow_heap W g _ _ U _ hg

/-! ## what is handed back -/
/-- One result's value. -/
def rvM (tmps : Array Value) (r : ResultVar) : Sem Value := match r with | .tmp t => pure (tmps.getD t undef) | .cell a t => do loadVar t (← asAddr (tmps.getD a undef))
def Rv (P : Program) (tmps : Array Value) (W : World) (r : ResultVar) (v : Value) : Prop := (rvM tmps r).run P W = .ok v W
theorem results_rvM (fn : Func) (tmps : Array Value) : results fn tmps = (do let vs ← fn.results.mapM (rvM tmps); pure (if h : vs.size = 1 then vs[0] else .tuple vs)) := rfl
theorem rv_tmp {tmps : Array Value} {t : Tmp} {v : Value} (h : tmps.getD t undef = v) : Rv P tmps W (.tmp t) v := by
  subst h; unfold Rv rvM; simp only [Sem.run_pure]
theorem rv_agg (H : St w0 S W l) {tmps : Array Value} {t : Tmp} {T : TypeId} {g n : Nat} (h : tmps.getD t undef = .pointer (some ⟨g, 0, none⟩)) {cs : List Value} {U : TypeId} (hk : Pick (Ast.blk g cs U) l l') (hT : aggOf P T n = true) (hn : cs.length = n) :
    Rv P tmps W (.cell t T) (.agg cs.toArray) := by
  unfold Rv rvM
  simp only [h, asAddr, Sem.run_bind, Sem.run_pure, Result.andThen_ok]
  exact run_load_agg hT (H.get hk) (by rw [List.drop_zero, ← hn, List.take_length]) hn
theorem rv_one (H : St w0 S W l) {tmps : Array Value} {t : Tmp} {T : TypeId} {g : Nat} (h : tmps.getD t undef = .pointer (some ⟨g, 0, none⟩)) {v : Value} {U : TypeId} (hk : Pick (Ast.blk g [v] U) l l') (hT : oneOf P T = true) :
    Rv P tmps W (.cell t T) v := by
  unfold Rv rvM
  simp only [h, asAddr, Sem.run_bind, Sem.run_pure, Result.andThen_ok]
  exact run_load_one hT (H.get hk) rfl
theorem res1 {fn : Func} {tmps : Array Value} {r : ResultVar} {v : Value} (h : fn.results = #[r]) (h0 : Rv P tmps W r v) : (results fn tmps).run P W = .ok v W := by
  unfold Rv at h0
  rw [results_rvM, h]
  simp [Sem.run_bind, h0, Result.andThen_ok]
theorem res2 {fn : Func} {tmps : Array Value} {r s : ResultVar} {v u : Value} (h : fn.results = #[r, s]) (h0 : Rv P tmps W r v) (h1 : Rv P tmps W s u) : (results fn tmps).run P W = .ok (.tuple #[v, u]) W := by
  unfold Rv at h0 h1
  rw [results_rvM, h]
  simp [Sem.run_bind, h0, h1, Result.andThen_ok]
theorem res3 {fn : Func} {tmps : Array Value} {r s t : ResultVar} {v u x : Value} (h : fn.results = #[r, s, t]) (h0 : Rv P tmps W r v) (h1 : Rv P tmps W s u) (h2 : Rv P tmps W t x) : (results fn tmps).run P W = .ok (.tuple #[v, u, x]) W := by
  unfold Rv at h0 h1 h2
  rw [results_rvM, h]
  simp [Sem.run_bind, h0, h1, h2, Result.andThen_ok]
theorem back1 {fn : Func} {R : Ending → World → Prop} {r : ResultVar} {v : Value} (h : fn.results = #[r]) (h0 : Rv P a.tmps W r v) (hd : a.defers = []) (hR : R (.returned v) W) : bodyPost P fn R .ret a W := bodyPost_ret (res1 h h0) hd hR
theorem back2 {fn : Func} {R : Ending → World → Prop} {r s : ResultVar} {v u : Value} (h : fn.results = #[r, s]) (h0 : Rv P a.tmps W r v) (h1 : Rv P a.tmps W s u) (hd : a.defers = []) (hR : R (.returned (.tuple #[v, u])) W) : bodyPost P fn R .ret a W := bodyPost_ret (res2 h h0 h1) hd hR
theorem back3 {fn : Func} {R : Ending → World → Prop} {r s t : ResultVar} {v u x : Value} (h : fn.results = #[r, s, t]) (h0 : Rv P a.tmps W r v) (h1 : Rv P a.tmps W s u) (h2 : Rv P a.tmps W t x) (hd : a.defers = []) (hR : R (.returned (.tuple #[v, u, x])) W) : bodyPost P fn R .ret a W := bodyPost_ret (res3 h h0 h1 h2) hd hR
end
/-! ## the types of this program -/
theorem one_int : oneOf Tryz.prog 3 = true := by kernel_rfl
theorem one_ints : oneOf Tryz.prog 25 = true := by kernel_rfl
/-! ## the same as tables -/
def aggTab : Nat → Option Nat
  | 41 => some 1
  | 42 => some 2
  | 43 => some 8
  | 166 => some 2
  | 44 => some 8
  | 45 => some 7
  | 46 => some 2
  | 47 => some 3
  | 49 => some 34
  | 205 => some 3
  | 64 => some 2
  | 66 => some 11
  | 68 => some 10
  | 70 => some 42
  | 24 => some 1
  | 27 => some 2
  | 29 => some 8
  | 31 => some 8
  | 33 => some 7
  | 35 => some 2
  | 37 => some 3
  | 39 => some 34
  | 226 => some 3
  | 84 => some 2
  | 86 => some 11
  | 88 => some 10
  | 90 => some 42
  | _ => none
def oneTab : Nat → Bool
  | 3 => true
  | 4 => true
  | 25 => true
  | 22 => true
  | 62 => true
  | 82 => true
  | _ => false
def szTab : Nat → Option Nat
  | 3 => some 1
  | 4 => some 1
  | 25 => some 1
  | 22 => some 1
  | 62 => some 1
  | 82 => some 1
  | 41 => some 1
  | 42 => some 2
  | 43 => some 8
  | 166 => some 2
  | 44 => some 8
  | 45 => some 7
  | 46 => some 2
  | 47 => some 3
  | 49 => some 34
  | 205 => some 3
  | 64 => some 2
  | 66 => some 11
  | 68 => some 10
  | 70 => some 42
  | 24 => some 1
  | 27 => some 2
  | 29 => some 8
  | 31 => some 8
  | 33 => some 7
  | 35 => some 2
  | 37 => some 3
  | 39 => some 34
  | 226 => some 3
  | 84 => some 2
  | 86 => some 11
  | 88 => some 10
  | 90 => some 42
  | _ => none
def zTab : Nat → Option Value
  | 3 => some (.int .i64 0)
  | 4 => some (.bool false)
  | 25 => some (.slice none 0 0)
  | 22 => some (.slice none 0 0)
  | 62 => some (.slice none 0 0)
  | 82 => some (.slice none 0 0)
  | 41 => some (.agg #[.slice none 0 0])
  | 42 => some (.agg #[.slice none 0 0, .int .i64 0])
  | 43 => some (.agg #[.int .i64 0, .int .i64 0, .int .i64 0, .int .i64 0, .bool false, .bool false, .bool false, .bool false])
  | 166 => some (.agg #[.int .i64 0, .int .i64 0])
  | 44 => some (.agg #[.int .i64 0, .int .i64 0, .int .i64 0, .int .i64 0, .int .i64 0, .bool false, .slice none 0 0, .slice none 0 0])
  | 45 => some (.agg #[.int .i64 0, .int .i64 0, .int .i64 0, .int .i64 0, .int .i64 0, .bool false, .bool false])
  | 46 => some (.agg #[.bool false, .int .i64 0])
  | 47 => some (.agg #[.slice none 0 0, .slice none 0 0, .slice none 0 0])
  | 49 => some (.agg #[.slice none 0 0, .slice none 0 0, .slice none 0 0, .int .i64 0, .int .i64 0, .int .i64 0, .int .i64 0, .int .i64 0, .bool false, .bool false, .bool false, .bool false, .int .i64 0, .int .i64 0, .int .i64 0, .int .i64 0, .int .i64 0, .bool false, .slice none 0 0, .slice none 0 0, .int .i64 0, .int .i64 0, .int .i64 0, .int .i64 0, .int .i64 0, .bool false, .bool false, .bool false, .int .i64 0, .bool false, .int .i64 0, .slice none 0 0, .slice none 0 0, .slice none 0 0])
  | 205 => some (.agg #[.int .i64 0, .int .i64 0, .int .i64 0])
  | 64 => some (.agg #[.int .i64 0, .slice none 0 0])
  | 66 => some (.agg #[.int .i64 0, .int .i64 0, .int .i64 0, .int .i64 0, .int .i64 0, .bool false, .slice none 0 0, .slice none 0 0, .int .i64 0, .slice none 0 0, .slice none 0 0])
  | 68 => some (.agg #[.int .i64 0, .int .i64 0, .int .i64 0, .int .i64 0, .int .i64 0, .bool false, .bool false, .int .i64 0, .slice none 0 0, .slice none 0 0])
  | 70 => some (.agg #[.slice none 0 0, .slice none 0 0, .slice none 0 0, .int .i64 0, .int .i64 0, .int .i64 0, .int .i64 0, .int .i64 0, .bool false, .bool false, .bool false, .bool false, .bool false, .int .i64 0, .int .i64 0, .bool false, .int .i64 0, .bool false, .int .i64 0, .int .i64 0, .slice none 0 0, .int .i64 0, .int .i64 0, .int .i64 0, .int .i64 0, .int .i64 0, .bool false, .slice none 0 0, .slice none 0 0, .int .i64 0, .slice none 0 0, .slice none 0 0, .int .i64 0, .int .i64 0, .int .i64 0, .int .i64 0, .int .i64 0, .bool false, .bool false, .int .i64 0, .slice none 0 0, .slice none 0 0])
  | 24 => some (.agg #[.slice none 0 0])
  | 27 => some (.agg #[.slice none 0 0, .int .i64 0])
  | 29 => some (.agg #[.int .i64 0, .int .i64 0, .int .i64 0, .int .i64 0, .bool false, .bool false, .bool false, .bool false])
  | 31 => some (.agg #[.int .i64 0, .int .i64 0, .int .i64 0, .int .i64 0, .int .i64 0, .bool false, .slice none 0 0, .slice none 0 0])
  | 33 => some (.agg #[.int .i64 0, .int .i64 0, .int .i64 0, .int .i64 0, .int .i64 0, .bool false, .bool false])
  | 35 => some (.agg #[.bool false, .int .i64 0])
  | 37 => some (.agg #[.slice none 0 0, .slice none 0 0, .slice none 0 0])
  | 39 => some (.agg #[.slice none 0 0, .slice none 0 0, .slice none 0 0, .int .i64 0, .int .i64 0, .int .i64 0, .int .i64 0, .int .i64 0, .bool false, .bool false, .bool false, .bool false, .int .i64 0, .int .i64 0, .int .i64 0, .int .i64 0, .int .i64 0, .bool false, .slice none 0 0, .slice none 0 0, .int .i64 0, .int .i64 0, .int .i64 0, .int .i64 0, .int .i64 0, .bool false, .bool false, .bool false, .int .i64 0, .bool false, .int .i64 0, .slice none 0 0, .slice none 0 0, .slice none 0 0])
  | 226 => some (.agg #[.int .i64 0, .int .i64 0, .int .i64 0])
  | 84 => some (.agg #[.int .i64 0, .slice none 0 0])
  | 86 => some (.agg #[.int .i64 0, .int .i64 0, .int .i64 0, .int .i64 0, .int .i64 0, .bool false, .slice none 0 0, .slice none 0 0, .int .i64 0, .slice none 0 0, .slice none 0 0])
  | 88 => some (.agg #[.int .i64 0, .int .i64 0, .int .i64 0, .int .i64 0, .int .i64 0, .bool false, .bool false, .int .i64 0, .slice none 0 0, .slice none 0 0])
  | 90 => some (.agg #[.slice none 0 0, .slice none 0 0, .slice none 0 0, .int .i64 0, .int .i64 0, .int .i64 0, .int .i64 0, .int .i64 0, .bool false, .bool false, .bool false, .bool false, .bool false, .int .i64 0, .int .i64 0, .bool false, .int .i64 0, .bool false, .int .i64 0, .int .i64 0, .slice none 0 0, .int .i64 0, .int .i64 0, .int .i64 0, .int .i64 0, .int .i64 0, .bool false, .slice none 0 0, .slice none 0 0, .int .i64 0, .slice none 0 0, .slice none 0 0, .int .i64 0, .int .i64 0, .int .i64 0, .int .i64 0, .int .i64 0, .bool false, .bool false, .int .i64 0, .slice none 0 0, .slice none 0 0])
  | _ => none
theorem aggT {T : TypeId} {n : Nat} (h : aggTab T = some n) : aggOf Tryz.prog T n = true := by
  unfold aggTab at h
  split at h <;> first | (injection h with h; subst h; kernel_rfl) | cases h
theorem oneT {T : TypeId} (h : oneTab T = true) : oneOf Tryz.prog T = true := by
  unfold oneTab at h
  split at h <;> first | (exact absurd h (by decide)) | kernel_rfl
theorem szT {T : TypeId} {n : Nat} (h : szTab T = some n) : (Tryz.prog.info? T).map (·.size) = some n := by
  unfold szTab at h
  split at h <;> first | (injection h with h; subst h; kernel_rfl) | cases h
theorem zT {T : TypeId} {v : Value} (h : zTab T = some v) : zeroOf Tryz.prog T = some v := by
  unfold zTab at h
  split at h <;> first | (injection h with h; subst h; kernel_rfl) | cases h
/-! ## loads, stores, new variables, in short -/
section
variable {ops : Array Oper} {rest : List Oper} {o : Oper} {a : Act} {Q : Exit → Act → World → Prop} {w0 W : World} {S : List Nat} {l l' : List Ast}
theorem ev_ld1 (H : St w0 S W l) (hgd : Region.wanted o (yielded ops a.tmps) = true) {T : TypeId} {x : Operand} (ho : o.op = .load T x) {g off : Nat} (hx : a.eval x = .pointer (some ⟨g, off, none⟩)) {cs : List Value} {v : Value} {U : TypeId}
    (h : wpList Tryz.prog ops Q rest (a.put o.dst v) W) (hk : Pick (Ast.blk g cs U) l l' := by (repeat (first | (with_reducible exact Pick.here) | (with_reducible apply Pick.there)))) (hT : oneOf Tryz.prog T = true := by exact oneT rfl) (hv : cs[off]? = some v := by rfl) : wpList Tryz.prog ops Q (o :: rest) a W := ev_load_one H hgd ho hx hk hT hv h
theorem ev_lda (H : St w0 S W l) (hgd : Region.wanted o (yielded ops a.tmps) = true) {T : TypeId} {x : Operand} (ho : o.op = .load T x) {g off n : Nat} (hx : a.eval x = .pointer (some ⟨g, off, none⟩)) {cs vs : List Value} {U : TypeId}
    (h : wpList Tryz.prog ops Q rest (a.put o.dst (.agg vs.toArray)) W) (hk : Pick (Ast.blk g cs U) l l' := by (repeat (first | (with_reducible exact Pick.here) | (with_reducible apply Pick.there)))) (hT : aggOf Tryz.prog T n = true := by exact aggT rfl) (hv : (cs.drop off).take n = vs := by first | (simp only [List.take_succ_cons, List.take_zero, List.drop_succ_cons, List.drop_zero, List.cons_append, List.nil_append, Nat.reduceAdd]; rfl)) (hn : vs.length = n := by rfl) : wpList Tryz.prog ops Q (o :: rest) a W := ev_load_agg H hgd ho hx hk hT hv hn h
theorem ev_sto (H : St w0 S W l) (hgd : Region.wanted o (yielded ops a.tmps) = true) {T : TypeId} {x y : Operand} (ho : o.op = .store T x y) {g off n : Nat} (hx : a.eval x = .pointer (some ⟨g, off, none⟩)) {v : Value} {cs cs' vs : List Value} {U : TypeId} (hy : a.eval y = v) (hv : v.cells = vs.toArray)
    (h : ∀ W1, St w0 S W1 (Ast.blk g cs' U :: l') → wpList Tryz.prog ops Q rest (a.put o.dst undef) W1) (hk : Pick (Ast.blk g cs U) l l' := by (repeat (first | (with_reducible exact Pick.here) | (with_reducible apply Pick.there))))
    (hT : (Tryz.prog.info? T).map (·.size) = some n := by exact szT rfl) (hn : vs.length = n := by rfl) (hl : off + n ≤ cs.length := by exact Nat.le_of_ble_eq_true rfl) (h1 : vs.all (·.oneCell') = true := by rfl) (hcs : cs.take off ++ vs ++ cs.drop (off + n) = cs' := by (simp only [Value.cells, List.take_succ_cons, List.take_zero, List.drop_succ_cons, List.drop_zero, List.drop_nil, List.cons_append, List.nil_append, List.append_nil, Nat.reduceAdd]; rfl)) : wpList Tryz.prog ops Q (o :: rest) a W := ev_store H hgd ho hx hy hv hk hT hn hl h1 hcs h
theorem ev_new (H : St w0 S W l) (hgd : Region.wanted o (yielded ops a.tmps) = true) {T : TypeId} (ho : o.op = .alloc T) {z : Value} {cs : List Value}
    (h : ∀ g W1, St w0 S W1 (Ast.blk g cs T :: l) → wpList Tryz.prog ops Q rest (a.put o.dst (.pointer (some ⟨g, 0, none⟩))) W1) (hz : zeroOf Tryz.prog T = some z := by exact zT rfl) (hcs : z.cells = cs.toArray := by rfl) : wpList Tryz.prog ops Q (o :: rest) a W := ev_alloc H hgd ho hz hcs h
end
section
variable {ops : Array Oper} {rest : List Oper} {o : Oper} {a : Act} {Q : Exit → Act → World → Prop} {w0 W : World} {S : List Nat} {l l' : List Ast}
theorem pkA {x : Ast} (k : Pick x l l' := by ((repeat (first | (with_reducible exact Pick.here) | (with_reducible apply Pick.there))))) : Pick x l l' := k
theorem pksA {xs : List Ast} (k : Picks xs l l' := by ((repeat (first | (with_reducible exact Picks.nil) | (with_reducible exact Pick.here) | (with_reducible apply Pick.there) | (with_reducible apply Picks.cons))))) : Picks xs l l' := k
theorem rvA {P : Program} {tmps : Array Value} {r : ResultVar} {v : Value} (h : Rv P tmps W r v := by (first | (with_reducible exact rv_tmp rfl) | (refine' rv_agg H rfl ?_ ?_ ?_; rotate_left 4; (focus (repeat (first | (with_reducible exact Pick.here) | (with_reducible apply Pick.there)))); (focus exact aggT rfl); (focus rfl)) | (refine' rv_one H rfl ?_ ?_; rotate_left 3; (focus (repeat (first | (with_reducible exact Pick.here) | (with_reducible apply Pick.there)))); (focus exact oneT rfl)))) : Rv P tmps W r v := h
theorem St.cN {W1 : World} {l1 l3 : List Ast} (h : St w0 S W l) (k : St W [] W1 l1) (e : l1 ++ l = l3 := by (simp only [List.append_eq, List.cons_append, List.nil_append]; exact rfl)) : St w0 S W1 l3 := e ▸ h.call k
theorem St.uN {W1 : World} {t l1 l3 : List Ast} (h : St w0 S W (t ++ l)) (k : St W (t.flatMap Ast.fp) W1 l1) (e : l1 ++ l = l3 := by (simp only [List.append_eq, List.cons_append, List.nil_append]; exact rfl)) : St w0 S W1 l3 := e ▸ h.upL k
theorem eL1 (H : St w0 S W l) {T : TypeId} {x : Operand} {g off : Nat} {cs : List Value} {v : Value} {U : TypeId} (h : wpList Tryz.prog ops Q rest (a.put o.dst v) W) (hgd : Region.wanted o (yielded ops a.tmps) = true := by exact rfl) (ho : o.op = .load T x := by exact rfl) (hx : a.eval x = .pointer (some ⟨g, off, none⟩) := by exact rfl)
    (hk : Pick (Ast.blk g cs U) l l' := by ((repeat (first | (with_reducible exact Pick.here) | (with_reducible apply Pick.there))))) (hT : oneOf Tryz.prog T = true := by exact oneT rfl) (hv : cs[off]? = some v := by rfl) : wpList Tryz.prog ops Q (o :: rest) a W := ev_load_one H hgd ho hx hk hT hv h
theorem eLa (H : St w0 S W l) {T : TypeId} {x : Operand} {g off n : Nat} {cs vs : List Value} {U : TypeId} (h : wpList Tryz.prog ops Q rest (a.put o.dst (.agg vs.toArray)) W) (hgd : Region.wanted o (yielded ops a.tmps) = true := by exact rfl) (ho : o.op = .load T x := by exact rfl) (hx : a.eval x = .pointer (some ⟨g, off, none⟩) := by exact rfl)
    (hk : Pick (Ast.blk g cs U) l l' := by ((repeat (first | (with_reducible exact Pick.here) | (with_reducible apply Pick.there))))) (hT : aggOf Tryz.prog T n = true := by exact aggT rfl) (hv : (cs.drop off).take n = vs := by (first | (simp only [List.take_succ_cons, List.take_zero, List.drop_succ_cons, List.drop_zero, List.cons_append, List.nil_append, Nat.reduceAdd]; rfl))) (hn : vs.length = n := by rfl) : wpList Tryz.prog ops Q (o :: rest) a W := ev_load_agg H hgd ho hx hk hT hv hn h
theorem eSi (H : St w0 S W l) {T : TypeId} {x y : Operand} {g off n : Nat} {t_} {z_} {cs cs' vs : List Value} {U : TypeId} (h : ∀ W1, St w0 S W1 (Ast.blk g cs' U :: l') → wpList Tryz.prog ops Q rest (a.put o.dst undef) W1) (hgd : Region.wanted o (yielded ops a.tmps) = true := by exact rfl) (ho : o.op = .store T x y := by exact rfl) (hx : a.eval x = .pointer (some ⟨g, off, none⟩) := by exact rfl) (hy : a.eval y = Value.int t_ z_ := by exact rfl) (hv : (Value.int t_ z_).cells = vs.toArray := by exact rfl)
    (hk : Pick (Ast.blk g cs U) l l' := by ((repeat (first | (with_reducible exact Pick.here) | (with_reducible apply Pick.there))))) (hT : (Tryz.prog.info? T).map (·.size) = some n := by exact szT rfl) (hn : vs.length = n := by rfl) (hl : off + n ≤ cs.length := by exact Nat.le_of_ble_eq_true rfl) (h1 : vs.all (·.oneCell') = true := by rfl) (hcs : cs.take off ++ vs ++ cs.drop (off + n) = cs' := by (simp only [Value.cells, List.take_succ_cons, List.take_zero, List.drop_succ_cons, List.drop_zero, List.drop_nil, List.cons_append, List.nil_append, List.append_nil, Nat.reduceAdd]; rfl)) : wpList Tryz.prog ops Q (o :: rest) a W := ev_store H hgd ho hx hy hv hk hT hn hl h1 hcs h
theorem eSb (H : St w0 S W l) {T : TypeId} {x y : Operand} {g off n : Nat} {z_} {cs cs' vs : List Value} {U : TypeId} (h : ∀ W1, St w0 S W1 (Ast.blk g cs' U :: l') → wpList Tryz.prog ops Q rest (a.put o.dst undef) W1) (hgd : Region.wanted o (yielded ops a.tmps) = true := by exact rfl) (ho : o.op = .store T x y := by exact rfl) (hx : a.eval x = .pointer (some ⟨g, off, none⟩) := by exact rfl) (hy : a.eval y = Value.bool z_ := by exact rfl) (hv : (Value.bool z_).cells = vs.toArray := by exact rfl)
    (hk : Pick (Ast.blk g cs U) l l' := by ((repeat (first | (with_reducible exact Pick.here) | (with_reducible apply Pick.there))))) (hT : (Tryz.prog.info? T).map (·.size) = some n := by exact szT rfl) (hn : vs.length = n := by rfl) (hl : off + n ≤ cs.length := by exact Nat.le_of_ble_eq_true rfl) (h1 : vs.all (·.oneCell') = true := by rfl) (hcs : cs.take off ++ vs ++ cs.drop (off + n) = cs' := by (simp only [Value.cells, List.take_succ_cons, List.take_zero, List.drop_succ_cons, List.drop_zero, List.drop_nil, List.cons_append, List.nil_append, List.append_nil, Nat.reduceAdd]; rfl)) : wpList Tryz.prog ops Q (o :: rest) a W := ev_store H hgd ho hx hy hv hk hT hn hl h1 hcs h
theorem eSs (H : St w0 S W l) {T : TypeId} {x y : Operand} {g off n : Nat} {x_} {y_} {z_} {cs cs' vs : List Value} {U : TypeId} (h : ∀ W1, St w0 S W1 (Ast.blk g cs' U :: l') → wpList Tryz.prog ops Q rest (a.put o.dst undef) W1) (hgd : Region.wanted o (yielded ops a.tmps) = true := by exact rfl) (ho : o.op = .store T x y := by exact rfl) (hx : a.eval x = .pointer (some ⟨g, off, none⟩) := by exact rfl) (hy : a.eval y = Value.slice x_ y_ z_ := by exact rfl) (hv : (Value.slice x_ y_ z_).cells = vs.toArray := by exact rfl)
    (hk : Pick (Ast.blk g cs U) l l' := by ((repeat (first | (with_reducible exact Pick.here) | (with_reducible apply Pick.there))))) (hT : (Tryz.prog.info? T).map (·.size) = some n := by exact szT rfl) (hn : vs.length = n := by rfl) (hl : off + n ≤ cs.length := by exact Nat.le_of_ble_eq_true rfl) (h1 : vs.all (·.oneCell') = true := by rfl) (hcs : cs.take off ++ vs ++ cs.drop (off + n) = cs' := by (simp only [Value.cells, List.take_succ_cons, List.take_zero, List.drop_succ_cons, List.drop_zero, List.drop_nil, List.cons_append, List.nil_append, List.append_nil, Nat.reduceAdd]; rfl)) : wpList Tryz.prog ops Q (o :: rest) a W := ev_store H hgd ho hx hy hv hk hT hn hl h1 hcs h
theorem eSa (H : St w0 S W l) {T : TypeId} {x y : Operand} {g off n : Nat} {z_} {cs cs' vs : List Value} {U : TypeId} (h : ∀ W1, St w0 S W1 (Ast.blk g cs' U :: l') → wpList Tryz.prog ops Q rest (a.put o.dst undef) W1) (hgd : Region.wanted o (yielded ops a.tmps) = true := by exact rfl) (ho : o.op = .store T x y := by exact rfl) (hx : a.eval x = .pointer (some ⟨g, off, none⟩) := by exact rfl) (hy : a.eval y = Value.agg z_ := by exact rfl) (hv : (Value.agg z_).cells = vs.toArray := by exact rfl)
    (hk : Pick (Ast.blk g cs U) l l' := by ((repeat (first | (with_reducible exact Pick.here) | (with_reducible apply Pick.there))))) (hT : (Tryz.prog.info? T).map (·.size) = some n := by exact szT rfl) (hn : vs.length = n := by rfl) (hl : off + n ≤ cs.length := by exact Nat.le_of_ble_eq_true rfl) (h1 : vs.all (·.oneCell') = true := by rfl) (hcs : cs.take off ++ vs ++ cs.drop (off + n) = cs' := by (simp only [Value.cells, List.take_succ_cons, List.take_zero, List.drop_succ_cons, List.drop_zero, List.drop_nil, List.cons_append, List.nil_append, List.append_nil, Nat.reduceAdd]; rfl)) : wpList Tryz.prog ops Q (o :: rest) a W := ev_store H hgd ho hx hy hv hk hT hn hl h1 hcs h
theorem eBi (H : St w0 S W l) {T : TypeId} {x : Operand} {t_} {z_} {cs : List Value} (h : ∀ g W1, St w0 S W1 (Ast.blk g cs T :: l) → wpList Tryz.prog ops Q rest (a.put o.dst (.pointer (some ⟨g, 0, none⟩))) W1) (hgd : Region.wanted o (yielded ops a.tmps) = true := by exact rfl) (ho : o.op = .box T x := by exact rfl) (hx : a.eval x = Value.int t_ z_ := by exact rfl) (hcs : (Value.int t_ z_).cells = cs.toArray := by exact rfl) : wpList Tryz.prog ops Q (o :: rest) a W := ev_box H hgd ho hx hcs h
theorem eBb (H : St w0 S W l) {T : TypeId} {x : Operand} {z_} {cs : List Value} (h : ∀ g W1, St w0 S W1 (Ast.blk g cs T :: l) → wpList Tryz.prog ops Q rest (a.put o.dst (.pointer (some ⟨g, 0, none⟩))) W1) (hgd : Region.wanted o (yielded ops a.tmps) = true := by exact rfl) (ho : o.op = .box T x := by exact rfl) (hx : a.eval x = Value.bool z_ := by exact rfl) (hcs : (Value.bool z_).cells = cs.toArray := by exact rfl) : wpList Tryz.prog ops Q (o :: rest) a W := ev_box H hgd ho hx hcs h
theorem eBs (H : St w0 S W l) {T : TypeId} {x : Operand} {x_} {y_} {z_} {cs : List Value} (h : ∀ g W1, St w0 S W1 (Ast.blk g cs T :: l) → wpList Tryz.prog ops Q rest (a.put o.dst (.pointer (some ⟨g, 0, none⟩))) W1) (hgd : Region.wanted o (yielded ops a.tmps) = true := by exact rfl) (ho : o.op = .box T x := by exact rfl) (hx : a.eval x = Value.slice x_ y_ z_ := by exact rfl) (hcs : (Value.slice x_ y_ z_).cells = cs.toArray := by exact rfl) : wpList Tryz.prog ops Q (o :: rest) a W := ev_box H hgd ho hx hcs h
theorem eBa (H : St w0 S W l) {T : TypeId} {x : Operand} {z_} {cs : List Value} (h : ∀ g W1, St w0 S W1 (Ast.blk g cs T :: l) → wpList Tryz.prog ops Q rest (a.put o.dst (.pointer (some ⟨g, 0, none⟩))) W1) (hgd : Region.wanted o (yielded ops a.tmps) = true := by exact rfl) (ho : o.op = .box T x := by exact rfl) (hx : a.eval x = Value.agg z_ := by exact rfl) (hcs : (Value.agg z_).cells = cs.toArray := by exact rfl) : wpList Tryz.prog ops Q (o :: rest) a W := ev_box H hgd ho hx hcs h
theorem eNw (H : St w0 S W l) {T : TypeId} {z : Value} {cs : List Value} (h : ∀ g W1, St w0 S W1 (Ast.blk g cs T :: l) → wpList Tryz.prog ops Q rest (a.put o.dst (.pointer (some ⟨g, 0, none⟩))) W1) (hgd : Region.wanted o (yielded ops a.tmps) = true := by exact rfl) (ho : o.op = .alloc T := by exact rfl) (hz : zeroOf Tryz.prog T = some z := by exact zT rfl) (hcs : z.cells = cs.toArray := by rfl) : wpList Tryz.prog ops Q (o :: rest) a W := ev_alloc H hgd ho hz hcs h
end
end Go.Proofs.YtjgggmcnbdjdjaaGreat.K

/- Words of my own for rows: slices of the program's own, whole numbers read and written in them. -/
namespace Go.Proofs.YtjgggmcnbdjdjaaGreat.K
open Go.RowKit
set_option maxRecDepth 20000
set_option linter.unusedVariables false
set_option linter.unusedSimpArgs false

/-- n elements (of type T, sz cells each) lie at the head of a block of their own; their cells are xs. -/
def Ast.own (T : TypeId) (sz : Nat) (A : Option Addr) (n c : Nat) (xs : List Value) : Ast where
  fp := (A.map (·.block)).toList
  p w := w.ownsRow 0 T sz (.slice A n c) n xs
  st w w' h hp := by
    refine ⟨hp.1, ?_⟩
    rcases hp.2 with h0 | ⟨g, cap, cur, hv, hb, hh, r⟩
    · exact .inl h0
    · have hv' := hv
      injection hv' with ha _ _
      subst ha
      exact .inr ⟨g, cap, cur, hv, hb, (h g (by simp)).trans hh, r⟩
  lv w hp b hb := by
    rcases hp.2 with ⟨hv, _⟩ | ⟨g, cap, cur, hv, _, hh, r⟩
    · injection hv with ha _ _
      subst ha
      simp at hb
    · injection hv with ha _ _
      subst ha
      simp at hb
      subst hb
      exact (Array.getElem?_eq_some_iff.1 hh).1

/-- An element of a row (0 beyond its end). -/
def rd (xs : List Int) (i : Nat) : Int := xs.getD i 0
theorem rd_at {xs : List Int} {i : Nat} (h : i < xs.length) : rd xs i = xs[i] := by simp [rd, List.getD_eq_getElem?_getD, List.getElem?_eq_getElem h]
theorem rd_ext {xs ys : List Int} (h : xs.length = ys.length) (hr : ∀ j, j < xs.length → rd xs j = rd ys j) : xs = ys := by
  refine List.ext_getElem h fun j h1 h2 => ?_
  have := hr j h1
  rwa [rd_at h1, rd_at h2] at this
def nums (xs : List Int) : List Value := xs.map (Value.int .i64)
theorem nums_length (xs : List Int) : (nums xs).length = xs.length := by simp [nums]
theorem nums_append (xs ys : List Int) : nums (xs ++ ys) = nums xs ++ nums ys := by simp [nums]
theorem nums_one (x : Int) : nums [x] = [.int .i64 x] := rfl
theorem nums_at {xs : List Int} {i : Nat} (h : i < xs.length) : (nums xs)[i]? = some (.int .i64 (rd xs i)) := by
  simp [nums, List.getElem?_eq_getElem h, rd_at h]
theorem nums_set (xs : List Int) (i : Nat) (v : Int) (h : i < xs.length) : (nums xs).take i ++ [.int .i64 v] ++ (nums xs).drop (i + 1) = nums (xs.set i v) := by
  rw [List.set_eq_take_append_cons_drop, if_pos h]
  simp [nums, List.map_take, List.map_drop]
abbrev Ast.ints (A : Option Addr) (c : Nat) (xs : List Int) : Ast := Ast.own 3 1 A xs.length c (nums xs)

/-- The form of what is owned. -/
theorem own_form {T : TypeId} {sz : Nat} {A : Option Addr} {n c : Nat} {xs : List Value} {w : World} (h : (Ast.own T sz A n c xs).p w) :
    (A = none ∧ n = 0 ∧ c = 0 ∧ xs = []) ∨ ∃ g cur, A = some ⟨g, 0, none⟩ ∧ w.heap[g]? = some (.cells cur T (0, 0)) ∧ n ≤ c ∧ c ≤ maxLen ∧ cur.size = c * sz ∧ cur.toList.take (n * sz) = xs ∧ xs.length = n * sz := by
  have h1 := h.1
  rcases h.2 with ⟨hv, hn⟩ | ⟨g, cap, cur, hv, _, hh, h2, h3, h4, h5⟩
  · injection hv with ha _ hc
    subst hn
    exact .inl ⟨ha, rfl, hc, List.eq_nil_of_length_eq_zero (by omega)⟩
  · injection hv with ha _ hc
    subst hc
    exact .inr ⟨g, cur, ha, hh, h2, h3, h4, h5, h1⟩
theorem own_mk {T : TypeId} {sz g n c : Nat} {xs : List Value} {cur : Array Value} {w : World} (hh : w.heap[g]? = some (.cells cur T (0, 0))) (h1 : n ≤ c) (h2 : c ≤ maxLen) (h3 : cur.size = c * sz) (h4 : cur.toList.take (n * sz) = xs) :
    (Ast.own T sz (some ⟨g, 0, none⟩) n c xs).p w := by
  refine ⟨?_, .inr ⟨g, c, cur, rfl, Nat.zero_le _, hh, h1, h2, h3, h4⟩⟩
  rw [← h4, List.length_take, Array.length_toList, h3]
  exact Nat.min_eq_left (Nat.mul_le_mul_right _ h1)
theorem own_le {T : TypeId} {sz : Nat} {A : Option Addr} {n c : Nat} {xs : List Value} {w : World} (h : (Ast.own T sz A n c xs).p w) : n ≤ c ∧ n ≤ 9223372036854775807 := by
  rcases own_form h with ⟨_, h1, h2, _⟩ | ⟨g, cur, _, _, h1, h2, _⟩
  · omega
  · unfold maxLen at h2; omega
theorem own_cell {T : TypeId} {sz : Nat} {A : Option Addr} {n c : Nat} {xs : List Value} {w : World} (h : (Ast.own T sz A n c xs).p w) {j : Nat} (hj : j < xs.length) :
    ∃ g, A = some ⟨g, 0, none⟩ ∧ w.cell? ⟨g, j, none⟩ = some xs[j] ∧ w.frozen? ⟨g, j, none⟩ = false := by
  rcases own_form h with ⟨_, _, _, h4⟩ | ⟨g, cur, hA, hh, h1, h2, h3, h4, h5⟩
  · subst h4; cases hj
  · refine ⟨g, hA, ?_, by simp [World.frozen?, hh]⟩
    subst h4
    simp only [List.getElem_take, Array.getElem_toList]
    rw [cell_of_row w g j cur T (0, 0) hh]
    exact Array.getElem?_eq_getElem _
theorem ints_cell {A : Option Addr} {c : Nat} {xs : List Int} {w : World} (h : (Ast.ints A c xs).p w) {j : Nat} (hj : j < xs.length) :
    ∃ g, A = some ⟨g, 0, none⟩ ∧ w.cell? ⟨g, j, none⟩ = some (.int .i64 (rd xs j)) := by
  obtain ⟨g, h1, h2, _⟩ := own_cell h (j := j) (by rw [nums_length]; exact hj)
  refine ⟨g, h1, h2.trans ?_⟩
  simp [nums, rd_at hj]

/-! ## slices that came in -/
/-- A slice of whole numbers reads as xs. -/
def InI (w : World) (A : Option Addr) (c : Nat) (xs : List Int) : Prop :=
  xs.length ≤ c ∧ xs.length ≤ 9223372036854775807 ∧ (0 < xs.length → ∃ ad, A = some ad ∧ ∀ j, j < xs.length → w.cell? (ad.add j) = some (.int .i64 (rd xs j)))
theorem InI.cell {w0 W : World} {A : Option Addr} {c : Nat} {xs : List Int} (h : InI w0 A c xs) {l : List Ast} (H : St w0 [] W l) {j : Nat} (hj : j < xs.length) :
    ∃ ad, A = some ad ∧ W.cell? (ad.add j) = some (.int .i64 (rd xs j)) := by
  obtain ⟨ad, h1, h2⟩ := h.2.2 (by omega)
  have h3 := h2 j hj
  exact ⟨ad, h1, (H.below.cell (World.block_lt_of_cell? _ _ h3)).trans h3⟩
theorem InI.on {w0 W : World} {A : Option Addr} {c : Nat} {xs : List Int} (h : InI w0 A c xs) {l : List Ast} (H : St w0 [] W l) : InI W A c xs :=
  ⟨h.1, h.2.1, fun hn => by
    obtain ⟨ad, h1, h2⟩ := h.2.2 hn
    exact ⟨ad, h1, fun j hj => (H.below.cell (World.block_lt_of_cell? _ _ (h2 j hj))).trans (h2 j hj)⟩⟩
theorem InI.of {w : World} {A : Option Addr} {c : Nat} {xs : List Int} (h : (Ast.ints A c xs).p w) : InI w A c xs := by
  refine ⟨(own_le h).1, (own_le h).2, fun hn => ?_⟩
  obtain ⟨g, h1, _⟩ := ints_cell h hn
  refine ⟨_, h1, fun j hj => ?_⟩
  obtain ⟨g', h3, h4⟩ := ints_cell h hj
  have : g = g' := by rw [h1] at h3; injection h3 with h3; injection h3
  subst this
  rw [Addr.add_mid, Nat.zero_add]
  exact h4

/-! ## the operations on rows -/
section
variable {P : Program} {ops : Array Oper} {rest : List Oper} {o : Oper} {a : Act} {Q : Exit → Act → World → Prop} {w0 W : World} {S : List Nat} {l l' : List Ast}
/-- A store into a row of the program's own. -/
theorem ev_store_own (H : St w0 S W l) (hgd : Region.wanted o (yielded ops a.tmps) = true) {T : TypeId} {x y : Operand} (ho : o.op = .store T x y) {g off n m c sz : Nat} (hx : a.eval x = .pointer (some ⟨g, off, none⟩)) {v : Value} {cs cs' vs : List Value} {U : TypeId} (hy : a.eval y = v) (hv : v.cells = vs.toArray)
    (hk : Pick (Ast.own U sz (some ⟨g, 0, none⟩) m c cs) l l') (hT : (P.info? T).map (·.size) = some n) (hn : vs.length = n) (hl : off + n ≤ cs.length) (h1 : vs.all (·.oneCell') = true) (hcs : cs.take off ++ vs ++ cs.drop (off + n) = cs')
    (h : ∀ W1, St w0 S W1 (Ast.own U sz (some ⟨g, 0, none⟩) m c cs' :: l') → wpList P ops Q rest (a.put o.dst undef) W1) : wpList P ops Q (o :: rest) a W := by
  subst hcs
  rcases own_form (H.get hk) with ⟨h0, _⟩ | ⟨g', cur, hA, hh, h2, h3, h4, h5, h6⟩
  · cases h0
  · have : g = g' := by injection hA with hA; injection hA
    subst this
    have hlen : cs.length ≤ cur.size := by rw [← h5, List.length_take, Array.length_toList]; omega
    have hrun := run_store_at (P := P) (W := W) (v := v) (cs := cur.toList) hT (by simpa using hh) (by rw [hv]; simpa using hn) (by rw [Array.length_toList]; exact Nat.le_trans hl hlen) (by rw [hv]; exact h1) rfl
    refine ev_skip (W1 := W.setRow g (cur.toList.take off ++ v.cells.toList ++ cur.toList.drop (off + n)).toArray) hgd ?_ (h _ ?_)
    · unfold execOp
      simp only [ho, hx, hy, Instr.storeAt, Instr.sureAddr, Sem.run_bind, Sem.run_pure, Result.andThen_ok, hrun]
    · refine St.callS (t := [Ast.own U sz (some ⟨g, 0, none⟩) m c cs]) (S1 := [g]) (l1 := [Ast.own U sz (some ⟨g, 0, none⟩) m c _]) (H.pick hk) ⟨rfl, rfl, rfl, by simp [World.setRow], fun i _ hi => ?_, fun a ha => ?_, by simp [Ast.own], fun a ha b hb => ?_⟩ (by simp [Ast.own])
      · show (W.heap.modify g _)[i]? = _
        rw [Array.getElem?_modify, if_neg (by simpa using fun e => hi (by simp [e]))]
      · rw [List.mem_singleton.1 ha]
        refine own_mk (setRow_heap W g _ _ U _ hh) h2 h3 ?_ ?_
        · simp [hv, hn]; omega
        · rw [← h5]
          have e1 : off + n ≤ m * sz := by omega
          simp only [hv, List.take_append, List.length_take, List.length_append, Array.length_toList, List.take_take, List.drop_take]
          rw [show min (m * sz) off = off by omega, show min off (m * sz) = off by omega, show min off cur.size = off by omega]
          rw [List.take_of_length_le (l := vs) (by omega)]
          congr 2
          omega
      · rw [List.mem_singleton.1 ha] at hb; exact .inl (by simpa [Ast.own] using hb)
theorem g_make {T : TypeId} {x y : Operand} (_ho : o.op = .makeSlice T x y) (h : wpList P ops Q (o :: rest) a W) : wpList P ops Q (o :: rest) a W := h
/-- make([]T, n) -/
theorem ev_make (H : St w0 S W l) (hgd : Region.wanted o (yielded ops a.tmps) = true) {t e : TypeId} {x y : Operand} (ho : o.op = .makeSlice t x y) {n sz bytes : Nat} {z : Value} (h1 : P.underlying t = some (.slice e)) (h2 : (P.info? e).map (fun i => (i.zero, i.size, i.bytes)) = some (some z, sz, bytes))
    {L C : Int} (hl : a.eval x = .int .i64 L) (hc : a.eval y = .int .i64 C) (hL : L = (n : Int)) (hC : C = (n : Int)) (b2 : bytes * n ≤ 281474976710656) (b3 : n ≤ 281474976710656)
    (h : ∀ g W1, St w0 S W1 (Ast.own e sz (some ⟨g, 0, none⟩) n n (madeCells z.cells (n * sz)).toList :: l) → wpList P ops Q rest (a.put o.dst (.slice (some ⟨g, 0, none⟩) n n)) W1) : wpList P ops Q (o :: rest) a W := by
  obtain ⟨i, hi, hz, hs, hb⟩ := info_parts h2
  subst hL; subst hC
  obtain ⟨w', hrun, r1, r2⟩ := run_make_full (P := P) W 0 t e i z sz h1 hi hz hs .i64 .i64 n (by rw [hb]; exact b2) (by unfold maxLen; omega) (Nat.zero_le _)
  have hK : St W [] w' [Ast.own e sz (some ⟨W.heap.size, 0, none⟩) n n (madeCells z.cells (n * sz)).toList] :=
    ⟨r2.os, r2.tape, r2.output, r2.size, fun k hk _ => r2.block k hk (by simp), fun a ha => by rw [List.mem_singleton.1 ha]; exact r1, by simp [Ast.own], fun a ha b hb => by
      rw [List.mem_singleton.1 ha] at hb
      simp [Ast.own] at hb
      exact .inr (by omega)⟩
  refine ev_run (W1 := w') hgd ?_ (h _ _ (H.call hK))
  unfold execOp
  simp [ho, hl, hc, hrun]
theorem made_nums (n : Nat) : (madeCells (Value.cells (.int .i64 0)) (n * 1)).toList = nums (List.replicate n 0) := by
  have := toList_madeCells_one (.int .i64 0) n
  rw [Nat.mul_one]
  exact this.trans (by simp [nums])
end
theorem info_int : (Tryz.prog.info? 3).map (fun i => (i.zero, i.size, i.bytes)) = some (some (.int .i64 0), 1, 8) := by kernel_rfl
end Go.Proofs.YtjgggmcnbdjdjaaGreat.K

/- Words of my own for arguments: a struct of whatever depth, opened to its leaves; rows of numbers that came in. -/
namespace Go.Proofs.YtjgggmcnbdjdjaaGreat.K
open Go.RowKit Go.ChangeShapes Go.WideShapes Go.ChangeAt Go.Deep
set_option maxRecDepth 20000
set_option linter.unusedVariables false
set_option linter.unusedSimpArgs false

/-- The leaves of a type: whole numbers, flags, slices. -/
def flatFields (g : TypeId → Option (List TypeId)) (P : Program) : List Field → Nat → Option (List TypeId)
  | [], _ => some []
  | f :: fs, off =>
    if f.offset = off then
      match g f.type with
      | none => none
      | some a => if P.cellsOf f.type = a.length then (match flatFields g P fs (off + a.length) with | none => none | some b => some (a ++ b)) else none
    else none
def flat (P : Program) : Nat → TypeId → Option (List TypeId)
  | 0, _ => none
  | k + 1, t =>
    match P.underlying t with
    | some (.struct fs) => (match flatFields (flat P k) P fs.toList 0 with | none => none | some l => if P.cellsOf t = l.length then some l else none)
    | some (.int _) => some [t]
    | some .bool => some [t]
    | some (.slice _) => some [t]
    | _ => none
section
variable {H : Type} {enc : TypeId × Value → H} {P : Program} {w : World} {base : Nat} {spare : Nat → Bool} {held : Bool}
theorem flatFields_at {g : TypeId → Option (List TypeId)} {cs : List Value}
    (hg : ∀ t a, g t = some a → ∀ n ds y, DataW.trod enc P w base spare held n t ds = some y → ∀ (j : Nat) (u : Value) (tj : TypeId), ds[j]? = some u → a[j]? = some tj → ∃ n' y', DataW.trod enc P w base spare held n' tj [u] = some y') :
    ∀ (fs : List Field) (off : Nat) (l : List TypeId), flatFields g P fs off = some l →
      (∀ f, f ∈ fs → ∃ n y, DataW.trod enc P w base spare held n f.type ((cs.drop f.offset).take (P.cellsOf f.type)) = some y) →
      ∀ (j : Nat) (u : Value) (tj : TypeId), cs[off + j]? = some u → l[j]? = some tj → ∃ n' y', DataW.trod enc P w base spare held n' tj [u] = some y'
  | [], off, l, h, _, j, u, tj, _, hl => by
    simp only [flatFields, Option.some.injEq] at h
    subst h
    simp at hl
  | f :: fs, off, l, h, hf, j, u, tj, hu, hl => by
    unfold flatFields at h
    split at h
    · rename_i ho
      split at h
      · cases h
      · rename_i a ha
        split at h
        · rename_i hc
          split at h
          · cases h
          · rename_i b hb
            injection h with h
            subst h
            by_cases hj : j < a.length
            · obtain ⟨n, y, hy⟩ := hf f List.mem_cons_self
              refine hg f.type a ha n _ y hy j u tj ?_ ?_
              · rw [List.getElem?_take, if_pos (by omega), List.getElem?_drop, ho]; exact hu
              · rw [List.getElem?_append_left hj] at hl; exact hl
            · refine flatFields_at hg fs (off + a.length) b hb (fun f' hf' => hf f' (List.mem_cons_of_mem _ hf')) (j - a.length) u tj ?_ ?_
              · rw [show off + a.length + (j - a.length) = off + j by omega]; exact hu
              · rw [List.getElem?_append_right (by omega)] at hl; exact hl
        · cases h
    · cases h
theorem flat_at : ∀ (k : Nat) (t : TypeId) (l : List TypeId), flat P k t = some l → ∀ n (ds : List Value) y, DataW.trod enc P w base spare held n t ds = some y → ∀ (j : Nat) (u : Value) (tj : TypeId), ds[j]? = some u → l[j]? = some tj → ∃ n' y', DataW.trod enc P w base spare held n' tj [u] = some y'
  | 0, _, _, h, _, _, _, _, _, _, _, _, _ => by simp [flat] at h
  | k + 1, t, l, h, n, ds, y, hy, j, u, tj, hu, hl => by
    unfold flat at h
    have leaf : l = [t] → ds.length = 1 → ∃ n' y', DataW.trod enc P w base spare held n' tj [u] = some y' := by
      rintro rfl h1
      match ds, h1 with
      | [d], _ =>
        have hj : j = 0 := by
          rcases j with _ | j
          · rfl
          · simp at hu
        subst hj
        simp at hu hl
        subst hu hl
        exact ⟨n, y, hy⟩
    split at h
    · rename_i fs hfs
      split at h
      · cases h
      · rename_i l' hl'
        split at h
        · injection h with h
          subst h
          obtain ⟨xs, m, _, _, _, hlen, hf⟩ := DataW.trod_struct hfs hy
          refine flatFields_at (cs := ds) (fun t a ha n ds y => flat_at k t a ha n ds y) fs.toList 0 l' hl' (fun f hm => ?_) j u tj (by rw [Nat.zero_add]; exact hu) hl
          obtain ⟨i, hi, rfl⟩ := List.getElem_of_mem hm
          have hi' : i < fs.size := by simpa using hi
          have h1 := hf i fs[i] (Array.getElem?_eq_getElem hi')
          have h2 : xs[i]? = some (xs[i]'(by omega)) := List.getElem?_eq_getElem (by omega)
          exact ⟨m, _, by simpa using h1.trans h2⟩
        · cases h
    · rename_i k' hk'
      obtain ⟨n', rfl, _⟩ := DataW.trod_int hk' hy
      exact leaf (by injection h with h; exact h.symm) rfl
    · rename_i hk'
      obtain ⟨b', rfl, _⟩ := DataW.trod_bool hk' hy
      exact leaf (by injection h with h; exact h.symm) rfl
    · rename_i e hk'
      rcases open_slice hk' hy with ⟨rfl, _⟩ | ⟨a, len, cap, m, _, _, _, rfl, _⟩
      · exact leaf (by injection h with h; exact h.symm) rfl
      · exact leaf (by injection h with h; exact h.symm) rfl
    · cases h
/-- A struct argument, opened: its cells, and of each that it reads. -/
theorem open_flat {r : Reach} {b0 k : Nat} {t : TypeId} {fs : Array Field} {v : Value} {d : DataW H} {p : List MemPlace} {l : List TypeId} (hs : P.underlying t = some (.struct fs)) (hl : flat P k t = some l) (hC : P.cellsOf t = l.length)
    (hv : Value.okWide P w r b0 t v) (h : DataW.Trod enc P w base spare held t v d p) :
    ∃ cs : List Value, v = .agg cs.toArray ∧ cs.length = l.length ∧ ∀ (j : Nat) (u : Value) (tj : TypeId), cs[j]? = some u → l[j]? = some tj → ∃ n y, DataW.trod enc P w base spare held n tj [u] = some y := by
  obtain ⟨⟨cs⟩, rfl, hsz⟩ := okWide_struct hs hv
  obtain ⟨fuel, hf⟩ := h
  refine ⟨cs, rfl, by have := hsz.trans hC; simpa using this, fun j u tj hu ht => flat_at k t l hl fuel cs _ (by simpa [Value.cells] using hf) j u tj hu ht⟩
theorem leaf_int {t : TypeId} {n : Nat} {u : Value} {y : DataW H × List MemPlace} {k : IntKind} (ht : P.underlying t = some (.int k)) (h : DataW.trod enc P w base spare held n t [u] = some y) : ∃ x, u = .int k x ∧ (Lit.int k x).wf = true := by
  obtain ⟨x, h1, _, h2⟩ := DataW.trod_int ht h
  exact ⟨x, by simpa using h1, h2⟩
theorem leaf_bool {t : TypeId} {n : Nat} {u : Value} {y : DataW H × List MemPlace} (ht : P.underlying t = some .bool) (h : DataW.trod enc P w base spare held n t [u] = some y) : ∃ x, u = .bool x := by
  obtain ⟨x, h1, _⟩ := DataW.trod_bool ht h
  exact ⟨x, by simpa using h1⟩
theorem leaf_ints {t e : TypeId} {n : Nat} {u : Value} {y : DataW H × List MemPlace} (ht : P.underlying t = some (.slice e)) (he : P.underlying e = some (.int .i64)) (hc : P.cellsOf e = 1) (h : DataW.trod enc P w base spare held n t [u] = some y) :
    ∃ (A : Option Addr) (c : Nat) (xs : List Int), u = .slice A xs.length c ∧ InI w A c xs ∧ ∀ x, x ∈ xs → (Lit.int .i64 x).wf = true := by
  rcases open_ints ht he hc h with ⟨hcs, _⟩ | ⟨x, l, c, zs, hcs, _, hl, hm, hz, _, hcell, hwz⟩
  · simp at hcs
    exact ⟨none, 0, [], hcs, ⟨Nat.le_refl _, by simp, fun h => absurd h (by simp)⟩, fun x hx => by cases hx⟩
  · simp at hcs
    have hlz : l ≤ zs.length := by rw [hz]; split <;> omega
    unfold maxLen at hm
    refine ⟨some x, c, zs.take l, by rw [List.length_take, Nat.min_eq_left hlz]; exact hcs, ⟨by rw [List.length_take]; omega, by rw [List.length_take]; omega, fun _ => ⟨x, rfl, fun j hj => ?_⟩⟩, fun z hz' => hwz z (List.mem_of_mem_take hz')⟩
    have hj' : j < l := by rw [List.length_take] at hj; omega
    rw [hcell j (by omega)]
    simp only [rd, List.getD_eq_getElem?_getD, List.getElem?_take, hj', if_true]
end
end Go.Proofs.YtjgggmcnbdjdjaaGreat.K

