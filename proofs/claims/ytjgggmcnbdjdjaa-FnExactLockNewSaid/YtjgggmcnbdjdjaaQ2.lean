/- What the picture unit does in a variable of its own: next, write, read, tick. (written by qgen.py) -/
import Derived.Test.YtjgggmcnbdjdjaaQ
namespace Go.Proofs.Ytjgggmcnbdjdjaa.C
open Go.RowKit Go.Proofs.Ytjgggmcnbdjdjaa.K Go.Proofs.Ytjgggmcnbdjdjaa.B
attribute [local go_sem] max2_int min2_int max_two min_two i64_and255 i64_and65535 i64_and1
set_option maxRecDepth 20000
set_option linter.unusedVariables false
set_option linter.unusedSimpArgs false
/-- A write to the table at Addr. -/
def PpuD.poke (x : PpuD) (v : Int) : PpuD := { x with table := x.table.set x.addr.toNat (v % 64), addr := (x.addr + 1) % 16 }
def PpuD.wr (x : PpuD) (r v : Int) : PpuD :=
  if r = 0 then { x with ctrl := v % 256 } else if r = 1 then { x with scroll := v % 256 } else if r = 3 then { x with addr := v % 256 % 16 }
  else if r = 4 then x.poke (v % 256) else if r = 5 then { x with pal := v % 256 % 64 } else x
def PpuD.rdv (x : PpuD) (r : Int) : Int := if r = 2 then 128 * (if x.blank = true then 1 else 0) else if r = 4 then rd x.table x.addr.toNat else 0
def PpuD.rdx (x : PpuD) (r : Int) : PpuD := if r = 2 then { x with blank := false } else if r = 4 then { x with addr := (x.addr + 1) % 16 } else x
def PpuD.tk (x : PpuD) : PpuD :=
  if x.t % 64 < 48 then { x with t := x.t + 1, dots := x.dots ++ [x.dot (x.t % 64)] }
  else if x.t % 64 = 48 then { x with t := x.t + 1, blank := true, dots := [] }
  else if x.t % 64 = 63 then { x with t := x.t + 1, blank := false } else { x with t := x.t + 1 }
def PpuD.told (x : PpuD) : Bool := x.t % 64 == 48
def PpuD.frame (x : PpuD) : List Int := if x.t % 64 = 48 then x.dots else []
def PpuD.asks (x : PpuD) : Bool := (x.t % 64 == 48) && decide (x.ctrl > 127)
theorem own_cell_int {g c : Nat} {xs : List Int} {w : World} (h : (intsA ⟨some ⟨g, 0, none⟩, c⟩ xs).p w) {j : Nat} (hj : j < xs.length) : w.cell? ⟨g, j, none⟩ = some (.int .i64 (rd xs j)) := by
  obtain ⟨g', h1, h2⟩ := ints_cell h hj
  injection h1 with h1; injection h1 with h1; subst h1
  exact h2
theorem nil_ok (w : World) : (intsA ⟨none, 0⟩ []).p w := ⟨rfl, .inl ⟨rfl, rfl⟩⟩
theorem St.addNil {w0 W : World} {S : List Nat} {l : List Ast} (h : St w0 S W l) : St w0 S W (intsA ⟨none, 0⟩ [] :: l) :=
  ⟨h.os, h.tape, h.output, h.size, h.block, fun a ha => by
    rcases List.mem_cons.1 ha with rfl | ha
    · exact nil_ok W
    · exact h.hp a ha, by have := h.nd; simpa [Ast.own] using this, fun a ha b hb => by
    rcases List.mem_cons.1 ha with rfl | ha
    · simp [Ast.own] at hb
    · exact h.own a ha b hb⟩
theorem fill_int (v : Int) : Instr.fill (fun i => some (i * 1, 1)) ((Array.range (1 * 1)).map ((Value.cells (.int .i64 0))[· % (Value.cells (.int .i64 0)).size]!)) [(0, .int .i64 v)] = some [Value.int .i64 v].toArray := by
  kernel_rfl
theorem own_set (A : Option Addr) (c : Nat) (xs : List Int) (i : Nat) (v : Int) : Ast.own 3 1 A xs.length c (nums (xs.set i v)) = intsA ⟨A, c⟩ (xs.set i v) := by
  unfold intsA
  simp
theorem own_some {T : TypeId} {sz : Nat} {A : Option Addr} {n c : Nat} {xs : List Value} {w : World} (h : (Ast.own T sz A n c xs).p w) (h0 : 0 < n) : ∃ g, A = some ⟨g, 0, none⟩ ∧ n ≤ c := by
  rcases own_form h with ⟨_, h1, _, _⟩ | ⟨g, cur, hA, _, h1, _⟩
  · omega
  · exact ⟨g, hA, h1⟩

end Go.Proofs.Ytjgggmcnbdjdjaa.C
