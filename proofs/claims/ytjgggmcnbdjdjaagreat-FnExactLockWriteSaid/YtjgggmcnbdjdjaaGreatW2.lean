/- What a step of the sound unit that comes after does. (written by wgen.py) -/
import Derived.Test.YtjgggmcnbdjdjaaGreatW
namespace Go.Proofs.YtjgggmcnbdjdjaaGreat.C
open Go.RowKit Go.Proofs.YtjgggmcnbdjdjaaGreat.K Go.Proofs.YtjgggmcnbdjdjaaGreat.B
attribute [local go_sem] max2_int min2_int max_two min_two i64_and255 i64_and65535 i64_and1
set_option maxRecDepth 20000
set_option linter.unusedVariables false
set_option linter.unusedSimpArgs false
theorem ringO_ofOwn {w : World} {x : RingD} {A : Option Addr} {c : Nat} (h : (ownR A c x.list).p w) (h2 : x.list.length ≤ 1048576) : (ringO x ⟨⟨A, c⟩⟩).p w := ringO_ofA (q := ⟨⟨A, c⟩⟩) (fun a ha => by rw [List.mem_singleton.1 ha]; exact h) h2
theorem ringO_fpOwn (x : RingD) (A : Option Addr) (c : Nat) : (ringO x ⟨⟨A, c⟩⟩).fp = (ownR A c x.list).fp := by simp [ringO, Ast.all, Ast.pure, Ast.row, Ast.own]
theorem St.addFree {w0 W : World} {S : List Nat} {l : List Ast} {a : Ast} (h : St w0 S W l) (hf : a.fp = []) (hp : a.p W) : St w0 S W (a :: l) :=
  ⟨h.os, h.tape, h.output, h.size, h.block, fun b hb => by
    rcases List.mem_cons.1 hb with rfl | hb
    · exact hp
    · exact h.hp b hb, by have := h.nd; simpa [hf] using this, fun b hb c hc => by
    rcases List.mem_cons.1 hb with rfl | hb
    · rw [hf] at hc; cases hc
    · exact h.own b hb c hc⟩
end Go.Proofs.YtjgggmcnbdjdjaaGreat.C
