/- Rows that are the same; what the laws over drawn picture units ask. -/
import Derived.Test.YtodjaobmhiglcaaDR7
namespace Go.Proofs.Ytodjaobmhiglcaa.C
open Go.RowKit Go.Proofs.Ytodjaobmhiglcaa.K Go.Proofs.Ytodjaobmhiglcaa.B
attribute [local go_sem] max2_int min2_int max_two min_two i64_and255 i64_and65535 i64_and1
set_option maxRecDepth 20000
set_option linter.unusedVariables false
set_option linter.unusedSimpArgs false
/-- Two rows that are alike. -/
theorem laws_sameInts (A B : Option Addr) (c d : Nat) (xs : List Int) (w : World) (hx : InI w A c xs) (hy : InI w B d xs) :
    Calls Try.prog 18 #[.slice A xs.length c, .slice B xs.length d] w fun e w' => e = .returned (.bool true) ∧ Below w.heap.size w w' := by
  have H := St.nil w []
  have hm := hx.2.1
  go_enter Try.func18, Try.ntmps18
  go_wp2
  go_loopw [5] (fun i wr => ∃ k : Nat, k ≤ xs.length ∧ i = .int .i64 k ∧ St w [] wr []) (fun i _ => xs.length - (intOf i).toNat)
  case atStart => exact ⟨0, Nat.zero_le _, rfl, H⟩
  case round =>
    clear H
    obtain ⟨k, hk, rfl, H⟩ := hrel
    by_cases hlt : k < xs.length
    · obtain ⟨ad, rfl, hc⟩ := hx.cell H hlt
      obtain ⟨ae, rfl, hd⟩ := hy.cell H hlt
      clear hx hy
      have hl1 : (k : Int) < (xs.length : Int) := by omega
      go_wp2
      go_quiet (fail)
      have H_ := H.drewN nq
      (clear H; have H := H_; clear H_)
      go_wp2
      go_roundw
      case rel => exact ⟨k + 1, by omega, by go_num, H⟩
      case measure => simp [intOf]; omega
    · go_wp2
      go_ret
      exact ⟨rfl, H.below⟩
end Go.Proofs.Ytodjaobmhiglcaa.C
