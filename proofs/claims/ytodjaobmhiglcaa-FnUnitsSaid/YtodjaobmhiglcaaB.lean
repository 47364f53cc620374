/- What the functions over rows of whole numbers tell: bytes, pads, copies, whether two are alike. -/
import Derived.Test.YtodjaobmhiglcaaA
import Derived.Test.YtodjaobmhiglcaaR
import Derived.StillTailTactics
namespace Go.Proofs.Ytodjaobmhiglcaa.B
open Go.RowKit Go.Proofs.Ytodjaobmhiglcaa.K
attribute [local go_sem] max2_int min2_int max_two min_two i64_and255 i64_and65535 i64_and1
set_option maxRecDepth 20000
set_option linter.unusedVariables false
set_option linter.unusedSimpArgs false
/-- All numbers are in a range. -/
def allB (lo hi : Int) (xs : List Int) : Bool := xs.all fun n => inB n lo hi
theorem allB_at {lo hi : Int} {xs : List Int} (h : allB lo hi xs = true) {k : Nat} (hk : k < xs.length) : inB (rd xs k) lo hi = true := by
  have := List.all_eq_true.1 h xs[k] (List.getElem_mem hk)
  simpa [rd_at hk] using this
theorem allB_no {lo hi : Int} {xs : List Int} {k : Nat} (hk : k < xs.length) (h : ¬ inB (rd xs k) lo hi = true) : allB lo hi xs = false := by
  cases e : allB lo hi xs with
  | false => rfl
  | true => exact absurd (allB_at e hk) h
theorem allB_yes {lo hi : Int} {xs : List Int} (h : ∀ k, k < xs.length → inB (rd xs k) lo hi = true) : allB lo hi xs = true := by
  refine List.all_eq_true.2 fun x hx => ?_
  obtain ⟨k, hk, rfl⟩ := List.getElem_of_mem hx
  simpa [rd_at hk] using h k hk
def padsB (xs : List Int) : Bool := decide (xs.length ≤ 20) && allB 0 255 xs
set_option maxHeartbeats 1000000 in
theorem laws_toIntS (A : Option Addr) (c : Nat) (xs : List Int) (w : World) (hx : InI w A c xs) (hs : xs.length ≤ 1048576) :
    Calls Try.prog 64 #[.slice A xs.length c] w fun e w' => ∃ g, e = .returned (.slice (some ⟨g, 0, none⟩) xs.length xs.length) ∧ St w [] w' [Ast.ints (some ⟨g, 0, none⟩) xs.length xs] := by
  have H := St.nil w []
  have hm := hx.2.1
  go_enter Try.func64, Try.ntmps64
  go_wp2_with ((with_reducible refine g_make rfl ?_); refine ev_make H rfl rfl Try.underlying24 info_int rfl rfl rfl rfl (by omega) (by omega) ?_; intro g_ W_ H_; rw [made_nums] at H_; (clear H; have H := H_; clear H_))
  go_loopw [4] (fun i wr => ∃ (k : Nat) (cur : List Int), k ≤ xs.length ∧ i = .int .i64 k ∧ cur.length = xs.length ∧ Hid (∀ j, j < k → rd cur j = rd xs j) ∧ St w [] wr [Ast.own 3 1 (some ⟨g_, 0, none⟩) xs.length xs.length (nums cur)]) (fun i _ => xs.length - (intOf i).toNat)
  case atStart => exact ⟨0, _, Nat.zero_le _, rfl, by simp, fun j hj => absurd hj (Nat.not_lt_zero _), H⟩
  case round =>
    clear H
    obtain ⟨k, cur, hk, rfl, hl, HA, H⟩ := hrel
    have HL := Lib.hid hl
    by_cases hlt : k < xs.length
    · obtain ⟨ad, rfl, hc⟩ := hx.cell H hlt
      clear hx hl
      go_wp2_with ((with_reducible refine g_store rfl ?_); refine' ev_store_own (v := .int _ _) H rfl rfl rfl rfl rfl ?_ ?_ ?_ ?_ ?_ ?_ ?_; rotate_left 8; (focus (repeat (first | (with_reducible exact Pick.here) | (with_reducible apply Pick.there)))); (focus exact szT rfl); (focus rfl); (focus (rw [nums_length, HL.out]; exact hlt)); (focus rfl); (focus exact nums_set cur k _ (by rw [HL.out]; exact hlt)); intro W_ H_; (clear H; have H := H_; clear H_))
      go_roundw
      case rel => exact ⟨k + 1, cur.set k (rd xs k), by omega, by go_num, by rw [List.length_set]; exact HL.out, fun j hj => if e : j = k then by rw [e]; simp [rd, HL.out, hlt] else by have := HA.out j (by omega); simpa [rd, List.getD_eq_getElem?_getD, List.getElem?_set, Ne.symm e] using this, H⟩
      case measure => simp [intOf]; omega
    · go_wp2
      go_ret
      have he : cur = xs := rd_ext HL.out fun j hj => HA.out j (by have := HL.out; omega)
      subst he
      exact ⟨_, rfl, H⟩
/-- Two rows that are alike. -/
theorem laws_eqIntS (A B : Option Addr) (c d : Nat) (xs : List Int) (w : World) (hx : InI w A c xs) (hy : InI w B d xs) :
    Calls Try.prog 67 #[.slice A xs.length c, .slice B xs.length d] w fun e w' => e = .returned (.bool true) ∧ St w [] w' [] := by
  have H := St.nil w []
  have hm := hx.2.1
  go_enter Try.func67, Try.ntmps67
  go_wp2
  go_loopw [5] (fun i wr => ∃ k : Nat, k ≤ xs.length ∧ i = .int .i64 k ∧ St w [] wr []) (fun i _ => xs.length - (intOf i).toNat)
  case atStart => exact ⟨0, Nat.zero_le _, rfl, H⟩
  case round =>
    clear H
    obtain ⟨k, hk, rfl, H⟩ := hrel
    by_cases hlt : k < xs.length
    · obtain ⟨ad, rfl, hc⟩ := hx.cell H hlt
      obtain ⟨ae, rfl, hd⟩ := hy.cell H hlt
      clear hx hy
      have hl1 : (k : Int) < (xs.length : Int) := by omega
      go_wp2
      go_quiet (fail)
      have H_ := H.drewN nq
      (clear H; have H := H_; clear H_)
      go_wp2
      go_roundw
      case rel => exact ⟨k + 1, by omega, by go_num, H⟩
      case measure => simp [intOf]; omega
    · go_wp2
      go_ret
      exact ⟨rfl, H⟩
end Go.Proofs.Ytodjaobmhiglcaa.B
