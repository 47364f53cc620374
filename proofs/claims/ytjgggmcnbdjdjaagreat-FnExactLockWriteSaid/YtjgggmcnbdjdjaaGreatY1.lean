/- What the tests of memory and of the processor tell. -/
import Derived.Test.YtjgggmcnbdjdjaaGreatY0
namespace Go.Proofs.YtjgggmcnbdjdjaaGreat.C
open Go.RowKit Go.Proofs.YtjgggmcnbdjdjaaGreat.K Go.Proofs.YtjgggmcnbdjdjaaGreat.B
attribute [local go_sem] max2_int min2_int max_two min_two i64_and255 i64_and65535 i64_and1
set_option maxRecDepth 20000
set_option linter.unusedVariables false
set_option linter.unusedSimpArgs false
theorem rows_at_ {w0 W : World} {ad : Addr} {c : Nat} {r : List Sl} {rs : List (List Int)} (h : InRR w0 ⟨⟨some ad, c⟩, r⟩ rs) {l : List Ast} (H : St w0 [] W l) {k : Nat} (hk : k < rs.length) : W.cell? (ad.add k) = some (.slice (slAt r k).A (rwAt rs k).length (slAt r k).c) := by
  obtain ⟨ad', h1, h2⟩ := h.cell H hk
  injection h1 with h1; subst h1; exact h2
theorem int_at_ {w0 W : World} {ad : Addr} {c : Nat} {xs : List Int} (h : InI w0 (some ad) c xs) {l : List Ast} (H : St w0 [] W l) {k : Nat} (hk : k < xs.length) : W.cell? (ad.add k) = some (.int .i64 (rd xs k)) := by
  obtain ⟨ad', h1, h2⟩ := h.cell H hk
  injection h1 with h1; subst h1; exact h2
set_option maxHeartbeats 4000000 in
theorem impl_ImageOk (m : ImageD) (q : ImageP) (w : World) (hx : ImageIn w m q) : Calls Tryz.prog 183 #[.agg #[.slice q.banks.s.A m.banks.length q.banks.s.c]] w fun e w' => e = .returned (.bool m.ok) ∧ Below w.heap.size w w' := by
  have H := St.nil w []
  have hb := hx.banks
  have hm := hb.mx
  obtain ⟨⟨⟨A, c⟩, r⟩⟩ := q
  simp only at hb
  clear hx
  go_enter Tryz.func183, Tryz.ntmps183
  go_wp2_with (first | ((with_reducible refine g_box rfl ?_); (first | refine ev_box (v := .int _ _) H rfl rfl rfl rfl ?_ | refine ev_box (v := .bool _) H rfl rfl rfl rfl ?_ | refine ev_box (v := .slice _ _ _) H rfl rfl rfl rfl ?_ | refine ev_box (v := .agg _) H rfl rfl rfl rfl ?_); intro g_ W_ H_; (clear H; have H := H_; clear H_)) | ((with_reducible refine g_alloc rfl ?_); refine ev_new H rfl rfl ?_; intro g_ W_ H_; (clear H; have H := H_; clear H_)) | ((with_reducible refine g_load rfl ?_); first | refine ev_ld1 H rfl rfl rfl ?_ | refine ev_lda H rfl rfl rfl ?_) | ((with_reducible refine g_store rfl ?_); (first | refine ev_sto (v := .int _ _) H rfl rfl rfl rfl rfl ?_ | refine ev_sto (v := .bool _) H rfl rfl rfl rfl rfl ?_ | refine ev_sto (v := .slice _ _ _) H rfl rfl rfl rfl rfl ?_ | refine ev_sto (v := .agg _) H rfl rfl rfl rfl rfl ?_); intro W_ H_; (clear H; have H := H_; clear H_)))
  go_loopw [8] (fun i wr => ∃ k : Nat, k ≤ m.banks.length ∧ i = .int .i64 k ∧ Hid (∀ j, j < k → bankB (rwAt m.banks j) = true) ∧ St w [] wr [Ast.blk g_ [.slice A m.banks.length c] 41]) (fun i _ => m.banks.length - (intOf i).toNat)
  case atStart => exact ⟨0, Nat.zero_le _, rfl, Lib.hid fun j hj => absurd hj (Nat.not_lt_zero _), H⟩
  case round =>
    clear H
    obtain ⟨k, hk, rfl, HA, H⟩ := hrel
    by_cases hlt : k < m.banks.length
    · obtain ⟨ad, hA, _⟩ := hb.cell H hlt
      simp only at hA
      subst hA
      have hr := hb.row k hlt
      simp only at hr
      by_cases hl : (rwAt m.banks k).length = 256
      · have hl1 : (((rwAt m.banks k).length : Int) != 256) = false := by rw [hl]; rfl
        have HL := Lib.hid hl
        clear hl
        cases hbt : allB 0 255 (rwAt m.banks k)
        · have HZ : Hid (m.ok = false) := Lib.hid (by simp [ImageD.ok, banks_no hlt (show bankB (rwAt m.banks k) = false by simp [bankB, hbt])])
          go_wp2_with (first | ((with_reducible refine g_load rfl ?_); refine ev_load_in_one rfl rfl rfl (oneT rfl) (rows_at_ hb H hlt) ?_) | (go_at_call 184; (with_reducible refine (impl_bytesOk _ _ (rwAt m.banks k) _ (hr.on H)).mono ?_); rintro e w1 ⟨rfl, rfl⟩; rw [hbt]))
          go_ret
          exact ⟨ret_b HZ.out.symm, H.below⟩
        · have HB : Hid (bankB (rwAt m.banks k) = true) := Lib.hid (by simp [bankB, hbt, HL.out])
          go_wp2_with (first | ((with_reducible refine g_load rfl ?_); refine ev_load_in_one rfl rfl rfl (oneT rfl) (rows_at_ hb H hlt) ?_) | (go_at_call 184; (with_reducible refine (impl_bytesOk _ _ (rwAt m.banks k) _ (hr.on H)).mono ?_); rintro e w1 ⟨rfl, rfl⟩; rw [hbt]))
          go_roundw
          case rel => exact ⟨k + 1, by omega, by go_num, Lib.hid fun j hj => if e : j = k then by rw [e]; exact HB.out else HA.out j (by omega), H⟩
          case measure => simp [intOf]; omega
      · have hl1 : (((rwAt m.banks k).length : Int) != 256) = true := by rw [bne_iff_ne]; omega
        have HZ : Hid (m.ok = false) := Lib.hid (by simp [ImageD.ok, banks_no hlt (show bankB (rwAt m.banks k) = false by simp [bankB]; omega)])
        clear hl
        go_wp2_with (first | ((with_reducible refine g_load rfl ?_); refine ev_load_in_one rfl rfl rfl (oneT rfl) (rows_at_ hb H hlt) ?_) | (go_at_call 184; (with_reducible refine (impl_bytesOk _ _ (rwAt m.banks k) _ (hr.on H)).mono ?_); rintro e w1 ⟨rfl, rfl⟩))
        go_ret
        exact ⟨ret_b HZ.out.symm, H.below⟩
    · have HZ : Hid (m.ok = inB (m.banks.length : Int) 1 8) := Lib.hid (by simp [ImageD.ok, banks_yes fun j hj => HA.out j (by omega)])
      go_wp2_with (first | ((with_reducible refine g_box rfl ?_); (first | refine ev_box (v := .int _ _) H rfl rfl rfl rfl ?_ | refine ev_box (v := .bool _) H rfl rfl rfl rfl ?_ | refine ev_box (v := .slice _ _ _) H rfl rfl rfl rfl ?_ | refine ev_box (v := .agg _) H rfl rfl rfl rfl ?_); intro g_ W_ H_; (clear H; have H := H_; clear H_)) | ((with_reducible refine g_alloc rfl ?_); refine ev_new H rfl rfl ?_; intro g_ W_ H_; (clear H; have H := H_; clear H_)) | ((with_reducible refine g_load rfl ?_); first | refine ev_ld1 H rfl rfl rfl ?_ | refine ev_lda H rfl rfl rfl ?_) | ((with_reducible refine g_store rfl ?_); (first | refine ev_sto (v := .int _ _) H rfl rfl rfl rfl rfl ?_ | refine ev_sto (v := .bool _) H rfl rfl rfl rfl rfl ?_ | refine ev_sto (v := .slice _ _ _) H rfl rfl rfl rfl rfl ?_ | refine ev_sto (v := .agg _) H rfl rfl rfl rfl rfl ?_); intro W_ H_; (clear H; have H := H_; clear H_)) | (go_at_call 123; (with_reducible refine (impl_within _ _ _ _).mono ?_); rintro e w1 ⟨rfl, rfl⟩))
      go_ret
      exact ⟨ret_b HZ.out.symm, H.below⟩
set_option maxHeartbeats 4000000 in
theorem spec_ImageOk (m : ImageD) (q : ImageP) (w : World) (hx : ImageIn w m q) : Calls Tryz.prog 177 #[.agg #[.slice q.banks.s.A m.banks.length q.banks.s.c]] w fun e w' => e = .returned (.bool m.ok) ∧ Below w.heap.size w w' := by
  have H := St.nil w []
  have hb := hx.banks
  have hm := hb.mx
  obtain ⟨⟨⟨A, c⟩, r⟩⟩ := q
  simp only at hb
  clear hx
  go_enter Tryz.func177, Tryz.ntmps177
  go_wp2_with (first | ((with_reducible refine g_box rfl ?_); (first | refine ev_box (v := .int _ _) H rfl rfl rfl rfl ?_ | refine ev_box (v := .bool _) H rfl rfl rfl rfl ?_ | refine ev_box (v := .slice _ _ _) H rfl rfl rfl rfl ?_ | refine ev_box (v := .agg _) H rfl rfl rfl rfl ?_); intro g_ W_ H_; (clear H; have H := H_; clear H_)) | ((with_reducible refine g_alloc rfl ?_); refine ev_new H rfl rfl ?_; intro g_ W_ H_; (clear H; have H := H_; clear H_)) | ((with_reducible refine g_load rfl ?_); first | refine ev_ld1 H rfl rfl rfl ?_ | refine ev_lda H rfl rfl rfl ?_) | ((with_reducible refine g_store rfl ?_); (first | refine ev_sto (v := .int _ _) H rfl rfl rfl rfl rfl ?_ | refine ev_sto (v := .bool _) H rfl rfl rfl rfl rfl ?_ | refine ev_sto (v := .slice _ _ _) H rfl rfl rfl rfl rfl ?_ | refine ev_sto (v := .agg _) H rfl rfl rfl rfl rfl ?_); intro W_ H_; (clear H; have H := H_; clear H_)))
  go_loopw [3] (fun i wr => ∃ k : Nat, k ≤ m.banks.length ∧ i = .int .i64 k ∧ Hid (∀ j, j < k → bankB (rwAt m.banks j) = true) ∧ St w [] wr [Ast.blk g_ [.slice A m.banks.length c] 41]) (fun i _ => m.banks.length - (intOf i).toNat)
  case atStart => exact ⟨0, Nat.zero_le _, rfl, Lib.hid fun j hj => absurd hj (Nat.not_lt_zero _), H⟩
  case round =>
    clear H
    obtain ⟨k, hk, rfl, HA, H⟩ := hrel
    by_cases hlt : k < m.banks.length
    · obtain ⟨ad, hA, _⟩ := hb.cell H hlt
      simp only at hA
      subst hA
      have hr := hb.row k hlt
      simp only at hr
      have hcell : ∀ {W : World} {l : List Ast}, St w [] W l → W.cell? (ad.add k) = some (.slice (slAt r k).A (rwAt m.banks k).length (slAt r k).c) := fun H' => rows_at_ hb H' hlt
      generalize slAt r k = qk at hr hcell
      obtain ⟨Ak, ck⟩ := qk
      simp only at hr hcell
      by_cases hl : (rwAt m.banks k).length = 256
      · have hl1 : (((rwAt m.banks k).length : Int) != 256) = false := by rw [hl]; rfl
        obtain ⟨ad2, hA2, _⟩ := hr.cell (St.nil w []) (show 0 < (rwAt m.banks k).length by omega)
        subst hA2
        have HL := Lib.hid hl
        clear hl
        go_wp2_with (first | ((with_reducible refine g_load rfl ?_); refine ev_load_in_one rfl rfl rfl (oneT rfl) (hcell H) ?_) | ((with_reducible refine g_box rfl ?_); (first | refine ev_box (v := .int _ _) H rfl rfl rfl rfl ?_ | refine ev_box (v := .bool _) H rfl rfl rfl rfl ?_ | refine ev_box (v := .slice _ _ _) H rfl rfl rfl rfl ?_ | refine ev_box (v := .agg _) H rfl rfl rfl rfl ?_); intro g_ W_ H_; (clear H; have H := H_; clear H_)) | ((with_reducible refine g_alloc rfl ?_); refine ev_new H rfl rfl ?_; intro g_ W_ H_; (clear H; have H := H_; clear H_)) | ((with_reducible refine g_load rfl ?_); first | refine ev_ld1 H rfl rfl rfl ?_ | refine ev_lda H rfl rfl rfl ?_) | ((with_reducible refine g_store rfl ?_); (first | refine ev_sto (v := .int _ _) H rfl rfl rfl rfl rfl ?_ | refine ev_sto (v := .bool _) H rfl rfl rfl rfl rfl ?_ | refine ev_sto (v := .slice _ _ _) H rfl rfl rfl rfl rfl ?_ | refine ev_sto (v := .agg _) H rfl rfl rfl rfl rfl ?_); intro W_ H_; (clear H; have H := H_; clear H_)))
        go_loopw [4] (fun i wr => ∃ j : Nat, j ≤ 256 ∧ i = .int .i64 j ∧ Hid (∀ p, p < j → inB (rd (rwAt m.banks k) p) 0 255 = true) ∧ St w [] wr [Ast.blk g_ [.slice (some ad) m.banks.length c] 41]) (fun i _ => 256 - (intOf i).toNat)
        case atStart => exact ⟨0, Nat.zero_le _, rfl, Lib.hid fun j hj => absurd hj (Nat.not_lt_zero _), H⟩
        case round =>
          clear H
          obtain ⟨j, hj, rfl, HB, H⟩ := hrel
          by_cases hjl : j < 256
          · have hj2 : j < (rwAt m.banks k).length := by have := HL.out; omega
            cases hbt : inB (rd (rwAt m.banks k) j) 0 255
            · have HZ : Hid (m.ok = false) := Lib.hid (by simp [ImageD.ok, banks_no hlt (show bankB (rwAt m.banks k) = false by simp [bankB, allB_no hj2 (show ¬ inB (rd (rwAt m.banks k) j) 0 255 = true by simp [hbt])])])
              go_wp2_with (first | ((with_reducible refine g_load rfl ?_); refine ev_load_in_one rfl rfl rfl (oneT rfl) (hcell H) ?_) | ((with_reducible refine g_load rfl ?_); refine ev_load_in_one rfl rfl rfl (oneT rfl) (int_at_ hr H hj2) ?_) | ((with_reducible refine g_box rfl ?_); (first | refine ev_box (v := .int _ _) H rfl rfl rfl rfl ?_ | refine ev_box (v := .bool _) H rfl rfl rfl rfl ?_ | refine ev_box (v := .slice _ _ _) H rfl rfl rfl rfl ?_ | refine ev_box (v := .agg _) H rfl rfl rfl rfl ?_); intro g_ W_ H_; (clear H; have H := H_; clear H_)) | ((with_reducible refine g_alloc rfl ?_); refine ev_new H rfl rfl ?_; intro g_ W_ H_; (clear H; have H := H_; clear H_)) | ((with_reducible refine g_load rfl ?_); first | refine ev_ld1 H rfl rfl rfl ?_ | refine ev_lda H rfl rfl rfl ?_) | ((with_reducible refine g_store rfl ?_); (first | refine ev_sto (v := .int _ _) H rfl rfl rfl rfl rfl ?_ | refine ev_sto (v := .bool _) H rfl rfl rfl rfl rfl ?_ | refine ev_sto (v := .slice _ _ _) H rfl rfl rfl rfl rfl ?_ | refine ev_sto (v := .agg _) H rfl rfl rfl rfl rfl ?_); intro W_ H_; (clear H; have H := H_; clear H_)) | (go_at_call 107; (with_reducible refine (spec_l1In _ _ _ _).mono ?_); rintro e w1 ⟨rfl, rfl⟩; rw [hbt]))
              go_ret
              exact ⟨ret_b HZ.out.symm, H.below⟩
            · go_wp2_with (first | ((with_reducible refine g_load rfl ?_); refine ev_load_in_one rfl rfl rfl (oneT rfl) (hcell H) ?_) | ((with_reducible refine g_load rfl ?_); refine ev_load_in_one rfl rfl rfl (oneT rfl) (int_at_ hr H hj2) ?_) | ((with_reducible refine g_box rfl ?_); (first | refine ev_box (v := .int _ _) H rfl rfl rfl rfl ?_ | refine ev_box (v := .bool _) H rfl rfl rfl rfl ?_ | refine ev_box (v := .slice _ _ _) H rfl rfl rfl rfl ?_ | refine ev_box (v := .agg _) H rfl rfl rfl rfl ?_); intro g_ W_ H_; (clear H; have H := H_; clear H_)) | ((with_reducible refine g_alloc rfl ?_); refine ev_new H rfl rfl ?_; intro g_ W_ H_; (clear H; have H := H_; clear H_)) | ((with_reducible refine g_load rfl ?_); first | refine ev_ld1 H rfl rfl rfl ?_ | refine ev_lda H rfl rfl rfl ?_) | ((with_reducible refine g_store rfl ?_); (first | refine ev_sto (v := .int _ _) H rfl rfl rfl rfl rfl ?_ | refine ev_sto (v := .bool _) H rfl rfl rfl rfl rfl ?_ | refine ev_sto (v := .slice _ _ _) H rfl rfl rfl rfl rfl ?_ | refine ev_sto (v := .agg _) H rfl rfl rfl rfl rfl ?_); intro W_ H_; (clear H; have H := H_; clear H_)) | (go_at_call 107; (with_reducible refine (spec_l1In _ _ _ _).mono ?_); rintro e w1 ⟨rfl, rfl⟩; rw [hbt]))
              go_roundw
              case rel => exact ⟨j + 1, by omega, by go_num, Lib.hid fun p hp => if e : p = j then by rw [e]; exact hbt else HB.out p (by omega), H⟩
              case measure => simp [intOf]; omega
          · have HC : Hid (bankB (rwAt m.banks k) = true) := Lib.hid (by simp [bankB, HL.out, allB_yes (lo := 0) (hi := 255) (xs := rwAt m.banks k) fun p hp => HB.out p (by have := HL.out; omega)])
            go_wp2_with (first | ((with_reducible refine g_box rfl ?_); (first | refine ev_box (v := .int _ _) H rfl rfl rfl rfl ?_ | refine ev_box (v := .bool _) H rfl rfl rfl rfl ?_ | refine ev_box (v := .slice _ _ _) H rfl rfl rfl rfl ?_ | refine ev_box (v := .agg _) H rfl rfl rfl rfl ?_); intro g_ W_ H_; (clear H; have H := H_; clear H_)) | ((with_reducible refine g_alloc rfl ?_); refine ev_new H rfl rfl ?_; intro g_ W_ H_; (clear H; have H := H_; clear H_)) | ((with_reducible refine g_load rfl ?_); first | refine ev_ld1 H rfl rfl rfl ?_ | refine ev_lda H rfl rfl rfl ?_) | ((with_reducible refine g_store rfl ?_); (first | refine ev_sto (v := .int _ _) H rfl rfl rfl rfl rfl ?_ | refine ev_sto (v := .bool _) H rfl rfl rfl rfl rfl ?_ | refine ev_sto (v := .slice _ _ _) H rfl rfl rfl rfl rfl ?_ | refine ev_sto (v := .agg _) H rfl rfl rfl rfl rfl ?_); intro W_ H_; (clear H; have H := H_; clear H_)))
            go_roundw
            case rel => exact ⟨k + 1, by omega, by go_num, Lib.hid fun j hj => if e : j = k then by rw [e]; exact HC.out else HA.out j (by omega), H⟩
            case measure => simp [intOf]; omega
      · have hl1 : (((rwAt m.banks k).length : Int) != 256) = true := by rw [bne_iff_ne]; omega
        have HZ : Hid (m.ok = false) := Lib.hid (by simp [ImageD.ok, banks_no hlt (show bankB (rwAt m.banks k) = false by simp [bankB]; omega)])
        clear hl
        go_wp2_with (first | ((with_reducible refine g_load rfl ?_); refine ev_load_in_one rfl rfl rfl (oneT rfl) (hcell H) ?_) | ((with_reducible refine g_box rfl ?_); (first | refine ev_box (v := .int _ _) H rfl rfl rfl rfl ?_ | refine ev_box (v := .bool _) H rfl rfl rfl rfl ?_ | refine ev_box (v := .slice _ _ _) H rfl rfl rfl rfl ?_ | refine ev_box (v := .agg _) H rfl rfl rfl rfl ?_); intro g_ W_ H_; (clear H; have H := H_; clear H_)) | ((with_reducible refine g_alloc rfl ?_); refine ev_new H rfl rfl ?_; intro g_ W_ H_; (clear H; have H := H_; clear H_)) | ((with_reducible refine g_load rfl ?_); first | refine ev_ld1 H rfl rfl rfl ?_ | refine ev_lda H rfl rfl rfl ?_) | ((with_reducible refine g_store rfl ?_); (first | refine ev_sto (v := .int _ _) H rfl rfl rfl rfl rfl ?_ | refine ev_sto (v := .bool _) H rfl rfl rfl rfl rfl ?_ | refine ev_sto (v := .slice _ _ _) H rfl rfl rfl rfl rfl ?_ | refine ev_sto (v := .agg _) H rfl rfl rfl rfl rfl ?_); intro W_ H_; (clear H; have H := H_; clear H_)))
        go_ret
        exact ⟨ret_b HZ.out.symm, H.below⟩
    · have HZ : Hid (m.ok = inB (m.banks.length : Int) 1 8) := Lib.hid (by simp [ImageD.ok, banks_yes fun j hj => HA.out j (by omega)])
      go_wp2_with (first | ((with_reducible refine g_box rfl ?_); (first | refine ev_box (v := .int _ _) H rfl rfl rfl rfl ?_ | refine ev_box (v := .bool _) H rfl rfl rfl rfl ?_ | refine ev_box (v := .slice _ _ _) H rfl rfl rfl rfl ?_ | refine ev_box (v := .agg _) H rfl rfl rfl rfl ?_); intro g_ W_ H_; (clear H; have H := H_; clear H_)) | ((with_reducible refine g_alloc rfl ?_); refine ev_new H rfl rfl ?_; intro g_ W_ H_; (clear H; have H := H_; clear H_)) | ((with_reducible refine g_load rfl ?_); first | refine ev_ld1 H rfl rfl rfl ?_ | refine ev_lda H rfl rfl rfl ?_) | ((with_reducible refine g_store rfl ?_); (first | refine ev_sto (v := .int _ _) H rfl rfl rfl rfl rfl ?_ | refine ev_sto (v := .bool _) H rfl rfl rfl rfl rfl ?_ | refine ev_sto (v := .slice _ _ _) H rfl rfl rfl rfl rfl ?_ | refine ev_sto (v := .agg _) H rfl rfl rfl rfl rfl ?_); intro W_ H_; (clear H; have H := H_; clear H_)) | (go_at_call 107; (with_reducible refine (spec_l1In _ _ _ _).mono ?_); rintro e w1 ⟨rfl, rfl⟩))
      go_ret
      exact ⟨ret_b HZ.out.symm, H.below⟩
set_option maxHeartbeats 4000000 in
theorem impl_MemOk (m : ImageD) (qm : ImageP) (x : MemD) (q : MemP) (w : World) (hm : ImageIn w m qm) (hx : MemIn w x q) : Calls Tryz.prog 117 #[.agg #[.slice qm.banks.s.A m.banks.length qm.banks.s.c], .agg #[.slice q.ram.A x.ram.length q.ram.c, .int .i64 x.bank]] w fun e w' => e = .returned (.bool (x.ok m)) ∧ Below w.heap.size w w' := by
  have H := St.nil w []
  have hm1 := hm.banks.mx
  have hm2 := hx.ram.2.1
  go_enter Tryz.func117, Tryz.ntmps117
  go_wp2_with (first | ((with_reducible refine g_box rfl ?_); (first | refine ev_box (v := .int _ _) H rfl rfl rfl rfl ?_ | refine ev_box (v := .bool _) H rfl rfl rfl rfl ?_ | refine ev_box (v := .slice _ _ _) H rfl rfl rfl rfl ?_ | refine ev_box (v := .agg _) H rfl rfl rfl rfl ?_); intro g_ W_ H_; (clear H; have H := H_; clear H_)) | ((with_reducible refine g_alloc rfl ?_); refine ev_new H rfl rfl ?_; intro g_ W_ H_; (clear H; have H := H_; clear H_)) | ((with_reducible refine g_load rfl ?_); first | refine ev_ld1 H rfl rfl rfl ?_ | refine ev_lda H rfl rfl rfl ?_) | ((with_reducible refine g_store rfl ?_); (first | refine ev_sto (v := .int _ _) H rfl rfl rfl rfl rfl ?_ | refine ev_sto (v := .bool _) H rfl rfl rfl rfl rfl ?_ | refine ev_sto (v := .slice _ _ _) H rfl rfl rfl rfl rfl ?_ | refine ev_sto (v := .agg _) H rfl rfl rfl rfl rfl ?_); intro W_ H_; (clear H; have H := H_; clear H_)) | (go_at_call 183; (with_reducible refine (impl_ImageOk m qm _ (hm.on H)).mono ?_); rintro e w1 ⟨rfl, hb⟩; (have H_ := H.callB hb; (clear H; have H := H_; clear H_); clear hb)) | (go_at_call 184; (with_reducible refine (impl_bytesOk _ _ x.ram _ (hx.ram.on H)).mono ?_); rintro e w1 ⟨rfl, rfl⟩) | (go_at_call 123; (with_reducible refine (impl_within _ _ _ _).mono ?_); rintro e w1 ⟨rfl, rfl⟩))
  all_goals (go_ret; exact ⟨ret_b (by simp [MemD.ok, *]), H.below⟩)
set_option maxHeartbeats 4000000 in
theorem spec_MemOk (m : ImageD) (qm : ImageP) (x : MemD) (q : MemP) (w : World) (hm : ImageIn w m qm) (hx : MemIn w x q) : Calls Tryz.prog 102 #[.agg #[.slice qm.banks.s.A m.banks.length qm.banks.s.c], .agg #[.slice q.ram.A x.ram.length q.ram.c, .int .i64 x.bank]] w fun e w' => e = .returned (.bool (x.ok m)) ∧ Below w.heap.size w w' := by
  have H := St.nil w []
  have hm1 := hm.banks.mx
  have hm2 := hx.ram.2.1
  have hr := hx.ram
  obtain ⟨⟨Ak, ck⟩⟩ := q
  simp only at hr
  cases h1 : m.ok
  · go_enter Tryz.func102, Tryz.ntmps102
    go_wp2_with (first | ((with_reducible refine g_box rfl ?_); (first | refine ev_box (v := .int _ _) H rfl rfl rfl rfl ?_ | refine ev_box (v := .bool _) H rfl rfl rfl rfl ?_ | refine ev_box (v := .slice _ _ _) H rfl rfl rfl rfl ?_ | refine ev_box (v := .agg _) H rfl rfl rfl rfl ?_); intro g_ W_ H_; (clear H; have H := H_; clear H_)) | ((with_reducible refine g_alloc rfl ?_); refine ev_new H rfl rfl ?_; intro g_ W_ H_; (clear H; have H := H_; clear H_)) | ((with_reducible refine g_load rfl ?_); first | refine ev_ld1 H rfl rfl rfl ?_ | refine ev_lda H rfl rfl rfl ?_) | ((with_reducible refine g_store rfl ?_); (first | refine ev_sto (v := .int _ _) H rfl rfl rfl rfl rfl ?_ | refine ev_sto (v := .bool _) H rfl rfl rfl rfl rfl ?_ | refine ev_sto (v := .slice _ _ _) H rfl rfl rfl rfl rfl ?_ | refine ev_sto (v := .agg _) H rfl rfl rfl rfl rfl ?_); intro W_ H_; (clear H; have H := H_; clear H_)) | (go_at_call 177; (with_reducible refine (spec_ImageOk m qm _ (hm.on H)).mono ?_); rintro e w1 ⟨rfl, hb⟩; rw [h1]; (have H_ := H.callB hb; (clear H; have H := H_; clear H_); clear hb)))
    all_goals (go_ret; exact ⟨ret_b (by simp [MemD.ok, *]), H.below⟩)
  · by_cases hl : x.ram.length = 512
    · have hl1 : ((x.ram.length : Int) != 512) = false := by rw [hl]; rfl
      obtain ⟨ad2, hA2, _⟩ := hr.cell (St.nil w []) (show 0 < x.ram.length by omega)
      subst hA2
      have HL := Lib.hid hl
      clear hl
      cases h2 : inB x.bank 0 ((m.banks.length : Int) - 1)
      · go_enter Tryz.func102, Tryz.ntmps102
        go_wp2_with (first | ((with_reducible refine g_box rfl ?_); (first | refine ev_box (v := .int _ _) H rfl rfl rfl rfl ?_ | refine ev_box (v := .bool _) H rfl rfl rfl rfl ?_ | refine ev_box (v := .slice _ _ _) H rfl rfl rfl rfl ?_ | refine ev_box (v := .agg _) H rfl rfl rfl rfl ?_); intro g_ W_ H_; (clear H; have H := H_; clear H_)) | ((with_reducible refine g_alloc rfl ?_); refine ev_new H rfl rfl ?_; intro g_ W_ H_; (clear H; have H := H_; clear H_)) | ((with_reducible refine g_load rfl ?_); first | refine ev_ld1 H rfl rfl rfl ?_ | refine ev_lda H rfl rfl rfl ?_) | ((with_reducible refine g_store rfl ?_); (first | refine ev_sto (v := .int _ _) H rfl rfl rfl rfl rfl ?_ | refine ev_sto (v := .bool _) H rfl rfl rfl rfl rfl ?_ | refine ev_sto (v := .slice _ _ _) H rfl rfl rfl rfl rfl ?_ | refine ev_sto (v := .agg _) H rfl rfl rfl rfl rfl ?_); intro W_ H_; (clear H; have H := H_; clear H_)) | (go_at_call 177; (with_reducible refine (spec_ImageOk m qm _ (hm.on H)).mono ?_); rintro e w1 ⟨rfl, hb⟩; rw [h1]; (have H_ := H.callB hb; (clear H; have H := H_; clear H_); clear hb)) | (go_at_call 107; (with_reducible refine (spec_l1In _ _ _ _).mono ?_); rintro e w1 ⟨rfl, rfl⟩; rw [h2]))
        all_goals (go_ret; exact ⟨ret_b (by simp [MemD.ok, h1, h2]), H.below⟩)
      · go_enter Tryz.func102, Tryz.ntmps102
        go_wp2_with (first | ((with_reducible refine g_box rfl ?_); (first | refine ev_box (v := .int _ _) H rfl rfl rfl rfl ?_ | refine ev_box (v := .bool _) H rfl rfl rfl rfl ?_ | refine ev_box (v := .slice _ _ _) H rfl rfl rfl rfl ?_ | refine ev_box (v := .agg _) H rfl rfl rfl rfl ?_); intro g_ W_ H_; (clear H; have H := H_; clear H_)) | ((with_reducible refine g_alloc rfl ?_); refine ev_new H rfl rfl ?_; intro g_ W_ H_; (clear H; have H := H_; clear H_)) | ((with_reducible refine g_load rfl ?_); first | refine ev_ld1 H rfl rfl rfl ?_ | refine ev_lda H rfl rfl rfl ?_) | ((with_reducible refine g_store rfl ?_); (first | refine ev_sto (v := .int _ _) H rfl rfl rfl rfl rfl ?_ | refine ev_sto (v := .bool _) H rfl rfl rfl rfl rfl ?_ | refine ev_sto (v := .slice _ _ _) H rfl rfl rfl rfl rfl ?_ | refine ev_sto (v := .agg _) H rfl rfl rfl rfl rfl ?_); intro W_ H_; (clear H; have H := H_; clear H_)) | (go_at_call 177; (with_reducible refine (spec_ImageOk m qm _ (hm.on H)).mono ?_); rintro e w1 ⟨rfl, hb⟩; rw [h1]; (have H_ := H.callB hb; (clear H; have H := H_; clear H_); clear hb)) | (go_at_call 107; (with_reducible refine (spec_l1In _ _ _ _).mono ?_); rintro e w1 ⟨rfl, rfl⟩; rw [h2]))
        have HQ : Hid (x.ok m = allB 0 255 x.ram) := Lib.hid (by simp [MemD.ok, h1, h2, HL.out])
        clear h1 h2
        go_loopw [5] (fun i wr => ∃ j : Nat, j ≤ 512 ∧ i = .int .i64 j ∧ Hid (∀ p, p < j → inB (rd x.ram p) 0 255 = true) ∧ St w [] wr [Ast.blk g_ [.slice (some ad2) x.ram.length ck, .int .i64 x.bank] 42]) (fun i _ => 512 - (intOf i).toNat)
        case atStart => exact ⟨0, Nat.zero_le _, rfl, Lib.hid fun j hj => absurd hj (Nat.not_lt_zero _), H.take (by (repeat (first | (with_reducible exact Picks.nil) | (with_reducible exact Pick.here) | (with_reducible apply Pick.there) | (with_reducible apply Picks.cons))))⟩
        case round =>
          clear H
          obtain ⟨j, hj, rfl, HB, H⟩ := hrel
          by_cases hjl : j < 512
          · have hj2 : j < x.ram.length := by have := HL.out; omega
            cases hbt : inB (rd x.ram j) 0 255
            · have HZ : Hid (x.ok m = false) := Lib.hid (by rw [HQ.out]; exact allB_no hj2 (by simp [hbt]))
              go_wp2_with (first | ((with_reducible refine g_load rfl ?_); refine ev_load_in_one rfl rfl rfl (oneT rfl) (int_at_ hr H hj2) ?_) | ((with_reducible refine g_box rfl ?_); (first | refine ev_box (v := .int _ _) H rfl rfl rfl rfl ?_ | refine ev_box (v := .bool _) H rfl rfl rfl rfl ?_ | refine ev_box (v := .slice _ _ _) H rfl rfl rfl rfl ?_ | refine ev_box (v := .agg _) H rfl rfl rfl rfl ?_); intro g_ W_ H_; (clear H; have H := H_; clear H_)) | ((with_reducible refine g_alloc rfl ?_); refine ev_new H rfl rfl ?_; intro g_ W_ H_; (clear H; have H := H_; clear H_)) | ((with_reducible refine g_load rfl ?_); first | refine ev_ld1 H rfl rfl rfl ?_ | refine ev_lda H rfl rfl rfl ?_) | ((with_reducible refine g_store rfl ?_); (first | refine ev_sto (v := .int _ _) H rfl rfl rfl rfl rfl ?_ | refine ev_sto (v := .bool _) H rfl rfl rfl rfl rfl ?_ | refine ev_sto (v := .slice _ _ _) H rfl rfl rfl rfl rfl ?_ | refine ev_sto (v := .agg _) H rfl rfl rfl rfl rfl ?_); intro W_ H_; (clear H; have H := H_; clear H_)) | (go_at_call 106; (with_reducible refine (spec_l5Byte _ _).mono ?_); rintro e w1 ⟨rfl, rfl⟩; rw [hbt]))
              go_ret
              exact ⟨ret_b HZ.out.symm, H.below⟩
            · go_wp2_with (first | ((with_reducible refine g_load rfl ?_); refine ev_load_in_one rfl rfl rfl (oneT rfl) (int_at_ hr H hj2) ?_) | ((with_reducible refine g_box rfl ?_); (first | refine ev_box (v := .int _ _) H rfl rfl rfl rfl ?_ | refine ev_box (v := .bool _) H rfl rfl rfl rfl ?_ | refine ev_box (v := .slice _ _ _) H rfl rfl rfl rfl ?_ | refine ev_box (v := .agg _) H rfl rfl rfl rfl ?_); intro g_ W_ H_; (clear H; have H := H_; clear H_)) | ((with_reducible refine g_alloc rfl ?_); refine ev_new H rfl rfl ?_; intro g_ W_ H_; (clear H; have H := H_; clear H_)) | ((with_reducible refine g_load rfl ?_); first | refine ev_ld1 H rfl rfl rfl ?_ | refine ev_lda H rfl rfl rfl ?_) | ((with_reducible refine g_store rfl ?_); (first | refine ev_sto (v := .int _ _) H rfl rfl rfl rfl rfl ?_ | refine ev_sto (v := .bool _) H rfl rfl rfl rfl rfl ?_ | refine ev_sto (v := .slice _ _ _) H rfl rfl rfl rfl rfl ?_ | refine ev_sto (v := .agg _) H rfl rfl rfl rfl rfl ?_); intro W_ H_; (clear H; have H := H_; clear H_)) | (go_at_call 106; (with_reducible refine (spec_l5Byte _ _).mono ?_); rintro e w1 ⟨rfl, rfl⟩; rw [hbt]))
              go_roundw
              case rel => exact ⟨j + 1, by omega, by go_num, Lib.hid fun p hp => if e : p = j then by rw [e]; exact hbt else HB.out p (by omega), H⟩
              case measure => simp [intOf]; omega
          · have HZ : Hid (x.ok m = true) := Lib.hid (by rw [HQ.out]; exact allB_yes fun p hp => HB.out p (by have := HL.out; omega))
            go_wp2_with (first | ((with_reducible refine g_box rfl ?_); (first | refine ev_box (v := .int _ _) H rfl rfl rfl rfl ?_ | refine ev_box (v := .bool _) H rfl rfl rfl rfl ?_ | refine ev_box (v := .slice _ _ _) H rfl rfl rfl rfl ?_ | refine ev_box (v := .agg _) H rfl rfl rfl rfl ?_); intro g_ W_ H_; (clear H; have H := H_; clear H_)) | ((with_reducible refine g_alloc rfl ?_); refine ev_new H rfl rfl ?_; intro g_ W_ H_; (clear H; have H := H_; clear H_)) | ((with_reducible refine g_load rfl ?_); first | refine ev_ld1 H rfl rfl rfl ?_ | refine ev_lda H rfl rfl rfl ?_) | ((with_reducible refine g_store rfl ?_); (first | refine ev_sto (v := .int _ _) H rfl rfl rfl rfl rfl ?_ | refine ev_sto (v := .bool _) H rfl rfl rfl rfl rfl ?_ | refine ev_sto (v := .slice _ _ _) H rfl rfl rfl rfl rfl ?_ | refine ev_sto (v := .agg _) H rfl rfl rfl rfl rfl ?_); intro W_ H_; (clear H; have H := H_; clear H_)))
            go_ret
            exact ⟨ret_b HZ.out.symm, H.below⟩
    · have hl1 : ((x.ram.length : Int) != 512) = true := by rw [bne_iff_ne]; omega
      have HZ : Hid (x.ok m = false) := Lib.hid (by simp [MemD.ok]; intros; omega)
      clear hl
      go_enter Tryz.func102, Tryz.ntmps102
      go_wp2_with (first | ((with_reducible refine g_box rfl ?_); (first | refine ev_box (v := .int _ _) H rfl rfl rfl rfl ?_ | refine ev_box (v := .bool _) H rfl rfl rfl rfl ?_ | refine ev_box (v := .slice _ _ _) H rfl rfl rfl rfl ?_ | refine ev_box (v := .agg _) H rfl rfl rfl rfl ?_); intro g_ W_ H_; (clear H; have H := H_; clear H_)) | ((with_reducible refine g_alloc rfl ?_); refine ev_new H rfl rfl ?_; intro g_ W_ H_; (clear H; have H := H_; clear H_)) | ((with_reducible refine g_load rfl ?_); first | refine ev_ld1 H rfl rfl rfl ?_ | refine ev_lda H rfl rfl rfl ?_) | ((with_reducible refine g_store rfl ?_); (first | refine ev_sto (v := .int _ _) H rfl rfl rfl rfl rfl ?_ | refine ev_sto (v := .bool _) H rfl rfl rfl rfl rfl ?_ | refine ev_sto (v := .slice _ _ _) H rfl rfl rfl rfl rfl ?_ | refine ev_sto (v := .agg _) H rfl rfl rfl rfl rfl ?_); intro W_ H_; (clear H; have H := H_; clear H_)) | (go_at_call 177; (with_reducible refine (spec_ImageOk m qm _ (hm.on H)).mono ?_); rintro e w1 ⟨rfl, hb⟩; rw [h1]; (have H_ := H.callB hb; (clear H; have H := H_; clear H_); clear hb)))
      all_goals (go_ret; exact ⟨ret_b HZ.out.symm, H.below⟩)
theorem impl_CpuOk (c : CpuD) (w : World) : Calls Tryz.prog 119 #[.agg #[.int .i64 c.a, .int .i64 c.x, .int .i64 c.s, .int .i64 c.pc, .bool c.z, .bool c.n, .bool c.c, .bool c.i]] w fun e w' => e = .returned (.bool c.ok) ∧ Below w.heap.size w w' := by
  have H := St.nil w []
  go_enter Tryz.func119, Tryz.ntmps119
  go_wp2_with (first | ((with_reducible refine g_box rfl ?_); (first | refine ev_box (v := .int _ _) H rfl rfl rfl rfl ?_ | refine ev_box (v := .bool _) H rfl rfl rfl rfl ?_ | refine ev_box (v := .slice _ _ _) H rfl rfl rfl rfl ?_ | refine ev_box (v := .agg _) H rfl rfl rfl rfl ?_); intro g_ W_ H_; (clear H; have H := H_; clear H_)) | ((with_reducible refine g_alloc rfl ?_); refine ev_new H rfl rfl ?_; intro g_ W_ H_; (clear H; have H := H_; clear H_)) | ((with_reducible refine g_load rfl ?_); first | refine ev_ld1 H rfl rfl rfl ?_ | refine ev_lda H rfl rfl rfl ?_) | ((with_reducible refine g_store rfl ?_); (first | refine ev_sto (v := .int _ _) H rfl rfl rfl rfl rfl ?_ | refine ev_sto (v := .bool _) H rfl rfl rfl rfl rfl ?_ | refine ev_sto (v := .slice _ _ _) H rfl rfl rfl rfl rfl ?_ | refine ev_sto (v := .agg _) H rfl rfl rfl rfl rfl ?_); intro W_ H_; (clear H; have H := H_; clear H_)) | (go_at_call 122; (with_reducible refine (impl_isByte _ _).mono ?_); rintro e w1 ⟨rfl, rfl⟩) | (go_at_call 123; (with_reducible refine (impl_within _ _ _ _).mono ?_); rintro e w1 ⟨rfl, rfl⟩))
  all_goals (go_ret; exact ⟨ret_b (by simp [CpuD.ok, *]), H.below⟩)
theorem spec_CpuOk (c : CpuD) (w : World) : Calls Tryz.prog 103 #[.agg #[.int .i64 c.a, .int .i64 c.x, .int .i64 c.s, .int .i64 c.pc, .bool c.z, .bool c.n, .bool c.c, .bool c.i]] w fun e w' => e = .returned (.bool c.ok) ∧ Below w.heap.size w w' := by
  have H := St.nil w []
  go_enter Tryz.func103, Tryz.ntmps103
  go_wp2_with (first | ((with_reducible refine g_box rfl ?_); (first | refine ev_box (v := .int _ _) H rfl rfl rfl rfl ?_ | refine ev_box (v := .bool _) H rfl rfl rfl rfl ?_ | refine ev_box (v := .slice _ _ _) H rfl rfl rfl rfl ?_ | refine ev_box (v := .agg _) H rfl rfl rfl rfl ?_); intro g_ W_ H_; (clear H; have H := H_; clear H_)) | ((with_reducible refine g_alloc rfl ?_); refine ev_new H rfl rfl ?_; intro g_ W_ H_; (clear H; have H := H_; clear H_)) | ((with_reducible refine g_load rfl ?_); first | refine ev_ld1 H rfl rfl rfl ?_ | refine ev_lda H rfl rfl rfl ?_) | ((with_reducible refine g_store rfl ?_); (first | refine ev_sto (v := .int _ _) H rfl rfl rfl rfl rfl ?_ | refine ev_sto (v := .bool _) H rfl rfl rfl rfl rfl ?_ | refine ev_sto (v := .slice _ _ _) H rfl rfl rfl rfl rfl ?_ | refine ev_sto (v := .agg _) H rfl rfl rfl rfl rfl ?_); intro W_ H_; (clear H; have H := H_; clear H_)) | (go_at_call 106; (with_reducible refine (spec_l5Byte _ _).mono ?_); rintro e w1 ⟨rfl, rfl⟩) | (go_at_call 107; (with_reducible refine (spec_l1In _ _ _ _).mono ?_); rintro e w1 ⟨rfl, rfl⟩))
  all_goals (go_ret; exact ⟨ret_b (by simp [CpuD.ok, *]), H.below⟩)
end Go.Proofs.YtjgggmcnbdjdjaaGreat.C
