/- What lies at an address; where the processor begins. (written by ygen2.py) -/
import Derived.Test.YtjgggmcnbdjdjaaGreatY1
import Derived.Test.YtjgggmcnbdjdjaaGreatW2
namespace Go.Proofs.YtjgggmcnbdjdjaaGreat.C
open Go.RowKit Go.Proofs.YtjgggmcnbdjdjaaGreat.K Go.Proofs.YtjgggmcnbdjdjaaGreat.B
attribute [local go_sem] max2_int min2_int max_two min_two i64_and255 i64_and65535 i64_and1
set_option maxRecDepth 20000
set_option linter.unusedVariables false
set_option linter.unusedSimpArgs false
theorem impl_Addr (n : Int) (w : World) : Calls Tryz.prog 187 #[.int .i64 n] w fun e w' => e = .returned (.int .i64 (n % 65536)) ∧ w = w' := by
  go_enter Tryz.func187, Tryz.ntmps187
  go_wp2
  go_ret
  exact ⟨rfl, rfl⟩
theorem impl_Join (a b : Int) (w : World) : Calls Tryz.prog 198 #[.int .i64 a, .int .i64 b] w fun e w' => e = .returned (.int .i64 (joinB a b)) ∧ w = w' := by
  go_enter Tryz.func198, Tryz.ntmps198
  go_wp2_with (go_at_call 192; (with_reducible refine (impl_Byte _ _).mono ?_); rintro e w1 ⟨rfl, rfl⟩)
  go_ret
  exact ⟨ret_i (by unfold joinB; omega), rfl⟩
theorem spec_Addr (n : Int) (w : World) : Calls Tryz.prog 180 #[.int .i64 n] w fun e w' => e = .returned (.int .i64 (n % 65536)) ∧ w = w' := by
  go_enter Tryz.func180, Tryz.ntmps180
  go_wp2
  go_ret
  exact ⟨rfl, rfl⟩
theorem spec_Join (a b : Int) (w : World) : Calls Tryz.prog 147 #[.int .i64 a, .int .i64 b] w fun e w' => e = .returned (.int .i64 (joinB a b)) ∧ w = w' := by
  go_enter Tryz.func147, Tryz.ntmps147
  go_wp2_with (go_at_call 191; (with_reducible refine (spec_Byte _ _).mono ?_); rintro e w1 ⟨rfl, rfl⟩)
  go_ret
  exact ⟨ret_i (by unfold joinB; omega), rfl⟩
theorem impl_Region (a : Int) (w : World) : Calls Tryz.prog 126 #[.int .i64 a] w fun e w' => e = .returned (.tuple #[.int .i64 (regR a), .int .i64 (regA a)]) ∧ w = w' := by
  unfold regR regA
  have hA : ∀ w, Calls Tryz.prog 187 #[.int .i64 a] w fun e w' => e = .returned (.int .i64 (a % 65536)) ∧ w = w' := fun w => impl_Addr a w
  have b0 : 0 ≤ a % 65536 := by omega
  have b1 : a % 65536 < 65536 := by omega
  generalize a % 65536 = b at hA b0 b1 ⊢
  have HA := Lib.hid hA
  clear hA
  have m1 : b.tmod 512 = b % 512 := tm b0
  have m2 : b.tmod 8 = b % 8 := tm b0
  have m3 : b.tmod 4 = b % 4 := tm b0
  have m4 : b.tmod 256 = b % 256 := tm b0
  by_cases h1 : b < 8192
  · simp only [h1, if_true]
    go_enter Tryz.func126, Tryz.ntmps126
    go_wp2_with (go_at_call 187; (with_reducible refine (HA.out _).mono ?_); rintro e w1 ⟨rfl, rfl⟩)
    refine' back2 Tryz.results126 ?_ ?_ rfl ⟨?_, rfl⟩; rotate_left 2; (focus first | (with_reducible exact rv_tmp rfl) | (refine' rv_agg H rfl ?_ ?_ ?_; rotate_left 4; (focus (repeat (first | (with_reducible exact Pick.here) | (with_reducible apply Pick.there)))); (focus exact aggT rfl); (focus rfl)) | (refine' rv_one H rfl ?_ ?_; rotate_left 3; (focus (repeat (first | (with_reducible exact Pick.here) | (with_reducible apply Pick.there)))); (focus exact oneT rfl))); (focus first | (with_reducible exact rv_tmp rfl) | (refine' rv_agg H rfl ?_ ?_ ?_; rotate_left 4; (focus (repeat (first | (with_reducible exact Pick.here) | (with_reducible apply Pick.there)))); (focus exact aggT rfl); (focus rfl)) | (refine' rv_one H rfl ?_ ?_; rotate_left 3; (focus (repeat (first | (with_reducible exact Pick.here) | (with_reducible apply Pick.there)))); (focus exact oneT rfl)))
    rfl
  · simp only [h1, if_false]
    by_cases h2 : b < 16384
    · simp only [h2, if_true]
      go_enter Tryz.func126, Tryz.ntmps126
      go_wp2_with (go_at_call 187; (with_reducible refine (HA.out _).mono ?_); rintro e w1 ⟨rfl, rfl⟩)
      refine' back2 Tryz.results126 ?_ ?_ rfl ⟨?_, rfl⟩; rotate_left 2; (focus first | (with_reducible exact rv_tmp rfl) | (refine' rv_agg H rfl ?_ ?_ ?_; rotate_left 4; (focus (repeat (first | (with_reducible exact Pick.here) | (with_reducible apply Pick.there)))); (focus exact aggT rfl); (focus rfl)) | (refine' rv_one H rfl ?_ ?_; rotate_left 3; (focus (repeat (first | (with_reducible exact Pick.here) | (with_reducible apply Pick.there)))); (focus exact oneT rfl))); (focus first | (with_reducible exact rv_tmp rfl) | (refine' rv_agg H rfl ?_ ?_ ?_; rotate_left 4; (focus (repeat (first | (with_reducible exact Pick.here) | (with_reducible apply Pick.there)))); (focus exact aggT rfl); (focus rfl)) | (refine' rv_one H rfl ?_ ?_; rotate_left 3; (focus (repeat (first | (with_reducible exact Pick.here) | (with_reducible apply Pick.there)))); (focus exact oneT rfl)))
      rfl
    · simp only [h2, if_false]
      by_cases h3 : b < 16388
      · simp only [h3, if_true]
        go_enter Tryz.func126, Tryz.ntmps126
        go_wp2_with (go_at_call 187; (with_reducible refine (HA.out _).mono ?_); rintro e w1 ⟨rfl, rfl⟩)
        refine' back2 Tryz.results126 ?_ ?_ rfl ⟨?_, rfl⟩; rotate_left 2; (focus first | (with_reducible exact rv_tmp rfl) | (refine' rv_agg H rfl ?_ ?_ ?_; rotate_left 4; (focus (repeat (first | (with_reducible exact Pick.here) | (with_reducible apply Pick.there)))); (focus exact aggT rfl); (focus rfl)) | (refine' rv_one H rfl ?_ ?_; rotate_left 3; (focus (repeat (first | (with_reducible exact Pick.here) | (with_reducible apply Pick.there)))); (focus exact oneT rfl))); (focus first | (with_reducible exact rv_tmp rfl) | (refine' rv_agg H rfl ?_ ?_ ?_; rotate_left 4; (focus (repeat (first | (with_reducible exact Pick.here) | (with_reducible apply Pick.there)))); (focus exact aggT rfl); (focus rfl)) | (refine' rv_one H rfl ?_ ?_; rotate_left 3; (focus (repeat (first | (with_reducible exact Pick.here) | (with_reducible apply Pick.there)))); (focus exact oneT rfl)))
        rfl
      · simp only [h3, if_false]
        by_cases h4 : b = 16406
        · have h4' : (b == 16406) = true := by simp [h4]
          simp only [h4, if_true]
          subst h4
          go_enter Tryz.func126, Tryz.ntmps126
          go_wp2_with (go_at_call 187; (with_reducible refine (HA.out _).mono ?_); rintro e w1 ⟨rfl, rfl⟩)
          refine' back2 Tryz.results126 ?_ ?_ rfl ⟨?_, rfl⟩; rotate_left 2; (focus first | (with_reducible exact rv_tmp rfl) | (refine' rv_agg H rfl ?_ ?_ ?_; rotate_left 4; (focus (repeat (first | (with_reducible exact Pick.here) | (with_reducible apply Pick.there)))); (focus exact aggT rfl); (focus rfl)) | (refine' rv_one H rfl ?_ ?_; rotate_left 3; (focus (repeat (first | (with_reducible exact Pick.here) | (with_reducible apply Pick.there)))); (focus exact oneT rfl))); (focus first | (with_reducible exact rv_tmp rfl) | (refine' rv_agg H rfl ?_ ?_ ?_; rotate_left 4; (focus (repeat (first | (with_reducible exact Pick.here) | (with_reducible apply Pick.there)))); (focus exact aggT rfl); (focus rfl)) | (refine' rv_one H rfl ?_ ?_; rotate_left 3; (focus (repeat (first | (with_reducible exact Pick.here) | (with_reducible apply Pick.there)))); (focus exact oneT rfl)))
          rfl
        · have h4' : (b == 16406) = false := by simp [h4]
          simp only [h4, if_false]
          by_cases h5 : b < 32768
          · simp only [h5, if_true]
            clear h4
            go_enter Tryz.func126, Tryz.ntmps126
            go_wp2_with (go_at_call 187; (with_reducible refine (HA.out _).mono ?_); rintro e w1 ⟨rfl, rfl⟩)
            refine' back2 Tryz.results126 ?_ ?_ rfl ⟨?_, rfl⟩; rotate_left 2; (focus first | (with_reducible exact rv_tmp rfl) | (refine' rv_agg H rfl ?_ ?_ ?_; rotate_left 4; (focus (repeat (first | (with_reducible exact Pick.here) | (with_reducible apply Pick.there)))); (focus exact aggT rfl); (focus rfl)) | (refine' rv_one H rfl ?_ ?_; rotate_left 3; (focus (repeat (first | (with_reducible exact Pick.here) | (with_reducible apply Pick.there)))); (focus exact oneT rfl))); (focus first | (with_reducible exact rv_tmp rfl) | (refine' rv_agg H rfl ?_ ?_ ?_; rotate_left 4; (focus (repeat (first | (with_reducible exact Pick.here) | (with_reducible apply Pick.there)))); (focus exact aggT rfl); (focus rfl)) | (refine' rv_one H rfl ?_ ?_; rotate_left 3; (focus (repeat (first | (with_reducible exact Pick.here) | (with_reducible apply Pick.there)))); (focus exact oneT rfl)))
            rfl
          · simp only [h5, if_false]
            clear h4
            by_cases h6 : b < 49152
            all_goals
              simp only [h6, if_true, if_false]
              go_enter Tryz.func126, Tryz.ntmps126
              go_wp2_with (go_at_call 187; (with_reducible refine (HA.out _).mono ?_); rintro e w1 ⟨rfl, rfl⟩)
              refine' back2 Tryz.results126 ?_ ?_ rfl ⟨?_, rfl⟩; rotate_left 2; (focus first | (with_reducible exact rv_tmp rfl) | (refine' rv_agg H rfl ?_ ?_ ?_; rotate_left 4; (focus (repeat (first | (with_reducible exact Pick.here) | (with_reducible apply Pick.there)))); (focus exact aggT rfl); (focus rfl)) | (refine' rv_one H rfl ?_ ?_; rotate_left 3; (focus (repeat (first | (with_reducible exact Pick.here) | (with_reducible apply Pick.there)))); (focus exact oneT rfl))); (focus first | (with_reducible exact rv_tmp rfl) | (refine' rv_agg H rfl ?_ ?_ ?_; rotate_left 4; (focus (repeat (first | (with_reducible exact Pick.here) | (with_reducible apply Pick.there)))); (focus exact aggT rfl); (focus rfl)) | (refine' rv_one H rfl ?_ ?_; rotate_left 3; (focus (repeat (first | (with_reducible exact Pick.here) | (with_reducible apply Pick.there)))); (focus exact oneT rfl)))
              rfl
theorem spec_Region (a : Int) (w : World) : Calls Tryz.prog 109 #[.int .i64 a] w fun e w' => e = .returned (.tuple #[.int .i64 (regR a), .int .i64 (regA a)]) ∧ w = w' := by
  unfold regR regA
  have hA : ∀ w, Calls Tryz.prog 180 #[.int .i64 a] w fun e w' => e = .returned (.int .i64 (a % 65536)) ∧ w = w' := fun w => spec_Addr a w
  have b0 : 0 ≤ a % 65536 := by omega
  have b1 : a % 65536 < 65536 := by omega
  generalize a % 65536 = b at hA b0 b1 ⊢
  have HA := Lib.hid hA
  clear hA
  have m1 : b.tmod 512 = b % 512 := tm b0
  have m2 : b.tmod 8 = b % 8 := tm b0
  have m3 : b.tmod 4 = b % 4 := tm b0
  have m4 : b.tmod 256 = b % 256 := tm b0
  by_cases h1 : b < 8192
  · simp only [h1, if_true]
    go_enter Tryz.func109, Tryz.ntmps109
    go_wp2_with (go_at_call 180; (with_reducible refine (HA.out _).mono ?_); rintro e w1 ⟨rfl, rfl⟩)
    refine' back2 Tryz.results109 ?_ ?_ rfl ⟨?_, rfl⟩; rotate_left 2; (focus first | (with_reducible exact rv_tmp rfl) | (refine' rv_agg H rfl ?_ ?_ ?_; rotate_left 4; (focus (repeat (first | (with_reducible exact Pick.here) | (with_reducible apply Pick.there)))); (focus exact aggT rfl); (focus rfl)) | (refine' rv_one H rfl ?_ ?_; rotate_left 3; (focus (repeat (first | (with_reducible exact Pick.here) | (with_reducible apply Pick.there)))); (focus exact oneT rfl))); (focus first | (with_reducible exact rv_tmp rfl) | (refine' rv_agg H rfl ?_ ?_ ?_; rotate_left 4; (focus (repeat (first | (with_reducible exact Pick.here) | (with_reducible apply Pick.there)))); (focus exact aggT rfl); (focus rfl)) | (refine' rv_one H rfl ?_ ?_; rotate_left 3; (focus (repeat (first | (with_reducible exact Pick.here) | (with_reducible apply Pick.there)))); (focus exact oneT rfl)))
    rfl
  · simp only [h1, if_false]
    by_cases h2 : b < 16384
    · simp only [h2, if_true]
      go_enter Tryz.func109, Tryz.ntmps109
      go_wp2_with (go_at_call 180; (with_reducible refine (HA.out _).mono ?_); rintro e w1 ⟨rfl, rfl⟩)
      refine' back2 Tryz.results109 ?_ ?_ rfl ⟨?_, rfl⟩; rotate_left 2; (focus first | (with_reducible exact rv_tmp rfl) | (refine' rv_agg H rfl ?_ ?_ ?_; rotate_left 4; (focus (repeat (first | (with_reducible exact Pick.here) | (with_reducible apply Pick.there)))); (focus exact aggT rfl); (focus rfl)) | (refine' rv_one H rfl ?_ ?_; rotate_left 3; (focus (repeat (first | (with_reducible exact Pick.here) | (with_reducible apply Pick.there)))); (focus exact oneT rfl))); (focus first | (with_reducible exact rv_tmp rfl) | (refine' rv_agg H rfl ?_ ?_ ?_; rotate_left 4; (focus (repeat (first | (with_reducible exact Pick.here) | (with_reducible apply Pick.there)))); (focus exact aggT rfl); (focus rfl)) | (refine' rv_one H rfl ?_ ?_; rotate_left 3; (focus (repeat (first | (with_reducible exact Pick.here) | (with_reducible apply Pick.there)))); (focus exact oneT rfl)))
      rfl
    · simp only [h2, if_false]
      by_cases h3 : b < 16388
      · simp only [h3, if_true]
        go_enter Tryz.func109, Tryz.ntmps109
        go_wp2_with (go_at_call 180; (with_reducible refine (HA.out _).mono ?_); rintro e w1 ⟨rfl, rfl⟩)
        refine' back2 Tryz.results109 ?_ ?_ rfl ⟨?_, rfl⟩; rotate_left 2; (focus first | (with_reducible exact rv_tmp rfl) | (refine' rv_agg H rfl ?_ ?_ ?_; rotate_left 4; (focus (repeat (first | (with_reducible exact Pick.here) | (with_reducible apply Pick.there)))); (focus exact aggT rfl); (focus rfl)) | (refine' rv_one H rfl ?_ ?_; rotate_left 3; (focus (repeat (first | (with_reducible exact Pick.here) | (with_reducible apply Pick.there)))); (focus exact oneT rfl))); (focus first | (with_reducible exact rv_tmp rfl) | (refine' rv_agg H rfl ?_ ?_ ?_; rotate_left 4; (focus (repeat (first | (with_reducible exact Pick.here) | (with_reducible apply Pick.there)))); (focus exact aggT rfl); (focus rfl)) | (refine' rv_one H rfl ?_ ?_; rotate_left 3; (focus (repeat (first | (with_reducible exact Pick.here) | (with_reducible apply Pick.there)))); (focus exact oneT rfl)))
        rfl
      · simp only [h3, if_false]
        by_cases h4 : b = 16406
        · have h4' : (b == 16406) = true := by simp [h4]
          simp only [h4, if_true]
          subst h4
          go_enter Tryz.func109, Tryz.ntmps109
          go_wp2_with (go_at_call 180; (with_reducible refine (HA.out _).mono ?_); rintro e w1 ⟨rfl, rfl⟩)
          refine' back2 Tryz.results109 ?_ ?_ rfl ⟨?_, rfl⟩; rotate_left 2; (focus first | (with_reducible exact rv_tmp rfl) | (refine' rv_agg H rfl ?_ ?_ ?_; rotate_left 4; (focus (repeat (first | (with_reducible exact Pick.here) | (with_reducible apply Pick.there)))); (focus exact aggT rfl); (focus rfl)) | (refine' rv_one H rfl ?_ ?_; rotate_left 3; (focus (repeat (first | (with_reducible exact Pick.here) | (with_reducible apply Pick.there)))); (focus exact oneT rfl))); (focus first | (with_reducible exact rv_tmp rfl) | (refine' rv_agg H rfl ?_ ?_ ?_; rotate_left 4; (focus (repeat (first | (with_reducible exact Pick.here) | (with_reducible apply Pick.there)))); (focus exact aggT rfl); (focus rfl)) | (refine' rv_one H rfl ?_ ?_; rotate_left 3; (focus (repeat (first | (with_reducible exact Pick.here) | (with_reducible apply Pick.there)))); (focus exact oneT rfl)))
          rfl
        · have h4' : (b == 16406) = false := by simp [h4]
          simp only [h4, if_false]
          by_cases h5 : b < 32768
          · simp only [h5, if_true]
            clear h4
            go_enter Tryz.func109, Tryz.ntmps109
            go_wp2_with (go_at_call 180; (with_reducible refine (HA.out _).mono ?_); rintro e w1 ⟨rfl, rfl⟩)
            refine' back2 Tryz.results109 ?_ ?_ rfl ⟨?_, rfl⟩; rotate_left 2; (focus first | (with_reducible exact rv_tmp rfl) | (refine' rv_agg H rfl ?_ ?_ ?_; rotate_left 4; (focus (repeat (first | (with_reducible exact Pick.here) | (with_reducible apply Pick.there)))); (focus exact aggT rfl); (focus rfl)) | (refine' rv_one H rfl ?_ ?_; rotate_left 3; (focus (repeat (first | (with_reducible exact Pick.here) | (with_reducible apply Pick.there)))); (focus exact oneT rfl))); (focus first | (with_reducible exact rv_tmp rfl) | (refine' rv_agg H rfl ?_ ?_ ?_; rotate_left 4; (focus (repeat (first | (with_reducible exact Pick.here) | (with_reducible apply Pick.there)))); (focus exact aggT rfl); (focus rfl)) | (refine' rv_one H rfl ?_ ?_; rotate_left 3; (focus (repeat (first | (with_reducible exact Pick.here) | (with_reducible apply Pick.there)))); (focus exact oneT rfl)))
            rfl
          · simp only [h5, if_false]
            clear h4
            by_cases h6 : b < 49152
            all_goals
              simp only [h6, if_true, if_false]
              go_enter Tryz.func109, Tryz.ntmps109
              go_wp2_with (go_at_call 180; (with_reducible refine (HA.out _).mono ?_); rintro e w1 ⟨rfl, rfl⟩)
              refine' back2 Tryz.results109 ?_ ?_ rfl ⟨?_, rfl⟩; rotate_left 2; (focus first | (with_reducible exact rv_tmp rfl) | (refine' rv_agg H rfl ?_ ?_ ?_; rotate_left 4; (focus (repeat (first | (with_reducible exact Pick.here) | (with_reducible apply Pick.there)))); (focus exact aggT rfl); (focus rfl)) | (refine' rv_one H rfl ?_ ?_; rotate_left 3; (focus (repeat (first | (with_reducible exact Pick.here) | (with_reducible apply Pick.there)))); (focus exact oneT rfl))); (focus first | (with_reducible exact rv_tmp rfl) | (refine' rv_agg H rfl ?_ ?_ ?_; rotate_left 4; (focus (repeat (first | (with_reducible exact Pick.here) | (with_reducible apply Pick.there)))); (focus exact aggT rfl); (focus rfl)) | (refine' rv_one H rfl ?_ ?_; rotate_left 3; (focus (repeat (first | (with_reducible exact Pick.here) | (with_reducible apply Pick.there)))); (focus exact oneT rfl)))
              rfl
set_option maxHeartbeats 8000000 in
theorem impl_peek (m : ImageD) (qm : ImageP) (x : MemD) (q : MemP) (a : Int) (N : Nat) (w : World) (hm : ImageIn w m qm) (hx : MemIn w x q) (hN : N = x.ram.length) (hok : x.ok m = true) : Calls Tryz.prog 130 #[.agg #[.slice qm.banks.s.A m.banks.length qm.banks.s.c], .agg #[.slice q.ram.A N q.ram.c, .int .i64 x.bank], .int .i64 a] w fun e w' => e = .returned (.int .i64 (x.peek m a)) ∧ Below w.heap.size w w' := by
  subst hN
  have H := St.nil w []
  obtain ⟨h1, h2, h3, h4, h5⟩ := MemD.ok_at hok
  obtain ⟨g1, g2, g3⟩ := ImageD.ok_at h1
  clear h3 h1 hok
  have hb := hm.banks
  have hr := hx.ram
  clear hm hx
  obtain ⟨⟨⟨A, c⟩, r⟩⟩ := qm
  obtain ⟨⟨Ar, cr⟩⟩ := q
  obtain ⟨ram, bank⟩ := x
  simp only at hb hr h2 h4 h5 ⊢
  have hlen : ram.length = 512 := h2
  obtain ⟨adr, hAr, _⟩ := hr.cell H (show 0 < ram.length by omega)
  subst hAr
  obtain ⟨ad, hA, _⟩ := hb.cell H (show 0 < m.banks.length by omega)
  simp only at hA
  subst hA
  have HG := Lib.hid g1
  clear g1 h2
  rcases reg_cases a with ⟨e1, a0, a1⟩ | ⟨e1, a0, a1⟩ | ⟨e1, a0, a1⟩ | ⟨e1, a0⟩ | ⟨e1, a0, a1⟩ | ⟨e1, a0, a1⟩ | ⟨e1, a0⟩
  · obtain ⟨k, e2⟩ : ∃ k : Nat, regA a = (k : Int) := ⟨(regA a).toNat, by omega⟩
    have hk : k < ram.length := by omega
    have hz : (MemD.mk ram bank).peek m a = rd ram k := by simp [MemD.peek, e1, e2]
    rw [hz]
    have E1 := Lib.hid e1
    have E2 := Lib.hid e2
    have HL := Lib.hid hlen
    clear e1 e2 hz a0 a1 hlen
    go_enter Tryz.func130, Tryz.ntmps130
    go_wp2_with (first | (go_at_call 126; (with_reducible refine (impl_Region _ _).mono ?_); rintro e w1 ⟨rfl, rfl⟩; rw [E1.out, E2.out]) | ((with_reducible refine g_load rfl ?_); refine ev_load_in_one rfl rfl rfl (oneT rfl) (int_at_ hr H hk) ?_) | ((with_reducible refine g_box rfl ?_); (first | refine ev_box (v := .int _ _) H rfl rfl rfl rfl ?_ | refine ev_box (v := .bool _) H rfl rfl rfl rfl ?_ | refine ev_box (v := .slice _ _ _) H rfl rfl rfl rfl ?_ | refine ev_box (v := .agg _) H rfl rfl rfl rfl ?_); intro g_ W_ H_; (clear H; have H := H_; clear H_)) | ((with_reducible refine g_alloc rfl ?_); refine ev_new H rfl rfl ?_; intro g_ W_ H_; (clear H; have H := H_; clear H_)) | ((with_reducible refine g_load rfl ?_); first | refine ev_ld1 H rfl rfl rfl ?_ | refine ev_lda H rfl rfl rfl ?_) | ((with_reducible refine g_store rfl ?_); (first | refine ev_sto (v := .int _ _) H rfl rfl rfl rfl rfl ?_ | refine ev_sto (v := .bool _) H rfl rfl rfl rfl rfl ?_ | refine ev_sto (v := .slice _ _ _) H rfl rfl rfl rfl rfl ?_ | refine ev_sto (v := .agg _) H rfl rfl rfl rfl rfl ?_); intro W_ H_; (clear H; have H := H_; clear H_)))
    go_ret
    exact ⟨rfl, H.below⟩
  · have hz : (MemD.mk ram bank).peek m a = 0 := by simp [MemD.peek, e1]
    rw [hz]
    obtain ⟨k, e2⟩ : ∃ k : Int, regA a = k := ⟨_, rfl⟩
    have E1 := Lib.hid e1
    have E2 := Lib.hid e2
    clear e1 e2 hz a0 a1
    go_enter Tryz.func130, Tryz.ntmps130
    go_wp2_with (first | (go_at_call 126; (with_reducible refine (impl_Region _ _).mono ?_); rintro e w1 ⟨rfl, rfl⟩; rw [E1.out, E2.out]) | ((with_reducible refine g_box rfl ?_); (first | refine ev_box (v := .int _ _) H rfl rfl rfl rfl ?_ | refine ev_box (v := .bool _) H rfl rfl rfl rfl ?_ | refine ev_box (v := .slice _ _ _) H rfl rfl rfl rfl ?_ | refine ev_box (v := .agg _) H rfl rfl rfl rfl ?_); intro g_ W_ H_; (clear H; have H := H_; clear H_)) | ((with_reducible refine g_alloc rfl ?_); refine ev_new H rfl rfl ?_; intro g_ W_ H_; (clear H; have H := H_; clear H_)) | ((with_reducible refine g_load rfl ?_); first | refine ev_ld1 H rfl rfl rfl ?_ | refine ev_lda H rfl rfl rfl ?_) | ((with_reducible refine g_store rfl ?_); (first | refine ev_sto (v := .int _ _) H rfl rfl rfl rfl rfl ?_ | refine ev_sto (v := .bool _) H rfl rfl rfl rfl rfl ?_ | refine ev_sto (v := .slice _ _ _) H rfl rfl rfl rfl rfl ?_ | refine ev_sto (v := .agg _) H rfl rfl rfl rfl rfl ?_); intro W_ H_; (clear H; have H := H_; clear H_)))
    go_ret
    exact ⟨rfl, H.below⟩
  · have hz : (MemD.mk ram bank).peek m a = 0 := by simp [MemD.peek, e1]
    rw [hz]
    obtain ⟨k, e2⟩ : ∃ k : Int, regA a = k := ⟨_, rfl⟩
    have E1 := Lib.hid e1
    have E2 := Lib.hid e2
    clear e1 e2 hz a0 a1
    go_enter Tryz.func130, Tryz.ntmps130
    go_wp2_with (first | (go_at_call 126; (with_reducible refine (impl_Region _ _).mono ?_); rintro e w1 ⟨rfl, rfl⟩; rw [E1.out, E2.out]) | ((with_reducible refine g_box rfl ?_); (first | refine ev_box (v := .int _ _) H rfl rfl rfl rfl ?_ | refine ev_box (v := .bool _) H rfl rfl rfl rfl ?_ | refine ev_box (v := .slice _ _ _) H rfl rfl rfl rfl ?_ | refine ev_box (v := .agg _) H rfl rfl rfl rfl ?_); intro g_ W_ H_; (clear H; have H := H_; clear H_)) | ((with_reducible refine g_alloc rfl ?_); refine ev_new H rfl rfl ?_; intro g_ W_ H_; (clear H; have H := H_; clear H_)) | ((with_reducible refine g_load rfl ?_); first | refine ev_ld1 H rfl rfl rfl ?_ | refine ev_lda H rfl rfl rfl ?_) | ((with_reducible refine g_store rfl ?_); (first | refine ev_sto (v := .int _ _) H rfl rfl rfl rfl rfl ?_ | refine ev_sto (v := .bool _) H rfl rfl rfl rfl rfl ?_ | refine ev_sto (v := .slice _ _ _) H rfl rfl rfl rfl rfl ?_ | refine ev_sto (v := .agg _) H rfl rfl rfl rfl rfl ?_); intro W_ H_; (clear H; have H := H_; clear H_)))
    go_ret
    exact ⟨rfl, H.below⟩
  · have hz : (MemD.mk ram bank).peek m a = 0 := by simp [MemD.peek, e1]
    rw [hz]
    obtain ⟨k, e2⟩ : ∃ k : Int, regA a = k := ⟨_, rfl⟩
    have E1 := Lib.hid e1
    have E2 := Lib.hid e2
    clear e1 e2 hz a0 
    go_enter Tryz.func130, Tryz.ntmps130
    go_wp2_with (first | (go_at_call 126; (with_reducible refine (impl_Region _ _).mono ?_); rintro e w1 ⟨rfl, rfl⟩; rw [E1.out, E2.out]) | ((with_reducible refine g_box rfl ?_); (first | refine ev_box (v := .int _ _) H rfl rfl rfl rfl ?_ | refine ev_box (v := .bool _) H rfl rfl rfl rfl ?_ | refine ev_box (v := .slice _ _ _) H rfl rfl rfl rfl ?_ | refine ev_box (v := .agg _) H rfl rfl rfl rfl ?_); intro g_ W_ H_; (clear H; have H := H_; clear H_)) | ((with_reducible refine g_alloc rfl ?_); refine ev_new H rfl rfl ?_; intro g_ W_ H_; (clear H; have H := H_; clear H_)) | ((with_reducible refine g_load rfl ?_); first | refine ev_ld1 H rfl rfl rfl ?_ | refine ev_lda H rfl rfl rfl ?_) | ((with_reducible refine g_store rfl ?_); (first | refine ev_sto (v := .int _ _) H rfl rfl rfl rfl rfl ?_ | refine ev_sto (v := .bool _) H rfl rfl rfl rfl rfl ?_ | refine ev_sto (v := .slice _ _ _) H rfl rfl rfl rfl rfl ?_ | refine ev_sto (v := .agg _) H rfl rfl rfl rfl rfl ?_); intro W_ H_; (clear H; have H := H_; clear H_)))
    go_ret
    exact ⟨rfl, H.below⟩
  · obtain ⟨k, e2⟩ : ∃ k : Nat, regA a = (k : Int) := ⟨(regA a).toNat, by omega⟩
    obtain ⟨b, rfl⟩ : ∃ b : Nat, bank = (b : Int) := ⟨bank.toNat, by omega⟩
    have hlt : b < m.banks.length := by omega
    have hrow := hb.row b hlt
    simp only at hrow
    have hcell : ∀ {W : World} {l : List Ast}, St w [] W l → W.cell? (ad.add b) = some (.slice (slAt r b).A (rwAt m.banks b).length (slAt r b).c) := fun H' => rows_at_ hb H' hlt
    have hl := (bank_at (banks_at HG.out hlt)).1
    have hk : k < (rwAt m.banks b).length := by omega
    have hz : (MemD.mk ram (b : Int)).peek m a = rd (rwAt m.banks b) k := by simp [MemD.peek, e1, e2]
    rw [hz]
    generalize slAt r b = qk at hrow hcell
    obtain ⟨Ak, ck⟩ := qk
    simp only at hrow hcell
    obtain ⟨ad2, hA2, _⟩ := hrow.cell (St.nil w []) (show 0 < (rwAt m.banks b).length by omega)
    subst hA2
    have E1 := Lib.hid e1
    have E2 := Lib.hid e2
    have HL := Lib.hid hlen
    clear e1 e2 hz a0 a1 hlen hl
    go_enter Tryz.func130, Tryz.ntmps130
    go_wp2_with (first | (go_at_call 126; (with_reducible refine (impl_Region _ _).mono ?_); rintro e w1 ⟨rfl, rfl⟩; rw [E1.out, E2.out]) | ((with_reducible refine g_load rfl ?_); refine ev_load_in_one rfl rfl rfl (oneT rfl) (hcell H) ?_) | ((with_reducible refine g_load rfl ?_); refine ev_load_in_one rfl rfl rfl (oneT rfl) (int_at_ hrow H hk) ?_) | ((with_reducible refine g_box rfl ?_); (first | refine ev_box (v := .int _ _) H rfl rfl rfl rfl ?_ | refine ev_box (v := .bool _) H rfl rfl rfl rfl ?_ | refine ev_box (v := .slice _ _ _) H rfl rfl rfl rfl ?_ | refine ev_box (v := .agg _) H rfl rfl rfl rfl ?_); intro g_ W_ H_; (clear H; have H := H_; clear H_)) | ((with_reducible refine g_alloc rfl ?_); refine ev_new H rfl rfl ?_; intro g_ W_ H_; (clear H; have H := H_; clear H_)) | ((with_reducible refine g_load rfl ?_); first | refine ev_ld1 H rfl rfl rfl ?_ | refine ev_lda H rfl rfl rfl ?_) | ((with_reducible refine g_store rfl ?_); (first | refine ev_sto (v := .int _ _) H rfl rfl rfl rfl rfl ?_ | refine ev_sto (v := .bool _) H rfl rfl rfl rfl rfl ?_ | refine ev_sto (v := .slice _ _ _) H rfl rfl rfl rfl rfl ?_ | refine ev_sto (v := .agg _) H rfl rfl rfl rfl rfl ?_); intro W_ H_; (clear H; have H := H_; clear H_)))
    go_ret
    exact ⟨rfl, H.below⟩
  · obtain ⟨k, e2⟩ : ∃ k : Nat, regA a = (k : Int) := ⟨(regA a).toNat, by omega⟩
    obtain ⟨b, hp⟩ : ∃ b : Nat, m.banks.length = b + 1 := ⟨m.banks.length - 1, by omega⟩
    have hlt : b < m.banks.length := by omega
    have hrow := hb.row b hlt
    simp only at hrow
    have hcell : ∀ {W : World} {l : List Ast}, St w [] W l → W.cell? (ad.add b) = some (.slice (slAt r b).A (rwAt m.banks b).length (slAt r b).c) := fun H' => rows_at_ hb H' hlt
    have hl := (bank_at (banks_at HG.out hlt)).1
    have hk : k < (rwAt m.banks b).length := by omega
    have hz : (MemD.mk ram bank).peek m a = rd (rwAt m.banks b) k := by simp [MemD.peek, e1, e2, hp]
    rw [hz, hp]
    generalize slAt r b = qk at hrow hcell
    obtain ⟨Ak, ck⟩ := qk
    simp only at hrow hcell
    obtain ⟨ad2, hA2, _⟩ := hrow.cell (St.nil w []) (show 0 < (rwAt m.banks b).length by omega)
    subst hA2
    have E1 := Lib.hid e1
    have E2 := Lib.hid e2
    have HL := Lib.hid hlen
    have hb8 : b < 8 := by omega
    clear e1 e2 hz a0 a1 hlen hl hp g2 g3 h4 h5
    go_enter Tryz.func130, Tryz.ntmps130
    go_wp2_with (first | (go_at_call 126; (with_reducible refine (impl_Region _ _).mono ?_); rintro e w1 ⟨rfl, rfl⟩; rw [E1.out, E2.out]) | ((with_reducible refine g_load rfl ?_); refine ev_load_in_one rfl rfl rfl (oneT rfl) (hcell H) ?_) | ((with_reducible refine g_load rfl ?_); refine ev_load_in_one rfl rfl rfl (oneT rfl) (int_at_ hrow H hk) ?_) | ((with_reducible refine g_box rfl ?_); (first | refine ev_box (v := .int _ _) H rfl rfl rfl rfl ?_ | refine ev_box (v := .bool _) H rfl rfl rfl rfl ?_ | refine ev_box (v := .slice _ _ _) H rfl rfl rfl rfl ?_ | refine ev_box (v := .agg _) H rfl rfl rfl rfl ?_); intro g_ W_ H_; (clear H; have H := H_; clear H_)) | ((with_reducible refine g_alloc rfl ?_); refine ev_new H rfl rfl ?_; intro g_ W_ H_; (clear H; have H := H_; clear H_)) | ((with_reducible refine g_load rfl ?_); first | refine ev_ld1 H rfl rfl rfl ?_ | refine ev_lda H rfl rfl rfl ?_) | ((with_reducible refine g_store rfl ?_); (first | refine ev_sto (v := .int _ _) H rfl rfl rfl rfl rfl ?_ | refine ev_sto (v := .bool _) H rfl rfl rfl rfl rfl ?_ | refine ev_sto (v := .slice _ _ _) H rfl rfl rfl rfl rfl ?_ | refine ev_sto (v := .agg _) H rfl rfl rfl rfl rfl ?_); intro W_ H_; (clear H; have H := H_; clear H_)))
    go_ret
    exact ⟨rfl, H.below⟩
  · have hz : (MemD.mk ram bank).peek m a = 0 := by simp [MemD.peek, e1]
    rw [hz]
    obtain ⟨k, e2⟩ : ∃ k : Int, regA a = k := ⟨_, rfl⟩
    have E1 := Lib.hid e1
    have E2 := Lib.hid e2
    clear e1 e2 hz a0 
    go_enter Tryz.func130, Tryz.ntmps130
    go_wp2_with (first | (go_at_call 126; (with_reducible refine (impl_Region _ _).mono ?_); rintro e w1 ⟨rfl, rfl⟩; rw [E1.out, E2.out]) | ((with_reducible refine g_box rfl ?_); (first | refine ev_box (v := .int _ _) H rfl rfl rfl rfl ?_ | refine ev_box (v := .bool _) H rfl rfl rfl rfl ?_ | refine ev_box (v := .slice _ _ _) H rfl rfl rfl rfl ?_ | refine ev_box (v := .agg _) H rfl rfl rfl rfl ?_); intro g_ W_ H_; (clear H; have H := H_; clear H_)) | ((with_reducible refine g_alloc rfl ?_); refine ev_new H rfl rfl ?_; intro g_ W_ H_; (clear H; have H := H_; clear H_)) | ((with_reducible refine g_load rfl ?_); first | refine ev_ld1 H rfl rfl rfl ?_ | refine ev_lda H rfl rfl rfl ?_) | ((with_reducible refine g_store rfl ?_); (first | refine ev_sto (v := .int _ _) H rfl rfl rfl rfl rfl ?_ | refine ev_sto (v := .bool _) H rfl rfl rfl rfl rfl ?_ | refine ev_sto (v := .slice _ _ _) H rfl rfl rfl rfl rfl ?_ | refine ev_sto (v := .agg _) H rfl rfl rfl rfl rfl ?_); intro W_ H_; (clear H; have H := H_; clear H_)))
    go_ret
    exact ⟨rfl, H.below⟩
set_option maxHeartbeats 4000000 in
theorem impl_Peek (m : ImageD) (qm : ImageP) (x : MemD) (q : MemP) (a : Int) (N : Nat) (w : World) (hm : ImageIn w m qm) (hx : MemIn w x q) (hN : N = x.ram.length) : Calls Tryz.prog 204 #[.agg #[.slice qm.banks.s.A m.banks.length qm.banks.s.c], .agg #[.slice q.ram.A N q.ram.c, .int .i64 x.bank], .int .i64 a] w fun e w' => e = .returned (.int .i64 (x.peekO m a)) ∧ Below w.heap.size w w' := by
  subst hN
  have H := St.nil w []
  cases h : x.ok m
  · have hz : x.peekO m a = 0 := by simp [MemD.peekO, h]
    rw [hz]
    go_enter Tryz.func204, Tryz.ntmps204
    go_wp2_with (first | (go_at_call 117; (with_reducible refine (impl_MemOk m qm x q _ (hm.on H) (hx.on H)).mono ?_); rintro e w1 ⟨rfl, hb⟩; rw [h]; (have H_ := H.callB hb; (clear H; have H := H_; clear H_); clear hb)) | ((with_reducible refine g_box rfl ?_); (first | refine ev_box (v := .int _ _) H rfl rfl rfl rfl ?_ | refine ev_box (v := .bool _) H rfl rfl rfl rfl ?_ | refine ev_box (v := .slice _ _ _) H rfl rfl rfl rfl ?_ | refine ev_box (v := .agg _) H rfl rfl rfl rfl ?_); intro g_ W_ H_; (clear H; have H := H_; clear H_)) | ((with_reducible refine g_alloc rfl ?_); refine ev_new H rfl rfl ?_; intro g_ W_ H_; (clear H; have H := H_; clear H_)) | ((with_reducible refine g_load rfl ?_); first | refine ev_ld1 H rfl rfl rfl ?_ | refine ev_lda H rfl rfl rfl ?_) | ((with_reducible refine g_store rfl ?_); (first | refine ev_sto (v := .int _ _) H rfl rfl rfl rfl rfl ?_ | refine ev_sto (v := .bool _) H rfl rfl rfl rfl rfl ?_ | refine ev_sto (v := .slice _ _ _) H rfl rfl rfl rfl rfl ?_ | refine ev_sto (v := .agg _) H rfl rfl rfl rfl rfl ?_); intro W_ H_; (clear H; have H := H_; clear H_)))
    go_ret
    exact ⟨rfl, H.below⟩
  · have hz : x.peekO m a = x.peek m a := by simp [MemD.peekO, h]
    rw [hz]
    go_enter Tryz.func204, Tryz.ntmps204
    go_wp2_with (first | (go_at_call 117; (with_reducible refine (impl_MemOk m qm x q _ (hm.on H) (hx.on H)).mono ?_); rintro e w1 ⟨rfl, hb⟩; rw [h]; (have H_ := H.callB hb; (clear H; have H := H_; clear H_); clear hb)) | (go_at_call 130; (with_reducible refine (impl_peek m qm x q _ _ _ (hm.on H) (hx.on H) rfl h).mono ?_); rintro e w1 ⟨rfl, hb⟩; (have H_ := H.callB hb; (clear H; have H := H_; clear H_); clear hb)) | ((with_reducible refine g_box rfl ?_); (first | refine ev_box (v := .int _ _) H rfl rfl rfl rfl ?_ | refine ev_box (v := .bool _) H rfl rfl rfl rfl ?_ | refine ev_box (v := .slice _ _ _) H rfl rfl rfl rfl ?_ | refine ev_box (v := .agg _) H rfl rfl rfl rfl ?_); intro g_ W_ H_; (clear H; have H := H_; clear H_)) | ((with_reducible refine g_alloc rfl ?_); refine ev_new H rfl rfl ?_; intro g_ W_ H_; (clear H; have H := H_; clear H_)) | ((with_reducible refine g_load rfl ?_); first | refine ev_ld1 H rfl rfl rfl ?_ | refine ev_lda H rfl rfl rfl ?_) | ((with_reducible refine g_store rfl ?_); (first | refine ev_sto (v := .int _ _) H rfl rfl rfl rfl rfl ?_ | refine ev_sto (v := .bool _) H rfl rfl rfl rfl rfl ?_ | refine ev_sto (v := .slice _ _ _) H rfl rfl rfl rfl rfl ?_ | refine ev_sto (v := .agg _) H rfl rfl rfl rfl rfl ?_); intro W_ H_; (clear H; have H := H_; clear H_)))
    go_ret
    exact ⟨rfl, H.below⟩
set_option maxHeartbeats 8000000 in
theorem spec_l6Peek (m : ImageD) (qm : ImageP) (x : MemD) (q : MemP) (a : Int) (N : Nat) (w : World) (hm : ImageIn w m qm) (hx : MemIn w x q) (hN : N = x.ram.length) (hok : x.ok m = true) : Calls Tryz.prog 113 #[.agg #[.slice qm.banks.s.A m.banks.length qm.banks.s.c], .agg #[.slice q.ram.A N q.ram.c, .int .i64 x.bank], .int .i64 a] w fun e w' => e = .returned (.int .i64 (x.peek m a)) ∧ Below w.heap.size w w' := by
  subst hN
  have H := St.nil w []
  obtain ⟨h1, h2, h3, h4, h5⟩ := MemD.ok_at hok
  obtain ⟨g1, g2, g3⟩ := ImageD.ok_at h1
  clear h3 h1 hok
  have hb := hm.banks
  have hr := hx.ram
  clear hm hx
  obtain ⟨⟨⟨A, c⟩, r⟩⟩ := qm
  obtain ⟨⟨Ar, cr⟩⟩ := q
  obtain ⟨ram, bank⟩ := x
  simp only at hb hr h2 h4 h5 ⊢
  have hlen : ram.length = 512 := h2
  obtain ⟨adr, hAr, _⟩ := hr.cell H (show 0 < ram.length by omega)
  subst hAr
  obtain ⟨ad, hA, _⟩ := hb.cell H (show 0 < m.banks.length by omega)
  simp only at hA
  subst hA
  have HG := Lib.hid g1
  clear g1 h2
  rcases reg_cases a with ⟨e1, a0, a1⟩ | ⟨e1, a0, a1⟩ | ⟨e1, a0, a1⟩ | ⟨e1, a0⟩ | ⟨e1, a0, a1⟩ | ⟨e1, a0, a1⟩ | ⟨e1, a0⟩
  · obtain ⟨k, e2⟩ : ∃ k : Nat, regA a = (k : Int) := ⟨(regA a).toNat, by omega⟩
    have hk : k < ram.length := by omega
    have hz : (MemD.mk ram bank).peek m a = rd ram k := by simp [MemD.peek, e1, e2]
    rw [hz]
    have E1 := Lib.hid e1
    have E2 := Lib.hid e2
    have HL := Lib.hid hlen
    clear e1 e2 hz a0 a1 hlen
    go_enter Tryz.func113, Tryz.ntmps113
    go_wp2_with (first | (go_at_call 109; (with_reducible refine (spec_Region _ _).mono ?_); rintro e w1 ⟨rfl, rfl⟩; rw [E1.out, E2.out]) | ((with_reducible refine g_load rfl ?_); refine ev_load_in_one rfl rfl rfl (oneT rfl) (int_at_ hr H hk) ?_) | ((with_reducible refine g_box rfl ?_); (first | refine ev_box (v := .int _ _) H rfl rfl rfl rfl ?_ | refine ev_box (v := .bool _) H rfl rfl rfl rfl ?_ | refine ev_box (v := .slice _ _ _) H rfl rfl rfl rfl ?_ | refine ev_box (v := .agg _) H rfl rfl rfl rfl ?_); intro g_ W_ H_; (clear H; have H := H_; clear H_)) | ((with_reducible refine g_alloc rfl ?_); refine ev_new H rfl rfl ?_; intro g_ W_ H_; (clear H; have H := H_; clear H_)) | ((with_reducible refine g_load rfl ?_); first | refine ev_ld1 H rfl rfl rfl ?_ | refine ev_lda H rfl rfl rfl ?_) | ((with_reducible refine g_store rfl ?_); (first | refine ev_sto (v := .int _ _) H rfl rfl rfl rfl rfl ?_ | refine ev_sto (v := .bool _) H rfl rfl rfl rfl rfl ?_ | refine ev_sto (v := .slice _ _ _) H rfl rfl rfl rfl rfl ?_ | refine ev_sto (v := .agg _) H rfl rfl rfl rfl rfl ?_); intro W_ H_; (clear H; have H := H_; clear H_)))
    go_ret
    exact ⟨rfl, H.below⟩
  · have hz : (MemD.mk ram bank).peek m a = 0 := by simp [MemD.peek, e1]
    rw [hz]
    obtain ⟨k, e2⟩ : ∃ k : Int, regA a = k := ⟨_, rfl⟩
    have E1 := Lib.hid e1
    have E2 := Lib.hid e2
    clear e1 e2 hz a0 a1
    go_enter Tryz.func113, Tryz.ntmps113
    go_wp2_with (first | (go_at_call 109; (with_reducible refine (spec_Region _ _).mono ?_); rintro e w1 ⟨rfl, rfl⟩; rw [E1.out, E2.out]) | ((with_reducible refine g_box rfl ?_); (first | refine ev_box (v := .int _ _) H rfl rfl rfl rfl ?_ | refine ev_box (v := .bool _) H rfl rfl rfl rfl ?_ | refine ev_box (v := .slice _ _ _) H rfl rfl rfl rfl ?_ | refine ev_box (v := .agg _) H rfl rfl rfl rfl ?_); intro g_ W_ H_; (clear H; have H := H_; clear H_)) | ((with_reducible refine g_alloc rfl ?_); refine ev_new H rfl rfl ?_; intro g_ W_ H_; (clear H; have H := H_; clear H_)) | ((with_reducible refine g_load rfl ?_); first | refine ev_ld1 H rfl rfl rfl ?_ | refine ev_lda H rfl rfl rfl ?_) | ((with_reducible refine g_store rfl ?_); (first | refine ev_sto (v := .int _ _) H rfl rfl rfl rfl rfl ?_ | refine ev_sto (v := .bool _) H rfl rfl rfl rfl rfl ?_ | refine ev_sto (v := .slice _ _ _) H rfl rfl rfl rfl rfl ?_ | refine ev_sto (v := .agg _) H rfl rfl rfl rfl rfl ?_); intro W_ H_; (clear H; have H := H_; clear H_)))
    go_ret
    exact ⟨rfl, H.below⟩
  · have hz : (MemD.mk ram bank).peek m a = 0 := by simp [MemD.peek, e1]
    rw [hz]
    obtain ⟨k, e2⟩ : ∃ k : Int, regA a = k := ⟨_, rfl⟩
    have E1 := Lib.hid e1
    have E2 := Lib.hid e2
    clear e1 e2 hz a0 a1
    go_enter Tryz.func113, Tryz.ntmps113
    go_wp2_with (first | (go_at_call 109; (with_reducible refine (spec_Region _ _).mono ?_); rintro e w1 ⟨rfl, rfl⟩; rw [E1.out, E2.out]) | ((with_reducible refine g_box rfl ?_); (first | refine ev_box (v := .int _ _) H rfl rfl rfl rfl ?_ | refine ev_box (v := .bool _) H rfl rfl rfl rfl ?_ | refine ev_box (v := .slice _ _ _) H rfl rfl rfl rfl ?_ | refine ev_box (v := .agg _) H rfl rfl rfl rfl ?_); intro g_ W_ H_; (clear H; have H := H_; clear H_)) | ((with_reducible refine g_alloc rfl ?_); refine ev_new H rfl rfl ?_; intro g_ W_ H_; (clear H; have H := H_; clear H_)) | ((with_reducible refine g_load rfl ?_); first | refine ev_ld1 H rfl rfl rfl ?_ | refine ev_lda H rfl rfl rfl ?_) | ((with_reducible refine g_store rfl ?_); (first | refine ev_sto (v := .int _ _) H rfl rfl rfl rfl rfl ?_ | refine ev_sto (v := .bool _) H rfl rfl rfl rfl rfl ?_ | refine ev_sto (v := .slice _ _ _) H rfl rfl rfl rfl rfl ?_ | refine ev_sto (v := .agg _) H rfl rfl rfl rfl rfl ?_); intro W_ H_; (clear H; have H := H_; clear H_)))
    go_ret
    exact ⟨rfl, H.below⟩
  · have hz : (MemD.mk ram bank).peek m a = 0 := by simp [MemD.peek, e1]
    rw [hz]
    obtain ⟨k, e2⟩ : ∃ k : Int, regA a = k := ⟨_, rfl⟩
    have E1 := Lib.hid e1
    have E2 := Lib.hid e2
    clear e1 e2 hz a0 
    go_enter Tryz.func113, Tryz.ntmps113
    go_wp2_with (first | (go_at_call 109; (with_reducible refine (spec_Region _ _).mono ?_); rintro e w1 ⟨rfl, rfl⟩; rw [E1.out, E2.out]) | ((with_reducible refine g_box rfl ?_); (first | refine ev_box (v := .int _ _) H rfl rfl rfl rfl ?_ | refine ev_box (v := .bool _) H rfl rfl rfl rfl ?_ | refine ev_box (v := .slice _ _ _) H rfl rfl rfl rfl ?_ | refine ev_box (v := .agg _) H rfl rfl rfl rfl ?_); intro g_ W_ H_; (clear H; have H := H_; clear H_)) | ((with_reducible refine g_alloc rfl ?_); refine ev_new H rfl rfl ?_; intro g_ W_ H_; (clear H; have H := H_; clear H_)) | ((with_reducible refine g_load rfl ?_); first | refine ev_ld1 H rfl rfl rfl ?_ | refine ev_lda H rfl rfl rfl ?_) | ((with_reducible refine g_store rfl ?_); (first | refine ev_sto (v := .int _ _) H rfl rfl rfl rfl rfl ?_ | refine ev_sto (v := .bool _) H rfl rfl rfl rfl rfl ?_ | refine ev_sto (v := .slice _ _ _) H rfl rfl rfl rfl rfl ?_ | refine ev_sto (v := .agg _) H rfl rfl rfl rfl rfl ?_); intro W_ H_; (clear H; have H := H_; clear H_)))
    go_ret
    exact ⟨rfl, H.below⟩
  · obtain ⟨k, e2⟩ : ∃ k : Nat, regA a = (k : Int) := ⟨(regA a).toNat, by omega⟩
    obtain ⟨b, rfl⟩ : ∃ b : Nat, bank = (b : Int) := ⟨bank.toNat, by omega⟩
    have hlt : b < m.banks.length := by omega
    have hrow := hb.row b hlt
    simp only at hrow
    have hcell : ∀ {W : World} {l : List Ast}, St w [] W l → W.cell? (ad.add b) = some (.slice (slAt r b).A (rwAt m.banks b).length (slAt r b).c) := fun H' => rows_at_ hb H' hlt
    have hl := (bank_at (banks_at HG.out hlt)).1
    have hk : k < (rwAt m.banks b).length := by omega
    have hz : (MemD.mk ram (b : Int)).peek m a = rd (rwAt m.banks b) k := by simp [MemD.peek, e1, e2]
    rw [hz]
    generalize slAt r b = qk at hrow hcell
    obtain ⟨Ak, ck⟩ := qk
    simp only at hrow hcell
    obtain ⟨ad2, hA2, _⟩ := hrow.cell (St.nil w []) (show 0 < (rwAt m.banks b).length by omega)
    subst hA2
    have E1 := Lib.hid e1
    have E2 := Lib.hid e2
    have HL := Lib.hid hlen
    clear e1 e2 hz a0 a1 hlen hl
    go_enter Tryz.func113, Tryz.ntmps113
    go_wp2_with (first | (go_at_call 109; (with_reducible refine (spec_Region _ _).mono ?_); rintro e w1 ⟨rfl, rfl⟩; rw [E1.out, E2.out]) | ((with_reducible refine g_load rfl ?_); refine ev_load_in_one rfl rfl rfl (oneT rfl) (hcell H) ?_) | ((with_reducible refine g_load rfl ?_); refine ev_load_in_one rfl rfl rfl (oneT rfl) (int_at_ hrow H hk) ?_) | ((with_reducible refine g_box rfl ?_); (first | refine ev_box (v := .int _ _) H rfl rfl rfl rfl ?_ | refine ev_box (v := .bool _) H rfl rfl rfl rfl ?_ | refine ev_box (v := .slice _ _ _) H rfl rfl rfl rfl ?_ | refine ev_box (v := .agg _) H rfl rfl rfl rfl ?_); intro g_ W_ H_; (clear H; have H := H_; clear H_)) | ((with_reducible refine g_alloc rfl ?_); refine ev_new H rfl rfl ?_; intro g_ W_ H_; (clear H; have H := H_; clear H_)) | ((with_reducible refine g_load rfl ?_); first | refine ev_ld1 H rfl rfl rfl ?_ | refine ev_lda H rfl rfl rfl ?_) | ((with_reducible refine g_store rfl ?_); (first | refine ev_sto (v := .int _ _) H rfl rfl rfl rfl rfl ?_ | refine ev_sto (v := .bool _) H rfl rfl rfl rfl rfl ?_ | refine ev_sto (v := .slice _ _ _) H rfl rfl rfl rfl rfl ?_ | refine ev_sto (v := .agg _) H rfl rfl rfl rfl rfl ?_); intro W_ H_; (clear H; have H := H_; clear H_)))
    go_ret
    exact ⟨rfl, H.below⟩
  · obtain ⟨k, e2⟩ : ∃ k : Nat, regA a = (k : Int) := ⟨(regA a).toNat, by omega⟩
    obtain ⟨b, hp⟩ : ∃ b : Nat, m.banks.length = b + 1 := ⟨m.banks.length - 1, by omega⟩
    have hlt : b < m.banks.length := by omega
    have hrow := hb.row b hlt
    simp only at hrow
    have hcell : ∀ {W : World} {l : List Ast}, St w [] W l → W.cell? (ad.add b) = some (.slice (slAt r b).A (rwAt m.banks b).length (slAt r b).c) := fun H' => rows_at_ hb H' hlt
    have hl := (bank_at (banks_at HG.out hlt)).1
    have hk : k < (rwAt m.banks b).length := by omega
    have hz : (MemD.mk ram bank).peek m a = rd (rwAt m.banks b) k := by simp [MemD.peek, e1, e2, hp]
    rw [hz, hp]
    generalize slAt r b = qk at hrow hcell
    obtain ⟨Ak, ck⟩ := qk
    simp only at hrow hcell
    obtain ⟨ad2, hA2, _⟩ := hrow.cell (St.nil w []) (show 0 < (rwAt m.banks b).length by omega)
    subst hA2
    have E1 := Lib.hid e1
    have E2 := Lib.hid e2
    have HL := Lib.hid hlen
    have hb8 : b < 8 := by omega
    clear e1 e2 hz a0 a1 hlen hl hp g2 g3 h4 h5
    go_enter Tryz.func113, Tryz.ntmps113
    go_wp2_with (first | (go_at_call 109; (with_reducible refine (spec_Region _ _).mono ?_); rintro e w1 ⟨rfl, rfl⟩; rw [E1.out, E2.out]) | ((with_reducible refine g_load rfl ?_); refine ev_load_in_one rfl rfl rfl (oneT rfl) (hcell H) ?_) | ((with_reducible refine g_load rfl ?_); refine ev_load_in_one rfl rfl rfl (oneT rfl) (int_at_ hrow H hk) ?_) | ((with_reducible refine g_box rfl ?_); (first | refine ev_box (v := .int _ _) H rfl rfl rfl rfl ?_ | refine ev_box (v := .bool _) H rfl rfl rfl rfl ?_ | refine ev_box (v := .slice _ _ _) H rfl rfl rfl rfl ?_ | refine ev_box (v := .agg _) H rfl rfl rfl rfl ?_); intro g_ W_ H_; (clear H; have H := H_; clear H_)) | ((with_reducible refine g_alloc rfl ?_); refine ev_new H rfl rfl ?_; intro g_ W_ H_; (clear H; have H := H_; clear H_)) | ((with_reducible refine g_load rfl ?_); first | refine ev_ld1 H rfl rfl rfl ?_ | refine ev_lda H rfl rfl rfl ?_) | ((with_reducible refine g_store rfl ?_); (first | refine ev_sto (v := .int _ _) H rfl rfl rfl rfl rfl ?_ | refine ev_sto (v := .bool _) H rfl rfl rfl rfl rfl ?_ | refine ev_sto (v := .slice _ _ _) H rfl rfl rfl rfl rfl ?_ | refine ev_sto (v := .agg _) H rfl rfl rfl rfl rfl ?_); intro W_ H_; (clear H; have H := H_; clear H_)))
    go_ret
    exact ⟨rfl, H.below⟩
  · have hz : (MemD.mk ram bank).peek m a = 0 := by simp [MemD.peek, e1]
    rw [hz]
    obtain ⟨k, e2⟩ : ∃ k : Int, regA a = k := ⟨_, rfl⟩
    have E1 := Lib.hid e1
    have E2 := Lib.hid e2
    clear e1 e2 hz a0 
    go_enter Tryz.func113, Tryz.ntmps113
    go_wp2_with (first | (go_at_call 109; (with_reducible refine (spec_Region _ _).mono ?_); rintro e w1 ⟨rfl, rfl⟩; rw [E1.out, E2.out]) | ((with_reducible refine g_box rfl ?_); (first | refine ev_box (v := .int _ _) H rfl rfl rfl rfl ?_ | refine ev_box (v := .bool _) H rfl rfl rfl rfl ?_ | refine ev_box (v := .slice _ _ _) H rfl rfl rfl rfl ?_ | refine ev_box (v := .agg _) H rfl rfl rfl rfl ?_); intro g_ W_ H_; (clear H; have H := H_; clear H_)) | ((with_reducible refine g_alloc rfl ?_); refine ev_new H rfl rfl ?_; intro g_ W_ H_; (clear H; have H := H_; clear H_)) | ((with_reducible refine g_load rfl ?_); first | refine ev_ld1 H rfl rfl rfl ?_ | refine ev_lda H rfl rfl rfl ?_) | ((with_reducible refine g_store rfl ?_); (first | refine ev_sto (v := .int _ _) H rfl rfl rfl rfl rfl ?_ | refine ev_sto (v := .bool _) H rfl rfl rfl rfl rfl ?_ | refine ev_sto (v := .slice _ _ _) H rfl rfl rfl rfl rfl ?_ | refine ev_sto (v := .agg _) H rfl rfl rfl rfl rfl ?_); intro W_ H_; (clear H; have H := H_; clear H_)))
    go_ret
    exact ⟨rfl, H.below⟩
set_option maxHeartbeats 4000000 in
theorem spec_Peek (m : ImageD) (qm : ImageP) (x : MemD) (q : MemP) (a : Int) (N : Nat) (w : World) (hm : ImageIn w m qm) (hx : MemIn w x q) (hN : N = x.ram.length) : Calls Tryz.prog 148 #[.agg #[.slice qm.banks.s.A m.banks.length qm.banks.s.c], .agg #[.slice q.ram.A N q.ram.c, .int .i64 x.bank], .int .i64 a] w fun e w' => e = .returned (.int .i64 (x.peekO m a)) ∧ Below w.heap.size w w' := by
  subst hN
  have H := St.nil w []
  cases h : x.ok m
  · have hz : x.peekO m a = 0 := by simp [MemD.peekO, h]
    rw [hz]
    go_enter Tryz.func148, Tryz.ntmps148
    go_wp2_with (first | (go_at_call 102; (with_reducible refine (spec_MemOk m qm x q _ (hm.on H) (hx.on H)).mono ?_); rintro e w1 ⟨rfl, hb⟩; rw [h]; (have H_ := H.callB hb; (clear H; have H := H_; clear H_); clear hb)) | ((with_reducible refine g_box rfl ?_); (first | refine ev_box (v := .int _ _) H rfl rfl rfl rfl ?_ | refine ev_box (v := .bool _) H rfl rfl rfl rfl ?_ | refine ev_box (v := .slice _ _ _) H rfl rfl rfl rfl ?_ | refine ev_box (v := .agg _) H rfl rfl rfl rfl ?_); intro g_ W_ H_; (clear H; have H := H_; clear H_)) | ((with_reducible refine g_alloc rfl ?_); refine ev_new H rfl rfl ?_; intro g_ W_ H_; (clear H; have H := H_; clear H_)) | ((with_reducible refine g_load rfl ?_); first | refine ev_ld1 H rfl rfl rfl ?_ | refine ev_lda H rfl rfl rfl ?_) | ((with_reducible refine g_store rfl ?_); (first | refine ev_sto (v := .int _ _) H rfl rfl rfl rfl rfl ?_ | refine ev_sto (v := .bool _) H rfl rfl rfl rfl rfl ?_ | refine ev_sto (v := .slice _ _ _) H rfl rfl rfl rfl rfl ?_ | refine ev_sto (v := .agg _) H rfl rfl rfl rfl rfl ?_); intro W_ H_; (clear H; have H := H_; clear H_)))
    go_ret
    exact ⟨rfl, H.below⟩
  · have hz : x.peekO m a = x.peek m a := by simp [MemD.peekO, h]
    rw [hz]
    go_enter Tryz.func148, Tryz.ntmps148
    go_wp2_with (first | (go_at_call 102; (with_reducible refine (spec_MemOk m qm x q _ (hm.on H) (hx.on H)).mono ?_); rintro e w1 ⟨rfl, hb⟩; rw [h]; (have H_ := H.callB hb; (clear H; have H := H_; clear H_); clear hb)) | (go_at_call 113; (with_reducible refine (spec_l6Peek m qm x q _ _ _ (hm.on H) (hx.on H) rfl h).mono ?_); rintro e w1 ⟨rfl, hb⟩; (have H_ := H.callB hb; (clear H; have H := H_; clear H_); clear hb)) | ((with_reducible refine g_box rfl ?_); (first | refine ev_box (v := .int _ _) H rfl rfl rfl rfl ?_ | refine ev_box (v := .bool _) H rfl rfl rfl rfl ?_ | refine ev_box (v := .slice _ _ _) H rfl rfl rfl rfl ?_ | refine ev_box (v := .agg _) H rfl rfl rfl rfl ?_); intro g_ W_ H_; (clear H; have H := H_; clear H_)) | ((with_reducible refine g_alloc rfl ?_); refine ev_new H rfl rfl ?_; intro g_ W_ H_; (clear H; have H := H_; clear H_)) | ((with_reducible refine g_load rfl ?_); first | refine ev_ld1 H rfl rfl rfl ?_ | refine ev_lda H rfl rfl rfl ?_) | ((with_reducible refine g_store rfl ?_); (first | refine ev_sto (v := .int _ _) H rfl rfl rfl rfl rfl ?_ | refine ev_sto (v := .bool _) H rfl rfl rfl rfl rfl ?_ | refine ev_sto (v := .slice _ _ _) H rfl rfl rfl rfl rfl ?_ | refine ev_sto (v := .agg _) H rfl rfl rfl rfl rfl ?_); intro W_ H_; (clear H; have H := H_; clear H_)))
    go_ret
    exact ⟨rfl, H.below⟩
set_option maxHeartbeats 4000000 in
theorem impl_MemNew (w : World) : Calls Tryz.prog 79 #[] w fun e w' => ∃ q : Sl, e = .returned (.agg #[.slice q.A 512 q.c, .int .i64 0]) ∧ St w [] w' [intsA q (List.replicate 512 0)] := by
  have H := St.nil w []
  go_enter Tryz.func79, Tryz.ntmps79
  go_wp2_with (first | ((with_reducible refine g_make rfl ?_); refine ev_make (n := 512) H rfl rfl Tryz.underlying25 info_int rfl rfl rfl rfl (by omega) (by omega) ?_; intro gt_ W_ H_; rw [made_nums] at H_; (clear H; have H := (show St _ _ _ (intsA ⟨some ⟨gt_, 0, none⟩, 512⟩ (List.replicate 512 0) :: _) from H_); clear H_)) | ((with_reducible refine g_box rfl ?_); (first | refine ev_box (v := .int _ _) H rfl rfl rfl rfl ?_ | refine ev_box (v := .bool _) H rfl rfl rfl rfl ?_ | refine ev_box (v := .slice _ _ _) H rfl rfl rfl rfl ?_ | refine ev_box (v := .agg _) H rfl rfl rfl rfl ?_); intro g_ W_ H_; (clear H; have H := H_; clear H_)) | ((with_reducible refine g_alloc rfl ?_); refine ev_new H rfl rfl ?_; intro g_ W_ H_; (clear H; have H := H_; clear H_)) | ((with_reducible refine g_load rfl ?_); first | refine ev_ld1 H rfl rfl rfl ?_ | refine ev_lda H rfl rfl rfl ?_) | ((with_reducible refine g_store rfl ?_); (first | refine ev_sto (v := .int _ _) H rfl rfl rfl rfl rfl ?_ | refine ev_sto (v := .bool _) H rfl rfl rfl rfl rfl ?_ | refine ev_sto (v := .slice _ _ _) H rfl rfl rfl rfl rfl ?_ | refine ev_sto (v := .agg _) H rfl rfl rfl rfl rfl ?_); intro W_ H_; (clear H; have H := H_; clear H_)))
  have H_ := H.take (xs := [intsA ⟨some ⟨gt_, 0, none⟩, 512⟩ (List.replicate 512 0)]) (by (repeat (first | (with_reducible exact Picks.nil) | (with_reducible exact Pick.here) | (with_reducible apply Pick.there) | (with_reducible apply Picks.cons))))
  refine' back1 Tryz.results79 ?_ rfl ⟨⟨some ⟨gt_, 0, none⟩, 512⟩, ?_, H_⟩; rotate_left 1; (focus first | (with_reducible exact rv_tmp rfl) | (refine' rv_agg H rfl ?_ ?_ ?_; rotate_left 4; (focus (repeat (first | (with_reducible exact Pick.here) | (with_reducible apply Pick.there)))); (focus exact aggT rfl); (focus rfl)) | (refine' rv_one H rfl ?_ ?_; rotate_left 3; (focus (repeat (first | (with_reducible exact Pick.here) | (with_reducible apply Pick.there)))); (focus exact oneT rfl)))
  rfl
set_option maxHeartbeats 4000000 in
theorem spec_MemNew (w : World) : Calls Tryz.prog 71 #[] w fun e w' => ∃ q : Sl, e = .returned (.agg #[.slice q.A 512 q.c, .int .i64 0]) ∧ St w [] w' [intsA q (List.replicate 512 0)] := by
  have H := St.nil w []
  go_enter Tryz.func71, Tryz.ntmps71
  go_wp2_with (first | ((with_reducible refine g_make rfl ?_); refine ev_make (n := 512) H rfl rfl Tryz.underlying25 info_int rfl rfl rfl rfl (by omega) (by omega) ?_; intro gt_ W_ H_; rw [made_nums] at H_; (clear H; have H := (show St _ _ _ (intsA ⟨some ⟨gt_, 0, none⟩, 512⟩ (List.replicate 512 0) :: _) from H_); clear H_)) | ((with_reducible refine g_box rfl ?_); (first | refine ev_box (v := .int _ _) H rfl rfl rfl rfl ?_ | refine ev_box (v := .bool _) H rfl rfl rfl rfl ?_ | refine ev_box (v := .slice _ _ _) H rfl rfl rfl rfl ?_ | refine ev_box (v := .agg _) H rfl rfl rfl rfl ?_); intro g_ W_ H_; (clear H; have H := H_; clear H_)) | ((with_reducible refine g_alloc rfl ?_); refine ev_new H rfl rfl ?_; intro g_ W_ H_; (clear H; have H := H_; clear H_)) | ((with_reducible refine g_load rfl ?_); first | refine ev_ld1 H rfl rfl rfl ?_ | refine ev_lda H rfl rfl rfl ?_) | ((with_reducible refine g_store rfl ?_); (first | refine ev_sto (v := .int _ _) H rfl rfl rfl rfl rfl ?_ | refine ev_sto (v := .bool _) H rfl rfl rfl rfl rfl ?_ | refine ev_sto (v := .slice _ _ _) H rfl rfl rfl rfl rfl ?_ | refine ev_sto (v := .agg _) H rfl rfl rfl rfl rfl ?_); intro W_ H_; (clear H; have H := H_; clear H_)))
  have H_ := H.take (xs := [intsA ⟨some ⟨gt_, 0, none⟩, 512⟩ (List.replicate 512 0)]) (by (repeat (first | (with_reducible exact Picks.nil) | (with_reducible exact Pick.here) | (with_reducible apply Pick.there) | (with_reducible apply Picks.cons))))
  refine' back1 Tryz.results71 ?_ rfl ⟨⟨some ⟨gt_, 0, none⟩, 512⟩, ?_, H_⟩; rotate_left 1; (focus first | (with_reducible exact rv_tmp rfl) | (refine' rv_agg H rfl ?_ ?_ ?_; rotate_left 4; (focus (repeat (first | (with_reducible exact Pick.here) | (with_reducible apply Pick.there)))); (focus exact aggT rfl); (focus rfl)) | (refine' rv_one H rfl ?_ ?_; rotate_left 3; (focus (repeat (first | (with_reducible exact Pick.here) | (with_reducible apply Pick.there)))); (focus exact oneT rfl)))
  rfl
def PpuD.newI : PpuD := ⟨0, 0, 0, 0, 0, false, List.replicate 16 0, []⟩
theorem PpuD.newI_ok : PpuD.newI.ok = true := by decide +kernel
theorem intsA_nil (w : World) : (intsA ⟨none, 0⟩ []).p w := nil_ok w
set_option maxHeartbeats 4000000 in
theorem impl_PpuNewI (w : World) : Calls Tryz.prog 81 #[] w fun e w' => ∃ q : PpuP, e = .returned (.agg #[.int .i64 0, .int .i64 0, .int .i64 0, .int .i64 0, .int .i64 0, .bool false, .slice q.table.A 16 q.table.c, .slice q.dots.A 0 q.dots.c]) ∧ St w [] w' [ppuA PpuD.newI q] := by
  have H := St.nil w []
  go_enter Tryz.func81, Tryz.ntmps81
  go_wp2_with (first | ((with_reducible refine g_make rfl ?_); refine ev_make (n := 16) H rfl rfl Tryz.underlying25 info_int rfl rfl rfl rfl (by omega) (by omega) ?_; intro gt_ W_ H_; rw [made_nums] at H_; (clear H; have H := (show St _ _ _ (intsA ⟨some ⟨gt_, 0, none⟩, 16⟩ (List.replicate 16 0) :: _) from H_); clear H_)) | ((with_reducible refine g_box rfl ?_); (first | refine ev_box (v := .int _ _) H rfl rfl rfl rfl ?_ | refine ev_box (v := .bool _) H rfl rfl rfl rfl ?_ | refine ev_box (v := .slice _ _ _) H rfl rfl rfl rfl ?_ | refine ev_box (v := .agg _) H rfl rfl rfl rfl ?_); intro g_ W_ H_; (clear H; have H := H_; clear H_)) | ((with_reducible refine g_alloc rfl ?_); refine ev_new H rfl rfl ?_; intro g_ W_ H_; (clear H; have H := H_; clear H_)) | ((with_reducible refine g_load rfl ?_); first | refine ev_ld1 H rfl rfl rfl ?_ | refine ev_lda H rfl rfl rfl ?_) | ((with_reducible refine g_store rfl ?_); (first | refine ev_sto (v := .int _ _) H rfl rfl rfl rfl rfl ?_ | refine ev_sto (v := .bool _) H rfl rfl rfl rfl rfl ?_ | refine ev_sto (v := .slice _ _ _) H rfl rfl rfl rfl rfl ?_ | refine ev_sto (v := .agg _) H rfl rfl rfl rfl rfl ?_); intro W_ H_; (clear H; have H := H_; clear H_)))
  have H_ := St.addFree (a := intsA ⟨none, 0⟩ []) H rfl (intsA_nil _)
  (clear H; have H := H_; clear H_)
  have H_ := (St.pack (l1 := [intsA ⟨some ⟨gt_, 0, none⟩, 16⟩ (List.replicate 16 0), intsA ⟨none, 0⟩ []]) H (by (repeat (first | (with_reducible exact Picks.nil) | (with_reducible exact Pick.here) | (with_reducible apply Pick.there) | (with_reducible apply Picks.cons))))).take (Picks.cons Pick.here Picks.nil)
  refine' back1 Tryz.results81 ?_ rfl ⟨⟨⟨some ⟨gt_, 0, none⟩, 16⟩, ⟨none, 0⟩⟩, ?_, H_⟩; rotate_left 1; (focus first | (with_reducible exact rv_tmp rfl) | (refine' rv_agg H rfl ?_ ?_ ?_; rotate_left 4; (focus (repeat (first | (with_reducible exact Pick.here) | (with_reducible apply Pick.there)))); (focus exact aggT rfl); (focus rfl)) | (refine' rv_one H rfl ?_ ?_; rotate_left 3; (focus (repeat (first | (with_reducible exact Pick.here) | (with_reducible apply Pick.there)))); (focus exact oneT rfl)))
  rfl
set_option maxHeartbeats 4000000 in
theorem spec_PpuNewI (w : World) : Calls Tryz.prog 73 #[] w fun e w' => ∃ q : PpuP, e = .returned (.agg #[.int .i64 0, .int .i64 0, .int .i64 0, .int .i64 0, .int .i64 0, .bool false, .slice q.table.A 16 q.table.c, .slice q.dots.A 0 q.dots.c]) ∧ St w [] w' [ppuA PpuD.newI q] := by
  have H := St.nil w []
  go_enter Tryz.func73, Tryz.ntmps73
  go_wp2_with (first | ((with_reducible refine g_make rfl ?_); refine ev_make (n := 16) H rfl rfl Tryz.underlying25 info_int rfl rfl rfl rfl (by omega) (by omega) ?_; intro gt_ W_ H_; rw [made_nums] at H_; (clear H; have H := (show St _ _ _ (intsA ⟨some ⟨gt_, 0, none⟩, 16⟩ (List.replicate 16 0) :: _) from H_); clear H_)) | ((with_reducible refine g_box rfl ?_); (first | refine ev_box (v := .int _ _) H rfl rfl rfl rfl ?_ | refine ev_box (v := .bool _) H rfl rfl rfl rfl ?_ | refine ev_box (v := .slice _ _ _) H rfl rfl rfl rfl ?_ | refine ev_box (v := .agg _) H rfl rfl rfl rfl ?_); intro g_ W_ H_; (clear H; have H := H_; clear H_)) | ((with_reducible refine g_alloc rfl ?_); refine ev_new H rfl rfl ?_; intro g_ W_ H_; (clear H; have H := H_; clear H_)) | ((with_reducible refine g_load rfl ?_); first | refine ev_ld1 H rfl rfl rfl ?_ | refine ev_lda H rfl rfl rfl ?_) | ((with_reducible refine g_store rfl ?_); (first | refine ev_sto (v := .int _ _) H rfl rfl rfl rfl rfl ?_ | refine ev_sto (v := .bool _) H rfl rfl rfl rfl rfl ?_ | refine ev_sto (v := .slice _ _ _) H rfl rfl rfl rfl rfl ?_ | refine ev_sto (v := .agg _) H rfl rfl rfl rfl rfl ?_); intro W_ H_; (clear H; have H := H_; clear H_)))
  have H_ := St.addFree (a := intsA ⟨none, 0⟩ []) H rfl (intsA_nil _)
  (clear H; have H := H_; clear H_)
  have H_ := (St.pack (l1 := [intsA ⟨some ⟨gt_, 0, none⟩, 16⟩ (List.replicate 16 0), intsA ⟨none, 0⟩ []]) H (by (repeat (first | (with_reducible exact Picks.nil) | (with_reducible exact Pick.here) | (with_reducible apply Pick.there) | (with_reducible apply Picks.cons))))).take (Picks.cons Pick.here Picks.nil)
  refine' back1 Tryz.results73 ?_ rfl ⟨⟨⟨some ⟨gt_, 0, none⟩, 16⟩, ⟨none, 0⟩⟩, ?_, H_⟩; rotate_left 1; (focus first | (with_reducible exact rv_tmp rfl) | (refine' rv_agg H rfl ?_ ?_ ?_; rotate_left 4; (focus (repeat (first | (with_reducible exact Pick.here) | (with_reducible apply Pick.there)))); (focus exact aggT rfl); (focus rfl)) | (refine' rv_one H rfl ?_ ?_; rotate_left 3; (focus (repeat (first | (with_reducible exact Pick.here) | (with_reducible apply Pick.there)))); (focus exact oneT rfl)))
  rfl
/-- Where a vector leads. -/
def MemD.vec (x : MemD) (m : ImageD) (v : Int) : Int := joinB (x.peekO m v) (x.peekO m (v + 1))
set_option maxHeartbeats 4000000 in
theorem impl_vectorOf (m : ImageD) (qm : ImageP) (x : MemD) (q : MemP) (v : Int) (N : Nat) (w : World) (hm : ImageIn w m qm) (hx : MemIn w x q) (hN : N = x.ram.length) (h0 : 0 ≤ v) (h1 : v ≤ 100000) : Calls Tryz.prog 153 #[.agg #[.slice qm.banks.s.A m.banks.length qm.banks.s.c], .agg #[.slice q.ram.A N q.ram.c, .int .i64 x.bank], .int .i64 v] w fun e w' => e = .returned (.int .i64 (x.vec m v)) ∧ Below w.heap.size w w' := by
  subst hN
  have H := St.nil w []
  go_enter Tryz.func153, Tryz.ntmps153
  go_wp2_with (first | ((with_reducible refine g_box rfl ?_); (first | refine ev_box (v := .int _ _) H rfl rfl rfl rfl ?_ | refine ev_box (v := .bool _) H rfl rfl rfl rfl ?_ | refine ev_box (v := .slice _ _ _) H rfl rfl rfl rfl ?_ | refine ev_box (v := .agg _) H rfl rfl rfl rfl ?_); intro g_ W_ H_; (clear H; have H := H_; clear H_)) | ((with_reducible refine g_alloc rfl ?_); refine ev_new H rfl rfl ?_; intro g_ W_ H_; (clear H; have H := H_; clear H_)) | ((with_reducible refine g_load rfl ?_); first | refine ev_ld1 H rfl rfl rfl ?_ | refine ev_lda H rfl rfl rfl ?_) | ((with_reducible refine g_store rfl ?_); (first | refine ev_sto (v := .int _ _) H rfl rfl rfl rfl rfl ?_ | refine ev_sto (v := .bool _) H rfl rfl rfl rfl rfl ?_ | refine ev_sto (v := .slice _ _ _) H rfl rfl rfl rfl rfl ?_ | refine ev_sto (v := .agg _) H rfl rfl rfl rfl rfl ?_); intro W_ H_; (clear H; have H := H_; clear H_)))
  (with_reducible refine g_draw ?_)
  try simp only [Act.put, List.setIfInBounds_toArray, List.set_cons_succ, List.set_cons_zero]
  refine F_begin (ls := #[false, false, false, false, false, false, false, false, false, false, false]) (by kernel_rfl) rfl (by kernel_rfl) ?_
  have H_ := H.drew
  (clear H; have H := H_; clear H_)
  refine T_go [(1, 0, 7), (1, 1, 8), (0, 2, 9), (1, 4, 11), (1, 5, 12), (0, 6, 13), (0, 7, 14)] ?_; (repeat (first | (refine' T_pure _ rfl rfl (by kernel_rfl) (Nat.le_of_ble_eq_true (by kernel_rfl)) (fun w2_ K_ hK_ => ?_) ?_; rotate_left 1; focus ((conv => (arg 4; arg 1; whnf)); (repeat (first | exact hK_ rfl | go_step | go_guarded | go_upon | dsimp only)); done)) | (refine' T_read _ rfl rfl (by kernel_rfl) (Nat.le_of_ble_eq_true (by kernel_rfl)) (fun K_ hK_ => ?_) ?_; rotate_left 1; focus ((conv => (arg 4; arg 1; whnf)); (repeat (first | exact hK_ rfl | (go_big_may; (first | ((with_reducible refine g_load rfl ?_); first | refine ev_ld1 H rfl rfl rfl ?_ | refine ev_lda H rfl rfl rfl ?_))) | go_step | go_guarded | go_upon | dsimp only)); done)))); refine T_end ?_
  refine F_eff (ls' := #[true, true, true, true, true, true, true, true, false, false, false]) (pend' := [5, 4]) 3 _ rfl (by kernel_rfl) (by kernel_rfl) (by kernel_rfl) (fun K_ hK_ => ?_); (conv => (arg 4; arg 1; whnf)); (repeat (first | refine hK_ _ _ rfl ?_ ?_ | (go_big_may; (first | (go_at_call 204; (with_reducible refine (impl_Peek m qm x q _ _ _ (hm.on H) (hx.on H) rfl).mono ?_); rintro e w1 ⟨rfl, hb⟩; (have H_ := H.callB hb; (clear H; have H := H_; clear H_); clear hb)))) | go_step | go_guarded | go_upon | dsimp only)); (focus (refine kept_cons 5 12 _ rfl rfl (Nat.le_of_ble_eq_true (by kernel_rfl)) (fun K_ hK_ => ?_) ?_; (focus ((conv => (arg 4; arg 1; whnf)); repeat (first | exact hK_ rfl | (go_big_may; (first | ((with_reducible refine g_load rfl ?_); first | refine ev_ld1 H rfl rfl rfl ?_ | refine ev_lda H rfl rfl rfl ?_) | ((with_reducible refine g_load rfl ?_); first | refine ev_ld1 H rfl rfl rfl ?_ | refine ev_lda H rfl rfl rfl ?_))) | go_step | go_guarded | go_upon | dsimp only))); refine kept_cons 4 11 _ rfl rfl (Nat.le_of_ble_eq_true (by kernel_rfl)) (fun K_ hK_ => ?_) ?_; (focus ((conv => (arg 4; arg 1; whnf)); repeat (first | exact hK_ rfl | (go_big_may; (first | ((with_reducible refine g_load rfl ?_); first | refine ev_ld1 H rfl rfl rfl ?_ | refine ev_lda H rfl rfl rfl ?_) | ((with_reducible refine g_load rfl ?_); first | refine ev_ld1 H rfl rfl rfl ?_ | refine ev_lda H rfl rfl rfl ?_))) | go_step | go_guarded | go_upon | dsimp only))); exact kept_nil))
  refine F_eff (ls' := #[true, true, true, true, true, true, true, true, true, false, false]) (pend' := []) 8 _ rfl (by kernel_rfl) (by kernel_rfl) (by kernel_rfl) (fun K_ hK_ => ?_); (conv => (arg 4; arg 1; whnf)); (repeat (first | refine hK_ _ _ rfl ?_ ?_ | (go_big_may; (first | (go_at_call 204; (with_reducible refine (impl_Peek m qm x q _ _ _ (hm.on H) (hx.on H) rfl).mono ?_); rintro e w1 ⟨rfl, hb⟩; (have H_ := H.callB hb; (clear H; have H := H_; clear H_); clear hb)))) | go_step | go_guarded | go_upon | dsimp only)); (focus (exact kept_nil))
  refine T_go [(0, 9, 16), (0, 10, 6)] ?_; (repeat ((refine' T_pure _ rfl rfl (by kernel_rfl) (Nat.le_of_ble_eq_true (by kernel_rfl)) (fun w2_ K_ hK_ => ?_) ?_; rotate_left 1; focus ((conv => (arg 4; arg 1; whnf)); (repeat (first | exact hK_ rfl | (go_big_may; (first | (go_at_call 198; (with_reducible refine (impl_Join _ _ _).mono ?_); rintro e w1 ⟨rfl, rfl⟩))) | go_step | go_guarded | go_upon | dsimp only)); done)))); refine T_end ?_
  refine F_done (by kernel_rfl) ?_
  go_wp2_with (first | ((with_reducible refine g_box rfl ?_); (first | refine ev_box (v := .int _ _) H rfl rfl rfl rfl ?_ | refine ev_box (v := .bool _) H rfl rfl rfl rfl ?_ | refine ev_box (v := .slice _ _ _) H rfl rfl rfl rfl ?_ | refine ev_box (v := .agg _) H rfl rfl rfl rfl ?_); intro g_ W_ H_; (clear H; have H := H_; clear H_)) | ((with_reducible refine g_alloc rfl ?_); refine ev_new H rfl rfl ?_; intro g_ W_ H_; (clear H; have H := H_; clear H_)) | ((with_reducible refine g_load rfl ?_); first | refine ev_ld1 H rfl rfl rfl ?_ | refine ev_lda H rfl rfl rfl ?_) | ((with_reducible refine g_store rfl ?_); (first | refine ev_sto (v := .int _ _) H rfl rfl rfl rfl rfl ?_ | refine ev_sto (v := .bool _) H rfl rfl rfl rfl rfl ?_ | refine ev_sto (v := .slice _ _ _) H rfl rfl rfl rfl rfl ?_ | refine ev_sto (v := .agg _) H rfl rfl rfl rfl rfl ?_); intro W_ H_; (clear H; have H := H_; clear H_)))
  go_ret
  exact ⟨rfl, H.below⟩
/-- Where the processor begins. -/
def pcNew (m : ImageD) : Int := joinB ((MemD.mk (List.replicate 512 0) 0).peekO m 65532) ((MemD.mk (List.replicate 512 0) 0).peekO m 65533)
theorem pcNew_in (m : ImageD) : 0 ≤ pcNew m ∧ pcNew m ≤ 65535 := joinB_in _ _
set_option maxHeartbeats 4000000 in
theorem impl_CpuNew (m : ImageD) (qm : ImageP) (w : World) (hm : ImageIn w m qm) : Calls Tryz.prog 80 #[.agg #[.slice qm.banks.s.A m.banks.length qm.banks.s.c]] w fun e w' => e = .returned (.agg #[.int .i64 0, .int .i64 0, .int .i64 255, .int .i64 (pcNew m), .bool false, .bool false, .bool false, .bool true]) ∧ Below w.heap.size w w' := by
  have H := St.nil w []
  have HP : Hid ((MemD.mk (List.replicate 512 0) 0).vec m 65532 = pcNew m) := Lib.hid rfl
  go_enter Tryz.func80, Tryz.ntmps80
  go_wp2_with (first | ((with_reducible refine g_box rfl ?_); (first | refine ev_box (v := .int _ _) H rfl rfl rfl rfl ?_ | refine ev_box (v := .bool _) H rfl rfl rfl rfl ?_ | refine ev_box (v := .slice _ _ _) H rfl rfl rfl rfl ?_ | refine ev_box (v := .agg _) H rfl rfl rfl rfl ?_); intro g_ W_ H_; (clear H; have H := H_; clear H_)) | ((with_reducible refine g_alloc rfl ?_); refine ev_new H rfl rfl ?_; intro g_ W_ H_; (clear H; have H := H_; clear H_)) | ((with_reducible refine g_load rfl ?_); first | refine ev_ld1 H rfl rfl rfl ?_ | refine ev_lda H rfl rfl rfl ?_) | ((with_reducible refine g_store rfl ?_); (first | refine ev_sto (v := .int _ _) H rfl rfl rfl rfl rfl ?_ | refine ev_sto (v := .bool _) H rfl rfl rfl rfl rfl ?_ | refine ev_sto (v := .slice _ _ _) H rfl rfl rfl rfl rfl ?_ | refine ev_sto (v := .agg _) H rfl rfl rfl rfl rfl ?_); intro W_ H_; (clear H; have H := H_; clear H_)))
  (with_reducible refine g_draw ?_)
  try simp only [Act.put, List.setIfInBounds_toArray, List.set_cons_succ, List.set_cons_zero]
  refine F_begin (ls := #[false, false, false, false, false]) (by kernel_rfl) rfl (by kernel_rfl) ?_
  have H_ := H.drew
  (clear H; have H := H_; clear H_)
  refine T_go [(1, 0, 3)] ?_; (repeat ((refine' T_read _ rfl rfl (by kernel_rfl) (Nat.le_of_ble_eq_true (by kernel_rfl)) (fun K_ hK_ => ?_) ?_; rotate_left 1; focus ((conv => (arg 4; arg 1; whnf)); (repeat (first | exact hK_ rfl | (go_big_may; (first | ((with_reducible refine g_load rfl ?_); first | refine ev_ld1 H rfl rfl rfl ?_ | refine ev_lda H rfl rfl rfl ?_) | ((with_reducible refine g_store rfl ?_); (first | refine ev_sto (v := .int _ _) H rfl rfl rfl rfl rfl ?_ | refine ev_sto (v := .bool _) H rfl rfl rfl rfl rfl ?_ | refine ev_sto (v := .slice _ _ _) H rfl rfl rfl rfl rfl ?_ | refine ev_sto (v := .agg _) H rfl rfl rfl rfl rfl ?_); intro W_ H_; (clear H; have H := H_; clear H_)))) | go_step | go_guarded | go_upon | dsimp only)); done)))); refine T_end ?_
  refine F_eff (ls' := #[true, true, false, false, false]) (pend' := [0]) 1 _ rfl (by kernel_rfl) (by kernel_rfl) (by kernel_rfl) (fun K_ hK_ => ?_); (conv => (arg 4; arg 1; whnf)); (repeat (first | refine hK_ _ _ rfl ?_ ?_ | (go_big_may; (first | (go_at_call 79; (with_reducible refine (impl_MemNew _).mono ?_); rintro e w1 ⟨qn_, rfl, kk⟩; have H_ := H.call kk; simp only [List.append_eq, List.cons_append, List.nil_append] at H_; (clear H; have H := H_; clear H_); clear kk))) | go_step | go_guarded | go_upon | dsimp only)); (focus (refine kept_cons 0 3 _ rfl rfl (Nat.le_of_ble_eq_true (by kernel_rfl)) (fun K_ hK_ => ?_) ?_; (focus ((conv => (arg 4; arg 1; whnf)); repeat (first | exact hK_ rfl | (go_big_may; (first | ((with_reducible refine g_load rfl ?_); first | refine ev_ld1 H rfl rfl rfl ?_ | refine ev_lda H rfl rfl rfl ?_) | ((with_reducible refine g_store rfl ?_); (first | refine ev_sto (v := .int _ _) H rfl rfl rfl rfl rfl ?_ | refine ev_sto (v := .bool _) H rfl rfl rfl rfl rfl ?_ | refine ev_sto (v := .slice _ _ _) H rfl rfl rfl rfl rfl ?_ | refine ev_sto (v := .agg _) H rfl rfl rfl rfl rfl ?_); intro W_ H_; (clear H; have H := H_; clear H_)) | ((with_reducible refine g_load rfl ?_); first | refine ev_ld1 H rfl rfl rfl ?_ | refine ev_lda H rfl rfl rfl ?_))) | go_step | go_guarded | go_upon | dsimp only))); exact kept_nil))
  refine F_eff (ls' := #[true, true, true, false, false]) (pend' := []) 2 _ rfl (by kernel_rfl) (by kernel_rfl) (by kernel_rfl) (fun K_ hK_ => ?_); (conv => (arg 4; arg 1; whnf)); (repeat (first | refine hK_ _ _ rfl ?_ ?_ | (go_big_may; (first | (go_at_call 153; (with_reducible refine (impl_vectorOf m qm ⟨List.replicate 512 0, 0⟩ ⟨qn_⟩ _ 512 _ (hm.on H) ⟨InI.of (H.get (x := intsA qn_ (List.replicate 512 0)) (by (repeat (first | (with_reducible exact Pick.here) | (with_reducible apply Pick.there)))))⟩ (by simp) (by decide) (by decide)).mono ?_); rintro e w1 ⟨rfl, hb⟩; rw [HP.out]; (have H_ := H.callB hb; (clear H; have H := H_; clear H_); clear hb)))) | go_step | go_guarded | go_upon | dsimp only)); (focus (exact kept_nil))
  refine T_go [(0, 3, 6)] ?_; (repeat ((refine' T_pure _ rfl rfl (by kernel_rfl) (Nat.le_of_ble_eq_true (by kernel_rfl)) (fun w2_ K_ hK_ => ?_) ?_; rotate_left 1; focus ((conv => (arg 4; arg 1; whnf)); (repeat (first | exact hK_ rfl | go_step | go_guarded | go_upon | dsimp only)); done)))); refine T_end ?_
  refine F_eff (ls' := #[true, true, true, true, true]) (pend' := []) 4 _ rfl (by kernel_rfl) (by kernel_rfl) (by kernel_rfl) (fun K_ hK_ => ?_); (conv => (arg 4; arg 1; whnf)); (repeat (first | refine hK_ _ _ rfl ?_ ?_ | (go_big_may; (first | ((with_reducible refine g_load rfl ?_); first | refine ev_ld1 H rfl rfl rfl ?_ | refine ev_lda H rfl rfl rfl ?_) | ((with_reducible refine g_store rfl ?_); (first | refine ev_sto (v := .int _ _) H rfl rfl rfl rfl rfl ?_ | refine ev_sto (v := .bool _) H rfl rfl rfl rfl rfl ?_ | refine ev_sto (v := .slice _ _ _) H rfl rfl rfl rfl rfl ?_ | refine ev_sto (v := .agg _) H rfl rfl rfl rfl rfl ?_); intro W_ H_; (clear H; have H := H_; clear H_)) | ((with_reducible refine g_store rfl ?_); (first | refine ev_sto (v := .int _ _) H rfl rfl rfl rfl rfl ?_ | refine ev_sto (v := .bool _) H rfl rfl rfl rfl rfl ?_ | refine ev_sto (v := .slice _ _ _) H rfl rfl rfl rfl rfl ?_ | refine ev_sto (v := .agg _) H rfl rfl rfl rfl rfl ?_); intro W_ H_; (clear H; have H := H_; clear H_)))) | go_step | go_guarded | go_upon | dsimp only)); (focus (exact kept_nil))
  refine F_done (by kernel_rfl) ?_
  go_wp2_with (first | ((with_reducible refine g_box rfl ?_); (first | refine ev_box (v := .int _ _) H rfl rfl rfl rfl ?_ | refine ev_box (v := .bool _) H rfl rfl rfl rfl ?_ | refine ev_box (v := .slice _ _ _) H rfl rfl rfl rfl ?_ | refine ev_box (v := .agg _) H rfl rfl rfl rfl ?_); intro g_ W_ H_; (clear H; have H := H_; clear H_)) | ((with_reducible refine g_alloc rfl ?_); refine ev_new H rfl rfl ?_; intro g_ W_ H_; (clear H; have H := H_; clear H_)) | ((with_reducible refine g_load rfl ?_); first | refine ev_ld1 H rfl rfl rfl ?_ | refine ev_lda H rfl rfl rfl ?_) | ((with_reducible refine g_store rfl ?_); (first | refine ev_sto (v := .int _ _) H rfl rfl rfl rfl rfl ?_ | refine ev_sto (v := .bool _) H rfl rfl rfl rfl rfl ?_ | refine ev_sto (v := .slice _ _ _) H rfl rfl rfl rfl rfl ?_ | refine ev_sto (v := .agg _) H rfl rfl rfl rfl rfl ?_); intro W_ H_; (clear H; have H := H_; clear H_)))
  refine' back1 Tryz.results80 ?_ rfl ⟨?_, H.below⟩; rotate_left 1; (focus first | (with_reducible exact rv_tmp rfl) | (refine' rv_agg H rfl ?_ ?_ ?_; rotate_left 4; (focus (repeat (first | (with_reducible exact Pick.here) | (with_reducible apply Pick.there)))); (focus exact aggT rfl); (focus rfl)) | (refine' rv_one H rfl ?_ ?_; rotate_left 3; (focus (repeat (first | (with_reducible exact Pick.here) | (with_reducible apply Pick.there)))); (focus exact oneT rfl)))
  rfl
set_option maxHeartbeats 4000000 in
theorem spec_CpuNew (m : ImageD) (qm : ImageP) (w : World) (hm : ImageIn w m qm) : Calls Tryz.prog 72 #[.agg #[.slice qm.banks.s.A m.banks.length qm.banks.s.c]] w fun e w' => e = .returned (.agg #[.int .i64 0, .int .i64 0, .int .i64 255, .int .i64 (pcNew m), .bool false, .bool false, .bool false, .bool true]) ∧ Below w.heap.size w w' := by
  have H := St.nil w []
  go_enter Tryz.func72, Tryz.ntmps72
  go_wp2_with (first | (go_at_call 71; (with_reducible refine (spec_MemNew _).mono ?_); rintro e w1 ⟨qn_, rfl, kk⟩; have H_ := H.call kk; simp only [List.append_eq, List.cons_append, List.nil_append] at H_; (clear H; have H := H_; clear H_); clear kk) | ((with_reducible refine g_box rfl ?_); (first | refine ev_box (v := .int _ _) H rfl rfl rfl rfl ?_ | refine ev_box (v := .bool _) H rfl rfl rfl rfl ?_ | refine ev_box (v := .slice _ _ _) H rfl rfl rfl rfl ?_ | refine ev_box (v := .agg _) H rfl rfl rfl rfl ?_); intro g_ W_ H_; (clear H; have H := H_; clear H_)) | ((with_reducible refine g_alloc rfl ?_); refine ev_new H rfl rfl ?_; intro g_ W_ H_; (clear H; have H := H_; clear H_)) | ((with_reducible refine g_load rfl ?_); first | refine ev_ld1 H rfl rfl rfl ?_ | refine ev_lda H rfl rfl rfl ?_) | ((with_reducible refine g_store rfl ?_); (first | refine ev_sto (v := .int _ _) H rfl rfl rfl rfl rfl ?_ | refine ev_sto (v := .bool _) H rfl rfl rfl rfl rfl ?_ | refine ev_sto (v := .slice _ _ _) H rfl rfl rfl rfl rfl ?_ | refine ev_sto (v := .agg _) H rfl rfl rfl rfl rfl ?_); intro W_ H_; (clear H; have H := H_; clear H_)))
  (with_reducible refine g_draw ?_)
  try simp only [Act.put, List.setIfInBounds_toArray, List.set_cons_succ, List.set_cons_zero]
  refine F_begin (ls := #[false, false, false, false, false, false, false, false, false]) (by kernel_rfl) rfl (by kernel_rfl) ?_
  have H_ := H.drew
  (clear H; have H := H_; clear H_)
  refine T_go [(1, 0, 5), (1, 1, 6), (1, 3, 8), (1, 4, 9)] ?_; (repeat ((refine' T_read _ rfl rfl (by kernel_rfl) (Nat.le_of_ble_eq_true (by kernel_rfl)) (fun K_ hK_ => ?_) ?_; rotate_left 1; focus ((conv => (arg 4; arg 1; whnf)); (repeat (first | exact hK_ rfl | (go_big_may; (first | ((with_reducible refine g_load rfl ?_); first | refine ev_ld1 H rfl rfl rfl ?_ | refine ev_lda H rfl rfl rfl ?_) | ((with_reducible refine g_store rfl ?_); (first | refine ev_sto (v := .int _ _) H rfl rfl rfl rfl rfl ?_ | refine ev_sto (v := .bool _) H rfl rfl rfl rfl rfl ?_ | refine ev_sto (v := .slice _ _ _) H rfl rfl rfl rfl rfl ?_ | refine ev_sto (v := .agg _) H rfl rfl rfl rfl rfl ?_); intro W_ H_; (clear H; have H := H_; clear H_)))) | go_step | go_guarded | go_upon | dsimp only)); done)))); refine T_end ?_
  refine F_eff (ls' := #[true, true, true, true, true, false, false, false, false]) (pend' := [4, 3]) 2 _ rfl (by kernel_rfl) (by kernel_rfl) (by kernel_rfl) (fun K_ hK_ => ?_); (conv => (arg 4; arg 1; whnf)); (repeat (first | refine hK_ _ _ rfl ?_ ?_ | (go_big_may; (first | (go_at_call 148; (with_reducible refine (spec_Peek m qm ⟨List.replicate 512 0, 0⟩ ⟨qn_⟩ _ 512 _ (hm.on H) ⟨InI.of (H.get (x := intsA qn_ (List.replicate 512 0)) (by (repeat (first | (with_reducible exact Pick.here) | (with_reducible apply Pick.there)))))⟩ (by simp)).mono ?_); rintro e w1 ⟨rfl, hb⟩; (have H_ := H.callB hb; (clear H; have H := H_; clear H_); clear hb)))) | go_step | go_guarded | go_upon | dsimp only)); (focus (refine kept_cons 4 9 _ rfl rfl (Nat.le_of_ble_eq_true (by kernel_rfl)) (fun K_ hK_ => ?_) ?_; (focus ((conv => (arg 4; arg 1; whnf)); repeat (first | exact hK_ rfl | (go_big_may; (first | ((with_reducible refine g_load rfl ?_); first | refine ev_ld1 H rfl rfl rfl ?_ | refine ev_lda H rfl rfl rfl ?_) | ((with_reducible refine g_store rfl ?_); (first | refine ev_sto (v := .int _ _) H rfl rfl rfl rfl rfl ?_ | refine ev_sto (v := .bool _) H rfl rfl rfl rfl rfl ?_ | refine ev_sto (v := .slice _ _ _) H rfl rfl rfl rfl rfl ?_ | refine ev_sto (v := .agg _) H rfl rfl rfl rfl rfl ?_); intro W_ H_; (clear H; have H := H_; clear H_)) | ((with_reducible refine g_load rfl ?_); first | refine ev_ld1 H rfl rfl rfl ?_ | refine ev_lda H rfl rfl rfl ?_))) | go_step | go_guarded | go_upon | dsimp only))); refine kept_cons 3 8 _ rfl rfl (Nat.le_of_ble_eq_true (by kernel_rfl)) (fun K_ hK_ => ?_) ?_; (focus ((conv => (arg 4; arg 1; whnf)); repeat (first | exact hK_ rfl | (go_big_may; (first | ((with_reducible refine g_load rfl ?_); first | refine ev_ld1 H rfl rfl rfl ?_ | refine ev_lda H rfl rfl rfl ?_) | ((with_reducible refine g_store rfl ?_); (first | refine ev_sto (v := .int _ _) H rfl rfl rfl rfl rfl ?_ | refine ev_sto (v := .bool _) H rfl rfl rfl rfl rfl ?_ | refine ev_sto (v := .slice _ _ _) H rfl rfl rfl rfl rfl ?_ | refine ev_sto (v := .agg _) H rfl rfl rfl rfl rfl ?_); intro W_ H_; (clear H; have H := H_; clear H_)) | ((with_reducible refine g_load rfl ?_); first | refine ev_ld1 H rfl rfl rfl ?_ | refine ev_lda H rfl rfl rfl ?_))) | go_step | go_guarded | go_upon | dsimp only))); exact kept_nil))
  refine F_eff (ls' := #[true, true, true, true, true, true, false, false, false]) (pend' := []) 5 _ rfl (by kernel_rfl) (by kernel_rfl) (by kernel_rfl) (fun K_ hK_ => ?_); (conv => (arg 4; arg 1; whnf)); (repeat (first | refine hK_ _ _ rfl ?_ ?_ | (go_big_may; (first | (go_at_call 148; (with_reducible refine (spec_Peek m qm ⟨List.replicate 512 0, 0⟩ ⟨qn_⟩ _ 512 _ (hm.on H) ⟨InI.of (H.get (x := intsA qn_ (List.replicate 512 0)) (by (repeat (first | (with_reducible exact Pick.here) | (with_reducible apply Pick.there)))))⟩ (by simp)).mono ?_); rintro e w1 ⟨rfl, hb⟩; (have H_ := H.callB hb; (clear H; have H := H_; clear H_); clear hb)))) | go_step | go_guarded | go_upon | dsimp only)); (focus (exact kept_nil))
  refine T_go [(0, 6, 11), (0, 7, 12)] ?_; (repeat ((refine' T_pure _ rfl rfl (by kernel_rfl) (Nat.le_of_ble_eq_true (by kernel_rfl)) (fun w2_ K_ hK_ => ?_) ?_; rotate_left 1; focus ((conv => (arg 4; arg 1; whnf)); (repeat (first | exact hK_ rfl | (go_big_may; (first | (go_at_call 147; (with_reducible refine (spec_Join _ _ _).mono ?_); rintro e w1 ⟨rfl, rfl⟩))) | go_step | go_guarded | go_upon | dsimp only)); done)))); refine T_end ?_
  refine F_eff (ls' := #[true, true, true, true, true, true, true, true, true]) (pend' := []) 8 _ rfl (by kernel_rfl) (by kernel_rfl) (by kernel_rfl) (fun K_ hK_ => ?_); (conv => (arg 4; arg 1; whnf)); (repeat (first | refine hK_ _ _ rfl ?_ ?_ | (go_big_may; (first | ((with_reducible refine g_load rfl ?_); first | refine ev_ld1 H rfl rfl rfl ?_ | refine ev_lda H rfl rfl rfl ?_) | ((with_reducible refine g_store rfl ?_); (first | refine ev_sto (v := .int _ _) H rfl rfl rfl rfl rfl ?_ | refine ev_sto (v := .bool _) H rfl rfl rfl rfl rfl ?_ | refine ev_sto (v := .slice _ _ _) H rfl rfl rfl rfl rfl ?_ | refine ev_sto (v := .agg _) H rfl rfl rfl rfl rfl ?_); intro W_ H_; (clear H; have H := H_; clear H_)) | ((with_reducible refine g_store rfl ?_); (first | refine ev_sto (v := .int _ _) H rfl rfl rfl rfl rfl ?_ | refine ev_sto (v := .bool _) H rfl rfl rfl rfl rfl ?_ | refine ev_sto (v := .slice _ _ _) H rfl rfl rfl rfl rfl ?_ | refine ev_sto (v := .agg _) H rfl rfl rfl rfl rfl ?_); intro W_ H_; (clear H; have H := H_; clear H_)))) | go_step | go_guarded | go_upon | dsimp only)); (focus (exact kept_nil))
  refine F_done (by kernel_rfl) ?_
  go_wp2_with (first | ((with_reducible refine g_box rfl ?_); (first | refine ev_box (v := .int _ _) H rfl rfl rfl rfl ?_ | refine ev_box (v := .bool _) H rfl rfl rfl rfl ?_ | refine ev_box (v := .slice _ _ _) H rfl rfl rfl rfl ?_ | refine ev_box (v := .agg _) H rfl rfl rfl rfl ?_); intro g_ W_ H_; (clear H; have H := H_; clear H_)) | ((with_reducible refine g_alloc rfl ?_); refine ev_new H rfl rfl ?_; intro g_ W_ H_; (clear H; have H := H_; clear H_)) | ((with_reducible refine g_load rfl ?_); first | refine ev_ld1 H rfl rfl rfl ?_ | refine ev_lda H rfl rfl rfl ?_) | ((with_reducible refine g_store rfl ?_); (first | refine ev_sto (v := .int _ _) H rfl rfl rfl rfl rfl ?_ | refine ev_sto (v := .bool _) H rfl rfl rfl rfl rfl ?_ | refine ev_sto (v := .slice _ _ _) H rfl rfl rfl rfl rfl ?_ | refine ev_sto (v := .agg _) H rfl rfl rfl rfl rfl ?_); intro W_ H_; (clear H; have H := H_; clear H_)))
  refine' back1 Tryz.results72 ?_ rfl ⟨?_, H.below⟩; rotate_left 1; (focus first | (with_reducible exact rv_tmp rfl) | (refine' rv_agg H rfl ?_ ?_ ?_; rotate_left 4; (focus (repeat (first | (with_reducible exact Pick.here) | (with_reducible apply Pick.there)))); (focus exact aggT rfl); (focus rfl)) | (refine' rv_one H rfl ?_ ?_; rotate_left 3; (focus (repeat (first | (with_reducible exact Pick.here) | (with_reducible apply Pick.there)))); (focus exact oneT rfl)))
  rfl
end Go.Proofs.YtjgggmcnbdjdjaaGreat.C
