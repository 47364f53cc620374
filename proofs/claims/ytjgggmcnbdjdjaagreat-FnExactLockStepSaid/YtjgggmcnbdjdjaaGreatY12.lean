/- A tick of the machine in lock step. (written by ygen2.py) -/
import Derived.Test.YtjgggmcnbdjdjaaGreatY9
import Derived.Test.YtjgggmcnbdjdjaaGreatQ5
import Derived.Test.YtjgggmcnbdjdjaaGreatX
import Derived.Test.YtjgggmcnbdjdjaaGreatV
import Derived.Test.YtjgggmcnbdjdjaaGreatY4
namespace Go.Proofs.YtjgggmcnbdjdjaaGreat.C
open Go.RowKit Go.Proofs.YtjgggmcnbdjdjaaGreat.K Go.Proofs.YtjgggmcnbdjdjaaGreat.B
attribute [local go_sem] max2_int min2_int max_two min_two i64_and255 i64_and65535 i64_and1
set_option maxRecDepth 20000
set_option linter.unusedVariables false
set_option linter.unusedSimpArgs false
set_option maxRecDepth 20000
set_option maxRecDepth 100000 in
set_option maxHeartbeats 4000000 in
theorem impl_atick_L (a : ApuD) (v0 v1 v2 v3 v4 v5 v6 v7 v8 v9 v10 v11 v12 v13 v14 v15 v16 v17 v18 v19 zz0 zz1 zz2 zz3 zz4 zz5 zz6 : Value) (g : Nat) (w : World) (hok : a.ok = true) (H0 : Hol w [Ast.blk g [v0, v1, v2, v3, v4, v5, v6, v7, v8, v9, v10, v11, v12, v13, v14, v15, v16, v17, v18, v19, .int .i64 a.t, .int .i64 a.p, .int .i64 a.c, .int .i64 a.b, .int .i64 a.l, .bool a.k, .bool a.i, zz0, zz1, zz2, zz3, zz4, zz5, zz6] 49]) : Calls Tryz.prog 202 #[.pointer (some ⟨g, 20, none⟩)] w fun e w' => e = .returned (.tuple #[.int .i64 a.smp, .bool a.told]) ∧ St w [g] w' [Ast.blk g [v0, v1, v2, v3, v4, v5, v6, v7, v8, v9, v10, v11, v12, v13, v14, v15, v16, v17, v18, v19, .int .i64 a.tk.t, .int .i64 a.tk.p, .int .i64 a.tk.c, .int .i64 a.tk.b, .int .i64 a.tk.l, .bool a.tk.k, .bool a.tk.i, zz0, zz1, zz2, zz3, zz4, zz5, zz6] 49] := by
  have H := H0.st
  clear H0
  obtain ⟨b1, b2, b3, b4, b5, b6, b7, b8, b9, b10⟩ := a.ok_iff.1 hok
  clear hok
  go_enter Tryz.func202, Tryz.ntmps202
  go_upto_if 9 with (first | ((with_reducible refine g_load rfl ?_); refine eL1 H ?_) | ((with_reducible refine g_store rfl ?_); (first | refine eSi H ?_ | refine eSb H ?_); clear H; intro W_ H))
  go_cut [] (fun wc => St w [g] wc [Ast.blk g [v0, v1, v2, v3, v4, v5, v6, v7, v8, v9, v10, v11, v12, v13, v14, v15, v16, v17, v18, v19, .int .i64 a.t, .int .i64 a.p, .int .i64 a.tk.c, .int .i64 a.tk.b, .int .i64 a.l, .bool a.k, .bool a.i, zz0, zz1, zz2, zz3, zz4, zz5, zz6] 49])
  case first =>
    by_cases h1 : a.c = 0
    · cases h2 : a.loud
      · have h3 : decide (0 < a.l) = false := decide_eq_false (ApuD.loud_f h2)
        go_wp2_with (first | ((with_reducible refine g_load rfl ?_); refine eL1 H ?_) | ((with_reducible refine g_store rfl ?_); (first | refine eSi H ?_ | refine eSb H ?_); clear H; intro W_ H))
        all_goals (go_meet; case rel => exact H.cast (by simp [ApuD.tk, *]))
      · have h3 : decide (0 < a.l) = true := decide_eq_true (ApuD.loud_t h2)
        go_wp2_with (first | ((with_reducible refine g_load rfl ?_); refine eL1 H ?_) | ((with_reducible refine g_store rfl ?_); (first | refine eSi H ?_ | refine eSb H ?_); clear H; intro W_ H))
        all_goals (go_meet; case rel => exact H.cast (by simp [ApuD.tk, *]))
    · go_wp2_with (first | ((with_reducible refine g_load rfl ?_); refine eL1 H ?_) | ((with_reducible refine g_store rfl ?_); (first | refine eSi H ?_ | refine eSb H ?_); clear H; intro W_ H))
      all_goals (go_meet; case rel => exact H.cast (by simp [ApuD.tk, *]))
  case rest =>
    clear H
    have H := hcut
    clear hcut
    go_upto_region 6 with (fail)
    go_cut [49] (fun v wc => v = .bool a.beat ∧ St w [g] wc [Ast.blk g [v0, v1, v2, v3, v4, v5, v6, v7, v8, v9, v10, v11, v12, v13, v14, v15, v16, v17, v18, v19, .int .i64 a.t, .int .i64 a.p, .int .i64 a.tk.c, .int .i64 a.tk.b, .int .i64 a.l, .bool a.k, .bool a.i, zz0, zz1, zz2, zz3, zz4, zz5, zz6] 49])
    case first =>
      by_cases h3 : a.t % 32 = 0
      all_goals
        go_wp2_with (first | ((with_reducible refine g_load rfl ?_); refine eL1 H ?_) | ((with_reducible refine g_store rfl ?_); (first | refine eSi H ?_ | refine eSb H ?_); clear H; intro W_ H))
        all_goals (go_meet; case rel => exact ⟨by simp [ApuD.beat, h3], H⟩)
    case rest =>
      clear H
      obtain ⟨rfl, H⟩ := hcut
      go_upto_if 49 with (fail)
      go_cut [] (fun wc => St w [g] wc [Ast.blk g [v0, v1, v2, v3, v4, v5, v6, v7, v8, v9, v10, v11, v12, v13, v14, v15, v16, v17, v18, v19, .int .i64 a.t, .int .i64 a.p, .int .i64 a.tk.c, .int .i64 a.tk.b, .int .i64 a.tk.l, .bool a.k, .bool a.tk.i, zz0, zz1, zz2, zz3, zz4, zz5, zz6] 49])
      case first =>
        cases hb : a.beat
        · go_wp2_with (first | ((with_reducible refine g_load rfl ?_); refine eL1 H ?_) | ((with_reducible refine g_store rfl ?_); (first | refine eSi H ?_ | refine eSb H ?_); clear H; intro W_ H))
          all_goals (go_meet; case rel => exact H.cast (by simp [ApuD.tk, *]))
        · have h4 := (ApuD.beat_t hb).2
          cases hi : a.i
          · cases ho : a.out
            · have h5 : (a.l - 1 == 0) = false := by simpa using ApuD.out_f ho
              go_wp2_with (first | ((with_reducible refine g_load rfl ?_); refine eL1 H ?_) | ((with_reducible refine g_store rfl ?_); (first | refine eSi H ?_ | refine eSb H ?_); clear H; intro W_ H))
              all_goals (go_meet; case rel => exact H.cast (by simp [ApuD.tk, *]))
            · have h5 : (a.l - 1 == 0) = true := by simpa using ApuD.out_t ho
              go_wp2_with (first | ((with_reducible refine g_load rfl ?_); refine eL1 H ?_) | ((with_reducible refine g_store rfl ?_); (first | refine eSi H ?_ | refine eSb H ?_); clear H; intro W_ H))
              all_goals (go_meet; case rel => exact H.cast (by simp [ApuD.tk, *]))
          · go_wp2_with (first | ((with_reducible refine g_load rfl ?_); refine eL1 H ?_) | ((with_reducible refine g_store rfl ?_); (first | refine eSi H ?_ | refine eSb H ?_); clear H; intro W_ H))
            all_goals (go_meet; case rel => exact H.cast (by simp [ApuD.tk, *]))
      case rest =>
        clear H
        have H := hcut
        clear hcut
        have h6 : (a.t % 16 = 15 ∧ (a.t % 16 == 15) = true) ∨ (¬ a.t % 16 = 15 ∧ (a.t % 16 == 15) = false) := by by_cases h : a.t % 16 = 15 <;> simp [h]
        have h7 : 0 ≤ a.tk.b ∧ a.tk.b ≤ 1 := by simp only [ApuD.tk]; repeat' split <;> omega
        obtain ⟨h7, h8⟩ := h7
        have h9 : 0 ≤ a.tk.l := by simp only [ApuD.tk]; split <;> first | omega | (rename_i h; have := (ApuD.beat_t h).2; omega)
        have h10 : (a.tk.l = 0 ∧ (a.tk.l == 0) = true) ∨ (0 < a.tk.l ∧ (a.tk.l == 0) = false) := by by_cases h : a.tk.l = 0 <;> simp [h] <;> omega
        have ht : a.tk.t = a.t + 1 := rfl
        rcases h6 with ⟨h11, h12⟩ | ⟨h11, h12⟩
        · rcases h10 with ⟨h13, h14⟩ | ⟨h13, h14⟩
          all_goals
            go_wp2_with (first | ((with_reducible refine g_load rfl ?_); refine eL1 H ?_) | ((with_reducible refine g_store rfl ?_); (first | refine eSi H ?_ | refine eSb H ?_); clear H; intro W_ H))
            all_goals (refine' back2 Tryz.results202 ?_ ?_ rfl ⟨?_, H⟩; rotate_left 2; exact rvA; exact rvA; simp [ApuD.smp, ApuD.told, *])
        · go_wp2_with (first | ((with_reducible refine g_load rfl ?_); refine eL1 H ?_) | ((with_reducible refine g_store rfl ?_); (first | refine eSi H ?_ | refine eSb H ?_); clear H; intro W_ H))
          all_goals (refine' back2 Tryz.results202 ?_ ?_ rfl ⟨?_, H⟩; rotate_left 2; exact rvA; exact rvA; simp [ApuD.smp, ApuD.told, *])

def LockD.tickR (l : LockD) : LockD := ⟨l.img, l.pads, l.mem, l.cpu, l.ppu.tk, l.apu.tk, l.pad, l.nmi || l.ppu.asks, l.steps, ⟨if l.ppu.told = true then l.obs.frames ++ [l.ppu.frame] else l.obs.frames, if l.apu.told = true then l.obs.samples ++ [l.apu.smp] else l.obs.samples, l.obs.reads⟩⟩
set_option maxHeartbeats 16000000 in
theorem impl_ltick (l : LockD) (q : LockP) (g : Nat) (w : World) (hH : Hol w [Ast.blk g [.slice q.img.banks.s.A l.img.banks.length q.img.banks.s.c, .slice q.pads.A l.pads.length q.pads.c, .slice q.mem.ram.A l.mem.ram.length q.mem.ram.c, .int .i64 l.mem.bank, .int .i64 l.cpu.a, .int .i64 l.cpu.x, .int .i64 l.cpu.s, .int .i64 l.cpu.pc, .bool l.cpu.z, .bool l.cpu.n, .bool l.cpu.c, .bool l.cpu.i, .int .i64 l.ppu.t, .int .i64 l.ppu.ctrl, .int .i64 l.ppu.scroll, .int .i64 l.ppu.addr, .int .i64 l.ppu.pal, .bool l.ppu.blank, .slice q.ppu.table.A l.ppu.table.length q.ppu.table.c, .slice q.ppu.dots.A l.ppu.dots.length q.ppu.dots.c, .int .i64 l.apu.t, .int .i64 l.apu.p, .int .i64 l.apu.c, .int .i64 l.apu.b, .int .i64 l.apu.l, .bool l.apu.k, .bool l.apu.i, .bool l.pad.h, .int .i64 l.pad.s, .bool l.nmi, .int .i64 l.steps, .slice q.obs.frames.s.A l.obs.frames.length q.obs.frames.s.c, .slice q.obs.samples.A l.obs.samples.length q.obs.samples.c, .slice q.obs.reads.A l.obs.reads.length q.obs.reads.c] 49, frA q.img.banks l.img.banks, intsA q.pads l.pads, intsA q.mem.ram l.mem.ram, intsA q.ppu.table l.ppu.table, intsA q.ppu.dots l.ppu.dots, frA q.obs.frames l.obs.frames, intsA q.obs.samples l.obs.samples, intsA q.obs.reads l.obs.reads]) (hp : l.ppu.ok = true) (ha : l.apu.ok = true) (hfr : l.obs.frames.length ≤ 1000) (hsm : l.obs.samples.length ≤ 10000) : Calls Tryz.prog 146 #[.pointer (some ⟨g, 0, none⟩)] w fun e w' => e = .returned (.tuple #[]) ∧ ∃ q' : LockP, St w ([Ast.blk g [.slice q.img.banks.s.A l.img.banks.length q.img.banks.s.c, .slice q.pads.A l.pads.length q.pads.c, .slice q.mem.ram.A l.mem.ram.length q.mem.ram.c, .int .i64 l.mem.bank, .int .i64 l.cpu.a, .int .i64 l.cpu.x, .int .i64 l.cpu.s, .int .i64 l.cpu.pc, .bool l.cpu.z, .bool l.cpu.n, .bool l.cpu.c, .bool l.cpu.i, .int .i64 l.ppu.t, .int .i64 l.ppu.ctrl, .int .i64 l.ppu.scroll, .int .i64 l.ppu.addr, .int .i64 l.ppu.pal, .bool l.ppu.blank, .slice q.ppu.table.A l.ppu.table.length q.ppu.table.c, .slice q.ppu.dots.A l.ppu.dots.length q.ppu.dots.c, .int .i64 l.apu.t, .int .i64 l.apu.p, .int .i64 l.apu.c, .int .i64 l.apu.b, .int .i64 l.apu.l, .bool l.apu.k, .bool l.apu.i, .bool l.pad.h, .int .i64 l.pad.s, .bool l.nmi, .int .i64 l.steps, .slice q.obs.frames.s.A l.obs.frames.length q.obs.frames.s.c, .slice q.obs.samples.A l.obs.samples.length q.obs.samples.c, .slice q.obs.reads.A l.obs.reads.length q.obs.reads.c] 49, frA q.img.banks l.img.banks, intsA q.pads l.pads, intsA q.mem.ram l.mem.ram, intsA q.ppu.table l.ppu.table, intsA q.ppu.dots l.ppu.dots, frA q.obs.frames l.obs.frames, intsA q.obs.samples l.obs.samples, intsA q.obs.reads l.obs.reads].flatMap Ast.fp) w' [Ast.blk g [.slice q'.img.banks.s.A l.tickR.img.banks.length q'.img.banks.s.c, .slice q'.pads.A l.tickR.pads.length q'.pads.c, .slice q'.mem.ram.A l.tickR.mem.ram.length q'.mem.ram.c, .int .i64 l.tickR.mem.bank, .int .i64 l.tickR.cpu.a, .int .i64 l.tickR.cpu.x, .int .i64 l.tickR.cpu.s, .int .i64 l.tickR.cpu.pc, .bool l.tickR.cpu.z, .bool l.tickR.cpu.n, .bool l.tickR.cpu.c, .bool l.tickR.cpu.i, .int .i64 l.tickR.ppu.t, .int .i64 l.tickR.ppu.ctrl, .int .i64 l.tickR.ppu.scroll, .int .i64 l.tickR.ppu.addr, .int .i64 l.tickR.ppu.pal, .bool l.tickR.ppu.blank, .slice q'.ppu.table.A l.tickR.ppu.table.length q'.ppu.table.c, .slice q'.ppu.dots.A l.tickR.ppu.dots.length q'.ppu.dots.c, .int .i64 l.tickR.apu.t, .int .i64 l.tickR.apu.p, .int .i64 l.tickR.apu.c, .int .i64 l.tickR.apu.b, .int .i64 l.tickR.apu.l, .bool l.tickR.apu.k, .bool l.tickR.apu.i, .bool l.tickR.pad.h, .int .i64 l.tickR.pad.s, .bool l.tickR.nmi, .int .i64 l.tickR.steps, .slice q'.obs.frames.s.A l.tickR.obs.frames.length q'.obs.frames.s.c, .slice q'.obs.samples.A l.tickR.obs.samples.length q'.obs.samples.c, .slice q'.obs.reads.A l.tickR.obs.reads.length q'.obs.reads.c] 49, frA q'.img.banks l.tickR.img.banks, intsA q'.pads l.tickR.pads, intsA q'.mem.ram l.tickR.mem.ram, intsA q'.ppu.table l.tickR.ppu.table, intsA q'.ppu.dots l.tickR.ppu.dots, frA q'.obs.frames l.tickR.obs.frames, intsA q'.obs.samples l.tickR.obs.samples, intsA q'.obs.reads l.tickR.obs.reads] := by
  have H := hH.st
  generalize hF : List.flatMap Ast.fp _ = F at H ⊢
  clear hF hH
  obtain ⟨img, pads, mem, cpu, ppu, apu, pad, nmi, steps, ⟨frames, samples, reads⟩⟩ := l
  simp only at H hp ha hfr hsm
  have HR := Lib.hid (frA_len (H.get (x := frA q.obs.frames frames) pkA))
  cases nmi
  case false =>
    cases ht : ppu.told
    case false =>
      have HT := Lib.hid ht
      clear ht
      cases hs : apu.told
      case false =>
        have HA := Lib.hid hs
        clear hs
        have hz : (LockD.mk img pads mem cpu ppu apu pad false steps ⟨frames, samples, reads⟩).tickR = (LockD.mk img pads mem cpu ppu.tk apu.tk pad ppu.asks steps ⟨frames, samples, reads⟩) := by simp [LockD.tickR, HT.out, HA.out]
        rw [hz]
        clear hz
        go_enter Tryz.func146, Tryz.ntmps146
        go_wp2_with (first | (go_at_call 201; (with_reducible refine (impl_tick_L ppu q.ppu _ _ _ _ _ _ _ _ _ _ _ _ _ _ _ _ _ _ _ _ _ _ _ _ _ _ g _ (St.holL (H.picks (xs := [Ast.blk g _ _, intsA q.ppu.table ppu.table, intsA q.ppu.dots ppu.dots]) pksA)) hp).mono ?_); rintro e w1 ⟨qd, qf, rfl, kk⟩; rw [HT.out]; replace H := St.uN (H.picks (xs := [Ast.blk g _ _, intsA q.ppu.table ppu.table, intsA q.ppu.dots ppu.dots]) pksA) kk; clear kk) | (go_at_call 202; (with_reducible refine (impl_atick_L apu _ _ _ _ _ _ _ _ _ _ _ _ _ _ _ _ _ _ _ _ _ _ _ _ _ _ _ g _ ha (St.holL (H.picks (xs := [Ast.blk g _ _]) pksA))).mono ?_); rintro e w1 ⟨rfl, kk⟩; rw [HA.out]; have H_ := (H.picks (xs := [Ast.blk g _ _]) pksA).up1 kk (fun b hb => hb); simp only [List.append_eq, List.cons_append, List.nil_append] at H_; (clear H; have H := H_; clear H_); clear kk) | ((with_reducible refine g_load rfl ?_); refine eL1 H ?_) | ((with_reducible refine g_store rfl ?_); (first | refine eSb H ?_ | refine eSs H ?_); clear H; intro W_ H))
        all_goals
          rw [← PpuD.tk_table ppu] at H
          have H_ := H.take (xs := [Ast.blk g _ _, frA (LockP.mk q.img q.pads q.mem ⟨q.ppu.table, qd⟩ ⟨q.obs.frames, q.obs.samples, q.obs.reads⟩).img.banks (LockD.mk img pads mem cpu ppu.tk apu.tk pad ppu.asks steps ⟨frames, samples, reads⟩).img.banks, intsA (LockP.mk q.img q.pads q.mem ⟨q.ppu.table, qd⟩ ⟨q.obs.frames, q.obs.samples, q.obs.reads⟩).pads (LockD.mk img pads mem cpu ppu.tk apu.tk pad ppu.asks steps ⟨frames, samples, reads⟩).pads, intsA (LockP.mk q.img q.pads q.mem ⟨q.ppu.table, qd⟩ ⟨q.obs.frames, q.obs.samples, q.obs.reads⟩).mem.ram (LockD.mk img pads mem cpu ppu.tk apu.tk pad ppu.asks steps ⟨frames, samples, reads⟩).mem.ram, intsA (LockP.mk q.img q.pads q.mem ⟨q.ppu.table, qd⟩ ⟨q.obs.frames, q.obs.samples, q.obs.reads⟩).ppu.table (LockD.mk img pads mem cpu ppu.tk apu.tk pad ppu.asks steps ⟨frames, samples, reads⟩).ppu.table, intsA (LockP.mk q.img q.pads q.mem ⟨q.ppu.table, qd⟩ ⟨q.obs.frames, q.obs.samples, q.obs.reads⟩).ppu.dots (LockD.mk img pads mem cpu ppu.tk apu.tk pad ppu.asks steps ⟨frames, samples, reads⟩).ppu.dots, frA (LockP.mk q.img q.pads q.mem ⟨q.ppu.table, qd⟩ ⟨q.obs.frames, q.obs.samples, q.obs.reads⟩).obs.frames (LockD.mk img pads mem cpu ppu.tk apu.tk pad ppu.asks steps ⟨frames, samples, reads⟩).obs.frames, intsA (LockP.mk q.img q.pads q.mem ⟨q.ppu.table, qd⟩ ⟨q.obs.frames, q.obs.samples, q.obs.reads⟩).obs.samples (LockD.mk img pads mem cpu ppu.tk apu.tk pad ppu.asks steps ⟨frames, samples, reads⟩).obs.samples, intsA (LockP.mk q.img q.pads q.mem ⟨q.ppu.table, qd⟩ ⟨q.obs.frames, q.obs.samples, q.obs.reads⟩).obs.reads (LockD.mk img pads mem cpu ppu.tk apu.tk pad ppu.asks steps ⟨frames, samples, reads⟩).obs.reads]) pksA
          go_end0
          exact ⟨rfl, (LockP.mk q.img q.pads q.mem ⟨q.ppu.table, qd⟩ ⟨q.obs.frames, q.obs.samples, q.obs.reads⟩), H_⟩
      case true =>
        have HA := Lib.hid hs
        clear hs
        obtain ⟨ss, HX⟩ : ∃ ss : List Int, Hid (ss = samples ++ [apu.smp]) := ⟨_, Lib.hid rfl⟩
        have hz : (LockD.mk img pads mem cpu ppu apu pad false steps ⟨frames, samples, reads⟩).tickR = (LockD.mk img pads mem cpu ppu.tk apu.tk pad ppu.asks steps ⟨frames, ss, reads⟩) := by rw [HX.out]; simp [LockD.tickR, HT.out, HA.out]
        rw [hz]
        clear hz
        go_enter Tryz.func146, Tryz.ntmps146
        go_wp2_with (first | (go_at_call 201; (with_reducible refine (impl_tick_L ppu q.ppu _ _ _ _ _ _ _ _ _ _ _ _ _ _ _ _ _ _ _ _ _ _ _ _ _ _ g _ (St.holL (H.picks (xs := [Ast.blk g _ _, intsA q.ppu.table ppu.table, intsA q.ppu.dots ppu.dots]) pksA)) hp).mono ?_); rintro e w1 ⟨qd, qf, rfl, kk⟩; rw [HT.out]; replace H := St.uN (H.picks (xs := [Ast.blk g _ _, intsA q.ppu.table ppu.table, intsA q.ppu.dots ppu.dots]) pksA) kk; clear kk) | (go_at_call 202; (with_reducible refine (impl_atick_L apu _ _ _ _ _ _ _ _ _ _ _ _ _ _ _ _ _ _ _ _ _ _ _ _ _ _ _ g _ ha (St.holL (H.picks (xs := [Ast.blk g _ _]) pksA))).mono ?_); rintro e w1 ⟨rfl, kk⟩; rw [HA.out]; have H_ := (H.picks (xs := [Ast.blk g _ _]) pksA).up1 kk (fun b hb => hb); simp only [List.append_eq, List.cons_append, List.nil_append] at H_; (clear H; have H := H_; clear H_); clear kk) | ((with_reducible refine g_buildSlice rfl ?_); refine ev_buildSlice1 (v := .int .i64 _) H rfl rfl rfl Tryz.underlying25 info_int (fill_int _) rfl (by decide) (by decide) (by decide) ?_; intro g_ W_ H_; (clear H; have H := H_; clear H_)) | ((with_reducible refine g_append rfl ?_); refine ev_appendN (xs := nums samples) (news := [.int .i64 apu.smp]) (N := ss.length) (cs' := nums ss) H rfl rfl Tryz.underlying25 info_int rfl (by decide) rfl rfl pkA (own_in (H.get pkA)) (fun h => by cases h) rfl rfl (by omega) (by unfold maxLen; omega) (by rw [HX.out]; simp) (by rw [HX.out]; simp [nums]) ?_; intro As_ cs_ W_ H_; (clear H; have H := H_; clear H_)) | ((with_reducible refine g_load rfl ?_); refine eL1 H ?_) | ((with_reducible refine g_store rfl ?_); (first | refine eSb H ?_ | refine eSs H ?_); clear H; intro W_ H))
        all_goals
          rw [← PpuD.tk_table ppu] at H
          have H_ := H.take (xs := [Ast.blk g _ _, frA (LockP.mk q.img q.pads q.mem ⟨q.ppu.table, qd⟩ ⟨q.obs.frames, ⟨As_, cs_⟩, q.obs.reads⟩).img.banks (LockD.mk img pads mem cpu ppu.tk apu.tk pad ppu.asks steps ⟨frames, ss, reads⟩).img.banks, intsA (LockP.mk q.img q.pads q.mem ⟨q.ppu.table, qd⟩ ⟨q.obs.frames, ⟨As_, cs_⟩, q.obs.reads⟩).pads (LockD.mk img pads mem cpu ppu.tk apu.tk pad ppu.asks steps ⟨frames, ss, reads⟩).pads, intsA (LockP.mk q.img q.pads q.mem ⟨q.ppu.table, qd⟩ ⟨q.obs.frames, ⟨As_, cs_⟩, q.obs.reads⟩).mem.ram (LockD.mk img pads mem cpu ppu.tk apu.tk pad ppu.asks steps ⟨frames, ss, reads⟩).mem.ram, intsA (LockP.mk q.img q.pads q.mem ⟨q.ppu.table, qd⟩ ⟨q.obs.frames, ⟨As_, cs_⟩, q.obs.reads⟩).ppu.table (LockD.mk img pads mem cpu ppu.tk apu.tk pad ppu.asks steps ⟨frames, ss, reads⟩).ppu.table, intsA (LockP.mk q.img q.pads q.mem ⟨q.ppu.table, qd⟩ ⟨q.obs.frames, ⟨As_, cs_⟩, q.obs.reads⟩).ppu.dots (LockD.mk img pads mem cpu ppu.tk apu.tk pad ppu.asks steps ⟨frames, ss, reads⟩).ppu.dots, frA (LockP.mk q.img q.pads q.mem ⟨q.ppu.table, qd⟩ ⟨q.obs.frames, ⟨As_, cs_⟩, q.obs.reads⟩).obs.frames (LockD.mk img pads mem cpu ppu.tk apu.tk pad ppu.asks steps ⟨frames, ss, reads⟩).obs.frames, intsA (LockP.mk q.img q.pads q.mem ⟨q.ppu.table, qd⟩ ⟨q.obs.frames, ⟨As_, cs_⟩, q.obs.reads⟩).obs.samples (LockD.mk img pads mem cpu ppu.tk apu.tk pad ppu.asks steps ⟨frames, ss, reads⟩).obs.samples, intsA (LockP.mk q.img q.pads q.mem ⟨q.ppu.table, qd⟩ ⟨q.obs.frames, ⟨As_, cs_⟩, q.obs.reads⟩).obs.reads (LockD.mk img pads mem cpu ppu.tk apu.tk pad ppu.asks steps ⟨frames, ss, reads⟩).obs.reads]) pksA
          go_end0
          exact ⟨rfl, (LockP.mk q.img q.pads q.mem ⟨q.ppu.table, qd⟩ ⟨q.obs.frames, ⟨As_, cs_⟩, q.obs.reads⟩), H_⟩
    case true =>
      have HT := Lib.hid ht
      clear ht
      cases hs : apu.told
      case false =>
        have HA := Lib.hid hs
        clear hs
        obtain ⟨ff, HS⟩ : ∃ ff : List (List Int), Hid (ff = frames ++ [ppu.frame]) := ⟨_, Lib.hid rfl⟩
        have hz : (LockD.mk img pads mem cpu ppu apu pad false steps ⟨frames, samples, reads⟩).tickR = (LockD.mk img pads mem cpu ppu.tk apu.tk pad ppu.asks steps ⟨ff, samples, reads⟩) := by rw [HS.out]; simp [LockD.tickR, HT.out, HA.out]
        rw [hz]
        clear hz
        have H_ := St.frOpen (q := q.obs.frames) (fs := frames) H pkA
        simp only [List.cons_append, List.nil_append] at H_
        (clear H; have H := H_; clear H_)
        go_enter Tryz.func146, Tryz.ntmps146
        go_wp2_with (first | (go_at_call 201; (with_reducible refine (impl_tick_L ppu q.ppu _ _ _ _ _ _ _ _ _ _ _ _ _ _ _ _ _ _ _ _ _ _ _ _ _ _ g _ (St.holL (H.picks (xs := [Ast.blk g _ _, intsA q.ppu.table ppu.table, intsA q.ppu.dots ppu.dots]) pksA)) hp).mono ?_); rintro e w1 ⟨qd, qf, rfl, kk⟩; rw [HT.out]; replace H := St.uN (H.picks (xs := [Ast.blk g _ _, intsA q.ppu.table ppu.table, intsA q.ppu.dots ppu.dots]) pksA) kk; clear kk) | (go_at_call 202; (with_reducible refine (impl_atick_L apu _ _ _ _ _ _ _ _ _ _ _ _ _ _ _ _ _ _ _ _ _ _ _ _ _ _ _ g _ ha (St.holL (H.picks (xs := [Ast.blk g _ _]) pksA))).mono ?_); rintro e w1 ⟨rfl, kk⟩; rw [HA.out]; have H_ := (H.picks (xs := [Ast.blk g _ _]) pksA).up1 kk (fun b hb => hb); simp only [List.append_eq, List.cons_append, List.nil_append] at H_; (clear H; have H := H_; clear H_); clear kk) | ((with_reducible refine g_buildSlice rfl ?_); refine ev_buildSlice1 (v := .slice _ _ _) H rfl rfl rfl Tryz.underlying22 info_ints (fill_sl _ _ _) rfl (by decide) (by decide) (by decide) ?_; intro g_ W_ H_; (clear H; have H := H_; clear H_)) | ((with_reducible refine g_append rfl ?_); refine ev_appendN (xs := rowVals frames _) (news := [.slice qf.A ppu.frame.length qf.c]) (N := ff.length) (cs' := rowVals ff (_ ++ [qf])) H rfl rfl Tryz.underlying22 info_ints rfl (by decide) rfl rfl pkA (own_in (H.get pkA)) (fun h => by cases h) rfl rfl (by omega) (by unfold maxLen; omega) (by rw [HS.out]; simp) (by rw [HS.out]; exact rowVals_more HR.out) ?_; intro A_ c_ W_ H_; (clear H; have H := H_; clear H_)) | ((with_reducible refine g_load rfl ?_); refine eL1 H ?_) | ((with_reducible refine g_store rfl ?_); (first | refine eSb H ?_ | refine eSs H ?_); clear H; intro W_ H))
        all_goals
          rw [← PpuD.tk_table ppu] at H
          have H_ := St.frMore (fr := ppu.frame) (qf := qf) (qs := q.obs.frames.r) (A := A_) (c := c_) H HR.out HS.out pksA
          (clear H; have H := H_; clear H_)
          have H_ := H.take (xs := [Ast.blk g _ _, frA (LockP.mk q.img q.pads q.mem ⟨q.ppu.table, qd⟩ ⟨⟨⟨A_, c_⟩, q.obs.frames.r ++ [qf]⟩, q.obs.samples, q.obs.reads⟩).img.banks (LockD.mk img pads mem cpu ppu.tk apu.tk pad ppu.asks steps ⟨ff, samples, reads⟩).img.banks, intsA (LockP.mk q.img q.pads q.mem ⟨q.ppu.table, qd⟩ ⟨⟨⟨A_, c_⟩, q.obs.frames.r ++ [qf]⟩, q.obs.samples, q.obs.reads⟩).pads (LockD.mk img pads mem cpu ppu.tk apu.tk pad ppu.asks steps ⟨ff, samples, reads⟩).pads, intsA (LockP.mk q.img q.pads q.mem ⟨q.ppu.table, qd⟩ ⟨⟨⟨A_, c_⟩, q.obs.frames.r ++ [qf]⟩, q.obs.samples, q.obs.reads⟩).mem.ram (LockD.mk img pads mem cpu ppu.tk apu.tk pad ppu.asks steps ⟨ff, samples, reads⟩).mem.ram, intsA (LockP.mk q.img q.pads q.mem ⟨q.ppu.table, qd⟩ ⟨⟨⟨A_, c_⟩, q.obs.frames.r ++ [qf]⟩, q.obs.samples, q.obs.reads⟩).ppu.table (LockD.mk img pads mem cpu ppu.tk apu.tk pad ppu.asks steps ⟨ff, samples, reads⟩).ppu.table, intsA (LockP.mk q.img q.pads q.mem ⟨q.ppu.table, qd⟩ ⟨⟨⟨A_, c_⟩, q.obs.frames.r ++ [qf]⟩, q.obs.samples, q.obs.reads⟩).ppu.dots (LockD.mk img pads mem cpu ppu.tk apu.tk pad ppu.asks steps ⟨ff, samples, reads⟩).ppu.dots, frA (LockP.mk q.img q.pads q.mem ⟨q.ppu.table, qd⟩ ⟨⟨⟨A_, c_⟩, q.obs.frames.r ++ [qf]⟩, q.obs.samples, q.obs.reads⟩).obs.frames (LockD.mk img pads mem cpu ppu.tk apu.tk pad ppu.asks steps ⟨ff, samples, reads⟩).obs.frames, intsA (LockP.mk q.img q.pads q.mem ⟨q.ppu.table, qd⟩ ⟨⟨⟨A_, c_⟩, q.obs.frames.r ++ [qf]⟩, q.obs.samples, q.obs.reads⟩).obs.samples (LockD.mk img pads mem cpu ppu.tk apu.tk pad ppu.asks steps ⟨ff, samples, reads⟩).obs.samples, intsA (LockP.mk q.img q.pads q.mem ⟨q.ppu.table, qd⟩ ⟨⟨⟨A_, c_⟩, q.obs.frames.r ++ [qf]⟩, q.obs.samples, q.obs.reads⟩).obs.reads (LockD.mk img pads mem cpu ppu.tk apu.tk pad ppu.asks steps ⟨ff, samples, reads⟩).obs.reads]) pksA
          go_end0
          exact ⟨rfl, (LockP.mk q.img q.pads q.mem ⟨q.ppu.table, qd⟩ ⟨⟨⟨A_, c_⟩, q.obs.frames.r ++ [qf]⟩, q.obs.samples, q.obs.reads⟩), H_⟩
      case true =>
        have HA := Lib.hid hs
        clear hs
        obtain ⟨ff, HS⟩ : ∃ ff : List (List Int), Hid (ff = frames ++ [ppu.frame]) := ⟨_, Lib.hid rfl⟩
        obtain ⟨ss, HX⟩ : ∃ ss : List Int, Hid (ss = samples ++ [apu.smp]) := ⟨_, Lib.hid rfl⟩
        have hz : (LockD.mk img pads mem cpu ppu apu pad false steps ⟨frames, samples, reads⟩).tickR = (LockD.mk img pads mem cpu ppu.tk apu.tk pad ppu.asks steps ⟨ff, ss, reads⟩) := by rw [HS.out]; rw [HX.out]; simp [LockD.tickR, HT.out, HA.out]
        rw [hz]
        clear hz
        have H_ := St.frOpen (q := q.obs.frames) (fs := frames) H pkA
        simp only [List.cons_append, List.nil_append] at H_
        (clear H; have H := H_; clear H_)
        go_enter Tryz.func146, Tryz.ntmps146
        go_wp2_with (first | (go_at_call 201; (with_reducible refine (impl_tick_L ppu q.ppu _ _ _ _ _ _ _ _ _ _ _ _ _ _ _ _ _ _ _ _ _ _ _ _ _ _ g _ (St.holL (H.picks (xs := [Ast.blk g _ _, intsA q.ppu.table ppu.table, intsA q.ppu.dots ppu.dots]) pksA)) hp).mono ?_); rintro e w1 ⟨qd, qf, rfl, kk⟩; rw [HT.out]; replace H := St.uN (H.picks (xs := [Ast.blk g _ _, intsA q.ppu.table ppu.table, intsA q.ppu.dots ppu.dots]) pksA) kk; clear kk) | (go_at_call 202; (with_reducible refine (impl_atick_L apu _ _ _ _ _ _ _ _ _ _ _ _ _ _ _ _ _ _ _ _ _ _ _ _ _ _ _ g _ ha (St.holL (H.picks (xs := [Ast.blk g _ _]) pksA))).mono ?_); rintro e w1 ⟨rfl, kk⟩; rw [HA.out]; have H_ := (H.picks (xs := [Ast.blk g _ _]) pksA).up1 kk (fun b hb => hb); simp only [List.append_eq, List.cons_append, List.nil_append] at H_; (clear H; have H := H_; clear H_); clear kk) | ((with_reducible refine g_buildSlice rfl ?_); refine ev_buildSlice1 (v := .slice _ _ _) H rfl rfl rfl Tryz.underlying22 info_ints (fill_sl _ _ _) rfl (by decide) (by decide) (by decide) ?_; intro g_ W_ H_; (clear H; have H := H_; clear H_)) | ((with_reducible refine g_append rfl ?_); refine ev_appendN (xs := rowVals frames _) (news := [.slice qf.A ppu.frame.length qf.c]) (N := ff.length) (cs' := rowVals ff (_ ++ [qf])) H rfl rfl Tryz.underlying22 info_ints rfl (by decide) rfl rfl pkA (own_in (H.get pkA)) (fun h => by cases h) rfl rfl (by omega) (by unfold maxLen; omega) (by rw [HS.out]; simp) (by rw [HS.out]; exact rowVals_more HR.out) ?_; intro A_ c_ W_ H_; (clear H; have H := H_; clear H_)) | ((with_reducible refine g_buildSlice rfl ?_); refine ev_buildSlice1 (v := .int .i64 _) H rfl rfl rfl Tryz.underlying25 info_int (fill_int _) rfl (by decide) (by decide) (by decide) ?_; intro g_ W_ H_; (clear H; have H := H_; clear H_)) | ((with_reducible refine g_append rfl ?_); refine ev_appendN (xs := nums samples) (news := [.int .i64 apu.smp]) (N := ss.length) (cs' := nums ss) H rfl rfl Tryz.underlying25 info_int rfl (by decide) rfl rfl pkA (own_in (H.get pkA)) (fun h => by cases h) rfl rfl (by omega) (by unfold maxLen; omega) (by rw [HX.out]; simp) (by rw [HX.out]; simp [nums]) ?_; intro As_ cs_ W_ H_; (clear H; have H := H_; clear H_)) | ((with_reducible refine g_load rfl ?_); refine eL1 H ?_) | ((with_reducible refine g_store rfl ?_); (first | refine eSb H ?_ | refine eSs H ?_); clear H; intro W_ H))
        all_goals
          rw [← PpuD.tk_table ppu] at H
          have H_ := St.frMore (fr := ppu.frame) (qf := qf) (qs := q.obs.frames.r) (A := A_) (c := c_) H HR.out HS.out pksA
          (clear H; have H := H_; clear H_)
          have H_ := H.take (xs := [Ast.blk g _ _, frA (LockP.mk q.img q.pads q.mem ⟨q.ppu.table, qd⟩ ⟨⟨⟨A_, c_⟩, q.obs.frames.r ++ [qf]⟩, ⟨As_, cs_⟩, q.obs.reads⟩).img.banks (LockD.mk img pads mem cpu ppu.tk apu.tk pad ppu.asks steps ⟨ff, ss, reads⟩).img.banks, intsA (LockP.mk q.img q.pads q.mem ⟨q.ppu.table, qd⟩ ⟨⟨⟨A_, c_⟩, q.obs.frames.r ++ [qf]⟩, ⟨As_, cs_⟩, q.obs.reads⟩).pads (LockD.mk img pads mem cpu ppu.tk apu.tk pad ppu.asks steps ⟨ff, ss, reads⟩).pads, intsA (LockP.mk q.img q.pads q.mem ⟨q.ppu.table, qd⟩ ⟨⟨⟨A_, c_⟩, q.obs.frames.r ++ [qf]⟩, ⟨As_, cs_⟩, q.obs.reads⟩).mem.ram (LockD.mk img pads mem cpu ppu.tk apu.tk pad ppu.asks steps ⟨ff, ss, reads⟩).mem.ram, intsA (LockP.mk q.img q.pads q.mem ⟨q.ppu.table, qd⟩ ⟨⟨⟨A_, c_⟩, q.obs.frames.r ++ [qf]⟩, ⟨As_, cs_⟩, q.obs.reads⟩).ppu.table (LockD.mk img pads mem cpu ppu.tk apu.tk pad ppu.asks steps ⟨ff, ss, reads⟩).ppu.table, intsA (LockP.mk q.img q.pads q.mem ⟨q.ppu.table, qd⟩ ⟨⟨⟨A_, c_⟩, q.obs.frames.r ++ [qf]⟩, ⟨As_, cs_⟩, q.obs.reads⟩).ppu.dots (LockD.mk img pads mem cpu ppu.tk apu.tk pad ppu.asks steps ⟨ff, ss, reads⟩).ppu.dots, frA (LockP.mk q.img q.pads q.mem ⟨q.ppu.table, qd⟩ ⟨⟨⟨A_, c_⟩, q.obs.frames.r ++ [qf]⟩, ⟨As_, cs_⟩, q.obs.reads⟩).obs.frames (LockD.mk img pads mem cpu ppu.tk apu.tk pad ppu.asks steps ⟨ff, ss, reads⟩).obs.frames, intsA (LockP.mk q.img q.pads q.mem ⟨q.ppu.table, qd⟩ ⟨⟨⟨A_, c_⟩, q.obs.frames.r ++ [qf]⟩, ⟨As_, cs_⟩, q.obs.reads⟩).obs.samples (LockD.mk img pads mem cpu ppu.tk apu.tk pad ppu.asks steps ⟨ff, ss, reads⟩).obs.samples, intsA (LockP.mk q.img q.pads q.mem ⟨q.ppu.table, qd⟩ ⟨⟨⟨A_, c_⟩, q.obs.frames.r ++ [qf]⟩, ⟨As_, cs_⟩, q.obs.reads⟩).obs.reads (LockD.mk img pads mem cpu ppu.tk apu.tk pad ppu.asks steps ⟨ff, ss, reads⟩).obs.reads]) pksA
          go_end0
          exact ⟨rfl, (LockP.mk q.img q.pads q.mem ⟨q.ppu.table, qd⟩ ⟨⟨⟨A_, c_⟩, q.obs.frames.r ++ [qf]⟩, ⟨As_, cs_⟩, q.obs.reads⟩), H_⟩
  case true =>
    cases ht : ppu.told
    case false =>
      have HT := Lib.hid ht
      clear ht
      cases hs : apu.told
      case false =>
        have HA := Lib.hid hs
        clear hs
        have hz : (LockD.mk img pads mem cpu ppu apu pad true steps ⟨frames, samples, reads⟩).tickR = (LockD.mk img pads mem cpu ppu.tk apu.tk pad true steps ⟨frames, samples, reads⟩) := by simp [LockD.tickR, HT.out, HA.out]
        rw [hz]
        clear hz
        go_enter Tryz.func146, Tryz.ntmps146
        go_wp2_with (first | (go_at_call 201; (with_reducible refine (impl_tick_L ppu q.ppu _ _ _ _ _ _ _ _ _ _ _ _ _ _ _ _ _ _ _ _ _ _ _ _ _ _ g _ (St.holL (H.picks (xs := [Ast.blk g _ _, intsA q.ppu.table ppu.table, intsA q.ppu.dots ppu.dots]) pksA)) hp).mono ?_); rintro e w1 ⟨qd, qf, rfl, kk⟩; rw [HT.out]; replace H := St.uN (H.picks (xs := [Ast.blk g _ _, intsA q.ppu.table ppu.table, intsA q.ppu.dots ppu.dots]) pksA) kk; clear kk) | (go_at_call 202; (with_reducible refine (impl_atick_L apu _ _ _ _ _ _ _ _ _ _ _ _ _ _ _ _ _ _ _ _ _ _ _ _ _ _ _ g _ ha (St.holL (H.picks (xs := [Ast.blk g _ _]) pksA))).mono ?_); rintro e w1 ⟨rfl, kk⟩; rw [HA.out]; have H_ := (H.picks (xs := [Ast.blk g _ _]) pksA).up1 kk (fun b hb => hb); simp only [List.append_eq, List.cons_append, List.nil_append] at H_; (clear H; have H := H_; clear H_); clear kk) | ((with_reducible refine g_load rfl ?_); refine eL1 H ?_) | ((with_reducible refine g_store rfl ?_); (first | refine eSb H ?_ | refine eSs H ?_); clear H; intro W_ H))
        all_goals
          rw [← PpuD.tk_table ppu] at H
          have H_ := H.take (xs := [Ast.blk g _ _, frA (LockP.mk q.img q.pads q.mem ⟨q.ppu.table, qd⟩ ⟨q.obs.frames, q.obs.samples, q.obs.reads⟩).img.banks (LockD.mk img pads mem cpu ppu.tk apu.tk pad true steps ⟨frames, samples, reads⟩).img.banks, intsA (LockP.mk q.img q.pads q.mem ⟨q.ppu.table, qd⟩ ⟨q.obs.frames, q.obs.samples, q.obs.reads⟩).pads (LockD.mk img pads mem cpu ppu.tk apu.tk pad true steps ⟨frames, samples, reads⟩).pads, intsA (LockP.mk q.img q.pads q.mem ⟨q.ppu.table, qd⟩ ⟨q.obs.frames, q.obs.samples, q.obs.reads⟩).mem.ram (LockD.mk img pads mem cpu ppu.tk apu.tk pad true steps ⟨frames, samples, reads⟩).mem.ram, intsA (LockP.mk q.img q.pads q.mem ⟨q.ppu.table, qd⟩ ⟨q.obs.frames, q.obs.samples, q.obs.reads⟩).ppu.table (LockD.mk img pads mem cpu ppu.tk apu.tk pad true steps ⟨frames, samples, reads⟩).ppu.table, intsA (LockP.mk q.img q.pads q.mem ⟨q.ppu.table, qd⟩ ⟨q.obs.frames, q.obs.samples, q.obs.reads⟩).ppu.dots (LockD.mk img pads mem cpu ppu.tk apu.tk pad true steps ⟨frames, samples, reads⟩).ppu.dots, frA (LockP.mk q.img q.pads q.mem ⟨q.ppu.table, qd⟩ ⟨q.obs.frames, q.obs.samples, q.obs.reads⟩).obs.frames (LockD.mk img pads mem cpu ppu.tk apu.tk pad true steps ⟨frames, samples, reads⟩).obs.frames, intsA (LockP.mk q.img q.pads q.mem ⟨q.ppu.table, qd⟩ ⟨q.obs.frames, q.obs.samples, q.obs.reads⟩).obs.samples (LockD.mk img pads mem cpu ppu.tk apu.tk pad true steps ⟨frames, samples, reads⟩).obs.samples, intsA (LockP.mk q.img q.pads q.mem ⟨q.ppu.table, qd⟩ ⟨q.obs.frames, q.obs.samples, q.obs.reads⟩).obs.reads (LockD.mk img pads mem cpu ppu.tk apu.tk pad true steps ⟨frames, samples, reads⟩).obs.reads]) pksA
          go_end0
          exact ⟨rfl, (LockP.mk q.img q.pads q.mem ⟨q.ppu.table, qd⟩ ⟨q.obs.frames, q.obs.samples, q.obs.reads⟩), H_⟩
      case true =>
        have HA := Lib.hid hs
        clear hs
        obtain ⟨ss, HX⟩ : ∃ ss : List Int, Hid (ss = samples ++ [apu.smp]) := ⟨_, Lib.hid rfl⟩
        have hz : (LockD.mk img pads mem cpu ppu apu pad true steps ⟨frames, samples, reads⟩).tickR = (LockD.mk img pads mem cpu ppu.tk apu.tk pad true steps ⟨frames, ss, reads⟩) := by rw [HX.out]; simp [LockD.tickR, HT.out, HA.out]
        rw [hz]
        clear hz
        go_enter Tryz.func146, Tryz.ntmps146
        go_wp2_with (first | (go_at_call 201; (with_reducible refine (impl_tick_L ppu q.ppu _ _ _ _ _ _ _ _ _ _ _ _ _ _ _ _ _ _ _ _ _ _ _ _ _ _ g _ (St.holL (H.picks (xs := [Ast.blk g _ _, intsA q.ppu.table ppu.table, intsA q.ppu.dots ppu.dots]) pksA)) hp).mono ?_); rintro e w1 ⟨qd, qf, rfl, kk⟩; rw [HT.out]; replace H := St.uN (H.picks (xs := [Ast.blk g _ _, intsA q.ppu.table ppu.table, intsA q.ppu.dots ppu.dots]) pksA) kk; clear kk) | (go_at_call 202; (with_reducible refine (impl_atick_L apu _ _ _ _ _ _ _ _ _ _ _ _ _ _ _ _ _ _ _ _ _ _ _ _ _ _ _ g _ ha (St.holL (H.picks (xs := [Ast.blk g _ _]) pksA))).mono ?_); rintro e w1 ⟨rfl, kk⟩; rw [HA.out]; have H_ := (H.picks (xs := [Ast.blk g _ _]) pksA).up1 kk (fun b hb => hb); simp only [List.append_eq, List.cons_append, List.nil_append] at H_; (clear H; have H := H_; clear H_); clear kk) | ((with_reducible refine g_buildSlice rfl ?_); refine ev_buildSlice1 (v := .int .i64 _) H rfl rfl rfl Tryz.underlying25 info_int (fill_int _) rfl (by decide) (by decide) (by decide) ?_; intro g_ W_ H_; (clear H; have H := H_; clear H_)) | ((with_reducible refine g_append rfl ?_); refine ev_appendN (xs := nums samples) (news := [.int .i64 apu.smp]) (N := ss.length) (cs' := nums ss) H rfl rfl Tryz.underlying25 info_int rfl (by decide) rfl rfl pkA (own_in (H.get pkA)) (fun h => by cases h) rfl rfl (by omega) (by unfold maxLen; omega) (by rw [HX.out]; simp) (by rw [HX.out]; simp [nums]) ?_; intro As_ cs_ W_ H_; (clear H; have H := H_; clear H_)) | ((with_reducible refine g_load rfl ?_); refine eL1 H ?_) | ((with_reducible refine g_store rfl ?_); (first | refine eSb H ?_ | refine eSs H ?_); clear H; intro W_ H))
        all_goals
          rw [← PpuD.tk_table ppu] at H
          have H_ := H.take (xs := [Ast.blk g _ _, frA (LockP.mk q.img q.pads q.mem ⟨q.ppu.table, qd⟩ ⟨q.obs.frames, ⟨As_, cs_⟩, q.obs.reads⟩).img.banks (LockD.mk img pads mem cpu ppu.tk apu.tk pad true steps ⟨frames, ss, reads⟩).img.banks, intsA (LockP.mk q.img q.pads q.mem ⟨q.ppu.table, qd⟩ ⟨q.obs.frames, ⟨As_, cs_⟩, q.obs.reads⟩).pads (LockD.mk img pads mem cpu ppu.tk apu.tk pad true steps ⟨frames, ss, reads⟩).pads, intsA (LockP.mk q.img q.pads q.mem ⟨q.ppu.table, qd⟩ ⟨q.obs.frames, ⟨As_, cs_⟩, q.obs.reads⟩).mem.ram (LockD.mk img pads mem cpu ppu.tk apu.tk pad true steps ⟨frames, ss, reads⟩).mem.ram, intsA (LockP.mk q.img q.pads q.mem ⟨q.ppu.table, qd⟩ ⟨q.obs.frames, ⟨As_, cs_⟩, q.obs.reads⟩).ppu.table (LockD.mk img pads mem cpu ppu.tk apu.tk pad true steps ⟨frames, ss, reads⟩).ppu.table, intsA (LockP.mk q.img q.pads q.mem ⟨q.ppu.table, qd⟩ ⟨q.obs.frames, ⟨As_, cs_⟩, q.obs.reads⟩).ppu.dots (LockD.mk img pads mem cpu ppu.tk apu.tk pad true steps ⟨frames, ss, reads⟩).ppu.dots, frA (LockP.mk q.img q.pads q.mem ⟨q.ppu.table, qd⟩ ⟨q.obs.frames, ⟨As_, cs_⟩, q.obs.reads⟩).obs.frames (LockD.mk img pads mem cpu ppu.tk apu.tk pad true steps ⟨frames, ss, reads⟩).obs.frames, intsA (LockP.mk q.img q.pads q.mem ⟨q.ppu.table, qd⟩ ⟨q.obs.frames, ⟨As_, cs_⟩, q.obs.reads⟩).obs.samples (LockD.mk img pads mem cpu ppu.tk apu.tk pad true steps ⟨frames, ss, reads⟩).obs.samples, intsA (LockP.mk q.img q.pads q.mem ⟨q.ppu.table, qd⟩ ⟨q.obs.frames, ⟨As_, cs_⟩, q.obs.reads⟩).obs.reads (LockD.mk img pads mem cpu ppu.tk apu.tk pad true steps ⟨frames, ss, reads⟩).obs.reads]) pksA
          go_end0
          exact ⟨rfl, (LockP.mk q.img q.pads q.mem ⟨q.ppu.table, qd⟩ ⟨q.obs.frames, ⟨As_, cs_⟩, q.obs.reads⟩), H_⟩
    case true =>
      have HT := Lib.hid ht
      clear ht
      cases hs : apu.told
      case false =>
        have HA := Lib.hid hs
        clear hs
        obtain ⟨ff, HS⟩ : ∃ ff : List (List Int), Hid (ff = frames ++ [ppu.frame]) := ⟨_, Lib.hid rfl⟩
        have hz : (LockD.mk img pads mem cpu ppu apu pad true steps ⟨frames, samples, reads⟩).tickR = (LockD.mk img pads mem cpu ppu.tk apu.tk pad true steps ⟨ff, samples, reads⟩) := by rw [HS.out]; simp [LockD.tickR, HT.out, HA.out]
        rw [hz]
        clear hz
        have H_ := St.frOpen (q := q.obs.frames) (fs := frames) H pkA
        simp only [List.cons_append, List.nil_append] at H_
        (clear H; have H := H_; clear H_)
        go_enter Tryz.func146, Tryz.ntmps146
        go_wp2_with (first | (go_at_call 201; (with_reducible refine (impl_tick_L ppu q.ppu _ _ _ _ _ _ _ _ _ _ _ _ _ _ _ _ _ _ _ _ _ _ _ _ _ _ g _ (St.holL (H.picks (xs := [Ast.blk g _ _, intsA q.ppu.table ppu.table, intsA q.ppu.dots ppu.dots]) pksA)) hp).mono ?_); rintro e w1 ⟨qd, qf, rfl, kk⟩; rw [HT.out]; replace H := St.uN (H.picks (xs := [Ast.blk g _ _, intsA q.ppu.table ppu.table, intsA q.ppu.dots ppu.dots]) pksA) kk; clear kk) | (go_at_call 202; (with_reducible refine (impl_atick_L apu _ _ _ _ _ _ _ _ _ _ _ _ _ _ _ _ _ _ _ _ _ _ _ _ _ _ _ g _ ha (St.holL (H.picks (xs := [Ast.blk g _ _]) pksA))).mono ?_); rintro e w1 ⟨rfl, kk⟩; rw [HA.out]; have H_ := (H.picks (xs := [Ast.blk g _ _]) pksA).up1 kk (fun b hb => hb); simp only [List.append_eq, List.cons_append, List.nil_append] at H_; (clear H; have H := H_; clear H_); clear kk) | ((with_reducible refine g_buildSlice rfl ?_); refine ev_buildSlice1 (v := .slice _ _ _) H rfl rfl rfl Tryz.underlying22 info_ints (fill_sl _ _ _) rfl (by decide) (by decide) (by decide) ?_; intro g_ W_ H_; (clear H; have H := H_; clear H_)) | ((with_reducible refine g_append rfl ?_); refine ev_appendN (xs := rowVals frames _) (news := [.slice qf.A ppu.frame.length qf.c]) (N := ff.length) (cs' := rowVals ff (_ ++ [qf])) H rfl rfl Tryz.underlying22 info_ints rfl (by decide) rfl rfl pkA (own_in (H.get pkA)) (fun h => by cases h) rfl rfl (by omega) (by unfold maxLen; omega) (by rw [HS.out]; simp) (by rw [HS.out]; exact rowVals_more HR.out) ?_; intro A_ c_ W_ H_; (clear H; have H := H_; clear H_)) | ((with_reducible refine g_load rfl ?_); refine eL1 H ?_) | ((with_reducible refine g_store rfl ?_); (first | refine eSb H ?_ | refine eSs H ?_); clear H; intro W_ H))
        all_goals
          rw [← PpuD.tk_table ppu] at H
          have H_ := St.frMore (fr := ppu.frame) (qf := qf) (qs := q.obs.frames.r) (A := A_) (c := c_) H HR.out HS.out pksA
          (clear H; have H := H_; clear H_)
          have H_ := H.take (xs := [Ast.blk g _ _, frA (LockP.mk q.img q.pads q.mem ⟨q.ppu.table, qd⟩ ⟨⟨⟨A_, c_⟩, q.obs.frames.r ++ [qf]⟩, q.obs.samples, q.obs.reads⟩).img.banks (LockD.mk img pads mem cpu ppu.tk apu.tk pad true steps ⟨ff, samples, reads⟩).img.banks, intsA (LockP.mk q.img q.pads q.mem ⟨q.ppu.table, qd⟩ ⟨⟨⟨A_, c_⟩, q.obs.frames.r ++ [qf]⟩, q.obs.samples, q.obs.reads⟩).pads (LockD.mk img pads mem cpu ppu.tk apu.tk pad true steps ⟨ff, samples, reads⟩).pads, intsA (LockP.mk q.img q.pads q.mem ⟨q.ppu.table, qd⟩ ⟨⟨⟨A_, c_⟩, q.obs.frames.r ++ [qf]⟩, q.obs.samples, q.obs.reads⟩).mem.ram (LockD.mk img pads mem cpu ppu.tk apu.tk pad true steps ⟨ff, samples, reads⟩).mem.ram, intsA (LockP.mk q.img q.pads q.mem ⟨q.ppu.table, qd⟩ ⟨⟨⟨A_, c_⟩, q.obs.frames.r ++ [qf]⟩, q.obs.samples, q.obs.reads⟩).ppu.table (LockD.mk img pads mem cpu ppu.tk apu.tk pad true steps ⟨ff, samples, reads⟩).ppu.table, intsA (LockP.mk q.img q.pads q.mem ⟨q.ppu.table, qd⟩ ⟨⟨⟨A_, c_⟩, q.obs.frames.r ++ [qf]⟩, q.obs.samples, q.obs.reads⟩).ppu.dots (LockD.mk img pads mem cpu ppu.tk apu.tk pad true steps ⟨ff, samples, reads⟩).ppu.dots, frA (LockP.mk q.img q.pads q.mem ⟨q.ppu.table, qd⟩ ⟨⟨⟨A_, c_⟩, q.obs.frames.r ++ [qf]⟩, q.obs.samples, q.obs.reads⟩).obs.frames (LockD.mk img pads mem cpu ppu.tk apu.tk pad true steps ⟨ff, samples, reads⟩).obs.frames, intsA (LockP.mk q.img q.pads q.mem ⟨q.ppu.table, qd⟩ ⟨⟨⟨A_, c_⟩, q.obs.frames.r ++ [qf]⟩, q.obs.samples, q.obs.reads⟩).obs.samples (LockD.mk img pads mem cpu ppu.tk apu.tk pad true steps ⟨ff, samples, reads⟩).obs.samples, intsA (LockP.mk q.img q.pads q.mem ⟨q.ppu.table, qd⟩ ⟨⟨⟨A_, c_⟩, q.obs.frames.r ++ [qf]⟩, q.obs.samples, q.obs.reads⟩).obs.reads (LockD.mk img pads mem cpu ppu.tk apu.tk pad true steps ⟨ff, samples, reads⟩).obs.reads]) pksA
          go_end0
          exact ⟨rfl, (LockP.mk q.img q.pads q.mem ⟨q.ppu.table, qd⟩ ⟨⟨⟨A_, c_⟩, q.obs.frames.r ++ [qf]⟩, q.obs.samples, q.obs.reads⟩), H_⟩
      case true =>
        have HA := Lib.hid hs
        clear hs
        obtain ⟨ff, HS⟩ : ∃ ff : List (List Int), Hid (ff = frames ++ [ppu.frame]) := ⟨_, Lib.hid rfl⟩
        obtain ⟨ss, HX⟩ : ∃ ss : List Int, Hid (ss = samples ++ [apu.smp]) := ⟨_, Lib.hid rfl⟩
        have hz : (LockD.mk img pads mem cpu ppu apu pad true steps ⟨frames, samples, reads⟩).tickR = (LockD.mk img pads mem cpu ppu.tk apu.tk pad true steps ⟨ff, ss, reads⟩) := by rw [HS.out]; rw [HX.out]; simp [LockD.tickR, HT.out, HA.out]
        rw [hz]
        clear hz
        have H_ := St.frOpen (q := q.obs.frames) (fs := frames) H pkA
        simp only [List.cons_append, List.nil_append] at H_
        (clear H; have H := H_; clear H_)
        go_enter Tryz.func146, Tryz.ntmps146
        go_wp2_with (first | (go_at_call 201; (with_reducible refine (impl_tick_L ppu q.ppu _ _ _ _ _ _ _ _ _ _ _ _ _ _ _ _ _ _ _ _ _ _ _ _ _ _ g _ (St.holL (H.picks (xs := [Ast.blk g _ _, intsA q.ppu.table ppu.table, intsA q.ppu.dots ppu.dots]) pksA)) hp).mono ?_); rintro e w1 ⟨qd, qf, rfl, kk⟩; rw [HT.out]; replace H := St.uN (H.picks (xs := [Ast.blk g _ _, intsA q.ppu.table ppu.table, intsA q.ppu.dots ppu.dots]) pksA) kk; clear kk) | (go_at_call 202; (with_reducible refine (impl_atick_L apu _ _ _ _ _ _ _ _ _ _ _ _ _ _ _ _ _ _ _ _ _ _ _ _ _ _ _ g _ ha (St.holL (H.picks (xs := [Ast.blk g _ _]) pksA))).mono ?_); rintro e w1 ⟨rfl, kk⟩; rw [HA.out]; have H_ := (H.picks (xs := [Ast.blk g _ _]) pksA).up1 kk (fun b hb => hb); simp only [List.append_eq, List.cons_append, List.nil_append] at H_; (clear H; have H := H_; clear H_); clear kk) | ((with_reducible refine g_buildSlice rfl ?_); refine ev_buildSlice1 (v := .slice _ _ _) H rfl rfl rfl Tryz.underlying22 info_ints (fill_sl _ _ _) rfl (by decide) (by decide) (by decide) ?_; intro g_ W_ H_; (clear H; have H := H_; clear H_)) | ((with_reducible refine g_append rfl ?_); refine ev_appendN (xs := rowVals frames _) (news := [.slice qf.A ppu.frame.length qf.c]) (N := ff.length) (cs' := rowVals ff (_ ++ [qf])) H rfl rfl Tryz.underlying22 info_ints rfl (by decide) rfl rfl pkA (own_in (H.get pkA)) (fun h => by cases h) rfl rfl (by omega) (by unfold maxLen; omega) (by rw [HS.out]; simp) (by rw [HS.out]; exact rowVals_more HR.out) ?_; intro A_ c_ W_ H_; (clear H; have H := H_; clear H_)) | ((with_reducible refine g_buildSlice rfl ?_); refine ev_buildSlice1 (v := .int .i64 _) H rfl rfl rfl Tryz.underlying25 info_int (fill_int _) rfl (by decide) (by decide) (by decide) ?_; intro g_ W_ H_; (clear H; have H := H_; clear H_)) | ((with_reducible refine g_append rfl ?_); refine ev_appendN (xs := nums samples) (news := [.int .i64 apu.smp]) (N := ss.length) (cs' := nums ss) H rfl rfl Tryz.underlying25 info_int rfl (by decide) rfl rfl pkA (own_in (H.get pkA)) (fun h => by cases h) rfl rfl (by omega) (by unfold maxLen; omega) (by rw [HX.out]; simp) (by rw [HX.out]; simp [nums]) ?_; intro As_ cs_ W_ H_; (clear H; have H := H_; clear H_)) | ((with_reducible refine g_load rfl ?_); refine eL1 H ?_) | ((with_reducible refine g_store rfl ?_); (first | refine eSb H ?_ | refine eSs H ?_); clear H; intro W_ H))
        all_goals
          rw [← PpuD.tk_table ppu] at H
          have H_ := St.frMore (fr := ppu.frame) (qf := qf) (qs := q.obs.frames.r) (A := A_) (c := c_) H HR.out HS.out pksA
          (clear H; have H := H_; clear H_)
          have H_ := H.take (xs := [Ast.blk g _ _, frA (LockP.mk q.img q.pads q.mem ⟨q.ppu.table, qd⟩ ⟨⟨⟨A_, c_⟩, q.obs.frames.r ++ [qf]⟩, ⟨As_, cs_⟩, q.obs.reads⟩).img.banks (LockD.mk img pads mem cpu ppu.tk apu.tk pad true steps ⟨ff, ss, reads⟩).img.banks, intsA (LockP.mk q.img q.pads q.mem ⟨q.ppu.table, qd⟩ ⟨⟨⟨A_, c_⟩, q.obs.frames.r ++ [qf]⟩, ⟨As_, cs_⟩, q.obs.reads⟩).pads (LockD.mk img pads mem cpu ppu.tk apu.tk pad true steps ⟨ff, ss, reads⟩).pads, intsA (LockP.mk q.img q.pads q.mem ⟨q.ppu.table, qd⟩ ⟨⟨⟨A_, c_⟩, q.obs.frames.r ++ [qf]⟩, ⟨As_, cs_⟩, q.obs.reads⟩).mem.ram (LockD.mk img pads mem cpu ppu.tk apu.tk pad true steps ⟨ff, ss, reads⟩).mem.ram, intsA (LockP.mk q.img q.pads q.mem ⟨q.ppu.table, qd⟩ ⟨⟨⟨A_, c_⟩, q.obs.frames.r ++ [qf]⟩, ⟨As_, cs_⟩, q.obs.reads⟩).ppu.table (LockD.mk img pads mem cpu ppu.tk apu.tk pad true steps ⟨ff, ss, reads⟩).ppu.table, intsA (LockP.mk q.img q.pads q.mem ⟨q.ppu.table, qd⟩ ⟨⟨⟨A_, c_⟩, q.obs.frames.r ++ [qf]⟩, ⟨As_, cs_⟩, q.obs.reads⟩).ppu.dots (LockD.mk img pads mem cpu ppu.tk apu.tk pad true steps ⟨ff, ss, reads⟩).ppu.dots, frA (LockP.mk q.img q.pads q.mem ⟨q.ppu.table, qd⟩ ⟨⟨⟨A_, c_⟩, q.obs.frames.r ++ [qf]⟩, ⟨As_, cs_⟩, q.obs.reads⟩).obs.frames (LockD.mk img pads mem cpu ppu.tk apu.tk pad true steps ⟨ff, ss, reads⟩).obs.frames, intsA (LockP.mk q.img q.pads q.mem ⟨q.ppu.table, qd⟩ ⟨⟨⟨A_, c_⟩, q.obs.frames.r ++ [qf]⟩, ⟨As_, cs_⟩, q.obs.reads⟩).obs.samples (LockD.mk img pads mem cpu ppu.tk apu.tk pad true steps ⟨ff, ss, reads⟩).obs.samples, intsA (LockP.mk q.img q.pads q.mem ⟨q.ppu.table, qd⟩ ⟨⟨⟨A_, c_⟩, q.obs.frames.r ++ [qf]⟩, ⟨As_, cs_⟩, q.obs.reads⟩).obs.reads (LockD.mk img pads mem cpu ppu.tk apu.tk pad true steps ⟨ff, ss, reads⟩).obs.reads]) pksA
          go_end0
          exact ⟨rfl, (LockP.mk q.img q.pads q.mem ⟨q.ppu.table, qd⟩ ⟨⟨⟨A_, c_⟩, q.obs.frames.r ++ [qf]⟩, ⟨As_, cs_⟩, q.obs.reads⟩), H_⟩
theorem spec_l8TickK (x : PpuD) (q : PpuP) (w : World) (hx : PpuIn w x q) (hok : x.ok = true) (ht : x.t < 20000) : Calls Tryz.prog 195 #[.agg #[.int .i64 x.t, .int .i64 x.ctrl, .int .i64 x.scroll, .int .i64 x.addr, .int .i64 x.pal, .bool x.blank, .slice q.table.A x.table.length q.table.c, .slice q.dots.A x.dots.length q.dots.c]] w fun e w' => ∃ (q' : PpuP) (qf : Sl), e = .returned (.tuple #[.agg #[.int .i64 x.tk.t, .int .i64 x.tk.ctrl, .int .i64 x.tk.scroll, .int .i64 x.tk.addr, .int .i64 x.tk.pal, .bool x.tk.blank, .slice q'.table.A x.tk.table.length q'.table.c, .slice q'.dots.A x.tk.dots.length q'.dots.c], .slice qf.A x.frame.length qf.c, .bool x.asks]) ∧ St w [] w' [ppuA x.tk q', intsA qf x.frame] := by
  have h := spec_l8Tick x q w hx (PpuSmall.ofOk hok) hok
  have h1 : ¬ x.t = 20000 := by omega
  have e1 : x.tick = x.tk := by simp [PpuD.tick, hok, h1]
  have e2 : x.tickF = x.frame := by simp [PpuD.tickF, hok, h1]
  have e3 : x.tickA = x.asks := by simp [PpuD.tickA, hok, h1]
  rwa [e1, e2, e3] at h
theorem spec_l10TickK (a : ApuD) (w : World) (hok : a.ok = true) (ht : a.t < 20000) : Calls Tryz.prog 196 #[.agg #[.int .i64 a.t, .int .i64 a.p, .int .i64 a.c, .int .i64 a.b, .int .i64 a.l, .bool a.k, .bool a.i]] w fun e w' => e = .returned (.tuple #[.agg #[.int .i64 a.tk.t, .int .i64 a.tk.p, .int .i64 a.tk.c, .int .i64 a.tk.b, .int .i64 a.tk.l, .bool a.tk.k, .bool a.tk.i], .int .i64 a.smp, .bool a.told]) ∧ Below w.heap.size w w' := by
  have h := spec_l10Tick a w hok
  have h1 : ¬ a.t = 20000 := by omega
  have e1 : a.tick = a.tk := by simp [ApuD.tick, hok, h1]
  have e2 : a.tickN = a.smp := by simp [ApuD.tickN, hok, h1]
  have e3 : a.tickB = a.told := by simp [ApuD.tickB, hok, h1]
  rwa [e1, e2, e3] at h
set_option maxHeartbeats 16000000 in
theorem spec_l12Tick (l : LockD) (q : LockP) (w : World) (hH : Hol w [frA q.img.banks l.img.banks, intsA q.pads l.pads, intsA q.mem.ram l.mem.ram, ppuA l.ppu q.ppu, frA q.obs.frames l.obs.frames, intsA q.obs.samples l.obs.samples, intsA q.obs.reads l.obs.reads]) (hp : l.ppu.ok = true) (ha : l.apu.ok = true) (ht2_ : l.ppu.t < 20000) (hta_ : l.apu.t < 20000) (hfr : l.obs.frames.length ≤ 1000) (hsm : l.obs.samples.length ≤ 10000) : Calls Tryz.prog 141 #[.agg #[.slice q.img.banks.s.A l.img.banks.length q.img.banks.s.c, .slice q.pads.A l.pads.length q.pads.c, .slice q.mem.ram.A l.mem.ram.length q.mem.ram.c, .int .i64 l.mem.bank, .int .i64 l.cpu.a, .int .i64 l.cpu.x, .int .i64 l.cpu.s, .int .i64 l.cpu.pc, .bool l.cpu.z, .bool l.cpu.n, .bool l.cpu.c, .bool l.cpu.i, .int .i64 l.ppu.t, .int .i64 l.ppu.ctrl, .int .i64 l.ppu.scroll, .int .i64 l.ppu.addr, .int .i64 l.ppu.pal, .bool l.ppu.blank, .slice q.ppu.table.A l.ppu.table.length q.ppu.table.c, .slice q.ppu.dots.A l.ppu.dots.length q.ppu.dots.c, .int .i64 l.apu.t, .int .i64 l.apu.p, .int .i64 l.apu.c, .int .i64 l.apu.b, .int .i64 l.apu.l, .bool l.apu.k, .bool l.apu.i, .bool l.pad.h, .int .i64 l.pad.s, .bool l.nmi, .int .i64 l.steps, .slice q.obs.frames.s.A l.obs.frames.length q.obs.frames.s.c, .slice q.obs.samples.A l.obs.samples.length q.obs.samples.c, .slice q.obs.reads.A l.obs.reads.length q.obs.reads.c]] w fun e w' => ∃ q' : LockP, e = .returned (.agg #[.slice q'.img.banks.s.A l.tickR.img.banks.length q'.img.banks.s.c, .slice q'.pads.A l.tickR.pads.length q'.pads.c, .slice q'.mem.ram.A l.tickR.mem.ram.length q'.mem.ram.c, .int .i64 l.tickR.mem.bank, .int .i64 l.tickR.cpu.a, .int .i64 l.tickR.cpu.x, .int .i64 l.tickR.cpu.s, .int .i64 l.tickR.cpu.pc, .bool l.tickR.cpu.z, .bool l.tickR.cpu.n, .bool l.tickR.cpu.c, .bool l.tickR.cpu.i, .int .i64 l.tickR.ppu.t, .int .i64 l.tickR.ppu.ctrl, .int .i64 l.tickR.ppu.scroll, .int .i64 l.tickR.ppu.addr, .int .i64 l.tickR.ppu.pal, .bool l.tickR.ppu.blank, .slice q'.ppu.table.A l.tickR.ppu.table.length q'.ppu.table.c, .slice q'.ppu.dots.A l.tickR.ppu.dots.length q'.ppu.dots.c, .int .i64 l.tickR.apu.t, .int .i64 l.tickR.apu.p, .int .i64 l.tickR.apu.c, .int .i64 l.tickR.apu.b, .int .i64 l.tickR.apu.l, .bool l.tickR.apu.k, .bool l.tickR.apu.i, .bool l.tickR.pad.h, .int .i64 l.tickR.pad.s, .bool l.tickR.nmi, .int .i64 l.tickR.steps, .slice q'.obs.frames.s.A l.tickR.obs.frames.length q'.obs.frames.s.c, .slice q'.obs.samples.A l.tickR.obs.samples.length q'.obs.samples.c, .slice q'.obs.reads.A l.tickR.obs.reads.length q'.obs.reads.c]) ∧ St w ([frA q.img.banks l.img.banks, intsA q.pads l.pads, intsA q.mem.ram l.mem.ram, ppuA l.ppu q.ppu, frA q.obs.frames l.obs.frames, intsA q.obs.samples l.obs.samples, intsA q.obs.reads l.obs.reads].flatMap Ast.fp) w' [frA q'.img.banks l.tickR.img.banks, intsA q'.pads l.tickR.pads, intsA q'.mem.ram l.tickR.mem.ram, ppuA l.tickR.ppu q'.ppu, frA q'.obs.frames l.tickR.obs.frames, intsA q'.obs.samples l.tickR.obs.samples, intsA q'.obs.reads l.tickR.obs.reads] := by
  have H := hH.st
  generalize hF : List.flatMap Ast.fp _ = F at H ⊢
  clear hF hH
  obtain ⟨img, pads, mem, cpu, ppu, apu, pad, nmi, steps, ⟨frames, samples, reads⟩⟩ := l
  simp only at H hp ha hfr hsm ht2_ hta_
  have HR := Lib.hid (frA_len (H.get (x := frA q.obs.frames frames) pkA))
  have htb := (PpuD.ok_at hp).1
  obtain ⟨t0_, t1_⟩ := htb
  cases nmi
  case false =>
    cases ht : ppu.told
    case false =>
      have ht48 : (ppu.t % 64 == 48) = false := ht
      have hmd : ppu.t.tmod 64 = ppu.t % 64 := tm t0_
      have HT := Lib.hid ht
      clear ht
      cases hs : apu.told
      case false =>
        have HA := Lib.hid hs
        clear hs
        have hz : (LockD.mk img pads mem cpu ppu apu pad false steps ⟨frames, samples, reads⟩).tickR = (LockD.mk img pads mem cpu ppu.tk apu.tk pad ppu.asks steps ⟨frames, samples, reads⟩) := by simp [LockD.tickR, HT.out, HA.out]
        rw [hz]
        clear hz
        go_enter Tryz.func141, Tryz.ntmps141; (try simp only [List.append_eq, List.cons_append, List.nil_append])
        go_wp2_with (first | (go_at_call 195; (with_reducible refine (spec_l8TickK ppu q.ppu _ (PpuIn.of (H.get (x := ppuA ppu q.ppu) pkA)) hp ht2_).mono ?_); rintro e w1 ⟨qp, qf, rfl, kk⟩; replace H := H.cN kk; clear kk) | (go_at_call 196; (with_reducible refine (spec_l10TickK apu _ ha hta_).mono ?_); rintro e w1 ⟨rfl, hb⟩; rw [HA.out]; (replace H := H.callB hb; clear hb)) | ((with_reducible refine g_box rfl ?_); refine eBa H ?_; clear H; intro g_ W_ H) | ((with_reducible refine g_alloc rfl ?_); refine eNw H ?_; clear H; intro g_ W_ H) | ((with_reducible refine g_load rfl ?_); first | refine eL1 H ?_ | refine eLa H ?_) | ((with_reducible refine g_store rfl ?_); (first | refine eSb H ?_ | refine eSs H ?_ | refine eSa H ?_); clear H; intro W_ H))
        all_goals
          have H_ := H.take (xs := [frA (LockP.mk q.img q.pads q.mem qp ⟨q.obs.frames, q.obs.samples, q.obs.reads⟩).img.banks (LockD.mk img pads mem cpu ppu.tk apu.tk pad ppu.asks steps ⟨frames, samples, reads⟩).img.banks, intsA (LockP.mk q.img q.pads q.mem qp ⟨q.obs.frames, q.obs.samples, q.obs.reads⟩).pads (LockD.mk img pads mem cpu ppu.tk apu.tk pad ppu.asks steps ⟨frames, samples, reads⟩).pads, intsA (LockP.mk q.img q.pads q.mem qp ⟨q.obs.frames, q.obs.samples, q.obs.reads⟩).mem.ram (LockD.mk img pads mem cpu ppu.tk apu.tk pad ppu.asks steps ⟨frames, samples, reads⟩).mem.ram, ppuA (LockD.mk img pads mem cpu ppu.tk apu.tk pad ppu.asks steps ⟨frames, samples, reads⟩).ppu (LockP.mk q.img q.pads q.mem qp ⟨q.obs.frames, q.obs.samples, q.obs.reads⟩).ppu, frA (LockP.mk q.img q.pads q.mem qp ⟨q.obs.frames, q.obs.samples, q.obs.reads⟩).obs.frames (LockD.mk img pads mem cpu ppu.tk apu.tk pad ppu.asks steps ⟨frames, samples, reads⟩).obs.frames, intsA (LockP.mk q.img q.pads q.mem qp ⟨q.obs.frames, q.obs.samples, q.obs.reads⟩).obs.samples (LockD.mk img pads mem cpu ppu.tk apu.tk pad ppu.asks steps ⟨frames, samples, reads⟩).obs.samples, intsA (LockP.mk q.img q.pads q.mem qp ⟨q.obs.frames, q.obs.samples, q.obs.reads⟩).obs.reads (LockD.mk img pads mem cpu ppu.tk apu.tk pad ppu.asks steps ⟨frames, samples, reads⟩).obs.reads]) pksA
          refine' back1 Tryz.results141 ?_ rfl ⟨(LockP.mk q.img q.pads q.mem qp ⟨q.obs.frames, q.obs.samples, q.obs.reads⟩), ?_, H_⟩; rotate_left 1; exact rvA
          rfl
      case true =>
        have HA := Lib.hid hs
        clear hs
        obtain ⟨ss, HX⟩ : ∃ ss : List Int, Hid (ss = samples ++ [apu.smp]) := ⟨_, Lib.hid rfl⟩
        have hz : (LockD.mk img pads mem cpu ppu apu pad false steps ⟨frames, samples, reads⟩).tickR = (LockD.mk img pads mem cpu ppu.tk apu.tk pad ppu.asks steps ⟨frames, ss, reads⟩) := by rw [HX.out]; simp [LockD.tickR, HT.out, HA.out]
        rw [hz]
        clear hz
        go_enter Tryz.func141, Tryz.ntmps141; (try simp only [List.append_eq, List.cons_append, List.nil_append])
        go_wp2_with (first | (go_at_call 195; (with_reducible refine (spec_l8TickK ppu q.ppu _ (PpuIn.of (H.get (x := ppuA ppu q.ppu) pkA)) hp ht2_).mono ?_); rintro e w1 ⟨qp, qf, rfl, kk⟩; replace H := H.cN kk; clear kk) | (go_at_call 196; (with_reducible refine (spec_l10TickK apu _ ha hta_).mono ?_); rintro e w1 ⟨rfl, hb⟩; rw [HA.out]; (replace H := H.callB hb; clear hb)) | ((with_reducible refine g_buildSlice rfl ?_); refine ev_buildSlice1 (v := .int .i64 _) H rfl rfl rfl Tryz.underlying25 info_int (fill_int _) rfl (by decide) (by decide) (by decide) ?_; intro g_ W_ H_; (clear H; have H := H_; clear H_)) | ((with_reducible refine g_append rfl ?_); refine ev_appendN (xs := nums samples) (news := [.int .i64 apu.smp]) (N := ss.length) (cs' := nums ss) H rfl rfl Tryz.underlying25 info_int rfl (by decide) rfl rfl pkA (own_in (H.get pkA)) (fun h => by cases h) rfl rfl (by omega) (by unfold maxLen; omega) (by rw [HX.out]; simp) (by rw [HX.out]; simp [nums]) ?_; intro As_ cs_ W_ H_; (clear H; have H := H_; clear H_)) | ((with_reducible refine g_box rfl ?_); refine eBa H ?_; clear H; intro g_ W_ H) | ((with_reducible refine g_alloc rfl ?_); refine eNw H ?_; clear H; intro g_ W_ H) | ((with_reducible refine g_load rfl ?_); first | refine eL1 H ?_ | refine eLa H ?_) | ((with_reducible refine g_store rfl ?_); (first | refine eSb H ?_ | refine eSs H ?_ | refine eSa H ?_); clear H; intro W_ H))
        all_goals
          have H_ := H.take (xs := [frA (LockP.mk q.img q.pads q.mem qp ⟨q.obs.frames, ⟨As_, cs_⟩, q.obs.reads⟩).img.banks (LockD.mk img pads mem cpu ppu.tk apu.tk pad ppu.asks steps ⟨frames, ss, reads⟩).img.banks, intsA (LockP.mk q.img q.pads q.mem qp ⟨q.obs.frames, ⟨As_, cs_⟩, q.obs.reads⟩).pads (LockD.mk img pads mem cpu ppu.tk apu.tk pad ppu.asks steps ⟨frames, ss, reads⟩).pads, intsA (LockP.mk q.img q.pads q.mem qp ⟨q.obs.frames, ⟨As_, cs_⟩, q.obs.reads⟩).mem.ram (LockD.mk img pads mem cpu ppu.tk apu.tk pad ppu.asks steps ⟨frames, ss, reads⟩).mem.ram, ppuA (LockD.mk img pads mem cpu ppu.tk apu.tk pad ppu.asks steps ⟨frames, ss, reads⟩).ppu (LockP.mk q.img q.pads q.mem qp ⟨q.obs.frames, ⟨As_, cs_⟩, q.obs.reads⟩).ppu, frA (LockP.mk q.img q.pads q.mem qp ⟨q.obs.frames, ⟨As_, cs_⟩, q.obs.reads⟩).obs.frames (LockD.mk img pads mem cpu ppu.tk apu.tk pad ppu.asks steps ⟨frames, ss, reads⟩).obs.frames, intsA (LockP.mk q.img q.pads q.mem qp ⟨q.obs.frames, ⟨As_, cs_⟩, q.obs.reads⟩).obs.samples (LockD.mk img pads mem cpu ppu.tk apu.tk pad ppu.asks steps ⟨frames, ss, reads⟩).obs.samples, intsA (LockP.mk q.img q.pads q.mem qp ⟨q.obs.frames, ⟨As_, cs_⟩, q.obs.reads⟩).obs.reads (LockD.mk img pads mem cpu ppu.tk apu.tk pad ppu.asks steps ⟨frames, ss, reads⟩).obs.reads]) pksA
          refine' back1 Tryz.results141 ?_ rfl ⟨(LockP.mk q.img q.pads q.mem qp ⟨q.obs.frames, ⟨As_, cs_⟩, q.obs.reads⟩), ?_, H_⟩; rotate_left 1; exact rvA
          rfl
    case true =>
      have ht48 : (ppu.t % 64 == 48) = true := ht
      have hmd : ppu.t.tmod 64 = ppu.t % 64 := tm t0_
      have HT := Lib.hid ht
      clear ht
      cases hs : apu.told
      case false =>
        have HA := Lib.hid hs
        clear hs
        obtain ⟨ff, HS⟩ : ∃ ff : List (List Int), Hid (ff = frames ++ [ppu.frame]) := ⟨_, Lib.hid rfl⟩
        have hz : (LockD.mk img pads mem cpu ppu apu pad false steps ⟨frames, samples, reads⟩).tickR = (LockD.mk img pads mem cpu ppu.tk apu.tk pad ppu.asks steps ⟨ff, samples, reads⟩) := by rw [HS.out]; simp [LockD.tickR, HT.out, HA.out]
        rw [hz]
        clear hz
        have H_ := St.frOpen (q := q.obs.frames) (fs := frames) H pkA
        simp only [List.cons_append, List.nil_append] at H_
        (clear H; have H := H_; clear H_)
        go_enter Tryz.func141, Tryz.ntmps141; (try simp only [List.append_eq, List.cons_append, List.nil_append])
        go_wp2_with (first | (go_at_call 195; (with_reducible refine (spec_l8TickK ppu q.ppu _ (PpuIn.of (H.get (x := ppuA ppu q.ppu) pkA)) hp ht2_).mono ?_); rintro e w1 ⟨qp, qf, rfl, kk⟩; replace H := H.cN kk; clear kk) | (go_at_call 196; (with_reducible refine (spec_l10TickK apu _ ha hta_).mono ?_); rintro e w1 ⟨rfl, hb⟩; rw [HA.out]; (replace H := H.callB hb; clear hb)) | ((with_reducible refine g_buildSlice rfl ?_); refine ev_buildSlice1 (v := .slice _ _ _) H rfl rfl rfl Tryz.underlying22 info_ints (fill_sl _ _ _) rfl (by decide) (by decide) (by decide) ?_; intro g_ W_ H_; (clear H; have H := H_; clear H_)) | ((with_reducible refine g_append rfl ?_); refine ev_appendN (xs := rowVals frames _) (news := [.slice qf.A ppu.frame.length qf.c]) (N := ff.length) (cs' := rowVals ff (_ ++ [qf])) H rfl rfl Tryz.underlying22 info_ints rfl (by decide) rfl rfl pkA (own_in (H.get pkA)) (fun h => by cases h) rfl rfl (by omega) (by unfold maxLen; omega) (by rw [HS.out]; simp) (by rw [HS.out]; exact rowVals_more HR.out) ?_; intro A_ c_ W_ H_; (clear H; have H := H_; clear H_)) | ((with_reducible refine g_box rfl ?_); refine eBa H ?_; clear H; intro g_ W_ H) | ((with_reducible refine g_alloc rfl ?_); refine eNw H ?_; clear H; intro g_ W_ H) | ((with_reducible refine g_load rfl ?_); first | refine eL1 H ?_ | refine eLa H ?_) | ((with_reducible refine g_store rfl ?_); (first | refine eSb H ?_ | refine eSs H ?_ | refine eSa H ?_); clear H; intro W_ H))
        all_goals
          have H_ := St.frMore (fr := ppu.frame) (qf := qf) (qs := q.obs.frames.r) (A := A_) (c := c_) H HR.out HS.out pksA
          (clear H; have H := H_; clear H_)
          have H_ := H.take (xs := [frA (LockP.mk q.img q.pads q.mem qp ⟨⟨⟨A_, c_⟩, q.obs.frames.r ++ [qf]⟩, q.obs.samples, q.obs.reads⟩).img.banks (LockD.mk img pads mem cpu ppu.tk apu.tk pad ppu.asks steps ⟨ff, samples, reads⟩).img.banks, intsA (LockP.mk q.img q.pads q.mem qp ⟨⟨⟨A_, c_⟩, q.obs.frames.r ++ [qf]⟩, q.obs.samples, q.obs.reads⟩).pads (LockD.mk img pads mem cpu ppu.tk apu.tk pad ppu.asks steps ⟨ff, samples, reads⟩).pads, intsA (LockP.mk q.img q.pads q.mem qp ⟨⟨⟨A_, c_⟩, q.obs.frames.r ++ [qf]⟩, q.obs.samples, q.obs.reads⟩).mem.ram (LockD.mk img pads mem cpu ppu.tk apu.tk pad ppu.asks steps ⟨ff, samples, reads⟩).mem.ram, ppuA (LockD.mk img pads mem cpu ppu.tk apu.tk pad ppu.asks steps ⟨ff, samples, reads⟩).ppu (LockP.mk q.img q.pads q.mem qp ⟨⟨⟨A_, c_⟩, q.obs.frames.r ++ [qf]⟩, q.obs.samples, q.obs.reads⟩).ppu, frA (LockP.mk q.img q.pads q.mem qp ⟨⟨⟨A_, c_⟩, q.obs.frames.r ++ [qf]⟩, q.obs.samples, q.obs.reads⟩).obs.frames (LockD.mk img pads mem cpu ppu.tk apu.tk pad ppu.asks steps ⟨ff, samples, reads⟩).obs.frames, intsA (LockP.mk q.img q.pads q.mem qp ⟨⟨⟨A_, c_⟩, q.obs.frames.r ++ [qf]⟩, q.obs.samples, q.obs.reads⟩).obs.samples (LockD.mk img pads mem cpu ppu.tk apu.tk pad ppu.asks steps ⟨ff, samples, reads⟩).obs.samples, intsA (LockP.mk q.img q.pads q.mem qp ⟨⟨⟨A_, c_⟩, q.obs.frames.r ++ [qf]⟩, q.obs.samples, q.obs.reads⟩).obs.reads (LockD.mk img pads mem cpu ppu.tk apu.tk pad ppu.asks steps ⟨ff, samples, reads⟩).obs.reads]) pksA
          refine' back1 Tryz.results141 ?_ rfl ⟨(LockP.mk q.img q.pads q.mem qp ⟨⟨⟨A_, c_⟩, q.obs.frames.r ++ [qf]⟩, q.obs.samples, q.obs.reads⟩), ?_, H_⟩; rotate_left 1; exact rvA
          rfl
      case true =>
        have HA := Lib.hid hs
        clear hs
        obtain ⟨ff, HS⟩ : ∃ ff : List (List Int), Hid (ff = frames ++ [ppu.frame]) := ⟨_, Lib.hid rfl⟩
        obtain ⟨ss, HX⟩ : ∃ ss : List Int, Hid (ss = samples ++ [apu.smp]) := ⟨_, Lib.hid rfl⟩
        have hz : (LockD.mk img pads mem cpu ppu apu pad false steps ⟨frames, samples, reads⟩).tickR = (LockD.mk img pads mem cpu ppu.tk apu.tk pad ppu.asks steps ⟨ff, ss, reads⟩) := by rw [HS.out]; rw [HX.out]; simp [LockD.tickR, HT.out, HA.out]
        rw [hz]
        clear hz
        have H_ := St.frOpen (q := q.obs.frames) (fs := frames) H pkA
        simp only [List.cons_append, List.nil_append] at H_
        (clear H; have H := H_; clear H_)
        go_enter Tryz.func141, Tryz.ntmps141; (try simp only [List.append_eq, List.cons_append, List.nil_append])
        go_wp2_with (first | (go_at_call 195; (with_reducible refine (spec_l8TickK ppu q.ppu _ (PpuIn.of (H.get (x := ppuA ppu q.ppu) pkA)) hp ht2_).mono ?_); rintro e w1 ⟨qp, qf, rfl, kk⟩; replace H := H.cN kk; clear kk) | (go_at_call 196; (with_reducible refine (spec_l10TickK apu _ ha hta_).mono ?_); rintro e w1 ⟨rfl, hb⟩; rw [HA.out]; (replace H := H.callB hb; clear hb)) | ((with_reducible refine g_buildSlice rfl ?_); refine ev_buildSlice1 (v := .slice _ _ _) H rfl rfl rfl Tryz.underlying22 info_ints (fill_sl _ _ _) rfl (by decide) (by decide) (by decide) ?_; intro g_ W_ H_; (clear H; have H := H_; clear H_)) | ((with_reducible refine g_append rfl ?_); refine ev_appendN (xs := rowVals frames _) (news := [.slice qf.A ppu.frame.length qf.c]) (N := ff.length) (cs' := rowVals ff (_ ++ [qf])) H rfl rfl Tryz.underlying22 info_ints rfl (by decide) rfl rfl pkA (own_in (H.get pkA)) (fun h => by cases h) rfl rfl (by omega) (by unfold maxLen; omega) (by rw [HS.out]; simp) (by rw [HS.out]; exact rowVals_more HR.out) ?_; intro A_ c_ W_ H_; (clear H; have H := H_; clear H_)) | ((with_reducible refine g_buildSlice rfl ?_); refine ev_buildSlice1 (v := .int .i64 _) H rfl rfl rfl Tryz.underlying25 info_int (fill_int _) rfl (by decide) (by decide) (by decide) ?_; intro g_ W_ H_; (clear H; have H := H_; clear H_)) | ((with_reducible refine g_append rfl ?_); refine ev_appendN (xs := nums samples) (news := [.int .i64 apu.smp]) (N := ss.length) (cs' := nums ss) H rfl rfl Tryz.underlying25 info_int rfl (by decide) rfl rfl pkA (own_in (H.get pkA)) (fun h => by cases h) rfl rfl (by omega) (by unfold maxLen; omega) (by rw [HX.out]; simp) (by rw [HX.out]; simp [nums]) ?_; intro As_ cs_ W_ H_; (clear H; have H := H_; clear H_)) | ((with_reducible refine g_box rfl ?_); refine eBa H ?_; clear H; intro g_ W_ H) | ((with_reducible refine g_alloc rfl ?_); refine eNw H ?_; clear H; intro g_ W_ H) | ((with_reducible refine g_load rfl ?_); first | refine eL1 H ?_ | refine eLa H ?_) | ((with_reducible refine g_store rfl ?_); (first | refine eSb H ?_ | refine eSs H ?_ | refine eSa H ?_); clear H; intro W_ H))
        all_goals
          have H_ := St.frMore (fr := ppu.frame) (qf := qf) (qs := q.obs.frames.r) (A := A_) (c := c_) H HR.out HS.out pksA
          (clear H; have H := H_; clear H_)
          have H_ := H.take (xs := [frA (LockP.mk q.img q.pads q.mem qp ⟨⟨⟨A_, c_⟩, q.obs.frames.r ++ [qf]⟩, ⟨As_, cs_⟩, q.obs.reads⟩).img.banks (LockD.mk img pads mem cpu ppu.tk apu.tk pad ppu.asks steps ⟨ff, ss, reads⟩).img.banks, intsA (LockP.mk q.img q.pads q.mem qp ⟨⟨⟨A_, c_⟩, q.obs.frames.r ++ [qf]⟩, ⟨As_, cs_⟩, q.obs.reads⟩).pads (LockD.mk img pads mem cpu ppu.tk apu.tk pad ppu.asks steps ⟨ff, ss, reads⟩).pads, intsA (LockP.mk q.img q.pads q.mem qp ⟨⟨⟨A_, c_⟩, q.obs.frames.r ++ [qf]⟩, ⟨As_, cs_⟩, q.obs.reads⟩).mem.ram (LockD.mk img pads mem cpu ppu.tk apu.tk pad ppu.asks steps ⟨ff, ss, reads⟩).mem.ram, ppuA (LockD.mk img pads mem cpu ppu.tk apu.tk pad ppu.asks steps ⟨ff, ss, reads⟩).ppu (LockP.mk q.img q.pads q.mem qp ⟨⟨⟨A_, c_⟩, q.obs.frames.r ++ [qf]⟩, ⟨As_, cs_⟩, q.obs.reads⟩).ppu, frA (LockP.mk q.img q.pads q.mem qp ⟨⟨⟨A_, c_⟩, q.obs.frames.r ++ [qf]⟩, ⟨As_, cs_⟩, q.obs.reads⟩).obs.frames (LockD.mk img pads mem cpu ppu.tk apu.tk pad ppu.asks steps ⟨ff, ss, reads⟩).obs.frames, intsA (LockP.mk q.img q.pads q.mem qp ⟨⟨⟨A_, c_⟩, q.obs.frames.r ++ [qf]⟩, ⟨As_, cs_⟩, q.obs.reads⟩).obs.samples (LockD.mk img pads mem cpu ppu.tk apu.tk pad ppu.asks steps ⟨ff, ss, reads⟩).obs.samples, intsA (LockP.mk q.img q.pads q.mem qp ⟨⟨⟨A_, c_⟩, q.obs.frames.r ++ [qf]⟩, ⟨As_, cs_⟩, q.obs.reads⟩).obs.reads (LockD.mk img pads mem cpu ppu.tk apu.tk pad ppu.asks steps ⟨ff, ss, reads⟩).obs.reads]) pksA
          refine' back1 Tryz.results141 ?_ rfl ⟨(LockP.mk q.img q.pads q.mem qp ⟨⟨⟨A_, c_⟩, q.obs.frames.r ++ [qf]⟩, ⟨As_, cs_⟩, q.obs.reads⟩), ?_, H_⟩; rotate_left 1; exact rvA
          rfl
  case true =>
    cases ht : ppu.told
    case false =>
      have ht48 : (ppu.t % 64 == 48) = false := ht
      have hmd : ppu.t.tmod 64 = ppu.t % 64 := tm t0_
      have HT := Lib.hid ht
      clear ht
      cases hs : apu.told
      case false =>
        have HA := Lib.hid hs
        clear hs
        have hz : (LockD.mk img pads mem cpu ppu apu pad true steps ⟨frames, samples, reads⟩).tickR = (LockD.mk img pads mem cpu ppu.tk apu.tk pad true steps ⟨frames, samples, reads⟩) := by simp [LockD.tickR, HT.out, HA.out]
        rw [hz]
        clear hz
        go_enter Tryz.func141, Tryz.ntmps141; (try simp only [List.append_eq, List.cons_append, List.nil_append])
        go_wp2_with (first | (go_at_call 195; (with_reducible refine (spec_l8TickK ppu q.ppu _ (PpuIn.of (H.get (x := ppuA ppu q.ppu) pkA)) hp ht2_).mono ?_); rintro e w1 ⟨qp, qf, rfl, kk⟩; replace H := H.cN kk; clear kk) | (go_at_call 196; (with_reducible refine (spec_l10TickK apu _ ha hta_).mono ?_); rintro e w1 ⟨rfl, hb⟩; rw [HA.out]; (replace H := H.callB hb; clear hb)) | ((with_reducible refine g_box rfl ?_); refine eBa H ?_; clear H; intro g_ W_ H) | ((with_reducible refine g_alloc rfl ?_); refine eNw H ?_; clear H; intro g_ W_ H) | ((with_reducible refine g_load rfl ?_); first | refine eL1 H ?_ | refine eLa H ?_) | ((with_reducible refine g_store rfl ?_); (first | refine eSb H ?_ | refine eSs H ?_ | refine eSa H ?_); clear H; intro W_ H))
        all_goals
          have H_ := H.take (xs := [frA (LockP.mk q.img q.pads q.mem qp ⟨q.obs.frames, q.obs.samples, q.obs.reads⟩).img.banks (LockD.mk img pads mem cpu ppu.tk apu.tk pad true steps ⟨frames, samples, reads⟩).img.banks, intsA (LockP.mk q.img q.pads q.mem qp ⟨q.obs.frames, q.obs.samples, q.obs.reads⟩).pads (LockD.mk img pads mem cpu ppu.tk apu.tk pad true steps ⟨frames, samples, reads⟩).pads, intsA (LockP.mk q.img q.pads q.mem qp ⟨q.obs.frames, q.obs.samples, q.obs.reads⟩).mem.ram (LockD.mk img pads mem cpu ppu.tk apu.tk pad true steps ⟨frames, samples, reads⟩).mem.ram, ppuA (LockD.mk img pads mem cpu ppu.tk apu.tk pad true steps ⟨frames, samples, reads⟩).ppu (LockP.mk q.img q.pads q.mem qp ⟨q.obs.frames, q.obs.samples, q.obs.reads⟩).ppu, frA (LockP.mk q.img q.pads q.mem qp ⟨q.obs.frames, q.obs.samples, q.obs.reads⟩).obs.frames (LockD.mk img pads mem cpu ppu.tk apu.tk pad true steps ⟨frames, samples, reads⟩).obs.frames, intsA (LockP.mk q.img q.pads q.mem qp ⟨q.obs.frames, q.obs.samples, q.obs.reads⟩).obs.samples (LockD.mk img pads mem cpu ppu.tk apu.tk pad true steps ⟨frames, samples, reads⟩).obs.samples, intsA (LockP.mk q.img q.pads q.mem qp ⟨q.obs.frames, q.obs.samples, q.obs.reads⟩).obs.reads (LockD.mk img pads mem cpu ppu.tk apu.tk pad true steps ⟨frames, samples, reads⟩).obs.reads]) pksA
          refine' back1 Tryz.results141 ?_ rfl ⟨(LockP.mk q.img q.pads q.mem qp ⟨q.obs.frames, q.obs.samples, q.obs.reads⟩), ?_, H_⟩; rotate_left 1; exact rvA
          rfl
      case true =>
        have HA := Lib.hid hs
        clear hs
        obtain ⟨ss, HX⟩ : ∃ ss : List Int, Hid (ss = samples ++ [apu.smp]) := ⟨_, Lib.hid rfl⟩
        have hz : (LockD.mk img pads mem cpu ppu apu pad true steps ⟨frames, samples, reads⟩).tickR = (LockD.mk img pads mem cpu ppu.tk apu.tk pad true steps ⟨frames, ss, reads⟩) := by rw [HX.out]; simp [LockD.tickR, HT.out, HA.out]
        rw [hz]
        clear hz
        go_enter Tryz.func141, Tryz.ntmps141; (try simp only [List.append_eq, List.cons_append, List.nil_append])
        go_wp2_with (first | (go_at_call 195; (with_reducible refine (spec_l8TickK ppu q.ppu _ (PpuIn.of (H.get (x := ppuA ppu q.ppu) pkA)) hp ht2_).mono ?_); rintro e w1 ⟨qp, qf, rfl, kk⟩; replace H := H.cN kk; clear kk) | (go_at_call 196; (with_reducible refine (spec_l10TickK apu _ ha hta_).mono ?_); rintro e w1 ⟨rfl, hb⟩; rw [HA.out]; (replace H := H.callB hb; clear hb)) | ((with_reducible refine g_buildSlice rfl ?_); refine ev_buildSlice1 (v := .int .i64 _) H rfl rfl rfl Tryz.underlying25 info_int (fill_int _) rfl (by decide) (by decide) (by decide) ?_; intro g_ W_ H_; (clear H; have H := H_; clear H_)) | ((with_reducible refine g_append rfl ?_); refine ev_appendN (xs := nums samples) (news := [.int .i64 apu.smp]) (N := ss.length) (cs' := nums ss) H rfl rfl Tryz.underlying25 info_int rfl (by decide) rfl rfl pkA (own_in (H.get pkA)) (fun h => by cases h) rfl rfl (by omega) (by unfold maxLen; omega) (by rw [HX.out]; simp) (by rw [HX.out]; simp [nums]) ?_; intro As_ cs_ W_ H_; (clear H; have H := H_; clear H_)) | ((with_reducible refine g_box rfl ?_); refine eBa H ?_; clear H; intro g_ W_ H) | ((with_reducible refine g_alloc rfl ?_); refine eNw H ?_; clear H; intro g_ W_ H) | ((with_reducible refine g_load rfl ?_); first | refine eL1 H ?_ | refine eLa H ?_) | ((with_reducible refine g_store rfl ?_); (first | refine eSb H ?_ | refine eSs H ?_ | refine eSa H ?_); clear H; intro W_ H))
        all_goals
          have H_ := H.take (xs := [frA (LockP.mk q.img q.pads q.mem qp ⟨q.obs.frames, ⟨As_, cs_⟩, q.obs.reads⟩).img.banks (LockD.mk img pads mem cpu ppu.tk apu.tk pad true steps ⟨frames, ss, reads⟩).img.banks, intsA (LockP.mk q.img q.pads q.mem qp ⟨q.obs.frames, ⟨As_, cs_⟩, q.obs.reads⟩).pads (LockD.mk img pads mem cpu ppu.tk apu.tk pad true steps ⟨frames, ss, reads⟩).pads, intsA (LockP.mk q.img q.pads q.mem qp ⟨q.obs.frames, ⟨As_, cs_⟩, q.obs.reads⟩).mem.ram (LockD.mk img pads mem cpu ppu.tk apu.tk pad true steps ⟨frames, ss, reads⟩).mem.ram, ppuA (LockD.mk img pads mem cpu ppu.tk apu.tk pad true steps ⟨frames, ss, reads⟩).ppu (LockP.mk q.img q.pads q.mem qp ⟨q.obs.frames, ⟨As_, cs_⟩, q.obs.reads⟩).ppu, frA (LockP.mk q.img q.pads q.mem qp ⟨q.obs.frames, ⟨As_, cs_⟩, q.obs.reads⟩).obs.frames (LockD.mk img pads mem cpu ppu.tk apu.tk pad true steps ⟨frames, ss, reads⟩).obs.frames, intsA (LockP.mk q.img q.pads q.mem qp ⟨q.obs.frames, ⟨As_, cs_⟩, q.obs.reads⟩).obs.samples (LockD.mk img pads mem cpu ppu.tk apu.tk pad true steps ⟨frames, ss, reads⟩).obs.samples, intsA (LockP.mk q.img q.pads q.mem qp ⟨q.obs.frames, ⟨As_, cs_⟩, q.obs.reads⟩).obs.reads (LockD.mk img pads mem cpu ppu.tk apu.tk pad true steps ⟨frames, ss, reads⟩).obs.reads]) pksA
          refine' back1 Tryz.results141 ?_ rfl ⟨(LockP.mk q.img q.pads q.mem qp ⟨q.obs.frames, ⟨As_, cs_⟩, q.obs.reads⟩), ?_, H_⟩; rotate_left 1; exact rvA
          rfl
    case true =>
      have ht48 : (ppu.t % 64 == 48) = true := ht
      have hmd : ppu.t.tmod 64 = ppu.t % 64 := tm t0_
      have HT := Lib.hid ht
      clear ht
      cases hs : apu.told
      case false =>
        have HA := Lib.hid hs
        clear hs
        obtain ⟨ff, HS⟩ : ∃ ff : List (List Int), Hid (ff = frames ++ [ppu.frame]) := ⟨_, Lib.hid rfl⟩
        have hz : (LockD.mk img pads mem cpu ppu apu pad true steps ⟨frames, samples, reads⟩).tickR = (LockD.mk img pads mem cpu ppu.tk apu.tk pad true steps ⟨ff, samples, reads⟩) := by rw [HS.out]; simp [LockD.tickR, HT.out, HA.out]
        rw [hz]
        clear hz
        have H_ := St.frOpen (q := q.obs.frames) (fs := frames) H pkA
        simp only [List.cons_append, List.nil_append] at H_
        (clear H; have H := H_; clear H_)
        go_enter Tryz.func141, Tryz.ntmps141; (try simp only [List.append_eq, List.cons_append, List.nil_append])
        go_wp2_with (first | (go_at_call 195; (with_reducible refine (spec_l8TickK ppu q.ppu _ (PpuIn.of (H.get (x := ppuA ppu q.ppu) pkA)) hp ht2_).mono ?_); rintro e w1 ⟨qp, qf, rfl, kk⟩; replace H := H.cN kk; clear kk) | (go_at_call 196; (with_reducible refine (spec_l10TickK apu _ ha hta_).mono ?_); rintro e w1 ⟨rfl, hb⟩; rw [HA.out]; (replace H := H.callB hb; clear hb)) | ((with_reducible refine g_buildSlice rfl ?_); refine ev_buildSlice1 (v := .slice _ _ _) H rfl rfl rfl Tryz.underlying22 info_ints (fill_sl _ _ _) rfl (by decide) (by decide) (by decide) ?_; intro g_ W_ H_; (clear H; have H := H_; clear H_)) | ((with_reducible refine g_append rfl ?_); refine ev_appendN (xs := rowVals frames _) (news := [.slice qf.A ppu.frame.length qf.c]) (N := ff.length) (cs' := rowVals ff (_ ++ [qf])) H rfl rfl Tryz.underlying22 info_ints rfl (by decide) rfl rfl pkA (own_in (H.get pkA)) (fun h => by cases h) rfl rfl (by omega) (by unfold maxLen; omega) (by rw [HS.out]; simp) (by rw [HS.out]; exact rowVals_more HR.out) ?_; intro A_ c_ W_ H_; (clear H; have H := H_; clear H_)) | ((with_reducible refine g_box rfl ?_); refine eBa H ?_; clear H; intro g_ W_ H) | ((with_reducible refine g_alloc rfl ?_); refine eNw H ?_; clear H; intro g_ W_ H) | ((with_reducible refine g_load rfl ?_); first | refine eL1 H ?_ | refine eLa H ?_) | ((with_reducible refine g_store rfl ?_); (first | refine eSb H ?_ | refine eSs H ?_ | refine eSa H ?_); clear H; intro W_ H))
        all_goals
          have H_ := St.frMore (fr := ppu.frame) (qf := qf) (qs := q.obs.frames.r) (A := A_) (c := c_) H HR.out HS.out pksA
          (clear H; have H := H_; clear H_)
          have H_ := H.take (xs := [frA (LockP.mk q.img q.pads q.mem qp ⟨⟨⟨A_, c_⟩, q.obs.frames.r ++ [qf]⟩, q.obs.samples, q.obs.reads⟩).img.banks (LockD.mk img pads mem cpu ppu.tk apu.tk pad true steps ⟨ff, samples, reads⟩).img.banks, intsA (LockP.mk q.img q.pads q.mem qp ⟨⟨⟨A_, c_⟩, q.obs.frames.r ++ [qf]⟩, q.obs.samples, q.obs.reads⟩).pads (LockD.mk img pads mem cpu ppu.tk apu.tk pad true steps ⟨ff, samples, reads⟩).pads, intsA (LockP.mk q.img q.pads q.mem qp ⟨⟨⟨A_, c_⟩, q.obs.frames.r ++ [qf]⟩, q.obs.samples, q.obs.reads⟩).mem.ram (LockD.mk img pads mem cpu ppu.tk apu.tk pad true steps ⟨ff, samples, reads⟩).mem.ram, ppuA (LockD.mk img pads mem cpu ppu.tk apu.tk pad true steps ⟨ff, samples, reads⟩).ppu (LockP.mk q.img q.pads q.mem qp ⟨⟨⟨A_, c_⟩, q.obs.frames.r ++ [qf]⟩, q.obs.samples, q.obs.reads⟩).ppu, frA (LockP.mk q.img q.pads q.mem qp ⟨⟨⟨A_, c_⟩, q.obs.frames.r ++ [qf]⟩, q.obs.samples, q.obs.reads⟩).obs.frames (LockD.mk img pads mem cpu ppu.tk apu.tk pad true steps ⟨ff, samples, reads⟩).obs.frames, intsA (LockP.mk q.img q.pads q.mem qp ⟨⟨⟨A_, c_⟩, q.obs.frames.r ++ [qf]⟩, q.obs.samples, q.obs.reads⟩).obs.samples (LockD.mk img pads mem cpu ppu.tk apu.tk pad true steps ⟨ff, samples, reads⟩).obs.samples, intsA (LockP.mk q.img q.pads q.mem qp ⟨⟨⟨A_, c_⟩, q.obs.frames.r ++ [qf]⟩, q.obs.samples, q.obs.reads⟩).obs.reads (LockD.mk img pads mem cpu ppu.tk apu.tk pad true steps ⟨ff, samples, reads⟩).obs.reads]) pksA
          refine' back1 Tryz.results141 ?_ rfl ⟨(LockP.mk q.img q.pads q.mem qp ⟨⟨⟨A_, c_⟩, q.obs.frames.r ++ [qf]⟩, q.obs.samples, q.obs.reads⟩), ?_, H_⟩; rotate_left 1; exact rvA
          rfl
      case true =>
        have HA := Lib.hid hs
        clear hs
        obtain ⟨ff, HS⟩ : ∃ ff : List (List Int), Hid (ff = frames ++ [ppu.frame]) := ⟨_, Lib.hid rfl⟩
        obtain ⟨ss, HX⟩ : ∃ ss : List Int, Hid (ss = samples ++ [apu.smp]) := ⟨_, Lib.hid rfl⟩
        have hz : (LockD.mk img pads mem cpu ppu apu pad true steps ⟨frames, samples, reads⟩).tickR = (LockD.mk img pads mem cpu ppu.tk apu.tk pad true steps ⟨ff, ss, reads⟩) := by rw [HS.out]; rw [HX.out]; simp [LockD.tickR, HT.out, HA.out]
        rw [hz]
        clear hz
        have H_ := St.frOpen (q := q.obs.frames) (fs := frames) H pkA
        simp only [List.cons_append, List.nil_append] at H_
        (clear H; have H := H_; clear H_)
        go_enter Tryz.func141, Tryz.ntmps141; (try simp only [List.append_eq, List.cons_append, List.nil_append])
        go_wp2_with (first | (go_at_call 195; (with_reducible refine (spec_l8TickK ppu q.ppu _ (PpuIn.of (H.get (x := ppuA ppu q.ppu) pkA)) hp ht2_).mono ?_); rintro e w1 ⟨qp, qf, rfl, kk⟩; replace H := H.cN kk; clear kk) | (go_at_call 196; (with_reducible refine (spec_l10TickK apu _ ha hta_).mono ?_); rintro e w1 ⟨rfl, hb⟩; rw [HA.out]; (replace H := H.callB hb; clear hb)) | ((with_reducible refine g_buildSlice rfl ?_); refine ev_buildSlice1 (v := .slice _ _ _) H rfl rfl rfl Tryz.underlying22 info_ints (fill_sl _ _ _) rfl (by decide) (by decide) (by decide) ?_; intro g_ W_ H_; (clear H; have H := H_; clear H_)) | ((with_reducible refine g_append rfl ?_); refine ev_appendN (xs := rowVals frames _) (news := [.slice qf.A ppu.frame.length qf.c]) (N := ff.length) (cs' := rowVals ff (_ ++ [qf])) H rfl rfl Tryz.underlying22 info_ints rfl (by decide) rfl rfl pkA (own_in (H.get pkA)) (fun h => by cases h) rfl rfl (by omega) (by unfold maxLen; omega) (by rw [HS.out]; simp) (by rw [HS.out]; exact rowVals_more HR.out) ?_; intro A_ c_ W_ H_; (clear H; have H := H_; clear H_)) | ((with_reducible refine g_buildSlice rfl ?_); refine ev_buildSlice1 (v := .int .i64 _) H rfl rfl rfl Tryz.underlying25 info_int (fill_int _) rfl (by decide) (by decide) (by decide) ?_; intro g_ W_ H_; (clear H; have H := H_; clear H_)) | ((with_reducible refine g_append rfl ?_); refine ev_appendN (xs := nums samples) (news := [.int .i64 apu.smp]) (N := ss.length) (cs' := nums ss) H rfl rfl Tryz.underlying25 info_int rfl (by decide) rfl rfl pkA (own_in (H.get pkA)) (fun h => by cases h) rfl rfl (by omega) (by unfold maxLen; omega) (by rw [HX.out]; simp) (by rw [HX.out]; simp [nums]) ?_; intro As_ cs_ W_ H_; (clear H; have H := H_; clear H_)) | ((with_reducible refine g_box rfl ?_); refine eBa H ?_; clear H; intro g_ W_ H) | ((with_reducible refine g_alloc rfl ?_); refine eNw H ?_; clear H; intro g_ W_ H) | ((with_reducible refine g_load rfl ?_); first | refine eL1 H ?_ | refine eLa H ?_) | ((with_reducible refine g_store rfl ?_); (first | refine eSb H ?_ | refine eSs H ?_ | refine eSa H ?_); clear H; intro W_ H))
        all_goals
          have H_ := St.frMore (fr := ppu.frame) (qf := qf) (qs := q.obs.frames.r) (A := A_) (c := c_) H HR.out HS.out pksA
          (clear H; have H := H_; clear H_)
          have H_ := H.take (xs := [frA (LockP.mk q.img q.pads q.mem qp ⟨⟨⟨A_, c_⟩, q.obs.frames.r ++ [qf]⟩, ⟨As_, cs_⟩, q.obs.reads⟩).img.banks (LockD.mk img pads mem cpu ppu.tk apu.tk pad true steps ⟨ff, ss, reads⟩).img.banks, intsA (LockP.mk q.img q.pads q.mem qp ⟨⟨⟨A_, c_⟩, q.obs.frames.r ++ [qf]⟩, ⟨As_, cs_⟩, q.obs.reads⟩).pads (LockD.mk img pads mem cpu ppu.tk apu.tk pad true steps ⟨ff, ss, reads⟩).pads, intsA (LockP.mk q.img q.pads q.mem qp ⟨⟨⟨A_, c_⟩, q.obs.frames.r ++ [qf]⟩, ⟨As_, cs_⟩, q.obs.reads⟩).mem.ram (LockD.mk img pads mem cpu ppu.tk apu.tk pad true steps ⟨ff, ss, reads⟩).mem.ram, ppuA (LockD.mk img pads mem cpu ppu.tk apu.tk pad true steps ⟨ff, ss, reads⟩).ppu (LockP.mk q.img q.pads q.mem qp ⟨⟨⟨A_, c_⟩, q.obs.frames.r ++ [qf]⟩, ⟨As_, cs_⟩, q.obs.reads⟩).ppu, frA (LockP.mk q.img q.pads q.mem qp ⟨⟨⟨A_, c_⟩, q.obs.frames.r ++ [qf]⟩, ⟨As_, cs_⟩, q.obs.reads⟩).obs.frames (LockD.mk img pads mem cpu ppu.tk apu.tk pad true steps ⟨ff, ss, reads⟩).obs.frames, intsA (LockP.mk q.img q.pads q.mem qp ⟨⟨⟨A_, c_⟩, q.obs.frames.r ++ [qf]⟩, ⟨As_, cs_⟩, q.obs.reads⟩).obs.samples (LockD.mk img pads mem cpu ppu.tk apu.tk pad true steps ⟨ff, ss, reads⟩).obs.samples, intsA (LockP.mk q.img q.pads q.mem qp ⟨⟨⟨A_, c_⟩, q.obs.frames.r ++ [qf]⟩, ⟨As_, cs_⟩, q.obs.reads⟩).obs.reads (LockD.mk img pads mem cpu ppu.tk apu.tk pad true steps ⟨ff, ss, reads⟩).obs.reads]) pksA
          refine' back1 Tryz.results141 ?_ rfl ⟨(LockP.mk q.img q.pads q.mem qp ⟨⟨⟨A_, c_⟩, q.obs.frames.r ++ [qf]⟩, ⟨As_, cs_⟩, q.obs.reads⟩), ?_, H_⟩; rotate_left 1; exact rvA
          rfl
end Go.Proofs.YtjgggmcnbdjdjaaGreat.C

