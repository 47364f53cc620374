/- A step of the machine in lock step, the program's. (written by ygen2.py) -/
import Derived.Test.YtjgggmcnbdjdjaaGreatY21
namespace Go.Proofs.YtjgggmcnbdjdjaaGreat.C
open Go.RowKit Go.Proofs.YtjgggmcnbdjdjaaGreat.K Go.Proofs.YtjgggmcnbdjdjaaGreat.B
attribute [local go_sem] max2_int min2_int max_two min_two i64_and255 i64_and65535 i64_and1
set_option maxRecDepth 20000
set_option linter.unusedVariables false
set_option linter.unusedSimpArgs false
set_option maxRecDepth 20000
theorem LockD.ticks_steps (l : LockD) (k : Nat) : (l.ticks k).steps = l.steps := by
  induction k with
  | zero => rfl
  | succ k ih => exact ih
set_option maxHeartbeats 64000000 in
theorem impl_lstep (l : LockD) (q : LockP) (g : Nat) (w : World) (hH : Hol w [Ast.blk g [.slice q.img.banks.s.A l.img.banks.length q.img.banks.s.c, .slice q.pads.A l.pads.length q.pads.c, .slice q.mem.ram.A l.mem.ram.length q.mem.ram.c, .int .i64 l.mem.bank, .int .i64 l.cpu.a, .int .i64 l.cpu.x, .int .i64 l.cpu.s, .int .i64 l.cpu.pc, .bool l.cpu.z, .bool l.cpu.n, .bool l.cpu.c, .bool l.cpu.i, .int .i64 l.ppu.t, .int .i64 l.ppu.ctrl, .int .i64 l.ppu.scroll, .int .i64 l.ppu.addr, .int .i64 l.ppu.pal, .bool l.ppu.blank, .slice q.ppu.table.A l.ppu.table.length q.ppu.table.c, .slice q.ppu.dots.A l.ppu.dots.length q.ppu.dots.c, .int .i64 l.apu.t, .int .i64 l.apu.p, .int .i64 l.apu.c, .int .i64 l.apu.b, .int .i64 l.apu.l, .bool l.apu.k, .bool l.apu.i, .bool l.pad.h, .int .i64 l.pad.s, .bool l.nmi, .int .i64 l.steps, .slice q.obs.frames.s.A l.obs.frames.length q.obs.frames.s.c, .slice q.obs.samples.A l.obs.samples.length q.obs.samples.c, .slice q.obs.reads.A l.obs.reads.length q.obs.reads.c] 49, frA q.img.banks l.img.banks, intsA q.pads l.pads, intsA q.mem.ram l.mem.ram, intsA q.ppu.table l.ppu.table, intsA q.ppu.dots l.ppu.dots, frA q.obs.frames l.obs.frames, intsA q.obs.samples l.obs.samples, intsA q.obs.reads l.obs.reads]) (hok : l.ok = true) (hsr : l.obs.reads.length ≤ 1048576) : Calls Tryz.prog 68 #[.pointer (some ⟨g, 0, none⟩)] w fun e w' => e = .returned (.bool l.goes) ∧ ∃ q' : LockP, St w ([Ast.blk g [.slice q.img.banks.s.A l.img.banks.length q.img.banks.s.c, .slice q.pads.A l.pads.length q.pads.c, .slice q.mem.ram.A l.mem.ram.length q.mem.ram.c, .int .i64 l.mem.bank, .int .i64 l.cpu.a, .int .i64 l.cpu.x, .int .i64 l.cpu.s, .int .i64 l.cpu.pc, .bool l.cpu.z, .bool l.cpu.n, .bool l.cpu.c, .bool l.cpu.i, .int .i64 l.ppu.t, .int .i64 l.ppu.ctrl, .int .i64 l.ppu.scroll, .int .i64 l.ppu.addr, .int .i64 l.ppu.pal, .bool l.ppu.blank, .slice q.ppu.table.A l.ppu.table.length q.ppu.table.c, .slice q.ppu.dots.A l.ppu.dots.length q.ppu.dots.c, .int .i64 l.apu.t, .int .i64 l.apu.p, .int .i64 l.apu.c, .int .i64 l.apu.b, .int .i64 l.apu.l, .bool l.apu.k, .bool l.apu.i, .bool l.pad.h, .int .i64 l.pad.s, .bool l.nmi, .int .i64 l.steps, .slice q.obs.frames.s.A l.obs.frames.length q.obs.frames.s.c, .slice q.obs.samples.A l.obs.samples.length q.obs.samples.c, .slice q.obs.reads.A l.obs.reads.length q.obs.reads.c] 49, frA q.img.banks l.img.banks, intsA q.pads l.pads, intsA q.mem.ram l.mem.ram, intsA q.ppu.table l.ppu.table, intsA q.ppu.dots l.ppu.dots, frA q.obs.frames l.obs.frames, intsA q.obs.samples l.obs.samples, intsA q.obs.reads l.obs.reads].flatMap Ast.fp) w' [Ast.blk g [.slice q'.img.banks.s.A l.stepR.img.banks.length q'.img.banks.s.c, .slice q'.pads.A l.stepR.pads.length q'.pads.c, .slice q'.mem.ram.A l.stepR.mem.ram.length q'.mem.ram.c, .int .i64 l.stepR.mem.bank, .int .i64 l.stepR.cpu.a, .int .i64 l.stepR.cpu.x, .int .i64 l.stepR.cpu.s, .int .i64 l.stepR.cpu.pc, .bool l.stepR.cpu.z, .bool l.stepR.cpu.n, .bool l.stepR.cpu.c, .bool l.stepR.cpu.i, .int .i64 l.stepR.ppu.t, .int .i64 l.stepR.ppu.ctrl, .int .i64 l.stepR.ppu.scroll, .int .i64 l.stepR.ppu.addr, .int .i64 l.stepR.ppu.pal, .bool l.stepR.ppu.blank, .slice q'.ppu.table.A l.stepR.ppu.table.length q'.ppu.table.c, .slice q'.ppu.dots.A l.stepR.ppu.dots.length q'.ppu.dots.c, .int .i64 l.stepR.apu.t, .int .i64 l.stepR.apu.p, .int .i64 l.stepR.apu.c, .int .i64 l.stepR.apu.b, .int .i64 l.stepR.apu.l, .bool l.stepR.apu.k, .bool l.stepR.apu.i, .bool l.stepR.pad.h, .int .i64 l.stepR.pad.s, .bool l.stepR.nmi, .int .i64 l.stepR.steps, .slice q'.obs.frames.s.A l.stepR.obs.frames.length q'.obs.frames.s.c, .slice q'.obs.samples.A l.stepR.obs.samples.length q'.obs.samples.c, .slice q'.obs.reads.A l.stepR.obs.reads.length q'.obs.reads.c] 49, frA q'.img.banks l.stepR.img.banks, intsA q'.pads l.stepR.pads, intsA q'.mem.ram l.stepR.mem.ram, intsA q'.ppu.table l.stepR.ppu.table, intsA q'.ppu.dots l.stepR.ppu.dots, frA q'.obs.frames l.stepR.obs.frames, intsA q'.obs.samples l.stepR.obs.samples, intsA q'.obs.reads l.stepR.obs.reads] := by
  have H := hH.st
  obtain ⟨⟨ca0, ca1⟩, hx_, cs_, ⟨p0_, p1_⟩⟩ := CpuD.ok_at (LockD.ok_at hok).2.2.1
  obtain ⟨t0_, t1_⟩ := (PpuD.ok_at (LockD.ok_at hok).2.2.2.1).1
  obtain ⟨s0_, s1_⟩ := (LockD.ok_at hok).2.2.2.2.2.2.2.1
  have hR := LockD.Rt.of hok
  have HM := Lib.hid hR.mem
  have HS := Lib.hid cs_
  have HI : Hid (0 ≤ (l.mem.fetch l.img l.cpu.pc).arg ∧ (l.mem.fetch l.img l.cpu.pc).arg ≤ 65535) := Lib.hid (MemD.fetch_in hR.mem _).2
  have hRD := hR.doR
  have htD := l.doR_t
  have hsD := l.doR_steps
  have hcy := l.cyc_in
  obtain ⟨n, hn⟩ : ∃ n : Nat, l.cyc = (n : Int) := ⟨l.cyc.toNat, by omega⟩
  have hn7 : n ≤ 7 := by omega
  have hz1 : l.stepR = if l.goes = true then (l.doR.ticks n).stepsUp else l := by unfold LockD.stepR; rw [show l.cyc.toNat = n by omega]
  have hgo : l.goes = decide (l.ppu.t + n ≤ 20000) := by unfold LockD.goes; rw [hn]
  have HK := Lib.hid hok
  obtain ⟨d, hd⟩ : ∃ d : LockD, l.doR = d := ⟨_, rfl⟩
  rw [hd] at hRD htD hsD hz1
  clear hok hR cs_ ca0 ca1 hx_
  generalize hF : List.flatMap Ast.fp _ = F at H ⊢
  clear hF hH hcy
  have hca : (l.nmi = true) ∨ (l.nmi = false ∧ l.apu.i = true ∧ l.cpu.i = false) ∨ (l.nmi = false ∧ l.apu.i = false) ∨ (l.nmi = false ∧ l.apu.i = true ∧ l.cpu.i = true) := by
    cases l.nmi <;> cases l.apu.i <;> cases l.cpu.i <;> simp
  rcases hca with h1 | ⟨h1, h2, h3⟩ | ⟨h1, h2⟩ | ⟨h1, h2, h3⟩
  · have hA : l.asked = true := by simp [LockD.asked, h1]
    have hD : l.doR = (LockD.intR (LockD.mk l.img l.pads l.mem l.cpu l.ppu l.apu l.pad false l.steps l.obs) 65530) := by unfold LockD.doR; rw [if_pos h1]; rfl
    have HD : Hid ((LockD.intR (LockD.mk l.img l.pads l.mem l.cpu l.ppu l.apu l.pad false l.steps l.obs) 65530) = d) := Lib.hid (by rw [← hd]; exact hD.symm)
    obtain rfl : n = 7 := by simp [LockD.cyc, hA] at hn; omega
    clear hD hA hd
    by_cases hg : l.ppu.t + 7 ≤ 20000
    · have hg1 : ¬ (20000 < l.ppu.t + 7) := by omega
      have hg2 : l.goes = true := by rw [hgo]; exact decide_eq_true (by omega)
      rw [hz1, hg2, if_pos rfl]
      clear hz1 hg2 hgo
      go_enter Tryz.func68, Tryz.ntmps68
      go_upto_region 2 with (first | ((with_reducible refine g_alloc rfl ?_); refine eNw H ?_; clear H; intro g_ W_ H) | ((with_reducible refine g_load rfl ?_); first | refine eL1 H ?_ | refine eLa H ?_) | ((with_reducible refine g_store rfl ?_); (first | refine eSi H ?_ | refine eSb H ?_ | refine eSa H ?_); clear H; intro W_ H))
      (with_reducible refine g_draw ?_)
      try simp only [Act.put, List.setIfInBounds_toArray, List.set_cons_succ, List.set_cons_zero]
      refine F_begin (ls := #[false, false, false, false, false, false, false, false, false, false, false, false, false, false, false, false]) (by kernel_rfl) rfl (by kernel_rfl) ?_
      have H_ := H.drew
      (clear H; have H := H_; clear H_)
      refine T_go [(0, 0, 25), (0, 1, 26), (0, 2, 27), (1, 3, 28), (0, 4, 29), (0, 5, 30), (0, 6, 31), (1, 7, 32), (0, 8, 33), (0, 9, 34), (0, 10, 35), (0, 11, 36), (1, 12, 37)] ?_; (repeat (first | refine T_pA ?_ | refine T_rA ?_)); refine T_end ?_
      refine' share ?_ ?_; rotate_left 1
      focus
        intro key1_; have H := H
        refine F_eff2 (ls1 := #[true, true, true, true, true, true, true, true, true, true, true, true, true, true, false, false]) (ls2 := #[true, true, true, true, true, true, true, true, true, true, true, true, true, false, true, false]) (pend1 := []) (pend2 := [12, 7, 3]) 13 14 _ _ rfl rfl (by kernel_rfl) (by kernel_rfl) (by kernel_rfl) (by kernel_rfl) (by kernel_rfl) (fun K_ hK_ => ?_) (fun K_ hK_ => ?_)
        focus
          (conv => (arg 4; arg 1; whnf)); (repeat (first | refine hK_ _ _ rfl ?_ ?_ | (go_big_may; (go_at_call 142; (with_reducible refine (impl_fetch l.img q.img l.mem q.mem l.cpu.pc _ ⟨InRR.ofFr (H.get (x := frA q.img.banks l.img.banks) pkA)⟩ ⟨InI.of (H.get (x := intsA q.mem.ram l.mem.ram) pkA)⟩ HM.out p0_ p1_).mono ?_); rintro e w1 ⟨rfl, hb⟩; (replace H := H.callB hb; clear hb))) | go_step | go_guarded | go_upon | dsimp only)); exact kept_nil; clear hK_
          refine F_eA (ls' := #[true, true, true, true, true, true, true, true, true, true, true, true, true, true, true, false]) (pend' := []) 14 ?_; intro K_ hK_; (conv => (arg 4; arg 1; whnf)); (repeat (first | refine hK_ _ _ rfl ?_ ?_ | (go_big_may; (first | ((with_reducible refine g_alloc rfl ?_); refine eNw H ?_; intro g_ W_ H_; (clear H; have H := St.toEnd H_; clear H_); simp only [List.cons_append, List.nil_append] at H) | ((with_reducible refine g_load rfl ?_); first | refine eL1 H ?_ | refine eLa H ?_) | ((with_reducible refine g_store rfl ?_); (first | refine eSi H ?_ | refine eSb H ?_ | refine eSa H ?_); clear H; intro W_ H))) | go_step | go_guarded | go_upon | dsimp only)); exact kept_nil; clear hK_
          (try simp only [Act.put, List.setIfInBounds_toArray, List.set_cons_succ, List.set_cons_zero])
          revert H; revert W_; revert g_; exact key1_.out
        focus
          (conv => (arg 4; arg 1; whnf)); (repeat (first | refine hK_ _ _ rfl ?_ ?_ | (go_big_may; (first | ((with_reducible refine g_alloc rfl ?_); refine eNw H ?_; intro g_ W_ H_; (clear H; have H := St.toEnd H_; clear H_); simp only [List.cons_append, List.nil_append] at H) | ((with_reducible refine g_load rfl ?_); first | refine eL1 H ?_ | refine eLa H ?_) | ((with_reducible refine g_store rfl ?_); (first | refine eSi H ?_ | refine eSb H ?_ | refine eSa H ?_); clear H; intro W_ H))) | go_step | go_guarded | go_upon | dsimp only)); (focus (refine kept_cA 12 37 ?_; refine kept_cA 7 32 ?_; refine kept_cA 3 28 ?_; exact kept_nil)); clear hK_
          refine F_eA (ls' := #[true, true, true, true, true, true, true, true, true, true, true, true, true, true, true, false]) (pend' := []) 13 ?_; intro K_ hK_; (conv => (arg 4; arg 1; whnf)); (repeat (first | refine hK_ _ _ rfl ?_ ?_ | (go_big_may; (go_at_call 142; (with_reducible refine (impl_fetch l.img q.img l.mem q.mem l.cpu.pc _ ⟨InRR.ofFr (H.get (x := frA q.img.banks l.img.banks) pkA)⟩ ⟨InI.of (H.get (x := intsA q.mem.ram l.mem.ram) pkA)⟩ HM.out p0_ p1_).mono ?_); rintro e w1 ⟨rfl, hb⟩; (replace H := H.callB hb; clear hb))) | go_step | go_guarded | go_upon | dsimp only)); exact kept_nil; clear hK_
          (try simp only [Act.put, List.setIfInBounds_toArray, List.set_cons_succ, List.set_cons_zero])
          revert H; revert w1; revert g_; exact key1_.out
      intro g_ w1 H
      refine F_eA (ls' := #[true, true, true, true, true, true, true, true, true, true, true, true, true, true, true, true]) (pend' := []) 15 ?_; intro K_ hK_; (conv => (arg 4; arg 1; whnf)); (repeat (first | refine hK_ _ _ rfl ?_ ?_ | (go_big_may; (first | ((with_reducible refine g_load rfl ?_); first | refine eL1 H ?_ | refine eLa H ?_) | ((with_reducible refine g_alloc rfl ?_); refine eNw H ?_; clear H; intro g_ W_ H) | ((with_reducible refine g_store rfl ?_); (first | refine eSi H ?_ | refine eSb H ?_ | refine eSa H ?_); clear H; intro W_ H))) | go_step | go_guarded | go_upon | dsimp only)); exact kept_nil
      refine F_done (by kernel_rfl) ?_
      go_wp2_with (first | (go_at_call 143; (with_reducible refine (impl_OpCycles _ _).mono ?_); rintro e w1 ⟨rfl, rfl⟩) | (go_at_call 144; (with_reducible refine (impl_interrupt (LockD.mk l.img l.pads l.mem l.cpu l.ppu l.apu l.pad false l.steps l.obs) q 65530 g _ (St.holL (H.picks (xs := [Ast.blk g _ _, frA q.img.banks _, intsA q.pads _, intsA q.mem.ram _, intsA q.ppu.table _, intsA q.ppu.dots _, frA q.obs.frames _, intsA q.obs.samples _, intsA q.obs.reads _]) pksA)) HM.out HS.out (by decide) (by decide)).mono ?_); rintro e w1 ⟨rfl, kk⟩; rw [HD.out] at kk; replace H := St.uN (H.picks (xs := [Ast.blk g _ _, frA q.img.banks _, intsA q.pads _, intsA q.mem.ram _, intsA q.ppu.table _, intsA q.ppu.dots _, frA q.obs.frames _, intsA q.obs.samples _, intsA q.obs.reads _]) pksA) kk; clear kk) | ((with_reducible refine g_alloc rfl ?_); refine eNw H ?_; clear H; intro g_ W_ H) | ((with_reducible refine g_load rfl ?_); first | refine eL1 H ?_ | refine eLa H ?_) | ((with_reducible refine g_store rfl ?_); (first | refine eSi H ?_ | refine eSb H ?_ | refine eSa H ?_); clear H; intro W_ H))
      have H_ := H.take (xs := [Ast.blk g _ _, frA q.img.banks _, intsA q.pads _, intsA q.mem.ram _, intsA q.ppu.table _, intsA q.ppu.dots _, frA q.obs.frames _, intsA q.obs.samples _, intsA q.obs.reads _]) pksA
      (clear H; have H := H_; clear H_)
      go_loopg [69] 7 (fun k v wr => ∃ (i : Nat) (qy : LockP), v = .int .i64 (i : Int) ∧ Hid (i ≤ 7 ∧ k = 7 - i) ∧ St w F wr [Ast.blk g [.slice qy.img.banks.s.A (LockD.ticks d i).img.banks.length qy.img.banks.s.c, .slice qy.pads.A (LockD.ticks d i).pads.length qy.pads.c, .slice qy.mem.ram.A (LockD.ticks d i).mem.ram.length qy.mem.ram.c, .int .i64 (LockD.ticks d i).mem.bank, .int .i64 (LockD.ticks d i).cpu.a, .int .i64 (LockD.ticks d i).cpu.x, .int .i64 (LockD.ticks d i).cpu.s, .int .i64 (LockD.ticks d i).cpu.pc, .bool (LockD.ticks d i).cpu.z, .bool (LockD.ticks d i).cpu.n, .bool (LockD.ticks d i).cpu.c, .bool (LockD.ticks d i).cpu.i, .int .i64 (LockD.ticks d i).ppu.t, .int .i64 (LockD.ticks d i).ppu.ctrl, .int .i64 (LockD.ticks d i).ppu.scroll, .int .i64 (LockD.ticks d i).ppu.addr, .int .i64 (LockD.ticks d i).ppu.pal, .bool (LockD.ticks d i).ppu.blank, .slice qy.ppu.table.A (LockD.ticks d i).ppu.table.length qy.ppu.table.c, .slice qy.ppu.dots.A (LockD.ticks d i).ppu.dots.length qy.ppu.dots.c, .int .i64 (LockD.ticks d i).apu.t, .int .i64 (LockD.ticks d i).apu.p, .int .i64 (LockD.ticks d i).apu.c, .int .i64 (LockD.ticks d i).apu.b, .int .i64 (LockD.ticks d i).apu.l, .bool (LockD.ticks d i).apu.k, .bool (LockD.ticks d i).apu.i, .bool (LockD.ticks d i).pad.h, .int .i64 (LockD.ticks d i).pad.s, .bool (LockD.ticks d i).nmi, .int .i64 (LockD.ticks d i).steps, .slice qy.obs.frames.s.A (LockD.ticks d i).obs.frames.length qy.obs.frames.s.c, .slice qy.obs.samples.A (LockD.ticks d i).obs.samples.length qy.obs.samples.c, .slice qy.obs.reads.A (LockD.ticks d i).obs.reads.length qy.obs.reads.c] 49, frA qy.img.banks (LockD.ticks d i).img.banks, intsA qy.pads (LockD.ticks d i).pads, intsA qy.mem.ram (LockD.ticks d i).mem.ram, intsA qy.ppu.table (LockD.ticks d i).ppu.table, intsA qy.ppu.dots (LockD.ticks d i).ppu.dots, frA qy.obs.frames (LockD.ticks d i).obs.frames, intsA qy.obs.samples (LockD.ticks d i).obs.samples, intsA qy.obs.reads (LockD.ticks d i).obs.reads])
      case atStart => exact ⟨0, q, rfl, Lib.hid ⟨by omega, by omega⟩, H⟩
      case round =>
        clear H
        obtain ⟨i, qy, rfl, HJ, H⟩ := hrel
        obtain ⟨j1, j2⟩ := HJ.out
        by_cases hi : (i : Int) < 7
        · obtain ⟨r1, r2⟩ := LockD.ticks_rk hRD (k := i) (by omega)
          have HT : Hid ((LockD.ticks d i).ppu.ok = true ∧ (LockD.ticks d i).apu.ok = true ∧ (LockD.ticks d i).obs.frames.length ≤ 1000 ∧ (LockD.ticks d i).obs.samples.length ≤ 10000) := Lib.hid ⟨r1.ppu, r1.apu, by have := r1.fr; omega, by have := r1.sm; omega⟩
          clear r1 r2
          go_wp2_with (first | (go_at_call 146; (with_reducible refine (impl_ltick (LockD.ticks d i) qy g _ (St.holL (H.picks (xs := [Ast.blk g _ _, frA qy.img.banks _, intsA qy.pads _, intsA qy.mem.ram _, intsA qy.ppu.table _, intsA qy.ppu.dots _, frA qy.obs.frames _, intsA qy.obs.samples _, intsA qy.obs.reads _]) pksA)) HT.out.1 HT.out.2.1 HT.out.2.2.1 HT.out.2.2.2).mono ?_); rintro e w1 ⟨rfl, q2_, kk⟩; replace H := St.uN (H.picks (xs := [Ast.blk g _ _, frA qy.img.banks _, intsA qy.pads _, intsA qy.mem.ram _, intsA qy.ppu.table _, intsA qy.ppu.dots _, frA qy.obs.frames _, intsA qy.obs.samples _, intsA qy.obs.reads _]) pksA) kk; clear kk) | ((with_reducible refine g_alloc rfl ?_); refine eNw H ?_; clear H; intro g_ W_ H) | ((with_reducible refine g_load rfl ?_); first | refine eL1 H ?_ | refine eLa H ?_) | ((with_reducible refine g_store rfl ?_); (first | refine eSi H ?_ | refine eSb H ?_ | refine eSa H ?_); clear H; intro W_ H))
          have H_ := H.take (xs := [Ast.blk g _ _, frA q2_.img.banks _, intsA q2_.pads _, intsA q2_.mem.ram _, intsA q2_.ppu.table _, intsA q2_.ppu.dots _, frA q2_.obs.frames _, intsA q2_.obs.samples _, intsA q2_.obs.reads _]) pksA
          go_roundg (7 - (i + 1))
          case rel => exact ⟨i + 1, q2_, by simp, Lib.hid ⟨by omega, rfl⟩, H_⟩
          case measure => omega
        · have hin : i = 7 := by omega
          subst hin
          have hst := LockD.ticks_steps d 7
          have hst0 : 0 ≤ (LockD.ticks d 7).steps := by omega
          have hst1 : (LockD.ticks d 7).steps ≤ 20000 := by omega
          clear hst
          go_wp2_with (first | ((with_reducible refine g_alloc rfl ?_); refine eNw H ?_; clear H; intro g_ W_ H) | ((with_reducible refine g_load rfl ?_); first | refine eL1 H ?_ | refine eLa H ?_) | ((with_reducible refine g_store rfl ?_); (first | refine eSi H ?_ | refine eSb H ?_ | refine eSa H ?_); clear H; intro W_ H))
          have H_ := H.take (xs := [Ast.blk g _ _, frA qy.img.banks _, intsA qy.pads _, intsA qy.mem.ram _, intsA qy.ppu.table _, intsA qy.ppu.dots _, frA qy.obs.frames _, intsA qy.obs.samples _, intsA qy.obs.reads _]) pksA
          refine' back1 Tryz.results68 ?_ rfl ⟨?_, qy, H_⟩; rotate_left 1; exact rvA
          rfl
    · have hg1 : 20000 < l.ppu.t + 7 := by omega
      have hg2 : l.goes = false := by rw [hgo]; exact decide_eq_false (by omega)
      rw [hz1, hg2, if_neg (by decide)]
      clear hz1 hg2 hgo hg
      go_enter Tryz.func68, Tryz.ntmps68
      go_upto_region 2 with (first | ((with_reducible refine g_alloc rfl ?_); refine eNw H ?_; clear H; intro g_ W_ H) | ((with_reducible refine g_load rfl ?_); first | refine eL1 H ?_ | refine eLa H ?_) | ((with_reducible refine g_store rfl ?_); (first | refine eSi H ?_ | refine eSb H ?_ | refine eSa H ?_); clear H; intro W_ H))
      (with_reducible refine g_draw ?_)
      try simp only [Act.put, List.setIfInBounds_toArray, List.set_cons_succ, List.set_cons_zero]
      refine F_begin (ls := #[false, false, false, false, false, false, false, false, false, false, false, false, false, false, false, false]) (by kernel_rfl) rfl (by kernel_rfl) ?_
      have H_ := H.drew
      (clear H; have H := H_; clear H_)
      refine T_go [(0, 0, 25), (0, 1, 26), (0, 2, 27), (1, 3, 28), (0, 4, 29), (0, 5, 30), (0, 6, 31), (1, 7, 32), (0, 8, 33), (0, 9, 34), (0, 10, 35), (0, 11, 36), (1, 12, 37)] ?_; (repeat (first | refine T_pA ?_ | refine T_rA ?_)); refine T_end ?_
      refine' share ?_ ?_; rotate_left 1
      focus
        intro key1_; have H := H
        refine F_eff2 (ls1 := #[true, true, true, true, true, true, true, true, true, true, true, true, true, true, false, false]) (ls2 := #[true, true, true, true, true, true, true, true, true, true, true, true, true, false, true, false]) (pend1 := []) (pend2 := [12, 7, 3]) 13 14 _ _ rfl rfl (by kernel_rfl) (by kernel_rfl) (by kernel_rfl) (by kernel_rfl) (by kernel_rfl) (fun K_ hK_ => ?_) (fun K_ hK_ => ?_)
        focus
          (conv => (arg 4; arg 1; whnf)); (repeat (first | refine hK_ _ _ rfl ?_ ?_ | (go_big_may; (go_at_call 142; (with_reducible refine (impl_fetch l.img q.img l.mem q.mem l.cpu.pc _ ⟨InRR.ofFr (H.get (x := frA q.img.banks l.img.banks) pkA)⟩ ⟨InI.of (H.get (x := intsA q.mem.ram l.mem.ram) pkA)⟩ HM.out p0_ p1_).mono ?_); rintro e w1 ⟨rfl, hb⟩; (replace H := H.callB hb; clear hb))) | go_step | go_guarded | go_upon | dsimp only)); exact kept_nil; clear hK_
          refine F_eA (ls' := #[true, true, true, true, true, true, true, true, true, true, true, true, true, true, true, false]) (pend' := []) 14 ?_; intro K_ hK_; (conv => (arg 4; arg 1; whnf)); (repeat (first | refine hK_ _ _ rfl ?_ ?_ | (go_big_may; (first | ((with_reducible refine g_alloc rfl ?_); refine eNw H ?_; intro g_ W_ H_; (clear H; have H := St.toEnd H_; clear H_); simp only [List.cons_append, List.nil_append] at H) | ((with_reducible refine g_load rfl ?_); first | refine eL1 H ?_ | refine eLa H ?_) | ((with_reducible refine g_store rfl ?_); (first | refine eSi H ?_ | refine eSb H ?_ | refine eSa H ?_); clear H; intro W_ H))) | go_step | go_guarded | go_upon | dsimp only)); exact kept_nil; clear hK_
          (try simp only [Act.put, List.setIfInBounds_toArray, List.set_cons_succ, List.set_cons_zero])
          revert H; revert W_; revert g_; exact key1_.out
        focus
          (conv => (arg 4; arg 1; whnf)); (repeat (first | refine hK_ _ _ rfl ?_ ?_ | (go_big_may; (first | ((with_reducible refine g_alloc rfl ?_); refine eNw H ?_; intro g_ W_ H_; (clear H; have H := St.toEnd H_; clear H_); simp only [List.cons_append, List.nil_append] at H) | ((with_reducible refine g_load rfl ?_); first | refine eL1 H ?_ | refine eLa H ?_) | ((with_reducible refine g_store rfl ?_); (first | refine eSi H ?_ | refine eSb H ?_ | refine eSa H ?_); clear H; intro W_ H))) | go_step | go_guarded | go_upon | dsimp only)); (focus (refine kept_cA 12 37 ?_; refine kept_cA 7 32 ?_; refine kept_cA 3 28 ?_; exact kept_nil)); clear hK_
          refine F_eA (ls' := #[true, true, true, true, true, true, true, true, true, true, true, true, true, true, true, false]) (pend' := []) 13 ?_; intro K_ hK_; (conv => (arg 4; arg 1; whnf)); (repeat (first | refine hK_ _ _ rfl ?_ ?_ | (go_big_may; (go_at_call 142; (with_reducible refine (impl_fetch l.img q.img l.mem q.mem l.cpu.pc _ ⟨InRR.ofFr (H.get (x := frA q.img.banks l.img.banks) pkA)⟩ ⟨InI.of (H.get (x := intsA q.mem.ram l.mem.ram) pkA)⟩ HM.out p0_ p1_).mono ?_); rintro e w1 ⟨rfl, hb⟩; (replace H := H.callB hb; clear hb))) | go_step | go_guarded | go_upon | dsimp only)); exact kept_nil; clear hK_
          (try simp only [Act.put, List.setIfInBounds_toArray, List.set_cons_succ, List.set_cons_zero])
          revert H; revert w1; revert g_; exact key1_.out
      intro g_ w1 H
      refine F_eA (ls' := #[true, true, true, true, true, true, true, true, true, true, true, true, true, true, true, true]) (pend' := []) 15 ?_; intro K_ hK_; (conv => (arg 4; arg 1; whnf)); (repeat (first | refine hK_ _ _ rfl ?_ ?_ | (go_big_may; (first | ((with_reducible refine g_load rfl ?_); first | refine eL1 H ?_ | refine eLa H ?_) | ((with_reducible refine g_alloc rfl ?_); refine eNw H ?_; clear H; intro g_ W_ H) | ((with_reducible refine g_store rfl ?_); (first | refine eSi H ?_ | refine eSb H ?_ | refine eSa H ?_); clear H; intro W_ H))) | go_step | go_guarded | go_upon | dsimp only)); exact kept_nil
      refine F_done (by kernel_rfl) ?_
      go_wp2_with (first | (go_at_call 143; (with_reducible refine (impl_OpCycles _ _).mono ?_); rintro e w1 ⟨rfl, rfl⟩) | ((with_reducible refine g_alloc rfl ?_); refine eNw H ?_; clear H; intro g_ W_ H) | ((with_reducible refine g_load rfl ?_); first | refine eL1 H ?_ | refine eLa H ?_) | ((with_reducible refine g_store rfl ?_); (first | refine eSi H ?_ | refine eSb H ?_ | refine eSa H ?_); clear H; intro W_ H))
      have H_ := H.take (xs := [Ast.blk g _ _, frA q.img.banks _, intsA q.pads _, intsA q.mem.ram _, intsA q.ppu.table _, intsA q.ppu.dots _, frA q.obs.frames _, intsA q.obs.samples _, intsA q.obs.reads _]) pksA
      refine' back1 Tryz.results68 ?_ rfl ⟨?_, q, H_⟩; rotate_left 1; exact rvA
      rfl
  · have hA : l.asked = true := by simp [LockD.asked, h1, h2, h3]
    have hD : l.doR = (l.intR 65534) := by unfold LockD.doR; rw [if_neg (by simp [h1]), if_pos hA]
    have HD : Hid ((l.intR 65534) = d) := Lib.hid (by rw [← hd]; exact hD.symm)
    obtain rfl : n = 7 := by simp [LockD.cyc, hA] at hn; omega
    clear hD hA hd
    by_cases hg : l.ppu.t + 7 ≤ 20000
    · have hg1 : ¬ (20000 < l.ppu.t + 7) := by omega
      have hg2 : l.goes = true := by rw [hgo]; exact decide_eq_true (by omega)
      rw [hz1, hg2, if_pos rfl]
      clear hz1 hg2 hgo
      go_enter Tryz.func68, Tryz.ntmps68
      go_upto_region 2 with (first | ((with_reducible refine g_alloc rfl ?_); refine eNw H ?_; clear H; intro g_ W_ H) | ((with_reducible refine g_load rfl ?_); first | refine eL1 H ?_ | refine eLa H ?_) | ((with_reducible refine g_store rfl ?_); (first | refine eSi H ?_ | refine eSb H ?_ | refine eSa H ?_); clear H; intro W_ H))
      (with_reducible refine g_draw ?_)
      try simp only [Act.put, List.setIfInBounds_toArray, List.set_cons_succ, List.set_cons_zero]
      refine F_begin (ls := #[false, false, false, false, false, false, false, false, false, false, false, false, false, false, false, false]) (by kernel_rfl) rfl (by kernel_rfl) ?_
      have H_ := H.drew
      (clear H; have H := H_; clear H_)
      refine T_go [(0, 0, 25), (0, 1, 26), (0, 2, 27), (1, 3, 28), (0, 4, 29), (0, 5, 30), (0, 6, 31), (1, 7, 32), (0, 8, 33), (0, 9, 34), (0, 10, 35), (0, 11, 36), (1, 12, 37)] ?_; (repeat (first | refine T_pA ?_ | refine T_rA ?_)); refine T_end ?_
      refine' share ?_ ?_; rotate_left 1
      focus
        intro key1_; have H := H
        refine F_eff2 (ls1 := #[true, true, true, true, true, true, true, true, true, true, true, true, true, true, false, false]) (ls2 := #[true, true, true, true, true, true, true, true, true, true, true, true, true, false, true, false]) (pend1 := []) (pend2 := [12, 7, 3]) 13 14 _ _ rfl rfl (by kernel_rfl) (by kernel_rfl) (by kernel_rfl) (by kernel_rfl) (by kernel_rfl) (fun K_ hK_ => ?_) (fun K_ hK_ => ?_)
        focus
          (conv => (arg 4; arg 1; whnf)); (repeat (first | refine hK_ _ _ rfl ?_ ?_ | (go_big_may; (go_at_call 142; (with_reducible refine (impl_fetch l.img q.img l.mem q.mem l.cpu.pc _ ⟨InRR.ofFr (H.get (x := frA q.img.banks l.img.banks) pkA)⟩ ⟨InI.of (H.get (x := intsA q.mem.ram l.mem.ram) pkA)⟩ HM.out p0_ p1_).mono ?_); rintro e w1 ⟨rfl, hb⟩; (replace H := H.callB hb; clear hb))) | go_step | go_guarded | go_upon | dsimp only)); exact kept_nil; clear hK_
          refine F_eA (ls' := #[true, true, true, true, true, true, true, true, true, true, true, true, true, true, true, false]) (pend' := []) 14 ?_; intro K_ hK_; (conv => (arg 4; arg 1; whnf)); (repeat (first | refine hK_ _ _ rfl ?_ ?_ | (go_big_may; (first | ((with_reducible refine g_alloc rfl ?_); refine eNw H ?_; intro g_ W_ H_; (clear H; have H := St.toEnd H_; clear H_); simp only [List.cons_append, List.nil_append] at H) | ((with_reducible refine g_load rfl ?_); first | refine eL1 H ?_ | refine eLa H ?_) | ((with_reducible refine g_store rfl ?_); (first | refine eSi H ?_ | refine eSb H ?_ | refine eSa H ?_); clear H; intro W_ H))) | go_step | go_guarded | go_upon | dsimp only)); exact kept_nil; clear hK_
          (try simp only [Act.put, List.setIfInBounds_toArray, List.set_cons_succ, List.set_cons_zero])
          revert H; revert W_; revert g_; exact key1_.out
        focus
          (conv => (arg 4; arg 1; whnf)); (repeat (first | refine hK_ _ _ rfl ?_ ?_ | (go_big_may; (first | ((with_reducible refine g_alloc rfl ?_); refine eNw H ?_; intro g_ W_ H_; (clear H; have H := St.toEnd H_; clear H_); simp only [List.cons_append, List.nil_append] at H) | ((with_reducible refine g_load rfl ?_); first | refine eL1 H ?_ | refine eLa H ?_) | ((with_reducible refine g_store rfl ?_); (first | refine eSi H ?_ | refine eSb H ?_ | refine eSa H ?_); clear H; intro W_ H))) | go_step | go_guarded | go_upon | dsimp only)); (focus (refine kept_cA 12 37 ?_; refine kept_cA 7 32 ?_; refine kept_cA 3 28 ?_; exact kept_nil)); clear hK_
          refine F_eA (ls' := #[true, true, true, true, true, true, true, true, true, true, true, true, true, true, true, false]) (pend' := []) 13 ?_; intro K_ hK_; (conv => (arg 4; arg 1; whnf)); (repeat (first | refine hK_ _ _ rfl ?_ ?_ | (go_big_may; (go_at_call 142; (with_reducible refine (impl_fetch l.img q.img l.mem q.mem l.cpu.pc _ ⟨InRR.ofFr (H.get (x := frA q.img.banks l.img.banks) pkA)⟩ ⟨InI.of (H.get (x := intsA q.mem.ram l.mem.ram) pkA)⟩ HM.out p0_ p1_).mono ?_); rintro e w1 ⟨rfl, hb⟩; (replace H := H.callB hb; clear hb))) | go_step | go_guarded | go_upon | dsimp only)); exact kept_nil; clear hK_
          (try simp only [Act.put, List.setIfInBounds_toArray, List.set_cons_succ, List.set_cons_zero])
          revert H; revert w1; revert g_; exact key1_.out
      intro g_ w1 H
      refine F_eA (ls' := #[true, true, true, true, true, true, true, true, true, true, true, true, true, true, true, true]) (pend' := []) 15 ?_; intro K_ hK_; (conv => (arg 4; arg 1; whnf)); (repeat (first | refine hK_ _ _ rfl ?_ ?_ | (go_big_may; (first | ((with_reducible refine g_load rfl ?_); first | refine eL1 H ?_ | refine eLa H ?_) | ((with_reducible refine g_alloc rfl ?_); refine eNw H ?_; clear H; intro g_ W_ H) | ((with_reducible refine g_store rfl ?_); (first | refine eSi H ?_ | refine eSb H ?_ | refine eSa H ?_); clear H; intro W_ H))) | go_step | go_guarded | go_upon | dsimp only)); exact kept_nil
      refine F_done (by kernel_rfl) ?_
      go_wp2_with (first | (go_at_call 143; (with_reducible refine (impl_OpCycles _ _).mono ?_); rintro e w1 ⟨rfl, rfl⟩) | (go_at_call 144; (with_reducible refine (impl_interrupt l q 65534 g _ (St.holL (H.picks (xs := [Ast.blk g _ _, frA q.img.banks _, intsA q.pads _, intsA q.mem.ram _, intsA q.ppu.table _, intsA q.ppu.dots _, frA q.obs.frames _, intsA q.obs.samples _, intsA q.obs.reads _]) pksA)) HM.out HS.out (by decide) (by decide)).mono ?_); rintro e w1 ⟨rfl, kk⟩; rw [HD.out] at kk; replace H := St.uN (H.picks (xs := [Ast.blk g _ _, frA q.img.banks _, intsA q.pads _, intsA q.mem.ram _, intsA q.ppu.table _, intsA q.ppu.dots _, frA q.obs.frames _, intsA q.obs.samples _, intsA q.obs.reads _]) pksA) kk; clear kk) | ((with_reducible refine g_alloc rfl ?_); refine eNw H ?_; clear H; intro g_ W_ H) | ((with_reducible refine g_load rfl ?_); first | refine eL1 H ?_ | refine eLa H ?_) | ((with_reducible refine g_store rfl ?_); (first | refine eSi H ?_ | refine eSb H ?_ | refine eSa H ?_); clear H; intro W_ H))
      have H_ := H.take (xs := [Ast.blk g _ _, frA q.img.banks _, intsA q.pads _, intsA q.mem.ram _, intsA q.ppu.table _, intsA q.ppu.dots _, frA q.obs.frames _, intsA q.obs.samples _, intsA q.obs.reads _]) pksA
      (clear H; have H := H_; clear H_)
      go_loopg [69] 7 (fun k v wr => ∃ (i : Nat) (qy : LockP), v = .int .i64 (i : Int) ∧ Hid (i ≤ 7 ∧ k = 7 - i) ∧ St w F wr [Ast.blk g [.slice qy.img.banks.s.A (LockD.ticks d i).img.banks.length qy.img.banks.s.c, .slice qy.pads.A (LockD.ticks d i).pads.length qy.pads.c, .slice qy.mem.ram.A (LockD.ticks d i).mem.ram.length qy.mem.ram.c, .int .i64 (LockD.ticks d i).mem.bank, .int .i64 (LockD.ticks d i).cpu.a, .int .i64 (LockD.ticks d i).cpu.x, .int .i64 (LockD.ticks d i).cpu.s, .int .i64 (LockD.ticks d i).cpu.pc, .bool (LockD.ticks d i).cpu.z, .bool (LockD.ticks d i).cpu.n, .bool (LockD.ticks d i).cpu.c, .bool (LockD.ticks d i).cpu.i, .int .i64 (LockD.ticks d i).ppu.t, .int .i64 (LockD.ticks d i).ppu.ctrl, .int .i64 (LockD.ticks d i).ppu.scroll, .int .i64 (LockD.ticks d i).ppu.addr, .int .i64 (LockD.ticks d i).ppu.pal, .bool (LockD.ticks d i).ppu.blank, .slice qy.ppu.table.A (LockD.ticks d i).ppu.table.length qy.ppu.table.c, .slice qy.ppu.dots.A (LockD.ticks d i).ppu.dots.length qy.ppu.dots.c, .int .i64 (LockD.ticks d i).apu.t, .int .i64 (LockD.ticks d i).apu.p, .int .i64 (LockD.ticks d i).apu.c, .int .i64 (LockD.ticks d i).apu.b, .int .i64 (LockD.ticks d i).apu.l, .bool (LockD.ticks d i).apu.k, .bool (LockD.ticks d i).apu.i, .bool (LockD.ticks d i).pad.h, .int .i64 (LockD.ticks d i).pad.s, .bool (LockD.ticks d i).nmi, .int .i64 (LockD.ticks d i).steps, .slice qy.obs.frames.s.A (LockD.ticks d i).obs.frames.length qy.obs.frames.s.c, .slice qy.obs.samples.A (LockD.ticks d i).obs.samples.length qy.obs.samples.c, .slice qy.obs.reads.A (LockD.ticks d i).obs.reads.length qy.obs.reads.c] 49, frA qy.img.banks (LockD.ticks d i).img.banks, intsA qy.pads (LockD.ticks d i).pads, intsA qy.mem.ram (LockD.ticks d i).mem.ram, intsA qy.ppu.table (LockD.ticks d i).ppu.table, intsA qy.ppu.dots (LockD.ticks d i).ppu.dots, frA qy.obs.frames (LockD.ticks d i).obs.frames, intsA qy.obs.samples (LockD.ticks d i).obs.samples, intsA qy.obs.reads (LockD.ticks d i).obs.reads])
      case atStart => exact ⟨0, q, rfl, Lib.hid ⟨by omega, by omega⟩, H⟩
      case round =>
        clear H
        obtain ⟨i, qy, rfl, HJ, H⟩ := hrel
        obtain ⟨j1, j2⟩ := HJ.out
        by_cases hi : (i : Int) < 7
        · obtain ⟨r1, r2⟩ := LockD.ticks_rk hRD (k := i) (by omega)
          have HT : Hid ((LockD.ticks d i).ppu.ok = true ∧ (LockD.ticks d i).apu.ok = true ∧ (LockD.ticks d i).obs.frames.length ≤ 1000 ∧ (LockD.ticks d i).obs.samples.length ≤ 10000) := Lib.hid ⟨r1.ppu, r1.apu, by have := r1.fr; omega, by have := r1.sm; omega⟩
          clear r1 r2
          go_wp2_with (first | (go_at_call 146; (with_reducible refine (impl_ltick (LockD.ticks d i) qy g _ (St.holL (H.picks (xs := [Ast.blk g _ _, frA qy.img.banks _, intsA qy.pads _, intsA qy.mem.ram _, intsA qy.ppu.table _, intsA qy.ppu.dots _, frA qy.obs.frames _, intsA qy.obs.samples _, intsA qy.obs.reads _]) pksA)) HT.out.1 HT.out.2.1 HT.out.2.2.1 HT.out.2.2.2).mono ?_); rintro e w1 ⟨rfl, q2_, kk⟩; replace H := St.uN (H.picks (xs := [Ast.blk g _ _, frA qy.img.banks _, intsA qy.pads _, intsA qy.mem.ram _, intsA qy.ppu.table _, intsA qy.ppu.dots _, frA qy.obs.frames _, intsA qy.obs.samples _, intsA qy.obs.reads _]) pksA) kk; clear kk) | ((with_reducible refine g_alloc rfl ?_); refine eNw H ?_; clear H; intro g_ W_ H) | ((with_reducible refine g_load rfl ?_); first | refine eL1 H ?_ | refine eLa H ?_) | ((with_reducible refine g_store rfl ?_); (first | refine eSi H ?_ | refine eSb H ?_ | refine eSa H ?_); clear H; intro W_ H))
          have H_ := H.take (xs := [Ast.blk g _ _, frA q2_.img.banks _, intsA q2_.pads _, intsA q2_.mem.ram _, intsA q2_.ppu.table _, intsA q2_.ppu.dots _, frA q2_.obs.frames _, intsA q2_.obs.samples _, intsA q2_.obs.reads _]) pksA
          go_roundg (7 - (i + 1))
          case rel => exact ⟨i + 1, q2_, by simp, Lib.hid ⟨by omega, rfl⟩, H_⟩
          case measure => omega
        · have hin : i = 7 := by omega
          subst hin
          have hst := LockD.ticks_steps d 7
          have hst0 : 0 ≤ (LockD.ticks d 7).steps := by omega
          have hst1 : (LockD.ticks d 7).steps ≤ 20000 := by omega
          clear hst
          go_wp2_with (first | ((with_reducible refine g_alloc rfl ?_); refine eNw H ?_; clear H; intro g_ W_ H) | ((with_reducible refine g_load rfl ?_); first | refine eL1 H ?_ | refine eLa H ?_) | ((with_reducible refine g_store rfl ?_); (first | refine eSi H ?_ | refine eSb H ?_ | refine eSa H ?_); clear H; intro W_ H))
          have H_ := H.take (xs := [Ast.blk g _ _, frA qy.img.banks _, intsA qy.pads _, intsA qy.mem.ram _, intsA qy.ppu.table _, intsA qy.ppu.dots _, frA qy.obs.frames _, intsA qy.obs.samples _, intsA qy.obs.reads _]) pksA
          refine' back1 Tryz.results68 ?_ rfl ⟨?_, qy, H_⟩; rotate_left 1; exact rvA
          rfl
    · have hg1 : 20000 < l.ppu.t + 7 := by omega
      have hg2 : l.goes = false := by rw [hgo]; exact decide_eq_false (by omega)
      rw [hz1, hg2, if_neg (by decide)]
      clear hz1 hg2 hgo hg
      go_enter Tryz.func68, Tryz.ntmps68
      go_upto_region 2 with (first | ((with_reducible refine g_alloc rfl ?_); refine eNw H ?_; clear H; intro g_ W_ H) | ((with_reducible refine g_load rfl ?_); first | refine eL1 H ?_ | refine eLa H ?_) | ((with_reducible refine g_store rfl ?_); (first | refine eSi H ?_ | refine eSb H ?_ | refine eSa H ?_); clear H; intro W_ H))
      (with_reducible refine g_draw ?_)
      try simp only [Act.put, List.setIfInBounds_toArray, List.set_cons_succ, List.set_cons_zero]
      refine F_begin (ls := #[false, false, false, false, false, false, false, false, false, false, false, false, false, false, false, false]) (by kernel_rfl) rfl (by kernel_rfl) ?_
      have H_ := H.drew
      (clear H; have H := H_; clear H_)
      refine T_go [(0, 0, 25), (0, 1, 26), (0, 2, 27), (1, 3, 28), (0, 4, 29), (0, 5, 30), (0, 6, 31), (1, 7, 32), (0, 8, 33), (0, 9, 34), (0, 10, 35), (0, 11, 36), (1, 12, 37)] ?_; (repeat (first | refine T_pA ?_ | refine T_rA ?_)); refine T_end ?_
      refine' share ?_ ?_; rotate_left 1
      focus
        intro key1_; have H := H
        refine F_eff2 (ls1 := #[true, true, true, true, true, true, true, true, true, true, true, true, true, true, false, false]) (ls2 := #[true, true, true, true, true, true, true, true, true, true, true, true, true, false, true, false]) (pend1 := []) (pend2 := [12, 7, 3]) 13 14 _ _ rfl rfl (by kernel_rfl) (by kernel_rfl) (by kernel_rfl) (by kernel_rfl) (by kernel_rfl) (fun K_ hK_ => ?_) (fun K_ hK_ => ?_)
        focus
          (conv => (arg 4; arg 1; whnf)); (repeat (first | refine hK_ _ _ rfl ?_ ?_ | (go_big_may; (go_at_call 142; (with_reducible refine (impl_fetch l.img q.img l.mem q.mem l.cpu.pc _ ⟨InRR.ofFr (H.get (x := frA q.img.banks l.img.banks) pkA)⟩ ⟨InI.of (H.get (x := intsA q.mem.ram l.mem.ram) pkA)⟩ HM.out p0_ p1_).mono ?_); rintro e w1 ⟨rfl, hb⟩; (replace H := H.callB hb; clear hb))) | go_step | go_guarded | go_upon | dsimp only)); exact kept_nil; clear hK_
          refine F_eA (ls' := #[true, true, true, true, true, true, true, true, true, true, true, true, true, true, true, false]) (pend' := []) 14 ?_; intro K_ hK_; (conv => (arg 4; arg 1; whnf)); (repeat (first | refine hK_ _ _ rfl ?_ ?_ | (go_big_may; (first | ((with_reducible refine g_alloc rfl ?_); refine eNw H ?_; intro g_ W_ H_; (clear H; have H := St.toEnd H_; clear H_); simp only [List.cons_append, List.nil_append] at H) | ((with_reducible refine g_load rfl ?_); first | refine eL1 H ?_ | refine eLa H ?_) | ((with_reducible refine g_store rfl ?_); (first | refine eSi H ?_ | refine eSb H ?_ | refine eSa H ?_); clear H; intro W_ H))) | go_step | go_guarded | go_upon | dsimp only)); exact kept_nil; clear hK_
          (try simp only [Act.put, List.setIfInBounds_toArray, List.set_cons_succ, List.set_cons_zero])
          revert H; revert W_; revert g_; exact key1_.out
        focus
          (conv => (arg 4; arg 1; whnf)); (repeat (first | refine hK_ _ _ rfl ?_ ?_ | (go_big_may; (first | ((with_reducible refine g_alloc rfl ?_); refine eNw H ?_; intro g_ W_ H_; (clear H; have H := St.toEnd H_; clear H_); simp only [List.cons_append, List.nil_append] at H) | ((with_reducible refine g_load rfl ?_); first | refine eL1 H ?_ | refine eLa H ?_) | ((with_reducible refine g_store rfl ?_); (first | refine eSi H ?_ | refine eSb H ?_ | refine eSa H ?_); clear H; intro W_ H))) | go_step | go_guarded | go_upon | dsimp only)); (focus (refine kept_cA 12 37 ?_; refine kept_cA 7 32 ?_; refine kept_cA 3 28 ?_; exact kept_nil)); clear hK_
          refine F_eA (ls' := #[true, true, true, true, true, true, true, true, true, true, true, true, true, true, true, false]) (pend' := []) 13 ?_; intro K_ hK_; (conv => (arg 4; arg 1; whnf)); (repeat (first | refine hK_ _ _ rfl ?_ ?_ | (go_big_may; (go_at_call 142; (with_reducible refine (impl_fetch l.img q.img l.mem q.mem l.cpu.pc _ ⟨InRR.ofFr (H.get (x := frA q.img.banks l.img.banks) pkA)⟩ ⟨InI.of (H.get (x := intsA q.mem.ram l.mem.ram) pkA)⟩ HM.out p0_ p1_).mono ?_); rintro e w1 ⟨rfl, hb⟩; (replace H := H.callB hb; clear hb))) | go_step | go_guarded | go_upon | dsimp only)); exact kept_nil; clear hK_
          (try simp only [Act.put, List.setIfInBounds_toArray, List.set_cons_succ, List.set_cons_zero])
          revert H; revert w1; revert g_; exact key1_.out
      intro g_ w1 H
      refine F_eA (ls' := #[true, true, true, true, true, true, true, true, true, true, true, true, true, true, true, true]) (pend' := []) 15 ?_; intro K_ hK_; (conv => (arg 4; arg 1; whnf)); (repeat (first | refine hK_ _ _ rfl ?_ ?_ | (go_big_may; (first | ((with_reducible refine g_load rfl ?_); first | refine eL1 H ?_ | refine eLa H ?_) | ((with_reducible refine g_alloc rfl ?_); refine eNw H ?_; clear H; intro g_ W_ H) | ((with_reducible refine g_store rfl ?_); (first | refine eSi H ?_ | refine eSb H ?_ | refine eSa H ?_); clear H; intro W_ H))) | go_step | go_guarded | go_upon | dsimp only)); exact kept_nil
      refine F_done (by kernel_rfl) ?_
      go_wp2_with (first | (go_at_call 143; (with_reducible refine (impl_OpCycles _ _).mono ?_); rintro e w1 ⟨rfl, rfl⟩) | ((with_reducible refine g_alloc rfl ?_); refine eNw H ?_; clear H; intro g_ W_ H) | ((with_reducible refine g_load rfl ?_); first | refine eL1 H ?_ | refine eLa H ?_) | ((with_reducible refine g_store rfl ?_); (first | refine eSi H ?_ | refine eSb H ?_ | refine eSa H ?_); clear H; intro W_ H))
      have H_ := H.take (xs := [Ast.blk g _ _, frA q.img.banks _, intsA q.pads _, intsA q.mem.ram _, intsA q.ppu.table _, intsA q.ppu.dots _, frA q.obs.frames _, intsA q.obs.samples _, intsA q.obs.reads _]) pksA
      refine' back1 Tryz.results68 ?_ rfl ⟨?_, q, H_⟩; rotate_left 1; exact rvA
      rfl
  · have hA : l.asked = false := by simp [LockD.asked, h1, h2]
    have hD : l.doR = (l.opR (l.mem.fetch l.img l.cpu.pc)) := by unfold LockD.doR; rw [if_neg (by simp [h1]), if_neg (by simp [hA])]; rfl
    have HD : Hid ((l.opR (l.mem.fetch l.img l.cpu.pc)) = d) := Lib.hid (by rw [← hd]; exact hD.symm)
    have HN : Hid (opCyc (l.mem.fetch l.img l.cpu.pc).op = (n : Int)) := Lib.hid (by rw [← hn]; simp [LockD.cyc, hA, LockD.instr])
    clear hD hA hd
    by_cases hg : l.ppu.t + n ≤ 20000
    · have hg1 : ¬ (20000 < l.ppu.t + n) := by omega
      have hg2 : l.goes = true := by rw [hgo]; exact decide_eq_true (by omega)
      rw [hz1, hg2, if_pos rfl]
      clear hz1 hg2 hgo
      go_enter Tryz.func68, Tryz.ntmps68
      go_upto_region 2 with (first | ((with_reducible refine g_alloc rfl ?_); refine eNw H ?_; clear H; intro g_ W_ H) | ((with_reducible refine g_load rfl ?_); first | refine eL1 H ?_ | refine eLa H ?_) | ((with_reducible refine g_store rfl ?_); (first | refine eSi H ?_ | refine eSb H ?_ | refine eSa H ?_); clear H; intro W_ H))
      (with_reducible refine g_draw ?_)
      try simp only [Act.put, List.setIfInBounds_toArray, List.set_cons_succ, List.set_cons_zero]
      refine F_begin (ls := #[false, false, false, false, false, false, false, false, false, false, false, false, false, false, false, false]) (by kernel_rfl) rfl (by kernel_rfl) ?_
      have H_ := H.drew
      (clear H; have H := H_; clear H_)
      refine T_go [(0, 0, 25), (0, 1, 26), (0, 2, 27), (1, 3, 28), (0, 4, 29), (0, 5, 30), (0, 6, 31), (1, 7, 32), (0, 8, 33), (0, 9, 34), (0, 10, 35), (0, 11, 36), (1, 12, 37)] ?_; (repeat (first | refine T_pA ?_ | refine T_rA ?_)); refine T_end ?_
      refine' share ?_ ?_; rotate_left 1
      focus
        intro key1_; have H := H
        refine F_eff2 (ls1 := #[true, true, true, true, true, true, true, true, true, true, true, true, true, true, false, false]) (ls2 := #[true, true, true, true, true, true, true, true, true, true, true, true, true, false, true, false]) (pend1 := []) (pend2 := [12, 7, 3]) 13 14 _ _ rfl rfl (by kernel_rfl) (by kernel_rfl) (by kernel_rfl) (by kernel_rfl) (by kernel_rfl) (fun K_ hK_ => ?_) (fun K_ hK_ => ?_)
        focus
          (conv => (arg 4; arg 1; whnf)); (repeat (first | refine hK_ _ _ rfl ?_ ?_ | (go_big_may; (go_at_call 142; (with_reducible refine (impl_fetch l.img q.img l.mem q.mem l.cpu.pc _ ⟨InRR.ofFr (H.get (x := frA q.img.banks l.img.banks) pkA)⟩ ⟨InI.of (H.get (x := intsA q.mem.ram l.mem.ram) pkA)⟩ HM.out p0_ p1_).mono ?_); rintro e w1 ⟨rfl, hb⟩; (replace H := H.callB hb; clear hb))) | go_step | go_guarded | go_upon | dsimp only)); exact kept_nil; clear hK_
          refine F_eA (ls' := #[true, true, true, true, true, true, true, true, true, true, true, true, true, true, true, false]) (pend' := []) 14 ?_; intro K_ hK_; (conv => (arg 4; arg 1; whnf)); (repeat (first | refine hK_ _ _ rfl ?_ ?_ | (go_big_may; (first | ((with_reducible refine g_alloc rfl ?_); refine eNw H ?_; intro g_ W_ H_; (clear H; have H := St.toEnd H_; clear H_); simp only [List.cons_append, List.nil_append] at H) | ((with_reducible refine g_load rfl ?_); first | refine eL1 H ?_ | refine eLa H ?_) | ((with_reducible refine g_store rfl ?_); (first | refine eSi H ?_ | refine eSb H ?_ | refine eSa H ?_); clear H; intro W_ H))) | go_step | go_guarded | go_upon | dsimp only)); exact kept_nil; clear hK_
          (try simp only [Act.put, List.setIfInBounds_toArray, List.set_cons_succ, List.set_cons_zero])
          revert H; revert W_; revert g_; exact key1_.out
        focus
          (conv => (arg 4; arg 1; whnf)); (repeat (first | refine hK_ _ _ rfl ?_ ?_ | (go_big_may; (first | ((with_reducible refine g_alloc rfl ?_); refine eNw H ?_; intro g_ W_ H_; (clear H; have H := St.toEnd H_; clear H_); simp only [List.cons_append, List.nil_append] at H) | ((with_reducible refine g_load rfl ?_); first | refine eL1 H ?_ | refine eLa H ?_) | ((with_reducible refine g_store rfl ?_); (first | refine eSi H ?_ | refine eSb H ?_ | refine eSa H ?_); clear H; intro W_ H))) | go_step | go_guarded | go_upon | dsimp only)); (focus (refine kept_cA 12 37 ?_; refine kept_cA 7 32 ?_; refine kept_cA 3 28 ?_; exact kept_nil)); clear hK_
          refine F_eA (ls' := #[true, true, true, true, true, true, true, true, true, true, true, true, true, true, true, false]) (pend' := []) 13 ?_; intro K_ hK_; (conv => (arg 4; arg 1; whnf)); (repeat (first | refine hK_ _ _ rfl ?_ ?_ | (go_big_may; (go_at_call 142; (with_reducible refine (impl_fetch l.img q.img l.mem q.mem l.cpu.pc _ ⟨InRR.ofFr (H.get (x := frA q.img.banks l.img.banks) pkA)⟩ ⟨InI.of (H.get (x := intsA q.mem.ram l.mem.ram) pkA)⟩ HM.out p0_ p1_).mono ?_); rintro e w1 ⟨rfl, hb⟩; (replace H := H.callB hb; clear hb))) | go_step | go_guarded | go_upon | dsimp only)); exact kept_nil; clear hK_
          (try simp only [Act.put, List.setIfInBounds_toArray, List.set_cons_succ, List.set_cons_zero])
          revert H; revert w1; revert g_; exact key1_.out
      intro g_ w1 H
      refine F_eA (ls' := #[true, true, true, true, true, true, true, true, true, true, true, true, true, true, true, true]) (pend' := []) 15 ?_; intro K_ hK_; (conv => (arg 4; arg 1; whnf)); (repeat (first | refine hK_ _ _ rfl ?_ ?_ | (go_big_may; (first | ((with_reducible refine g_load rfl ?_); first | refine eL1 H ?_ | refine eLa H ?_) | ((with_reducible refine g_alloc rfl ?_); refine eNw H ?_; clear H; intro g_ W_ H) | ((with_reducible refine g_store rfl ?_); (first | refine eSi H ?_ | refine eSb H ?_ | refine eSa H ?_); clear H; intro W_ H))) | go_step | go_guarded | go_upon | dsimp only)); exact kept_nil
      refine F_done (by kernel_rfl) ?_
      go_wp2_with (first | (go_at_call 143; (with_reducible refine (impl_OpCycles _ _).mono ?_); rintro e w1 ⟨rfl, rfl⟩; rw [HN.out]) | (go_at_call 145; (with_reducible refine (impl_lop l q (l.mem.fetch l.img l.cpu.pc) g _ (St.holL (H.picks (xs := [Ast.blk g _ _, frA q.img.banks _, intsA q.pads _, intsA q.mem.ram _, intsA q.ppu.table _, intsA q.ppu.dots _, frA q.obs.frames _, intsA q.obs.samples _, intsA q.obs.reads _]) pksA)) HK.out HI.out hsr).mono ?_); rintro e w1 ⟨rfl, q1_, kk⟩; rw [HD.out] at kk; replace H := St.uN (H.picks (xs := [Ast.blk g _ _, frA q.img.banks _, intsA q.pads _, intsA q.mem.ram _, intsA q.ppu.table _, intsA q.ppu.dots _, frA q.obs.frames _, intsA q.obs.samples _, intsA q.obs.reads _]) pksA) kk; clear kk) | ((with_reducible refine g_alloc rfl ?_); refine eNw H ?_; clear H; intro g_ W_ H) | ((with_reducible refine g_load rfl ?_); first | refine eL1 H ?_ | refine eLa H ?_) | ((with_reducible refine g_store rfl ?_); (first | refine eSi H ?_ | refine eSb H ?_ | refine eSa H ?_); clear H; intro W_ H))
      have H_ := H.take (xs := [Ast.blk g _ _, frA q1_.img.banks _, intsA q1_.pads _, intsA q1_.mem.ram _, intsA q1_.ppu.table _, intsA q1_.ppu.dots _, frA q1_.obs.frames _, intsA q1_.obs.samples _, intsA q1_.obs.reads _]) pksA
      (clear H; have H := H_; clear H_)
      go_loopg [69] n (fun k v wr => ∃ (i : Nat) (qy : LockP), v = .int .i64 (i : Int) ∧ Hid (i ≤ n ∧ k = n - i) ∧ St w F wr [Ast.blk g [.slice qy.img.banks.s.A (LockD.ticks d i).img.banks.length qy.img.banks.s.c, .slice qy.pads.A (LockD.ticks d i).pads.length qy.pads.c, .slice qy.mem.ram.A (LockD.ticks d i).mem.ram.length qy.mem.ram.c, .int .i64 (LockD.ticks d i).mem.bank, .int .i64 (LockD.ticks d i).cpu.a, .int .i64 (LockD.ticks d i).cpu.x, .int .i64 (LockD.ticks d i).cpu.s, .int .i64 (LockD.ticks d i).cpu.pc, .bool (LockD.ticks d i).cpu.z, .bool (LockD.ticks d i).cpu.n, .bool (LockD.ticks d i).cpu.c, .bool (LockD.ticks d i).cpu.i, .int .i64 (LockD.ticks d i).ppu.t, .int .i64 (LockD.ticks d i).ppu.ctrl, .int .i64 (LockD.ticks d i).ppu.scroll, .int .i64 (LockD.ticks d i).ppu.addr, .int .i64 (LockD.ticks d i).ppu.pal, .bool (LockD.ticks d i).ppu.blank, .slice qy.ppu.table.A (LockD.ticks d i).ppu.table.length qy.ppu.table.c, .slice qy.ppu.dots.A (LockD.ticks d i).ppu.dots.length qy.ppu.dots.c, .int .i64 (LockD.ticks d i).apu.t, .int .i64 (LockD.ticks d i).apu.p, .int .i64 (LockD.ticks d i).apu.c, .int .i64 (LockD.ticks d i).apu.b, .int .i64 (LockD.ticks d i).apu.l, .bool (LockD.ticks d i).apu.k, .bool (LockD.ticks d i).apu.i, .bool (LockD.ticks d i).pad.h, .int .i64 (LockD.ticks d i).pad.s, .bool (LockD.ticks d i).nmi, .int .i64 (LockD.ticks d i).steps, .slice qy.obs.frames.s.A (LockD.ticks d i).obs.frames.length qy.obs.frames.s.c, .slice qy.obs.samples.A (LockD.ticks d i).obs.samples.length qy.obs.samples.c, .slice qy.obs.reads.A (LockD.ticks d i).obs.reads.length qy.obs.reads.c] 49, frA qy.img.banks (LockD.ticks d i).img.banks, intsA qy.pads (LockD.ticks d i).pads, intsA qy.mem.ram (LockD.ticks d i).mem.ram, intsA qy.ppu.table (LockD.ticks d i).ppu.table, intsA qy.ppu.dots (LockD.ticks d i).ppu.dots, frA qy.obs.frames (LockD.ticks d i).obs.frames, intsA qy.obs.samples (LockD.ticks d i).obs.samples, intsA qy.obs.reads (LockD.ticks d i).obs.reads])
      case atStart => exact ⟨0, q1_, rfl, Lib.hid ⟨by omega, by omega⟩, H⟩
      case round =>
        clear H
        obtain ⟨i, qy, rfl, HJ, H⟩ := hrel
        obtain ⟨j1, j2⟩ := HJ.out
        by_cases hi : (i : Int) < n
        · obtain ⟨r1, r2⟩ := LockD.ticks_rk hRD (k := i) (by omega)
          have HT : Hid ((LockD.ticks d i).ppu.ok = true ∧ (LockD.ticks d i).apu.ok = true ∧ (LockD.ticks d i).obs.frames.length ≤ 1000 ∧ (LockD.ticks d i).obs.samples.length ≤ 10000) := Lib.hid ⟨r1.ppu, r1.apu, by have := r1.fr; omega, by have := r1.sm; omega⟩
          clear r1 r2
          go_wp2_with (first | (go_at_call 146; (with_reducible refine (impl_ltick (LockD.ticks d i) qy g _ (St.holL (H.picks (xs := [Ast.blk g _ _, frA qy.img.banks _, intsA qy.pads _, intsA qy.mem.ram _, intsA qy.ppu.table _, intsA qy.ppu.dots _, frA qy.obs.frames _, intsA qy.obs.samples _, intsA qy.obs.reads _]) pksA)) HT.out.1 HT.out.2.1 HT.out.2.2.1 HT.out.2.2.2).mono ?_); rintro e w1 ⟨rfl, q2_, kk⟩; replace H := St.uN (H.picks (xs := [Ast.blk g _ _, frA qy.img.banks _, intsA qy.pads _, intsA qy.mem.ram _, intsA qy.ppu.table _, intsA qy.ppu.dots _, frA qy.obs.frames _, intsA qy.obs.samples _, intsA qy.obs.reads _]) pksA) kk; clear kk) | ((with_reducible refine g_alloc rfl ?_); refine eNw H ?_; clear H; intro g_ W_ H) | ((with_reducible refine g_load rfl ?_); first | refine eL1 H ?_ | refine eLa H ?_) | ((with_reducible refine g_store rfl ?_); (first | refine eSi H ?_ | refine eSb H ?_ | refine eSa H ?_); clear H; intro W_ H))
          have H_ := H.take (xs := [Ast.blk g _ _, frA q2_.img.banks _, intsA q2_.pads _, intsA q2_.mem.ram _, intsA q2_.ppu.table _, intsA q2_.ppu.dots _, frA q2_.obs.frames _, intsA q2_.obs.samples _, intsA q2_.obs.reads _]) pksA
          go_roundg (n - (i + 1))
          case rel => exact ⟨i + 1, q2_, by simp, Lib.hid ⟨by omega, rfl⟩, H_⟩
          case measure => omega
        · have hin : i = n := by omega
          subst hin
          have hst := LockD.ticks_steps d i
          have hst0 : 0 ≤ (LockD.ticks d i).steps := by omega
          have hst1 : (LockD.ticks d i).steps ≤ 20000 := by omega
          clear hst
          go_wp2_with (first | ((with_reducible refine g_alloc rfl ?_); refine eNw H ?_; clear H; intro g_ W_ H) | ((with_reducible refine g_load rfl ?_); first | refine eL1 H ?_ | refine eLa H ?_) | ((with_reducible refine g_store rfl ?_); (first | refine eSi H ?_ | refine eSb H ?_ | refine eSa H ?_); clear H; intro W_ H))
          have H_ := H.take (xs := [Ast.blk g _ _, frA qy.img.banks _, intsA qy.pads _, intsA qy.mem.ram _, intsA qy.ppu.table _, intsA qy.ppu.dots _, frA qy.obs.frames _, intsA qy.obs.samples _, intsA qy.obs.reads _]) pksA
          refine' back1 Tryz.results68 ?_ rfl ⟨?_, qy, H_⟩; rotate_left 1; exact rvA
          rfl
    · have hg1 : 20000 < l.ppu.t + n := by omega
      have hg2 : l.goes = false := by rw [hgo]; exact decide_eq_false (by omega)
      rw [hz1, hg2, if_neg (by decide)]
      clear hz1 hg2 hgo hg
      go_enter Tryz.func68, Tryz.ntmps68
      go_upto_region 2 with (first | ((with_reducible refine g_alloc rfl ?_); refine eNw H ?_; clear H; intro g_ W_ H) | ((with_reducible refine g_load rfl ?_); first | refine eL1 H ?_ | refine eLa H ?_) | ((with_reducible refine g_store rfl ?_); (first | refine eSi H ?_ | refine eSb H ?_ | refine eSa H ?_); clear H; intro W_ H))
      (with_reducible refine g_draw ?_)
      try simp only [Act.put, List.setIfInBounds_toArray, List.set_cons_succ, List.set_cons_zero]
      refine F_begin (ls := #[false, false, false, false, false, false, false, false, false, false, false, false, false, false, false, false]) (by kernel_rfl) rfl (by kernel_rfl) ?_
      have H_ := H.drew
      (clear H; have H := H_; clear H_)
      refine T_go [(0, 0, 25), (0, 1, 26), (0, 2, 27), (1, 3, 28), (0, 4, 29), (0, 5, 30), (0, 6, 31), (1, 7, 32), (0, 8, 33), (0, 9, 34), (0, 10, 35), (0, 11, 36), (1, 12, 37)] ?_; (repeat (first | refine T_pA ?_ | refine T_rA ?_)); refine T_end ?_
      refine' share ?_ ?_; rotate_left 1
      focus
        intro key1_; have H := H
        refine F_eff2 (ls1 := #[true, true, true, true, true, true, true, true, true, true, true, true, true, true, false, false]) (ls2 := #[true, true, true, true, true, true, true, true, true, true, true, true, true, false, true, false]) (pend1 := []) (pend2 := [12, 7, 3]) 13 14 _ _ rfl rfl (by kernel_rfl) (by kernel_rfl) (by kernel_rfl) (by kernel_rfl) (by kernel_rfl) (fun K_ hK_ => ?_) (fun K_ hK_ => ?_)
        focus
          (conv => (arg 4; arg 1; whnf)); (repeat (first | refine hK_ _ _ rfl ?_ ?_ | (go_big_may; (go_at_call 142; (with_reducible refine (impl_fetch l.img q.img l.mem q.mem l.cpu.pc _ ⟨InRR.ofFr (H.get (x := frA q.img.banks l.img.banks) pkA)⟩ ⟨InI.of (H.get (x := intsA q.mem.ram l.mem.ram) pkA)⟩ HM.out p0_ p1_).mono ?_); rintro e w1 ⟨rfl, hb⟩; (replace H := H.callB hb; clear hb))) | go_step | go_guarded | go_upon | dsimp only)); exact kept_nil; clear hK_
          refine F_eA (ls' := #[true, true, true, true, true, true, true, true, true, true, true, true, true, true, true, false]) (pend' := []) 14 ?_; intro K_ hK_; (conv => (arg 4; arg 1; whnf)); (repeat (first | refine hK_ _ _ rfl ?_ ?_ | (go_big_may; (first | ((with_reducible refine g_alloc rfl ?_); refine eNw H ?_; intro g_ W_ H_; (clear H; have H := St.toEnd H_; clear H_); simp only [List.cons_append, List.nil_append] at H) | ((with_reducible refine g_load rfl ?_); first | refine eL1 H ?_ | refine eLa H ?_) | ((with_reducible refine g_store rfl ?_); (first | refine eSi H ?_ | refine eSb H ?_ | refine eSa H ?_); clear H; intro W_ H))) | go_step | go_guarded | go_upon | dsimp only)); exact kept_nil; clear hK_
          (try simp only [Act.put, List.setIfInBounds_toArray, List.set_cons_succ, List.set_cons_zero])
          revert H; revert W_; revert g_; exact key1_.out
        focus
          (conv => (arg 4; arg 1; whnf)); (repeat (first | refine hK_ _ _ rfl ?_ ?_ | (go_big_may; (first | ((with_reducible refine g_alloc rfl ?_); refine eNw H ?_; intro g_ W_ H_; (clear H; have H := St.toEnd H_; clear H_); simp only [List.cons_append, List.nil_append] at H) | ((with_reducible refine g_load rfl ?_); first | refine eL1 H ?_ | refine eLa H ?_) | ((with_reducible refine g_store rfl ?_); (first | refine eSi H ?_ | refine eSb H ?_ | refine eSa H ?_); clear H; intro W_ H))) | go_step | go_guarded | go_upon | dsimp only)); (focus (refine kept_cA 12 37 ?_; refine kept_cA 7 32 ?_; refine kept_cA 3 28 ?_; exact kept_nil)); clear hK_
          refine F_eA (ls' := #[true, true, true, true, true, true, true, true, true, true, true, true, true, true, true, false]) (pend' := []) 13 ?_; intro K_ hK_; (conv => (arg 4; arg 1; whnf)); (repeat (first | refine hK_ _ _ rfl ?_ ?_ | (go_big_may; (go_at_call 142; (with_reducible refine (impl_fetch l.img q.img l.mem q.mem l.cpu.pc _ ⟨InRR.ofFr (H.get (x := frA q.img.banks l.img.banks) pkA)⟩ ⟨InI.of (H.get (x := intsA q.mem.ram l.mem.ram) pkA)⟩ HM.out p0_ p1_).mono ?_); rintro e w1 ⟨rfl, hb⟩; (replace H := H.callB hb; clear hb))) | go_step | go_guarded | go_upon | dsimp only)); exact kept_nil; clear hK_
          (try simp only [Act.put, List.setIfInBounds_toArray, List.set_cons_succ, List.set_cons_zero])
          revert H; revert w1; revert g_; exact key1_.out
      intro g_ w1 H
      refine F_eA (ls' := #[true, true, true, true, true, true, true, true, true, true, true, true, true, true, true, true]) (pend' := []) 15 ?_; intro K_ hK_; (conv => (arg 4; arg 1; whnf)); (repeat (first | refine hK_ _ _ rfl ?_ ?_ | (go_big_may; (first | ((with_reducible refine g_load rfl ?_); first | refine eL1 H ?_ | refine eLa H ?_) | ((with_reducible refine g_alloc rfl ?_); refine eNw H ?_; clear H; intro g_ W_ H) | ((with_reducible refine g_store rfl ?_); (first | refine eSi H ?_ | refine eSb H ?_ | refine eSa H ?_); clear H; intro W_ H))) | go_step | go_guarded | go_upon | dsimp only)); exact kept_nil
      refine F_done (by kernel_rfl) ?_
      go_wp2_with (first | (go_at_call 143; (with_reducible refine (impl_OpCycles _ _).mono ?_); rintro e w1 ⟨rfl, rfl⟩; rw [HN.out]) | ((with_reducible refine g_alloc rfl ?_); refine eNw H ?_; clear H; intro g_ W_ H) | ((with_reducible refine g_load rfl ?_); first | refine eL1 H ?_ | refine eLa H ?_) | ((with_reducible refine g_store rfl ?_); (first | refine eSi H ?_ | refine eSb H ?_ | refine eSa H ?_); clear H; intro W_ H))
      have H_ := H.take (xs := [Ast.blk g _ _, frA q.img.banks _, intsA q.pads _, intsA q.mem.ram _, intsA q.ppu.table _, intsA q.ppu.dots _, frA q.obs.frames _, intsA q.obs.samples _, intsA q.obs.reads _]) pksA
      refine' back1 Tryz.results68 ?_ rfl ⟨?_, q, H_⟩; rotate_left 1; exact rvA
      rfl
  · have hA : l.asked = false := by simp [LockD.asked, h1, h2, h3]
    have hD : l.doR = (l.opR (l.mem.fetch l.img l.cpu.pc)) := by unfold LockD.doR; rw [if_neg (by simp [h1]), if_neg (by simp [hA])]; rfl
    have HD : Hid ((l.opR (l.mem.fetch l.img l.cpu.pc)) = d) := Lib.hid (by rw [← hd]; exact hD.symm)
    have HN : Hid (opCyc (l.mem.fetch l.img l.cpu.pc).op = (n : Int)) := Lib.hid (by rw [← hn]; simp [LockD.cyc, hA, LockD.instr])
    clear hD hA hd
    by_cases hg : l.ppu.t + n ≤ 20000
    · have hg1 : ¬ (20000 < l.ppu.t + n) := by omega
      have hg2 : l.goes = true := by rw [hgo]; exact decide_eq_true (by omega)
      rw [hz1, hg2, if_pos rfl]
      clear hz1 hg2 hgo
      go_enter Tryz.func68, Tryz.ntmps68
      go_upto_region 2 with (first | ((with_reducible refine g_alloc rfl ?_); refine eNw H ?_; clear H; intro g_ W_ H) | ((with_reducible refine g_load rfl ?_); first | refine eL1 H ?_ | refine eLa H ?_) | ((with_reducible refine g_store rfl ?_); (first | refine eSi H ?_ | refine eSb H ?_ | refine eSa H ?_); clear H; intro W_ H))
      (with_reducible refine g_draw ?_)
      try simp only [Act.put, List.setIfInBounds_toArray, List.set_cons_succ, List.set_cons_zero]
      refine F_begin (ls := #[false, false, false, false, false, false, false, false, false, false, false, false, false, false, false, false]) (by kernel_rfl) rfl (by kernel_rfl) ?_
      have H_ := H.drew
      (clear H; have H := H_; clear H_)
      refine T_go [(0, 0, 25), (0, 1, 26), (0, 2, 27), (1, 3, 28), (0, 4, 29), (0, 5, 30), (0, 6, 31), (1, 7, 32), (0, 8, 33), (0, 9, 34), (0, 10, 35), (0, 11, 36), (1, 12, 37)] ?_; (repeat (first | refine T_pA ?_ | refine T_rA ?_)); refine T_end ?_
      refine' share ?_ ?_; rotate_left 1
      focus
        intro key1_; have H := H
        refine F_eff2 (ls1 := #[true, true, true, true, true, true, true, true, true, true, true, true, true, true, false, false]) (ls2 := #[true, true, true, true, true, true, true, true, true, true, true, true, true, false, true, false]) (pend1 := []) (pend2 := [12, 7, 3]) 13 14 _ _ rfl rfl (by kernel_rfl) (by kernel_rfl) (by kernel_rfl) (by kernel_rfl) (by kernel_rfl) (fun K_ hK_ => ?_) (fun K_ hK_ => ?_)
        focus
          (conv => (arg 4; arg 1; whnf)); (repeat (first | refine hK_ _ _ rfl ?_ ?_ | (go_big_may; (go_at_call 142; (with_reducible refine (impl_fetch l.img q.img l.mem q.mem l.cpu.pc _ ⟨InRR.ofFr (H.get (x := frA q.img.banks l.img.banks) pkA)⟩ ⟨InI.of (H.get (x := intsA q.mem.ram l.mem.ram) pkA)⟩ HM.out p0_ p1_).mono ?_); rintro e w1 ⟨rfl, hb⟩; (replace H := H.callB hb; clear hb))) | go_step | go_guarded | go_upon | dsimp only)); exact kept_nil; clear hK_
          refine F_eA (ls' := #[true, true, true, true, true, true, true, true, true, true, true, true, true, true, true, false]) (pend' := []) 14 ?_; intro K_ hK_; (conv => (arg 4; arg 1; whnf)); (repeat (first | refine hK_ _ _ rfl ?_ ?_ | (go_big_may; (first | ((with_reducible refine g_alloc rfl ?_); refine eNw H ?_; intro g_ W_ H_; (clear H; have H := St.toEnd H_; clear H_); simp only [List.cons_append, List.nil_append] at H) | ((with_reducible refine g_load rfl ?_); first | refine eL1 H ?_ | refine eLa H ?_) | ((with_reducible refine g_store rfl ?_); (first | refine eSi H ?_ | refine eSb H ?_ | refine eSa H ?_); clear H; intro W_ H))) | go_step | go_guarded | go_upon | dsimp only)); exact kept_nil; clear hK_
          (try simp only [Act.put, List.setIfInBounds_toArray, List.set_cons_succ, List.set_cons_zero])
          revert H; revert W_; revert g_; exact key1_.out
        focus
          (conv => (arg 4; arg 1; whnf)); (repeat (first | refine hK_ _ _ rfl ?_ ?_ | (go_big_may; (first | ((with_reducible refine g_alloc rfl ?_); refine eNw H ?_; intro g_ W_ H_; (clear H; have H := St.toEnd H_; clear H_); simp only [List.cons_append, List.nil_append] at H) | ((with_reducible refine g_load rfl ?_); first | refine eL1 H ?_ | refine eLa H ?_) | ((with_reducible refine g_store rfl ?_); (first | refine eSi H ?_ | refine eSb H ?_ | refine eSa H ?_); clear H; intro W_ H))) | go_step | go_guarded | go_upon | dsimp only)); (focus (refine kept_cA 12 37 ?_; refine kept_cA 7 32 ?_; refine kept_cA 3 28 ?_; exact kept_nil)); clear hK_
          refine F_eA (ls' := #[true, true, true, true, true, true, true, true, true, true, true, true, true, true, true, false]) (pend' := []) 13 ?_; intro K_ hK_; (conv => (arg 4; arg 1; whnf)); (repeat (first | refine hK_ _ _ rfl ?_ ?_ | (go_big_may; (go_at_call 142; (with_reducible refine (impl_fetch l.img q.img l.mem q.mem l.cpu.pc _ ⟨InRR.ofFr (H.get (x := frA q.img.banks l.img.banks) pkA)⟩ ⟨InI.of (H.get (x := intsA q.mem.ram l.mem.ram) pkA)⟩ HM.out p0_ p1_).mono ?_); rintro e w1 ⟨rfl, hb⟩; (replace H := H.callB hb; clear hb))) | go_step | go_guarded | go_upon | dsimp only)); exact kept_nil; clear hK_
          (try simp only [Act.put, List.setIfInBounds_toArray, List.set_cons_succ, List.set_cons_zero])
          revert H; revert w1; revert g_; exact key1_.out
      intro g_ w1 H
      refine F_eA (ls' := #[true, true, true, true, true, true, true, true, true, true, true, true, true, true, true, true]) (pend' := []) 15 ?_; intro K_ hK_; (conv => (arg 4; arg 1; whnf)); (repeat (first | refine hK_ _ _ rfl ?_ ?_ | (go_big_may; (first | ((with_reducible refine g_load rfl ?_); first | refine eL1 H ?_ | refine eLa H ?_) | ((with_reducible refine g_alloc rfl ?_); refine eNw H ?_; clear H; intro g_ W_ H) | ((with_reducible refine g_store rfl ?_); (first | refine eSi H ?_ | refine eSb H ?_ | refine eSa H ?_); clear H; intro W_ H))) | go_step | go_guarded | go_upon | dsimp only)); exact kept_nil
      refine F_done (by kernel_rfl) ?_
      go_wp2_with (first | (go_at_call 143; (with_reducible refine (impl_OpCycles _ _).mono ?_); rintro e w1 ⟨rfl, rfl⟩; rw [HN.out]) | (go_at_call 145; (with_reducible refine (impl_lop l q (l.mem.fetch l.img l.cpu.pc) g _ (St.holL (H.picks (xs := [Ast.blk g _ _, frA q.img.banks _, intsA q.pads _, intsA q.mem.ram _, intsA q.ppu.table _, intsA q.ppu.dots _, frA q.obs.frames _, intsA q.obs.samples _, intsA q.obs.reads _]) pksA)) HK.out HI.out hsr).mono ?_); rintro e w1 ⟨rfl, q1_, kk⟩; rw [HD.out] at kk; replace H := St.uN (H.picks (xs := [Ast.blk g _ _, frA q.img.banks _, intsA q.pads _, intsA q.mem.ram _, intsA q.ppu.table _, intsA q.ppu.dots _, frA q.obs.frames _, intsA q.obs.samples _, intsA q.obs.reads _]) pksA) kk; clear kk) | ((with_reducible refine g_alloc rfl ?_); refine eNw H ?_; clear H; intro g_ W_ H) | ((with_reducible refine g_load rfl ?_); first | refine eL1 H ?_ | refine eLa H ?_) | ((with_reducible refine g_store rfl ?_); (first | refine eSi H ?_ | refine eSb H ?_ | refine eSa H ?_); clear H; intro W_ H))
      have H_ := H.take (xs := [Ast.blk g _ _, frA q1_.img.banks _, intsA q1_.pads _, intsA q1_.mem.ram _, intsA q1_.ppu.table _, intsA q1_.ppu.dots _, frA q1_.obs.frames _, intsA q1_.obs.samples _, intsA q1_.obs.reads _]) pksA
      (clear H; have H := H_; clear H_)
      go_loopg [69] n (fun k v wr => ∃ (i : Nat) (qy : LockP), v = .int .i64 (i : Int) ∧ Hid (i ≤ n ∧ k = n - i) ∧ St w F wr [Ast.blk g [.slice qy.img.banks.s.A (LockD.ticks d i).img.banks.length qy.img.banks.s.c, .slice qy.pads.A (LockD.ticks d i).pads.length qy.pads.c, .slice qy.mem.ram.A (LockD.ticks d i).mem.ram.length qy.mem.ram.c, .int .i64 (LockD.ticks d i).mem.bank, .int .i64 (LockD.ticks d i).cpu.a, .int .i64 (LockD.ticks d i).cpu.x, .int .i64 (LockD.ticks d i).cpu.s, .int .i64 (LockD.ticks d i).cpu.pc, .bool (LockD.ticks d i).cpu.z, .bool (LockD.ticks d i).cpu.n, .bool (LockD.ticks d i).cpu.c, .bool (LockD.ticks d i).cpu.i, .int .i64 (LockD.ticks d i).ppu.t, .int .i64 (LockD.ticks d i).ppu.ctrl, .int .i64 (LockD.ticks d i).ppu.scroll, .int .i64 (LockD.ticks d i).ppu.addr, .int .i64 (LockD.ticks d i).ppu.pal, .bool (LockD.ticks d i).ppu.blank, .slice qy.ppu.table.A (LockD.ticks d i).ppu.table.length qy.ppu.table.c, .slice qy.ppu.dots.A (LockD.ticks d i).ppu.dots.length qy.ppu.dots.c, .int .i64 (LockD.ticks d i).apu.t, .int .i64 (LockD.ticks d i).apu.p, .int .i64 (LockD.ticks d i).apu.c, .int .i64 (LockD.ticks d i).apu.b, .int .i64 (LockD.ticks d i).apu.l, .bool (LockD.ticks d i).apu.k, .bool (LockD.ticks d i).apu.i, .bool (LockD.ticks d i).pad.h, .int .i64 (LockD.ticks d i).pad.s, .bool (LockD.ticks d i).nmi, .int .i64 (LockD.ticks d i).steps, .slice qy.obs.frames.s.A (LockD.ticks d i).obs.frames.length qy.obs.frames.s.c, .slice qy.obs.samples.A (LockD.ticks d i).obs.samples.length qy.obs.samples.c, .slice qy.obs.reads.A (LockD.ticks d i).obs.reads.length qy.obs.reads.c] 49, frA qy.img.banks (LockD.ticks d i).img.banks, intsA qy.pads (LockD.ticks d i).pads, intsA qy.mem.ram (LockD.ticks d i).mem.ram, intsA qy.ppu.table (LockD.ticks d i).ppu.table, intsA qy.ppu.dots (LockD.ticks d i).ppu.dots, frA qy.obs.frames (LockD.ticks d i).obs.frames, intsA qy.obs.samples (LockD.ticks d i).obs.samples, intsA qy.obs.reads (LockD.ticks d i).obs.reads])
      case atStart => exact ⟨0, q1_, rfl, Lib.hid ⟨by omega, by omega⟩, H⟩
      case round =>
        clear H
        obtain ⟨i, qy, rfl, HJ, H⟩ := hrel
        obtain ⟨j1, j2⟩ := HJ.out
        by_cases hi : (i : Int) < n
        · obtain ⟨r1, r2⟩ := LockD.ticks_rk hRD (k := i) (by omega)
          have HT : Hid ((LockD.ticks d i).ppu.ok = true ∧ (LockD.ticks d i).apu.ok = true ∧ (LockD.ticks d i).obs.frames.length ≤ 1000 ∧ (LockD.ticks d i).obs.samples.length ≤ 10000) := Lib.hid ⟨r1.ppu, r1.apu, by have := r1.fr; omega, by have := r1.sm; omega⟩
          clear r1 r2
          go_wp2_with (first | (go_at_call 146; (with_reducible refine (impl_ltick (LockD.ticks d i) qy g _ (St.holL (H.picks (xs := [Ast.blk g _ _, frA qy.img.banks _, intsA qy.pads _, intsA qy.mem.ram _, intsA qy.ppu.table _, intsA qy.ppu.dots _, frA qy.obs.frames _, intsA qy.obs.samples _, intsA qy.obs.reads _]) pksA)) HT.out.1 HT.out.2.1 HT.out.2.2.1 HT.out.2.2.2).mono ?_); rintro e w1 ⟨rfl, q2_, kk⟩; replace H := St.uN (H.picks (xs := [Ast.blk g _ _, frA qy.img.banks _, intsA qy.pads _, intsA qy.mem.ram _, intsA qy.ppu.table _, intsA qy.ppu.dots _, frA qy.obs.frames _, intsA qy.obs.samples _, intsA qy.obs.reads _]) pksA) kk; clear kk) | ((with_reducible refine g_alloc rfl ?_); refine eNw H ?_; clear H; intro g_ W_ H) | ((with_reducible refine g_load rfl ?_); first | refine eL1 H ?_ | refine eLa H ?_) | ((with_reducible refine g_store rfl ?_); (first | refine eSi H ?_ | refine eSb H ?_ | refine eSa H ?_); clear H; intro W_ H))
          have H_ := H.take (xs := [Ast.blk g _ _, frA q2_.img.banks _, intsA q2_.pads _, intsA q2_.mem.ram _, intsA q2_.ppu.table _, intsA q2_.ppu.dots _, frA q2_.obs.frames _, intsA q2_.obs.samples _, intsA q2_.obs.reads _]) pksA
          go_roundg (n - (i + 1))
          case rel => exact ⟨i + 1, q2_, by simp, Lib.hid ⟨by omega, rfl⟩, H_⟩
          case measure => omega
        · have hin : i = n := by omega
          subst hin
          have hst := LockD.ticks_steps d i
          have hst0 : 0 ≤ (LockD.ticks d i).steps := by omega
          have hst1 : (LockD.ticks d i).steps ≤ 20000 := by omega
          clear hst
          go_wp2_with (first | ((with_reducible refine g_alloc rfl ?_); refine eNw H ?_; clear H; intro g_ W_ H) | ((with_reducible refine g_load rfl ?_); first | refine eL1 H ?_ | refine eLa H ?_) | ((with_reducible refine g_store rfl ?_); (first | refine eSi H ?_ | refine eSb H ?_ | refine eSa H ?_); clear H; intro W_ H))
          have H_ := H.take (xs := [Ast.blk g _ _, frA qy.img.banks _, intsA qy.pads _, intsA qy.mem.ram _, intsA qy.ppu.table _, intsA qy.ppu.dots _, frA qy.obs.frames _, intsA qy.obs.samples _, intsA qy.obs.reads _]) pksA
          refine' back1 Tryz.results68 ?_ rfl ⟨?_, qy, H_⟩; rotate_left 1; exact rvA
          rfl
    · have hg1 : 20000 < l.ppu.t + n := by omega
      have hg2 : l.goes = false := by rw [hgo]; exact decide_eq_false (by omega)
      rw [hz1, hg2, if_neg (by decide)]
      clear hz1 hg2 hgo hg
      go_enter Tryz.func68, Tryz.ntmps68
      go_upto_region 2 with (first | ((with_reducible refine g_alloc rfl ?_); refine eNw H ?_; clear H; intro g_ W_ H) | ((with_reducible refine g_load rfl ?_); first | refine eL1 H ?_ | refine eLa H ?_) | ((with_reducible refine g_store rfl ?_); (first | refine eSi H ?_ | refine eSb H ?_ | refine eSa H ?_); clear H; intro W_ H))
      (with_reducible refine g_draw ?_)
      try simp only [Act.put, List.setIfInBounds_toArray, List.set_cons_succ, List.set_cons_zero]
      refine F_begin (ls := #[false, false, false, false, false, false, false, false, false, false, false, false, false, false, false, false]) (by kernel_rfl) rfl (by kernel_rfl) ?_
      have H_ := H.drew
      (clear H; have H := H_; clear H_)
      refine T_go [(0, 0, 25), (0, 1, 26), (0, 2, 27), (1, 3, 28), (0, 4, 29), (0, 5, 30), (0, 6, 31), (1, 7, 32), (0, 8, 33), (0, 9, 34), (0, 10, 35), (0, 11, 36), (1, 12, 37)] ?_; (repeat (first | refine T_pA ?_ | refine T_rA ?_)); refine T_end ?_
      refine' share ?_ ?_; rotate_left 1
      focus
        intro key1_; have H := H
        refine F_eff2 (ls1 := #[true, true, true, true, true, true, true, true, true, true, true, true, true, true, false, false]) (ls2 := #[true, true, true, true, true, true, true, true, true, true, true, true, true, false, true, false]) (pend1 := []) (pend2 := [12, 7, 3]) 13 14 _ _ rfl rfl (by kernel_rfl) (by kernel_rfl) (by kernel_rfl) (by kernel_rfl) (by kernel_rfl) (fun K_ hK_ => ?_) (fun K_ hK_ => ?_)
        focus
          (conv => (arg 4; arg 1; whnf)); (repeat (first | refine hK_ _ _ rfl ?_ ?_ | (go_big_may; (go_at_call 142; (with_reducible refine (impl_fetch l.img q.img l.mem q.mem l.cpu.pc _ ⟨InRR.ofFr (H.get (x := frA q.img.banks l.img.banks) pkA)⟩ ⟨InI.of (H.get (x := intsA q.mem.ram l.mem.ram) pkA)⟩ HM.out p0_ p1_).mono ?_); rintro e w1 ⟨rfl, hb⟩; (replace H := H.callB hb; clear hb))) | go_step | go_guarded | go_upon | dsimp only)); exact kept_nil; clear hK_
          refine F_eA (ls' := #[true, true, true, true, true, true, true, true, true, true, true, true, true, true, true, false]) (pend' := []) 14 ?_; intro K_ hK_; (conv => (arg 4; arg 1; whnf)); (repeat (first | refine hK_ _ _ rfl ?_ ?_ | (go_big_may; (first | ((with_reducible refine g_alloc rfl ?_); refine eNw H ?_; intro g_ W_ H_; (clear H; have H := St.toEnd H_; clear H_); simp only [List.cons_append, List.nil_append] at H) | ((with_reducible refine g_load rfl ?_); first | refine eL1 H ?_ | refine eLa H ?_) | ((with_reducible refine g_store rfl ?_); (first | refine eSi H ?_ | refine eSb H ?_ | refine eSa H ?_); clear H; intro W_ H))) | go_step | go_guarded | go_upon | dsimp only)); exact kept_nil; clear hK_
          (try simp only [Act.put, List.setIfInBounds_toArray, List.set_cons_succ, List.set_cons_zero])
          revert H; revert W_; revert g_; exact key1_.out
        focus
          (conv => (arg 4; arg 1; whnf)); (repeat (first | refine hK_ _ _ rfl ?_ ?_ | (go_big_may; (first | ((with_reducible refine g_alloc rfl ?_); refine eNw H ?_; intro g_ W_ H_; (clear H; have H := St.toEnd H_; clear H_); simp only [List.cons_append, List.nil_append] at H) | ((with_reducible refine g_load rfl ?_); first | refine eL1 H ?_ | refine eLa H ?_) | ((with_reducible refine g_store rfl ?_); (first | refine eSi H ?_ | refine eSb H ?_ | refine eSa H ?_); clear H; intro W_ H))) | go_step | go_guarded | go_upon | dsimp only)); (focus (refine kept_cA 12 37 ?_; refine kept_cA 7 32 ?_; refine kept_cA 3 28 ?_; exact kept_nil)); clear hK_
          refine F_eA (ls' := #[true, true, true, true, true, true, true, true, true, true, true, true, true, true, true, false]) (pend' := []) 13 ?_; intro K_ hK_; (conv => (arg 4; arg 1; whnf)); (repeat (first | refine hK_ _ _ rfl ?_ ?_ | (go_big_may; (go_at_call 142; (with_reducible refine (impl_fetch l.img q.img l.mem q.mem l.cpu.pc _ ⟨InRR.ofFr (H.get (x := frA q.img.banks l.img.banks) pkA)⟩ ⟨InI.of (H.get (x := intsA q.mem.ram l.mem.ram) pkA)⟩ HM.out p0_ p1_).mono ?_); rintro e w1 ⟨rfl, hb⟩; (replace H := H.callB hb; clear hb))) | go_step | go_guarded | go_upon | dsimp only)); exact kept_nil; clear hK_
          (try simp only [Act.put, List.setIfInBounds_toArray, List.set_cons_succ, List.set_cons_zero])
          revert H; revert w1; revert g_; exact key1_.out
      intro g_ w1 H
      refine F_eA (ls' := #[true, true, true, true, true, true, true, true, true, true, true, true, true, true, true, true]) (pend' := []) 15 ?_; intro K_ hK_; (conv => (arg 4; arg 1; whnf)); (repeat (first | refine hK_ _ _ rfl ?_ ?_ | (go_big_may; (first | ((with_reducible refine g_load rfl ?_); first | refine eL1 H ?_ | refine eLa H ?_) | ((with_reducible refine g_alloc rfl ?_); refine eNw H ?_; clear H; intro g_ W_ H) | ((with_reducible refine g_store rfl ?_); (first | refine eSi H ?_ | refine eSb H ?_ | refine eSa H ?_); clear H; intro W_ H))) | go_step | go_guarded | go_upon | dsimp only)); exact kept_nil
      refine F_done (by kernel_rfl) ?_
      go_wp2_with (first | (go_at_call 143; (with_reducible refine (impl_OpCycles _ _).mono ?_); rintro e w1 ⟨rfl, rfl⟩; rw [HN.out]) | ((with_reducible refine g_alloc rfl ?_); refine eNw H ?_; clear H; intro g_ W_ H) | ((with_reducible refine g_load rfl ?_); first | refine eL1 H ?_ | refine eLa H ?_) | ((with_reducible refine g_store rfl ?_); (first | refine eSi H ?_ | refine eSb H ?_ | refine eSa H ?_); clear H; intro W_ H))
      have H_ := H.take (xs := [Ast.blk g _ _, frA q.img.banks _, intsA q.pads _, intsA q.mem.ram _, intsA q.ppu.table _, intsA q.ppu.dots _, frA q.obs.frames _, intsA q.obs.samples _, intsA q.obs.reads _]) pksA
      refine' back1 Tryz.results68 ?_ rfl ⟨?_, q, H_⟩; rotate_left 1; exact rvA
      rfl
end Go.Proofs.YtjgggmcnbdjdjaaGreat.C

