/- What the machine in lock step reads. (written by ygen2.py) -/
import Derived.Test.YtjgggmcnbdjdjaaGreatY9
import Derived.Test.YtjgggmcnbdjdjaaGreatQ5
import Derived.Test.YtjgggmcnbdjdjaaGreatX
import Derived.Test.YtjgggmcnbdjdjaaGreatB2
namespace Go.Proofs.YtjgggmcnbdjdjaaGreat.C
open Go.RowKit Go.Proofs.YtjgggmcnbdjdjaaGreat.K Go.Proofs.YtjgggmcnbdjdjaaGreat.B
attribute [local go_sem] max2_int min2_int max_two min_two i64_and255 i64_and65535 i64_and1
set_option maxRecDepth 20000
set_option linter.unusedVariables false
set_option linter.unusedSimpArgs false
def LockD.saysR (l : LockD) (a : Int) : Int := if regR a = 2 then l.ppu.rdv (regA a) else if regR a = 3 then l.apu.says (regA a) else if regR a = 4 then l.pad.says l.pads l.ppu.t else l.mem.peek l.img a
def LockD.readR (l : LockD) (a : Int) : LockD :=
  if regR a = 2 then ⟨l.img, l.pads, l.mem, l.cpu, l.ppu.rdx (regA a), l.apu, l.pad, l.nmi, l.steps, ⟨l.obs.frames, l.obs.samples, l.obs.reads ++ [l.ppu.rdv (regA a)]⟩⟩
  else if regR a = 3 then ⟨l.img, l.pads, l.mem, l.cpu, l.ppu, l.apu.read (regA a), l.pad, l.nmi, l.steps, ⟨l.obs.frames, l.obs.samples, l.obs.reads ++ [l.apu.says (regA a)]⟩⟩
  else if regR a = 4 then ⟨l.img, l.pads, l.mem, l.cpu, l.ppu, l.apu, l.pad.read l.pads l.ppu.t, l.nmi, l.steps, ⟨l.obs.frames, l.obs.samples, l.obs.reads ++ [l.pad.says l.pads l.ppu.t]⟩⟩ else l
def LockD.read (l : LockD) (a : Int) : LockD := if l.ok = true then l.readR a else l
def LockD.says (l : LockD) (a : Int) : Int := if l.ok = true then l.saysR a else 0
theorem rdx_lens (x : PpuD) (r : Int) : (x.rdx r).table = x.table ∧ (x.rdx r).dots = x.dots := by unfold PpuD.rdx; (repeat' split) <;> exact ⟨rfl, rfl⟩
theorem LockD.read_mk (l : LockD) (a : Int) : (l.read a).mk_ ≤ l.mk_ + 1 := by
  unfold LockD.read LockD.readR
  split
  · split
    · obtain ⟨h1, h2⟩ := rdx_lens l.ppu (regA a)
      simp only [LockD.mk_, PpuD.mk_, ObsD.mk_, h1, h2, List.length_append, List.length_cons, List.length_nil]
      omega
    · split
      · simp only [LockD.mk_, ObsD.mk_, List.length_append, List.length_cons, List.length_nil]
        omega
      · split
        · simp only [LockD.mk_, ObsD.mk_, List.length_append, List.length_cons, List.length_nil]
          omega
        · omega
  · omega
theorem spec_PpuReadK (x : PpuD) (q : PpuP) (r : Int) (w : World) (hx : PpuIn w x q) (hs : PpuSmall x) (hok : x.ok = true) : Calls Tryz.prog 110 #[.agg #[.int .i64 x.t, .int .i64 x.ctrl, .int .i64 x.scroll, .int .i64 x.addr, .int .i64 x.pal, .bool x.blank, .slice q.table.A x.table.length q.table.c, .slice q.dots.A x.dots.length q.dots.c], .int .i64 r] w fun e w' => ∃ q', e = .returned (.tuple #[.agg #[.int .i64 (x.rdx r).t, .int .i64 (x.rdx r).ctrl, .int .i64 (x.rdx r).scroll, .int .i64 (x.rdx r).addr, .int .i64 (x.rdx r).pal, .bool (x.rdx r).blank, .slice q'.table.A (x.rdx r).table.length q'.table.c, .slice q'.dots.A (x.rdx r).dots.length q'.dots.c], .int .i64 (x.rdv r)]) ∧ St w [] w' [ppuA (x.rdx r) q'] := by
  have h := spec_PpuRead x q r w hx hs
  have e1 : x.read r = x.rdx r := by simp [PpuD.read, hok]
  have e2 : x.says r = x.rdv r := by simp [PpuD.says, hok]
  rwa [e1, e2] at h
set_option maxHeartbeats 16000000 in
theorem impl_lread (l : LockD) (q : LockP) (a : Int) (g : Nat) (w : World) (hH : Hol w [Ast.blk g [.slice q.img.banks.s.A l.img.banks.length q.img.banks.s.c, .slice q.pads.A l.pads.length q.pads.c, .slice q.mem.ram.A l.mem.ram.length q.mem.ram.c, .int .i64 l.mem.bank, .int .i64 l.cpu.a, .int .i64 l.cpu.x, .int .i64 l.cpu.s, .int .i64 l.cpu.pc, .bool l.cpu.z, .bool l.cpu.n, .bool l.cpu.c, .bool l.cpu.i, .int .i64 l.ppu.t, .int .i64 l.ppu.ctrl, .int .i64 l.ppu.scroll, .int .i64 l.ppu.addr, .int .i64 l.ppu.pal, .bool l.ppu.blank, .slice q.ppu.table.A l.ppu.table.length q.ppu.table.c, .slice q.ppu.dots.A l.ppu.dots.length q.ppu.dots.c, .int .i64 l.apu.t, .int .i64 l.apu.p, .int .i64 l.apu.c, .int .i64 l.apu.b, .int .i64 l.apu.l, .bool l.apu.k, .bool l.apu.i, .bool l.pad.h, .int .i64 l.pad.s, .bool l.nmi, .int .i64 l.steps, .slice q.obs.frames.s.A l.obs.frames.length q.obs.frames.s.c, .slice q.obs.samples.A l.obs.samples.length q.obs.samples.c, .slice q.obs.reads.A l.obs.reads.length q.obs.reads.c] 49, frA q.img.banks l.img.banks, intsA q.pads l.pads, intsA q.mem.ram l.mem.ram, intsA q.ppu.table l.ppu.table, intsA q.ppu.dots l.ppu.dots, frA q.obs.frames l.obs.frames, intsA q.obs.samples l.obs.samples, intsA q.obs.reads l.obs.reads]) (hok : l.ok = true) (hsr : l.obs.reads.length ≤ 1048576) : Calls Tryz.prog 50 #[.pointer (some ⟨g, 0, none⟩), .int .i64 a] w fun e w' => e = .returned (.int .i64 (l.saysR a)) ∧ ∃ q' : LockP, St w ([Ast.blk g [.slice q.img.banks.s.A l.img.banks.length q.img.banks.s.c, .slice q.pads.A l.pads.length q.pads.c, .slice q.mem.ram.A l.mem.ram.length q.mem.ram.c, .int .i64 l.mem.bank, .int .i64 l.cpu.a, .int .i64 l.cpu.x, .int .i64 l.cpu.s, .int .i64 l.cpu.pc, .bool l.cpu.z, .bool l.cpu.n, .bool l.cpu.c, .bool l.cpu.i, .int .i64 l.ppu.t, .int .i64 l.ppu.ctrl, .int .i64 l.ppu.scroll, .int .i64 l.ppu.addr, .int .i64 l.ppu.pal, .bool l.ppu.blank, .slice q.ppu.table.A l.ppu.table.length q.ppu.table.c, .slice q.ppu.dots.A l.ppu.dots.length q.ppu.dots.c, .int .i64 l.apu.t, .int .i64 l.apu.p, .int .i64 l.apu.c, .int .i64 l.apu.b, .int .i64 l.apu.l, .bool l.apu.k, .bool l.apu.i, .bool l.pad.h, .int .i64 l.pad.s, .bool l.nmi, .int .i64 l.steps, .slice q.obs.frames.s.A l.obs.frames.length q.obs.frames.s.c, .slice q.obs.samples.A l.obs.samples.length q.obs.samples.c, .slice q.obs.reads.A l.obs.reads.length q.obs.reads.c] 49, frA q.img.banks l.img.banks, intsA q.pads l.pads, intsA q.mem.ram l.mem.ram, intsA q.ppu.table l.ppu.table, intsA q.ppu.dots l.ppu.dots, frA q.obs.frames l.obs.frames, intsA q.obs.samples l.obs.samples, intsA q.obs.reads l.obs.reads].flatMap Ast.fp) w' [Ast.blk g [.slice q'.img.banks.s.A (l.readR a).img.banks.length q'.img.banks.s.c, .slice q'.pads.A (l.readR a).pads.length q'.pads.c, .slice q'.mem.ram.A (l.readR a).mem.ram.length q'.mem.ram.c, .int .i64 (l.readR a).mem.bank, .int .i64 (l.readR a).cpu.a, .int .i64 (l.readR a).cpu.x, .int .i64 (l.readR a).cpu.s, .int .i64 (l.readR a).cpu.pc, .bool (l.readR a).cpu.z, .bool (l.readR a).cpu.n, .bool (l.readR a).cpu.c, .bool (l.readR a).cpu.i, .int .i64 (l.readR a).ppu.t, .int .i64 (l.readR a).ppu.ctrl, .int .i64 (l.readR a).ppu.scroll, .int .i64 (l.readR a).ppu.addr, .int .i64 (l.readR a).ppu.pal, .bool (l.readR a).ppu.blank, .slice q'.ppu.table.A (l.readR a).ppu.table.length q'.ppu.table.c, .slice q'.ppu.dots.A (l.readR a).ppu.dots.length q'.ppu.dots.c, .int .i64 (l.readR a).apu.t, .int .i64 (l.readR a).apu.p, .int .i64 (l.readR a).apu.c, .int .i64 (l.readR a).apu.b, .int .i64 (l.readR a).apu.l, .bool (l.readR a).apu.k, .bool (l.readR a).apu.i, .bool (l.readR a).pad.h, .int .i64 (l.readR a).pad.s, .bool (l.readR a).nmi, .int .i64 (l.readR a).steps, .slice q'.obs.frames.s.A (l.readR a).obs.frames.length q'.obs.frames.s.c, .slice q'.obs.samples.A (l.readR a).obs.samples.length q'.obs.samples.c, .slice q'.obs.reads.A (l.readR a).obs.reads.length q'.obs.reads.c] 49, frA q'.img.banks (l.readR a).img.banks, intsA q'.pads (l.readR a).pads, intsA q'.mem.ram (l.readR a).mem.ram, intsA q'.ppu.table (l.readR a).ppu.table, intsA q'.ppu.dots (l.readR a).ppu.dots, frA q'.obs.frames (l.readR a).obs.frames, intsA q'.obs.samples (l.readR a).obs.samples, intsA q'.obs.reads (l.readR a).obs.reads] := by
  have H := hH.st
  have hmem := (LockD.ok_at hok).1
  have hppu := (LockD.ok_at hok).2.2.2.1
  have htb := (PpuD.ok_at hppu).1
  obtain ⟨t0_, t1_⟩ := htb
  clear hok
  generalize hF : List.flatMap Ast.fp _ = F at H ⊢
  clear hF hH
  rcases reg_cases a with ⟨e1, a0, a1⟩ | ⟨e1, a0, a1⟩ | ⟨e1, a0, a1⟩ | ⟨e1, a0⟩ | ⟨e1, a0, a1⟩ | ⟨e1, a0, a1⟩ | ⟨e1, a0⟩
  · obtain ⟨k, e2⟩ : ∃ k : Int, regA a = k := ⟨_, rfl⟩
    have hz : l.readR a = l := by simp [LockD.readR, e1]
    have hv : l.saysR a = l.mem.peek l.img a := by simp [LockD.saysR, e1]
    rw [hz, hv]
    have E1 := Lib.hid e1
    have E2 := Lib.hid e2
    clear e1 e2 hz hv a0 a1
    go_enter Tryz.func50, Tryz.ntmps50
    go_upto_region 4 with (first | (go_at_call 126; (with_reducible refine (impl_Region _ _).mono ?_); rintro e w1 ⟨rfl, rfl⟩; rw [E1.out, E2.out]) | ((with_reducible refine g_load rfl ?_); first | refine eL1 H ?_ | refine eLa H ?_) | ((with_reducible refine g_store rfl ?_); (first | refine eSs H ?_ | refine eSa H ?_); clear H; intro W_ H))
    (with_reducible refine g_draw ?_)
    try simp only [Act.put, List.setIfInBounds_toArray, List.set_cons_succ, List.set_cons_zero]
    refine F_begin (ls := #[false, false, false, false, false, false, false, false, false, false, false]) (by kernel_rfl) rfl (by kernel_rfl) ?_
    have H_ := H.drew
    (clear H; have H := H_; clear H_)
    refine T_go [(0, 0, 14), (0, 1, 15), (0, 2, 16), (1, 3, 17), (0, 4, 18), (0, 5, 19), (0, 6, 20), (1, 7, 21), (0, 8, 22)] ?_; (repeat (first | refine T_pA ?_ | refine T_rA ?_)); refine T_end ?_
    refine F_eA (ls' := #[true, true, true, true, true, true, true, true, true, true, false]) (pend' := []) 9 ?_; intro K_ hK_; (conv => (arg 4; arg 1; whnf)); (repeat (first | refine hK_ _ _ rfl ?_ ?_ | (go_big_may; (go_at_call 130; (with_reducible refine (impl_peek l.img q.img l.mem q.mem _ _ _ ⟨InRR.ofFr (H.get (x := frA q.img.banks l.img.banks) pkA)⟩ ⟨InI.of (H.get (x := intsA q.mem.ram l.mem.ram) pkA)⟩ rfl hmem).mono ?_); rintro e w1 ⟨rfl, hb⟩; (replace H := H.callB hb; clear hb))) | go_step | go_guarded | go_upon | dsimp only)); exact kept_nil
    refine T_go [(0, 10, 4)] ?_; (repeat (refine T_pA ?_)); refine T_end ?_
    refine F_done (by kernel_rfl) ?_
    go_wp2_with (first | (go_at_call 126; (with_reducible refine (impl_Region _ _).mono ?_); rintro e w1 ⟨rfl, rfl⟩; rw [E1.out, E2.out]) | ((with_reducible refine g_load rfl ?_); first | refine eL1 H ?_ | refine eLa H ?_) | ((with_reducible refine g_store rfl ?_); (first | refine eSs H ?_ | refine eSa H ?_); clear H; intro W_ H))
    have H_ := H.take (xs := [Ast.blk g _ _, frA q.img.banks l.img.banks, intsA q.pads l.pads, intsA q.mem.ram l.mem.ram, intsA q.ppu.table l.ppu.table, intsA q.ppu.dots l.ppu.dots, frA q.obs.frames l.obs.frames, intsA q.obs.samples l.obs.samples, intsA q.obs.reads l.obs.reads]) pksA
    go_ret
    exact ⟨rfl, q, H_⟩
  · obtain ⟨k, e2⟩ : ∃ k : Int, regA a = k := ⟨_, rfl⟩
    obtain ⟨rr, HS⟩ : ∃ rr : List Int, Hid (rr = l.obs.reads ++ [l.ppu.rdv k]) := ⟨_, Lib.hid rfl⟩
    have hz : l.readR a = (LockD.mk l.img l.pads l.mem l.cpu (l.ppu.rdx k) (l.apu) (l.pad) l.nmi l.steps ⟨l.obs.frames, l.obs.samples, rr⟩) := by rw [HS.out]; simp [LockD.readR, e1, e2]
    have hv : l.saysR a = l.ppu.rdv k := by simp [LockD.saysR, e1, e2]
    rw [hz, hv]
    have E1 := Lib.hid e1
    have E2 := Lib.hid e2
    clear e1 e2 hz hv a0 a1
    go_enter Tryz.func50, Tryz.ntmps50
    go_wp2_with (first | (go_at_call 126; (with_reducible refine (impl_Region _ _).mono ?_); rintro e w1 ⟨rfl, rfl⟩; rw [E1.out, E2.out]) | (go_at_call 127; (with_reducible refine (impl_read_L l.ppu q.ppu _ _ _ _ _ _ _ _ _ _ _ _ _ _ _ _ _ _ _ _ _ _ _ _ _ _ _ g _ (St.holL (H.picks (xs := [Ast.blk g _ _, intsA q.ppu.table l.ppu.table]) pksA)) hppu).mono ?_); rintro e w1 ⟨rfl, kk⟩; replace H := St.uN (H.picks (xs := [Ast.blk g _ _, intsA q.ppu.table l.ppu.table]) pksA) kk; clear kk) | ((with_reducible refine g_buildSlice rfl ?_); refine ev_buildSlice1 (v := .int .i64 _) H rfl rfl rfl Tryz.underlying25 info_int (fill_int _) rfl (by decide) (by decide) (by decide) ?_; intro g_ W_ H_; (clear H; have H := H_; clear H_)) | ((with_reducible refine g_append rfl ?_); refine ev_appendN (xs := nums l.obs.reads) (news := [.int .i64 (l.ppu.rdv k)]) (N := rr.length) (cs' := nums rr) H rfl rfl Tryz.underlying25 info_int rfl (by decide) rfl rfl pkA (own_in (H.get pkA)) (fun h => by cases h) rfl rfl (by omega) (by unfold maxLen; omega) (by rw [HS.out]; simp) (by rw [HS.out]; simp [nums]) ?_; intro A_ c_ W_ H_; (clear H; have H := H_; clear H_)) | ((with_reducible refine g_load rfl ?_); first | refine eL1 H ?_ | refine eLa H ?_) | ((with_reducible refine g_store rfl ?_); (first | refine eSs H ?_ | refine eSa H ?_); clear H; intro W_ H))
    have hd : intsA q.ppu.dots l.ppu.dots = intsA q.ppu.dots (l.ppu.rdx k).dots := by rw [(rdx_lens l.ppu k).2]
    have hd2 : intsA q.ppu.table l.ppu.table = intsA q.ppu.table (l.ppu.rdx k).table := by rw [(rdx_lens l.ppu k).1]
    rw [hd, hd2] at H
    have H_ := H.take (xs := [Ast.blk g _ _, frA (LockP.mk q.img q.pads q.mem q.ppu ⟨q.obs.frames, q.obs.samples, ⟨A_, c_⟩⟩).img.banks (LockD.mk l.img l.pads l.mem l.cpu (l.ppu.rdx k) (l.apu) (l.pad) l.nmi l.steps ⟨l.obs.frames, l.obs.samples, rr⟩).img.banks, intsA (LockP.mk q.img q.pads q.mem q.ppu ⟨q.obs.frames, q.obs.samples, ⟨A_, c_⟩⟩).pads (LockD.mk l.img l.pads l.mem l.cpu (l.ppu.rdx k) (l.apu) (l.pad) l.nmi l.steps ⟨l.obs.frames, l.obs.samples, rr⟩).pads, intsA (LockP.mk q.img q.pads q.mem q.ppu ⟨q.obs.frames, q.obs.samples, ⟨A_, c_⟩⟩).mem.ram (LockD.mk l.img l.pads l.mem l.cpu (l.ppu.rdx k) (l.apu) (l.pad) l.nmi l.steps ⟨l.obs.frames, l.obs.samples, rr⟩).mem.ram, intsA (LockP.mk q.img q.pads q.mem q.ppu ⟨q.obs.frames, q.obs.samples, ⟨A_, c_⟩⟩).ppu.table (LockD.mk l.img l.pads l.mem l.cpu (l.ppu.rdx k) (l.apu) (l.pad) l.nmi l.steps ⟨l.obs.frames, l.obs.samples, rr⟩).ppu.table, intsA (LockP.mk q.img q.pads q.mem q.ppu ⟨q.obs.frames, q.obs.samples, ⟨A_, c_⟩⟩).ppu.dots (LockD.mk l.img l.pads l.mem l.cpu (l.ppu.rdx k) (l.apu) (l.pad) l.nmi l.steps ⟨l.obs.frames, l.obs.samples, rr⟩).ppu.dots, frA (LockP.mk q.img q.pads q.mem q.ppu ⟨q.obs.frames, q.obs.samples, ⟨A_, c_⟩⟩).obs.frames (LockD.mk l.img l.pads l.mem l.cpu (l.ppu.rdx k) (l.apu) (l.pad) l.nmi l.steps ⟨l.obs.frames, l.obs.samples, rr⟩).obs.frames, intsA (LockP.mk q.img q.pads q.mem q.ppu ⟨q.obs.frames, q.obs.samples, ⟨A_, c_⟩⟩).obs.samples (LockD.mk l.img l.pads l.mem l.cpu (l.ppu.rdx k) (l.apu) (l.pad) l.nmi l.steps ⟨l.obs.frames, l.obs.samples, rr⟩).obs.samples, intsA (LockP.mk q.img q.pads q.mem q.ppu ⟨q.obs.frames, q.obs.samples, ⟨A_, c_⟩⟩).obs.reads (LockD.mk l.img l.pads l.mem l.cpu (l.ppu.rdx k) (l.apu) (l.pad) l.nmi l.steps ⟨l.obs.frames, l.obs.samples, rr⟩).obs.reads]) pksA
    go_ret
    exact ⟨rfl, (LockP.mk q.img q.pads q.mem q.ppu ⟨q.obs.frames, q.obs.samples, ⟨A_, c_⟩⟩), H_⟩
  · obtain ⟨k, e2⟩ : ∃ k : Int, regA a = k := ⟨_, rfl⟩
    obtain ⟨rr, HS⟩ : ∃ rr : List Int, Hid (rr = l.obs.reads ++ [l.apu.says k]) := ⟨_, Lib.hid rfl⟩
    have hz : l.readR a = (LockD.mk l.img l.pads l.mem l.cpu (l.ppu) (l.apu.read k) (l.pad) l.nmi l.steps ⟨l.obs.frames, l.obs.samples, rr⟩) := by rw [HS.out]; simp [LockD.readR, e1, e2]
    have hv : l.saysR a = l.apu.says k := by simp [LockD.saysR, e1, e2]
    rw [hz, hv]
    have E1 := Lib.hid e1
    have E2 := Lib.hid e2
    clear e1 e2 hz hv a0 a1
    go_enter Tryz.func50, Tryz.ntmps50
    go_wp2_with (first | (go_at_call 126; (with_reducible refine (impl_Region _ _).mono ?_); rintro e w1 ⟨rfl, rfl⟩; rw [E1.out, E2.out]) | (go_at_call 128; (with_reducible refine (impl_ApuRead l.apu _ _).mono ?_); rintro e w1 ⟨rfl, hb⟩; (replace H := H.callB hb; clear hb)) | ((with_reducible refine g_buildSlice rfl ?_); refine ev_buildSlice1 (v := .int .i64 _) H rfl rfl rfl Tryz.underlying25 info_int (fill_int _) rfl (by decide) (by decide) (by decide) ?_; intro g_ W_ H_; (clear H; have H := H_; clear H_)) | ((with_reducible refine g_append rfl ?_); refine ev_appendN (xs := nums l.obs.reads) (news := [.int .i64 (l.apu.says k)]) (N := rr.length) (cs' := nums rr) H rfl rfl Tryz.underlying25 info_int rfl (by decide) rfl rfl pkA (own_in (H.get pkA)) (fun h => by cases h) rfl rfl (by omega) (by unfold maxLen; omega) (by rw [HS.out]; simp) (by rw [HS.out]; simp [nums]) ?_; intro A_ c_ W_ H_; (clear H; have H := H_; clear H_)) | ((with_reducible refine g_load rfl ?_); first | refine eL1 H ?_ | refine eLa H ?_) | ((with_reducible refine g_store rfl ?_); (first | refine eSs H ?_ | refine eSa H ?_); clear H; intro W_ H))
    have H_ := H.take (xs := [Ast.blk g _ _, frA (LockP.mk q.img q.pads q.mem q.ppu ⟨q.obs.frames, q.obs.samples, ⟨A_, c_⟩⟩).img.banks (LockD.mk l.img l.pads l.mem l.cpu (l.ppu) (l.apu.read k) (l.pad) l.nmi l.steps ⟨l.obs.frames, l.obs.samples, rr⟩).img.banks, intsA (LockP.mk q.img q.pads q.mem q.ppu ⟨q.obs.frames, q.obs.samples, ⟨A_, c_⟩⟩).pads (LockD.mk l.img l.pads l.mem l.cpu (l.ppu) (l.apu.read k) (l.pad) l.nmi l.steps ⟨l.obs.frames, l.obs.samples, rr⟩).pads, intsA (LockP.mk q.img q.pads q.mem q.ppu ⟨q.obs.frames, q.obs.samples, ⟨A_, c_⟩⟩).mem.ram (LockD.mk l.img l.pads l.mem l.cpu (l.ppu) (l.apu.read k) (l.pad) l.nmi l.steps ⟨l.obs.frames, l.obs.samples, rr⟩).mem.ram, intsA (LockP.mk q.img q.pads q.mem q.ppu ⟨q.obs.frames, q.obs.samples, ⟨A_, c_⟩⟩).ppu.table (LockD.mk l.img l.pads l.mem l.cpu (l.ppu) (l.apu.read k) (l.pad) l.nmi l.steps ⟨l.obs.frames, l.obs.samples, rr⟩).ppu.table, intsA (LockP.mk q.img q.pads q.mem q.ppu ⟨q.obs.frames, q.obs.samples, ⟨A_, c_⟩⟩).ppu.dots (LockD.mk l.img l.pads l.mem l.cpu (l.ppu) (l.apu.read k) (l.pad) l.nmi l.steps ⟨l.obs.frames, l.obs.samples, rr⟩).ppu.dots, frA (LockP.mk q.img q.pads q.mem q.ppu ⟨q.obs.frames, q.obs.samples, ⟨A_, c_⟩⟩).obs.frames (LockD.mk l.img l.pads l.mem l.cpu (l.ppu) (l.apu.read k) (l.pad) l.nmi l.steps ⟨l.obs.frames, l.obs.samples, rr⟩).obs.frames, intsA (LockP.mk q.img q.pads q.mem q.ppu ⟨q.obs.frames, q.obs.samples, ⟨A_, c_⟩⟩).obs.samples (LockD.mk l.img l.pads l.mem l.cpu (l.ppu) (l.apu.read k) (l.pad) l.nmi l.steps ⟨l.obs.frames, l.obs.samples, rr⟩).obs.samples, intsA (LockP.mk q.img q.pads q.mem q.ppu ⟨q.obs.frames, q.obs.samples, ⟨A_, c_⟩⟩).obs.reads (LockD.mk l.img l.pads l.mem l.cpu (l.ppu) (l.apu.read k) (l.pad) l.nmi l.steps ⟨l.obs.frames, l.obs.samples, rr⟩).obs.reads]) pksA
    go_ret
    exact ⟨rfl, (LockP.mk q.img q.pads q.mem q.ppu ⟨q.obs.frames, q.obs.samples, ⟨A_, c_⟩⟩), H_⟩
  · obtain ⟨k, e2⟩ : ∃ k : Int, regA a = k := ⟨_, rfl⟩
    obtain ⟨rr, HS⟩ : ∃ rr : List Int, Hid (rr = l.obs.reads ++ [l.pad.says l.pads l.ppu.t]) := ⟨_, Lib.hid rfl⟩
    have hz : l.readR a = (LockD.mk l.img l.pads l.mem l.cpu (l.ppu) (l.apu) (l.pad.read l.pads l.ppu.t) l.nmi l.steps ⟨l.obs.frames, l.obs.samples, rr⟩) := by rw [HS.out]; simp [LockD.readR, e1, e2]
    have hv : l.saysR a = l.pad.says l.pads l.ppu.t := by simp [LockD.saysR, e1, e2]
    rw [hz, hv]
    have E1 := Lib.hid e1
    have E2 := Lib.hid e2
    clear e1 e2 hz hv a0 
    go_enter Tryz.func50, Tryz.ntmps50
    go_upto_region 10 with (first | (go_at_call 126; (with_reducible refine (impl_Region _ _).mono ?_); rintro e w1 ⟨rfl, rfl⟩; rw [E1.out, E2.out]) | ((with_reducible refine g_load rfl ?_); first | refine eL1 H ?_ | refine eLa H ?_) | ((with_reducible refine g_store rfl ?_); (first | refine eSs H ?_ | refine eSa H ?_); clear H; intro W_ H))
    (with_reducible refine g_draw ?_)
    try simp only [Act.put, List.setIfInBounds_toArray, List.set_cons_succ, List.set_cons_zero]
    refine F_begin (ls := #[false, false, false, false, false, false, false, false, false, false, false, false, false, false, false, false, false, false, false, false, false, false]) (by kernel_rfl) rfl (by kernel_rfl) ?_
    have H_ := H.drew
    (clear H; have H := H_; clear H_)
    refine T_go [(0, 0, 48), (0, 1, 49), (0, 2, 50), (0, 3, 51), (1, 4, 52), (0, 5, 53), (0, 6, 54), (0, 7, 55), (1, 8, 56), (0, 9, 57), (0, 10, 58), (0, 11, 59), (0, 12, 60), (1, 13, 61)] ?_; (repeat (first | refine T_pA ?_ | refine T_rA ?_)); refine T_end ?_
    refine F_eA (ls' := #[true, true, true, true, true, true, true, true, true, true, true, true, true, true, true, false, false, false, false, false, false, false]) (pend' := []) 14 ?_; intro K_ hK_; (conv => (arg 4; arg 1; whnf)); (repeat (first | refine hK_ _ _ rfl ?_ ?_ | (go_big_may; (go_at_call 129; (with_reducible refine (impl_PadRead l.pad _ _ l.pads l.ppu.t _ (InI.of (H.get (x := intsA q.pads l.pads) pkA)) (by omega)).mono ?_); rintro e w1 ⟨rfl, hb⟩; (replace H := H.callB hb; clear hb))) | go_step | go_guarded | go_upon | dsimp only)); exact kept_nil
    refine T_go [(0, 15, 47), (0, 16, 63), (0, 17, 64), (0, 18, 65), (0, 19, 66)] ?_; (repeat (refine T_pA ?_)); refine T_end ?_
    refine F_eA (ls' := #[true, true, true, true, true, true, true, true, true, true, true, true, true, true, true, true, true, true, true, true, true, false]) (pend' := []) 20 ?_; intro K_ hK_; (conv => (arg 4; arg 1; whnf)); (repeat (first | refine hK_ _ _ rfl ?_ ?_ | (go_big_may; (first | ((with_reducible refine g_load rfl ?_); first | refine eL1 H ?_ | refine eLa H ?_) | ((with_reducible refine g_store rfl ?_); (first | refine eSs H ?_ | refine eSa H ?_); clear H; intro W_ H))) | go_step | go_guarded | go_upon | dsimp only)); exact kept_nil
    refine T_go [(0, 21, 7)] ?_; (repeat (refine T_pA ?_)); refine T_end ?_
    refine F_done (by kernel_rfl) ?_
    go_wp2_with (first | ((with_reducible refine g_buildSlice rfl ?_); refine ev_buildSlice1 (v := .int .i64 _) H rfl rfl rfl Tryz.underlying25 info_int (fill_int _) rfl (by decide) (by decide) (by decide) ?_; intro g_ W_ H_; (clear H; have H := H_; clear H_)) | ((with_reducible refine g_append rfl ?_); refine ev_appendN (xs := nums l.obs.reads) (news := [.int .i64 (l.pad.says l.pads l.ppu.t)]) (N := rr.length) (cs' := nums rr) H rfl rfl Tryz.underlying25 info_int rfl (by decide) rfl rfl pkA (own_in (H.get pkA)) (fun h => by cases h) rfl rfl (by omega) (by unfold maxLen; omega) (by rw [HS.out]; simp) (by rw [HS.out]; simp [nums]) ?_; intro A_ c_ W_ H_; (clear H; have H := H_; clear H_)) | ((with_reducible refine g_load rfl ?_); first | refine eL1 H ?_ | refine eLa H ?_) | ((with_reducible refine g_store rfl ?_); (first | refine eSs H ?_ | refine eSa H ?_); clear H; intro W_ H))
    have H_ := H.take (xs := [Ast.blk g _ _, frA (LockP.mk q.img q.pads q.mem q.ppu ⟨q.obs.frames, q.obs.samples, ⟨A_, c_⟩⟩).img.banks (LockD.mk l.img l.pads l.mem l.cpu (l.ppu) (l.apu) (l.pad.read l.pads l.ppu.t) l.nmi l.steps ⟨l.obs.frames, l.obs.samples, rr⟩).img.banks, intsA (LockP.mk q.img q.pads q.mem q.ppu ⟨q.obs.frames, q.obs.samples, ⟨A_, c_⟩⟩).pads (LockD.mk l.img l.pads l.mem l.cpu (l.ppu) (l.apu) (l.pad.read l.pads l.ppu.t) l.nmi l.steps ⟨l.obs.frames, l.obs.samples, rr⟩).pads, intsA (LockP.mk q.img q.pads q.mem q.ppu ⟨q.obs.frames, q.obs.samples, ⟨A_, c_⟩⟩).mem.ram (LockD.mk l.img l.pads l.mem l.cpu (l.ppu) (l.apu) (l.pad.read l.pads l.ppu.t) l.nmi l.steps ⟨l.obs.frames, l.obs.samples, rr⟩).mem.ram, intsA (LockP.mk q.img q.pads q.mem q.ppu ⟨q.obs.frames, q.obs.samples, ⟨A_, c_⟩⟩).ppu.table (LockD.mk l.img l.pads l.mem l.cpu (l.ppu) (l.apu) (l.pad.read l.pads l.ppu.t) l.nmi l.steps ⟨l.obs.frames, l.obs.samples, rr⟩).ppu.table, intsA (LockP.mk q.img q.pads q.mem q.ppu ⟨q.obs.frames, q.obs.samples, ⟨A_, c_⟩⟩).ppu.dots (LockD.mk l.img l.pads l.mem l.cpu (l.ppu) (l.apu) (l.pad.read l.pads l.ppu.t) l.nmi l.steps ⟨l.obs.frames, l.obs.samples, rr⟩).ppu.dots, frA (LockP.mk q.img q.pads q.mem q.ppu ⟨q.obs.frames, q.obs.samples, ⟨A_, c_⟩⟩).obs.frames (LockD.mk l.img l.pads l.mem l.cpu (l.ppu) (l.apu) (l.pad.read l.pads l.ppu.t) l.nmi l.steps ⟨l.obs.frames, l.obs.samples, rr⟩).obs.frames, intsA (LockP.mk q.img q.pads q.mem q.ppu ⟨q.obs.frames, q.obs.samples, ⟨A_, c_⟩⟩).obs.samples (LockD.mk l.img l.pads l.mem l.cpu (l.ppu) (l.apu) (l.pad.read l.pads l.ppu.t) l.nmi l.steps ⟨l.obs.frames, l.obs.samples, rr⟩).obs.samples, intsA (LockP.mk q.img q.pads q.mem q.ppu ⟨q.obs.frames, q.obs.samples, ⟨A_, c_⟩⟩).obs.reads (LockD.mk l.img l.pads l.mem l.cpu (l.ppu) (l.apu) (l.pad.read l.pads l.ppu.t) l.nmi l.steps ⟨l.obs.frames, l.obs.samples, rr⟩).obs.reads]) pksA
    go_ret
    exact ⟨rfl, (LockP.mk q.img q.pads q.mem q.ppu ⟨q.obs.frames, q.obs.samples, ⟨A_, c_⟩⟩), H_⟩
  · obtain ⟨k, e2⟩ : ∃ k : Int, regA a = k := ⟨_, rfl⟩
    have hz : l.readR a = l := by simp [LockD.readR, e1]
    have hv : l.saysR a = l.mem.peek l.img a := by simp [LockD.saysR, e1]
    rw [hz, hv]
    have E1 := Lib.hid e1
    have E2 := Lib.hid e2
    clear e1 e2 hz hv a0 a1
    go_enter Tryz.func50, Tryz.ntmps50
    go_upto_region 4 with (first | (go_at_call 126; (with_reducible refine (impl_Region _ _).mono ?_); rintro e w1 ⟨rfl, rfl⟩; rw [E1.out, E2.out]) | ((with_reducible refine g_load rfl ?_); first | refine eL1 H ?_ | refine eLa H ?_) | ((with_reducible refine g_store rfl ?_); (first | refine eSs H ?_ | refine eSa H ?_); clear H; intro W_ H))
    (with_reducible refine g_draw ?_)
    try simp only [Act.put, List.setIfInBounds_toArray, List.set_cons_succ, List.set_cons_zero]
    refine F_begin (ls := #[false, false, false, false, false, false, false, false, false, false, false]) (by kernel_rfl) rfl (by kernel_rfl) ?_
    have H_ := H.drew
    (clear H; have H := H_; clear H_)
    refine T_go [(0, 0, 14), (0, 1, 15), (0, 2, 16), (1, 3, 17), (0, 4, 18), (0, 5, 19), (0, 6, 20), (1, 7, 21), (0, 8, 22)] ?_; (repeat (first | refine T_pA ?_ | refine T_rA ?_)); refine T_end ?_
    refine F_eA (ls' := #[true, true, true, true, true, true, true, true, true, true, false]) (pend' := []) 9 ?_; intro K_ hK_; (conv => (arg 4; arg 1; whnf)); (repeat (first | refine hK_ _ _ rfl ?_ ?_ | (go_big_may; (go_at_call 130; (with_reducible refine (impl_peek l.img q.img l.mem q.mem _ _ _ ⟨InRR.ofFr (H.get (x := frA q.img.banks l.img.banks) pkA)⟩ ⟨InI.of (H.get (x := intsA q.mem.ram l.mem.ram) pkA)⟩ rfl hmem).mono ?_); rintro e w1 ⟨rfl, hb⟩; (replace H := H.callB hb; clear hb))) | go_step | go_guarded | go_upon | dsimp only)); exact kept_nil
    refine T_go [(0, 10, 4)] ?_; (repeat (refine T_pA ?_)); refine T_end ?_
    refine F_done (by kernel_rfl) ?_
    go_wp2_with (first | (go_at_call 126; (with_reducible refine (impl_Region _ _).mono ?_); rintro e w1 ⟨rfl, rfl⟩; rw [E1.out, E2.out]) | ((with_reducible refine g_load rfl ?_); first | refine eL1 H ?_ | refine eLa H ?_) | ((with_reducible refine g_store rfl ?_); (first | refine eSs H ?_ | refine eSa H ?_); clear H; intro W_ H))
    have H_ := H.take (xs := [Ast.blk g _ _, frA q.img.banks l.img.banks, intsA q.pads l.pads, intsA q.mem.ram l.mem.ram, intsA q.ppu.table l.ppu.table, intsA q.ppu.dots l.ppu.dots, frA q.obs.frames l.obs.frames, intsA q.obs.samples l.obs.samples, intsA q.obs.reads l.obs.reads]) pksA
    go_ret
    exact ⟨rfl, q, H_⟩
  · obtain ⟨k, e2⟩ : ∃ k : Int, regA a = k := ⟨_, rfl⟩
    have hz : l.readR a = l := by simp [LockD.readR, e1]
    have hv : l.saysR a = l.mem.peek l.img a := by simp [LockD.saysR, e1]
    rw [hz, hv]
    have E1 := Lib.hid e1
    have E2 := Lib.hid e2
    clear e1 e2 hz hv a0 a1
    go_enter Tryz.func50, Tryz.ntmps50
    go_upto_region 4 with (first | (go_at_call 126; (with_reducible refine (impl_Region _ _).mono ?_); rintro e w1 ⟨rfl, rfl⟩; rw [E1.out, E2.out]) | ((with_reducible refine g_load rfl ?_); first | refine eL1 H ?_ | refine eLa H ?_) | ((with_reducible refine g_store rfl ?_); (first | refine eSs H ?_ | refine eSa H ?_); clear H; intro W_ H))
    (with_reducible refine g_draw ?_)
    try simp only [Act.put, List.setIfInBounds_toArray, List.set_cons_succ, List.set_cons_zero]
    refine F_begin (ls := #[false, false, false, false, false, false, false, false, false, false, false]) (by kernel_rfl) rfl (by kernel_rfl) ?_
    have H_ := H.drew
    (clear H; have H := H_; clear H_)
    refine T_go [(0, 0, 14), (0, 1, 15), (0, 2, 16), (1, 3, 17), (0, 4, 18), (0, 5, 19), (0, 6, 20), (1, 7, 21), (0, 8, 22)] ?_; (repeat (first | refine T_pA ?_ | refine T_rA ?_)); refine T_end ?_
    refine F_eA (ls' := #[true, true, true, true, true, true, true, true, true, true, false]) (pend' := []) 9 ?_; intro K_ hK_; (conv => (arg 4; arg 1; whnf)); (repeat (first | refine hK_ _ _ rfl ?_ ?_ | (go_big_may; (go_at_call 130; (with_reducible refine (impl_peek l.img q.img l.mem q.mem _ _ _ ⟨InRR.ofFr (H.get (x := frA q.img.banks l.img.banks) pkA)⟩ ⟨InI.of (H.get (x := intsA q.mem.ram l.mem.ram) pkA)⟩ rfl hmem).mono ?_); rintro e w1 ⟨rfl, hb⟩; (replace H := H.callB hb; clear hb))) | go_step | go_guarded | go_upon | dsimp only)); exact kept_nil
    refine T_go [(0, 10, 4)] ?_; (repeat (refine T_pA ?_)); refine T_end ?_
    refine F_done (by kernel_rfl) ?_
    go_wp2_with (first | (go_at_call 126; (with_reducible refine (impl_Region _ _).mono ?_); rintro e w1 ⟨rfl, rfl⟩; rw [E1.out, E2.out]) | ((with_reducible refine g_load rfl ?_); first | refine eL1 H ?_ | refine eLa H ?_) | ((with_reducible refine g_store rfl ?_); (first | refine eSs H ?_ | refine eSa H ?_); clear H; intro W_ H))
    have H_ := H.take (xs := [Ast.blk g _ _, frA q.img.banks l.img.banks, intsA q.pads l.pads, intsA q.mem.ram l.mem.ram, intsA q.ppu.table l.ppu.table, intsA q.ppu.dots l.ppu.dots, frA q.obs.frames l.obs.frames, intsA q.obs.samples l.obs.samples, intsA q.obs.reads l.obs.reads]) pksA
    go_ret
    exact ⟨rfl, q, H_⟩
  · obtain ⟨k, e2⟩ : ∃ k : Int, regA a = k := ⟨_, rfl⟩
    have hz : l.readR a = l := by simp [LockD.readR, e1]
    have hv : l.saysR a = 0 := by simp [LockD.saysR, e1, MemD.peek]
    rw [hz, hv]
    have E1 := Lib.hid e1
    have E2 := Lib.hid e2
    clear e1 e2 hz hv a0 
    go_enter Tryz.func50, Tryz.ntmps50
    go_wp2_with (first | (go_at_call 126; (with_reducible refine (impl_Region _ _).mono ?_); rintro e w1 ⟨rfl, rfl⟩; rw [E1.out, E2.out]) | ((with_reducible refine g_load rfl ?_); first | refine eL1 H ?_ | refine eLa H ?_) | ((with_reducible refine g_store rfl ?_); (first | refine eSs H ?_ | refine eSa H ?_); clear H; intro W_ H))
    have H_ := H.take (xs := [Ast.blk g _ _, frA q.img.banks l.img.banks, intsA q.pads l.pads, intsA q.mem.ram l.mem.ram, intsA q.ppu.table l.ppu.table, intsA q.ppu.dots l.ppu.dots, frA q.obs.frames l.obs.frames, intsA q.obs.samples l.obs.samples, intsA q.obs.reads l.obs.reads]) pksA
    go_ret
    exact ⟨rfl, q, H_⟩
set_option maxHeartbeats 16000000 in
theorem spec_l12Read (l : LockD) (q : LockP) (a : Int) (w : World) (hH : Hol w [frA q.img.banks l.img.banks, intsA q.pads l.pads, intsA q.mem.ram l.mem.ram, ppuA l.ppu q.ppu, frA q.obs.frames l.obs.frames, intsA q.obs.samples l.obs.samples, intsA q.obs.reads l.obs.reads]) (hok : l.ok = true) (hsr : l.obs.reads.length ≤ 1048576) (hsp : PpuSmall l.ppu) : Calls Tryz.prog 41 #[.agg #[.slice q.img.banks.s.A l.img.banks.length q.img.banks.s.c, .slice q.pads.A l.pads.length q.pads.c, .slice q.mem.ram.A l.mem.ram.length q.mem.ram.c, .int .i64 l.mem.bank, .int .i64 l.cpu.a, .int .i64 l.cpu.x, .int .i64 l.cpu.s, .int .i64 l.cpu.pc, .bool l.cpu.z, .bool l.cpu.n, .bool l.cpu.c, .bool l.cpu.i, .int .i64 l.ppu.t, .int .i64 l.ppu.ctrl, .int .i64 l.ppu.scroll, .int .i64 l.ppu.addr, .int .i64 l.ppu.pal, .bool l.ppu.blank, .slice q.ppu.table.A l.ppu.table.length q.ppu.table.c, .slice q.ppu.dots.A l.ppu.dots.length q.ppu.dots.c, .int .i64 l.apu.t, .int .i64 l.apu.p, .int .i64 l.apu.c, .int .i64 l.apu.b, .int .i64 l.apu.l, .bool l.apu.k, .bool l.apu.i, .bool l.pad.h, .int .i64 l.pad.s, .bool l.nmi, .int .i64 l.steps, .slice q.obs.frames.s.A l.obs.frames.length q.obs.frames.s.c, .slice q.obs.samples.A l.obs.samples.length q.obs.samples.c, .slice q.obs.reads.A l.obs.reads.length q.obs.reads.c], .int .i64 a] w fun e w' => ∃ q' : LockP, e = .returned (.tuple #[.agg #[.slice q'.img.banks.s.A (l.readR a).img.banks.length q'.img.banks.s.c, .slice q'.pads.A (l.readR a).pads.length q'.pads.c, .slice q'.mem.ram.A (l.readR a).mem.ram.length q'.mem.ram.c, .int .i64 (l.readR a).mem.bank, .int .i64 (l.readR a).cpu.a, .int .i64 (l.readR a).cpu.x, .int .i64 (l.readR a).cpu.s, .int .i64 (l.readR a).cpu.pc, .bool (l.readR a).cpu.z, .bool (l.readR a).cpu.n, .bool (l.readR a).cpu.c, .bool (l.readR a).cpu.i, .int .i64 (l.readR a).ppu.t, .int .i64 (l.readR a).ppu.ctrl, .int .i64 (l.readR a).ppu.scroll, .int .i64 (l.readR a).ppu.addr, .int .i64 (l.readR a).ppu.pal, .bool (l.readR a).ppu.blank, .slice q'.ppu.table.A (l.readR a).ppu.table.length q'.ppu.table.c, .slice q'.ppu.dots.A (l.readR a).ppu.dots.length q'.ppu.dots.c, .int .i64 (l.readR a).apu.t, .int .i64 (l.readR a).apu.p, .int .i64 (l.readR a).apu.c, .int .i64 (l.readR a).apu.b, .int .i64 (l.readR a).apu.l, .bool (l.readR a).apu.k, .bool (l.readR a).apu.i, .bool (l.readR a).pad.h, .int .i64 (l.readR a).pad.s, .bool (l.readR a).nmi, .int .i64 (l.readR a).steps, .slice q'.obs.frames.s.A (l.readR a).obs.frames.length q'.obs.frames.s.c, .slice q'.obs.samples.A (l.readR a).obs.samples.length q'.obs.samples.c, .slice q'.obs.reads.A (l.readR a).obs.reads.length q'.obs.reads.c], .int .i64 (l.saysR a)]) ∧ St w ([frA q.img.banks l.img.banks, intsA q.pads l.pads, intsA q.mem.ram l.mem.ram, ppuA l.ppu q.ppu, frA q.obs.frames l.obs.frames, intsA q.obs.samples l.obs.samples, intsA q.obs.reads l.obs.reads].flatMap Ast.fp) w' [frA q'.img.banks (l.readR a).img.banks, intsA q'.pads (l.readR a).pads, intsA q'.mem.ram (l.readR a).mem.ram, ppuA (l.readR a).ppu q'.ppu, frA q'.obs.frames (l.readR a).obs.frames, intsA q'.obs.samples (l.readR a).obs.samples, intsA q'.obs.reads (l.readR a).obs.reads] := by
  have H := hH.st
  have hmem := (LockD.ok_at hok).1
  have hppu := (LockD.ok_at hok).2.2.2.1
  have htb := (PpuD.ok_at hppu).1
  obtain ⟨t0_, t1_⟩ := htb
  clear hok
  generalize hF : List.flatMap Ast.fp _ = F at H ⊢
  clear hF hH
  rcases reg_cases a with ⟨e1, a0, a1⟩ | ⟨e1, a0, a1⟩ | ⟨e1, a0, a1⟩ | ⟨e1, a0⟩ | ⟨e1, a0, a1⟩ | ⟨e1, a0, a1⟩ | ⟨e1, a0⟩
  · obtain ⟨k, e2⟩ : ∃ k : Int, regA a = k := ⟨_, rfl⟩
    have hz : l.readR a = l := by simp [LockD.readR, e1]
    have hv : l.saysR a = l.mem.peek l.img a := by simp [LockD.saysR, e1]
    rw [hz, hv]
    have E1 := Lib.hid e1
    have E2 := Lib.hid e2
    clear e1 e2 hz hv a0 a1
    go_enter Tryz.func41, Tryz.ntmps41
    go_upto_region 4 with (first | (go_at_call 109; (with_reducible refine (spec_Region _ _).mono ?_); rintro e w1 ⟨rfl, rfl⟩; rw [E1.out, E2.out]) | ((with_reducible refine g_box rfl ?_); refine eBa H ?_; clear H; intro g_ W_ H) | ((with_reducible refine g_alloc rfl ?_); refine eNw H ?_; clear H; intro g_ W_ H) | ((with_reducible refine g_load rfl ?_); first | refine eL1 H ?_ | refine eLa H ?_) | ((with_reducible refine g_store rfl ?_); (first | refine eSs H ?_ | refine eSa H ?_); clear H; intro W_ H))
    (with_reducible refine g_draw ?_)
    try simp only [Act.put, List.setIfInBounds_toArray, List.set_cons_succ, List.set_cons_zero]
    refine F_begin (ls := #[false, false, false, false, false, false, false, false, false]) (by kernel_rfl) rfl (by kernel_rfl) ?_
    have H_ := H.drew
    (clear H; have H := H_; clear H_)
    refine T_go [(1, 0, 15), (0, 1, 16), (1, 2, 17), (0, 3, 18), (1, 4, 19), (0, 5, 20)] ?_; (repeat (first | refine T_pA ?_ | refine T_rA ?_)); refine T_end ?_
    refine F_eA (ls' := #[true, true, true, true, true, true, true, false, false]) (pend' := [0]) 6 ?_; intro K_ hK_; (conv => (arg 4; arg 1; whnf)); (repeat (first | refine hK_ _ _ rfl ?_ ?_ | (go_big_may; (go_at_call 113; (with_reducible refine (spec_l6Peek l.img q.img l.mem q.mem _ _ _ ⟨InRR.ofFr (H.get (x := frA q.img.banks l.img.banks) pkA)⟩ ⟨InI.of (H.get (x := intsA q.mem.ram l.mem.ram) pkA)⟩ rfl hmem).mono ?_); rintro e w1 ⟨rfl, hb⟩; (replace H := H.callB hb; clear hb))) | go_step | go_guarded | go_upon | dsimp only)); (focus (refine kept_cA 0 15 ?_; exact kept_nil))
    refine F_eA (ls' := #[true, true, true, true, true, true, true, true, false]) (pend' := []) 7 ?_; intro K_ hK_; (conv => (arg 4; arg 1; whnf)); (repeat (first | refine hK_ _ _ rfl ?_ ?_ | (go_big_may; (first | ((with_reducible refine g_load rfl ?_); first | refine eL1 H ?_ | refine eLa H ?_) | ((with_reducible refine g_store rfl ?_); (first | refine eSs H ?_ | refine eSa H ?_); clear H; intro W_ H))) | go_step | go_guarded | go_upon | dsimp only)); exact kept_nil
    refine T_go [(0, 8, 5)] ?_; (repeat (refine T_pA ?_)); refine T_end ?_
    refine F_done (by kernel_rfl) ?_
    go_wp2_with (first | (go_at_call 109; (with_reducible refine (spec_Region _ _).mono ?_); rintro e w1 ⟨rfl, rfl⟩; rw [E1.out, E2.out]) | ((with_reducible refine g_box rfl ?_); refine eBa H ?_; clear H; intro g_ W_ H) | ((with_reducible refine g_alloc rfl ?_); refine eNw H ?_; clear H; intro g_ W_ H) | ((with_reducible refine g_load rfl ?_); first | refine eL1 H ?_ | refine eLa H ?_) | ((with_reducible refine g_store rfl ?_); (first | refine eSs H ?_ | refine eSa H ?_); clear H; intro W_ H))
    have H_ := H.take (xs := [frA q.img.banks l.img.banks, intsA q.pads l.pads, intsA q.mem.ram l.mem.ram, ppuA l.ppu q.ppu, frA q.obs.frames l.obs.frames, intsA q.obs.samples l.obs.samples, intsA q.obs.reads l.obs.reads]) pksA
    refine' back2 Tryz.results41 ?_ ?_ rfl ⟨q, ?_, H_⟩; rotate_left 2; exact rvA; exact rvA
    rfl
  · obtain ⟨k, e2⟩ : ∃ k : Int, regA a = k := ⟨_, rfl⟩
    obtain ⟨rr, HS⟩ : ∃ rr : List Int, Hid (rr = l.obs.reads ++ [l.ppu.rdv k]) := ⟨_, Lib.hid rfl⟩
    have hz : l.readR a = (LockD.mk l.img l.pads l.mem l.cpu (l.ppu.rdx k) (l.apu) (l.pad) l.nmi l.steps ⟨l.obs.frames, l.obs.samples, rr⟩) := by rw [HS.out]; simp [LockD.readR, e1, e2]
    have hv : l.saysR a = l.ppu.rdv k := by simp [LockD.saysR, e1, e2]
    rw [hz, hv]
    have E1 := Lib.hid e1
    have E2 := Lib.hid e2
    clear e1 e2 hz hv a0 a1
    go_enter Tryz.func41, Tryz.ntmps41
    go_wp2_with (first | (go_at_call 109; (with_reducible refine (spec_Region _ _).mono ?_); rintro e w1 ⟨rfl, rfl⟩; rw [E1.out, E2.out]) | (go_at_call 110; (with_reducible refine (spec_PpuReadK l.ppu q.ppu _ _ (PpuIn.of (H.get (x := ppuA l.ppu q.ppu) pkA)) hsp hppu).mono ?_); rintro e w1 ⟨qp_, rfl, kk⟩; replace H := H.cN kk; clear kk) | ((with_reducible refine g_buildSlice rfl ?_); refine ev_buildSlice1 (v := .int .i64 _) H rfl rfl rfl Tryz.underlying25 info_int (fill_int _) rfl (by decide) (by decide) (by decide) ?_; intro g_ W_ H_; (clear H; have H := H_; clear H_)) | ((with_reducible refine g_append rfl ?_); refine ev_appendN (xs := nums l.obs.reads) (news := [.int .i64 (l.ppu.rdv k)]) (N := rr.length) (cs' := nums rr) H rfl rfl Tryz.underlying25 info_int rfl (by decide) rfl rfl pkA (own_in (H.get pkA)) (fun h => by cases h) rfl rfl (by omega) (by unfold maxLen; omega) (by rw [HS.out]; simp) (by rw [HS.out]; simp [nums]) ?_; intro A_ c_ W_ H_; (clear H; have H := H_; clear H_)) | ((with_reducible refine g_box rfl ?_); refine eBa H ?_; clear H; intro g_ W_ H) | ((with_reducible refine g_alloc rfl ?_); refine eNw H ?_; clear H; intro g_ W_ H) | ((with_reducible refine g_load rfl ?_); first | refine eL1 H ?_ | refine eLa H ?_) | ((with_reducible refine g_store rfl ?_); (first | refine eSs H ?_ | refine eSa H ?_); clear H; intro W_ H))
    have H_ := H.take (xs := [frA (LockP.mk q.img q.pads q.mem qp_ ⟨q.obs.frames, q.obs.samples, ⟨A_, c_⟩⟩).img.banks (LockD.mk l.img l.pads l.mem l.cpu (l.ppu.rdx k) (l.apu) (l.pad) l.nmi l.steps ⟨l.obs.frames, l.obs.samples, rr⟩).img.banks, intsA (LockP.mk q.img q.pads q.mem qp_ ⟨q.obs.frames, q.obs.samples, ⟨A_, c_⟩⟩).pads (LockD.mk l.img l.pads l.mem l.cpu (l.ppu.rdx k) (l.apu) (l.pad) l.nmi l.steps ⟨l.obs.frames, l.obs.samples, rr⟩).pads, intsA (LockP.mk q.img q.pads q.mem qp_ ⟨q.obs.frames, q.obs.samples, ⟨A_, c_⟩⟩).mem.ram (LockD.mk l.img l.pads l.mem l.cpu (l.ppu.rdx k) (l.apu) (l.pad) l.nmi l.steps ⟨l.obs.frames, l.obs.samples, rr⟩).mem.ram, ppuA (LockD.mk l.img l.pads l.mem l.cpu (l.ppu.rdx k) (l.apu) (l.pad) l.nmi l.steps ⟨l.obs.frames, l.obs.samples, rr⟩).ppu (LockP.mk q.img q.pads q.mem qp_ ⟨q.obs.frames, q.obs.samples, ⟨A_, c_⟩⟩).ppu, frA (LockP.mk q.img q.pads q.mem qp_ ⟨q.obs.frames, q.obs.samples, ⟨A_, c_⟩⟩).obs.frames (LockD.mk l.img l.pads l.mem l.cpu (l.ppu.rdx k) (l.apu) (l.pad) l.nmi l.steps ⟨l.obs.frames, l.obs.samples, rr⟩).obs.frames, intsA (LockP.mk q.img q.pads q.mem qp_ ⟨q.obs.frames, q.obs.samples, ⟨A_, c_⟩⟩).obs.samples (LockD.mk l.img l.pads l.mem l.cpu (l.ppu.rdx k) (l.apu) (l.pad) l.nmi l.steps ⟨l.obs.frames, l.obs.samples, rr⟩).obs.samples, intsA (LockP.mk q.img q.pads q.mem qp_ ⟨q.obs.frames, q.obs.samples, ⟨A_, c_⟩⟩).obs.reads (LockD.mk l.img l.pads l.mem l.cpu (l.ppu.rdx k) (l.apu) (l.pad) l.nmi l.steps ⟨l.obs.frames, l.obs.samples, rr⟩).obs.reads]) pksA
    refine' back2 Tryz.results41 ?_ ?_ rfl ⟨(LockP.mk q.img q.pads q.mem qp_ ⟨q.obs.frames, q.obs.samples, ⟨A_, c_⟩⟩), ?_, H_⟩; rotate_left 2; exact rvA; exact rvA
    rfl
  · obtain ⟨k, e2⟩ : ∃ k : Int, regA a = k := ⟨_, rfl⟩
    obtain ⟨rr, HS⟩ : ∃ rr : List Int, Hid (rr = l.obs.reads ++ [l.apu.says k]) := ⟨_, Lib.hid rfl⟩
    have hz : l.readR a = (LockD.mk l.img l.pads l.mem l.cpu (l.ppu) (l.apu.read k) (l.pad) l.nmi l.steps ⟨l.obs.frames, l.obs.samples, rr⟩) := by rw [HS.out]; simp [LockD.readR, e1, e2]
    have hv : l.saysR a = l.apu.says k := by simp [LockD.saysR, e1, e2]
    rw [hz, hv]
    have E1 := Lib.hid e1
    have E2 := Lib.hid e2
    clear e1 e2 hz hv a0 a1
    go_enter Tryz.func41, Tryz.ntmps41
    go_wp2_with (first | (go_at_call 109; (with_reducible refine (spec_Region _ _).mono ?_); rintro e w1 ⟨rfl, rfl⟩; rw [E1.out, E2.out]) | (go_at_call 111; (with_reducible refine (spec_ApuRead l.apu _ _).mono ?_); rintro e w1 ⟨rfl, hb⟩; (replace H := H.callB hb; clear hb)) | ((with_reducible refine g_buildSlice rfl ?_); refine ev_buildSlice1 (v := .int .i64 _) H rfl rfl rfl Tryz.underlying25 info_int (fill_int _) rfl (by decide) (by decide) (by decide) ?_; intro g_ W_ H_; (clear H; have H := H_; clear H_)) | ((with_reducible refine g_append rfl ?_); refine ev_appendN (xs := nums l.obs.reads) (news := [.int .i64 (l.apu.says k)]) (N := rr.length) (cs' := nums rr) H rfl rfl Tryz.underlying25 info_int rfl (by decide) rfl rfl pkA (own_in (H.get pkA)) (fun h => by cases h) rfl rfl (by omega) (by unfold maxLen; omega) (by rw [HS.out]; simp) (by rw [HS.out]; simp [nums]) ?_; intro A_ c_ W_ H_; (clear H; have H := H_; clear H_)) | ((with_reducible refine g_box rfl ?_); refine eBa H ?_; clear H; intro g_ W_ H) | ((with_reducible refine g_alloc rfl ?_); refine eNw H ?_; clear H; intro g_ W_ H) | ((with_reducible refine g_load rfl ?_); first | refine eL1 H ?_ | refine eLa H ?_) | ((with_reducible refine g_store rfl ?_); (first | refine eSs H ?_ | refine eSa H ?_); clear H; intro W_ H))
    have H_ := H.take (xs := [frA (LockP.mk q.img q.pads q.mem q.ppu ⟨q.obs.frames, q.obs.samples, ⟨A_, c_⟩⟩).img.banks (LockD.mk l.img l.pads l.mem l.cpu (l.ppu) (l.apu.read k) (l.pad) l.nmi l.steps ⟨l.obs.frames, l.obs.samples, rr⟩).img.banks, intsA (LockP.mk q.img q.pads q.mem q.ppu ⟨q.obs.frames, q.obs.samples, ⟨A_, c_⟩⟩).pads (LockD.mk l.img l.pads l.mem l.cpu (l.ppu) (l.apu.read k) (l.pad) l.nmi l.steps ⟨l.obs.frames, l.obs.samples, rr⟩).pads, intsA (LockP.mk q.img q.pads q.mem q.ppu ⟨q.obs.frames, q.obs.samples, ⟨A_, c_⟩⟩).mem.ram (LockD.mk l.img l.pads l.mem l.cpu (l.ppu) (l.apu.read k) (l.pad) l.nmi l.steps ⟨l.obs.frames, l.obs.samples, rr⟩).mem.ram, ppuA (LockD.mk l.img l.pads l.mem l.cpu (l.ppu) (l.apu.read k) (l.pad) l.nmi l.steps ⟨l.obs.frames, l.obs.samples, rr⟩).ppu (LockP.mk q.img q.pads q.mem q.ppu ⟨q.obs.frames, q.obs.samples, ⟨A_, c_⟩⟩).ppu, frA (LockP.mk q.img q.pads q.mem q.ppu ⟨q.obs.frames, q.obs.samples, ⟨A_, c_⟩⟩).obs.frames (LockD.mk l.img l.pads l.mem l.cpu (l.ppu) (l.apu.read k) (l.pad) l.nmi l.steps ⟨l.obs.frames, l.obs.samples, rr⟩).obs.frames, intsA (LockP.mk q.img q.pads q.mem q.ppu ⟨q.obs.frames, q.obs.samples, ⟨A_, c_⟩⟩).obs.samples (LockD.mk l.img l.pads l.mem l.cpu (l.ppu) (l.apu.read k) (l.pad) l.nmi l.steps ⟨l.obs.frames, l.obs.samples, rr⟩).obs.samples, intsA (LockP.mk q.img q.pads q.mem q.ppu ⟨q.obs.frames, q.obs.samples, ⟨A_, c_⟩⟩).obs.reads (LockD.mk l.img l.pads l.mem l.cpu (l.ppu) (l.apu.read k) (l.pad) l.nmi l.steps ⟨l.obs.frames, l.obs.samples, rr⟩).obs.reads]) pksA
    refine' back2 Tryz.results41 ?_ ?_ rfl ⟨(LockP.mk q.img q.pads q.mem q.ppu ⟨q.obs.frames, q.obs.samples, ⟨A_, c_⟩⟩), ?_, H_⟩; rotate_left 2; exact rvA; exact rvA
    rfl
  · obtain ⟨k, e2⟩ : ∃ k : Int, regA a = k := ⟨_, rfl⟩
    obtain ⟨rr, HS⟩ : ∃ rr : List Int, Hid (rr = l.obs.reads ++ [l.pad.says l.pads l.ppu.t]) := ⟨_, Lib.hid rfl⟩
    have hz : l.readR a = (LockD.mk l.img l.pads l.mem l.cpu (l.ppu) (l.apu) (l.pad.read l.pads l.ppu.t) l.nmi l.steps ⟨l.obs.frames, l.obs.samples, rr⟩) := by rw [HS.out]; simp [LockD.readR, e1, e2]
    have hv : l.saysR a = l.pad.says l.pads l.ppu.t := by simp [LockD.saysR, e1, e2]
    rw [hz, hv]
    have E1 := Lib.hid e1
    have E2 := Lib.hid e2
    clear e1 e2 hz hv a0 
    go_enter Tryz.func41, Tryz.ntmps41
    go_wp2_with (first | (go_at_call 109; (with_reducible refine (spec_Region _ _).mono ?_); rintro e w1 ⟨rfl, rfl⟩; rw [E1.out, E2.out]) | (go_at_call 112; (with_reducible refine (spec_PadRead l.pad _ _ l.pads l.ppu.t _ (InI.of (H.get (x := intsA q.pads l.pads) pkA)) (by omega)).mono ?_); rintro e w1 ⟨rfl, hb⟩; (replace H := H.callB hb; clear hb)) | ((with_reducible refine g_buildSlice rfl ?_); refine ev_buildSlice1 (v := .int .i64 _) H rfl rfl rfl Tryz.underlying25 info_int (fill_int _) rfl (by decide) (by decide) (by decide) ?_; intro g_ W_ H_; (clear H; have H := H_; clear H_)) | ((with_reducible refine g_append rfl ?_); refine ev_appendN (xs := nums l.obs.reads) (news := [.int .i64 (l.pad.says l.pads l.ppu.t)]) (N := rr.length) (cs' := nums rr) H rfl rfl Tryz.underlying25 info_int rfl (by decide) rfl rfl pkA (own_in (H.get pkA)) (fun h => by cases h) rfl rfl (by omega) (by unfold maxLen; omega) (by rw [HS.out]; simp) (by rw [HS.out]; simp [nums]) ?_; intro A_ c_ W_ H_; (clear H; have H := H_; clear H_)) | ((with_reducible refine g_box rfl ?_); refine eBa H ?_; clear H; intro g_ W_ H) | ((with_reducible refine g_alloc rfl ?_); refine eNw H ?_; clear H; intro g_ W_ H) | ((with_reducible refine g_load rfl ?_); first | refine eL1 H ?_ | refine eLa H ?_) | ((with_reducible refine g_store rfl ?_); (first | refine eSs H ?_ | refine eSa H ?_); clear H; intro W_ H))
    have H_ := H.take (xs := [frA (LockP.mk q.img q.pads q.mem q.ppu ⟨q.obs.frames, q.obs.samples, ⟨A_, c_⟩⟩).img.banks (LockD.mk l.img l.pads l.mem l.cpu (l.ppu) (l.apu) (l.pad.read l.pads l.ppu.t) l.nmi l.steps ⟨l.obs.frames, l.obs.samples, rr⟩).img.banks, intsA (LockP.mk q.img q.pads q.mem q.ppu ⟨q.obs.frames, q.obs.samples, ⟨A_, c_⟩⟩).pads (LockD.mk l.img l.pads l.mem l.cpu (l.ppu) (l.apu) (l.pad.read l.pads l.ppu.t) l.nmi l.steps ⟨l.obs.frames, l.obs.samples, rr⟩).pads, intsA (LockP.mk q.img q.pads q.mem q.ppu ⟨q.obs.frames, q.obs.samples, ⟨A_, c_⟩⟩).mem.ram (LockD.mk l.img l.pads l.mem l.cpu (l.ppu) (l.apu) (l.pad.read l.pads l.ppu.t) l.nmi l.steps ⟨l.obs.frames, l.obs.samples, rr⟩).mem.ram, ppuA (LockD.mk l.img l.pads l.mem l.cpu (l.ppu) (l.apu) (l.pad.read l.pads l.ppu.t) l.nmi l.steps ⟨l.obs.frames, l.obs.samples, rr⟩).ppu (LockP.mk q.img q.pads q.mem q.ppu ⟨q.obs.frames, q.obs.samples, ⟨A_, c_⟩⟩).ppu, frA (LockP.mk q.img q.pads q.mem q.ppu ⟨q.obs.frames, q.obs.samples, ⟨A_, c_⟩⟩).obs.frames (LockD.mk l.img l.pads l.mem l.cpu (l.ppu) (l.apu) (l.pad.read l.pads l.ppu.t) l.nmi l.steps ⟨l.obs.frames, l.obs.samples, rr⟩).obs.frames, intsA (LockP.mk q.img q.pads q.mem q.ppu ⟨q.obs.frames, q.obs.samples, ⟨A_, c_⟩⟩).obs.samples (LockD.mk l.img l.pads l.mem l.cpu (l.ppu) (l.apu) (l.pad.read l.pads l.ppu.t) l.nmi l.steps ⟨l.obs.frames, l.obs.samples, rr⟩).obs.samples, intsA (LockP.mk q.img q.pads q.mem q.ppu ⟨q.obs.frames, q.obs.samples, ⟨A_, c_⟩⟩).obs.reads (LockD.mk l.img l.pads l.mem l.cpu (l.ppu) (l.apu) (l.pad.read l.pads l.ppu.t) l.nmi l.steps ⟨l.obs.frames, l.obs.samples, rr⟩).obs.reads]) pksA
    refine' back2 Tryz.results41 ?_ ?_ rfl ⟨(LockP.mk q.img q.pads q.mem q.ppu ⟨q.obs.frames, q.obs.samples, ⟨A_, c_⟩⟩), ?_, H_⟩; rotate_left 2; exact rvA; exact rvA
    rfl
  · obtain ⟨k, e2⟩ : ∃ k : Int, regA a = k := ⟨_, rfl⟩
    have hz : l.readR a = l := by simp [LockD.readR, e1]
    have hv : l.saysR a = l.mem.peek l.img a := by simp [LockD.saysR, e1]
    rw [hz, hv]
    have E1 := Lib.hid e1
    have E2 := Lib.hid e2
    clear e1 e2 hz hv a0 a1
    go_enter Tryz.func41, Tryz.ntmps41
    go_upto_region 4 with (first | (go_at_call 109; (with_reducible refine (spec_Region _ _).mono ?_); rintro e w1 ⟨rfl, rfl⟩; rw [E1.out, E2.out]) | ((with_reducible refine g_box rfl ?_); refine eBa H ?_; clear H; intro g_ W_ H) | ((with_reducible refine g_alloc rfl ?_); refine eNw H ?_; clear H; intro g_ W_ H) | ((with_reducible refine g_load rfl ?_); first | refine eL1 H ?_ | refine eLa H ?_) | ((with_reducible refine g_store rfl ?_); (first | refine eSs H ?_ | refine eSa H ?_); clear H; intro W_ H))
    (with_reducible refine g_draw ?_)
    try simp only [Act.put, List.setIfInBounds_toArray, List.set_cons_succ, List.set_cons_zero]
    refine F_begin (ls := #[false, false, false, false, false, false, false, false, false]) (by kernel_rfl) rfl (by kernel_rfl) ?_
    have H_ := H.drew
    (clear H; have H := H_; clear H_)
    refine T_go [(1, 0, 15), (0, 1, 16), (1, 2, 17), (0, 3, 18), (1, 4, 19), (0, 5, 20)] ?_; (repeat (first | refine T_pA ?_ | refine T_rA ?_)); refine T_end ?_
    refine F_eA (ls' := #[true, true, true, true, true, true, true, false, false]) (pend' := [0]) 6 ?_; intro K_ hK_; (conv => (arg 4; arg 1; whnf)); (repeat (first | refine hK_ _ _ rfl ?_ ?_ | (go_big_may; (go_at_call 113; (with_reducible refine (spec_l6Peek l.img q.img l.mem q.mem _ _ _ ⟨InRR.ofFr (H.get (x := frA q.img.banks l.img.banks) pkA)⟩ ⟨InI.of (H.get (x := intsA q.mem.ram l.mem.ram) pkA)⟩ rfl hmem).mono ?_); rintro e w1 ⟨rfl, hb⟩; (replace H := H.callB hb; clear hb))) | go_step | go_guarded | go_upon | dsimp only)); (focus (refine kept_cA 0 15 ?_; exact kept_nil))
    refine F_eA (ls' := #[true, true, true, true, true, true, true, true, false]) (pend' := []) 7 ?_; intro K_ hK_; (conv => (arg 4; arg 1; whnf)); (repeat (first | refine hK_ _ _ rfl ?_ ?_ | (go_big_may; (first | ((with_reducible refine g_load rfl ?_); first | refine eL1 H ?_ | refine eLa H ?_) | ((with_reducible refine g_store rfl ?_); (first | refine eSs H ?_ | refine eSa H ?_); clear H; intro W_ H))) | go_step | go_guarded | go_upon | dsimp only)); exact kept_nil
    refine T_go [(0, 8, 5)] ?_; (repeat (refine T_pA ?_)); refine T_end ?_
    refine F_done (by kernel_rfl) ?_
    go_wp2_with (first | (go_at_call 109; (with_reducible refine (spec_Region _ _).mono ?_); rintro e w1 ⟨rfl, rfl⟩; rw [E1.out, E2.out]) | ((with_reducible refine g_box rfl ?_); refine eBa H ?_; clear H; intro g_ W_ H) | ((with_reducible refine g_alloc rfl ?_); refine eNw H ?_; clear H; intro g_ W_ H) | ((with_reducible refine g_load rfl ?_); first | refine eL1 H ?_ | refine eLa H ?_) | ((with_reducible refine g_store rfl ?_); (first | refine eSs H ?_ | refine eSa H ?_); clear H; intro W_ H))
    have H_ := H.take (xs := [frA q.img.banks l.img.banks, intsA q.pads l.pads, intsA q.mem.ram l.mem.ram, ppuA l.ppu q.ppu, frA q.obs.frames l.obs.frames, intsA q.obs.samples l.obs.samples, intsA q.obs.reads l.obs.reads]) pksA
    refine' back2 Tryz.results41 ?_ ?_ rfl ⟨q, ?_, H_⟩; rotate_left 2; exact rvA; exact rvA
    rfl
  · obtain ⟨k, e2⟩ : ∃ k : Int, regA a = k := ⟨_, rfl⟩
    have hz : l.readR a = l := by simp [LockD.readR, e1]
    have hv : l.saysR a = l.mem.peek l.img a := by simp [LockD.saysR, e1]
    rw [hz, hv]
    have E1 := Lib.hid e1
    have E2 := Lib.hid e2
    clear e1 e2 hz hv a0 a1
    go_enter Tryz.func41, Tryz.ntmps41
    go_upto_region 4 with (first | (go_at_call 109; (with_reducible refine (spec_Region _ _).mono ?_); rintro e w1 ⟨rfl, rfl⟩; rw [E1.out, E2.out]) | ((with_reducible refine g_box rfl ?_); refine eBa H ?_; clear H; intro g_ W_ H) | ((with_reducible refine g_alloc rfl ?_); refine eNw H ?_; clear H; intro g_ W_ H) | ((with_reducible refine g_load rfl ?_); first | refine eL1 H ?_ | refine eLa H ?_) | ((with_reducible refine g_store rfl ?_); (first | refine eSs H ?_ | refine eSa H ?_); clear H; intro W_ H))
    (with_reducible refine g_draw ?_)
    try simp only [Act.put, List.setIfInBounds_toArray, List.set_cons_succ, List.set_cons_zero]
    refine F_begin (ls := #[false, false, false, false, false, false, false, false, false]) (by kernel_rfl) rfl (by kernel_rfl) ?_
    have H_ := H.drew
    (clear H; have H := H_; clear H_)
    refine T_go [(1, 0, 15), (0, 1, 16), (1, 2, 17), (0, 3, 18), (1, 4, 19), (0, 5, 20)] ?_; (repeat (first | refine T_pA ?_ | refine T_rA ?_)); refine T_end ?_
    refine F_eA (ls' := #[true, true, true, true, true, true, true, false, false]) (pend' := [0]) 6 ?_; intro K_ hK_; (conv => (arg 4; arg 1; whnf)); (repeat (first | refine hK_ _ _ rfl ?_ ?_ | (go_big_may; (go_at_call 113; (with_reducible refine (spec_l6Peek l.img q.img l.mem q.mem _ _ _ ⟨InRR.ofFr (H.get (x := frA q.img.banks l.img.banks) pkA)⟩ ⟨InI.of (H.get (x := intsA q.mem.ram l.mem.ram) pkA)⟩ rfl hmem).mono ?_); rintro e w1 ⟨rfl, hb⟩; (replace H := H.callB hb; clear hb))) | go_step | go_guarded | go_upon | dsimp only)); (focus (refine kept_cA 0 15 ?_; exact kept_nil))
    refine F_eA (ls' := #[true, true, true, true, true, true, true, true, false]) (pend' := []) 7 ?_; intro K_ hK_; (conv => (arg 4; arg 1; whnf)); (repeat (first | refine hK_ _ _ rfl ?_ ?_ | (go_big_may; (first | ((with_reducible refine g_load rfl ?_); first | refine eL1 H ?_ | refine eLa H ?_) | ((with_reducible refine g_store rfl ?_); (first | refine eSs H ?_ | refine eSa H ?_); clear H; intro W_ H))) | go_step | go_guarded | go_upon | dsimp only)); exact kept_nil
    refine T_go [(0, 8, 5)] ?_; (repeat (refine T_pA ?_)); refine T_end ?_
    refine F_done (by kernel_rfl) ?_
    go_wp2_with (first | (go_at_call 109; (with_reducible refine (spec_Region _ _).mono ?_); rintro e w1 ⟨rfl, rfl⟩; rw [E1.out, E2.out]) | ((with_reducible refine g_box rfl ?_); refine eBa H ?_; clear H; intro g_ W_ H) | ((with_reducible refine g_alloc rfl ?_); refine eNw H ?_; clear H; intro g_ W_ H) | ((with_reducible refine g_load rfl ?_); first | refine eL1 H ?_ | refine eLa H ?_) | ((with_reducible refine g_store rfl ?_); (first | refine eSs H ?_ | refine eSa H ?_); clear H; intro W_ H))
    have H_ := H.take (xs := [frA q.img.banks l.img.banks, intsA q.pads l.pads, intsA q.mem.ram l.mem.ram, ppuA l.ppu q.ppu, frA q.obs.frames l.obs.frames, intsA q.obs.samples l.obs.samples, intsA q.obs.reads l.obs.reads]) pksA
    refine' back2 Tryz.results41 ?_ ?_ rfl ⟨q, ?_, H_⟩; rotate_left 2; exact rvA; exact rvA
    rfl
  · obtain ⟨k, e2⟩ : ∃ k : Int, regA a = k := ⟨_, rfl⟩
    have hz : l.readR a = l := by simp [LockD.readR, e1]
    have hv : l.saysR a = l.mem.peek l.img a := by simp [LockD.saysR, e1]
    rw [hz, hv]
    have E1 := Lib.hid e1
    have E2 := Lib.hid e2
    clear e1 e2 hz hv a0 
    go_enter Tryz.func41, Tryz.ntmps41
    go_upto_region 4 with (first | (go_at_call 109; (with_reducible refine (spec_Region _ _).mono ?_); rintro e w1 ⟨rfl, rfl⟩; rw [E1.out, E2.out]) | ((with_reducible refine g_box rfl ?_); refine eBa H ?_; clear H; intro g_ W_ H) | ((with_reducible refine g_alloc rfl ?_); refine eNw H ?_; clear H; intro g_ W_ H) | ((with_reducible refine g_load rfl ?_); first | refine eL1 H ?_ | refine eLa H ?_) | ((with_reducible refine g_store rfl ?_); (first | refine eSs H ?_ | refine eSa H ?_); clear H; intro W_ H))
    (with_reducible refine g_draw ?_)
    try simp only [Act.put, List.setIfInBounds_toArray, List.set_cons_succ, List.set_cons_zero]
    refine F_begin (ls := #[false, false, false, false, false, false, false, false, false]) (by kernel_rfl) rfl (by kernel_rfl) ?_
    have H_ := H.drew
    (clear H; have H := H_; clear H_)
    refine T_go [(1, 0, 15), (0, 1, 16), (1, 2, 17), (0, 3, 18), (1, 4, 19), (0, 5, 20)] ?_; (repeat (first | refine T_pA ?_ | refine T_rA ?_)); refine T_end ?_
    refine F_eA (ls' := #[true, true, true, true, true, true, true, false, false]) (pend' := [0]) 6 ?_; intro K_ hK_; (conv => (arg 4; arg 1; whnf)); (repeat (first | refine hK_ _ _ rfl ?_ ?_ | (go_big_may; (go_at_call 113; (with_reducible refine (spec_l6Peek l.img q.img l.mem q.mem _ _ _ ⟨InRR.ofFr (H.get (x := frA q.img.banks l.img.banks) pkA)⟩ ⟨InI.of (H.get (x := intsA q.mem.ram l.mem.ram) pkA)⟩ rfl hmem).mono ?_); rintro e w1 ⟨rfl, hb⟩; (replace H := H.callB hb; clear hb))) | go_step | go_guarded | go_upon | dsimp only)); (focus (refine kept_cA 0 15 ?_; exact kept_nil))
    refine F_eA (ls' := #[true, true, true, true, true, true, true, true, false]) (pend' := []) 7 ?_; intro K_ hK_; (conv => (arg 4; arg 1; whnf)); (repeat (first | refine hK_ _ _ rfl ?_ ?_ | (go_big_may; (first | ((with_reducible refine g_load rfl ?_); first | refine eL1 H ?_ | refine eLa H ?_) | ((with_reducible refine g_store rfl ?_); (first | refine eSs H ?_ | refine eSa H ?_); clear H; intro W_ H))) | go_step | go_guarded | go_upon | dsimp only)); exact kept_nil
    refine T_go [(0, 8, 5)] ?_; (repeat (refine T_pA ?_)); refine T_end ?_
    refine F_done (by kernel_rfl) ?_
    go_wp2_with (first | (go_at_call 109; (with_reducible refine (spec_Region _ _).mono ?_); rintro e w1 ⟨rfl, rfl⟩; rw [E1.out, E2.out]) | ((with_reducible refine g_box rfl ?_); refine eBa H ?_; clear H; intro g_ W_ H) | ((with_reducible refine g_alloc rfl ?_); refine eNw H ?_; clear H; intro g_ W_ H) | ((with_reducible refine g_load rfl ?_); first | refine eL1 H ?_ | refine eLa H ?_) | ((with_reducible refine g_store rfl ?_); (first | refine eSs H ?_ | refine eSa H ?_); clear H; intro W_ H))
    have H_ := H.take (xs := [frA q.img.banks l.img.banks, intsA q.pads l.pads, intsA q.mem.ram l.mem.ram, ppuA l.ppu q.ppu, frA q.obs.frames l.obs.frames, intsA q.obs.samples l.obs.samples, intsA q.obs.reads l.obs.reads]) pksA
    refine' back2 Tryz.results41 ?_ ?_ rfl ⟨q, ?_, H_⟩; rotate_left 2; exact rvA; exact rvA
    rfl
end Go.Proofs.YtjgggmcnbdjdjaaGreat.C

