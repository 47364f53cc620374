/- LockStep, both sides. (written by ygen2.py) -/
import Derived.Test.YtjgggmcnbdjdjaaGreatY22
import Derived.Test.YtjgggmcnbdjdjaaGreatY24
namespace Go.Proofs.YtjgggmcnbdjdjaaGreat.C
open Go.RowKit Go.Proofs.YtjgggmcnbdjdjaaGreat.K Go.Proofs.YtjgggmcnbdjdjaaGreat.B
attribute [local go_sem] max2_int min2_int max_two min_two i64_and255 i64_and65535 i64_and1
set_option maxRecDepth 20000
set_option linter.unusedVariables false
set_option linter.unusedSimpArgs false
set_option maxRecDepth 20000
theorem rowsN_free (w : World) : (rowsA Rw.nil []).p w := by
  intro b hb
  simp only [List.mem_cons, List.not_mem_nil, or_false] at hb
  rcases hb with rfl | rfl
  · exact ⟨rfl, .inl ⟨rfl, rfl⟩⟩
  · intro c hc; cases hc
theorem all_free {l : List Ast} {w : World} (h : ∀ a, a ∈ l → a.p w) : (Ast.all l).p w := h
def LockD.zero : LockD := ⟨⟨[]⟩, [], ⟨[], 0⟩, ⟨0, 0, 0, 0, false, false, false, false⟩, ⟨0, 0, 0, 0, 0, false, [], []⟩, ⟨0, 0, 0, 0, 0, false, false⟩, ⟨false, 0⟩, false, 0, ⟨[], [], []⟩⟩
def LockP.zero : LockP := ⟨⟨Rw.nil⟩, ⟨none, 0⟩, ⟨⟨none, 0⟩⟩, ⟨⟨none, 0⟩, ⟨none, 0⟩⟩, ⟨Rw.nil, ⟨none, 0⟩, ⟨none, 0⟩⟩⟩
theorem lock_free (w : World) : (lockA LockD.zero LockP.zero).p w := by
  have n := nil_ok w
  refine all_free fun a ha => ?_
  simp only [List.mem_cons, List.not_mem_nil, or_false] at ha
  rcases ha with rfl | rfl | rfl | rfl | rfl
  · exact all_free fun a ha => by rw [List.mem_singleton.1 ha]; exact rowsN_free w
  · exact n
  · exact all_free fun a ha => by rw [List.mem_singleton.1 ha]; exact n
  · exact all_free fun a ha => by simp only [List.mem_cons, List.not_mem_nil, or_false] at ha; rcases ha with rfl | rfl <;> exact n
  · exact all_free fun a ha => by simp only [List.mem_cons, List.not_mem_nil, or_false] at ha; rcases ha with rfl | rfl | rfl <;> first | exact n | exact rowsN_free w
theorem lock_free_fp : (lockA LockD.zero LockP.zero).fp = [] := by simp [lockA, imageA, memA, ppuA, obsA, rowsA, outA, rowAs, LockD.zero, LockP.zero, Rw.nil, Ast.all, Ast.own]
def LockD.stepO (l : LockD) : LockD := if l.ok = true then l.stepR else LockD.zero
def LockD.stepB (l : LockD) : Bool := l.ok && l.goes
theorem lens_app (xs : List (List Int)) (f : List Int) : lens (xs ++ [f]) = lens xs + f.length := by
  induction xs with
  | nil => simp [lens]
  | cons x xs ih => simp only [List.cons_append, lens, ih]; omega
theorem LockD.tickR_mk (l : LockD) : l.tickR.mk_ ≤ l.mk_ + 2 := by
  have h1 : l.ppu.tk.mk_ + lens (if l.ppu.told = true then l.obs.frames ++ [l.ppu.frame] else l.obs.frames) ≤ l.ppu.mk_ + lens l.obs.frames + 1 := by
    unfold PpuD.mk_ PpuD.told PpuD.frame PpuD.tk
    by_cases a1 : l.ppu.t % 64 = 48
    · have a2 : ¬ l.ppu.t % 64 < 48 := by omega
      simp only [a1, if_true, beq_self_eq_true, lens_app, a2, if_false]
      simp
      omega
    · have a3 : (l.ppu.t % 64 == 48) = false := by simp [a1]
      simp only [a3, a1, if_false, Bool.false_eq_true]
      (repeat' split) <;> simp <;> omega
  have h2 : (if l.apu.told = true then l.obs.samples ++ [l.apu.smp] else l.obs.samples).length ≤ l.obs.samples.length + 1 := by
    split <;> simp
  unfold LockD.tickR LockD.mk_ ObsD.mk_
  simp only
  omega
theorem LockD.ticks_mk (l : LockD) (k : Nat) : (l.ticks k).mk_ ≤ l.mk_ + 2 * k := by
  induction k with
  | zero => exact Nat.le_refl _
  | succ k ih => have := (l.ticks k).tickR_mk; show (l.ticks k).tickR.mk_ ≤ _; omega
theorem LockD.accR_mk {l : LockD} (h : l.ok = true) (i : InstrD) : (l.accR i).mk_ ≤ l.mk_ + 1 := by
  unfold LockD.accR
  split
  · have h1 := LockD.read_mk l (accA i l.cpu)
    rwa [show l.read (accA i l.cpu) = l.readR (accA i l.cpu) by simp [LockD.read, h]] at h1
  · split
    · have h1 := LockD.write_mk l (accA i l.cpu) (accV i l.cpu)
      rw [show l.write (accA i l.cpu) (accV i l.cpu) = l.writeR (accA i l.cpu) (accV i l.cpu) by simp [LockD.write, h]] at h1
      omega
    · omega
theorem LockD.mk_mem (l : LockD) (m : MemD) (c : CpuD) (b : Bool) (h : m.ram.length = l.mem.ram.length) : (LockD.mk l.img l.pads m c l.ppu l.apu l.pad b l.steps l.obs).mk_ = l.mk_ := by
  simp only [LockD.mk_, MemD.mk_, h]
theorem LockD.doR_mk {l : LockD} (h : l.ok = true) : l.doR.mk_ ≤ l.mk_ + 1 := by
  have hR := LockD.Rt.of h
  have e0 := (MemD.ok_at hR.mem).2.1
  unfold LockD.doR
  split
  · have e1 := (MemD.ok_at (ent_ok hR.mem (c := l.cpu))).2.1
    exact Nat.le_trans (Nat.le_of_eq (l.mk_mem _ _ false (e1.trans e0.symm))) (Nat.le_succ _)
  · split
    · have e1 := (MemD.ok_at (ent_ok hR.mem (c := l.cpu))).2.1
      exact Nat.le_trans (Nat.le_of_eq (l.mk_mem _ _ l.nmi (e1.trans e0.symm))) (Nat.le_succ _)
    · have hA := hR.accR l.instr
      have e2 := (MemD.ok_at hA.mem).2.1
      have e1 := (MemD.ok_at (execM_ok hA.mem (l.accR l.instr).cpu l.instr.op)).2.1
      exact Nat.le_trans (Nat.le_of_eq ((l.accR l.instr).mk_mem _ _ (l.accR l.instr).nmi (e1.trans e2.symm))) (LockD.accR_mk h _)
theorem LockD.stepO_mk (l : LockD) : l.stepO.mk_ ≤ l.mk_ + 15 := by
  unfold LockD.stepO LockD.stepR
  split
  · rename_i h
    split
    · have h1 := l.doR.ticks_mk l.cyc.toNat
      have h2 := LockD.doR_mk h
      have h3 := l.cyc_in
      show (l.doR.ticks l.cyc.toNat).mk_ ≤ _
      omega
    · omega
  · simp [LockD.zero, LockD.mk_, ImageD.mk_, MemD.mk_, PpuD.mk_, ObsD.mk_, lens]
set_option maxHeartbeats 16000000 in
theorem impl_LockStep (l : LockD) (q : LockP) (w : World) (hx : LockIn w l q) (hs : LockSmall l) : Calls Tryz.prog 18 #[.agg #[.slice q.img.banks.s.A l.img.banks.length q.img.banks.s.c, .slice q.pads.A l.pads.length q.pads.c, .slice q.mem.ram.A l.mem.ram.length q.mem.ram.c, .int .i64 l.mem.bank, .int .i64 l.cpu.a, .int .i64 l.cpu.x, .int .i64 l.cpu.s, .int .i64 l.cpu.pc, .bool l.cpu.z, .bool l.cpu.n, .bool l.cpu.c, .bool l.cpu.i, .int .i64 l.ppu.t, .int .i64 l.ppu.ctrl, .int .i64 l.ppu.scroll, .int .i64 l.ppu.addr, .int .i64 l.ppu.pal, .bool l.ppu.blank, .slice q.ppu.table.A l.ppu.table.length q.ppu.table.c, .slice q.ppu.dots.A l.ppu.dots.length q.ppu.dots.c, .int .i64 l.apu.t, .int .i64 l.apu.p, .int .i64 l.apu.c, .int .i64 l.apu.b, .int .i64 l.apu.l, .bool l.apu.k, .bool l.apu.i, .bool l.pad.h, .int .i64 l.pad.s, .bool l.nmi, .int .i64 l.steps, .slice q.obs.frames.s.A l.obs.frames.length q.obs.frames.s.c, .slice q.obs.samples.A l.obs.samples.length q.obs.samples.c, .slice q.obs.reads.A l.obs.reads.length q.obs.reads.c]] w fun e w' => ∃ q' : LockP, e = .returned (.tuple #[.agg #[.slice q'.img.banks.s.A l.stepO.img.banks.length q'.img.banks.s.c, .slice q'.pads.A l.stepO.pads.length q'.pads.c, .slice q'.mem.ram.A l.stepO.mem.ram.length q'.mem.ram.c, .int .i64 l.stepO.mem.bank, .int .i64 l.stepO.cpu.a, .int .i64 l.stepO.cpu.x, .int .i64 l.stepO.cpu.s, .int .i64 l.stepO.cpu.pc, .bool l.stepO.cpu.z, .bool l.stepO.cpu.n, .bool l.stepO.cpu.c, .bool l.stepO.cpu.i, .int .i64 l.stepO.ppu.t, .int .i64 l.stepO.ppu.ctrl, .int .i64 l.stepO.ppu.scroll, .int .i64 l.stepO.ppu.addr, .int .i64 l.stepO.ppu.pal, .bool l.stepO.ppu.blank, .slice q'.ppu.table.A l.stepO.ppu.table.length q'.ppu.table.c, .slice q'.ppu.dots.A l.stepO.ppu.dots.length q'.ppu.dots.c, .int .i64 l.stepO.apu.t, .int .i64 l.stepO.apu.p, .int .i64 l.stepO.apu.c, .int .i64 l.stepO.apu.b, .int .i64 l.stepO.apu.l, .bool l.stepO.apu.k, .bool l.stepO.apu.i, .bool l.stepO.pad.h, .int .i64 l.stepO.pad.s, .bool l.stepO.nmi, .int .i64 l.stepO.steps, .slice q'.obs.frames.s.A l.stepO.obs.frames.length q'.obs.frames.s.c, .slice q'.obs.samples.A l.stepO.obs.samples.length q'.obs.samples.c, .slice q'.obs.reads.A l.stepO.obs.reads.length q'.obs.reads.c], .bool l.stepB]) ∧ St w [] w' [lockA l.stepO q'] := by
  have H := St.nil w []
  cases hok : l.ok
  · have hz : l.stepO = LockD.zero := by simp [LockD.stepO, hok]
    have hv : l.stepB = false := by simp [LockD.stepB, hok]
    rw [hz, hv]
    have HO := Lib.hid hok
    clear hz hv hok
    go_enter Tryz.func18, Tryz.ntmps18
    go_wp2_with (first | (go_at_call 49; (with_reducible refine (impl_LockOk l q _ (hx.on H)).mono ?_); rintro e w1 ⟨rfl, hb⟩; rw [HO.out]; (replace H := H.callB hb; clear hb)) | ((with_reducible refine g_box rfl ?_); refine eBa H ?_; clear H; intro g_ W_ H) | ((with_reducible refine g_alloc rfl ?_); refine eNw H ?_; clear H; intro g_ W_ H) | ((with_reducible refine g_load rfl ?_); refine eLa H ?_) | ((with_reducible refine g_store rfl ?_); refine eSa H ?_; clear H; intro W_ H))
    have H_ := St.addFree H lock_free_fp (lock_free _)
    (clear H; have H := H_; clear H_)
    have H_ := H.take (xs := [lockA LockD.zero LockP.zero]) (Picks.cons Pick.here Picks.nil)
    refine' back2 Tryz.results18 ?_ ?_ rfl ⟨LockP.zero, ?_, H_⟩; rotate_left 2; exact rvA; exact rvA
    rfl
  · have hz : l.stepO = l.stepR := by simp [LockD.stepO, hok]
    have hv : l.stepB = l.goes := by simp [LockD.stepB, hok]
    rw [hz, hv]
    have HO := Lib.hid hok
    clear hz hv hok
    go_enter Tryz.func18, Tryz.ntmps18
    go_wp2_with (first | (go_at_call 49; (with_reducible refine (impl_LockOk l q _ (hx.on H)).mono ?_); rintro e w1 ⟨rfl, hb⟩; rw [HO.out]; (replace H := H.callB hb; clear hb)) | (go_at_call 48; (with_reducible refine (impl_copyLock l q _ (hx.on H) hs).mono ?_); rintro e w1 ⟨q1, rfl, kk⟩; replace H := H.cN kk; clear kk; have H_ := St.opn (l1 := [intsA q1.ppu.table l.ppu.table, intsA q1.ppu.dots l.ppu.dots]) (H.pick (x := ppuA l.ppu q1.ppu) pkA); simp only [List.cons_append, List.nil_append] at H_; (clear H; have H := H_; clear H_)) | (go_at_call 68; (with_reducible refine (impl_lstep l q1 _ _ (St.holL (H.picks (xs := [Ast.blk _ _ _, frA q1.img.banks l.img.banks, intsA q1.pads l.pads, intsA q1.mem.ram l.mem.ram, intsA q1.ppu.table l.ppu.table, intsA q1.ppu.dots l.ppu.dots, frA q1.obs.frames l.obs.frames, intsA q1.obs.samples l.obs.samples, intsA q1.obs.reads l.obs.reads]) pksA)) HO.out hs.obs.reads).mono ?_); rintro e w1 ⟨rfl, q3, kk⟩; replace H := St.uN (H.picks (xs := [Ast.blk _ _ _, frA q1.img.banks l.img.banks, intsA q1.pads l.pads, intsA q1.mem.ram l.mem.ram, intsA q1.ppu.table l.ppu.table, intsA q1.ppu.dots l.ppu.dots, frA q1.obs.frames l.obs.frames, intsA q1.obs.samples l.obs.samples, intsA q1.obs.reads l.obs.reads]) pksA) kk; clear kk) | ((with_reducible refine g_box rfl ?_); refine eBa H ?_; clear H; intro g_ W_ H) | ((with_reducible refine g_alloc rfl ?_); refine eNw H ?_; clear H; intro g_ W_ H) | ((with_reducible refine g_load rfl ?_); refine eLa H ?_) | ((with_reducible refine g_store rfl ?_); refine eSa H ?_; clear H; intro W_ H))
    have H_ : St w [] _ (ppuA l.stepR.ppu q3.ppu :: _) := St.pack (l1 := [intsA q3.ppu.table l.stepR.ppu.table, intsA q3.ppu.dots l.stepR.ppu.dots]) H pksA
    (clear H; have H := H_; clear H_)
    have H_ := (St.lockUp (l := l.stepR) (q := q3) H pksA).take (Picks.cons Pick.here Picks.nil)
    refine' back2 Tryz.results18 ?_ ?_ rfl ⟨q3, ?_, H_⟩; rotate_left 2; exact rvA; exact rvA
    rfl
set_option maxHeartbeats 16000000 in
theorem spec_LockStep (l : LockD) (q : LockP) (w : World) (hx : LockIn w l q) (hs : LockSmall l) : Calls Tryz.prog 17 #[.agg #[.slice q.img.banks.s.A l.img.banks.length q.img.banks.s.c, .slice q.pads.A l.pads.length q.pads.c, .slice q.mem.ram.A l.mem.ram.length q.mem.ram.c, .int .i64 l.mem.bank, .int .i64 l.cpu.a, .int .i64 l.cpu.x, .int .i64 l.cpu.s, .int .i64 l.cpu.pc, .bool l.cpu.z, .bool l.cpu.n, .bool l.cpu.c, .bool l.cpu.i, .int .i64 l.ppu.t, .int .i64 l.ppu.ctrl, .int .i64 l.ppu.scroll, .int .i64 l.ppu.addr, .int .i64 l.ppu.pal, .bool l.ppu.blank, .slice q.ppu.table.A l.ppu.table.length q.ppu.table.c, .slice q.ppu.dots.A l.ppu.dots.length q.ppu.dots.c, .int .i64 l.apu.t, .int .i64 l.apu.p, .int .i64 l.apu.c, .int .i64 l.apu.b, .int .i64 l.apu.l, .bool l.apu.k, .bool l.apu.i, .bool l.pad.h, .int .i64 l.pad.s, .bool l.nmi, .int .i64 l.steps, .slice q.obs.frames.s.A l.obs.frames.length q.obs.frames.s.c, .slice q.obs.samples.A l.obs.samples.length q.obs.samples.c, .slice q.obs.reads.A l.obs.reads.length q.obs.reads.c]] w fun e w' => ∃ q' : LockP, e = .returned (.tuple #[.agg #[.slice q'.img.banks.s.A l.stepO.img.banks.length q'.img.banks.s.c, .slice q'.pads.A l.stepO.pads.length q'.pads.c, .slice q'.mem.ram.A l.stepO.mem.ram.length q'.mem.ram.c, .int .i64 l.stepO.mem.bank, .int .i64 l.stepO.cpu.a, .int .i64 l.stepO.cpu.x, .int .i64 l.stepO.cpu.s, .int .i64 l.stepO.cpu.pc, .bool l.stepO.cpu.z, .bool l.stepO.cpu.n, .bool l.stepO.cpu.c, .bool l.stepO.cpu.i, .int .i64 l.stepO.ppu.t, .int .i64 l.stepO.ppu.ctrl, .int .i64 l.stepO.ppu.scroll, .int .i64 l.stepO.ppu.addr, .int .i64 l.stepO.ppu.pal, .bool l.stepO.ppu.blank, .slice q'.ppu.table.A l.stepO.ppu.table.length q'.ppu.table.c, .slice q'.ppu.dots.A l.stepO.ppu.dots.length q'.ppu.dots.c, .int .i64 l.stepO.apu.t, .int .i64 l.stepO.apu.p, .int .i64 l.stepO.apu.c, .int .i64 l.stepO.apu.b, .int .i64 l.stepO.apu.l, .bool l.stepO.apu.k, .bool l.stepO.apu.i, .bool l.stepO.pad.h, .int .i64 l.stepO.pad.s, .bool l.stepO.nmi, .int .i64 l.stepO.steps, .slice q'.obs.frames.s.A l.stepO.obs.frames.length q'.obs.frames.s.c, .slice q'.obs.samples.A l.stepO.obs.samples.length q'.obs.samples.c, .slice q'.obs.reads.A l.stepO.obs.reads.length q'.obs.reads.c], .bool l.stepB]) ∧ St w [] w' [lockA l.stepO q'] := by
  have H := St.nil w []
  cases hok : l.ok
  · have hz : l.stepO = LockD.zero := by simp [LockD.stepO, hok]
    have hv : l.stepB = false := by simp [LockD.stepB, hok]
    rw [hz, hv]
    have HO := Lib.hid hok
    clear hz hv hok
    go_enter Tryz.func17, Tryz.ntmps17
    go_wp2_with (first | (go_at_call 40; (with_reducible refine (spec_LockOk l q _ (hx.on H)).mono ?_); rintro e w1 ⟨rfl, hb⟩; rw [HO.out]; (replace H := H.callB hb; clear hb)) | ((with_reducible refine g_box rfl ?_); refine eBa H ?_; clear H; intro g_ W_ H) | ((with_reducible refine g_alloc rfl ?_); refine eNw H ?_; clear H; intro g_ W_ H) | ((with_reducible refine g_load rfl ?_); refine eLa H ?_) | ((with_reducible refine g_store rfl ?_); refine eSa H ?_; clear H; intro W_ H))
    have H_ := St.addFree H lock_free_fp (lock_free _)
    (clear H; have H := H_; clear H_)
    have H_ := H.take (xs := [lockA LockD.zero LockP.zero]) (Picks.cons Pick.here Picks.nil)
    refine' back2 Tryz.results17 ?_ ?_ rfl ⟨LockP.zero, ?_, H_⟩; rotate_left 2; exact rvA; exact rvA
    rfl
  · have hz : l.stepO = l.stepR := by simp [LockD.stepO, hok]
    have hv : l.stepB = l.goes := by simp [LockD.stepB, hok]
    rw [hz, hv]
    have HO := Lib.hid hok
    clear hz hv hok
    cases hg : l.goes
    · have hz : l.stepR = l := by simp [LockD.stepR, hg]
      rw [hz]
      have HG := Lib.hid hg
      clear hz hg
      go_enter Tryz.func17, Tryz.ntmps17
      go_wp2_with (first | (go_at_call 40; (with_reducible refine (spec_LockOk l q _ (hx.on H)).mono ?_); rintro e w1 ⟨rfl, hb⟩; rw [HO.out]; (replace H := H.callB hb; clear hb)) | (go_at_call 39; (with_reducible refine (spec_l12Copy l q _ (hx.on H) hs).mono ?_); rintro e w1 ⟨q1, rfl, kk⟩; replace H := H.cN kk; clear kk) | (go_at_call 67; (with_reducible refine (spec_l12StepF l q1 _ (St.holL (H.picks (xs := [frA q1.img.banks l.img.banks, intsA q1.pads l.pads, intsA q1.mem.ram l.mem.ram, ppuA l.ppu q1.ppu, frA q1.obs.frames l.obs.frames, intsA q1.obs.samples l.obs.samples, intsA q1.obs.reads l.obs.reads]) pksA)) HO.out hs.obs.reads hs.ppu HG.out).mono ?_); rintro e w1 ⟨rfl, kk⟩; replace H := St.uN (H.picks (xs := [frA q1.img.banks l.img.banks, intsA q1.pads l.pads, intsA q1.mem.ram l.mem.ram, ppuA l.ppu q1.ppu, frA q1.obs.frames l.obs.frames, intsA q1.obs.samples l.obs.samples, intsA q1.obs.reads l.obs.reads]) pksA) kk; clear kk) | ((with_reducible refine g_box rfl ?_); refine eBa H ?_; clear H; intro g_ W_ H) | ((with_reducible refine g_alloc rfl ?_); refine eNw H ?_; clear H; intro g_ W_ H) | ((with_reducible refine g_load rfl ?_); refine eLa H ?_) | ((with_reducible refine g_store rfl ?_); refine eSa H ?_; clear H; intro W_ H))
      have H_ := (St.lockUp (l := l) (q := q1) H pksA).take (Picks.cons Pick.here Picks.nil)
      refine' back2 Tryz.results17 ?_ ?_ rfl ⟨q1, ?_, H_⟩; rotate_left 2; exact rvA; exact rvA
      rfl
    · have HG := Lib.hid hg
      clear hg
      go_enter Tryz.func17, Tryz.ntmps17
      go_wp2_with (first | (go_at_call 40; (with_reducible refine (spec_LockOk l q _ (hx.on H)).mono ?_); rintro e w1 ⟨rfl, hb⟩; rw [HO.out]; (replace H := H.callB hb; clear hb)) | (go_at_call 39; (with_reducible refine (spec_l12Copy l q _ (hx.on H) hs).mono ?_); rintro e w1 ⟨q1, rfl, kk⟩; replace H := H.cN kk; clear kk) | (go_at_call 67; (with_reducible refine (spec_l12StepT l q1 _ (St.holL (H.picks (xs := [frA q1.img.banks l.img.banks, intsA q1.pads l.pads, intsA q1.mem.ram l.mem.ram, ppuA l.ppu q1.ppu, frA q1.obs.frames l.obs.frames, intsA q1.obs.samples l.obs.samples, intsA q1.obs.reads l.obs.reads]) pksA)) HO.out hs.obs.reads hs.ppu HG.out).mono ?_); rintro e w1 ⟨q3, rfl, kk⟩; replace H := St.uN (H.picks (xs := [frA q1.img.banks l.img.banks, intsA q1.pads l.pads, intsA q1.mem.ram l.mem.ram, ppuA l.ppu q1.ppu, frA q1.obs.frames l.obs.frames, intsA q1.obs.samples l.obs.samples, intsA q1.obs.reads l.obs.reads]) pksA) kk; clear kk) | ((with_reducible refine g_box rfl ?_); refine eBa H ?_; clear H; intro g_ W_ H) | ((with_reducible refine g_alloc rfl ?_); refine eNw H ?_; clear H; intro g_ W_ H) | ((with_reducible refine g_load rfl ?_); refine eLa H ?_) | ((with_reducible refine g_store rfl ?_); refine eSa H ?_; clear H; intro W_ H))
      have H_ := (St.lockUp (l := l.stepR) (q := q3) H pksA).take (Picks.cons Pick.here Picks.nil)
      refine' back2 Tryz.results17 ?_ ?_ rfl ⟨q3, ?_, H_⟩; rotate_left 2; exact rvA; exact rvA
      rfl
end Go.Proofs.YtjgggmcnbdjdjaaGreat.C

