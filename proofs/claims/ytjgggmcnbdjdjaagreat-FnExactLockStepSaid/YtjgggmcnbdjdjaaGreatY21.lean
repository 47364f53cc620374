/- An op and an interrupt of the machine in lock step, as data; what they keep. (written by ygen2.py) -/
import Derived.Test.YtjgggmcnbdjdjaaGreatB2
import Derived.Test.YtjgggmcnbdjdjaaGreatV
import Derived.Test.YtjgggmcnbdjdjaaGreatY4
import Derived.Test.YtjgggmcnbdjdjaaGreatY10
import Derived.Test.YtjgggmcnbdjdjaaGreatY11
namespace Go.Proofs.YtjgggmcnbdjdjaaGreat.C
open Go.RowKit Go.Proofs.YtjgggmcnbdjdjaaGreat.K Go.Proofs.YtjgggmcnbdjdjaaGreat.B
attribute [local go_sem] max2_int min2_int max_two min_two i64_and255 i64_and65535 i64_and1
set_option maxRecDepth 20000
set_option linter.unusedVariables false
set_option linter.unusedSimpArgs false
set_option maxRecDepth 20000
theorem PpuD.rdx_t (x : PpuD) (r : Int) : (x.rdx r).t = x.t := by unfold PpuD.rdx; (repeat' split) <;> rfl
theorem PpuD.rdx_ok {x : PpuD} (h : x.ok = true) (r : Int) : (x.rdx r).ok = true := by
  obtain ⟨h1, h2, h3, h4, h5, h6, h7, h8, h9⟩ := PpuD.ok_at h
  unfold PpuD.rdx
  split
  · exact PpuD.ok_mk h1 h2 h3 h4 h5 h6 h7 h8 h9
  · split
    · exact PpuD.ok_mk h1 h2 h3 (by constructor <;> (simp only; omega)) h5 h6 h7 h8 h9
    · exact h
theorem ApuD.read_ok {a : ApuD} (h : a.ok = true) (r : Int) : (a.read r).ok = true := by
  unfold ApuD.read; split
  · exact h
  · exact h
theorem ApuD.read_tt (a : ApuD) (r : Int) : (a.read r).t = a.t := by unfold ApuD.read; split <;> rfl
theorem ApuD.write_tt (a : ApuD) (r v : Int) : (a.write r v).t = a.t := by unfold ApuD.write; (repeat' split) <;> rfl
theorem poke_ok {x : MemD} {m : ImageD} (h : x.ok m = true) (a v : Int) : (x.poke m a v).ok m = true := by
  obtain ⟨h1, h2, h3, h4, h5⟩ := MemD.ok_at h
  obtain ⟨g1, g2, g3⟩ := ImageD.ok_at h1
  have mk : ∀ r : List Int, ∀ b : Int, r.length = 512 → allB 0 255 r = true → 0 ≤ b → b < m.banks.length → (MemD.mk r b).ok m = true := by
    intro r b e1 e2 e3 e4
    simp only [MemD.ok, h1, e2, Bool.true_and, Bool.and_eq_true, beq_iff_eq, inB_iff]
    omega
  have h6 : x.bank < m.banks.length := by omega
  unfold MemD.poke
  split
  · exact mk _ _ (by rw [List.length_set]; exact h2) (allB_set h3 _ (by omega) (by omega)) h4 h6
  · split
    · exact mk _ _ h2 h3 (Int.emod_nonneg _ (by omega)) (Int.emod_lt_of_pos _ (by omega))
    · exact h
/-- Right enough for what follows an op. -/
structure LockD.Rt (l : LockD) : Prop where
  mem : l.mem.ok l.img = true
  ppu : l.ppu.ok = true
  apu : l.apu.ok = true
  t : l.apu.t = l.ppu.t
  fr : l.obs.frames.length ≤ 400
  sm : l.obs.samples.length ≤ 2000
theorem LockD.Rt.of {l : LockD} (h : l.ok = true) : l.Rt := by
  obtain ⟨h1, h2, h3, h4, h5, h6, h7, h8, h9, h10⟩ := LockD.ok_at h
  obtain ⟨t0, t1⟩ := (PpuD.ok_at h4).1
  refine ⟨h1, h4, h5, h7, ?_, by omega⟩
  have h11 : (l.obs.frames.length : Int) = (l.ppu.t + 15) / 64 := by
    simp only [framesB, Bool.and_eq_true, beq_iff_eq] at h9
    exact h9.2
  omega
def LockD.asked (l : LockD) : Bool := l.nmi || (l.apu.i && !l.cpu.i)
def LockD.instr (l : LockD) : InstrD := l.mem.fetch l.img l.cpu.pc
def LockD.cyc (l : LockD) : Int := if l.asked = true then 7 else opCyc l.instr.op
def LockD.intR (l : LockD) (v : Int) : LockD := ⟨l.img, l.pads, l.mem.ent l.cpu, l.cpu.ent (l.mem.vecP l.img v), l.ppu, l.apu, l.pad, l.nmi, l.steps, l.obs⟩
def LockD.noNmi (l : LockD) : LockD := ⟨l.img, l.pads, l.mem, l.cpu, l.ppu, l.apu, l.pad, false, l.steps, l.obs⟩
def LockD.accR (l : LockD) (i : InstrD) : LockD := if opAcc i.op = 1 then l.readR (accA i l.cpu) else if opAcc i.op = 2 then l.writeR (accA i l.cpu) (accV i l.cpu) else l
def LockD.accS (l : LockD) (i : InstrD) : Int := if opAcc i.op = 1 then l.saysR (accA i l.cpu) else 0
def LockD.excR (l : LockD) (i : InstrD) (v : Int) : LockD := ⟨l.img, l.pads, l.mem.execM l.cpu i.op, l.cpu.execC l.mem i.op i.arg v, l.ppu, l.apu, l.pad, l.nmi, l.steps, l.obs⟩
def LockD.opR (l : LockD) (i : InstrD) : LockD := (l.accR i).excR i (l.accS i)
def LockD.doR (l : LockD) : LockD := if l.nmi = true then l.noNmi.intR 65530 else if l.asked = true then l.intR 65534 else l.opR l.instr
theorem LockD.readR_keep (l : LockD) (a : Int) : (l.readR a).cpu = l.cpu ∧ (l.readR a).ppu.t = l.ppu.t ∧ (l.readR a).mem = l.mem ∧ (l.readR a).img = l.img ∧ (l.readR a).steps = l.steps ∧ (l.readR a).obs.reads.length ≤ l.obs.reads.length + 1 := by
  unfold LockD.readR
  (repeat' split) <;> refine ⟨rfl, ?_, rfl, rfl, rfl, ?_⟩ <;> first | rfl | exact PpuD.rdx_t _ _ | (simp; done) | omega
theorem LockD.writeR_keep (l : LockD) (a v : Int) : (l.writeR a v).cpu = l.cpu ∧ (l.writeR a v).ppu.t = l.ppu.t ∧ (l.writeR a v).img = l.img ∧ (l.writeR a v).steps = l.steps ∧ (l.writeR a v).obs = l.obs := by
  unfold LockD.writeR
  (repeat' split) <;> refine ⟨rfl, ?_, rfl, rfl, rfl⟩ <;> first | rfl | exact PpuD.wr_t _ _ _
theorem LockD.Rt.readR {l : LockD} (h : l.Rt) (a : Int) : (l.readR a).Rt := by
  unfold LockD.readR
  split
  · exact ⟨h.mem, PpuD.rdx_ok h.ppu _, h.apu, h.t.trans (PpuD.rdx_t _ _).symm, h.fr, h.sm⟩
  · split
    · exact ⟨h.mem, h.ppu, ApuD.read_ok h.apu _, (ApuD.read_tt _ _).trans h.t, h.fr, h.sm⟩
    · split
      · exact ⟨h.mem, h.ppu, h.apu, h.t, h.fr, h.sm⟩
      · exact h
theorem LockD.Rt.writeR {l : LockD} (h : l.Rt) (a v : Int) : (l.writeR a v).Rt := by
  unfold LockD.writeR
  split
  · exact ⟨h.mem, PpuD.wr_ok h.ppu _ _, h.apu, h.t.trans (PpuD.wr_t _ _ _).symm, h.fr, h.sm⟩
  · split
    · exact ⟨h.mem, h.ppu, ApuD.write_ok h.apu _ _, (ApuD.write_tt _ _ _).trans h.t, h.fr, h.sm⟩
    · split
      · exact ⟨h.mem, h.ppu, h.apu, h.t, h.fr, h.sm⟩
      · exact ⟨poke_ok h.mem _ _, h.ppu, h.apu, h.t, h.fr, h.sm⟩
theorem LockD.Rt.accR {l : LockD} (h : l.Rt) (i : InstrD) : (l.accR i).Rt := by
  unfold LockD.accR
  split
  · exact h.readR _
  · split
    · exact h.writeR _ _
    · exact h
theorem LockD.accR_keep (l : LockD) (i : InstrD) : (l.accR i).cpu = l.cpu ∧ (l.accR i).ppu.t = l.ppu.t ∧ (l.accR i).img = l.img ∧ (l.accR i).steps = l.steps := by
  unfold LockD.accR
  split
  · obtain ⟨a, b, c, d, e, f⟩ := l.readR_keep (accA i l.cpu); exact ⟨a, b, d, e⟩
  · split
    · obtain ⟨a, b, c, d, e⟩ := l.writeR_keep (accA i l.cpu) (accV i l.cpu); exact ⟨a, b, c, d⟩
    · exact ⟨rfl, rfl, rfl, rfl⟩
theorem execM_ok {x : MemD} {m : ImageD} (h : x.ok m = true) (c : CpuD) (op : Int) : (x.execM c op).ok m = true := by
  unfold MemD.execM MemD.flowM MemD.pushPc
  split
  · exact push_ok (push_ok h)
  · split
    · exact push_ok h
    · exact h
theorem LockD.Rt.doR {l : LockD} (h : l.Rt) : l.doR.Rt := by
  unfold LockD.doR
  split
  · exact ⟨ent_ok h.mem, h.ppu, h.apu, h.t, h.fr, h.sm⟩
  · split
    · exact ⟨ent_ok h.mem, h.ppu, h.apu, h.t, h.fr, h.sm⟩
    · have h2 := h.accR l.instr
      exact ⟨execM_ok h2.mem _ _, h2.ppu, h2.apu, h2.t, h2.fr, h2.sm⟩
theorem LockD.doR_t (l : LockD) : l.doR.ppu.t = l.ppu.t := by
  unfold LockD.doR
  split
  · rfl
  · split
    · rfl
    · exact (l.accR_keep l.instr).2.1
theorem LockD.doR_steps (l : LockD) : l.doR.steps = l.steps := by
  unfold LockD.doR
  split
  · rfl
  · split
    · rfl
    · exact (l.accR_keep l.instr).2.2.2
/-- k cycles. -/
def LockD.ticks (l : LockD) : Nat → LockD
  | 0 => l
  | k + 1 => (l.ticks k).tickR
theorem LockD.tickR_t (l : LockD) : l.tickR.ppu.t = l.ppu.t + 1 := PpuD.tk_t _
structure LockD.Rk (l : LockD) (k : Nat) : Prop where
  ppu : l.ppu.ok = true
  apu : l.apu.ok = true
  t : l.apu.t = l.ppu.t
  fr : l.obs.frames.length ≤ 400 + k
  sm : l.obs.samples.length ≤ 2000 + k
theorem LockD.ticks_rk {l : LockD} (h : l.Rt) {k : Nat} (hk : l.ppu.t + k ≤ 20000) : (l.ticks k).Rk k ∧ (l.ticks k).ppu.t = l.ppu.t + k := by
  induction k with
  | zero => exact ⟨⟨h.ppu, h.apu, h.t, h.fr, h.sm⟩, by simp [LockD.ticks]⟩
  | succ k ih =>
    obtain ⟨h1, h2⟩ := ih (by omega)
    have h3 : (l.ticks k).ppu.t < 20000 := by omega
    refine ⟨⟨PpuD.tk_ok h1.ppu h3, ApuD.tk_ok h1.apu (by rw [h1.t]; exact h3), ?_, ?_, ?_⟩, ?_⟩
    · show (l.ticks k).apu.tk.t = (l.ticks k).ppu.tk.t
      rw [PpuD.tk_t, show (l.ticks k).apu.tk.t = (l.ticks k).apu.t + 1 from rfl, h1.t]
    · have := h1.fr
      show (if (l.ticks k).ppu.told = true then (l.ticks k).obs.frames ++ [(l.ticks k).ppu.frame] else (l.ticks k).obs.frames).length ≤ _
      split <;> (try simp only [List.length_append, List.length_cons, List.length_nil]) <;> omega
    · have := h1.sm
      show (if (l.ticks k).apu.told = true then (l.ticks k).obs.samples ++ [(l.ticks k).apu.smp] else (l.ticks k).obs.samples).length ≤ _
      split <;> (try simp only [List.length_append, List.length_cons, List.length_nil]) <;> omega
    · show (l.ticks k).tickR.ppu.t = _
      rw [LockD.tickR_t, h2]; omega
def LockD.goes (l : LockD) : Bool := decide (l.ppu.t + l.cyc ≤ 20000)
def LockD.stepsUp (l : LockD) : LockD := ⟨l.img, l.pads, l.mem, l.cpu, l.ppu, l.apu, l.pad, l.nmi, l.steps + 1, l.obs⟩
def LockD.stepR (l : LockD) : LockD := if l.goes = true then (l.doR.ticks l.cyc.toNat).stepsUp else l
theorem LockD.cyc_in (l : LockD) : 2 ≤ l.cyc ∧ l.cyc ≤ 7 := by
  unfold LockD.cyc
  split
  · omega
  · have := opCyc_in l.instr.op; omega
end Go.Proofs.YtjgggmcnbdjdjaaGreat.C

/- An interrupt and an op of the machine in lock step, the program's. (written by ygen2.py) -/
namespace Go.Proofs.YtjgggmcnbdjdjaaGreat.C
open Go.RowKit Go.Proofs.YtjgggmcnbdjdjaaGreat.K Go.Proofs.YtjgggmcnbdjdjaaGreat.B
attribute [local go_sem] max2_int min2_int max_two min_two i64_and255 i64_and65535 i64_and1
set_option maxRecDepth 20000
set_option linter.unusedVariables false
set_option linter.unusedSimpArgs false
set_option maxRecDepth 20000
set_option maxHeartbeats 16000000 in
theorem impl_interrupt (l : LockD) (q : LockP) (v : Int) (g : Nat) (w : World) (hH : Hol w [Ast.blk g [.slice q.img.banks.s.A l.img.banks.length q.img.banks.s.c, .slice q.pads.A l.pads.length q.pads.c, .slice q.mem.ram.A l.mem.ram.length q.mem.ram.c, .int .i64 l.mem.bank, .int .i64 l.cpu.a, .int .i64 l.cpu.x, .int .i64 l.cpu.s, .int .i64 l.cpu.pc, .bool l.cpu.z, .bool l.cpu.n, .bool l.cpu.c, .bool l.cpu.i, .int .i64 l.ppu.t, .int .i64 l.ppu.ctrl, .int .i64 l.ppu.scroll, .int .i64 l.ppu.addr, .int .i64 l.ppu.pal, .bool l.ppu.blank, .slice q.ppu.table.A l.ppu.table.length q.ppu.table.c, .slice q.ppu.dots.A l.ppu.dots.length q.ppu.dots.c, .int .i64 l.apu.t, .int .i64 l.apu.p, .int .i64 l.apu.c, .int .i64 l.apu.b, .int .i64 l.apu.l, .bool l.apu.k, .bool l.apu.i, .bool l.pad.h, .int .i64 l.pad.s, .bool l.nmi, .int .i64 l.steps, .slice q.obs.frames.s.A l.obs.frames.length q.obs.frames.s.c, .slice q.obs.samples.A l.obs.samples.length q.obs.samples.c, .slice q.obs.reads.A l.obs.reads.length q.obs.reads.c] 49, frA q.img.banks l.img.banks, intsA q.pads l.pads, intsA q.mem.ram l.mem.ram, intsA q.ppu.table l.ppu.table, intsA q.ppu.dots l.ppu.dots, frA q.obs.frames l.obs.frames, intsA q.obs.samples l.obs.samples, intsA q.obs.reads l.obs.reads]) (hok : l.mem.ok l.img = true) (hs : 0 ≤ l.cpu.s ∧ l.cpu.s ≤ 255) (h0 : 0 ≤ v) (h1 : v ≤ 100000) : Calls Tryz.prog 144 #[.pointer (some ⟨g, 0, none⟩), .int .i64 v] w fun e w' => e = .returned (.tuple #[]) ∧ St w ([Ast.blk g [.slice q.img.banks.s.A l.img.banks.length q.img.banks.s.c, .slice q.pads.A l.pads.length q.pads.c, .slice q.mem.ram.A l.mem.ram.length q.mem.ram.c, .int .i64 l.mem.bank, .int .i64 l.cpu.a, .int .i64 l.cpu.x, .int .i64 l.cpu.s, .int .i64 l.cpu.pc, .bool l.cpu.z, .bool l.cpu.n, .bool l.cpu.c, .bool l.cpu.i, .int .i64 l.ppu.t, .int .i64 l.ppu.ctrl, .int .i64 l.ppu.scroll, .int .i64 l.ppu.addr, .int .i64 l.ppu.pal, .bool l.ppu.blank, .slice q.ppu.table.A l.ppu.table.length q.ppu.table.c, .slice q.ppu.dots.A l.ppu.dots.length q.ppu.dots.c, .int .i64 l.apu.t, .int .i64 l.apu.p, .int .i64 l.apu.c, .int .i64 l.apu.b, .int .i64 l.apu.l, .bool l.apu.k, .bool l.apu.i, .bool l.pad.h, .int .i64 l.pad.s, .bool l.nmi, .int .i64 l.steps, .slice q.obs.frames.s.A l.obs.frames.length q.obs.frames.s.c, .slice q.obs.samples.A l.obs.samples.length q.obs.samples.c, .slice q.obs.reads.A l.obs.reads.length q.obs.reads.c] 49, frA q.img.banks l.img.banks, intsA q.pads l.pads, intsA q.mem.ram l.mem.ram, intsA q.ppu.table l.ppu.table, intsA q.ppu.dots l.ppu.dots, frA q.obs.frames l.obs.frames, intsA q.obs.samples l.obs.samples, intsA q.obs.reads l.obs.reads].flatMap Ast.fp) w' [Ast.blk g [.slice q.img.banks.s.A (l.intR v).img.banks.length q.img.banks.s.c, .slice q.pads.A (l.intR v).pads.length q.pads.c, .slice q.mem.ram.A (l.intR v).mem.ram.length q.mem.ram.c, .int .i64 (l.intR v).mem.bank, .int .i64 (l.intR v).cpu.a, .int .i64 (l.intR v).cpu.x, .int .i64 (l.intR v).cpu.s, .int .i64 (l.intR v).cpu.pc, .bool (l.intR v).cpu.z, .bool (l.intR v).cpu.n, .bool (l.intR v).cpu.c, .bool (l.intR v).cpu.i, .int .i64 (l.intR v).ppu.t, .int .i64 (l.intR v).ppu.ctrl, .int .i64 (l.intR v).ppu.scroll, .int .i64 (l.intR v).ppu.addr, .int .i64 (l.intR v).ppu.pal, .bool (l.intR v).ppu.blank, .slice q.ppu.table.A (l.intR v).ppu.table.length q.ppu.table.c, .slice q.ppu.dots.A (l.intR v).ppu.dots.length q.ppu.dots.c, .int .i64 (l.intR v).apu.t, .int .i64 (l.intR v).apu.p, .int .i64 (l.intR v).apu.c, .int .i64 (l.intR v).apu.b, .int .i64 (l.intR v).apu.l, .bool (l.intR v).apu.k, .bool (l.intR v).apu.i, .bool (l.intR v).pad.h, .int .i64 (l.intR v).pad.s, .bool (l.intR v).nmi, .int .i64 (l.intR v).steps, .slice q.obs.frames.s.A (l.intR v).obs.frames.length q.obs.frames.s.c, .slice q.obs.samples.A (l.intR v).obs.samples.length q.obs.samples.c, .slice q.obs.reads.A (l.intR v).obs.reads.length q.obs.reads.c] 49, frA q.img.banks (l.intR v).img.banks, intsA q.pads (l.intR v).pads, intsA q.mem.ram (l.intR v).mem.ram, intsA q.ppu.table (l.intR v).ppu.table, intsA q.ppu.dots (l.intR v).ppu.dots, frA q.obs.frames (l.intR v).obs.frames, intsA q.obs.samples (l.intR v).obs.samples, intsA q.obs.reads (l.intR v).obs.reads] := by
  have H := hH.st
  have HL := Lib.hid (MemD.ok_at hok).2.1
  have HM := Lib.hid hok
  have HS := Lib.hid hs
  clear hok hs
  generalize hF : List.flatMap Ast.fp _ = F at H ⊢
  clear hF hH
  go_enter Tryz.func144, Tryz.ntmps144
  go_upto_region 0 with ((with_reducible refine g_load rfl ?_); refine eLa H ?_)
  (with_reducible refine g_draw ?_)
  try simp only [Act.put, List.setIfInBounds_toArray, List.set_cons_succ, List.set_cons_zero]
  refine F_begin (ls := #[false, false, false, false, false, false, false, false, false, false, false, false, false, false, false, false, false, false, false, false, false, false, false, false, false, false, false, false, false]) (by kernel_rfl) rfl (by kernel_rfl) ?_
  have H_ := H.drew
  (clear H; have H := H_; clear H_)
  refine T_go [(0, 0, 4), (0, 1, 5), (0, 2, 6), (0, 3, 7), (0, 4, 8), (0, 5, 9), (0, 6, 10), (0, 7, 11), (0, 8, 12), (1, 9, 13), (0, 10, 14), (0, 11, 15), (0, 12, 16), (1, 13, 17), (0, 14, 18), (0, 16, 20), (0, 17, 21), (0, 18, 22), (1, 19, 23), (0, 20, 24), (0, 21, 25), (0, 22, 26), (1, 23, 27), (0, 24, 28), (0, 25, 29)] ?_; (repeat (first | refine T_pA ?_ | refine T_rA ?_)); refine T_end ?_
  refine F_eA (ls' := #[true, true, true, true, true, true, true, true, true, true, true, true, true, true, true, true, true, true, true, true, true, true, true, true, true, true, false, false, false]) (pend' := [23, 19]) 15 ?_; intro K_ hK_; (conv => (arg 4; arg 1; whnf)); (repeat (first | refine hK_ _ _ rfl ?_ ?_ | (go_big_may; (first | (go_at_call 130; (with_reducible refine (impl_peek l.img q.img l.mem q.mem v _ _ ⟨InRR.ofFr (H.get (x := frA q.img.banks l.img.banks) pkA)⟩ ⟨InI.of (H.get (x := intsA q.mem.ram l.mem.ram) pkA)⟩ rfl HM.out).mono ?_); rintro e w1 ⟨rfl, hb⟩; (replace H := H.callB hb; clear hb)) | (go_at_call 130; (with_reducible refine (impl_peek l.img q.img l.mem q.mem (v + 1) _ _ ⟨InRR.ofFr (H.get (x := frA q.img.banks l.img.banks) pkA)⟩ ⟨InI.of (H.get (x := intsA q.mem.ram l.mem.ram) pkA)⟩ rfl HM.out).mono ?_); rintro e w1 ⟨rfl, hb⟩; (replace H := H.callB hb; clear hb)))) | go_step | go_guarded | go_upon | dsimp only)); (focus (refine kept_cA 23 27 ?_; refine kept_cA 19 23 ?_; exact kept_nil))
  refine F_eA (ls' := #[true, true, true, true, true, true, true, true, true, true, true, true, true, true, true, true, true, true, true, true, true, true, true, true, true, true, true, false, false]) (pend' := []) 26 ?_; intro K_ hK_; (conv => (arg 4; arg 1; whnf)); (repeat (first | refine hK_ _ _ rfl ?_ ?_ | (go_big_may; (first | (go_at_call 130; (with_reducible refine (impl_peek l.img q.img l.mem q.mem v _ _ ⟨InRR.ofFr (H.get (x := frA q.img.banks l.img.banks) pkA)⟩ ⟨InI.of (H.get (x := intsA q.mem.ram l.mem.ram) pkA)⟩ rfl HM.out).mono ?_); rintro e w1 ⟨rfl, hb⟩; (replace H := H.callB hb; clear hb)) | (go_at_call 130; (with_reducible refine (impl_peek l.img q.img l.mem q.mem (v + 1) _ _ ⟨InRR.ofFr (H.get (x := frA q.img.banks l.img.banks) pkA)⟩ ⟨InI.of (H.get (x := intsA q.mem.ram l.mem.ram) pkA)⟩ rfl HM.out).mono ?_); rintro e w1 ⟨rfl, hb⟩; (replace H := H.callB hb; clear hb)))) | go_step | go_guarded | go_upon | dsimp only)); exact kept_nil
  refine T_go [(0, 27, 31)] ?_; (repeat ((refine' T_pure _ rfl rfl (by kernel_rfl) (Nat.le_of_ble_eq_true (by kernel_rfl)) (fun w2_ K_ hK_ => ?_) ?_; rotate_left 1; focus ((conv => (arg 4; arg 1; whnf)); (repeat (first | exact hK_ rfl | (go_big_may; (go_at_call 198; (with_reducible refine (impl_Join _ _ _).mono ?_); rintro e w1 ⟨rfl, rfl⟩)) | go_step | go_guarded | go_upon | dsimp only)); done)))); refine T_end ?_
  refine F_eA (ls' := #[true, true, true, true, true, true, true, true, true, true, true, true, true, true, true, true, true, true, true, true, true, true, true, true, true, true, true, true, true]) (pend' := []) 28 ?_; intro K_ hK_; (conv => (arg 4; arg 1; whnf)); (repeat (first | refine hK_ _ _ rfl ?_ ?_ | (go_big_may; (go_at_call 199; (with_reducible refine (impl_enter_L l.mem q.mem l.cpu _ _ _ _ g _ (St.holL (H.picks (xs := [Ast.blk g _ _, intsA q.mem.ram _]) pksA)) HL.out HS.out).mono ?_); rintro e w1 ⟨rfl, kk⟩; replace H := St.uN (H.picks (xs := [Ast.blk g _ _, intsA q.mem.ram _]) pksA) kk; clear kk)) | go_step | go_guarded | go_upon | dsimp only)); exact kept_nil
  refine F_done (by kernel_rfl) ?_
  go_wp2_with ((with_reducible refine g_load rfl ?_); refine eLa H ?_)
  have H_ := H.take (xs := [Ast.blk g _ _, frA q.img.banks _, intsA q.pads _, intsA q.mem.ram _, intsA q.ppu.table _, intsA q.ppu.dots _, frA q.obs.frames _, intsA q.obs.samples _, intsA q.obs.reads _]) pksA
  go_end0
  exact ⟨rfl, H_⟩
set_option maxHeartbeats 32000000 in
theorem impl_lop (l : LockD) (q : LockP) (i : InstrD) (g : Nat) (w : World) (hH : Hol w [Ast.blk g [.slice q.img.banks.s.A l.img.banks.length q.img.banks.s.c, .slice q.pads.A l.pads.length q.pads.c, .slice q.mem.ram.A l.mem.ram.length q.mem.ram.c, .int .i64 l.mem.bank, .int .i64 l.cpu.a, .int .i64 l.cpu.x, .int .i64 l.cpu.s, .int .i64 l.cpu.pc, .bool l.cpu.z, .bool l.cpu.n, .bool l.cpu.c, .bool l.cpu.i, .int .i64 l.ppu.t, .int .i64 l.ppu.ctrl, .int .i64 l.ppu.scroll, .int .i64 l.ppu.addr, .int .i64 l.ppu.pal, .bool l.ppu.blank, .slice q.ppu.table.A l.ppu.table.length q.ppu.table.c, .slice q.ppu.dots.A l.ppu.dots.length q.ppu.dots.c, .int .i64 l.apu.t, .int .i64 l.apu.p, .int .i64 l.apu.c, .int .i64 l.apu.b, .int .i64 l.apu.l, .bool l.apu.k, .bool l.apu.i, .bool l.pad.h, .int .i64 l.pad.s, .bool l.nmi, .int .i64 l.steps, .slice q.obs.frames.s.A l.obs.frames.length q.obs.frames.s.c, .slice q.obs.samples.A l.obs.samples.length q.obs.samples.c, .slice q.obs.reads.A l.obs.reads.length q.obs.reads.c] 49, frA q.img.banks l.img.banks, intsA q.pads l.pads, intsA q.mem.ram l.mem.ram, intsA q.ppu.table l.ppu.table, intsA q.ppu.dots l.ppu.dots, frA q.obs.frames l.obs.frames, intsA q.obs.samples l.obs.samples, intsA q.obs.reads l.obs.reads]) (hok : l.ok = true) (hi_ : 0 ≤ i.arg ∧ i.arg ≤ 65535) (hsr : l.obs.reads.length ≤ 1048576) : Calls Tryz.prog 145 #[.pointer (some ⟨g, 0, none⟩), .agg #[.int .i64 i.op, .int .i64 i.arg]] w fun e w' => e = .returned (.tuple #[]) ∧ ∃ q' : LockP, St w ([Ast.blk g [.slice q.img.banks.s.A l.img.banks.length q.img.banks.s.c, .slice q.pads.A l.pads.length q.pads.c, .slice q.mem.ram.A l.mem.ram.length q.mem.ram.c, .int .i64 l.mem.bank, .int .i64 l.cpu.a, .int .i64 l.cpu.x, .int .i64 l.cpu.s, .int .i64 l.cpu.pc, .bool l.cpu.z, .bool l.cpu.n, .bool l.cpu.c, .bool l.cpu.i, .int .i64 l.ppu.t, .int .i64 l.ppu.ctrl, .int .i64 l.ppu.scroll, .int .i64 l.ppu.addr, .int .i64 l.ppu.pal, .bool l.ppu.blank, .slice q.ppu.table.A l.ppu.table.length q.ppu.table.c, .slice q.ppu.dots.A l.ppu.dots.length q.ppu.dots.c, .int .i64 l.apu.t, .int .i64 l.apu.p, .int .i64 l.apu.c, .int .i64 l.apu.b, .int .i64 l.apu.l, .bool l.apu.k, .bool l.apu.i, .bool l.pad.h, .int .i64 l.pad.s, .bool l.nmi, .int .i64 l.steps, .slice q.obs.frames.s.A l.obs.frames.length q.obs.frames.s.c, .slice q.obs.samples.A l.obs.samples.length q.obs.samples.c, .slice q.obs.reads.A l.obs.reads.length q.obs.reads.c] 49, frA q.img.banks l.img.banks, intsA q.pads l.pads, intsA q.mem.ram l.mem.ram, intsA q.ppu.table l.ppu.table, intsA q.ppu.dots l.ppu.dots, frA q.obs.frames l.obs.frames, intsA q.obs.samples l.obs.samples, intsA q.obs.reads l.obs.reads].flatMap Ast.fp) w' [Ast.blk g [.slice q'.img.banks.s.A (l.opR i).img.banks.length q'.img.banks.s.c, .slice q'.pads.A (l.opR i).pads.length q'.pads.c, .slice q'.mem.ram.A (l.opR i).mem.ram.length q'.mem.ram.c, .int .i64 (l.opR i).mem.bank, .int .i64 (l.opR i).cpu.a, .int .i64 (l.opR i).cpu.x, .int .i64 (l.opR i).cpu.s, .int .i64 (l.opR i).cpu.pc, .bool (l.opR i).cpu.z, .bool (l.opR i).cpu.n, .bool (l.opR i).cpu.c, .bool (l.opR i).cpu.i, .int .i64 (l.opR i).ppu.t, .int .i64 (l.opR i).ppu.ctrl, .int .i64 (l.opR i).ppu.scroll, .int .i64 (l.opR i).ppu.addr, .int .i64 (l.opR i).ppu.pal, .bool (l.opR i).ppu.blank, .slice q'.ppu.table.A (l.opR i).ppu.table.length q'.ppu.table.c, .slice q'.ppu.dots.A (l.opR i).ppu.dots.length q'.ppu.dots.c, .int .i64 (l.opR i).apu.t, .int .i64 (l.opR i).apu.p, .int .i64 (l.opR i).apu.c, .int .i64 (l.opR i).apu.b, .int .i64 (l.opR i).apu.l, .bool (l.opR i).apu.k, .bool (l.opR i).apu.i, .bool (l.opR i).pad.h, .int .i64 (l.opR i).pad.s, .bool (l.opR i).nmi, .int .i64 (l.opR i).steps, .slice q'.obs.frames.s.A (l.opR i).obs.frames.length q'.obs.frames.s.c, .slice q'.obs.samples.A (l.opR i).obs.samples.length q'.obs.samples.c, .slice q'.obs.reads.A (l.opR i).obs.reads.length q'.obs.reads.c] 49, frA q'.img.banks (l.opR i).img.banks, intsA q'.pads (l.opR i).pads, intsA q'.mem.ram (l.opR i).mem.ram, intsA q'.ppu.table (l.opR i).ppu.table, intsA q'.ppu.dots (l.opR i).ppu.dots, frA q'.obs.frames (l.opR i).obs.frames, intsA q'.obs.samples (l.opR i).obs.samples, intsA q'.obs.reads (l.opR i).obs.reads] := by
  have H := hH.st
  obtain ⟨⟨ca0, ca1⟩, hx_, cs_, ⟨cp0, cp1⟩⟩ := CpuD.ok_at (LockD.ok_at hok).2.2.1
  have HK := Lib.hid hok
  have hR := LockD.Rt.of hok
  have hA := hR.accR i
  obtain ⟨k1, k2, k3, k4⟩ := l.accR_keep i
  have HL : Hid ((l.accR i).mem.ram.length = 512) := Lib.hid (MemD.ok_at hA.mem).2.1
  have HC : Hid ((0 ≤ (l.accR i).cpu.s ∧ (l.accR i).cpu.s ≤ 255) ∧ 0 ≤ (l.accR i).cpu.x ∧ (l.accR i).cpu.x ≤ 255 ∧ 0 ≤ (l.accR i).cpu.pc ∧ (l.accR i).cpu.pc ≤ 65535) := Lib.hid (by rw [k1]; exact ⟨cs_, hx_.1, hx_.2, cp0, cp1⟩)
  clear hok hR hA k1 k2 k3 k4 ca0 ca1 cs_ cp0 cp1
  generalize hF : List.flatMap Ast.fp _ = F at H ⊢
  clear hF hH
  show Calls _ _ _ _ fun e w' => _ ∧ ∃ q' : LockP, St w F w' [Ast.blk g [.slice q'.img.banks.s.A ((l.accR i).excR i (l.accS i)).img.banks.length q'.img.banks.s.c, .slice q'.pads.A ((l.accR i).excR i (l.accS i)).pads.length q'.pads.c, .slice q'.mem.ram.A ((l.accR i).excR i (l.accS i)).mem.ram.length q'.mem.ram.c, .int .i64 ((l.accR i).excR i (l.accS i)).mem.bank, .int .i64 ((l.accR i).excR i (l.accS i)).cpu.a, .int .i64 ((l.accR i).excR i (l.accS i)).cpu.x, .int .i64 ((l.accR i).excR i (l.accS i)).cpu.s, .int .i64 ((l.accR i).excR i (l.accS i)).cpu.pc, .bool ((l.accR i).excR i (l.accS i)).cpu.z, .bool ((l.accR i).excR i (l.accS i)).cpu.n, .bool ((l.accR i).excR i (l.accS i)).cpu.c, .bool ((l.accR i).excR i (l.accS i)).cpu.i, .int .i64 ((l.accR i).excR i (l.accS i)).ppu.t, .int .i64 ((l.accR i).excR i (l.accS i)).ppu.ctrl, .int .i64 ((l.accR i).excR i (l.accS i)).ppu.scroll, .int .i64 ((l.accR i).excR i (l.accS i)).ppu.addr, .int .i64 ((l.accR i).excR i (l.accS i)).ppu.pal, .bool ((l.accR i).excR i (l.accS i)).ppu.blank, .slice q'.ppu.table.A ((l.accR i).excR i (l.accS i)).ppu.table.length q'.ppu.table.c, .slice q'.ppu.dots.A ((l.accR i).excR i (l.accS i)).ppu.dots.length q'.ppu.dots.c, .int .i64 ((l.accR i).excR i (l.accS i)).apu.t, .int .i64 ((l.accR i).excR i (l.accS i)).apu.p, .int .i64 ((l.accR i).excR i (l.accS i)).apu.c, .int .i64 ((l.accR i).excR i (l.accS i)).apu.b, .int .i64 ((l.accR i).excR i (l.accS i)).apu.l, .bool ((l.accR i).excR i (l.accS i)).apu.k, .bool ((l.accR i).excR i (l.accS i)).apu.i, .bool ((l.accR i).excR i (l.accS i)).pad.h, .int .i64 ((l.accR i).excR i (l.accS i)).pad.s, .bool ((l.accR i).excR i (l.accS i)).nmi, .int .i64 ((l.accR i).excR i (l.accS i)).steps, .slice q'.obs.frames.s.A ((l.accR i).excR i (l.accS i)).obs.frames.length q'.obs.frames.s.c, .slice q'.obs.samples.A ((l.accR i).excR i (l.accS i)).obs.samples.length q'.obs.samples.c, .slice q'.obs.reads.A ((l.accR i).excR i (l.accS i)).obs.reads.length q'.obs.reads.c] 49, frA q'.img.banks ((l.accR i).excR i (l.accS i)).img.banks, intsA q'.pads ((l.accR i).excR i (l.accS i)).pads, intsA q'.mem.ram ((l.accR i).excR i (l.accS i)).mem.ram, intsA q'.ppu.table ((l.accR i).excR i (l.accS i)).ppu.table, intsA q'.ppu.dots ((l.accR i).excR i (l.accS i)).ppu.dots, frA q'.obs.frames ((l.accR i).excR i (l.accS i)).obs.frames, intsA q'.obs.samples ((l.accR i).excR i (l.accS i)).obs.samples, intsA q'.obs.reads ((l.accR i).excR i (l.accS i)).obs.reads]
  rcases opAcc_cases i.op with ha | ha | ha
  · have e1 : l.accR i = l := by simp [LockD.accR, ha]
    have e2 : l.accS i = 0 := by simp [LockD.accS, ha]
    rw [e1, e2]
    rw [e1] at HL HC
    have HV : Hid (accV i l.cpu = 0) := Lib.hid (by simp [accV, ha])
    have HA := Lib.hid ha
    clear e1 e2 ha
    go_enter Tryz.func145, Tryz.ntmps145
    go_upto_region 1 with (first | ((with_reducible refine g_box rfl ?_); refine eBa H ?_; clear H; intro g_ W_ H) | ((with_reducible refine g_load rfl ?_); refine eLa H ?_))
    (with_reducible refine g_draw ?_)
    try simp only [Act.put, List.setIfInBounds_toArray, List.set_cons_succ, List.set_cons_zero]
    refine F_begin (ls := #[false, false, false, false, false, false, false, false, false, false, false, false, false]) (by kernel_rfl) rfl (by kernel_rfl) ?_
    have H_ := H.drew
    (clear H; have H := H_; clear H_)
    refine T_go [(1, 0, 8), (0, 1, 9), (0, 2, 10), (0, 3, 11), (1, 4, 12)] ?_; (repeat (first | refine T_pA ?_ | refine T_rA ?_)); refine T_end ?_
    refine F_eA (ls' := #[true, true, true, true, true, true, false, false, false, false, false, false, false]) (pend' := []) 5 ?_; intro K_ hK_; (conv => (arg 4; arg 1; whnf)); (repeat (first | refine hK_ _ _ rfl ?_ ?_ | (go_big_may; (go_at_call 175; (with_reducible refine (impl_Access i l.cpu _ hi_ hx_).mono ?_); rintro e w1 ⟨rfl, hb⟩; rw [HA.out]; rw [HV.out]; (replace H := H.callB hb; clear hb))) | go_step | go_guarded | go_upon | dsimp only)); exact kept_nil
    refine T_go [(0, 6, 7), (0, 7, 14), (0, 8, 15), (0, 9, 16), (0, 10, 4), (0, 11, 5), (0, 12, 6)] ?_; (repeat (refine T_pA ?_)); refine T_end ?_
    refine F_done (by kernel_rfl) ?_
    go_upto_region 8 with (first | ((with_reducible refine g_box rfl ?_); refine eBa H ?_; clear H; intro g_ W_ H) | ((with_reducible refine g_load rfl ?_); refine eLa H ?_))
    (with_reducible refine g_draw ?_)
    try simp only [Act.put, List.setIfInBounds_toArray, List.set_cons_succ, List.set_cons_zero]
    refine F_begin (ls := #[false, false, false, false, false, false, false, false, false]) (by kernel_rfl) rfl (by kernel_rfl) ?_
    have H_ := H.drew
    (clear H; have H := H_; clear H_)
    refine T_go [(0, 0, 29), (0, 1, 30), (0, 2, 31), (0, 3, 32), (0, 4, 33), (0, 5, 34), (1, 6, 35), (0, 7, 36)] ?_; (repeat (first | refine T_pA ?_ | refine T_rA ?_)); refine T_end ?_
    refine F_eA (ls' := #[true, true, true, true, true, true, true, true, true]) (pend' := []) 8 ?_; intro K_ hK_; (conv => (arg 4; arg 1; whnf)); (repeat (first | refine hK_ _ _ rfl ?_ ?_ | (go_big_may; (go_at_call 200; (with_reducible refine (impl_exec_L l.mem q.mem l.cpu i.op i.arg 0 _ _ _ g _ (St.holL (H.picks (xs := [Ast.blk g _ _, intsA q.mem.ram _]) pksA)) HL.out HC.out.1 HC.out.2.1 HC.out.2.2.1 HC.out.2.2.2.1 HC.out.2.2.2.2).mono ?_); rintro e w1 ⟨rfl, kk⟩; replace H := St.uN (H.picks (xs := [Ast.blk g _ _, intsA q.mem.ram _]) pksA) kk; clear kk)) | go_step | go_guarded | go_upon | dsimp only)); exact kept_nil
    refine F_done (by kernel_rfl) ?_
    go_wp2_with (first | ((with_reducible refine g_box rfl ?_); refine eBa H ?_; clear H; intro g_ W_ H) | ((with_reducible refine g_load rfl ?_); refine eLa H ?_))
    have H_ := H.take (xs := [Ast.blk g _ _, frA q.img.banks _, intsA q.pads _, intsA q.mem.ram _, intsA q.ppu.table _, intsA q.ppu.dots _, frA q.obs.frames _, intsA q.obs.samples _, intsA q.obs.reads _]) pksA
    go_end0
    exact ⟨rfl, q, H_⟩
  · have e1 : l.accR i = (l.readR (accA i l.cpu)) := by simp [LockD.accR, ha]
    have e2 : l.accS i = (l.saysR (accA i l.cpu)) := by simp [LockD.accS, ha]
    rw [e1, e2]
    rw [e1] at HL HC
    have HA := Lib.hid ha
    clear e1 e2 ha
    go_enter Tryz.func145, Tryz.ntmps145
    go_upto_region 1 with (first | ((with_reducible refine g_box rfl ?_); refine eBa H ?_; clear H; intro g_ W_ H) | ((with_reducible refine g_load rfl ?_); refine eLa H ?_))
    (with_reducible refine g_draw ?_)
    try simp only [Act.put, List.setIfInBounds_toArray, List.set_cons_succ, List.set_cons_zero]
    refine F_begin (ls := #[false, false, false, false, false, false, false, false, false, false, false, false, false]) (by kernel_rfl) rfl (by kernel_rfl) ?_
    have H_ := H.drew
    (clear H; have H := H_; clear H_)
    refine T_go [(1, 0, 8), (0, 1, 9), (0, 2, 10), (0, 3, 11), (1, 4, 12)] ?_; (repeat (first | refine T_pA ?_ | refine T_rA ?_)); refine T_end ?_
    refine F_eA (ls' := #[true, true, true, true, true, true, false, false, false, false, false, false, false]) (pend' := []) 5 ?_; intro K_ hK_; (conv => (arg 4; arg 1; whnf)); (repeat (first | refine hK_ _ _ rfl ?_ ?_ | (go_big_may; (go_at_call 175; (with_reducible refine (impl_Access i l.cpu _ hi_ hx_).mono ?_); rintro e w1 ⟨rfl, hb⟩; rw [HA.out]; (replace H := H.callB hb; clear hb))) | go_step | go_guarded | go_upon | dsimp only)); exact kept_nil
    refine T_go [(0, 6, 7), (0, 7, 14), (0, 8, 15), (0, 9, 16), (0, 10, 4), (0, 11, 5), (0, 12, 6)] ?_; (repeat (refine T_pA ?_)); refine T_end ?_
    refine F_done (by kernel_rfl) ?_
    go_upto_region 8 with (first | (go_at_call 50; (with_reducible refine (impl_lread l q (accA i l.cpu) g _ (St.holL (H.picks (xs := [Ast.blk g _ _, frA q.img.banks l.img.banks, intsA q.pads l.pads, intsA q.mem.ram l.mem.ram, intsA q.ppu.table l.ppu.table, intsA q.ppu.dots l.ppu.dots, frA q.obs.frames l.obs.frames, intsA q.obs.samples l.obs.samples, intsA q.obs.reads l.obs.reads]) pksA)) HK.out hsr).mono ?_); rintro e w1 ⟨rfl, q1_, kk⟩; replace H := St.uN (H.picks (xs := [Ast.blk g _ _, frA q.img.banks l.img.banks, intsA q.pads l.pads, intsA q.mem.ram l.mem.ram, intsA q.ppu.table l.ppu.table, intsA q.ppu.dots l.ppu.dots, frA q.obs.frames l.obs.frames, intsA q.obs.samples l.obs.samples, intsA q.obs.reads l.obs.reads]) pksA) kk; clear kk) | ((with_reducible refine g_box rfl ?_); refine eBa H ?_; clear H; intro g_ W_ H) | ((with_reducible refine g_load rfl ?_); refine eLa H ?_))
    (with_reducible refine g_draw ?_)
    try simp only [Act.put, List.setIfInBounds_toArray, List.set_cons_succ, List.set_cons_zero]
    refine F_begin (ls := #[false, false, false, false, false, false, false, false, false]) (by kernel_rfl) rfl (by kernel_rfl) ?_
    have H_ := H.drew
    (clear H; have H := H_; clear H_)
    refine T_go [(0, 0, 29), (0, 1, 30), (0, 2, 31), (0, 3, 32), (0, 4, 33), (0, 5, 34), (1, 6, 35), (0, 7, 36)] ?_; (repeat (first | refine T_pA ?_ | refine T_rA ?_)); refine T_end ?_
    refine F_eA (ls' := #[true, true, true, true, true, true, true, true, true]) (pend' := []) 8 ?_; intro K_ hK_; (conv => (arg 4; arg 1; whnf)); (repeat (first | refine hK_ _ _ rfl ?_ ?_ | (go_big_may; (go_at_call 200; (with_reducible refine (impl_exec_L (l.readR (accA i l.cpu)).mem q1_.mem (l.readR (accA i l.cpu)).cpu i.op i.arg (l.saysR (accA i l.cpu)) _ _ _ g _ (St.holL (H.picks (xs := [Ast.blk g _ _, intsA q1_.mem.ram _]) pksA)) HL.out HC.out.1 HC.out.2.1 HC.out.2.2.1 HC.out.2.2.2.1 HC.out.2.2.2.2).mono ?_); rintro e w1 ⟨rfl, kk⟩; replace H := St.uN (H.picks (xs := [Ast.blk g _ _, intsA q1_.mem.ram _]) pksA) kk; clear kk)) | go_step | go_guarded | go_upon | dsimp only)); exact kept_nil
    refine F_done (by kernel_rfl) ?_
    go_wp2_with (first | ((with_reducible refine g_box rfl ?_); refine eBa H ?_; clear H; intro g_ W_ H) | ((with_reducible refine g_load rfl ?_); refine eLa H ?_))
    have H_ := H.take (xs := [Ast.blk g _ _, frA q1_.img.banks _, intsA q1_.pads _, intsA q1_.mem.ram _, intsA q1_.ppu.table _, intsA q1_.ppu.dots _, frA q1_.obs.frames _, intsA q1_.obs.samples _, intsA q1_.obs.reads _]) pksA
    go_end0
    exact ⟨rfl, q1_, H_⟩
  · have e1 : l.accR i = (l.writeR (accA i l.cpu) (accV i l.cpu)) := by simp [LockD.accR, ha]
    have e2 : l.accS i = 0 := by simp [LockD.accS, ha]
    rw [e1, e2]
    rw [e1] at HL HC
    have HA := Lib.hid ha
    clear e1 e2 ha
    go_enter Tryz.func145, Tryz.ntmps145
    go_upto_region 1 with (first | ((with_reducible refine g_box rfl ?_); refine eBa H ?_; clear H; intro g_ W_ H) | ((with_reducible refine g_load rfl ?_); refine eLa H ?_))
    (with_reducible refine g_draw ?_)
    try simp only [Act.put, List.setIfInBounds_toArray, List.set_cons_succ, List.set_cons_zero]
    refine F_begin (ls := #[false, false, false, false, false, false, false, false, false, false, false, false, false]) (by kernel_rfl) rfl (by kernel_rfl) ?_
    have H_ := H.drew
    (clear H; have H := H_; clear H_)
    refine T_go [(1, 0, 8), (0, 1, 9), (0, 2, 10), (0, 3, 11), (1, 4, 12)] ?_; (repeat (first | refine T_pA ?_ | refine T_rA ?_)); refine T_end ?_
    refine F_eA (ls' := #[true, true, true, true, true, true, false, false, false, false, false, false, false]) (pend' := []) 5 ?_; intro K_ hK_; (conv => (arg 4; arg 1; whnf)); (repeat (first | refine hK_ _ _ rfl ?_ ?_ | (go_big_may; (go_at_call 175; (with_reducible refine (impl_Access i l.cpu _ hi_ hx_).mono ?_); rintro e w1 ⟨rfl, hb⟩; rw [HA.out]; (replace H := H.callB hb; clear hb))) | go_step | go_guarded | go_upon | dsimp only)); exact kept_nil
    refine T_go [(0, 6, 7), (0, 7, 14), (0, 8, 15), (0, 9, 16), (0, 10, 4), (0, 11, 5), (0, 12, 6)] ?_; (repeat (refine T_pA ?_)); refine T_end ?_
    refine F_done (by kernel_rfl) ?_
    go_upto_region 8 with (first | (go_at_call 66; (with_reducible refine (impl_lwrite l q (accA i l.cpu) (accV i l.cpu) g _ (St.holL (H.picks (xs := [Ast.blk g _ _, frA q.img.banks l.img.banks, intsA q.pads l.pads, intsA q.mem.ram l.mem.ram, intsA q.ppu.table l.ppu.table, intsA q.ppu.dots l.ppu.dots, frA q.obs.frames l.obs.frames, intsA q.obs.samples l.obs.samples, intsA q.obs.reads l.obs.reads]) pksA)) HK.out).mono ?_); rintro e w1 ⟨rfl, q1_, kk⟩; replace H := St.uN (H.picks (xs := [Ast.blk g _ _, frA q.img.banks l.img.banks, intsA q.pads l.pads, intsA q.mem.ram l.mem.ram, intsA q.ppu.table l.ppu.table, intsA q.ppu.dots l.ppu.dots, frA q.obs.frames l.obs.frames, intsA q.obs.samples l.obs.samples, intsA q.obs.reads l.obs.reads]) pksA) kk; clear kk) | ((with_reducible refine g_box rfl ?_); refine eBa H ?_; clear H; intro g_ W_ H) | ((with_reducible refine g_load rfl ?_); refine eLa H ?_))
    (with_reducible refine g_draw ?_)
    try simp only [Act.put, List.setIfInBounds_toArray, List.set_cons_succ, List.set_cons_zero]
    refine F_begin (ls := #[false, false, false, false, false, false, false, false, false]) (by kernel_rfl) rfl (by kernel_rfl) ?_
    have H_ := H.drew
    (clear H; have H := H_; clear H_)
    refine T_go [(0, 0, 29), (0, 1, 30), (0, 2, 31), (0, 3, 32), (0, 4, 33), (0, 5, 34), (1, 6, 35), (0, 7, 36)] ?_; (repeat (first | refine T_pA ?_ | refine T_rA ?_)); refine T_end ?_
    refine F_eA (ls' := #[true, true, true, true, true, true, true, true, true]) (pend' := []) 8 ?_; intro K_ hK_; (conv => (arg 4; arg 1; whnf)); (repeat (first | refine hK_ _ _ rfl ?_ ?_ | (go_big_may; (go_at_call 200; (with_reducible refine (impl_exec_L (l.writeR (accA i l.cpu) (accV i l.cpu)).mem q1_.mem (l.writeR (accA i l.cpu) (accV i l.cpu)).cpu i.op i.arg 0 _ _ _ g _ (St.holL (H.picks (xs := [Ast.blk g _ _, intsA q1_.mem.ram _]) pksA)) HL.out HC.out.1 HC.out.2.1 HC.out.2.2.1 HC.out.2.2.2.1 HC.out.2.2.2.2).mono ?_); rintro e w1 ⟨rfl, kk⟩; replace H := St.uN (H.picks (xs := [Ast.blk g _ _, intsA q1_.mem.ram _]) pksA) kk; clear kk)) | go_step | go_guarded | go_upon | dsimp only)); exact kept_nil
    refine F_done (by kernel_rfl) ?_
    go_wp2_with (first | ((with_reducible refine g_box rfl ?_); refine eBa H ?_; clear H; intro g_ W_ H) | ((with_reducible refine g_load rfl ?_); refine eLa H ?_))
    have H_ := H.take (xs := [Ast.blk g _ _, frA q1_.img.banks _, intsA q1_.pads _, intsA q1_.mem.ram _, intsA q1_.ppu.table _, intsA q1_.ppu.dots _, frA q1_.obs.frames _, intsA q1_.obs.samples _, intsA q1_.obs.reads _]) pksA
    go_end0
    exact ⟨rfl, q1_, H_⟩
end Go.Proofs.YtjgggmcnbdjdjaaGreat.C

