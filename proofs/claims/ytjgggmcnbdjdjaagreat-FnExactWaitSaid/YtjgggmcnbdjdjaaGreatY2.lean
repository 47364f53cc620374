/- What an op is, what it wants of memory, what a step of the machine in parts waits for: as data. -/
import Derived.Test.YtjgggmcnbdjdjaaGreatY0
namespace Go.Proofs.YtjgggmcnbdjdjaaGreat.C
open Go.RowKit Go.Proofs.YtjgggmcnbdjdjaaGreat.K Go.Proofs.YtjgggmcnbdjdjaaGreat.B
set_option maxRecDepth 20000
set_option linter.unusedVariables false
set_option linter.unusedSimpArgs false
def opLen (op : Int) : Int := if op = 1 ∨ (4 ≤ op ∧ op ≤ 9) then 2 else if op = 2 ∨ op = 3 ∨ (14 ≤ op ∧ op ≤ 20) ∨ op = 29 then 3 else 1
def opCyc (op : Int) : Int := if op = 2 ∨ op = 3 ∨ op = 14 ∨ op = 23 ∨ op = 29 then 4 else if op = 15 then 5 else if (16 ≤ op ∧ op ≤ 19) ∨ op = 22 then 3 else if op = 20 ∨ op = 21 ∨ op = 24 then 6 else 2
def opAcc (op : Int) : Int := if op = 2 ∨ op = 14 ∨ op = 29 then 1 else if op = 3 ∨ op = 15 then 2 else 0
theorem opLen_cases (op : Int) : opLen op = 1 ∨ opLen op = 2 ∨ opLen op = 3 := by unfold opLen; split <;> (try split) <;> simp
theorem opCyc_in (op : Int) : 2 ≤ opCyc op ∧ opCyc op ≤ 6 := by unfold opCyc; (repeat' split) <;> omega
theorem opAcc_cases (op : Int) : opAcc op = 0 ∨ opAcc op = 1 ∨ opAcc op = 2 := by unfold opAcc; split <;> (try split) <;> simp
/-- The op that lies at a place. -/
def MemD.fetch (x : MemD) (m : ImageD) (pc : Int) : InstrD := ⟨x.peek m pc, if opLen (x.peek m pc) = 2 then x.peek m (pc + 1) else if opLen (x.peek m pc) = 3 then joinB (x.peek m (pc + 1)) (x.peek m (pc + 2)) else 0⟩
theorem MemD.fetch_in {x : MemD} {m : ImageD} (h : x.ok m = true) (pc : Int) : (0 ≤ (x.fetch m pc).op ∧ (x.fetch m pc).op ≤ 255) ∧ (0 ≤ (x.fetch m pc).arg ∧ (x.fetch m pc).arg ≤ 65535) := by
  refine ⟨MemD.peek_in h pc, ?_⟩
  show 0 ≤ (if opLen (x.peek m pc) = 2 then x.peek m (pc + 1) else if opLen (x.peek m pc) = 3 then joinB (x.peek m (pc + 1)) (x.peek m (pc + 2)) else 0) ∧ (if opLen (x.peek m pc) = 2 then x.peek m (pc + 1) else if opLen (x.peek m pc) = 3 then joinB (x.peek m (pc + 1)) (x.peek m (pc + 2)) else 0) ≤ 65535
  split
  · have := MemD.peek_in h (pc + 1); omega
  · split
    · exact joinB_in _ _
    · omega
/-- What an op wants of memory: whether it reads or writes, where, and what. -/
def accA (i : InstrD) (c : CpuD) : Int := if opAcc i.op = 0 then 0 else if i.op = 14 ∨ i.op = 15 then (i.arg + c.x) % 65536 else i.arg % 65536
def accV (i : InstrD) (c : CpuD) : Int := if opAcc i.op = 2 then c.a % 256 else 0
def SplitD.over (s : SplitD) (k : Int) : Int := if 20000 < s.t + k then 5 else 0
def SplitD.picUp (s : SplitD) : Bool := (s.picture.ppu.t == s.t) && ((s.picture.ring.list.length : Int) == 0)
def SplitD.sndUp (s : SplitD) : Bool := (s.sound.apu.t == s.t) && ((s.sound.ring.list.length : Int) == 0)
def SplitD.beat (s : SplitD) : Bool := cyc s.knownAt s.t 0 32
/-- The processor must ask the sound unit. -/
def SplitD.must (s : SplitD) : Bool := !s.nmi && (!s.cpu.i && s.beat)
/-- The sound unit asks, and may. -/
def SplitD.asked (s : SplitD) : Bool := (if s.beat = true then s.sound.apu.i else s.known) && !s.cpu.i
/-- What the op that comes waits for. -/
def SplitD.waitOp (s : SplitD) (i : InstrD) : Int :=
  if opAcc i.op = 1 ∧ regR (accA i s.cpu) = 2 ∧ s.picUp = false then 1
  else if opAcc i.op = 1 ∧ regR (accA i s.cpu) = 3 ∧ s.sndUp = false then 2
  else if opAcc i.op = 2 ∧ regR (accA i s.cpu) = 2 ∧ s.picture.ring.cap ≤ (s.picture.ring.list.length : Int) then 3
  else if opAcc i.op = 2 ∧ regR (accA i s.cpu) = 3 ∧ s.sound.ring.cap ≤ (s.sound.ring.list.length : Int) then 4
  else s.over (opCyc i.op)
def SplitD.waitR (s : SplitD) : Int :=
  if s.nmi = true then s.over 7 else if s.must = true ∧ s.sndUp = false then 2 else if s.asked = true then s.over 7 else s.waitOp (s.mem.fetch s.img s.cpu.pc)
def SplitD.wait (s : SplitD) : Int := if s.ok = true then s.waitR else 6
end Go.Proofs.YtjgggmcnbdjdjaaGreat.C
