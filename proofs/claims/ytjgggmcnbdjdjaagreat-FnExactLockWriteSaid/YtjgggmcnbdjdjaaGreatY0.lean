/- Memory, the processor and the two machines, as data: when they are sound; what lies at an address. -/
import Derived.Test.YtjgggmcnbdjdjaaGreatU2
import Derived.Test.YtjgggmcnbdjdjaaGreatG4
import Derived.Test.YtjgggmcnbdjdjaaGreatV2
namespace Go.Proofs.YtjgggmcnbdjdjaaGreat.C
open Go.RowKit Go.Proofs.YtjgggmcnbdjdjaaGreat.K Go.Proofs.YtjgggmcnbdjdjaaGreat.B
set_option maxRecDepth 20000
set_option linter.unusedVariables false
set_option linter.unusedSimpArgs false
/-! ## images -/
def bankB (r : List Int) : Bool := ((r.length : Int) == 256) && allB 0 255 r
def banksB (rs : List (List Int)) : Bool := rs.all bankB
theorem banks_at {rs : List (List Int)} (h : banksB rs = true) {k : Nat} (hk : k < rs.length) : bankB (rwAt rs k) = true := by
  have := List.all_eq_true.1 h rs[k] (List.getElem_mem hk)
  rwa [rwAt_at hk]
theorem banks_no {rs : List (List Int)} {k : Nat} (hk : k < rs.length) (h : bankB (rwAt rs k) = false) : banksB rs = false := by
  cases e : banksB rs with
  | false => rfl
  | true => rw [banks_at e hk] at h; cases h
theorem banks_yes {rs : List (List Int)} (h : ∀ k, k < rs.length → bankB (rwAt rs k) = true) : banksB rs = true := by
  refine List.all_eq_true.2 fun x hx => ?_
  obtain ⟨k, hk, rfl⟩ := List.getElem_of_mem hx
  have := h k hk
  rwa [rwAt_at hk] at this
theorem bank_at {r : List Int} (h : bankB r = true) : r.length = 256 ∧ allB 0 255 r = true := by
  unfold bankB at h
  rw [Bool.and_eq_true, beq_iff_eq] at h
  exact ⟨by omega, h.2⟩
def ImageD.ok (m : ImageD) : Bool := banksB m.banks && inB (m.banks.length : Int) 1 8
theorem ImageD.ok_at {m : ImageD} (h : m.ok = true) : banksB m.banks = true ∧ 1 ≤ m.banks.length ∧ m.banks.length ≤ 8 := by
  unfold ImageD.ok at h
  rw [Bool.and_eq_true, inB_iff] at h
  exact ⟨h.1, by omega, by omega⟩
/-! ## memory -/
def MemD.ok (x : MemD) (m : ImageD) : Bool := m.ok && (((x.ram.length : Int) == 512) && (allB 0 255 x.ram && inB x.bank 0 ((m.banks.length : Int) - 1)))
theorem MemD.ok_at {x : MemD} {m : ImageD} (h : x.ok m = true) : m.ok = true ∧ x.ram.length = 512 ∧ allB 0 255 x.ram = true ∧ 0 ≤ x.bank ∧ x.bank.toNat < m.banks.length := by
  unfold MemD.ok at h
  rw [Bool.and_eq_true, Bool.and_eq_true, Bool.and_eq_true, inB_iff, beq_iff_eq] at h
  exact ⟨h.1, by omega, h.2.2.1, by omega, by omega⟩
/-- The region of an address, and the place in it. -/
def regR (a : Int) : Int := if a % 65536 < 8192 then 1 else if a % 65536 < 16384 then 2 else if a % 65536 < 16388 then 3 else if a % 65536 = 16406 then 4 else if a % 65536 < 32768 then 7 else if a % 65536 < 49152 then 5 else 6
def regA (a : Int) : Int := if a % 65536 < 8192 then a % 65536 % 512 else if a % 65536 < 16384 then a % 65536 % 8 else if a % 65536 < 16388 then a % 65536 % 4 else if a % 65536 = 16406 then 0 else if a % 65536 < 32768 then 0 else a % 65536 % 256
theorem reg_cases (a : Int) : (regR a = 1 ∧ 0 ≤ regA a ∧ regA a < 512) ∨ (regR a = 2 ∧ 0 ≤ regA a ∧ regA a < 8) ∨ (regR a = 3 ∧ 0 ≤ regA a ∧ regA a < 4) ∨ (regR a = 4 ∧ regA a = 0) ∨ (regR a = 5 ∧ 0 ≤ regA a ∧ regA a < 256) ∨ (regR a = 6 ∧ 0 ≤ regA a ∧ regA a < 256) ∨ (regR a = 7 ∧ regA a = 0) := by
  unfold regR regA
  (repeat' split) <;> simp <;> omega
/-- What is read of memory that is sound. -/
def MemD.peek (x : MemD) (m : ImageD) (a : Int) : Int :=
  if regR a = 1 then rd x.ram (regA a).toNat else if regR a = 5 then rd (rwAt m.banks x.bank.toNat) (regA a).toNat else if regR a = 6 then rd (rwAt m.banks (m.banks.length - 1)) (regA a).toNat else 0
theorem byte_rd {r : List Int} (h : allB 0 255 r = true) {k : Nat} (hk : k < r.length) : 0 ≤ rd r k ∧ rd r k ≤ 255 := inB_iff.1 (allB_at h hk)
theorem MemD.peek_in {x : MemD} {m : ImageD} (h : x.ok m = true) (a : Int) : 0 ≤ x.peek m a ∧ x.peek m a ≤ 255 := by
  obtain ⟨h1, h2, h3, h4, h5⟩ := MemD.ok_at h
  obtain ⟨g1, g2, g3⟩ := ImageD.ok_at h1
  unfold MemD.peek
  rcases reg_cases a with ⟨e, a0, a1⟩ | ⟨e, a0, a1⟩ | ⟨e, a0, a1⟩ | ⟨e, a0⟩ | ⟨e, a0, a1⟩ | ⟨e, a0, a1⟩ | ⟨e, a0⟩
  · rw [if_pos e]; exact byte_rd h3 (by omega)
  · simp [e]
  · simp [e]
  · simp [e]
  · rw [if_neg (by omega), if_pos e]
    obtain ⟨b1, b2⟩ := bank_at (banks_at g1 h5)
    exact byte_rd b2 (by omega)
  · rw [if_neg (by omega), if_neg (by omega), if_pos e]
    obtain ⟨b1, b2⟩ := bank_at (banks_at g1 (by omega : m.banks.length - 1 < m.banks.length))
    exact byte_rd b2 (by omega)
  · simp [e]
def MemD.peekO (x : MemD) (m : ImageD) (a : Int) : Int := if x.ok m = true then x.peek m a else 0
/-- Two bytes, as one number. -/
def joinB (lo hi : Int) : Int := lo % 256 + 256 * (hi % 256)
theorem joinB_in (lo hi : Int) : 0 ≤ joinB lo hi ∧ joinB lo hi ≤ 65535 := by unfold joinB; omega
/-- What is written to memory that is sound. -/
def MemD.poke (x : MemD) (m : ImageD) (a v : Int) : MemD :=
  if regR a = 1 then ⟨x.ram.set (regA a).toNat (v % 256), x.bank⟩ else if regR a = 5 ∨ regR a = 6 then ⟨x.ram, v % 256 % (m.banks.length : Int)⟩ else x
def CpuD.ok (c : CpuD) : Bool := inB c.a 0 255 && (inB c.x 0 255 && (inB c.s 0 255 && inB c.pc 0 65535))
theorem CpuD.ok_at {c : CpuD} (h : c.ok = true) : (0 ≤ c.a ∧ c.a ≤ 255) ∧ (0 ≤ c.x ∧ c.x ≤ 255) ∧ (0 ≤ c.s ∧ c.s ≤ 255) ∧ (0 ≤ c.pc ∧ c.pc ≤ 65535) := by
  unfold CpuD.ok at h
  rw [Bool.and_eq_true, Bool.and_eq_true, Bool.and_eq_true, inB_iff, inB_iff, inB_iff, inB_iff] at h
  exact h
/-! ## the machine in lock step -/
def LockD.ok (l : LockD) : Bool := l.mem.ok l.img && (padsB l.pads && (l.cpu.ok && (l.ppu.ok && (l.apu.ok && (inB l.pad.s 0 255 && ((l.apu.t == l.ppu.t) && (inB l.steps 0 l.ppu.t && (framesB l.obs.frames l.ppu.t && ((l.obs.samples.length : Int) == l.ppu.t / 16)))))))))
theorem LockD.ok_at {l : LockD} (h : l.ok = true) : l.mem.ok l.img = true ∧ padsB l.pads = true ∧ l.cpu.ok = true ∧ l.ppu.ok = true ∧ l.apu.ok = true ∧ (0 ≤ l.pad.s ∧ l.pad.s ≤ 255) ∧ l.apu.t = l.ppu.t ∧ (0 ≤ l.steps ∧ l.steps ≤ l.ppu.t) ∧ framesB l.obs.frames l.ppu.t = true ∧ (l.obs.samples.length : Int) = l.ppu.t / 16 := by
  unfold LockD.ok at h
  simp only [Bool.and_eq_true, inB_iff, beq_iff_eq] at h
  exact h
/-! ## the machine in parts -/
def RingD.upto (x : RingD) (t : Int) : Bool := decide (x.last ≤ t)
def SplitD.ok (s : SplitD) : Bool := s.mem.ok s.img && (padsB s.pads && (s.cpu.ok && (s.picture.ok && (s.sound.ok && (inB s.pad.s 0 255 && (inB s.ctrl 0 255 && (inB s.t 0 20000 && (inB s.knownAt 0 s.t && (inB s.steps 0 s.t && (decide (s.picture.ppu.t ≤ s.t) && (decide (s.sound.apu.t ≤ s.t) && (s.picture.ring.upto s.t && s.sound.ring.upto s.t))))))))))))
theorem SplitD.ok_at {s : SplitD} (h : s.ok = true) : s.mem.ok s.img = true ∧ padsB s.pads = true ∧ s.cpu.ok = true ∧ s.picture.ok = true ∧ s.sound.ok = true ∧ (0 ≤ s.pad.s ∧ s.pad.s ≤ 255) ∧ (0 ≤ s.ctrl ∧ s.ctrl ≤ 255) ∧ (0 ≤ s.t ∧ s.t ≤ 20000) ∧ (0 ≤ s.knownAt ∧ s.knownAt ≤ s.t) ∧ (0 ≤ s.steps ∧ s.steps ≤ s.t) ∧ s.picture.ppu.t ≤ s.t ∧ s.sound.apu.t ≤ s.t ∧ s.picture.ring.upto s.t = true ∧ s.sound.ring.upto s.t = true := by
  unfold SplitD.ok at h
  simp only [Bool.and_eq_true, inB_iff, decide_eq_true_eq] at h
  exact h
end Go.Proofs.YtjgggmcnbdjdjaaGreat.C
