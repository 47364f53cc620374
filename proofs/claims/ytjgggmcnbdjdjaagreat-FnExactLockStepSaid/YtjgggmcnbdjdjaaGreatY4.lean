/- The picture unit, as data: what is done to one that is right leaves it right. -/
import Derived.Test.YtjgggmcnbdjdjaaGreatV
namespace Go.Proofs.YtjgggmcnbdjdjaaGreat.C
open Go.RowKit Go.Proofs.YtjgggmcnbdjdjaaGreat.K Go.Proofs.YtjgggmcnbdjdjaaGreat.B
set_option maxRecDepth 20000
set_option linter.unusedVariables false
set_option linter.unusedSimpArgs false
theorem xor63 (a b : Int) (h1 : 0 ≤ a) (h2 : a ≤ 63) (h3 : 0 ≤ b) (h4 : b ≤ 63) : 0 ≤ bits .xor .i64 a b ∧ bits .xor .i64 a b ≤ 63 := by
  have key : ∀ x y : Fin 64, 0 ≤ bits .xor .i64 (x.val : Int) (y.val : Int) ∧ bits .xor .i64 (x.val : Int) (y.val : Int) ≤ 63 := by decide +kernel
  have h := key ⟨a.toNat, by omega⟩ ⟨b.toNat, by omega⟩
  simp only [Int.toNat_of_nonneg h1, Int.toNat_of_nonneg h3] at h
  exact h
theorem PpuD.ok_mk {x : PpuD} (h1 : 0 ≤ x.t ∧ x.t ≤ 20000) (h2 : 0 ≤ x.ctrl ∧ x.ctrl ≤ 255) (h3 : 0 ≤ x.scroll ∧ x.scroll ≤ 255) (h4 : 0 ≤ x.addr ∧ x.addr ≤ 15) (h5 : 0 ≤ x.pal ∧ x.pal ≤ 63) (h6 : x.table.length = 16) (h7 : allB 0 63 x.table = true) (h8 : (x.dots.length : Int) = dotsN x.t) (h9 : allB 0 63 x.dots = true) : x.ok = true := by
  unfold PpuD.ok
  simp only [Bool.and_eq_true, inB_iff, beq_iff_eq]
  exact ⟨h1, h2, h3, h4, h5, by omega, h7, h8, h9⟩
theorem allB_set {lo hi : Int} {xs : List Int} (h : allB lo hi xs = true) (k : Nat) {v : Int} (h1 : lo ≤ v) (h2 : v ≤ hi) : allB lo hi (xs.set k v) = true := by
  unfold allB at *
  rw [List.all_eq_true] at *
  intro z hz
  rcases List.mem_or_eq_of_mem_set hz with hz | rfl
  · exact h z hz
  · exact inB_iff.2 ⟨h1, h2⟩
theorem allB_snoc {lo hi : Int} {xs : List Int} (h : allB lo hi xs = true) {v : Int} (h1 : lo ≤ v) (h2 : v ≤ hi) : allB lo hi (xs ++ [v]) = true := by
  unfold allB at *
  rw [List.all_eq_true] at *
  intro z hz
  rcases List.mem_append.1 hz with hz | hz
  · exact h z hz
  · rw [List.mem_singleton.1 hz]; exact inB_iff.2 ⟨h1, h2⟩
theorem PpuD.wr_t (x : PpuD) (r v : Int) : (x.wr r v).t = x.t := by unfold PpuD.wr PpuD.poke; (repeat' split) <;> rfl
theorem PpuD.wr_ok {x : PpuD} (h : x.ok = true) (r v : Int) : (x.wr r v).ok = true := by
  obtain ⟨h1, h2, h3, h4, h5, h6, h7, h8, h9⟩ := PpuD.ok_at h
  unfold PpuD.wr PpuD.poke
  (repeat' split)
  · exact PpuD.ok_mk h1 (by constructor <;> (simp only; omega)) h3 h4 h5 h6 h7 h8 h9
  · exact PpuD.ok_mk h1 h2 (by constructor <;> (simp only; omega)) h4 h5 h6 h7 h8 h9
  · exact PpuD.ok_mk h1 h2 h3 (by constructor <;> (simp only; omega)) h5 h6 h7 h8 h9
  · exact PpuD.ok_mk h1 h2 h3 (by constructor <;> (simp only; omega)) h5 (by simpa using h6) (allB_set h7 _ (by omega) (by omega)) h8 h9
  · exact PpuD.ok_mk h1 h2 h3 h4 (by constructor <;> (simp only; omega)) h6 h7 h8 h9
  · exact h
theorem PpuD.place_lt {x : PpuD} (at_ : Int) : x.place at_ < 16 := by unfold PpuD.place; omega
theorem PpuD.dot_in {x : PpuD} (h : x.ok = true) (at_ : Int) : 0 ≤ x.dot at_ ∧ x.dot at_ ≤ 63 := by
  obtain ⟨h1, h2, h3, h4, h5, h6, h7, h8, h9⟩ := PpuD.ok_at h
  have hp : x.place at_ < x.table.length := by rw [h6]; exact PpuD.place_lt at_
  have := inB_iff.1 (allB_at h7 hp)
  exact xor63 _ _ this.1 this.2 h5.1 h5.2
theorem PpuD.tk_t (x : PpuD) : x.tk.t = x.t + 1 := by unfold PpuD.tk; (repeat' split) <;> rfl
theorem PpuD.tk_ok {x : PpuD} (h : x.ok = true) (ht : x.t < 20000) : x.tk.ok = true := by
  have hd := PpuD.dot_in h (x.t % 64)
  obtain ⟨h1, h2, h3, h4, h5, h6, h7, h8, h9⟩ := PpuD.ok_at h
  unfold dotsN at h8
  unfold PpuD.tk
  (repeat' split)
  · refine PpuD.ok_mk (by constructor <;> (simp only; omega)) h2 h3 h4 h5 h6 h7 ?_ (allB_snoc h9 hd.1 hd.2)
    simp only [List.length_append, List.length_cons, List.length_nil]
    unfold dotsN
    split at h8 <;> split <;> omega
  · refine PpuD.ok_mk (by constructor <;> (simp only; omega)) h2 h3 h4 h5 h6 h7 ?_ rfl
    simp only [List.length_nil]
    unfold dotsN
    split <;> omega
  · refine PpuD.ok_mk (by constructor <;> (simp only; omega)) h2 h3 h4 h5 h6 h7 ?_ h9
    simp only
    unfold dotsN
    split at h8 <;> split <;> omega
  · refine PpuD.ok_mk (by constructor <;> (simp only; omega)) h2 h3 h4 h5 h6 h7 ?_ h9
    simp only
    unfold dotsN
    split at h8 <;> split <;> omega
theorem PpuSmall.ofOk {x : PpuD} (h : x.ok = true) : PpuSmall x := by
  obtain ⟨p1, p2, p3, p4, p5, p6, p7, p8, p9⟩ := PpuD.ok_at h
  refine ⟨by omega, ?_⟩
  unfold dotsN at p8
  split at p8 <;> omega
end Go.Proofs.YtjgggmcnbdjdjaaGreat.C

/- What a step of the picture unit that comes after does, as data. -/
namespace Go.Proofs.YtjgggmcnbdjdjaaGreat.C
open Go.RowKit Go.Proofs.YtjgggmcnbdjdjaaGreat.K Go.Proofs.YtjgggmcnbdjdjaaGreat.B
set_option maxRecDepth 20000
set_option linter.unusedVariables false
set_option linter.unusedSimpArgs false
def PictureD.is (x : PictureD) : Bool := x.ring.is x.ppu.t
def PictureD.can (x : PictureD) (m : Int) : Bool := decide (x.ppu.t < m ∧ x.ppu.t < 20000)
def PictureD.more (x : PictureD) (m : Int) : Bool := x.is || x.can m
theorem PictureD.ok_at {x : PictureD} (h : x.ok = true) : x.ppu.ok = true ∧ x.ring.from_ x.ppu.t = true ∧ full x.frames = true ∧ (x.frames.length : Int) = (x.ppu.t + 15) / 64 := by
  unfold PictureD.ok framesB at h
  rw [Bool.and_eq_true, Bool.and_eq_true, Bool.and_eq_true, beq_iff_eq] at h
  exact h
theorem PictureD.ok_mk {x : PictureD} (h1 : x.ppu.ok = true) (h2 : x.ring.from_ x.ppu.t = true) (h3 : full x.frames = true) (h4 : (x.frames.length : Int) = (x.ppu.t + 15) / 64) : x.ok = true := by
  unfold PictureD.ok framesB
  rw [Bool.and_eq_true, Bool.and_eq_true, Bool.and_eq_true, beq_iff_eq]
  exact ⟨h1, h2, h3, h4⟩
def PpuD.zero_ : PpuD := ⟨0, 0, 0, 0, 0, false, [], []⟩
def PictureD.zero : PictureD := ⟨PpuD.zero_, RingD.zero, []⟩
def PictureD.stepB (x : PictureD) (m : Int) : Bool := if x.ok = true then x.more m else false
end Go.Proofs.YtjgggmcnbdjdjaaGreat.C

/- Memory, the processor and the two machines, as data: when they are sound; what lies at an address. -/
namespace Go.Proofs.YtjgggmcnbdjdjaaGreat.C
open Go.RowKit Go.Proofs.YtjgggmcnbdjdjaaGreat.K Go.Proofs.YtjgggmcnbdjdjaaGreat.B
set_option maxRecDepth 20000
set_option linter.unusedVariables false
set_option linter.unusedSimpArgs false
/-! ## images -/
def bankB (r : List Int) : Bool := ((r.length : Int) == 256) && allB 0 255 r
def banksB (rs : List (List Int)) : Bool := rs.all bankB
theorem banks_at {rs : List (List Int)} (h : banksB rs = true) {k : Nat} (hk : k < rs.length) : bankB (rwAt rs k) = true := by
  have := List.all_eq_true.1 h rs[k] (List.getElem_mem hk)
  rwa [rwAt_at hk]
theorem banks_no {rs : List (List Int)} {k : Nat} (hk : k < rs.length) (h : bankB (rwAt rs k) = false) : banksB rs = false := by
  cases e : banksB rs with
  | false => rfl
  | true => rw [banks_at e hk] at h; cases h
theorem banks_yes {rs : List (List Int)} (h : ∀ k, k < rs.length → bankB (rwAt rs k) = true) : banksB rs = true := by
  refine List.all_eq_true.2 fun x hx => ?_
  obtain ⟨k, hk, rfl⟩ := List.getElem_of_mem hx
  have := h k hk
  rwa [rwAt_at hk] at this
theorem bank_at {r : List Int} (h : bankB r = true) : r.length = 256 ∧ allB 0 255 r = true := by
  unfold bankB at h
  rw [Bool.and_eq_true, beq_iff_eq] at h
  exact ⟨by omega, h.2⟩
def ImageD.ok (m : ImageD) : Bool := banksB m.banks && inB (m.banks.length : Int) 1 8
theorem ImageD.ok_at {m : ImageD} (h : m.ok = true) : banksB m.banks = true ∧ 1 ≤ m.banks.length ∧ m.banks.length ≤ 8 := by
  unfold ImageD.ok at h
  rw [Bool.and_eq_true, inB_iff] at h
  exact ⟨h.1, by omega, by omega⟩
/-! ## memory -/
def MemD.ok (x : MemD) (m : ImageD) : Bool := m.ok && (((x.ram.length : Int) == 512) && (allB 0 255 x.ram && inB x.bank 0 ((m.banks.length : Int) - 1)))
theorem MemD.ok_at {x : MemD} {m : ImageD} (h : x.ok m = true) : m.ok = true ∧ x.ram.length = 512 ∧ allB 0 255 x.ram = true ∧ 0 ≤ x.bank ∧ x.bank.toNat < m.banks.length := by
  unfold MemD.ok at h
  rw [Bool.and_eq_true, Bool.and_eq_true, Bool.and_eq_true, inB_iff, beq_iff_eq] at h
  exact ⟨h.1, by omega, h.2.2.1, by omega, by omega⟩
/-- The region of an address, and the place in it. -/
def regR (a : Int) : Int := if a % 65536 < 8192 then 1 else if a % 65536 < 16384 then 2 else if a % 65536 < 16388 then 3 else if a % 65536 = 16406 then 4 else if a % 65536 < 32768 then 7 else if a % 65536 < 49152 then 5 else 6
def regA (a : Int) : Int := if a % 65536 < 8192 then a % 65536 % 512 else if a % 65536 < 16384 then a % 65536 % 8 else if a % 65536 < 16388 then a % 65536 % 4 else if a % 65536 = 16406 then 0 else if a % 65536 < 32768 then 0 else a % 65536 % 256
theorem reg_cases (a : Int) : (regR a = 1 ∧ 0 ≤ regA a ∧ regA a < 512) ∨ (regR a = 2 ∧ 0 ≤ regA a ∧ regA a < 8) ∨ (regR a = 3 ∧ 0 ≤ regA a ∧ regA a < 4) ∨ (regR a = 4 ∧ regA a = 0) ∨ (regR a = 5 ∧ 0 ≤ regA a ∧ regA a < 256) ∨ (regR a = 6 ∧ 0 ≤ regA a ∧ regA a < 256) ∨ (regR a = 7 ∧ regA a = 0) := by
  unfold regR regA
  (repeat' split) <;> simp <;> omega
/-- What is read of memory that is sound. -/
def MemD.peek (x : MemD) (m : ImageD) (a : Int) : Int :=
  if regR a = 1 then rd x.ram (regA a).toNat else if regR a = 5 then rd (rwAt m.banks x.bank.toNat) (regA a).toNat else if regR a = 6 then rd (rwAt m.banks (m.banks.length - 1)) (regA a).toNat else 0
theorem byte_rd {r : List Int} (h : allB 0 255 r = true) {k : Nat} (hk : k < r.length) : 0 ≤ rd r k ∧ rd r k ≤ 255 := inB_iff.1 (allB_at h hk)
theorem MemD.peek_in {x : MemD} {m : ImageD} (h : x.ok m = true) (a : Int) : 0 ≤ x.peek m a ∧ x.peek m a ≤ 255 := by
  obtain ⟨h1, h2, h3, h4, h5⟩ := MemD.ok_at h
  obtain ⟨g1, g2, g3⟩ := ImageD.ok_at h1
  unfold MemD.peek
  rcases reg_cases a with ⟨e, a0, a1⟩ | ⟨e, a0, a1⟩ | ⟨e, a0, a1⟩ | ⟨e, a0⟩ | ⟨e, a0, a1⟩ | ⟨e, a0, a1⟩ | ⟨e, a0⟩
  · rw [if_pos e]; exact byte_rd h3 (by omega)
  · simp [e]
  · simp [e]
  · simp [e]
  · rw [if_neg (by omega), if_pos e]
    obtain ⟨b1, b2⟩ := bank_at (banks_at g1 h5)
    exact byte_rd b2 (by omega)
  · rw [if_neg (by omega), if_neg (by omega), if_pos e]
    obtain ⟨b1, b2⟩ := bank_at (banks_at g1 (by omega : m.banks.length - 1 < m.banks.length))
    exact byte_rd b2 (by omega)
  · simp [e]
def MemD.peekO (x : MemD) (m : ImageD) (a : Int) : Int := if x.ok m = true then x.peek m a else 0
/-- Two bytes, as one number. -/
def joinB (lo hi : Int) : Int := lo % 256 + 256 * (hi % 256)
theorem joinB_in (lo hi : Int) : 0 ≤ joinB lo hi ∧ joinB lo hi ≤ 65535 := by unfold joinB; omega
/-- What is written to memory that is sound. -/
def MemD.poke (x : MemD) (m : ImageD) (a v : Int) : MemD :=
  if regR a = 1 then ⟨x.ram.set (regA a).toNat (v % 256), x.bank⟩ else if regR a = 5 ∨ regR a = 6 then ⟨x.ram, v % 256 % (m.banks.length : Int)⟩ else x
def CpuD.ok (c : CpuD) : Bool := inB c.a 0 255 && (inB c.x 0 255 && (inB c.s 0 255 && inB c.pc 0 65535))
theorem CpuD.ok_at {c : CpuD} (h : c.ok = true) : (0 ≤ c.a ∧ c.a ≤ 255) ∧ (0 ≤ c.x ∧ c.x ≤ 255) ∧ (0 ≤ c.s ∧ c.s ≤ 255) ∧ (0 ≤ c.pc ∧ c.pc ≤ 65535) := by
  unfold CpuD.ok at h
  rw [Bool.and_eq_true, Bool.and_eq_true, Bool.and_eq_true, inB_iff, inB_iff, inB_iff, inB_iff] at h
  exact h
/-! ## the machine in lock step -/
def LockD.ok (l : LockD) : Bool := l.mem.ok l.img && (padsB l.pads && (l.cpu.ok && (l.ppu.ok && (l.apu.ok && (inB l.pad.s 0 255 && ((l.apu.t == l.ppu.t) && (inB l.steps 0 l.ppu.t && (framesB l.obs.frames l.ppu.t && ((l.obs.samples.length : Int) == l.ppu.t / 16)))))))))
theorem LockD.ok_at {l : LockD} (h : l.ok = true) : l.mem.ok l.img = true ∧ padsB l.pads = true ∧ l.cpu.ok = true ∧ l.ppu.ok = true ∧ l.apu.ok = true ∧ (0 ≤ l.pad.s ∧ l.pad.s ≤ 255) ∧ l.apu.t = l.ppu.t ∧ (0 ≤ l.steps ∧ l.steps ≤ l.ppu.t) ∧ framesB l.obs.frames l.ppu.t = true ∧ (l.obs.samples.length : Int) = l.ppu.t / 16 := by
  unfold LockD.ok at h
  simp only [Bool.and_eq_true, inB_iff, beq_iff_eq] at h
  exact h
/-! ## the machine in parts -/
def RingD.upto (x : RingD) (t : Int) : Bool := decide (x.last ≤ t)
def SplitD.ok (s : SplitD) : Bool := s.mem.ok s.img && (padsB s.pads && (s.cpu.ok && (s.picture.ok && (s.sound.ok && (inB s.pad.s 0 255 && (inB s.ctrl 0 255 && (inB s.t 0 20000 && (inB s.knownAt 0 s.t && (inB s.steps 0 s.t && (decide (s.picture.ppu.t ≤ s.t) && (decide (s.sound.apu.t ≤ s.t) && (s.picture.ring.upto s.t && s.sound.ring.upto s.t))))))))))))
theorem SplitD.ok_at {s : SplitD} (h : s.ok = true) : s.mem.ok s.img = true ∧ padsB s.pads = true ∧ s.cpu.ok = true ∧ s.picture.ok = true ∧ s.sound.ok = true ∧ (0 ≤ s.pad.s ∧ s.pad.s ≤ 255) ∧ (0 ≤ s.ctrl ∧ s.ctrl ≤ 255) ∧ (0 ≤ s.t ∧ s.t ≤ 20000) ∧ (0 ≤ s.knownAt ∧ s.knownAt ≤ s.t) ∧ (0 ≤ s.steps ∧ s.steps ≤ s.t) ∧ s.picture.ppu.t ≤ s.t ∧ s.sound.apu.t ≤ s.t ∧ s.picture.ring.upto s.t = true ∧ s.sound.ring.upto s.t = true := by
  unfold SplitD.ok at h
  simp only [Bool.and_eq_true, inB_iff, decide_eq_true_eq] at h
  exact h
end Go.Proofs.YtjgggmcnbdjdjaaGreat.C

/- What the tests of memory and of the processor tell. -/
namespace Go.Proofs.YtjgggmcnbdjdjaaGreat.C
open Go.RowKit Go.Proofs.YtjgggmcnbdjdjaaGreat.K Go.Proofs.YtjgggmcnbdjdjaaGreat.B
attribute [local go_sem] max2_int min2_int max_two min_two i64_and255 i64_and65535 i64_and1
set_option maxRecDepth 20000
set_option linter.unusedVariables false
set_option linter.unusedSimpArgs false
theorem rows_at_ {w0 W : World} {ad : Addr} {c : Nat} {r : List Sl} {rs : List (List Int)} (h : InRR w0 ⟨⟨some ad, c⟩, r⟩ rs) {l : List Ast} (H : St w0 [] W l) {k : Nat} (hk : k < rs.length) : W.cell? (ad.add k) = some (.slice (slAt r k).A (rwAt rs k).length (slAt r k).c) := by
  obtain ⟨ad', h1, h2⟩ := h.cell H hk
  injection h1 with h1; subst h1; exact h2
theorem int_at_ {w0 W : World} {ad : Addr} {c : Nat} {xs : List Int} (h : InI w0 (some ad) c xs) {l : List Ast} (H : St w0 [] W l) {k : Nat} (hk : k < xs.length) : W.cell? (ad.add k) = some (.int .i64 (rd xs k)) := by
  obtain ⟨ad', h1, h2⟩ := h.cell H hk
  injection h1 with h1; subst h1; exact h2
set_option maxHeartbeats 4000000 in
theorem impl_ImageOk (m : ImageD) (q : ImageP) (w : World) (hx : ImageIn w m q) : Calls Tryz.prog 183 #[.agg #[.slice q.banks.s.A m.banks.length q.banks.s.c]] w fun e w' => e = .returned (.bool m.ok) ∧ Below w.heap.size w w' := by
  have H := St.nil w []
  have hb := hx.banks
  have hm := hb.mx
  obtain ⟨⟨⟨A, c⟩, r⟩⟩ := q
  simp only at hb
  clear hx
  go_enter Tryz.func183, Tryz.ntmps183
  go_wp2_with (first | ((with_reducible refine g_box rfl ?_); refine eBa H ?_; clear H; intro g_ W_ H) | ((with_reducible refine g_load rfl ?_); refine eL1 H ?_))
  go_loopw [8] (fun i wr => ∃ k : Nat, k ≤ m.banks.length ∧ i = .int .i64 k ∧ Hid (∀ j, j < k → bankB (rwAt m.banks j) = true) ∧ St w [] wr [Ast.blk g_ [.slice A m.banks.length c] 41]) (fun i _ => m.banks.length - (intOf i).toNat)
  case atStart => exact ⟨0, Nat.zero_le _, rfl, Lib.hid fun j hj => absurd hj (Nat.not_lt_zero _), H⟩
  case round =>
    clear H
    obtain ⟨k, hk, rfl, HA, H⟩ := hrel
    by_cases hlt : k < m.banks.length
    · obtain ⟨ad, hA, _⟩ := hb.cell H hlt
      simp only at hA
      subst hA
      have hr := hb.row k hlt
      simp only at hr
      by_cases hl : (rwAt m.banks k).length = 256
      · have hl1 : (((rwAt m.banks k).length : Int) != 256) = false := by rw [hl]; rfl
        have HL := Lib.hid hl
        clear hl
        cases hbt : allB 0 255 (rwAt m.banks k)
        · have HZ : Hid (m.ok = false) := Lib.hid (by simp [ImageD.ok, banks_no hlt (show bankB (rwAt m.banks k) = false by simp [bankB, hbt])])
          go_wp2_with (first | ((with_reducible refine g_load rfl ?_); refine ev_load_in_one rfl rfl rfl (oneT rfl) (rows_at_ hb H hlt) ?_) | (go_at_call 184; (with_reducible refine (impl_bytesOk _ _ (rwAt m.banks k) _ (hr.on H)).mono ?_); rintro e w1 ⟨rfl, rfl⟩; rw [hbt]))
          go_ret
          exact ⟨ret_b HZ.out.symm, H.below⟩
        · have HB : Hid (bankB (rwAt m.banks k) = true) := Lib.hid (by simp [bankB, hbt, HL.out])
          go_wp2_with (first | ((with_reducible refine g_load rfl ?_); refine ev_load_in_one rfl rfl rfl (oneT rfl) (rows_at_ hb H hlt) ?_) | (go_at_call 184; (with_reducible refine (impl_bytesOk _ _ (rwAt m.banks k) _ (hr.on H)).mono ?_); rintro e w1 ⟨rfl, rfl⟩; rw [hbt]))
          go_roundw
          case rel => exact ⟨k + 1, by omega, by go_num, Lib.hid fun j hj => if e : j = k then by rw [e]; exact HB.out else HA.out j (by omega), H⟩
          case measure => simp [intOf]; omega
      · have hl1 : (((rwAt m.banks k).length : Int) != 256) = true := by rw [bne_iff_ne]; omega
        have HZ : Hid (m.ok = false) := Lib.hid (by simp [ImageD.ok, banks_no hlt (show bankB (rwAt m.banks k) = false by simp [bankB]; omega)])
        clear hl
        go_wp2_with (first | ((with_reducible refine g_load rfl ?_); refine ev_load_in_one rfl rfl rfl (oneT rfl) (rows_at_ hb H hlt) ?_) | (go_at_call 184; (with_reducible refine (impl_bytesOk _ _ (rwAt m.banks k) _ (hr.on H)).mono ?_); rintro e w1 ⟨rfl, rfl⟩))
        go_ret
        exact ⟨ret_b HZ.out.symm, H.below⟩
    · have HZ : Hid (m.ok = inB (m.banks.length : Int) 1 8) := Lib.hid (by simp [ImageD.ok, banks_yes fun j hj => HA.out j (by omega)])
      go_wp2_with (first | ((with_reducible refine g_box rfl ?_); refine eBa H ?_; clear H; intro g_ W_ H) | ((with_reducible refine g_load rfl ?_); refine eL1 H ?_) | (go_at_call 123; (with_reducible refine (impl_within _ _ _ _).mono ?_); rintro e w1 ⟨rfl, rfl⟩))
      go_ret
      exact ⟨ret_b HZ.out.symm, H.below⟩
set_option maxHeartbeats 4000000 in
theorem spec_ImageOk (m : ImageD) (q : ImageP) (w : World) (hx : ImageIn w m q) : Calls Tryz.prog 177 #[.agg #[.slice q.banks.s.A m.banks.length q.banks.s.c]] w fun e w' => e = .returned (.bool m.ok) ∧ Below w.heap.size w w' := by
  have H := St.nil w []
  have hb := hx.banks
  have hm := hb.mx
  obtain ⟨⟨⟨A, c⟩, r⟩⟩ := q
  simp only at hb
  clear hx
  go_enter Tryz.func177, Tryz.ntmps177
  go_wp2_with (first | ((with_reducible refine g_box rfl ?_); refine eBa H ?_; clear H; intro g_ W_ H) | ((with_reducible refine g_load rfl ?_); refine eL1 H ?_))
  go_loopw [3] (fun i wr => ∃ k : Nat, k ≤ m.banks.length ∧ i = .int .i64 k ∧ Hid (∀ j, j < k → bankB (rwAt m.banks j) = true) ∧ St w [] wr [Ast.blk g_ [.slice A m.banks.length c] 41]) (fun i _ => m.banks.length - (intOf i).toNat)
  case atStart => exact ⟨0, Nat.zero_le _, rfl, Lib.hid fun j hj => absurd hj (Nat.not_lt_zero _), H⟩
  case round =>
    clear H
    obtain ⟨k, hk, rfl, HA, H⟩ := hrel
    by_cases hlt : k < m.banks.length
    · obtain ⟨ad, hA, _⟩ := hb.cell H hlt
      simp only at hA
      subst hA
      have hr := hb.row k hlt
      simp only at hr
      have hcell : ∀ {W : World} {l : List Ast}, St w [] W l → W.cell? (ad.add k) = some (.slice (slAt r k).A (rwAt m.banks k).length (slAt r k).c) := fun H' => rows_at_ hb H' hlt
      generalize slAt r k = qk at hr hcell
      obtain ⟨Ak, ck⟩ := qk
      simp only at hr hcell
      by_cases hl : (rwAt m.banks k).length = 256
      · have hl1 : (((rwAt m.banks k).length : Int) != 256) = false := by rw [hl]; rfl
        obtain ⟨ad2, hA2, _⟩ := hr.cell (St.nil w []) (show 0 < (rwAt m.banks k).length by omega)
        subst hA2
        have HL := Lib.hid hl
        clear hl
        go_wp2_with (first | ((with_reducible refine g_load rfl ?_); refine ev_load_in_one rfl rfl rfl (oneT rfl) (hcell H) ?_) | ((with_reducible refine g_box rfl ?_); refine eBa H ?_; clear H; intro g_ W_ H) | ((with_reducible refine g_load rfl ?_); refine eL1 H ?_))
        go_loopw [4] (fun i wr => ∃ j : Nat, j ≤ 256 ∧ i = .int .i64 j ∧ Hid (∀ p, p < j → inB (rd (rwAt m.banks k) p) 0 255 = true) ∧ St w [] wr [Ast.blk g_ [.slice (some ad) m.banks.length c] 41]) (fun i _ => 256 - (intOf i).toNat)
        case atStart => exact ⟨0, Nat.zero_le _, rfl, Lib.hid fun j hj => absurd hj (Nat.not_lt_zero _), H⟩
        case round =>
          clear H
          obtain ⟨j, hj, rfl, HB, H⟩ := hrel
          by_cases hjl : j < 256
          · have hj2 : j < (rwAt m.banks k).length := by have := HL.out; omega
            cases hbt : inB (rd (rwAt m.banks k) j) 0 255
            · have HZ : Hid (m.ok = false) := Lib.hid (by simp [ImageD.ok, banks_no hlt (show bankB (rwAt m.banks k) = false by simp [bankB, allB_no hj2 (show ¬ inB (rd (rwAt m.banks k) j) 0 255 = true by simp [hbt])])])
              go_wp2_with (first | ((with_reducible refine g_load rfl ?_); refine ev_load_in_one rfl rfl rfl (oneT rfl) (hcell H) ?_) | ((with_reducible refine g_load rfl ?_); refine ev_load_in_one rfl rfl rfl (oneT rfl) (int_at_ hr H hj2) ?_) | ((with_reducible refine g_box rfl ?_); refine eBa H ?_; clear H; intro g_ W_ H) | ((with_reducible refine g_load rfl ?_); refine eL1 H ?_) | (go_at_call 107; (with_reducible refine (spec_l1In _ _ _ _).mono ?_); rintro e w1 ⟨rfl, rfl⟩; rw [hbt]))
              go_ret
              exact ⟨ret_b HZ.out.symm, H.below⟩
            · go_wp2_with (first | ((with_reducible refine g_load rfl ?_); refine ev_load_in_one rfl rfl rfl (oneT rfl) (hcell H) ?_) | ((with_reducible refine g_load rfl ?_); refine ev_load_in_one rfl rfl rfl (oneT rfl) (int_at_ hr H hj2) ?_) | ((with_reducible refine g_box rfl ?_); refine eBa H ?_; clear H; intro g_ W_ H) | ((with_reducible refine g_load rfl ?_); refine eL1 H ?_) | (go_at_call 107; (with_reducible refine (spec_l1In _ _ _ _).mono ?_); rintro e w1 ⟨rfl, rfl⟩; rw [hbt]))
              go_roundw
              case rel => exact ⟨j + 1, by omega, by go_num, Lib.hid fun p hp => if e : p = j then by rw [e]; exact hbt else HB.out p (by omega), H⟩
              case measure => simp [intOf]; omega
          · have HC : Hid (bankB (rwAt m.banks k) = true) := Lib.hid (by simp [bankB, HL.out, allB_yes (lo := 0) (hi := 255) (xs := rwAt m.banks k) fun p hp => HB.out p (by have := HL.out; omega)])
            go_wp2_with (first | ((with_reducible refine g_box rfl ?_); refine eBa H ?_; clear H; intro g_ W_ H) | ((with_reducible refine g_load rfl ?_); refine eL1 H ?_))
            go_roundw
            case rel => exact ⟨k + 1, by omega, by go_num, Lib.hid fun j hj => if e : j = k then by rw [e]; exact HC.out else HA.out j (by omega), H⟩
            case measure => simp [intOf]; omega
      · have hl1 : (((rwAt m.banks k).length : Int) != 256) = true := by rw [bne_iff_ne]; omega
        have HZ : Hid (m.ok = false) := Lib.hid (by simp [ImageD.ok, banks_no hlt (show bankB (rwAt m.banks k) = false by simp [bankB]; omega)])
        clear hl
        go_wp2_with (first | ((with_reducible refine g_load rfl ?_); refine ev_load_in_one rfl rfl rfl (oneT rfl) (hcell H) ?_) | ((with_reducible refine g_box rfl ?_); refine eBa H ?_; clear H; intro g_ W_ H) | ((with_reducible refine g_load rfl ?_); refine eL1 H ?_))
        go_ret
        exact ⟨ret_b HZ.out.symm, H.below⟩
    · have HZ : Hid (m.ok = inB (m.banks.length : Int) 1 8) := Lib.hid (by simp [ImageD.ok, banks_yes fun j hj => HA.out j (by omega)])
      go_wp2_with (first | ((with_reducible refine g_box rfl ?_); refine eBa H ?_; clear H; intro g_ W_ H) | ((with_reducible refine g_load rfl ?_); refine eL1 H ?_) | (go_at_call 107; (with_reducible refine (spec_l1In _ _ _ _).mono ?_); rintro e w1 ⟨rfl, rfl⟩))
      go_ret
      exact ⟨ret_b HZ.out.symm, H.below⟩
set_option maxHeartbeats 4000000 in
theorem impl_MemOk (m : ImageD) (qm : ImageP) (x : MemD) (q : MemP) (w : World) (hm : ImageIn w m qm) (hx : MemIn w x q) : Calls Tryz.prog 117 #[.agg #[.slice qm.banks.s.A m.banks.length qm.banks.s.c], .agg #[.slice q.ram.A x.ram.length q.ram.c, .int .i64 x.bank]] w fun e w' => e = .returned (.bool (x.ok m)) ∧ Below w.heap.size w w' := by
  have H := St.nil w []
  have hm1 := hm.banks.mx
  have hm2 := hx.ram.2.1
  go_enter Tryz.func117, Tryz.ntmps117
  go_wp2_with (first | ((with_reducible refine g_box rfl ?_); refine eBa H ?_; clear H; intro g_ W_ H) | ((with_reducible refine g_load rfl ?_); first | refine eL1 H ?_ | refine eLa H ?_) | (go_at_call 183; (with_reducible refine (impl_ImageOk m qm _ (hm.on H)).mono ?_); rintro e w1 ⟨rfl, hb⟩; (replace H := H.callB hb; clear hb)) | (go_at_call 184; (with_reducible refine (impl_bytesOk _ _ x.ram _ (hx.ram.on H)).mono ?_); rintro e w1 ⟨rfl, rfl⟩) | (go_at_call 123; (with_reducible refine (impl_within _ _ _ _).mono ?_); rintro e w1 ⟨rfl, rfl⟩))
  all_goals (go_ret; exact ⟨ret_b (by simp [MemD.ok, *]), H.below⟩)
set_option maxHeartbeats 4000000 in
theorem spec_MemOk (m : ImageD) (qm : ImageP) (x : MemD) (q : MemP) (w : World) (hm : ImageIn w m qm) (hx : MemIn w x q) : Calls Tryz.prog 102 #[.agg #[.slice qm.banks.s.A m.banks.length qm.banks.s.c], .agg #[.slice q.ram.A x.ram.length q.ram.c, .int .i64 x.bank]] w fun e w' => e = .returned (.bool (x.ok m)) ∧ Below w.heap.size w w' := by
  have H := St.nil w []
  have hm1 := hm.banks.mx
  have hm2 := hx.ram.2.1
  have hr := hx.ram
  obtain ⟨⟨Ak, ck⟩⟩ := q
  simp only at hr
  cases h1 : m.ok
  · go_enter Tryz.func102, Tryz.ntmps102
    go_wp2_with (first | ((with_reducible refine g_box rfl ?_); refine eBa H ?_; clear H; intro g_ W_ H) | ((with_reducible refine g_load rfl ?_); first | refine eL1 H ?_ | refine eLa H ?_) | (go_at_call 177; (with_reducible refine (spec_ImageOk m qm _ (hm.on H)).mono ?_); rintro e w1 ⟨rfl, hb⟩; rw [h1]; (replace H := H.callB hb; clear hb)))
    all_goals (go_ret; exact ⟨ret_b (by simp [MemD.ok, *]), H.below⟩)
  · by_cases hl : x.ram.length = 512
    · have hl1 : ((x.ram.length : Int) != 512) = false := by rw [hl]; rfl
      obtain ⟨ad2, hA2, _⟩ := hr.cell (St.nil w []) (show 0 < x.ram.length by omega)
      subst hA2
      have HL := Lib.hid hl
      clear hl
      cases h2 : inB x.bank 0 ((m.banks.length : Int) - 1)
      · go_enter Tryz.func102, Tryz.ntmps102
        go_wp2_with (first | ((with_reducible refine g_box rfl ?_); refine eBa H ?_; clear H; intro g_ W_ H) | ((with_reducible refine g_load rfl ?_); first | refine eL1 H ?_ | refine eLa H ?_) | (go_at_call 177; (with_reducible refine (spec_ImageOk m qm _ (hm.on H)).mono ?_); rintro e w1 ⟨rfl, hb⟩; rw [h1]; (replace H := H.callB hb; clear hb)) | (go_at_call 107; (with_reducible refine (spec_l1In _ _ _ _).mono ?_); rintro e w1 ⟨rfl, rfl⟩; rw [h2]))
        all_goals (go_ret; exact ⟨ret_b (by simp [MemD.ok, h1, h2]), H.below⟩)
      · go_enter Tryz.func102, Tryz.ntmps102
        go_wp2_with (first | ((with_reducible refine g_box rfl ?_); refine eBa H ?_; clear H; intro g_ W_ H) | ((with_reducible refine g_load rfl ?_); first | refine eL1 H ?_ | refine eLa H ?_) | (go_at_call 177; (with_reducible refine (spec_ImageOk m qm _ (hm.on H)).mono ?_); rintro e w1 ⟨rfl, hb⟩; rw [h1]; (replace H := H.callB hb; clear hb)) | (go_at_call 107; (with_reducible refine (spec_l1In _ _ _ _).mono ?_); rintro e w1 ⟨rfl, rfl⟩; rw [h2]))
        have HQ : Hid (x.ok m = allB 0 255 x.ram) := Lib.hid (by simp [MemD.ok, h1, h2, HL.out])
        clear h1 h2
        go_loopw [5] (fun i wr => ∃ j : Nat, j ≤ 512 ∧ i = .int .i64 j ∧ Hid (∀ p, p < j → inB (rd x.ram p) 0 255 = true) ∧ St w [] wr [Ast.blk g_ [.slice (some ad2) x.ram.length ck, .int .i64 x.bank] 42]) (fun i _ => 512 - (intOf i).toNat)
        case atStart => exact ⟨0, Nat.zero_le _, rfl, Lib.hid fun j hj => absurd hj (Nat.not_lt_zero _), H.take pksA⟩
        case round =>
          clear H
          obtain ⟨j, hj, rfl, HB, H⟩ := hrel
          by_cases hjl : j < 512
          · have hj2 : j < x.ram.length := by have := HL.out; omega
            cases hbt : inB (rd x.ram j) 0 255
            · have HZ : Hid (x.ok m = false) := Lib.hid (by rw [HQ.out]; exact allB_no hj2 (by simp [hbt]))
              go_wp2_with (first | ((with_reducible refine g_load rfl ?_); refine ev_load_in_one rfl rfl rfl (oneT rfl) (int_at_ hr H hj2) ?_) | ((with_reducible refine g_box rfl ?_); refine eBa H ?_; clear H; intro g_ W_ H) | ((with_reducible refine g_load rfl ?_); first | refine eL1 H ?_ | refine eLa H ?_) | (go_at_call 106; (with_reducible refine (spec_l5Byte _ _).mono ?_); rintro e w1 ⟨rfl, rfl⟩; rw [hbt]))
              go_ret
              exact ⟨ret_b HZ.out.symm, H.below⟩
            · go_wp2_with (first | ((with_reducible refine g_load rfl ?_); refine ev_load_in_one rfl rfl rfl (oneT rfl) (int_at_ hr H hj2) ?_) | ((with_reducible refine g_box rfl ?_); refine eBa H ?_; clear H; intro g_ W_ H) | ((with_reducible refine g_load rfl ?_); first | refine eL1 H ?_ | refine eLa H ?_) | (go_at_call 106; (with_reducible refine (spec_l5Byte _ _).mono ?_); rintro e w1 ⟨rfl, rfl⟩; rw [hbt]))
              go_roundw
              case rel => exact ⟨j + 1, by omega, by go_num, Lib.hid fun p hp => if e : p = j then by rw [e]; exact hbt else HB.out p (by omega), H⟩
              case measure => simp [intOf]; omega
          · have HZ : Hid (x.ok m = true) := Lib.hid (by rw [HQ.out]; exact allB_yes fun p hp => HB.out p (by have := HL.out; omega))
            go_wp2_with (first | ((with_reducible refine g_box rfl ?_); refine eBa H ?_; clear H; intro g_ W_ H) | ((with_reducible refine g_load rfl ?_); first | refine eL1 H ?_ | refine eLa H ?_))
            go_ret
            exact ⟨ret_b HZ.out.symm, H.below⟩
    · have hl1 : ((x.ram.length : Int) != 512) = true := by rw [bne_iff_ne]; omega
      have HZ : Hid (x.ok m = false) := Lib.hid (by simp [MemD.ok]; intros; omega)
      clear hl
      go_enter Tryz.func102, Tryz.ntmps102
      go_wp2_with (first | ((with_reducible refine g_box rfl ?_); refine eBa H ?_; clear H; intro g_ W_ H) | ((with_reducible refine g_load rfl ?_); first | refine eL1 H ?_ | refine eLa H ?_) | (go_at_call 177; (with_reducible refine (spec_ImageOk m qm _ (hm.on H)).mono ?_); rintro e w1 ⟨rfl, hb⟩; rw [h1]; (replace H := H.callB hb; clear hb)))
      all_goals (go_ret; exact ⟨ret_b HZ.out.symm, H.below⟩)
theorem impl_CpuOk (c : CpuD) (w : World) : Calls Tryz.prog 119 #[.agg #[.int .i64 c.a, .int .i64 c.x, .int .i64 c.s, .int .i64 c.pc, .bool c.z, .bool c.n, .bool c.c, .bool c.i]] w fun e w' => e = .returned (.bool c.ok) ∧ Below w.heap.size w w' := by
  have H := St.nil w []
  go_enter Tryz.func119, Tryz.ntmps119
  go_wp2_with (first | ((with_reducible refine g_box rfl ?_); refine eBa H ?_; clear H; intro g_ W_ H) | ((with_reducible refine g_load rfl ?_); refine eL1 H ?_) | (go_at_call 122; (with_reducible refine (impl_isByte _ _).mono ?_); rintro e w1 ⟨rfl, rfl⟩) | (go_at_call 123; (with_reducible refine (impl_within _ _ _ _).mono ?_); rintro e w1 ⟨rfl, rfl⟩))
  all_goals (go_ret; exact ⟨ret_b (by simp [CpuD.ok, *]), H.below⟩)
theorem spec_CpuOk (c : CpuD) (w : World) : Calls Tryz.prog 103 #[.agg #[.int .i64 c.a, .int .i64 c.x, .int .i64 c.s, .int .i64 c.pc, .bool c.z, .bool c.n, .bool c.c, .bool c.i]] w fun e w' => e = .returned (.bool c.ok) ∧ Below w.heap.size w w' := by
  have H := St.nil w []
  go_enter Tryz.func103, Tryz.ntmps103
  go_wp2_with (first | ((with_reducible refine g_box rfl ?_); refine eBa H ?_; clear H; intro g_ W_ H) | ((with_reducible refine g_load rfl ?_); refine eL1 H ?_) | (go_at_call 106; (with_reducible refine (spec_l5Byte _ _).mono ?_); rintro e w1 ⟨rfl, rfl⟩) | (go_at_call 107; (with_reducible refine (spec_l1In _ _ _ _).mono ?_); rintro e w1 ⟨rfl, rfl⟩))
  all_goals (go_ret; exact ⟨ret_b (by simp [CpuD.ok, *]), H.below⟩)
end Go.Proofs.YtjgggmcnbdjdjaaGreat.C

/- What the units that come after do in a variable of their own. (written by wgen.py) -/
namespace Go.Proofs.YtjgggmcnbdjdjaaGreat.C
open Go.RowKit Go.Proofs.YtjgggmcnbdjdjaaGreat.K Go.Proofs.YtjgggmcnbdjdjaaGreat.B
attribute [local go_sem] max2_int min2_int max_two min_two i64_and255 i64_and65535 i64_and1
set_option maxRecDepth 20000
set_option linter.unusedVariables false
set_option linter.unusedSimpArgs false
end Go.Proofs.YtjgggmcnbdjdjaaGreat.C

/- What a step of the sound unit that comes after does. (written by wgen.py) -/
namespace Go.Proofs.YtjgggmcnbdjdjaaGreat.C
open Go.RowKit Go.Proofs.YtjgggmcnbdjdjaaGreat.K Go.Proofs.YtjgggmcnbdjdjaaGreat.B
attribute [local go_sem] max2_int min2_int max_two min_two i64_and255 i64_and65535 i64_and1
set_option maxRecDepth 20000
set_option linter.unusedVariables false
set_option linter.unusedSimpArgs false
theorem St.addFree {w0 W : World} {S : List Nat} {l : List Ast} {a : Ast} (h : St w0 S W l) (hf : a.fp = []) (hp : a.p W) : St w0 S W (a :: l) :=
  ⟨h.os, h.tape, h.output, h.size, h.block, fun b hb => by
    rcases List.mem_cons.1 hb with rfl | hb
    · exact hp
    · exact h.hp b hb, by have := h.nd; simpa [hf] using this, fun b hb c hc => by
    rcases List.mem_cons.1 hb with rfl | hb
    · rw [hf] at hc; cases hc
    · exact h.own b hb c hc⟩
end Go.Proofs.YtjgggmcnbdjdjaaGreat.C

/- What lies at an address; where the processor begins. (written by ygen2.py) -/
namespace Go.Proofs.YtjgggmcnbdjdjaaGreat.C
open Go.RowKit Go.Proofs.YtjgggmcnbdjdjaaGreat.K Go.Proofs.YtjgggmcnbdjdjaaGreat.B
attribute [local go_sem] max2_int min2_int max_two min_two i64_and255 i64_and65535 i64_and1
set_option maxRecDepth 20000
set_option linter.unusedVariables false
set_option linter.unusedSimpArgs false
theorem impl_Addr (n : Int) (w : World) : Calls Tryz.prog 187 #[.int .i64 n] w fun e w' => e = .returned (.int .i64 (n % 65536)) ∧ w = w' := by
  go_enter Tryz.func187, Tryz.ntmps187
  go_wp2
  go_ret
  exact ⟨rfl, rfl⟩
theorem impl_Join (a b : Int) (w : World) : Calls Tryz.prog 198 #[.int .i64 a, .int .i64 b] w fun e w' => e = .returned (.int .i64 (joinB a b)) ∧ w = w' := by
  go_enter Tryz.func198, Tryz.ntmps198
  go_wp2_with (go_at_call 192; (with_reducible refine (impl_Byte _ _).mono ?_); rintro e w1 ⟨rfl, rfl⟩)
  go_ret
  exact ⟨ret_i (by unfold joinB; omega), rfl⟩
theorem spec_Addr (n : Int) (w : World) : Calls Tryz.prog 180 #[.int .i64 n] w fun e w' => e = .returned (.int .i64 (n % 65536)) ∧ w = w' := by
  go_enter Tryz.func180, Tryz.ntmps180
  go_wp2
  go_ret
  exact ⟨rfl, rfl⟩
theorem spec_Join (a b : Int) (w : World) : Calls Tryz.prog 147 #[.int .i64 a, .int .i64 b] w fun e w' => e = .returned (.int .i64 (joinB a b)) ∧ w = w' := by
  go_enter Tryz.func147, Tryz.ntmps147
  go_wp2_with (go_at_call 191; (with_reducible refine (spec_Byte _ _).mono ?_); rintro e w1 ⟨rfl, rfl⟩)
  go_ret
  exact ⟨ret_i (by unfold joinB; omega), rfl⟩
theorem impl_Region (a : Int) (w : World) : Calls Tryz.prog 126 #[.int .i64 a] w fun e w' => e = .returned (.tuple #[.int .i64 (regR a), .int .i64 (regA a)]) ∧ w = w' := by
  unfold regR regA
  have hA : ∀ w, Calls Tryz.prog 187 #[.int .i64 a] w fun e w' => e = .returned (.int .i64 (a % 65536)) ∧ w = w' := fun w => impl_Addr a w
  have b0 : 0 ≤ a % 65536 := by omega
  have b1 : a % 65536 < 65536 := by omega
  generalize a % 65536 = b at hA b0 b1 ⊢
  have HA := Lib.hid hA
  clear hA
  have m1 : b.tmod 512 = b % 512 := tm b0
  have m2 : b.tmod 8 = b % 8 := tm b0
  have m3 : b.tmod 4 = b % 4 := tm b0
  have m4 : b.tmod 256 = b % 256 := tm b0
  by_cases h1 : b < 8192
  · simp only [h1, if_true]
    go_enter Tryz.func126, Tryz.ntmps126
    go_wp2_with (go_at_call 187; (with_reducible refine (HA.out _).mono ?_); rintro e w1 ⟨rfl, rfl⟩)
    refine' back2 Tryz.results126 ?_ ?_ rfl ⟨?_, rfl⟩; rotate_left 2; exact rvA; exact rvA
    rfl
  · simp only [h1, if_false]
    by_cases h2 : b < 16384
    · simp only [h2, if_true]
      go_enter Tryz.func126, Tryz.ntmps126
      go_wp2_with (go_at_call 187; (with_reducible refine (HA.out _).mono ?_); rintro e w1 ⟨rfl, rfl⟩)
      refine' back2 Tryz.results126 ?_ ?_ rfl ⟨?_, rfl⟩; rotate_left 2; exact rvA; exact rvA
      rfl
    · simp only [h2, if_false]
      by_cases h3 : b < 16388
      · simp only [h3, if_true]
        go_enter Tryz.func126, Tryz.ntmps126
        go_wp2_with (go_at_call 187; (with_reducible refine (HA.out _).mono ?_); rintro e w1 ⟨rfl, rfl⟩)
        refine' back2 Tryz.results126 ?_ ?_ rfl ⟨?_, rfl⟩; rotate_left 2; exact rvA; exact rvA
        rfl
      · simp only [h3, if_false]
        by_cases h4 : b = 16406
        · have h4' : (b == 16406) = true := by simp [h4]
          simp only [h4, if_true]
          subst h4
          go_enter Tryz.func126, Tryz.ntmps126
          go_wp2_with (go_at_call 187; (with_reducible refine (HA.out _).mono ?_); rintro e w1 ⟨rfl, rfl⟩)
          refine' back2 Tryz.results126 ?_ ?_ rfl ⟨?_, rfl⟩; rotate_left 2; exact rvA; exact rvA
          rfl
        · have h4' : (b == 16406) = false := by simp [h4]
          simp only [h4, if_false]
          by_cases h5 : b < 32768
          · simp only [h5, if_true]
            clear h4
            go_enter Tryz.func126, Tryz.ntmps126
            go_wp2_with (go_at_call 187; (with_reducible refine (HA.out _).mono ?_); rintro e w1 ⟨rfl, rfl⟩)
            refine' back2 Tryz.results126 ?_ ?_ rfl ⟨?_, rfl⟩; rotate_left 2; exact rvA; exact rvA
            rfl
          · simp only [h5, if_false]
            clear h4
            by_cases h6 : b < 49152
            all_goals
              simp only [h6, if_true, if_false]
              go_enter Tryz.func126, Tryz.ntmps126
              go_wp2_with (go_at_call 187; (with_reducible refine (HA.out _).mono ?_); rintro e w1 ⟨rfl, rfl⟩)
              refine' back2 Tryz.results126 ?_ ?_ rfl ⟨?_, rfl⟩; rotate_left 2; exact rvA; exact rvA
              rfl
theorem spec_Region (a : Int) (w : World) : Calls Tryz.prog 109 #[.int .i64 a] w fun e w' => e = .returned (.tuple #[.int .i64 (regR a), .int .i64 (regA a)]) ∧ w = w' := by
  unfold regR regA
  have hA : ∀ w, Calls Tryz.prog 180 #[.int .i64 a] w fun e w' => e = .returned (.int .i64 (a % 65536)) ∧ w = w' := fun w => spec_Addr a w
  have b0 : 0 ≤ a % 65536 := by omega
  have b1 : a % 65536 < 65536 := by omega
  generalize a % 65536 = b at hA b0 b1 ⊢
  have HA := Lib.hid hA
  clear hA
  have m1 : b.tmod 512 = b % 512 := tm b0
  have m2 : b.tmod 8 = b % 8 := tm b0
  have m3 : b.tmod 4 = b % 4 := tm b0
  have m4 : b.tmod 256 = b % 256 := tm b0
  by_cases h1 : b < 8192
  · simp only [h1, if_true]
    go_enter Tryz.func109, Tryz.ntmps109
    go_wp2_with (go_at_call 180; (with_reducible refine (HA.out _).mono ?_); rintro e w1 ⟨rfl, rfl⟩)
    refine' back2 Tryz.results109 ?_ ?_ rfl ⟨?_, rfl⟩; rotate_left 2; exact rvA; exact rvA
    rfl
  · simp only [h1, if_false]
    by_cases h2 : b < 16384
    · simp only [h2, if_true]
      go_enter Tryz.func109, Tryz.ntmps109
      go_wp2_with (go_at_call 180; (with_reducible refine (HA.out _).mono ?_); rintro e w1 ⟨rfl, rfl⟩)
      refine' back2 Tryz.results109 ?_ ?_ rfl ⟨?_, rfl⟩; rotate_left 2; exact rvA; exact rvA
      rfl
    · simp only [h2, if_false]
      by_cases h3 : b < 16388
      · simp only [h3, if_true]
        go_enter Tryz.func109, Tryz.ntmps109
        go_wp2_with (go_at_call 180; (with_reducible refine (HA.out _).mono ?_); rintro e w1 ⟨rfl, rfl⟩)
        refine' back2 Tryz.results109 ?_ ?_ rfl ⟨?_, rfl⟩; rotate_left 2; exact rvA; exact rvA
        rfl
      · simp only [h3, if_false]
        by_cases h4 : b = 16406
        · have h4' : (b == 16406) = true := by simp [h4]
          simp only [h4, if_true]
          subst h4
          go_enter Tryz.func109, Tryz.ntmps109
          go_wp2_with (go_at_call 180; (with_reducible refine (HA.out _).mono ?_); rintro e w1 ⟨rfl, rfl⟩)
          refine' back2 Tryz.results109 ?_ ?_ rfl ⟨?_, rfl⟩; rotate_left 2; exact rvA; exact rvA
          rfl
        · have h4' : (b == 16406) = false := by simp [h4]
          simp only [h4, if_false]
          by_cases h5 : b < 32768
          · simp only [h5, if_true]
            clear h4
            go_enter Tryz.func109, Tryz.ntmps109
            go_wp2_with (go_at_call 180; (with_reducible refine (HA.out _).mono ?_); rintro e w1 ⟨rfl, rfl⟩)
            refine' back2 Tryz.results109 ?_ ?_ rfl ⟨?_, rfl⟩; rotate_left 2; exact rvA; exact rvA
            rfl
          · simp only [h5, if_false]
            clear h4
            by_cases h6 : b < 49152
            all_goals
              simp only [h6, if_true, if_false]
              go_enter Tryz.func109, Tryz.ntmps109
              go_wp2_with (go_at_call 180; (with_reducible refine (HA.out _).mono ?_); rintro e w1 ⟨rfl, rfl⟩)
              refine' back2 Tryz.results109 ?_ ?_ rfl ⟨?_, rfl⟩; rotate_left 2; exact rvA; exact rvA
              rfl
set_option maxHeartbeats 8000000 in
theorem impl_peek (m : ImageD) (qm : ImageP) (x : MemD) (q : MemP) (a : Int) (N : Nat) (w : World) (hm : ImageIn w m qm) (hx : MemIn w x q) (hN : N = x.ram.length) (hok : x.ok m = true) : Calls Tryz.prog 130 #[.agg #[.slice qm.banks.s.A m.banks.length qm.banks.s.c], .agg #[.slice q.ram.A N q.ram.c, .int .i64 x.bank], .int .i64 a] w fun e w' => e = .returned (.int .i64 (x.peek m a)) ∧ Below w.heap.size w w' := by
  subst hN
  have H := St.nil w []
  obtain ⟨h1, h2, h3, h4, h5⟩ := MemD.ok_at hok
  obtain ⟨g1, g2, g3⟩ := ImageD.ok_at h1
  clear h3 h1 hok
  have hb := hm.banks
  have hr := hx.ram
  clear hm hx
  obtain ⟨⟨⟨A, c⟩, r⟩⟩ := qm
  obtain ⟨⟨Ar, cr⟩⟩ := q
  obtain ⟨ram, bank⟩ := x
  simp only at hb hr h2 h4 h5 ⊢
  have hlen : ram.length = 512 := h2
  obtain ⟨adr, hAr, _⟩ := hr.cell H (show 0 < ram.length by omega)
  subst hAr
  obtain ⟨ad, hA, _⟩ := hb.cell H (show 0 < m.banks.length by omega)
  simp only at hA
  subst hA
  have HG := Lib.hid g1
  clear g1 h2
  rcases reg_cases a with ⟨e1, a0, a1⟩ | ⟨e1, a0, a1⟩ | ⟨e1, a0, a1⟩ | ⟨e1, a0⟩ | ⟨e1, a0, a1⟩ | ⟨e1, a0, a1⟩ | ⟨e1, a0⟩
  · obtain ⟨k, e2⟩ : ∃ k : Nat, regA a = (k : Int) := ⟨(regA a).toNat, by omega⟩
    have hk : k < ram.length := by omega
    have hz : (MemD.mk ram bank).peek m a = rd ram k := by simp [MemD.peek, e1, e2]
    rw [hz]
    have E1 := Lib.hid e1
    have E2 := Lib.hid e2
    have HL := Lib.hid hlen
    clear e1 e2 hz a0 a1 hlen
    go_enter Tryz.func130, Tryz.ntmps130
    go_wp2_with (first | (go_at_call 126; (with_reducible refine (impl_Region _ _).mono ?_); rintro e w1 ⟨rfl, rfl⟩; rw [E1.out, E2.out]) | ((with_reducible refine g_load rfl ?_); refine ev_load_in_one rfl rfl rfl (oneT rfl) (int_at_ hr H hk) ?_) | ((with_reducible refine g_box rfl ?_); refine eBa H ?_; clear H; intro g_ W_ H) | ((with_reducible refine g_load rfl ?_); refine eL1 H ?_))
    go_ret
    exact ⟨rfl, H.below⟩
  · have hz : (MemD.mk ram bank).peek m a = 0 := by simp [MemD.peek, e1]
    rw [hz]
    obtain ⟨k, e2⟩ : ∃ k : Int, regA a = k := ⟨_, rfl⟩
    have E1 := Lib.hid e1
    have E2 := Lib.hid e2
    clear e1 e2 hz a0 a1
    go_enter Tryz.func130, Tryz.ntmps130
    go_wp2_with (first | (go_at_call 126; (with_reducible refine (impl_Region _ _).mono ?_); rintro e w1 ⟨rfl, rfl⟩; rw [E1.out, E2.out]) | ((with_reducible refine g_box rfl ?_); refine eBa H ?_; clear H; intro g_ W_ H) | ((with_reducible refine g_load rfl ?_); refine eL1 H ?_))
    go_ret
    exact ⟨rfl, H.below⟩
  · have hz : (MemD.mk ram bank).peek m a = 0 := by simp [MemD.peek, e1]
    rw [hz]
    obtain ⟨k, e2⟩ : ∃ k : Int, regA a = k := ⟨_, rfl⟩
    have E1 := Lib.hid e1
    have E2 := Lib.hid e2
    clear e1 e2 hz a0 a1
    go_enter Tryz.func130, Tryz.ntmps130
    go_wp2_with (first | (go_at_call 126; (with_reducible refine (impl_Region _ _).mono ?_); rintro e w1 ⟨rfl, rfl⟩; rw [E1.out, E2.out]) | ((with_reducible refine g_box rfl ?_); refine eBa H ?_; clear H; intro g_ W_ H) | ((with_reducible refine g_load rfl ?_); refine eL1 H ?_))
    go_ret
    exact ⟨rfl, H.below⟩
  · have hz : (MemD.mk ram bank).peek m a = 0 := by simp [MemD.peek, e1]
    rw [hz]
    obtain ⟨k, e2⟩ : ∃ k : Int, regA a = k := ⟨_, rfl⟩
    have E1 := Lib.hid e1
    have E2 := Lib.hid e2
    clear e1 e2 hz a0 
    go_enter Tryz.func130, Tryz.ntmps130
    go_wp2_with (first | (go_at_call 126; (with_reducible refine (impl_Region _ _).mono ?_); rintro e w1 ⟨rfl, rfl⟩; rw [E1.out, E2.out]) | ((with_reducible refine g_box rfl ?_); refine eBa H ?_; clear H; intro g_ W_ H) | ((with_reducible refine g_load rfl ?_); refine eL1 H ?_))
    go_ret
    exact ⟨rfl, H.below⟩
  · obtain ⟨k, e2⟩ : ∃ k : Nat, regA a = (k : Int) := ⟨(regA a).toNat, by omega⟩
    obtain ⟨b, rfl⟩ : ∃ b : Nat, bank = (b : Int) := ⟨bank.toNat, by omega⟩
    have hlt : b < m.banks.length := by omega
    have hrow := hb.row b hlt
    simp only at hrow
    have hcell : ∀ {W : World} {l : List Ast}, St w [] W l → W.cell? (ad.add b) = some (.slice (slAt r b).A (rwAt m.banks b).length (slAt r b).c) := fun H' => rows_at_ hb H' hlt
    have hl := (bank_at (banks_at HG.out hlt)).1
    have hk : k < (rwAt m.banks b).length := by omega
    have hz : (MemD.mk ram (b : Int)).peek m a = rd (rwAt m.banks b) k := by simp [MemD.peek, e1, e2]
    rw [hz]
    generalize slAt r b = qk at hrow hcell
    obtain ⟨Ak, ck⟩ := qk
    simp only at hrow hcell
    obtain ⟨ad2, hA2, _⟩ := hrow.cell (St.nil w []) (show 0 < (rwAt m.banks b).length by omega)
    subst hA2
    have E1 := Lib.hid e1
    have E2 := Lib.hid e2
    have HL := Lib.hid hlen
    clear e1 e2 hz a0 a1 hlen hl
    go_enter Tryz.func130, Tryz.ntmps130
    go_wp2_with (first | (go_at_call 126; (with_reducible refine (impl_Region _ _).mono ?_); rintro e w1 ⟨rfl, rfl⟩; rw [E1.out, E2.out]) | ((with_reducible refine g_load rfl ?_); refine ev_load_in_one rfl rfl rfl (oneT rfl) (hcell H) ?_) | ((with_reducible refine g_load rfl ?_); refine ev_load_in_one rfl rfl rfl (oneT rfl) (int_at_ hrow H hk) ?_) | ((with_reducible refine g_box rfl ?_); refine eBa H ?_; clear H; intro g_ W_ H) | ((with_reducible refine g_load rfl ?_); refine eL1 H ?_))
    go_ret
    exact ⟨rfl, H.below⟩
  · obtain ⟨k, e2⟩ : ∃ k : Nat, regA a = (k : Int) := ⟨(regA a).toNat, by omega⟩
    obtain ⟨b, hp⟩ : ∃ b : Nat, m.banks.length = b + 1 := ⟨m.banks.length - 1, by omega⟩
    have hlt : b < m.banks.length := by omega
    have hrow := hb.row b hlt
    simp only at hrow
    have hcell : ∀ {W : World} {l : List Ast}, St w [] W l → W.cell? (ad.add b) = some (.slice (slAt r b).A (rwAt m.banks b).length (slAt r b).c) := fun H' => rows_at_ hb H' hlt
    have hl := (bank_at (banks_at HG.out hlt)).1
    have hk : k < (rwAt m.banks b).length := by omega
    have hz : (MemD.mk ram bank).peek m a = rd (rwAt m.banks b) k := by simp [MemD.peek, e1, e2, hp]
    rw [hz, hp]
    generalize slAt r b = qk at hrow hcell
    obtain ⟨Ak, ck⟩ := qk
    simp only at hrow hcell
    obtain ⟨ad2, hA2, _⟩ := hrow.cell (St.nil w []) (show 0 < (rwAt m.banks b).length by omega)
    subst hA2
    have E1 := Lib.hid e1
    have E2 := Lib.hid e2
    have HL := Lib.hid hlen
    have hb8 : b < 8 := by omega
    clear e1 e2 hz a0 a1 hlen hl hp g2 g3 h4 h5
    go_enter Tryz.func130, Tryz.ntmps130
    go_wp2_with (first | (go_at_call 126; (with_reducible refine (impl_Region _ _).mono ?_); rintro e w1 ⟨rfl, rfl⟩; rw [E1.out, E2.out]) | ((with_reducible refine g_load rfl ?_); refine ev_load_in_one rfl rfl rfl (oneT rfl) (hcell H) ?_) | ((with_reducible refine g_load rfl ?_); refine ev_load_in_one rfl rfl rfl (oneT rfl) (int_at_ hrow H hk) ?_) | ((with_reducible refine g_box rfl ?_); refine eBa H ?_; clear H; intro g_ W_ H) | ((with_reducible refine g_load rfl ?_); refine eL1 H ?_))
    go_ret
    exact ⟨rfl, H.below⟩
  · have hz : (MemD.mk ram bank).peek m a = 0 := by simp [MemD.peek, e1]
    rw [hz]
    obtain ⟨k, e2⟩ : ∃ k : Int, regA a = k := ⟨_, rfl⟩
    have E1 := Lib.hid e1
    have E2 := Lib.hid e2
    clear e1 e2 hz a0 
    go_enter Tryz.func130, Tryz.ntmps130
    go_wp2_with (first | (go_at_call 126; (with_reducible refine (impl_Region _ _).mono ?_); rintro e w1 ⟨rfl, rfl⟩; rw [E1.out, E2.out]) | ((with_reducible refine g_box rfl ?_); refine eBa H ?_; clear H; intro g_ W_ H) | ((with_reducible refine g_load rfl ?_); refine eL1 H ?_))
    go_ret
    exact ⟨rfl, H.below⟩
set_option maxHeartbeats 8000000 in
theorem spec_l6Peek (m : ImageD) (qm : ImageP) (x : MemD) (q : MemP) (a : Int) (N : Nat) (w : World) (hm : ImageIn w m qm) (hx : MemIn w x q) (hN : N = x.ram.length) (hok : x.ok m = true) : Calls Tryz.prog 113 #[.agg #[.slice qm.banks.s.A m.banks.length qm.banks.s.c], .agg #[.slice q.ram.A N q.ram.c, .int .i64 x.bank], .int .i64 a] w fun e w' => e = .returned (.int .i64 (x.peek m a)) ∧ Below w.heap.size w w' := by
  subst hN
  have H := St.nil w []
  obtain ⟨h1, h2, h3, h4, h5⟩ := MemD.ok_at hok
  obtain ⟨g1, g2, g3⟩ := ImageD.ok_at h1
  clear h3 h1 hok
  have hb := hm.banks
  have hr := hx.ram
  clear hm hx
  obtain ⟨⟨⟨A, c⟩, r⟩⟩ := qm
  obtain ⟨⟨Ar, cr⟩⟩ := q
  obtain ⟨ram, bank⟩ := x
  simp only at hb hr h2 h4 h5 ⊢
  have hlen : ram.length = 512 := h2
  obtain ⟨adr, hAr, _⟩ := hr.cell H (show 0 < ram.length by omega)
  subst hAr
  obtain ⟨ad, hA, _⟩ := hb.cell H (show 0 < m.banks.length by omega)
  simp only at hA
  subst hA
  have HG := Lib.hid g1
  clear g1 h2
  rcases reg_cases a with ⟨e1, a0, a1⟩ | ⟨e1, a0, a1⟩ | ⟨e1, a0, a1⟩ | ⟨e1, a0⟩ | ⟨e1, a0, a1⟩ | ⟨e1, a0, a1⟩ | ⟨e1, a0⟩
  · obtain ⟨k, e2⟩ : ∃ k : Nat, regA a = (k : Int) := ⟨(regA a).toNat, by omega⟩
    have hk : k < ram.length := by omega
    have hz : (MemD.mk ram bank).peek m a = rd ram k := by simp [MemD.peek, e1, e2]
    rw [hz]
    have E1 := Lib.hid e1
    have E2 := Lib.hid e2
    have HL := Lib.hid hlen
    clear e1 e2 hz a0 a1 hlen
    go_enter Tryz.func113, Tryz.ntmps113
    go_wp2_with (first | (go_at_call 109; (with_reducible refine (spec_Region _ _).mono ?_); rintro e w1 ⟨rfl, rfl⟩; rw [E1.out, E2.out]) | ((with_reducible refine g_load rfl ?_); refine ev_load_in_one rfl rfl rfl (oneT rfl) (int_at_ hr H hk) ?_) | ((with_reducible refine g_box rfl ?_); refine eBa H ?_; clear H; intro g_ W_ H) | ((with_reducible refine g_load rfl ?_); refine eL1 H ?_))
    go_ret
    exact ⟨rfl, H.below⟩
  · have hz : (MemD.mk ram bank).peek m a = 0 := by simp [MemD.peek, e1]
    rw [hz]
    obtain ⟨k, e2⟩ : ∃ k : Int, regA a = k := ⟨_, rfl⟩
    have E1 := Lib.hid e1
    have E2 := Lib.hid e2
    clear e1 e2 hz a0 a1
    go_enter Tryz.func113, Tryz.ntmps113
    go_wp2_with (first | (go_at_call 109; (with_reducible refine (spec_Region _ _).mono ?_); rintro e w1 ⟨rfl, rfl⟩; rw [E1.out, E2.out]) | ((with_reducible refine g_box rfl ?_); refine eBa H ?_; clear H; intro g_ W_ H) | ((with_reducible refine g_load rfl ?_); refine eL1 H ?_))
    go_ret
    exact ⟨rfl, H.below⟩
  · have hz : (MemD.mk ram bank).peek m a = 0 := by simp [MemD.peek, e1]
    rw [hz]
    obtain ⟨k, e2⟩ : ∃ k : Int, regA a = k := ⟨_, rfl⟩
    have E1 := Lib.hid e1
    have E2 := Lib.hid e2
    clear e1 e2 hz a0 a1
    go_enter Tryz.func113, Tryz.ntmps113
    go_wp2_with (first | (go_at_call 109; (with_reducible refine (spec_Region _ _).mono ?_); rintro e w1 ⟨rfl, rfl⟩; rw [E1.out, E2.out]) | ((with_reducible refine g_box rfl ?_); refine eBa H ?_; clear H; intro g_ W_ H) | ((with_reducible refine g_load rfl ?_); refine eL1 H ?_))
    go_ret
    exact ⟨rfl, H.below⟩
  · have hz : (MemD.mk ram bank).peek m a = 0 := by simp [MemD.peek, e1]
    rw [hz]
    obtain ⟨k, e2⟩ : ∃ k : Int, regA a = k := ⟨_, rfl⟩
    have E1 := Lib.hid e1
    have E2 := Lib.hid e2
    clear e1 e2 hz a0 
    go_enter Tryz.func113, Tryz.ntmps113
    go_wp2_with (first | (go_at_call 109; (with_reducible refine (spec_Region _ _).mono ?_); rintro e w1 ⟨rfl, rfl⟩; rw [E1.out, E2.out]) | ((with_reducible refine g_box rfl ?_); refine eBa H ?_; clear H; intro g_ W_ H) | ((with_reducible refine g_load rfl ?_); refine eL1 H ?_))
    go_ret
    exact ⟨rfl, H.below⟩
  · obtain ⟨k, e2⟩ : ∃ k : Nat, regA a = (k : Int) := ⟨(regA a).toNat, by omega⟩
    obtain ⟨b, rfl⟩ : ∃ b : Nat, bank = (b : Int) := ⟨bank.toNat, by omega⟩
    have hlt : b < m.banks.length := by omega
    have hrow := hb.row b hlt
    simp only at hrow
    have hcell : ∀ {W : World} {l : List Ast}, St w [] W l → W.cell? (ad.add b) = some (.slice (slAt r b).A (rwAt m.banks b).length (slAt r b).c) := fun H' => rows_at_ hb H' hlt
    have hl := (bank_at (banks_at HG.out hlt)).1
    have hk : k < (rwAt m.banks b).length := by omega
    have hz : (MemD.mk ram (b : Int)).peek m a = rd (rwAt m.banks b) k := by simp [MemD.peek, e1, e2]
    rw [hz]
    generalize slAt r b = qk at hrow hcell
    obtain ⟨Ak, ck⟩ := qk
    simp only at hrow hcell
    obtain ⟨ad2, hA2, _⟩ := hrow.cell (St.nil w []) (show 0 < (rwAt m.banks b).length by omega)
    subst hA2
    have E1 := Lib.hid e1
    have E2 := Lib.hid e2
    have HL := Lib.hid hlen
    clear e1 e2 hz a0 a1 hlen hl
    go_enter Tryz.func113, Tryz.ntmps113
    go_wp2_with (first | (go_at_call 109; (with_reducible refine (spec_Region _ _).mono ?_); rintro e w1 ⟨rfl, rfl⟩; rw [E1.out, E2.out]) | ((with_reducible refine g_load rfl ?_); refine ev_load_in_one rfl rfl rfl (oneT rfl) (hcell H) ?_) | ((with_reducible refine g_load rfl ?_); refine ev_load_in_one rfl rfl rfl (oneT rfl) (int_at_ hrow H hk) ?_) | ((with_reducible refine g_box rfl ?_); refine eBa H ?_; clear H; intro g_ W_ H) | ((with_reducible refine g_load rfl ?_); refine eL1 H ?_))
    go_ret
    exact ⟨rfl, H.below⟩
  · obtain ⟨k, e2⟩ : ∃ k : Nat, regA a = (k : Int) := ⟨(regA a).toNat, by omega⟩
    obtain ⟨b, hp⟩ : ∃ b : Nat, m.banks.length = b + 1 := ⟨m.banks.length - 1, by omega⟩
    have hlt : b < m.banks.length := by omega
    have hrow := hb.row b hlt
    simp only at hrow
    have hcell : ∀ {W : World} {l : List Ast}, St w [] W l → W.cell? (ad.add b) = some (.slice (slAt r b).A (rwAt m.banks b).length (slAt r b).c) := fun H' => rows_at_ hb H' hlt
    have hl := (bank_at (banks_at HG.out hlt)).1
    have hk : k < (rwAt m.banks b).length := by omega
    have hz : (MemD.mk ram bank).peek m a = rd (rwAt m.banks b) k := by simp [MemD.peek, e1, e2, hp]
    rw [hz, hp]
    generalize slAt r b = qk at hrow hcell
    obtain ⟨Ak, ck⟩ := qk
    simp only at hrow hcell
    obtain ⟨ad2, hA2, _⟩ := hrow.cell (St.nil w []) (show 0 < (rwAt m.banks b).length by omega)
    subst hA2
    have E1 := Lib.hid e1
    have E2 := Lib.hid e2
    have HL := Lib.hid hlen
    have hb8 : b < 8 := by omega
    clear e1 e2 hz a0 a1 hlen hl hp g2 g3 h4 h5
    go_enter Tryz.func113, Tryz.ntmps113
    go_wp2_with (first | (go_at_call 109; (with_reducible refine (spec_Region _ _).mono ?_); rintro e w1 ⟨rfl, rfl⟩; rw [E1.out, E2.out]) | ((with_reducible refine g_load rfl ?_); refine ev_load_in_one rfl rfl rfl (oneT rfl) (hcell H) ?_) | ((with_reducible refine g_load rfl ?_); refine ev_load_in_one rfl rfl rfl (oneT rfl) (int_at_ hrow H hk) ?_) | ((with_reducible refine g_box rfl ?_); refine eBa H ?_; clear H; intro g_ W_ H) | ((with_reducible refine g_load rfl ?_); refine eL1 H ?_))
    go_ret
    exact ⟨rfl, H.below⟩
  · have hz : (MemD.mk ram bank).peek m a = 0 := by simp [MemD.peek, e1]
    rw [hz]
    obtain ⟨k, e2⟩ : ∃ k : Int, regA a = k := ⟨_, rfl⟩
    have E1 := Lib.hid e1
    have E2 := Lib.hid e2
    clear e1 e2 hz a0 
    go_enter Tryz.func113, Tryz.ntmps113
    go_wp2_with (first | (go_at_call 109; (with_reducible refine (spec_Region _ _).mono ?_); rintro e w1 ⟨rfl, rfl⟩; rw [E1.out, E2.out]) | ((with_reducible refine g_box rfl ?_); refine eBa H ?_; clear H; intro g_ W_ H) | ((with_reducible refine g_load rfl ?_); refine eL1 H ?_))
    go_ret
    exact ⟨rfl, H.below⟩
set_option maxHeartbeats 4000000 in
theorem spec_Peek (m : ImageD) (qm : ImageP) (x : MemD) (q : MemP) (a : Int) (N : Nat) (w : World) (hm : ImageIn w m qm) (hx : MemIn w x q) (hN : N = x.ram.length) : Calls Tryz.prog 148 #[.agg #[.slice qm.banks.s.A m.banks.length qm.banks.s.c], .agg #[.slice q.ram.A N q.ram.c, .int .i64 x.bank], .int .i64 a] w fun e w' => e = .returned (.int .i64 (x.peekO m a)) ∧ Below w.heap.size w w' := by
  subst hN
  have H := St.nil w []
  cases h : x.ok m
  · have hz : x.peekO m a = 0 := by simp [MemD.peekO, h]
    rw [hz]
    go_enter Tryz.func148, Tryz.ntmps148
    go_wp2_with (first | (go_at_call 102; (with_reducible refine (spec_MemOk m qm x q _ (hm.on H) (hx.on H)).mono ?_); rintro e w1 ⟨rfl, hb⟩; rw [h]; (replace H := H.callB hb; clear hb)) | ((with_reducible refine g_box rfl ?_); refine eBa H ?_; clear H; intro g_ W_ H) | ((with_reducible refine g_load rfl ?_); refine eLa H ?_))
    go_ret
    exact ⟨rfl, H.below⟩
  · have hz : x.peekO m a = x.peek m a := by simp [MemD.peekO, h]
    rw [hz]
    go_enter Tryz.func148, Tryz.ntmps148
    go_wp2_with (first | (go_at_call 102; (with_reducible refine (spec_MemOk m qm x q _ (hm.on H) (hx.on H)).mono ?_); rintro e w1 ⟨rfl, hb⟩; rw [h]; (replace H := H.callB hb; clear hb)) | (go_at_call 113; (with_reducible refine (spec_l6Peek m qm x q _ _ _ (hm.on H) (hx.on H) rfl h).mono ?_); rintro e w1 ⟨rfl, hb⟩; (replace H := H.callB hb; clear hb)) | ((with_reducible refine g_box rfl ?_); refine eBa H ?_; clear H; intro g_ W_ H) | ((with_reducible refine g_load rfl ?_); refine eLa H ?_))
    go_ret
    exact ⟨rfl, H.below⟩
end Go.Proofs.YtjgggmcnbdjdjaaGreat.C

