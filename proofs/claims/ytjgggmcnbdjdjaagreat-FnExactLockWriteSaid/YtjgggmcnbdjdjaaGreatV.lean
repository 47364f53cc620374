/- What a step of the units that come after does, as data; and what is known of a ring that was taken from. -/
import Derived.Test.YtjgggmcnbdjdjaaGreatU2
import Derived.Test.YtjgggmcnbdjdjaaGreatA2
import Derived.Test.YtjgggmcnbdjdjaaGreatG3
import Derived.Test.YtjgggmcnbdjdjaaGreatQ2
namespace Go.Proofs.YtjgggmcnbdjdjaaGreat.C
open Go.RowKit Go.Proofs.YtjgggmcnbdjdjaaGreat.K Go.Proofs.YtjgggmcnbdjdjaaGreat.B
set_option maxRecDepth 20000
set_option linter.unusedVariables false
set_option linter.unusedSimpArgs false
/-- A row of records that may lie within a block. -/
def ringO (x : RingD) (q : RingP) : Ast := Ast.all [Ast.pure (x.list.length ≤ q.list.c ∧ x.list.length ≤ 1048576), rowR q.list.A (recs x.list)]
theorem ringO_fp (x : RingD) (q : RingP) : (ringO x q).fp = (ringR x q).fp := by simp [ringO, ringR, Ast.all, Ast.pure]
theorem RingIn.ofO {w : World} {x : RingD} {q : RingP} (h : (ringO x q).p w) : RingIn w x q := by
  have h1 : x.list.length ≤ q.list.c ∧ x.list.length ≤ 1048576 := h _ (List.mem_cons_self)
  have h2 : (rowR q.list.A (recs x.list)).p w := h _ (by simp)
  exact ⟨⟨h1.1, by omega, row_in h2⟩⟩
theorem ringR_ofO {w : World} {x : RingD} {q : RingP} (h : (ringO x q).p w) : (ringR x q).p w := by
  intro a ha
  simp only [List.mem_cons, List.not_mem_nil, or_false] at ha
  subst ha
  exact h _ (by simp)
theorem ringO_ofR {w : World} {x : RingD} {q : RingP} (h : (ringR x q).p w) (h1 : x.list.length ≤ q.list.c) (h2 : x.list.length ≤ 1048576) : (ringO x q).p w := by
  intro a ha
  simp only [List.mem_cons, List.not_mem_nil, or_false] at ha
  rcases ha with rfl | rfl
  · exact ⟨h1, h2⟩
  · exact h _ (by simp)
theorem ringO_ofA {w : World} {x : RingD} {q : RingP} (h : (ringA x q).p w) (h2 : x.list.length ≤ 1048576) : (ringO x q).p w := ringO_ofR (ringR_of h) (RingIn.of h).list.1 h2
theorem ringO_fpA (x : RingD) (q : RingP) : (ringO x q).fp = (ringA x q).fp := (ringO_fp x q).trans (ringR_fp x q)
/-- Is the first of a time? -/
def RingD.is (x : RingD) (t : Int) : Bool := decide (0 < x.list.length ∧ (rdr x.list 0).t = t)
def RingD.nxt (x : RingD) (t : Int) : RingD := if x.is t = true then x.tail else x
def RingD.nxtR (x : RingD) (t : Int) : RecD := if x.is t = true then rdr x.list 0 else RecD.zero
theorem RingD.is_pos {x : RingD} {t : Int} (h : x.is t = true) : 0 < x.list.length ∧ (rdr x.list 0).t = t := by simpa [RingD.is] using h
theorem RingD.is_neg {x : RingD} {t : Int} (h : x.is t = false) : ¬ (0 < x.list.length ∧ (rdr x.list 0).t = t) := of_decide_eq_false h
theorem RingD.from_at {x : RingD} {t : Int} (h : x.from_ t = true) : x.ok = true ∧ (0 < x.list.length → t ≤ (rdr x.list 0).t) := by
  unfold RingD.from_ at h
  rw [Bool.and_eq_true, Bool.or_eq_true, beq_iff_eq, decide_eq_true_eq] at h
  exact ⟨h.1, fun h0 => h.2.resolve_left (by omega)⟩
theorem RingD.from_mk {x : RingD} {t : Int} (h : x.ok = true) (h1 : 0 < x.list.length → t ≤ (rdr x.list 0).t) : x.from_ t = true := by
  unfold RingD.from_
  rw [Bool.and_eq_true, Bool.or_eq_true, beq_iff_eq, decide_eq_true_eq]
  refine ⟨h, ?_⟩
  rcases Nat.eq_zero_or_pos x.list.length with h0 | h0
  · exact .inl (by omega)
  · exact .inr (h1 h0)
theorem RingD.from_tail {x : RingD} {t : Int} (h : x.from_ t = true) (hi : x.is t = true) : x.tail.from_ t = true := by
  obtain ⟨h1, h2⟩ := RingD.from_at h
  obtain ⟨h3, h4⟩ := RingD.is_pos hi
  refine RingD.from_mk (RingD.tail_ok h1) fun h0 => ?_
  have hl : 1 < x.list.length := by simp [RingD.tail] at h0; omega
  have h5 := okAll_at (RingD.ok_at h1).1 hl
  unfold okAt at h5
  rw [Bool.and_eq_true] at h5
  have h6 := h5.2
  have e : ((1 : Nat) == 0) = false := rfl
  rw [e, Bool.false_or] at h6
  simp only [Bool.not_eq_true', decide_eq_false_iff_not] at h6
  show t ≤ (rdr (x.list.drop 1) 0).t
  rw [rdr_drop, ← h4]
  simp only [Nat.sub_self, Nat.add_zero] at h6 ⊢
  omega
theorem RingD.from_next {x : RingD} {t : Int} (h : x.from_ t = true) (hi : x.is t = false) : x.from_ (t + 1) = true := by
  obtain ⟨h1, h2⟩ := RingD.from_at h
  have h3 := RingD.is_neg hi
  refine RingD.from_mk h1 fun h0 => ?_
  have := h2 h0
  omega
/-! ## the sound unit -/
theorem ApuD.write_t (a : ApuD) (r v : Int) : (a.write r v).t = a.t := by unfold ApuD.write; (repeat' split) <;> rfl
theorem ApuD.write_ok {a : ApuD} (h : a.ok = true) (r v : Int) : (a.write r v).ok = true := by
  have h' := h
  rw [ApuD.ok_iff] at h
  obtain ⟨b1, b2, b3, b4, b5, b6, b7, b8, b9, b10⟩ := h
  unfold ApuD.write
  (repeat' split)
  all_goals first | exact h' | (rw [ApuD.ok_iff]; simp only; refine ⟨by omega, by omega, by omega, by omega, by omega, by omega, by omega, by omega, by omega, by omega⟩)
theorem ApuD.tk_ok {a : ApuD} (h : a.ok = true) (ht : a.t < 20000) : a.tk.ok = true := by
  rw [ApuD.ok_iff] at h
  obtain ⟨b1, b2, b3, b4, b5, b6, b7, b8, b9, b10⟩ := h
  have hb : a.beat = true → 0 < a.l := fun h => (ApuD.beat_t h).2
  rw [ApuD.ok_iff]
  unfold ApuD.tk
  simp only
  refine ⟨by omega, by omega, b3, b4, ?_, ?_, ?_, ?_, ?_, ?_⟩
  all_goals (repeat' split)
  all_goals first | omega | (have := hb (by assumption); omega)
def SoundD.is (x : SoundD) : Bool := x.ring.is x.apu.t
def SoundD.can (x : SoundD) (m : Int) : Bool := decide (x.apu.t < m ∧ x.apu.t < 20000)
def SoundD.more (x : SoundD) (m : Int) : Bool := x.is || x.can m
def SoundD.stp (x : SoundD) (m : Int) : SoundD :=
  if x.is = true then ⟨x.apu.write (rdr x.ring.list 0).r (rdr x.ring.list 0).v, x.ring.tail, x.samples⟩
  else if x.can m = true then (if x.apu.told = true then ⟨x.apu.tk, x.ring, x.samples ++ [x.apu.smp]⟩ else ⟨x.apu.tk, x.ring, x.samples⟩) else x
def SoundD.mu (x : SoundD) : Nat := x.ring.list.length + (20000 - x.apu.t).toNat
theorem SoundD.ok_at {x : SoundD} (h : x.ok = true) : x.apu.ok = true ∧ x.ring.from_ x.apu.t = true ∧ (x.samples.length : Int) = x.apu.t / 16 := by
  unfold SoundD.ok at h
  rw [Bool.and_eq_true, Bool.and_eq_true, beq_iff_eq] at h
  exact h
theorem SoundD.ok_mk {x : SoundD} (h1 : x.apu.ok = true) (h2 : x.ring.from_ x.apu.t = true) (h3 : (x.samples.length : Int) = x.apu.t / 16) : x.ok = true := by
  unfold SoundD.ok
  rw [Bool.and_eq_true, Bool.and_eq_true, beq_iff_eq]
  exact ⟨h1, h2, h3⟩
theorem SoundD.stp_ok {x : SoundD} (h : x.ok = true) (m : Int) : (x.stp m).ok = true := by
  obtain ⟨h1, h2, h3⟩ := SoundD.ok_at h
  unfold SoundD.stp
  cases hi : x.is
  · simp only [Bool.false_eq_true, if_false]
    cases hc : x.can m
    · simpa using h
    · have hc' : x.apu.t < m ∧ x.apu.t < 20000 := of_decide_eq_true hc
      have h2' := RingD.from_next h2 hi
      simp only [if_true]
      cases ht : x.apu.told
      · simp only [Bool.false_eq_true, if_false]
        refine SoundD.ok_mk (ApuD.tk_ok h1 hc'.2) h2' ?_
        have : ¬ x.apu.t % 16 = 15 := by simpa [ApuD.told] using ht
        show (x.samples.length : Int) = (x.apu.t + 1) / 16
        omega
      · simp only [if_true]
        refine SoundD.ok_mk (ApuD.tk_ok h1 hc'.2) h2' ?_
        have : x.apu.t % 16 = 15 := by simpa [ApuD.told] using ht
        show ((x.samples ++ [x.apu.smp]).length : Int) = (x.apu.t + 1) / 16
        simp only [List.length_append, List.length_cons, List.length_nil]
        omega
  · simp only [if_true]
    refine SoundD.ok_mk (ApuD.write_ok h1 _ _) ?_ ?_
    · show x.ring.tail.from_ (x.apu.write _ _).t = true
      rw [ApuD.write_t]
      exact RingD.from_tail h2 hi
    · show (x.samples.length : Int) = (x.apu.write _ _).t / 16
      rw [ApuD.write_t]
      exact h3
theorem SoundD.stp_mu {x : SoundD} (h : x.ok = true) (m : Int) (hm : x.more m = true) : (x.stp m).mu + 1 = x.mu := by
  obtain ⟨h1, h2, h3⟩ := SoundD.ok_at h
  unfold SoundD.stp SoundD.mu
  unfold SoundD.more at hm
  cases hi : x.is
  · rw [hi, Bool.false_or] at hm
    have hc' : x.apu.t < m ∧ x.apu.t < 20000 := of_decide_eq_true hm
    simp only [Bool.false_eq_true, if_false, hm, if_true]
    have e : ∀ s, (SoundD.mk x.apu.tk x.ring s).ring.list.length + (20000 - (SoundD.mk x.apu.tk x.ring s).apu.t).toNat + 1 = x.ring.list.length + (20000 - x.apu.t).toNat := fun s => by
      show x.ring.list.length + (20000 - (x.apu.t + 1)).toNat + 1 = _
      omega
    split <;> exact e _
  · simp only [if_true, ApuD.write_t, RingD.tail_len]
    have := (RingD.is_pos hi).1
    omega
theorem SoundD.stp_same {x : SoundD} (m : Int) (hm : x.more m = false) : x.stp m = x := by
  unfold SoundD.more at hm
  rw [Bool.or_eq_false_iff] at hm
  simp [SoundD.stp, hm.1, hm.2]
def SoundD.catchN : Nat → SoundD → Int → SoundD
  | 0, x, _ => x
  | n + 1, x, m => if x.more m = true then SoundD.catchN n (x.stp m) m else x
def SoundD.catch_ (x : SoundD) (m : Int) : SoundD := SoundD.catchN x.mu x m
theorem SoundD.catch_more {x : SoundD} (h : x.ok = true) (m : Int) (hm : x.more m = true) : (x.stp m).catch_ m = x.catch_ m := by
  have h1 := SoundD.stp_mu h m hm
  show SoundD.catchN _ _ _ = SoundD.catchN x.mu x m
  rw [← h1]
  show _ = if x.more m = true then SoundD.catchN (x.stp m).mu (x.stp m) m else x
  rw [if_pos hm]
theorem SoundD.catch_done {x : SoundD} (m : Int) (hm : x.more m = false) : x.catch_ m = x := by
  unfold SoundD.catch_
  cases x.mu with
  | zero => rfl
  | succ n =>
    show (if x.more m = true then _ else x) = x
    rw [hm]
    rfl
theorem SoundD.catchN_ok : ∀ (n : Nat) (x : SoundD) (m : Int), x.ok = true → (SoundD.catchN n x m).ok = true
  | 0, x, m, h => h
  | n + 1, x, m, h => by
    show (if x.more m = true then SoundD.catchN n (x.stp m) m else x).ok = true
    split
    · exact SoundD.catchN_ok n _ m (SoundD.stp_ok h m)
    · exact h
theorem SoundD.catch_ok {x : SoundD} (h : x.ok = true) (m : Int) : (x.catch_ m).ok = true := SoundD.catchN_ok _ _ _ h
def SoundD.zero : SoundD := ⟨ApuD.zero, RingD.zero, []⟩
def SoundD.step (x : SoundD) (m : Int) : SoundD := if x.ok = true then x.stp m else SoundD.zero
def SoundD.stepB (x : SoundD) (m : Int) : Bool := if x.ok = true then x.more m else false
def SoundD.caught (x : SoundD) (m : Int) : SoundD := if x.ok = true then x.catch_ m else SoundD.zero
theorem SoundD.ok_mk_ {x : SoundD} (h : x.ok = true) : x.mk_ ≤ 100000 := by
  obtain ⟨h1, h2, h3⟩ := SoundD.ok_at h
  have h4 := RingD.ok_len (RingD.from_at h2).1
  have h5 := (ApuD.ok_iff _).1 h1
  unfold SoundD.mk_ RingD.mk_
  omega
theorem SoundD.step_mk (x : SoundD) (m : Int) : (x.step m).mk_ ≤ 100000 := by
  unfold SoundD.step
  split
  · exact SoundD.ok_mk_ (SoundD.stp_ok (by assumption) m)
  · simp [SoundD.zero, SoundD.mk_, RingD.mk_, RingD.zero]
theorem SoundD.caught_mk (x : SoundD) (m : Int) : (x.caught m).mk_ ≤ 100000 := by
  unfold SoundD.caught
  split
  · exact SoundD.ok_mk_ (SoundD.catch_ok (by assumption) m)
  · simp [SoundD.zero, SoundD.mk_, RingD.mk_, RingD.zero]
/-- The whole, its row of records within a block. -/
def soundO (x : SoundD) (q : SoundP) : Ast := Ast.all [ringO x.ring q.ring, intsA q.samples (x.samples)]
theorem soundO_fp (x : SoundD) (q : SoundP) : (soundR x q).fp = (soundO x q).fp := by
  unfold soundR soundO Ast.all
  simp only [List.flatMap_cons, List.flatMap_nil, ringO_fp]
  rfl
theorem soundR_ofO {w : World} {x : SoundD} {q : SoundP} (h : (soundO x q).p w) : (soundR x q).p w := by
  intro a ha
  simp only [List.mem_cons, List.not_mem_nil, or_false] at ha
  rcases ha with rfl | rfl
  · exact ringR_ofO (h (ringO x.ring q.ring) (by simp))
  · exact own_row (h (intsA q.samples x.samples) (by simp))
theorem SoundIn.ofO {w : World} {x : SoundD} {q : SoundP} (h : (soundO x q).p w) : SoundIn w x q := ⟨RingIn.ofO (h _ (by simp)), InI.of (h _ (by simp))⟩
end Go.Proofs.YtjgggmcnbdjdjaaGreat.C
