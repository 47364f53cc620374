/- What a step of the picture unit that comes after does, as data. -/
import Derived.Test.YtjgggmcnbdjdjaaGreatV
import Derived.Test.YtjgggmcnbdjdjaaGreatQ6
namespace Go.Proofs.YtjgggmcnbdjdjaaGreat.C
open Go.RowKit Go.Proofs.YtjgggmcnbdjdjaaGreat.K Go.Proofs.YtjgggmcnbdjdjaaGreat.B
set_option maxRecDepth 20000
set_option linter.unusedVariables false
set_option linter.unusedSimpArgs false
theorem full_snoc {rs : List (List Int)} {r : List Int} (h : full rs = true) (hr : r.length = 48) : full (rs ++ [r]) = true := by
  unfold full at *
  rw [List.all_append, h]
  simp [hr]
def PictureD.is (x : PictureD) : Bool := x.ring.is x.ppu.t
def PictureD.can (x : PictureD) (m : Int) : Bool := decide (x.ppu.t < m ∧ x.ppu.t < 20000)
def PictureD.more (x : PictureD) (m : Int) : Bool := x.is || x.can m
def PictureD.stp (x : PictureD) (m : Int) : PictureD :=
  if x.is = true then ⟨x.ppu.wr (rdr x.ring.list 0).r (rdr x.ring.list 0).v, x.ring.tail, x.frames⟩
  else if x.can m = true then (if x.ppu.told = true then ⟨x.ppu.tk, x.ring, x.frames ++ [x.ppu.frame]⟩ else ⟨x.ppu.tk, x.ring, x.frames⟩) else x
def PictureD.mu (x : PictureD) : Nat := x.ring.list.length + (20000 - x.ppu.t).toNat
theorem PictureD.ok_at {x : PictureD} (h : x.ok = true) : x.ppu.ok = true ∧ x.ring.from_ x.ppu.t = true ∧ full x.frames = true ∧ (x.frames.length : Int) = (x.ppu.t + 15) / 64 := by
  unfold PictureD.ok framesB at h
  rw [Bool.and_eq_true, Bool.and_eq_true, Bool.and_eq_true, beq_iff_eq] at h
  exact h
theorem PictureD.ok_mk {x : PictureD} (h1 : x.ppu.ok = true) (h2 : x.ring.from_ x.ppu.t = true) (h3 : full x.frames = true) (h4 : (x.frames.length : Int) = (x.ppu.t + 15) / 64) : x.ok = true := by
  unfold PictureD.ok framesB
  rw [Bool.and_eq_true, Bool.and_eq_true, Bool.and_eq_true, beq_iff_eq]
  exact ⟨h1, h2, h3, h4⟩
theorem PictureD.stp_ok {x : PictureD} (h : x.ok = true) (m : Int) : (x.stp m).ok = true := by
  obtain ⟨h1, h2, h3, h4⟩ := PictureD.ok_at h
  unfold PictureD.stp
  cases hi : x.is
  · simp only [Bool.false_eq_true, if_false]
    cases hc : x.can m
    · simpa using h
    · have hc' : x.ppu.t < m ∧ x.ppu.t < 20000 := of_decide_eq_true hc
      have h2' := RingD.from_next h2 hi
      have hp := (PpuD.ok_at h1).1
      simp only [if_true]
      cases ht : x.ppu.told
      · simp only [Bool.false_eq_true, if_false]
        have : ¬ x.ppu.t % 64 = 48 := by simpa [PpuD.told] using ht
        refine PictureD.ok_mk (PpuD.tk_ok h1 hc'.2) (by show x.ring.from_ x.ppu.tk.t = true; rw [PpuD.tk_t]; exact h2') h3 ?_
        show (x.frames.length : Int) = (x.ppu.tk.t + 15) / 64
        rw [PpuD.tk_t]
        omega
      · simp only [if_true]
        have h48 : x.ppu.t % 64 = 48 := by simpa [PpuD.told] using ht
        have hl := (PpuD.ok_at h1).2.2.2.2.2.2.2.1
        unfold dotsN at hl
        refine PictureD.ok_mk (PpuD.tk_ok h1 hc'.2) (by show x.ring.from_ x.ppu.tk.t = true; rw [PpuD.tk_t]; exact h2') (full_snoc h3 (by unfold PpuD.frame; rw [if_pos h48]; split at hl <;> omega)) ?_
        show ((x.frames ++ [x.ppu.frame]).length : Int) = (x.ppu.tk.t + 15) / 64
        rw [PpuD.tk_t]
        simp only [List.length_append, List.length_cons, List.length_nil]
        omega
  · simp only [if_true]
    refine PictureD.ok_mk (PpuD.wr_ok h1 _ _) ?_ h3 ?_
    · show x.ring.tail.from_ (x.ppu.wr _ _).t = true
      rw [PpuD.wr_t]
      exact RingD.from_tail h2 hi
    · show (x.frames.length : Int) = ((x.ppu.wr _ _).t + 15) / 64
      rw [PpuD.wr_t]
      exact h4
theorem PictureD.stp_mu {x : PictureD} (h : x.ok = true) (m : Int) (hm : x.more m = true) : (x.stp m).mu + 1 = x.mu := by
  obtain ⟨h1, h2, h3, h4⟩ := PictureD.ok_at h
  unfold PictureD.stp PictureD.mu
  unfold PictureD.more at hm
  cases hi : x.is
  · rw [hi, Bool.false_or] at hm
    have hc' : x.ppu.t < m ∧ x.ppu.t < 20000 := of_decide_eq_true hm
    simp only [Bool.false_eq_true, if_false, hm, if_true]
    have e : ∀ s, (PictureD.mk x.ppu.tk x.ring s).ring.list.length + (20000 - (PictureD.mk x.ppu.tk x.ring s).ppu.t).toNat + 1 = x.ring.list.length + (20000 - x.ppu.t).toNat := fun s => by
      show x.ring.list.length + (20000 - x.ppu.tk.t).toNat + 1 = _
      rw [PpuD.tk_t]
      omega
    split <;> exact e _
  · simp only [if_true, PpuD.wr_t, RingD.tail_len]
    have := (RingD.is_pos hi).1
    omega
theorem PictureD.stp_same {x : PictureD} (m : Int) (hm : x.more m = false) : x.stp m = x := by
  unfold PictureD.more at hm
  rw [Bool.or_eq_false_iff] at hm
  simp [PictureD.stp, hm.1, hm.2]
def PictureD.catchN : Nat → PictureD → Int → PictureD
  | 0, x, _ => x
  | n + 1, x, m => if x.more m = true then PictureD.catchN n (x.stp m) m else x
def PictureD.catch_ (x : PictureD) (m : Int) : PictureD := PictureD.catchN x.mu x m
theorem PictureD.catch_more {x : PictureD} (h : x.ok = true) (m : Int) (hm : x.more m = true) : (x.stp m).catch_ m = x.catch_ m := by
  have h1 := PictureD.stp_mu h m hm
  show PictureD.catchN _ _ _ = PictureD.catchN x.mu x m
  rw [← h1]
  show _ = if x.more m = true then PictureD.catchN (x.stp m).mu (x.stp m) m else x
  rw [if_pos hm]
theorem PictureD.catch_done {x : PictureD} (m : Int) (hm : x.more m = false) : x.catch_ m = x := by
  unfold PictureD.catch_
  cases x.mu with
  | zero => rfl
  | succ n =>
    show (if x.more m = true then _ else x) = x
    rw [hm]
    rfl
theorem PictureD.catchN_ok : ∀ (n : Nat) (x : PictureD) (m : Int), x.ok = true → (PictureD.catchN n x m).ok = true
  | 0, x, m, h => h
  | n + 1, x, m, h => by
    show (if x.more m = true then PictureD.catchN n (x.stp m) m else x).ok = true
    split
    · exact PictureD.catchN_ok n _ m (PictureD.stp_ok h m)
    · exact h
theorem PictureD.catch_ok {x : PictureD} (h : x.ok = true) (m : Int) : (x.catch_ m).ok = true := PictureD.catchN_ok _ _ _ h
def PpuD.zero_ : PpuD := ⟨0, 0, 0, 0, 0, false, [], []⟩
def PictureD.zero : PictureD := ⟨PpuD.zero_, RingD.zero, []⟩
def PictureD.step (x : PictureD) (m : Int) : PictureD := if x.ok = true then x.stp m else PictureD.zero
def PictureD.stepB (x : PictureD) (m : Int) : Bool := if x.ok = true then x.more m else false
def PictureD.caught (x : PictureD) (m : Int) : PictureD := if x.ok = true then x.catch_ m else PictureD.zero
theorem lens_full : ∀ rs : List (List Int), full rs = true → lens rs = rs.length * 48
  | [], _ => rfl
  | r :: rs, h => by
    simp only [full, List.all_cons, Bool.and_eq_true, beq_iff_eq] at h
    have ih := lens_full rs h.2
    simp only [lens, List.length_cons, ih, h.1]
    omega
theorem PictureD.ok_mk_ {x : PictureD} (h : x.ok = true) : x.mk_ ≤ 100000 := by
  obtain ⟨h1, h2, h3, h4⟩ := PictureD.ok_at h
  have h5 := RingD.ok_len (RingD.from_at h2).1
  have h6 := lens_full _ h3
  obtain ⟨p1, p2, p3, p4, p5, p6, p7, p8, p9⟩ := PpuD.ok_at h1
  have h7 : (x.ppu.dots.length : Int) ≤ 48 := by unfold dotsN at p8; split at p8 <;> omega
  unfold PictureD.mk_ RingD.mk_ PpuD.mk_
  omega
theorem PictureD.zero_mk : PictureD.zero.mk_ ≤ 100000 := by simp [PictureD.zero, PictureD.mk_, RingD.mk_, RingD.zero, PpuD.mk_, PpuD.zero_, lens]
theorem PictureD.step_mk (x : PictureD) (m : Int) : (x.step m).mk_ ≤ 100000 := by
  unfold PictureD.step
  split
  · exact PictureD.ok_mk_ (PictureD.stp_ok (by assumption) m)
  · exact PictureD.zero_mk
theorem PictureD.caught_mk (x : PictureD) (m : Int) : (x.caught m).mk_ ≤ 100000 := by
  unfold PictureD.caught
  split
  · exact PictureD.ok_mk_ (PictureD.catch_ok (by assumption) m)
  · exact PictureD.zero_mk
def pictureO (x : PictureD) (q : PictureP) : Ast := Ast.all [ppuA x.ppu q.ppu, ringO x.ring q.ring, rowsA q.frames x.frames]
theorem pictureO_fp (x : PictureD) (q : PictureP) : (pictureR x q).fp = (pictureO x q).fp := by
  unfold pictureR pictureO Ast.all
  simp only [List.flatMap_cons, List.flatMap_nil, ringO_fp, ppuR_fp, rowsR_fp]
theorem pictureR_ofO {w : World} {x : PictureD} {q : PictureP} (h : (pictureO x q).p w) : (pictureR x q).p w := by
  intro a ha
  simp only [List.mem_cons, List.not_mem_nil, or_false] at ha
  rcases ha with rfl | rfl | rfl
  · exact ppuR_of (h (ppuA x.ppu q.ppu) (by simp))
  · exact ringR_ofO (h (ringO x.ring q.ring) (by simp))
  · exact rowsR_of (h (rowsA q.frames x.frames) (by simp))
theorem PictureIn.ofO {w : World} {x : PictureD} {q : PictureP} (h : (pictureO x q).p w) : PictureIn w x q := ⟨PpuIn.of (h _ (by simp)), RingIn.ofO (h _ (by simp)), InRR.of (h _ (by simp))⟩
end Go.Proofs.YtjgggmcnbdjdjaaGreat.C
