/- What catching up comes to, as data: in two goes it is the same. (written by v3gen.py) -/
import Derived.Test.YtodjaobmhiglcaaV2
namespace Go.Proofs.Ytodjaobmhiglcaa.C
open Go.RowKit Go.Proofs.Ytodjaobmhiglcaa.K Go.Proofs.Ytodjaobmhiglcaa.B
set_option maxRecDepth 20000
set_option linter.unusedVariables false
set_option linter.unusedSimpArgs false
theorem SoundD.stp_t (x : SoundD) (m : Int) : (x.stp m).apu.t = if x.is = true then x.apu.t else if x.can m = true then x.apu.t + 1 else x.apu.t := by
  unfold SoundD.stp
  cases hi : x.is
  · simp only [Bool.false_eq_true, if_false]
    cases hc : x.can m
    · simp
    · simp only [if_true]
      split <;> rfl
  · simp only [if_true, ApuD.write_t]
theorem SoundD.can_at {x : SoundD} {m : Int} : x.can m = true ↔ x.apu.t < m ∧ x.apu.t < 20000 := decide_eq_true_iff
theorem SoundD.can_not {x : SoundD} {m : Int} : x.can m = false ↔ ¬ (x.apu.t < m ∧ x.apu.t < 20000) := decide_eq_false_iff_not
theorem SoundD.t_in {x : SoundD} (h : x.ok = true) : 0 ≤ x.apu.t ∧ x.apu.t ≤ 20000 := by
  obtain ⟨h1, h2, h3⟩ := SoundD.ok_at h
  have h5 := (ApuD.ok_iff _).1 h1
  omega
theorem SoundD.step_t (x : SoundD) (m : Int) : 0 ≤ (x.step m).apu.t ∧ (x.step m).apu.t ≤ 20000 := by
  unfold SoundD.step
  split
  · exact SoundD.t_in (SoundD.stp_ok (by assumption) m)
  · exact ⟨by decide, by decide⟩
/-- To go by turns: what holds of every step holds of the whole. -/
theorem SoundD.catch_ind (m : Int) (P : SoundD → Prop) (hd : ∀ x : SoundD, x.ok = true → x.more m = false → P x) (hs : ∀ x : SoundD, x.ok = true → x.more m = true → P (x.stp m) → P x) : ∀ (n : Nat) (x : SoundD), x.mu ≤ n → x.ok = true → P x
  | 0, x, hn, h => by
    cases hm : x.more m
    · exact hd x h hm
    · have := SoundD.stp_mu h m hm; omega
  | n + 1, x, hn, h => by
    cases hm : x.more m
    · exact hd x h hm
    · have := SoundD.stp_mu h m hm
      exact hs x h hm (SoundD.catch_ind m P hd hs n _ (by omega) (SoundD.stp_ok h m))
/-- No further record of that time, and no cycle ahead of the time wanted. -/
theorem SoundD.catch_end {x : SoundD} (h : x.ok = true) (m : Int) : (x.catch_ m).more m = false := by
  refine SoundD.catch_ind m (fun x => (x.catch_ m).more m = false) ?_ ?_ x.mu x (Nat.le_refl _) h
  · intro x h hm
    rw [SoundD.catch_done m hm]
    exact hm
  · intro x h hm ih
    rw [← SoundD.catch_more h m hm]
    exact ih
theorem SoundD.catch_ge {x : SoundD} (h : x.ok = true) (m : Int) : x.apu.t ≤ (x.catch_ m).apu.t := by
  refine SoundD.catch_ind m (fun x => x.apu.t ≤ (x.catch_ m).apu.t) ?_ ?_ x.mu x (Nat.le_refl _) h
  · intro x h hm
    rw [SoundD.catch_done m hm]
    exact Int.le_refl _
  · intro x h hm ih
    rw [← SoundD.catch_more h m hm]
    refine Int.le_trans ?_ ih
    rw [SoundD.stp_t]
    split
    · exact Int.le_refl _
    · split <;> omega
theorem SoundD.catch_le {x : SoundD} (h : x.ok = true) (m : Int) (h1 : x.apu.t ≤ m) : (x.catch_ m).apu.t ≤ m := by
  refine SoundD.catch_ind m (fun x => x.apu.t ≤ m → (x.catch_ m).apu.t ≤ m) ?_ ?_ x.mu x (Nat.le_refl _) h h1
  · intro x h hm h1
    rw [SoundD.catch_done m hm]
    exact h1
  · intro x h hm ih h1
    rw [← SoundD.catch_more h m hm]
    refine ih ?_
    rw [SoundD.stp_t]
    split
    · exact h1
    · split
      · rename_i hc
        have := (SoundD.can_at.1 hc).1
        omega
      · exact h1
theorem SoundD.catch_reach {x : SoundD} (h : x.ok = true) (m : Int) (h1 : x.apu.t ≤ m) (h2 : m ≤ 20000) : (x.catch_ m).apu.t = m := by
  have h3 := SoundD.catch_le h m h1
  have h4 := SoundD.catch_end h m
  unfold SoundD.more at h4
  rw [Bool.or_eq_false_iff] at h4
  have h5 := SoundD.can_not.1 h4.2
  omega
/-- Where the time is there already, how far is wanted makes no odds. -/
theorem SoundD.catch_low {x : SoundD} (h : x.ok = true) (m k : Int) (h1 : m ≤ x.apu.t) (h2 : k ≤ x.apu.t) : x.catch_ m = x.catch_ k := by
  refine SoundD.catch_ind m (fun x => m ≤ x.apu.t → k ≤ x.apu.t → x.catch_ m = x.catch_ k) ?_ ?_ x.mu x (Nat.le_refl _) h h1 h2
  · intro x h hm h1 h2
    have hi : x.is = false := by
      unfold SoundD.more at hm
      exact (Bool.or_eq_false_iff.1 hm).1
    rw [SoundD.catch_done m hm, SoundD.catch_done k]
    unfold SoundD.more
    rw [hi, Bool.false_or, SoundD.can_not]
    omega
  · intro x h hm ih h1 h2
    have hc : x.can m = false := SoundD.can_not.2 (by omega)
    have hi : x.is = true := by
      unfold SoundD.more at hm
      rw [hc, Bool.or_false] at hm
      exact hm
    have hk : x.more k = true := by
      unfold SoundD.more
      rw [hi, Bool.true_or]
    have hs : x.stp k = x.stp m := by
      unfold SoundD.stp
      rw [if_pos hi, if_pos hi]
    have ht : (x.stp m).apu.t = x.apu.t := by rw [SoundD.stp_t, if_pos hi]
    rw [← SoundD.catch_more h m hm, ← SoundD.catch_more h k hk, hs]
    exact ih (by omega) (by omega)
/-- In two goes it comes to the same. -/
theorem SoundD.catch_two {x : SoundD} (h : x.ok = true) (k m : Int) (h1 : k ≤ m) : (x.catch_ k).catch_ m = x.catch_ m := by
  refine SoundD.catch_ind k (fun x => (x.catch_ k).catch_ m = x.catch_ m) ?_ ?_ x.mu x (Nat.le_refl _) h
  · intro x h hm
    rw [SoundD.catch_done k hm]
  · intro x h hk ih
    have hb : x.is = true ∨ (x.is = false ∧ x.can k = true ∧ x.can m = true) := by
      cases hi : x.is
      · refine .inr ⟨rfl, ?_⟩
        unfold SoundD.more at hk
        rw [hi, Bool.false_or] at hk
        have := SoundD.can_at.1 hk
        exact ⟨hk, SoundD.can_at.2 ⟨by omega, this.2⟩⟩
      · exact .inl rfl
    have hm : x.more m = true := by
      unfold SoundD.more
      rcases hb with hi | ⟨hi, _, hc⟩
      · rw [hi, Bool.true_or]
      · rw [hc, Bool.or_true]
    have hs : x.stp k = x.stp m := by
      unfold SoundD.stp
      rcases hb with hi | ⟨hi, hc, hc'⟩
      · rw [if_pos hi, if_pos hi]
      · rw [hc, hc']
    rw [← SoundD.catch_more h k hk, ← SoundD.catch_more h m hm, ih, hs]
/-- What a step that went did. -/
theorem SoundD.step_went {x : SoundD} {m : Int} (h : x.stepB m = true) : ((x.step m).apu.t = x.apu.t ∧ (x.step m).ring.list.length + 1 = x.ring.list.length) ∨ ((x.step m).apu.t = x.apu.t + 1 ∧ x.apu.t < m ∧ (x.step m).ring.list.length = x.ring.list.length) := by
  unfold SoundD.stepB at h
  unfold SoundD.step
  split at h
  · rename_i ho
    rw [if_pos ho, SoundD.stp_t]
    cases hi : x.is
    · unfold SoundD.more at h
      rw [hi, Bool.false_or] at h
      have hc := SoundD.can_at.1 h
      refine .inr ⟨by simp [h], hc.1, ?_⟩
      unfold SoundD.stp
      rw [hi, h]
      simp only [Bool.false_eq_true, if_false, if_true]
      split <;> rfl
    · refine .inl ⟨by simp, ?_⟩
      have := (RingD.is_pos hi).1
      unfold SoundD.stp
      rw [if_pos hi]
      simp only [RingD.tail_len]
      omega
  · cases h
/-- A step that did not go left all as it was. -/
theorem SoundD.step_not {x : SoundD} {m : Int} (h : x.stepB m = false) : x.step m = SoundD.zero ∨ x.step m = x := by
  unfold SoundD.stepB at h
  unfold SoundD.step
  split at h
  · rename_i ho
    rw [if_pos ho]
    exact .inr (SoundD.stp_same m h)
  · rename_i ho
    rw [if_neg ho]
    exact .inl rfl
theorem PictureD.stp_t (x : PictureD) (m : Int) : (x.stp m).ppu.t = if x.is = true then x.ppu.t else if x.can m = true then x.ppu.t + 1 else x.ppu.t := by
  unfold PictureD.stp
  cases hi : x.is
  · simp only [Bool.false_eq_true, if_false]
    cases hc : x.can m
    · simp
    · simp only [if_true]
      split <;> exact PpuD.tk_t _
  · simp only [if_true, PpuD.wr_t]
theorem PictureD.can_at {x : PictureD} {m : Int} : x.can m = true ↔ x.ppu.t < m ∧ x.ppu.t < 20000 := decide_eq_true_iff
theorem PictureD.can_not {x : PictureD} {m : Int} : x.can m = false ↔ ¬ (x.ppu.t < m ∧ x.ppu.t < 20000) := decide_eq_false_iff_not
theorem PictureD.t_in {x : PictureD} (h : x.ok = true) : 0 ≤ x.ppu.t ∧ x.ppu.t ≤ 20000 := (PpuD.ok_at (PictureD.ok_at h).1).1
theorem PictureD.step_t (x : PictureD) (m : Int) : 0 ≤ (x.step m).ppu.t ∧ (x.step m).ppu.t ≤ 20000 := by
  unfold PictureD.step
  split
  · exact PictureD.t_in (PictureD.stp_ok (by assumption) m)
  · exact ⟨by decide, by decide⟩
/-- To go by turns: what holds of every step holds of the whole. -/
theorem PictureD.catch_ind (m : Int) (P : PictureD → Prop) (hd : ∀ x : PictureD, x.ok = true → x.more m = false → P x) (hs : ∀ x : PictureD, x.ok = true → x.more m = true → P (x.stp m) → P x) : ∀ (n : Nat) (x : PictureD), x.mu ≤ n → x.ok = true → P x
  | 0, x, hn, h => by
    cases hm : x.more m
    · exact hd x h hm
    · have := PictureD.stp_mu h m hm; omega
  | n + 1, x, hn, h => by
    cases hm : x.more m
    · exact hd x h hm
    · have := PictureD.stp_mu h m hm
      exact hs x h hm (PictureD.catch_ind m P hd hs n _ (by omega) (PictureD.stp_ok h m))
/-- No further record of that time, and no cycle ahead of the time wanted. -/
theorem PictureD.catch_end {x : PictureD} (h : x.ok = true) (m : Int) : (x.catch_ m).more m = false := by
  refine PictureD.catch_ind m (fun x => (x.catch_ m).more m = false) ?_ ?_ x.mu x (Nat.le_refl _) h
  · intro x h hm
    rw [PictureD.catch_done m hm]
    exact hm
  · intro x h hm ih
    rw [← PictureD.catch_more h m hm]
    exact ih
theorem PictureD.catch_ge {x : PictureD} (h : x.ok = true) (m : Int) : x.ppu.t ≤ (x.catch_ m).ppu.t := by
  refine PictureD.catch_ind m (fun x => x.ppu.t ≤ (x.catch_ m).ppu.t) ?_ ?_ x.mu x (Nat.le_refl _) h
  · intro x h hm
    rw [PictureD.catch_done m hm]
    exact Int.le_refl _
  · intro x h hm ih
    rw [← PictureD.catch_more h m hm]
    refine Int.le_trans ?_ ih
    rw [PictureD.stp_t]
    split
    · exact Int.le_refl _
    · split <;> omega
theorem PictureD.catch_le {x : PictureD} (h : x.ok = true) (m : Int) (h1 : x.ppu.t ≤ m) : (x.catch_ m).ppu.t ≤ m := by
  refine PictureD.catch_ind m (fun x => x.ppu.t ≤ m → (x.catch_ m).ppu.t ≤ m) ?_ ?_ x.mu x (Nat.le_refl _) h h1
  · intro x h hm h1
    rw [PictureD.catch_done m hm]
    exact h1
  · intro x h hm ih h1
    rw [← PictureD.catch_more h m hm]
    refine ih ?_
    rw [PictureD.stp_t]
    split
    · exact h1
    · split
      · rename_i hc
        have := (PictureD.can_at.1 hc).1
        omega
      · exact h1
theorem PictureD.catch_reach {x : PictureD} (h : x.ok = true) (m : Int) (h1 : x.ppu.t ≤ m) (h2 : m ≤ 20000) : (x.catch_ m).ppu.t = m := by
  have h3 := PictureD.catch_le h m h1
  have h4 := PictureD.catch_end h m
  unfold PictureD.more at h4
  rw [Bool.or_eq_false_iff] at h4
  have h5 := PictureD.can_not.1 h4.2
  omega
/-- Where the time is there already, how far is wanted makes no odds. -/
theorem PictureD.catch_low {x : PictureD} (h : x.ok = true) (m k : Int) (h1 : m ≤ x.ppu.t) (h2 : k ≤ x.ppu.t) : x.catch_ m = x.catch_ k := by
  refine PictureD.catch_ind m (fun x => m ≤ x.ppu.t → k ≤ x.ppu.t → x.catch_ m = x.catch_ k) ?_ ?_ x.mu x (Nat.le_refl _) h h1 h2
  · intro x h hm h1 h2
    have hi : x.is = false := by
      unfold PictureD.more at hm
      exact (Bool.or_eq_false_iff.1 hm).1
    rw [PictureD.catch_done m hm, PictureD.catch_done k]
    unfold PictureD.more
    rw [hi, Bool.false_or, PictureD.can_not]
    omega
  · intro x h hm ih h1 h2
    have hc : x.can m = false := PictureD.can_not.2 (by omega)
    have hi : x.is = true := by
      unfold PictureD.more at hm
      rw [hc, Bool.or_false] at hm
      exact hm
    have hk : x.more k = true := by
      unfold PictureD.more
      rw [hi, Bool.true_or]
    have hs : x.stp k = x.stp m := by
      unfold PictureD.stp
      rw [if_pos hi, if_pos hi]
    have ht : (x.stp m).ppu.t = x.ppu.t := by rw [PictureD.stp_t, if_pos hi]
    rw [← PictureD.catch_more h m hm, ← PictureD.catch_more h k hk, hs]
    exact ih (by omega) (by omega)
/-- In two goes it comes to the same. -/
theorem PictureD.catch_two {x : PictureD} (h : x.ok = true) (k m : Int) (h1 : k ≤ m) : (x.catch_ k).catch_ m = x.catch_ m := by
  refine PictureD.catch_ind k (fun x => (x.catch_ k).catch_ m = x.catch_ m) ?_ ?_ x.mu x (Nat.le_refl _) h
  · intro x h hm
    rw [PictureD.catch_done k hm]
  · intro x h hk ih
    have hb : x.is = true ∨ (x.is = false ∧ x.can k = true ∧ x.can m = true) := by
      cases hi : x.is
      · refine .inr ⟨rfl, ?_⟩
        unfold PictureD.more at hk
        rw [hi, Bool.false_or] at hk
        have := PictureD.can_at.1 hk
        exact ⟨hk, PictureD.can_at.2 ⟨by omega, this.2⟩⟩
      · exact .inl rfl
    have hm : x.more m = true := by
      unfold PictureD.more
      rcases hb with hi | ⟨hi, _, hc⟩
      · rw [hi, Bool.true_or]
      · rw [hc, Bool.or_true]
    have hs : x.stp k = x.stp m := by
      unfold PictureD.stp
      rcases hb with hi | ⟨hi, hc, hc'⟩
      · rw [if_pos hi, if_pos hi]
      · rw [hc, hc']
    rw [← PictureD.catch_more h k hk, ← PictureD.catch_more h m hm, ih, hs]
/-- What a step that went did. -/
theorem PictureD.step_went {x : PictureD} {m : Int} (h : x.stepB m = true) : ((x.step m).ppu.t = x.ppu.t ∧ (x.step m).ring.list.length + 1 = x.ring.list.length) ∨ ((x.step m).ppu.t = x.ppu.t + 1 ∧ x.ppu.t < m ∧ (x.step m).ring.list.length = x.ring.list.length) := by
  unfold PictureD.stepB at h
  unfold PictureD.step
  split at h
  · rename_i ho
    rw [if_pos ho, PictureD.stp_t]
    cases hi : x.is
    · unfold PictureD.more at h
      rw [hi, Bool.false_or] at h
      have hc := PictureD.can_at.1 h
      refine .inr ⟨by simp [h], hc.1, ?_⟩
      unfold PictureD.stp
      rw [hi, h]
      simp only [Bool.false_eq_true, if_false, if_true]
      split <;> rfl
    · refine .inl ⟨by simp, ?_⟩
      have := (RingD.is_pos hi).1
      unfold PictureD.stp
      rw [if_pos hi]
      simp only [RingD.tail_len]
      omega
  · cases h
/-- A step that did not go left all as it was. -/
theorem PictureD.step_not {x : PictureD} {m : Int} (h : x.stepB m = false) : x.step m = PictureD.zero ∨ x.step m = x := by
  unfold PictureD.stepB at h
  unfold PictureD.step
  split at h
  · rename_i ho
    rw [if_pos ho]
    exact .inr (PictureD.stp_same m h)
  · rename_i ho
    rw [if_neg ho]
    exact .inl rfl
end Go.Proofs.Ytodjaobmhiglcaa.C
