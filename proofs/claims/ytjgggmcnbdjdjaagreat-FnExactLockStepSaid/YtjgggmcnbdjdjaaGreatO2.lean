/- Words of my own for a region that draws its order: it is walked ONCE. What only reads may be taken first ("floats"); behind whatever then turns the world, what was taken first is shown to read the same still. -/
import Derived.Test.YtjgggmcnbdjdjaaGreatO
import Derived.Still
import Derived.Test.YtjgggmcnbdjdjaaGreatE
namespace Go.Proofs.YtjgggmcnbdjdjaaGreat.K
open Go.RowKit
set_option maxRecDepth 20000
set_option linter.unusedVariables false
set_option linter.unusedSimpArgs false
section
variable {P : Program} {ops : Array Oper} {Q : Exit → Act → World → Prop} {md : Region.Mode}

/-- What comes of an operation, its value told apart from the frame; it does not panic. -/
def effV (P : Program) (K : Value → World → Prop) : Result Next → Prop
  | .ok (.value v) w' => K v w'
  | .ok .skip w' => K undef w'
  | .ok (.enter f args) w' => Calls P f args w' fun e w'' => ∃ v, e = .returned v ∧ K v w''
  | .ok (.row row args) w' => Rows P row args w' fun v w'' => K v w''
  | _ => False
def effO (P : Program) (ops : Array Oper) (o : Oper) (a : Act) (w : World) (K : Value → World → Prop) : Prop :=
  if Region.wanted o (yielded ops a.tmps) then effV P K ((execOp a.eval o).run P w) else K undef w
/-- The operation leaves v and nothing else. -/
def Gives (P : Program) (ops : Array Oper) (w : World) (o : Oper) (v : Value) (a : Act) : Prop := effO P ops o a w fun u w' => u = v ∧ w' = w

theorem effV_mono {K K' : Value → World → Prop} {r : Result Next} (h : ∀ v w, K v w → K' v w) (hh : effV P K r) : effV P K' r := by
  cases r with
  | ok n w' =>
    cases n <;> simp only [effV] at hh ⊢
    case value v => exact h _ _ hh
    case skip => exact h _ _ hh
    case enter f args => exact hh.mono fun e w'' ⟨v, he, hk⟩ => ⟨v, he, h _ _ hk⟩
    case row row args => exact hh.mono fun v w'' hk => h _ _ hk
  | halt x w' => simp only [effV] at hh
theorem effO_mono {o : Oper} {a : Act} {w : World} {K K' : Value → World → Prop} (h : ∀ v w, K v w → K' v w) (hh : effO P ops o a w K) : effO P ops o a w K' := by
  unfold effO at *
  split
  · rename_i hw; rw [if_pos hw] at hh; exact effV_mono h hh
  · rename_i hw; rw [if_neg hw] at hh; exact h _ _ hh
theorem effO_put {o : Oper} (hs : ∀ cs b, o.op ≠ .select cs b) {a : Act} {w : World} {dst : Option Tmp} {v : Value} (h : ∀ d, dst = some d → d ∉ o.looksAt ops) {K : Value → World → Prop} : effO P ops o (a.put dst v) w K ↔ effO P ops o a w K := by
  unfold effO
  rw [execOp_put o hs a dst v h, wanted_put o a dst v h]
theorem wpOp_of_effO {i : Nat} {o : Oper} {a : Act} {w : World} {K : Act → World → Prop} (hi : ops[i]? = some o) (h : effO P ops o a w fun u w' => K (a.put o.dst u) w') : wpOp P ops Q i K a w := by
  unfold effO at h
  unfold wpOp
  simp only [hi]
  split
  · rename_i hw
    rw [if_pos hw] at h
    refine .inl ?_
    unfold Oper.wp
    generalize (execOp a.eval o).run P w = r at *
    cases r with
    | ok n w' =>
      cases n <;> simp only [effV, Oper.upon] at h ⊢
      case value v => exact h
      case skip => exact h
      case enter f args => exact h.mono fun e w'' ⟨v, he, hk⟩ => by subst he; exact hk
      case row row args => exact h
    | halt x w' => simp only [effV] at h
  · rename_i hw
    rw [if_neg hw] at h
    exact h
theorem effO_of_list {o : Oper} {a : Act} {w : World} {X : Act → World → Prop} (h : wpList P ops (fun e a' w' => e = .normal ∧ a'.defers = a.defers ∧ X a' w') [o] a w) : effO P ops o a w fun u w' => X (a.put o.dst u) w' := by
  unfold wpList at h
  unfold effO
  split
  · rename_i hw
    rw [if_pos hw] at h
    rcases h with h | ⟨_, a', w', h1, _⟩
    · unfold Oper.wp at h
      generalize (execOp a.eval o).run P w = r at *
      cases r with
      | ok n w' =>
        cases n <;> simp only [Oper.upon] at h <;> simp only [effV]
        case value v => exact h.2.2
        case skip => exact h.2.2
        case defer d =>
          have := h.2.1
          cases hd : o.dst <;> simp [hd, Act.put] at this
        case enter f args =>
          refine h.mono fun e w'' he => ?_
          cases e with
          | returned v => exact ⟨v, rfl, he.2.2⟩
          | panicked c => exact absurd he.1 (by simp)
          | outgrown => obtain ⟨_, _, h1, _⟩ := he; cases h1
        case row row args => exact h.mono fun v w'' he => he.2.2
      | halt x w' =>
        cases x <;> simp only [Oper.upon] at h
        exact absurd h.1 (by simp)
    · cases h1
  · rename_i hw
    rw [if_neg hw] at h
    exact h.2.2
theorem effV_ex {K : Value → World → Prop} {r : Result Next} (h : effV P K r) : ∃ v w', K v w' := by
  cases r with
  | ok n w' =>
    cases n <;> simp only [effV] at h
    case value v => exact ⟨_, _, h⟩
    case skip => exact ⟨_, _, h⟩
    case enter f args => obtain ⟨e, w'', fr, ⟨v, _, hk⟩, _⟩ := h []; exact ⟨_, _, hk⟩
    case row row args => obtain ⟨v, w'', hk, _⟩ := h (Frame.ofRow P row args .normal) []; exact ⟨_, _, hk⟩
  | halt x w' => simp only [effV] at h
theorem effO_ex {o : Oper} {a : Act} {w : World} {K : Value → World → Prop} (h : effO P ops o a w K) : ∃ v w', K v w' := by
  unfold effO at h
  split at h
  · exact effV_ex h
  · exact ⟨_, _, h⟩
theorem put_eval {a : Act} {d : Tmp} {v : Value} (h : d < a.tmps.size) : (a.put (some d) v).eval (.tmp d) = v := by
  simp [Act.eval, Act.put, h]
theorem put_size (a : Act) (d : Option Tmp) (v : Value) : (a.put d v).tmps.size = a.tmps.size := by cases d <;> simp [Act.put]
/-- From a walk of the operation alone, whatever is asked of what it leaves: it leaves just that. -/
theorem gives_of_list {o : Oper} {a a1 : Act} {w : World} {d : Tmp} (hd : o.dst = some d) (hb : d < a.tmps.size) (h : ∀ K : Act → World → Prop, K a1 w → wpList P ops (fun e a' w' => e = .normal ∧ a'.defers = a.defers ∧ K a' w') [o] a w) :
    Gives P ops w o (a1.eval (.tmp d)) a ∧ a1 = a.put (some d) (a1.eval (.tmp d)) := by
  have h1 := effO_of_list (h (fun a' w' => a' = a1 ∧ w' = w) ⟨rfl, rfl⟩)
  rw [hd] at h1
  have key : ∀ u, a.put (some d) u = a1 → u = a1.eval (.tmp d) := fun u hu => by rw [← hu, put_eval hb]
  obtain ⟨u, _, hu, _⟩ := effO_ex h1
  refine ⟨effO_mono (fun v w' hv => ⟨key v hv.1, hv.2⟩) h1, ?_⟩
  rw [← key u hu]; exact hu.symm

/-! ## what was taken first, and still reads the same -/
def KeptF (P : Program) (ops : Array Oper) (pend : List Nat) (a : Act) (w : World) : Prop := ∀ i, i ∈ pend → ∃ o d, ops[i]? = some o ∧ o.dst = some d ∧ Gives P ops w o (a.eval (.tmp d)) a
/-- Does j wait for x, by whatever road? -/
def reachB (md : Region.Mode) (ops : Array Oper) : Nat → Nat → Nat → Bool
  | 0, _, _ => false
  | n + 1, j, x => match ops[j]? with
    | some o => o.after.any fun e => Region.binds md e && (e.on == x || reachB md ops n e.on x)
    | none => false
def dropF (md : Region.Mode) (ops : Array Oper) (pend : List Nat) (j : Nat) : List Nat := pend.filter fun x => !reachB md ops ops.size j x
def wpAnyF (P : Program) (md : Region.Mode) (ops : Array Oper) (Q : Exit → Act → World → Prop) : List Nat → Nat → Array Bool → Act → World → Prop
  | _, 0, listed, a, w => Region.ready md ops listed = [] ∧ Q .normal a w
  | pend, f + 1, listed, a, w => (Region.ready md ops listed = [] → Q .normal a w) ∧ ∀ j ∈ Region.ready md ops listed, ∃ o, ops[j]? = some o ∧
      effO P ops o a w fun u w' => KeptF P ops (dropF md ops pend j) (a.put o.dst u) w' ∧ wpAnyF P md ops Q (dropF md ops pend j) f (listed.setIfInBounds j true) (a.put o.dst u) w'

theorem wpAny_of_F : ∀ (f : Nat) (pend : List Nat) (listed : Array Bool) (a : Act) (w : World), wpAnyF P md ops Q pend f listed a w → wpAny P md ops Q f listed a w
  | 0, _, _, _, _, h => h
  | f + 1, pend, listed, a, w, h => ⟨h.1, fun j hj => by
      obtain ⟨o, ho, h1⟩ := h.2 j hj
      exact wpOp_of_effO ho (effO_mono (fun u w' hk => wpAny_of_F f _ _ _ _ hk.2) h1)⟩
theorem dropF_sub {p q : List Nat} (h : ∀ x, x ∈ p → x ∈ q) (j : Nat) : ∀ x, x ∈ dropF md ops p j → x ∈ dropF md ops q j := fun x hx => by
  simp only [dropF, List.mem_filter] at hx ⊢
  exact ⟨h _ hx.1, hx.2⟩
theorem KeptF.sub {p q : List Nat} {a : Act} {w : World} (h : ∀ x, x ∈ p → x ∈ q) (k : KeptF P ops q a w) : KeptF P ops p a w := fun i hi => k i (h i hi)
theorem wpAnyF_sub : ∀ (f : Nat) {p q : List Nat} {listed : Array Bool} {a : Act} {w : World}, (∀ x, x ∈ p → x ∈ q) → wpAnyF P md ops Q q f listed a w → wpAnyF P md ops Q p f listed a w
  | 0, _, _, _, _, _, _, h => h
  | f + 1, p, q, listed, a, w, hs, h => ⟨h.1, fun j hj => by
      obtain ⟨o, ho, h1⟩ := h.2 j hj
      exact ⟨o, ho, effO_mono (fun u w' hk => ⟨hk.1.sub (dropF_sub hs j), wpAnyF_sub f (dropF_sub hs j) hk.2⟩) h1⟩⟩
/-- All that has come up waits for nothing that has not. -/
def ClosedF (md : Region.Mode) (ops : Array Oper) (listed : Array Bool) : Prop := ∀ (j : Nat) (o : Oper), ops[j]? = some o → listed.getD j false = true → ∀ e ∈ o.after, Region.binds md e = true → listed.getD e.on false = true
theorem ClosedF.set {listed : Array Bool} {j : Nat} (h : ClosedF md ops listed) (hj : j ∈ Region.ready md ops listed) : ClosedF md ops (listed.setIfInBounds j true) := by
  intro k o hk hl e he hb
  obtain ⟨_, oj, hoj, hall⟩ := mem_ready.1 hj
  by_cases hjk : j = k
  · subst hjk
    have : o = oj := Option.some.inj (hk.symm.trans hoj)
    subst this
    exact getD_set_true (hall e he hb)
  · rw [getD_set_ne false hjk] at hl
    exact getD_set_true (h k o hk hl e he hb)
theorem reach_listed {listed : Array Bool} (h : ClosedF md ops listed) : ∀ (n j x : Nat) (o : Oper), ops[j]? = some o → (∀ e ∈ o.after, Region.binds md e = true → listed.getD e.on false = true) → reachB md ops n j x = true → listed.getD x false = true
  | 0, _, _, _, _, _, hr => by simp [reachB] at hr
  | n + 1, j, x, o, ho, hall, hr => by
    unfold reachB at hr
    simp only [ho] at hr
    obtain ⟨e, he, hb⟩ := Array.any_eq_true'.1 hr
    simp only [Bool.and_eq_true, Bool.or_eq_true, beq_iff_eq] at hb
    rcases hb.2 with h1 | h1
    · rw [← h1]; exact hall e he hb.1
    · have h2 := hall e he hb.1
      cases ho2 : ops[e.on]? with
      | none =>
        cases n with
        | zero => simp [reachB] at h1
        | succ n => unfold reachB at h1; simp [ho2] at h1
      | some o2 => exact reach_listed h n e.on x o2 ho2 (fun e' he' hb' => h e.on o2 ho2 h2 e' he' hb') h1
theorem getD_not {listed : Array Bool} {i : Nat} (h : listed.getD i true = false) : listed.getD i false = false := by
  rcases Nat.lt_or_ge i listed.size with h' | h'
  · simp [h'] at h ⊢; exact h
  · simp [Array.getElem?_eq_none h'] at h
/-- Nothing that was taken first looks at d, or lies there. -/
def AwayF (ops : Array Oper) (pend : List Nat) (d : Tmp) : Prop := ∀ x, x ∈ pend → ∀ o, ops[x]? = some o → d ∉ o.looksAt ops ∧ o.dst ≠ some d
theorem KeptF.put (hsel : ∀ (j : Nat) (o : Oper) cs b, ops[j]? = some o → o.op ≠ .select cs b) {pend : List Nat} {a : Act} {w : World} {d : Tmp} {v : Value} (h : AwayF ops pend d) : KeptF P ops pend (a.put (some d) v) w ↔ KeptF P ops pend a w := by
  have key : ∀ i, i ∈ pend → ∀ (o : Oper) (d' : Tmp), ops[i]? = some o → o.dst = some d' → (Gives P ops w o ((a.put (some d) v).eval (.tmp d')) (a.put (some d) v) ↔ Gives P ops w o (a.eval (.tmp d')) a) := fun i hi o d' ho hd' => by
    obtain ⟨h1, h2⟩ := h i hi o ho
    rw [Act.eval_put (fun d2 h2' he => by injection h2' with h2'; injection he with he; exact h2 (by rw [hd']; exact congrArg some (he.trans h2'.symm)))]
    exact effO_put (hsel i o · · ho) (fun d2 h2' => by injection h2' with h2'; rw [← h2']; exact h1)
  constructor
  · intro k i hi
    obtain ⟨o, d', ho, hd', g⟩ := k i hi
    exact ⟨o, d', ho, hd', (key i hi o d' ho hd').1 g⟩
  · intro k i hi
    obtain ⟨o, d', ho, hd', g⟩ := k i hi
    exact ⟨o, d', ho, hd', (key i hi o d' ho hd').2 g⟩
theorem dropF_cons {p : List Nat} {i j : Nat} (h : reachB md ops ops.size j i ≠ true) : dropF md ops (i :: p) j = i :: dropF md ops p j := by
  simp [dropF, h]
theorem away_drop {p : List Nat} {d : Tmp} (h : AwayF ops p d) (j : Nat) : AwayF ops (dropF md ops p j) d := fun x hx => h x (by simp only [dropF, List.mem_filter] at hx; exact hx.1)
theorem drop_sub (p : List Nat) (j : Nat) : ∀ x, x ∈ dropF md ops p j → x ∈ p := fun x hx => by simp only [dropF, List.mem_filter] at hx; exact hx.1

/-- **What reads may be taken first**, if behind whatever turns the world without waiting for it, it reads the same. -/
theorem F_first {i : Nat} {oi : Oper} {d : Tmp} {v : Value} (hi : ops[i]? = some oi) (hd : oi.dst = some d) (hself : d ∉ oi.looksAt ops) (hsel : ∀ (j : Nat) (o : Oper) cs b, ops[j]? = some o → o.op ≠ .select cs b) :
    ∀ (f : Nat) (listed : Array Bool) (a : Act) (w : World) (pend : List Nat), ClosedF md ops listed → d < a.tmps.size →
      (∀ j oj, ops[j]? = some oj → j ≠ i → listed.getD j true = false → (∀ e ∈ oj.after, Region.binds md e = true → e.on ≠ i) → oi.apart ops oj = true) →
      AwayF ops pend d → KeptF P ops pend a w → i ∈ Region.ready md ops listed → Gives P ops w oi v a →
      wpAnyF P md ops Q (i :: pend) f (listed.setIfInBounds i true) (a.put (some d) v) w → wpAnyF P md ops Q pend (f + 1) listed a w := by
  intro f
  have hself' : ∀ {a : Act} {w : World} {u : Value}, Gives P ops w oi v (a.put (some d) u) ↔ Gives P ops w oi v a := fun {a w u} => effO_put (hsel i oi · · hi) (fun d2 h2 => by injection h2 with h2; rw [← h2]; exact hself)
  induction f with
  | zero =>
    intro listed a w pend hcl hb hfree haw hk hr hy H
    refine ⟨fun h => (by rw [h] at hr; cases hr), fun j hj => ?_⟩
    by_cases hji : j = i
    · subst hji
      refine ⟨oi, hi, effO_mono (fun u w' ⟨hu, hw⟩ => ?_) hy⟩
      subst hu; subst hw
      rw [hd]
      exact ⟨((KeptF.put hsel haw).2 hk).sub (drop_sub _ _), H⟩
    · have := ready_mono hj hji
      rw [H.1] at this
      cases this
  | succ f ih =>
    intro listed a w pend hcl hb hfree haw hk hr hy H
    refine ⟨fun h => (by rw [h] at hr; cases hr), fun j hj => ?_⟩
    by_cases hji : j = i
    · subst hji
      refine ⟨oi, hi, effO_mono (fun u w' ⟨hu, hw⟩ => ?_) hy⟩
      subst hu; subst hw
      rw [hd]
      exact ⟨((KeptF.put hsel haw).2 hk).sub (drop_sub _ _), wpAnyF_sub _ (fun x hx => List.mem_cons_of_mem _ (drop_sub _ _ x hx)) H⟩
    · obtain ⟨oj, hoj, h1⟩ := H.2 j (ready_mono hj hji)
      obtain ⟨hjun, oj', hoj', hall⟩ := mem_ready.1 hj
      obtain rfl : oj' = oj := Option.some.inj (hoj'.symm.trans hoj)
      have hiun : listed.getD i false = false := getD_not (mem_ready.1 hr).1
      have hnot : ∀ e ∈ oj'.after, Region.binds md e = true → e.on ≠ i := fun e he hb heq => by
        have h1 := hall e he hb
        rw [heq, hiun] at h1
        cases h1
      have hreach : reachB md ops ops.size j i ≠ true := fun hr => by
        have := reach_listed hcl ops.size j i oj' hoj hall hr
        rw [hiun] at this
        cases this
      have hap := hfree j oj' hoj hji hjun hnot
      obtain ⟨p1, p2, p3⟩ := Oper.apart_spec hap
      have hfree' : ∀ k ok, ops[k]? = some ok → k ≠ i → (listed.setIfInBounds j true).getD k true = false →
          (∀ e ∈ ok.after, Region.binds md e = true → e.on ≠ i) → oi.apart ops ok = true := fun k ok hk hki hun hno => by
        refine hfree k ok hk hki ?_ hno
        by_cases hjk : j = k
        · subst hjk; exact hjun
        · rw [getD_set_ne true hjk] at hun; exact hun
      refine ⟨oj', hoj, effO_mono (fun u w' hk' => ?_) ((effO_put (hsel j oj' · · hoj) (fun d2 h2 => by rw [← hd] at h2; exact p1 d2 h2)).1 h1)⟩
      have hc : (a.put (some d) v).put oj'.dst u = (a.put oj'.dst u).put (some d) v := Act.put_comm a v u (fun d2 h2 => by injection h2 with h2; rw [← h2]; exact p2 d hd)
      rw [dropF_cons hreach, hc] at hk'
      obtain ⟨hk1, hk2⟩ := hk'
      have hb2 : d < (a.put oj'.dst u).tmps.size := by rw [put_size]; exact hb
      obtain ⟨o3, d3, ho3, hd3, hg3⟩ := hk1 i List.mem_cons_self
      obtain rfl : oi = o3 := Option.some.inj (hi.symm.trans ho3)
      obtain rfl : d = d3 := by rw [hd] at hd3; injection hd3
      rw [put_eval hb2] at hg3
      have hk3 : KeptF P ops (dropF md ops pend j) (a.put oj'.dst u) w' := (KeptF.put hsel (away_drop haw j)).1 (hk1.sub fun x hx => List.mem_cons_of_mem _ hx)
      refine ⟨hk3, ih _ _ _ _ (hcl.set hj) hb2 hfree' (away_drop haw j) hk3 (ready_mono hr (Ne.symm hji)) ((effO_put (hsel i oi · · hi) (fun d2 h2 => by injection h2 with h2; rw [← h2]; exact hself)).1 hg3) ?_⟩
      rw [Array.setIfInBounds_comm _ _ hji]
      exact hk2
/-- **What hangs on no memory may be taken first.** -/
theorem F_firstP {i : Nat} {oi : Oper} {d : Tmp} {v : Value} (hi : ops[i]? = some oi) (hd : oi.dst = some d) (hsel : ∀ (j : Nat) (o : Oper) cs b, ops[j]? = some o → o.op ≠ .select cs b) :
    ∀ (f : Nat) (listed : Array Bool) (a : Act) (w : World) (pend : List Nat),
      (∀ j oj, ops[j]? = some oj → j ≠ i → listed.getD j true = false → (∀ e ∈ oj.after, Region.binds md e = true → e.on ≠ i) → oi.apart ops oj = true) →
      AwayF ops pend d → KeptF P ops pend a w → i ∈ Region.ready md ops listed → (∀ w, Gives P ops w oi v a) →
      wpAnyF P md ops Q pend f (listed.setIfInBounds i true) (a.put (some d) v) w → wpAnyF P md ops Q pend (f + 1) listed a w := by
  intro f
  induction f with
  | zero =>
    intro listed a w pend hfree haw hk hr hy H
    refine ⟨fun h => (by rw [h] at hr; cases hr), fun j hj => ?_⟩
    by_cases hji : j = i
    · subst hji
      refine ⟨oi, hi, effO_mono (fun u w' ⟨hu, hw⟩ => ?_) (hy w)⟩
      subst hu; subst hw
      rw [hd]
      exact ⟨((KeptF.put hsel haw).2 hk).sub (drop_sub _ _), H⟩
    · have := ready_mono hj hji
      rw [H.1] at this
      cases this
  | succ f ih =>
    intro listed a w pend hfree haw hk hr hy H
    refine ⟨fun h => (by rw [h] at hr; cases hr), fun j hj => ?_⟩
    by_cases hji : j = i
    · subst hji
      refine ⟨oi, hi, effO_mono (fun u w' ⟨hu, hw⟩ => ?_) (hy w)⟩
      subst hu; subst hw
      rw [hd]
      exact ⟨((KeptF.put hsel haw).2 hk).sub (drop_sub _ _), wpAnyF_sub _ (drop_sub _ _) H⟩
    · obtain ⟨oj, hoj, h1⟩ := H.2 j (ready_mono hj hji)
      obtain ⟨hjun, oj', hoj', hall⟩ := mem_ready.1 hj
      obtain rfl : oj' = oj := Option.some.inj (hoj'.symm.trans hoj)
      have hiun : listed.getD i false = false := getD_not (mem_ready.1 hr).1
      have hnot : ∀ e ∈ oj'.after, Region.binds md e = true → e.on ≠ i := fun e he hb heq => by
        have h1 := hall e he hb
        rw [heq, hiun] at h1
        cases h1
      have hap := hfree j oj' hoj hji hjun hnot
      obtain ⟨p1, p2, p3⟩ := Oper.apart_spec hap
      have hfree' : ∀ k ok, ops[k]? = some ok → k ≠ i → (listed.setIfInBounds j true).getD k true = false →
          (∀ e ∈ ok.after, Region.binds md e = true → e.on ≠ i) → oi.apart ops ok = true := fun k ok hk hki hun hno => by
        refine hfree k ok hk hki ?_ hno
        by_cases hjk : j = k
        · subst hjk; exact hjun
        · rw [getD_set_ne true hjk] at hun; exact hun
      refine ⟨oj', hoj, effO_mono (fun u w' hk' => ?_) ((effO_put (hsel j oj' · · hoj) (fun d2 h2 => by rw [← hd] at h2; exact p1 d2 h2)).1 h1)⟩
      have hc : (a.put (some d) v).put oj'.dst u = (a.put oj'.dst u).put (some d) v := Act.put_comm a v u (fun d2 h2 => by injection h2 with h2; rw [← h2]; exact p2 d hd)
      rw [hc] at hk'
      obtain ⟨hk1, hk2⟩ := hk'
      have hk3 : KeptF P ops (dropF md ops pend j) (a.put oj'.dst u) w' := (KeptF.put hsel (away_drop haw j)).1 hk1
      refine ⟨hk3, ih _ _ _ _ hfree' (away_drop haw j) hk3 (ready_mono hr (Ne.symm hji)) (fun w => (effO_put (hsel i oi · · hi) p3).2 (hy w)) ?_⟩
      rw [Array.setIfInBounds_comm _ _ hji]
      exact hk2

/-! ## the moves, their side conditions as one Bool each -/
def closedB (md : Region.Mode) (ops : Array Oper) (listed : Array Bool) : Bool := (List.range ops.size).all fun j => !listed.getD j false || match ops[j]? with
  | some o => o.after.all fun e => !Region.binds md e || listed.getD e.on false
  | none => true
theorem closedB_spec {listed : Array Bool} (h : closedB md ops listed = true) : ClosedF md ops listed := by
  intro j o ho hl e he hb
  have h1 := List.all_eq_true.1 h j (List.mem_range.2 (Array.getElem?_eq_some_iff.1 ho).1)
  simp only [hl, Bool.not_true, Bool.false_or, ho, Array.all_eq_true_iff_forall_mem] at h1
  have := h1 e he
  simpa [hb] using this
def awayB (ops : Array Oper) (pend : List Nat) (d : Tmp) : Bool := pend.all fun x => match ops[x]? with
  | some o => !(o.looksAt ops).contains d && o.dst != some d
  | none => true
theorem awayB_spec {pend : List Nat} {d : Tmp} (h : awayB ops pend d = true) : AwayF ops pend d := by
  intro x hx o ho
  have h1 := List.all_eq_true.1 h x hx
  simp only [ho, Bool.and_eq_true, Bool.not_eq_true', bne_iff_ne] at h1
  exact ⟨by simpa using h1.1, h1.2⟩
/-- May number i be taken first? -/
def stepB (md : Region.Mode) (ops : Array Oper) (pend : List Nat) (listed : Array Bool) (i : Nat) (d : Tmp) : Bool :=
  Region.noSelect ops && closedB md ops listed && Region.free md ops listed i && awayB ops pend d && (Region.ready md ops listed).contains i &&
  match ops[i]? with
  | some o => !(o.looksAt ops).contains d
  | none => false
variable {pend pend' : List Nat} {listed : Array Bool} {a a1 : Act} {w : World} {f : Nat}
/-- The state of a walk: what was taken first reads the same. -/
def AtF (P : Program) (md : Region.Mode) (ops : Array Oper) (Q : Exit → Act → World → Prop) (pend : List Nat) (f : Nat) (listed : Array Bool) (a : Act) (w : World) : Prop := KeptF P ops pend a w → wpAnyF P md ops Q pend f listed a w
theorem F_read {ls' : Array Bool} (i : Nat) (d : Tmp) (o : Oper) (ho : ops[i]? = some o) (hd : o.dst = some d) (hB : stepB md ops pend listed i d = true) (hls : listed.setIfInBounds i true = ls') (hb : d < a.tmps.size)
    (h1_ : ∀ Q1 : Exit → Act → World → Prop, (a1.defers = a.defers → Q1 .normal a1 w) → wpList P ops Q1 [o] a w)
    (h : AtF P md ops Q (i :: pend) f ls' a1 w) : AtF P md ops Q pend (f + 1) listed a w := by
  have h1 : ∀ K : Act → World → Prop, K a1 w → wpList P ops (fun e a' w' => e = .normal ∧ a'.defers = a.defers ∧ K a' w') [o] a w := fun K hK => h1_ _ fun hd => ⟨rfl, hd, hK⟩
  intro hk
  subst hls
  obtain ⟨g, e1⟩ := gives_of_list hd hb h1
  simp only [stepB, Bool.and_eq_true, ho] at hB
  obtain ⟨⟨⟨⟨⟨b1, b2⟩, b3⟩, b4⟩, b5⟩, b6⟩ := hB
  have hself : d ∉ o.looksAt ops := by simpa using b6
  have hsel := Region.noSelect_spec b1
  refine F_first ho hd hself hsel f listed a w pend (closedB_spec b2) hb (Region.free_spec ho b3) (awayB_spec b4) hk (by simpa using b5) g ?_
  rw [← e1]
  refine h ?_
  intro x hx
  rcases List.mem_cons.1 hx with rfl | hx
  · refine ⟨o, d, ho, hd, ?_⟩
    have : Gives P ops w o (a1.eval (.tmp d)) a1 := by
      rw [e1, put_eval hb]
      exact (effO_put (hsel _ o · · ho) (fun d2 h2 => by injection h2 with h2; rw [← h2]; exact hself)).2 g
    exact this
  · have := (KeptF.put (v := a1.eval (.tmp d)) hsel (awayB_spec b4)).2 hk x hx
    rwa [← e1] at this
theorem F_pure {ls' : Array Bool} (i : Nat) (d : Tmp) (o : Oper) (ho : ops[i]? = some o) (hd : o.dst = some d) (hB : stepB md ops pend listed i d = true) (hls : listed.setIfInBounds i true = ls') (hb : d < a.tmps.size)
    (h1_ : ∀ (w : World) (Q1 : Exit → Act → World → Prop), (a1.defers = a.defers → Q1 .normal a1 w) → wpList P ops Q1 [o] a w)
    (h : AtF P md ops Q pend f ls' a1 w) : AtF P md ops Q pend (f + 1) listed a w := by
  have h1 : ∀ (w : World) (K : Act → World → Prop), K a1 w → wpList P ops (fun e a' w' => e = .normal ∧ a'.defers = a.defers ∧ K a' w') [o] a w := fun w K hK => h1_ w _ fun hd => ⟨rfl, hd, hK⟩
  intro hk
  subst hls
  have e1 := (gives_of_list hd hb (h1 w)).2
  simp only [stepB, Bool.and_eq_true, ho] at hB
  obtain ⟨⟨⟨⟨⟨b1, b2⟩, b3⟩, b4⟩, b5⟩, b6⟩ := hB
  have hsel := Region.noSelect_spec b1
  refine F_firstP ho hd hsel f listed a w pend (Region.free_spec ho b3) (awayB_spec b4) hk (by simpa using b5) (fun w => (gives_of_list hd hb (h1 w)).1) ?_
  rw [← e1]
  refine h fun x hx => ?_
  have := (KeptF.put (v := a1.eval (.tmp d)) hsel (awayB_spec b4)).2 hk x hx
  rwa [← e1] at this
/-- One whose guard passes it over. -/
theorem F_skip {ls' : Array Bool} (i : Nat) (d : Tmp) (o : Oper) (ho : ops[i]? = some o) (hd : o.dst = some d) (hB : stepB md ops pend listed i d = true) (hls : listed.setIfInBounds i true = ls') (hb : d < a.tmps.size)
    (hw : Region.wanted o (yielded ops a.tmps) = false) (h : AtF P md ops Q pend f ls' (a.put (some d) undef) w) : AtF P md ops Q pend (f + 1) listed a w := by
  intro hk
  subst hls
  simp only [stepB, Bool.and_eq_true, ho] at hB
  obtain ⟨⟨⟨⟨⟨b1, b2⟩, b3⟩, b4⟩, b5⟩, b6⟩ := hB
  have hsel := Region.noSelect_spec b1
  have g : ∀ w, Gives P ops w o undef a := fun w => by
    unfold Gives effO
    rw [if_neg (by rw [hw]; exact Bool.false_ne_true)]
    exact ⟨rfl, rfl⟩
  exact F_firstP ho hd hsel f listed a w pend (Region.free_spec ho b3) (awayB_spec b4) hk (by simpa using b5) g (h ((KeptF.put hsel (awayB_spec b4)).2 hk))
theorem F_effskip {ls' : Array Bool} (i : Nat) (d : Tmp) (o : Oper) (ho : ops[i]? = some o) (hd : o.dst = some d) (hB : Region.ready md ops listed = [i]) (hls : listed.setIfInBounds i true = ls') (hp : dropF md ops pend i = pend') (hs : (Region.noSelect ops && awayB ops pend' d) = true)
    (hw : Region.wanted o (yielded ops a.tmps) = false) (h : AtF P md ops Q pend' f ls' (a.put (some d) undef) w) : AtF P md ops Q pend (f + 1) listed a w := by
  intro hk
  subst hls; subst hp
  rw [Bool.and_eq_true] at hs
  refine ⟨fun h0 => (by rw [hB] at h0; cases h0), fun j hj => ?_⟩
  rw [hB] at hj
  obtain rfl := List.mem_singleton.1 hj
  refine ⟨o, ho, ?_⟩
  unfold effO
  rw [if_neg (by rw [hw]; exact Bool.false_ne_true), hd]
  have hk' := (KeptF.put (v := undef) (Region.noSelect_spec hs.1) (awayB_spec hs.2)).2 (hk.sub (drop_sub _ _))
  exact ⟨hk', h hk'⟩
/-- A run of operations that are taken first: (0, i, d): it reads nothing; (1, i, d): it reads; (2, i, d): its guard passes it over. -/
structure Todo (l : List (Nat × Nat × Nat)) (p : Prop) : Prop where
  out : p
theorem T_go (l : List (Nat × Nat × Nat)) {p : Prop} (h : Todo l p) : p := h.out
theorem T_end {p : Prop} (h : p) : Todo [] p := ⟨h⟩
theorem T_pure {i d : Nat} {l : List (Nat × Nat × Nat)} (o : Oper) (ho : ops[i]? = some o) (hd : o.dst = some d) (hB : stepB md ops pend listed i d = true) (hb : d < a.tmps.size)
    (h1_ : ∀ (w : World) (Q1 : Exit → Act → World → Prop), (a1.defers = a.defers → Q1 .normal a1 w) → wpList P ops Q1 [o] a w)
    (h : Todo l (AtF P md ops Q pend f (listed.setIfInBounds i true) a1 w)) : Todo ((0, i, d) :: l) (AtF P md ops Q pend (f + 1) listed a w) := ⟨F_pure i d o ho hd hB rfl hb h1_ h.out⟩
theorem T_read {i d : Nat} {l : List (Nat × Nat × Nat)} (o : Oper) (ho : ops[i]? = some o) (hd : o.dst = some d) (hB : stepB md ops pend listed i d = true) (hb : d < a.tmps.size)
    (h1_ : ∀ Q1 : Exit → Act → World → Prop, (a1.defers = a.defers → Q1 .normal a1 w) → wpList P ops Q1 [o] a w)
    (h : Todo l (AtF P md ops Q (i :: pend) f (listed.setIfInBounds i true) a1 w)) : Todo ((1, i, d) :: l) (AtF P md ops Q pend (f + 1) listed a w) := ⟨F_read i d o ho hd hB rfl hb h1_ h.out⟩
theorem T_skip {i d : Nat} {l : List (Nat × Nat × Nat)} (o : Oper) (ho : ops[i]? = some o) (hd : o.dst = some d) (hB : stepB md ops pend listed i d = true) (hb : d < a.tmps.size)
    (hw : Region.wanted o (yielded ops a.tmps) = false) (h : Todo l (AtF P md ops Q pend f (listed.setIfInBounds i true) (a.put (some d) undef) w)) : Todo ((2, i, d) :: l) (AtF P md ops Q pend (f + 1) listed a w) := ⟨F_skip i d o ho hd hB rfl hb hw h.out⟩
/-- One that turns the world comes up, alone. -/
theorem F_eff {ls' : Array Bool} (i : Nat) (o : Oper) (ho : ops[i]? = some o) (hB : Region.ready md ops listed = [i]) (hls : listed.setIfInBounds i true = ls') (hp : dropF md ops pend i = pend')
    (h_ : ∀ Q1 : Exit → Act → World → Prop, (∀ a' w', a'.defers = a.defers → KeptF P ops pend' a' w' → AtF P md ops Q pend' f ls' a' w' → Q1 .normal a' w') → wpList P ops Q1 [o] a w) : AtF P md ops Q pend (f + 1) listed a w := by
  have h := h_ (fun e a' w' => e = .normal ∧ a'.defers = a.defers ∧ KeptF P ops pend' a' w' ∧ AtF P md ops Q pend' f ls' a' w') (fun a' w' hd hk ha => ⟨rfl, hd, hk, ha⟩)
  intro hk
  subst hls; subst hp
  refine ⟨fun h0 => (by rw [hB] at h0; cases h0), fun j hj => ?_⟩
  rw [hB] at hj
  obtain rfl := List.mem_singleton.1 hj
  exact ⟨o, ho, effO_mono (fun u w' hk => ⟨hk.1, hk.2 hk.1⟩) (effO_of_list h)⟩
/-- Of two that turn the world either may come up. -/
theorem F_eff2 {ls1 ls2 : Array Bool} {pend1 pend2 : List Nat} (i1 i2 : Nat) (o1 o2 : Oper) (ho1 : ops[i1]? = some o1) (ho2 : ops[i2]? = some o2) (hB : Region.ready md ops listed = [i1, i2]) (hls1 : listed.setIfInBounds i1 true = ls1) (hls2 : listed.setIfInBounds i2 true = ls2) (hp1 : dropF md ops pend i1 = pend1) (hp2 : dropF md ops pend i2 = pend2)
    (h1_ : ∀ Q1 : Exit → Act → World → Prop, (∀ a' w', a'.defers = a.defers → KeptF P ops pend1 a' w' → AtF P md ops Q pend1 f ls1 a' w' → Q1 .normal a' w') → wpList P ops Q1 [o1] a w)
    (h2_ : ∀ Q1 : Exit → Act → World → Prop, (∀ a' w', a'.defers = a.defers → KeptF P ops pend2 a' w' → AtF P md ops Q pend2 f ls2 a' w' → Q1 .normal a' w') → wpList P ops Q1 [o2] a w) : AtF P md ops Q pend (f + 1) listed a w := by
  have h1 := h1_ (fun e a' w' => e = .normal ∧ a'.defers = a.defers ∧ KeptF P ops pend1 a' w' ∧ AtF P md ops Q pend1 f ls1 a' w') (fun a' w' hd hk ha => ⟨rfl, hd, hk, ha⟩)
  have h2 := h2_ (fun e a' w' => e = .normal ∧ a'.defers = a.defers ∧ KeptF P ops pend2 a' w' ∧ AtF P md ops Q pend2 f ls2 a' w') (fun a' w' hd hk ha => ⟨rfl, hd, hk, ha⟩)
  intro hk
  subst hls1; subst hp1; subst hls2; subst hp2
  refine ⟨fun h0 => (by rw [hB] at h0; cases h0), fun j hj => ?_⟩
  rw [hB] at hj
  rcases List.mem_cons.1 hj with rfl | hj
  · exact ⟨o1, ho1, effO_mono (fun u w' hk => ⟨hk.1, hk.2 hk.1⟩) (effO_of_list h1)⟩
  · obtain rfl := List.mem_singleton.1 hj
    exact ⟨o2, ho2, effO_mono (fun u w' hk => ⟨hk.1, hk.2 hk.1⟩) (effO_of_list h2)⟩
/-- Of three that turn the world any may come up. -/
theorem F_eff3 {ls1 ls2 ls3 : Array Bool} {pend1 pend2 pend3 : List Nat} (i1 i2 i3 : Nat) (o1 o2 o3 : Oper) (ho1 : ops[i1]? = some o1) (ho2 : ops[i2]? = some o2) (ho3 : ops[i3]? = some o3) (hB : Region.ready md ops listed = [i1, i2, i3]) (hls1 : listed.setIfInBounds i1 true = ls1) (hls2 : listed.setIfInBounds i2 true = ls2) (hls3 : listed.setIfInBounds i3 true = ls3) (hp1 : dropF md ops pend i1 = pend1) (hp2 : dropF md ops pend i2 = pend2) (hp3 : dropF md ops pend i3 = pend3)
    (h1_ : ∀ Q1 : Exit → Act → World → Prop, (∀ a' w', a'.defers = a.defers → KeptF P ops pend1 a' w' → AtF P md ops Q pend1 f ls1 a' w' → Q1 .normal a' w') → wpList P ops Q1 [o1] a w)
    (h2_ : ∀ Q1 : Exit → Act → World → Prop, (∀ a' w', a'.defers = a.defers → KeptF P ops pend2 a' w' → AtF P md ops Q pend2 f ls2 a' w' → Q1 .normal a' w') → wpList P ops Q1 [o2] a w)
    (h3_ : ∀ Q1 : Exit → Act → World → Prop, (∀ a' w', a'.defers = a.defers → KeptF P ops pend3 a' w' → AtF P md ops Q pend3 f ls3 a' w' → Q1 .normal a' w') → wpList P ops Q1 [o3] a w) : AtF P md ops Q pend (f + 1) listed a w := by
  have h1 := h1_ (fun e a' w' => e = .normal ∧ a'.defers = a.defers ∧ KeptF P ops pend1 a' w' ∧ AtF P md ops Q pend1 f ls1 a' w') (fun a' w' hd hk ha => ⟨rfl, hd, hk, ha⟩)
  have h2 := h2_ (fun e a' w' => e = .normal ∧ a'.defers = a.defers ∧ KeptF P ops pend2 a' w' ∧ AtF P md ops Q pend2 f ls2 a' w') (fun a' w' hd hk ha => ⟨rfl, hd, hk, ha⟩)
  have h3 := h3_ (fun e a' w' => e = .normal ∧ a'.defers = a.defers ∧ KeptF P ops pend3 a' w' ∧ AtF P md ops Q pend3 f ls3 a' w') (fun a' w' hd hk ha => ⟨rfl, hd, hk, ha⟩)
  intro hk
  subst hls1; subst hp1; subst hls2; subst hp2; subst hls3; subst hp3
  refine ⟨fun h0 => (by rw [hB] at h0; cases h0), fun j hj => ?_⟩
  rw [hB] at hj
  rcases List.mem_cons.1 hj with rfl | hj
  · exact ⟨o1, ho1, effO_mono (fun u w' hk => ⟨hk.1, hk.2 hk.1⟩) (effO_of_list h1)⟩
  · rcases List.mem_cons.1 hj with rfl | hj
    · exact ⟨o2, ho2, effO_mono (fun u w' hk => ⟨hk.1, hk.2 hk.1⟩) (effO_of_list h2)⟩
    · obtain rfl := List.mem_singleton.1 hj
      exact ⟨o3, ho3, effO_mono (fun u w' hk => ⟨hk.1, hk.2 hk.1⟩) (effO_of_list h3)⟩
theorem F_done (hB : Region.ready md ops listed = []) (h : Q .normal a w) : AtF P md ops Q pend f listed a w := by
  intro _
  cases f with
  | zero => exact ⟨hB, h⟩
  | succ f => exact ⟨fun _ => h, fun j hj => (by rw [hB] at hj; cases hj)⟩
/-- What is shown once, and used on two ways. -/
structure Keep (p : Prop) : Prop where
  out : p
theorem share {A G : Prop} (h : Keep A → G) (k : A) : G := h ⟨k⟩
/-- A Bool that is not known parts the walk. -/
theorem F_case {d : Tmp} {b : Bool} (hb : a.eval (.tmp d) = .bool b) (h1 : b = true → AtF P md ops Q pend f listed a w) (h2 : b = false → AtF P md ops Q pend f listed a w) : AtF P md ops Q pend f listed a w := by
  cases b
  · exact h2 rfl
  · exact h1 rfl
theorem kept_nil : KeptF P ops [] a w := fun _ h => by cases h
theorem kept_cons (i : Nat) (d : Tmp) (o : Oper) (ho : ops[i]? = some o) (hd : o.dst = some d) (hb : d < a.tmps.size)
    (h1_ : ∀ Q1 : Exit → Act → World → Prop, (a.defers = a.defers → Q1 .normal a w) → wpList P ops Q1 [o] a w) (h : KeptF P ops pend a w) : KeptF P ops (i :: pend) a w := by
  have h1 : ∀ K : Act → World → Prop, K a w → wpList P ops (fun e a' w' => e = .normal ∧ a'.defers = a.defers ∧ K a' w') [o] a w := fun K hK => h1_ _ fun hd => ⟨rfl, hd, hK⟩
  intro x hx
  rcases List.mem_cons.1 hx with rfl | hx
  · exact ⟨o, d, ho, hd, (gives_of_list hd hb h1).1⟩
  · exact h x hx
/-- The beginning. -/
theorem F_begin {id : Nat} {l : List Oper} {n : Nat} {ls : Array Bool} (hm : P.follows .mixedOrders = true) (hn : l.length = n) (hls : Array.replicate n false = ls) (h : AtF P .any l.toArray Q [] n ls a w.drew) : (Code.region id l.toArray true).wp P Q a w := by
  subst hn; subst hls
  refine wp_region_any hm (wpAny_of_F _ [] _ _ _ ?_)
  have := h kept_nil
  simpa using this
theorem T_pA {i d : Nat} {l : List (Nat × Nat × Nat)} {o : Oper} (h : Todo l (AtF P md ops Q pend f (listed.setIfInBounds i true) a1 w)) (ho : ops[i]? = some o := by exact rfl) (hd : o.dst = some d := by exact rfl) (hB : stepB md ops pend listed i d = true := by kernel_rfl) (hb : d < a.tmps.size := by exact Nat.le_of_ble_eq_true (by kernel_rfl))
    (h1_ : ∀ (w : World) (Q1 : Exit → Act → World → Prop), (a1.defers = a.defers → Q1 .normal a1 w) → wpList P ops Q1 [o] a w := by (intro w2_ K_ hK_; (conv => (arg 4; arg 1; whnf)); (repeat (first | exact hK_ rfl | go_step | go_guarded | go_upon | dsimp only)))) : Todo ((0, i, d) :: l) (AtF P md ops Q pend (f + 1) listed a w) := T_pure o ho hd hB hb h1_ h
theorem T_rA {i d : Nat} {l : List (Nat × Nat × Nat)} {o : Oper} (h : Todo l (AtF P md ops Q (i :: pend) f (listed.setIfInBounds i true) a1 w)) (ho : ops[i]? = some o := by exact rfl) (hd : o.dst = some d := by exact rfl) (hB : stepB md ops pend listed i d = true := by kernel_rfl) (hb : d < a.tmps.size := by exact Nat.le_of_ble_eq_true (by kernel_rfl))
    (h1_ : ∀ Q1 : Exit → Act → World → Prop, (a1.defers = a.defers → Q1 .normal a1 w) → wpList P ops Q1 [o] a w := by (intro K_ hK_; (conv => (arg 4; arg 1; whnf)); (repeat (first | exact hK_ rfl | (go_big_may; ((with_reducible refine g_load rfl ?_); first | refine eL1 H ?_ | refine eLa H ?_)) | go_step | go_guarded | go_upon | dsimp only)))) : Todo ((1, i, d) :: l) (AtF P md ops Q pend (f + 1) listed a w) := T_read o ho hd hB hb h1_ h
theorem T_sA {i d : Nat} {l : List (Nat × Nat × Nat)} {o : Oper} (h : Todo l (AtF P md ops Q pend f (listed.setIfInBounds i true) (a.put (some d) undef) w)) (ho : ops[i]? = some o := by exact rfl) (hd : o.dst = some d := by exact rfl) (hB : stepB md ops pend listed i d = true := by kernel_rfl) (hb : d < a.tmps.size := by exact Nat.le_of_ble_eq_true (by kernel_rfl))
    (hw : Region.wanted o (yielded ops a.tmps) = false := by kernel_rfl) : Todo ((2, i, d) :: l) (AtF P md ops Q pend (f + 1) listed a w) := T_skip o ho hd hB hb hw h
theorem F_eA {ls' : Array Bool} (i : Nat) {o : Oper} (h_ : ∀ Q1 : Exit → Act → World → Prop, (∀ a' w', a'.defers = a.defers → KeptF P ops pend' a' w' → AtF P md ops Q pend' f ls' a' w' → Q1 .normal a' w') → wpList P ops Q1 [o] a w) (ho : ops[i]? = some o := by exact rfl) (hB : Region.ready md ops listed = [i] := by kernel_rfl) (hls : listed.setIfInBounds i true = ls' := by kernel_rfl) (hp : dropF md ops pend i = pend' := by kernel_rfl) : AtF P md ops Q pend (f + 1) listed a w := F_eff i o ho hB hls hp h_
theorem kept_cA (i : Nat) (d : Tmp) {o : Oper} (h : KeptF P ops pend a w) (ho : ops[i]? = some o := by exact rfl) (hd : o.dst = some d := by exact rfl) (hb : d < a.tmps.size := by exact Nat.le_of_ble_eq_true (by kernel_rfl))
    (h1_ : ∀ Q1 : Exit → Act → World → Prop, (a.defers = a.defers → Q1 .normal a w) → wpList P ops Q1 [o] a w := by (intro K_ hK_; (conv => (arg 4; arg 1; whnf)); (repeat (first | exact hK_ rfl | (go_big_may; ((with_reducible refine g_load rfl ?_); first | refine eL1 H ?_ | refine eLa H ?_)) | go_step | go_guarded | go_upon | dsimp only)))) : KeptF P ops (i :: pend) a w := kept_cons i d o ho hd hb h1_ h
end
end Go.Proofs.YtjgggmcnbdjdjaaGreat.K

/- What the functions over rows of numbers, and rows of rows, tell: counted, copied in, alike, marked, held. -/
namespace Go.Proofs.YtjgggmcnbdjdjaaGreat.C
open Go.RowKit Go.Proofs.YtjgggmcnbdjdjaaGreat.K Go.Proofs.YtjgggmcnbdjdjaaGreat.B
attribute [local go_sem] max2_int min2_int max_two min_two i64_and255 i64_and65535 i64_and1
set_option maxRecDepth 20000
set_option linter.unusedVariables false
set_option linter.unusedSimpArgs false
/-- What is left behind n elements more. -/
def szOf (left : Int) (n : Nat) : Int := max (-1) (left - n)
/-- n numbers from k on. -/
def marks : Int → Nat → List Int
  | _, 0 => []
  | k, n + 1 => k :: marks (k + 1) n
theorem marks_length : ∀ (n : Nat) (k : Int), (marks k n).length = n
  | 0, _ => rfl
  | n + 1, k => by simp [marks, marks_length n]
theorem marks_snoc : ∀ (n : Nat) (k : Int), marks k (n + 1) = marks k n ++ [k + n]
  | 0, k => by simp [marks]
  | n + 1, k => by
    rw [marks, marks_snoc n (k + 1), marks, List.cons_append, show k + 1 + (n : Int) = k + ((n + 1 : Nat) : Int) by omega]
theorem marks_at : ∀ (n : Nat) (k : Int) (j : Nat), j < n → (nums (marks k n))[j]? = some (.int .i64 (k + j))
  | 0, _, _, h => by omega
  | n + 1, k, 0, _ => by simp [marks, nums]
  | n + 1, k, j + 1, h => by
    have := marks_at n (k + 1) j (by omega)
    simp only [nums] at this
    simp only [marks, nums, List.map_cons, List.getElem?_cons_succ, this]
    congr 2; omega
/-- The next cell of a row that is being marked. -/
theorem mark_step (cs : List Value) (k x : Int) (m : Nat) (h : m < cs.length) (hx : x = k + m) : (nums (marks k m) ++ cs.drop m).take m ++ [.int .i64 x] ++ (nums (marks k m) ++ cs.drop m).drop (m + 1) = nums (marks k (m + 1)) ++ cs.drop (m + 1) := by
  subst hx
  have hl : (nums (marks k m)).length = m := by rw [nums_length, marks_length]
  rw [List.take_append_of_le_length (by omega), List.take_of_length_le (by omega), marks_snoc, nums_append, nums_one, List.drop_append, List.drop_of_length_le (by omega), hl, List.nil_append, List.drop_drop]
  congr 2
  omega
abbrev rowI (A : Option Addr) (cs : List Value) : Ast := Ast.row 3 A cs
theorem laws_szIntS (A : Option Addr) (c : Nat) (xs : List Int) (left : Int) (w : World) (hx : InI w A c xs) (h0 : -1 ≤ left) (h1 : left ≤ 1048576) :
    Calls Tryz.prog 35 #[.slice A xs.length c, .int .i64 left] w fun e w' => e = .returned (.int .i64 (szOf left xs.length)) ∧ w = w' := by
  have hm := hx.2.1
  by_cases hd : left - xs.length < 0
  all_goals
    go_enter Tryz.func35, Tryz.ntmps35
    go_wp2
    go_ret
    exact ⟨ret_i (by unfold szOf; omega), rfl⟩
set_option maxHeartbeats 2000000 in
theorem laws_markIntS (A : Option Addr) (n c : Nat) (cs : List Value) (k : Int) (w : World) (hx : Hol w [rowI A cs]) (hn : cs.length = n) (hm : n ≤ 9223372036854775807) (h0 : 0 ≤ k) (h1 : k + n ≤ 1000000000000) :
    Calls Tryz.prog 28 #[.slice A n c, .int .i64 k] w fun e w' => e = .returned (.int .i64 (k + (n : Nat))) ∧ St w (rowI A cs).fp w' [rowI A (nums (marks k n))] := by
  have H := hx.st
  simp only [List.flatMap_cons, List.flatMap_nil, List.append_nil] at H
  go_enter Tryz.func28, Tryz.ntmps28
  go_wp2
  go_loopw [1, 5] (fun kk i wr => ∃ j : Nat, j ≤ n ∧ i = .int .i64 j ∧ kk = .int .i64 (k + (j : Nat)) ∧ St w (rowI A cs).fp wr [rowI A (nums (marks k j) ++ cs.drop j)]) (fun _ i _ => n - (intOf i).toNat)
  case atStart => exact ⟨0, Nat.zero_le _, rfl, by simp, by simpa [marks, nums] using H⟩
  case round =>
    clear H
    obtain ⟨j, hj, rfl, rfl, H⟩ := hrel
    by_cases hlt : j < n
    · obtain ⟨g, off, rfl⟩ : ∃ g off, A = some ⟨g, off, none⟩ := by
        have := H.n1
        cases A with
        | none =>
          have h3 : nums (marks k j) ++ cs.drop j = [] := this
          have := congrArg List.length h3
          simp [nums_length, marks_length] at this
          omega
        | some ad => obtain ⟨g, off, spot⟩ := ad; obtain ⟨h3, _⟩ := this; simp only at h3; subst h3; exact ⟨g, off, rfl⟩
      have hw : (1 : Int) ≤ 1000000000000 := by omega
      go_wp2_with ((with_reducible refine g_store rfl ?_); refine' ev_store_row (v := .int _ _) (off := j) H rfl rfl rfl rfl rfl ?_ ?_ ?_ ?_ ?_ ?_ ?_ ?_; rotate_left 6; (focus exact pkA); (focus omega); (focus exact szT rfl); (focus rfl); (focus (simp only [List.length_append, List.length_drop, nums_length, marks_length]; omega)); (focus rfl); (focus exact mark_step cs k _ j (by omega) (by omega)); intro W_ H_; (clear H; have H := H_; clear H_))
      go_roundw
      case rel => exact ⟨j + 1, by omega, by go_num, by go_num, H⟩
      case measure => simp [intOf]; omega
    · have hjn : j = n := by omega
      subst hjn
      clear hlt
      go_wp2
      go_ret
      refine ⟨rfl, ?_⟩
      rw [List.drop_of_length_le (by omega), List.append_nil] at H
      exact H
theorem held_one {w : World} {A : Option Addr} {k : Int} {n : Nat} (h : (rowI A (nums (marks k n))).p w) {j : Nat} (hj : j < n) :
    ∃ g off, A = some ⟨g, off, none⟩ ∧ w.cell? ⟨g, off + j, none⟩ = some (.int .i64 (k + j)) := by
  obtain ⟨ad, h1, h2⟩ := (row_in h).at (by rw [nums_length, marks_length]; omega)
  subst h1
  obtain ⟨hs, _⟩ := h
  obtain ⟨g, off, spot⟩ := ad
  simp only at hs
  subst hs
  have := h2 _ _ (marks_at n k j hj)
  rw [Addr.add_mid] at this
  exact ⟨g, off, rfl, this⟩
set_option maxHeartbeats 2000000 in
theorem laws_heldIntS (A : Option Addr) (n c : Nat) (k : Int) (w : World) (hx : (rowI A (nums (marks k n))).p w) (hm : n ≤ 9223372036854775807) (h0 : 0 ≤ k) (h1 : k + n ≤ 1000000000000) :
    Calls Tryz.prog 61 #[.slice A n c, .int .i64 k] w fun e w' => e = .returned (.int .i64 (k + (n : Nat))) ∧ w = w' := by
  go_enter Tryz.func61, Tryz.ntmps61
  go_wp2
  go_loop [1, 5] (fun kk i => ∃ j : Nat, j ≤ n ∧ i = .int .i64 j ∧ kk = .int .i64 (k + (j : Nat))) (fun _ i => n - (intOf i).toNat)
  case atStart => exact ⟨0, Nat.zero_le _, rfl, by simp⟩
  case round =>
    obtain ⟨j, hj, rfl, rfl⟩ := hrel
    by_cases hlt : j < n
    · obtain ⟨g, off, rfl, c0⟩ := held_one hx hlt
      clear hx
      go_wp2_with ((with_reducible refine g_load rfl ?_); refine ev_load_in_one rfl rfl rfl one_int c0 ?_)
      go_round
      case rel => exact ⟨j + 1, by omega, by go_num, by go_num⟩
      case measure => simp [intOf]; omega
    · have hjn : j = n := by omega
      subst hjn
      clear hlt
      go_wp2
      go_ret
      exact ⟨rfl, rfl⟩
end Go.Proofs.YtjgggmcnbdjdjaaGreat.C

/- What the functions over rings of records tell: copied in, alike, marked, held. -/
namespace Go.Proofs.YtjgggmcnbdjdjaaGreat.C
open Go.RowKit Go.Proofs.YtjgggmcnbdjdjaaGreat.K Go.Proofs.YtjgggmcnbdjdjaaGreat.B
attribute [local go_sem] max2_int min2_int max_two min_two i64_and255 i64_and65535 i64_and1
set_option maxRecDepth 20000
set_option linter.unusedVariables false
set_option linter.unusedSimpArgs false
structure RecD where (t r v : Int)
abbrev rec1 (x : RecD) : List Value := [.int .i64 x.t, .int .i64 x.r, .int .i64 x.v]
def recs : List RecD → List Value
  | [] => []
  | x :: xs => rec1 x ++ recs xs
def rdr (rs : List RecD) (i : Nat) : RecD := rs.getD i ⟨0, 0, 0⟩
theorem rdr_at {rs : List RecD} {i : Nat} (h : i < rs.length) : rdr rs i = rs[i] := by simp [rdr, List.getD_eq_getElem?_getD, List.getElem?_eq_getElem h]
theorem recs_length : ∀ rs : List RecD, (recs rs).length = rs.length * 3
  | [] => rfl
  | x :: xs => by simp only [recs, rec1, List.length_append, List.length_cons, List.length_nil, recs_length xs]; omega
theorem recs_drop : ∀ (rs : List RecD) (k : Nat), (recs rs).drop (k * 3) = recs (rs.drop k)
  | [], k => by simp [recs]
  | x :: xs, 0 => by simp [recs]
  | x :: xs, k + 1 => by
    simp only [recs, List.drop_succ_cons, ← recs_drop xs k, rec1, List.cons_append, List.nil_append, show (k + 1) * 3 = k * 3 + 1 + 1 + 1 by omega]
theorem recs_at {rs : List RecD} {k : Nat} (h : k < rs.length) {j : Nat} {v : Value} (hj : (rec1 (rdr rs k))[j]? = some v) : (recs rs)[k * 3 + j]? = some v := by
  have hj3 : j < 3 := by have := (List.getElem?_eq_some_iff.1 hj).1; simpa [rec1] using this
  have h1 : (recs rs)[k * 3 + j]? = ((recs rs).drop (k * 3))[j]? := by rw [List.getElem?_drop]
  rw [h1, recs_drop, List.drop_eq_getElem_cons h, ← rdr_at h]
  simp only [recs]
  rw [List.getElem?_append_left (by simp [rec1]; omega)]
  exact hj
abbrev ownR (A : Option Addr) (c : Nat) (rs : List RecD) : Ast := Ast.own 205 3 A rs.length c (recs rs)
/-- A slice of records reads as rs. -/
def InR (w : World) (A : Option Addr) (c : Nat) (rs : List RecD) : Prop := rs.length ≤ c ∧ rs.length ≤ 9223372036854775807 ∧ In w A (recs rs)
theorem InR.on {w0 W : World} {A : Option Addr} {c : Nat} {rs : List RecD} (h : InR w0 A c rs) {l : List Ast} (H : St w0 [] W l) : InR W A c rs := ⟨h.1, h.2.1, h.2.2.on H⟩
theorem InR.of {w : World} {A : Option Addr} {c : Nat} {rs : List RecD} (h : (ownR A c rs).p w) : InR w A c rs := ⟨(own_le h).1, (own_le h).2, own_in h⟩
theorem InR.keep {w W : World} {A : Option Addr} {c : Nat} {rs : List RecD} (h : InR w A c rs) (hb : Below w.heap.size w W) : InR W A c rs := ⟨h.1, h.2.1, h.2.2.keep hb⟩
theorem InR.nil (w : World) : InR w none 0 [] := ⟨Nat.le_refl _, by simp, In.nil _ _⟩
theorem InR.cell {w0 W : World} {A : Option Addr} {c : Nat} {rs : List RecD} (h : InR w0 A c rs) {l : List Ast} (H : St w0 [] W l) {k : Nat} (hk : k < rs.length) :
    ∃ ad, A = some ad ∧ ∀ (j : Nat) (v : Value), (rec1 (rdr rs k))[j]? = some v → W.cell? ((ad.add (k * 3)).add j) = some v := by
  obtain ⟨ad, h1, h2⟩ := (h.on H).2.2.at (by rw [recs_length]; omega)
  refine ⟨ad, h1, fun j v hj => ?_⟩
  rw [Go.Addr.add_add]
  exact h2 _ _ (recs_at hk hj)
theorem InR.none {w : World} {A : Option Addr} {c : Nat} {rs : List RecD} (h : InR w A c rs) : A = Option.none → rs.length = 0 := fun e => by
  rcases Nat.eq_zero_or_pos rs.length with h0 | h0
  · exact h0
  · obtain ⟨ad, h1, _⟩ := h.2.2.at (by rw [recs_length]; omega)
    rw [e] at h1; cases h1
structure RingD where (cap : Int) (list : List RecD)
end Go.Proofs.YtjgggmcnbdjdjaaGreat.C

/- Words of my own for arguments: slices of structs and slices of slices that came in. -/
namespace Go.Proofs.YtjgggmcnbdjdjaaGreat.C
open Go.RowKit Go.ChangeShapes Go.WideShapes Go.ChangeAt Go.Deep Go.Proofs.YtjgggmcnbdjdjaaGreat.K Go.Proofs.YtjgggmcnbdjdjaaGreat.B
set_option maxRecDepth 20000
set_option linter.unusedVariables false
set_option linter.unusedSimpArgs false
section
variable {H : Type} {enc : TypeId × Value → H} {P : Program} {w : World} {base : Nat} {spare : Nat → Bool} {held : Bool}
theorem leaf_rows {t e q : TypeId} {n : Nat} {u : Value} {y : DataW H × List MemPlace} (ht : P.underlying t = some (.slice e)) (he : P.underlying e = some (.slice q)) (hq : P.underlying q = some (.int .i64)) (ce : P.cellsOf e = 1) (cq : P.cellsOf q = 1) (h : DataW.trod enc P w base spare held n t [u] = some y) :
    ∃ (r : Rw) (xs : List (List Int)), u = .slice r.s.A xs.length r.s.c ∧ InRR w r xs := by
  rcases open_slice1 ht ce h with ⟨hcs, _⟩ | ⟨a, len, cap, m, n', V, D, Pl, hcs, _, hl, hm, hmm, _, hx⟩
  · simp at hcs
    exact ⟨Rw.nil, [], hcs, InRR.nil w⟩
  · simp at hcs
    have hlm : len ≤ m := by rw [hmm]; split <;> omega
    have key : ∀ i, i < len → ∃ p : Sl × List Int, V i = .slice p.1.A p.2.length p.1.c ∧ InI w p.1.A p.1.c p.2 := fun i hi => by
      obtain ⟨A, c, xs, h1, h2, _⟩ := leaf_ints he hq cq (hx i (by omega)).2
      exact ⟨(⟨A, c⟩, xs), h1, h2⟩
    let R : Nat → Sl × List Int := fun i => if hi : i < len then Classical.choose (key i hi) else (Sl.nil, [])
    have hR : ∀ i, i < len → V i = .slice (R i).1.A (R i).2.length (R i).1.c ∧ InI w (R i).1.A (R i).1.c (R i).2 := fun i hi => by
      have := Classical.choose_spec (key i hi)
      simp only [R, dif_pos hi]
      exact this
    unfold maxLen at hm
    have hr : ∀ k, k < len → rwAt ((List.range len).map fun i => (R i).2) k = (R k).2 := fun k hk => by simp [rwAt, hk]
    have hs : ∀ k, k < len → slAt ((List.range len).map fun i => (R i).1) k = (R k).1 := fun k hk => by simp [slAt, hk]
    refine ⟨⟨⟨some a, cap⟩, (List.range len).map fun i => (R i).1⟩, (List.range len).map fun i => (R i).2, by simpa using hcs, ⟨by simpa using hl, by simp; omega, by simp, fun j v hj => ?_, fun k hk => ?_⟩⟩
    · have hj' : j < len := by
        have := (List.getElem?_eq_some_iff.1 hj).1
        rw [rowVals_length _ _ (by simp)] at this
        simpa using this
      rw [rowVals_at (by simpa using hj') (by simp), hr j hj', hs j hj'] at hj
      injection hj with hj
      exact ⟨a, rfl, by rw [(hx j (by omega)).1, (hR j hj').1, hj]⟩
    · have hk' : k < len := by simpa using hk
      simp only
      rw [hr k hk', hs k hk']
      exact (hR k hk').2
end
end Go.Proofs.YtjgggmcnbdjdjaaGreat.C

