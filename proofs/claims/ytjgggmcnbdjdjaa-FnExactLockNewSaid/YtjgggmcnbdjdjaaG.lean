/- What the functions over rings tell: made, put, looked at, taken. -/
import Derived.Test.YtjgggmcnbdjdjaaC2
namespace Go.Proofs.Ytjgggmcnbdjdjaa.C
open Go.RowKit Go.Proofs.Ytjgggmcnbdjdjaa.K Go.Proofs.Ytjgggmcnbdjdjaa.B
attribute [local go_sem] max2_int min2_int max_two min_two i64_and255 i64_and65535 i64_and1
set_option maxRecDepth 20000
set_option linter.unusedVariables false
set_option linter.unusedSimpArgs false
def RingD.zero : RingD := ⟨0, []⟩
def RingP.zero : RingP := ⟨Sl.nil⟩
def RingD.push (x : RingD) (r : RecD) : RingD := ⟨x.cap, x.list ++ [r]⟩
def RingD.newCap (c : Int) : Int := if (RingD.mk c []).ok = true then c else 0
def RingD.canPut (x : RingD) (r : RecD) : Bool := x.ok && (x.push r).ok
def RingD.put (x : RingD) (r : RecD) : RingD := if x.ok = true then (if (x.push r).ok = true then x.push r else x) else RingD.zero
def RecD.zero : RecD := ⟨0, 0, 0⟩
def RingD.has (x : RingD) : Bool := x.ok && decide (x.list.length ≠ 0)
def RingD.head (x : RingD) : RecD := if x.has = true then rdr x.list 0 else RecD.zero
def RingD.tail (x : RingD) : RingD := ⟨x.cap, x.list.drop 1⟩
def RingD.take (x : RingD) : RingD := if x.ok = true then x.tail else RingD.zero
theorem RingIn.zero (w : World) : RingIn w RingD.zero RingP.zero := ⟨InR.nil w⟩
theorem ringZero (w : World) : St w [] w [ringA RingD.zero RingP.zero] := by
  refine ⟨rfl, rfl, rfl, Nat.le_refl _, fun _ _ _ => rfl, fun a ha => ?_, by simp [ringA, RingP.zero, Sl.nil, Ast.all, Ast.own], fun a ha b hb => ?_⟩
  · rw [List.mem_singleton.1 ha]
    intro b hb
    rw [List.mem_singleton.1 hb]
    exact ⟨rfl, .inl ⟨rfl, rfl⟩⟩
  · rw [List.mem_singleton.1 ha] at hb
    simp [ringA, RingP.zero, Sl.nil, Ast.all, Ast.own] at hb
theorem InR.at0' {w0 W : World} {ad : Addr} {c : Nat} {rs : List RecD} (h : InR w0 (some ad) c rs) {l : List Ast} (H : St w0 [] W l) (hk : 0 < rs.length) : ∀ (j : Nat) (v : Value), (rec1 (rdr rs 0))[j]? = some v → W.cell? (ad.add j) = some v := by
  have := h.at H hk
  simpa [Addr.add_zero'] using this
theorem ownR_some {w : World} {A : Option Addr} {c : Nat} {rs : List RecD} (h : (ownR A c rs).p w) (h0 : 0 < rs.length) : ∃ g, A = some ⟨g, 0, none⟩ ∧ rs.length ≤ c := by
  rcases own_form h with ⟨_, h1, _, _⟩ | ⟨g, cur, hA, _, h1, _⟩
  · omega
  · exact ⟨g, hA, h1⟩
theorem In.drop {w : World} {ad : Addr} {cs : List Value} (h : In w (some ad) cs) (k : Nat) : In w (some (ad.add k)) (cs.drop k) := fun j v hj => by
  rw [List.getElem?_drop] at hj
  obtain ⟨ad', h1, h2⟩ := h _ _ hj
  injection h1 with h1; subst h1
  exact ⟨_, rfl, by rw [Addr.add_add]; exact h2⟩
theorem recs_drop1 (rs : List RecD) : (recs rs).drop 3 = recs (rs.drop 1) := recs_drop rs 1
theorem drop1_nil {rs : List RecD} (h : rs.length ≤ 1) : rs.drop 1 = [] := List.drop_eq_nil_of_le h
theorem ring_tailR {w : World} {x : RingD} {g c : Nat} (h : (ownR (some ⟨g, 0, none⟩) c x.list).p w) (h0 : 0 < x.list.length) (c' : Nat) : (ringR x.tail ⟨⟨some ⟨g, 3, none⟩, c'⟩⟩).p w := by
  intro a ha
  rw [List.mem_singleton.1 ha]
  have h1 := row_tail (own_row h) (k := 3) (by rw [recs_length]; omega) rfl
  rw [recs_drop1] at h1
  exact h1
theorem ring_tail0 {w : World} {x : RingD} {g c : Nat} (h : (ownR (some ⟨g, 0, none⟩) c x.list).p w) (h0 : x.list.length ≤ 1) (c' : Nat) : (ringR x.tail ⟨⟨some ⟨g, 0, none⟩, c'⟩⟩).p w := by
  intro a ha
  rw [List.mem_singleton.1 ha]
  obtain ⟨h1, cur, hh, h2, h3⟩ := own_row h
  refine ⟨rfl, cur, hh, ?_, ?_⟩ <;> simp [RingD.tail, drop1_nil h0, recs]
theorem RingIn.ofR {w : World} {x : RingD} {q : RingP} (h : (ringR x q).p w) (h1 : x.list.length ≤ q.list.c) (h2 : x.list.length ≤ 1048576) : RingIn w x q := ⟨⟨h1, by omega, row_in (h (rowR q.list.A (recs x.list)) (by simp))⟩⟩
theorem RingD.put_mk {x : RingD} (h : RingSmall x) (r : RecD) : (x.put r).mk_ ≤ 100000000 := by
  have := h.list
  unfold RingD.put RingD.mk_
  split
  · split
    · simp [RingD.push]; omega
    · omega
  · simp [RingD.zero]
theorem RingD.take_mk {x : RingD} (h : RingSmall x) : x.take.mk_ ≤ 100000000 := by
  have := h.list
  unfold RingD.take RingD.mk_
  split
  · simp [RingD.tail]; omega
  · simp [RingD.zero]
theorem fill_rec (r : RecD) : Instr.fill (fun i => some (i * 3, 3)) ((Array.range (1 * 3)).map ((Value.cells (.agg #[.int .i64 0, .int .i64 0, .int .i64 0]))[· % (Value.cells (.agg #[.int .i64 0, .int .i64 0, .int .i64 0])).size]!)) [(0, .agg #[.int .i64 r.t, .int .i64 r.r, .int .i64 r.v])] = some (rec1 r).toArray := by
  kernel_rfl
theorem impl_RingOkN (x : RingD) (q : RingP) (cap : Int) (N : Nat) (h1 : cap = x.cap) (h2 : N = x.list.length) (w : World) (hx : RingIn w x q) : Calls Try.prog 116 #[.agg #[.int .i64 cap, .slice q.list.A N q.list.c]] w fun e w' => e = .returned (.bool x.ok) ∧ Below w.heap.size w w' := by
  subst h1; subst h2; exact impl_RingOk x q w hx
theorem spec_RingOkN (x : RingD) (q : RingP) (cap : Int) (N : Nat) (h1 : cap = x.cap) (h2 : N = x.list.length) (w : World) (hx : RingIn w x q) : Calls Try.prog 106 #[.agg #[.int .i64 cap, .slice q.list.A N q.list.c]] w fun e w' => e = .returned (.bool x.ok) ∧ Below w.heap.size w w' := by
  subst h1; subst h2; exact spec_RingOk x q w hx
end Go.Proofs.Ytjgggmcnbdjdjaa.C
