/- What is known of the structs of this program, and what the functions of the laws over them tell: copied in, alike, counted, marked, held. (written by datagen.py) -/
import Derived.Test.YtolfbmdgkbbnfaaC3
namespace Go.Proofs.Ytolfbmdgkbbnfaa.C
open Go.RowKit Go.Proofs.Ytolfbmdgkbbnfaa.K Go.Proofs.Ytolfbmdgkbbnfaa.B
attribute [local go_sem] max2_int min2_int max_two min_two i64_and255 i64_and65535 i64_and1
set_option maxRecDepth 20000
set_option linter.unusedVariables false
set_option linter.unusedSimpArgs false
/-! ## Ppu -/
structure PpuD where (t : Int) (ctrl : Int) (scroll : Int) (addr : Int) (pal : Int) (blank : Bool) (table : List Int) (dots : List Int)
structure PpuP where (table : Sl) (dots : Sl)
structure PpuIn (w : World) (x : PpuD) (q : PpuP) : Prop where
  table : InI w q.table.A q.table.c x.table
  dots : InI w q.dots.A q.dots.c x.dots
theorem PpuIn.keep {w W : World} {x : PpuD} {q : PpuP} (h : PpuIn w x q) (hb : Below w.heap.size w W) : PpuIn W x q := ⟨h.table.keep hb, h.dots.keep hb⟩
theorem PpuIn.on {w0 W : World} {x : PpuD} {q : PpuP} (h : PpuIn w0 x q) {l : List Ast} (H : St w0 [] W l) : PpuIn W x q := h.keep H.below
def ppuA (x : PpuD) (q : PpuP) : Ast := Ast.all [intsA q.table (x.table), intsA q.dots (x.dots)]
def ppuR (x : PpuD) (q : PpuP) : Ast := Ast.all [rowI q.table.A (nums x.table), rowI q.dots.A (nums x.dots)]
def ppuM (x : PpuD) (q : PpuP) (k : Int) : Ast := Ast.all [rowI q.table.A (nums (marks (k) x.table.length)), rowI q.dots.A (nums (marks (k + (x.table.length : Nat)) x.dots.length))]
def PpuD.mk_ (x : PpuD) : Nat := x.table.length + x.dots.length
def PpuD.sz_ (x : PpuD) : Nat := x.table.length + x.dots.length
structure PpuSmall (x : PpuD) : Prop where
  table : x.table.length ≤ 1048576
  dots : x.dots.length ≤ 1048576
theorem PpuSmall.of {x : PpuD} (h : x.sz_ ≤ 1048576) : PpuSmall x := by
  unfold PpuD.sz_ at h
  exact ⟨by omega, by omega⟩
theorem PpuIn.of {w : World} {x : PpuD} {q : PpuP} (h : (ppuA x q).p w) : PpuIn w x q := ⟨InI.of (h _ (by simp)), InI.of (h _ (by simp))⟩
theorem ppuR_fp (x : PpuD) (q : PpuP) : (ppuR x q).fp = (ppuA x q).fp := by
  unfold ppuR ppuA Ast.all
  simp only [List.flatMap_cons, List.flatMap_nil]
  try rfl
theorem ppuR_of {w : World} {x : PpuD} {q : PpuP} (h : (ppuA x q).p w) : (ppuR x q).p w := by
  intro a ha
  simp only [List.mem_cons, List.not_mem_nil, or_false] at ha
  rcases ha with rfl | rfl
  · exact own_row (h (intsA q.table (x.table)) (by simp))
  · exact own_row (h (intsA q.dots (x.dots)) (by simp))
/-! ## Apu -/
/-! ## Pad -/
/-! ## Rec -/
/-! ## Ring -/
structure RingP where (list : Sl)
structure RingIn (w : World) (x : RingD) (q : RingP) : Prop where
  list : InR w q.list.A q.list.c x.list
theorem RingIn.keep {w W : World} {x : RingD} {q : RingP} (h : RingIn w x q) (hb : Below w.heap.size w W) : RingIn W x q := ⟨h.list.keep hb⟩
theorem RingIn.on {w0 W : World} {x : RingD} {q : RingP} (h : RingIn w0 x q) {l : List Ast} (H : St w0 [] W l) : RingIn W x q := h.keep H.below
def ringA (x : RingD) (q : RingP) : Ast := Ast.all [ownR q.list.A q.list.c x.list]
def ringR (x : RingD) (q : RingP) : Ast := Ast.all [rowR q.list.A (recs x.list)]
def ringM (x : RingD) (q : RingP) (k : Int) : Ast := Ast.all [rowR q.list.A (nums (marks (k) (x.list.length * 3)))]
def RingD.mk_ (x : RingD) : Nat := x.list.length * 3
def RingD.sz_ (x : RingD) : Nat := x.list.length
structure RingSmall (x : RingD) : Prop where
  list : x.list.length ≤ 1048576
theorem RingSmall.of {x : RingD} (h : x.sz_ ≤ 1048576) : RingSmall x := by
  unfold RingD.sz_ at h
  exact ⟨by omega⟩
theorem RingIn.of {w : World} {x : RingD} {q : RingP} (h : (ringA x q).p w) : RingIn w x q := ⟨InR.of (h _ (by simp))⟩
theorem ringR_fp (x : RingD) (q : RingP) : (ringR x q).fp = (ringA x q).fp := by
  unfold ringR ringA Ast.all
  simp only [List.flatMap_cons, List.flatMap_nil]
  try rfl
theorem ringR_of {w : World} {x : RingD} {q : RingP} (h : (ringA x q).p w) : (ringR x q).p w := by
  intro a ha
  simp only [List.mem_cons, List.not_mem_nil, or_false] at ha
  rcases ha with rfl
  · exact own_row (h (ownR q.list.A q.list.c x.list) (by simp))
end Go.Proofs.Ytolfbmdgkbbnfaa.C
