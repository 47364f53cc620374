/- What is known of the structs of this program, and what the functions of the laws over them tell: copied in, alike, counted, marked, held. (written by datagen.py) -/
import Derived.Test.YtjgggmcnbdjdjaaGreatC3
namespace Go.Proofs.YtjgggmcnbdjdjaaGreat.C
open Go.RowKit Go.Proofs.YtjgggmcnbdjdjaaGreat.K Go.Proofs.YtjgggmcnbdjdjaaGreat.B
attribute [local go_sem] max2_int min2_int max_two min_two i64_and255 i64_and65535 i64_and1
set_option maxRecDepth 20000
set_option linter.unusedVariables false
set_option linter.unusedSimpArgs false
/-! ## Image -/
structure ImageD where (banks : List (List Int))
structure ImageP where (banks : Rw)
structure ImageIn (w : World) (x : ImageD) (q : ImageP) : Prop where
  banks : InRR w q.banks x.banks
theorem ImageIn.keep {w W : World} {x : ImageD} {q : ImageP} (h : ImageIn w x q) (hb : Below w.heap.size w W) : ImageIn W x q := ⟨h.banks.keep hb⟩
theorem ImageIn.on {w0 W : World} {x : ImageD} {q : ImageP} (h : ImageIn w0 x q) {l : List Ast} (H : St w0 [] W l) : ImageIn W x q := h.keep H.below
def imageA (x : ImageD) (q : ImageP) : Ast := Ast.all [rowsA q.banks x.banks]
def imageR (x : ImageD) (q : ImageP) : Ast := Ast.all [rowsR q.banks x.banks]
def imageM (x : ImageD) (q : ImageP) (k : Int) : Ast := Ast.all [rowsM q.banks x.banks (k)]
def ImageD.mk_ (x : ImageD) : Nat := lens x.banks
def ImageD.sz_ (x : ImageD) : Nat := (x.banks.length + lens x.banks)
structure ImageSmall (x : ImageD) : Prop where
  banks : x.banks.length ≤ 1048576 ∧ ∀ k, k < x.banks.length → (rwAt x.banks k).length ≤ 1048576
theorem ImageSmall.of {x : ImageD} (h : x.sz_ ≤ 1048576) : ImageSmall x := by
  unfold ImageD.sz_ at h
  exact ⟨rows_small (by omega)⟩
theorem ImageIn.of {w : World} {x : ImageD} {q : ImageP} (h : (imageA x q).p w) : ImageIn w x q := ⟨InRR.of (h _ (by simp))⟩
theorem imageR_fp (x : ImageD) (q : ImageP) : (imageR x q).fp = (imageA x q).fp := by
  unfold imageR imageA Ast.all
  simp only [List.flatMap_cons, List.flatMap_nil, rowsR_fp]
  try rfl
theorem imageR_of {w : World} {x : ImageD} {q : ImageP} (h : (imageA x q).p w) : (imageR x q).p w := by
  intro a ha
  simp only [List.mem_cons, List.not_mem_nil, or_false] at ha
  rcases ha with rfl
  · exact rowsR_of (h (rowsA q.banks x.banks) (by simp))
set_option maxHeartbeats 2000000 in
theorem laws_toImage (x : ImageD) (q : ImageP) (w : World) (hx : ImageIn w x q) (hs : ImageSmall x) : Calls Tryz.prog 21 #[.agg #[.slice q.banks.s.A x.banks.length q.banks.s.c]] w fun e w' => ∃ q', e = .returned (.agg #[.slice q'.banks.s.A x.banks.length q'.banks.s.c]) ∧ St w [] w' [imageA x q'] := by
  have H := St.nil w []
  go_enter Tryz.func21, Tryz.ntmps21
  go_wp2_with (first | ((with_reducible refine g_box rfl ?_); refine eBa H ?_; clear H; intro g_ W_ H) | ((with_reducible refine g_alloc rfl ?_); refine eNw H ?_; clear H; intro g_ W_ H) | ((with_reducible refine g_load rfl ?_); first | refine eL1 H ?_ | refine eLa H ?_) | ((with_reducible refine g_store rfl ?_); (first | refine eSs H ?_ | refine eSa H ?_); clear H; intro W_ H) | (go_at_call 75; (with_reducible refine (laws_toIntSS _ _ _ (hx.banks.on H) hs.banks).mono ?_); rintro e w1 ⟨q1, rfl, k⟩; (have H_ := H.call k); simp only [List.cons_append, List.nil_append] at H_; (clear H; have H := H_; clear H_); clear k))
  refine' back1 Tryz.results21 ?_ rfl ⟨⟨_⟩, ?_, (H.pack (l1 := [rowsA _ x.banks]) pksA).take (Picks.cons Pick.here Picks.nil)⟩; rotate_left 1; exact rvA
  rfl
set_option maxHeartbeats 2000000 in
theorem laws_eqImage (x : ImageD) (q r : ImageP) (w : World) (h1 : ImageIn w x q) (h2 : ImageIn w x r) : Calls Tryz.prog 25 #[.agg #[.slice q.banks.s.A x.banks.length q.banks.s.c], .agg #[.slice r.banks.s.A x.banks.length r.banks.s.c]] w fun e w' => e = .returned (.bool true) ∧ Below w.heap.size w w' := by
  have H := St.nil w []
  go_enter Tryz.func25, Tryz.ntmps25
  go_wp2_with (first | ((with_reducible refine g_box rfl ?_); refine eBa H ?_; clear H; intro g_ W_ H) | ((with_reducible refine g_load rfl ?_); refine eL1 H ?_) | (go_at_call 86; (with_reducible refine (laws_eqIntSS _ _ _ _ (h1.banks.on H) (h2.banks.on H)).mono ?_); rintro e w1 ⟨rfl, k⟩; (have H_ := H.call k); simp only [List.cons_append, List.nil_append] at H_; (clear H; have H := H_; clear H_); clear k))
  all_goals (go_ret; exact ⟨rfl, H.below⟩)
set_option maxHeartbeats 2000000 in
theorem laws_szImage (x : ImageD) (q : ImageP) (left : Int) (w : World) (hx : ImageIn w x q) (h0 : -1 ≤ left) (h1 : left ≤ 1048576) : Calls Tryz.prog 19 #[.agg #[.slice q.banks.s.A x.banks.length q.banks.s.c], .int .i64 left] w fun e w' => e = .returned (.int .i64 (szOf left x.sz_)) ∧ Below w.heap.size w w' := by
  have H := St.nil w []
  go_enter Tryz.func19, Tryz.ntmps19
  go_wp2_with (first | ((with_reducible refine g_box rfl ?_); refine eBa H ?_; clear H; intro g_ W_ H) | ((with_reducible refine g_load rfl ?_); refine eL1 H ?_) | (go_at_call 69; (with_reducible refine (laws_szIntSS _ _ _ _ (hx.banks.on H) (by first | omega | (unfold szOf; omega)) (by first | omega | (unfold szOf; omega))).mono ?_); rintro e w1 ⟨rfl, rfl⟩))
  all_goals (go_ret; exact ⟨ret_i (by unfold szOf at *; simp only [ImageD.sz_]; try omega), H.below⟩)
set_option maxHeartbeats 4000000 in
theorem laws_markImage (x : ImageD) (q : ImageP) (k : Int) (w : World) (hx : Hol w [imageR x q]) (h0 : 0 ≤ k) (h1 : k + x.mk_ ≤ 1000000000000) : Calls Tryz.prog 27 #[.agg #[.slice q.banks.s.A x.banks.length q.banks.s.c], .int .i64 k] w fun e w' => e = .returned (.int .i64 (k + (x.mk_ : Nat))) ∧ St w (imageR x q).fp w' [imageM x q k] := by
  have H := (all_hol hx).st
  unfold ImageD.mk_ at h1
  go_enter Tryz.func27, Tryz.ntmps27
  go_wp2_with (first | ((with_reducible refine g_box rfl ?_); refine eBa H ?_; clear H; intro g_ W_ H) | ((with_reducible refine g_load rfl ?_); refine eL1 H ?_) | (go_at_call 87; (with_reducible refine (laws_markIntSS q.banks x.banks _ _ (St.hol1 (H.pick pkA)) (by omega) (by omega)).mono ?_); rintro e w1 ⟨rfl, kk⟩; have H_ := (H.pick (x := rowsR q.banks x.banks) pkA).up1 kk (fun b hb => hb); simp only [List.cons_append, List.nil_append] at H_; (clear H; have H := H_; clear H_); clear kk))
  go_ret
  exact ⟨ret_i (by simp only [ImageD.mk_]; try omega), (H.pack (l1 := [rowsM q.banks x.banks (k)]) pksA).take (Picks.cons Pick.here Picks.nil)⟩
set_option maxHeartbeats 4000000 in
theorem laws_heldImage (x : ImageD) (q : ImageP) (k : Int) (w : World) (hx : (imageM x q k).p w) (h0 : 0 ≤ k) (h1 : k + x.mk_ ≤ 1000000000000) : Calls Tryz.prog 60 #[.agg #[.slice q.banks.s.A x.banks.length q.banks.s.c], .int .i64 k] w fun e w' => e = .returned (.int .i64 (k + (x.mk_ : Nat))) ∧ Below w.heap.size w w' := by
  have H := St.nil w []
  unfold ImageD.mk_ at h1
  have m0 := hx _ (.head _)
  clear hx
  go_enter Tryz.func60, Tryz.ntmps60
  go_wp2_with (first | ((with_reducible refine g_box rfl ?_); refine eBa H ?_; clear H; intro g_ W_ H) | ((with_reducible refine g_load rfl ?_); refine eL1 H ?_) | (go_at_call 131; (with_reducible refine (laws_heldIntSS q.banks x.banks _ _ (H.old0 m0) (by omega) (by omega)).mono ?_); rintro e w1 ⟨rfl, hb⟩; (replace H := H.callB hb; clear hb)))
  go_ret
  exact ⟨ret_i (by simp only [ImageD.mk_]; try omega), H.below⟩
/-! ## Mem -/
structure MemD where (ram : List Int) (bank : Int)
structure MemP where (ram : Sl)
structure MemIn (w : World) (x : MemD) (q : MemP) : Prop where
  ram : InI w q.ram.A q.ram.c x.ram
theorem MemIn.keep {w W : World} {x : MemD} {q : MemP} (h : MemIn w x q) (hb : Below w.heap.size w W) : MemIn W x q := ⟨h.ram.keep hb⟩
theorem MemIn.on {w0 W : World} {x : MemD} {q : MemP} (h : MemIn w0 x q) {l : List Ast} (H : St w0 [] W l) : MemIn W x q := h.keep H.below
def memA (x : MemD) (q : MemP) : Ast := Ast.all [intsA q.ram (x.ram)]
def memR (x : MemD) (q : MemP) : Ast := Ast.all [rowI q.ram.A (nums x.ram)]
def memM (x : MemD) (q : MemP) (k : Int) : Ast := Ast.all [rowI q.ram.A (nums (marks (k) x.ram.length))]
def MemD.mk_ (x : MemD) : Nat := x.ram.length
def MemD.sz_ (x : MemD) : Nat := x.ram.length
structure MemSmall (x : MemD) : Prop where
  ram : x.ram.length ≤ 1048576
theorem MemSmall.of {x : MemD} (h : x.sz_ ≤ 1048576) : MemSmall x := by
  unfold MemD.sz_ at h
  exact ⟨by omega⟩
theorem MemIn.of {w : World} {x : MemD} {q : MemP} (h : (memA x q).p w) : MemIn w x q := ⟨InI.of (h _ (by simp))⟩
theorem memR_fp (x : MemD) (q : MemP) : (memR x q).fp = (memA x q).fp := by
  unfold memR memA Ast.all
  simp only [List.flatMap_cons, List.flatMap_nil]
  try rfl
theorem memR_of {w : World} {x : MemD} {q : MemP} (h : (memA x q).p w) : (memR x q).p w := by
  intro a ha
  simp only [List.mem_cons, List.not_mem_nil, or_false] at ha
  rcases ha with rfl
  · exact own_row (h (intsA q.ram (x.ram)) (by simp))
set_option maxHeartbeats 2000000 in
theorem laws_toMem (x : MemD) (q : MemP) (w : World) (hx : MemIn w x q) (hs : MemSmall x) : Calls Tryz.prog 42 #[.agg #[.slice q.ram.A x.ram.length q.ram.c, .int .i64 x.bank]] w fun e w' => ∃ q', e = .returned (.agg #[.slice q'.ram.A x.ram.length q'.ram.c, .int .i64 x.bank]) ∧ St w [] w' [memA x q'] := by
  have H := St.nil w []
  go_enter Tryz.func42, Tryz.ntmps42
  go_wp2_with (first | ((with_reducible refine g_box rfl ?_); refine eBa H ?_; clear H; intro g_ W_ H) | ((with_reducible refine g_alloc rfl ?_); refine eNw H ?_; clear H; intro g_ W_ H) | ((with_reducible refine g_load rfl ?_); first | refine eL1 H ?_ | refine eLa H ?_) | ((with_reducible refine g_store rfl ?_); (first | refine eSi H ?_ | refine eSs H ?_ | refine eSa H ?_); clear H; intro W_ H) | (go_at_call 22; (with_reducible refine (to_ints _ _ _ (hx.ram.on H) hs.ram).mono ?_); rintro e w1 ⟨q1, rfl, k⟩; (have H_ := H.call k); simp only [List.cons_append, List.nil_append] at H_; (clear H; have H := H_; clear H_); clear k))
  refine' back1 Tryz.results42 ?_ rfl ⟨⟨_⟩, ?_, (H.pack (l1 := [intsA _ (x.ram)]) pksA).take (Picks.cons Pick.here Picks.nil)⟩; rotate_left 1; exact rvA
  rfl
set_option maxHeartbeats 2000000 in
theorem laws_eqMem (x : MemD) (q r : MemP) (w : World) (h1 : MemIn w x q) (h2 : MemIn w x r) : Calls Tryz.prog 51 #[.agg #[.slice q.ram.A x.ram.length q.ram.c, .int .i64 x.bank], .agg #[.slice r.ram.A x.ram.length r.ram.c, .int .i64 x.bank]] w fun e w' => e = .returned (.bool true) ∧ Below w.heap.size w w' := by
  have H := St.nil w []
  go_enter Tryz.func51, Tryz.ntmps51
  go_wp2_with (first | ((with_reducible refine g_box rfl ?_); refine eBa H ?_; clear H; intro g_ W_ H) | ((with_reducible refine g_load rfl ?_); refine eL1 H ?_) | (go_at_call 26; (with_reducible refine (laws_eqIntS _ _ _ _ _ _ (h1.ram.on H) (h2.ram.on H)).mono ?_); rintro e w1 ⟨rfl, k⟩; (have H_ := H.call k); simp only [List.cons_append, List.nil_append] at H_; (clear H; have H := H_; clear H_); clear k))
  all_goals (go_ret; exact ⟨rfl, H.below⟩)
set_option maxHeartbeats 2000000 in
theorem laws_szMem (x : MemD) (q : MemP) (left : Int) (w : World) (hx : MemIn w x q) (h0 : -1 ≤ left) (h1 : left ≤ 1048576) : Calls Tryz.prog 36 #[.agg #[.slice q.ram.A x.ram.length q.ram.c, .int .i64 x.bank], .int .i64 left] w fun e w' => e = .returned (.int .i64 (szOf left x.sz_)) ∧ Below w.heap.size w w' := by
  have H := St.nil w []
  go_enter Tryz.func36, Tryz.ntmps36
  go_wp2_with (first | ((with_reducible refine g_box rfl ?_); refine eBa H ?_; clear H; intro g_ W_ H) | ((with_reducible refine g_load rfl ?_); refine eL1 H ?_) | (go_at_call 35; (with_reducible refine (laws_szIntS _ _ _ _ _ (hx.ram.on H) (by first | omega | (unfold szOf; omega)) (by first | omega | (unfold szOf; omega))).mono ?_); rintro e w1 ⟨rfl, rfl⟩))
  all_goals (go_ret; exact ⟨ret_i (by unfold szOf at *; simp only [MemD.sz_]; try omega), H.below⟩)
set_option maxHeartbeats 4000000 in
theorem laws_markMem (x : MemD) (q : MemP) (k : Int) (w : World) (hx : Hol w [memR x q]) (h0 : 0 ≤ k) (h1 : k + x.mk_ ≤ 1000000000000) : Calls Tryz.prog 57 #[.agg #[.slice q.ram.A x.ram.length q.ram.c, .int .i64 x.bank], .int .i64 k] w fun e w' => e = .returned (.int .i64 (k + (x.mk_ : Nat))) ∧ St w (memR x q).fp w' [memM x q k] := by
  have H := (all_hol hx).st
  unfold MemD.mk_ at h1
  go_enter Tryz.func57, Tryz.ntmps57
  go_wp2_with (first | ((with_reducible refine g_box rfl ?_); refine eBa H ?_; clear H; intro g_ W_ H) | ((with_reducible refine g_load rfl ?_); refine eL1 H ?_) | (go_at_call 28; (with_reducible refine (laws_markIntS q.ram.A _ _ (nums x.ram) _ _ (St.hol1 (H.pick pkA)) (nums_length _) (by omega) (by omega) (by omega)).mono ?_); rintro e w1 ⟨rfl, kk⟩; have H_ := (H.pick (x := rowI q.ram.A (nums x.ram)) pkA).up1 kk (fun b hb => hb); simp only [List.cons_append, List.nil_append] at H_; (clear H; have H := H_; clear H_); clear kk))
  go_ret
  exact ⟨ret_i (by simp only [MemD.mk_]; try omega), (H.pack (l1 := [rowI q.ram.A (nums (marks (k) x.ram.length))]) pksA).take (Picks.cons Pick.here Picks.nil)⟩
set_option maxHeartbeats 4000000 in
theorem laws_heldMem (x : MemD) (q : MemP) (k : Int) (w : World) (hx : (memM x q k).p w) (h0 : 0 ≤ k) (h1 : k + x.mk_ ≤ 1000000000000) : Calls Tryz.prog 62 #[.agg #[.slice q.ram.A x.ram.length q.ram.c, .int .i64 x.bank], .int .i64 k] w fun e w' => e = .returned (.int .i64 (k + (x.mk_ : Nat))) ∧ Below w.heap.size w w' := by
  have H := St.nil w []
  unfold MemD.mk_ at h1
  have m0 := hx _ (.head _)
  clear hx
  go_enter Tryz.func62, Tryz.ntmps62
  go_wp2_with (first | ((with_reducible refine g_box rfl ?_); refine eBa H ?_; clear H; intro g_ W_ H) | ((with_reducible refine g_load rfl ?_); refine eL1 H ?_) | (go_at_call 61; (with_reducible refine (laws_heldIntS q.ram.A _ _ _ _ (H.old0 m0) (by omega) (by omega) (by omega)).mono ?_); rintro e w1 ⟨rfl, rfl⟩))
  go_ret
  exact ⟨ret_i (by simp only [MemD.mk_]; try omega), H.below⟩
/-! ## Cpu -/
structure CpuD where (a : Int) (x : Int) (s : Int) (pc : Int) (z : Bool) (n : Bool) (c : Bool) (i : Bool)
theorem laws_toCpu (x : CpuD) (w : World) : Calls Tryz.prog 43 #[.agg #[.int .i64 x.a, .int .i64 x.x, .int .i64 x.s, .int .i64 x.pc, .bool x.z, .bool x.n, .bool x.c, .bool x.i]] w fun e w' => e = .returned (.agg #[.int .i64 x.a, .int .i64 x.x, .int .i64 x.s, .int .i64 x.pc, .bool x.z, .bool x.n, .bool x.c, .bool x.i]) ∧ Below w.heap.size w w' := by
  have H := St.nil w []
  go_enter Tryz.func43, Tryz.ntmps43
  go_wp2_with (first | ((with_reducible refine g_box rfl ?_); refine eBa H ?_; clear H; intro g_ W_ H) | ((with_reducible refine g_alloc rfl ?_); refine eNw H ?_; clear H; intro g_ W_ H) | ((with_reducible refine g_load rfl ?_); first | refine eL1 H ?_ | refine eLa H ?_) | ((with_reducible refine g_store rfl ?_); (first | refine eSi H ?_ | refine eSb H ?_ | refine eSa H ?_); clear H; intro W_ H))
  refine' back1 Tryz.results43 ?_ rfl ⟨?_, H.below⟩; rotate_left 1; exact rvA
  rfl
theorem laws_eqCpu (x : CpuD) (w : World) : Calls Tryz.prog 52 #[.agg #[.int .i64 x.a, .int .i64 x.x, .int .i64 x.s, .int .i64 x.pc, .bool x.z, .bool x.n, .bool x.c, .bool x.i], .agg #[.int .i64 x.a, .int .i64 x.x, .int .i64 x.s, .int .i64 x.pc, .bool x.z, .bool x.n, .bool x.c, .bool x.i]] w fun e w' => e = .returned (.bool true) ∧ Below w.heap.size w w' := by
  have H := St.nil w []
  go_enter Tryz.func52, Tryz.ntmps52
  go_wp2_with (first | ((with_reducible refine g_box rfl ?_); refine eBa H ?_; clear H; intro g_ W_ H) | ((with_reducible refine g_load rfl ?_); refine eL1 H ?_))
  all_goals (go_ret; exact ⟨rfl, H.below⟩)
/-! ## Instr -/
structure InstrD where (op : Int) (arg : Int)
/-! ## Ppu -/
structure PpuD where (t : Int) (ctrl : Int) (scroll : Int) (addr : Int) (pal : Int) (blank : Bool) (table : List Int) (dots : List Int)
structure PpuP where (table : Sl) (dots : Sl)
structure PpuIn (w : World) (x : PpuD) (q : PpuP) : Prop where
  table : InI w q.table.A q.table.c x.table
  dots : InI w q.dots.A q.dots.c x.dots
theorem PpuIn.keep {w W : World} {x : PpuD} {q : PpuP} (h : PpuIn w x q) (hb : Below w.heap.size w W) : PpuIn W x q := ⟨h.table.keep hb, h.dots.keep hb⟩
theorem PpuIn.on {w0 W : World} {x : PpuD} {q : PpuP} (h : PpuIn w0 x q) {l : List Ast} (H : St w0 [] W l) : PpuIn W x q := h.keep H.below
def ppuA (x : PpuD) (q : PpuP) : Ast := Ast.all [intsA q.table (x.table), intsA q.dots (x.dots)]
def ppuR (x : PpuD) (q : PpuP) : Ast := Ast.all [rowI q.table.A (nums x.table), rowI q.dots.A (nums x.dots)]
def ppuM (x : PpuD) (q : PpuP) (k : Int) : Ast := Ast.all [rowI q.table.A (nums (marks (k) x.table.length)), rowI q.dots.A (nums (marks (k + (x.table.length : Nat)) x.dots.length))]
def PpuD.mk_ (x : PpuD) : Nat := x.table.length + x.dots.length
def PpuD.sz_ (x : PpuD) : Nat := x.table.length + x.dots.length
structure PpuSmall (x : PpuD) : Prop where
  table : x.table.length ≤ 1048576
  dots : x.dots.length ≤ 1048576
theorem PpuSmall.of {x : PpuD} (h : x.sz_ ≤ 1048576) : PpuSmall x := by
  unfold PpuD.sz_ at h
  exact ⟨by omega, by omega⟩
theorem PpuIn.of {w : World} {x : PpuD} {q : PpuP} (h : (ppuA x q).p w) : PpuIn w x q := ⟨InI.of (h _ (by simp)), InI.of (h _ (by simp))⟩
theorem ppuR_fp (x : PpuD) (q : PpuP) : (ppuR x q).fp = (ppuA x q).fp := by
  unfold ppuR ppuA Ast.all
  simp only [List.flatMap_cons, List.flatMap_nil]
  try rfl
theorem ppuR_of {w : World} {x : PpuD} {q : PpuP} (h : (ppuA x q).p w) : (ppuR x q).p w := by
  intro a ha
  simp only [List.mem_cons, List.not_mem_nil, or_false] at ha
  rcases ha with rfl | rfl
  · exact own_row (h (intsA q.table (x.table)) (by simp))
  · exact own_row (h (intsA q.dots (x.dots)) (by simp))
set_option maxHeartbeats 2000000 in
theorem laws_toPpu (x : PpuD) (q : PpuP) (w : World) (hx : PpuIn w x q) (hs : PpuSmall x) : Calls Tryz.prog 44 #[.agg #[.int .i64 x.t, .int .i64 x.ctrl, .int .i64 x.scroll, .int .i64 x.addr, .int .i64 x.pal, .bool x.blank, .slice q.table.A x.table.length q.table.c, .slice q.dots.A x.dots.length q.dots.c]] w fun e w' => ∃ q', e = .returned (.agg #[.int .i64 x.t, .int .i64 x.ctrl, .int .i64 x.scroll, .int .i64 x.addr, .int .i64 x.pal, .bool x.blank, .slice q'.table.A x.table.length q'.table.c, .slice q'.dots.A x.dots.length q'.dots.c]) ∧ St w [] w' [ppuA x q'] := by
  have H := St.nil w []
  go_enter Tryz.func44, Tryz.ntmps44
  go_wp2_with (first | ((with_reducible refine g_box rfl ?_); refine eBa H ?_; clear H; intro g_ W_ H) | ((with_reducible refine g_alloc rfl ?_); refine eNw H ?_; clear H; intro g_ W_ H) | ((with_reducible refine g_load rfl ?_); first | refine eL1 H ?_ | refine eLa H ?_) | ((with_reducible refine g_store rfl ?_); (first | refine eSi H ?_ | refine eSb H ?_ | refine eSs H ?_ | refine eSa H ?_); clear H; intro W_ H) | (go_at_call 22; (with_reducible refine (to_ints _ _ _ (hx.table.on H) hs.table).mono ?_); rintro e w1 ⟨q1, rfl, k⟩; (have H_ := H.call k); simp only [List.cons_append, List.nil_append] at H_; (clear H; have H := H_; clear H_); clear k) | (go_at_call 22; (with_reducible refine (to_ints _ _ _ (hx.dots.on H) hs.dots).mono ?_); rintro e w1 ⟨q1, rfl, k⟩; (have H_ := H.call k); simp only [List.cons_append, List.nil_append] at H_; (clear H; have H := H_; clear H_); clear k))
  refine' back1 Tryz.results44 ?_ rfl ⟨⟨_, _⟩, ?_, (H.pack (l1 := [intsA _ (x.table), intsA _ (x.dots)]) pksA).take (Picks.cons Pick.here Picks.nil)⟩; rotate_left 1; exact rvA
  rfl
set_option maxHeartbeats 2000000 in
theorem laws_eqPpu (x : PpuD) (q r : PpuP) (w : World) (h1 : PpuIn w x q) (h2 : PpuIn w x r) : Calls Tryz.prog 53 #[.agg #[.int .i64 x.t, .int .i64 x.ctrl, .int .i64 x.scroll, .int .i64 x.addr, .int .i64 x.pal, .bool x.blank, .slice q.table.A x.table.length q.table.c, .slice q.dots.A x.dots.length q.dots.c], .agg #[.int .i64 x.t, .int .i64 x.ctrl, .int .i64 x.scroll, .int .i64 x.addr, .int .i64 x.pal, .bool x.blank, .slice r.table.A x.table.length r.table.c, .slice r.dots.A x.dots.length r.dots.c]] w fun e w' => e = .returned (.bool true) ∧ Below w.heap.size w w' := by
  have H := St.nil w []
  go_enter Tryz.func53, Tryz.ntmps53
  go_wp2_with (first | ((with_reducible refine g_box rfl ?_); refine eBa H ?_; clear H; intro g_ W_ H) | ((with_reducible refine g_load rfl ?_); refine eL1 H ?_) | (go_at_call 26; (with_reducible refine (laws_eqIntS _ _ _ _ _ _ (h1.table.on H) (h2.table.on H)).mono ?_); rintro e w1 ⟨rfl, k⟩; (have H_ := H.call k); simp only [List.cons_append, List.nil_append] at H_; (clear H; have H := H_; clear H_); clear k) | (go_at_call 26; (with_reducible refine (laws_eqIntS _ _ _ _ _ _ (h1.dots.on H) (h2.dots.on H)).mono ?_); rintro e w1 ⟨rfl, k⟩; (have H_ := H.call k); simp only [List.cons_append, List.nil_append] at H_; (clear H; have H := H_; clear H_); clear k))
  all_goals (go_ret; exact ⟨rfl, H.below⟩)
set_option maxHeartbeats 2000000 in
theorem laws_szPpu (x : PpuD) (q : PpuP) (left : Int) (w : World) (hx : PpuIn w x q) (h0 : -1 ≤ left) (h1 : left ≤ 1048576) : Calls Tryz.prog 37 #[.agg #[.int .i64 x.t, .int .i64 x.ctrl, .int .i64 x.scroll, .int .i64 x.addr, .int .i64 x.pal, .bool x.blank, .slice q.table.A x.table.length q.table.c, .slice q.dots.A x.dots.length q.dots.c], .int .i64 left] w fun e w' => e = .returned (.int .i64 (szOf left x.sz_)) ∧ Below w.heap.size w w' := by
  have H := St.nil w []
  go_enter Tryz.func37, Tryz.ntmps37
  go_wp2_with (first | ((with_reducible refine g_box rfl ?_); refine eBa H ?_; clear H; intro g_ W_ H) | ((with_reducible refine g_load rfl ?_); refine eL1 H ?_) | (go_at_call 35; (with_reducible refine (laws_szIntS _ _ _ _ _ (hx.table.on H) (by first | omega | (unfold szOf; omega)) (by first | omega | (unfold szOf; omega))).mono ?_); rintro e w1 ⟨rfl, rfl⟩) | (go_at_call 35; (with_reducible refine (laws_szIntS _ _ _ _ _ (hx.dots.on H) (by first | omega | (unfold szOf; omega)) (by first | omega | (unfold szOf; omega))).mono ?_); rintro e w1 ⟨rfl, rfl⟩))
  all_goals (go_ret; exact ⟨ret_i (by unfold szOf at *; simp only [PpuD.sz_]; try omega), H.below⟩)
set_option maxHeartbeats 4000000 in
theorem laws_markPpu (x : PpuD) (q : PpuP) (k : Int) (w : World) (hx : Hol w [ppuR x q]) (h0 : 0 ≤ k) (h1 : k + x.mk_ ≤ 1000000000000) : Calls Tryz.prog 58 #[.agg #[.int .i64 x.t, .int .i64 x.ctrl, .int .i64 x.scroll, .int .i64 x.addr, .int .i64 x.pal, .bool x.blank, .slice q.table.A x.table.length q.table.c, .slice q.dots.A x.dots.length q.dots.c], .int .i64 k] w fun e w' => e = .returned (.int .i64 (k + (x.mk_ : Nat))) ∧ St w (ppuR x q).fp w' [ppuM x q k] := by
  have H := (all_hol hx).st
  unfold PpuD.mk_ at h1
  go_enter Tryz.func58, Tryz.ntmps58
  go_wp2_with (first | ((with_reducible refine g_box rfl ?_); refine eBa H ?_; clear H; intro g_ W_ H) | ((with_reducible refine g_load rfl ?_); refine eL1 H ?_) | (go_at_call 28; (with_reducible refine (laws_markIntS q.table.A _ _ (nums x.table) _ _ (St.hol1 (H.pick pkA)) (nums_length _) (by omega) (by omega) (by omega)).mono ?_); rintro e w1 ⟨rfl, kk⟩; have H_ := (H.pick (x := rowI q.table.A (nums x.table)) pkA).up1 kk (fun b hb => hb); simp only [List.cons_append, List.nil_append] at H_; (clear H; have H := H_; clear H_); clear kk) | (go_at_call 28; (with_reducible refine (laws_markIntS q.dots.A _ _ (nums x.dots) _ _ (St.hol1 (H.pick pkA)) (nums_length _) (by omega) (by omega) (by omega)).mono ?_); rintro e w1 ⟨rfl, kk⟩; have H_ := (H.pick (x := rowI q.dots.A (nums x.dots)) pkA).up1 kk (fun b hb => hb); simp only [List.cons_append, List.nil_append] at H_; (clear H; have H := H_; clear H_); clear kk))
  go_ret
  exact ⟨ret_i (by simp only [PpuD.mk_]; try omega), (H.pack (l1 := [rowI q.table.A (nums (marks (k) x.table.length)), rowI q.dots.A (nums (marks (k + (x.table.length : Nat)) x.dots.length))]) pksA).take (Picks.cons Pick.here Picks.nil)⟩
set_option maxHeartbeats 4000000 in
theorem laws_heldPpu (x : PpuD) (q : PpuP) (k : Int) (w : World) (hx : (ppuM x q k).p w) (h0 : 0 ≤ k) (h1 : k + x.mk_ ≤ 1000000000000) : Calls Tryz.prog 63 #[.agg #[.int .i64 x.t, .int .i64 x.ctrl, .int .i64 x.scroll, .int .i64 x.addr, .int .i64 x.pal, .bool x.blank, .slice q.table.A x.table.length q.table.c, .slice q.dots.A x.dots.length q.dots.c], .int .i64 k] w fun e w' => e = .returned (.int .i64 (k + (x.mk_ : Nat))) ∧ Below w.heap.size w w' := by
  have H := St.nil w []
  unfold PpuD.mk_ at h1
  have m0 := hx _ (.head _)
  have m1 := hx _ (.tail _ (.head _))
  clear hx
  go_enter Tryz.func63, Tryz.ntmps63
  go_wp2_with (first | ((with_reducible refine g_box rfl ?_); refine eBa H ?_; clear H; intro g_ W_ H) | ((with_reducible refine g_load rfl ?_); refine eL1 H ?_) | (go_at_call 61; (with_reducible refine (laws_heldIntS q.table.A _ _ _ _ (H.old0 m0) (by omega) (by omega) (by omega)).mono ?_); rintro e w1 ⟨rfl, rfl⟩) | (go_at_call 61; (with_reducible refine (laws_heldIntS q.dots.A _ _ _ _ (H.old0 m1) (by omega) (by omega) (by omega)).mono ?_); rintro e w1 ⟨rfl, rfl⟩))
  go_ret
  exact ⟨ret_i (by simp only [PpuD.mk_]; try omega), H.below⟩
/-! ## Apu -/
/-! ## Pad -/
/-! ## Obs -/
structure ObsD where (frames : List (List Int)) (samples : List Int) (reads : List Int)
structure ObsP where (frames : Rw) (samples : Sl) (reads : Sl)
structure ObsIn (w : World) (x : ObsD) (q : ObsP) : Prop where
  frames : InRR w q.frames x.frames
  samples : InI w q.samples.A q.samples.c x.samples
  reads : InI w q.reads.A q.reads.c x.reads
theorem ObsIn.keep {w W : World} {x : ObsD} {q : ObsP} (h : ObsIn w x q) (hb : Below w.heap.size w W) : ObsIn W x q := ⟨h.frames.keep hb, h.samples.keep hb, h.reads.keep hb⟩
theorem ObsIn.on {w0 W : World} {x : ObsD} {q : ObsP} (h : ObsIn w0 x q) {l : List Ast} (H : St w0 [] W l) : ObsIn W x q := h.keep H.below
def obsA (x : ObsD) (q : ObsP) : Ast := Ast.all [rowsA q.frames x.frames, intsA q.samples (x.samples), intsA q.reads (x.reads)]
def obsR (x : ObsD) (q : ObsP) : Ast := Ast.all [rowsR q.frames x.frames, rowI q.samples.A (nums x.samples), rowI q.reads.A (nums x.reads)]
def obsM (x : ObsD) (q : ObsP) (k : Int) : Ast := Ast.all [rowsM q.frames x.frames (k), rowI q.samples.A (nums (marks (k + (lens x.frames : Nat)) x.samples.length)), rowI q.reads.A (nums (marks (k + (lens x.frames : Nat) + (x.samples.length : Nat)) x.reads.length))]
def ObsD.mk_ (x : ObsD) : Nat := lens x.frames + x.samples.length + x.reads.length
def ObsD.sz_ (x : ObsD) : Nat := (x.frames.length + lens x.frames) + x.samples.length + x.reads.length
structure ObsSmall (x : ObsD) : Prop where
  frames : x.frames.length ≤ 1048576 ∧ ∀ k, k < x.frames.length → (rwAt x.frames k).length ≤ 1048576
  samples : x.samples.length ≤ 1048576
  reads : x.reads.length ≤ 1048576
theorem ObsSmall.of {x : ObsD} (h : x.sz_ ≤ 1048576) : ObsSmall x := by
  unfold ObsD.sz_ at h
  exact ⟨rows_small (by omega), by omega, by omega⟩
theorem ObsIn.of {w : World} {x : ObsD} {q : ObsP} (h : (obsA x q).p w) : ObsIn w x q := ⟨InRR.of (h _ (by simp)), InI.of (h _ (by simp)), InI.of (h _ (by simp))⟩
theorem obsR_fp (x : ObsD) (q : ObsP) : (obsR x q).fp = (obsA x q).fp := by
  unfold obsR obsA Ast.all
  simp only [List.flatMap_cons, List.flatMap_nil, rowsR_fp]
  try rfl
theorem obsR_of {w : World} {x : ObsD} {q : ObsP} (h : (obsA x q).p w) : (obsR x q).p w := by
  intro a ha
  simp only [List.mem_cons, List.not_mem_nil, or_false] at ha
  rcases ha with rfl | rfl | rfl
  · exact rowsR_of (h (rowsA q.frames x.frames) (by simp))
  · exact own_row (h (intsA q.samples (x.samples)) (by simp))
  · exact own_row (h (intsA q.reads (x.reads)) (by simp))
set_option maxHeartbeats 2000000 in
theorem laws_toObs (x : ObsD) (q : ObsP) (w : World) (hx : ObsIn w x q) (hs : ObsSmall x) : Calls Tryz.prog 47 #[.agg #[.slice q.frames.s.A x.frames.length q.frames.s.c, .slice q.samples.A x.samples.length q.samples.c, .slice q.reads.A x.reads.length q.reads.c]] w fun e w' => ∃ q', e = .returned (.agg #[.slice q'.frames.s.A x.frames.length q'.frames.s.c, .slice q'.samples.A x.samples.length q'.samples.c, .slice q'.reads.A x.reads.length q'.reads.c]) ∧ St w [] w' [obsA x q'] := by
  have H := St.nil w []
  go_enter Tryz.func47, Tryz.ntmps47
  go_wp2_with (first | ((with_reducible refine g_box rfl ?_); refine eBa H ?_; clear H; intro g_ W_ H) | ((with_reducible refine g_alloc rfl ?_); refine eNw H ?_; clear H; intro g_ W_ H) | ((with_reducible refine g_load rfl ?_); first | refine eL1 H ?_ | refine eLa H ?_) | ((with_reducible refine g_store rfl ?_); (first | refine eSs H ?_ | refine eSa H ?_); clear H; intro W_ H) | (go_at_call 75; (with_reducible refine (laws_toIntSS _ _ _ (hx.frames.on H) hs.frames).mono ?_); rintro e w1 ⟨q1, rfl, k⟩; (have H_ := H.call k); simp only [List.cons_append, List.nil_append] at H_; (clear H; have H := H_; clear H_); clear k) | (go_at_call 22; (with_reducible refine (to_ints _ _ _ (hx.samples.on H) hs.samples).mono ?_); rintro e w1 ⟨q1, rfl, k⟩; (have H_ := H.call k); simp only [List.cons_append, List.nil_append] at H_; (clear H; have H := H_; clear H_); clear k) | (go_at_call 22; (with_reducible refine (to_ints _ _ _ (hx.reads.on H) hs.reads).mono ?_); rintro e w1 ⟨q1, rfl, k⟩; (have H_ := H.call k); simp only [List.cons_append, List.nil_append] at H_; (clear H; have H := H_; clear H_); clear k))
  refine' back1 Tryz.results47 ?_ rfl ⟨⟨_, _, _⟩, ?_, (H.pack (l1 := [rowsA _ x.frames, intsA _ (x.samples), intsA _ (x.reads)]) pksA).take (Picks.cons Pick.here Picks.nil)⟩; rotate_left 1; exact rvA
  rfl
set_option maxHeartbeats 2000000 in
theorem laws_eqObs (x : ObsD) (q r : ObsP) (w : World) (h1 : ObsIn w x q) (h2 : ObsIn w x r) : Calls Tryz.prog 56 #[.agg #[.slice q.frames.s.A x.frames.length q.frames.s.c, .slice q.samples.A x.samples.length q.samples.c, .slice q.reads.A x.reads.length q.reads.c], .agg #[.slice r.frames.s.A x.frames.length r.frames.s.c, .slice r.samples.A x.samples.length r.samples.c, .slice r.reads.A x.reads.length r.reads.c]] w fun e w' => e = .returned (.bool true) ∧ Below w.heap.size w w' := by
  have H := St.nil w []
  go_enter Tryz.func56, Tryz.ntmps56
  go_wp2_with (first | ((with_reducible refine g_box rfl ?_); refine eBa H ?_; clear H; intro g_ W_ H) | ((with_reducible refine g_load rfl ?_); refine eL1 H ?_) | (go_at_call 86; (with_reducible refine (laws_eqIntSS _ _ _ _ (h1.frames.on H) (h2.frames.on H)).mono ?_); rintro e w1 ⟨rfl, k⟩; (have H_ := H.call k); simp only [List.cons_append, List.nil_append] at H_; (clear H; have H := H_; clear H_); clear k) | (go_at_call 26; (with_reducible refine (laws_eqIntS _ _ _ _ _ _ (h1.samples.on H) (h2.samples.on H)).mono ?_); rintro e w1 ⟨rfl, k⟩; (have H_ := H.call k); simp only [List.cons_append, List.nil_append] at H_; (clear H; have H := H_; clear H_); clear k) | (go_at_call 26; (with_reducible refine (laws_eqIntS _ _ _ _ _ _ (h1.reads.on H) (h2.reads.on H)).mono ?_); rintro e w1 ⟨rfl, k⟩; (have H_ := H.call k); simp only [List.cons_append, List.nil_append] at H_; (clear H; have H := H_; clear H_); clear k))
  all_goals (go_ret; exact ⟨rfl, H.below⟩)
set_option maxHeartbeats 2000000 in
theorem laws_szObs (x : ObsD) (q : ObsP) (left : Int) (w : World) (hx : ObsIn w x q) (h0 : -1 ≤ left) (h1 : left ≤ 1048576) : Calls Tryz.prog 38 #[.agg #[.slice q.frames.s.A x.frames.length q.frames.s.c, .slice q.samples.A x.samples.length q.samples.c, .slice q.reads.A x.reads.length q.reads.c], .int .i64 left] w fun e w' => e = .returned (.int .i64 (szOf left x.sz_)) ∧ Below w.heap.size w w' := by
  have H := St.nil w []
  go_enter Tryz.func38, Tryz.ntmps38
  go_wp2_with (first | ((with_reducible refine g_box rfl ?_); refine eBa H ?_; clear H; intro g_ W_ H) | ((with_reducible refine g_load rfl ?_); refine eL1 H ?_) | (go_at_call 69; (with_reducible refine (laws_szIntSS _ _ _ _ (hx.frames.on H) (by first | omega | (unfold szOf; omega)) (by first | omega | (unfold szOf; omega))).mono ?_); rintro e w1 ⟨rfl, rfl⟩) | (go_at_call 35; (with_reducible refine (laws_szIntS _ _ _ _ _ (hx.samples.on H) (by first | omega | (unfold szOf; omega)) (by first | omega | (unfold szOf; omega))).mono ?_); rintro e w1 ⟨rfl, rfl⟩) | (go_at_call 35; (with_reducible refine (laws_szIntS _ _ _ _ _ (hx.reads.on H) (by first | omega | (unfold szOf; omega)) (by first | omega | (unfold szOf; omega))).mono ?_); rintro e w1 ⟨rfl, rfl⟩))
  all_goals (go_ret; exact ⟨ret_i (by unfold szOf at *; simp only [ObsD.sz_]; try omega), H.below⟩)
set_option maxHeartbeats 4000000 in
theorem laws_markObs (x : ObsD) (q : ObsP) (k : Int) (w : World) (hx : Hol w [obsR x q]) (h0 : 0 ≤ k) (h1 : k + x.mk_ ≤ 1000000000000) : Calls Tryz.prog 59 #[.agg #[.slice q.frames.s.A x.frames.length q.frames.s.c, .slice q.samples.A x.samples.length q.samples.c, .slice q.reads.A x.reads.length q.reads.c], .int .i64 k] w fun e w' => e = .returned (.int .i64 (k + (x.mk_ : Nat))) ∧ St w (obsR x q).fp w' [obsM x q k] := by
  have H := (all_hol hx).st
  unfold ObsD.mk_ at h1
  go_enter Tryz.func59, Tryz.ntmps59
  go_wp2_with (first | ((with_reducible refine g_box rfl ?_); refine eBa H ?_; clear H; intro g_ W_ H) | ((with_reducible refine g_load rfl ?_); refine eL1 H ?_) | (go_at_call 87; (with_reducible refine (laws_markIntSS q.frames x.frames _ _ (St.hol1 (H.pick pkA)) (by omega) (by omega)).mono ?_); rintro e w1 ⟨rfl, kk⟩; have H_ := (H.pick (x := rowsR q.frames x.frames) pkA).up1 kk (fun b hb => hb); simp only [List.cons_append, List.nil_append] at H_; (clear H; have H := H_; clear H_); clear kk) | (go_at_call 28; (with_reducible refine (laws_markIntS q.samples.A _ _ (nums x.samples) _ _ (St.hol1 (H.pick pkA)) (nums_length _) (by omega) (by omega) (by omega)).mono ?_); rintro e w1 ⟨rfl, kk⟩; have H_ := (H.pick (x := rowI q.samples.A (nums x.samples)) pkA).up1 kk (fun b hb => hb); simp only [List.cons_append, List.nil_append] at H_; (clear H; have H := H_; clear H_); clear kk) | (go_at_call 28; (with_reducible refine (laws_markIntS q.reads.A _ _ (nums x.reads) _ _ (St.hol1 (H.pick pkA)) (nums_length _) (by omega) (by omega) (by omega)).mono ?_); rintro e w1 ⟨rfl, kk⟩; have H_ := (H.pick (x := rowI q.reads.A (nums x.reads)) pkA).up1 kk (fun b hb => hb); simp only [List.cons_append, List.nil_append] at H_; (clear H; have H := H_; clear H_); clear kk))
  go_ret
  exact ⟨ret_i (by simp only [ObsD.mk_]; try omega), (H.pack (l1 := [rowsM q.frames x.frames (k), rowI q.samples.A (nums (marks (k + (lens x.frames : Nat)) x.samples.length)), rowI q.reads.A (nums (marks (k + (lens x.frames : Nat) + (x.samples.length : Nat)) x.reads.length))]) pksA).take (Picks.cons Pick.here Picks.nil)⟩
set_option maxHeartbeats 4000000 in
theorem laws_heldObs (x : ObsD) (q : ObsP) (k : Int) (w : World) (hx : (obsM x q k).p w) (h0 : 0 ≤ k) (h1 : k + x.mk_ ≤ 1000000000000) : Calls Tryz.prog 64 #[.agg #[.slice q.frames.s.A x.frames.length q.frames.s.c, .slice q.samples.A x.samples.length q.samples.c, .slice q.reads.A x.reads.length q.reads.c], .int .i64 k] w fun e w' => e = .returned (.int .i64 (k + (x.mk_ : Nat))) ∧ Below w.heap.size w w' := by
  have H := St.nil w []
  unfold ObsD.mk_ at h1
  have m0 := hx _ (.head _)
  have m1 := hx _ (.tail _ (.head _))
  have m2 := hx _ (.tail _ (.tail _ (.head _)))
  clear hx
  go_enter Tryz.func64, Tryz.ntmps64
  go_wp2_with (first | ((with_reducible refine g_box rfl ?_); refine eBa H ?_; clear H; intro g_ W_ H) | ((with_reducible refine g_load rfl ?_); refine eL1 H ?_) | (go_at_call 131; (with_reducible refine (laws_heldIntSS q.frames x.frames _ _ (H.old0 m0) (by omega) (by omega)).mono ?_); rintro e w1 ⟨rfl, hb⟩; (replace H := H.callB hb; clear hb)) | (go_at_call 61; (with_reducible refine (laws_heldIntS q.samples.A _ _ _ _ (H.old0 m1) (by omega) (by omega) (by omega)).mono ?_); rintro e w1 ⟨rfl, rfl⟩) | (go_at_call 61; (with_reducible refine (laws_heldIntS q.reads.A _ _ _ _ (H.old0 m2) (by omega) (by omega) (by omega)).mono ?_); rintro e w1 ⟨rfl, rfl⟩))
  go_ret
  exact ⟨ret_i (by simp only [ObsD.mk_]; try omega), H.below⟩
/-! ## Lock -/
structure LockD where (img : ImageD) (pads : List Int) (mem : MemD) (cpu : CpuD) (ppu : PpuD) (apu : ApuD) (pad : PadD) (nmi : Bool) (steps : Int) (obs : ObsD)
structure LockP where (img : ImageP) (pads : Sl) (mem : MemP) (ppu : PpuP) (obs : ObsP)
structure LockIn (w : World) (x : LockD) (q : LockP) : Prop where
  img : ImageIn w x.img q.img
  pads : InI w q.pads.A q.pads.c x.pads
  mem : MemIn w x.mem q.mem
  ppu : PpuIn w x.ppu q.ppu
  obs : ObsIn w x.obs q.obs
theorem LockIn.keep {w W : World} {x : LockD} {q : LockP} (h : LockIn w x q) (hb : Below w.heap.size w W) : LockIn W x q := ⟨h.img.keep hb, h.pads.keep hb, h.mem.keep hb, h.ppu.keep hb, h.obs.keep hb⟩
theorem LockIn.on {w0 W : World} {x : LockD} {q : LockP} (h : LockIn w0 x q) {l : List Ast} (H : St w0 [] W l) : LockIn W x q := h.keep H.below
def lockA (x : LockD) (q : LockP) : Ast := Ast.all [imageA x.img q.img, intsA q.pads (x.pads), memA x.mem q.mem, ppuA x.ppu q.ppu, obsA x.obs q.obs]
def lockR (x : LockD) (q : LockP) : Ast := Ast.all [imageR x.img q.img, rowI q.pads.A (nums x.pads), memR x.mem q.mem, ppuR x.ppu q.ppu, obsR x.obs q.obs]
def lockM (x : LockD) (q : LockP) (k : Int) : Ast := Ast.all [imageM x.img q.img (k), rowI q.pads.A (nums (marks (k + (x.img.mk_ : Nat)) x.pads.length)), memM x.mem q.mem (k + (x.img.mk_ : Nat) + (x.pads.length : Nat)), ppuM x.ppu q.ppu (k + (x.img.mk_ : Nat) + (x.pads.length : Nat) + (x.mem.mk_ : Nat)), obsM x.obs q.obs (k + (x.img.mk_ : Nat) + (x.pads.length : Nat) + (x.mem.mk_ : Nat) + (x.ppu.mk_ : Nat))]
def LockD.mk_ (x : LockD) : Nat := x.img.mk_ + x.pads.length + x.mem.mk_ + x.ppu.mk_ + x.obs.mk_
def LockD.sz_ (x : LockD) : Nat := x.img.sz_ + x.pads.length + x.mem.sz_ + x.ppu.sz_ + x.obs.sz_
structure LockSmall (x : LockD) : Prop where
  img : ImageSmall x.img
  pads : x.pads.length ≤ 1048576
  mem : MemSmall x.mem
  ppu : PpuSmall x.ppu
  obs : ObsSmall x.obs
theorem LockSmall.of {x : LockD} (h : x.sz_ ≤ 1048576) : LockSmall x := by
  unfold LockD.sz_ at h
  exact ⟨ImageSmall.of (by omega), by omega, MemSmall.of (by omega), PpuSmall.of (by omega), ObsSmall.of (by omega)⟩
theorem LockIn.of {w : World} {x : LockD} {q : LockP} (h : (lockA x q).p w) : LockIn w x q := ⟨ImageIn.of (h _ (by simp)), InI.of (h _ (by simp)), MemIn.of (h _ (by simp)), PpuIn.of (h _ (by simp)), ObsIn.of (h _ (by simp))⟩
theorem lockR_fp (x : LockD) (q : LockP) : (lockR x q).fp = (lockA x q).fp := by
  unfold lockR lockA Ast.all
  simp only [List.flatMap_cons, List.flatMap_nil, imageR_fp, memR_fp, ppuR_fp, obsR_fp]
  try rfl
theorem lockR_of {w : World} {x : LockD} {q : LockP} (h : (lockA x q).p w) : (lockR x q).p w := by
  intro a ha
  simp only [List.mem_cons, List.not_mem_nil, or_false] at ha
  rcases ha with rfl | rfl | rfl | rfl | rfl
  · exact imageR_of (h (imageA x.img q.img) (by simp))
  · exact own_row (h (intsA q.pads (x.pads)) (by simp))
  · exact memR_of (h (memA x.mem q.mem) (by simp))
  · exact ppuR_of (h (ppuA x.ppu q.ppu) (by simp))
  · exact obsR_of (h (obsA x.obs q.obs) (by simp))
set_option maxHeartbeats 2000000 in
theorem laws_toLock (x : LockD) (q : LockP) (w : World) (hx : LockIn w x q) (hs : LockSmall x) : Calls Tryz.prog 10 #[.agg #[.slice q.img.banks.s.A x.img.banks.length q.img.banks.s.c, .slice q.pads.A x.pads.length q.pads.c, .slice q.mem.ram.A x.mem.ram.length q.mem.ram.c, .int .i64 x.mem.bank, .int .i64 x.cpu.a, .int .i64 x.cpu.x, .int .i64 x.cpu.s, .int .i64 x.cpu.pc, .bool x.cpu.z, .bool x.cpu.n, .bool x.cpu.c, .bool x.cpu.i, .int .i64 x.ppu.t, .int .i64 x.ppu.ctrl, .int .i64 x.ppu.scroll, .int .i64 x.ppu.addr, .int .i64 x.ppu.pal, .bool x.ppu.blank, .slice q.ppu.table.A x.ppu.table.length q.ppu.table.c, .slice q.ppu.dots.A x.ppu.dots.length q.ppu.dots.c, .int .i64 x.apu.t, .int .i64 x.apu.p, .int .i64 x.apu.c, .int .i64 x.apu.b, .int .i64 x.apu.l, .bool x.apu.k, .bool x.apu.i, .bool x.pad.h, .int .i64 x.pad.s, .bool x.nmi, .int .i64 x.steps, .slice q.obs.frames.s.A x.obs.frames.length q.obs.frames.s.c, .slice q.obs.samples.A x.obs.samples.length q.obs.samples.c, .slice q.obs.reads.A x.obs.reads.length q.obs.reads.c]] w fun e w' => ∃ q', e = .returned (.agg #[.slice q'.img.banks.s.A x.img.banks.length q'.img.banks.s.c, .slice q'.pads.A x.pads.length q'.pads.c, .slice q'.mem.ram.A x.mem.ram.length q'.mem.ram.c, .int .i64 x.mem.bank, .int .i64 x.cpu.a, .int .i64 x.cpu.x, .int .i64 x.cpu.s, .int .i64 x.cpu.pc, .bool x.cpu.z, .bool x.cpu.n, .bool x.cpu.c, .bool x.cpu.i, .int .i64 x.ppu.t, .int .i64 x.ppu.ctrl, .int .i64 x.ppu.scroll, .int .i64 x.ppu.addr, .int .i64 x.ppu.pal, .bool x.ppu.blank, .slice q'.ppu.table.A x.ppu.table.length q'.ppu.table.c, .slice q'.ppu.dots.A x.ppu.dots.length q'.ppu.dots.c, .int .i64 x.apu.t, .int .i64 x.apu.p, .int .i64 x.apu.c, .int .i64 x.apu.b, .int .i64 x.apu.l, .bool x.apu.k, .bool x.apu.i, .bool x.pad.h, .int .i64 x.pad.s, .bool x.nmi, .int .i64 x.steps, .slice q'.obs.frames.s.A x.obs.frames.length q'.obs.frames.s.c, .slice q'.obs.samples.A x.obs.samples.length q'.obs.samples.c, .slice q'.obs.reads.A x.obs.reads.length q'.obs.reads.c]) ∧ St w [] w' [lockA x q'] := by
  have H := St.nil w []
  go_enter Tryz.func10, Tryz.ntmps10
  go_wp2_with (first | ((with_reducible refine g_box rfl ?_); refine eBa H ?_; clear H; intro g_ W_ H) | ((with_reducible refine g_alloc rfl ?_); refine eNw H ?_; clear H; intro g_ W_ H) | ((with_reducible refine g_load rfl ?_); first | refine eL1 H ?_ | refine eLa H ?_) | ((with_reducible refine g_store rfl ?_); (first | refine eSi H ?_ | refine eSb H ?_ | refine eSs H ?_ | refine eSa H ?_); clear H; intro W_ H) | (go_at_call 21; (with_reducible refine (laws_toImage _ _ _ (hx.img.on H) hs.img).mono ?_); rintro e w1 ⟨q1, rfl, k⟩; (have H_ := H.call k); simp only [List.cons_append, List.nil_append] at H_; (clear H; have H := H_; clear H_); clear k) | (go_at_call 22; (with_reducible refine (to_ints _ _ _ (hx.pads.on H) hs.pads).mono ?_); rintro e w1 ⟨q1, rfl, k⟩; (have H_ := H.call k); simp only [List.cons_append, List.nil_append] at H_; (clear H; have H := H_; clear H_); clear k) | (go_at_call 42; (with_reducible refine (laws_toMem _ _ _ (hx.mem.on H) hs.mem).mono ?_); rintro e w1 ⟨q1, rfl, k⟩; (have H_ := H.call k); simp only [List.cons_append, List.nil_append] at H_; (clear H; have H := H_; clear H_); clear k) | (go_at_call 44; (with_reducible refine (laws_toPpu _ _ _ (hx.ppu.on H) hs.ppu).mono ?_); rintro e w1 ⟨q1, rfl, k⟩; (have H_ := H.call k); simp only [List.cons_append, List.nil_append] at H_; (clear H; have H := H_; clear H_); clear k) | (go_at_call 47; (with_reducible refine (laws_toObs _ _ _ (hx.obs.on H) hs.obs).mono ?_); rintro e w1 ⟨q1, rfl, k⟩; (have H_ := H.call k); simp only [List.cons_append, List.nil_append] at H_; (clear H; have H := H_; clear H_); clear k) | (go_at_call 43; (with_reducible refine (laws_toCpu _ _).mono ?_); rintro e w1 ⟨rfl, hb⟩; (replace H := H.callB hb; clear hb)) | (go_at_call 45; (with_reducible refine (laws_toApu _ _).mono ?_); rintro e w1 ⟨rfl, hb⟩; (replace H := H.callB hb; clear hb)) | (go_at_call 46; (with_reducible refine (laws_toPad _ _).mono ?_); rintro e w1 ⟨rfl, hb⟩; (replace H := H.callB hb; clear hb)))
  refine' back1 Tryz.results10 ?_ rfl ⟨⟨_, _, _, _, _⟩, ?_, (H.pack (l1 := [imageA x.img _, intsA _ (x.pads), memA x.mem _, ppuA x.ppu _, obsA x.obs _]) pksA).take (Picks.cons Pick.here Picks.nil)⟩; rotate_left 1; exact rvA
  rfl
set_option maxHeartbeats 2000000 in
theorem laws_eqLock (x : LockD) (q r : LockP) (w : World) (h1 : LockIn w x q) (h2 : LockIn w x r) : Calls Tryz.prog 12 #[.agg #[.slice q.img.banks.s.A x.img.banks.length q.img.banks.s.c, .slice q.pads.A x.pads.length q.pads.c, .slice q.mem.ram.A x.mem.ram.length q.mem.ram.c, .int .i64 x.mem.bank, .int .i64 x.cpu.a, .int .i64 x.cpu.x, .int .i64 x.cpu.s, .int .i64 x.cpu.pc, .bool x.cpu.z, .bool x.cpu.n, .bool x.cpu.c, .bool x.cpu.i, .int .i64 x.ppu.t, .int .i64 x.ppu.ctrl, .int .i64 x.ppu.scroll, .int .i64 x.ppu.addr, .int .i64 x.ppu.pal, .bool x.ppu.blank, .slice q.ppu.table.A x.ppu.table.length q.ppu.table.c, .slice q.ppu.dots.A x.ppu.dots.length q.ppu.dots.c, .int .i64 x.apu.t, .int .i64 x.apu.p, .int .i64 x.apu.c, .int .i64 x.apu.b, .int .i64 x.apu.l, .bool x.apu.k, .bool x.apu.i, .bool x.pad.h, .int .i64 x.pad.s, .bool x.nmi, .int .i64 x.steps, .slice q.obs.frames.s.A x.obs.frames.length q.obs.frames.s.c, .slice q.obs.samples.A x.obs.samples.length q.obs.samples.c, .slice q.obs.reads.A x.obs.reads.length q.obs.reads.c], .agg #[.slice r.img.banks.s.A x.img.banks.length r.img.banks.s.c, .slice r.pads.A x.pads.length r.pads.c, .slice r.mem.ram.A x.mem.ram.length r.mem.ram.c, .int .i64 x.mem.bank, .int .i64 x.cpu.a, .int .i64 x.cpu.x, .int .i64 x.cpu.s, .int .i64 x.cpu.pc, .bool x.cpu.z, .bool x.cpu.n, .bool x.cpu.c, .bool x.cpu.i, .int .i64 x.ppu.t, .int .i64 x.ppu.ctrl, .int .i64 x.ppu.scroll, .int .i64 x.ppu.addr, .int .i64 x.ppu.pal, .bool x.ppu.blank, .slice r.ppu.table.A x.ppu.table.length r.ppu.table.c, .slice r.ppu.dots.A x.ppu.dots.length r.ppu.dots.c, .int .i64 x.apu.t, .int .i64 x.apu.p, .int .i64 x.apu.c, .int .i64 x.apu.b, .int .i64 x.apu.l, .bool x.apu.k, .bool x.apu.i, .bool x.pad.h, .int .i64 x.pad.s, .bool x.nmi, .int .i64 x.steps, .slice r.obs.frames.s.A x.obs.frames.length r.obs.frames.s.c, .slice r.obs.samples.A x.obs.samples.length r.obs.samples.c, .slice r.obs.reads.A x.obs.reads.length r.obs.reads.c]] w fun e w' => e = .returned (.bool true) ∧ Below w.heap.size w w' := by
  have H := St.nil w []
  go_enter Tryz.func12, Tryz.ntmps12
  go_wp2_with (first | ((with_reducible refine g_box rfl ?_); refine eBa H ?_; clear H; intro g_ W_ H) | ((with_reducible refine g_load rfl ?_); first | refine eL1 H ?_ | refine eLa H ?_) | (go_at_call 25; (with_reducible refine (laws_eqImage _ _ _ _ (h1.img.on H) (h2.img.on H)).mono ?_); rintro e w1 ⟨rfl, hb⟩; (replace H := H.callB hb; clear hb)) | (go_at_call 26; (with_reducible refine (laws_eqIntS _ _ _ _ _ _ (h1.pads.on H) (h2.pads.on H)).mono ?_); rintro e w1 ⟨rfl, k⟩; (have H_ := H.call k); simp only [List.cons_append, List.nil_append] at H_; (clear H; have H := H_; clear H_); clear k) | (go_at_call 51; (with_reducible refine (laws_eqMem _ _ _ _ (h1.mem.on H) (h2.mem.on H)).mono ?_); rintro e w1 ⟨rfl, hb⟩; (replace H := H.callB hb; clear hb)) | (go_at_call 53; (with_reducible refine (laws_eqPpu _ _ _ _ (h1.ppu.on H) (h2.ppu.on H)).mono ?_); rintro e w1 ⟨rfl, hb⟩; (replace H := H.callB hb; clear hb)) | (go_at_call 56; (with_reducible refine (laws_eqObs _ _ _ _ (h1.obs.on H) (h2.obs.on H)).mono ?_); rintro e w1 ⟨rfl, hb⟩; (replace H := H.callB hb; clear hb)) | (go_at_call 52; (with_reducible refine (laws_eqCpu _ _).mono ?_); rintro e w1 ⟨rfl, hb⟩; (replace H := H.callB hb; clear hb)) | (go_at_call 54; (with_reducible refine (laws_eqApu _ _).mono ?_); rintro e w1 ⟨rfl, hb⟩; (replace H := H.callB hb; clear hb)) | (go_at_call 55; (with_reducible refine (laws_eqPad _ _).mono ?_); rintro e w1 ⟨rfl, hb⟩; (replace H := H.callB hb; clear hb)))
  all_goals (go_ret; exact ⟨rfl, H.below⟩)
set_option maxHeartbeats 2000000 in
theorem laws_szLock (x : LockD) (q : LockP) (left : Int) (w : World) (hx : LockIn w x q) (h0 : -1 ≤ left) (h1 : left ≤ 1048576) : Calls Tryz.prog 8 #[.agg #[.slice q.img.banks.s.A x.img.banks.length q.img.banks.s.c, .slice q.pads.A x.pads.length q.pads.c, .slice q.mem.ram.A x.mem.ram.length q.mem.ram.c, .int .i64 x.mem.bank, .int .i64 x.cpu.a, .int .i64 x.cpu.x, .int .i64 x.cpu.s, .int .i64 x.cpu.pc, .bool x.cpu.z, .bool x.cpu.n, .bool x.cpu.c, .bool x.cpu.i, .int .i64 x.ppu.t, .int .i64 x.ppu.ctrl, .int .i64 x.ppu.scroll, .int .i64 x.ppu.addr, .int .i64 x.ppu.pal, .bool x.ppu.blank, .slice q.ppu.table.A x.ppu.table.length q.ppu.table.c, .slice q.ppu.dots.A x.ppu.dots.length q.ppu.dots.c, .int .i64 x.apu.t, .int .i64 x.apu.p, .int .i64 x.apu.c, .int .i64 x.apu.b, .int .i64 x.apu.l, .bool x.apu.k, .bool x.apu.i, .bool x.pad.h, .int .i64 x.pad.s, .bool x.nmi, .int .i64 x.steps, .slice q.obs.frames.s.A x.obs.frames.length q.obs.frames.s.c, .slice q.obs.samples.A x.obs.samples.length q.obs.samples.c, .slice q.obs.reads.A x.obs.reads.length q.obs.reads.c], .int .i64 left] w fun e w' => e = .returned (.int .i64 (szOf left x.sz_)) ∧ Below w.heap.size w w' := by
  have H := St.nil w []
  go_enter Tryz.func8, Tryz.ntmps8
  go_wp2_with (first | ((with_reducible refine g_box rfl ?_); refine eBa H ?_; clear H; intro g_ W_ H) | ((with_reducible refine g_load rfl ?_); first | refine eL1 H ?_ | refine eLa H ?_) | (go_at_call 19; (with_reducible refine (laws_szImage _ _ _ _ (hx.img.on H) (by first | omega | (unfold szOf; omega)) (by first | omega | (unfold szOf; omega))).mono ?_); rintro e w1 ⟨rfl, hb⟩; (replace H := H.callB hb; clear hb)) | (go_at_call 35; (with_reducible refine (laws_szIntS _ _ _ _ _ (hx.pads.on H) (by first | omega | (unfold szOf; omega)) (by first | omega | (unfold szOf; omega))).mono ?_); rintro e w1 ⟨rfl, rfl⟩) | (go_at_call 36; (with_reducible refine (laws_szMem _ _ _ _ (hx.mem.on H) (by first | omega | (unfold szOf; omega)) (by first | omega | (unfold szOf; omega))).mono ?_); rintro e w1 ⟨rfl, hb⟩; (replace H := H.callB hb; clear hb)) | (go_at_call 37; (with_reducible refine (laws_szPpu _ _ _ _ (hx.ppu.on H) (by first | omega | (unfold szOf; omega)) (by first | omega | (unfold szOf; omega))).mono ?_); rintro e w1 ⟨rfl, hb⟩; (replace H := H.callB hb; clear hb)) | (go_at_call 38; (with_reducible refine (laws_szObs _ _ _ _ (hx.obs.on H) (by first | omega | (unfold szOf; omega)) (by first | omega | (unfold szOf; omega))).mono ?_); rintro e w1 ⟨rfl, hb⟩; (replace H := H.callB hb; clear hb)))
  all_goals (go_ret; exact ⟨ret_i (by unfold szOf at *; simp only [LockD.sz_]; try omega), H.below⟩)
set_option maxHeartbeats 4000000 in
theorem laws_markLock (x : LockD) (q : LockP) (k : Int) (w : World) (hx : Hol w [lockR x q]) (h0 : 0 ≤ k) (h1 : k + x.mk_ ≤ 1000000000000) : Calls Tryz.prog 13 #[.agg #[.slice q.img.banks.s.A x.img.banks.length q.img.banks.s.c, .slice q.pads.A x.pads.length q.pads.c, .slice q.mem.ram.A x.mem.ram.length q.mem.ram.c, .int .i64 x.mem.bank, .int .i64 x.cpu.a, .int .i64 x.cpu.x, .int .i64 x.cpu.s, .int .i64 x.cpu.pc, .bool x.cpu.z, .bool x.cpu.n, .bool x.cpu.c, .bool x.cpu.i, .int .i64 x.ppu.t, .int .i64 x.ppu.ctrl, .int .i64 x.ppu.scroll, .int .i64 x.ppu.addr, .int .i64 x.ppu.pal, .bool x.ppu.blank, .slice q.ppu.table.A x.ppu.table.length q.ppu.table.c, .slice q.ppu.dots.A x.ppu.dots.length q.ppu.dots.c, .int .i64 x.apu.t, .int .i64 x.apu.p, .int .i64 x.apu.c, .int .i64 x.apu.b, .int .i64 x.apu.l, .bool x.apu.k, .bool x.apu.i, .bool x.pad.h, .int .i64 x.pad.s, .bool x.nmi, .int .i64 x.steps, .slice q.obs.frames.s.A x.obs.frames.length q.obs.frames.s.c, .slice q.obs.samples.A x.obs.samples.length q.obs.samples.c, .slice q.obs.reads.A x.obs.reads.length q.obs.reads.c], .int .i64 k] w fun e w' => e = .returned (.int .i64 (k + (x.mk_ : Nat))) ∧ St w (lockR x q).fp w' [lockM x q k] := by
  have H := (all_hol hx).st
  unfold LockD.mk_ at h1
  go_enter Tryz.func13, Tryz.ntmps13
  go_wp2_with (first | ((with_reducible refine g_box rfl ?_); refine eBa H ?_; clear H; intro g_ W_ H) | ((with_reducible refine g_load rfl ?_); first | refine eL1 H ?_ | refine eLa H ?_) | (go_at_call 27; (with_reducible refine (laws_markImage x.img q.img _ _ (St.hol1 (H.pick pkA)) (by omega) (by omega)).mono ?_); rintro e w1 ⟨rfl, kk⟩; have H_ := (H.pick (x := imageR x.img q.img) pkA).up1 kk (fun b hb => hb); simp only [List.cons_append, List.nil_append] at H_; (clear H; have H := H_; clear H_); clear kk) | (go_at_call 28; (with_reducible refine (laws_markIntS q.pads.A _ _ (nums x.pads) _ _ (St.hol1 (H.pick pkA)) (nums_length _) (by omega) (by omega) (by omega)).mono ?_); rintro e w1 ⟨rfl, kk⟩; have H_ := (H.pick (x := rowI q.pads.A (nums x.pads)) pkA).up1 kk (fun b hb => hb); simp only [List.cons_append, List.nil_append] at H_; (clear H; have H := H_; clear H_); clear kk) | (go_at_call 57; (with_reducible refine (laws_markMem x.mem q.mem _ _ (St.hol1 (H.pick pkA)) (by omega) (by omega)).mono ?_); rintro e w1 ⟨rfl, kk⟩; have H_ := (H.pick (x := memR x.mem q.mem) pkA).up1 kk (fun b hb => hb); simp only [List.cons_append, List.nil_append] at H_; (clear H; have H := H_; clear H_); clear kk) | (go_at_call 58; (with_reducible refine (laws_markPpu x.ppu q.ppu _ _ (St.hol1 (H.pick pkA)) (by omega) (by omega)).mono ?_); rintro e w1 ⟨rfl, kk⟩; have H_ := (H.pick (x := ppuR x.ppu q.ppu) pkA).up1 kk (fun b hb => hb); simp only [List.cons_append, List.nil_append] at H_; (clear H; have H := H_; clear H_); clear kk) | (go_at_call 59; (with_reducible refine (laws_markObs x.obs q.obs _ _ (St.hol1 (H.pick pkA)) (by omega) (by omega)).mono ?_); rintro e w1 ⟨rfl, kk⟩; have H_ := (H.pick (x := obsR x.obs q.obs) pkA).up1 kk (fun b hb => hb); simp only [List.cons_append, List.nil_append] at H_; (clear H; have H := H_; clear H_); clear kk))
  go_ret
  exact ⟨ret_i (by simp only [LockD.mk_]; try omega), (H.pack (l1 := [imageM x.img q.img (k), rowI q.pads.A (nums (marks (k + (x.img.mk_ : Nat)) x.pads.length)), memM x.mem q.mem (k + (x.img.mk_ : Nat) + (x.pads.length : Nat)), ppuM x.ppu q.ppu (k + (x.img.mk_ : Nat) + (x.pads.length : Nat) + (x.mem.mk_ : Nat)), obsM x.obs q.obs (k + (x.img.mk_ : Nat) + (x.pads.length : Nat) + (x.mem.mk_ : Nat) + (x.ppu.mk_ : Nat))]) pksA).take (Picks.cons Pick.here Picks.nil)⟩
set_option maxHeartbeats 4000000 in
theorem laws_heldLock (x : LockD) (q : LockP) (k : Int) (w : World) (hx : (lockM x q k).p w) (h0 : 0 ≤ k) (h1 : k + x.mk_ ≤ 1000000000000) : Calls Tryz.prog 14 #[.agg #[.slice q.img.banks.s.A x.img.banks.length q.img.banks.s.c, .slice q.pads.A x.pads.length q.pads.c, .slice q.mem.ram.A x.mem.ram.length q.mem.ram.c, .int .i64 x.mem.bank, .int .i64 x.cpu.a, .int .i64 x.cpu.x, .int .i64 x.cpu.s, .int .i64 x.cpu.pc, .bool x.cpu.z, .bool x.cpu.n, .bool x.cpu.c, .bool x.cpu.i, .int .i64 x.ppu.t, .int .i64 x.ppu.ctrl, .int .i64 x.ppu.scroll, .int .i64 x.ppu.addr, .int .i64 x.ppu.pal, .bool x.ppu.blank, .slice q.ppu.table.A x.ppu.table.length q.ppu.table.c, .slice q.ppu.dots.A x.ppu.dots.length q.ppu.dots.c, .int .i64 x.apu.t, .int .i64 x.apu.p, .int .i64 x.apu.c, .int .i64 x.apu.b, .int .i64 x.apu.l, .bool x.apu.k, .bool x.apu.i, .bool x.pad.h, .int .i64 x.pad.s, .bool x.nmi, .int .i64 x.steps, .slice q.obs.frames.s.A x.obs.frames.length q.obs.frames.s.c, .slice q.obs.samples.A x.obs.samples.length q.obs.samples.c, .slice q.obs.reads.A x.obs.reads.length q.obs.reads.c], .int .i64 k] w fun e w' => e = .returned (.int .i64 (k + (x.mk_ : Nat))) ∧ Below w.heap.size w w' := by
  have H := St.nil w []
  unfold LockD.mk_ at h1
  have m0 := hx _ (.head _)
  have m1 := hx _ (.tail _ (.head _))
  have m2 := hx _ (.tail _ (.tail _ (.head _)))
  have m3 := hx _ (.tail _ (.tail _ (.tail _ (.head _))))
  have m4 := hx _ (.tail _ (.tail _ (.tail _ (.tail _ (.head _)))))
  clear hx
  go_enter Tryz.func14, Tryz.ntmps14
  go_wp2_with (first | ((with_reducible refine g_box rfl ?_); refine eBa H ?_; clear H; intro g_ W_ H) | ((with_reducible refine g_load rfl ?_); first | refine eL1 H ?_ | refine eLa H ?_) | (go_at_call 60; (with_reducible refine (laws_heldImage x.img q.img _ _ (H.old0 m0) (by omega) (by omega)).mono ?_); rintro e w1 ⟨rfl, hb⟩; (replace H := H.callB hb; clear hb)) | (go_at_call 61; (with_reducible refine (laws_heldIntS q.pads.A _ _ _ _ (H.old0 m1) (by omega) (by omega) (by omega)).mono ?_); rintro e w1 ⟨rfl, rfl⟩) | (go_at_call 62; (with_reducible refine (laws_heldMem x.mem q.mem _ _ (H.old0 m2) (by omega) (by omega)).mono ?_); rintro e w1 ⟨rfl, hb⟩; (replace H := H.callB hb; clear hb)) | (go_at_call 63; (with_reducible refine (laws_heldPpu x.ppu q.ppu _ _ (H.old0 m3) (by omega) (by omega)).mono ?_); rintro e w1 ⟨rfl, hb⟩; (replace H := H.callB hb; clear hb)) | (go_at_call 64; (with_reducible refine (laws_heldObs x.obs q.obs _ _ (H.old0 m4) (by omega) (by omega)).mono ?_); rintro e w1 ⟨rfl, hb⟩; (replace H := H.callB hb; clear hb)))
  go_ret
  exact ⟨ret_i (by simp only [LockD.mk_]; try omega), H.below⟩
/-! ## Rec -/
/-! ## Ring -/
structure RingP where (list : Sl)
structure RingIn (w : World) (x : RingD) (q : RingP) : Prop where
  list : InR w q.list.A q.list.c x.list
theorem RingIn.keep {w W : World} {x : RingD} {q : RingP} (h : RingIn w x q) (hb : Below w.heap.size w W) : RingIn W x q := ⟨h.list.keep hb⟩
theorem RingIn.on {w0 W : World} {x : RingD} {q : RingP} (h : RingIn w0 x q) {l : List Ast} (H : St w0 [] W l) : RingIn W x q := h.keep H.below
def ringA (x : RingD) (q : RingP) : Ast := Ast.all [ownR q.list.A q.list.c x.list]
def RingD.mk_ (x : RingD) : Nat := x.list.length * 3
def RingD.sz_ (x : RingD) : Nat := x.list.length
structure RingSmall (x : RingD) : Prop where
  list : x.list.length ≤ 1048576
theorem RingSmall.of {x : RingD} (h : x.sz_ ≤ 1048576) : RingSmall x := by
  unfold RingD.sz_ at h
  exact ⟨by omega⟩
theorem RingIn.of {w : World} {x : RingD} {q : RingP} (h : (ringA x q).p w) : RingIn w x q := ⟨InR.of (h _ (by simp))⟩
/-! ## Picture -/
structure PictureD where (ppu : PpuD) (ring : RingD) (frames : List (List Int))
structure PictureP where (ppu : PpuP) (ring : RingP) (frames : Rw)
structure PictureIn (w : World) (x : PictureD) (q : PictureP) : Prop where
  ppu : PpuIn w x.ppu q.ppu
  ring : RingIn w x.ring q.ring
  frames : InRR w q.frames x.frames
theorem PictureIn.keep {w W : World} {x : PictureD} {q : PictureP} (h : PictureIn w x q) (hb : Below w.heap.size w W) : PictureIn W x q := ⟨h.ppu.keep hb, h.ring.keep hb, h.frames.keep hb⟩
theorem PictureIn.on {w0 W : World} {x : PictureD} {q : PictureP} (h : PictureIn w0 x q) {l : List Ast} (H : St w0 [] W l) : PictureIn W x q := h.keep H.below
def pictureA (x : PictureD) (q : PictureP) : Ast := Ast.all [ppuA x.ppu q.ppu, ringA x.ring q.ring, rowsA q.frames x.frames]
def PictureD.mk_ (x : PictureD) : Nat := x.ppu.mk_ + x.ring.mk_ + lens x.frames
def PictureD.sz_ (x : PictureD) : Nat := x.ppu.sz_ + x.ring.sz_ + (x.frames.length + lens x.frames)
structure PictureSmall (x : PictureD) : Prop where
  ppu : PpuSmall x.ppu
  ring : RingSmall x.ring
  frames : x.frames.length ≤ 1048576 ∧ ∀ k, k < x.frames.length → (rwAt x.frames k).length ≤ 1048576
theorem PictureSmall.of {x : PictureD} (h : x.sz_ ≤ 1048576) : PictureSmall x := by
  unfold PictureD.sz_ at h
  exact ⟨PpuSmall.of (by omega), RingSmall.of (by omega), rows_small (by omega)⟩
theorem PictureIn.of {w : World} {x : PictureD} {q : PictureP} (h : (pictureA x q).p w) : PictureIn w x q := ⟨PpuIn.of (h _ (by simp)), RingIn.of (h _ (by simp)), InRR.of (h _ (by simp))⟩
/-! ## Sound -/
structure SoundD where (apu : ApuD) (ring : RingD) (samples : List Int)
structure SoundP where (ring : RingP) (samples : Sl)
structure SoundIn (w : World) (x : SoundD) (q : SoundP) : Prop where
  ring : RingIn w x.ring q.ring
  samples : InI w q.samples.A q.samples.c x.samples
theorem SoundIn.keep {w W : World} {x : SoundD} {q : SoundP} (h : SoundIn w x q) (hb : Below w.heap.size w W) : SoundIn W x q := ⟨h.ring.keep hb, h.samples.keep hb⟩
theorem SoundIn.on {w0 W : World} {x : SoundD} {q : SoundP} (h : SoundIn w0 x q) {l : List Ast} (H : St w0 [] W l) : SoundIn W x q := h.keep H.below
def soundA (x : SoundD) (q : SoundP) : Ast := Ast.all [ringA x.ring q.ring, intsA q.samples (x.samples)]
def SoundD.mk_ (x : SoundD) : Nat := x.ring.mk_ + x.samples.length
def SoundD.sz_ (x : SoundD) : Nat := x.ring.sz_ + x.samples.length
structure SoundSmall (x : SoundD) : Prop where
  ring : RingSmall x.ring
  samples : x.samples.length ≤ 1048576
theorem SoundSmall.of {x : SoundD} (h : x.sz_ ≤ 1048576) : SoundSmall x := by
  unfold SoundD.sz_ at h
  exact ⟨RingSmall.of (by omega), by omega⟩
theorem SoundIn.of {w : World} {x : SoundD} {q : SoundP} (h : (soundA x q).p w) : SoundIn w x q := ⟨RingIn.of (h _ (by simp)), InI.of (h _ (by simp))⟩
/-! ## Split -/
structure SplitD where (img : ImageD) (pads : List Int) (mem : MemD) (cpu : CpuD) (pad : PadD) (t : Int) (nmi : Bool) (ctrl : Int) (known : Bool) (knownAt : Int) (steps : Int) (reads : List Int) (picture : PictureD) (sound : SoundD)
structure SplitP where (img : ImageP) (pads : Sl) (mem : MemP) (reads : Sl) (picture : PictureP) (sound : SoundP)
structure SplitIn (w : World) (x : SplitD) (q : SplitP) : Prop where
  img : ImageIn w x.img q.img
  pads : InI w q.pads.A q.pads.c x.pads
  mem : MemIn w x.mem q.mem
  reads : InI w q.reads.A q.reads.c x.reads
  picture : PictureIn w x.picture q.picture
  sound : SoundIn w x.sound q.sound
theorem SplitIn.keep {w W : World} {x : SplitD} {q : SplitP} (h : SplitIn w x q) (hb : Below w.heap.size w W) : SplitIn W x q := ⟨h.img.keep hb, h.pads.keep hb, h.mem.keep hb, h.reads.keep hb, h.picture.keep hb, h.sound.keep hb⟩
theorem SplitIn.on {w0 W : World} {x : SplitD} {q : SplitP} (h : SplitIn w0 x q) {l : List Ast} (H : St w0 [] W l) : SplitIn W x q := h.keep H.below
def splitA (x : SplitD) (q : SplitP) : Ast := Ast.all [imageA x.img q.img, intsA q.pads (x.pads), memA x.mem q.mem, intsA q.reads (x.reads), pictureA x.picture q.picture, soundA x.sound q.sound]
def SplitD.mk_ (x : SplitD) : Nat := x.img.mk_ + x.pads.length + x.mem.mk_ + x.reads.length + x.picture.mk_ + x.sound.mk_
def SplitD.sz_ (x : SplitD) : Nat := x.img.sz_ + x.pads.length + x.mem.sz_ + x.reads.length + x.picture.sz_ + x.sound.sz_
structure SplitSmall (x : SplitD) : Prop where
  img : ImageSmall x.img
  pads : x.pads.length ≤ 1048576
  mem : MemSmall x.mem
  reads : x.reads.length ≤ 1048576
  picture : PictureSmall x.picture
  sound : SoundSmall x.sound
theorem SplitSmall.of {x : SplitD} (h : x.sz_ ≤ 1048576) : SplitSmall x := by
  unfold SplitD.sz_ at h
  exact ⟨ImageSmall.of (by omega), by omega, MemSmall.of (by omega), by omega, PictureSmall.of (by omega), SoundSmall.of (by omega)⟩
theorem SplitIn.of {w : World} {x : SplitD} {q : SplitP} (h : (splitA x q).p w) : SplitIn w x q := ⟨ImageIn.of (h _ (by simp)), InI.of (h _ (by simp)), MemIn.of (h _ (by simp)), InI.of (h _ (by simp)), PictureIn.of (h _ (by simp)), SoundIn.of (h _ (by simp))⟩
end Go.Proofs.YtjgggmcnbdjdjaaGreat.C

/- What the functions over rings tell. -/
namespace Go.Proofs.YtjgggmcnbdjdjaaGreat.C
open Go.RowKit Go.Proofs.YtjgggmcnbdjdjaaGreat.K Go.Proofs.YtjgggmcnbdjdjaaGreat.B
attribute [local go_sem] max2_int min2_int max_two min_two i64_and255 i64_and65535 i64_and1
set_option maxRecDepth 20000
set_option linter.unusedVariables false
set_option linter.unusedSimpArgs false
def RecD.ok (x : RecD) : Bool := inB x.t 0 20000 && (inB x.r 0 7 && inB x.v 0 255)
/-- Record k is sound, and no older than the one ahead of it. -/
def okAt (rs : List RecD) (k : Nat) : Bool := (rdr rs k).ok && (k == 0 || !decide ((rdr rs (k - 1)).t > (rdr rs k).t))
def okAll (rs : List RecD) : Bool := (List.range rs.length).all (okAt rs)
def RingD.ok (x : RingD) : Bool := okAll x.list && (inB x.cap 1 16 && decide ((x.list.length : Int) ≤ x.cap))
theorem InR.at {w0 W : World} {ad : Addr} {c : Nat} {rs : List RecD} (h : InR w0 (some ad) c rs) {l : List Ast} (H : St w0 [] W l) {k : Nat} (hk : k < rs.length) : ∀ (j : Nat) (v : Value), (rec1 (rdr rs k))[j]? = some v → W.cell? ((ad.add (k * 3)).add j) = some v := by
  obtain ⟨ad', e, h2⟩ := h.cell H hk
  injection e with e; subst e; exact h2
theorem InR.at0 {w0 W : World} {ad : Addr} {c : Nat} {rs : List RecD} (h : InR w0 (some ad) c rs) {l : List Ast} (H : St w0 [] W l) {k : Nat} (hk : k < rs.length) : W.cell? (ad.add (k * 3)) = some (.int .i64 (rdr rs k).t) := by
  have := h.at H hk 0 _ rfl
  simpa [Addr.add_zero'] using this
theorem InR.head {w0 W : World} {ad : Addr} {c : Nat} {rs : List RecD} (h : InR w0 (some ad) c rs) {l : List Ast} (H : St w0 [] W l) (hk : 0 < rs.length) : W.cell? ad = some (.int .i64 (rdr rs 0).t) := by
  have := h.at0 H hk
  simpa [Addr.add_zero'] using this
end Go.Proofs.YtjgggmcnbdjdjaaGreat.C

