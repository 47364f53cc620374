/- Ops that go on elsewhere; an op done. (written by ygen2.py) -/
import Derived.Test.YtjgggmcnbdjdjaaGreatY17
import Derived.Test.YtjgggmcnbdjdjaaGreatE
import Derived.Test.YtjgggmcnbdjdjaaGreatO
import Derived.Test.YtjgggmcnbdjdjaaGreatO2
namespace Go.Proofs.YtjgggmcnbdjdjaaGreat.C
open Go.RowKit Go.Proofs.YtjgggmcnbdjdjaaGreat.K Go.Proofs.YtjgggmcnbdjdjaaGreat.B
attribute [local go_sem] max2_int min2_int max_two min_two i64_and255 i64_and65535 i64_and1
set_option maxRecDepth 20000
set_option linter.unusedVariables false
set_option linter.unusedSimpArgs false
set_option maxRecDepth 20000
def CpuD.flowC (c : CpuD) (x : MemD) (op arg : Int) : CpuD := if op = 16 then (if c.z = true then c else c.setPc (arg % 65536)) else if op = 17 then (if c.z = true then c.setPc (arg % 65536) else c) else if op = 18 then (if c.c = true then c.setPc (arg % 65536) else c) else if op = 19 then c.setPc (arg % 65536) else if op = 20 then c.dn.dn.setPc (arg % 65536) else if op = 21 then c.back x else if op = 22 then c.dn else if op = 23 then c.up.setA (x.top c) else if op = 24 then (c.up.withF (x.top c)).back x else c
def MemD.flowM (x : MemD) (c : CpuD) (op : Int) : MemD := if op = 20 then x.pushPc c else if op = 22 then x.push c c.a else x
def CpuD.nx (c : CpuD) (op : Int) : CpuD := ⟨c.a, c.x, c.s, (c.pc + opLen op) % 65536, c.z, c.n, c.c, c.i⟩
def MemD.execM (x : MemD) (c : CpuD) (op : Int) : MemD := x.flowM (c.nx op) op
def CpuD.execC (c : CpuD) (x : MemD) (op arg v : Int) : CpuD := if isReck op = true then (c.nx op).reck op arg v else if isTurn op = true then (c.nx op).turnR op else (c.nx op).flowC x op arg
theorem CpuD.setA_mod (c : CpuD) (v : Int) : c.setA (v % 256) = c.setA v := by simp [CpuD.setA]
theorem CpuD.addA_mod (c : CpuD) (v : Int) : c.addA (v % 256) = c.addA v := by
  have h : sumB c.a (v % 256) c.c = sumB c.a v c.c := by simp [sumB]
  simp only [CpuD.addA, h]
theorem CpuD.reck_mod (c : CpuD) (op arg v : Int) : c.reck op arg (v % 256) = c.reck op arg v := by simp only [CpuD.reck, CpuD.setA_mod, CpuD.addA_mod]
theorem isReck_at {op : Int} (h : isReck op = true) : op = 1 ∨ op = 2 ∨ op = 14 ∨ op = 4 ∨ op = 29 ∨ op = 5 ∨ op = 6 ∨ op = 7 ∨ op = 8 ∨ op = 9 := by simpa [isReck, or_assoc] using h
theorem isTurn_at {op : Int} (h : isTurn op = true) : op = 10 ∨ op = 11 ∨ op = 12 ∨ op = 13 ∨ op = 25 ∨ op = 26 ∨ op = 27 ∨ op = 28 := by simpa [isTurn, or_assoc] using h
theorem CpuD.reck_no {c : CpuD} {op arg v : Int} (h : isReck op = false) : c.reck op arg v = c := by
  simp only [isReck, Bool.or_eq_false_iff, beq_eq_false_iff_ne, ne_eq] at h
  simp [CpuD.reck, h]
theorem CpuD.turn_no {c : CpuD} {op : Int} (h : isTurn op = false) : c.turnR op = c := by
  simp only [isTurn, Bool.or_eq_false_iff, beq_eq_false_iff_ne, ne_eq] at h
  simp [CpuD.turnR, h]
theorem MemD.flowM_no {x : MemD} {c : CpuD} {op : Int} (h : isReck op = true ∨ isTurn op = true) : x.flowM c op = x := by
  unfold MemD.flowM
  rcases h with h | h
  · have := isReck_at h; rw [if_neg (by omega), if_neg (by omega)]
  · have := isTurn_at h; rw [if_neg (by omega), if_neg (by omega)]
set_option maxHeartbeats 16000000 in
theorem impl_flow_L (x : MemD) (q : MemP) (c : CpuD) (op arg : Int) (v0 v1 : Value) (zs : List Value) (g : Nat) (w : World) (hH : Hol w [Ast.blk g (v0 :: v1 :: .slice q.ram.A x.ram.length q.ram.c :: .int .i64 x.bank :: .int .i64 c.a :: .int .i64 c.x :: .int .i64 c.s :: .int .i64 c.pc :: .bool c.z :: .bool c.n :: .bool c.c :: .bool c.i :: zs) 49, intsA q.ram x.ram]) (hlen0 : x.ram.length = 512) (hs : 0 ≤ c.s ∧ c.s ≤ 255) : Calls Tryz.prog 231 #[.pointer (some ⟨g, 2, none⟩), .pointer (some ⟨g, 4, none⟩), .agg #[.int .i64 op, .int .i64 arg]] w fun e w' => e = .returned (.tuple #[]) ∧ St w ([Ast.blk g (v0 :: v1 :: .slice q.ram.A x.ram.length q.ram.c :: .int .i64 x.bank :: .int .i64 c.a :: .int .i64 c.x :: .int .i64 c.s :: .int .i64 c.pc :: .bool c.z :: .bool c.n :: .bool c.c :: .bool c.i :: zs) 49, intsA q.ram x.ram].flatMap Ast.fp) w' [Ast.blk g (v0 :: v1 :: .slice q.ram.A (x.flowM c op).ram.length q.ram.c :: .int .i64 (x.flowM c op).bank :: .int .i64 (c.flowC x op arg).a :: .int .i64 (c.flowC x op arg).x :: .int .i64 (c.flowC x op arg).s :: .int .i64 (c.flowC x op arg).pc :: .bool (c.flowC x op arg).z :: .bool (c.flowC x op arg).n :: .bool (c.flowC x op arg).c :: .bool (c.flowC x op arg).i :: zs) 49, intsA q.ram (x.flowM c op).ram] := by
  have H := hH.st
  generalize hF : List.flatMap Ast.fp _ = F at H ⊢
  clear hF hH
  have HL := Lib.hid hlen0
  have HS := Lib.hid hs
  clear hlen0 hs
  have hc : op = 16 ∨ op = 17 ∨ op = 18 ∨ op = 19 ∨ op = 20 ∨ op = 21 ∨ op = 22 ∨ op = 23 ∨ op = 24 ∨ ((op == 16) = false ∧ (op == 17) = false ∧ (op == 18) = false ∧ (op == 19) = false ∧ (op == 20) = false ∧ (op == 21) = false ∧ (op == 22) = false ∧ (op == 23) = false ∧ (op == 24) = false) := by
    simp only [beq_eq_false_iff_ne]; omega
  rcases hc with rfl | rfl | rfl | rfl | rfl | rfl | rfl | rfl | rfl | ⟨h0, h1, h2, h3, h4, h5, h6, h7, h8⟩
  · obtain ⟨ca, cx, s, pc, z, n, cc, i⟩ := c
    simp only at H ⊢
    cases z
    all_goals
      go_enter Tryz.func231, Tryz.ntmps231
      go_wp2_with (first | (go_at_call 187; (with_reducible refine (impl_Addr _ _).mono ?_); rintro e w1 ⟨rfl, rfl⟩) | ((with_reducible refine g_box rfl ?_); refine eBa H ?_; clear H; intro g_ W_ H) | ((with_reducible refine g_load rfl ?_); first | refine eL1 H ?_ | refine eLa H ?_) | ((with_reducible refine g_store rfl ?_); (first | refine eSi H ?_ | refine eSa H ?_); clear H; intro W_ H))
      have H_ := H.take (xs := [Ast.blk g _ _, intsA q.ram _]) pksA
      go_end0
      exact ⟨rfl, H_⟩
  · obtain ⟨ca, cx, s, pc, z, n, cc, i⟩ := c
    simp only at H ⊢
    cases z
    all_goals
      go_enter Tryz.func231, Tryz.ntmps231
      go_wp2_with (first | (go_at_call 187; (with_reducible refine (impl_Addr _ _).mono ?_); rintro e w1 ⟨rfl, rfl⟩) | ((with_reducible refine g_box rfl ?_); refine eBa H ?_; clear H; intro g_ W_ H) | ((with_reducible refine g_load rfl ?_); first | refine eL1 H ?_ | refine eLa H ?_) | ((with_reducible refine g_store rfl ?_); (first | refine eSi H ?_ | refine eSa H ?_); clear H; intro W_ H))
      have H_ := H.take (xs := [Ast.blk g _ _, intsA q.ram _]) pksA
      go_end0
      exact ⟨rfl, H_⟩
  · obtain ⟨ca, cx, s, pc, z, n, cc, i⟩ := c
    simp only at H ⊢
    cases cc
    all_goals
      go_enter Tryz.func231, Tryz.ntmps231
      go_wp2_with (first | (go_at_call 187; (with_reducible refine (impl_Addr _ _).mono ?_); rintro e w1 ⟨rfl, rfl⟩) | ((with_reducible refine g_box rfl ?_); refine eBa H ?_; clear H; intro g_ W_ H) | ((with_reducible refine g_load rfl ?_); first | refine eL1 H ?_ | refine eLa H ?_) | ((with_reducible refine g_store rfl ?_); (first | refine eSi H ?_ | refine eSa H ?_); clear H; intro W_ H))
      have H_ := H.take (xs := [Ast.blk g _ _, intsA q.ram _]) pksA
      go_end0
      exact ⟨rfl, H_⟩
  · have hz : c.flowC x 19 arg = c.setPc (arg % 65536) := by simp [CpuD.flowC]
    have hm : x.flowM c 19 = x := by simp [MemD.flowM]
    rw [hz, hm]
    clear hz hm
    have HU : Hid (0 ≤ (c.up.withF (x.top c)).s ∧ (c.up.withF (x.top c)).s ≤ 255) := Lib.hid (CpuD.up_s c)
    go_enter Tryz.func231, Tryz.ntmps231
    go_wp2_with (first | (go_at_call 187; (with_reducible refine (impl_Addr _ _).mono ?_); rintro e w1 ⟨rfl, rfl⟩) | ((with_reducible refine g_box rfl ?_); refine eBa H ?_; clear H; intro g_ W_ H) | ((with_reducible refine g_load rfl ?_); first | refine eL1 H ?_ | refine eLa H ?_) | ((with_reducible refine g_store rfl ?_); (first | refine eSi H ?_ | refine eSa H ?_); clear H; intro W_ H))
    have H_ := H.take (xs := [Ast.blk g _ _, intsA q.ram _]) pksA
    go_end0
    exact ⟨rfl, H_⟩
  · have hz : c.flowC x 20 arg = c.dn.dn.setPc (arg % 65536) := by simp [CpuD.flowC]
    have hm : x.flowM c 20 = x.pushPc c := by simp [MemD.flowM]
    rw [hz, hm]
    clear hz hm
    have HU : Hid (0 ≤ (c.up.withF (x.top c)).s ∧ (c.up.withF (x.top c)).s ≤ 255) := Lib.hid (CpuD.up_s c)
    go_enter Tryz.func231, Tryz.ntmps231
    go_wp2_with (first | (go_at_call 226; (with_reducible refine (impl_pushPc_L x q c v0 v1 zs g _ (St.holL (H.picks (xs := [Ast.blk g _ _, intsA q.ram _]) pksA)) HL.out HS.out).mono ?_); rintro e w1 ⟨rfl, kk⟩; replace H := St.uN (H.picks (xs := [Ast.blk g _ _, intsA q.ram _]) pksA) kk; clear kk) | (go_at_call 187; (with_reducible refine (impl_Addr _ _).mono ?_); rintro e w1 ⟨rfl, rfl⟩) | ((with_reducible refine g_box rfl ?_); refine eBa H ?_; clear H; intro g_ W_ H) | ((with_reducible refine g_load rfl ?_); first | refine eL1 H ?_ | refine eLa H ?_) | ((with_reducible refine g_store rfl ?_); (first | refine eSi H ?_ | refine eSa H ?_); clear H; intro W_ H))
    have H_ := H.take (xs := [Ast.blk g _ _, intsA q.ram _]) pksA
    go_end0
    exact ⟨rfl, H_⟩
  · have hz : c.flowC x 21 arg = c.back x := by simp [CpuD.flowC]
    have hm : x.flowM c 21 = x := by simp [MemD.flowM]
    rw [hz, hm]
    clear hz hm
    have HU : Hid (0 ≤ (c.up.withF (x.top c)).s ∧ (c.up.withF (x.top c)).s ≤ 255) := Lib.hid (CpuD.up_s c)
    go_enter Tryz.func231, Tryz.ntmps231
    go_wp2_with (first | (go_at_call 247; (with_reducible refine (impl_back_L x q c v0 v1 zs g _ (St.holL (H.picks (xs := [Ast.blk g _ _, intsA q.ram _]) pksA)) HL.out HS.out).mono ?_); rintro e w1 ⟨rfl, kk⟩; replace H := St.uN (H.picks (xs := [Ast.blk g _ _, intsA q.ram _]) pksA) kk; clear kk) | (go_at_call 187; (with_reducible refine (impl_Addr _ _).mono ?_); rintro e w1 ⟨rfl, rfl⟩) | ((with_reducible refine g_box rfl ?_); refine eBa H ?_; clear H; intro g_ W_ H) | ((with_reducible refine g_load rfl ?_); first | refine eL1 H ?_ | refine eLa H ?_) | ((with_reducible refine g_store rfl ?_); (first | refine eSi H ?_ | refine eSa H ?_); clear H; intro W_ H))
    have H_ := H.take (xs := [Ast.blk g _ _, intsA q.ram _]) pksA
    go_end0
    exact ⟨rfl, H_⟩
  · have hz : c.flowC x 22 arg = c.dn := by simp [CpuD.flowC]
    have hm : x.flowM c 22 = x.push c c.a := by simp [MemD.flowM]
    rw [hz, hm]
    clear hz hm
    have HU : Hid (0 ≤ (c.up.withF (x.top c)).s ∧ (c.up.withF (x.top c)).s ≤ 255) := Lib.hid (CpuD.up_s c)
    go_enter Tryz.func231, Tryz.ntmps231
    go_wp2_with (first | (go_at_call 227; (with_reducible refine (impl_push_L x q c v0 v1 zs _ g _ (St.holL (H.picks (xs := [Ast.blk g _ _, intsA q.ram _]) pksA)) HL.out HS.out).mono ?_); rintro e w1 ⟨rfl, kk⟩; replace H := St.uN (H.picks (xs := [Ast.blk g _ _, intsA q.ram _]) pksA) kk; clear kk) | (go_at_call 187; (with_reducible refine (impl_Addr _ _).mono ?_); rintro e w1 ⟨rfl, rfl⟩) | ((with_reducible refine g_box rfl ?_); refine eBa H ?_; clear H; intro g_ W_ H) | ((with_reducible refine g_load rfl ?_); first | refine eL1 H ?_ | refine eLa H ?_) | ((with_reducible refine g_store rfl ?_); (first | refine eSi H ?_ | refine eSa H ?_); clear H; intro W_ H))
    have H_ := H.take (xs := [Ast.blk g _ _, intsA q.ram _]) pksA
    go_end0
    exact ⟨rfl, H_⟩
  · have hz : c.flowC x 23 arg = c.up.setA (x.top c) := by simp [CpuD.flowC]
    have hm : x.flowM c 23 = x := by simp [MemD.flowM]
    rw [hz, hm]
    clear hz hm
    have HU : Hid (0 ≤ (c.up.withF (x.top c)).s ∧ (c.up.withF (x.top c)).s ≤ 255) := Lib.hid (CpuD.up_s c)
    go_enter Tryz.func231, Tryz.ntmps231
    go_wp2_with (first | (go_at_call 248; (with_reducible refine (impl_pull_L x q c v0 v1 zs g _ (St.holL (H.picks (xs := [Ast.blk g _ _, intsA q.ram _]) pksA)) HL.out HS.out).mono ?_); rintro e w1 ⟨rfl, kk⟩; replace H := St.uN (H.picks (xs := [Ast.blk g _ _, intsA q.ram _]) pksA) kk; clear kk) | (go_at_call 242; (with_reducible refine (impl_SetA c.up (x.top c) _).mono ?_); rintro e w1 ⟨rfl, hb⟩; (replace H := H.callB hb; clear hb)) | (go_at_call 187; (with_reducible refine (impl_Addr _ _).mono ?_); rintro e w1 ⟨rfl, rfl⟩) | ((with_reducible refine g_box rfl ?_); refine eBa H ?_; clear H; intro g_ W_ H) | ((with_reducible refine g_load rfl ?_); first | refine eL1 H ?_ | refine eLa H ?_) | ((with_reducible refine g_store rfl ?_); (first | refine eSi H ?_ | refine eSa H ?_); clear H; intro W_ H))
    have H_ := H.take (xs := [Ast.blk g _ _, intsA q.ram _]) pksA
    go_end0
    exact ⟨rfl, H_⟩
  · have hz : c.flowC x 24 arg = (c.up.withF (x.top c)).back x := by simp [CpuD.flowC]
    have hm : x.flowM c 24 = x := by simp [MemD.flowM]
    rw [hz, hm]
    clear hz hm
    have HU : Hid (0 ≤ (c.up.withF (x.top c)).s ∧ (c.up.withF (x.top c)).s ≤ 255) := Lib.hid (CpuD.up_s c)
    go_enter Tryz.func231, Tryz.ntmps231
    go_wp2_with (first | (go_at_call 248; (with_reducible refine (impl_pull_L x q c v0 v1 zs g _ (St.holL (H.picks (xs := [Ast.blk g _ _, intsA q.ram _]) pksA)) HL.out HS.out).mono ?_); rintro e w1 ⟨rfl, kk⟩; replace H := St.uN (H.picks (xs := [Ast.blk g _ _, intsA q.ram _]) pksA) kk; clear kk) | (go_at_call 249; (with_reducible refine (impl_WithFlags c.up (x.top c) _).mono ?_); rintro e w1 ⟨rfl, hb⟩; (replace H := H.callB hb; clear hb)) | (go_at_call 247; (with_reducible refine (impl_back_L x q (c.up.withF (x.top c)) v0 v1 zs g _ (St.holL (H.picks (xs := [Ast.blk g _ _, intsA q.ram _]) pksA)) HL.out HU.out).mono ?_); rintro e w1 ⟨rfl, kk⟩; replace H := St.uN (H.picks (xs := [Ast.blk g _ _, intsA q.ram _]) pksA) kk; clear kk) | (go_at_call 187; (with_reducible refine (impl_Addr _ _).mono ?_); rintro e w1 ⟨rfl, rfl⟩) | ((with_reducible refine g_box rfl ?_); refine eBa H ?_; clear H; intro g_ W_ H) | ((with_reducible refine g_load rfl ?_); first | refine eL1 H ?_ | refine eLa H ?_) | ((with_reducible refine g_store rfl ?_); (first | refine eSi H ?_ | refine eSa H ?_); clear H; intro W_ H))
    have H_ := H.take (xs := [Ast.blk g _ _, intsA q.ram _]) pksA
    go_end0
    exact ⟨rfl, H_⟩
  · have hz : c.flowC x op arg = c := by
      simp only [beq_eq_false_iff_ne] at h0 h1 h2 h3 h4 h5 h6 h7 h8
      simp [CpuD.flowC, h0, h1, h2, h3, h4, h5, h6, h7, h8]
    have hm : x.flowM c op = x := by
      simp only [beq_eq_false_iff_ne] at h0 h1 h2 h3 h4 h5 h6 h7 h8
      simp [MemD.flowM, h4, h6]
    rw [hz, hm]
    clear hz hm
    go_enter Tryz.func231, Tryz.ntmps231
    go_wp2_with (first | (go_at_call 187; (with_reducible refine (impl_Addr _ _).mono ?_); rintro e w1 ⟨rfl, rfl⟩) | ((with_reducible refine g_box rfl ?_); refine eBa H ?_; clear H; intro g_ W_ H) | ((with_reducible refine g_load rfl ?_); first | refine eL1 H ?_ | refine eLa H ?_) | ((with_reducible refine g_store rfl ?_); (first | refine eSi H ?_ | refine eSa H ?_); clear H; intro W_ H))
    have H_ := H.take (xs := [Ast.blk g _ _, intsA q.ram _]) pksA
    go_end0
    exact ⟨rfl, H_⟩
set_option maxHeartbeats 16000000 in
theorem impl_exec_L (x : MemD) (q : MemP) (c : CpuD) (op arg v : Int) (v0 v1 : Value) (zs : List Value) (g : Nat) (w : World) (hH : Hol w [Ast.blk g (v0 :: v1 :: .slice q.ram.A x.ram.length q.ram.c :: .int .i64 x.bank :: .int .i64 c.a :: .int .i64 c.x :: .int .i64 c.s :: .int .i64 c.pc :: .bool c.z :: .bool c.n :: .bool c.c :: .bool c.i :: zs) 49, intsA q.ram x.ram]) (hlen0 : x.ram.length = 512) (hs : 0 ≤ c.s ∧ c.s ≤ 255) (hx0 : 0 ≤ c.x) (hx1 : c.x ≤ 255) (hp0 : 0 ≤ c.pc) (hp1 : c.pc ≤ 65535) : Calls Tryz.prog 200 #[.pointer (some ⟨g, 2, none⟩), .pointer (some ⟨g, 4, none⟩), .agg #[.int .i64 op, .int .i64 arg], .int .i64 v] w fun e w' => e = .returned (.tuple #[]) ∧ St w ([Ast.blk g (v0 :: v1 :: .slice q.ram.A x.ram.length q.ram.c :: .int .i64 x.bank :: .int .i64 c.a :: .int .i64 c.x :: .int .i64 c.s :: .int .i64 c.pc :: .bool c.z :: .bool c.n :: .bool c.c :: .bool c.i :: zs) 49, intsA q.ram x.ram].flatMap Ast.fp) w' [Ast.blk g (v0 :: v1 :: .slice q.ram.A (x.execM c op).ram.length q.ram.c :: .int .i64 (x.execM c op).bank :: .int .i64 (c.execC x op arg v).a :: .int .i64 (c.execC x op arg v).x :: .int .i64 (c.execC x op arg v).s :: .int .i64 (c.execC x op arg v).pc :: .bool (c.execC x op arg v).z :: .bool (c.execC x op arg v).n :: .bool (c.execC x op arg v).c :: .bool (c.execC x op arg v).i :: zs) 49, intsA q.ram (x.execM c op).ram] := by
  have H := hH.st
  generalize hF : List.flatMap Ast.fp _ = F at H ⊢
  clear hF hH
  have HL := Lib.hid hlen0
  have HS := Lib.hid hs
  clear hlen0 hs
  have hl := opLen_cases op
  have hl0 : 1 ≤ opLen op := by omega
  have hl1 : opLen op ≤ 3 := by omega
  clear hl
  obtain ⟨ca, cx, s, pc, z, n, cc, i⟩ := c
  simp only at H HS hx0 hx1 hp0 hp1 ⊢
  cases hr : isReck op
  case true =>
    have hz : CpuD.execC ⟨ca, cx, s, pc, z, n, cc, i⟩ x op arg v = CpuD.reck ⟨ca, cx, s, (pc + opLen op) % 65536, z, n, cc, i⟩ op arg (v % 256) := by simp [CpuD.execC, hr, CpuD.nx, CpuD.reck_mod]
    have hm : x.execM ⟨ca, cx, s, pc, z, n, cc, i⟩ op = x := MemD.flowM_no (.inl hr)
    rw [hz, hm]
    clear hz hm
    have HR := Lib.hid hr
    clear hr
    go_enter Tryz.func200, Tryz.ntmps200
    go_upto_region 1 with (first | ((with_reducible refine g_box rfl ?_); refine eBa H ?_; clear H; intro g_ W_ H) | ((with_reducible refine g_load rfl ?_); first | refine eL1 H ?_ | refine eLa H ?_) | ((with_reducible refine g_store rfl ?_); refine eSi H ?_; clear H; intro W_ H))
    (with_reducible refine g_draw ?_)
    try simp only [Act.put, List.setIfInBounds_toArray, List.set_cons_succ, List.set_cons_zero]
    refine F_begin (ls := #[false, false, false, false, false, false, false, false, false, false, false, false, false]) (by kernel_rfl) rfl (by kernel_rfl) ?_
    have H_ := H.drew
    (clear H; have H := H_; clear H_)
    refine T_go [(0, 0, 8), (0, 1, 9), (0, 2, 10), (0, 3, 11), (1, 4, 12), (0, 5, 13), (1, 6, 14), (0, 7, 15), (0, 8, 16), (0, 9, 17), (0, 10, 18), (0, 11, 19)] ?_; (repeat (first | (refine' T_pure _ rfl rfl (by kernel_rfl) (Nat.le_of_ble_eq_true (by kernel_rfl)) (fun w2_ K_ hK_ => ?_) ?_; rotate_left 1; focus ((conv => (arg 4; arg 1; whnf)); (repeat (first | exact hK_ rfl | (go_big_may; (first | (go_at_call 197; (with_reducible refine (impl_OpLen _ _).mono ?_); rintro e w1 ⟨rfl, rfl⟩) | (go_at_call 187; (with_reducible refine (impl_Addr _ _).mono ?_); rintro e w1 ⟨rfl, rfl⟩) | ((with_reducible refine g_load rfl ?_); first | refine eL1 H ?_ | refine eLa H ?_) | ((with_reducible refine g_store rfl ?_); refine eSi H ?_; clear H; intro W_ H))) | go_step | go_guarded | go_upon | dsimp only)); done)) | (refine' T_read _ rfl rfl (by kernel_rfl) (Nat.le_of_ble_eq_true (by kernel_rfl)) (fun K_ hK_ => ?_) ?_; rotate_left 1; focus ((conv => (arg 4; arg 1; whnf)); (repeat (first | exact hK_ rfl | (go_big_may; (first | (go_at_call 197; (with_reducible refine (impl_OpLen _ _).mono ?_); rintro e w1 ⟨rfl, rfl⟩) | (go_at_call 187; (with_reducible refine (impl_Addr _ _).mono ?_); rintro e w1 ⟨rfl, rfl⟩) | ((with_reducible refine g_load rfl ?_); first | refine eL1 H ?_ | refine eLa H ?_) | ((with_reducible refine g_store rfl ?_); refine eSi H ?_; clear H; intro W_ H))) | go_step | go_guarded | go_upon | dsimp only)); done)))); refine T_end ?_
    refine F_eA (ls' := #[true, true, true, true, true, true, true, true, true, true, true, true, true]) (pend' := []) 12 ?_; intro K_ hK_; (conv => (arg 4; arg 1; whnf)); (repeat (first | refine hK_ _ _ rfl ?_ ?_ | (go_big_may; (first | ((with_reducible refine g_load rfl ?_); first | refine eL1 H ?_ | refine eLa H ?_) | ((with_reducible refine g_store rfl ?_); refine eSi H ?_; clear H; intro W_ H))) | go_step | go_guarded | go_upon | dsimp only)); exact kept_nil
    refine F_done (by kernel_rfl) ?_
    go_upto_region 2 with (first | ((with_reducible refine g_box rfl ?_); refine eBa H ?_; clear H; intro g_ W_ H) | ((with_reducible refine g_load rfl ?_); first | refine eL1 H ?_ | refine eLa H ?_) | ((with_reducible refine g_store rfl ?_); refine eSi H ?_; clear H; intro W_ H))
    (with_reducible refine g_draw ?_)
    try simp only [Act.put, List.setIfInBounds_toArray, List.set_cons_succ, List.set_cons_zero]
    refine F_begin (ls := #[false, false, false, false, false, false, false, false, false, false, false, false]) (by kernel_rfl) rfl (by kernel_rfl) ?_
    have H_ := H.drew
    (clear H; have H := H_; clear H_)
    refine T_go [(0, 0, 20), (1, 1, 21), (0, 2, 22), (0, 3, 23)] ?_; (repeat (first | (refine' T_pure _ rfl rfl (by kernel_rfl) (Nat.le_of_ble_eq_true (by kernel_rfl)) (fun w2_ K_ hK_ => ?_) ?_; rotate_left 1; focus ((conv => (arg 4; arg 1; whnf)); (repeat (first | exact hK_ rfl | (go_big_may; (first | (go_at_call 192; (with_reducible refine (impl_Byte _ _).mono ?_); rintro e w1 ⟨rfl, rfl⟩) | ((with_reducible refine g_load rfl ?_); first | refine eL1 H ?_ | refine eLa H ?_))) | go_step | go_guarded | go_upon | dsimp only)); done)) | (refine' T_read _ rfl rfl (by kernel_rfl) (Nat.le_of_ble_eq_true (by kernel_rfl)) (fun K_ hK_ => ?_) ?_; rotate_left 1; focus ((conv => (arg 4; arg 1; whnf)); (repeat (first | exact hK_ rfl | (go_big_may; (first | (go_at_call 192; (with_reducible refine (impl_Byte _ _).mono ?_); rintro e w1 ⟨rfl, rfl⟩) | ((with_reducible refine g_load rfl ?_); first | refine eL1 H ?_ | refine eLa H ?_))) | go_step | go_guarded | go_upon | dsimp only)); done)))); refine T_end ?_
    refine F_eA (ls' := #[true, true, true, true, true, false, false, false, false, false, false, false]) (pend' := []) 4 ?_; intro K_ hK_; (conv => (arg 4; arg 1; whnf)); (repeat (first | refine hK_ _ _ rfl ?_ ?_ | (go_big_may; (go_at_call 229; (with_reducible refine (impl_reckon_L ⟨ca, cx, s, (pc + opLen op) % 65536, z, n, cc, i⟩ op arg (v % 256) v0 v1 _ _ zs g _ (St.holL (H.picks (xs := [Ast.blk g _ _]) pksA))).mono ?_); rintro e w1 ⟨rfl, kk⟩; rw [HR.out]; have H_ := (H.picks (xs := [Ast.blk g _ _]) pksA).up1 kk (fun b hb => hb); simp only [List.append_eq, List.cons_append, List.nil_append] at H_; (clear H; have H := H_; clear H_); clear kk)) | go_step | go_guarded | go_upon | dsimp only)); exact kept_nil
    refine T_go [(0, 5, 25), (0, 6, 26)] ?_; (repeat (refine T_pA ?_)); refine T_end ?_
    refine T_go [(2, 7, 27), (2, 8, 28)] ?_; (repeat (refine T_sA ?_)); refine T_end ?_
    simp only [Act.put, List.setIfInBounds_toArray, List.set_cons_succ, List.set_cons_zero]
    refine' F_effskip (ls' := #[true, true, true, true, true, true, true, true, true, true, false, false]) (pend' := []) 9 29 _ rfl rfl (by kernel_rfl) (by kernel_rfl) (by kernel_rfl) (by kernel_rfl) (by kernel_rfl) ?_
    simp only [Act.put, List.setIfInBounds_toArray, List.set_cons_succ, List.set_cons_zero]
    refine T_go [(2, 10, 30)] ?_; (repeat (refine T_sA ?_)); refine T_end ?_
    simp only [Act.put, List.setIfInBounds_toArray, List.set_cons_succ, List.set_cons_zero]
    refine T_go [(0, 11, 31)] ?_; (repeat (refine T_pA ?_)); refine T_end ?_
    refine F_done (by kernel_rfl) ?_
    go_wp2_with (first | ((with_reducible refine g_box rfl ?_); refine eBa H ?_; clear H; intro g_ W_ H) | ((with_reducible refine g_load rfl ?_); first | refine eL1 H ?_ | refine eLa H ?_) | ((with_reducible refine g_store rfl ?_); refine eSi H ?_; clear H; intro W_ H))
    have H_ := H.take (xs := [Ast.blk g _ _, intsA q.ram _]) pksA
    go_end0
    exact ⟨rfl, H_⟩
  case false =>
    cases ht : isTurn op
    case true =>
      have hz : CpuD.execC ⟨ca, cx, s, pc, z, n, cc, i⟩ x op arg v = CpuD.turnR ⟨ca, cx, s, (pc + opLen op) % 65536, z, n, cc, i⟩ op := by simp [CpuD.execC, hr, ht, CpuD.nx]
      have hm : x.execM ⟨ca, cx, s, pc, z, n, cc, i⟩ op = x := MemD.flowM_no (.inr ht)
      rw [hz, hm]
      clear hz hm
      have HN : Hid (CpuD.reck ⟨ca, cx, s, (pc + opLen op) % 65536, z, n, cc, i⟩ op arg (v % 256) = ⟨ca, cx, s, (pc + opLen op) % 65536, z, n, cc, i⟩) := Lib.hid (CpuD.reck_no hr)
      have HM : Hid (x = x) := Lib.hid rfl
      have HR := Lib.hid hr
      have HT := Lib.hid ht
      clear hr ht
      go_enter Tryz.func200, Tryz.ntmps200
      go_upto_region 1 with (first | ((with_reducible refine g_box rfl ?_); refine eBa H ?_; clear H; intro g_ W_ H) | ((with_reducible refine g_load rfl ?_); first | refine eL1 H ?_ | refine eLa H ?_) | ((with_reducible refine g_store rfl ?_); refine eSi H ?_; clear H; intro W_ H))
      (with_reducible refine g_draw ?_)
      try simp only [Act.put, List.setIfInBounds_toArray, List.set_cons_succ, List.set_cons_zero]
      refine F_begin (ls := #[false, false, false, false, false, false, false, false, false, false, false, false, false]) (by kernel_rfl) rfl (by kernel_rfl) ?_
      have H_ := H.drew
      (clear H; have H := H_; clear H_)
      refine T_go [(0, 0, 8), (0, 1, 9), (0, 2, 10), (0, 3, 11), (1, 4, 12), (0, 5, 13), (1, 6, 14), (0, 7, 15), (0, 8, 16), (0, 9, 17), (0, 10, 18), (0, 11, 19)] ?_; (repeat (first | (refine' T_pure _ rfl rfl (by kernel_rfl) (Nat.le_of_ble_eq_true (by kernel_rfl)) (fun w2_ K_ hK_ => ?_) ?_; rotate_left 1; focus ((conv => (arg 4; arg 1; whnf)); (repeat (first | exact hK_ rfl | (go_big_may; (first | (go_at_call 197; (with_reducible refine (impl_OpLen _ _).mono ?_); rintro e w1 ⟨rfl, rfl⟩) | (go_at_call 187; (with_reducible refine (impl_Addr _ _).mono ?_); rintro e w1 ⟨rfl, rfl⟩) | ((with_reducible refine g_load rfl ?_); first | refine eL1 H ?_ | refine eLa H ?_) | ((with_reducible refine g_store rfl ?_); refine eSi H ?_; clear H; intro W_ H))) | go_step | go_guarded | go_upon | dsimp only)); done)) | (refine' T_read _ rfl rfl (by kernel_rfl) (Nat.le_of_ble_eq_true (by kernel_rfl)) (fun K_ hK_ => ?_) ?_; rotate_left 1; focus ((conv => (arg 4; arg 1; whnf)); (repeat (first | exact hK_ rfl | (go_big_may; (first | (go_at_call 197; (with_reducible refine (impl_OpLen _ _).mono ?_); rintro e w1 ⟨rfl, rfl⟩) | (go_at_call 187; (with_reducible refine (impl_Addr _ _).mono ?_); rintro e w1 ⟨rfl, rfl⟩) | ((with_reducible refine g_load rfl ?_); first | refine eL1 H ?_ | refine eLa H ?_) | ((with_reducible refine g_store rfl ?_); refine eSi H ?_; clear H; intro W_ H))) | go_step | go_guarded | go_upon | dsimp only)); done)))); refine T_end ?_
      refine F_eA (ls' := #[true, true, true, true, true, true, true, true, true, true, true, true, true]) (pend' := []) 12 ?_; intro K_ hK_; (conv => (arg 4; arg 1; whnf)); (repeat (first | refine hK_ _ _ rfl ?_ ?_ | (go_big_may; (first | ((with_reducible refine g_load rfl ?_); first | refine eL1 H ?_ | refine eLa H ?_) | ((with_reducible refine g_store rfl ?_); refine eSi H ?_; clear H; intro W_ H))) | go_step | go_guarded | go_upon | dsimp only)); exact kept_nil
      refine F_done (by kernel_rfl) ?_
      go_upto_region 2 with (first | ((with_reducible refine g_box rfl ?_); refine eBa H ?_; clear H; intro g_ W_ H) | ((with_reducible refine g_load rfl ?_); first | refine eL1 H ?_ | refine eLa H ?_) | ((with_reducible refine g_store rfl ?_); refine eSi H ?_; clear H; intro W_ H))
      (with_reducible refine g_draw ?_)
      try simp only [Act.put, List.setIfInBounds_toArray, List.set_cons_succ, List.set_cons_zero]
      refine F_begin (ls := #[false, false, false, false, false, false, false, false, false, false, false, false]) (by kernel_rfl) rfl (by kernel_rfl) ?_
      have H_ := H.drew
      (clear H; have H := H_; clear H_)
      refine T_go [(0, 0, 20), (1, 1, 21), (0, 2, 22), (0, 3, 23)] ?_; (repeat (first | (refine' T_pure _ rfl rfl (by kernel_rfl) (Nat.le_of_ble_eq_true (by kernel_rfl)) (fun w2_ K_ hK_ => ?_) ?_; rotate_left 1; focus ((conv => (arg 4; arg 1; whnf)); (repeat (first | exact hK_ rfl | (go_big_may; (first | (go_at_call 192; (with_reducible refine (impl_Byte _ _).mono ?_); rintro e w1 ⟨rfl, rfl⟩) | ((with_reducible refine g_load rfl ?_); first | refine eL1 H ?_ | refine eLa H ?_))) | go_step | go_guarded | go_upon | dsimp only)); done)) | (refine' T_read _ rfl rfl (by kernel_rfl) (Nat.le_of_ble_eq_true (by kernel_rfl)) (fun K_ hK_ => ?_) ?_; rotate_left 1; focus ((conv => (arg 4; arg 1; whnf)); (repeat (first | exact hK_ rfl | (go_big_may; (first | (go_at_call 192; (with_reducible refine (impl_Byte _ _).mono ?_); rintro e w1 ⟨rfl, rfl⟩) | ((with_reducible refine g_load rfl ?_); first | refine eL1 H ?_ | refine eLa H ?_))) | go_step | go_guarded | go_upon | dsimp only)); done)))); refine T_end ?_
      refine F_eA (ls' := #[true, true, true, true, true, false, false, false, false, false, false, false]) (pend' := []) 4 ?_; intro K_ hK_; (conv => (arg 4; arg 1; whnf)); (repeat (first | refine hK_ _ _ rfl ?_ ?_ | (go_big_may; (go_at_call 229; (with_reducible refine (impl_reckon_L ⟨ca, cx, s, (pc + opLen op) % 65536, z, n, cc, i⟩ op arg (v % 256) v0 v1 _ _ zs g _ (St.holL (H.picks (xs := [Ast.blk g _ _]) pksA))).mono ?_); rintro e w1 ⟨rfl, kk⟩; rw [HR.out]; rw [HN.out] at kk; simp only at kk; have H_ := (H.picks (xs := [Ast.blk g _ _]) pksA).up1 kk (fun b hb => hb); simp only [List.append_eq, List.cons_append, List.nil_append] at H_; (clear H; have H := H_; clear H_); clear kk)) | go_step | go_guarded | go_upon | dsimp only)); exact kept_nil
      refine T_go [(0, 5, 25), (0, 6, 26), (0, 7, 27), (1, 8, 28)] ?_; (repeat (first | refine T_pA ?_ | refine T_rA ?_)); refine T_end ?_
      refine F_eA (ls' := #[true, true, true, true, true, true, true, true, true, true, false, false]) (pend' := []) 9 ?_; intro K_ hK_; (conv => (arg 4; arg 1; whnf)); (repeat (first | refine hK_ _ _ rfl ?_ ?_ | (go_big_may; (go_at_call 230; (with_reducible refine (impl_turn_L ⟨ca, cx, s, (pc + opLen op) % 65536, z, n, cc, i⟩ op arg v0 v1 _ _ zs g _ (St.holL (H.picks (xs := [Ast.blk g _ _]) pksA)) hx0 hx1).mono ?_); rintro e w1 ⟨rfl, kk⟩; rw [HT.out]; have H_ := (H.picks (xs := [Ast.blk g _ _]) pksA).up1 kk (fun b hb => hb); simp only [List.append_eq, List.cons_append, List.nil_append] at H_; (clear H; have H := H_; clear H_); clear kk)) | go_step | go_guarded | go_upon | dsimp only)); exact kept_nil
      refine T_go [(0, 10, 30), (0, 11, 31)] ?_; (repeat (refine T_pA ?_)); refine T_end ?_
      refine F_done (by kernel_rfl) ?_
      go_wp2_with (first | (go_at_call 231; (with_reducible refine (impl_flow_L x q ⟨ca, cx, s, (pc + opLen op) % 65536, z, n, cc, i⟩ op arg v0 v1 zs g _ (St.holL (H.picks (xs := [Ast.blk g _ _, intsA q.ram _]) pksA)) HL.out HS.out).mono ?_); rintro e w1 ⟨rfl, kk⟩; replace H := St.uN (H.picks (xs := [Ast.blk g _ _, intsA q.ram _]) pksA) kk; clear kk) | ((with_reducible refine g_box rfl ?_); refine eBa H ?_; clear H; intro g_ W_ H) | ((with_reducible refine g_load rfl ?_); first | refine eL1 H ?_ | refine eLa H ?_) | ((with_reducible refine g_store rfl ?_); refine eSi H ?_; clear H; intro W_ H))
      have H_ := H.take (xs := [Ast.blk g _ _, intsA q.ram _]) pksA
      go_end0
      exact ⟨rfl, H_⟩
    case false =>
      have hz : CpuD.execC ⟨ca, cx, s, pc, z, n, cc, i⟩ x op arg v = CpuD.flowC ⟨ca, cx, s, (pc + opLen op) % 65536, z, n, cc, i⟩ x op arg := by simp [CpuD.execC, hr, ht, CpuD.nx]
      have hm : x.execM ⟨ca, cx, s, pc, z, n, cc, i⟩ op = x.flowM ⟨ca, cx, s, (pc + opLen op) % 65536, z, n, cc, i⟩ op := rfl
      rw [hz, hm]
      clear hz hm
      have HN : Hid (CpuD.reck ⟨ca, cx, s, (pc + opLen op) % 65536, z, n, cc, i⟩ op arg (v % 256) = ⟨ca, cx, s, (pc + opLen op) % 65536, z, n, cc, i⟩) := Lib.hid (CpuD.reck_no hr)
      have HM : Hid (CpuD.turnR ⟨ca, cx, s, (pc + opLen op) % 65536, z, n, cc, i⟩ op = ⟨ca, cx, s, (pc + opLen op) % 65536, z, n, cc, i⟩) := Lib.hid (CpuD.turn_no ht)
      have HR := Lib.hid hr
      have HT := Lib.hid ht
      clear hr ht
      go_enter Tryz.func200, Tryz.ntmps200
      go_upto_region 1 with (first | ((with_reducible refine g_box rfl ?_); refine eBa H ?_; clear H; intro g_ W_ H) | ((with_reducible refine g_load rfl ?_); first | refine eL1 H ?_ | refine eLa H ?_) | ((with_reducible refine g_store rfl ?_); refine eSi H ?_; clear H; intro W_ H))
      (with_reducible refine g_draw ?_)
      try simp only [Act.put, List.setIfInBounds_toArray, List.set_cons_succ, List.set_cons_zero]
      refine F_begin (ls := #[false, false, false, false, false, false, false, false, false, false, false, false, false]) (by kernel_rfl) rfl (by kernel_rfl) ?_
      have H_ := H.drew
      (clear H; have H := H_; clear H_)
      refine T_go [(0, 0, 8), (0, 1, 9), (0, 2, 10), (0, 3, 11), (1, 4, 12), (0, 5, 13), (1, 6, 14), (0, 7, 15), (0, 8, 16), (0, 9, 17), (0, 10, 18), (0, 11, 19)] ?_; (repeat (first | (refine' T_pure _ rfl rfl (by kernel_rfl) (Nat.le_of_ble_eq_true (by kernel_rfl)) (fun w2_ K_ hK_ => ?_) ?_; rotate_left 1; focus ((conv => (arg 4; arg 1; whnf)); (repeat (first | exact hK_ rfl | (go_big_may; (first | (go_at_call 197; (with_reducible refine (impl_OpLen _ _).mono ?_); rintro e w1 ⟨rfl, rfl⟩) | (go_at_call 187; (with_reducible refine (impl_Addr _ _).mono ?_); rintro e w1 ⟨rfl, rfl⟩) | ((with_reducible refine g_load rfl ?_); first | refine eL1 H ?_ | refine eLa H ?_) | ((with_reducible refine g_store rfl ?_); refine eSi H ?_; clear H; intro W_ H))) | go_step | go_guarded | go_upon | dsimp only)); done)) | (refine' T_read _ rfl rfl (by kernel_rfl) (Nat.le_of_ble_eq_true (by kernel_rfl)) (fun K_ hK_ => ?_) ?_; rotate_left 1; focus ((conv => (arg 4; arg 1; whnf)); (repeat (first | exact hK_ rfl | (go_big_may; (first | (go_at_call 197; (with_reducible refine (impl_OpLen _ _).mono ?_); rintro e w1 ⟨rfl, rfl⟩) | (go_at_call 187; (with_reducible refine (impl_Addr _ _).mono ?_); rintro e w1 ⟨rfl, rfl⟩) | ((with_reducible refine g_load rfl ?_); first | refine eL1 H ?_ | refine eLa H ?_) | ((with_reducible refine g_store rfl ?_); refine eSi H ?_; clear H; intro W_ H))) | go_step | go_guarded | go_upon | dsimp only)); done)))); refine T_end ?_
      refine F_eA (ls' := #[true, true, true, true, true, true, true, true, true, true, true, true, true]) (pend' := []) 12 ?_; intro K_ hK_; (conv => (arg 4; arg 1; whnf)); (repeat (first | refine hK_ _ _ rfl ?_ ?_ | (go_big_may; (first | ((with_reducible refine g_load rfl ?_); first | refine eL1 H ?_ | refine eLa H ?_) | ((with_reducible refine g_store rfl ?_); refine eSi H ?_; clear H; intro W_ H))) | go_step | go_guarded | go_upon | dsimp only)); exact kept_nil
      refine F_done (by kernel_rfl) ?_
      go_upto_region 2 with (first | ((with_reducible refine g_box rfl ?_); refine eBa H ?_; clear H; intro g_ W_ H) | ((with_reducible refine g_load rfl ?_); first | refine eL1 H ?_ | refine eLa H ?_) | ((with_reducible refine g_store rfl ?_); refine eSi H ?_; clear H; intro W_ H))
      (with_reducible refine g_draw ?_)
      try simp only [Act.put, List.setIfInBounds_toArray, List.set_cons_succ, List.set_cons_zero]
      refine F_begin (ls := #[false, false, false, false, false, false, false, false, false, false, false, false]) (by kernel_rfl) rfl (by kernel_rfl) ?_
      have H_ := H.drew
      (clear H; have H := H_; clear H_)
      refine T_go [(0, 0, 20), (1, 1, 21), (0, 2, 22), (0, 3, 23)] ?_; (repeat (first | (refine' T_pure _ rfl rfl (by kernel_rfl) (Nat.le_of_ble_eq_true (by kernel_rfl)) (fun w2_ K_ hK_ => ?_) ?_; rotate_left 1; focus ((conv => (arg 4; arg 1; whnf)); (repeat (first | exact hK_ rfl | (go_big_may; (first | (go_at_call 192; (with_reducible refine (impl_Byte _ _).mono ?_); rintro e w1 ⟨rfl, rfl⟩) | ((with_reducible refine g_load rfl ?_); first | refine eL1 H ?_ | refine eLa H ?_))) | go_step | go_guarded | go_upon | dsimp only)); done)) | (refine' T_read _ rfl rfl (by kernel_rfl) (Nat.le_of_ble_eq_true (by kernel_rfl)) (fun K_ hK_ => ?_) ?_; rotate_left 1; focus ((conv => (arg 4; arg 1; whnf)); (repeat (first | exact hK_ rfl | (go_big_may; (first | (go_at_call 192; (with_reducible refine (impl_Byte _ _).mono ?_); rintro e w1 ⟨rfl, rfl⟩) | ((with_reducible refine g_load rfl ?_); first | refine eL1 H ?_ | refine eLa H ?_))) | go_step | go_guarded | go_upon | dsimp only)); done)))); refine T_end ?_
      refine F_eA (ls' := #[true, true, true, true, true, false, false, false, false, false, false, false]) (pend' := []) 4 ?_; intro K_ hK_; (conv => (arg 4; arg 1; whnf)); (repeat (first | refine hK_ _ _ rfl ?_ ?_ | (go_big_may; (go_at_call 229; (with_reducible refine (impl_reckon_L ⟨ca, cx, s, (pc + opLen op) % 65536, z, n, cc, i⟩ op arg (v % 256) v0 v1 _ _ zs g _ (St.holL (H.picks (xs := [Ast.blk g _ _]) pksA))).mono ?_); rintro e w1 ⟨rfl, kk⟩; rw [HR.out]; rw [HN.out] at kk; simp only at kk; have H_ := (H.picks (xs := [Ast.blk g _ _]) pksA).up1 kk (fun b hb => hb); simp only [List.append_eq, List.cons_append, List.nil_append] at H_; (clear H; have H := H_; clear H_); clear kk)) | go_step | go_guarded | go_upon | dsimp only)); exact kept_nil
      refine T_go [(0, 5, 25), (0, 6, 26), (0, 7, 27), (1, 8, 28)] ?_; (repeat (first | refine T_pA ?_ | refine T_rA ?_)); refine T_end ?_
      refine F_eA (ls' := #[true, true, true, true, true, true, true, true, true, true, false, false]) (pend' := []) 9 ?_; intro K_ hK_; (conv => (arg 4; arg 1; whnf)); (repeat (first | refine hK_ _ _ rfl ?_ ?_ | (go_big_may; (go_at_call 230; (with_reducible refine (impl_turn_L ⟨ca, cx, s, (pc + opLen op) % 65536, z, n, cc, i⟩ op arg v0 v1 _ _ zs g _ (St.holL (H.picks (xs := [Ast.blk g _ _]) pksA)) hx0 hx1).mono ?_); rintro e w1 ⟨rfl, kk⟩; rw [HT.out]; rw [HM.out] at kk; simp only at kk; have H_ := (H.picks (xs := [Ast.blk g _ _]) pksA).up1 kk (fun b hb => hb); simp only [List.append_eq, List.cons_append, List.nil_append] at H_; (clear H; have H := H_; clear H_); clear kk)) | go_step | go_guarded | go_upon | dsimp only)); exact kept_nil
      refine T_go [(0, 10, 30), (0, 11, 31)] ?_; (repeat (refine T_pA ?_)); refine T_end ?_
      refine F_done (by kernel_rfl) ?_
      go_wp2_with (first | (go_at_call 231; (with_reducible refine (impl_flow_L x q ⟨ca, cx, s, (pc + opLen op) % 65536, z, n, cc, i⟩ op arg v0 v1 zs g _ (St.holL (H.picks (xs := [Ast.blk g _ _, intsA q.ram _]) pksA)) HL.out HS.out).mono ?_); rintro e w1 ⟨rfl, kk⟩; replace H := St.uN (H.picks (xs := [Ast.blk g _ _, intsA q.ram _]) pksA) kk; clear kk) | ((with_reducible refine g_box rfl ?_); refine eBa H ?_; clear H; intro g_ W_ H) | ((with_reducible refine g_load rfl ?_); first | refine eL1 H ?_ | refine eLa H ?_) | ((with_reducible refine g_store rfl ?_); refine eSi H ?_; clear H; intro W_ H))
      have H_ := H.take (xs := [Ast.blk g _ _, intsA q.ram _]) pksA
      go_end0
      exact ⟨rfl, H_⟩
end Go.Proofs.YtjgggmcnbdjdjaaGreat.C

/- What the two reads of a pad tell. -/
namespace Go.Proofs.YtjgggmcnbdjdjaaGreat.B
open Go.RowKit Go.Proofs.YtjgggmcnbdjdjaaGreat.K
attribute [local go_sem] max2_int min2_int max_two min_two i64_and255 i64_and65535 i64_and1
set_option maxRecDepth 20000
set_option linter.unusedVariables false
set_option linter.unusedSimpArgs false
set_option maxHeartbeats 2000000 in
theorem impl_PadRead (x : PadD) (A : Option Addr) (c : Nat) (xs : List Int) (t : Int) (w : World) (hx : InI w A c xs) (ht : t ≤ 9223372036854775807) : Calls Tryz.prog 129 #[.agg #[.bool x.h, .int .i64 x.s], .slice A xs.length c, .int .i64 t] w fun e w' => e = .returned (.tuple #[.agg #[.bool (x.read xs t).h, .int .i64 (x.read xs t).s], .int .i64 (x.says xs t)]) ∧ Below w.heap.size w w' := by
  have H := St.nil w []
  cases h2 : x.h
  · go_enter Tryz.func129, Tryz.ntmps129
    go_wp2_with (first | ((with_reducible refine g_box rfl ?_); refine eBa H ?_; clear H; intro g_ W_ H) | ((with_reducible refine g_alloc rfl ?_); refine eNw H ?_; clear H; intro g_ W_ H) | ((with_reducible refine g_load rfl ?_); refine eL1 H ?_) | ((with_reducible refine g_store rfl ?_); refine eSa H ?_; clear H; intro W_ H))
    (with_reducible refine g_draw ?_)
    try simp only [Act.put, List.setIfInBounds_toArray, List.set_cons_succ, List.set_cons_zero]
    refine F_begin (ls := #[false, false, false, false, false, false, false, false, false]) (by kernel_rfl) rfl (by kernel_rfl) ?_
    have H_ := H.drew
    (clear H; have H := H_; clear H_)
    refine T_go [(0, 0, 18), (1, 1, 19), (0, 2, 20), (0, 3, 21), (0, 4, 22), (1, 5, 23), (0, 6, 24)] ?_; (repeat (first | refine T_pA ?_ | refine T_rA ?_)); refine T_end ?_
    refine F_eA (ls' := #[true, true, true, true, true, true, true, true, false]) (pend' := [5]) 7 ?_; intro K_ hK_; (conv => (arg 4; arg 1; whnf)); (repeat (first | refine hK_ _ _ rfl ?_ ?_ | (go_big_may; ((with_reducible refine g_store rfl ?_); refine eSa H ?_; clear H; intro W_ H)) | go_step | go_guarded | go_upon | dsimp only)); (focus (refine kept_cA 5 23 ?_; exact kept_nil))
    refine T_go [(0, 8, 7)] ?_; (repeat (refine T_pA ?_)); refine T_end ?_
    refine F_done (by kernel_rfl) ?_
    go_wp2
    (refine' back2 Tryz.results129 ?_ ?_ rfl ⟨?_, H.below⟩; rotate_left 2; exact rvA; exact rvA; clear H; simp_all [PadD.read, PadD.says])
  · go_enter Tryz.func129, Tryz.ntmps129
    go_wp2_with (first | ((with_reducible refine g_box rfl ?_); refine eBa H ?_; clear H; intro g_ W_ H) | ((with_reducible refine g_alloc rfl ?_); refine eNw H ?_; clear H; intro g_ W_ H) | ((with_reducible refine g_load rfl ?_); refine eL1 H ?_) | ((with_reducible refine g_store rfl ?_); refine eSa H ?_; clear H; intro W_ H) | (go_at_call 190; refine (impl_PadAt _ _ _ _ _ (hx.on H) ht).mono ?_; rintro e w1 ⟨rfl, rfl⟩))
    (refine' back2 Tryz.results129 ?_ ?_ rfl ⟨?_, H.below⟩; rotate_left 2; exact rvA; exact rvA; clear H; simp_all [PadD.read, PadD.says])
set_option maxHeartbeats 2000000 in
theorem spec_PadRead (x : PadD) (A : Option Addr) (c : Nat) (xs : List Int) (t : Int) (w : World) (hx : InI w A c xs) (ht : t ≤ 9223372036854775807) : Calls Tryz.prog 112 #[.agg #[.bool x.h, .int .i64 x.s], .slice A xs.length c, .int .i64 t] w fun e w' => e = .returned (.tuple #[.agg #[.bool (x.read xs t).h, .int .i64 (x.read xs t).s], .int .i64 (x.says xs t)]) ∧ Below w.heap.size w w' := by
  have H := St.nil w []
  cases h2 : x.h
  · go_enter Tryz.func112, Tryz.ntmps112
    go_wp2_with (first | ((with_reducible refine g_box rfl ?_); refine eBa H ?_; clear H; intro g_ W_ H) | ((with_reducible refine g_alloc rfl ?_); refine eNw H ?_; clear H; intro g_ W_ H) | ((with_reducible refine g_load rfl ?_); first | refine eL1 H ?_ | refine eLa H ?_) | ((with_reducible refine g_store rfl ?_); (first | refine eSi H ?_ | refine eSa H ?_); clear H; intro W_ H))
    (refine' back2 Tryz.results112 ?_ ?_ rfl ⟨?_, H.below⟩; rotate_left 2; exact rvA; exact rvA; clear H; simp_all [PadD.read, PadD.says])
  · go_enter Tryz.func112, Tryz.ntmps112
    go_wp2_with (first | ((with_reducible refine g_box rfl ?_); refine eBa H ?_; clear H; intro g_ W_ H) | ((with_reducible refine g_alloc rfl ?_); refine eNw H ?_; clear H; intro g_ W_ H) | ((with_reducible refine g_load rfl ?_); first | refine eL1 H ?_ | refine eLa H ?_) | ((with_reducible refine g_store rfl ?_); (first | refine eSi H ?_ | refine eSa H ?_); clear H; intro W_ H) | (go_at_call 182; refine (spec_PadAt _ _ _ _ _ (hx.on H) ht).mono ?_; rintro e w1 ⟨rfl, rfl⟩))
    (with_reducible refine g_draw ?_)
    try simp only [Act.put, List.setIfInBounds_toArray, List.set_cons_succ, List.set_cons_zero]
    refine F_begin (ls := #[false, false, false, false, false, false]) (by kernel_rfl) rfl (by kernel_rfl) ?_
    have H_ := H.drew
    (clear H; have H := H_; clear H_)
    refine T_go [(1, 0, 15), (0, 1, 16), (1, 2, 17), (0, 3, 18)] ?_; (repeat (first | refine T_pA ?_ | refine T_rA ?_)); refine T_end ?_
    refine F_eA (ls' := #[true, true, true, true, true, false]) (pend' := [2]) 4 ?_; intro K_ hK_; (conv => (arg 4; arg 1; whnf)); (repeat (first | refine hK_ _ _ rfl ?_ ?_ | (go_big_may; ((with_reducible refine g_store rfl ?_); (first | refine eSi H ?_ | refine eSa H ?_); clear H; intro W_ H)) | go_step | go_guarded | go_upon | dsimp only)); (focus (refine kept_cA 2 17 ?_; exact kept_nil))
    refine T_go [(0, 5, 7)] ?_; (repeat (refine T_pA ?_)); refine T_end ?_
    refine F_done (by kernel_rfl) ?_
    go_wp2
    (refine' back2 Tryz.results112 ?_ ?_ rfl ⟨?_, H.below⟩; rotate_left 2; exact rvA; exact rvA; clear H; simp_all [PadD.read, PadD.says])
end Go.Proofs.YtjgggmcnbdjdjaaGreat.B

