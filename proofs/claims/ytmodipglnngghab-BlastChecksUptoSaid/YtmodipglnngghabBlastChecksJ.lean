/-
  The texts that the proof stands on, part 10.
-/
import Derived.Test.YtmodipglnngghabBlastChecksI
import Derived.KernelRfl
set_option linter.unusedVariables false
set_option linter.unusedSimpArgs false
set_option linter.unnecessarySimpa false

/-! What the code of function gates_Nodes comes to, piece by piece. Written by program (dprint.py). -/
section
set_option maxRecDepth 10000
set_option maxHeartbeats 4000000
namespace Go.Lw
open Go
noncomputable section
variable {pg : Prg} {gh : List GObj} {e : IExit} {s : St}
def an_gates_Nodes : Tr := (tI 5 (tI 2 (.node 0 (.agg [.int .i64, .any]) .nil .nil) (uI 4)) (tI 8 (uO 7) (uI 9)))
def D_gates_Nodes_0 (pg : Prg) (x0_0 : Int) (v0_1 : PV) (gh : List GObj) : DR := onK (degr1 v0_1) (isC (degr (degr1 v0_1)) (lenS (degr (degr (degr1 v0_1))) fun n1 => some (.ret, ⟨[(2, (I (IntKind.i64.wrap ((IntKind.i64.wrap (1 + x0_0)) + (n1 : Int)))))], [], gh⟩)))
theorem D_gates_Nodes_0_ok {x0_0 : Int} {v0_1 : PV} (h : D_gates_Nodes_0 pg x0_0 v0_1 gh = some (e, s)) : runL pg f_gates_Nodes_0 ⟨[(0, .agg [I x0_0, v0_1])], [], gh⟩ = some (e, s) :=
  runX_ok an_gates_Nodes (Eq.trans (by kernel_rfl) h)
end
end Go.Lw
end

/-! What the code of function slices_ContainsFunc_Lint_int comes to, piece by piece. Written by program (dprint.py). -/
section
set_option maxRecDepth 10000
set_option maxHeartbeats 4000000
namespace Go.Lw
open Go
noncomputable section
variable {pg : Prg} {gh : List GObj} {e : IExit} {s : St}
def an_slices_ContainsFunc_Lint_int : Tr := (tO 5 (tO 1 (uO 0) (uB 4)) (tI 7 (uO 6) (uB 8)))
def D_slices_ContainsFunc_Lint_int_0 (pg : Prg) (v0 v1 : PV) (gh : List GObj) : DR := stK 0 v0 (stK 0 v1 (isC (degr v0) (isC (degr v1) (arK (degr (degr v0)) (arK (degr (degr v1)) (
  callR gh true (callL pg 111 [(degr (degr v0)), (degr (degr v1))] gh) fun r1 gh2 => unI .i64 r1 fun n3 => some (.ret, ⟨[(4, (B (decide (0 ≤ n3))))], [], gh2⟩)))))))
theorem D_slices_ContainsFunc_Lint_int_0_ok {v0 v1 : PV} (h : D_slices_ContainsFunc_Lint_int_0 pg v0 v1 gh = some (e, s)) : runL pg f_slices_ContainsFunc_Lint_int_0 ⟨[(0, v0), (1, v1)], [], gh⟩ = some (e, s) :=
  runX_ok an_slices_ContainsFunc_Lint_int (Eq.trans (by kernel_rfl) h)
end
end Go.Lw
end

/-! What the code of function slices_IndexFunc_Lint_int comes to, piece by piece. Written by program (dprint.py). -/
section
set_option maxRecDepth 10000
set_option maxHeartbeats 4000000
namespace Go.Lw
open Go
noncomputable section
variable {pg : Prg} {gh : List GObj} {e : IExit} {s : St}
def an_slices_IndexFunc_Lint_int : Tr := (tI 10 (tO 6 (tI 4 (tO 1 (uO 0) .nil) (uI 5)) (tI 8 (uI 7) (uB 9))) (tI 15 (tO 12 (uO 11) (uI 13)) (tI 17 (uB 16) (uI 18))))
def D_slices_IndexFunc_Lint_int_b1 (pg : Prg) (v0 v1 : PV) (x7 x8 : Int) (gh : List GObj) : DR :=
  br 9 (decide (x8 < x7)) (stK 0 v0 (stK 0 v1 (isC (degr v1) (isC (degr v0) (
  idX 1 none (degr (degr v0)) x8 fun p1 =>
  ldX [] gh false 1 (degr p1) fun v2 => unI .i64 v2 fun n3 =>
  fnX (degr (degr v1)) fun f6 cs7 => allK cs7 (callR gh true (callL pg f6 ([I n3] ++ cs7) gh) fun r4 gh5 => unB r4 fun b8 => stK 0 v0 (stK 0 v1 (
  br 16 b8 (some (.ret, ⟨[(4, I x8)], [], gh5⟩)) (stK 0 v0 (stK 0 v1 (stK 0 v0 (stK 0 v1 (some (.normal, ⟨[(0, v0), (1, v1), (7, I x7), (8, (I (IntKind.i64.wrap (x8 + 1))))], [], gh5⟩)))))))))))))) (some ((.exit 0), ⟨[(0, v0), (1, v1), (7, I x7), (8, I x8), (9, (B (decide (x8 < x7))))], [], gh⟩))
theorem D_slices_IndexFunc_Lint_int_b1_ok {v0 v1 : PV} {x7 x8 : Int} (h : D_slices_IndexFunc_Lint_int_b1 pg v0 v1 x7 x8 gh = some (e, s)) : runL pg f_slices_IndexFunc_Lint_int_b1 ⟨[(0, v0), (1, v1), (7, I x7), (8, I x8)], [], gh⟩ = some (e, s) :=
  runX_ok an_slices_IndexFunc_Lint_int (Eq.trans (by kernel_rfl) h)
def D_slices_IndexFunc_Lint_int_k1 (pg : Prg)  (gh : List GObj) : DR := some (.ret, ⟨[(4, (I (-1)))], [], gh⟩)
theorem D_slices_IndexFunc_Lint_int_k1_ok  (h : D_slices_IndexFunc_Lint_int_k1 pg  gh = some (e, s)) : runL pg f_slices_IndexFunc_Lint_int_k1 ⟨[], [], gh⟩ = some (e, s) :=
  runX_ok an_slices_IndexFunc_Lint_int (Eq.trans (by kernel_rfl) h)
def D_slices_IndexFunc_Lint_int_0 (pg : Prg) (v0 v1 : PV) (gh : List GObj) : DR := stK 0 v0 (stK 0 v1 (isC (degr v0) (lenS (degr (degr v0)) fun n1 => stK 0 v0 (stK 0 v1 (
  kR (runL pg f_slices_IndexFunc_Lint_int_l1 ⟨[(0, v0), (1, v1), (7, (I (n1 : Int))), (8, I 0)], [], gh⟩) (fun e s => nx e s (fun e s => some (e, s)) fun s => kR (runL pg f_slices_IndexFunc_Lint_int_k1 s) (fun e s => some (e, s))))))))
theorem D_slices_IndexFunc_Lint_int_0_ok {v0 v1 : PV} (h : D_slices_IndexFunc_Lint_int_0 pg v0 v1 gh = some (e, s)) : runL pg f_slices_IndexFunc_Lint_int_0 ⟨[(0, v0), (1, v1)], [], gh⟩ = some (e, s) :=
  runX_ok an_slices_IndexFunc_Lint_int (Eq.trans (by kernel_rfl) h)
end
end Go.Lw
end

/-! What the code of function gates_Check comes to, piece by piece. Written by program (dprint.py). -/
section
set_option maxRecDepth 10000
set_option maxHeartbeats 4000000
namespace Go.Lw
open Go
noncomputable section
variable {pg : Prg} {gh : List GObj} {e : IExit} {s : St}
def an_gates_Check : Tr := (tB 35 (tB 17 (tB 9 (tI 4 (tI 2 (.node 0 (.agg [.int .i64, .any]) .nil .nil) (uO 3)) (tB 8 (uI 7) .nil)) (tB 13 (tB 12 (uI 11) .nil) (tI 16 (uO 15) .nil))) (.node 26 (.agg [.int .i64, .int .i64]) (tI 22 (tO 20 (uO 18) (uI 21)) (tI 24 (uB 23) .nil)) (tB 31 (tI 30 (uI 28) .nil) (tI 34 (uB 32) .nil)))) (tI 51 (tI 44 (tI 40 (tB 37 (uB 36) (uI 39)) (tI 43 (uI 42) .nil)) (tB 47 (tB 46 (uI 45) .nil) (tI 50 (uB 48) .nil))) (tI 59 (tB 56 (tI 54 (uI 53) (uB 55)) (.node 58 (.agg [.int .i64, .int .i64]) (uO 57) .nil)) (tO 63 (tI 61 (uO 60) .nil) (tB 65 (uI 64) .nil)))))
def D_gates_Check_b1 (pg : Prg) (v3 v20 : PV) (x21 x22 xc0_0 : Int) (vc0_1 : PV) (gh : List GObj) : DR :=
  br 23 (decide (x22 < x21)) (
  idX 2 none (degr v20) x22 fun p1 =>
  ldX [[I xc0_0, vc0_1]] gh true 2 (degr p1) fun v2 => unA 2 v2 fun c3 c4 => unI .i64 c3 fun n5 => unI .i64 c4 fun n6 => stK 2 v3 (stK 2 v20 (
  br 32 (decide (n6 ≤ n5)) (stK 2 v3 (stK 2 v20 (some (.ret, ⟨[(2, I 4)], [], gh⟩)))) (
  br 37 (decide (n5 < 2)) (stK 2 v3 (stK 2 v20 (some (.ret, ⟨[(2, I 4)], [], gh⟩)))) (gd (decide ((2 : Int) ≠ 0)) (
  br 48 (decide ((IntKind.i64.wrap ((IntKind.i64.wrap (1 + xc0_0)) + x22)) ≤ (IntKind.i64.wrap (Int.tdiv n6 2)))) (stK 2 v3 (stK 2 v20 (some (.ret, ⟨[(2, I 4)], [], gh⟩)))) (gd (decide ((2 : Int) ≠ 0)) (gd (decide ((2 : Int) ≠ 0)) (stK 2 v3 (stK 2 v20 (
  br 56 ((IntKind.i64.wrap (Int.tdiv n5 2)) == (IntKind.i64.wrap (Int.tdiv n6 2))) (some (.ret, ⟨[(2, I 4)], [], gh⟩)) (isC (degr v3) (
  muX gh 2 (degr (degr v3)) (.agg [I n5, I n6]) (B true) fun gh7 => stK 1 v3 (stK 1 v20 (stK 1 v3 (stK 1 v20 (stK 1 v3 (stK 1 v20 (some (.normal, ⟨[(1, .ptr false 0 0), (3, v3), (20, v20), (21, I x21), (22, (I (IntKind.i64.wrap (x22 + 1))))], [[I xc0_0, vc0_1]], gh7⟩)))))))))))))))))))) (some ((.exit 0), ⟨[(1, .ptr false 0 0), (3, v3), (20, v20), (21, I x21), (22, I x22), (23, (B (decide (x22 < x21))))], [[I xc0_0, vc0_1]], gh⟩))
theorem D_gates_Check_b1_ok {v3 v20 : PV} {x21 x22 xc0_0 : Int} {vc0_1 : PV} (h : D_gates_Check_b1 pg v3 v20 x21 x22 xc0_0 vc0_1 gh = some (e, s)) : runL pg f_gates_Check_b1 ⟨[(1, .ptr false 0 0), (3, v3), (20, v20), (21, I x21), (22, I x22)], [[I xc0_0, vc0_1]], gh⟩ = some (e, s) :=
  runX_ok an_gates_Check (Eq.trans (by kernel_rfl) h)
def D_gates_Check_k1 (pg : Prg) (v3 : PV) (xc0_0 : Int) (vc0_1 : PV) (gh : List GObj) : DR := isC (degr v3) (
  lenM gh (degr (degr v3)) fun n1 => isC (degr vc0_1) (lenS (degr (degr vc0_1)) fun n2 =>
  br 65 (decide ((n1 : Int) < (n2 : Int))) (some (.ret, ⟨[(2, I 6)], [], gh⟩)) (some (.ret, ⟨[(2, I 0)], [], gh⟩))))
theorem D_gates_Check_k1_ok {v3 : PV} {xc0_0 : Int} {vc0_1 : PV} (h : D_gates_Check_k1 pg v3 xc0_0 vc0_1 gh = some (e, s)) : runL pg f_gates_Check_k1 ⟨[(1, .ptr false 0 0), (3, v3)], [[I xc0_0, vc0_1]], gh⟩ = some (e, s) :=
  runX_ok an_gates_Check (Eq.trans (by kernel_rfl) h)
def D_gates_Check_0 (pg : Prg) (x0_0 : Int) (v0_1 : PV) (gh : List GObj) : DR := onK (degr1 v0_1) (
  br 9 (decide (x0_0 < 0)) (some (.ret, ⟨[(2, I 3)], [], gh⟩)) (
  br 13 (decide (1000 < x0_0)) (some (.ret, ⟨[(2, I 3)], [], gh⟩)) (isC (degr (degr1 v0_1)) (lenS (degr (degr (degr1 v0_1))) fun n1 =>
  br 17 (decide (1000000 < (n1 : Int))) (some (.ret, ⟨[(2, I 2)], [], gh⟩)) (isC (degr (degr1 v0_1)) (lenS (degr (degr (degr1 v0_1))) fun n2 => stK 1 (degr (degr1 v0_1)) (
  kR (runL pg f_gates_Check_l1 ⟨[(1, .ptr false 0 0), (3, (.mp (List.length gh))), (20, (degr (degr1 v0_1))), (21, (I (n2 : Int))), (22, I 0)], [[I x0_0, (degr1 v0_1)]], (gh ++ [.map []])⟩) (fun e s => nx e s (fun e s => some (e, s)) fun s => kR (runL pg f_gates_Check_k1 s) (fun e s => some (e, s))))))))))
theorem D_gates_Check_0_ok {x0_0 : Int} {v0_1 : PV} (h : D_gates_Check_0 pg x0_0 v0_1 gh = some (e, s)) : runL pg f_gates_Check_0 ⟨[(0, .agg [I x0_0, v0_1])], [], gh⟩ = some (e, s) :=
  runX_ok an_gates_Check (Eq.trans (by kernel_rfl) h)
end
end Go.Lw
end

/-! What the code of function gates_Is comes to, piece by piece. Written by program (dprint.py). -/
section
set_option maxRecDepth 10000
set_option maxHeartbeats 4000000
namespace Go.Lw
open Go
noncomputable section
variable {pg : Prg} {gh : List GObj} {e : IExit} {s : St}
def an_gates_Is : Tr := (tO 5 (tG 2 (tO 1 (.node 0 (.agg [.int .i64, .any]) .nil .nil) .nil) (uB 4)) (tB 7 (uO 6) (uB 8)))
def D_gates_Is_0 (pg : Prg) (x0_0 : Int) (v0_1 v1 : PV) (gh : List GObj) : DR := onK (degr1 v0_1) (stK 0 v1 (isC (degr v1) (arK (degr (degr v1)) (
  callR (gh ++ [.cells [I x0_0, (degr1 v0_1)]]) true (callL pg 86 [(degr (degr v1)), (.fn 85 [(.ptr true (List.length gh) 0)])] (gh ++ [.cells [I x0_0, (degr1 v0_1)]])) fun r1 gh2 => unB r1 fun b3 => some (.ret, ⟨[(4, (B (!b3)))], [], gh2⟩)))))
theorem D_gates_Is_0_ok {x0_0 : Int} {v0_1 v1 : PV} (h : D_gates_Is_0 pg x0_0 v0_1 v1 gh = some (e, s)) : runL pg f_gates_Is_0 ⟨[(0, .agg [I x0_0, v0_1]), (1, v1)], [], gh⟩ = some (e, s) :=
  runX_ok an_gates_Is (Eq.trans (by kernel_rfl) h)
end
end Go.Lw
end

/-! What the code of function gates_Is_1 comes to, piece by piece. Written by program (dprint.py). -/
section
set_option maxRecDepth 10000
set_option maxHeartbeats 4000000
namespace Go.Lw
open Go
noncomputable section
variable {pg : Prg} {gh : List GObj} {e : IExit} {s : St}
def an_gates_Is_1 : Tr := (tI 7 (tI 4 (tG 1 (uI 0) (uB 3)) (tB 6 (uB 5) .nil)) (tI 10 (tI 9 (.node 8 (.agg [.int .i64, .any]) .nil .nil) .nil) (tB 12 (uB 11) .nil)))
def D_gates_Is_1_0 (pg : Prg) (x0 : Int) (g1 o1 : Nat) (gh : List GObj) : DR :=
  br 6 (decide (x0 < 0)) (some (.ret, ⟨[(3, B true)], [], gh⟩)) (
  ob (ghCells gh g1) fun cs1 =>
  ob (grab true 2 o1 cs1) fun v2 => unA 2 (degr v2) fun c3 c4 => unI .i64 c3 fun n5 => onK (degr1 c4) (
  callR gh true (callL pg 88 [(.agg [I n5, (degr1 c4)])] gh) fun r6 gh7 => unI .i64 r6 fun n8 => some (.ret, ⟨[(3, (B (decide ((IntKind.i64.wrap (2 * n8)) ≤ x0))))], [], gh7⟩)))
theorem D_gates_Is_1_0_ok {x0 : Int} {g1 o1 : Nat} (h : D_gates_Is_1_0 pg x0 g1 o1 gh = some (e, s)) : runL pg f_gates_Is_1_0 ⟨[(0, I x0), (1, .ptr true g1 o1)], [], gh⟩ = some (e, s) :=
  runX_ok an_gates_Is_1 (Eq.trans (by kernel_rfl) h)
end
end Go.Lw
end

/-! What the code of function ref_between comes to, piece by piece. Written by program (dprint.py). -/
section
set_option maxRecDepth 10000
set_option maxHeartbeats 4000000
namespace Go.Lw
open Go
noncomputable section
variable {pg : Prg} {gh : List GObj} {e : IExit} {s : St}
def an_ref_between : Tr := (tB 9 (tB 6 (tI 1 (uI 0) (uI 2)) (tI 8 (uI 7) .nil)) (tI 12 (tI 11 (uB 10) .nil) (tB 14 (uB 13) .nil)))
def D_ref_between_0 (pg : Prg) (x0 x1 x2 : Int) (gh : List GObj) : DR :=
  br 10 (decide (x1 ≤ x0)) (some (.ret, ⟨[(6, (B (decide (x0 ≤ x2))))], [], gh⟩)) (some (.ret, ⟨[(6, B false)], [], gh⟩))
theorem D_ref_between_0_ok {x0 x1 x2 : Int} (h : D_ref_between_0 pg x0 x1 x2 gh = some (e, s)) : runL pg f_ref_between_0 ⟨[(0, I x0), (1, I x1), (2, I x2)], [], gh⟩ = some (e, s) :=
  runX_ok an_ref_between (Eq.trans (by kernel_rfl) h)
end
end Go.Lw
end

/-! What the code of function ref_CheckGraph comes to, piece by piece. Written by program (dprint.py). -/
section
set_option maxRecDepth 10000
set_option maxHeartbeats 4000000
namespace Go.Lw
open Go
noncomputable section
variable {pg : Prg} {gh : List GObj} {e : IExit} {s : St}
def an_ref_CheckGraph : Tr := (tB 40 (tB 19 (tB 9 (tI 4 (tI 2 (.node 0 (.agg [.int .i64, .any]) .nil .nil) (uI 3)) (tI 6 (uI 5) (uI 8))) (tB 14 (tO 12 (uB 10) (uI 13)) (tO 17 (uI 15) (uI 18)))) (tI 33 (tI 24 (tI 21 (uI 20) (uO 23)) (tO 29 (uI 27) (uI 30))) (tB 37 (tI 35 (uI 34) (uB 36)) (tB 39 (uI 38) .nil)))) (tB 56 (tB 49 (tI 45 (tI 42 (uB 41) (uI 44)) (tI 47 (uI 46) (uI 48))) (tI 53 (tB 51 (uB 50) (uI 52)) (tI 55 (uI 54) .nil))) (.node 65 (.agg [.int .i64, .any]) (tI 61 (tI 58 (uB 57) (uO 60)) (tI 63 (uB 62) (uI 64))) (.node 71 (.agg [.int .i64, .int .i64]) (tO 68 (uI 66) (uI 69)) (tB 73 (uI 72) .nil)))))
def D_ref_CheckGraph_b1 (pg : Prg) (x3 xc0_0 : Int) (vc0_1 : PV) (gh : List GObj) : DR := isC (degr vc0_1) (lenS (degr (degr vc0_1)) fun n1 =>
  br 19 (decide (x3 < (n1 : Int))) (isC (degr vc0_1) (
  idX 2 none (degr (degr vc0_1)) x3 fun p2 =>
  idX 1 (some 2) (degr p2) 0 fun p3 =>
  ldX [[I xc0_0, vc0_1]] gh false 1 (degr p3) fun v4 => unI .i64 v4 fun n5 => isC (degr vc0_1) (
  idX 2 none (degr (degr vc0_1)) x3 fun p6 =>
  idX 1 (some 2) (degr p6) 1 fun p7 =>
  ldX [[I xc0_0, vc0_1]] gh false 1 (degr p7) fun v8 => unI .i64 v8 fun n9 =>
  br 37 (decide (n9 ≤ n5)) (some (.ret, ⟨[(2, I 4)], [], gh⟩)) (
  br 41 (decide (n5 < 2)) (some (.ret, ⟨[(2, I 4)], [], gh⟩)) (
  br 51 (decide ((IntKind.i64.wrap (2 * (IntKind.i64.wrap ((IntKind.i64.wrap (1 + xc0_0)) + x3)))) ≤ n9)) (some (.ret, ⟨[(2, I 4)], [], gh⟩)) (gd (decide ((2 : Int) ≠ 0)) (gd (decide ((2 : Int) ≠ 0)) (
  br 57 ((IntKind.i64.wrap (Int.tdiv n5 2)) == (IntKind.i64.wrap (Int.tdiv n9 2))) (some (.ret, ⟨[(2, I 4)], [], gh⟩)) (some (.normal, ⟨[(1, .ptr false 0 0), (3, (I (IntKind.i64.wrap (x3 + 1))))], [[I xc0_0, vc0_1]], gh⟩)))))))))) (some ((.exit 0), ⟨[(1, .ptr false 0 0), (3, I x3), (19, (B (decide (x3 < (n1 : Int)))))], [[I xc0_0, vc0_1]], gh⟩)))
theorem D_ref_CheckGraph_b1_ok {x3 xc0_0 : Int} {vc0_1 : PV} (h : D_ref_CheckGraph_b1 pg x3 xc0_0 vc0_1 gh = some (e, s)) : runL pg f_ref_CheckGraph_b1 ⟨[(1, .ptr false 0 0), (3, I x3)], [[I xc0_0, vc0_1]], gh⟩ = some (e, s) :=
  runX_ok an_ref_CheckGraph (Eq.trans (by kernel_rfl) h)
def D_ref_CheckGraph_b2 (pg : Prg) (x6 xc0_0 : Int) (vc0_1 : PV) (gh : List GObj) : DR := isC (degr vc0_1) (lenS (degr (degr vc0_1)) fun n1 =>
  br 62 (decide (x6 < (n1 : Int))) (isC (degr vc0_1) (
  idX 2 none (degr (degr vc0_1)) x6 fun p2 =>
  ldX [[I xc0_0, vc0_1]] gh true 2 (degr p2) fun v3 => unA 2 v3 fun c4 c5 => unI .i64 c4 fun n6 => unI .i64 c5 fun n7 => onK (degr1 (degr1 vc0_1)) (
  callR gh true (callL pg 51 [(.agg [I xc0_0, (degr1 (degr1 vc0_1))]), I x6, .agg [I n6, I n7]] gh) fun r8 gh9 => unI .i64 r8 fun n10 =>
  br 73 (decide (0 ≤ n10)) (some (.ret, ⟨[(2, I 6)], [], gh9⟩)) (some (.normal, ⟨[(1, .ptr false 0 0), (6, (I (IntKind.i64.wrap (x6 + 1))))], [[I xc0_0, vc0_1]], gh9⟩))))) (some ((.exit 2), ⟨[(1, .ptr false 0 0), (6, I x6), (62, (B (decide (x6 < (n1 : Int)))))], [[I xc0_0, vc0_1]], gh⟩)))
theorem D_ref_CheckGraph_b2_ok {x6 xc0_0 : Int} {vc0_1 : PV} (h : D_ref_CheckGraph_b2 pg x6 xc0_0 vc0_1 gh = some (e, s)) : runL pg f_ref_CheckGraph_b2 ⟨[(1, .ptr false 0 0), (6, I x6)], [[I xc0_0, vc0_1]], gh⟩ = some (e, s) :=
  runX_ok an_ref_CheckGraph (Eq.trans (by kernel_rfl) h)
def D_ref_CheckGraph_k2 (pg : Prg)  (gh : List GObj) : DR := some (.ret, ⟨[(2, I 0)], [], gh⟩)
theorem D_ref_CheckGraph_k2_ok  (h : D_ref_CheckGraph_k2 pg  gh = some (e, s)) : runL pg f_ref_CheckGraph_k2 ⟨[], [], gh⟩ = some (e, s) :=
  runX_ok an_ref_CheckGraph (Eq.trans (by kernel_rfl) h)
def D_ref_CheckGraph_k1 (pg : Prg) (xc0_0 : Int) (vc0_1 : PV) (gh : List GObj) : DR :=
  kR (runL pg f_ref_CheckGraph_l2 ⟨[(1, .ptr false 0 0), (6, I 0)], [[I xc0_0, vc0_1]], gh⟩) (fun e s => nx e s (fun e s => some (e, s)) fun s => kR (runL pg f_ref_CheckGraph_k2 s) (fun e s => some (e, s)))
theorem D_ref_CheckGraph_k1_ok {xc0_0 : Int} {vc0_1 : PV} (h : D_ref_CheckGraph_k1 pg xc0_0 vc0_1 gh = some (e, s)) : runL pg f_ref_CheckGraph_k1 ⟨[(1, .ptr false 0 0)], [[I xc0_0, vc0_1]], gh⟩ = some (e, s) :=
  runX_ok an_ref_CheckGraph (Eq.trans (by kernel_rfl) h)
def D_ref_CheckGraph_0 (pg : Prg) (x0_0 : Int) (v0_1 : PV) (gh : List GObj) : DR := onK (degr1 v0_1) (
  callR gh true (callL pg 50 [I x0_0, I 0, I 1000] gh) fun r1 gh2 => unB r1 fun b3 =>
  br 10 (!b3) (some (.ret, ⟨[(2, I 3)], [], gh2⟩)) (isC (degr (degr1 v0_1)) (lenS (degr (degr (degr1 v0_1))) fun n4 =>
  br 14 (decide (1000000 < (n4 : Int))) (some (.ret, ⟨[(2, I 2)], [], gh2⟩)) (
  kR (runL pg f_ref_CheckGraph_l1 ⟨[(1, .ptr false 0 0), (3, I 0)], [[I x0_0, (degr1 v0_1)]], gh2⟩) (fun e s => nx e s (fun e s => some (e, s)) fun s => kR (runL pg f_ref_CheckGraph_k1 s) (fun e s => some (e, s)))))))
theorem D_ref_CheckGraph_0_ok {x0_0 : Int} {v0_1 : PV} (h : D_ref_CheckGraph_0 pg x0_0 v0_1 gh = some (e, s)) : runL pg f_ref_CheckGraph_0 ⟨[(0, .agg [I x0_0, v0_1])], [], gh⟩ = some (e, s) :=
  runX_ok an_ref_CheckGraph (Eq.trans (by kernel_rfl) h)
end
end Go.Lw
end

/-! What the code of function ref_AndAt comes to, piece by piece. Written by program (dprint.py). -/
section
set_option maxRecDepth 10000
set_option maxHeartbeats 4000000
namespace Go.Lw
open Go
noncomputable section
variable {pg : Prg} {gh : List GObj} {e : IExit} {s : St}
def an_ref_AndAt : Tr := (tI 11 (tI 7 (.node 2 (.agg [.int .i64, .int .i64]) (tI 1 (.node 0 (.agg [.int .i64, .any]) .nil .nil) .nil) (uI 6)) (tI 9 (uI 8) (uB 10))) (.node 17 (.agg [.int .i64, .int .i64]) (tO 14 (uI 12) (uI 15)) (tB 19 (.node 18 (.agg [.int .i64, .int .i64]) .nil .nil) (uI 20))))
def D_ref_AndAt_b1 (pg : Prg) (x1 x7 xc0_0 : Int) (vc0_1 : PV) (xc1_0 xc1_1 : Int) (gh : List GObj) : DR :=
  br 10 (decide (x7 < x1)) (isC (degr vc0_1) (
  idX 2 none (degr (degr vc0_1)) x7 fun p1 =>
  ldX [[I xc0_0, vc0_1], [I xc1_0, I xc1_1]] gh true 2 (degr p1) fun v2 => unA 2 v2 fun c3 c4 => unI .i64 c3 fun n5 => unI .i64 c4 fun n6 => ob (flatEq [false, false] [I n5, I n6] [I xc1_0, I xc1_1]) fun b7 =>
  br 19 b7 (some (.ret, ⟨[(6, I x7)], [], gh⟩)) (some (.normal, ⟨[(1, I x1), (3, .ptr false 0 0), (5, .ptr false 1 0), (7, (I (IntKind.i64.wrap (x7 + 1))))], [[I xc0_0, vc0_1], [I xc1_0, I xc1_1]], gh⟩)))) (some ((.exit 0), ⟨[(1, I x1), (3, .ptr false 0 0), (5, .ptr false 1 0), (7, I x7), (10, (B (decide (x7 < x1))))], [[I xc0_0, vc0_1], [I xc1_0, I xc1_1]], gh⟩))
theorem D_ref_AndAt_b1_ok {x1 x7 xc0_0 : Int} {vc0_1 : PV} {xc1_0 xc1_1 : Int} (h : D_ref_AndAt_b1 pg x1 x7 xc0_0 vc0_1 xc1_0 xc1_1 gh = some (e, s)) : runL pg f_ref_AndAt_b1 ⟨[(1, I x1), (3, .ptr false 0 0), (5, .ptr false 1 0), (7, I x7)], [[I xc0_0, vc0_1], [I xc1_0, I xc1_1]], gh⟩ = some (e, s) :=
  runX_ok an_ref_AndAt (Eq.trans (by kernel_rfl) h)
def D_ref_AndAt_k1 (pg : Prg)  (gh : List GObj) : DR := some (.ret, ⟨[(6, (I (-1)))], [], gh⟩)
theorem D_ref_AndAt_k1_ok  (h : D_ref_AndAt_k1 pg  gh = some (e, s)) : runL pg f_ref_AndAt_k1 ⟨[], [], gh⟩ = some (e, s) :=
  runX_ok an_ref_AndAt (Eq.trans (by kernel_rfl) h)
def D_ref_AndAt_0 (pg : Prg) (x0_0 : Int) (v0_1 : PV) (x1 x2_0 x2_1 : Int) (gh : List GObj) : DR := onK (degr1 v0_1) (
  kR (runL pg f_ref_AndAt_l1 ⟨[(1, I x1), (3, .ptr false 0 0), (5, .ptr false 1 0), (7, I 0)], [[I x0_0, (degr1 v0_1)], [I x2_0, I x2_1]], gh⟩) (fun e s => nx e s (fun e s => some (e, s)) fun s => kR (runL pg f_ref_AndAt_k1 s) (fun e s => some (e, s))))
theorem D_ref_AndAt_0_ok {x0_0 : Int} {v0_1 : PV} {x1 x2_0 x2_1 : Int} (h : D_ref_AndAt_0 pg x0_0 v0_1 x1 x2_0 x2_1 gh = some (e, s)) : runL pg f_ref_AndAt_0 ⟨[(0, .agg [I x0_0, v0_1]), (1, I x1), (2, .agg [I x2_0, I x2_1])], [], gh⟩ = some (e, s) :=
  runX_ok an_ref_AndAt (Eq.trans (by kernel_rfl) h)
end
end Go.Lw
end

/-! What the code of function ref_IsLit comes to, piece by piece. Written by program (dprint.py). -/
section
set_option maxRecDepth 10000
set_option maxHeartbeats 4000000
namespace Go.Lw
open Go
noncomputable section
variable {pg : Prg} {gh : List GObj} {e : IExit} {s : St}
def an_ref_IsLit : Tr := (tO 10 (tI 5 (tI 1 (.node 0 (.agg [.int .i64, .any]) .nil .nil) (uB 4)) (tI 8 (uI 7) .nil)) (tI 13 (tI 12 (uI 11) .nil) (tB 15 (uI 14) .nil)))
def D_ref_IsLit_0 (pg : Prg) (x0_0 : Int) (v0_1 : PV) (x1 : Int) (gh : List GObj) : DR := onK (degr1 v0_1) (isC (degr (degr1 v0_1)) (lenS (degr (degr (degr1 v0_1))) fun n1 =>
  callR gh true (callL pg 50 [I x1, I 0, (I (IntKind.i64.wrap ((IntKind.i64.wrap (2 * (IntKind.i64.wrap ((IntKind.i64.wrap (1 + x0_0)) + (n1 : Int))))) - 1)))] gh) fun r2 gh3 => unB r2 fun b4 => some (.ret, ⟨[(4, B b4)], [], gh3⟩)))
theorem D_ref_IsLit_0_ok {x0_0 : Int} {v0_1 : PV} {x1 : Int} (h : D_ref_IsLit_0 pg x0_0 v0_1 x1 gh = some (e, s)) : runL pg f_ref_IsLit_0 ⟨[(0, .agg [I x0_0, v0_1]), (1, I x1)], [], gh⟩ = some (e, s) :=
  runX_ok an_ref_IsLit (Eq.trans (by kernel_rfl) h)
end
end Go.Lw
end

/-! What the code of function blast_Check comes to, piece by piece. Written by program (dprint.py). -/
section
set_option maxRecDepth 10000
set_option maxHeartbeats 4000000
namespace Go.Lw
open Go
noncomputable section
variable {pg : Prg} {gh : List GObj} {e : IExit} {s : St}
def an_blast_Check : Tr := (tB 31 (tB 14 (tI 7 (tI 3 (tI 2 (.node 0 (.agg [.int .i64, .any, .int .i64, .int .i64, .any, .any, .any, .any]) .nil .nil) .nil) (.node 6 (.agg [.int .i64, .any]) (uO 4) .nil)) (tI 10 (tB 9 (uI 8) .nil) (tI 13 (uB 11) .nil))) (tI 22 (tB 18 (tI 17 (uB 15) .nil) (tB 20 (uB 19) .nil)) (tI 28 (tI 25 (uI 24) .nil) (tB 30 (uB 29) .nil)))) (tO 48 (tO 40 (tI 36 (tI 34 (uO 33) .nil) (tB 38 (uB 37) .nil)) (tB 44 (tI 43 (uI 41) .nil) (tO 47 (uB 45) .nil))) (tO 58 (tO 52 (.node 51 (.agg [.int .i64, .any]) (uO 49) .nil) (tO 56 (uO 54) .nil)) (tB 61 (tO 60 (uO 59) .nil) (uB 62)))))
def D_blast_Check_0 (pg : Prg) (x0_0 : Int) (v0_1 : PV) (x0_2 x0_3 : Int) (v0_4 v0_5 : PV) (v0_6 v0_7 : PV) (gh : List GObj) : DR := onK (degr1 v0_1) (onK (degr1 v0_4) (onK (degr1 v0_5) (onK (degr1 v0_6) (onK (degr1 v0_7) (onK (degr1 (degr1 (degr1 v0_1))) (
  callR gh true (callL pg 6 [(.agg [I x0_0, (degr1 (degr1 (degr1 v0_1)))])] gh) fun r1 gh2 => unI .i64 r1 fun n3 =>
  br 9 (n3 != 0) (some (.ret, ⟨[(2, I n3)], [], gh2⟩)) (
  br 15 (decide (x0_2 < 0)) (some (.ret, ⟨[(2, I 4)], [], gh2⟩)) (
  br 20 (decide (x0_3 < 0)) (some (.ret, ⟨[(2, I 4)], [], gh2⟩)) (
  br 11 ((IntKind.i64.wrap (x0_2 + x0_3)) != x0_0) (some (.ret, ⟨[(2, I 4)], [], gh2⟩)) (isC (degr (degr1 v0_4)) (lenS (degr (degr (degr1 v0_4))) fun n4 =>
  br 38 ((n4 : Int) != x0_3) (some (.ret, ⟨[(2, I 1)], [], gh2⟩)) (isC (degr (degr1 v0_5)) (lenS (degr (degr (degr1 v0_5))) fun n5 =>
  br 31 ((n5 : Int) != x0_3) (some (.ret, ⟨[(2, I 1)], [], gh2⟩)) (isC (degr (degr1 v0_4)) (arK (degr (degr (degr1 v0_4))) (
  callR gh2 false (callL pg 121 [(degr (degr (degr1 v0_4)))] gh2) fun r6 gh7 => isC r6 (arK (degr r6) (
  callR gh7 false (callL pg 343 [(degr r6), .fn 215 []] gh7) fun r8 gh9 => isC r8 (stK 1 r8 (isC (degr r8) (isC (degr (degr1 v0_5)) (isC (degr (degr1 v0_6)) (isC (degr (degr1 v0_7)) (arK (degr (degr r8)) (lnK 1 (degr (degr r8)) (arK (degr (degr (degr1 v0_5))) (lnK 1 (degr (degr (degr1 v0_5))) (arK (degr (degr (degr1 v0_6))) (lnK 1 (degr (degr (degr1 v0_6))) (arK (degr (degr (degr1 v0_7))) (lnK 1 (degr (degr (degr1 v0_7))) (
  callR gh9 false (callL pg 344 [(.sl false 1 [(degr (degr r8)), (degr (degr (degr1 v0_5))), (degr (degr (degr1 v0_6))), (degr (degr (degr1 v0_7)))])] gh9) fun r10 gh11 => isC r10 (onK (degr1 (degr1 (degr1 v0_1))) (arK (degr r10) (
  callR gh11 true (callL pg 47 [(.agg [I x0_0, (degr1 (degr1 (degr1 v0_1)))]), (degr r10)] gh11) fun r12 gh13 => unB r12 fun b14 =>
  br 62 (!b14) (some (.ret, ⟨[(2, I 5)], [], gh13⟩)) (some (.ret, ⟨[(2, I 0)], [], gh13⟩)))))))))))))))))))))))))))))))))))))
theorem D_blast_Check_0_ok {x0_0 : Int} {v0_1 : PV} {x0_2 x0_3 : Int} {v0_4 v0_5 : PV} {v0_6 v0_7 : PV} (h : D_blast_Check_0 pg x0_0 v0_1 x0_2 x0_3 v0_4 v0_5 v0_6 v0_7 gh = some (e, s)) : runL pg f_blast_Check_0 ⟨[(0, .agg [I x0_0, v0_1, I x0_2, I x0_3, v0_4, v0_5, v0_6, v0_7])], [], gh⟩ = some (e, s) :=
  runX_ok an_blast_Check (Eq.trans (by kernel_rfl) h)
end
end Go.Lw
end

/-! What the code of function blast_Check_1 comes to, piece by piece. Written by program (dprint.py). -/
section
set_option maxRecDepth 10000
set_option maxHeartbeats 4000000
namespace Go.Lw
open Go
noncomputable section
variable {pg : Prg} {gh : List GObj} {e : IExit} {s : St}
def an_blast_Check_1 : Tr := (tI 3 (tB 2 (uI 0) .nil) (uB 4))
def D_blast_Check_1_0 (pg : Prg) (x0 : Int) (gh : List GObj) : DR := some (.ret, ⟨[(2, (B (x0 == (-1))))], [], gh⟩)
theorem D_blast_Check_1_0_ok {x0 : Int} (h : D_blast_Check_1_0 pg x0 gh = some (e, s)) : runL pg f_blast_Check_1_0 ⟨[(0, I x0)], [], gh⟩ = some (e, s) :=
  runX_ok an_blast_Check_1 (Eq.trans (by kernel_rfl) h)
end
end Go.Lw
end

/-! What the code of function slices_DeleteFunc_Lint_int_K comes to, piece by piece. Written by program (dprint.py). -/
section
set_option maxRecDepth 10000
set_option maxHeartbeats 4000000
namespace Go.Lw
open Go
noncomputable section
variable {pg : Prg} {gh : List GObj} {e : IExit} {s : St}
def an_slices_DeleteFunc_Lint_int_K : Tr := (tI 21 (tI 11 (tI 6 (tO 4 (tO 1 (uO 0) .nil) (uI 5)) (tO 9 (tO 8 (uI 7) .nil) (uI 10))) (tI 16 (tI 14 (tO 13 (uB 12) .nil) (uI 15)) (tB 19 (tI 18 (uO 17) .nil) (uI 20)))) (tI 32 (tI 27 (tI 25 (tI 23 (uO 22) .nil) (uO 26)) (tO 30 (tB 29 (uB 28) .nil) (uI 31))) (tO 38 (tO 36 (tI 35 (uI 34) .nil) (uI 37)) (tI 40 (uO 39) (uO 41)))))
def D_slices_DeleteFunc_Lint_int_K_k1 (pg : Prg) (v0 v1 : PV) (x5 x6 : Int) (gh : List GObj) : DR := stK 0 v0 (stK 0 v1 (some (.normal, ⟨[(0, v0), (1, v1), (5, I x5), (6, (I (IntKind.i64.wrap (x6 + 1))))], [], gh⟩)))
theorem D_slices_DeleteFunc_Lint_int_K_k1_ok {v0 v1 : PV} {x5 x6 : Int} (h : D_slices_DeleteFunc_Lint_int_K_k1 pg v0 v1 x5 x6 gh = some (e, s)) : runL pg f_slices_DeleteFunc_Lint_int_K_k1 ⟨[(0, v0), (1, v1), (5, I x5), (6, I x6)], [], gh⟩ = some (e, s) :=
  runX_ok an_slices_DeleteFunc_Lint_int_K (Eq.trans (by kernel_rfl) h)
def D_slices_DeleteFunc_Lint_int_K_b1 (pg : Prg) (v0 v1 : PV) (x5 x6 : Int) (gh : List GObj) : DR := isC (degr v0) (lenS (degr (degr v0)) fun n1 => stK 0 v0 (stK 0 v1 (
  br 19 (decide (x6 < (n1 : Int))) (isC (degr v0) (
  idX 1 none (degr (degr v0)) x6 fun p2 =>
  lkK gh (degr p2) fun v3 => unI .i64 v3 fun n4 => stK 0 v0 (stK 0 v1 (isC (degr v1) (
  fnX (degr (degr v1)) fun f7 cs8 => allK cs8 (callR gh true (callL pg f7 ([I n4] ++ cs8) gh) fun r5 gh6 => unB r5 fun b9 => stK 0 v0 (stK 0 v1 (
  br 29 (!b9) (isC (degr v0) (
  idX 1 none (degr (degr v0)) x5 fun p10 =>
  skK gh6 (degr p10) (I n4) fun gh11 => stK 0 v0 (stK 0 v1 (stK 0 v0 (stK 0 v1 (stK 0 v0 (stK 0 v1 (
  kR (runL pg f_slices_DeleteFunc_Lint_int_K_k1 ⟨[(0, v0), (1, v1), (5, (I (IntKind.i64.wrap (x5 + 1)))), (6, I x6)], [], gh11⟩) (fun e s => po [0, 1, 5, 6] 0 e s (fun e s => some (e, s))))))))))) (stK 0 v0 (stK 0 v1 (
  kR (runL pg f_slices_DeleteFunc_Lint_int_K_k1 ⟨[(0, v0), (1, v1), (5, I x5), (6, I x6)], [], gh6⟩) (fun e s => po [0, 1, 5, 6] 0 e s (fun e s => some (e, s)))))))))))))) (some ((.exit 0), ⟨[(0, v0), (1, v1), (5, I x5), (6, I x6), (19, (B (decide (x6 < (n1 : Int)))))], [], gh⟩)))))
theorem D_slices_DeleteFunc_Lint_int_K_b1_ok {v0 v1 : PV} {x5 x6 : Int} (h : D_slices_DeleteFunc_Lint_int_K_b1 pg v0 v1 x5 x6 gh = some (e, s)) : runL pg f_slices_DeleteFunc_Lint_int_K_b1 ⟨[(0, v0), (1, v1), (5, I x5), (6, I x6)], [], gh⟩ = some (e, s) :=
  runX_ok an_slices_DeleteFunc_Lint_int_K (Eq.trans (by kernel_rfl) h)
def D_slices_DeleteFunc_Lint_int_K_k2 (pg : Prg) (v0 : PV) (x5 : Int) (gh : List GObj) : DR := isC (degr v0) (
  slX 1 (degr (degr v0)) (some x5) none fun v1 => isC v1 (
  ckK gh (degr v1) fun gh2 => stK 0 v0 (isC (degr v0) (
  slX 1 (degr (degr v0)) none (some x5) fun v3 => isC v3 (stK 0 v3 (some (.ret, ⟨[(4, v3)], [], gh2⟩)))))))
theorem D_slices_DeleteFunc_Lint_int_K_k2_ok {v0 : PV} {x5 : Int} (h : D_slices_DeleteFunc_Lint_int_K_k2 pg v0 x5 gh = some (e, s)) : runL pg f_slices_DeleteFunc_Lint_int_K_k2 ⟨[(0, v0), (5, I x5)], [], gh⟩ = some (e, s) :=
  runX_ok an_slices_DeleteFunc_Lint_int_K (Eq.trans (by kernel_rfl) h)
def D_slices_DeleteFunc_Lint_int_K_0 (pg : Prg) (v0 v1 : PV) (gh : List GObj) : DR := stK 0 v0 (stK 0 v1 (isC (degr v0) (isC (degr v1) (arK (degr (degr v0)) (arK (degr (degr v1)) (
  callR gh false (callL pg 208 [(degr (degr v0)), (degr (degr v1))] gh) fun r1 gh2 => unI .i64 r1 fun n3 => stK 0 v0 (stK 0 v1 (stK 0 v0 (stK 0 v1 (
  br 12 (n3 == (-1)) (isC (degr v0) (stK 0 (degr v0) (some (.ret, ⟨[(4, (degr v0))], [], gh2⟩)))) (stK 0 v0 (stK 0 v1 (
  kR (runL pg f_slices_DeleteFunc_Lint_int_K_l1 ⟨[(0, v0), (1, v1), (5, I n3), (6, (I (IntKind.i64.wrap (n3 + 1))))], [], gh2⟩) (fun e s => nx e s (fun e s => some (e, s)) fun s => kR (runL pg f_slices_DeleteFunc_Lint_int_K_k2 s) (fun e s => some (e, s))))))))))))))))
theorem D_slices_DeleteFunc_Lint_int_K_0_ok {v0 v1 : PV} (h : D_slices_DeleteFunc_Lint_int_K_0 pg v0 v1 gh = some (e, s)) : runL pg f_slices_DeleteFunc_Lint_int_K_0 ⟨[(0, v0), (1, v1)], [], gh⟩ = some (e, s) :=
  runX_ok an_slices_DeleteFunc_Lint_int_K (Eq.trans (by kernel_rfl) h)
end
end Go.Lw
end

/-! What the code of function slices_Concat_Lint_int_K comes to, piece by piece. Written by program (dprint.py). -/
section
set_option maxRecDepth 10000
set_option maxHeartbeats 4000000
namespace Go.Lw
open Go
noncomputable section
variable {pg : Prg} {gh : List GObj} {e : IExit} {s : St}
def an_slices_Concat_Lint_int_K : Tr := (tI 19 (tI 10 (tO 5 (tO 2 (uO 0) (uI 3)) (tO 8 (uO 6) (uO 9))) (tI 15 (tB 12 (uI 11) (uO 14)) (tI 17 (uO 16) (uI 18)))) (tB 28 (tO 24 (tI 22 (uB 20) (uI 23)) (tI 26 (uO 25) (uI 27))) (tO 33 (tO 31 (uO 30) (uO 32)) (tO 35 (uI 34) .nil))))
def D_slices_Concat_Lint_int_K_b1 (pg : Prg) (v0 : PV) (x3 : Int) (v9 : PV) (x10 x11 : Int) (gh : List GObj) : DR :=
  br 12 (decide (x11 < x10)) (
  idX 1 none (degr v9) x11 fun p1 =>
  ldX [] gh false 1 (degr p1) fun v2 => isC v2 (stK 0 v0 (stK 0 v2 (stK 0 v9 (isC (degr v2) (lenS (degr (degr v2)) fun n3 => stK 0 v0 (stK 0 v9 (stK 0 v0 (stK 0 v9 (
  br 20 (decide ((IntKind.i64.wrap (x3 + (n3 : Int))) < 0)) (none) (stK 0 v0 (stK 0 v9 (stK 0 v0 (stK 0 v9 (some (.normal, ⟨[(0, v0), (3, (I (IntKind.i64.wrap (x3 + (n3 : Int))))), (9, v9), (10, I x10), (11, (I (IntKind.i64.wrap (x11 + 1))))], [], gh⟩)))))))))))))))) (some ((.exit 0), ⟨[(0, v0), (3, I x3), (9, v9), (10, I x10), (11, I x11), (12, (B (decide (x11 < x10))))], [], gh⟩))
theorem D_slices_Concat_Lint_int_K_b1_ok {v0 : PV} {x3 : Int} {v9 : PV} {x10 x11 : Int} (h : D_slices_Concat_Lint_int_K_b1 pg v0 x3 v9 x10 x11 gh = some (e, s)) : runL pg f_slices_Concat_Lint_int_K_b1 ⟨[(0, v0), (3, I x3), (9, v9), (10, I x10), (11, I x11)], [], gh⟩ = some (e, s) :=
  runX_ok an_slices_Concat_Lint_int_K (Eq.trans (by kernel_rfl) h)
def D_slices_Concat_Lint_int_K_b2 (pg : Prg) (v6 v25 : PV) (x26 x27 : Int) (gh : List GObj) : DR :=
  br 28 (decide (x27 < x26)) (
  idX 1 none (degr v25) x27 fun p1 =>
  ldX [] gh false 1 (degr p1) fun v2 => isC v2 (stK 0 v6 (stK 0 v2 (stK 0 v25 (isC (degr v2) (
  aeX gh 8 v6 (degr (degr v2)) fun l3 => stK 0 v25 (stK 0 v25 (stK 0 v25 (some (.normal, ⟨[(6, .sl true 1 l3), (25, v25), (26, I x26), (27, (I (IntKind.i64.wrap (x27 + 1))))], [], gh⟩)))))))))) (some ((.exit 2), ⟨[(6, v6), (25, v25), (26, I x26), (27, I x27), (28, (B (decide (x27 < x26))))], [], gh⟩))
theorem D_slices_Concat_Lint_int_K_b2_ok {v6 v25 : PV} {x26 x27 : Int} (h : D_slices_Concat_Lint_int_K_b2 pg v6 v25 x26 x27 gh = some (e, s)) : runL pg f_slices_Concat_Lint_int_K_b2 ⟨[(6, v6), (25, v25), (26, I x26), (27, I x27)], [], gh⟩ = some (e, s) :=
  runX_ok an_slices_Concat_Lint_int_K (Eq.trans (by kernel_rfl) h)
def D_slices_Concat_Lint_int_K_k2 (pg : Prg) (v6 : PV) (gh : List GObj) : DR := isC (degr v6) (stK 0 (degr v6) (some (.ret, ⟨[(2, (degr v6))], [], gh⟩)))
theorem D_slices_Concat_Lint_int_K_k2_ok {v6 : PV} (h : D_slices_Concat_Lint_int_K_k2 pg v6 gh = some (e, s)) : runL pg f_slices_Concat_Lint_int_K_k2 ⟨[(6, v6)], [], gh⟩ = some (e, s) :=
  runX_ok an_slices_Concat_Lint_int_K (Eq.trans (by kernel_rfl) h)
def D_slices_Concat_Lint_int_K_k1 (pg : Prg) (v0 : PV) (x3 : Int) (gh : List GObj) : DR :=
  callR gh true (callL pg 119 [.nils, I x3] gh) fun r1 gh2 => isC r1 (stK 0 v0 (stK 0 r1 (isC (degr v0) (lenS (degr (degr v0)) fun n3 => stK 0 r1 (stK 0 (degr v0) (
  kR (runL pg f_slices_Concat_Lint_int_K_l2 ⟨[(6, r1), (25, (degr v0)), (26, (I (n3 : Int))), (27, I 0)], [], gh2⟩) (fun e s => nx e s (fun e s => some (e, s)) fun s => kR (runL pg f_slices_Concat_Lint_int_K_k2 s) (fun e s => some (e, s)))))))))
theorem D_slices_Concat_Lint_int_K_k1_ok {v0 : PV} {x3 : Int} (h : D_slices_Concat_Lint_int_K_k1 pg v0 x3 gh = some (e, s)) : runL pg f_slices_Concat_Lint_int_K_k1 ⟨[(0, v0), (3, I x3)], [], gh⟩ = some (e, s) :=
  runX_ok an_slices_Concat_Lint_int_K (Eq.trans (by kernel_rfl) h)
def D_slices_Concat_Lint_int_K_0 (pg : Prg) (v0 : PV) (gh : List GObj) : DR := stK 0 v0 (isC (degr v0) (lenS (degr (degr v0)) fun n1 => stK 0 v0 (stK 0 (degr v0) (
  kR (runL pg f_slices_Concat_Lint_int_K_l1 ⟨[(0, v0), (3, I 0), (9, (degr v0)), (10, (I (n1 : Int))), (11, I 0)], [], gh⟩) (fun e s => nx e s (fun e s => some (e, s)) fun s => kR (runL pg f_slices_Concat_Lint_int_K_k1 s) (fun e s => some (e, s)))))))
theorem D_slices_Concat_Lint_int_K_0_ok {v0 : PV} (h : D_slices_Concat_Lint_int_K_0 pg v0 gh = some (e, s)) : runL pg f_slices_Concat_Lint_int_K_0 ⟨[(0, v0)], [], gh⟩ = some (e, s) :=
  runX_ok an_slices_Concat_Lint_int_K (Eq.trans (by kernel_rfl) h)
end
end Go.Lw
end

/-! What the code of function slices_IndexFunc_Lint_int_K comes to, piece by piece. Written by program (dprint.py). -/
section
set_option maxRecDepth 10000
set_option maxHeartbeats 4000000
namespace Go.Lw
open Go
noncomputable section
variable {pg : Prg} {gh : List GObj} {e : IExit} {s : St}
def an_slices_IndexFunc_Lint_int_K : Tr := (tI 10 (tO 6 (tI 4 (tO 1 (uO 0) .nil) (uI 5)) (tI 8 (uI 7) (uB 9))) (tI 15 (tO 12 (uO 11) (uI 13)) (tI 17 (uB 16) (uI 18))))
def D_slices_IndexFunc_Lint_int_K_b1 (pg : Prg) (v0 v1 : PV) (x7 x8 : Int) (gh : List GObj) : DR :=
  br 9 (decide (x8 < x7)) (stK 0 v0 (stK 0 v1 (isC (degr v1) (isC (degr v0) (
  idX 1 none (degr (degr v0)) x8 fun p1 =>
  lkK gh (degr p1) fun v2 => unI .i64 v2 fun n3 =>
  fnX (degr (degr v1)) fun f6 cs7 => allK cs7 (callR gh true (callL pg f6 ([I n3] ++ cs7) gh) fun r4 gh5 => unB r4 fun b8 => stK 0 v0 (stK 0 v1 (
  br 16 b8 (some (.ret, ⟨[(4, I x8)], [], gh5⟩)) (stK 0 v0 (stK 0 v1 (stK 0 v0 (stK 0 v1 (some (.normal, ⟨[(0, v0), (1, v1), (7, I x7), (8, (I (IntKind.i64.wrap (x8 + 1))))], [], gh5⟩)))))))))))))) (some ((.exit 0), ⟨[(0, v0), (1, v1), (7, I x7), (8, I x8), (9, (B (decide (x8 < x7))))], [], gh⟩))
theorem D_slices_IndexFunc_Lint_int_K_b1_ok {v0 v1 : PV} {x7 x8 : Int} (h : D_slices_IndexFunc_Lint_int_K_b1 pg v0 v1 x7 x8 gh = some (e, s)) : runL pg f_slices_IndexFunc_Lint_int_K_b1 ⟨[(0, v0), (1, v1), (7, I x7), (8, I x8)], [], gh⟩ = some (e, s) :=
  runX_ok an_slices_IndexFunc_Lint_int_K (Eq.trans (by kernel_rfl) h)
def D_slices_IndexFunc_Lint_int_K_k1 (pg : Prg)  (gh : List GObj) : DR := some (.ret, ⟨[(4, (I (-1)))], [], gh⟩)
theorem D_slices_IndexFunc_Lint_int_K_k1_ok  (h : D_slices_IndexFunc_Lint_int_K_k1 pg  gh = some (e, s)) : runL pg f_slices_IndexFunc_Lint_int_K_k1 ⟨[], [], gh⟩ = some (e, s) :=
  runX_ok an_slices_IndexFunc_Lint_int_K (Eq.trans (by kernel_rfl) h)
def D_slices_IndexFunc_Lint_int_K_0 (pg : Prg) (v0 v1 : PV) (gh : List GObj) : DR := stK 0 v0 (stK 0 v1 (isC (degr v0) (lenS (degr (degr v0)) fun n1 => stK 0 v0 (stK 0 v1 (
  kR (runL pg f_slices_IndexFunc_Lint_int_K_l1 ⟨[(0, v0), (1, v1), (7, (I (n1 : Int))), (8, I 0)], [], gh⟩) (fun e s => nx e s (fun e s => some (e, s)) fun s => kR (runL pg f_slices_IndexFunc_Lint_int_K_k1 s) (fun e s => some (e, s))))))))
theorem D_slices_IndexFunc_Lint_int_K_0_ok {v0 v1 : PV} (h : D_slices_IndexFunc_Lint_int_K_0 pg v0 v1 gh = some (e, s)) : runL pg f_slices_IndexFunc_Lint_int_K_0 ⟨[(0, v0), (1, v1)], [], gh⟩ = some (e, s) :=
  runX_ok an_slices_IndexFunc_Lint_int_K (Eq.trans (by kernel_rfl) h)
end
end Go.Lw
end

/-! What the code of function ref_AreLits comes to, piece by piece. Written by program (dprint.py). -/
section
set_option maxRecDepth 10000
set_option maxHeartbeats 4000000
namespace Go.Lw
open Go
noncomputable section
variable {pg : Prg} {gh : List GObj} {e : IExit} {s : St}
def an_ref_AreLits : Tr := (tI 10 (tI 6 (tB 4 (tO 1 (.node 0 (.agg [.int .i64, .any]) .nil .nil) .nil) (uI 5)) (tI 8 (uO 7) (uB 9))) (tI 14 (.node 12 (.agg [.int .i64, .any]) (uI 11) (uO 13)) (tB 17 (uI 16) (uB 18))))
def D_ref_AreLits_b1 (pg : Prg) (v1 : PV) (x5 xc0_0 : Int) (vc0_1 : PV) (gh : List GObj) : DR := isC (degr v1) (lenS (degr (degr v1)) fun n1 => stK 1 v1 (
  br 9 (decide (x5 < (n1 : Int))) (isC (degr v1) (
  idX 1 none (degr (degr v1)) x5 fun p2 =>
  ldX [[I xc0_0, vc0_1]] gh false 1 (degr p2) fun v3 => unI .i64 v3 fun n4 => onK (degr1 (degr1 vc0_1)) (
  callR gh true (callL pg 3 [(.agg [I xc0_0, (degr1 (degr1 vc0_1))]), I n4] gh) fun r5 gh6 => unB r5 fun b7 => stK 1 v1 (
  br 18 (!b7) (some (.ret, ⟨[(4, B false)], [], gh6⟩)) (stK 1 v1 (stK 1 v1 (some (.normal, ⟨[(1, v1), (2, .ptr false 0 0), (5, (I (IntKind.i64.wrap (x5 + 1))))], [[I xc0_0, vc0_1]], gh6⟩)))))))) (some ((.exit 0), ⟨[(1, v1), (2, .ptr false 0 0), (5, I x5), (9, (B (decide (x5 < (n1 : Int)))))], [[I xc0_0, vc0_1]], gh⟩))))
theorem D_ref_AreLits_b1_ok {v1 : PV} {x5 xc0_0 : Int} {vc0_1 : PV} (h : D_ref_AreLits_b1 pg v1 x5 xc0_0 vc0_1 gh = some (e, s)) : runL pg f_ref_AreLits_b1 ⟨[(1, v1), (2, .ptr false 0 0), (5, I x5)], [[I xc0_0, vc0_1]], gh⟩ = some (e, s) :=
  runX_ok an_ref_AreLits (Eq.trans (by kernel_rfl) h)
def D_ref_AreLits_k1 (pg : Prg)  (gh : List GObj) : DR := some (.ret, ⟨[(4, B true)], [], gh⟩)
theorem D_ref_AreLits_k1_ok  (h : D_ref_AreLits_k1 pg  gh = some (e, s)) : runL pg f_ref_AreLits_k1 ⟨[], [], gh⟩ = some (e, s) :=
  runX_ok an_ref_AreLits (Eq.trans (by kernel_rfl) h)
def D_ref_AreLits_0 (pg : Prg) (x0_0 : Int) (v0_1 v1 : PV) (gh : List GObj) : DR := onK (degr1 v0_1) (stK 1 v1 (stK 1 v1 (
  kR (runL pg f_ref_AreLits_l1 ⟨[(1, v1), (2, .ptr false 0 0), (5, I 0)], [[I x0_0, (degr1 v0_1)]], gh⟩) (fun e s => nx e s (fun e s => some (e, s)) fun s => kR (runL pg f_ref_AreLits_k1 s) (fun e s => some (e, s))))))
theorem D_ref_AreLits_0_ok {x0_0 : Int} {v0_1 v1 : PV} (h : D_ref_AreLits_0 pg x0_0 v0_1 v1 gh = some (e, s)) : runL pg f_ref_AreLits_0 ⟨[(0, .agg [I x0_0, v0_1]), (1, v1)], [], gh⟩ = some (e, s) :=
  runX_ok an_ref_AreLits (Eq.trans (by kernel_rfl) h)
end
end Go.Lw
end

/-! What the code of function ref_CheckCircuit comes to, piece by piece. Written by program (dprint.py). -/
section
set_option maxRecDepth 10000
set_option maxHeartbeats 4000000
namespace Go.Lw
open Go
noncomputable section
variable {pg : Prg} {gh : List GObj} {e : IExit} {s : St}
def an_ref_CheckCircuit : Tr := (tO 46 (tI 21 (tI 10 (.node 6 (.agg [.int .i64, .any]) (tI 3 (tI 2 (.node 0 (.agg [.int .i64, .any, .int .i64, .int .i64, .any, .any, .any, .any]) .nil .nil) .nil) (uI 4)) (tI 8 (uI 7) (uB 9))) (tI 16 (tB 13 (uI 12) (uB 14)) (tB 18 (uB 17) (uB 19)))) (tB 35 (tB 29 (tI 27 (tI 24 (uI 23) .nil) (uB 28)) (tI 32 (uO 31) (uI 34))) (tI 41 (tO 38 (uB 36) (uI 39)) (tB 43 (uB 42) (uI 44))))) (.node 69 (.agg [.int .i64, .any]) (tB 57 (tO 52 (tI 49 (tB 48 (uI 47) .nil) (uI 50)) (tI 55 (uI 53) (uB 56))) (tI 64 (tO 61 (.node 59 (.agg [.int .i64, .any]) .nil .nil) (uI 62)) (tB 66 (uB 65) (uB 67)))) (tB 80 (tB 74 (tB 72 (uO 71) (uB 73)) (tO 78 (.node 76 (.agg [.int .i64, .any]) .nil .nil) (uB 79))) (tO 86 (tB 82 (uB 81) (.node 84 (.agg [.int .i64, .any]) .nil .nil)) (tB 88 (uB 87) (uB 89))))))
def D_ref_CheckCircuit_b1 (pg : Prg) (x4 xc0_0 : Int) (vc0_1 : PV) (xc0_2 xc0_3 : Int) (vc0_4 vc0_5 : PV) (vc0_6 vc0_7 : PV) (gh : List GObj) : DR := isC (degr vc0_4) (lenS (degr (degr vc0_4)) fun n1 =>
  br 48 (decide (x4 < (n1 : Int))) (isC (degr vc0_4) (
  idX 1 none (degr (degr vc0_4)) x4 fun p2 =>
  ldX [[I xc0_0, vc0_1, I xc0_2, I xc0_3, vc0_4, vc0_5, vc0_6, vc0_7]] gh false 1 (degr p2) fun v3 => unI .i64 v3 fun n4 =>
  br 57 (n4 != (-1)) (isC (degr vc0_4) (
  idX 1 none (degr (degr vc0_4)) x4 fun p5 =>
  ldX [[I xc0_0, vc0_1, I xc0_2, I xc0_3, vc0_4, vc0_5, vc0_6, vc0_7]] gh false 1 (degr p5) fun v6 => unI .i64 v6 fun n7 => onK (degr1 (degr1 vc0_1)) (
  callR gh true (callL pg 3 [(.agg [I xc0_0, (degr1 (degr1 vc0_1))]), I n7] gh) fun r8 gh9 => unB r8 fun b10 =>
  br 67 (!b10) (some (.ret, ⟨[(2, I 5)], [], gh9⟩)) (some (.normal, ⟨[(1, .ptr false 0 0), (4, (I (IntKind.i64.wrap (x4 + 1))))], [[I xc0_0, vc0_1, I xc0_2, I xc0_3, vc0_4, vc0_5, vc0_6, vc0_7]], gh9⟩))))) (some (.normal, ⟨[(1, .ptr false 0 0), (4, (I (IntKind.i64.wrap (x4 + 1))))], [[I xc0_0, vc0_1, I xc0_2, I xc0_3, vc0_4, vc0_5, vc0_6, vc0_7]], gh⟩)))) (some ((.exit 0), ⟨[(1, .ptr false 0 0), (4, I x4), (48, (B (decide (x4 < (n1 : Int)))))], [[I xc0_0, vc0_1, I xc0_2, I xc0_3, vc0_4, vc0_5, vc0_6, vc0_7]], gh⟩)))
theorem D_ref_CheckCircuit_b1_ok {x4 xc0_0 : Int} {vc0_1 : PV} {xc0_2 xc0_3 : Int} {vc0_4 vc0_5 : PV} {vc0_6 vc0_7 : PV} (h : D_ref_CheckCircuit_b1 pg x4 xc0_0 vc0_1 xc0_2 xc0_3 vc0_4 vc0_5 vc0_6 vc0_7 gh = some (e, s)) : runL pg f_ref_CheckCircuit_b1 ⟨[(1, .ptr false 0 0), (4, I x4)], [[I xc0_0, vc0_1, I xc0_2, I xc0_3, vc0_4, vc0_5, vc0_6, vc0_7]], gh⟩ = some (e, s) :=
  runX_ok an_ref_CheckCircuit (Eq.trans (by kernel_rfl) h)
def D_ref_CheckCircuit_k1 (pg : Prg) (xc0_0 : Int) (vc0_1 : PV) (xc0_2 xc0_3 : Int) (vc0_4 vc0_5 : PV) (vc0_6 vc0_7 : PV) (gh : List GObj) : DR := isC (degr vc0_5) (onK (degr1 (degr1 vc0_1)) (arK (degr (degr vc0_5)) (
  callR gh true (callL pg 10 [(.agg [I xc0_0, (degr1 (degr1 vc0_1))]), (degr (degr vc0_5))] gh) fun r1 gh2 => unB r1 fun b3 =>
  br 74 (!b3) (some (.ret, ⟨[(2, I 5)], [], gh2⟩)) (isC (degr vc0_6) (onK (degr1 (degr1 vc0_1)) (arK (degr (degr vc0_6)) (
  callR gh2 true (callL pg 10 [(.agg [I xc0_0, (degr1 (degr1 vc0_1))]), (degr (degr vc0_6))] gh2) fun r4 gh5 => unB r4 fun b6 =>
  br 82 (!b6) (some (.ret, ⟨[(2, I 5)], [], gh5⟩)) (isC (degr vc0_7) (onK (degr1 (degr1 vc0_1)) (arK (degr (degr vc0_7)) (
  callR gh5 true (callL pg 10 [(.agg [I xc0_0, (degr1 (degr1 vc0_1))]), (degr (degr vc0_7))] gh5) fun r7 gh8 => unB r7 fun b9 =>
  br 89 (!b9) (some (.ret, ⟨[(2, I 5)], [], gh8⟩)) (some (.ret, ⟨[(2, I 0)], [], gh8⟩)))))))))))))
theorem D_ref_CheckCircuit_k1_ok {xc0_0 : Int} {vc0_1 : PV} {xc0_2 xc0_3 : Int} {vc0_4 vc0_5 : PV} {vc0_6 vc0_7 : PV} (h : D_ref_CheckCircuit_k1 pg xc0_0 vc0_1 xc0_2 xc0_3 vc0_4 vc0_5 vc0_6 vc0_7 gh = some (e, s)) : runL pg f_ref_CheckCircuit_k1 ⟨[(1, .ptr false 0 0)], [[I xc0_0, vc0_1, I xc0_2, I xc0_3, vc0_4, vc0_5, vc0_6, vc0_7]], gh⟩ = some (e, s) :=
  runX_ok an_ref_CheckCircuit (Eq.trans (by kernel_rfl) h)
def D_ref_CheckCircuit_0 (pg : Prg) (x0_0 : Int) (v0_1 : PV) (x0_2 x0_3 : Int) (v0_4 v0_5 : PV) (v0_6 v0_7 : PV) (gh : List GObj) : DR := onK (degr1 v0_1) (onK (degr1 v0_4) (onK (degr1 v0_5) (onK (degr1 v0_6) (onK (degr1 v0_7) (onK (degr1 (degr1 (degr1 v0_1))) (
  callR gh true (callL pg 2 [(.agg [I x0_0, (degr1 (degr1 (degr1 v0_1)))])] gh) fun r1 gh2 => unI .i64 r1 fun n3 =>
  br 9 (n3 != 0) (some (.ret, ⟨[(2, I n3)], [], gh2⟩)) (
  br 14 (decide (x0_2 < 0)) (some (.ret, ⟨[(2, I 4)], [], gh2⟩)) (
  br 19 (decide (x0_3 < 0)) (some (.ret, ⟨[(2, I 4)], [], gh2⟩)) (
  br 29 ((IntKind.i64.wrap (x0_2 + x0_3)) != x0_0) (some (.ret, ⟨[(2, I 4)], [], gh2⟩)) (isC (degr (degr1 v0_4)) (lenS (degr (degr (degr1 v0_4))) fun n4 =>
  br 36 ((n4 : Int) != x0_3) (some (.ret, ⟨[(2, I 1)], [], gh2⟩)) (isC (degr (degr1 v0_5)) (lenS (degr (degr (degr1 v0_5))) fun n5 =>
  br 43 ((n5 : Int) != x0_3) (some (.ret, ⟨[(2, I 1)], [], gh2⟩)) (
  kR (runL pg f_ref_CheckCircuit_l1 ⟨[(1, .ptr false 0 0), (4, I 0)], [[I x0_0, (degr1 v0_1), I x0_2, I x0_3, (degr1 v0_4), (degr1 v0_5), (degr1 v0_6), (degr1 v0_7)]], gh2⟩) (fun e s => nx e s (fun e s => some (e, s)) fun s => kR (runL pg f_ref_CheckCircuit_k1 s) (fun e s => some (e, s)))))))))))))))))
theorem D_ref_CheckCircuit_0_ok {x0_0 : Int} {v0_1 : PV} {x0_2 x0_3 : Int} {v0_4 v0_5 : PV} {v0_6 v0_7 : PV} (h : D_ref_CheckCircuit_0 pg x0_0 v0_1 x0_2 x0_3 v0_4 v0_5 v0_6 v0_7 gh = some (e, s)) : runL pg f_ref_CheckCircuit_0 ⟨[(0, .agg [I x0_0, v0_1, I x0_2, I x0_3, v0_4, v0_5, v0_6, v0_7])], [], gh⟩ = some (e, s) :=
  runX_ok an_ref_CheckCircuit (Eq.trans (by kernel_rfl) h)
end
end Go.Lw
end

/-! What the code of function law_BlastChecks comes to, piece by piece. Written by program (dprint.py). -/
section
set_option maxRecDepth 10000
set_option maxHeartbeats 4000000
namespace Go.Lw
open Go
noncomputable section
variable {pg : Prg} {gh : List GObj} {e : IExit} {s : St}
def an_law_BlastChecks : Tr := (tI 6 (tB 3 (tB 2 (.node 0 (.agg [.int .i64, .any, .int .i64, .int .i64, .any, .any, .any, .any]) .nil .nil) .nil) (.node 5 (.agg [.int .i64, .any, .int .i64, .int .i64, .any, .any, .any, .any]) (uB 4) .nil)) (tB 9 (tI 8 (.node 7 (.agg [.int .i64, .any, .int .i64, .int .i64, .any, .any, .any, .any]) .nil .nil) .nil) (uB 10)))
def D_law_BlastChecks_0 (pg : Prg) (x0_0 : Int) (v0_1 : PV) (x0_2 x0_3 : Int) (v0_4 v0_5 : PV) (v0_6 v0_7 : PV) (gh : List GObj) : DR := onK (degr1 v0_1) (onK (degr1 v0_4) (onK (degr1 v0_5) (onK (degr1 v0_6) (onK (degr1 v0_7) (
  callR gh true (callL pg 211 [] gh) fun r1 gh2 => unB r1 fun b3 =>
  br 4 b3 (onK (degr1 (degr1 (degr1 v0_1))) (onK (degr1 (degr1 (degr1 v0_4))) (onK (degr1 (degr1 (degr1 v0_5))) (onK (degr1 (degr1 (degr1 v0_6))) (onK (degr1 (degr1 (degr1 v0_7))) (
  callR gh2 true (callL pg 212 [(.agg [I x0_0, (degr1 (degr1 (degr1 v0_1))), I x0_2, I x0_3, (degr1 (degr1 (degr1 v0_4))), (degr1 (degr1 (degr1 v0_5))), (degr1 (degr1 (degr1 v0_6))), (degr1 (degr1 (degr1 v0_7)))])] gh2) fun r4 gh5 => unI .i64 r4 fun n6 => onK (degr1 (degr1 (degr1 v0_1))) (onK (degr1 (degr1 (degr1 v0_4))) (onK (degr1 (degr1 (degr1 v0_5))) (onK (degr1 (degr1 (degr1 v0_6))) (onK (degr1 (degr1 (degr1 v0_7))) (
  callR gh5 true (callL pg 213 [(.agg [I x0_0, (degr1 (degr1 (degr1 v0_1))), I x0_2, I x0_3, (degr1 (degr1 (degr1 v0_4))), (degr1 (degr1 (degr1 v0_5))), (degr1 (degr1 (degr1 v0_6))), (degr1 (degr1 (degr1 v0_7)))])] gh5) fun r7 gh8 => unI .i64 r7 fun n9 => some (.ret, ⟨[(2, (B (n6 == n9)))], [], gh8⟩)))))))))))) (some (.ret, ⟨[(2, B false)], [], gh2⟩)))))))
theorem D_law_BlastChecks_0_ok {x0_0 : Int} {v0_1 : PV} {x0_2 x0_3 : Int} {v0_4 v0_5 : PV} {v0_6 v0_7 : PV} (h : D_law_BlastChecks_0 pg x0_0 v0_1 x0_2 x0_3 v0_4 v0_5 v0_6 v0_7 gh = some (e, s)) : runL pg f_law_BlastChecks_0 ⟨[(0, .agg [I x0_0, v0_1, I x0_2, I x0_3, v0_4, v0_5, v0_6, v0_7])], [], gh⟩ = some (e, s) :=
  runX_ok an_law_BlastChecks (Eq.trans (by kernel_rfl) h)
end
end Go.Lw
end
