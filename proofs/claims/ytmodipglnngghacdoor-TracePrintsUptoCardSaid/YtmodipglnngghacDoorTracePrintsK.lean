/-
  The texts that the proof stands on, part 11.
-/
import Derived.Test.YtmodipglnngghacDoorTracePrintsJ
import Derived.KernelRfl
set_option linter.unusedVariables false
set_option linter.unusedSimpArgs false
set_option linter.unnecessarySimpa false

/-! What the code of function trace_line comes to, piece by piece. Written by program (dprint.py). -/
section
set_option maxRecDepth 10000
set_option maxHeartbeats 4000000
namespace Go.Lw
open Go
noncomputable section
variable {pg : Prg} {gh : List GObj} {e : IExit} {s : St}
def an_trace_line : Tr := (.node 19 (.ce (.str)) (.node 10 (.ce (.str)) (tB 5 (tO 1 (.node 0 (.ce (.str)) .nil .nil) (.node 4 (.ce (.str)) .nil .nil)) (tB 7 (.node 6 (.ce (.str)) .nil .nil) (uI 9))) (tB 14 (tI 12 (uO 11) (uI 13)) (.node 17 (.ce (.str)) (uI 16) (uI 18)))) (tB 27 (tB 23 (.node 21 (.ce (.str)) (.node 20 (.ce (.str)) .nil .nil) (uB 22)) (tB 25 (uI 24) (uB 26))) (tI 31 (tB 29 (uI 28) (uB 30)) (.node 33 (.ce (.str)) (.node 32 (.ce (.str)) .nil .nil) (uB 34)))))
def D_trace_line_b1 (pg : Prg) (s6 : ByteArray) (b7 : Bool) (v11 : PV) (x12 x13 : Int) (gh : List GObj) : DR :=
  br 14 (decide (x13 < x12)) (
  idX 1 none (degr v11) x13 fun p1 =>
  ldX [] gh false 1 (degr p1) fun v2 => unI .i64 v2 fun n3 => stK 0 v11 (
  callR gh true (callL pg 260 [I n3] gh) fun r4 gh5 => unS r4 fun s7 => ob (binPV .add (.str (⟨#[32]⟩ : ByteArray)) (.str s7)) fun v8 => unS v8 fun s9 => ob (binPV .add (.str s6) (.str s9)) fun v10 => unS v10 fun s11 => stK 0 v11 (
  br 23 b7 (
  br 27 (decide (0 ≤ n3)) (stK 0 v11 (stK 0 v11 (stK 0 v11 (some (.normal, ⟨[(6, .str s11), (7, (B (decide (n3 ≤ 255)))), (11, v11), (12, I x12), (13, (I (IntKind.i64.wrap (x13 + 1))))], [], gh5⟩))))) (stK 0 v11 (stK 0 v11 (stK 0 v11 (some (.normal, ⟨[(6, .str s11), (7, B false), (11, v11), (12, I x12), (13, (I (IntKind.i64.wrap (x13 + 1))))], [], gh5⟩)))))) (stK 0 v11 (stK 0 v11 (stK 0 v11 (some (.normal, ⟨[(6, .str s11), (7, B false), (11, v11), (12, I x12), (13, (I (IntKind.i64.wrap (x13 + 1))))], [], gh5⟩)))))))) (some ((.exit 0), ⟨[(6, .str s6), (7, B b7), (11, v11), (12, I x12), (13, I x13), (14, (B (decide (x13 < x12))))], [], gh⟩))
theorem D_trace_line_b1_ok {s6 : ByteArray} {b7 : Bool} {v11 : PV} {x12 x13 : Int} (h : D_trace_line_b1 pg s6 b7 v11 x12 x13 gh = some (e, s)) : runL pg f_trace_line_b1 ⟨[(6, .str s6), (7, B b7), (11, v11), (12, I x12), (13, I x13)], [], gh⟩ = some (e, s) :=
  runX_ok an_trace_line (Eq.trans (by kernel_rfl) h)
def D_trace_line_k1 (pg : Prg) (s6 : ByteArray) (b7 : Bool) (gh : List GObj) : DR := ob (binPV .add (.str s6) (.str (⟨#[10]⟩ : ByteArray))) fun v1 => unS v1 fun s2 => some (.ret, ⟨[(4, .str s2), (5, B b7)], [], gh⟩)
theorem D_trace_line_k1_ok {s6 : ByteArray} {b7 : Bool} (h : D_trace_line_k1 pg s6 b7 gh = some (e, s)) : runL pg f_trace_line_k1 ⟨[(6, .str s6), (7, B b7)], [], gh⟩ = some (e, s) :=
  runX_ok an_trace_line (Eq.trans (by kernel_rfl) h)
def D_trace_line_0 (pg : Prg) (s0 : ByteArray) (v1 : PV) (gh : List GObj) : DR := stK 0 v1 (stK 0 v1 (isC (degr v1) (lenS (degr (degr v1)) fun n1 => stK 0 (degr v1) (
  kR (runL pg f_trace_line_l1 ⟨[(6, .str s0), (7, B true), (11, (degr v1)), (12, (I (n1 : Int))), (13, I 0)], [], gh⟩) (fun e s => nx e s (fun e s => some (e, s)) fun s => kR (runL pg f_trace_line_k1 s) (fun e s => some (e, s)))))))
theorem D_trace_line_0_ok {s0 : ByteArray} {v1 : PV} (h : D_trace_line_0 pg s0 v1 gh = some (e, s)) : runL pg f_trace_line_0 ⟨[(0, .str s0), (1, v1)], [], gh⟩ = some (e, s) :=
  runX_ok an_trace_line (Eq.trans (by kernel_rfl) h)
end
end Go.Lw
end

/-! What the code of function ref_line comes to, piece by piece. Written by program (dprint.py). -/
section
set_option maxRecDepth 10000
set_option maxHeartbeats 4000000
namespace Go.Lw
open Go
noncomputable section
variable {pg : Prg} {gh : List GObj} {e : IExit} {s : St}
def an_ref_line : Tr := (tI 11 (tI 6 (.node 4 (.ce (.str)) (tO 1 (.node 0 (.ce (.str)) .nil .nil) .nil) (uI 5)) (tB 9 (tI 8 (uO 7) .nil) (uI 10))) (.node 17 (.ce (.str)) (tI 14 (tO 13 (.node 12 (.ce (.str)) .nil .nil) .nil) (uI 16)) (.node 20 (.ce (.str)) (.node 19 (.ce (.str)) (.node 18 (.ce (.str)) .nil .nil) .nil) (.node 21 (.ce (.str)) .nil .nil))))
def D_ref_line_b1 (pg : Prg) (s0 : ByteArray) (v1 : PV) (x5 : Int) (gh : List GObj) : DR := isC (degr v1) (lenS (degr (degr v1)) fun n1 => stK 0 v1 (
  br 9 (decide (x5 < (n1 : Int))) (isC (degr v1) (
  idX 1 none (degr (degr v1)) x5 fun p2 =>
  ldX [] gh false 1 (degr p2) fun v3 => unI .i64 v3 fun n4 =>
  callR gh true (callL pg 363 [I n4] gh) fun r5 gh6 => unS r5 fun s7 => ob (binPV .add (.str (⟨#[32]⟩ : ByteArray)) (.str s7)) fun v8 => unS v8 fun s9 => ob (binPV .add (.str s0) (.str s9)) fun v10 => unS v10 fun s11 => stK 0 v1 (stK 0 v1 (stK 0 v1 (some (.normal, ⟨[(0, .str s11), (1, v1), (5, (I (IntKind.i64.wrap (x5 + 1))))], [], gh6⟩)))))) (some ((.exit 0), ⟨[(0, .str s0), (1, v1), (5, I x5), (9, (B (decide (x5 < (n1 : Int)))))], [], gh⟩))))
theorem D_ref_line_b1_ok {s0 : ByteArray} {v1 : PV} {x5 : Int} (h : D_ref_line_b1 pg s0 v1 x5 gh = some (e, s)) : runL pg f_ref_line_b1 ⟨[(0, .str s0), (1, v1), (5, I x5)], [], gh⟩ = some (e, s) :=
  runX_ok an_ref_line (Eq.trans (by kernel_rfl) h)
def D_ref_line_k1 (pg : Prg) (s0 : ByteArray) (gh : List GObj) : DR := ob (binPV .add (.str s0) (.str (⟨#[10]⟩ : ByteArray))) fun v1 => unS v1 fun s2 => some (.ret, ⟨[(4, .str s2)], [], gh⟩)
theorem D_ref_line_k1_ok {s0 : ByteArray} (h : D_ref_line_k1 pg s0 gh = some (e, s)) : runL pg f_ref_line_k1 ⟨[(0, .str s0)], [], gh⟩ = some (e, s) :=
  runX_ok an_ref_line (Eq.trans (by kernel_rfl) h)
def D_ref_line_0 (pg : Prg) (s0 : ByteArray) (v1 : PV) (gh : List GObj) : DR := stK 0 v1 (stK 0 v1 (
  kR (runL pg f_ref_line_l1 ⟨[(0, .str s0), (1, v1), (5, I 0)], [], gh⟩) (fun e s => nx e s (fun e s => some (e, s)) fun s => kR (runL pg f_ref_line_k1 s) (fun e s => some (e, s)))))
theorem D_ref_line_0_ok {s0 : ByteArray} {v1 : PV} (h : D_ref_line_0 pg s0 v1 gh = some (e, s)) : runL pg f_ref_line_0 ⟨[(0, .str s0), (1, v1)], [], gh⟩ = some (e, s) :=
  runX_ok an_ref_line (Eq.trans (by kernel_rfl) h)
end
end Go.Lw
end

/-! What the code of function ref_between comes to, piece by piece. Written by program (dprint.py). -/
section
set_option maxRecDepth 10000
set_option maxHeartbeats 4000000
namespace Go.Lw
open Go
noncomputable section
variable {pg : Prg} {gh : List GObj} {e : IExit} {s : St}
def an_ref_between : Tr := (tB 9 (tB 6 (tI 1 (uI 0) (uI 2)) (tI 8 (uI 7) .nil)) (tI 12 (tI 11 (uB 10) .nil) (tB 14 (uB 13) .nil)))
def D_ref_between_0 (pg : Prg) (x0 x1 x2 : Int) (gh : List GObj) : DR :=
  br 10 (decide (x1 ≤ x0)) (some (.ret, ⟨[(6, (B (decide (x0 ≤ x2))))], [], gh⟩)) (some (.ret, ⟨[(6, B false)], [], gh⟩))
theorem D_ref_between_0_ok {x0 x1 x2 : Int} (h : D_ref_between_0 pg x0 x1 x2 gh = some (e, s)) : runL pg f_ref_between_0 ⟨[(0, I x0), (1, I x1), (2, I x2)], [], gh⟩ = some (e, s) :=
  runX_ok an_ref_between (Eq.trans (by kernel_rfl) h)
end
end Go.Lw
end

/-! What the code of function trace_Print comes to, piece by piece. Written by program (dprint.py). -/
section
set_option maxRecDepth 10000
set_option maxHeartbeats 4000000
namespace Go.Lw
open Go
noncomputable section
variable {pg : Prg} {gh : List GObj} {e : IExit} {s : St}
def an_trace_Print : Tr := (.node 33 (.tup 2) (tO 18 (tO 9 (tO 5 (.node 2 (.ce (.str)) (.node 0 (.agg [.any, .any]) .nil .nil) (uI 3)) (tB 7 (.node 6 (.ce (.str)) .nil .nil) .nil)) (tI 14 (tB 11 (.node 10 (.ce (.str)) .nil .nil) (uO 13)) (tB 16 (uB 15) .nil))) (tB 26 (tO 23 (tB 20 (uI 19) (uB 21)) (tI 25 (uI 24) .nil)) (tI 30 (tO 29 (uO 28) .nil) (tI 32 (uB 31) .nil)))) (.node 49 (.ce (.str)) (tI 42 (tB 38 (.node 36 (.tup 2) (uO 35) (.node 37 (.ce (.str)) .nil .nil)) (tI 41 (uO 40) .nil)) (.node 46 (.tup 2) (tO 45 (uB 43) .nil) (.node 48 (.tup 2) (uO 47) .nil))) (tB 56 (.node 53 (.ce (.str)) (.node 51 (.ce (.str)) (uB 50) (.node 52 (.ce (.str)) .nil .nil)) (tB 55 (uB 54) .nil)) (tB 59 (tI 58 (uB 57) .nil) (.node 61 (.ce (.str)) (uB 60) .nil)))))
def D_trace_Print_b1 (pg : Prg) (v23 : PV) (x24 x25 : Int) (vc0_0 vc0_1 : PV) (gh : List GObj) : DR :=
  br 26 (decide (x25 < x24)) (
  idX 1 none (degr v23) x25 fun p1 =>
  ldX [[vc0_0, vc0_1]] gh false 1 (degr p1) fun v2 => isC v2 (stK 1 v2 (stK 1 v23 (isC (degr v2) (lenS (degr (degr v2)) fun n3 => stK 1 v23 (
  br 31 (decide (20 < (n3 : Int))) (some (.ret, ⟨[(2, .str ByteArray.empty), (3, I 2)], [], gh⟩)) (stK 1 v23 (stK 1 v23 (some (.normal, ⟨[(1, .ptr false 0 0), (23, v23), (24, I x24), (25, (I (IntKind.i64.wrap (x25 + 1))))], [[vc0_0, vc0_1]], gh⟩)))))))))) (some ((.exit 0), ⟨[(1, .ptr false 0 0), (23, v23), (24, I x24), (25, I x25), (26, (B (decide (x25 < x24))))], [[vc0_0, vc0_1]], gh⟩))
theorem D_trace_Print_b1_ok {v23 : PV} {x24 x25 : Int} {vc0_0 vc0_1 : PV} (h : D_trace_Print_b1 pg v23 x24 x25 vc0_0 vc0_1 gh = some (e, s)) : runL pg f_trace_Print_b1 ⟨[(1, .ptr false 0 0), (23, v23), (24, I x24), (25, I x25)], [[vc0_0, vc0_1]], gh⟩ = some (e, s) :=
  runX_ok an_trace_Print (Eq.trans (by kernel_rfl) h)
def D_trace_Print_b2 (pg : Prg) (s6 : ByteArray) (b7 : Bool) (v40 : PV) (x41 x42 : Int) (gh : List GObj) : DR :=
  br 43 (decide (x42 < x41)) (
  idX 1 none (degr v40) x42 fun p1 =>
  ldX [] gh false 1 (degr p1) fun v2 => isC v2 (stK 0 v2 (stK 0 v40 (isC (degr v2) (arK (degr (degr v2)) (
  callR gh true (callL pg 254 [(.str (⟨#[105, 110]⟩ : ByteArray)), (degr (degr v2))] gh) fun r3 gh4 => unT 2 r3 fun r5 r6 => unS (degr1 (degr1 r5)) fun s7 => unB (degr1 (degr1 r6)) fun b8 => stK 0 v40 (ob (binPV .add (.str s6) (.str s7)) fun v9 => unS v9 fun s10 => stK 0 v40 (
  br 55 b7 (stK 0 v40 (stK 0 v40 (stK 0 v40 (some (.normal, ⟨[(6, .str s10), (7, B b8), (40, v40), (41, I x41), (42, (I (IntKind.i64.wrap (x42 + 1))))], [], gh4⟩))))) (stK 0 v40 (stK 0 v40 (stK 0 v40 (some (.normal, ⟨[(6, .str s10), (7, B false), (40, v40), (41, I x41), (42, (I (IntKind.i64.wrap (x42 + 1))))], [], gh4⟩))))))))))))) (some ((.exit 2), ⟨[(6, .str s6), (7, B b7), (40, v40), (41, I x41), (42, I x42), (43, (B (decide (x42 < x41))))], [], gh⟩))
theorem D_trace_Print_b2_ok {s6 : ByteArray} {b7 : Bool} {v40 : PV} {x41 x42 : Int} (h : D_trace_Print_b2 pg s6 b7 v40 x41 x42 gh = some (e, s)) : runL pg f_trace_Print_b2 ⟨[(6, .str s6), (7, B b7), (40, v40), (41, I x41), (42, I x42)], [], gh⟩ = some (e, s) :=
  runX_ok an_trace_Print (Eq.trans (by kernel_rfl) h)
def D_trace_Print_k2 (pg : Prg) (s6 : ByteArray) (b7 : Bool) (gh : List GObj) : DR :=
  br 60 (!b7) (some (.ret, ⟨[(2, .str ByteArray.empty), (3, I 3)], [], gh⟩)) (some (.ret, ⟨[(2, .str s6), (3, I 0)], [], gh⟩))
theorem D_trace_Print_k2_ok {s6 : ByteArray} {b7 : Bool} (h : D_trace_Print_k2 pg s6 b7 gh = some (e, s)) : runL pg f_trace_Print_k2 ⟨[(6, .str s6), (7, B b7)], [], gh⟩ = some (e, s) :=
  runX_ok an_trace_Print (Eq.trans (by kernel_rfl) h)
def D_trace_Print_k1 (pg : Prg) (vc0_0 vc0_1 : PV) (gh : List GObj) : DR := isC (degr vc0_0) (arK (degr (degr vc0_0)) (
  callR gh true (callL pg 254 [(.str (⟨#[115, 116, 97, 114, 116]⟩ : ByteArray)), (degr (degr vc0_0))] gh) fun r1 gh2 => unT 2 r1 fun r3 r4 => unS (degr1 (degr1 r3)) fun s5 => unB (degr1 (degr1 r4)) fun b6 => isC (degr vc0_1) (lenS (degr (degr vc0_1)) fun n7 => stK 0 (degr vc0_1) (
  kR (runL pg f_trace_Print_l2 ⟨[(6, .str s5), (7, B b6), (40, (degr vc0_1)), (41, (I (n7 : Int))), (42, I 0)], [], gh2⟩) (fun e s => nx e s (fun e s => some (e, s)) fun s => kR (runL pg f_trace_Print_k2 s) (fun e s => some (e, s)))))))
theorem D_trace_Print_k1_ok {vc0_0 vc0_1 : PV} (h : D_trace_Print_k1 pg vc0_0 vc0_1 gh = some (e, s)) : runL pg f_trace_Print_k1 ⟨[(1, .ptr false 0 0)], [[vc0_0, vc0_1]], gh⟩ = some (e, s) :=
  runX_ok an_trace_Print (Eq.trans (by kernel_rfl) h)
def D_trace_Print_0 (pg : Prg) (v0_0 v0_1 : PV) (gh : List GObj) : DR := onK (degr1 v0_0) (onK (degr1 v0_1) (isC (degr (degr1 v0_1)) (lenS (degr (degr (degr1 v0_1))) fun n1 =>
  br 16 (decide (41 < (n1 : Int))) (some (.ret, ⟨[(2, .str ByteArray.empty), (3, I 2)], [], gh⟩)) (isC (degr (degr1 v0_0)) (lenS (degr (degr (degr1 v0_0))) fun n2 =>
  br 21 (decide (20 < (n2 : Int))) (some (.ret, ⟨[(2, .str ByteArray.empty), (3, I 2)], [], gh⟩)) (isC (degr (degr1 v0_1)) (lenS (degr (degr (degr1 v0_1))) fun n3 => stK 1 (degr (degr1 v0_1)) (
  kR (runL pg f_trace_Print_l1 ⟨[(1, .ptr false 0 0), (23, (degr (degr1 v0_1))), (24, (I (n3 : Int))), (25, I 0)], [[(degr1 v0_0), (degr1 v0_1)]], gh⟩) (fun e s => nx e s (fun e s => some (e, s)) fun s => kR (runL pg f_trace_Print_k1 s) (fun e s => some (e, s)))))))))))
theorem D_trace_Print_0_ok {v0_0 v0_1 : PV} (h : D_trace_Print_0 pg v0_0 v0_1 gh = some (e, s)) : runL pg f_trace_Print_0 ⟨[(0, .agg [v0_0, v0_1])], [], gh⟩ = some (e, s) :=
  runX_ok an_trace_Print (Eq.trans (by kernel_rfl) h)
end
end Go.Lw
end

/-! What the code of function ref_PrintTrace comes to, piece by piece. Written by program (dprint.py). -/
section
set_option maxRecDepth 10000
set_option maxHeartbeats 4000000
namespace Go.Lw
open Go
noncomputable section
variable {pg : Prg} {gh : List GObj} {e : IExit} {s : St}
def an_ref_PrintTrace : Tr := (tI 38 (tO 20 (tI 9 (tB 5 (tI 3 (.node 2 (.ce (.str)) (.node 0 (.agg [.any, .any]) .nil .nil) .nil) (uO 4)) (.node 7 (.ce (.str)) (uB 6) (uI 8))) (tO 16 (tO 14 (tO 12 (uO 11) .nil) (uO 15)) (tB 18 (uI 17) (uI 19)))) (tB 29 (tB 25 (tB 23 (tB 22 (uI 21) .nil) (uB 24)) (tI 27 (uB 26) (uI 28))) (tO 34 (tO 31 (uB 30) (uI 32)) (tB 36 (uI 35) (uB 37))))) (tI 59 (tB 48 (tB 44 (tO 42 (tI 40 (uO 39) .nil) (uI 43)) (tI 46 (uI 45) (uB 47))) (tI 55 (tO 52 (tI 50 (uO 49) .nil) (uI 53)) (tB 57 (uB 56) (uB 58)))) (tO 69 (tO 65 (tO 62 (.node 61 (.ce (.str)) (uB 60) .nil) (uI 63)) (.node 67 (.ce (.str)) (.node 66 (.ce (.str)) .nil .nil) (.node 68 (.ce (.str)) .nil .nil))) (.node 74 (.ce (.str)) (tO 72 (uI 70) (.node 73 (.ce (.str)) .nil .nil)) (tB 76 (uB 75) (.node 77 (.ce (.str)) .nil .nil))))))
def D_ref_PrintTrace_b2 (pg : Prg) (v4 : PV) (b5 b6 : Bool) (s7 : ByteArray) (x8 x9 : Int) (gh : List GObj) : DR := isC (degr v4) (
  idX 1 none (degr (degr v4)) x8 fun p1 =>
  ldX [] gh false 1 (degr p1) fun v2 => isC v2 (lenS (degr v2) fun n3 => stK 0 v4 (
  br 44 (decide (x9 < (n3 : Int))) (
  br 48 b6 (stK 0 v4 (stK 0 v4 (stK 0 v4 (some (.normal, ⟨[(4, v4), (5, B b5), (6, B true), (7, .str s7), (8, I x8), (9, (I (IntKind.i64.wrap (x9 + 1))))], [], gh⟩))))) (isC (degr v4) (
  idX 1 none (degr (degr v4)) x8 fun p4 =>
  ldX [] gh false 1 (degr p4) fun v5 => isC v5 (
  idX 1 none (degr v5) x9 fun p6 =>
  ldX [] gh false 1 (degr p6) fun v7 => unI .i64 v7 fun n8 =>
  callR gh true (callL pg 50 [I n8, I 0, I 255] gh) fun r9 gh10 => unB r9 fun b11 => stK 0 v4 (stK 0 v4 (stK 0 v4 (some (.normal, ⟨[(4, v4), (5, B b5), (6, (B (!b11))), (7, .str s7), (8, I x8), (9, (I (IntKind.i64.wrap (x9 + 1))))], [], gh10⟩)))))))) (some ((.exit 2), ⟨[(4, v4), (5, B b5), (6, B b6), (7, .str s7), (8, I x8), (9, I x9), (44, (B (decide (x9 < (n3 : Int)))))], [], gh⟩)))))
theorem D_ref_PrintTrace_b2_ok {v4 : PV} {b5 b6 : Bool} {s7 : ByteArray} {x8 x9 : Int} (h : D_ref_PrintTrace_b2 pg v4 b5 b6 s7 x8 x9 gh = some (e, s)) : runL pg f_ref_PrintTrace_b2 ⟨[(4, v4), (5, B b5), (6, B b6), (7, .str s7), (8, I x8), (9, I x9)], [], gh⟩ = some (e, s) :=
  runX_ok an_ref_PrintTrace (Eq.trans (by kernel_rfl) h)
def D_ref_PrintTrace_k1 (pg : Prg) (v4 : PV) (b5 b6 : Bool) (s7 : ByteArray) (x8 : Int) (gh : List GObj) : DR := stK 0 v4 (
  br 60 (x8 == 0) (isC (degr v4) (
  idX 1 none (degr (degr v4)) x8 fun p1 =>
  ldX [] gh false 1 (degr p1) fun v2 => isC v2 (arK (degr v2) (
  callR gh true (callL pg 355 [(.str (⟨#[115, 116, 97, 114, 116]⟩ : ByteArray)), (degr v2)] gh) fun r3 gh4 => unS r3 fun s5 => ob (binPV .add (.str s7) (.str s5)) fun v6 => unS v6 fun s8 => stK 0 v4 (stK 0 v4 (some (.normal, ⟨[(4, v4), (5, B b5), (6, B b6), (7, .str s8), (8, I x8)], [], gh4⟩))))))) (isC (degr v4) (
  idX 1 none (degr (degr v4)) x8 fun p9 =>
  ldX [] gh false 1 (degr p9) fun v10 => isC v10 (arK (degr v10) (
  callR gh true (callL pg 355 [(.str (⟨#[105, 110]⟩ : ByteArray)), (degr v10)] gh) fun r11 gh12 => unS r11 fun s13 => ob (binPV .add (.str s7) (.str s13)) fun v14 => unS v14 fun s15 => stK 0 v4 (stK 0 v4 (some (.normal, ⟨[(4, v4), (5, B b5), (6, B b6), (7, .str s15), (8, I x8)], [], gh12⟩))))))))
theorem D_ref_PrintTrace_k1_ok {v4 : PV} {b5 b6 : Bool} {s7 : ByteArray} {x8 : Int} (h : D_ref_PrintTrace_k1 pg v4 b5 b6 s7 x8 gh = some (e, s)) : runL pg f_ref_PrintTrace_k1 ⟨[(4, v4), (5, B b5), (6, B b6), (7, .str s7), (8, I x8)], [], gh⟩ = some (e, s) :=
  runX_ok an_ref_PrintTrace (Eq.trans (by kernel_rfl) h)
def D_ref_PrintTrace_k2 (pg : Prg) (v4 : PV) (b5 b6 : Bool) (s7 : ByteArray) (x8 : Int) (gh : List GObj) : DR := stK 0 v4 (some (.normal, ⟨[(4, v4), (5, B b5), (6, B b6), (7, .str s7), (8, (I (IntKind.i64.wrap (x8 + 1))))], [], gh⟩))
theorem D_ref_PrintTrace_k2_ok {v4 : PV} {b5 b6 : Bool} {s7 : ByteArray} {x8 : Int} (h : D_ref_PrintTrace_k2 pg v4 b5 b6 s7 x8 gh = some (e, s)) : runL pg f_ref_PrintTrace_k2 ⟨[(4, v4), (5, B b5), (6, B b6), (7, .str s7), (8, I x8)], [], gh⟩ = some (e, s) :=
  runX_ok an_ref_PrintTrace (Eq.trans (by kernel_rfl) h)
def D_ref_PrintTrace_b1 (pg : Prg) (v4 : PV) (b5 b6 : Bool) (s7 : ByteArray) (x8 : Int) (gh : List GObj) : DR := isC (degr v4) (lenS (degr (degr v4)) fun n1 =>
  br 23 (decide (x8 < (n1 : Int))) (stK 0 v4 (
  br 26 (!b5) (
  br 30 b5 (stK 0 v4 (stK 0 v4 (
  kR (runL pg f_ref_PrintTrace_l2 ⟨[(4, v4), (5, B true), (6, B b6), (7, .str s7), (8, I x8), (9, I 0)], [], gh⟩) (fun e s => nx e s (fun e s => bk 1 e s (fun e s => nx e s (fun e s => po [4, 5, 6, 7, 8] 0 e s (fun e s => some (e, s))) fun s => kR (runL pg f_ref_PrintTrace_k2 s) (fun e s => po [4, 5, 6, 7, 8] 0 e s (fun e s => some (e, s))))) fun s => kR (runL pg f_ref_PrintTrace_k1 s) (fun e s => bk 1 e s (fun e s => nx e s (fun e s => po [4, 5, 6, 7, 8] 0 e s (fun e s => some (e, s))) fun s => kR (runL pg f_ref_PrintTrace_k2 s) (fun e s => po [4, 5, 6, 7, 8] 0 e s (fun e s => some (e, s))))))))) (isC (degr v4) (
  idX 1 none (degr (degr v4)) x8 fun p2 =>
  ldX [] gh false 1 (degr p2) fun v3 => isC v3 (lenS (degr v3) fun n4 => stK 0 v4 (stK 0 v4 (
  kR (runL pg f_ref_PrintTrace_l2 ⟨[(4, v4), (5, (B (decide (20 < (n4 : Int))))), (6, B b6), (7, .str s7), (8, I x8), (9, I 0)], [], gh⟩) (fun e s => nx e s (fun e s => bk 1 e s (fun e s => nx e s (fun e s => po [4, 5, 6, 7, 8] 0 e s (fun e s => some (e, s))) fun s => kR (runL pg f_ref_PrintTrace_k2 s) (fun e s => po [4, 5, 6, 7, 8] 0 e s (fun e s => some (e, s))))) fun s => kR (runL pg f_ref_PrintTrace_k1 s) (fun e s => bk 1 e s (fun e s => nx e s (fun e s => po [4, 5, 6, 7, 8] 0 e s (fun e s => some (e, s))) fun s => kR (runL pg f_ref_PrintTrace_k2 s) (fun e s => po [4, 5, 6, 7, 8] 0 e s (fun e s => some (e, s)))))))))))) (some ((.exit 0), ⟨[(4, v4), (5, B b5), (6, B b6), (7, .str s7), (8, I x8), (26, (B (!b5)))], [], gh⟩)))) (stK 0 v4 (some ((.exit 0), ⟨[(4, v4), (5, B b5), (6, B b6), (7, .str s7), (8, I x8), (26, B false)], [], gh⟩))))
theorem D_ref_PrintTrace_b1_ok {v4 : PV} {b5 b6 : Bool} {s7 : ByteArray} {x8 : Int} (h : D_ref_PrintTrace_b1 pg v4 b5 b6 s7 x8 gh = some (e, s)) : runL pg f_ref_PrintTrace_b1 ⟨[(4, v4), (5, B b5), (6, B b6), (7, .str s7), (8, I x8)], [], gh⟩ = some (e, s) :=
  runX_ok an_ref_PrintTrace (Eq.trans (by kernel_rfl) h)
def D_ref_PrintTrace_k3 (pg : Prg) (b5 b6 : Bool) (s7 : ByteArray) (gh : List GObj) : DR :=
  br 75 b5 (some (.ret, ⟨[(2, .str ByteArray.empty), (3, I 2)], [], gh⟩)) (
  br 76 b6 (some (.ret, ⟨[(2, .str ByteArray.empty), (3, I 3)], [], gh⟩)) (some (.ret, ⟨[(2, .str s7), (3, I 0)], [], gh⟩)))
theorem D_ref_PrintTrace_k3_ok {b5 b6 : Bool} {s7 : ByteArray} (h : D_ref_PrintTrace_k3 pg b5 b6 s7 gh = some (e, s)) : runL pg f_ref_PrintTrace_k3 ⟨[(5, B b5), (6, B b6), (7, .str s7)], [], gh⟩ = some (e, s) :=
  runX_ok an_ref_PrintTrace (Eq.trans (by kernel_rfl) h)
def D_ref_PrintTrace_0 (pg : Prg) (v0_0 v0_1 : PV) (gh : List GObj) : DR := onK (degr1 v0_0) (onK (degr1 v0_1) (isC (degr (degr1 v0_0)) (arK (degr (degr (degr1 v0_0))) (lnK 1 (degr (degr (degr1 v0_0))) (isC (degr (degr1 v0_1)) (
  apX 1 24 (.sl true 1 [(degr (degr (degr1 v0_0)))]) (degr (degr (degr1 v0_1))) fun l1 => lenS (.sl false 1 l1) fun n2 =>
  kR (runL pg f_ref_PrintTrace_l1 ⟨[(4, .sl true 1 l1), (5, (B (decide (42 < (n2 : Int))))), (6, B false), (7, .str ByteArray.empty), (8, I 0)], [], gh⟩) (fun e s => nx e s (fun e s => some (e, s)) fun s => kR (runL pg f_ref_PrintTrace_k3 s) (fun e s => some (e, s)))))))))
theorem D_ref_PrintTrace_0_ok {v0_0 v0_1 : PV} (h : D_ref_PrintTrace_0 pg v0_0 v0_1 gh = some (e, s)) : runL pg f_ref_PrintTrace_0 ⟨[(0, .agg [v0_0, v0_1])], [], gh⟩ = some (e, s) :=
  runX_ok an_ref_PrintTrace (Eq.trans (by kernel_rfl) h)
end
end Go.Lw
end

/-! What the code of function law_TracePrints comes to, piece by piece. Written by program (dprint.py). -/
section
set_option maxRecDepth 10000
set_option maxHeartbeats 4000000
namespace Go.Lw
open Go
noncomputable section
variable {pg : Prg} {gh : List GObj} {e : IExit} {s : St}
def an_law_TracePrints : Tr := (.node 14 (.tup 2) (.node 7 (.tup 2) (tI 4 (tB 2 (.node 0 (.agg [.any, .any]) .nil .nil) (.node 3 (.ce (.str)) .nil .nil)) (tI 6 (.node 5 (.ce (.str)) .nil .nil) .nil)) (tI 11 (.node 9 (.tup 2) (.node 8 (.agg [.any, .any]) .nil .nil) (.node 10 (.ce (.str)) .nil .nil)) (.node 13 (.agg [.any, .any]) (.node 12 (.tup 2) .nil .nil) .nil))) (tB 21 (tB 18 (tI 16 (.node 15 (.ce (.str)) .nil .nil) (uB 17)) (tI 20 (uI 19) .nil)) (.node 25 (.ce (.str)) (tB 23 (uB 22) (.node 24 (.ce (.str)) .nil .nil)) (tB 27 (uB 26) .nil))))
def D_law_TracePrints_0 (pg : Prg) (v0_0 v0_1 : PV) (gh : List GObj) : DR := onK (degr1 v0_0) (onK (degr1 v0_1) (onK (degr1 (degr1 (degr1 v0_0))) (onK (degr1 (degr1 (degr1 v0_1))) (
  callR gh true (callL pg 246 [(.agg [(degr1 (degr1 (degr1 v0_0))), (degr1 (degr1 (degr1 v0_1)))])] gh) fun r1 gh2 => unT 2 r1 fun r3 r4 => unS (degr1 (degr1 r3)) fun s5 => unI .i64 (degr1 (degr1 r4)) fun n6 => onK (degr1 (degr1 (degr1 v0_0))) (onK (degr1 (degr1 (degr1 v0_1))) (
  callR gh2 true (callL pg 351 [(.agg [(degr1 (degr1 (degr1 v0_0))), (degr1 (degr1 (degr1 v0_1)))])] gh2) fun r7 gh8 => unT 2 r7 fun r9 r10 => unS (degr1 (degr1 r9)) fun s11 => unI .i64 (degr1 (degr1 r10)) fun n12 =>
  callR gh8 true (callL pg 242 [] gh8) fun r13 gh14 => unB r13 fun b15 =>
  br 18 b15 (
  br 23 (n6 == n12) (some (.ret, ⟨[(2, (B (ByteArray.toList s5 == ByteArray.toList s11)))], [], gh14⟩)) (some (.ret, ⟨[(2, B false)], [], gh14⟩))) (some (.ret, ⟨[(2, B false)], [], gh14⟩))))))))
theorem D_law_TracePrints_0_ok {v0_0 v0_1 : PV} (h : D_law_TracePrints_0 pg v0_0 v0_1 gh = some (e, s)) : runL pg f_law_TracePrints_0 ⟨[(0, .agg [v0_0, v0_1])], [], gh⟩ = some (e, s) :=
  runX_ok an_law_TracePrints (Eq.trans (by kernel_rfl) h)
end
end Go.Lw
end
