/-
  The texts that the proof stands on, part 11.
-/
import Derived.Test.YtmodipglnngghacGreatDoorTraceParsesJ
import Derived.KernelRfl
set_option linter.unusedVariables false
set_option linter.unusedSimpArgs false
set_option linter.unnecessarySimpa false

/-! What the code of function trace_line comes to, piece by piece. Written by program (dprint.py). -/
section
set_option maxRecDepth 10000
set_option maxHeartbeats 4000000
namespace Go.Lw
open Go
noncomputable section
variable {pg : Prg} {gh : List GObj} {e : IExit} {s : St}
def an_trace_line : Tr := (.node 19 (.ce (.str)) (.node 10 (.ce (.str)) (tB 5 (tO 1 (.node 0 (.ce (.str)) .nil .nil) (.node 4 (.ce (.str)) .nil .nil)) (tB 7 (.node 6 (.ce (.str)) .nil .nil) (uI 9))) (tB 14 (tI 12 (uO 11) (uI 13)) (.node 17 (.ce (.str)) (uI 16) (uI 18)))) (tB 27 (tB 23 (.node 21 (.ce (.str)) (.node 20 (.ce (.str)) .nil .nil) (uB 22)) (tB 25 (uI 24) (uB 26))) (tI 31 (tB 29 (uI 28) (uB 30)) (.node 33 (.ce (.str)) (.node 32 (.ce (.str)) .nil .nil) (uB 34)))))
def D_trace_line_b1 (pg : Prg) (s6 : ByteArray) (b7 : Bool) (v11 : PV) (x12 x13 : Int) (gh : List GObj) : DR :=
  br 14 (decide (x13 < x12)) (
  idX 1 none (degr v11) x13 fun p1 =>
  ldX [] gh false 1 (degr p1) fun v2 => unI .i64 v2 fun n3 => stK 0 v11 (
  callR gh true (callL pg 260 [I n3] gh) fun r4 gh5 => unS r4 fun s7 => ob (binPV .add (.str (⟨#[32]⟩ : ByteArray)) (.str s7)) fun v8 => unS v8 fun s9 => ob (binPV .add (.str s6) (.str s9)) fun v10 => unS v10 fun s11 => stK 0 v11 (
  br 23 b7 (
  br 27 (decide (0 ≤ n3)) (stK 0 v11 (stK 0 v11 (stK 0 v11 (some (.normal, ⟨[(6, .str s11), (7, (B (decide (n3 ≤ 255)))), (11, v11), (12, I x12), (13, (I (IntKind.i64.wrap (x13 + 1))))], [], gh5⟩))))) (stK 0 v11 (stK 0 v11 (stK 0 v11 (some (.normal, ⟨[(6, .str s11), (7, B false), (11, v11), (12, I x12), (13, (I (IntKind.i64.wrap (x13 + 1))))], [], gh5⟩)))))) (stK 0 v11 (stK 0 v11 (stK 0 v11 (some (.normal, ⟨[(6, .str s11), (7, B false), (11, v11), (12, I x12), (13, (I (IntKind.i64.wrap (x13 + 1))))], [], gh5⟩)))))))) (some ((.exit 0), ⟨[(6, .str s6), (7, B b7), (11, v11), (12, I x12), (13, I x13), (14, (B (decide (x13 < x12))))], [], gh⟩))
theorem D_trace_line_b1_ok {s6 : ByteArray} {b7 : Bool} {v11 : PV} {x12 x13 : Int} (h : D_trace_line_b1 pg s6 b7 v11 x12 x13 gh = some (e, s)) : runL pg f_trace_line_b1 ⟨[(6, .str s6), (7, B b7), (11, v11), (12, I x12), (13, I x13)], [], gh⟩ = some (e, s) :=
  runX_ok an_trace_line (Eq.trans (by kernel_rfl) h)
def D_trace_line_k1 (pg : Prg) (s6 : ByteArray) (b7 : Bool) (gh : List GObj) : DR := ob (binPV .add (.str s6) (.str (⟨#[10]⟩ : ByteArray))) fun v1 => unS v1 fun s2 => some (.ret, ⟨[(4, .str s2), (5, B b7)], [], gh⟩)
theorem D_trace_line_k1_ok {s6 : ByteArray} {b7 : Bool} (h : D_trace_line_k1 pg s6 b7 gh = some (e, s)) : runL pg f_trace_line_k1 ⟨[(6, .str s6), (7, B b7)], [], gh⟩ = some (e, s) :=
  runX_ok an_trace_line (Eq.trans (by kernel_rfl) h)
def D_trace_line_0 (pg : Prg) (s0 : ByteArray) (v1 : PV) (gh : List GObj) : DR := stK 0 v1 (stK 0 v1 (isC (degr v1) (lenS (degr (degr v1)) fun n1 => stK 0 (degr v1) (
  kR (runL pg f_trace_line_l1 ⟨[(6, .str s0), (7, B true), (11, (degr v1)), (12, (I (n1 : Int))), (13, I 0)], [], gh⟩) (fun e s => nx e s (fun e s => some (e, s)) fun s => kR (runL pg f_trace_line_k1 s) (fun e s => some (e, s)))))))
theorem D_trace_line_0_ok {s0 : ByteArray} {v1 : PV} (h : D_trace_line_0 pg s0 v1 gh = some (e, s)) : runL pg f_trace_line_0 ⟨[(0, .str s0), (1, v1)], [], gh⟩ = some (e, s) :=
  runX_ok an_trace_line (Eq.trans (by kernel_rfl) h)
end
end Go.Lw
end

/-! What the code of function ref_line comes to, piece by piece. Written by program (dprint.py). -/
section
set_option maxRecDepth 10000
set_option maxHeartbeats 4000000
namespace Go.Lw
open Go
noncomputable section
variable {pg : Prg} {gh : List GObj} {e : IExit} {s : St}
def an_ref_line : Tr := (tI 11 (tI 6 (.node 4 (.ce (.str)) (tO 1 (.node 0 (.ce (.str)) .nil .nil) .nil) (uI 5)) (tB 9 (tI 8 (uO 7) .nil) (uI 10))) (.node 17 (.ce (.str)) (tI 14 (tO 13 (.node 12 (.ce (.str)) .nil .nil) .nil) (uI 16)) (.node 20 (.ce (.str)) (.node 19 (.ce (.str)) (.node 18 (.ce (.str)) .nil .nil) .nil) (.node 21 (.ce (.str)) .nil .nil))))
def D_ref_line_b1 (pg : Prg) (s0 : ByteArray) (v1 : PV) (x5 : Int) (gh : List GObj) : DR := isC (degr v1) (lenS (degr (degr v1)) fun n1 => stK 0 v1 (
  br 9 (decide (x5 < (n1 : Int))) (isC (degr v1) (
  idX 1 none (degr (degr v1)) x5 fun p2 =>
  ldX [] gh false 1 (degr p2) fun v3 => unI .i64 v3 fun n4 =>
  callR gh true (callL pg 363 [I n4] gh) fun r5 gh6 => unS r5 fun s7 => ob (binPV .add (.str (⟨#[32]⟩ : ByteArray)) (.str s7)) fun v8 => unS v8 fun s9 => ob (binPV .add (.str s0) (.str s9)) fun v10 => unS v10 fun s11 => stK 0 v1 (stK 0 v1 (stK 0 v1 (some (.normal, ⟨[(0, .str s11), (1, v1), (5, (I (IntKind.i64.wrap (x5 + 1))))], [], gh6⟩)))))) (some ((.exit 0), ⟨[(0, .str s0), (1, v1), (5, I x5), (9, (B (decide (x5 < (n1 : Int)))))], [], gh⟩))))
theorem D_ref_line_b1_ok {s0 : ByteArray} {v1 : PV} {x5 : Int} (h : D_ref_line_b1 pg s0 v1 x5 gh = some (e, s)) : runL pg f_ref_line_b1 ⟨[(0, .str s0), (1, v1), (5, I x5)], [], gh⟩ = some (e, s) :=
  runX_ok an_ref_line (Eq.trans (by kernel_rfl) h)
def D_ref_line_k1 (pg : Prg) (s0 : ByteArray) (gh : List GObj) : DR := ob (binPV .add (.str s0) (.str (⟨#[10]⟩ : ByteArray))) fun v1 => unS v1 fun s2 => some (.ret, ⟨[(4, .str s2)], [], gh⟩)
theorem D_ref_line_k1_ok {s0 : ByteArray} (h : D_ref_line_k1 pg s0 gh = some (e, s)) : runL pg f_ref_line_k1 ⟨[(0, .str s0)], [], gh⟩ = some (e, s) :=
  runX_ok an_ref_line (Eq.trans (by kernel_rfl) h)
def D_ref_line_0 (pg : Prg) (s0 : ByteArray) (v1 : PV) (gh : List GObj) : DR := stK 0 v1 (stK 0 v1 (
  kR (runL pg f_ref_line_l1 ⟨[(0, .str s0), (1, v1), (5, I 0)], [], gh⟩) (fun e s => nx e s (fun e s => some (e, s)) fun s => kR (runL pg f_ref_line_k1 s) (fun e s => some (e, s)))))
theorem D_ref_line_0_ok {s0 : ByteArray} {v1 : PV} (h : D_ref_line_0 pg s0 v1 gh = some (e, s)) : runL pg f_ref_line_0 ⟨[(0, .str s0), (1, v1)], [], gh⟩ = some (e, s) :=
  runX_ok an_ref_line (Eq.trans (by kernel_rfl) h)
end
end Go.Lw
end

/-! What the code of function trace_read comes to, piece by piece. Written by program (dprint.py). -/
section
set_option maxRecDepth 10000
set_option maxHeartbeats 4000000
namespace Go.Lw
open Go
noncomputable section
variable {pg : Prg} {gh : List GObj} {e : IExit} {s : St}
def an_trace_read : Tr := (.node 25 (.ce (.str)) (tO 13 (tO 7 (tO 4 (.node 1 (.ce (.str)) (.node 0 (.ce (.str)) .nil .nil) .nil) (tO 6 (uB 5) .nil)) (tO 11 (tI 10 (.node 9 (.ce (.str)) .nil .nil) .nil) (.node 12 (.ce (.str)) .nil .nil))) (tO 19 (.node 17 (.ce (.str)) (.node 16 (.ce (.str)) (uO 14) .nil) (uB 18)) (tI 22 (tI 21 (uO 20) .nil) (uB 23)))) (.node 35 (.ce (.str)) (tO 30 (.node 28 (.tup 2) (.node 27 (.ce (.str)) (.node 26 (.tup 2) .nil .nil) .nil) (uI 29)) (tB 33 (tB 32 (uO 31) .nil) (uI 34))) (tI 40 (tB 38 (tB 37 (.node 36 (.ce (.str)) .nil .nil) .nil) (uO 39)) (tI 43 (tO 42 (uO 41) .nil) (uO 44)))))
def D_trace_read_b1 (pg : Prg) (v7 v20 : PV) (x21 x22 : Int) (gh : List GObj) : DR :=
  br 23 (decide (x22 < x21)) (
  idX 1 none (degr v20) x22 fun p1 =>
  ldX [] gh false 1 (degr p1) fun v2 => unS v2 fun s3 => stK 0 v7 (stK 0 v20 (
  callR gh true (callL pg 263 [.str s3] gh) fun r4 gh5 => unT 2 r4 fun r6 r7 => unI .i64 (degr1 (degr1 r6)) fun n8 => isC (degr1 (degr1 r7)) (isC (degr (degr1 (degr1 r7))) (stK 0 v7 (stK 0 (degr (degr1 (degr1 r7))) (stK 0 v20 (isC (degr (degr (degr1 (degr1 r7)))) (nilB (degr (degr (degr (degr1 (degr1 r7))))) fun b9 =>
  br 33 (!b9) (stK 0 v7 (stK 0 v20 (some (.ret, ⟨[(4, .sl true 1 []), (5, B false)], [], gh5⟩)))) (
  callR gh5 true (callL pg 260 [I n8] gh5) fun r10 gh11 => unS r10 fun s12 => stK 0 v7 (stK 0 v20 (
  br 38 (!(ByteArray.toList s12 == ByteArray.toList s3)) (some (.ret, ⟨[(4, .sl true 1 []), (5, B false)], [], gh11⟩)) (
  apX 1 8 v7 (.sl false 1 [I n8]) fun l13 => stK 0 v20 (stK 0 v20 (stK 0 v20 (some (.normal, ⟨[(7, .sl true 1 l13), (20, v20), (21, I x21), (22, (I (IntKind.i64.wrap (x22 + 1))))], [], gh11⟩))))))))))))))))) (some ((.exit 0), ⟨[(7, v7), (20, v20), (21, I x21), (22, I x22), (23, (B (decide (x22 < x21))))], [], gh⟩))
theorem D_trace_read_b1_ok {v7 v20 : PV} {x21 x22 : Int} (h : D_trace_read_b1 pg v7 v20 x21 x22 gh = some (e, s)) : runL pg f_trace_read_b1 ⟨[(7, v7), (20, v20), (21, I x21), (22, I x22)], [], gh⟩ = some (e, s) :=
  runX_ok an_trace_read (Eq.trans (by kernel_rfl) h)
def D_trace_read_k1 (pg : Prg) (v7 : PV) (gh : List GObj) : DR := isC (degr v7) (stK 0 (degr v7) (some (.ret, ⟨[(4, (degr v7)), (5, B true)], [], gh⟩)))
theorem D_trace_read_k1_ok {v7 : PV} (h : D_trace_read_k1 pg v7 gh = some (e, s)) : runL pg f_trace_read_k1 ⟨[(7, v7)], [], gh⟩ = some (e, s) :=
  runX_ok an_trace_read (Eq.trans (by kernel_rfl) h)
def D_trace_read_0 (pg : Prg) (s0 s1 : ByteArray) (gh : List GObj) : DR :=
  callR gh true (callL pg 262 [.str s0, (.str (⟨#[32]⟩ : ByteArray))] gh) fun r1 gh2 => isC r1 (stK 0 r1 (isC (degr r1) (
  idX 1 none (degr (degr r1)) 0 fun p3 =>
  ldX [] gh2 false 1 (degr p3) fun v4 => unS v4 fun s5 => stK 0 r1 (
  br 18 (!(ByteArray.toList s5 == ByteArray.toList s1)) (some (.ret, ⟨[(4, .sl true 1 []), (5, B false)], [], gh2⟩)) (stK 0 r1 (isC (degr r1) (
  slX 1 (degr (degr r1)) (some 1) none fun v6 => isC v6 (lenS (degr v6) fun n7 => stK 0 v6 (
  kR (runL pg f_trace_read_l1 ⟨[(7, .sl true 1 []), (20, v6), (21, (I (n7 : Int))), (22, I 0)], [], gh2⟩) (fun e s => nx e s (fun e s => some (e, s)) fun s => kR (runL pg f_trace_read_k1 s) (fun e s => some (e, s))))))))))))
theorem D_trace_read_0_ok {s0 s1 : ByteArray} (h : D_trace_read_0 pg s0 s1 gh = some (e, s)) : runL pg f_trace_read_0 ⟨[(0, .str s0), (1, .str s1)], [], gh⟩ = some (e, s) :=
  runX_ok an_trace_read (Eq.trans (by kernel_rfl) h)
end
end Go.Lw
end

/-! What the code of function ref_between comes to, piece by piece. Written by program (dprint.py). -/
section
set_option maxRecDepth 10000
set_option maxHeartbeats 4000000
namespace Go.Lw
open Go
noncomputable section
variable {pg : Prg} {gh : List GObj} {e : IExit} {s : St}
def an_ref_between : Tr := (tB 9 (tB 6 (tI 1 (uI 0) (uI 2)) (tI 8 (uI 7) .nil)) (tI 12 (tI 11 (uB 10) .nil) (tB 14 (uB 13) .nil)))
def D_ref_between_0 (pg : Prg) (x0 x1 x2 : Int) (gh : List GObj) : DR :=
  br 10 (decide (x1 ≤ x0)) (some (.ret, ⟨[(6, (B (decide (x0 ≤ x2))))], [], gh⟩)) (some (.ret, ⟨[(6, B false)], [], gh⟩))
theorem D_ref_between_0_ok {x0 x1 x2 : Int} (h : D_ref_between_0 pg x0 x1 x2 gh = some (e, s)) : runL pg f_ref_between_0 ⟨[(0, I x0), (1, I x1), (2, I x2)], [], gh⟩ = some (e, s) :=
  runX_ok an_ref_between (Eq.trans (by kernel_rfl) h)
end
end Go.Lw
end

/-! What the code of function trace_Print comes to, piece by piece. Written by program (dprint.py). -/
section
set_option maxRecDepth 10000
set_option maxHeartbeats 4000000
namespace Go.Lw
open Go
noncomputable section
variable {pg : Prg} {gh : List GObj} {e : IExit} {s : St}
def an_trace_Print : Tr := (.node 33 (.tup 2) (tO 18 (tO 9 (tO 5 (.node 2 (.ce (.str)) (.node 0 (.agg [.any, .any]) .nil .nil) (uI 3)) (tB 7 (.node 6 (.ce (.str)) .nil .nil) .nil)) (tI 14 (tB 11 (.node 10 (.ce (.str)) .nil .nil) (uO 13)) (tB 16 (uB 15) .nil))) (tB 26 (tO 23 (tB 20 (uI 19) (uB 21)) (tI 25 (uI 24) .nil)) (tI 30 (tO 29 (uO 28) .nil) (tI 32 (uB 31) .nil)))) (.node 49 (.ce (.str)) (tI 42 (tB 38 (.node 36 (.tup 2) (uO 35) (.node 37 (.ce (.str)) .nil .nil)) (tI 41 (uO 40) .nil)) (.node 46 (.tup 2) (tO 45 (uB 43) .nil) (.node 48 (.tup 2) (uO 47) .nil))) (tB 56 (.node 53 (.ce (.str)) (.node 51 (.ce (.str)) (uB 50) (.node 52 (.ce (.str)) .nil .nil)) (tB 55 (uB 54) .nil)) (tB 59 (tI 58 (uB 57) .nil) (.node 61 (.ce (.str)) (uB 60) .nil)))))
def D_trace_Print_b1 (pg : Prg) (v23 : PV) (x24 x25 : Int) (vc0_0 vc0_1 : PV) (gh : List GObj) : DR :=
  br 26 (decide (x25 < x24)) (
  idX 1 none (degr v23) x25 fun p1 =>
  ldX [[vc0_0, vc0_1]] gh false 1 (degr p1) fun v2 => isC v2 (stK 1 v2 (stK 1 v23 (isC (degr v2) (lenS (degr (degr v2)) fun n3 => stK 1 v23 (
  br 31 (decide (20 < (n3 : Int))) (some (.ret, ⟨[(2, .str ByteArray.empty), (3, I 2)], [], gh⟩)) (stK 1 v23 (stK 1 v23 (some (.normal, ⟨[(1, .ptr false 0 0), (23, v23), (24, I x24), (25, (I (IntKind.i64.wrap (x25 + 1))))], [[vc0_0, vc0_1]], gh⟩)))))))))) (some ((.exit 0), ⟨[(1, .ptr false 0 0), (23, v23), (24, I x24), (25, I x25), (26, (B (decide (x25 < x24))))], [[vc0_0, vc0_1]], gh⟩))
theorem D_trace_Print_b1_ok {v23 : PV} {x24 x25 : Int} {vc0_0 vc0_1 : PV} (h : D_trace_Print_b1 pg v23 x24 x25 vc0_0 vc0_1 gh = some (e, s)) : runL pg f_trace_Print_b1 ⟨[(1, .ptr false 0 0), (23, v23), (24, I x24), (25, I x25)], [[vc0_0, vc0_1]], gh⟩ = some (e, s) :=
  runX_ok an_trace_Print (Eq.trans (by kernel_rfl) h)
def D_trace_Print_b2 (pg : Prg) (s6 : ByteArray) (b7 : Bool) (v40 : PV) (x41 x42 : Int) (gh : List GObj) : DR :=
  br 43 (decide (x42 < x41)) (
  idX 1 none (degr v40) x42 fun p1 =>
  ldX [] gh false 1 (degr p1) fun v2 => isC v2 (stK 0 v2 (stK 0 v40 (isC (degr v2) (arK (degr (degr v2)) (
  callR gh true (callL pg 254 [(.str (⟨#[105, 110]⟩ : ByteArray)), (degr (degr v2))] gh) fun r3 gh4 => unT 2 r3 fun r5 r6 => unS (degr1 (degr1 r5)) fun s7 => unB (degr1 (degr1 r6)) fun b8 => stK 0 v40 (ob (binPV .add (.str s6) (.str s7)) fun v9 => unS v9 fun s10 => stK 0 v40 (
  br 55 b7 (stK 0 v40 (stK 0 v40 (stK 0 v40 (some (.normal, ⟨[(6, .str s10), (7, B b8), (40, v40), (41, I x41), (42, (I (IntKind.i64.wrap (x42 + 1))))], [], gh4⟩))))) (stK 0 v40 (stK 0 v40 (stK 0 v40 (some (.normal, ⟨[(6, .str s10), (7, B false), (40, v40), (41, I x41), (42, (I (IntKind.i64.wrap (x42 + 1))))], [], gh4⟩))))))))))))) (some ((.exit 2), ⟨[(6, .str s6), (7, B b7), (40, v40), (41, I x41), (42, I x42), (43, (B (decide (x42 < x41))))], [], gh⟩))
theorem D_trace_Print_b2_ok {s6 : ByteArray} {b7 : Bool} {v40 : PV} {x41 x42 : Int} (h : D_trace_Print_b2 pg s6 b7 v40 x41 x42 gh = some (e, s)) : runL pg f_trace_Print_b2 ⟨[(6, .str s6), (7, B b7), (40, v40), (41, I x41), (42, I x42)], [], gh⟩ = some (e, s) :=
  runX_ok an_trace_Print (Eq.trans (by kernel_rfl) h)
def D_trace_Print_k2 (pg : Prg) (s6 : ByteArray) (b7 : Bool) (gh : List GObj) : DR :=
  br 60 (!b7) (some (.ret, ⟨[(2, .str ByteArray.empty), (3, I 3)], [], gh⟩)) (some (.ret, ⟨[(2, .str s6), (3, I 0)], [], gh⟩))
theorem D_trace_Print_k2_ok {s6 : ByteArray} {b7 : Bool} (h : D_trace_Print_k2 pg s6 b7 gh = some (e, s)) : runL pg f_trace_Print_k2 ⟨[(6, .str s6), (7, B b7)], [], gh⟩ = some (e, s) :=
  runX_ok an_trace_Print (Eq.trans (by kernel_rfl) h)
def D_trace_Print_k1 (pg : Prg) (vc0_0 vc0_1 : PV) (gh : List GObj) : DR := isC (degr vc0_0) (arK (degr (degr vc0_0)) (
  callR gh true (callL pg 254 [(.str (⟨#[115, 116, 97, 114, 116]⟩ : ByteArray)), (degr (degr vc0_0))] gh) fun r1 gh2 => unT 2 r1 fun r3 r4 => unS (degr1 (degr1 r3)) fun s5 => unB (degr1 (degr1 r4)) fun b6 => isC (degr vc0_1) (lenS (degr (degr vc0_1)) fun n7 => stK 0 (degr vc0_1) (
  kR (runL pg f_trace_Print_l2 ⟨[(6, .str s5), (7, B b6), (40, (degr vc0_1)), (41, (I (n7 : Int))), (42, I 0)], [], gh2⟩) (fun e s => nx e s (fun e s => some (e, s)) fun s => kR (runL pg f_trace_Print_k2 s) (fun e s => some (e, s)))))))
theorem D_trace_Print_k1_ok {vc0_0 vc0_1 : PV} (h : D_trace_Print_k1 pg vc0_0 vc0_1 gh = some (e, s)) : runL pg f_trace_Print_k1 ⟨[(1, .ptr false 0 0)], [[vc0_0, vc0_1]], gh⟩ = some (e, s) :=
  runX_ok an_trace_Print (Eq.trans (by kernel_rfl) h)
def D_trace_Print_0 (pg : Prg) (v0_0 v0_1 : PV) (gh : List GObj) : DR := onK (degr1 v0_0) (onK (degr1 v0_1) (isC (degr (degr1 v0_1)) (lenS (degr (degr (degr1 v0_1))) fun n1 =>
  br 16 (decide (41 < (n1 : Int))) (some (.ret, ⟨[(2, .str ByteArray.empty), (3, I 2)], [], gh⟩)) (isC (degr (degr1 v0_0)) (lenS (degr (degr (degr1 v0_0))) fun n2 =>
  br 21 (decide (20 < (n2 : Int))) (some (.ret, ⟨[(2, .str ByteArray.empty), (3, I 2)], [], gh⟩)) (isC (degr (degr1 v0_1)) (lenS (degr (degr (degr1 v0_1))) fun n3 => stK 1 (degr (degr1 v0_1)) (
  kR (runL pg f_trace_Print_l1 ⟨[(1, .ptr false 0 0), (23, (degr (degr1 v0_1))), (24, (I (n3 : Int))), (25, I 0)], [[(degr1 v0_0), (degr1 v0_1)]], gh⟩) (fun e s => nx e s (fun e s => some (e, s)) fun s => kR (runL pg f_trace_Print_k1 s) (fun e s => some (e, s)))))))))))
theorem D_trace_Print_0_ok {v0_0 v0_1 : PV} (h : D_trace_Print_0 pg v0_0 v0_1 gh = some (e, s)) : runL pg f_trace_Print_0 ⟨[(0, .agg [v0_0, v0_1])], [], gh⟩ = some (e, s) :=
  runX_ok an_trace_Print (Eq.trans (by kernel_rfl) h)
end
end Go.Lw
end

/-! What the code of function ref_PrintTrace comes to, piece by piece. Written by program (dprint.py). -/
section
set_option maxRecDepth 10000
set_option maxHeartbeats 4000000
namespace Go.Lw
open Go
noncomputable section
variable {pg : Prg} {gh : List GObj} {e : IExit} {s : St}
def an_ref_PrintTrace : Tr := (tI 38 (tO 20 (tI 9 (tB 5 (tI 3 (.node 2 (.ce (.str)) (.node 0 (.agg [.any, .any]) .nil .nil) .nil) (uO 4)) (.node 7 (.ce (.str)) (uB 6) (uI 8))) (tO 16 (tO 14 (tO 12 (uO 11) .nil) (uO 15)) (tB 18 (uI 17) (uI 19)))) (tB 29 (tB 25 (tB 23 (tB 22 (uI 21) .nil) (uB 24)) (tI 27 (uB 26) (uI 28))) (tO 34 (tO 31 (uB 30) (uI 32)) (tB 36 (uI 35) (uB 37))))) (tI 59 (tB 48 (tB 44 (tO 42 (tI 40 (uO 39) .nil) (uI 43)) (tI 46 (uI 45) (uB 47))) (tI 55 (tO 52 (tI 50 (uO 49) .nil) (uI 53)) (tB 57 (uB 56) (uB 58)))) (tO 69 (tO 65 (tO 62 (.node 61 (.ce (.str)) (uB 60) .nil) (uI 63)) (.node 67 (.ce (.str)) (.node 66 (.ce (.str)) .nil .nil) (.node 68 (.ce (.str)) .nil .nil))) (.node 74 (.ce (.str)) (tO 72 (uI 70) (.node 73 (.ce (.str)) .nil .nil)) (tB 76 (uB 75) (.node 77 (.ce (.str)) .nil .nil))))))
def D_ref_PrintTrace_b2 (pg : Prg) (v4 : PV) (b5 b6 : Bool) (s7 : ByteArray) (x8 x9 : Int) (gh : List GObj) : DR := isC (degr v4) (
  idX 1 none (degr (degr v4)) x8 fun p1 =>
  ldX [] gh false 1 (degr p1) fun v2 => isC v2 (lenS (degr v2) fun n3 => stK 0 v4 (
  br 44 (decide (x9 < (n3 : Int))) (
  br 48 b6 (stK 0 v4 (stK 0 v4 (stK 0 v4 (some (.normal, ⟨[(4, v4), (5, B b5), (6, B true), (7, .str s7), (8, I x8), (9, (I (IntKind.i64.wrap (x9 + 1))))], [], gh⟩))))) (isC (degr v4) (
  idX 1 none (degr (degr v4)) x8 fun p4 =>
  ldX [] gh false 1 (degr p4) fun v5 => isC v5 (
  idX 1 none (degr v5) x9 fun p6 =>
  ldX [] gh false 1 (degr p6) fun v7 => unI .i64 v7 fun n8 =>
  callR gh true (callL pg 50 [I n8, I 0, I 255] gh) fun r9 gh10 => unB r9 fun b11 => stK 0 v4 (stK 0 v4 (stK 0 v4 (some (.normal, ⟨[(4, v4), (5, B b5), (6, (B (!b11))), (7, .str s7), (8, I x8), (9, (I (IntKind.i64.wrap (x9 + 1))))], [], gh10⟩)))))))) (some ((.exit 2), ⟨[(4, v4), (5, B b5), (6, B b6), (7, .str s7), (8, I x8), (9, I x9), (44, (B (decide (x9 < (n3 : Int)))))], [], gh⟩)))))
theorem D_ref_PrintTrace_b2_ok {v4 : PV} {b5 b6 : Bool} {s7 : ByteArray} {x8 x9 : Int} (h : D_ref_PrintTrace_b2 pg v4 b5 b6 s7 x8 x9 gh = some (e, s)) : runL pg f_ref_PrintTrace_b2 ⟨[(4, v4), (5, B b5), (6, B b6), (7, .str s7), (8, I x8), (9, I x9)], [], gh⟩ = some (e, s) :=
  runX_ok an_ref_PrintTrace (Eq.trans (by kernel_rfl) h)
def D_ref_PrintTrace_k1 (pg : Prg) (v4 : PV) (b5 b6 : Bool) (s7 : ByteArray) (x8 : Int) (gh : List GObj) : DR := stK 0 v4 (
  br 60 (x8 == 0) (isC (degr v4) (
  idX 1 none (degr (degr v4)) x8 fun p1 =>
  ldX [] gh false 1 (degr p1) fun v2 => isC v2 (arK (degr v2) (
  callR gh true (callL pg 355 [(.str (⟨#[115, 116, 97, 114, 116]⟩ : ByteArray)), (degr v2)] gh) fun r3 gh4 => unS r3 fun s5 => ob (binPV .add (.str s7) (.str s5)) fun v6 => unS v6 fun s8 => stK 0 v4 (stK 0 v4 (some (.normal, ⟨[(4, v4), (5, B b5), (6, B b6), (7, .str s8), (8, I x8)], [], gh4⟩))))))) (isC (degr v4) (
  idX 1 none (degr (degr v4)) x8 fun p9 =>
  ldX [] gh false 1 (degr p9) fun v10 => isC v10 (arK (degr v10) (
  callR gh true (callL pg 355 [(.str (⟨#[105, 110]⟩ : ByteArray)), (degr v10)] gh) fun r11 gh12 => unS r11 fun s13 => ob (binPV .add (.str s7) (.str s13)) fun v14 => unS v14 fun s15 => stK 0 v4 (stK 0 v4 (some (.normal, ⟨[(4, v4), (5, B b5), (6, B b6), (7, .str s15), (8, I x8)], [], gh12⟩))))))))
theorem D_ref_PrintTrace_k1_ok {v4 : PV} {b5 b6 : Bool} {s7 : ByteArray} {x8 : Int} (h : D_ref_PrintTrace_k1 pg v4 b5 b6 s7 x8 gh = some (e, s)) : runL pg f_ref_PrintTrace_k1 ⟨[(4, v4), (5, B b5), (6, B b6), (7, .str s7), (8, I x8)], [], gh⟩ = some (e, s) :=
  runX_ok an_ref_PrintTrace (Eq.trans (by kernel_rfl) h)
def D_ref_PrintTrace_k2 (pg : Prg) (v4 : PV) (b5 b6 : Bool) (s7 : ByteArray) (x8 : Int) (gh : List GObj) : DR := stK 0 v4 (some (.normal, ⟨[(4, v4), (5, B b5), (6, B b6), (7, .str s7), (8, (I (IntKind.i64.wrap (x8 + 1))))], [], gh⟩))
theorem D_ref_PrintTrace_k2_ok {v4 : PV} {b5 b6 : Bool} {s7 : ByteArray} {x8 : Int} (h : D_ref_PrintTrace_k2 pg v4 b5 b6 s7 x8 gh = some (e, s)) : runL pg f_ref_PrintTrace_k2 ⟨[(4, v4), (5, B b5), (6, B b6), (7, .str s7), (8, I x8)], [], gh⟩ = some (e, s) :=
  runX_ok an_ref_PrintTrace (Eq.trans (by kernel_rfl) h)
def D_ref_PrintTrace_b1 (pg : Prg) (v4 : PV) (b5 b6 : Bool) (s7 : ByteArray) (x8 : Int) (gh : List GObj) : DR := isC (degr v4) (lenS (degr (degr v4)) fun n1 =>
  br 23 (decide (x8 < (n1 : Int))) (stK 0 v4 (
  br 26 (!b5) (
  br 30 b5 (stK 0 v4 (stK 0 v4 (
  kR (runL pg f_ref_PrintTrace_l2 ⟨[(4, v4), (5, B true), (6, B b6), (7, .str s7), (8, I x8), (9, I 0)], [], gh⟩) (fun e s => nx e s (fun e s => bk 1 e s (fun e s => nx e s (fun e s => po [4, 5, 6, 7, 8] 0 e s (fun e s => some (e, s))) fun s => kR (runL pg f_ref_PrintTrace_k2 s) (fun e s => po [4, 5, 6, 7, 8] 0 e s (fun e s => some (e, s))))) fun s => kR (runL pg f_ref_PrintTrace_k1 s) (fun e s => bk 1 e s (fun e s => nx e s (fun e s => po [4, 5, 6, 7, 8] 0 e s (fun e s => some (e, s))) fun s => kR (runL pg f_ref_PrintTrace_k2 s) (fun e s => po [4, 5, 6, 7, 8] 0 e s (fun e s => some (e, s))))))))) (isC (degr v4) (
  idX 1 none (degr (degr v4)) x8 fun p2 =>
  ldX [] gh false 1 (degr p2) fun v3 => isC v3 (lenS (degr v3) fun n4 => stK 0 v4 (stK 0 v4 (
  kR (runL pg f_ref_PrintTrace_l2 ⟨[(4, v4), (5, (B (decide (20 < (n4 : Int))))), (6, B b6), (7, .str s7), (8, I x8), (9, I 0)], [], gh⟩) (fun e s => nx e s (fun e s => bk 1 e s (fun e s => nx e s (fun e s => po [4, 5, 6, 7, 8] 0 e s (fun e s => some (e, s))) fun s => kR (runL pg f_ref_PrintTrace_k2 s) (fun e s => po [4, 5, 6, 7, 8] 0 e s (fun e s => some (e, s))))) fun s => kR (runL pg f_ref_PrintTrace_k1 s) (fun e s => bk 1 e s (fun e s => nx e s (fun e s => po [4, 5, 6, 7, 8] 0 e s (fun e s => some (e, s))) fun s => kR (runL pg f_ref_PrintTrace_k2 s) (fun e s => po [4, 5, 6, 7, 8] 0 e s (fun e s => some (e, s)))))))))))) (some ((.exit 0), ⟨[(4, v4), (5, B b5), (6, B b6), (7, .str s7), (8, I x8), (26, (B (!b5)))], [], gh⟩)))) (stK 0 v4 (some ((.exit 0), ⟨[(4, v4), (5, B b5), (6, B b6), (7, .str s7), (8, I x8), (26, B false)], [], gh⟩))))
theorem D_ref_PrintTrace_b1_ok {v4 : PV} {b5 b6 : Bool} {s7 : ByteArray} {x8 : Int} (h : D_ref_PrintTrace_b1 pg v4 b5 b6 s7 x8 gh = some (e, s)) : runL pg f_ref_PrintTrace_b1 ⟨[(4, v4), (5, B b5), (6, B b6), (7, .str s7), (8, I x8)], [], gh⟩ = some (e, s) :=
  runX_ok an_ref_PrintTrace (Eq.trans (by kernel_rfl) h)
def D_ref_PrintTrace_k3 (pg : Prg) (b5 b6 : Bool) (s7 : ByteArray) (gh : List GObj) : DR :=
  br 75 b5 (some (.ret, ⟨[(2, .str ByteArray.empty), (3, I 2)], [], gh⟩)) (
  br 76 b6 (some (.ret, ⟨[(2, .str ByteArray.empty), (3, I 3)], [], gh⟩)) (some (.ret, ⟨[(2, .str s7), (3, I 0)], [], gh⟩)))
theorem D_ref_PrintTrace_k3_ok {b5 b6 : Bool} {s7 : ByteArray} (h : D_ref_PrintTrace_k3 pg b5 b6 s7 gh = some (e, s)) : runL pg f_ref_PrintTrace_k3 ⟨[(5, B b5), (6, B b6), (7, .str s7)], [], gh⟩ = some (e, s) :=
  runX_ok an_ref_PrintTrace (Eq.trans (by kernel_rfl) h)
def D_ref_PrintTrace_0 (pg : Prg) (v0_0 v0_1 : PV) (gh : List GObj) : DR := onK (degr1 v0_0) (onK (degr1 v0_1) (isC (degr (degr1 v0_0)) (arK (degr (degr (degr1 v0_0))) (lnK 1 (degr (degr (degr1 v0_0))) (isC (degr (degr1 v0_1)) (
  apX 1 24 (.sl true 1 [(degr (degr (degr1 v0_0)))]) (degr (degr (degr1 v0_1))) fun l1 => lenS (.sl false 1 l1) fun n2 =>
  kR (runL pg f_ref_PrintTrace_l1 ⟨[(4, .sl true 1 l1), (5, (B (decide (42 < (n2 : Int))))), (6, B false), (7, .str ByteArray.empty), (8, I 0)], [], gh⟩) (fun e s => nx e s (fun e s => some (e, s)) fun s => kR (runL pg f_ref_PrintTrace_k3 s) (fun e s => some (e, s)))))))))
theorem D_ref_PrintTrace_0_ok {v0_0 v0_1 : PV} (h : D_ref_PrintTrace_0 pg v0_0 v0_1 gh = some (e, s)) : runL pg f_ref_PrintTrace_0 ⟨[(0, .agg [v0_0, v0_1])], [], gh⟩ = some (e, s) :=
  runX_ok an_ref_PrintTrace (Eq.trans (by kernel_rfl) h)
end
end Go.Lw
end

/-! What the code of function trace_Parse comes to, piece by piece. Written by program (dprint.py). -/
section
set_option maxRecDepth 10000
set_option maxHeartbeats 4000000
namespace Go.Lw
open Go
noncomputable section
variable {pg : Prg} {gh : List GObj} {e : IExit} {s : St}
def an_trace_Parse : Tr := (.node 31 (.ce (.str)) (tI 17 (tO 10 (.node 6 (.ce (.str)) (tI 3 (.node 0 (.ce (.str)) .nil .nil) (uI 5)) (tB 8 (.node 7 (.ce (.str)) .nil .nil) (.node 9 (.ce (.str)) .nil .nil))) (.node 14 (.ce (.str)) (.node 12 (.ce (.str)) (uB 11) (uI 13)) (tB 16 (uB 15) .nil))) (.node 24 (.tup 3) (tI 21 (tB 19 (uB 18) (uI 20)) (.node 23 (.ce (.str)) (.node 22 (.tup 3) .nil .nil) .nil)) (tI 28 (.node 26 (.ce (.str)) (.node 25 (.ce (.str)) .nil .nil) (uB 27)) (.node 30 (.tup 2) (uB 29) .nil)))) (tO 48 (tB 39 (tB 35 (.node 33 (.tup 2) (.node 32 (.ce (.str)) .nil .nil) (uO 34)) (tB 37 (uB 36) (uB 38))) (tI 43 (tB 41 (uB 40) (.node 42 (.agg [.any, .any]) .nil .nil)) (tO 45 (uB 44) .nil))) (.node 56 (.tup 2) (.node 53 (.ce (.str)) (tO 50 (uO 49) (uO 51)) (.node 55 (.agg [.any, .any]) (.node 54 (.tup 2) .nil .nil) .nil)) (tB 60 (tI 58 (.node 57 (.ce (.str)) .nil .nil) (uI 59)) (.node 62 (.agg [.any, .any]) (.node 61 (.agg [.any, .any]) .nil .nil) .nil)))))
def D_trace_Parse_k2 (pg : Prg) (x5 : Int) (s7 : ByteArray) (vc0_0 vc0_1 : PV) (vc1_0 vc1_1 : PV) (gh : List GObj) : DR := some (.normal, ⟨[(0, .str s7), (2, .ptr false 0 0), (4, .ptr false 1 0), (5, I x5)], [[vc0_0, vc0_1], [vc1_0, vc1_1]], gh⟩)
theorem D_trace_Parse_k2_ok {x5 : Int} {s7 : ByteArray} {vc0_0 vc0_1 : PV} {vc1_0 vc1_1 : PV} (h : D_trace_Parse_k2 pg x5 s7 vc0_0 vc0_1 vc1_0 vc1_1 gh = some (e, s)) : runL pg f_trace_Parse_k2 ⟨[(2, .ptr false 0 0), (4, .ptr false 1 0), (5, I x5), (7, .str s7)], [[vc0_0, vc0_1], [vc1_0, vc1_1]], gh⟩ = some (e, s) :=
  runX_ok an_trace_Parse (Eq.trans (by kernel_rfl) h)
def D_trace_Parse_k1 (pg : Prg) (x5 : Int) (s6 s7 : ByteArray) (b8 : Bool) (s9 : ByteArray) (vc0_0 vc0_1 : PV) (vc1_0 vc1_1 : PV) (gh : List GObj) : DR :=
  callR gh true (callL pg 256 [.str s6, .str s9] gh) fun r1 gh2 => unT 2 r1 fun r3 r4 => isC (degr1 (degr1 r3)) (unB (degr1 (degr1 r4)) fun b5 => stK 2 (degr1 (degr1 r3)) (
  br 38 (!b8) (stK 2 (degr1 (degr1 r3)) (some (.ret, ⟨[(2, .ptr false 0 0), (3, I 1)], [[.sl true 1 [], .sl true 1 []]], gh2⟩))) (stK 2 (degr1 (degr1 r3)) (
  br 41 (!b5) (some (.ret, ⟨[(2, .ptr false 0 0), (3, I 1)], [[.sl true 1 [], .sl true 1 []]], gh2⟩)) (stK 2 (degr1 (degr1 r3)) (
  br 44 (x5 == 0) (isC (degr (degr1 (degr1 r3))) (arK (degr (degr1 (degr1 r3))) (isC (degr (degr1 (degr1 r3))) (
  kR (runL pg f_trace_Parse_k2 ⟨[(2, .ptr false 0 0), (4, .ptr false 1 0), (5, I x5), (7, .str s7)], [[vc0_0, vc0_1], [(degr (degr1 (degr1 r3))), vc1_1]], gh2⟩) (fun e s => some (e, s)))))) (isC (degr (degr1 (degr1 r3))) (arK (degr (degr (degr1 (degr1 r3)))) (lnK 1 (degr (degr (degr1 (degr1 r3)))) (
  apX 1 24 vc1_1 (.sl false 1 [(degr (degr (degr1 (degr1 r3))))]) fun l6 =>
  kR (runL pg f_trace_Parse_k2 ⟨[(2, .ptr false 0 0), (4, .ptr false 1 0), (5, I x5), (7, .str s7)], [[vc0_0, vc0_1], [vc1_0, .sl true 1 l6]], gh2⟩) (fun e s => some (e, s))))))))))))
theorem D_trace_Parse_k1_ok {x5 : Int} {s6 s7 : ByteArray} {b8 : Bool} {s9 : ByteArray} {vc0_0 vc0_1 : PV} {vc1_0 vc1_1 : PV} (h : D_trace_Parse_k1 pg x5 s6 s7 b8 s9 vc0_0 vc0_1 vc1_0 vc1_1 gh = some (e, s)) : runL pg f_trace_Parse_k1 ⟨[(2, .ptr false 0 0), (4, .ptr false 1 0), (5, I x5), (6, .str s6), (7, .str s7), (8, B b8), (9, .str s9)], [[vc0_0, vc0_1], [vc1_0, vc1_1]], gh⟩ = some (e, s) :=
  runX_ok an_trace_Parse (Eq.trans (by kernel_rfl) h)
def D_trace_Parse_k3 (pg : Prg) (s0 : ByteArray) (x5 : Int) (vc0_0 vc0_1 : PV) (vc1_0 vc1_1 : PV) (gh : List GObj) : DR := some (.normal, ⟨[(0, .str s0), (2, .ptr false 0 0), (4, .ptr false 1 0), (5, (I (IntKind.i64.wrap (x5 + 1))))], [[vc0_0, vc0_1], [vc1_0, vc1_1]], gh⟩)
theorem D_trace_Parse_k3_ok {s0 : ByteArray} {x5 : Int} {vc0_0 vc0_1 : PV} {vc1_0 vc1_1 : PV} (h : D_trace_Parse_k3 pg s0 x5 vc0_0 vc0_1 vc1_0 vc1_1 gh = some (e, s)) : runL pg f_trace_Parse_k3 ⟨[(0, .str s0), (2, .ptr false 0 0), (4, .ptr false 1 0), (5, I x5)], [[vc0_0, vc0_1], [vc1_0, vc1_1]], gh⟩ = some (e, s) :=
  runX_ok an_trace_Parse (Eq.trans (by kernel_rfl) h)
def D_trace_Parse_b1 (pg : Prg) (s0 : ByteArray) (x5 : Int) (vc0_0 vc0_1 : PV) (vc1_0 vc1_1 : PV) (gh : List GObj) : DR :=
  br 16 (!(ByteArray.toList s0 == ByteArray.toList ByteArray.empty)) (
  callR gh true (callL pg 255 [.str s0, (.str (⟨#[10]⟩ : ByteArray))] gh) fun r1 gh2 => unT 3 r1 fun r3 r4 r5 => unS (degr1 (degr1 r3)) fun s6 => unS (degr1 (degr1 r4)) fun s7 => unB (degr1 (degr1 r5)) fun b8 =>
  br 29 (x5 == 0) (
  kR (runL pg f_trace_Parse_k1 ⟨[(2, .ptr false 0 0), (4, .ptr false 1 0), (5, I x5), (6, .str s6), (7, .str s7), (8, B b8), (9, (.str (⟨#[115, 116, 97, 114, 116]⟩ : ByteArray)))], [[vc0_0, vc0_1], [vc1_0, vc1_1]], gh2⟩) (fun e s => bk 1 e s (fun e s => nx e s (fun e s => po [0, 2, 4, 5] 2 e s (fun e s => some (e, s))) fun s => kR (runL pg f_trace_Parse_k3 s) (fun e s => po [0, 2, 4, 5] 2 e s (fun e s => some (e, s)))))) (
  kR (runL pg f_trace_Parse_k1 ⟨[(2, .ptr false 0 0), (4, .ptr false 1 0), (5, I x5), (6, .str s6), (7, .str s7), (8, B b8), (9, (.str (⟨#[105, 110]⟩ : ByteArray)))], [[vc0_0, vc0_1], [vc1_0, vc1_1]], gh2⟩) (fun e s => bk 1 e s (fun e s => nx e s (fun e s => po [0, 2, 4, 5] 2 e s (fun e s => some (e, s))) fun s => kR (runL pg f_trace_Parse_k3 s) (fun e s => po [0, 2, 4, 5] 2 e s (fun e s => some (e, s))))))) (
  br 19 (x5 == 0) (
  callR gh true (callL pg 255 [.str s0, (.str (⟨#[10]⟩ : ByteArray))] gh) fun r9 gh10 => unT 3 r9 fun r11 r12 r13 => unS (degr1 (degr1 r11)) fun s14 => unS (degr1 (degr1 r12)) fun s15 => unB (degr1 (degr1 r13)) fun b16 =>
  br 29 (x5 == 0) (
  kR (runL pg f_trace_Parse_k1 ⟨[(2, .ptr false 0 0), (4, .ptr false 1 0), (5, I x5), (6, .str s14), (7, .str s15), (8, B b16), (9, (.str (⟨#[115, 116, 97, 114, 116]⟩ : ByteArray)))], [[vc0_0, vc0_1], [vc1_0, vc1_1]], gh10⟩) (fun e s => bk 1 e s (fun e s => nx e s (fun e s => po [0, 2, 4, 5] 2 e s (fun e s => some (e, s))) fun s => kR (runL pg f_trace_Parse_k3 s) (fun e s => po [0, 2, 4, 5] 2 e s (fun e s => some (e, s)))))) (
  kR (runL pg f_trace_Parse_k1 ⟨[(2, .ptr false 0 0), (4, .ptr false 1 0), (5, I x5), (6, .str s14), (7, .str s15), (8, B b16), (9, (.str (⟨#[105, 110]⟩ : ByteArray)))], [[vc0_0, vc0_1], [vc1_0, vc1_1]], gh10⟩) (fun e s => bk 1 e s (fun e s => nx e s (fun e s => po [0, 2, 4, 5] 2 e s (fun e s => some (e, s))) fun s => kR (runL pg f_trace_Parse_k3 s) (fun e s => po [0, 2, 4, 5] 2 e s (fun e s => some (e, s))))))) (some ((.exit 0), ⟨[(0, .str s0), (2, .ptr false 0 0), (4, .ptr false 1 0), (5, I x5), (19, (B (x5 == 0)))], [[vc0_0, vc0_1], [vc1_0, vc1_1]], gh⟩)))
theorem D_trace_Parse_b1_ok {s0 : ByteArray} {x5 : Int} {vc0_0 vc0_1 : PV} {vc1_0 vc1_1 : PV} (h : D_trace_Parse_b1 pg s0 x5 vc0_0 vc0_1 vc1_0 vc1_1 gh = some (e, s)) : runL pg f_trace_Parse_b1 ⟨[(0, .str s0), (2, .ptr false 0 0), (4, .ptr false 1 0), (5, I x5)], [[vc0_0, vc0_1], [vc1_0, vc1_1]], gh⟩ = some (e, s) :=
  runX_ok an_trace_Parse (Eq.trans (by kernel_rfl) h)
def D_trace_Parse_k4 (pg : Prg) (vc0_0 vc0_1 : PV) (vc1_0 vc1_1 : PV) (gh : List GObj) : DR := onK (degr1 (degr1 vc1_0)) (onK (degr1 (degr1 vc1_1)) (
  callR gh true (callL pg 246 [(.agg [(degr1 (degr1 vc1_0)), (degr1 (degr1 vc1_1))])] gh) fun r1 gh2 => unT 2 r1 fun r3 r4 => unS (degr1 (degr1 r3)) fun s5 => unI .i64 (degr1 (degr1 r4)) fun n6 =>
  br 60 (n6 != 0) (some (.ret, ⟨[(2, .ptr false 0 0), (3, I 1)], [[.sl true 1 [], .sl true 1 []]], gh2⟩)) (onK (degr1 vc1_0) (onK (degr1 vc1_1) (some (.ret, ⟨[(2, .ptr false 0 0), (3, I 0)], [[(degr1 vc1_0), (degr1 vc1_1)]], gh2⟩))))))
theorem D_trace_Parse_k4_ok {vc0_0 vc0_1 : PV} {vc1_0 vc1_1 : PV} (h : D_trace_Parse_k4 pg vc0_0 vc0_1 vc1_0 vc1_1 gh = some (e, s)) : runL pg f_trace_Parse_k4 ⟨[(2, .ptr false 0 0), (4, .ptr false 1 0)], [[vc0_0, vc0_1], [vc1_0, vc1_1]], gh⟩ = some (e, s) :=
  runX_ok an_trace_Parse (Eq.trans (by kernel_rfl) h)
def D_trace_Parse_0 (pg : Prg) (s0 : ByteArray) (gh : List GObj) : DR :=
  kR (runL pg f_trace_Parse_l1 ⟨[(0, .str s0), (2, .ptr false 0 0), (4, .ptr false 1 0), (5, I 0)], [[.sl true 1 [], .sl true 1 []], [.sl true 1 [], .sl true 1 []]], gh⟩) (fun e s => nx e s (fun e s => some (e, s)) fun s => kR (runL pg f_trace_Parse_k4 s) (fun e s => some (e, s)))
theorem D_trace_Parse_0_ok {s0 : ByteArray} (h : D_trace_Parse_0 pg s0 gh = some (e, s)) : runL pg f_trace_Parse_0 ⟨[(0, .str s0)], [], gh⟩ = some (e, s) :=
  runX_ok an_trace_Parse (Eq.trans (by kernel_rfl) h)
end
end Go.Lw
end

/-! What the code of function ref_Cut comes to, piece by piece. Written by program (dprint.py). -/
section
set_option maxRecDepth 10000
set_option maxHeartbeats 4000000
namespace Go.Lw
open Go
noncomputable section
variable {pg : Prg} {gh : List GObj} {e : IExit} {s : St}
def an_ref_Cut : Tr := (tB 18 (tI 10 (tI 6 (tO 4 (.node 1 (.ce (.int .u8)) (.node 0 (.ce (.str)) .nil .nil) .nil) (uO 5)) (tI 8 (uI 7) (.node 9 (.ce (.str)) .nil .nil))) (.node 14 (.ce (.str)) (tI 12 (uB 11) (uI 13)) (.node 16 (.ce (.int .u8)) (uI 15) (.node 17 (.ce (.int .u8)) .nil .nil)))) (tI 26 (tI 22 (.node 20 (.ce (.str)) (uO 19) (uI 21)) (tO 24 (.node 23 (.ce (.str)) .nil .nil) (uO 25))) (tI 30 (tO 28 (uI 27) (.node 29 (.ce (.str)) .nil .nil)) (tO 32 (.node 31 (.ce (.str)) .nil .nil) (uO 33)))))
def D_ref_Cut_k1 (pg : Prg) (s0 : ByteArray) (x1 : Int) (v5 : PV) (x6 x7 : Int) (gh : List GObj) : DR := stK 0 v5 (some (.normal, ⟨[(0, .str s0), (1, .int .u8 x1), (5, v5), (6, I x6), (7, (I (IntKind.i64.wrap (x7 + 1))))], [], gh⟩))
theorem D_ref_Cut_k1_ok {s0 : ByteArray} {x1 : Int} {v5 : PV} {x6 x7 : Int} (h : D_ref_Cut_k1 pg s0 x1 v5 x6 x7 gh = some (e, s)) : runL pg f_ref_Cut_k1 ⟨[(0, .str s0), (1, .int .u8 x1), (5, v5), (6, I x6), (7, I x7)], [], gh⟩ = some (e, s) :=
  runX_ok an_ref_Cut (Eq.trans (by kernel_rfl) h)
def D_ref_Cut_b1 (pg : Prg) (s0 : ByteArray) (x1 : Int) (v5 : PV) (x6 x7 : Int) (gh : List GObj) : DR := stK 0 v5 (
  br 11 (decide (x7 < ((ByteArray.size s0 : Nat) : Int))) (
  isX (.str s0) x7 fun n2 => stK 0 v5 (
  br 18 (n2 == x1) (
  ssX (.str s0) (some x6) (some x7) fun s3 =>
  apX 1 16 v5 (.sl false 1 [.str s3]) fun l4 =>
  kR (runL pg f_ref_Cut_k1 ⟨[(0, .str s0), (1, .int .u8 x1), (5, .sl true 1 l4), (6, (I (IntKind.i64.wrap (x7 + 1)))), (7, I x7)], [], gh⟩) (fun e s => po [0, 1, 5, 6, 7] 0 e s (fun e s => some (e, s)))) (stK 0 v5 (
  kR (runL pg f_ref_Cut_k1 ⟨[(0, .str s0), (1, .int .u8 x1), (5, v5), (6, I x6), (7, I x7)], [], gh⟩) (fun e s => po [0, 1, 5, 6, 7] 0 e s (fun e s => some (e, s))))))) (some ((.exit 0), ⟨[(0, .str s0), (1, .int .u8 x1), (5, v5), (6, I x6), (7, I x7), (11, (B (decide (x7 < ((ByteArray.size s0 : Nat) : Int)))))], [], gh⟩)))
theorem D_ref_Cut_b1_ok {s0 : ByteArray} {x1 : Int} {v5 : PV} {x6 x7 : Int} (h : D_ref_Cut_b1 pg s0 x1 v5 x6 x7 gh = some (e, s)) : runL pg f_ref_Cut_b1 ⟨[(0, .str s0), (1, .int .u8 x1), (5, v5), (6, I x6), (7, I x7)], [], gh⟩ = some (e, s) :=
  runX_ok an_ref_Cut (Eq.trans (by kernel_rfl) h)
def D_ref_Cut_k2 (pg : Prg) (s0 : ByteArray) (v5 : PV) (x6 : Int) (gh : List GObj) : DR :=
  ssX (.str s0) (some x6) none fun s1 =>
  apX 1 16 v5 (.sl false 1 [.str s1]) fun l2 => some (.ret, ⟨[(4, .sl true 1 l2)], [], gh⟩)
theorem D_ref_Cut_k2_ok {s0 : ByteArray} {v5 : PV} {x6 : Int} (h : D_ref_Cut_k2 pg s0 v5 x6 gh = some (e, s)) : runL pg f_ref_Cut_k2 ⟨[(0, .str s0), (5, v5), (6, I x6)], [], gh⟩ = some (e, s) :=
  runX_ok an_ref_Cut (Eq.trans (by kernel_rfl) h)
def D_ref_Cut_0 (pg : Prg) (s0 : ByteArray) (x1 : Int) (gh : List GObj) : DR :=
  kR (runL pg f_ref_Cut_l1 ⟨[(0, .str s0), (1, .int .u8 x1), (5, .sl true 1 []), (6, I 0), (7, I 0)], [], gh⟩) (fun e s => nx e s (fun e s => some (e, s)) fun s => kR (runL pg f_ref_Cut_k2 s) (fun e s => some (e, s)))
theorem D_ref_Cut_0_ok {s0 : ByteArray} {x1 : Int} (h : D_ref_Cut_0 pg s0 x1 gh = some (e, s)) : runL pg f_ref_Cut_0 ⟨[(0, .str s0), (1, .int .u8 x1)], [], gh⟩ = some (e, s) :=
  runX_ok an_ref_Cut (Eq.trans (by kernel_rfl) h)
end
end Go.Lw
end

/-! What the code of function ref_Undigit comes to, piece by piece. Written by program (dprint.py). -/
section
set_option maxRecDepth 10000
set_option maxHeartbeats 4000000
namespace Go.Lw
open Go
noncomputable section
variable {pg : Prg} {gh : List GObj} {e : IExit} {s : St}
def an_ref_Undigit : Tr := (tI 24 (tB 12 (tB 6 (tI 3 (tI 2 (.node 0 (.ce (.str)) .nil .nil) .nil) (.node 5 (.ce (.str)) (uI 4) .nil)) (tI 9 (.node 8 (.ce (.str)) (uB 7) .nil) (tB 11 (uB 10) .nil))) (.node 18 (.ce (.int .u8)) (tB 15 (tI 14 (.node 13 (.ce (.str)) .nil .nil) .nil) (.node 17 (.ce (.str)) (uB 16) .nil)) (tB 21 (tB 20 (uB 19) .nil) (.node 23 (.ce (.str)) (uI 22) .nil)))) (tB 36 (.node 30 (.ce (.int .u8)) (tI 27 (tI 26 (uB 25) .nil) (tI 29 (.node 28 (.ce (.str)) .nil .nil) .nil)) (.node 33 (.ce (.str)) (tB 32 (uB 31) .nil) (.node 35 (.ce (.int .u8)) (uI 34) .nil))) (.node 42 (.ce (.int .u8)) (tI 39 (tI 38 (uB 37) .nil) (tI 41 (.node 40 (.ce (.str)) .nil .nil) .nil)) (tI 45 (tI 44 (uI 43) .nil) (uI 46)))))
def D_ref_Undigit_b1 (pg : Prg) (s0 : ByteArray) (x3 x4 : Int) (gh : List GObj) : DR :=
  br 25 (decide (x4 < ((ByteArray.size s0 : Nat) : Int))) (
  isX (.str s0) x4 fun n2 =>
  br 32 (decide (n2 < 48)) (some (.ret, ⟨[(2, (I (-1)))], [], gh⟩)) (
  isX (.str s0) x4 fun n3 =>
  br 37 (decide (57 < n3)) (some (.ret, ⟨[(2, (I (-1)))], [], gh⟩)) (
  isX (.str s0) x4 fun n4 => some (.normal, ⟨[(0, .str s0), (3, (I (IntKind.i64.wrap ((IntKind.i64.wrap ((IntKind.i64.wrap (10 * x3)) + (IntKind.i64.wrap n4))) - 48)))), (4, (I (IntKind.i64.wrap (x4 + 1))))], [], gh⟩)))) (some ((.exit 0), ⟨[(0, .str s0), (3, I x3), (4, I x4), (25, (B (decide (x4 < ((ByteArray.size s0 : Nat) : Int)))))], [], gh⟩))
theorem D_ref_Undigit_b1_ok {s0 : ByteArray} {x3 x4 : Int} (h : D_ref_Undigit_b1 pg s0 x3 x4 gh = some (e, s)) : runL pg f_ref_Undigit_b1 ⟨[(0, .str s0), (3, I x3), (4, I x4)], [], gh⟩ = some (e, s) :=
  runX_ok an_ref_Undigit (Eq.trans (by kernel_rfl) h)
def D_ref_Undigit_k1 (pg : Prg) (x3 : Int) (gh : List GObj) : DR := some (.ret, ⟨[(2, I x3)], [], gh⟩)
theorem D_ref_Undigit_k1_ok {x3 : Int} (h : D_ref_Undigit_k1 pg x3 gh = some (e, s)) : runL pg f_ref_Undigit_k1 ⟨[(3, I x3)], [], gh⟩ = some (e, s) :=
  runX_ok an_ref_Undigit (Eq.trans (by kernel_rfl) h)
def D_ref_Undigit_0 (pg : Prg) (s0 : ByteArray) (gh : List GObj) : DR :=
  br 7 (ByteArray.toList s0 == ByteArray.toList ByteArray.empty) (some (.ret, ⟨[(2, (I (-1)))], [], gh⟩)) (
  br 12 (decide (9 < ((ByteArray.size s0 : Nat) : Int))) (some (.ret, ⟨[(2, (I (-1)))], [], gh⟩)) (
  br 16 (decide (1 < ((ByteArray.size s0 : Nat) : Int))) (
  isX (.str s0) 0 fun n3 =>
  br 21 (n3 == 48) (some (.ret, ⟨[(2, (I (-1)))], [], gh⟩)) (
  kR (runL pg f_ref_Undigit_l1 ⟨[(0, .str s0), (3, I 0), (4, I 0)], [], gh⟩) (fun e s => nx e s (fun e s => some (e, s)) fun s => kR (runL pg f_ref_Undigit_k1 s) (fun e s => some (e, s))))) (
  kR (runL pg f_ref_Undigit_l1 ⟨[(0, .str s0), (3, I 0), (4, I 0)], [], gh⟩) (fun e s => nx e s (fun e s => some (e, s)) fun s => kR (runL pg f_ref_Undigit_k1 s) (fun e s => some (e, s))))))
theorem D_ref_Undigit_0_ok {s0 : ByteArray} (h : D_ref_Undigit_0 pg s0 gh = some (e, s)) : runL pg f_ref_Undigit_0 ⟨[(0, .str s0)], [], gh⟩ = some (e, s) :=
  runX_ok an_ref_Undigit (Eq.trans (by kernel_rfl) h)
end
end Go.Lw
end

/-! What the code of function ref_ParseTrace comes to, piece by piece. Written by program (dprint.py). -/
section
set_option maxRecDepth 10000
set_option maxHeartbeats 4000000
namespace Go.Lw
open Go
noncomputable section
variable {pg : Prg} {gh : List GObj} {e : IExit} {s : St}
def an_ref_ParseTrace : Tr := (tI 42 (tO 21 (tI 12 (tI 7 (tO 4 (tI 3 (.node 0 (.ce (.str)) .nil .nil) .nil) (uI 5)) (tI 10 (tO 9 (uO 8) .nil) (.node 11 (.ce (.str)) .nil .nil))) (tI 17 (tO 15 (tO 14 (.node 13 (.ce (.str)) .nil .nil) .nil) (uI 16)) (tB 19 (uI 18) (uB 20)))) (tI 32 (.node 27 (.agg [.any, .any]) (tB 25 (.node 24 (.ce (.str)) (uI 22) .nil) (uB 26)) (tB 30 (tI 29 (uI 28) .nil) (uI 31))) (tI 38 (.node 36 (.ce (.str)) (tI 34 (uO 33) .nil) (uO 37)) (tI 40 (uO 39) (uB 41))))) (tB 64 (tB 53 (.node 48 (.ce (.str)) (tO 45 (tO 44 (uI 43) .nil) (uI 46)) (tO 51 (tO 50 (uI 49) .nil) (uI 52))) (tB 59 (.node 57 (.ce (.str)) (tO 55 (uB 54) .nil) (uB 58)) (tI 62 (uO 60) (uB 63)))) (.node 77 (.tup 2) (tO 71 (tB 68 (.node 67 (.ce (.str)) (uO 65) .nil) (uB 69)) (tO 74 (tO 73 (uO 72) .nil) (.node 76 (.agg [.any, .any]) .nil .nil))) (tI 82 (.node 80 (.ce (.str)) (.node 79 (.tup 2) (.node 78 (.agg [.any, .any]) .nil .nil) .nil) (uI 81)) (.node 84 (.agg [.any, .any]) (uB 83) (.node 85 (.agg [.any, .any]) .nil .nil))))))
def D_ref_ParseTrace_b2 (pg : Prg) (v4 : PV) (x5 x7 : Int) (v8 v9 : PV) (x10 : Int) (vc0_0 vc0_1 : PV) (vc1_0 vc1_1 : PV) (gh : List GObj) : DR := isC (degr v8) (lenS (degr (degr v8)) fun n1 => stK 2 v4 (stK 2 v8 (stK 2 v9 (
  br 41 (decide (x10 < (n1 : Int))) (isC (degr v8) (
  idX 1 none (degr (degr v8)) x10 fun p2 =>
  ldX [[vc0_0, vc0_1], [vc1_0, vc1_1]] gh false 1 (degr p2) fun v3 => unS v3 fun s4 =>
  callR gh true (callL pg 381 [.str s4] gh) fun r5 gh6 => unI .i64 r5 fun n7 =>
  apX 1 8 v9 (.sl false 1 [I n7]) fun l8 => stK 2 v4 (stK 2 v8 (stK 2 v4 (stK 2 v8 (stK 2 v4 (stK 2 v8 (some (.normal, ⟨[(2, .ptr false 0 0), (4, v4), (5, I x5), (6, .ptr false 1 0), (7, I x7), (8, v8), (9, .sl true 1 l8), (10, (I (IntKind.i64.wrap (x10 + 1))))], [[vc0_0, vc0_1], [vc1_0, vc1_1]], gh6⟩))))))))) (some ((.exit 2), ⟨[(2, .ptr false 0 0), (4, v4), (5, I x5), (6, .ptr false 1 0), (7, I x7), (8, v8), (9, v9), (10, I x10), (41, (B (decide (x10 < (n1 : Int)))))], [[vc0_0, vc0_1], [vc1_0, vc1_1]], gh⟩))))))
theorem D_ref_ParseTrace_b2_ok {v4 : PV} {x5 x7 : Int} {v8 v9 : PV} {x10 : Int} {vc0_0 vc0_1 : PV} {vc1_0 vc1_1 : PV} (h : D_ref_ParseTrace_b2 pg v4 x5 x7 v8 v9 x10 vc0_0 vc0_1 vc1_0 vc1_1 gh = some (e, s)) : runL pg f_ref_ParseTrace_b2 ⟨[(2, .ptr false 0 0), (4, v4), (5, I x5), (6, .ptr false 1 0), (7, I x7), (8, v8), (9, v9), (10, I x10)], [[vc0_0, vc0_1], [vc1_0, vc1_1]], gh⟩ = some (e, s) :=
  runX_ok an_ref_ParseTrace (Eq.trans (by kernel_rfl) h)
def D_ref_ParseTrace_k1 (pg : Prg) (v4 : PV) (x5 x7 : Int) (v8 v9 : PV) (vc0_0 vc0_1 : PV) (vc1_0 vc1_1 : PV) (gh : List GObj) : DR :=
  br 54 (x7 == 0) (isC (degr v8) (
  idX 1 none (degr (degr v8)) 0 fun p1 =>
  ldX [[vc0_0, vc0_1], [vc1_0, vc1_1]] gh false 1 (degr p1) fun v2 => unS v2 fun s3 => stK 2 v4 (stK 2 v8 (stK 2 v9 (
  br 59 (ByteArray.toList s3 == ByteArray.toList (⟨#[115, 116, 97, 114, 116]⟩ : ByteArray)) (isC (degr v9) (arK (degr v9) (isC (degr v9) (stK 2 v4 (stK 2 v4 (some (.normal, ⟨[(2, .ptr false 0 0), (4, v4), (5, I x5), (6, .ptr false 1 0), (7, I x7)], [[vc0_0, vc0_1], [(degr v9), vc1_1]], gh⟩))))))) (
  br 64 (decide (0 < x7)) (isC (degr v8) (
  idX 1 none (degr (degr v8)) 0 fun p4 =>
  ldX [[vc0_0, vc0_1], [vc1_0, vc1_1]] gh false 1 (degr p4) fun v5 => unS v5 fun s6 => stK 2 v4 (stK 2 v9 (
  br 69 (ByteArray.toList s6 == ByteArray.toList (⟨#[105, 110]⟩ : ByteArray)) (isC (degr v9) (arK (degr (degr v9)) (lnK 1 (degr (degr v9)) (
  apX 1 24 vc1_1 (.sl false 1 [(degr (degr v9))]) fun l7 => stK 2 v4 (stK 2 v4 (some (.normal, ⟨[(2, .ptr false 0 0), (4, v4), (5, I x5), (6, .ptr false 1 0), (7, I x7)], [[vc0_0, vc0_1], [vc1_0, .sl true 1 l7]], gh⟩))))))) (some (.ret, ⟨[(2, .ptr false 0 0), (3, I 1)], [[.sl true 1 [], .sl true 1 []]], gh⟩)))))) (stK 2 v4 (stK 2 v9 (some (.ret, ⟨[(2, .ptr false 0 0), (3, I 1)], [[.sl true 1 [], .sl true 1 []]], gh⟩)))))))))) (stK 2 v4 (stK 2 v8 (stK 2 v9 (
  br 64 (decide (0 < x7)) (isC (degr v8) (
  idX 1 none (degr (degr v8)) 0 fun p8 =>
  ldX [[vc0_0, vc0_1], [vc1_0, vc1_1]] gh false 1 (degr p8) fun v10 => unS v10 fun s11 => stK 2 v4 (stK 2 v9 (
  br 69 (ByteArray.toList s11 == ByteArray.toList (⟨#[105, 110]⟩ : ByteArray)) (isC (degr v9) (arK (degr (degr v9)) (lnK 1 (degr (degr v9)) (
  apX 1 24 vc1_1 (.sl false 1 [(degr (degr v9))]) fun l12 => stK 2 v4 (stK 2 v4 (some (.normal, ⟨[(2, .ptr false 0 0), (4, v4), (5, I x5), (6, .ptr false 1 0), (7, I x7)], [[vc0_0, vc0_1], [vc1_0, .sl true 1 l12]], gh⟩))))))) (some (.ret, ⟨[(2, .ptr false 0 0), (3, I 1)], [[.sl true 1 [], .sl true 1 []]], gh⟩)))))) (stK 2 v4 (stK 2 v9 (some (.ret, ⟨[(2, .ptr false 0 0), (3, I 1)], [[.sl true 1 [], .sl true 1 []]], gh⟩))))))))
theorem D_ref_ParseTrace_k1_ok {v4 : PV} {x5 x7 : Int} {v8 v9 : PV} {vc0_0 vc0_1 : PV} {vc1_0 vc1_1 : PV} (h : D_ref_ParseTrace_k1 pg v4 x5 x7 v8 v9 vc0_0 vc0_1 vc1_0 vc1_1 gh = some (e, s)) : runL pg f_ref_ParseTrace_k1 ⟨[(2, .ptr false 0 0), (4, v4), (5, I x5), (6, .ptr false 1 0), (7, I x7), (8, v8), (9, v9)], [[vc0_0, vc0_1], [vc1_0, vc1_1]], gh⟩ = some (e, s) :=
  runX_ok an_ref_ParseTrace (Eq.trans (by kernel_rfl) h)
def D_ref_ParseTrace_k2 (pg : Prg) (v4 : PV) (x5 x7 : Int) (vc0_0 vc0_1 : PV) (vc1_0 vc1_1 : PV) (gh : List GObj) : DR := stK 2 v4 (some (.normal, ⟨[(2, .ptr false 0 0), (4, v4), (5, I x5), (6, .ptr false 1 0), (7, (I (IntKind.i64.wrap (x7 + 1))))], [[vc0_0, vc0_1], [vc1_0, vc1_1]], gh⟩))
theorem D_ref_ParseTrace_k2_ok {v4 : PV} {x5 x7 : Int} {vc0_0 vc0_1 : PV} {vc1_0 vc1_1 : PV} (h : D_ref_ParseTrace_k2 pg v4 x5 x7 vc0_0 vc0_1 vc1_0 vc1_1 gh = some (e, s)) : runL pg f_ref_ParseTrace_k2 ⟨[(2, .ptr false 0 0), (4, v4), (5, I x5), (6, .ptr false 1 0), (7, I x7)], [[vc0_0, vc0_1], [vc1_0, vc1_1]], gh⟩ = some (e, s) :=
  runX_ok an_ref_ParseTrace (Eq.trans (by kernel_rfl) h)
def D_ref_ParseTrace_b1 (pg : Prg) (v4 : PV) (x5 x7 : Int) (vc0_0 vc0_1 : PV) (vc1_0 vc1_1 : PV) (gh : List GObj) : DR := stK 2 v4 (
  br 30 (decide (x7 < x5)) (isC (degr v4) (
  idX 1 none (degr (degr v4)) x7 fun p1 =>
  ldX [[vc0_0, vc0_1], [vc1_0, vc1_1]] gh false 1 (degr p1) fun v2 => unS v2 fun s3 =>
  callR gh true (callL pg 380 [.str s3, .int .u8 32] gh) fun r4 gh5 => isC r4 (stK 2 v4 (stK 2 r4 (stK 2 v4 (stK 2 r4 (
  kR (runL pg f_ref_ParseTrace_l2 ⟨[(2, .ptr false 0 0), (4, v4), (5, I x5), (6, .ptr false 1 0), (7, I x7), (8, r4), (9, .sl true 1 []), (10, I 1)], [[vc0_0, vc0_1], [vc1_0, vc1_1]], gh5⟩) (fun e s => nx e s (fun e s => bk 1 e s (fun e s => nx e s (fun e s => po [2, 4, 5, 6, 7] 2 e s (fun e s => some (e, s))) fun s => kR (runL pg f_ref_ParseTrace_k2 s) (fun e s => po [2, 4, 5, 6, 7] 2 e s (fun e s => some (e, s))))) fun s => kR (runL pg f_ref_ParseTrace_k1 s) (fun e s => bk 1 e s (fun e s => nx e s (fun e s => po [2, 4, 5, 6, 7] 2 e s (fun e s => some (e, s))) fun s => kR (runL pg f_ref_ParseTrace_k2 s) (fun e s => po [2, 4, 5, 6, 7] 2 e s (fun e s => some (e, s))))))))))))) (some ((.exit 0), ⟨[(2, .ptr false 0 0), (4, v4), (5, I x5), (6, .ptr false 1 0), (7, I x7), (30, (B (decide (x7 < x5))))], [[vc0_0, vc0_1], [vc1_0, vc1_1]], gh⟩)))
theorem D_ref_ParseTrace_b1_ok {v4 : PV} {x5 x7 : Int} {vc0_0 vc0_1 : PV} {vc1_0 vc1_1 : PV} (h : D_ref_ParseTrace_b1 pg v4 x5 x7 vc0_0 vc0_1 vc1_0 vc1_1 gh = some (e, s)) : runL pg f_ref_ParseTrace_b1 ⟨[(2, .ptr false 0 0), (4, v4), (5, I x5), (6, .ptr false 1 0), (7, I x7)], [[vc0_0, vc0_1], [vc1_0, vc1_1]], gh⟩ = some (e, s) :=
  runX_ok an_ref_ParseTrace (Eq.trans (by kernel_rfl) h)
def D_ref_ParseTrace_k3 (pg : Prg) (vc0_0 vc0_1 : PV) (vc1_0 vc1_1 : PV) (gh : List GObj) : DR := onK (degr1 (degr1 vc1_0)) (onK (degr1 (degr1 vc1_1)) (
  callR gh true (callL pg 351 [(.agg [(degr1 (degr1 vc1_0)), (degr1 (degr1 vc1_1))])] gh) fun r1 gh2 => unT 2 r1 fun r3 r4 => unS (degr1 (degr1 r3)) fun s5 => unI .i64 (degr1 (degr1 r4)) fun n6 =>
  br 83 (n6 != 0) (some (.ret, ⟨[(2, .ptr false 0 0), (3, I 1)], [[.sl true 1 [], .sl true 1 []]], gh2⟩)) (onK (degr1 vc1_0) (onK (degr1 vc1_1) (some (.ret, ⟨[(2, .ptr false 0 0), (3, I 0)], [[(degr1 vc1_0), (degr1 vc1_1)]], gh2⟩))))))
theorem D_ref_ParseTrace_k3_ok {vc0_0 vc0_1 : PV} {vc1_0 vc1_1 : PV} (h : D_ref_ParseTrace_k3 pg vc0_0 vc0_1 vc1_0 vc1_1 gh = some (e, s)) : runL pg f_ref_ParseTrace_k3 ⟨[(2, .ptr false 0 0), (6, .ptr false 1 0)], [[vc0_0, vc0_1], [vc1_0, vc1_1]], gh⟩ = some (e, s) :=
  runX_ok an_ref_ParseTrace (Eq.trans (by kernel_rfl) h)
def D_ref_ParseTrace_0 (pg : Prg) (s0 : ByteArray) (gh : List GObj) : DR :=
  callR gh true (callL pg 380 [.str s0, .int .u8 10] gh) fun r1 gh2 => isC r1 (stK 1 r1 (isC (degr r1) (lenS (degr (degr r1)) fun n3 => stK 1 r1 (
  br 20 (decide ((IntKind.i64.wrap ((n3 : Int) - 1)) < 1)) (stK 1 r1 (some (.ret, ⟨[(2, .ptr false 0 0), (3, I 1)], [[.sl true 1 [], .sl true 1 []]], gh2⟩))) (isC (degr r1) (
  idX 1 none (degr (degr r1)) (IntKind.i64.wrap ((n3 : Int) - 1)) fun p4 =>
  ldX [[.sl true 1 [], .sl true 1 []]] gh2 false 1 (degr p4) fun v5 => unS v5 fun s6 => stK 1 r1 (
  br 26 (!(ByteArray.toList s6 == ByteArray.toList ByteArray.empty)) (some (.ret, ⟨[(2, .ptr false 0 0), (3, I 1)], [[.sl true 1 [], .sl true 1 []]], gh2⟩)) (stK 2 r1 (stK 2 r1 (
  kR (runL pg f_ref_ParseTrace_l1 ⟨[(2, .ptr false 0 0), (4, r1), (5, (I (IntKind.i64.wrap ((n3 : Int) - 1)))), (6, .ptr false 1 0), (7, I 0)], [[.sl true 1 [], .sl true 1 []], [.sl true 1 [], .sl true 1 []]], gh2⟩) (fun e s => nx e s (fun e s => some (e, s)) fun s => kR (runL pg f_ref_ParseTrace_k3 s) (fun e s => some (e, s)))))))))))))
theorem D_ref_ParseTrace_0_ok {s0 : ByteArray} (h : D_ref_ParseTrace_0 pg s0 gh = some (e, s)) : runL pg f_ref_ParseTrace_0 ⟨[(0, .str s0)], [], gh⟩ = some (e, s) :=
  runX_ok an_ref_ParseTrace (Eq.trans (by kernel_rfl) h)
end
end Go.Lw
end

/-! What the code of function ref_SameInts comes to, piece by piece. Written by program (dprint.py). -/
section
set_option maxRecDepth 10000
set_option maxHeartbeats 4000000
namespace Go.Lw
open Go
noncomputable section
variable {pg : Prg} {gh : List GObj} {e : IExit} {s : St}
def an_ref_SameInts : Tr := (tI 13 (tI 7 (tB 4 (tO 1 (uO 0) .nil) (tO 6 (uI 5) .nil)) (tB 10 (tI 9 (uO 8) .nil) (tO 12 (uI 11) .nil))) (tI 20 (tI 16 (tI 15 (uB 14) .nil) (tI 18 (uO 17) .nil)) (tI 24 (tI 22 (uO 21) .nil) (uB 25))))
def D_ref_SameInts_b1 (pg : Prg) (v0 v1 : PV) (x5 : Int) (gh : List GObj) : DR := isC (degr v0) (lenS (degr (degr v0)) fun n1 => stK 0 v0 (stK 0 v1 (
  br 14 (decide (x5 < (n1 : Int))) (isC (degr v0) (
  idX 1 none (degr (degr v0)) x5 fun p2 =>
  ldX [] gh false 1 (degr p2) fun v3 => unI .i64 v3 fun n4 => isC (degr v1) (
  idX 1 none (degr (degr v1)) x5 fun p5 =>
  ldX [] gh false 1 (degr p5) fun v6 => unI .i64 v6 fun n7 => stK 0 v0 (stK 0 v1 (
  br 25 (n4 != n7) (some (.ret, ⟨[(4, B false)], [], gh⟩)) (stK 0 v0 (stK 0 v1 (stK 0 v0 (stK 0 v1 (some (.normal, ⟨[(0, v0), (1, v1), (5, (I (IntKind.i64.wrap (x5 + 1))))], [], gh⟩))))))))))) (some ((.exit 0), ⟨[(0, v0), (1, v1), (5, I x5), (14, (B (decide (x5 < (n1 : Int)))))], [], gh⟩)))))
theorem D_ref_SameInts_b1_ok {v0 v1 : PV} {x5 : Int} (h : D_ref_SameInts_b1 pg v0 v1 x5 gh = some (e, s)) : runL pg f_ref_SameInts_b1 ⟨[(0, v0), (1, v1), (5, I x5)], [], gh⟩ = some (e, s) :=
  runX_ok an_ref_SameInts (Eq.trans (by kernel_rfl) h)
def D_ref_SameInts_k1 (pg : Prg)  (gh : List GObj) : DR := some (.ret, ⟨[(4, B true)], [], gh⟩)
theorem D_ref_SameInts_k1_ok  (h : D_ref_SameInts_k1 pg  gh = some (e, s)) : runL pg f_ref_SameInts_k1 ⟨[], [], gh⟩ = some (e, s) :=
  runX_ok an_ref_SameInts (Eq.trans (by kernel_rfl) h)
def D_ref_SameInts_0 (pg : Prg) (v0 v1 : PV) (gh : List GObj) : DR := stK 0 v0 (stK 0 v1 (isC (degr v0) (lenS (degr (degr v0)) fun n1 => isC (degr v1) (lenS (degr (degr v1)) fun n2 => stK 0 v0 (stK 0 v1 (
  br 10 ((n1 : Int) != (n2 : Int)) (some (.ret, ⟨[(4, B false)], [], gh⟩)) (stK 0 v0 (stK 0 v1 (
  kR (runL pg f_ref_SameInts_l1 ⟨[(0, v0), (1, v1), (5, I 0)], [], gh⟩) (fun e s => nx e s (fun e s => some (e, s)) fun s => kR (runL pg f_ref_SameInts_k1 s) (fun e s => some (e, s))))))))))))
theorem D_ref_SameInts_0_ok {v0 v1 : PV} (h : D_ref_SameInts_0 pg v0 v1 gh = some (e, s)) : runL pg f_ref_SameInts_0 ⟨[(0, v0), (1, v1)], [], gh⟩ = some (e, s) :=
  runX_ok an_ref_SameInts (Eq.trans (by kernel_rfl) h)
end
end Go.Lw
end

/-! What the code of function ref_SameLists comes to, piece by piece. Written by program (dprint.py). -/
section
set_option maxRecDepth 10000
set_option maxHeartbeats 4000000
namespace Go.Lw
open Go
noncomputable section
variable {pg : Prg} {gh : List GObj} {e : IExit} {s : St}
def an_ref_SameLists : Tr := (tI 13 (tI 7 (tB 4 (tO 1 (uO 0) .nil) (tO 6 (uI 5) .nil)) (tB 10 (tI 9 (uO 8) .nil) (tO 12 (uI 11) .nil))) (tO 20 (tI 16 (tI 15 (uB 14) .nil) (tI 18 (uO 17) .nil)) (tO 24 (tI 22 (uO 21) .nil) (tB 26 (uB 25) .nil))))
def D_ref_SameLists_b1 (pg : Prg) (v0 v1 : PV) (x5 : Int) (gh : List GObj) : DR := isC (degr v0) (lenS (degr (degr v0)) fun n1 => stK 0 v0 (stK 0 v1 (
  br 14 (decide (x5 < (n1 : Int))) (isC (degr v0) (
  idX 1 none (degr (degr v0)) x5 fun p2 =>
  ldX [] gh false 1 (degr p2) fun v3 => isC v3 (isC (degr v1) (
  idX 1 none (degr (degr v1)) x5 fun p4 =>
  ldX [] gh false 1 (degr p4) fun v5 => isC v5 (arK (degr v3) (arK (degr v5) (
  callR gh true (callL pg 46 [(degr v3), (degr v5)] gh) fun r6 gh7 => unB r6 fun b8 => stK 0 v0 (stK 0 v1 (
  br 26 (!b8) (some (.ret, ⟨[(4, B false)], [], gh7⟩)) (stK 0 v0 (stK 0 v1 (stK 0 v0 (stK 0 v1 (some (.normal, ⟨[(0, v0), (1, v1), (5, (I (IntKind.i64.wrap (x5 + 1))))], [], gh7⟩))))))))))))))) (some ((.exit 0), ⟨[(0, v0), (1, v1), (5, I x5), (14, (B (decide (x5 < (n1 : Int)))))], [], gh⟩)))))
theorem D_ref_SameLists_b1_ok {v0 v1 : PV} {x5 : Int} (h : D_ref_SameLists_b1 pg v0 v1 x5 gh = some (e, s)) : runL pg f_ref_SameLists_b1 ⟨[(0, v0), (1, v1), (5, I x5)], [], gh⟩ = some (e, s) :=
  runX_ok an_ref_SameLists (Eq.trans (by kernel_rfl) h)
def D_ref_SameLists_k1 (pg : Prg)  (gh : List GObj) : DR := some (.ret, ⟨[(4, B true)], [], gh⟩)
theorem D_ref_SameLists_k1_ok  (h : D_ref_SameLists_k1 pg  gh = some (e, s)) : runL pg f_ref_SameLists_k1 ⟨[], [], gh⟩ = some (e, s) :=
  runX_ok an_ref_SameLists (Eq.trans (by kernel_rfl) h)
def D_ref_SameLists_0 (pg : Prg) (v0 v1 : PV) (gh : List GObj) : DR := stK 0 v0 (stK 0 v1 (isC (degr v0) (lenS (degr (degr v0)) fun n1 => isC (degr v1) (lenS (degr (degr v1)) fun n2 => stK 0 v0 (stK 0 v1 (
  br 10 ((n1 : Int) != (n2 : Int)) (some (.ret, ⟨[(4, B false)], [], gh⟩)) (stK 0 v0 (stK 0 v1 (
  kR (runL pg f_ref_SameLists_l1 ⟨[(0, v0), (1, v1), (5, I 0)], [], gh⟩) (fun e s => nx e s (fun e s => some (e, s)) fun s => kR (runL pg f_ref_SameLists_k1 s) (fun e s => some (e, s))))))))))))
theorem D_ref_SameLists_0_ok {v0 v1 : PV} (h : D_ref_SameLists_0 pg v0 v1 gh = some (e, s)) : runL pg f_ref_SameLists_0 ⟨[(0, v0), (1, v1)], [], gh⟩ = some (e, s) :=
  runX_ok an_ref_SameLists (Eq.trans (by kernel_rfl) h)
end
end Go.Lw
end

/-! What the code of function ref_SameTrace comes to, piece by piece. Written by program (dprint.py). -/
section
set_option maxRecDepth 10000
set_option maxHeartbeats 4000000
namespace Go.Lw
open Go
noncomputable section
variable {pg : Prg} {gh : List GObj} {e : IExit} {s : St}
def an_ref_SameTrace : Tr := (tB 9 (tB 4 (.node 1 (.agg [.any, .any]) (.node 0 (.agg [.any, .any]) .nil .nil) .nil) (tO 8 (uO 6) .nil)) (tO 14 (tO 12 (uB 10) .nil) (tB 16 (uB 15) .nil)))
def D_ref_SameTrace_0 (pg : Prg) (v0_0 v0_1 : PV) (v1_0 v1_1 : PV) (gh : List GObj) : DR := onK (degr1 v0_0) (onK (degr1 v0_1) (onK (degr1 v1_0) (onK (degr1 v1_1) (isC (degr (degr1 v0_0)) (isC (degr (degr1 v1_0)) (arK (degr (degr (degr1 v0_0))) (arK (degr (degr (degr1 v1_0))) (
  callR gh true (callL pg 46 [(degr (degr (degr1 v0_0))), (degr (degr (degr1 v1_0)))] gh) fun r1 gh2 => unB r1 fun b3 =>
  br 10 b3 (isC (degr (degr1 v0_1)) (isC (degr (degr1 v1_1)) (arK (degr (degr (degr1 v0_1))) (arK (degr (degr (degr1 v1_1))) (
  callR gh2 true (callL pg 95 [(degr (degr (degr1 v0_1))), (degr (degr (degr1 v1_1)))] gh2) fun r4 gh5 => unB r4 fun b6 => some (.ret, ⟨[(4, B b6)], [], gh5⟩)))))) (some (.ret, ⟨[(4, B false)], [], gh2⟩))))))))))
theorem D_ref_SameTrace_0_ok {v0_0 v0_1 : PV} {v1_0 v1_1 : PV} (h : D_ref_SameTrace_0 pg v0_0 v0_1 v1_0 v1_1 gh = some (e, s)) : runL pg f_ref_SameTrace_0 ⟨[(0, .agg [v0_0, v0_1]), (1, .agg [v1_0, v1_1])], [], gh⟩ = some (e, s) :=
  runX_ok an_ref_SameTrace (Eq.trans (by kernel_rfl) h)
end
end Go.Lw
end

/-! What the code of function law_TraceParses comes to, piece by piece. Written by program (dprint.py). -/
section
set_option maxRecDepth 10000
set_option maxHeartbeats 4000000
namespace Go.Lw
open Go
noncomputable section
variable {pg : Prg} {gh : List GObj} {e : IExit} {s : St}
def an_law_TraceParses : Tr := (.node 29 (.agg [.any, .any]) (.node 17 (.ce (.str)) (.node 11 (.tup 2) (tI 6 (.node 1 (.agg [.any, .any]) (.node 0 (.ce (.str)) .nil .nil) (uB 4)) (.node 9 (.ce (.str)) (uI 8) .nil)) (.node 14 (.agg [.any, .any]) (.node 13 (.tup 2) (.node 12 (.ce (.str)) .nil .nil) .nil) (.node 16 (.tup 2) (uI 15) .nil))) (tB 23 (tI 20 (.node 19 (.agg [.any, .any]) (.node 18 (.tup 2) .nil .nil) .nil) (tB 22 (uB 21) .nil)) (tB 26 (tI 25 (uI 24) .nil) (tB 28 (uB 27) .nil)))) (.node 41 (.tup 2) (.node 35 (.agg [.any, .any]) (tB 32 (tB 31 (.node 30 (.agg [.any, .any]) .nil .nil) .nil) (.node 34 (.tup 2) (uB 33) .nil)) (tI 38 (.node 37 (.ce (.str)) (.node 36 (.tup 2) .nil .nil) .nil) (tB 40 (uI 39) .nil))) (tB 47 (.node 44 (.agg [.any, .any]) (.node 43 (.tup 2) (.node 42 (.ce (.str)) .nil .nil) .nil) (tI 46 (uI 45) .nil)) (.node 50 (.agg [.any, .any]) (.node 49 (.agg [.any, .any]) (uB 48) .nil) (tB 52 (uB 51) .nil)))))
def D_law_TraceParses_0 (pg : Prg) (s0 : ByteArray) (v1_0 v1_1 : PV) (gh : List GObj) : DR := onK (degr1 v1_0) (onK (degr1 v1_1) (
  callR gh true (callL pg 247 [.str s0] gh) fun r1 gh2 => unT 2 r1 fun r3 r4 => unA 2 (degr1 (degr1 r3)) fun c5 c6 => unI .i64 (degr1 (degr1 r4)) fun n7 => onK c5 (onK c6 (
  callR gh2 true (callL pg 372 [.str s0] gh2) fun r8 gh9 => unT 2 r8 fun r10 r11 => unA 2 (degr1 (degr1 r10)) fun c12 c13 => unI .i64 (degr1 (degr1 r11)) fun n14 => onK c12 (onK c13 (
  callR gh9 true (callL pg 242 [] gh9) fun r15 gh16 => unB r15 fun b17 =>
  br 23 (!b17) (some (.ret, ⟨[(4, B false)], [], gh16⟩)) (
  br 28 (n7 != n14) (some (.ret, ⟨[(4, B false)], [], gh16⟩)) (onK (degr1 (degr1 c5)) (onK (degr1 (degr1 c6)) (onK (degr1 (degr1 c12)) (onK (degr1 (degr1 c13)) (
  callR gh16 true (callL pg 373 [(.agg [(degr1 (degr1 c5)), (degr1 (degr1 c6))]), (.agg [(degr1 (degr1 c12)), (degr1 (degr1 c13))])] gh16) fun r18 gh19 => unB r18 fun b20 =>
  br 33 (!b20) (some (.ret, ⟨[(4, B false)], [], gh19⟩)) (onK (degr1 (degr1 (degr1 v1_0))) (onK (degr1 (degr1 (degr1 v1_1))) (
  callR gh19 true (callL pg 246 [(.agg [(degr1 (degr1 (degr1 v1_0))), (degr1 (degr1 (degr1 v1_1)))])] gh19) fun r21 gh22 => unT 2 r21 fun r23 r24 => unS (degr1 (degr1 r23)) fun s25 => unI .i64 (degr1 (degr1 r24)) fun n26 =>
  br 40 (n26 != 0) (some (.ret, ⟨[(4, B true)], [], gh22⟩)) (
  callR gh22 true (callL pg 247 [.str s25] gh22) fun r27 gh28 => unT 2 r27 fun r29 r30 => unA 2 (degr1 (degr1 r29)) fun c31 c32 => unI .i64 (degr1 (degr1 r30)) fun n33 => onK c31 (onK c32 (
  br 48 (n33 == 0) (onK (degr1 (degr1 c31)) (onK (degr1 (degr1 c32)) (onK (degr1 (degr1 (degr1 v1_0))) (onK (degr1 (degr1 (degr1 v1_1))) (
  callR gh28 true (callL pg 373 [(.agg [(degr1 (degr1 c31)), (degr1 (degr1 c32))]), (.agg [(degr1 (degr1 (degr1 v1_0))), (degr1 (degr1 (degr1 v1_1)))])] gh28) fun r34 gh35 => unB r34 fun b36 => some (.ret, ⟨[(4, B b36)], [], gh35⟩)))))) (some (.ret, ⟨[(4, B false)], [], gh28⟩))))))))))))))))))))
theorem D_law_TraceParses_0_ok {s0 : ByteArray} {v1_0 v1_1 : PV} (h : D_law_TraceParses_0 pg s0 v1_0 v1_1 gh = some (e, s)) : runL pg f_law_TraceParses_0 ⟨[(0, .str s0), (1, .agg [v1_0, v1_1])], [], gh⟩ = some (e, s) :=
  runX_ok an_law_TraceParses (Eq.trans (by kernel_rfl) h)
end
end Go.Lw
end
