/-
  The texts that the proof stands on, part 11.
-/
import Derived.Test.YtmodipglnngghacGreatDoorTracePlaysJ
import Derived.KernelRfl
set_option linter.unusedVariables false
set_option linter.unusedSimpArgs false
set_option linter.unnecessarySimpa false

/-! What the code of function word_Fit comes to, piece by piece. Written by program (dprint.py). -/
section
set_option maxRecDepth 10000
set_option maxHeartbeats 4000000
namespace Go.Lw
open Go
noncomputable section
variable {pg : Prg} {gh : List GObj} {e : IExit} {s : St}
def q8b : Tr := (tI 29 (.node 16 (.tup 2) (tB 10 (.node 3 (.agg [.int .i64, .int .i64, .int .i64]) (tI 1 (uI 0) (uI 2)) (tI 9 (uI 8) .nil)) (.node 13 (.tup 2) (tI 12 (uI 11) .nil) (tI 15 (uO 14) .nil))) (tB 23 (tB 20 (tB 18 (uI 17) (uB 19)) (tB 22 (uI 21) .nil)) (tB 26 (tI 25 (.node 24 (.agg [.int .i64, .int .i64, .int .i64]) .nil .nil) .nil) (tI 28 (uI 27) .nil)))) (tB 42 (tB 36 (tB 33 (tI 31 (uI 30) (uB 32)) (tB 35 (uI 34) .nil)) (tI 39 (tB 38 (uB 37) .nil) (tI 41 (uI 40) .nil))) (tI 49 (tB 46 (tI 44 (uB 43) (uB 45)) (tI 48 (uB 47) .nil)) (.node 52 (.agg [.int .i64, .int .i64, .int .i64]) (tI 51 (uI 50) .nil) (tB 54 (uB 53) .nil)))))
def qy (pg : Prg) (x0 x1 : Int) (x2 x9 : Int) (x24_0 x24_1 : Int) (x24_2 x25 : Int) (xc0_0 xc0_1 xc0_2 : Int) (gh : List GObj) : DR :=
  br 26 (decide (x25 < 3)) (ixX (.agg [I x24_0, I x24_1, I x24_2]) 1 3 false x25 fun v1 => unI .i64 v1 fun n2 =>
  callR gh true (callL pg 63 [I x0] gh) fun r3 gh4 => unI .i64 r3 fun n5 =>
  br 33 (decide (x25 < n5)) (
  callR gh4 true (callL pg 62 [I n2] gh4) fun r6 gh7 => unB r6 fun b8 =>
  br 38 (!b8) (some (.ret, ⟨[(8, I 3)], [], gh7⟩)) (
  callR gh7 true (callL pg 63 [I x0] gh7) fun r9 gh10 => unI .i64 r9 fun n11 =>
  br 43 (decide (n11 ≤ x25)) (
  br 47 (n2 != 0) (some (.ret, ⟨[(8, I 3)], [], gh10⟩)) (some (.normal, ⟨[(0, I x0), (1, I x1), (2, I x2), (7, .ptr false 0 0), (9, I x9), (24, .agg [I x24_0, I x24_1, I x24_2]), (25, (I (IntKind.i64.wrap (x25 + 1))))], [[I xc0_0, I xc0_1, I xc0_2]], gh10⟩))) (some (.normal, ⟨[(0, I x0), (1, I x1), (2, I x2), (7, .ptr false 0 0), (9, I x9), (24, .agg [I x24_0, I x24_1, I x24_2]), (25, (I (IntKind.i64.wrap (x25 + 1))))], [[I xc0_0, I xc0_1, I xc0_2]], gh10⟩)))) (
  callR gh4 true (callL pg 63 [I x0] gh4) fun r12 gh13 => unI .i64 r12 fun n14 =>
  br 43 (decide (n14 ≤ x25)) (
  br 47 (n2 != 0) (some (.ret, ⟨[(8, I 3)], [], gh13⟩)) (some (.normal, ⟨[(0, I x0), (1, I x1), (2, I x2), (7, .ptr false 0 0), (9, I x9), (24, .agg [I x24_0, I x24_1, I x24_2]), (25, (I (IntKind.i64.wrap (x25 + 1))))], [[I xc0_0, I xc0_1, I xc0_2]], gh13⟩))) (some (.normal, ⟨[(0, I x0), (1, I x1), (2, I x2), (7, .ptr false 0 0), (9, I x9), (24, .agg [I x24_0, I x24_1, I x24_2]), (25, (I (IntKind.i64.wrap (x25 + 1))))], [[I xc0_0, I xc0_1, I xc0_2]], gh13⟩)))) (some ((.exit 0), ⟨[(0, I x0), (1, I x1), (2, I x2), (7, .ptr false 0 0), (9, I x9), (24, .agg [I x24_0, I x24_1, I x24_2]), (25, I x25), (26, (B (decide (x25 < 3))))], [[I xc0_0, I xc0_1, I xc0_2]], gh⟩))
theorem qy_ {x0 x1 : Int} {x2 x9 : Int} {x24_0 x24_1 : Int} {x24_2 x25 : Int} {xc0_0 xc0_1 xc0_2 : Int} (h : qy pg x0 x1 x2 x9 x24_0 x24_1 x24_2 x25 xc0_0 xc0_1 xc0_2 gh = some (e, s)) : runL pg qcq ⟨[(0, I x0), (1, I x1), (2, I x2), (7, .ptr false 0 0), (9, I x9), (24, .agg [I x24_0, I x24_1, I x24_2]), (25, I x25)], [[I xc0_0, I xc0_1, I xc0_2]], gh⟩ = some (e, s) :=
 ji2 q8b (Eq.trans (by kernel_rfl) h)
def q4c (pg : Prg) (x1 x2 : Int) (x9 xc0_0 : Int) (xc0_1 xc0_2 : Int) (gh : List GObj) : DR :=
  callR gh true (callL pg 64 [I x9, I x1, I x2, .agg [I xc0_0, I xc0_1, I xc0_2]] gh) fun r1 gh2 => unB r1 fun b3 =>
  br 54 (!b3) (some (.ret, ⟨[(8, I 1)], [], gh2⟩)) (some (.ret, ⟨[(8, I 0)], [], gh2⟩))
theorem q4c_ {x1 x2 : Int} {x9 xc0_0 : Int} {xc0_1 xc0_2 : Int} (h : q4c pg x1 x2 x9 xc0_0 xc0_1 xc0_2 gh = some (e, s)) : runL pg q82 ⟨[(1, I x1), (2, I x2), (7, .ptr false 0 0), (9, I x9)], [[I xc0_0, I xc0_1, I xc0_2]], gh⟩ = some (e, s) :=
 ji2 q8b (Eq.trans (by kernel_rfl) h)
def q1n (pg : Prg) (x0 x1 : Int) (x2 x3_0 : Int) (x3_1 x3_2 : Int) (gh : List GObj) : DR :=
  callR gh false (callL pg 61 [] gh) fun r1 gh2 => isC r1 (
  lkX gh2 0 (degr r1) (I x0) fun r3 => unI .i64 (degr1 (degr1 (Option.getD r3 (I 0)))) fun n4 =>
  br 20 (!(Option.isSome r3)) (some (.ret, ⟨[(8, I 7)], [], gh2⟩)) (
  callR gh2 true (callL pg 62 [I x1] gh2) fun r5 gh6 => unB r5 fun b7 =>
  br 23 (!b7) (some (.ret, ⟨[(8, I 3)], [], gh6⟩)) (
  kR (runL pg q81 ⟨[(0, I x0), (1, I x1), (2, I x2), (7, .ptr false 0 0), (9, I n4), (24, .agg [I x3_0, I x3_1, I x3_2]), (25, I 0)], [[I x3_0, I x3_1, I x3_2]], gh6⟩) (fun e s => nx e s (fun e s => some (e, s)) fun s => kR (runL pg q82 s) (fun e s => some (e, s))))))
theorem q1n_ {x0 x1 : Int} {x2 x3_0 : Int} {x3_1 x3_2 : Int} (h : q1n pg x0 x1 x2 x3_0 x3_1 x3_2 gh = some (e, s)) : runL pg qcr ⟨[(0, I x0), (1, I x1), (2, I x2), (3, .agg [I x3_0, I x3_1, I x3_2])], [], gh⟩ = some (e, s) :=
 ji2 q8b (Eq.trans (by kernel_rfl) h)
end
end Go.Lw
end

/-! What the code of function word_Takes comes to, piece by piece. Written by program (dprint.py). -/
section
set_option maxRecDepth 10000
set_option maxHeartbeats 4000000
namespace Go.Lw
open Go
noncomputable section
variable {pg : Prg} {gh : List GObj} {e : IExit} {s : St}
def q8c : Tr := (tB 7 (tI 4 (tI 2 (uI 0) (uO 3)) (tB 6 (uI 5) .nil)) (tB 11 (tB 9 (uB 8) (uB 10)) (tB 13 (uB 12) .nil)))
def qds (pg : Prg) (x5 : Int) (b8 : Bool) (gh : List GObj) : DR :=
  br 8 b8 (some (.ret, ⟨[(2, I 1)], [], gh⟩)) (
  br 12 (x5 == 4) (some (.ret, ⟨[(2, I 3)], [], gh⟩)) (some (.normal, ⟨[(12, (B (x5 == 4)))], [], gh⟩)))
theorem qds_ {x5 : Int} {b8 : Bool} (h : qds pg x5 b8 gh = some (e, s)) : runL pg q2u ⟨[(5, I x5), (8, B b8)], [], gh⟩ = some (e, s) :=
 ji2 q8c (Eq.trans (by kernel_rfl) h)
def qgp (pg : Prg) (b12 : Bool) (gh : List GObj) : DR := some (.ret, ⟨[(2, I 2)], [], gh⟩)
theorem qgp_ {b12 : Bool} (h : qgp pg b12 gh = some (e, s)) : runL pg q2v ⟨[(12, B b12)], [], gh⟩ = some (e, s) :=
 ji2 q8c (Eq.trans (by kernel_rfl) h)
def q1o (pg : Prg) (x0 : Int) (gh : List GObj) : DR :=
  callR gh false (callL pg 61 [] gh) fun r1 gh2 => isC r1 (
  lkX gh2 0 (degr r1) (I x0) fun r3 => unI .i64 (Option.getD r3 (I 0)) fun n4 =>
  br 6 (n4 == 0) (some (.ret, ⟨[(2, I 0)], [], gh2⟩)) (
  br 8 (n4 == 1) (
  kR (runL pg q2u ⟨[(5, I n4), (8, (B (n4 == 1)))], [], gh2⟩) (fun e s => bk 0 e s (fun e s => nx e s (fun e s => some (e, s)) fun s => kR (runL pg q2v s) (fun e s => some (e, s))))) (
  br 8 (n4 == 6) (
  kR (runL pg q2u ⟨[(5, I n4), (8, (B (n4 == 6)))], [], gh2⟩) (fun e s => bk 0 e s (fun e s => nx e s (fun e s => some (e, s)) fun s => kR (runL pg q2v s) (fun e s => some (e, s))))) (
  kR (runL pg q2u ⟨[(5, I n4), (8, (B (n4 == 7)))], [], gh2⟩) (fun e s => bk 0 e s (fun e s => nx e s (fun e s => some (e, s)) fun s => kR (runL pg q2v s) (fun e s => some (e, s))))))))
theorem q1o_ {x0 : Int} (h : q1o pg x0 gh = some (e, s)) : runL pg qcu ⟨[(0, I x0)], [], gh⟩ = some (e, s) :=
 ji2 q8c (Eq.trans (by kernel_rfl) h)
end
end Go.Lw
end

/-! What the code of function word_IsWidth comes to, piece by piece. Written by program (dprint.py). -/
section
set_option maxRecDepth 10000
set_option maxHeartbeats 4000000
namespace Go.Lw
open Go
noncomputable section
variable {pg : Prg} {gh : List GObj} {e : IExit} {s : St}
def qgq : Tr := (tB 5 (tI 3 (tB 2 (uI 0) .nil) (uB 4)) (tB 7 (uI 6) (uB 8)))
def q8d (pg : Prg) (x0 : Int) (gh : List GObj) : DR :=
  br 5 (decide (1 ≤ x0)) (some (.ret, ⟨[(2, (B (decide (x0 ≤ 8))))], [], gh⟩)) (some (.ret, ⟨[(2, B false)], [], gh⟩))
theorem q8d_ {x0 : Int} (h : q8d pg x0 gh = some (e, s)) : runL pg qct ⟨[(0, I x0)], [], gh⟩ = some (e, s) :=
 ji2 qgq (Eq.trans (by kernel_rfl) h)
end
end Go.Lw
end

/-! What the code of function word_fits comes to, piece by piece. Written by program (dprint.py). -/
section
set_option maxRecDepth 10000
set_option maxHeartbeats 4000000
namespace Go.Lw
open Go
noncomputable section
variable {pg : Prg} {gh : List GObj} {e : IExit} {s : St}
def qgr : Tr := (tB 44 (tB 22 (tI 12 (tB 8 (tI 2 (tI 1 (uI 0) .nil) (.node 3 (.agg [.int .i64, .int .i64, .int .i64]) .nil .nil)) (tB 10 (uI 9) (uB 11))) (tB 17 (tI 15 (tB 14 (uB 13) .nil) (uB 16)) (tI 20 (uI 19) (uB 21)))) (tB 33 (tB 28 (tI 26 (tI 25 (uB 23) .nil) (uB 27)) (tI 31 (uI 30) (uB 32))) (tB 40 (tI 37 (tB 35 (uB 34) .nil) (uI 39)) (tI 42 (uB 41) (uB 43))))) (tI 67 (tB 55 (tB 50 (tI 48 (tB 46 (uB 45) .nil) (uB 49)) (tI 53 (uI 52) (uB 54))) (tB 61 (tI 59 (tI 58 (uB 56) .nil) (uB 60)) (tB 63 (uB 62) (uI 65)))) (tI 76 (tB 72 (tB 70 (tI 69 (uI 68) .nil) (uB 71)) (tB 74 (uI 73) (uB 75))) (tB 82 (tI 80 (tI 79 (uI 78) .nil) (uB 81)) (tI 85 (uI 83) (uB 86))))))
def qi (pg : Prg) (x0 x1 : Int) (x2 x3_0 : Int) (x3_1 x3_2 : Int) (gh : List GObj) : DR :=
  br 11 (x2 != 0) (
  br 14 (x0 != 6) (some (.ret, ⟨[(8, B false)], [], gh⟩)) (
  br 16 (x0 == 1) (some (.ret, ⟨[(8, (B (x3_0 == x1)))], [], gh⟩)) (
  br 22 (x0 == 2) (
  br 28 (x3_0 == x1) (some (.ret, ⟨[(8, (B (x3_1 == x1)))], [], gh⟩)) (some (.ret, ⟨[(8, B false)], [], gh⟩))) (
  br 34 (x0 == 3) (
  br 41 (x3_0 == x3_1) (some (.ret, ⟨[(8, (B (x1 == 1)))], [], gh⟩)) (some (.ret, ⟨[(8, B false)], [], gh⟩))) (
  br 45 (x0 == 4) (
  br 50 (x3_0 == 1) (
  br 56 (x3_1 == x1) (some (.ret, ⟨[(8, (B (x3_2 == x1)))], [], gh⟩)) (some (.ret, ⟨[(8, B false)], [], gh⟩))) (some (.ret, ⟨[(8, B false)], [], gh⟩))) (
  br 62 (x0 == 5) (some (.ret, ⟨[(8, (B ((IntKind.i64.wrap (x3_0 + x3_1)) == x1)))], [], gh⟩)) (
  br 71 (x0 == 6) (
  br 75 (decide (0 ≤ x2)) (some (.ret, ⟨[(8, (B (decide (x2 ≤ (IntKind.i64.wrap (x3_0 - x1))))))], [], gh⟩)) (some (.ret, ⟨[(8, B false)], [], gh⟩))) (some (.ret, ⟨[(8, (B (decide (x3_0 ≤ x1))))], [], gh⟩))))))))) (
  br 16 (x0 == 1) (some (.ret, ⟨[(8, (B (x3_0 == x1)))], [], gh⟩)) (
  br 22 (x0 == 2) (
  br 28 (x3_0 == x1) (some (.ret, ⟨[(8, (B (x3_1 == x1)))], [], gh⟩)) (some (.ret, ⟨[(8, B false)], [], gh⟩))) (
  br 34 (x0 == 3) (
  br 41 (x3_0 == x3_1) (some (.ret, ⟨[(8, (B (x1 == 1)))], [], gh⟩)) (some (.ret, ⟨[(8, B false)], [], gh⟩))) (
  br 45 (x0 == 4) (
  br 50 (x3_0 == 1) (
  br 56 (x3_1 == x1) (some (.ret, ⟨[(8, (B (x3_2 == x1)))], [], gh⟩)) (some (.ret, ⟨[(8, B false)], [], gh⟩))) (some (.ret, ⟨[(8, B false)], [], gh⟩))) (
  br 62 (x0 == 5) (some (.ret, ⟨[(8, (B ((IntKind.i64.wrap (x3_0 + x3_1)) == x1)))], [], gh⟩)) (
  br 71 (x0 == 6) (
  br 75 (decide (0 ≤ x2)) (some (.ret, ⟨[(8, (B (decide (x2 ≤ (IntKind.i64.wrap (x3_0 - x1))))))], [], gh⟩)) (some (.ret, ⟨[(8, B false)], [], gh⟩))) (some (.ret, ⟨[(8, (B (decide (x3_0 ≤ x1))))], [], gh⟩))))))))
theorem qi_ {x0 x1 : Int} {x2 x3_0 : Int} {x3_1 x3_2 : Int} (h : qi pg x0 x1 x2 x3_0 x3_1 x3_2 gh = some (e, s)) : runL pg qcv ⟨[(0, I x0), (1, I x1), (2, I x2), (3, .agg [I x3_0, I x3_1, I x3_2])], [], gh⟩ = some (e, s) :=
 ji2 qgr (Eq.trans (by kernel_rfl) h)
end
end Go.Lw
end

/-! What the code of function word_shapes comes to, piece by piece. Written by program (dprint.py). -/
section
set_option maxRecDepth 10000
set_option maxHeartbeats 4000000
namespace Go.Lw
open Go
noncomputable section
variable {pg : Prg} {gh : List GObj} {e : IExit} {s : St}
def qgs : Tr := (tO 1 (uO 0) (uO 2))
def qdt (pg : Prg)  (gh : List GObj) : DR :=
  muX (gh ++ [.map []]) 0 (.mp (List.length gh)) (I 4) (I 1) fun gh1 =>
  muX gh1 0 (.mp (List.length gh)) (I 5) (I 1) fun gh2 =>
  muX gh2 0 (.mp (List.length gh)) (I 6) (I 2) fun gh3 =>
  muX gh3 0 (.mp (List.length gh)) (I 7) (I 2) fun gh4 =>
  muX gh4 0 (.mp (List.length gh)) (I 8) (I 2) fun gh5 =>
  muX gh5 0 (.mp (List.length gh)) (I 9) (I 2) fun gh6 =>
  muX gh6 0 (.mp (List.length gh)) (I 10) (I 2) fun gh7 =>
  muX gh7 0 (.mp (List.length gh)) (I 11) (I 2) fun gh8 =>
  muX gh8 0 (.mp (List.length gh)) (I 12) (I 2) fun gh9 =>
  muX gh9 0 (.mp (List.length gh)) (I 13) (I 2) fun gh10 =>
  muX gh10 0 (.mp (List.length gh)) (I 14) (I 2) fun gh11 =>
  muX gh11 0 (.mp (List.length gh)) (I 15) (I 2) fun gh12 =>
  muX gh12 0 (.mp (List.length gh)) (I 16) (I 3) fun gh13 =>
  muX gh13 0 (.mp (List.length gh)) (I 17) (I 3) fun gh14 =>
  muX gh14 0 (.mp (List.length gh)) (I 18) (I 3) fun gh15 =>
  muX gh15 0 (.mp (List.length gh)) (I 19) (I 4) fun gh16 =>
  muX gh16 0 (.mp (List.length gh)) (I 20) (I 5) fun gh17 =>
  muX gh17 0 (.mp (List.length gh)) (I 21) (I 6) fun gh18 =>
  muX gh18 0 (.mp (List.length gh)) (I 22) (I 7) fun gh19 =>
  muX gh19 0 (.mp (List.length gh)) (I 23) (I 7) fun gh20 => some (.ret, ⟨[(0, (.mp (List.length gh)))], [], gh20⟩)
theorem qdt_  (h : qdt pg  gh = some (e, s)) : runL pg qcs ⟨[], [], gh⟩ = some (e, s) :=
 ji2 qgs (Eq.trans (by kernel_rfl) h)
end
end Go.Lw
end

/-! What the code of function word_do comes to, piece by piece. Written by program (dprint.py). -/
section
set_option maxRecDepth 10000
set_option maxHeartbeats 4000000
namespace Go.Lw
open Go
noncomputable section
variable {pg : Prg} {gh : List GObj} {e : IExit} {s : St}
def qgt : Tr := (tI 66 (tI 36 (tB 21 (tI 14 (tI 3 (tI 1 (uI 0) (uI 2)) (tI 5 (uI 4) (.node 6 (.agg [.int .i64, .int .i64, .int .i64]) .nil .nil))) (tI 18 (tB 16 (uI 15) (uB 17)) (tB 20 (uI 19) .nil))) (tB 29 (tB 25 (tI 23 (uI 22) (uB 24)) (tI 27 (uI 26) (uI 28))) (tI 33 (tI 31 (uB 30) (uI 32)) (tB 35 (uB 34) .nil)))) (tI 51 (tB 44 (tB 40 (tI 38 (uI 37) (uB 39)) (tI 42 (uI 41) (uI 43))) (tI 48 (tI 46 (uB 45) (uI 47)) (tB 50 (uB 49) .nil))) (tB 59 (tB 55 (tI 53 (uI 52) (uB 54)) (tI 57 (uI 56) (uI 58))) (tI 63 (tI 61 (uB 60) (uI 62)) (tB 65 (uB 64) .nil))))) (tI 99 (tI 82 (tB 74 (tB 70 (tB 68 (uI 67) (uI 69)) (tI 72 (uB 71) (uI 73))) (tI 78 (tB 76 (uI 75) (uB 77)) (tI 81 (uI 80) .nil))) (tI 92 (tI 87 (tI 85 (uI 84) (uB 86)) (tB 89 (uB 88) (uI 90))) (tB 96 (tI 94 (uI 93) (uI 95)) (tI 98 (uB 97) .nil)))) (tI 115 (tB 108 (tI 103 (tB 101 (uI 100) (uB 102)) (tI 106 (uI 105) (uB 107))) (tI 112 (tB 110 (uI 109) (uI 111)) (tB 114 (uB 113) .nil))) (tI 122 (tI 119 (tI 117 (uB 116) (uI 118)) (tB 121 (uB 120) .nil)) (tI 126 (tI 124 (uB 123) (uI 125)) (tI 128 (uI 127) .nil))))))
def q4 (pg : Prg) (x0 x1 : Int) (x2 x3 : Int) (x4 x5 : Int) (x6_0 x6_1 x6_2 : Int) (gh : List GObj) : DR :=
  br 16 (x0 == 4) (some (.ret, ⟨[(14, (I (iNot .i64 x2)))], [], gh⟩)) (
  br 20 (x0 == 5) (some (.ret, ⟨[(14, (I (IntKind.i64.wrap (0 - x2))))], [], gh⟩)) (
  br 24 (x0 == 6) (some (.ret, ⟨[(14, (I (iAnd .i64 x2 x3)))], [], gh⟩)) (
  br 29 (x0 == 7) (some (.ret, ⟨[(14, (I (iOr .i64 x2 x3)))], [], gh⟩)) (
  br 34 (x0 == 8) (some (.ret, ⟨[(14, (I (iXor .i64 x2 x3)))], [], gh⟩)) (
  br 39 (x0 == 9) (some (.ret, ⟨[(14, (I (IntKind.i64.wrap (x2 + x3))))], [], gh⟩)) (
  br 44 (x0 == 10) (some (.ret, ⟨[(14, (I (IntKind.i64.wrap (x2 - x3))))], [], gh⟩)) (
  br 49 (x0 == 11) (some (.ret, ⟨[(14, (I (IntKind.i64.wrap (x2 * x3))))], [], gh⟩)) (
  br 54 (x0 == 14) (gd (decide ((0 : Int) ≤ x3)) (some (.ret, ⟨[(14, (I (iShl .i64 x2 x3)))], [], gh⟩))) (
  br 59 (x0 == 15) (gd (decide ((0 : Int) ≤ x3)) (some (.ret, ⟨[(14, (I (iShr .i64 x2 x3)))], [], gh⟩))) (
  br 64 (x0 == 16) (
  callR gh true (callL pg 114 [(B (x2 == x3))] gh) fun r1 gh2 => unI .i64 r1 fun n3 => some (.ret, ⟨[(14, I n3)], [], gh2⟩)) (
  br 70 (x0 == 17) (
  callR gh true (callL pg 114 [(B (decide (x2 < x3)))] gh) fun r4 gh5 => unI .i64 r4 fun n6 => some (.ret, ⟨[(14, I n6)], [], gh5⟩)) (
  br 76 (x0 == 18) (
  callR gh true (callL pg 115 [I x2, I x6_0] gh) fun r7 gh8 => unI .i64 r7 fun n9 =>
  callR gh8 true (callL pg 115 [I x3, I x6_1] gh8) fun r10 gh11 => unI .i64 r10 fun n12 =>
  callR gh11 true (callL pg 114 [(B (decide (n9 < n12)))] gh11) fun r13 gh14 => unI .i64 r13 fun n15 => some (.ret, ⟨[(14, I n15)], [], gh14⟩)) (
  br 88 (x0 == 20) (gd (decide ((0 : Int) ≤ x6_1)) (some (.ret, ⟨[(14, (I (iOr .i64 (iShl .i64 x2 x6_1) x3)))], [], gh⟩))) (
  br 96 (x0 == 21) (gd (decide ((0 : Int) ≤ x5)) (some (.ret, ⟨[(14, (I (iShr .i64 x2 x5)))], [], gh⟩))) (
  br 101 (x0 == 23) (
  callR gh true (callL pg 115 [I x2, I x6_0] gh) fun r16 gh17 => unI .i64 r16 fun n18 => some (.ret, ⟨[(14, I n18)], [], gh17⟩)) (
  br 107 (x0 == 19) (
  br 110 (x2 == 1) (some (.ret, ⟨[(14, I x3)], [], gh⟩)) (some (.ret, ⟨[(14, I x4)], [], gh⟩))) (
  br 113 (x0 == 12) (
  br 116 (x3 == 0) (some (.ret, ⟨[(14, (I (-1)))], [], gh⟩)) (gd (decide ((x3 : Int) ≠ 0)) (some (.ret, ⟨[(14, (I (IntKind.i64.wrap (Int.tdiv x2 x3))))], [], gh⟩)))) (
  br 120 (x0 == 13) (
  br 123 (x3 == 0) (some (.ret, ⟨[(14, I x2)], [], gh⟩)) (gd (decide ((x3 : Int) ≠ 0)) (some (.ret, ⟨[(14, (I (Int.tmod x2 x3)))], [], gh⟩)))) (some (.ret, ⟨[(14, I x2)], [], gh⟩))))))))))))))))))))
theorem q4_ {x0 x1 : Int} {x2 x3 : Int} {x4 x5 : Int} {x6_0 x6_1 x6_2 : Int} (h : q4 pg x0 x1 x2 x3 x4 x5 x6_0 x6_1 x6_2 gh = some (e, s)) : runL pg qcy ⟨[(0, I x0), (1, I x1), (2, I x2), (3, I x3), (4, I x4), (5, I x5), (6, .agg [I x6_0, I x6_1, I x6_2])], [], gh⟩ = some (e, s) :=
 ji2 qgt (Eq.trans (by kernel_rfl) h)
end
end Go.Lw
end

/-! What the code of function word_Raw comes to, piece by piece. Written by program (dprint.py). -/
section
set_option maxRecDepth 10000
set_option maxHeartbeats 4000000
namespace Go.Lw
open Go
noncomputable section
variable {pg : Prg} {gh : List GObj} {e : IExit} {s : St}
def qgu : Tr := (tI 17 (tI 5 (tI 2 (tI 1 (uI 0) .nil) (tI 4 (uI 3) .nil)) (tI 15 (tI 14 (.node 6 (.agg [.int .i64, .int .i64, .int .i64]) .nil .nil) .nil) (uI 16))) (tI 22 (tI 20 (tI 19 (uI 18) .nil) (.node 21 (.agg [.int .i64, .int .i64, .int .i64]) .nil .nil)) (tI 25 (tI 24 (uI 23) .nil) (uI 26))))
def qdu (pg : Prg) (x0 x1 : Int) (x2 x3 : Int) (x4 x5 : Int) (x6_0 x6_1 x6_2 : Int) (gh : List GObj) : DR :=
  callR gh true (callL pg 96 [I x0, I x1, I x2, I x3, I x4, I x5, .agg [I x6_0, I x6_1, I x6_2]] gh) fun r1 gh2 => unI .i64 r1 fun n3 => gd (decide ((0 : Int) ≤ x1)) (some (.ret, ⟨[(14, (I (iAnd .i64 n3 (IntKind.i64.wrap ((iShl .i64 1 x1) - 1)))))], [], gh2⟩))
theorem qdu_ {x0 x1 : Int} {x2 x3 : Int} {x4 x5 : Int} {x6_0 x6_1 x6_2 : Int} (h : qdu pg x0 x1 x2 x3 x4 x5 x6_0 x6_1 x6_2 gh = some (e, s)) : runL pg qcx ⟨[(0, I x0), (1, I x1), (2, I x2), (3, I x3), (4, I x4), (5, I x5), (6, .agg [I x6_0, I x6_1, I x6_2])], [], gh⟩ = some (e, s) :=
 ji2 qgu (Eq.trans (by kernel_rfl) h)
end
end Go.Lw
end

/-! What the code of function word_yes comes to, piece by piece. Written by program (dprint.py). -/
section
set_option maxRecDepth 10000
set_option maxHeartbeats 4000000
namespace Go.Lw
open Go
noncomputable section
variable {pg : Prg} {gh : List GObj} {e : IExit} {s : St}
def qgv : Tr := (tI 2 (uB 0) (uB 3))
def q8e (pg : Prg) (b0 : Bool) (gh : List GObj) : DR :=
  br 3 b0 (some (.ret, ⟨[(2, I 1)], [], gh⟩)) (some (.ret, ⟨[(2, I 0)], [], gh⟩))
theorem q8e_ {b0 : Bool} (h : q8e pg b0 gh = some (e, s)) : runL pg qcz ⟨[(0, B b0)], [], gh⟩ = some (e, s) :=
 ji2 qgv (Eq.trans (by kernel_rfl) h)
end
end Go.Lw
end

/-! What the code of function word_signed comes to, piece by piece. Written by program (dprint.py). -/
section
set_option maxRecDepth 10000
set_option maxHeartbeats 4000000
namespace Go.Lw
open Go
noncomputable section
variable {pg : Prg} {gh : List GObj} {e : IExit} {s : St}
def qgw : Tr := (tI 8 (tI 5 (tI 1 (uI 0) (uI 4)) (tI 7 (uI 6) .nil)) (tI 12 (tI 10 (uB 9) (uI 11)) (tI 14 (uI 13) .nil)))
def q8f (pg : Prg) (x0 x1 : Int) (gh : List GObj) : DR := gd (decide ((0 : Int) ≤ (IntKind.i64.wrap (x1 - 1)))) (
  br 9 (decide ((iShl .i64 1 (IntKind.i64.wrap (x1 - 1))) ≤ x0)) (gd (decide ((0 : Int) ≤ x1)) (some (.ret, ⟨[(4, (I (IntKind.i64.wrap (x0 - (iShl .i64 1 x1)))))], [], gh⟩))) (some (.ret, ⟨[(4, I x0)], [], gh⟩)))
theorem q8f_ {x0 x1 : Int} (h : q8f pg x0 x1 gh = some (e, s)) : runL pg qd0 ⟨[(0, I x0), (1, I x1)], [], gh⟩ = some (e, s) :=
 ji2 qgw (Eq.trans (by kernel_rfl) h)
end
end Go.Lw
end

/-! What the code of function word_IsWord comes to, piece by piece. Written by program (dprint.py). -/
section
set_option maxRecDepth 10000
set_option maxHeartbeats 4000000
namespace Go.Lw
open Go
noncomputable section
variable {pg : Prg} {gh : List GObj} {e : IExit} {s : St}
def qgx : Tr := (tB 7 (tB 4 (tI 1 (uI 0) .nil) (tB 6 (uI 5) .nil)) (tI 10 (tI 9 (uI 8) .nil) (tB 12 (uB 11) .nil)))
def q8g (pg : Prg) (x0 x1 : Int) (gh : List GObj) : DR :=
  br 7 (decide (0 ≤ x0)) (gd (decide ((0 : Int) ≤ x1)) (some (.ret, ⟨[(4, (B (decide (x0 < (iShl .i64 1 x1)))))], [], gh⟩))) (some (.ret, ⟨[(4, B false)], [], gh⟩))
theorem q8g_ {x0 x1 : Int} (h : q8g pg x0 x1 gh = some (e, s)) : runL pg qcw ⟨[(0, I x0), (1, I x1)], [], gh⟩ = some (e, s) :=
 ji2 qgx (Eq.trans (by kernel_rfl) h)
end
end Go.Lw
end

/-! What the code of function ref_FitOf comes to, piece by piece. Written by program (dprint.py). -/
section
set_option maxRecDepth 10000
set_option maxHeartbeats 4000000
namespace Go.Lw
open Go
noncomputable section
variable {pg : Prg} {gh : List GObj} {e : IExit} {s : St}
def q4d : Tr := (tB 70 (tI 35 (tI 19 (tB 11 (.node 3 (.agg [.int .i64, .int .i64, .int .i64]) (tI 1 (uI 0) (uI 2)) (tI 9 (uI 8) (uI 10))) (tB 15 (tI 13 (uI 12) (uI 14)) (tB 17 (uI 16) (uB 18)))) (tI 27 (tI 23 (tI 21 (uB 20) (uI 22)) (tB 25 (uI 24) (uB 26))) (tB 32 (tB 30 (uI 29) (uB 31)) (tI 34 (uB 33) .nil)))) (tI 52 (tI 44 (tI 40 (tB 37 (uB 36) (uI 38)) (tB 42 (uB 41) (uB 43))) (tI 49 (tB 47 (uI 46) (uB 48)) (tB 51 (uB 50) .nil))) (tB 61 (tI 57 (tB 54 (uB 53) (uI 56)) (tB 59 (uB 58) (uI 60))) (tB 66 (tI 64 (uI 63) (uB 65)) (tI 69 (uI 68) .nil))))) (tI 108 (tB 89 (tB 80 (tB 74 (tB 72 (uB 71) (uI 73)) (tI 78 (uI 76) (uB 79))) (tB 84 (tB 82 (uI 81) (uB 83)) (tB 86 (uI 85) (uI 88)))) (tI 99 (tB 94 (tI 92 (uB 90) (uI 93)) (tB 96 (uB 95) (uI 98))) (tI 103 (tB 101 (uB 100) (uB 102)) (tI 106 (uB 104) .nil)))) (tI 123 (tB 116 (tB 112 (tI 110 (uI 109) (uB 111)) (tB 114 (uI 113) (uI 115))) (tB 120 (tI 118 (uB 117) (uB 119)) (tI 122 (uB 121) .nil))) (tI 132 (tB 128 (tI 126 (uI 124) (uB 127)) (tB 130 (uB 129) (uB 131))) (tB 136 (tB 134 (uB 133) (uI 135)) (tB 138 (uB 137) .nil))))))
def qz (pg : Prg) (x0 x1 : Int) (x2 x9 : Int) (x10 xc0_0 : Int) (xc0_1 xc0_2 : Int) (gh : List GObj) : DR :=
  br 20 (decide (x10 < 3)) (
  br 26 (decide (x10 < x9)) (gd (decide (0 ≤ x10 ∧ x10 < ((3 : Nat) : Int))) (
  ob (grab false 1 (0 + Int.toNat x10 * 1) [I xc0_0, I xc0_1, I xc0_2]) fun v1 => unI .i64 (degr v1) fun n2 =>
  callR gh true (callL pg 50 [I n2, I 1, I 8] gh) fun r3 gh4 => unB r3 fun b5 =>
  br 33 (!b5) (some (.ret, ⟨[(8, I 3)], [], gh4⟩)) (
  br 37 (decide (x9 ≤ x10)) (gd (decide (0 ≤ x10 ∧ x10 < ((3 : Nat) : Int))) (
  ob (grab false 1 (0 + Int.toNat x10 * 1) [I xc0_0, I xc0_1, I xc0_2]) fun v6 => unI .i64 (degr v6) fun n7 =>
  br 43 (n7 != 0) (some (.ret, ⟨[(8, I 3)], [], gh4⟩)) (some (.normal, ⟨[(0, I x0), (1, I x1), (2, I x2), (7, .ptr false 0 0), (9, I x9), (10, (I (IntKind.i64.wrap (x10 + 1))))], [[I xc0_0, I xc0_1, I xc0_2]], gh4⟩)))) (some (.normal, ⟨[(0, I x0), (1, I x1), (2, I x2), (7, .ptr false 0 0), (9, I x9), (10, (I (IntKind.i64.wrap (x10 + 1))))], [[I xc0_0, I xc0_1, I xc0_2]], gh4⟩))))) (
  br 37 (decide (x9 ≤ x10)) (gd (decide (0 ≤ x10 ∧ x10 < ((3 : Nat) : Int))) (
  ob (grab false 1 (0 + Int.toNat x10 * 1) [I xc0_0, I xc0_1, I xc0_2]) fun v8 => unI .i64 (degr v8) fun n9 =>
  br 43 (n9 != 0) (some (.ret, ⟨[(8, I 3)], [], gh⟩)) (some (.normal, ⟨[(0, I x0), (1, I x1), (2, I x2), (7, .ptr false 0 0), (9, I x9), (10, (I (IntKind.i64.wrap (x10 + 1))))], [[I xc0_0, I xc0_1, I xc0_2]], gh⟩)))) (some (.normal, ⟨[(0, I x0), (1, I x1), (2, I x2), (7, .ptr false 0 0), (9, I x9), (10, (I (IntKind.i64.wrap (x10 + 1))))], [[I xc0_0, I xc0_1, I xc0_2]], gh⟩)))) (some ((.exit 0), ⟨[(0, I x0), (1, I x1), (2, I x2), (7, .ptr false 0 0), (9, I x9), (10, I x10), (20, (B (decide (x10 < 3))))], [[I xc0_0, I xc0_1, I xc0_2]], gh⟩))
theorem qz_ {x0 x1 : Int} {x2 x9 : Int} {x10 xc0_0 : Int} {xc0_1 xc0_2 : Int} (h : qz pg x0 x1 x2 x9 x10 xc0_0 xc0_1 xc0_2 gh = some (e, s)) : runL pg qb3 ⟨[(0, I x0), (1, I x1), (2, I x2), (7, .ptr false 0 0), (9, I x9), (10, I x10)], [[I xc0_0, I xc0_1, I xc0_2]], gh⟩ = some (e, s) :=
 ji2 q4d (Eq.trans (by kernel_rfl) h)
def q4e (pg : Prg) (x0 x2 : Int) (b11 : Bool) (gh : List GObj) : DR :=
  br 131 (!b11) (some (.ret, ⟨[(8, I 1)], [], gh⟩)) (
  br 134 (x0 != 21) (
  br 138 (x2 != 0) (some (.ret, ⟨[(8, I 1)], [], gh⟩)) (some (.ret, ⟨[(8, I 0)], [], gh⟩))) (some (.ret, ⟨[(8, I 0)], [], gh⟩)))
theorem q4e_ {x0 x2 : Int} {b11 : Bool} (h : q4e pg x0 x2 b11 gh = some (e, s)) : runL pg qa ⟨[(0, I x0), (2, I x2), (11, B b11)], [], gh⟩ = some (e, s) :=
 ji2 q4d (Eq.trans (by kernel_rfl) h)
def qe (pg : Prg) (x0 x1 : Int) (x2 xc0_0 : Int) (xc0_1 xc0_2 : Int) (gh : List GObj) : DR :=
  br 51 (x0 == 4) (
  kR (runL pg qa ⟨[(0, I x0), (2, I x2), (11, (B (xc0_0 == x1)))], [], gh⟩) (fun e s => some (e, s))) (
  br 48 (x0 == 5) (
  kR (runL pg qa ⟨[(0, I x0), (2, I x2), (11, (B (xc0_0 == x1)))], [], gh⟩) (fun e s => some (e, s))) (
  callR gh true (callL pg 50 [I x0, I 6, I 15] gh) fun r1 gh2 => unB r1 fun b3 =>
  br 59 b3 (
  br 66 (xc0_0 == x1) (
  kR (runL pg qa ⟨[(0, I x0), (2, I x2), (11, (B (xc0_1 == x1)))], [], gh2⟩) (fun e s => some (e, s))) (
  kR (runL pg qa ⟨[(0, I x0), (2, I x2), (11, B false)], [], gh2⟩) (fun e s => some (e, s)))) (
  callR gh2 true (callL pg 50 [I x0, I 16, I 18] gh2) fun r4 gh5 => unB r4 fun b6 =>
  br 72 b6 (
  br 80 (xc0_0 == xc0_1) (
  kR (runL pg qa ⟨[(0, I x0), (2, I x2), (11, (B (x1 == 1)))], [], gh5⟩) (fun e s => some (e, s))) (
  kR (runL pg qa ⟨[(0, I x0), (2, I x2), (11, B false)], [], gh5⟩) (fun e s => some (e, s)))) (
  br 84 (x0 == 19) (
  br 90 (xc0_0 == 1) (
  br 96 (xc0_1 == x1) (
  kR (runL pg qa ⟨[(0, I x0), (2, I x2), (11, (B (xc0_2 == x1)))], [], gh5⟩) (fun e s => some (e, s))) (
  kR (runL pg qa ⟨[(0, I x0), (2, I x2), (11, B false)], [], gh5⟩) (fun e s => some (e, s)))) (
  kR (runL pg qa ⟨[(0, I x0), (2, I x2), (11, B false)], [], gh5⟩) (fun e s => some (e, s)))) (
  br 102 (x0 == 20) (
  kR (runL pg qa ⟨[(0, I x0), (2, I x2), (11, (B ((IntKind.i64.wrap (xc0_0 + xc0_1)) == x1)))], [], gh5⟩) (fun e s => some (e, s))) (
  br 112 (x0 == 21) (
  br 117 (decide (0 ≤ x2)) (
  br 121 (decide (x2 ≤ 8)) (
  kR (runL pg qa ⟨[(0, I x0), (2, I x2), (11, (B (decide ((IntKind.i64.wrap (x2 + x1)) ≤ xc0_0))))], [], gh5⟩) (fun e s => some (e, s))) (
  kR (runL pg qa ⟨[(0, I x0), (2, I x2), (11, B false)], [], gh5⟩) (fun e s => some (e, s)))) (
  kR (runL pg qa ⟨[(0, I x0), (2, I x2), (11, B false)], [], gh5⟩) (fun e s => some (e, s)))) (
  kR (runL pg qa ⟨[(0, I x0), (2, I x2), (11, (B (decide (xc0_0 ≤ x1))))], [], gh5⟩) (fun e s => some (e, s)))))))))
theorem qe_ {x0 x1 : Int} {x2 xc0_0 : Int} {xc0_1 xc0_2 : Int} (h : qe pg x0 x1 x2 xc0_0 xc0_1 xc0_2 gh = some (e, s)) : runL pg q3u ⟨[(0, I x0), (1, I x1), (2, I x2), (7, .ptr false 0 0)], [[I xc0_0, I xc0_1, I xc0_2]], gh⟩ = some (e, s) :=
 ji2 q4d (Eq.trans (by kernel_rfl) h)
def q2z (pg : Prg) (x0 x1 : Int) (x2 x3_0 : Int) (x3_1 x3_2 : Int) (gh : List GObj) : DR :=
  callR gh true (callL pg 26 [I x0] gh) fun r1 gh2 => unI .i64 r1 fun n3 =>
  br 15 (n3 == 0) (some (.ret, ⟨[(8, I 7)], [], gh2⟩)) (
  callR gh2 true (callL pg 50 [I x1, I 1, I 8] gh2) fun r4 gh5 => unB r4 fun b6 =>
  br 18 (!b6) (some (.ret, ⟨[(8, I 3)], [], gh5⟩)) (
  kR (runL pg q6o ⟨[(0, I x0), (1, I x1), (2, I x2), (7, .ptr false 0 0), (9, I n3), (10, I 0)], [[I x3_0, I x3_1, I x3_2]], gh5⟩) (fun e s => nx e s (fun e s => some (e, s)) fun s => kR (runL pg q3u s) (fun e s => some (e, s)))))
theorem q2z_ {x0 x1 : Int} {x2 x3_0 : Int} {x3_1 x3_2 : Int} (h : q2z pg x0 x1 x2 x3_0 x3_1 x3_2 gh = some (e, s)) : runL pg qb4 ⟨[(0, I x0), (1, I x1), (2, I x2), (3, .agg [I x3_0, I x3_1, I x3_2])], [], gh⟩ = some (e, s) :=
 ji2 q4d (Eq.trans (by kernel_rfl) h)
end
end Go.Lw
end

/-! What the code of function ref_Takes comes to, piece by piece. Written by program (dprint.py). -/
section
set_option maxRecDepth 10000
set_option maxHeartbeats 4000000
namespace Go.Lw
open Go
noncomputable section
variable {pg : Prg} {gh : List GObj} {e : IExit} {s : St}
def q8h : Tr := (tB 7 (tB 4 (tI 2 (uI 0) (uI 3)) (tB 6 (uB 5) .nil)) (tB 11 (tB 9 (uB 8) (uB 10)) (tB 13 (uI 12) .nil)))
def qdv (pg : Prg) (x0 x3 : Int) (b4 : Bool) (gh : List GObj) : DR :=
  br 4 b4 (some (.ret, ⟨[(2, I 1)], [], gh⟩)) (
  br 10 (x3 == 19) (some (.ret, ⟨[(2, I 3)], [], gh⟩)) (some (.normal, ⟨[(0, I x0), (10, (B (x3 == 19)))], [], gh⟩)))
theorem qdv_ {x0 x3 : Int} {b4 : Bool} (h : qdv pg x0 x3 b4 gh = some (e, s)) : runL pg q17 ⟨[(0, I x0), (3, I x3), (4, B b4)], [], gh⟩ = some (e, s) :=
 ji2 q8h (Eq.trans (by kernel_rfl) h)
def q8i (pg : Prg) (x0 : Int) (b10 : Bool) (gh : List GObj) : DR :=
  callR gh true (callL pg 50 [I x0, I 6, I 20] gh) fun r1 gh2 => unB r1 fun b3 =>
  br 13 b3 (some (.ret, ⟨[(2, I 2)], [], gh2⟩)) (some (.ret, ⟨[(2, I 0)], [], gh2⟩))
theorem q8i_ {x0 : Int} {b10 : Bool} (h : q8i pg x0 b10 gh = some (e, s)) : runL pg q18 ⟨[(0, I x0), (10, B b10)], [], gh⟩ = some (e, s) :=
 ji2 q8h (Eq.trans (by kernel_rfl) h)
def q30 (pg : Prg) (x0 : Int) (gh : List GObj) : DR :=
  br 4 (x0 == 4) (
  kR (runL pg q17 ⟨[(0, I x0), (3, I x0), (4, (B (x0 == 4)))], [], gh⟩) (fun e s => bk 0 e s (fun e s => nx e s (fun e s => some (e, s)) fun s => kR (runL pg q18 s) (fun e s => some (e, s))))) (
  br 4 (x0 == 5) (
  kR (runL pg q17 ⟨[(0, I x0), (3, I x0), (4, (B (x0 == 5)))], [], gh⟩) (fun e s => bk 0 e s (fun e s => nx e s (fun e s => some (e, s)) fun s => kR (runL pg q18 s) (fun e s => some (e, s))))) (
  br 4 (x0 == 21) (
  kR (runL pg q17 ⟨[(0, I x0), (3, I x0), (4, (B (x0 == 21)))], [], gh⟩) (fun e s => bk 0 e s (fun e s => nx e s (fun e s => some (e, s)) fun s => kR (runL pg q18 s) (fun e s => some (e, s))))) (
  br 4 (x0 == 22) (
  kR (runL pg q17 ⟨[(0, I x0), (3, I x0), (4, (B (x0 == 22)))], [], gh⟩) (fun e s => bk 0 e s (fun e s => nx e s (fun e s => some (e, s)) fun s => kR (runL pg q18 s) (fun e s => some (e, s))))) (
  kR (runL pg q17 ⟨[(0, I x0), (3, I x0), (4, (B (x0 == 23)))], [], gh⟩) (fun e s => bk 0 e s (fun e s => nx e s (fun e s => some (e, s)) fun s => kR (runL pg q18 s) (fun e s => some (e, s))))))))
theorem q30_ {x0 : Int} (h : q30 pg x0 gh = some (e, s)) : runL pg qb5 ⟨[(0, I x0)], [], gh⟩ = some (e, s) :=
 ji2 q8h (Eq.trans (by kernel_rfl) h)
end
end Go.Lw
end

/-! What the code of function ref_between comes to, piece by piece. Written by program (dprint.py). -/
section
set_option maxRecDepth 10000
set_option maxHeartbeats 4000000
namespace Go.Lw
open Go
noncomputable section
variable {pg : Prg} {gh : List GObj} {e : IExit} {s : St}
def qgy : Tr := (tB 9 (tB 6 (tI 1 (uI 0) (uI 2)) (tI 8 (uI 7) .nil)) (tI 12 (tI 11 (uB 10) .nil) (tB 14 (uB 13) .nil)))
def q8j (pg : Prg) (x0 x1 x2 : Int) (gh : List GObj) : DR :=
  br 10 (decide (x1 ≤ x0)) (some (.ret, ⟨[(6, (B (decide (x0 ≤ x2))))], [], gh⟩)) (some (.ret, ⟨[(6, B false)], [], gh⟩))
theorem q8j_ {x0 x1 x2 : Int} (h : q8j pg x0 x1 x2 gh = some (e, s)) : runL pg qbm ⟨[(0, I x0), (1, I x1), (2, I x2)], [], gh⟩ = some (e, s) :=
 ji2 qgy (Eq.trans (by kernel_rfl) h)
end
end Go.Lw
end

/-! What the code of function ref_Two comes to, piece by piece. Written by program (dprint.py). -/
section
set_option maxRecDepth 10000
set_option maxHeartbeats 4000000
namespace Go.Lw
open Go
noncomputable section
variable {pg : Prg} {gh : List GObj} {e : IExit} {s : St}
def q8k : Tr := (tB 7 (tI 4 (tI 2 (uI 0) (uI 3)) (tI 6 (uI 5) .nil)) (tI 10 (tI 9 (uI 8) .nil) (tI 12 (uI 11) .nil)))
def q8l (pg : Prg) (x0 x3 x4 : Int) (gh : List GObj) : DR :=
  br 7 (decide (x4 < x0)) (some (.normal, ⟨[(0, I x0), (3, (I (IntKind.i64.wrap (2 * x3)))), (4, (I (IntKind.i64.wrap (x4 + 1))))], [], gh⟩)) (some ((.exit 0), ⟨[(0, I x0), (3, I x3), (4, I x4), (7, (B (decide (x4 < x0))))], [], gh⟩))
theorem q8l_ {x0 x3 x4 : Int} (h : q8l pg x0 x3 x4 gh = some (e, s)) : runL pg qb6 ⟨[(0, I x0), (3, I x3), (4, I x4)], [], gh⟩ = some (e, s) :=
 ji2 q8k (Eq.trans (by kernel_rfl) h)
def qgz (pg : Prg) (x3 : Int) (gh : List GObj) : DR := some (.ret, ⟨[(2, I x3)], [], gh⟩)
theorem qgz_ {x3 : Int} (h : qgz pg x3 gh = some (e, s)) : runL pg q6p ⟨[(3, I x3)], [], gh⟩ = some (e, s) :=
 ji2 q8k (Eq.trans (by kernel_rfl) h)
def qdw (pg : Prg) (x0 : Int) (gh : List GObj) : DR :=
  kR (runL pg q3v ⟨[(0, I x0), (3, I 1), (4, I 0)], [], gh⟩) (fun e s => nx e s (fun e s => some (e, s)) fun s => kR (runL pg q6p s) (fun e s => some (e, s)))
theorem qdw_ {x0 : Int} (h : qdw pg x0 gh = some (e, s)) : runL pg qb7 ⟨[(0, I x0)], [], gh⟩ = some (e, s) :=
 ji2 q8k (Eq.trans (by kernel_rfl) h)
end
end Go.Lw
end

/-! What the code of function ref_Bit comes to, piece by piece. Written by program (dprint.py). -/
section
set_option maxRecDepth 10000
set_option maxHeartbeats 4000000
namespace Go.Lw
open Go
noncomputable section
variable {pg : Prg} {gh : List GObj} {e : IExit} {s : St}
def qh0 : Tr := (tI 6 (tI 4 (tI 1 (uI 0) .nil) (uI 5)) (tI 8 (uI 7) (uI 9)))
def qdx (pg : Prg) (x0 x1 : Int) (gh : List GObj) : DR :=
  callR gh true (callL pg 27 [I x1] gh) fun r1 gh2 => unI .i64 r1 fun n3 => gd (decide ((n3 : Int) ≠ 0)) (gd (decide ((2 : Int) ≠ 0)) (some (.ret, ⟨[(4, (I (Int.tmod (IntKind.i64.wrap (Int.tdiv x0 n3)) 2)))], [], gh2⟩)))
theorem qdx_ {x0 x1 : Int} (h : qdx pg x0 x1 gh = some (e, s)) : runL pg qbz ⟨[(0, I x0), (1, I x1)], [], gh⟩ = some (e, s) :=
 ji2 qh0 (Eq.trans (by kernel_rfl) h)
end
end Go.Lw
end

/-! What the code of function ref_Signed comes to, piece by piece. Written by program (dprint.py). -/
section
set_option maxRecDepth 10000
set_option maxHeartbeats 4000000
namespace Go.Lw
open Go
noncomputable section
variable {pg : Prg} {gh : List GObj} {e : IExit} {s : St}
def qh1 : Tr := (tI 8 (tI 5 (tI 1 (uI 0) (uI 4)) (tI 7 (uI 6) .nil)) (tI 12 (tI 10 (uB 9) (uI 11)) (tI 14 (uI 13) .nil)))
def q8m (pg : Prg) (x0 x1 : Int) (gh : List GObj) : DR :=
  callR gh true (callL pg 97 [I x0, (I (IntKind.i64.wrap (x1 - 1)))] gh) fun r1 gh2 => unI .i64 r1 fun n3 =>
  br 9 (n3 == 1) (
  callR gh2 true (callL pg 27 [I x1] gh2) fun r4 gh5 => unI .i64 r4 fun n6 => some (.ret, ⟨[(4, (I (IntKind.i64.wrap (x0 - n6))))], [], gh5⟩)) (some (.ret, ⟨[(4, I x0)], [], gh2⟩))
theorem q8m_ {x0 x1 : Int} (h : q8m pg x0 x1 gh = some (e, s)) : runL pg qbq ⟨[(0, I x0), (1, I x1)], [], gh⟩ = some (e, s) :=
 ji2 qh1 (Eq.trans (by kernel_rfl) h)
end
end Go.Lw
end

/-! What the code of function ref_yes comes to, piece by piece. Written by program (dprint.py). -/
section
set_option maxRecDepth 10000
set_option maxHeartbeats 4000000
namespace Go.Lw
open Go
noncomputable section
variable {pg : Prg} {gh : List GObj} {e : IExit} {s : St}
def qh2 : Tr := (tI 2 (uB 0) (uB 3))
def q8n (pg : Prg) (b0 : Bool) (gh : List GObj) : DR :=
  br 3 b0 (some (.ret, ⟨[(2, I 1)], [], gh⟩)) (some (.ret, ⟨[(2, I 0)], [], gh⟩))
theorem q8n_ {b0 : Bool} (h : q8n pg b0 gh = some (e, s)) : runL pg qbp ⟨[(0, B b0)], [], gh⟩ = some (e, s) :=
 ji2 qh2 (Eq.trans (by kernel_rfl) h)
end
end Go.Lw
end

/-! What the code of function ref_bitwise comes to, piece by piece. Written by program (dprint.py). -/
section
set_option maxRecDepth 10000
set_option maxHeartbeats 4000000
namespace Go.Lw
open Go
noncomputable section
variable {pg : Prg} {gh : List GObj} {e : IExit} {s : St}
def q8o : Tr := (tI 17 (tI 10 (.node 3 (.agg [.int .i64, .int .i64, .int .i64, .int .i64]) (tI 1 (uI 0) (uI 2)) (tI 9 (uI 8) .nil)) (tI 14 (tI 12 (uI 11) (uB 13)) (tI 16 (uI 15) .nil))) (tI 24 (tI 21 (tI 19 (uI 18) (uI 20)) (tI 23 (uI 22) .nil)) (tI 29 (tI 27 (uI 26) (uI 28)) (tI 31 (uI 30) .nil))))
def q4f (pg : Prg) (x0 x1 : Int) (x2 x9 : Int) (x10 xc0_0 : Int) (xc0_1 xc0_2 xc0_3 : Int) (gh : List GObj) : DR :=
  br 13 (decide (x10 < x2)) (
  callR gh true (callL pg 97 [I x0, I x10] gh) fun r1 gh2 => unI .i64 r1 fun n3 =>
  callR gh2 true (callL pg 97 [I x1, I x10] gh2) fun r4 gh5 => unI .i64 r4 fun n6 => gd (decide (0 ≤ (IntKind.i64.wrap ((IntKind.i64.wrap (2 * n3)) + n6)) ∧ (IntKind.i64.wrap ((IntKind.i64.wrap (2 * n3)) + n6)) < ((4 : Nat) : Int))) (
  ob (grab false 1 (0 + Int.toNat (IntKind.i64.wrap ((IntKind.i64.wrap (2 * n3)) + n6)) * 1) [I xc0_0, I xc0_1, I xc0_2, I xc0_3]) fun v7 => unI .i64 (degr v7) fun n8 =>
  callR gh5 true (callL pg 27 [I x10] gh5) fun r9 gh10 => unI .i64 r9 fun n11 => some (.normal, ⟨[(0, I x0), (1, I x1), (2, I x2), (7, .ptr false 0 0), (9, (I (IntKind.i64.wrap (x9 + (IntKind.i64.wrap (n8 * n11)))))), (10, (I (IntKind.i64.wrap (x10 + 1))))], [[I xc0_0, I xc0_1, I xc0_2, I xc0_3]], gh10⟩))) (some ((.exit 0), ⟨[(0, I x0), (1, I x1), (2, I x2), (7, .ptr false 0 0), (9, I x9), (10, I x10), (13, (B (decide (x10 < x2))))], [[I xc0_0, I xc0_1, I xc0_2, I xc0_3]], gh⟩))
theorem q4f_ {x0 x1 : Int} {x2 x9 : Int} {x10 xc0_0 : Int} {xc0_1 xc0_2 xc0_3 : Int} (h : q4f pg x0 x1 x2 x9 x10 xc0_0 xc0_1 xc0_2 xc0_3 gh = some (e, s)) : runL pg qbn ⟨[(0, I x0), (1, I x1), (2, I x2), (7, .ptr false 0 0), (9, I x9), (10, I x10)], [[I xc0_0, I xc0_1, I xc0_2, I xc0_3]], gh⟩ = some (e, s) :=
 ji2 q8o (Eq.trans (by kernel_rfl) h)
def qh3 (pg : Prg) (x9 : Int) (gh : List GObj) : DR := some (.ret, ⟨[(8, I x9)], [], gh⟩)
theorem qh3_ {x9 : Int} (h : qh3 pg x9 gh = some (e, s)) : runL pg q75 ⟨[(9, I x9)], [], gh⟩ = some (e, s) :=
 ji2 q8o (Eq.trans (by kernel_rfl) h)
def qdy (pg : Prg) (x0 x1 : Int) (x2 x3_0 : Int) (x3_1 x3_2 x3_3 : Int) (gh : List GObj) : DR :=
  kR (runL pg q74 ⟨[(0, I x0), (1, I x1), (2, I x2), (7, .ptr false 0 0), (9, I 0), (10, I 0)], [[I x3_0, I x3_1, I x3_2, I x3_3]], gh⟩) (fun e s => nx e s (fun e s => some (e, s)) fun s => kR (runL pg q75 s) (fun e s => some (e, s)))
theorem qdy_ {x0 x1 : Int} {x2 x3_0 : Int} {x3_1 x3_2 x3_3 : Int} (h : qdy pg x0 x1 x2 x3_0 x3_1 x3_2 x3_3 gh = some (e, s)) : runL pg qbo ⟨[(0, I x0), (1, I x1), (2, I x2), (3, .agg [I x3_0, I x3_1, I x3_2, I x3_3])], [], gh⟩ = some (e, s) :=
 ji2 q8o (Eq.trans (by kernel_rfl) h)
end
end Go.Lw
end

/-! What the code of function ref_Made comes to, piece by piece. Written by program (dprint.py). -/
section
set_option maxRecDepth 10000
set_option maxHeartbeats 4000000
namespace Go.Lw
open Go
noncomputable section
variable {pg : Prg} {gh : List GObj} {e : IExit} {s : St}
def qh4 : Tr := (tI 87 (tB 47 (tI 27 (tI 17 (tI 5 (tI 2 (tI 1 (uI 0) .nil) (tI 4 (uI 3) .nil)) (tI 15 (tI 14 (.node 6 (.agg [.int .i64, .int .i64, .int .i64]) .nil .nil) .nil) (uI 16))) (tI 22 (tB 20 (tB 19 (uI 18) .nil) (uI 21)) (tB 25 (tI 24 (uI 23) .nil) (uB 26)))) (.node 37 (.agg [.int .i64, .int .i64, .int .i64, .int .i64]) (tB 32 (tI 30 (tI 29 (uI 28) .nil) (uI 31)) (tI 35 (tI 34 (uB 33) .nil) (uI 36))) (tI 42 (tB 40 (tB 39 (uI 38) .nil) (uI 41)) (tI 45 (.node 44 (.agg [.int .i64, .int .i64, .int .i64, .int .i64]) (uI 43) .nil) (uB 46))))) (tI 67 (tI 57 (tI 52 (tI 50 (tI 49 (uI 48) .nil) (.node 51 (.agg [.int .i64, .int .i64, .int .i64, .int .i64]) .nil .nil)) (tI 55 (tB 54 (uB 53) .nil) (uI 56))) (tI 62 (tB 60 (tI 59 (uI 58) .nil) (uB 61)) (tI 65 (tI 64 (uI 63) .nil) (uI 66)))) (tB 77 (tI 72 (tB 70 (tB 69 (uI 68) .nil) (uI 71)) (tI 75 (tI 74 (uI 73) .nil) (uB 76))) (tI 82 (tI 80 (tB 79 (uI 78) .nil) (uI 81)) (tB 85 (tI 84 (uI 83) .nil) (uB 86)))))) (tI 127 (tI 107 (tB 97 (tI 92 (tI 90 (tI 89 (uB 88) .nil) (uI 91)) (tI 95 (tB 94 (uB 93) .nil) (uI 96))) (tI 102 (tI 100 (tI 99 (uI 98) .nil) (uI 101)) (tB 105 (tB 104 (uI 103) .nil) (uI 106)))) (tB 117 (tI 112 (tI 110 (tI 109 (uB 108) .nil) (uI 111)) (tI 115 (tB 114 (uB 113) .nil) (uI 116))) (tI 122 (tB 120 (tB 119 (uI 118) .nil) (uI 121)) (tB 125 (tI 124 (uB 123) .nil) (uB 126))))) (tI 150 (tI 139 (tI 134 (tI 131 (tI 130 (uI 129) .nil) (uI 133)) (tB 137 (tI 136 (uB 135) .nil) (uB 138))) (tB 144 (tI 142 (tI 141 (uB 140) .nil) (uB 143)) (tI 148 (tI 147 (uI 145) .nil) (uI 149)))) (tB 160 (tI 155 (tB 153 (tB 152 (uI 151) .nil) (uI 154)) (tI 158 (tI 157 (uI 156) .nil) (uI 159))) (tI 166 (tI 164 (tI 162 (uB 161) .nil) (uI 165)) (tI 169 (tI 168 (uI 167) .nil) (uI 170)))))))
def q6 (pg : Prg) (x0 x1 : Int) (x2 x3 : Int) (x4 x5 : Int) (x6_0 x6_1 x6_2 : Int) (gh : List GObj) : DR :=
  callR gh true (callL pg 27 [I x1] gh) fun r1 gh2 => unI .i64 r1 fun n3 =>
  br 19 (x0 == 4) (some (.ret, ⟨[(14, (I (IntKind.i64.wrap ((IntKind.i64.wrap (n3 - 1)) - x2))))], [], gh2⟩)) (
  br 25 (x0 == 5) (gd (decide ((n3 : Int) ≠ 0)) (some (.ret, ⟨[(14, (I (Int.tmod (IntKind.i64.wrap (n3 - x2)) n3)))], [], gh2⟩))) (
  br 32 (x0 == 6) (
  callR gh2 true (callL pg 67 [I x2, I x3, I x1, .agg [I 0, I 0, I 0, I 1]] gh2) fun r4 gh5 => unI .i64 r4 fun n6 => some (.ret, ⟨[(14, I n6)], [], gh5⟩)) (
  br 39 (x0 == 7) (
  callR gh2 true (callL pg 67 [I x2, I x3, I x1, .agg [I 0, I 1, I 1, I 1]] gh2) fun r7 gh8 => unI .i64 r7 fun n9 => some (.ret, ⟨[(14, I n9)], [], gh8⟩)) (
  br 46 (x0 == 8) (
  callR gh2 true (callL pg 67 [I x2, I x3, I x1, .agg [I 0, I 1, I 1, I 0]] gh2) fun r10 gh11 => unI .i64 r10 fun n12 => some (.ret, ⟨[(14, I n12)], [], gh11⟩)) (
  br 53 (x0 == 9) (gd (decide ((n3 : Int) ≠ 0)) (some (.ret, ⟨[(14, (I (Int.tmod (IntKind.i64.wrap (x2 + x3)) n3)))], [], gh2⟩))) (
  br 60 (x0 == 10) (gd (decide ((n3 : Int) ≠ 0)) (some (.ret, ⟨[(14, (I (Int.tmod (IntKind.i64.wrap ((IntKind.i64.wrap (x2 + n3)) - x3)) n3)))], [], gh2⟩))) (
  br 69 (x0 == 11) (gd (decide ((n3 : Int) ≠ 0)) (some (.ret, ⟨[(14, (I (Int.tmod (IntKind.i64.wrap (x2 * x3)) n3)))], [], gh2⟩))) (
  br 76 (x0 == 12) (
  br 79 (x3 == 0) (some (.ret, ⟨[(14, (I (IntKind.i64.wrap (n3 - 1))))], [], gh2⟩)) (gd (decide ((x3 : Int) ≠ 0)) (some (.ret, ⟨[(14, (I (IntKind.i64.wrap (Int.tdiv x2 x3))))], [], gh2⟩)))) (
  br 85 (x0 == 13) (
  br 88 (x3 == 0) (some (.ret, ⟨[(14, I x2)], [], gh2⟩)) (gd (decide ((x3 : Int) ≠ 0)) (some (.ret, ⟨[(14, (I (Int.tmod x2 x3)))], [], gh2⟩)))) (
  br 93 (x0 == 14) (
  br 97 (decide (x1 ≤ x3)) (some (.ret, ⟨[(14, I 0)], [], gh2⟩)) (
  callR gh2 true (callL pg 27 [I x3] gh2) fun r13 gh14 => unI .i64 r13 fun n15 => gd (decide ((n3 : Int) ≠ 0)) (some (.ret, ⟨[(14, (I (Int.tmod (IntKind.i64.wrap (x2 * n15)) n3)))], [], gh14⟩)))) (
  br 104 (x0 == 15) (
  br 108 (decide (x1 ≤ x3)) (some (.ret, ⟨[(14, I 0)], [], gh2⟩)) (
  callR gh2 true (callL pg 27 [I x3] gh2) fun r16 gh17 => unI .i64 r16 fun n18 => gd (decide ((n18 : Int) ≠ 0)) (some (.ret, ⟨[(14, (I (IntKind.i64.wrap (Int.tdiv x2 n18))))], [], gh17⟩)))) (
  br 113 (x0 == 16) (
  callR gh2 true (callL pg 68 [(B (x2 == x3))] gh2) fun r19 gh20 => unI .i64 r19 fun n21 => some (.ret, ⟨[(14, I n21)], [], gh20⟩)) (
  br 119 (x0 == 17) (
  callR gh2 true (callL pg 68 [(B (decide (x2 < x3)))] gh2) fun r22 gh23 => unI .i64 r22 fun n24 => some (.ret, ⟨[(14, I n24)], [], gh23⟩)) (
  br 125 (x0 == 18) (
  callR gh2 true (callL pg 69 [I x2, I x6_0] gh2) fun r25 gh26 => unI .i64 r25 fun n27 =>
  callR gh26 true (callL pg 69 [I x3, I x6_1] gh26) fun r28 gh29 => unI .i64 r28 fun n30 =>
  callR gh29 true (callL pg 68 [(B (decide (n27 < n30)))] gh29) fun r31 gh32 => unI .i64 r31 fun n33 => some (.ret, ⟨[(14, I n33)], [], gh32⟩)) (
  br 137 (x0 == 19) (
  br 140 (x2 == 1) (some (.ret, ⟨[(14, I x3)], [], gh2⟩)) (some (.ret, ⟨[(14, I x4)], [], gh2⟩))) (
  br 143 (x0 == 20) (
  callR gh2 true (callL pg 27 [I x6_1] gh2) fun r34 gh35 => unI .i64 r34 fun n36 => some (.ret, ⟨[(14, (I (IntKind.i64.wrap ((IntKind.i64.wrap (x2 * n36)) + x3))))], [], gh35⟩)) (
  br 152 (x0 == 21) (
  callR gh2 true (callL pg 27 [I x5] gh2) fun r37 gh38 => unI .i64 r37 fun n39 => gd (decide ((n39 : Int) ≠ 0)) (gd (decide ((n3 : Int) ≠ 0)) (some (.ret, ⟨[(14, (I (Int.tmod (IntKind.i64.wrap (Int.tdiv x2 n39)) n3)))], [], gh38⟩)))) (
  br 160 (x0 == 23) (
  callR gh2 true (callL pg 69 [I x2, I x6_0] gh2) fun r40 gh41 => unI .i64 r40 fun n42 => gd (decide ((n3 : Int) ≠ 0)) (some (.ret, ⟨[(14, (I (Int.tmod (IntKind.i64.wrap (n42 + n3)) n3)))], [], gh41⟩))) (some (.ret, ⟨[(14, I x2)], [], gh2⟩))))))))))))))))))))
theorem q6_ {x0 x1 : Int} {x2 x3 : Int} {x4 x5 : Int} {x6_0 x6_1 x6_2 : Int} (h : q6 pg x0 x1 x2 x3 x4 x5 x6_0 x6_1 x6_2 gh = some (e, s)) : runL pg qb8 ⟨[(0, I x0), (1, I x1), (2, I x2), (3, I x3), (4, I x4), (5, I x5), (6, .agg [I x6_0, I x6_1, I x6_2])], [], gh⟩ = some (e, s) :=
 ji2 qh4 (Eq.trans (by kernel_rfl) h)
end
end Go.Lw
end

/-! What the code of function slices_ContainsFunc_Lint_int comes to, piece by piece. Written by program (dprint.py). -/
section
set_option maxRecDepth 10000
set_option maxHeartbeats 4000000
namespace Go.Lw
open Go
noncomputable section
variable {pg : Prg} {gh : List GObj} {e : IExit} {s : St}
def qh5 : Tr := (tO 5 (tO 1 (uO 0) (uB 4)) (tI 7 (uO 6) (uB 8)))
def qdz (pg : Prg) (v0 v1 : PV) (gh : List GObj) : DR := stK 0 v0 (stK 0 v1 (isC (degr v0) (isC (degr v1) (arK (degr (degr v0)) (arK (degr (degr v1)) (
  callR gh true (callL pg 111 [(degr (degr v0)), (degr (degr v1))] gh) fun r1 gh2 => unI .i64 r1 fun n3 => some (.ret, ⟨[(4, (B (decide (0 ≤ n3))))], [], gh2⟩)))))))
theorem qdz_ {v0 v1 : PV} (h : qdz pg v0 v1 gh = some (e, s)) : runL pg qa8 ⟨[(0, v0), (1, v1)], [], gh⟩ = some (e, s) :=
 ji2 qh5 (Eq.trans (by kernel_rfl) h)
end
end Go.Lw
end

/-! What the code of function slices_IndexFunc_Lint_int comes to, piece by piece. Written by program (dprint.py). -/
section
set_option maxRecDepth 10000
set_option maxHeartbeats 4000000
namespace Go.Lw
open Go
noncomputable section
variable {pg : Prg} {gh : List GObj} {e : IExit} {s : St}
def q8p : Tr := (tI 10 (tO 6 (tI 4 (tO 1 (uO 0) .nil) (uI 5)) (tI 8 (uI 7) (uB 9))) (tI 15 (tO 12 (uO 11) (uI 13)) (tI 17 (uB 16) (uI 18))))
def q4g (pg : Prg) (v0 v1 : PV) (x7 x8 : Int) (gh : List GObj) : DR :=
  br 9 (decide (x8 < x7)) (stK 0 v0 (stK 0 v1 (isC (degr v1) (isC (degr v0) (
  idX 1 none (degr (degr v0)) x8 fun p1 =>
  ldX [] gh false 1 (degr p1) fun v2 => unI .i64 v2 fun n3 =>
  fnX (degr (degr v1)) fun f6 cs7 => allK cs7 (callR gh true (callL pg f6 ([I n3] ++ cs7) gh) fun r4 gh5 => unB r4 fun b8 => stK 0 v0 (stK 0 v1 (
  br 16 b8 (some (.ret, ⟨[(4, I x8)], [], gh5⟩)) (stK 0 v0 (stK 0 v1 (stK 0 v0 (stK 0 v1 (some (.normal, ⟨[(0, v0), (1, v1), (7, I x7), (8, (I (IntKind.i64.wrap (x8 + 1))))], [], gh5⟩)))))))))))))) (some ((.exit 0), ⟨[(0, v0), (1, v1), (7, I x7), (8, I x8), (9, (B (decide (x8 < x7))))], [], gh⟩))
theorem q4g_ {v0 v1 : PV} {x7 x8 : Int} (h : q4g pg v0 v1 x7 x8 gh = some (e, s)) : runL pg qac ⟨[(0, v0), (1, v1), (7, I x7), (8, I x8)], [], gh⟩ = some (e, s) :=
 ji2 q8p (Eq.trans (by kernel_rfl) h)
def qh6 (pg : Prg)  (gh : List GObj) : DR := some (.ret, ⟨[(4, (I (-1)))], [], gh⟩)
theorem qh6_  (h : qh6 pg  gh = some (e, s)) : runL pg q5z ⟨[], [], gh⟩ = some (e, s) :=
 ji2 q8p (Eq.trans (by kernel_rfl) h)
def q8q (pg : Prg) (v0 v1 : PV) (gh : List GObj) : DR := stK 0 v0 (stK 0 v1 (isC (degr v0) (lenS (degr (degr v0)) fun n1 => stK 0 v0 (stK 0 v1 (
  kR (runL pg q5y ⟨[(0, v0), (1, v1), (7, (I (n1 : Int))), (8, I 0)], [], gh⟩) (fun e s => nx e s (fun e s => some (e, s)) fun s => kR (runL pg q5z s) (fun e s => some (e, s))))))))
theorem q8q_ {v0 v1 : PV} (h : q8q pg v0 v1 gh = some (e, s)) : runL pg qad ⟨[(0, v0), (1, v1)], [], gh⟩ = some (e, s) :=
 ji2 q8p (Eq.trans (by kernel_rfl) h)
end
end Go.Lw
end

/-! What the code of function model_Args comes to, piece by piece. Written by program (dprint.py). -/
section
set_option maxRecDepth 10000
set_option maxHeartbeats 4000000
namespace Go.Lw
open Go
noncomputable section
variable {pg : Prg} {gh : List GObj} {e : IExit} {s : St}
def qh7 : Tr := (tI 8 (tI 4 (tO 2 (.node 0 (.agg [.int .i64, .int .i64, .int .i64, .int .i64, .int .i64, .int .i64]) .nil .nil) .nil) (uI 6)) (tI 12 (tI 11 (uO 9) .nil) (uO 13)))
def q31 (pg : Prg) (x0_0 x0_1 : Int) (x0_2 x0_3 : Int) (x0_4 x0_5 : Int) (gh : List GObj) : DR :=
  callR gh true (callL pg 63 [I x0_0] gh) fun r1 gh2 => unI .i64 r1 fun n3 =>
  slX 1 (.sl false 1 [I x0_2, I x0_3, I x0_4]) none (some n3) fun v4 => isC v4 (stK 0 v4 (some (.ret, ⟨[(2, v4)], [], gh2⟩)))
theorem q31_ {x0_0 x0_1 : Int} {x0_2 x0_3 : Int} {x0_4 x0_5 : Int} (h : q31 pg x0_0 x0_1 x0_2 x0_3 x0_4 x0_5 gh = some (e, s)) : runL pg qar ⟨[(0, .agg [I x0_0, I x0_1, I x0_2, I x0_3, I x0_4, I x0_5])], [], gh⟩ = some (e, s) :=
 ji2 qh7 (Eq.trans (by kernel_rfl) h)
end
end Go.Lw
end

/-! What the code of function model_leaf comes to, piece by piece. Written by program (dprint.py). -/
section
set_option maxRecDepth 10000
set_option maxHeartbeats 4000000
namespace Go.Lw
open Go
noncomputable section
variable {pg : Prg} {gh : List GObj} {e : IExit} {s : St}
def qh8 : Tr := (tB 5 (tI 3 (tB 2 (uI 0) .nil) (uB 4)) (tB 7 (uI 6) (uB 8)))
def q8r (pg : Prg) (x0 : Int) (gh : List GObj) : DR :=
  br 5 (decide (1 ≤ x0)) (some (.ret, ⟨[(2, (B (decide (x0 ≤ 3))))], [], gh⟩)) (some (.ret, ⟨[(2, B false)], [], gh⟩))
theorem q8r_ {x0 : Int} (h : q8r pg x0 gh = some (e, s)) : runL pg qau ⟨[(0, I x0)], [], gh⟩ = some (e, s) :=
 ji2 qh8 (Eq.trans (by kernel_rfl) h)
end
end Go.Lw
end

/-! What the code of function model_Widths comes to, piece by piece. Written by program (dprint.py). -/
section
set_option maxRecDepth 10000
set_option maxHeartbeats 4000000
namespace Go.Lw
open Go
noncomputable section
variable {pg : Prg} {gh : List GObj} {e : IExit} {s : St}
def q8s : Tr := (tB 12 (.node 8 (.agg [.int .i64, .int .i64, .int .i64, .int .i64, .int .i64, .int .i64]) (tI 6 (.node 1 (.agg [.int .i64, .int .i64, .int .i64, .int .i64, .int .i64, .int .i64]) (uO 0) .nil) (uI 7)) (tI 10 (uO 9) (uI 11))) (tI 18 (tI 16 (tI 15 (uI 13) .nil) (uO 17)) (tI 23 (uI 21) (.node 24 (.agg [.int .i64, .int .i64, .int .i64]) .nil .nil))))
def q1p (pg : Prg) (v0 v9 : PV) (x10 x11 : Int) (xc0_0 xc0_1 : Int) (xc0_2 xc0_3 : Int) (xc0_4 xc0_5 : Int) (xc1_0 xc1_1 : Int) (xc1_2 xc2_0 : Int) (xc2_1 xc2_2 : Int) (gh : List GObj) : DR :=
  br 12 (decide (x11 < x10)) (
  idX 1 none (degr v9) x11 fun p1 =>
  ldX [[I xc0_0, I xc0_1, I xc0_2, I xc0_3, I xc0_4, I xc0_5], [I xc1_0, I xc1_1, I xc1_2], [I xc2_0, I xc2_1, I xc2_2]] gh false 1 (degr p1) fun v2 => unI .i64 v2 fun n3 => stK 3 v0 (stK 3 v9 (isC (degr v0) (
  idX 6 none (degr (degr v0)) n3 fun p4 => faX (degr p4) 1 fun p5 =>
  ldX [[I xc0_0, I xc0_1, I xc0_2, I xc0_3, I xc0_4, I xc0_5], [I xc1_0, I xc1_1, I xc1_2], [I xc2_0, I xc2_1, I xc2_2]] gh false 1 (degr p5) fun v6 => unI .i64 v6 fun n7 => gd (decide (0 ≤ x11 ∧ x11 < ((3 : Nat) : Int))) (gb (stOk 1 (0 + Int.toNat x11 * 1) [I n7] [I xc2_0, I xc2_1, I xc2_2]) (stK 3 v0 (stK 3 v9 (stK 3 v0 (stK 3 v9 (stK 3 v0 (stK 3 v9 (some (.normal, ⟨[(0, v0), (4, .ptr false 1 0), (5, .ptr false 2 0), (9, v9), (10, I x10), (11, (I (IntKind.i64.wrap (x11 + 1))))], [[I xc0_0, I xc0_1, I xc0_2, I xc0_3, I xc0_4, I xc0_5], [I xc1_0, I xc1_1, I xc1_2], (spliceAt [I xc2_0, I xc2_1, I xc2_2] (0 + Int.toNat x11 * 1) [I n7])], gh⟩))))))))))))) (some ((.exit 0), ⟨[(0, v0), (4, .ptr false 1 0), (5, .ptr false 2 0), (9, v9), (10, I x10), (11, I x11), (12, (B (decide (x11 < x10))))], [[I xc0_0, I xc0_1, I xc0_2, I xc0_3, I xc0_4, I xc0_5], [I xc1_0, I xc1_1, I xc1_2], [I xc2_0, I xc2_1, I xc2_2]], gh⟩))
theorem q1p_ {v0 v9 : PV} {x10 x11 : Int} {xc0_0 xc0_1 : Int} {xc0_2 xc0_3 : Int} {xc0_4 xc0_5 : Int} {xc1_0 xc1_1 : Int} {xc1_2 xc2_0 : Int} {xc2_1 xc2_2 : Int} (h : q1p pg v0 v9 x10 x11 xc0_0 xc0_1 xc0_2 xc0_3 xc0_4 xc0_5 xc1_0 xc1_1 xc1_2 xc2_0 xc2_1 xc2_2 gh = some (e, s)) : runL pg qav ⟨[(0, v0), (4, .ptr false 1 0), (5, .ptr false 2 0), (9, v9), (10, I x10), (11, I x11)], [[I xc0_0, I xc0_1, I xc0_2, I xc0_3, I xc0_4, I xc0_5], [I xc1_0, I xc1_1, I xc1_2], [I xc2_0, I xc2_1, I xc2_2]], gh⟩ = some (e, s) :=
 ji2 q8s (Eq.trans (by kernel_rfl) h)
def qh9 (pg : Prg) (xc0_0 xc0_1 : Int) (xc0_2 xc0_3 : Int) (xc0_4 xc0_5 : Int) (xc1_0 xc1_1 : Int) (xc1_2 xc2_0 : Int) (xc2_1 xc2_2 : Int) (gh : List GObj) : DR := some (.ret, ⟨[(4, .ptr false 1 0)], [[I xc0_0, I xc0_1, I xc0_2, I xc0_3, I xc0_4, I xc0_5], [I xc2_0, I xc2_1, I xc2_2]], gh⟩)
theorem qh9_ {xc0_0 xc0_1 : Int} {xc0_2 xc0_3 : Int} {xc0_4 xc0_5 : Int} {xc1_0 xc1_1 : Int} {xc1_2 xc2_0 : Int} {xc2_1 xc2_2 : Int} (h : qh9 pg xc0_0 xc0_1 xc0_2 xc0_3 xc0_4 xc0_5 xc1_0 xc1_1 xc1_2 xc2_0 xc2_1 xc2_2 gh = some (e, s)) : runL pg q6g ⟨[(4, .ptr false 1 0), (5, .ptr false 2 0)], [[I xc0_0, I xc0_1, I xc0_2, I xc0_3, I xc0_4, I xc0_5], [I xc1_0, I xc1_1, I xc1_2], [I xc2_0, I xc2_1, I xc2_2]], gh⟩ = some (e, s) :=
 ji2 q8s (Eq.trans (by kernel_rfl) h)
def qe0 (pg : Prg) (v0 : PV) (x1_0 x1_1 : Int) (x1_2 x1_3 : Int) (x1_4 x1_5 : Int) (gh : List GObj) : DR := stK 2 v0 (
  callR gh true (callL pg 81 [.agg [I x1_0, I x1_1, I x1_2, I x1_3, I x1_4, I x1_5]] gh) fun r1 gh2 => isC r1 (lenS (degr r1) fun n3 => stK 3 v0 (stK 3 r1 (
  kR (runL pg q3t ⟨[(0, v0), (4, .ptr false 1 0), (5, .ptr false 2 0), (9, r1), (10, (I (n3 : Int))), (11, I 0)], [[I x1_0, I x1_1, I x1_2, I x1_3, I x1_4, I x1_5], [I 0, I 0, I 0], [I 0, I 0, I 0]], gh2⟩) (fun e s => nx e s (fun e s => some (e, s)) fun s => kR (runL pg q6g s) (fun e s => some (e, s)))))))
theorem qe0_ {v0 : PV} {x1_0 x1_1 : Int} {x1_2 x1_3 : Int} {x1_4 x1_5 : Int} (h : qe0 pg v0 x1_0 x1_1 x1_2 x1_3 x1_4 x1_5 gh = some (e, s)) : runL pg qaw ⟨[(0, v0), (1, .agg [I x1_0, I x1_1, I x1_2, I x1_3, I x1_4, I x1_5])], [], gh⟩ = some (e, s) :=
 ji2 q8s (Eq.trans (by kernel_rfl) h)
end
end Go.Lw
end

/-! What the code of function model_node comes to, piece by piece. Written by program (dprint.py). -/
section
set_option maxRecDepth 10000
set_option maxHeartbeats 4000000
namespace Go.Lw
open Go
noncomputable section
variable {pg : Prg} {gh : List GObj} {e : IExit} {s : St}
def q1q : Tr := (tI 58 (tB 30 (tB 15 (tO 8 (tI 4 (tI 1 (uO 0) .nil) (tI 7 (uI 6) .nil)) (tI 13 (.node 11 (.agg [.int .i64, .int .i64, .int .i64, .int .i64, .int .i64, .int .i64]) (uI 9) .nil) (uB 14))) (tB 23 (tB 19 (tB 18 (uI 17) .nil) (tB 22 (uI 21) .nil)) (tB 27 (tB 26 (uI 25) .nil) (uI 29)))) (tI 45 (tB 38 (tI 35 (tI 33 (uB 31) .nil) (tB 37 (uB 36) .nil)) (tB 42 (tI 41 (uB 39) .nil) (uB 43))) (tB 51 (tI 49 (tB 47 (uB 46) .nil) (uB 50)) (tB 55 (tB 54 (uI 53) .nil) (uB 56))))) (tB 85 (tI 73 (tO 67 (tI 62 (tB 60 (uB 59) .nil) (tI 66 (uI 64) .nil)) (tB 70 (tI 69 (uI 68) .nil) (uI 71))) (tI 80 (tI 77 (tI 76 (uI 74) .nil) (tB 79 (uB 78) .nil)) (tI 83 (tB 82 (uB 81) .nil) (uI 84)))) (tB 97 (tI 92 (tB 88 (tB 87 (uB 86) .nil) (tI 91 (uI 89) .nil)) (tI 95 (tB 94 (uB 93) .nil) (uB 96))) (tI 105 (tI 101 (tI 99 (uB 98) .nil) (uI 103)) (.node 108 (.agg [.int .i64, .int .i64, .int .i64]) (.node 107 (.agg [.int .i64, .int .i64, .int .i64, .int .i64, .int .i64, .int .i64]) (uO 106) .nil) (uI 109))))))
def qha (pg : Prg) (b39 : Bool) (gh : List GObj) : DR :=
  br 39 b39 (some (.ret, ⟨[(4, I 1)], [], gh⟩)) (some (.normal, ⟨[(39, B b39)], [], gh⟩))
theorem qha_ {b39 : Bool} (h : qha pg b39 gh = some (e, s)) : runL pg q8 ⟨[(39, B b39)], [], gh⟩ = some (e, s) :=
 ji2 q1q (Eq.trans (by kernel_rfl) h)
def qhb (pg : Prg) (b39 : Bool) (gh : List GObj) : DR := some (.ret, ⟨[(4, I 0)], [], gh⟩)
theorem qhb_ {b39 : Bool} (h : qhb pg b39 gh = some (e, s)) : runL pg q9 ⟨[(39, B b39)], [], gh⟩ = some (e, s) :=
 ji2 q1q (Eq.trans (by kernel_rfl) h)
def q10 (pg : Prg) (v0 : PV) (x1 : Int) (v67 : PV) (x68 x69 : Int) (xc0_0 xc0_1 : Int) (xc0_2 xc0_3 : Int) (xc0_4 xc0_5 : Int) (gh : List GObj) : DR :=
  br 70 (decide (x69 < x68)) (
  idX 1 none (degr v67) x69 fun p1 =>
  ldX [[I xc0_0, I xc0_1, I xc0_2, I xc0_3, I xc0_4, I xc0_5]] gh false 1 (degr p1) fun v2 => unI .i64 v2 fun n3 => stK 1 v0 (stK 1 v67 (
  callR gh true (callL pg 63 [I xc0_0] gh) fun r4 gh5 => unI .i64 r4 fun n6 =>
  br 79 (decide (x69 < n6)) (
  br 82 (decide (n3 < 0)) (stK 1 v0 (stK 1 v67 (some (.ret, ⟨[(4, I 4)], [], gh5⟩)))) (
  br 88 (decide (x1 ≤ n3)) (stK 1 v0 (stK 1 v67 (some (.ret, ⟨[(4, I 4)], [], gh5⟩)))) (
  callR gh5 true (callL pg 63 [I xc0_0] gh5) fun r7 gh8 => unI .i64 r7 fun n9 =>
  br 94 (decide (n9 ≤ x69)) (stK 1 v0 (stK 1 v67 (
  br 98 (n3 != 0) (some (.ret, ⟨[(4, I 4)], [], gh8⟩)) (stK 1 v0 (stK 1 v67 (stK 1 v0 (stK 1 v67 (some (.normal, ⟨[(0, v0), (1, I x1), (5, .ptr false 0 0), (67, v67), (68, I x68), (69, (I (IntKind.i64.wrap (x69 + 1))))], [[I xc0_0, I xc0_1, I xc0_2, I xc0_3, I xc0_4, I xc0_5]], gh8⟩))))))))) (stK 1 v0 (stK 1 v67 (stK 1 v0 (stK 1 v67 (stK 1 v0 (stK 1 v67 (some (.normal, ⟨[(0, v0), (1, I x1), (5, .ptr false 0 0), (67, v67), (68, I x68), (69, (I (IntKind.i64.wrap (x69 + 1))))], [[I xc0_0, I xc0_1, I xc0_2, I xc0_3, I xc0_4, I xc0_5]], gh8⟩))))))))))) (
  callR gh5 true (callL pg 63 [I xc0_0] gh5) fun r10 gh11 => unI .i64 r10 fun n12 =>
  br 94 (decide (n12 ≤ x69)) (stK 1 v0 (stK 1 v67 (
  br 98 (n3 != 0) (some (.ret, ⟨[(4, I 4)], [], gh11⟩)) (stK 1 v0 (stK 1 v67 (stK 1 v0 (stK 1 v67 (some (.normal, ⟨[(0, v0), (1, I x1), (5, .ptr false 0 0), (67, v67), (68, I x68), (69, (I (IntKind.i64.wrap (x69 + 1))))], [[I xc0_0, I xc0_1, I xc0_2, I xc0_3, I xc0_4, I xc0_5]], gh11⟩))))))))) (stK 1 v0 (stK 1 v67 (stK 1 v0 (stK 1 v67 (stK 1 v0 (stK 1 v67 (some (.normal, ⟨[(0, v0), (1, I x1), (5, .ptr false 0 0), (67, v67), (68, I x68), (69, (I (IntKind.i64.wrap (x69 + 1))))], [[I xc0_0, I xc0_1, I xc0_2, I xc0_3, I xc0_4, I xc0_5]], gh11⟩)))))))))))) (some ((.exit 1), ⟨[(0, v0), (1, I x1), (5, .ptr false 0 0), (67, v67), (68, I x68), (69, I x69), (70, (B (decide (x69 < x68))))], [[I xc0_0, I xc0_1, I xc0_2, I xc0_3, I xc0_4, I xc0_5]], gh⟩))
theorem q10_ {v0 : PV} {x1 : Int} {v67 : PV} {x68 x69 : Int} {xc0_0 xc0_1 : Int} {xc0_2 xc0_3 : Int} {xc0_4 xc0_5 : Int} (h : q10 pg v0 x1 v67 x68 x69 xc0_0 xc0_1 xc0_2 xc0_3 xc0_4 xc0_5 gh = some (e, s)) : runL pg qag ⟨[(0, v0), (1, I x1), (5, .ptr false 0 0), (67, v67), (68, I x68), (69, I x69)], [[I xc0_0, I xc0_1, I xc0_2, I xc0_3, I xc0_4, I xc0_5]], gh⟩ = some (e, s) :=
 ji2 q1q (Eq.trans (by kernel_rfl) h)
def qe1 (pg : Prg) (v0 : PV) (xc0_0 xc0_1 : Int) (xc0_2 xc0_3 : Int) (xc0_4 xc0_5 : Int) (gh : List GObj) : DR := isC (degr v0) (arK (degr (degr v0)) (
  callR gh true (callL pg 104 [(degr (degr v0)), .agg [I xc0_0, I xc0_1, I xc0_2, I xc0_3, I xc0_4, I xc0_5]] gh) fun r1 gh2 => unA 3 r1 fun c3 c4 c5 => unI .i64 c3 fun n6 => unI .i64 c4 fun n7 => unI .i64 c5 fun n8 =>
  callR gh2 true (callL pg 22 [I xc0_0, I xc0_1, I xc0_5, .agg [I n6, I n7, I n8]] gh2) fun r9 gh10 => unI .i64 r9 fun n11 => some (.ret, ⟨[(4, I n11)], [], gh10⟩)))
theorem qe1_ {v0 : PV} {xc0_0 xc0_1 : Int} {xc0_2 xc0_3 : Int} {xc0_4 xc0_5 : Int} (h : qe1 pg v0 xc0_0 xc0_1 xc0_2 xc0_3 xc0_4 xc0_5 gh = some (e, s)) : runL pg q62 ⟨[(0, v0), (5, .ptr false 0 0)], [[I xc0_0, I xc0_1, I xc0_2, I xc0_3, I xc0_4, I xc0_5]], gh⟩ = some (e, s) :=
 ji2 q1q (Eq.trans (by kernel_rfl) h)
def q8t (pg : Prg) (v0 : PV) (x1 : Int) (b26 : Bool) (xc0_0 xc0_1 : Int) (xc0_2 xc0_3 : Int) (xc0_4 xc0_5 : Int) (gh : List GObj) : DR := lenS (.sl false 1 [I xc0_2, I xc0_3, I xc0_4]) fun n1 => stK 1 v0 (
  kR (runL pg q61 ⟨[(0, v0), (1, I x1), (5, .ptr false 0 0), (67, .sl true 1 [I xc0_2, I xc0_3, I xc0_4]), (68, (I (n1 : Int))), (69, I 0)], [[I xc0_0, I xc0_1, I xc0_2, I xc0_3, I xc0_4, I xc0_5]], gh⟩) (fun e s => nx e s (fun e s => some (e, s)) fun s => kR (runL pg q62 s) (fun e s => some (e, s))))
theorem q8t_ {v0 : PV} {x1 : Int} {b26 : Bool} {xc0_0 xc0_1 : Int} {xc0_2 xc0_3 : Int} {xc0_4 xc0_5 : Int} (h : q8t pg v0 x1 b26 xc0_0 xc0_1 xc0_2 xc0_3 xc0_4 xc0_5 gh = some (e, s)) : runL pg q5 ⟨[(0, v0), (1, I x1), (5, .ptr false 0 0), (26, B b26)], [[I xc0_0, I xc0_1, I xc0_2, I xc0_3, I xc0_4, I xc0_5]], gh⟩ = some (e, s) :=
 ji2 q1q (Eq.trans (by kernel_rfl) h)
def qb (pg : Prg) (v0 : PV) (x1 : Int) (gh : List GObj) : DR := stK 0 v0 (isC (degr v0) (
  idX 6 none (degr (degr v0)) x1 fun p1 =>
  ldX [] gh true 6 (degr p1) fun v2 => unA 6 v2 fun c3 c4 c5 c6 c7 c8 => unI .i64 c3 fun n9 => unI .i64 c4 fun n10 => unI .i64 c5 fun n11 => unI .i64 c6 fun n12 => unI .i64 c7 fun n13 => unI .i64 c8 fun n14 => stK 1 v0 (
  br 15 (decide (n9 < 1)) (stK 1 v0 (some (.ret, ⟨[(4, I 7)], [], gh⟩))) (stK 1 v0 (
  br 19 (decide (24 ≤ n9)) (some (.ret, ⟨[(4, I 7)], [], gh⟩)) (
  callR gh true (callL pg 62 [I n10] gh) fun r15 gh16 => unB r15 fun b17 => stK 1 v0 (
  br 23 (!b17) (some (.ret, ⟨[(4, I 3)], [], gh16⟩)) (
  callR gh16 true (callL pg 103 [I n9] gh16) fun r18 gh19 => unB r18 fun b20 => stK 1 v0 (
  br 26 b20 (
  br 31 (n9 == 1) (
  callR gh19 true (callL pg 65 [I n14, I n10] gh19) fun r21 gh22 => unB r21 fun b23 =>
  br 27 (!b23) (some (.ret, ⟨[(4, I 3)], [], gh22⟩)) (
  br 43 (n9 != 1) (
  br 39 (n14 != 0) (
  kR (runL pg q8 ⟨[(39, (B (n14 != 0)))], [], gh22⟩) (fun e s => bk 0 e s (fun e s => nx e s (fun e s => nx e s (fun e s => some (e, s)) fun s => kR (runL pg q5 s) (fun e s => some (e, s))) fun s => kR (runL pg q9 s) (fun e s => nx e s (fun e s => some (e, s)) fun s => kR (runL pg q5 s) (fun e s => some (e, s)))))) (
  br 51 (n11 != 0) (
  kR (runL pg q8 ⟨[(39, B true)], [], gh22⟩) (fun e s => bk 0 e s (fun e s => nx e s (fun e s => nx e s (fun e s => some (e, s)) fun s => kR (runL pg q5 s) (fun e s => some (e, s))) fun s => kR (runL pg q9 s) (fun e s => nx e s (fun e s => some (e, s)) fun s => kR (runL pg q5 s) (fun e s => some (e, s)))))) (
  br 56 (n12 != 0) (
  kR (runL pg q8 ⟨[(39, B true)], [], gh22⟩) (fun e s => bk 0 e s (fun e s => nx e s (fun e s => nx e s (fun e s => some (e, s)) fun s => kR (runL pg q5 s) (fun e s => some (e, s))) fun s => kR (runL pg q9 s) (fun e s => nx e s (fun e s => some (e, s)) fun s => kR (runL pg q5 s) (fun e s => some (e, s)))))) (
  kR (runL pg q8 ⟨[(39, (B (n13 != 0)))], [], gh22⟩) (fun e s => bk 0 e s (fun e s => nx e s (fun e s => nx e s (fun e s => some (e, s)) fun s => kR (runL pg q5 s) (fun e s => some (e, s))) fun s => kR (runL pg q9 s) (fun e s => nx e s (fun e s => some (e, s)) fun s => kR (runL pg q5 s) (fun e s => some (e, s))))))))) (
  br 51 (n11 != 0) (
  kR (runL pg q8 ⟨[(39, B true)], [], gh22⟩) (fun e s => bk 0 e s (fun e s => nx e s (fun e s => nx e s (fun e s => some (e, s)) fun s => kR (runL pg q5 s) (fun e s => some (e, s))) fun s => kR (runL pg q9 s) (fun e s => nx e s (fun e s => some (e, s)) fun s => kR (runL pg q5 s) (fun e s => some (e, s)))))) (
  br 56 (n12 != 0) (
  kR (runL pg q8 ⟨[(39, B true)], [], gh22⟩) (fun e s => bk 0 e s (fun e s => nx e s (fun e s => nx e s (fun e s => some (e, s)) fun s => kR (runL pg q5 s) (fun e s => some (e, s))) fun s => kR (runL pg q9 s) (fun e s => nx e s (fun e s => some (e, s)) fun s => kR (runL pg q5 s) (fun e s => some (e, s)))))) (
  kR (runL pg q8 ⟨[(39, (B (n13 != 0)))], [], gh22⟩) (fun e s => bk 0 e s (fun e s => nx e s (fun e s => nx e s (fun e s => some (e, s)) fun s => kR (runL pg q5 s) (fun e s => some (e, s))) fun s => kR (runL pg q9 s) (fun e s => nx e s (fun e s => some (e, s)) fun s => kR (runL pg q5 s) (fun e s => some (e, s)))))))))) (
  br 43 (n9 != 1) (
  br 39 (n14 != 0) (
  kR (runL pg q8 ⟨[(39, (B (n14 != 0)))], [], gh19⟩) (fun e s => bk 0 e s (fun e s => nx e s (fun e s => nx e s (fun e s => some (e, s)) fun s => kR (runL pg q5 s) (fun e s => some (e, s))) fun s => kR (runL pg q9 s) (fun e s => nx e s (fun e s => some (e, s)) fun s => kR (runL pg q5 s) (fun e s => some (e, s)))))) (
  br 51 (n11 != 0) (
  kR (runL pg q8 ⟨[(39, B true)], [], gh19⟩) (fun e s => bk 0 e s (fun e s => nx e s (fun e s => nx e s (fun e s => some (e, s)) fun s => kR (runL pg q5 s) (fun e s => some (e, s))) fun s => kR (runL pg q9 s) (fun e s => nx e s (fun e s => some (e, s)) fun s => kR (runL pg q5 s) (fun e s => some (e, s)))))) (
  br 56 (n12 != 0) (
  kR (runL pg q8 ⟨[(39, B true)], [], gh19⟩) (fun e s => bk 0 e s (fun e s => nx e s (fun e s => nx e s (fun e s => some (e, s)) fun s => kR (runL pg q5 s) (fun e s => some (e, s))) fun s => kR (runL pg q9 s) (fun e s => nx e s (fun e s => some (e, s)) fun s => kR (runL pg q5 s) (fun e s => some (e, s)))))) (
  kR (runL pg q8 ⟨[(39, (B (n13 != 0)))], [], gh19⟩) (fun e s => bk 0 e s (fun e s => nx e s (fun e s => nx e s (fun e s => some (e, s)) fun s => kR (runL pg q5 s) (fun e s => some (e, s))) fun s => kR (runL pg q9 s) (fun e s => nx e s (fun e s => some (e, s)) fun s => kR (runL pg q5 s) (fun e s => some (e, s))))))))) (
  br 51 (n11 != 0) (
  kR (runL pg q8 ⟨[(39, B true)], [], gh19⟩) (fun e s => bk 0 e s (fun e s => nx e s (fun e s => nx e s (fun e s => some (e, s)) fun s => kR (runL pg q5 s) (fun e s => some (e, s))) fun s => kR (runL pg q9 s) (fun e s => nx e s (fun e s => some (e, s)) fun s => kR (runL pg q5 s) (fun e s => some (e, s)))))) (
  br 56 (n12 != 0) (
  kR (runL pg q8 ⟨[(39, B true)], [], gh19⟩) (fun e s => bk 0 e s (fun e s => nx e s (fun e s => nx e s (fun e s => some (e, s)) fun s => kR (runL pg q5 s) (fun e s => some (e, s))) fun s => kR (runL pg q9 s) (fun e s => nx e s (fun e s => some (e, s)) fun s => kR (runL pg q5 s) (fun e s => some (e, s)))))) (
  kR (runL pg q8 ⟨[(39, (B (n13 != 0)))], [], gh19⟩) (fun e s => bk 0 e s (fun e s => nx e s (fun e s => nx e s (fun e s => some (e, s)) fun s => kR (runL pg q5 s) (fun e s => some (e, s))) fun s => kR (runL pg q9 s) (fun e s => nx e s (fun e s => some (e, s)) fun s => kR (runL pg q5 s) (fun e s => some (e, s)))))))))) (
  kR (runL pg q5 ⟨[(0, v0), (1, I x1), (5, .ptr false 0 0), (26, B b20)], [[I n9, I n10, I n11, I n12, I n13, I n14]], gh19⟩) (fun e s => some (e, s))))))))))))
theorem qb_ {v0 : PV} {x1 : Int} (h : qb pg v0 x1 gh = some (e, s)) : runL pg qah ⟨[(0, v0), (1, I x1)], [], gh⟩ = some (e, s) :=
 ji2 q1q (Eq.trans (by kernel_rfl) h)
end
end Go.Lw
end

/-! What the code of function ref_WidthsOf comes to, piece by piece. Written by program (dprint.py). -/
section
set_option maxRecDepth 10000
set_option maxHeartbeats 4000000
namespace Go.Lw
open Go
noncomputable section
variable {pg : Prg} {gh : List GObj} {e : IExit} {s : St}
def q4h : Tr := (tI 19 (tI 10 (tI 6 (.node 1 (.agg [.int .i64, .int .i64, .int .i64, .int .i64, .int .i64, .int .i64]) (uO 0) .nil) (tI 9 (uI 8) .nil)) (tI 14 (tO 12 (uB 11) .nil) (uI 17))) (tB 29 (tI 23 (tO 21 (uB 20) .nil) (tI 28 (uI 26) .nil)) (tI 35 (tI 32 (uO 30) .nil) (.node 37 (.agg [.int .i64, .int .i64, .int .i64]) .nil .nil))))
def qhc (pg : Prg) (xc0_0 xc0_1 : Int) (xc0_2 xc0_3 : Int) (xc0_4 xc0_5 : Int) (xc1_0 xc1_1 : Int) (xc1_2 xc2_0 : Int) (xc2_1 xc2_2 : Int) (gh : List GObj) : DR := some (.ret, ⟨[(4, .ptr false 1 0)], [[I xc0_0, I xc0_1, I xc0_2, I xc0_3, I xc0_4, I xc0_5], [I xc2_0, I xc2_1, I xc2_2]], gh⟩)
theorem qhc_ {xc0_0 xc0_1 : Int} {xc0_2 xc0_3 : Int} {xc0_4 xc0_5 : Int} {xc1_0 xc1_1 : Int} {xc1_2 xc2_0 : Int} {xc2_1 xc2_2 : Int} (h : qhc pg xc0_0 xc0_1 xc0_2 xc0_3 xc0_4 xc0_5 xc1_0 xc1_1 xc1_2 xc2_0 xc2_1 xc2_2 gh = some (e, s)) : runL pg q2k ⟨[(4, .ptr false 1 0), (5, .ptr false 2 0)], [[I xc0_0, I xc0_1, I xc0_2, I xc0_3, I xc0_4, I xc0_5], [I xc1_0, I xc1_1, I xc1_2], [I xc2_0, I xc2_1, I xc2_2]], gh⟩ = some (e, s) :=
 ji2 q4h (Eq.trans (by kernel_rfl) h)
def q8u (pg : Prg) (v0 : PV) (x6 xc0_0 : Int) (xc0_1 xc0_2 : Int) (xc0_3 xc0_4 : Int) (xc0_5 xc1_0 : Int) (xc1_1 xc1_2 : Int) (xc2_0 xc2_1 xc2_2 : Int) (gh : List GObj) : DR := stK 3 v0 (
  br 29 (decide (2 < x6)) (isC (degr v0) (
  idX 6 none (degr (degr v0)) xc0_4 fun p1 => faX (degr p1) 1 fun p2 =>
  ldX [[I xc0_0, I xc0_1, I xc0_2, I xc0_3, I xc0_4, I xc0_5], [I xc1_0, I xc1_1, I xc1_2], [I xc2_0, I xc2_1, I xc2_2]] gh false 1 (degr p2) fun v3 => unI .i64 v3 fun n4 =>
  kR (runL pg q2k ⟨[(4, .ptr false 1 0), (5, .ptr false 2 0)], [[I xc0_0, I xc0_1, I xc0_2, I xc0_3, I xc0_4, I xc0_5], [I xc1_0, I xc1_1, I xc1_2], [I xc2_0, I xc2_1, I n4]], gh⟩) (fun e s => some (e, s)))) (
  kR (runL pg q2k ⟨[(4, .ptr false 1 0), (5, .ptr false 2 0)], [[I xc0_0, I xc0_1, I xc0_2, I xc0_3, I xc0_4, I xc0_5], [I xc1_0, I xc1_1, I xc1_2], [I xc2_0, I xc2_1, I xc2_2]], gh⟩) (fun e s => some (e, s))))
theorem q8u_ {v0 : PV} {x6 xc0_0 : Int} {xc0_1 xc0_2 : Int} {xc0_3 xc0_4 : Int} {xc0_5 xc1_0 : Int} {xc1_1 xc1_2 : Int} {xc2_0 xc2_1 xc2_2 : Int} (h : q8u pg v0 x6 xc0_0 xc0_1 xc0_2 xc0_3 xc0_4 xc0_5 xc1_0 xc1_1 xc1_2 xc2_0 xc2_1 xc2_2 gh = some (e, s)) : runL pg q2l ⟨[(0, v0), (3, .ptr false 0 0), (4, .ptr false 1 0), (5, .ptr false 2 0), (6, I x6)], [[I xc0_0, I xc0_1, I xc0_2, I xc0_3, I xc0_4, I xc0_5], [I xc1_0, I xc1_1, I xc1_2], [I xc2_0, I xc2_1, I xc2_2]], gh⟩ = some (e, s) :=
 ji2 q4h (Eq.trans (by kernel_rfl) h)
def q8v (pg : Prg) (v0 : PV) (x6 xc0_0 : Int) (xc0_1 xc0_2 : Int) (xc0_3 xc0_4 : Int) (xc0_5 xc1_0 : Int) (xc1_1 xc1_2 : Int) (xc2_0 xc2_1 xc2_2 : Int) (gh : List GObj) : DR := stK 3 v0 (
  br 20 (decide (1 < x6)) (isC (degr v0) (
  idX 6 none (degr (degr v0)) xc0_3 fun p1 => faX (degr p1) 1 fun p2 =>
  ldX [[I xc0_0, I xc0_1, I xc0_2, I xc0_3, I xc0_4, I xc0_5], [I xc1_0, I xc1_1, I xc1_2], [I xc2_0, I xc2_1, I xc2_2]] gh false 1 (degr p2) fun v3 => unI .i64 v3 fun n4 => stK 3 v0 (stK 3 v0 (
  kR (runL pg q2l ⟨[(0, v0), (3, .ptr false 0 0), (4, .ptr false 1 0), (5, .ptr false 2 0), (6, I x6)], [[I xc0_0, I xc0_1, I xc0_2, I xc0_3, I xc0_4, I xc0_5], [I xc1_0, I xc1_1, I xc1_2], [I xc2_0, I n4, I xc2_2]], gh⟩) (fun e s => some (e, s)))))) (stK 3 v0 (
  kR (runL pg q2l ⟨[(0, v0), (3, .ptr false 0 0), (4, .ptr false 1 0), (5, .ptr false 2 0), (6, I x6)], [[I xc0_0, I xc0_1, I xc0_2, I xc0_3, I xc0_4, I xc0_5], [I xc1_0, I xc1_1, I xc1_2], [I xc2_0, I xc2_1, I xc2_2]], gh⟩) (fun e s => some (e, s)))))
theorem q8v_ {v0 : PV} {x6 xc0_0 : Int} {xc0_1 xc0_2 : Int} {xc0_3 xc0_4 : Int} {xc0_5 xc1_0 : Int} {xc1_1 xc1_2 : Int} {xc2_0 xc2_1 xc2_2 : Int} (h : q8v pg v0 x6 xc0_0 xc0_1 xc0_2 xc0_3 xc0_4 xc0_5 xc1_0 xc1_1 xc1_2 xc2_0 xc2_1 xc2_2 gh = some (e, s)) : runL pg q2m ⟨[(0, v0), (3, .ptr false 0 0), (4, .ptr false 1 0), (5, .ptr false 2 0), (6, I x6)], [[I xc0_0, I xc0_1, I xc0_2, I xc0_3, I xc0_4, I xc0_5], [I xc1_0, I xc1_1, I xc1_2], [I xc2_0, I xc2_1, I xc2_2]], gh⟩ = some (e, s) :=
 ji2 q4h (Eq.trans (by kernel_rfl) h)
def q8w (pg : Prg) (v0 : PV) (x1_0 x1_1 : Int) (x1_2 x1_3 : Int) (x1_4 x1_5 : Int) (gh : List GObj) : DR := stK 2 v0 (
  callR gh true (callL pg 26 [I x1_0] gh) fun r1 gh2 => unI .i64 r1 fun n3 => stK 3 v0 (stK 3 v0 (
  br 11 (decide (0 < n3)) (isC (degr v0) (
  idX 6 none (degr (degr v0)) x1_2 fun p4 => faX (degr p4) 1 fun p5 =>
  ldX [[I x1_0, I x1_1, I x1_2, I x1_3, I x1_4, I x1_5], [I 0, I 0, I 0], [I 0, I 0, I 0]] gh2 false 1 (degr p5) fun v6 => unI .i64 v6 fun n7 => stK 3 v0 (stK 3 v0 (
  kR (runL pg q2m ⟨[(0, v0), (3, .ptr false 0 0), (4, .ptr false 1 0), (5, .ptr false 2 0), (6, I n3)], [[I x1_0, I x1_1, I x1_2, I x1_3, I x1_4, I x1_5], [I 0, I 0, I 0], [I n7, I 0, I 0]], gh2⟩) (fun e s => some (e, s)))))) (stK 3 v0 (
  kR (runL pg q2m ⟨[(0, v0), (3, .ptr false 0 0), (4, .ptr false 1 0), (5, .ptr false 2 0), (6, I n3)], [[I x1_0, I x1_1, I x1_2, I x1_3, I x1_4, I x1_5], [I 0, I 0, I 0], [I 0, I 0, I 0]], gh2⟩) (fun e s => some (e, s)))))))
theorem q8w_ {v0 : PV} {x1_0 x1_1 : Int} {x1_2 x1_3 : Int} {x1_4 x1_5 : Int} (h : q8w pg v0 x1_0 x1_1 x1_2 x1_3 x1_4 x1_5 gh = some (e, s)) : runL pg qc0 ⟨[(0, v0), (1, .agg [I x1_0, I x1_1, I x1_2, I x1_3, I x1_4, I x1_5])], [], gh⟩ = some (e, s) :=
 ji2 q4h (Eq.trans (by kernel_rfl) h)
end
end Go.Lw
end

/-! What the code of function ref_CheckNode comes to, piece by piece. Written by program (dprint.py). -/
section
set_option maxRecDepth 10000
set_option maxHeartbeats 4000000
namespace Go.Lw
open Go
noncomputable section
variable {pg : Prg} {gh : List GObj} {e : IExit} {s : St}
def q8x : Tr := (tI 61 (tI 32 (tB 16 (tO 8 (tI 4 (tI 1 (uO 0) .nil) (tI 7 (uO 6) .nil)) (tB 12 (.node 11 (.agg [.int .i64, .int .i64, .int .i64, .int .i64, .int .i64, .int .i64]) (uI 9) .nil) (tB 15 (uI 14) .nil))) (tI 24 (tB 20 (tI 19 (uB 17) .nil) (tB 22 (uB 21) .nil)) (tI 28 (tB 26 (uB 25) .nil) (tI 31 (uI 30) .nil)))) (tB 47 (tB 39 (tB 35 (tB 34 (uB 33) .nil) (tI 38 (uB 36) .nil)) (tB 43 (tI 42 (uB 40) .nil) (tI 46 (uB 44) .nil))) (tB 54 (tI 51 (tB 49 (uB 48) .nil) (tB 53 (uB 52) .nil)) (tB 58 (tB 57 (uI 56) .nil) (uB 59))))) (tI 91 (tB 77 (tB 68 (tB 64 (tB 63 (uB 62) .nil) (tI 67 (uB 65) .nil)) (tI 74 (tI 72 (uI 70) .nil) (tI 76 (uO 75) .nil))) (tB 84 (tI 80 (tI 79 (uI 78) .nil) (tI 83 (uI 82) .nil)) (tI 87 (tO 86 (uB 85) .nil) (tI 90 (uI 89) .nil)))) (tI 105 (tI 98 (tB 94 (tB 93 (uB 92) .nil) (tI 96 (uB 95) .nil)) (tB 101 (tB 100 (uI 99) .nil) (tI 103 (uO 102) .nil))) (tI 114 (tB 108 (tB 107 (uB 106) .nil) (tI 112 (uI 110) .nil)) (.node 117 (.agg [.int .i64, .int .i64, .int .i64]) (.node 116 (.agg [.int .i64, .int .i64, .int .i64, .int .i64, .int .i64, .int .i64]) (uO 115) .nil) (uI 118))))))
def q1b (pg : Prg) (v0 : PV) (x1 : Int) (v6 : PV) (x7 xc0_0 : Int) (xc0_1 xc0_2 : Int) (xc0_3 xc0_4 xc0_5 : Int) (gh : List GObj) : DR := stK 1 v0 (stK 1 v6 (
  br 77 (decide (x7 < 3)) (
  callR gh true (callL pg 26 [I xc0_0] gh) fun r1 gh2 => unI .i64 r1 fun n3 =>
  br 85 (decide (x7 < n3)) (isC (degr v6) (
  idX 1 none (degr (degr v6)) x7 fun p4 =>
  ldX [[I xc0_0, I xc0_1, I xc0_2, I xc0_3, I xc0_4, I xc0_5]] gh2 false 1 (degr p4) fun v5 => unI .i64 v5 fun n6 =>
  callR gh2 true (callL pg 50 [I n6, I 0, (I (IntKind.i64.wrap (x1 - 1)))] gh2) fun r7 gh8 => unB r7 fun b9 =>
  br 95 (!b9) (stK 1 v0 (stK 1 v6 (some (.ret, ⟨[(4, I 4)], [], gh8⟩)))) (
  callR gh8 true (callL pg 26 [I xc0_0] gh8) fun r10 gh11 => unI .i64 r10 fun n12 =>
  br 101 (decide (n12 ≤ x7)) (isC (degr v6) (
  idX 1 none (degr (degr v6)) x7 fun p13 =>
  ldX [[I xc0_0, I xc0_1, I xc0_2, I xc0_3, I xc0_4, I xc0_5]] gh11 false 1 (degr p13) fun v14 => unI .i64 v14 fun n15 => stK 1 v0 (stK 1 v6 (
  br 108 (n15 != 0) (some (.ret, ⟨[(4, I 4)], [], gh11⟩)) (stK 1 v0 (stK 1 v6 (stK 1 v0 (stK 1 v6 (some (.normal, ⟨[(0, v0), (1, I x1), (5, .ptr false 0 0), (6, v6), (7, (I (IntKind.i64.wrap (x7 + 1))))], [[I xc0_0, I xc0_1, I xc0_2, I xc0_3, I xc0_4, I xc0_5]], gh11⟩)))))))))) (stK 1 v0 (stK 1 v6 (stK 1 v0 (stK 1 v6 (stK 1 v0 (stK 1 v6 (some (.normal, ⟨[(0, v0), (1, I x1), (5, .ptr false 0 0), (6, v6), (7, (I (IntKind.i64.wrap (x7 + 1))))], [[I xc0_0, I xc0_1, I xc0_2, I xc0_3, I xc0_4, I xc0_5]], gh11⟩))))))))))) (
  callR gh2 true (callL pg 26 [I xc0_0] gh2) fun r16 gh17 => unI .i64 r16 fun n18 =>
  br 101 (decide (n18 ≤ x7)) (isC (degr v6) (
  idX 1 none (degr (degr v6)) x7 fun p19 =>
  ldX [[I xc0_0, I xc0_1, I xc0_2, I xc0_3, I xc0_4, I xc0_5]] gh17 false 1 (degr p19) fun v20 => unI .i64 v20 fun n21 => stK 1 v0 (stK 1 v6 (
  br 108 (n21 != 0) (some (.ret, ⟨[(4, I 4)], [], gh17⟩)) (stK 1 v0 (stK 1 v6 (stK 1 v0 (stK 1 v6 (some (.normal, ⟨[(0, v0), (1, I x1), (5, .ptr false 0 0), (6, v6), (7, (I (IntKind.i64.wrap (x7 + 1))))], [[I xc0_0, I xc0_1, I xc0_2, I xc0_3, I xc0_4, I xc0_5]], gh17⟩)))))))))) (stK 1 v0 (stK 1 v6 (stK 1 v0 (stK 1 v6 (stK 1 v0 (stK 1 v6 (some (.normal, ⟨[(0, v0), (1, I x1), (5, .ptr false 0 0), (6, v6), (7, (I (IntKind.i64.wrap (x7 + 1))))], [[I xc0_0, I xc0_1, I xc0_2, I xc0_3, I xc0_4, I xc0_5]], gh17⟩)))))))))) (some ((.exit 1), ⟨[(0, v0), (1, I x1), (5, .ptr false 0 0), (6, v6), (7, I x7), (77, (B (decide (x7 < 3))))], [[I xc0_0, I xc0_1, I xc0_2, I xc0_3, I xc0_4, I xc0_5]], gh⟩))))
theorem q1b_ {v0 : PV} {x1 : Int} {v6 : PV} {x7 xc0_0 : Int} {xc0_1 xc0_2 : Int} {xc0_3 xc0_4 xc0_5 : Int} (h : q1b pg v0 x1 v6 x7 xc0_0 xc0_1 xc0_2 xc0_3 xc0_4 xc0_5 gh = some (e, s)) : runL pg qbr ⟨[(0, v0), (1, I x1), (5, .ptr false 0 0), (6, v6), (7, I x7)], [[I xc0_0, I xc0_1, I xc0_2, I xc0_3, I xc0_4, I xc0_5]], gh⟩ = some (e, s) :=
 ji2 q8x (Eq.trans (by kernel_rfl) h)
def qe2 (pg : Prg) (v0 : PV) (xc0_0 xc0_1 : Int) (xc0_2 xc0_3 : Int) (xc0_4 xc0_5 : Int) (gh : List GObj) : DR := isC (degr v0) (arK (degr (degr v0)) (
  callR gh true (callL pg 102 [(degr (degr v0)), .agg [I xc0_0, I xc0_1, I xc0_2, I xc0_3, I xc0_4, I xc0_5]] gh) fun r1 gh2 => unA 3 r1 fun c3 c4 c5 => unI .i64 c3 fun n6 => unI .i64 c4 fun n7 => unI .i64 c5 fun n8 =>
  callR gh2 true (callL pg 23 [I xc0_0, I xc0_1, I xc0_5, .agg [I n6, I n7, I n8]] gh2) fun r9 gh10 => unI .i64 r9 fun n11 => some (.ret, ⟨[(4, I n11)], [], gh10⟩)))
theorem qe2_ {v0 : PV} {xc0_0 xc0_1 : Int} {xc0_2 xc0_3 : Int} {xc0_4 xc0_5 : Int} (h : qe2 pg v0 xc0_0 xc0_1 xc0_2 xc0_3 xc0_4 xc0_5 gh = some (e, s)) : runL pg qt ⟨[(0, v0), (5, .ptr false 0 0)], [[I xc0_0, I xc0_1, I xc0_2, I xc0_3, I xc0_4, I xc0_5]], gh⟩ = some (e, s) :=
 ji2 q8x (Eq.trans (by kernel_rfl) h)
def qc (pg : Prg) (v0 : PV) (x1 : Int) (gh : List GObj) : DR := stK 0 v0 (isC (degr v0) (
  idX 6 none (degr (degr v0)) x1 fun p1 =>
  ldX [] gh true 6 (degr p1) fun v2 => unA 6 v2 fun c3 c4 c5 c6 c7 c8 => unI .i64 c3 fun n9 => unI .i64 c4 fun n10 => unI .i64 c5 fun n11 => unI .i64 c6 fun n12 => unI .i64 c7 fun n13 => unI .i64 c8 fun n14 => stK 1 v0 (
  callR gh true (callL pg 50 [I n9, I 1, I 23] gh) fun r15 gh16 => unB r15 fun b17 => stK 1 v0 (
  br 12 (!b17) (some (.ret, ⟨[(4, I 7)], [], gh16⟩)) (
  callR gh16 true (callL pg 50 [I n10, I 1, I 8] gh16) fun r18 gh19 => unB r18 fun b20 => stK 1 v0 (
  br 17 (!b20) (some (.ret, ⟨[(4, I 3)], [], gh19⟩)) (
  br 26 (n9 == 1) (
  callR gh19 true (callL pg 27 [I n10] gh19) fun r21 gh22 => unI .i64 r21 fun n23 =>
  callR gh22 true (callL pg 50 [I n14, I 0, (I (IntKind.i64.wrap (n23 - 1)))] gh22) fun r24 gh25 => unB r24 fun b26 => stK 1 v0 (
  br 22 (!b26) (some (.ret, ⟨[(4, I 3)], [], gh25⟩)) (
  br 40 (decide (n9 ≤ 3)) (
  br 44 (decide (1 < n9)) (
  br 49 (n14 != 0) (stK 1 v0 (some (.ret, ⟨[(4, I 1)], [], gh25⟩))) (
  br 54 (n11 != 0) (stK 1 v0 (some (.ret, ⟨[(4, I 1)], [], gh25⟩))) (
  br 59 (n12 != 0) (stK 1 v0 (some (.ret, ⟨[(4, I 1)], [], gh25⟩))) (stK 1 v0 (
  br 36 (n13 != 0) (some (.ret, ⟨[(4, I 1)], [], gh25⟩)) (stK 1 v0 (
  br 65 (decide (n9 ≤ 3)) (some (.ret, ⟨[(4, I 0)], [], gh25⟩)) (stK 1 v0 (stK 1 v0 (
  kR (runL pg qv ⟨[(0, v0), (1, I x1), (5, .ptr false 0 0), (6, .sl true 1 [I n11, I n12, I n13]), (7, I 0)], [[I n9, I n10, I n11, I n12, I n13, I n14]], gh25⟩) (fun e s => nx e s (fun e s => some (e, s)) fun s => kR (runL pg qt s) (fun e s => some (e, s))))))))))))) (
  br 54 (n11 != 0) (stK 1 v0 (some (.ret, ⟨[(4, I 1)], [], gh25⟩))) (
  br 59 (n12 != 0) (stK 1 v0 (some (.ret, ⟨[(4, I 1)], [], gh25⟩))) (stK 1 v0 (
  br 36 (n13 != 0) (some (.ret, ⟨[(4, I 1)], [], gh25⟩)) (stK 1 v0 (
  br 65 (decide (n9 ≤ 3)) (some (.ret, ⟨[(4, I 0)], [], gh25⟩)) (stK 1 v0 (stK 1 v0 (
  kR (runL pg qv ⟨[(0, v0), (1, I x1), (5, .ptr false 0 0), (6, .sl true 1 [I n11, I n12, I n13]), (7, I 0)], [[I n9, I n10, I n11, I n12, I n13, I n14]], gh25⟩) (fun e s => nx e s (fun e s => some (e, s)) fun s => kR (runL pg qt s) (fun e s => some (e, s))))))))))))) (stK 1 v0 (stK 1 v0 (
  br 65 (decide (n9 ≤ 3)) (some (.ret, ⟨[(4, I 0)], [], gh25⟩)) (stK 1 v0 (stK 1 v0 (
  kR (runL pg qv ⟨[(0, v0), (1, I x1), (5, .ptr false 0 0), (6, .sl true 1 [I n11, I n12, I n13]), (7, I 0)], [[I n9, I n10, I n11, I n12, I n13, I n14]], gh25⟩) (fun e s => nx e s (fun e s => some (e, s)) fun s => kR (runL pg qt s) (fun e s => some (e, s)))))))))))) (stK 1 v0 (
  br 40 (decide (n9 ≤ 3)) (
  br 44 (decide (1 < n9)) (
  br 49 (n14 != 0) (stK 1 v0 (some (.ret, ⟨[(4, I 1)], [], gh19⟩))) (
  br 54 (n11 != 0) (stK 1 v0 (some (.ret, ⟨[(4, I 1)], [], gh19⟩))) (
  br 59 (n12 != 0) (stK 1 v0 (some (.ret, ⟨[(4, I 1)], [], gh19⟩))) (stK 1 v0 (
  br 36 (n13 != 0) (some (.ret, ⟨[(4, I 1)], [], gh19⟩)) (stK 1 v0 (
  br 65 (decide (n9 ≤ 3)) (some (.ret, ⟨[(4, I 0)], [], gh19⟩)) (stK 1 v0 (stK 1 v0 (
  kR (runL pg qv ⟨[(0, v0), (1, I x1), (5, .ptr false 0 0), (6, .sl true 1 [I n11, I n12, I n13]), (7, I 0)], [[I n9, I n10, I n11, I n12, I n13, I n14]], gh19⟩) (fun e s => nx e s (fun e s => some (e, s)) fun s => kR (runL pg qt s) (fun e s => some (e, s))))))))))))) (
  br 54 (n11 != 0) (stK 1 v0 (some (.ret, ⟨[(4, I 1)], [], gh19⟩))) (
  br 59 (n12 != 0) (stK 1 v0 (some (.ret, ⟨[(4, I 1)], [], gh19⟩))) (stK 1 v0 (
  br 36 (n13 != 0) (some (.ret, ⟨[(4, I 1)], [], gh19⟩)) (stK 1 v0 (
  br 65 (decide (n9 ≤ 3)) (some (.ret, ⟨[(4, I 0)], [], gh19⟩)) (stK 1 v0 (stK 1 v0 (
  kR (runL pg qv ⟨[(0, v0), (1, I x1), (5, .ptr false 0 0), (6, .sl true 1 [I n11, I n12, I n13]), (7, I 0)], [[I n9, I n10, I n11, I n12, I n13, I n14]], gh19⟩) (fun e s => nx e s (fun e s => some (e, s)) fun s => kR (runL pg qt s) (fun e s => some (e, s))))))))))))) (stK 1 v0 (stK 1 v0 (
  br 65 (decide (n9 ≤ 3)) (some (.ret, ⟨[(4, I 0)], [], gh19⟩)) (stK 1 v0 (stK 1 v0 (
  kR (runL pg qv ⟨[(0, v0), (1, I x1), (5, .ptr false 0 0), (6, .sl true 1 [I n11, I n12, I n13]), (7, I 0)], [[I n9, I n10, I n11, I n12, I n13, I n14]], gh19⟩) (fun e s => nx e s (fun e s => some (e, s)) fun s => kR (runL pg qt s) (fun e s => some (e, s))))))))))))))))))
theorem qc_ {v0 : PV} {x1 : Int} (h : qc pg v0 x1 gh = some (e, s)) : runL pg qbs ⟨[(0, v0), (1, I x1)], [], gh⟩ = some (e, s) :=
 ji2 q8x (Eq.trans (by kernel_rfl) h)
end
end Go.Lw
end

/-! What the code of function model_Of comes to, piece by piece. Written by program (dprint.py). -/
section
set_option maxRecDepth 10000
set_option maxHeartbeats 4000000
namespace Go.Lw
open Go
noncomputable section
variable {pg : Prg} {gh : List GObj} {e : IExit} {s : St}
def q4i : Tr := (.node 15 (.agg [.int .i64, .int .i64, .int .i64, .int .i64, .int .i64, .int .i64]) (tO 9 (tO 4 (tI 1 (.node 0 (.agg [.any, .any, .any, .any, .any]) .nil .nil) .nil) (tI 6 (uO 5) .nil)) (tB 12 (tI 11 (uI 10) .nil) (uI 13))) (tI 21 (tB 19 (tI 18 (uI 17) .nil) (uO 20)) (tI 24 (tO 23 (uO 22) .nil) (uO 25))))
def qe3 (pg : Prg) (x1 : Int) (v5 v9 : PV) (x10 x11 : Int) (gh : List GObj) : DR := stK 0 v5 (stK 0 v9 (some (.normal, ⟨[(1, I x1), (5, v5), (9, v9), (10, I x10), (11, (I (IntKind.i64.wrap (x11 + 1))))], [], gh⟩)))
theorem qe3_ {x1 : Int} {v5 v9 : PV} {x10 x11 : Int} (h : qe3 pg x1 v5 v9 x10 x11 gh = some (e, s)) : runL pg q23 ⟨[(1, I x1), (5, v5), (9, v9), (10, I x10), (11, I x11)], [], gh⟩ = some (e, s) :=
 ji2 q4i (Eq.trans (by kernel_rfl) h)
def q4j (pg : Prg) (x1 : Int) (v5 v9 : PV) (x10 x11 : Int) (gh : List GObj) : DR :=
  br 12 (decide (x11 < x10)) (
  idX 6 none (degr v9) x11 fun p1 =>
  ldX [] gh true 6 (degr p1) fun v2 => unA 6 v2 fun c3 c4 c5 c6 c7 c8 => unI .i64 c3 fun n9 => unI .i64 c4 fun n10 => unI .i64 c5 fun n11 => unI .i64 c6 fun n12 => unI .i64 c7 fun n13 => unI .i64 c8 fun n14 => stK 1 v5 (stK 1 v9 (stK 0 v5 (stK 0 v9 (
  br 19 (n9 == x1) (
  apX 1 8 v5 (.sl false 1 [I x11]) fun l15 => stK 0 v9 (stK 0 v9 (
  kR (runL pg q23 ⟨[(1, I x1), (5, .sl true 1 l15), (9, v9), (10, I x10), (11, I x11)], [], gh⟩) (fun e s => po [1, 5, 9, 10, 11] 0 e s (fun e s => some (e, s)))))) (stK 0 v5 (stK 0 v9 (
  kR (runL pg q23 ⟨[(1, I x1), (5, v5), (9, v9), (10, I x10), (11, I x11)], [], gh⟩) (fun e s => po [1, 5, 9, 10, 11] 0 e s (fun e s => some (e, s))))))))))) (some ((.exit 0), ⟨[(1, I x1), (5, v5), (9, v9), (10, I x10), (11, I x11), (12, (B (decide (x11 < x10))))], [], gh⟩))
theorem q4j_ {x1 : Int} {v5 v9 : PV} {x10 x11 : Int} (h : q4j pg x1 v5 v9 x10 x11 gh = some (e, s)) : runL pg qas ⟨[(1, I x1), (5, v5), (9, v9), (10, I x10), (11, I x11)], [], gh⟩ = some (e, s) :=
 ji2 q4i (Eq.trans (by kernel_rfl) h)
def qe4 (pg : Prg) (v5 : PV) (gh : List GObj) : DR := isC (degr v5) (stK 0 (degr v5) (some (.ret, ⟨[(4, (degr v5))], [], gh⟩)))
theorem qe4_ {v5 : PV} (h : qe4 pg v5 gh = some (e, s)) : runL pg q6e ⟨[(5, v5)], [], gh⟩ = some (e, s) :=
 ji2 q4i (Eq.trans (by kernel_rfl) h)
def qe5 (pg : Prg) (v0_0 v0_1 : PV) (v0_2 v0_3 v0_4 : PV) (x1 : Int) (gh : List GObj) : DR := onK (degr1 v0_0) (onK (degr1 v0_1) (onK (degr1 v0_2) (onK (degr1 v0_3) (onK (degr1 v0_4) (isC (degr (degr1 v0_0)) (lenS (degr (degr (degr1 v0_0))) fun n1 => stK 0 (degr (degr1 v0_0)) (
  kR (runL pg q6d ⟨[(1, I x1), (5, .sl true 1 []), (9, (degr (degr1 v0_0))), (10, (I (n1 : Int))), (11, I 0)], [], gh⟩) (fun e s => nx e s (fun e s => some (e, s)) fun s => kR (runL pg q6e s) (fun e s => some (e, s))))))))))
theorem qe5_ {v0_0 v0_1 : PV} {v0_2 v0_3 v0_4 : PV} {x1 : Int} (h : qe5 pg v0_0 v0_1 v0_2 v0_3 v0_4 x1 gh = some (e, s)) : runL pg qat ⟨[(0, .agg [v0_0, v0_1, v0_2, v0_3, v0_4]), (1, I x1)], [], gh⟩ = some (e, s) :=
 ji2 q4i (Eq.trans (by kernel_rfl) h)
end
end Go.Lw
end

/-! What the code of function model_Bits comes to, piece by piece. Written by program (dprint.py). -/
section
set_option maxRecDepth 10000
set_option maxHeartbeats 4000000
namespace Go.Lw
open Go
noncomputable section
variable {pg : Prg} {gh : List GObj} {e : IExit} {s : St}
def qhd : Tr := (tO 6 (tI 3 (tI 2 (.node 0 (.agg [.any, .any, .any, .any, .any]) .nil .nil) .nil) (.node 5 (.agg [.any, .any, .any, .any, .any]) (.node 4 (.agg [.any, .any, .any, .any, .any]) .nil .nil) .nil)) (.node 9 (.agg [.any, .any, .any, .any, .any]) (.node 8 (.agg [.any, .any, .any, .any, .any]) (uI 7) .nil) (tI 11 (uO 10) .nil)))
def qe6 (pg : Prg) (v0_0 v0_1 : PV) (v0_2 v0_3 v0_4 : PV) (gh : List GObj) : DR := onK (degr1 v0_0) (onK (degr1 v0_1) (onK (degr1 v0_2) (onK (degr1 v0_3) (onK (degr1 v0_4) (onK (degr1 (degr1 (degr1 v0_0))) (onK (degr1 (degr1 (degr1 v0_1))) (onK (degr1 (degr1 (degr1 v0_2))) (onK (degr1 (degr1 (degr1 v0_3))) (onK (degr1 (degr1 (degr1 v0_4))) (
  callR gh true (callL pg 101 [(.agg [(degr1 (degr1 (degr1 v0_0))), (degr1 (degr1 (degr1 v0_1))), (degr1 (degr1 (degr1 v0_2))), (degr1 (degr1 (degr1 v0_3))), (degr1 (degr1 (degr1 v0_4)))]), I 2] gh) fun r1 gh2 => isC r1 (onK (degr1 (degr1 (degr1 v0_0))) (onK (degr1 (degr1 (degr1 v0_1))) (onK (degr1 (degr1 (degr1 v0_2))) (onK (degr1 (degr1 (degr1 v0_3))) (onK (degr1 (degr1 (degr1 v0_4))) (arK (degr r1) (
  callR gh2 true (callL pg 105 [(.agg [(degr1 (degr1 (degr1 v0_0))), (degr1 (degr1 (degr1 v0_1))), (degr1 (degr1 (degr1 v0_2))), (degr1 (degr1 (degr1 v0_3))), (degr1 (degr1 (degr1 v0_4)))]), (degr r1)] gh2) fun r3 gh4 => unI .i64 r3 fun n5 => onK (degr1 (degr1 (degr1 v0_0))) (onK (degr1 (degr1 (degr1 v0_1))) (onK (degr1 (degr1 (degr1 v0_2))) (onK (degr1 (degr1 (degr1 v0_3))) (onK (degr1 (degr1 (degr1 v0_4))) (
  callR gh4 true (callL pg 101 [(.agg [(degr1 (degr1 (degr1 v0_0))), (degr1 (degr1 (degr1 v0_1))), (degr1 (degr1 (degr1 v0_2))), (degr1 (degr1 (degr1 v0_3))), (degr1 (degr1 (degr1 v0_4)))]), I 3] gh4) fun r6 gh7 => isC r6 (onK (degr1 (degr1 (degr1 v0_0))) (onK (degr1 (degr1 (degr1 v0_1))) (onK (degr1 (degr1 (degr1 v0_2))) (onK (degr1 (degr1 (degr1 v0_3))) (onK (degr1 (degr1 (degr1 v0_4))) (arK (degr r6) (
  callR gh7 true (callL pg 105 [(.agg [(degr1 (degr1 (degr1 v0_0))), (degr1 (degr1 (degr1 v0_1))), (degr1 (degr1 (degr1 v0_2))), (degr1 (degr1 (degr1 v0_3))), (degr1 (degr1 (degr1 v0_4)))]), (degr r6)] gh7) fun r8 gh9 => unI .i64 r8 fun n10 => some (.ret, ⟨[(2, I n5), (3, I n10)], [], gh9⟩))))))))))))))))))))))))))))))
theorem qe6_ {v0_0 v0_1 : PV} {v0_2 v0_3 v0_4 : PV} (h : qe6 pg v0_0 v0_1 v0_2 v0_3 v0_4 gh = some (e, s)) : runL pg qai ⟨[(0, .agg [v0_0, v0_1, v0_2, v0_3, v0_4])], [], gh⟩ = some (e, s) :=
 ji2 qhd (Eq.trans (by kernel_rfl) h)
end
end Go.Lw
end

/-! What the code of function model_bits comes to, piece by piece. Written by program (dprint.py). -/
section
set_option maxRecDepth 10000
set_option maxHeartbeats 4000000
namespace Go.Lw
open Go
noncomputable section
variable {pg : Prg} {gh : List GObj} {e : IExit} {s : St}
def q8y : Tr := (tB 11 (tI 7 (tI 4 (tO 1 (.node 0 (.agg [.any, .any, .any, .any, .any]) .nil .nil) .nil) (uI 5)) (tI 9 (uO 8) (uI 10))) (tI 20 (tO 16 (tI 14 (uI 13) .nil) (uI 17)) (tI 22 (uI 21) (uI 23))))
def q8z (pg : Prg) (x5 : Int) (v8 : PV) (x9 x10 : Int) (vc0_0 vc0_1 : PV) (vc0_2 vc0_3 vc0_4 : PV) (gh : List GObj) : DR :=
  br 11 (decide (x10 < x9)) (
  idX 1 none (degr v8) x10 fun p1 =>
  ldX [[vc0_0, vc0_1, vc0_2, vc0_3, vc0_4]] gh false 1 (degr p1) fun v2 => unI .i64 v2 fun n3 => stK 1 v8 (isC (degr vc0_0) (
  idX 6 none (degr (degr vc0_0)) n3 fun p4 => faX (degr p4) 1 fun p5 =>
  ldX [[vc0_0, vc0_1, vc0_2, vc0_3, vc0_4]] gh false 1 (degr p5) fun v6 => unI .i64 v6 fun n7 => stK 1 v8 (stK 1 v8 (stK 1 v8 (some (.normal, ⟨[(2, .ptr false 0 0), (5, (I (IntKind.i64.wrap (x5 + n7)))), (8, v8), (9, I x9), (10, (I (IntKind.i64.wrap (x10 + 1))))], [[vc0_0, vc0_1, vc0_2, vc0_3, vc0_4]], gh⟩))))))) (some ((.exit 0), ⟨[(2, .ptr false 0 0), (5, I x5), (8, v8), (9, I x9), (10, I x10), (11, (B (decide (x10 < x9))))], [[vc0_0, vc0_1, vc0_2, vc0_3, vc0_4]], gh⟩))
theorem q8z_ {x5 : Int} {v8 : PV} {x9 x10 : Int} {vc0_0 vc0_1 : PV} {vc0_2 vc0_3 vc0_4 : PV} (h : q8z pg x5 v8 x9 x10 vc0_0 vc0_1 vc0_2 vc0_3 vc0_4 gh = some (e, s)) : runL pg qax ⟨[(2, .ptr false 0 0), (5, I x5), (8, v8), (9, I x9), (10, I x10)], [[vc0_0, vc0_1, vc0_2, vc0_3, vc0_4]], gh⟩ = some (e, s) :=
 ji2 q8y (Eq.trans (by kernel_rfl) h)
def qhe (pg : Prg) (x5 : Int) (gh : List GObj) : DR := some (.ret, ⟨[(4, I x5)], [], gh⟩)
theorem qhe_ {x5 : Int} (h : qhe pg x5 gh = some (e, s)) : runL pg q6j ⟨[(5, I x5)], [], gh⟩ = some (e, s) :=
 ji2 q8y (Eq.trans (by kernel_rfl) h)
def qe7 (pg : Prg) (v0_0 v0_1 : PV) (v0_2 v0_3 : PV) (v0_4 v1 : PV) (gh : List GObj) : DR := onK (degr1 v0_0) (onK (degr1 v0_1) (onK (degr1 v0_2) (onK (degr1 v0_3) (onK (degr1 v0_4) (stK 1 v1 (isC (degr v1) (lenS (degr (degr v1)) fun n1 => stK 1 (degr v1) (
  kR (runL pg q6i ⟨[(2, .ptr false 0 0), (5, I 0), (8, (degr v1)), (9, (I (n1 : Int))), (10, I 0)], [[(degr1 v0_0), (degr1 v0_1), (degr1 v0_2), (degr1 v0_3), (degr1 v0_4)]], gh⟩) (fun e s => nx e s (fun e s => some (e, s)) fun s => kR (runL pg q6j s) (fun e s => some (e, s)))))))))))
theorem qe7_ {v0_0 v0_1 : PV} {v0_2 v0_3 : PV} {v0_4 v1 : PV} (h : qe7 pg v0_0 v0_1 v0_2 v0_3 v0_4 v1 gh = some (e, s)) : runL pg qay ⟨[(0, .agg [v0_0, v0_1, v0_2, v0_3, v0_4]), (1, v1)], [], gh⟩ = some (e, s) :=
 ji2 q8y (Eq.trans (by kernel_rfl) h)
end
end Go.Lw
end

/-! What the code of function model_checker_lean comes to, piece by piece. Written by program (dprint.py). -/
section
set_option maxRecDepth 10000
set_option maxHeartbeats 4000000
namespace Go.Lw
open Go
noncomputable section
variable {pg : Prg} {gh : List GObj} {e : IExit} {s : St}
def q32 : Tr := (tI 28 (tI 18 (tO 11 (tI 6 (tB 4 (uG 0) .nil) (uG 7)) (tB 14 (tI 13 (uI 12) .nil) (.node 16 (.agg [.int .i64, .int .i64, .int .i64, .int .i64, .int .i64, .int .i64]) .nil .nil))) (tB 24 (tI 22 (tB 20 (uB 19) .nil) (uB 23)) (tO 26 (.node 25 (.agg [.int .i64, .int .i64, .int .i64, .int .i64, .int .i64, .int .i64]) .nil .nil) (uI 27)))) (tB 41 (tG 34 (tB 32 (tI 31 (uB 29) .nil) (uB 33)) (tI 38 (uO 37) (uB 40))) (tB 48 (tG 44 (tG 43 (uI 42) .nil) (uO 47)) (tO 50 (uO 49) (uI 53)))))
def q4k (pg : Prg) (g0 o0 : Nat) (b4 : Bool) (v11 : PV) (x12 x13 : Int) (v26 : PV) (x27 x28 : Int) (gh : List GObj) : DR :=
  br 29 (decide (x28 < x27)) (
  idX 1 none (degr v26) x28 fun p1 =>
  ldX [] gh false 1 (degr p1) fun v2 => unI .i64 v2 fun n3 => stK 0 v11 (stK 0 v26 (
  br 33 b4 (stK 0 v11 (stK 0 v26 (stK 0 v11 (stK 0 v26 (stK 0 v11 (stK 0 v26 (some (.normal, ⟨[(0, .ptr true g0 o0), (4, B true), (11, v11), (12, I x12), (13, I x13), (26, v26), (27, I x27), (28, (I (IntKind.i64.wrap (x28 + 1))))], [], gh⟩)))))))) (
  ob (ghCells gh g0) fun cs4 =>
  ob (grab false 1 (o0 + 5) cs4) fun v5 => isC (degr v5) (
  idX 1 none (degr (degr v5)) n3 fun p6 =>
  ldX [] gh false 1 (degr p6) fun v7 => unB v7 fun b8 => stK 0 v11 (stK 0 v26 (stK 0 v11 (stK 0 v26 (stK 0 v11 (stK 0 v26 (some (.normal, ⟨[(0, .ptr true g0 o0), (4, B b8), (11, v11), (12, I x12), (13, I x13), (26, v26), (27, I x27), (28, (I (IntKind.i64.wrap (x28 + 1))))], [], gh⟩)))))))))))) (some ((.exit 2), ⟨[(0, .ptr true g0 o0), (4, B b4), (11, v11), (12, I x12), (13, I x13), (26, v26), (27, I x27), (28, I x28), (29, (B (decide (x28 < x27))))], [], gh⟩))
theorem q4k_ {g0 o0 : Nat} {b4 : Bool} {v11 : PV} {x12 x13 : Int} {v26 : PV} {x27 x28 : Int} (h : q4k pg g0 o0 b4 v11 x12 x13 v26 x27 x28 gh = some (e, s)) : runL pg qaj ⟨[(0, .ptr true g0 o0), (4, B b4), (11, v11), (12, I x12), (13, I x13), (26, v26), (27, I x27), (28, I x28)], [], gh⟩ = some (e, s) :=
 ji2 q32 (Eq.trans (by kernel_rfl) h)
def qe8 (pg : Prg) (g0 o0 : Nat) (b4 : Bool) (v11 : PV) (x12 x13 : Int) (gh : List GObj) : DR :=
  ob (ghCells gh g0) fun cs1 => ob (cs1[(o0 + 5)]?) fun v2 =>
  apX 1 1 v2 (.sl false 1 [B b4]) fun l3 =>
  ob (ghCells (List.set gh g0 (.cells (spliceAt cs1 (o0 + 5) [degr1 v2]))) g0) fun cs4 => gb (stOk 1 (o0 + 5) [.sl true 1 l3] cs4) (stK 0 v11 (some (.normal, ⟨[(0, .ptr true g0 o0), (11, v11), (12, I x12), (13, I x13)], [], (List.set (List.set gh g0 (.cells (spliceAt cs1 (o0 + 5) [degr1 v2]))) g0 (.cells (spliceAt cs4 (o0 + 5) [.sl true 1 l3])))⟩)))
theorem qe8_ {g0 o0 : Nat} {b4 : Bool} {v11 : PV} {x12 x13 : Int} (h : qe8 pg g0 o0 b4 v11 x12 x13 gh = some (e, s)) : runL pg q22 ⟨[(0, .ptr true g0 o0), (4, B b4), (11, v11), (12, I x12), (13, I x13)], [], gh⟩ = some (e, s) :=
 ji2 q32 (Eq.trans (by kernel_rfl) h)
def qe9 (pg : Prg) (g0 o0 : Nat) (v11 : PV) (x12 x13 : Int) (gh : List GObj) : DR := stK 0 v11 (some (.normal, ⟨[(0, .ptr true g0 o0), (11, v11), (12, I x12), (13, (I (IntKind.i64.wrap (x13 + 1))))], [], gh⟩))
theorem qe9_ {g0 o0 : Nat} {v11 : PV} {x12 x13 : Int} (h : qe9 pg g0 o0 v11 x12 x13 gh = some (e, s)) : runL pg q15 ⟨[(0, .ptr true g0 o0), (11, v11), (12, I x12), (13, I x13)], [], gh⟩ = some (e, s) :=
 ji2 q32 (Eq.trans (by kernel_rfl) h)
def q4l (pg : Prg) (g0 o0 : Nat) (v11 : PV) (x12 x13 : Int) (gh : List GObj) : DR :=
  br 14 (decide (x13 < x12)) (
  idX 6 none (degr v11) x13 fun p1 =>
  ldX [] gh true 6 (degr p1) fun v2 => unA 6 v2 fun c3 c4 c5 c6 c7 c8 => unI .i64 c3 fun n9 => unI .i64 c4 fun n10 => unI .i64 c5 fun n11 => unI .i64 c6 fun n12 => unI .i64 c7 fun n13 => unI .i64 c8 fun n14 => stK 1 v11 (
  br 20 (n9 == 2) (stK 1 v11 (
  callR gh true (callL pg 81 [.agg [I n9, I n10, I n11, I n12, I n13, I n14]] gh) fun r15 gh16 => isC r15 (lenS (degr r15) fun n17 => stK 0 v11 (stK 0 r15 (
  kR (runL pg q1z ⟨[(0, .ptr true g0 o0), (4, B true), (11, v11), (12, I x12), (13, I x13), (26, r15), (27, (I (n17 : Int))), (28, I 0)], [], gh16⟩) (fun e s => nx e s (fun e s => bk 1 e s (fun e s => nx e s (fun e s => po [0, 11, 12, 13] 0 e s (fun e s => some (e, s))) fun s => kR (runL pg q15 s) (fun e s => po [0, 11, 12, 13] 0 e s (fun e s => some (e, s))))) fun s => kR (runL pg q22 s) (fun e s => bk 1 e s (fun e s => nx e s (fun e s => po [0, 11, 12, 13] 0 e s (fun e s => some (e, s))) fun s => kR (runL pg q15 s) (fun e s => po [0, 11, 12, 13] 0 e s (fun e s => some (e, s))))))))))) (stK 1 v11 (
  callR gh true (callL pg 81 [.agg [I n9, I n10, I n11, I n12, I n13, I n14]] gh) fun r18 gh19 => isC r18 (lenS (degr r18) fun n20 => stK 0 v11 (stK 0 r18 (
  kR (runL pg q1z ⟨[(0, .ptr true g0 o0), (4, (B (n9 == 3))), (11, v11), (12, I x12), (13, I x13), (26, r18), (27, (I (n20 : Int))), (28, I 0)], [], gh19⟩) (fun e s => nx e s (fun e s => bk 1 e s (fun e s => nx e s (fun e s => po [0, 11, 12, 13] 0 e s (fun e s => some (e, s))) fun s => kR (runL pg q15 s) (fun e s => po [0, 11, 12, 13] 0 e s (fun e s => some (e, s))))) fun s => kR (runL pg q22 s) (fun e s => bk 1 e s (fun e s => nx e s (fun e s => po [0, 11, 12, 13] 0 e s (fun e s => some (e, s))) fun s => kR (runL pg q15 s) (fun e s => po [0, 11, 12, 13] 0 e s (fun e s => some (e, s))))))))))))) (some ((.exit 0), ⟨[(0, .ptr true g0 o0), (11, v11), (12, I x12), (13, I x13), (14, (B (decide (x13 < x12))))], [], gh⟩))
theorem q4l_ {g0 o0 : Nat} {v11 : PV} {x12 x13 : Int} (h : q4l pg g0 o0 v11 x12 x13 gh = some (e, s)) : runL pg qak ⟨[(0, .ptr true g0 o0), (11, v11), (12, I x12), (13, I x13)], [], gh⟩ = some (e, s) :=
 ji2 q32 (Eq.trans (by kernel_rfl) h)
def qea (pg : Prg) (g0 o0 : Nat) (gh : List GObj) : DR :=
  ob (ghCells gh g0) fun cs1 =>
  ob (grab false 1 ((o0 + 0) + 0) cs1) fun v2 => isC (degr v2) (lenS (degr (degr v2)) fun n3 => stK 0 (degr v2) (
  kR (runL pg q65 ⟨[(0, .ptr true g0 o0), (11, (degr v2)), (12, (I (n3 : Int))), (13, I 0)], [], gh⟩) (fun e s => some (e, s))))
theorem qea_ {g0 o0 : Nat} (h : qea pg g0 o0 gh = some (e, s)) : runL pg qal ⟨[(0, .ptr true g0 o0)], [], gh⟩ = some (e, s) :=
 ji2 q32 (Eq.trans (by kernel_rfl) h)
end
end Go.Lw
end

/-! What the code of function model_checker_is comes to, piece by piece. Written by program (dprint.py). -/
section
set_option maxRecDepth 10000
set_option maxHeartbeats 4000000
namespace Go.Lw
open Go
noncomputable section
variable {pg : Prg} {gh : List GObj} {e : IExit} {s : St}
def qhf : Tr := (tI 8 (tI 5 (tI 1 (uG 0) (uB 4)) (tB 7 (uB 6) .nil)) (tI 14 (tO 13 (uG 9) .nil) (tB 16 (uB 15) .nil)))
def q90 (pg : Prg) (g0 o0 : Nat) (x1 : Int) (gh : List GObj) : DR :=
  br 7 (decide (0 ≤ x1)) (
  ob (ghCells gh g0) fun cs1 =>
  ob (grab false 1 ((o0 + 0) + 0) cs1) fun v2 => isC (degr v2) (lenS (degr (degr v2)) fun n3 => some (.ret, ⟨[(4, (B (decide (x1 < (n3 : Int)))))], [], gh⟩))) (some (.ret, ⟨[(4, B false)], [], gh⟩))
theorem q90_ {g0 o0 : Nat} {x1 : Int} (h : q90 pg g0 o0 x1 gh = some (e, s)) : runL pg qb2 ⟨[(0, .ptr true g0 o0), (1, I x1)], [], gh⟩ = some (e, s) :=
 ji2 qhf (Eq.trans (by kernel_rfl) h)
end
end Go.Lw
end

/-! What the code of function model_checker_pair comes to, piece by piece. Written by program (dprint.py). -/
section
set_option maxRecDepth 10000
set_option maxHeartbeats 4000000
namespace Go.Lw
open Go
noncomputable section
variable {pg : Prg} {gh : List GObj} {e : IExit} {s : St}
def qhg : Tr := (tB 31 (tG 14 (tG 8 (tB 2 (.node 1 (.agg [.int .i64, .int .i64]) (uG 0) .nil) (tB 7 (uI 6) .nil)) (tB 12 (tB 11 (uI 10) .nil) (uB 13))) (tB 20 (tB 18 (tB 17 (uI 16) .nil) (uB 19)) (tI 27 (tO 25 (uG 21) .nil) (uI 30)))) (tI 53 (tI 40 (tG 34 (tB 33 (uB 32) .nil) (uO 38)) (tO 48 (tG 44 (uI 43) .nil) (uI 50))) (tG 58 (tB 56 (tB 55 (uB 54) .nil) (uB 57)) (tB 65 (tI 63 (uO 61) .nil) (uB 66)))))
def q11 (pg : Prg) (g0 o0 : Nat) (x1_0 x1_1 : Int) (b2 : Bool) (gh : List GObj) : DR :=
  callR gh true (callL pg 118 [.ptr true g0 o0, I x1_0] gh) fun r1 gh2 => unB r1 fun b3 =>
  br 13 (!b3) (some (.ret, ⟨[(6, I 5)], [], gh2⟩)) (
  callR gh2 true (callL pg 118 [.ptr true g0 o0, I x1_1] gh2) fun r4 gh5 => unB r4 fun b6 =>
  br 20 (!b6) (some (.ret, ⟨[(6, I 5)], [], gh5⟩)) (
  ob (ghCells gh5 g0) fun cs7 =>
  ob (grab false 1 ((o0 + 0) + 0) cs7) fun v8 => isC (degr v8) (
  idX 6 none (degr (degr v8)) x1_0 fun p9 => faX (degr p9) 0 fun p10 =>
  ldX [[I x1_0, I x1_1]] gh5 false 1 (degr p10) fun v11 => unI .i64 v11 fun n12 =>
  br 7 (n12 != 3) (some (.ret, ⟨[(6, I 5)], [], gh5⟩)) (
  ob (ghCells gh5 g0) fun cs13 =>
  ob (grab false 1 ((o0 + 0) + 0) cs13) fun v14 => isC (degr v14) (
  idX 6 none (degr (degr v14)) x1_0 fun p15 => faX (degr p15) 1 fun p16 =>
  ldX [[I x1_0, I x1_1]] gh5 false 1 (degr p16) fun v17 => unI .i64 v17 fun n18 =>
  ob (ghCells gh5 g0) fun cs19 =>
  ob (grab false 1 ((o0 + 0) + 0) cs19) fun v20 => isC (degr v20) (
  idX 6 none (degr (degr v20)) x1_1 fun p21 => faX (degr p21) 1 fun p22 =>
  ldX [[I x1_0, I x1_1]] gh5 false 1 (degr p22) fun v23 => unI .i64 v23 fun n24 =>
  br 33 (n18 != n24) (some (.ret, ⟨[(6, I 1)], [], gh5⟩)) (
  br 57 b2 (
  ob (ghCells gh5 g0) fun cs25 =>
  ob (grab false 1 (o0 + 5) cs25) fun v26 => isC (degr v26) (
  idX 1 none (degr (degr v26)) x1_1 fun p27 =>
  ldX [[I x1_0, I x1_1]] gh5 false 1 (degr p27) fun v28 => unB v28 fun b29 =>
  br 55 b29 (some (.ret, ⟨[(6, I 4)], [], gh5⟩)) (some (.ret, ⟨[(6, I 0)], [], gh5⟩)))) (some (.ret, ⟨[(6, I 0)], [], gh5⟩)))))))))
theorem q11_ {g0 o0 : Nat} {x1_0 x1_1 : Int} {b2 : Bool} (h : q11 pg g0 o0 x1_0 x1_1 b2 gh = some (e, s)) : runL pg qaz ⟨[(0, .ptr true g0 o0), (1, .agg [I x1_0, I x1_1]), (2, B b2)], [], gh⟩ = some (e, s) :=
 ji2 qhg (Eq.trans (by kernel_rfl) h)
end
end Go.Lw
end

/-! What the code of function model_checker_pairs comes to, piece by piece. Written by program (dprint.py). -/
section
set_option maxRecDepth 10000
set_option maxHeartbeats 4000000
namespace Go.Lw
open Go
noncomputable section
variable {pg : Prg} {gh : List GObj} {e : IExit} {s : St}
def qm : Tr := (tB 42 (tB 26 (tG 13 (tO 4 (tI 2 (uG 0) (uI 3)) (tO 9 (uI 7) (uO 10))) (tO 23 (tG 18 (uO 17) (uO 22)) (tI 25 (uI 24) .nil))) (.node 35 (.agg [.int .i64, .int .i64]) (tI 31 (tO 29 (uI 27) (uO 30)) (tB 33 (uI 32) .nil)) (tB 39 (.node 37 (.agg [.int .i64, .int .i64]) (uG 36) (uI 38)) (tI 41 (uI 40) .nil)))) (tO 63 (tO 55 (tG 46 (tI 44 (uI 43) (uI 45)) (tG 51 (uO 50) .nil)) (tB 59 (tI 57 (uO 56) (uI 58)) (tO 62 (uO 61) .nil))) (tI 72 (.node 68 (.agg [.int .i64, .int .i64]) (tI 65 (uI 64) (uB 66)) (tI 71 (uO 69) .nil)) (tI 76 (tI 74 (uO 73) (uO 75)) (tI 78 (uB 77) .nil)))))
def q4m (pg : Prg) (g0 o0 : Nat) (x3 : Int) (v23 : PV) (x24 x25 : Int) (v30 : PV) (x31 x32 : Int) (gh : List GObj) : DR :=
  br 33 (decide (x32 < x31)) (
  idX 2 none (degr v30) x32 fun p1 =>
  ldX [] gh true 2 (degr p1) fun v2 => unA 2 v2 fun c3 c4 => unI .i64 c3 fun n5 => unI .i64 c4 fun n6 => stK 1 v23 (stK 1 v30 (
  callR gh true (callL pg 106 [.ptr true g0 o0, .agg [I n5, I n6], (B (x3 == 0))] gh) fun r7 gh8 => unI .i64 r7 fun n9 => stK 0 v23 (stK 0 v30 (stK 0 v23 (stK 0 v30 (
  br 42 (n9 != 0) (some (.ret, ⟨[(2, I n9)], [], gh8⟩)) (stK 0 v23 (stK 0 v30 (stK 0 v23 (stK 0 v30 (some (.normal, ⟨[(0, .ptr true g0 o0), (3, I x3), (23, v23), (24, I x24), (25, I x25), (30, v30), (31, I x31), (32, (I (IntKind.i64.wrap (x32 + 1))))], [], gh8⟩))))))))))))) (some ((.exit 2), ⟨[(0, .ptr true g0 o0), (3, I x3), (23, v23), (24, I x24), (25, I x25), (30, v30), (31, I x31), (32, I x32), (33, (B (decide (x32 < x31))))], [], gh⟩))
theorem q4m_ {g0 o0 : Nat} {x3 : Int} {v23 : PV} {x24 x25 : Int} {v30 : PV} {x31 x32 : Int} (h : q4m pg g0 o0 x3 v23 x24 x25 v30 x31 x32 gh = some (e, s)) : runL pg qam ⟨[(0, .ptr true g0 o0), (3, I x3), (23, v23), (24, I x24), (25, I x25), (30, v30), (31, I x31), (32, I x32)], [], gh⟩ = some (e, s) :=
 ji2 qm (Eq.trans (by kernel_rfl) h)
def qeb (pg : Prg) (g0 o0 : Nat) (v23 : PV) (x24 x25 : Int) (gh : List GObj) : DR := stK 0 v23 (some (.normal, ⟨[(0, .ptr true g0 o0), (23, v23), (24, I x24), (25, (I (IntKind.i64.wrap (x25 + 1))))], [], gh⟩))
theorem qeb_ {g0 o0 : Nat} {v23 : PV} {x24 x25 : Int} (h : qeb pg g0 o0 v23 x24 x25 gh = some (e, s)) : runL pg q3p ⟨[(0, .ptr true g0 o0), (23, v23), (24, I x24), (25, I x25)], [], gh⟩ = some (e, s) :=
 ji2 qm (Eq.trans (by kernel_rfl) h)
def q1r (pg : Prg) (g0 o0 : Nat) (v23 : PV) (x24 x25 : Int) (gh : List GObj) : DR :=
  br 26 (decide (x25 < x24)) (
  idX 1 none (degr v23) x25 fun p1 =>
  ldX [] gh false 1 (degr p1) fun v2 => isC v2 (stK 0 v2 (stK 0 v23 (isC (degr v2) (lenS (degr (degr v2)) fun n3 => stK 0 v23 (stK 0 (degr v2) (
  kR (runL pg q67 ⟨[(0, .ptr true g0 o0), (3, I x25), (23, v23), (24, I x24), (25, I x25), (30, (degr v2)), (31, (I (n3 : Int))), (32, I 0)], [], gh⟩) (fun e s => bk 1 e s (fun e s => nx e s (fun e s => po [0, 23, 24, 25] 0 e s (fun e s => some (e, s))) fun s => kR (runL pg q3p s) (fun e s => po [0, 23, 24, 25] 0 e s (fun e s => some (e, s)))))))))))) (some ((.exit 0), ⟨[(0, .ptr true g0 o0), (23, v23), (24, I x24), (25, I x25), (26, (B (decide (x25 < x24))))], [], gh⟩))
theorem q1r_ {g0 o0 : Nat} {v23 : PV} {x24 x25 : Int} (h : q1r pg g0 o0 v23 x24 x25 gh = some (e, s)) : runL pg qan ⟨[(0, .ptr true g0 o0), (23, v23), (24, I x24), (25, I x25)], [], gh⟩ = some (e, s) :=
 ji2 qm (Eq.trans (by kernel_rfl) h)
def q91 (pg : Prg) (v9 v10 v56 : PV) (x57 x58 : Int) (v63 : PV) (x64 x65 : Int) (gh : List GObj) : DR :=
  br 66 (decide (x65 < x64)) (
  idX 2 none (degr v63) x65 fun p1 =>
  ldX [] gh true 2 (degr p1) fun v2 => unA 2 v2 fun c3 c4 => unI .i64 c3 fun n5 => unI .i64 c4 fun n6 => stK 1 v9 (stK 1 v10 (stK 1 v56 (stK 1 v63 (isC (degr v10) (
  muX gh 0 (degr (degr v10)) (I n5) (B true) fun gh7 => stK 0 v9 (stK 0 v10 (stK 0 v56 (stK 0 v63 (stK 0 v9 (stK 0 v10 (stK 0 v56 (stK 0 v63 (stK 0 v9 (stK 0 v10 (stK 0 v56 (stK 0 v63 (some (.normal, ⟨[(9, v9), (10, v10), (56, v56), (57, I x57), (58, I x58), (63, v63), (64, I x64), (65, (I (IntKind.i64.wrap (x65 + 1))))], [], gh7⟩))))))))))))))))))) (some ((.exit 6), ⟨[(9, v9), (10, v10), (56, v56), (57, I x57), (58, I x58), (63, v63), (64, I x64), (65, I x65), (66, (B (decide (x65 < x64))))], [], gh⟩))
theorem q91_ {v9 v10 v56 : PV} {x57 x58 : Int} {v63 : PV} {x64 x65 : Int} (h : q91 pg v9 v10 v56 x57 x58 v63 x64 x65 gh = some (e, s)) : runL pg qao ⟨[(9, v9), (10, v10), (56, v56), (57, I x57), (58, I x58), (63, v63), (64, I x64), (65, I x65)], [], gh⟩ = some (e, s) :=
 ji2 qm (Eq.trans (by kernel_rfl) h)
def qec (pg : Prg) (v9 v10 v56 : PV) (x57 x58 : Int) (gh : List GObj) : DR := isC (degr v10) (
  lenM gh (degr (degr v10)) fun n1 => isC (degr v9) (lenS (degr (degr v9)) fun n2 => stK 0 v56 (
  br 77 (decide ((n1 : Int) < (n2 : Int))) (some (.ret, ⟨[(2, I 6)], [], gh⟩)) (some (.normal, ⟨[(56, v56), (57, I x57), (58, I x58), (77, (B (decide ((n1 : Int) < (n2 : Int)))))], [], gh⟩)))))
theorem qec_ {v9 v10 v56 : PV} {x57 x58 : Int} (h : qec pg v9 v10 v56 x57 x58 gh = some (e, s)) : runL pg q6a ⟨[(9, v9), (10, v10), (56, v56), (57, I x57), (58, I x58)], [], gh⟩ = some (e, s) :=
 ji2 qm (Eq.trans (by kernel_rfl) h)
def qed (pg : Prg) (v56 : PV) (x57 x58 : Int) (b77 : Bool) (gh : List GObj) : DR := stK 0 v56 (some (.normal, ⟨[(56, v56), (57, I x57), (58, (I (IntKind.i64.wrap (x58 + 1))))], [], gh⟩))
theorem qed_ {v56 : PV} {x57 x58 : Int} {b77 : Bool} (h : qed pg v56 x57 x58 b77 gh = some (e, s)) : runL pg q3q ⟨[(56, v56), (57, I x57), (58, I x58), (77, B b77)], [], gh⟩ = some (e, s) :=
 ji2 qm (Eq.trans (by kernel_rfl) h)
def q4n (pg : Prg) (v56 : PV) (x57 x58 : Int) (gh : List GObj) : DR :=
  br 59 (decide (x58 < x57)) (
  idX 1 none (degr v56) x58 fun p1 =>
  ldX [] gh false 1 (degr p1) fun v2 => isC v2 (stK 0 v2 (stK 0 v56 (stK 0 v2 (stK 0 v56 (isC (degr v2) (lenS (degr (degr v2)) fun n3 => stK 0 v2 (stK 0 v56 (stK 0 (degr v2) (
  kR (runL pg q69 ⟨[(9, v2), (10, (.mp (List.length gh))), (56, v56), (57, I x57), (58, I x58), (63, (degr v2)), (64, (I (n3 : Int))), (65, I 0)], [], (gh ++ [.map []])⟩) (fun e s => nx e s (fun e s => bk 5 e s (fun e s => nx e s (fun e s => po [56, 57, 58] 0 e s (fun e s => some (e, s))) fun s => kR (runL pg q3q s) (fun e s => po [56, 57, 58] 0 e s (fun e s => some (e, s))))) fun s => kR (runL pg q6a s) (fun e s => bk 5 e s (fun e s => nx e s (fun e s => po [56, 57, 58] 0 e s (fun e s => some (e, s))) fun s => kR (runL pg q3q s) (fun e s => po [56, 57, 58] 0 e s (fun e s => some (e, s)))))))))))))))) (some ((.exit 4), ⟨[(56, v56), (57, I x57), (58, I x58), (59, (B (decide (x58 < x57))))], [], gh⟩))
theorem q4n_ {v56 : PV} {x57 x58 : Int} (h : q4n pg v56 x57 x58 gh = some (e, s)) : runL pg q6b ⟨[(56, v56), (57, I x57), (58, I x58)], [], gh⟩ = some (e, s) :=
 ji2 qm (Eq.trans (by kernel_rfl) h)
def qhh (pg : Prg)  (gh : List GObj) : DR := some (.ret, ⟨[(2, I 0)], [], gh⟩)
theorem qhh_  (h : qhh pg  gh = some (e, s)) : runL pg q3r ⟨[], [], gh⟩ = some (e, s) :=
 ji2 qm (Eq.trans (by kernel_rfl) h)
def q92 (pg : Prg) (g0 o0 : Nat) (gh : List GObj) : DR :=
  ob (ghCells gh g0) fun cs1 =>
  ob (grab false 1 ((o0 + 0) + 1) cs1) fun v2 => isC (degr v2) (
  ob (ghCells gh g0) fun cs3 =>
  ob (grab false 1 ((o0 + 0) + 2) cs3) fun v4 => isC (degr v4) (arK (degr (degr v2)) (lnK 1 (degr (degr v2)) (arK (degr (degr v4)) (lnK 1 (degr (degr v4)) (lenS (.sl false 1 [(degr (degr v2)), (degr (degr v4))]) fun n5 =>
  kR (runL pg q6c ⟨[(56, (.sl true 1 [(degr (degr v2)), (degr (degr v4))])), (57, (I (n5 : Int))), (58, I 0)], [], gh⟩) (fun e s => nx e s (fun e s => some (e, s)) fun s => kR (runL pg q3r s) (fun e s => some (e, s)))))))))
theorem q92_ {g0 o0 : Nat} (h : q92 pg g0 o0 gh = some (e, s)) : runL pg q3s ⟨[(0, .ptr true g0 o0)], [], gh⟩ = some (e, s) :=
 ji2 qm (Eq.trans (by kernel_rfl) h)
def q4o (pg : Prg) (g0 o0 : Nat) (gh : List GObj) : DR :=
  ob (ghCells gh g0) fun cs1 =>
  ob (grab false 1 ((o0 + 0) + 1) cs1) fun v2 => isC (degr v2) (
  ob (ghCells gh g0) fun cs3 =>
  ob (grab false 1 ((o0 + 0) + 2) cs3) fun v4 => isC (degr v4) (arK (degr (degr v2)) (lnK 1 (degr (degr v2)) (arK (degr (degr v4)) (lnK 1 (degr (degr v4)) (lenS (.sl false 1 [(degr (degr v2)), (degr (degr v4))]) fun n5 =>
  kR (runL pg q68 ⟨[(0, .ptr true g0 o0), (23, (.sl true 1 [(degr (degr v2)), (degr (degr v4))])), (24, (I (n5 : Int))), (25, I 0)], [], gh⟩) (fun e s => nx e s (fun e s => some (e, s)) fun s => kR (runL pg q3s s) (fun e s => some (e, s)))))))))
theorem q4o_ {g0 o0 : Nat} (h : q4o pg g0 o0 gh = some (e, s)) : runL pg qap ⟨[(0, .ptr true g0 o0)], [], gh⟩ = some (e, s) :=
 ji2 qm (Eq.trans (by kernel_rfl) h)
end
end Go.Lw
end

/-! What the code of function model_checker_marks comes to, piece by piece. Written by program (dprint.py). -/
section
set_option maxRecDepth 10000
set_option maxHeartbeats 4000000
namespace Go.Lw
open Go
noncomputable section
variable {pg : Prg} {gh : List GObj} {e : IExit} {s : St}
def qhi : Tr := (tG 17 (tI 9 (tO 3 (tG 1 (uG 0) (uI 2)) (tO 8 (uG 4) .nil)) (tO 14 (.node 13 (.agg [.any, .any, .any, .any, .any]) (uG 10) .nil) (tB 16 (uI 15) .nil))) (tO 29 (tO 26 (tG 22 (uO 21) .nil) (tO 28 (uO 27) .nil)) (tO 32 (tB 31 (uO 30) .nil) (tB 34 (uO 33) .nil))))
def q33 (pg : Prg) (g0 o0 : Nat) (gh : List GObj) : DR :=
  ob (ghCells (gh ++ [.cells [.ptr true g0 o0]]) (List.length gh)) fun cs1 =>
  ob (grab false 1 0 cs1) fun v2 => unG (degr v2) fun g3 o4 =>
  ob (ghCells (gh ++ [.cells [.ptr true g0 o0]]) g3) fun cs5 =>
  ob (grab false 1 ((o4 + 0) + 2) cs5) fun v6 => isC (degr v6) (lenS (degr (degr v6)) fun n7 =>
  ob (ghCells (gh ++ [.cells [.ptr true g0 o0]]) (List.length gh)) fun cs8 =>
  ob (grab false 1 0 cs8) fun v9 => unG (degr v9) fun g10 o11 =>
  ob (ghCells (gh ++ [.cells [.ptr true g0 o0]]) g10) fun cs12 =>
  ob (grab true 5 (o11 + 0) cs12) fun v13 => unA 5 (degr v13) fun c14 c15 c16 c17 c18 => onK (degr1 c14) (onK (degr1 c15) (onK (degr1 c16) (onK (degr1 c17) (onK (degr1 c18) (
  callR (gh ++ [.cells [.ptr true g0 o0]]) true (callL pg 101 [(.agg [(degr1 c14), (degr1 c15), (degr1 c16), (degr1 c17), (degr1 c18)]), I 3] (gh ++ [.cells [.ptr true g0 o0]])) fun r19 gh20 => isC r19 (lenS (degr r19) fun n21 =>
  br 16 (decide ((n7 : Int) < (n21 : Int))) (some (.ret, ⟨[(2, I 5)], [], gh20⟩)) (
  ob (ghCells gh20 (List.length gh)) fun cs22 =>
  ob (grab false 1 0 cs22) fun v23 => unG (degr v23) fun g24 o25 =>
  ob (ghCells gh20 g24) fun cs26 =>
  ob (grab false 1 ((o25 + 0) + 3) cs26) fun v27 => isC (degr v27) (
  ob (ghCells gh20 (List.length gh)) fun cs28 =>
  ob (grab false 1 0 cs28) fun v29 => unG (degr v29) fun g30 o31 =>
  ob (ghCells gh20 g30) fun cs32 =>
  ob (grab false 1 ((o31 + 0) + 4) cs32) fun v33 => isC (degr v33) (arK (degr (degr v27)) (lnK 1 (degr (degr v27)) (arK (degr (degr v33)) (lnK 1 (degr (degr v33)) (
  callR gh20 true (callL pg 107 [(.sl false 1 [(degr (degr v27)), (degr (degr v33))])] gh20) fun r34 gh35 => isC r34 (stK 0 r34 (isC (degr r34) (arK (degr (degr r34)) (
  callR gh35 true (callL pg 86 [(degr (degr r34)), (.fn 108 [(.ptr true (List.length gh) 0)])] gh35) fun r36 gh37 => unB r36 fun b38 => stK 0 r34 (
  br 31 b38 (some (.ret, ⟨[(2, I 5)], [], gh37⟩)) (isC (degr r34) (arK (degr (degr r34)) (
  callR gh37 true (callL pg 86 [(degr (degr r34)), (.fn 109 [(.ptr true (List.length gh) 0)])] gh37) fun r39 gh40 => unB r39 fun b41 =>
  br 34 b41 (some (.ret, ⟨[(2, I 1)], [], gh40⟩)) (some (.ret, ⟨[(2, I 0)], [], gh40⟩))))))))))))))))))))))))
theorem q33_ {g0 o0 : Nat} (h : q33 pg g0 o0 gh = some (e, s)) : runL pg qaq ⟨[(0, .ptr true g0 o0)], [], gh⟩ = some (e, s) :=
 ji2 qhi (Eq.trans (by kernel_rfl) h)
end
end Go.Lw
end

/-! What the code of function model_checker_marks_1 comes to, piece by piece. Written by program (dprint.py). -/
section
set_option maxRecDepth 10000
set_option maxHeartbeats 4000000
namespace Go.Lw
open Go
noncomputable section
variable {pg : Prg} {gh : List GObj} {e : IExit} {s : St}
def qhj : Tr := (tG 4 (tG 1 (uI 0) (uB 3)) (tB 6 (uI 5) (uB 7)))
def qee (pg : Prg) (x0 : Int) (g1 o1 : Nat) (gh : List GObj) : DR :=
  ob (ghCells gh g1) fun cs1 =>
  ob (grab false 1 o1 cs1) fun v2 => unG (degr v2) fun g3 o4 =>
  callR gh true (callL pg 118 [.ptr true g3 o4, I x0] gh) fun r5 gh6 => unB r5 fun b7 => some (.ret, ⟨[(3, (B (!b7)))], [], gh6⟩)
theorem qee_ {x0 : Int} {g1 o1 : Nat} (h : qee pg x0 g1 o1 gh = some (e, s)) : runL pg qb0 ⟨[(0, I x0), (1, .ptr true g1 o1)], [], gh⟩ = some (e, s) :=
 ji2 qhj (Eq.trans (by kernel_rfl) h)
end
end Go.Lw
end

/-! What the code of function model_checker_marks_2 comes to, piece by piece. Written by program (dprint.py). -/
section
set_option maxRecDepth 10000
set_option maxHeartbeats 4000000
namespace Go.Lw
open Go
noncomputable section
variable {pg : Prg} {gh : List GObj} {e : IExit} {s : St}
def qhk : Tr := (tO 8 (tB 3 (tG 1 (uI 0) .nil) (uG 4)) (tI 12 (uI 9) (uB 13)))
def qef (pg : Prg) (x0 : Int) (g1 o1 : Nat) (gh : List GObj) : DR :=
  ob (ghCells gh g1) fun cs1 =>
  ob (grab false 1 o1 cs1) fun v2 => unG (degr v2) fun g3 o4 =>
  ob (ghCells gh g3) fun cs5 =>
  ob (grab false 1 ((o4 + 0) + 0) cs5) fun v6 => isC (degr v6) (
  idX 6 none (degr (degr v6)) x0 fun p7 => faX (degr p7) 1 fun p8 =>
  ldX [] gh false 1 (degr p8) fun v9 => unI .i64 v9 fun n10 => some (.ret, ⟨[(3, (B (n10 != 1)))], [], gh⟩))
theorem qef_ {x0 : Int} {g1 o1 : Nat} (h : qef pg x0 g1 o1 gh = some (e, s)) : runL pg qb1 ⟨[(0, I x0), (1, .ptr true g1 o1)], [], gh⟩ = some (e, s) :=
 ji2 qhk (Eq.trans (by kernel_rfl) h)
end
end Go.Lw
end

/-! What the code of function model_Check comes to, piece by piece. Written by program (dprint.py). -/
section
set_option maxRecDepth 10000
set_option maxHeartbeats 4000000
namespace Go.Lw
open Go
noncomputable section
variable {pg : Prg} {gh : List GObj} {e : IExit} {s : St}
def q93 : Tr := (tI 33 (tI 16 (tG 7 (tI 4 (tI 2 (.node 0 (.agg [.any, .any, .any, .any, .any]) .nil .nil) (uI 3)) (tI 6 (uI 5) .nil)) (tB 12 (tO 10 (uI 8) (uI 11)) (tO 15 (uB 13) .nil))) (tB 24 (tO 21 (tB 18 (uB 17) (uB 19)) (tB 23 (uI 22) .nil)) (tB 29 (tI 27 (uO 26) (uI 28)) (tO 32 (uI 30) .nil)))) (tI 47 (.node 40 (.agg [.any, .any, .any, .any, .any]) (tI 37 (tI 35 (uI 34) (uB 36)) (.node 39 (.tup 2) (uI 38) .nil)) (tI 44 (tI 42 (.node 41 (.tup 2) .nil .nil) (uI 43)) (tB 46 (uB 45) .nil))) (tG 55 (.node 51 (.agg [.any, .any, .any, .any, .any, .any]) (tB 49 (uB 48) (.node 50 (.agg [.any, .any, .any, .any, .any]) .nil .nil)) (tG 53 (uG 52) .nil)) (tI 59 (tI 57 (uI 56) (uB 58)) (tI 61 (uG 60) .nil)))))
def q4p (pg : Prg) (x27 x28 : Int) (vc0_0 vc0_1 : PV) (vc0_2 vc0_3 vc0_4 : PV) (gh : List GObj) : DR :=
  br 29 (decide (x28 < x27)) (isC (degr vc0_0) (arK (degr (degr vc0_0)) (
  callR gh true (callL pg 76 [(degr (degr vc0_0)), I x28] gh) fun r1 gh2 => unI .i64 r1 fun n3 =>
  br 36 (n3 != 0) (some (.ret, ⟨[(2, I n3)], [], gh2⟩)) (some (.normal, ⟨[(1, .ptr false 0 0), (27, I x27), (28, (I (IntKind.i64.wrap (x28 + 1))))], [[vc0_0, vc0_1, vc0_2, vc0_3, vc0_4]], gh2⟩))))) (some ((.exit 0), ⟨[(1, .ptr false 0 0), (27, I x27), (28, I x28), (29, (B (decide (x28 < x27))))], [[vc0_0, vc0_1, vc0_2, vc0_3, vc0_4]], gh⟩))
theorem q4p_ {x27 x28 : Int} {vc0_0 vc0_1 : PV} {vc0_2 vc0_3 vc0_4 : PV} (h : q4p pg x27 x28 vc0_0 vc0_1 vc0_2 vc0_3 vc0_4 gh = some (e, s)) : runL pg qae ⟨[(1, .ptr false 0 0), (27, I x27), (28, I x28)], [[vc0_0, vc0_1, vc0_2, vc0_3, vc0_4]], gh⟩ = some (e, s) :=
 ji2 q93 (Eq.trans (by kernel_rfl) h)
def q34 (pg : Prg) (vc0_0 vc0_1 : PV) (vc0_2 vc0_3 vc0_4 : PV) (gh : List GObj) : DR := onK (degr1 (degr1 vc0_0)) (onK (degr1 (degr1 vc0_1)) (onK (degr1 (degr1 vc0_2)) (onK (degr1 (degr1 vc0_3)) (onK (degr1 (degr1 vc0_4)) (
  callR gh true (callL pg 77 [(.agg [(degr1 (degr1 vc0_0)), (degr1 (degr1 vc0_1)), (degr1 (degr1 vc0_2)), (degr1 (degr1 vc0_3)), (degr1 (degr1 vc0_4))])] gh) fun r1 gh2 => unT 2 r1 fun r3 r4 => unI .i64 (degr1 (degr1 r3)) fun n5 => unI .i64 (degr1 (degr1 r4)) fun n6 =>
  br 46 (decide (6 < n5)) (some (.ret, ⟨[(2, I 2)], [], gh2⟩)) (
  br 49 (decide (10 < n6)) (some (.ret, ⟨[(2, I 2)], [], gh2⟩)) (onK (degr1 vc0_0) (onK (degr1 vc0_1) (onK (degr1 vc0_2) (onK (degr1 vc0_3) (onK (degr1 vc0_4) (onK (degr1 vc0_0) (onK (degr1 vc0_1) (onK (degr1 vc0_2) (onK (degr1 vc0_3) (onK (degr1 vc0_4) (
  callR (gh2 ++ [.cells [(degr1 vc0_0), (degr1 vc0_1), (degr1 vc0_2), (degr1 vc0_3), (degr1 vc0_4), .sl true 1 []]]) false (callL pg 78 [(.ptr true (List.length gh2) 0)] (gh2 ++ [.cells [(degr1 vc0_0), (degr1 vc0_1), (degr1 vc0_2), (degr1 vc0_3), (degr1 vc0_4), .sl true 1 []]])) fun r7 gh8 =>
  callR gh8 true (callL pg 79 [(.ptr true (List.length gh2) 0)] gh8) fun r9 gh10 => unI .i64 r9 fun n11 =>
  br 58 (n11 != 0) (some (.ret, ⟨[(2, I n11)], [], gh10⟩)) (
  callR gh10 true (callL pg 80 [(.ptr true (List.length gh2) 0)] gh10) fun r12 gh13 => unI .i64 r12 fun n14 => some (.ret, ⟨[(2, I n14)], [], gh13⟩)))))))))))))))))))
theorem q34_ {vc0_0 vc0_1 : PV} {vc0_2 vc0_3 vc0_4 : PV} (h : q34 pg vc0_0 vc0_1 vc0_2 vc0_3 vc0_4 gh = some (e, s)) : runL pg q1j ⟨[(1, .ptr false 0 0)], [[vc0_0, vc0_1, vc0_2, vc0_3, vc0_4]], gh⟩ = some (e, s) :=
 ji2 q93 (Eq.trans (by kernel_rfl) h)
def q12 (pg : Prg) (v0_0 v0_1 : PV) (v0_2 v0_3 v0_4 : PV) (gh : List GObj) : DR := onK (degr1 v0_0) (onK (degr1 v0_1) (onK (degr1 v0_2) (onK (degr1 v0_3) (onK (degr1 v0_4) (isC (degr (degr1 v0_0)) (lenS (degr (degr (degr1 v0_0))) fun n1 =>
  br 13 (decide (80 < (n1 : Int))) (some (.ret, ⟨[(2, I 2)], [], gh⟩)) (isC (degr (degr1 v0_3)) (lenS (degr (degr (degr1 v0_3))) fun n2 =>
  br 19 (decide (8 < (n2 : Int))) (some (.ret, ⟨[(2, I 2)], [], gh⟩)) (isC (degr (degr1 v0_4)) (lenS (degr (degr (degr1 v0_4))) fun n3 =>
  br 24 (decide (8 < (n3 : Int))) (some (.ret, ⟨[(2, I 2)], [], gh⟩)) (isC (degr (degr1 v0_0)) (lenS (degr (degr (degr1 v0_0))) fun n4 =>
  kR (runL pg q60 ⟨[(1, .ptr false 0 0), (27, (I (n4 : Int))), (28, I 0)], [[(degr1 v0_0), (degr1 v0_1), (degr1 v0_2), (degr1 v0_3), (degr1 v0_4)]], gh⟩) (fun e s => nx e s (fun e s => some (e, s)) fun s => kR (runL pg q1j s) (fun e s => some (e, s)))))))))))))))
theorem q12_ {v0_0 v0_1 : PV} {v0_2 v0_3 v0_4 : PV} (h : q12 pg v0_0 v0_1 v0_2 v0_3 v0_4 gh = some (e, s)) : runL pg qaf ⟨[(0, .agg [v0_0, v0_1, v0_2, v0_3, v0_4])], [], gh⟩ = some (e, s) :=
 ji2 q93 (Eq.trans (by kernel_rfl) h)
end
end Go.Lw
end

/-! What the code of function slices_Concat_Lint_int comes to, piece by piece. Written by program (dprint.py). -/
section
set_option maxRecDepth 10000
set_option maxHeartbeats 4000000
namespace Go.Lw
open Go
noncomputable section
variable {pg : Prg} {gh : List GObj} {e : IExit} {s : St}
def q35 : Tr := (tI 19 (tI 10 (tO 5 (tO 2 (uO 0) (uI 3)) (tO 8 (uO 6) (uO 9))) (tI 15 (tB 12 (uI 11) (uO 14)) (tI 17 (uO 16) (uI 18)))) (tB 28 (tO 24 (tI 22 (uB 20) (uI 23)) (tI 26 (uO 25) (uI 27))) (tO 33 (tO 31 (uO 30) (uO 32)) (tO 35 (uI 34) .nil))))
def q4q (pg : Prg) (v0 : PV) (x3 : Int) (v9 : PV) (x10 x11 : Int) (gh : List GObj) : DR :=
  br 12 (decide (x11 < x10)) (
  idX 1 none (degr v9) x11 fun p1 =>
  ldX [] gh false 1 (degr p1) fun v2 => isC v2 (stK 0 v0 (stK 0 v2 (stK 0 v9 (isC (degr v2) (lenS (degr (degr v2)) fun n3 => stK 0 v0 (stK 0 v9 (stK 0 v0 (stK 0 v9 (
  br 20 (decide ((IntKind.i64.wrap (x3 + (n3 : Int))) < 0)) (none) (stK 0 v0 (stK 0 v9 (stK 0 v0 (stK 0 v9 (some (.normal, ⟨[(0, v0), (3, (I (IntKind.i64.wrap (x3 + (n3 : Int))))), (9, v9), (10, I x10), (11, (I (IntKind.i64.wrap (x11 + 1))))], [], gh⟩)))))))))))))))) (some ((.exit 0), ⟨[(0, v0), (3, I x3), (9, v9), (10, I x10), (11, I x11), (12, (B (decide (x11 < x10))))], [], gh⟩))
theorem q4q_ {v0 : PV} {x3 : Int} {v9 : PV} {x10 x11 : Int} (h : q4q pg v0 x3 v9 x10 x11 gh = some (e, s)) : runL pg qa9 ⟨[(0, v0), (3, I x3), (9, v9), (10, I x10), (11, I x11)], [], gh⟩ = some (e, s) :=
 ji2 q35 (Eq.trans (by kernel_rfl) h)
def q4r (pg : Prg) (v6 v25 : PV) (x26 x27 : Int) (gh : List GObj) : DR :=
  br 28 (decide (x27 < x26)) (
  idX 1 none (degr v25) x27 fun p1 =>
  ldX [] gh false 1 (degr p1) fun v2 => isC v2 (stK 0 v6 (stK 0 v2 (stK 0 v25 (isC (degr v2) (
  apX 1 8 v6 (degr (degr v2)) fun l3 => stK 0 v25 (stK 0 v25 (stK 0 v25 (some (.normal, ⟨[(6, .sl true 1 l3), (25, v25), (26, I x26), (27, (I (IntKind.i64.wrap (x27 + 1))))], [], gh⟩)))))))))) (some ((.exit 2), ⟨[(6, v6), (25, v25), (26, I x26), (27, I x27), (28, (B (decide (x27 < x26))))], [], gh⟩))
theorem q4r_ {v6 v25 : PV} {x26 x27 : Int} (h : q4r pg v6 v25 x26 x27 gh = some (e, s)) : runL pg qaa ⟨[(6, v6), (25, v25), (26, I x26), (27, I x27)], [], gh⟩ = some (e, s) :=
 ji2 q35 (Eq.trans (by kernel_rfl) h)
def qeg (pg : Prg) (v6 : PV) (gh : List GObj) : DR := isC (degr v6) (stK 0 (degr v6) (some (.ret, ⟨[(2, (degr v6))], [], gh⟩)))
theorem qeg_ {v6 : PV} (h : qeg pg v6 gh = some (e, s)) : runL pg q5v ⟨[(6, v6)], [], gh⟩ = some (e, s) :=
 ji2 q35 (Eq.trans (by kernel_rfl) h)
def qeh (pg : Prg) (v0 : PV) (x3 : Int) (gh : List GObj) : DR :=
  callR gh true (callL pg 119 [.nils, I x3] gh) fun r1 gh2 => isC r1 (stK 0 v0 (stK 0 r1 (isC (degr v0) (lenS (degr (degr v0)) fun n3 => stK 0 r1 (stK 0 (degr v0) (
  kR (runL pg q5u ⟨[(6, r1), (25, (degr v0)), (26, (I (n3 : Int))), (27, I 0)], [], gh2⟩) (fun e s => nx e s (fun e s => some (e, s)) fun s => kR (runL pg q5v s) (fun e s => some (e, s)))))))))
theorem qeh_ {v0 : PV} {x3 : Int} (h : qeh pg v0 x3 gh = some (e, s)) : runL pg q5w ⟨[(0, v0), (3, I x3)], [], gh⟩ = some (e, s) :=
 ji2 q35 (Eq.trans (by kernel_rfl) h)
def qei (pg : Prg) (v0 : PV) (gh : List GObj) : DR := stK 0 v0 (isC (degr v0) (lenS (degr (degr v0)) fun n1 => stK 0 v0 (stK 0 (degr v0) (
  kR (runL pg q5t ⟨[(0, v0), (3, I 0), (9, (degr v0)), (10, (I (n1 : Int))), (11, I 0)], [], gh⟩) (fun e s => nx e s (fun e s => some (e, s)) fun s => kR (runL pg q5w s) (fun e s => some (e, s)))))))
theorem qei_ {v0 : PV} (h : qei pg v0 gh = some (e, s)) : runL pg qab ⟨[(0, v0)], [], gh⟩ = some (e, s) :=
 ji2 q35 (Eq.trans (by kernel_rfl) h)
end
end Go.Lw
end

/-! What the code of function ref_Nodes comes to, piece by piece. Written by program (dprint.py). -/
section
set_option maxRecDepth 10000
set_option maxHeartbeats 4000000
namespace Go.Lw
open Go
noncomputable section
variable {pg : Prg} {gh : List GObj} {e : IExit} {s : St}
def q4s : Tr := (tI 13 (tI 7 (tO 4 (tI 1 (.node 0 (.agg [.any, .any, .any, .any, .any]) .nil .nil) .nil) (tI 6 (uO 5) .nil)) (tB 11 (tI 10 (uO 9) .nil) (uI 12))) (tO 22 (tI 19 (tI 16 (uO 15) .nil) (tB 21 (uI 20) .nil)) (tO 25 (tO 24 (uI 23) .nil) (uO 26))))
def qej (pg : Prg) (x1 : Int) (v5 : PV) (x6 : Int) (vc0_0 vc0_1 : PV) (vc0_2 vc0_3 vc0_4 : PV) (gh : List GObj) : DR := stK 1 v5 (some (.normal, ⟨[(1, I x1), (2, .ptr false 0 0), (5, v5), (6, (I (IntKind.i64.wrap (x6 + 1))))], [[vc0_0, vc0_1, vc0_2, vc0_3, vc0_4]], gh⟩))
theorem qej_ {x1 : Int} {v5 : PV} {x6 : Int} {vc0_0 vc0_1 : PV} {vc0_2 vc0_3 vc0_4 : PV} (h : qej pg x1 v5 x6 vc0_0 vc0_1 vc0_2 vc0_3 vc0_4 gh = some (e, s)) : runL pg q2f ⟨[(1, I x1), (2, .ptr false 0 0), (5, v5), (6, I x6)], [[vc0_0, vc0_1, vc0_2, vc0_3, vc0_4]], gh⟩ = some (e, s) :=
 ji2 q4s (Eq.trans (by kernel_rfl) h)
def q4t (pg : Prg) (x1 : Int) (v5 : PV) (x6 : Int) (vc0_0 vc0_1 : PV) (vc0_2 vc0_3 vc0_4 : PV) (gh : List GObj) : DR := isC (degr vc0_0) (lenS (degr (degr vc0_0)) fun n1 => stK 1 v5 (
  br 11 (decide (x6 < (n1 : Int))) (isC (degr vc0_0) (
  idX 6 none (degr (degr vc0_0)) x6 fun p2 => faX (degr p2) 0 fun p3 =>
  ldX [[vc0_0, vc0_1, vc0_2, vc0_3, vc0_4]] gh false 1 (degr p3) fun v4 => unI .i64 v4 fun n5 => stK 1 v5 (
  br 21 (n5 == x1) (
  apX 1 8 v5 (.sl false 1 [I x6]) fun l6 =>
  kR (runL pg q2f ⟨[(1, I x1), (2, .ptr false 0 0), (5, .sl true 1 l6), (6, I x6)], [[vc0_0, vc0_1, vc0_2, vc0_3, vc0_4]], gh⟩) (fun e s => po [1, 2, 5, 6] 1 e s (fun e s => some (e, s)))) (stK 1 v5 (
  kR (runL pg q2f ⟨[(1, I x1), (2, .ptr false 0 0), (5, v5), (6, I x6)], [[vc0_0, vc0_1, vc0_2, vc0_3, vc0_4]], gh⟩) (fun e s => po [1, 2, 5, 6] 1 e s (fun e s => some (e, s)))))))) (some ((.exit 0), ⟨[(1, I x1), (2, .ptr false 0 0), (5, v5), (6, I x6), (11, (B (decide (x6 < (n1 : Int)))))], [[vc0_0, vc0_1, vc0_2, vc0_3, vc0_4]], gh⟩))))
theorem q4t_ {x1 : Int} {v5 : PV} {x6 : Int} {vc0_0 vc0_1 : PV} {vc0_2 vc0_3 vc0_4 : PV} (h : q4t pg x1 v5 x6 vc0_0 vc0_1 vc0_2 vc0_3 vc0_4 gh = some (e, s)) : runL pg qbi ⟨[(1, I x1), (2, .ptr false 0 0), (5, v5), (6, I x6)], [[vc0_0, vc0_1, vc0_2, vc0_3, vc0_4]], gh⟩ = some (e, s) :=
 ji2 q4s (Eq.trans (by kernel_rfl) h)
def qek (pg : Prg) (v5 : PV) (gh : List GObj) : DR := isC (degr v5) (stK 0 (degr v5) (some (.ret, ⟨[(4, (degr v5))], [], gh⟩)))
theorem qek_ {v5 : PV} (h : qek pg v5 gh = some (e, s)) : runL pg q6z ⟨[(5, v5)], [], gh⟩ = some (e, s) :=
 ji2 q4s (Eq.trans (by kernel_rfl) h)
def qel (pg : Prg) (v0_0 v0_1 : PV) (v0_2 v0_3 v0_4 : PV) (x1 : Int) (gh : List GObj) : DR := onK (degr1 v0_0) (onK (degr1 v0_1) (onK (degr1 v0_2) (onK (degr1 v0_3) (onK (degr1 v0_4) (
  kR (runL pg q6y ⟨[(1, I x1), (2, .ptr false 0 0), (5, .sl true 1 []), (6, I 0)], [[(degr1 v0_0), (degr1 v0_1), (degr1 v0_2), (degr1 v0_3), (degr1 v0_4)]], gh⟩) (fun e s => nx e s (fun e s => some (e, s)) fun s => kR (runL pg q6z s) (fun e s => some (e, s))))))))
theorem qel_ {v0_0 v0_1 : PV} {v0_2 v0_3 v0_4 : PV} {x1 : Int} (h : qel pg v0_0 v0_1 v0_2 v0_3 v0_4 x1 gh = some (e, s)) : runL pg qbj ⟨[(0, .agg [v0_0, v0_1, v0_2, v0_3, v0_4]), (1, I x1)], [], gh⟩ = some (e, s) :=
 ji2 q4s (Eq.trans (by kernel_rfl) h)
end
end Go.Lw
end

/-! What the code of function ref_Bits comes to, piece by piece. Written by program (dprint.py). -/
section
set_option maxRecDepth 10000
set_option maxHeartbeats 4000000
namespace Go.Lw
open Go
noncomputable section
variable {pg : Prg} {gh : List GObj} {e : IExit} {s : St}
def q4u : Tr := (tO 15 (tI 7 (tI 4 (tI 1 (.node 0 (.agg [.any, .any, .any, .any, .any]) .nil .nil) .nil) (tI 6 (uI 5) .nil)) (tB 11 (tI 10 (uO 9) .nil) (tI 13 (uI 12) .nil))) (tO 24 (tI 20 (tI 19 (uI 16) .nil) (tI 22 (uB 21) .nil)) (tI 29 (tI 28 (uI 25) .nil) (uI 30))))
def qem (pg : Prg) (x1 x5 x6 : Int) (vc0_0 vc0_1 : PV) (vc0_2 vc0_3 vc0_4 : PV) (gh : List GObj) : DR := some (.normal, ⟨[(1, I x1), (2, .ptr false 0 0), (5, I x5), (6, (I (IntKind.i64.wrap (x6 + 1))))], [[vc0_0, vc0_1, vc0_2, vc0_3, vc0_4]], gh⟩)
theorem qem_ {x1 x5 x6 : Int} {vc0_0 vc0_1 : PV} {vc0_2 vc0_3 vc0_4 : PV} (h : qem pg x1 x5 x6 vc0_0 vc0_1 vc0_2 vc0_3 vc0_4 gh = some (e, s)) : runL pg q2j ⟨[(1, I x1), (2, .ptr false 0 0), (5, I x5), (6, I x6)], [[vc0_0, vc0_1, vc0_2, vc0_3, vc0_4]], gh⟩ = some (e, s) :=
 ji2 q4u (Eq.trans (by kernel_rfl) h)
def q4v (pg : Prg) (x1 x5 x6 : Int) (vc0_0 vc0_1 : PV) (vc0_2 vc0_3 vc0_4 : PV) (gh : List GObj) : DR := isC (degr vc0_0) (lenS (degr (degr vc0_0)) fun n1 =>
  br 11 (decide (x6 < (n1 : Int))) (isC (degr vc0_0) (
  idX 6 none (degr (degr vc0_0)) x6 fun p2 => faX (degr p2) 0 fun p3 =>
  ldX [[vc0_0, vc0_1, vc0_2, vc0_3, vc0_4]] gh false 1 (degr p3) fun v4 => unI .i64 v4 fun n5 =>
  br 21 (n5 == x1) (isC (degr vc0_0) (
  idX 6 none (degr (degr vc0_0)) x6 fun p6 => faX (degr p6) 1 fun p7 =>
  ldX [[vc0_0, vc0_1, vc0_2, vc0_3, vc0_4]] gh false 1 (degr p7) fun v8 => unI .i64 v8 fun n9 =>
  kR (runL pg q2j ⟨[(1, I x1), (2, .ptr false 0 0), (5, (I (IntKind.i64.wrap (x5 + n9)))), (6, I x6)], [[vc0_0, vc0_1, vc0_2, vc0_3, vc0_4]], gh⟩) (fun e s => po [1, 2, 5, 6] 1 e s (fun e s => some (e, s))))) (
  kR (runL pg q2j ⟨[(1, I x1), (2, .ptr false 0 0), (5, I x5), (6, I x6)], [[vc0_0, vc0_1, vc0_2, vc0_3, vc0_4]], gh⟩) (fun e s => po [1, 2, 5, 6] 1 e s (fun e s => some (e, s)))))) (some ((.exit 0), ⟨[(1, I x1), (2, .ptr false 0 0), (5, I x5), (6, I x6), (11, (B (decide (x6 < (n1 : Int)))))], [[vc0_0, vc0_1, vc0_2, vc0_3, vc0_4]], gh⟩)))
theorem q4v_ {x1 x5 x6 : Int} {vc0_0 vc0_1 : PV} {vc0_2 vc0_3 vc0_4 : PV} (h : q4v pg x1 x5 x6 vc0_0 vc0_1 vc0_2 vc0_3 vc0_4 gh = some (e, s)) : runL pg qbt ⟨[(1, I x1), (2, .ptr false 0 0), (5, I x5), (6, I x6)], [[vc0_0, vc0_1, vc0_2, vc0_3, vc0_4]], gh⟩ = some (e, s) :=
 ji2 q4u (Eq.trans (by kernel_rfl) h)
def qhl (pg : Prg) (x5 : Int) (gh : List GObj) : DR := some (.ret, ⟨[(4, I x5)], [], gh⟩)
theorem qhl_ {x5 : Int} (h : qhl pg x5 gh = some (e, s)) : runL pg q79 ⟨[(5, I x5)], [], gh⟩ = some (e, s) :=
 ji2 q4u (Eq.trans (by kernel_rfl) h)
def qen (pg : Prg) (v0_0 v0_1 : PV) (v0_2 v0_3 v0_4 : PV) (x1 : Int) (gh : List GObj) : DR := onK (degr1 v0_0) (onK (degr1 v0_1) (onK (degr1 v0_2) (onK (degr1 v0_3) (onK (degr1 v0_4) (
  kR (runL pg q78 ⟨[(1, I x1), (2, .ptr false 0 0), (5, I 0), (6, I 0)], [[(degr1 v0_0), (degr1 v0_1), (degr1 v0_2), (degr1 v0_3), (degr1 v0_4)]], gh⟩) (fun e s => nx e s (fun e s => some (e, s)) fun s => kR (runL pg q79 s) (fun e s => some (e, s))))))))
theorem qen_ {v0_0 v0_1 : PV} {v0_2 v0_3 v0_4 : PV} {x1 : Int} (h : qen pg v0_0 v0_1 v0_2 v0_3 v0_4 x1 gh = some (e, s)) : runL pg qbu ⟨[(0, .agg [v0_0, v0_1, v0_2, v0_3, v0_4]), (1, I x1)], [], gh⟩ = some (e, s) :=
 ji2 q4u (Eq.trans (by kernel_rfl) h)
end
end Go.Lw
end

/-! What the code of function ref_hangs comes to, piece by piece. Written by program (dprint.py). -/
section
set_option maxRecDepth 10000
set_option maxHeartbeats 4000000
namespace Go.Lw
open Go
noncomputable section
variable {pg : Prg} {gh : List GObj} {e : IExit} {s : St}
def q1c : Tr := (tI 35 (.node 18 (.agg [.int .i64, .int .i64, .int .i64, .int .i64, .int .i64, .int .i64]) (tO 9 (tI 4 (tO 2 (.node 0 (.agg [.any, .any, .any, .any, .any]) .nil .nil) (uO 3)) (tI 7 (uB 6) .nil)) (tI 13 (tB 11 (uI 10) (uI 12)) (tI 16 (uO 15) .nil))) (tI 28 (tI 24 (tB 21 (uI 20) (uB 22)) (tB 26 (uB 25) .nil)) (tB 31 (tB 30 (uI 29) .nil) (tO 33 (uB 32) .nil)))) (tI 53 (tB 44 (tI 41 (tB 38 (uB 37) (uI 40)) (tB 43 (uB 42) .nil)) (tB 49 (tI 47 (uO 45) .nil) (tI 52 (uB 50) .nil))) (tB 62 (tO 57 (tB 55 (uB 54) (uB 56)) (tB 61 (uI 59) .nil)) (tO 65 (tB 64 (uO 63) .nil) (tO 67 (uO 66) .nil)))))
def qeo (pg : Prg) (v3 : PV) (x4 : Int) (b6 : Bool) (vc0_0 vc0_1 : PV) (vc0_2 vc0_3 vc0_4 : PV) (gh : List GObj) : DR :=
  apX 1 1 v3 (.sl false 1 [B b6]) fun l1 => some (.normal, ⟨[(1, .ptr false 0 0), (3, .sl true 1 l1), (4, I x4)], [[vc0_0, vc0_1, vc0_2, vc0_3, vc0_4]], gh⟩)
theorem qeo_ {v3 : PV} {x4 : Int} {b6 : Bool} {vc0_0 vc0_1 : PV} {vc0_2 vc0_3 vc0_4 : PV} (h : qeo pg v3 x4 b6 vc0_0 vc0_1 vc0_2 vc0_3 vc0_4 gh = some (e, s)) : runL pg q1k ⟨[(1, .ptr false 0 0), (3, v3), (4, I x4), (6, B b6)], [[vc0_0, vc0_1, vc0_2, vc0_3, vc0_4]], gh⟩ = some (e, s) :=
 ji2 q1c (Eq.trans (by kernel_rfl) h)
def q4w (pg : Prg) (v3 : PV) (x4 : Int) (b6 : Bool) (vc0_0 vc0_1 : PV) (vc0_2 vc0_3 vc0_4 : PV) (xc1_0 xc1_1 : Int) (xc1_2 xc1_3 : Int) (xc1_4 xc1_5 : Int) (gh : List GObj) : DR :=
  callR gh true (callL pg 26 [I xc1_0] gh) fun r1 gh2 => unI .i64 r1 fun n3 => stK 2 v3 (
  br 54 (decide (2 < n3)) (
  br 56 b6 (stK 1 v3 (stK 1 v3 (
  kR (runL pg q1k ⟨[(1, .ptr false 0 0), (3, v3), (4, I x4), (6, B true)], [[vc0_0, vc0_1, vc0_2, vc0_3, vc0_4]], gh2⟩) (fun e s => some (e, s))))) (isC (degr v3) (
  idX 1 none (degr (degr v3)) xc1_4 fun p4 =>
  ldX [[vc0_0, vc0_1, vc0_2, vc0_3, vc0_4], [I xc1_0, I xc1_1, I xc1_2, I xc1_3, I xc1_4, I xc1_5]] gh2 false 1 (degr p4) fun v5 => unB v5 fun b7 => stK 1 v3 (stK 1 v3 (
  kR (runL pg q1k ⟨[(1, .ptr false 0 0), (3, v3), (4, I x4), (6, B b7)], [[vc0_0, vc0_1, vc0_2, vc0_3, vc0_4]], gh2⟩) (fun e s => some (e, s))))))) (stK 1 v3 (
  kR (runL pg q1k ⟨[(1, .ptr false 0 0), (3, v3), (4, I x4), (6, B b6)], [[vc0_0, vc0_1, vc0_2, vc0_3, vc0_4]], gh2⟩) (fun e s => some (e, s)))))
theorem q4w_ {v3 : PV} {x4 : Int} {b6 : Bool} {vc0_0 vc0_1 : PV} {vc0_2 vc0_3 vc0_4 : PV} {xc1_0 xc1_1 : Int} {xc1_2 xc1_3 : Int} {xc1_4 xc1_5 : Int} (h : q4w pg v3 x4 b6 vc0_0 vc0_1 vc0_2 vc0_3 vc0_4 xc1_0 xc1_1 xc1_2 xc1_3 xc1_4 xc1_5 gh = some (e, s)) : runL pg q1l ⟨[(1, .ptr false 0 0), (3, v3), (4, I x4), (5, .ptr false 1 0), (6, B b6)], [[vc0_0, vc0_1, vc0_2, vc0_3, vc0_4], [I xc1_0, I xc1_1, I xc1_2, I xc1_3, I xc1_4, I xc1_5]], gh⟩ = some (e, s) :=
 ji2 q1c (Eq.trans (by kernel_rfl) h)
def q4x (pg : Prg) (v3 : PV) (x4 : Int) (b6 : Bool) (vc0_0 vc0_1 : PV) (vc0_2 vc0_3 vc0_4 : PV) (xc1_0 xc1_1 : Int) (xc1_2 xc1_3 : Int) (xc1_4 xc1_5 : Int) (gh : List GObj) : DR :=
  callR gh true (callL pg 26 [I xc1_0] gh) fun r1 gh2 => unI .i64 r1 fun n3 => stK 2 v3 (
  br 42 (decide (1 < n3)) (
  br 44 b6 (stK 2 v3 (stK 2 v3 (
  kR (runL pg q1l ⟨[(1, .ptr false 0 0), (3, v3), (4, I x4), (5, .ptr false 1 0), (6, B true)], [[vc0_0, vc0_1, vc0_2, vc0_3, vc0_4], [I xc1_0, I xc1_1, I xc1_2, I xc1_3, I xc1_4, I xc1_5]], gh2⟩) (fun e s => some (e, s))))) (isC (degr v3) (
  idX 1 none (degr (degr v3)) xc1_3 fun p4 =>
  ldX [[vc0_0, vc0_1, vc0_2, vc0_3, vc0_4], [I xc1_0, I xc1_1, I xc1_2, I xc1_3, I xc1_4, I xc1_5]] gh2 false 1 (degr p4) fun v5 => unB v5 fun b7 => stK 2 v3 (stK 2 v3 (
  kR (runL pg q1l ⟨[(1, .ptr false 0 0), (3, v3), (4, I x4), (5, .ptr false 1 0), (6, B b7)], [[vc0_0, vc0_1, vc0_2, vc0_3, vc0_4], [I xc1_0, I xc1_1, I xc1_2, I xc1_3, I xc1_4, I xc1_5]], gh2⟩) (fun e s => some (e, s))))))) (stK 2 v3 (
  kR (runL pg q1l ⟨[(1, .ptr false 0 0), (3, v3), (4, I x4), (5, .ptr false 1 0), (6, B b6)], [[vc0_0, vc0_1, vc0_2, vc0_3, vc0_4], [I xc1_0, I xc1_1, I xc1_2, I xc1_3, I xc1_4, I xc1_5]], gh2⟩) (fun e s => some (e, s)))))
theorem q4x_ {v3 : PV} {x4 : Int} {b6 : Bool} {vc0_0 vc0_1 : PV} {vc0_2 vc0_3 vc0_4 : PV} {xc1_0 xc1_1 : Int} {xc1_2 xc1_3 : Int} {xc1_4 xc1_5 : Int} (h : q4x pg v3 x4 b6 vc0_0 vc0_1 vc0_2 vc0_3 vc0_4 xc1_0 xc1_1 xc1_2 xc1_3 xc1_4 xc1_5 gh = some (e, s)) : runL pg qw ⟨[(1, .ptr false 0 0), (3, v3), (4, I x4), (5, .ptr false 1 0), (6, B b6)], [[vc0_0, vc0_1, vc0_2, vc0_3, vc0_4], [I xc1_0, I xc1_1, I xc1_2, I xc1_3, I xc1_4, I xc1_5]], gh⟩ = some (e, s) :=
 ji2 q1c (Eq.trans (by kernel_rfl) h)
def qep (pg : Prg) (v3 : PV) (x4 : Int) (vc0_0 vc0_1 : PV) (vc0_2 vc0_3 vc0_4 : PV) (gh : List GObj) : DR := stK 1 v3 (some (.normal, ⟨[(1, .ptr false 0 0), (3, v3), (4, (I (IntKind.i64.wrap (x4 + 1))))], [[vc0_0, vc0_1, vc0_2, vc0_3, vc0_4]], gh⟩))
theorem qep_ {v3 : PV} {x4 : Int} {vc0_0 vc0_1 : PV} {vc0_2 vc0_3 vc0_4 : PV} (h : qep pg v3 x4 vc0_0 vc0_1 vc0_2 vc0_3 vc0_4 gh = some (e, s)) : runL pg qx ⟨[(1, .ptr false 0 0), (3, v3), (4, I x4)], [[vc0_0, vc0_1, vc0_2, vc0_3, vc0_4]], gh⟩ = some (e, s) :=
 ji2 q1c (Eq.trans (by kernel_rfl) h)
def q1d (pg : Prg) (v3 : PV) (x4 : Int) (vc0_0 vc0_1 : PV) (vc0_2 vc0_3 vc0_4 : PV) (gh : List GObj) : DR := isC (degr vc0_0) (lenS (degr (degr vc0_0)) fun n1 => stK 1 v3 (
  br 11 (decide (x4 < (n1 : Int))) (isC (degr vc0_0) (
  idX 6 none (degr (degr vc0_0)) x4 fun p2 =>
  ldX [[vc0_0, vc0_1, vc0_2, vc0_3, vc0_4]] gh true 6 (degr p2) fun v4 => unA 6 v4 fun c5 c6 c7 c8 c9 c10 => unI .i64 c5 fun n11 => unI .i64 c6 fun n12 => unI .i64 c7 fun n13 => unI .i64 c8 fun n14 => unI .i64 c9 fun n15 => unI .i64 c10 fun n16 => stK 2 v3 (
  br 22 (n11 == 2) (stK 2 v3 (
  callR gh true (callL pg 26 [I n11] gh) fun r17 gh18 => unI .i64 r17 fun n19 => stK 2 v3 (
  br 30 (decide (0 < n19)) (stK 2 v3 (stK 2 v3 (
  kR (runL pg qw ⟨[(1, .ptr false 0 0), (3, v3), (4, I x4), (5, .ptr false 1 0), (6, B true)], [[vc0_0, vc0_1, vc0_2, vc0_3, vc0_4], [I n11, I n12, I n13, I n14, I n15, I n16]], gh18⟩) (fun e s => bk 1 e s (fun e s => nx e s (fun e s => po [1, 3, 4] 1 e s (fun e s => some (e, s))) fun s => kR (runL pg qx s) (fun e s => po [1, 3, 4] 1 e s (fun e s => some (e, s)))))))) (stK 2 v3 (
  kR (runL pg qw ⟨[(1, .ptr false 0 0), (3, v3), (4, I x4), (5, .ptr false 1 0), (6, B true)], [[vc0_0, vc0_1, vc0_2, vc0_3, vc0_4], [I n11, I n12, I n13, I n14, I n15, I n16]], gh18⟩) (fun e s => bk 1 e s (fun e s => nx e s (fun e s => po [1, 3, 4] 1 e s (fun e s => some (e, s))) fun s => kR (runL pg qx s) (fun e s => po [1, 3, 4] 1 e s (fun e s => some (e, s)))))))))) (stK 2 v3 (
  callR gh true (callL pg 26 [I n11] gh) fun r20 gh21 => unI .i64 r20 fun n22 => stK 2 v3 (
  br 30 (decide (0 < n22)) (
  br 32 (n11 == 3) (stK 2 v3 (stK 2 v3 (
  kR (runL pg qw ⟨[(1, .ptr false 0 0), (3, v3), (4, I x4), (5, .ptr false 1 0), (6, B true)], [[vc0_0, vc0_1, vc0_2, vc0_3, vc0_4], [I n11, I n12, I n13, I n14, I n15, I n16]], gh21⟩) (fun e s => bk 1 e s (fun e s => nx e s (fun e s => po [1, 3, 4] 1 e s (fun e s => some (e, s))) fun s => kR (runL pg qx s) (fun e s => po [1, 3, 4] 1 e s (fun e s => some (e, s)))))))) (isC (degr v3) (
  idX 1 none (degr (degr v3)) n13 fun p23 =>
  ldX [[vc0_0, vc0_1, vc0_2, vc0_3, vc0_4], [I n11, I n12, I n13, I n14, I n15, I n16]] gh21 false 1 (degr p23) fun v24 => unB v24 fun b25 => stK 2 v3 (stK 2 v3 (
  kR (runL pg qw ⟨[(1, .ptr false 0 0), (3, v3), (4, I x4), (5, .ptr false 1 0), (6, B b25)], [[vc0_0, vc0_1, vc0_2, vc0_3, vc0_4], [I n11, I n12, I n13, I n14, I n15, I n16]], gh21⟩) (fun e s => bk 1 e s (fun e s => nx e s (fun e s => po [1, 3, 4] 1 e s (fun e s => some (e, s))) fun s => kR (runL pg qx s) (fun e s => po [1, 3, 4] 1 e s (fun e s => some (e, s)))))))))) (stK 2 v3 (
  kR (runL pg qw ⟨[(1, .ptr false 0 0), (3, v3), (4, I x4), (5, .ptr false 1 0), (6, (B (n11 == 3)))], [[vc0_0, vc0_1, vc0_2, vc0_3, vc0_4], [I n11, I n12, I n13, I n14, I n15, I n16]], gh21⟩) (fun e s => bk 1 e s (fun e s => nx e s (fun e s => po [1, 3, 4] 1 e s (fun e s => some (e, s))) fun s => kR (runL pg qx s) (fun e s => po [1, 3, 4] 1 e s (fun e s => some (e, s))))))))))))) (some ((.exit 0), ⟨[(1, .ptr false 0 0), (3, v3), (4, I x4), (11, (B (decide (x4 < (n1 : Int)))))], [[vc0_0, vc0_1, vc0_2, vc0_3, vc0_4]], gh⟩))))
theorem q1d_ {v3 : PV} {x4 : Int} {vc0_0 vc0_1 : PV} {vc0_2 vc0_3 vc0_4 : PV} (h : q1d pg v3 x4 vc0_0 vc0_1 vc0_2 vc0_3 vc0_4 gh = some (e, s)) : runL pg qbv ⟨[(1, .ptr false 0 0), (3, v3), (4, I x4)], [[vc0_0, vc0_1, vc0_2, vc0_3, vc0_4]], gh⟩ = some (e, s) :=
 ji2 q1c (Eq.trans (by kernel_rfl) h)
def qeq (pg : Prg) (v3 : PV) (gh : List GObj) : DR := isC (degr v3) (stK 0 (degr v3) (some (.ret, ⟨[(2, (degr v3))], [], gh⟩)))
theorem qeq_ {v3 : PV} (h : qeq pg v3 gh = some (e, s)) : runL pg q7c ⟨[(3, v3)], [], gh⟩ = some (e, s) :=
 ji2 q1c (Eq.trans (by kernel_rfl) h)
def qer (pg : Prg) (v0_0 v0_1 : PV) (v0_2 v0_3 v0_4 : PV) (gh : List GObj) : DR := onK (degr1 v0_0) (onK (degr1 v0_1) (onK (degr1 v0_2) (onK (degr1 v0_3) (onK (degr1 v0_4) (
  kR (runL pg q7b ⟨[(1, .ptr false 0 0), (3, .sl true 1 []), (4, I 0)], [[(degr1 v0_0), (degr1 v0_1), (degr1 v0_2), (degr1 v0_3), (degr1 v0_4)]], gh⟩) (fun e s => nx e s (fun e s => some (e, s)) fun s => kR (runL pg q7c s) (fun e s => some (e, s))))))))
theorem qer_ {v0_0 v0_1 : PV} {v0_2 v0_3 v0_4 : PV} (h : qer pg v0_0 v0_1 v0_2 v0_3 v0_4 gh = some (e, s)) : runL pg qbw ⟨[(0, .agg [v0_0, v0_1, v0_2, v0_3, v0_4])], [], gh⟩ = some (e, s) :=
 ji2 q1c (Eq.trans (by kernel_rfl) h)
end
end Go.Lw
end

/-! What the code of function ref_CheckModel comes to, piece by piece. Written by program (dprint.py). -/
section
set_option maxRecDepth 10000
set_option maxHeartbeats 4000000
namespace Go.Lw
open Go
noncomputable section
variable {pg : Prg} {gh : List GObj} {e : IExit} {s : St}
def q7 : Tr := (tO 97 (tI 48 (tI 24 (tI 12 (tI 6 (tI 3 (tI 2 (.node 0 (.agg [.any, .any, .any, .any, .any]) .nil .nil) .nil) (tO 5 (uI 4) .nil)) (tI 10 (tI 8 (uO 7) .nil) (uO 11))) (tO 18 (tI 15 (tO 14 (uI 13) .nil) (uI 16)) (tB 21 (tB 20 (uI 19) .nil) (uO 23)))) (tB 37 (tB 31 (tB 27 (tB 26 (uB 25) .nil) (tI 30 (uO 29) .nil)) (tO 35 (tI 33 (uB 32) .nil) (uI 36))) (tI 43 (tO 41 (tI 39 (uI 38) .nil) (uI 42)) (tI 46 (tB 45 (uI 44) .nil) (.node 47 (.agg [.any, .any, .any, .any, .any]) .nil .nil))))) (tI 71 (tI 59 (tB 54 (.node 51 (.agg [.any, .any, .any, .any, .any]) (tB 50 (uB 49) .nil) (tB 53 (uI 52) .nil)) (tI 57 (tO 56 (.node 55 (.agg [.any, .any, .any, .any, .any]) .nil .nil) .nil) (uB 58))) (tO 66 (tI 63 (tO 62 (uI 60) .nil) (uB 64)) (tI 69 (tO 68 (uI 67) .nil) (uB 70)))) (tB 84 (tI 78 (tI 74 (tO 73 (uI 72) .nil) (.node 76 (.agg [.int .i64, .int .i64]) .nil .nil)) (tI 82 (tI 81 (uO 80) .nil) (uB 83))) (tI 91 (tO 89 (tI 87 (uB 85) .nil) (uI 90)) (tB 94 (tB 93 (uB 92) .nil) (uB 95)))))) (tO 155 (tI 131 (tB 119 (tI 108 (tB 103 (tI 102 (uI 99) .nil) (tO 106 (uB 104) .nil)) (tI 115 (tO 113 (uI 111) .nil) (uI 118))) (tI 125 (tB 122 (tB 121 (uI 120) .nil) (uO 123)) (tI 129 (tB 128 (uB 127) .nil) (uB 130)))) (tI 143 (tO 138 (tI 135 (tO 134 (uI 132) .nil) (uB 136)) (tI 141 (tO 140 (uI 139) .nil) (uB 142))) (tI 148 (tI 146 (tI 145 (uI 144) .nil) (uB 147)) (tI 151 (tO 150 (uI 149) .nil) (uI 154))))) (tO 181 (tO 170 (.node 164 (.agg [.any, .any, .any, .any, .any]) (tB 160 (tI 159 (uI 156) .nil) (tI 163 (uO 162) .nil)) (tB 167 (tI 166 (uO 165) .nil) (uO 168))) (tO 176 (tO 174 (tO 173 (uO 171) .nil) (uI 175)) (tI 179 (tB 178 (uI 177) .nil) (uI 180)))) (tI 193 (tI 188 (tO 186 (tI 184 (uI 182) .nil) (uI 187)) (tI 191 (tB 190 (uB 189) .nil) (uO 192))) (tO 199 (tI 196 (tI 195 (uB 194) .nil) (uO 198)) (tI 205 (tI 202 (uI 200) .nil) (uB 206)))))))
def q4y (pg : Prg) (x3 : Int) (vc0_0 vc0_1 : PV) (vc0_2 vc0_3 vc0_4 : PV) (gh : List GObj) : DR := isC (degr vc0_0) (lenS (degr (degr vc0_0)) fun n1 =>
  br 37 (decide (x3 < (n1 : Int))) (isC (degr vc0_0) (arK (degr (degr vc0_0)) (
  callR gh true (callL pg 72 [(degr (degr vc0_0)), I x3] gh) fun r2 gh3 => unI .i64 r2 fun n4 =>
  br 45 (n4 != 0) (some (.ret, ⟨[(2, I n4)], [], gh3⟩)) (some (.normal, ⟨[(1, .ptr false 0 0), (3, (I (IntKind.i64.wrap (x3 + 1))))], [[vc0_0, vc0_1, vc0_2, vc0_3, vc0_4]], gh3⟩))))) (some ((.exit 0), ⟨[(1, .ptr false 0 0), (3, I x3), (37, (B (decide (x3 < (n1 : Int)))))], [[vc0_0, vc0_1, vc0_2, vc0_3, vc0_4]], gh⟩)))
theorem q4y_ {x3 : Int} {vc0_0 vc0_1 : PV} {vc0_2 vc0_3 vc0_4 : PV} (h : q4y pg x3 vc0_0 vc0_1 vc0_2 vc0_3 vc0_4 gh = some (e, s)) : runL pg qb9 ⟨[(1, .ptr false 0 0), (3, I x3)], [[vc0_0, vc0_1, vc0_2, vc0_3, vc0_4]], gh⟩ = some (e, s) :=
 ji2 q7 (Eq.trans (by kernel_rfl) h)
def qu (pg : Prg) (v5 : PV) (x6 : Int) (v7 : PV) (x8 : Int) (vc0_0 vc0_1 : PV) (vc0_2 vc0_3 vc0_4 : PV) (gh : List GObj) : DR := isC (degr v7) (lenS (degr (degr v7)) fun n1 => stK 1 v5 (stK 1 v7 (
  br 70 (decide (x8 < (n1 : Int))) (isC (degr v7) (
  idX 2 none (degr (degr v7)) x8 fun p2 =>
  ldX [[vc0_0, vc0_1, vc0_2, vc0_3, vc0_4]] gh true 2 (degr p2) fun v3 => unA 2 v3 fun c4 c5 => unI .i64 c4 fun n6 => unI .i64 c5 fun n7 => stK 2 v5 (stK 2 v7 (isC (degr vc0_0) (lenS (degr (degr vc0_0)) fun n8 =>
  callR gh true (callL pg 50 [I n6, I 0, (I (IntKind.i64.wrap ((n8 : Int) - 1)))] gh) fun r9 gh10 => unB r9 fun b11 =>
  br 85 (!b11) (stK 2 v5 (stK 2 v7 (some (.ret, ⟨[(2, I 5)], [], gh10⟩)))) (isC (degr vc0_0) (lenS (degr (degr vc0_0)) fun n12 =>
  callR gh10 true (callL pg 50 [I n7, I 0, (I (IntKind.i64.wrap ((n12 : Int) - 1)))] gh10) fun r13 gh14 => unB r13 fun b15 =>
  br 95 (!b15) (stK 2 v5 (stK 2 v7 (some (.ret, ⟨[(2, I 5)], [], gh14⟩)))) (isC (degr vc0_0) (
  idX 6 none (degr (degr vc0_0)) n6 fun p16 => faX (degr p16) 0 fun p17 =>
  ldX [[vc0_0, vc0_1, vc0_2, vc0_3, vc0_4], [I n6, I n7]] gh14 false 1 (degr p17) fun v18 => unI .i64 v18 fun n19 => stK 2 v5 (stK 2 v7 (
  br 104 (n19 != 3) (some (.ret, ⟨[(2, I 5)], [], gh14⟩)) (isC (degr vc0_0) (
  idX 6 none (degr (degr vc0_0)) n6 fun p20 => faX (degr p20) 1 fun p21 =>
  ldX [[vc0_0, vc0_1, vc0_2, vc0_3, vc0_4], [I n6, I n7]] gh14 false 1 (degr p21) fun v22 => unI .i64 v22 fun n23 => isC (degr vc0_0) (
  idX 6 none (degr (degr vc0_0)) n7 fun p24 => faX (degr p24) 1 fun p25 =>
  ldX [[vc0_0, vc0_1, vc0_2, vc0_3, vc0_4], [I n6, I n7]] gh14 false 1 (degr p25) fun v26 => unI .i64 v26 fun n27 => stK 2 v5 (stK 2 v7 (
  br 119 (n23 != n27) (some (.ret, ⟨[(2, I 1)], [], gh14⟩)) (
  br 122 (x6 == 0) (isC (degr v5) (
  idX 1 none (degr (degr v5)) n7 fun p28 =>
  ldX [[vc0_0, vc0_1, vc0_2, vc0_3, vc0_4], [I n6, I n7]] gh14 false 1 (degr p28) fun v29 => unB v29 fun b30 => stK 1 v5 (stK 1 v7 (
  br 128 b30 (some (.ret, ⟨[(2, I 4)], [], gh14⟩)) (stK 1 v5 (stK 1 v7 (stK 1 v5 (stK 1 v7 (some (.normal, ⟨[(1, .ptr false 0 0), (5, v5), (6, I x6), (7, v7), (8, (I (IntKind.i64.wrap (x8 + 1))))], [[vc0_0, vc0_1, vc0_2, vc0_3, vc0_4]], gh14⟩)))))))))) (stK 1 v5 (stK 1 v7 (stK 1 v5 (stK 1 v7 (stK 1 v5 (stK 1 v7 (some (.normal, ⟨[(1, .ptr false 0 0), (5, v5), (6, I x6), (7, v7), (8, (I (IntKind.i64.wrap (x8 + 1))))], [[vc0_0, vc0_1, vc0_2, vc0_3, vc0_4]], gh14⟩))))))))))))))))))))))))) (some ((.exit 4), ⟨[(1, .ptr false 0 0), (5, v5), (6, I x6), (7, v7), (8, I x8), (70, (B (decide (x8 < (n1 : Int)))))], [[vc0_0, vc0_1, vc0_2, vc0_3, vc0_4]], gh⟩)))))
theorem qu_ {v5 : PV} {x6 : Int} {v7 : PV} {x8 : Int} {vc0_0 vc0_1 : PV} {vc0_2 vc0_3 vc0_4 : PV} (h : qu pg v5 x6 v7 x8 vc0_0 vc0_1 vc0_2 vc0_3 vc0_4 gh = some (e, s)) : runL pg qba ⟨[(1, .ptr false 0 0), (5, v5), (6, I x6), (7, v7), (8, I x8)], [[vc0_0, vc0_1, vc0_2, vc0_3, vc0_4]], gh⟩ = some (e, s) :=
 ji2 q7 (Eq.trans (by kernel_rfl) h)
def qes (pg : Prg) (v5 : PV) (x6 : Int) (v7 vc0_0 : PV) (vc0_1 vc0_2 : PV) (vc0_3 vc0_4 : PV) (gh : List GObj) : DR := stK 1 v5 (stK 1 v7 (
  kR (runL pg q26 ⟨[(1, .ptr false 0 0), (5, v5), (6, I x6), (7, v7), (8, I 0)], [[vc0_0, vc0_1, vc0_2, vc0_3, vc0_4]], gh⟩) (fun e s => some (e, s))))
theorem qes_ {v5 : PV} {x6 : Int} {v7 vc0_0 : PV} {vc0_1 vc0_2 : PV} {vc0_3 vc0_4 : PV} (h : qes pg v5 x6 v7 vc0_0 vc0_1 vc0_2 vc0_3 vc0_4 gh = some (e, s)) : runL pg q27 ⟨[(1, .ptr false 0 0), (5, v5), (6, I x6), (7, v7)], [[vc0_0, vc0_1, vc0_2, vc0_3, vc0_4]], gh⟩ = some (e, s) :=
 ji2 q7 (Eq.trans (by kernel_rfl) h)
def qet (pg : Prg) (v5 : PV) (x6 : Int) (vc0_0 vc0_1 : PV) (vc0_2 vc0_3 vc0_4 : PV) (gh : List GObj) : DR := stK 1 v5 (some (.normal, ⟨[(1, .ptr false 0 0), (5, v5), (6, (I (IntKind.i64.wrap (x6 + 1))))], [[vc0_0, vc0_1, vc0_2, vc0_3, vc0_4]], gh⟩))
theorem qet_ {v5 : PV} {x6 : Int} {vc0_0 vc0_1 : PV} {vc0_2 vc0_3 vc0_4 : PV} (h : qet pg v5 x6 vc0_0 vc0_1 vc0_2 vc0_3 vc0_4 gh = some (e, s)) : runL pg q28 ⟨[(1, .ptr false 0 0), (5, v5), (6, I x6)], [[vc0_0, vc0_1, vc0_2, vc0_3, vc0_4]], gh⟩ = some (e, s) :=
 ji2 q7 (Eq.trans (by kernel_rfl) h)
def q1s (pg : Prg) (v5 : PV) (x6 : Int) (vc0_0 vc0_1 : PV) (vc0_2 vc0_3 vc0_4 : PV) (gh : List GObj) : DR := stK 1 v5 (
  br 58 (decide (x6 < 2)) (isC (degr vc0_1) (stK 1 v5 (stK 1 (degr vc0_1) (stK 1 v5 (stK 1 (degr vc0_1) (
  br 64 (x6 == 1) (isC (degr vc0_2) (stK 1 v5 (stK 1 (degr vc0_2) (stK 1 v5 (stK 1 (degr vc0_2) (
  kR (runL pg q27 ⟨[(1, .ptr false 0 0), (5, v5), (6, I x6), (7, (degr vc0_2))], [[vc0_0, vc0_1, vc0_2, vc0_3, vc0_4]], gh⟩) (fun e s => bk 3 e s (fun e s => nx e s (fun e s => po [1, 5, 6] 1 e s (fun e s => some (e, s))) fun s => kR (runL pg q28 s) (fun e s => po [1, 5, 6] 1 e s (fun e s => some (e, s))))))))))) (stK 1 v5 (stK 1 (degr vc0_1) (
  kR (runL pg q27 ⟨[(1, .ptr false 0 0), (5, v5), (6, I x6), (7, (degr vc0_1))], [[vc0_0, vc0_1, vc0_2, vc0_3, vc0_4]], gh⟩) (fun e s => bk 3 e s (fun e s => nx e s (fun e s => po [1, 5, 6] 1 e s (fun e s => some (e, s))) fun s => kR (runL pg q28 s) (fun e s => po [1, 5, 6] 1 e s (fun e s => some (e, s)))))))))))))) (some ((.exit 2), ⟨[(1, .ptr false 0 0), (5, v5), (6, I x6), (58, (B (decide (x6 < 2))))], [[vc0_0, vc0_1, vc0_2, vc0_3, vc0_4]], gh⟩)))
theorem q1s_ {v5 : PV} {x6 : Int} {vc0_0 vc0_1 : PV} {vc0_2 vc0_3 vc0_4 : PV} (h : q1s pg v5 x6 vc0_0 vc0_1 vc0_2 vc0_3 vc0_4 gh = some (e, s)) : runL pg qbb ⟨[(1, .ptr false 0 0), (5, v5), (6, I x6)], [[vc0_0, vc0_1, vc0_2, vc0_3, vc0_4]], gh⟩ = some (e, s) :=
 ji2 q7 (Eq.trans (by kernel_rfl) h)
def q4z (pg : Prg) (x10 : Int) (v11 : PV) (x12 x13 : Int) (vc0_0 vc0_1 : PV) (vc0_2 vc0_3 vc0_4 : PV) (gh : List GObj) : DR := stK 1 v11 (
  br 147 (decide (x13 < x12)) (isC (degr v11) (
  idX 2 none (degr (degr v11)) x12 fun p1 => faX (degr p1) 0 fun p2 =>
  ldX [[vc0_0, vc0_1, vc0_2, vc0_3, vc0_4]] gh false 1 (degr p2) fun v3 => unI .i64 v3 fun n4 => isC (degr v11) (
  idX 2 none (degr (degr v11)) x13 fun p5 => faX (degr p5) 0 fun p6 =>
  ldX [[vc0_0, vc0_1, vc0_2, vc0_3, vc0_4]] gh false 1 (degr p6) fun v7 => unI .i64 v7 fun n8 => stK 1 v11 (
  br 160 (n4 == n8) (some (.ret, ⟨[(2, I 6)], [], gh⟩)) (stK 1 v11 (stK 1 v11 (some (.normal, ⟨[(1, .ptr false 0 0), (10, I x10), (11, v11), (12, I x12), (13, (I (IntKind.i64.wrap (x13 + 1))))], [[vc0_0, vc0_1, vc0_2, vc0_3, vc0_4]], gh⟩)))))))) (some ((.exit 10), ⟨[(1, .ptr false 0 0), (10, I x10), (11, v11), (12, I x12), (13, I x13), (147, (B (decide (x13 < x12))))], [[vc0_0, vc0_1, vc0_2, vc0_3, vc0_4]], gh⟩)))
theorem q4z_ {x10 : Int} {v11 : PV} {x12 x13 : Int} {vc0_0 vc0_1 : PV} {vc0_2 vc0_3 vc0_4 : PV} (h : q4z pg x10 v11 x12 x13 vc0_0 vc0_1 vc0_2 vc0_3 vc0_4 gh = some (e, s)) : runL pg qbc ⟨[(1, .ptr false 0 0), (10, I x10), (11, v11), (12, I x12), (13, I x13)], [[vc0_0, vc0_1, vc0_2, vc0_3, vc0_4]], gh⟩ = some (e, s) :=
 ji2 q7 (Eq.trans (by kernel_rfl) h)
def qeu (pg : Prg) (x10 : Int) (v11 : PV) (x12 : Int) (vc0_0 vc0_1 : PV) (vc0_2 vc0_3 vc0_4 : PV) (gh : List GObj) : DR := stK 1 v11 (some (.normal, ⟨[(1, .ptr false 0 0), (10, I x10), (11, v11), (12, (I (IntKind.i64.wrap (x12 + 1))))], [[vc0_0, vc0_1, vc0_2, vc0_3, vc0_4]], gh⟩))
theorem qeu_ {x10 : Int} {v11 : PV} {x12 : Int} {vc0_0 vc0_1 : PV} {vc0_2 vc0_3 vc0_4 : PV} (h : qeu pg x10 v11 x12 vc0_0 vc0_1 vc0_2 vc0_3 vc0_4 gh = some (e, s)) : runL pg q3w ⟨[(1, .ptr false 0 0), (10, I x10), (11, v11), (12, I x12)], [[vc0_0, vc0_1, vc0_2, vc0_3, vc0_4]], gh⟩ = some (e, s) :=
 ji2 q7 (Eq.trans (by kernel_rfl) h)
def q50 (pg : Prg) (x10 : Int) (v11 : PV) (x12 : Int) (vc0_0 vc0_1 : PV) (vc0_2 vc0_3 vc0_4 : PV) (gh : List GObj) : DR := isC (degr v11) (lenS (degr (degr v11)) fun n1 => stK 1 v11 (
  br 142 (decide (x12 < (n1 : Int))) (stK 1 v11 (
  kR (runL pg q6u ⟨[(1, .ptr false 0 0), (10, I x10), (11, v11), (12, I x12), (13, I 0)], [[vc0_0, vc0_1, vc0_2, vc0_3, vc0_4]], gh⟩) (fun e s => bk 9 e s (fun e s => nx e s (fun e s => po [1, 10, 11, 12] 1 e s (fun e s => some (e, s))) fun s => kR (runL pg q3w s) (fun e s => po [1, 10, 11, 12] 1 e s (fun e s => some (e, s))))))) (some ((.exit 8), ⟨[(1, .ptr false 0 0), (10, I x10), (11, v11), (12, I x12), (142, (B (decide (x12 < (n1 : Int)))))], [[vc0_0, vc0_1, vc0_2, vc0_3, vc0_4]], gh⟩))))
theorem q50_ {x10 : Int} {v11 : PV} {x12 : Int} {vc0_0 vc0_1 : PV} {vc0_2 vc0_3 vc0_4 : PV} (h : q50 pg x10 v11 x12 vc0_0 vc0_1 vc0_2 vc0_3 vc0_4 gh = some (e, s)) : runL pg qbd ⟨[(1, .ptr false 0 0), (10, I x10), (11, v11), (12, I x12)], [[vc0_0, vc0_1, vc0_2, vc0_3, vc0_4]], gh⟩ = some (e, s) :=
 ji2 q7 (Eq.trans (by kernel_rfl) h)
def qev (pg : Prg) (x10 : Int) (v11 vc0_0 : PV) (vc0_1 vc0_2 : PV) (vc0_3 vc0_4 : PV) (gh : List GObj) : DR := stK 1 v11 (
  kR (runL pg q3x ⟨[(1, .ptr false 0 0), (10, I x10), (11, v11), (12, I 0)], [[vc0_0, vc0_1, vc0_2, vc0_3, vc0_4]], gh⟩) (fun e s => some (e, s)))
theorem qev_ {x10 : Int} {v11 vc0_0 : PV} {vc0_1 vc0_2 : PV} {vc0_3 vc0_4 : PV} (h : qev pg x10 v11 vc0_0 vc0_1 vc0_2 vc0_3 vc0_4 gh = some (e, s)) : runL pg q29 ⟨[(1, .ptr false 0 0), (10, I x10), (11, v11)], [[vc0_0, vc0_1, vc0_2, vc0_3, vc0_4]], gh⟩ = some (e, s) :=
 ji2 q7 (Eq.trans (by kernel_rfl) h)
def qew (pg : Prg) (x10 : Int) (vc0_0 vc0_1 : PV) (vc0_2 vc0_3 vc0_4 : PV) (gh : List GObj) : DR := some (.normal, ⟨[(1, .ptr false 0 0), (10, (I (IntKind.i64.wrap (x10 + 1))))], [[vc0_0, vc0_1, vc0_2, vc0_3, vc0_4]], gh⟩)
theorem qew_ {x10 : Int} {vc0_0 vc0_1 : PV} {vc0_2 vc0_3 vc0_4 : PV} (h : qew pg x10 vc0_0 vc0_1 vc0_2 vc0_3 vc0_4 gh = some (e, s)) : runL pg q2a ⟨[(1, .ptr false 0 0), (10, I x10)], [[vc0_0, vc0_1, vc0_2, vc0_3, vc0_4]], gh⟩ = some (e, s) :=
 ji2 q7 (Eq.trans (by kernel_rfl) h)
def q1t (pg : Prg) (x10 : Int) (vc0_0 vc0_1 : PV) (vc0_2 vc0_3 vc0_4 : PV) (gh : List GObj) : DR :=
  br 130 (decide (x10 < 2)) (isC (degr vc0_1) (stK 1 (degr vc0_1) (stK 1 (degr vc0_1) (
  br 136 (x10 == 1) (isC (degr vc0_2) (stK 1 (degr vc0_2) (stK 1 (degr vc0_2) (
  kR (runL pg q29 ⟨[(1, .ptr false 0 0), (10, I x10), (11, (degr vc0_2))], [[vc0_0, vc0_1, vc0_2, vc0_3, vc0_4]], gh⟩) (fun e s => bk 7 e s (fun e s => nx e s (fun e s => po [1, 10] 1 e s (fun e s => some (e, s))) fun s => kR (runL pg q2a s) (fun e s => po [1, 10] 1 e s (fun e s => some (e, s))))))))) (stK 1 (degr vc0_1) (
  kR (runL pg q29 ⟨[(1, .ptr false 0 0), (10, I x10), (11, (degr vc0_1))], [[vc0_0, vc0_1, vc0_2, vc0_3, vc0_4]], gh⟩) (fun e s => bk 7 e s (fun e s => nx e s (fun e s => po [1, 10] 1 e s (fun e s => some (e, s))) fun s => kR (runL pg q2a s) (fun e s => po [1, 10] 1 e s (fun e s => some (e, s))))))))))) (some ((.exit 6), ⟨[(1, .ptr false 0 0), (10, I x10), (130, (B (decide (x10 < 2))))], [[vc0_0, vc0_1, vc0_2, vc0_3, vc0_4]], gh⟩))
theorem q1t_ {x10 : Int} {vc0_0 vc0_1 : PV} {vc0_2 vc0_3 vc0_4 : PV} (h : q1t pg x10 vc0_0 vc0_1 vc0_2 vc0_3 vc0_4 gh = some (e, s)) : runL pg qbe ⟨[(1, .ptr false 0 0), (10, I x10)], [[vc0_0, vc0_1, vc0_2, vc0_3, vc0_4]], gh⟩ = some (e, s) :=
 ji2 q7 (Eq.trans (by kernel_rfl) h)
def q51 (pg : Prg) (v14 : PV) (x15 : Int) (vc0_0 vc0_1 : PV) (vc0_2 vc0_3 vc0_4 : PV) (gh : List GObj) : DR := isC (degr v14) (lenS (degr (degr v14)) fun n1 => stK 1 v14 (
  br 178 (decide (x15 < (n1 : Int))) (isC (degr v14) (
  idX 1 none (degr (degr v14)) x15 fun p2 =>
  ldX [[vc0_0, vc0_1, vc0_2, vc0_3, vc0_4]] gh false 1 (degr p2) fun v3 => unI .i64 v3 fun n4 => isC (degr vc0_0) (lenS (degr (degr vc0_0)) fun n5 =>
  callR gh true (callL pg 50 [I n4, I 0, (I (IntKind.i64.wrap ((n5 : Int) - 1)))] gh) fun r6 gh7 => unB r6 fun b8 => stK 1 v14 (
  br 190 (!b8) (some (.ret, ⟨[(2, I 5)], [], gh7⟩)) (stK 1 v14 (stK 1 v14 (some (.normal, ⟨[(1, .ptr false 0 0), (14, v14), (15, (I (IntKind.i64.wrap (x15 + 1))))], [[vc0_0, vc0_1, vc0_2, vc0_3, vc0_4]], gh7⟩)))))))) (some ((.exit 12), ⟨[(1, .ptr false 0 0), (14, v14), (15, I x15), (178, (B (decide (x15 < (n1 : Int)))))], [[vc0_0, vc0_1, vc0_2, vc0_3, vc0_4]], gh⟩))))
theorem q51_ {v14 : PV} {x15 : Int} {vc0_0 vc0_1 : PV} {vc0_2 vc0_3 vc0_4 : PV} (h : q51 pg v14 x15 vc0_0 vc0_1 vc0_2 vc0_3 vc0_4 gh = some (e, s)) : runL pg qbf ⟨[(1, .ptr false 0 0), (14, v14), (15, I x15)], [[vc0_0, vc0_1, vc0_2, vc0_3, vc0_4]], gh⟩ = some (e, s) :=
 ji2 q7 (Eq.trans (by kernel_rfl) h)
def q52 (pg : Prg) (v14 : PV) (x16 : Int) (vc0_0 vc0_1 : PV) (vc0_2 vc0_3 vc0_4 : PV) (gh : List GObj) : DR := isC (degr v14) (lenS (degr (degr v14)) fun n1 => stK 1 v14 (
  br 194 (decide (x16 < (n1 : Int))) (isC (degr vc0_0) (isC (degr v14) (
  idX 1 none (degr (degr v14)) x16 fun p2 =>
  ldX [[vc0_0, vc0_1, vc0_2, vc0_3, vc0_4]] gh false 1 (degr p2) fun v3 => unI .i64 v3 fun n4 =>
  idX 6 none (degr (degr vc0_0)) n4 fun p5 => faX (degr p5) 1 fun p6 =>
  ldX [[vc0_0, vc0_1, vc0_2, vc0_3, vc0_4]] gh false 1 (degr p6) fun v7 => unI .i64 v7 fun n8 => stK 1 v14 (
  br 206 (n8 != 1) (some (.ret, ⟨[(2, I 1)], [], gh⟩)) (stK 1 v14 (stK 1 v14 (some (.normal, ⟨[(1, .ptr false 0 0), (14, v14), (16, (I (IntKind.i64.wrap (x16 + 1))))], [[vc0_0, vc0_1, vc0_2, vc0_3, vc0_4]], gh⟩)))))))) (some ((.exit 14), ⟨[(1, .ptr false 0 0), (14, v14), (16, I x16), (194, (B (decide (x16 < (n1 : Int)))))], [[vc0_0, vc0_1, vc0_2, vc0_3, vc0_4]], gh⟩))))
theorem q52_ {v14 : PV} {x16 : Int} {vc0_0 vc0_1 : PV} {vc0_2 vc0_3 vc0_4 : PV} (h : q52 pg v14 x16 vc0_0 vc0_1 vc0_2 vc0_3 vc0_4 gh = some (e, s)) : runL pg qbg ⟨[(1, .ptr false 0 0), (14, v14), (16, I x16)], [[vc0_0, vc0_1, vc0_2, vc0_3, vc0_4]], gh⟩ = some (e, s) :=
 ji2 q7 (Eq.trans (by kernel_rfl) h)
def qhm (pg : Prg)  (gh : List GObj) : DR := some (.ret, ⟨[(2, I 0)], [], gh⟩)
theorem qhm_  (h : qhm pg  gh = some (e, s)) : runL pg q6x ⟨[], [], gh⟩ = some (e, s) :=
 ji2 q7 (Eq.trans (by kernel_rfl) h)
def q94 (pg : Prg) (v14 vc0_0 : PV) (vc0_1 vc0_2 : PV) (vc0_3 vc0_4 : PV) (gh : List GObj) : DR := stK 1 v14 (
  kR (runL pg q2b ⟨[(1, .ptr false 0 0), (14, v14), (16, I 0)], [[vc0_0, vc0_1, vc0_2, vc0_3, vc0_4]], gh⟩) (fun e s => nx e s (fun e s => some (e, s)) fun s => kR (runL pg q6x s) (fun e s => some (e, s))))
theorem q94_ {v14 vc0_0 : PV} {vc0_1 vc0_2 : PV} {vc0_3 vc0_4 : PV} (h : q94 pg v14 vc0_0 vc0_1 vc0_2 vc0_3 vc0_4 gh = some (e, s)) : runL pg q2c ⟨[(1, .ptr false 0 0), (14, v14)], [[vc0_0, vc0_1, vc0_2, vc0_3, vc0_4]], gh⟩ = some (e, s) :=
 ji2 q7 (Eq.trans (by kernel_rfl) h)
def q36 (pg : Prg) (vc0_0 vc0_1 : PV) (vc0_2 vc0_3 vc0_4 : PV) (gh : List GObj) : DR := isC (degr vc0_2) (lenS (degr (degr vc0_2)) fun n1 => onK (degr1 (degr1 vc0_0)) (onK (degr1 (degr1 vc0_1)) (onK (degr1 (degr1 vc0_2)) (onK (degr1 (degr1 vc0_3)) (onK (degr1 (degr1 vc0_4)) (
  callR gh true (callL pg 39 [(.agg [(degr1 (degr1 vc0_0)), (degr1 (degr1 vc0_1)), (degr1 (degr1 vc0_2)), (degr1 (degr1 vc0_3)), (degr1 (degr1 vc0_4))]), I 3] gh) fun r2 gh3 => isC r2 (lenS (degr r2) fun n4 =>
  br 167 ((n1 : Int) != (n4 : Int)) (some (.ret, ⟨[(2, I 5)], [], gh3⟩)) (isC (degr vc0_3) (
  apX 1 8 (.sl true 1 []) (degr (degr vc0_3)) fun l5 => isC (degr vc0_4) (
  apX 1 8 (.sl true 1 l5) (degr (degr vc0_4)) fun l6 =>
  kR (runL pg q6w ⟨[(1, .ptr false 0 0), (14, .sl true 1 l6), (15, I 0)], [[vc0_0, vc0_1, vc0_2, vc0_3, vc0_4]], gh3⟩) (fun e s => nx e s (fun e s => some (e, s)) fun s => kR (runL pg q2c s) (fun e s => some (e, s)))))))))))))
theorem q36_ {vc0_0 vc0_1 : PV} {vc0_2 vc0_3 vc0_4 : PV} (h : q36 pg vc0_0 vc0_1 vc0_2 vc0_3 vc0_4 gh = some (e, s)) : runL pg q3y ⟨[(1, .ptr false 0 0)], [[vc0_0, vc0_1, vc0_2, vc0_3, vc0_4]], gh⟩ = some (e, s) :=
 ji2 q7 (Eq.trans (by kernel_rfl) h)
def q95 (pg : Prg) (vc0_0 vc0_1 : PV) (vc0_2 vc0_3 vc0_4 : PV) (gh : List GObj) : DR :=
  kR (runL pg q6v ⟨[(1, .ptr false 0 0), (10, I 0)], [[vc0_0, vc0_1, vc0_2, vc0_3, vc0_4]], gh⟩) (fun e s => nx e s (fun e s => some (e, s)) fun s => kR (runL pg q3y s) (fun e s => some (e, s)))
theorem q95_ {vc0_0 vc0_1 : PV} {vc0_2 vc0_3 vc0_4 : PV} (h : q95 pg vc0_0 vc0_1 vc0_2 vc0_3 vc0_4 gh = some (e, s)) : runL pg q2d ⟨[(1, .ptr false 0 0)], [[vc0_0, vc0_1, vc0_2, vc0_3, vc0_4]], gh⟩ = some (e, s) :=
 ji2 q7 (Eq.trans (by kernel_rfl) h)
def q1e (pg : Prg) (vc0_0 vc0_1 : PV) (vc0_2 vc0_3 vc0_4 : PV) (gh : List GObj) : DR := onK (degr1 (degr1 vc0_0)) (onK (degr1 (degr1 vc0_1)) (onK (degr1 (degr1 vc0_2)) (onK (degr1 (degr1 vc0_3)) (onK (degr1 (degr1 vc0_4)) (
  callR gh true (callL pg 73 [(.agg [(degr1 (degr1 vc0_0)), (degr1 (degr1 vc0_1)), (degr1 (degr1 vc0_2)), (degr1 (degr1 vc0_3)), (degr1 (degr1 vc0_4))]), I 2] gh) fun r1 gh2 => unI .i64 r1 fun n3 =>
  br 50 (decide (6 < n3)) (some (.ret, ⟨[(2, I 2)], [], gh2⟩)) (onK (degr1 (degr1 vc0_0)) (onK (degr1 (degr1 vc0_1)) (onK (degr1 (degr1 vc0_2)) (onK (degr1 (degr1 vc0_3)) (onK (degr1 (degr1 vc0_4)) (
  callR gh2 true (callL pg 73 [(.agg [(degr1 (degr1 vc0_0)), (degr1 (degr1 vc0_1)), (degr1 (degr1 vc0_2)), (degr1 (degr1 vc0_3)), (degr1 (degr1 vc0_4))]), I 3] gh2) fun r4 gh5 => unI .i64 r4 fun n6 =>
  br 54 (decide (10 < n6)) (some (.ret, ⟨[(2, I 2)], [], gh5⟩)) (onK (degr1 (degr1 vc0_0)) (onK (degr1 (degr1 vc0_1)) (onK (degr1 (degr1 vc0_2)) (onK (degr1 (degr1 vc0_3)) (onK (degr1 (degr1 vc0_4)) (
  callR gh5 true (callL pg 74 [(.agg [(degr1 (degr1 vc0_0)), (degr1 (degr1 vc0_1)), (degr1 (degr1 vc0_2)), (degr1 (degr1 vc0_3)), (degr1 (degr1 vc0_4))])] gh5) fun r7 gh8 => isC r7 (stK 1 r7 (stK 1 r7 (
  kR (runL pg q6t ⟨[(1, .ptr false 0 0), (5, r7), (6, I 0)], [[vc0_0, vc0_1, vc0_2, vc0_3, vc0_4]], gh8⟩) (fun e s => nx e s (fun e s => some (e, s)) fun s => kR (runL pg q2d s) (fun e s => some (e, s)))))))))))))))))))))))
theorem q1e_ {vc0_0 vc0_1 : PV} {vc0_2 vc0_3 vc0_4 : PV} (h : q1e pg vc0_0 vc0_1 vc0_2 vc0_3 vc0_4 gh = some (e, s)) : runL pg q2e ⟨[(1, .ptr false 0 0)], [[vc0_0, vc0_1, vc0_2, vc0_3, vc0_4]], gh⟩ = some (e, s) :=
 ji2 q7 (Eq.trans (by kernel_rfl) h)
def q1f (pg : Prg) (v0_0 v0_1 : PV) (v0_2 v0_3 v0_4 : PV) (gh : List GObj) : DR := onK (degr1 v0_0) (onK (degr1 v0_1) (onK (degr1 v0_2) (onK (degr1 v0_3) (onK (degr1 v0_4) (isC (degr (degr1 v0_0)) (lenS (degr (degr (degr1 v0_0))) fun n1 =>
  br 21 (decide (80 < (n1 : Int))) (some (.ret, ⟨[(2, I 2)], [], gh⟩)) (isC (degr (degr1 v0_3)) (lenS (degr (degr (degr1 v0_3))) fun n2 =>
  br 27 (decide (8 < (n2 : Int))) (some (.ret, ⟨[(2, I 2)], [], gh⟩)) (isC (degr (degr1 v0_4)) (lenS (degr (degr (degr1 v0_4))) fun n3 =>
  br 32 (decide (8 < (n3 : Int))) (some (.ret, ⟨[(2, I 2)], [], gh⟩)) (
  kR (runL pg q6s ⟨[(1, .ptr false 0 0), (3, I 0)], [[(degr1 v0_0), (degr1 v0_1), (degr1 v0_2), (degr1 v0_3), (degr1 v0_4)]], gh⟩) (fun e s => nx e s (fun e s => some (e, s)) fun s => kR (runL pg q2e s) (fun e s => some (e, s))))))))))))))
theorem q1f_ {v0_0 v0_1 : PV} {v0_2 v0_3 v0_4 : PV} (h : q1f pg v0_0 v0_1 v0_2 v0_3 v0_4 gh = some (e, s)) : runL pg qbh ⟨[(0, .agg [v0_0, v0_1, v0_2, v0_3, v0_4])], [], gh⟩ = some (e, s) :=
 ji2 q7 (Eq.trans (by kernel_rfl) h)
end
end Go.Lw
end

/-! What the code of function ref_SameInts comes to, piece by piece. Written by program (dprint.py). -/
section
set_option maxRecDepth 10000
set_option maxHeartbeats 4000000
namespace Go.Lw
open Go
noncomputable section
variable {pg : Prg} {gh : List GObj} {e : IExit} {s : St}
def q96 : Tr := (tI 13 (tI 7 (tB 4 (tO 1 (uO 0) .nil) (tO 6 (uI 5) .nil)) (tB 10 (tI 9 (uO 8) .nil) (tO 12 (uI 11) .nil))) (tI 20 (tI 16 (tI 15 (uB 14) .nil) (tI 18 (uO 17) .nil)) (tI 24 (tI 22 (uO 21) .nil) (uB 25))))
def q97 (pg : Prg) (v0 v1 : PV) (x5 : Int) (gh : List GObj) : DR := isC (degr v0) (lenS (degr (degr v0)) fun n1 => stK 0 v0 (stK 0 v1 (
  br 14 (decide (x5 < (n1 : Int))) (isC (degr v0) (
  idX 1 none (degr (degr v0)) x5 fun p2 =>
  ldX [] gh false 1 (degr p2) fun v3 => unI .i64 v3 fun n4 => isC (degr v1) (
  idX 1 none (degr (degr v1)) x5 fun p5 =>
  ldX [] gh false 1 (degr p5) fun v6 => unI .i64 v6 fun n7 => stK 0 v0 (stK 0 v1 (
  br 25 (n4 != n7) (some (.ret, ⟨[(4, B false)], [], gh⟩)) (stK 0 v0 (stK 0 v1 (stK 0 v0 (stK 0 v1 (some (.normal, ⟨[(0, v0), (1, v1), (5, (I (IntKind.i64.wrap (x5 + 1))))], [], gh⟩))))))))))) (some ((.exit 0), ⟨[(0, v0), (1, v1), (5, I x5), (14, (B (decide (x5 < (n1 : Int)))))], [], gh⟩)))))
theorem q97_ {v0 v1 : PV} {x5 : Int} (h : q97 pg v0 v1 x5 gh = some (e, s)) : runL pg qbk ⟨[(0, v0), (1, v1), (5, I x5)], [], gh⟩ = some (e, s) :=
 ji2 q96 (Eq.trans (by kernel_rfl) h)
def qhn (pg : Prg)  (gh : List GObj) : DR := some (.ret, ⟨[(4, B true)], [], gh⟩)
theorem qhn_  (h : qhn pg  gh = some (e, s)) : runL pg q72 ⟨[], [], gh⟩ = some (e, s) :=
 ji2 q96 (Eq.trans (by kernel_rfl) h)
def qex (pg : Prg) (v0 v1 : PV) (gh : List GObj) : DR := stK 0 v0 (stK 0 v1 (isC (degr v0) (lenS (degr (degr v0)) fun n1 => isC (degr v1) (lenS (degr (degr v1)) fun n2 => stK 0 v0 (stK 0 v1 (
  br 10 ((n1 : Int) != (n2 : Int)) (some (.ret, ⟨[(4, B false)], [], gh⟩)) (stK 0 v0 (stK 0 v1 (
  kR (runL pg q71 ⟨[(0, v0), (1, v1), (5, I 0)], [], gh⟩) (fun e s => nx e s (fun e s => some (e, s)) fun s => kR (runL pg q72 s) (fun e s => some (e, s))))))))))))
theorem qex_ {v0 v1 : PV} (h : qex pg v0 v1 gh = some (e, s)) : runL pg qbl ⟨[(0, v0), (1, v1)], [], gh⟩ = some (e, s) :=
 ji2 q96 (Eq.trans (by kernel_rfl) h)
end
end Go.Lw
end

/-! What the code of function ref_SameLists comes to, piece by piece. Written by program (dprint.py). -/
section
set_option maxRecDepth 10000
set_option maxHeartbeats 4000000
namespace Go.Lw
open Go
noncomputable section
variable {pg : Prg} {gh : List GObj} {e : IExit} {s : St}
def q98 : Tr := (tI 13 (tI 7 (tB 4 (tO 1 (uO 0) .nil) (tO 6 (uI 5) .nil)) (tB 10 (tI 9 (uO 8) .nil) (tO 12 (uI 11) .nil))) (tO 20 (tI 16 (tI 15 (uB 14) .nil) (tI 18 (uO 17) .nil)) (tO 24 (tI 22 (uO 21) .nil) (tB 26 (uB 25) .nil))))
def q99 (pg : Prg) (v0 v1 : PV) (x5 : Int) (gh : List GObj) : DR := isC (degr v0) (lenS (degr (degr v0)) fun n1 => stK 0 v0 (stK 0 v1 (
  br 14 (decide (x5 < (n1 : Int))) (isC (degr v0) (
  idX 1 none (degr (degr v0)) x5 fun p2 =>
  ldX [] gh false 1 (degr p2) fun v3 => isC v3 (isC (degr v1) (
  idX 1 none (degr (degr v1)) x5 fun p4 =>
  ldX [] gh false 1 (degr p4) fun v5 => isC v5 (arK (degr v3) (arK (degr v5) (
  callR gh true (callL pg 46 [(degr v3), (degr v5)] gh) fun r6 gh7 => unB r6 fun b8 => stK 0 v0 (stK 0 v1 (
  br 26 (!b8) (some (.ret, ⟨[(4, B false)], [], gh7⟩)) (stK 0 v0 (stK 0 v1 (stK 0 v0 (stK 0 v1 (some (.normal, ⟨[(0, v0), (1, v1), (5, (I (IntKind.i64.wrap (x5 + 1))))], [], gh7⟩))))))))))))))) (some ((.exit 0), ⟨[(0, v0), (1, v1), (5, I x5), (14, (B (decide (x5 < (n1 : Int)))))], [], gh⟩)))))
theorem q99_ {v0 v1 : PV} {x5 : Int} (h : q99 pg v0 v1 x5 gh = some (e, s)) : runL pg qbx ⟨[(0, v0), (1, v1), (5, I x5)], [], gh⟩ = some (e, s) :=
 ji2 q98 (Eq.trans (by kernel_rfl) h)
def qho (pg : Prg)  (gh : List GObj) : DR := some (.ret, ⟨[(4, B true)], [], gh⟩)
theorem qho_  (h : qho pg  gh = some (e, s)) : runL pg q7f ⟨[], [], gh⟩ = some (e, s) :=
 ji2 q98 (Eq.trans (by kernel_rfl) h)
def qey (pg : Prg) (v0 v1 : PV) (gh : List GObj) : DR := stK 0 v0 (stK 0 v1 (isC (degr v0) (lenS (degr (degr v0)) fun n1 => isC (degr v1) (lenS (degr (degr v1)) fun n2 => stK 0 v0 (stK 0 v1 (
  br 10 ((n1 : Int) != (n2 : Int)) (some (.ret, ⟨[(4, B false)], [], gh⟩)) (stK 0 v0 (stK 0 v1 (
  kR (runL pg q7e ⟨[(0, v0), (1, v1), (5, I 0)], [], gh⟩) (fun e s => nx e s (fun e s => some (e, s)) fun s => kR (runL pg q7f s) (fun e s => some (e, s))))))))))))
theorem qey_ {v0 v1 : PV} (h : qey pg v0 v1 gh = some (e, s)) : runL pg qby ⟨[(0, v0), (1, v1)], [], gh⟩ = some (e, s) :=
 ji2 q98 (Eq.trans (by kernel_rfl) h)
end
end Go.Lw
end

/-! What the code of function eval_Words comes to, piece by piece. Written by program (dprint.py). -/
section
set_option maxRecDepth 10000
set_option maxHeartbeats 4000000
namespace Go.Lw
open Go
noncomputable section
variable {pg : Prg} {gh : List GObj} {e : IExit} {s : St}
def q9a : Tr := (tI 16 (tO 9 (tI 6 (tO 1 (.node 0 (.agg [.any, .any, .any, .any, .any]) .nil .nil) (uO 2)) (tI 8 (uI 7) .nil)) (tB 13 (tO 11 (uI 10) (uI 12)) (tI 15 (uO 14) .nil))) (tO 26 (tO 21 (tI 18 (uB 17) (uI 20)) (tI 24 (uI 22) .nil)) (tB 31 (tI 30 (uI 27) .nil) (tI 33 (uB 32) .nil))))
def q53 (pg : Prg) (v2 v14 : PV) (x15 x16 : Int) (vc0_0 vc0_1 : PV) (vc0_2 vc0_3 vc0_4 : PV) (gh : List GObj) : DR :=
  br 17 (decide (x16 < x15)) (
  idX 1 none (degr v14) x16 fun p1 =>
  ldX [[vc0_0, vc0_1, vc0_2, vc0_3, vc0_4]] gh false 1 (degr p1) fun v3 => unI .i64 v3 fun n4 => stK 1 v2 (stK 1 v14 (isC (degr v2) (
  idX 1 none (degr (degr v2)) x16 fun p5 =>
  ldX [[vc0_0, vc0_1, vc0_2, vc0_3, vc0_4]] gh false 1 (degr p5) fun v6 => unI .i64 v6 fun n7 => isC (degr vc0_0) (
  idX 6 none (degr (degr vc0_0)) n4 fun p8 => faX (degr p8) 1 fun p9 =>
  ldX [[vc0_0, vc0_1, vc0_2, vc0_3, vc0_4]] gh false 1 (degr p9) fun v10 => unI .i64 v10 fun n11 =>
  callR gh true (callL pg 65 [I n7, I n11] gh) fun r12 gh13 => unB r12 fun b14 => stK 1 v2 (stK 1 v14 (
  br 32 (!b14) (some (.ret, ⟨[(6, I 3)], [], gh13⟩)) (stK 1 v2 (stK 1 v14 (stK 1 v2 (stK 1 v14 (some (.normal, ⟨[(2, v2), (3, .ptr false 0 0), (14, v14), (15, I x15), (16, (I (IntKind.i64.wrap (x16 + 1))))], [[vc0_0, vc0_1, vc0_2, vc0_3, vc0_4]], gh13⟩))))))))))))) (some ((.exit 0), ⟨[(2, v2), (3, .ptr false 0 0), (14, v14), (15, I x15), (16, I x16), (17, (B (decide (x16 < x15))))], [[vc0_0, vc0_1, vc0_2, vc0_3, vc0_4]], gh⟩))
theorem q53_ {v2 v14 : PV} {x15 x16 : Int} {vc0_0 vc0_1 : PV} {vc0_2 vc0_3 vc0_4 : PV} (h : q53 pg v2 v14 x15 x16 vc0_0 vc0_1 vc0_2 vc0_3 vc0_4 gh = some (e, s)) : runL pg q9s ⟨[(2, v2), (3, .ptr false 0 0), (14, v14), (15, I x15), (16, I x16)], [[vc0_0, vc0_1, vc0_2, vc0_3, vc0_4]], gh⟩ = some (e, s) :=
 ji2 q9a (Eq.trans (by kernel_rfl) h)
def qhp (pg : Prg)  (gh : List GObj) : DR := some (.ret, ⟨[(6, I 0)], [], gh⟩)
theorem qhp_  (h : qhp pg  gh = some (e, s)) : runL pg q5k ⟨[], [], gh⟩ = some (e, s) :=
 ji2 q9a (Eq.trans (by kernel_rfl) h)
def q54 (pg : Prg) (v0_0 v0_1 : PV) (v0_2 v0_3 : PV) (v0_4 v1 v2 : PV) (gh : List GObj) : DR := onK (degr1 v0_0) (onK (degr1 v0_1) (onK (degr1 v0_2) (onK (degr1 v0_3) (onK (degr1 v0_4) (stK 1 v1 (stK 1 v2 (isC (degr v2) (lenS (degr (degr v2)) fun n1 => isC (degr v1) (lenS (degr (degr v1)) fun n2 => stK 1 v1 (stK 1 v2 (
  br 13 ((n1 : Int) != (n2 : Int)) (some (.ret, ⟨[(6, I 2)], [], gh⟩)) (isC (degr v1) (lenS (degr (degr v1)) fun n3 => stK 1 v2 (stK 1 (degr v1) (
  kR (runL pg q5j ⟨[(2, v2), (3, .ptr false 0 0), (14, (degr v1)), (15, (I (n3 : Int))), (16, I 0)], [[(degr1 v0_0), (degr1 v0_1), (degr1 v0_2), (degr1 v0_3), (degr1 v0_4)]], gh⟩) (fun e s => nx e s (fun e s => some (e, s)) fun s => kR (runL pg q5k s) (fun e s => some (e, s))))))))))))))))))
theorem q54_ {v0_0 v0_1 : PV} {v0_2 v0_3 : PV} {v0_4 v1 v2 : PV} (h : q54 pg v0_0 v0_1 v0_2 v0_3 v0_4 v1 v2 gh = some (e, s)) : runL pg q9t ⟨[(0, .agg [v0_0, v0_1, v0_2, v0_3, v0_4]), (1, v1), (2, v2)], [], gh⟩ = some (e, s) :=
 ji2 q9a (Eq.trans (by kernel_rfl) h)
end
end Go.Lw
end

/-! What the code of function eval_zeros comes to, piece by piece. Written by program (dprint.py). -/
section
set_option maxRecDepth 10000
set_option maxHeartbeats 4000000
namespace Go.Lw
open Go
noncomputable section
variable {pg : Prg} {gh : List GObj} {e : IExit} {s : St}
def qhq : Tr := (tO 3 (tO 2 (uO 0) .nil) (tO 5 (uI 4) .nil))
def qez (pg : Prg) (v0 : PV) (gh : List GObj) : DR := stK 0 v0 (isC (degr v0) (lenS (degr (degr v0)) fun n1 => gd (mkOk (n1 : Int) 8 1 (I 0)) (gd (isFlat (I 0)) <| stK 0 (.sl true 1 (List.replicate (Int.toNat (n1 : Int)) (I 0))) (some (.ret, ⟨[(2, (.sl true 1 (List.replicate (Int.toNat (n1 : Int)) (I 0))))], [], gh⟩)))))
theorem qez_ {v0 : PV} (h : qez pg v0 gh = some (e, s)) : runL pg qa5 ⟨[(0, v0)], [], gh⟩ = some (e, s) :=
 ji2 qhq (Eq.trans (by kernel_rfl) h)
end
end Go.Lw
end

/-! What the code of function ref_CheckWords comes to, piece by piece. Written by program (dprint.py). -/
section
set_option maxRecDepth 10000
set_option maxHeartbeats 4000000
namespace Go.Lw
open Go
noncomputable section
variable {pg : Prg} {gh : List GObj} {e : IExit} {s : St}
def q9b : Tr := (tI 19 (tO 11 (tO 7 (tO 2 (tI 1 (.node 0 (.agg [.any, .any, .any, .any, .any]) .nil .nil) .nil) (uI 6)) (.node 9 (.agg [.any, .any, .any, .any, .any]) (uI 8) (uI 10))) (tI 15 (tI 13 (uO 12) (uO 14)) (tI 17 (uB 16) (uO 18)))) (tO 29 (tO 23 (tI 21 (uB 20) (uI 22)) (tI 26 (uI 24) (uO 28))) (tI 36 (tI 32 (uI 30) (uI 35)) (tB 38 (uI 37) (uB 39)))))
def q55 (pg : Prg) (v2 v7 : PV) (x8 : Int) (vc0_0 vc0_1 : PV) (vc0_2 vc0_3 vc0_4 : PV) (gh : List GObj) : DR := isC (degr v2) (lenS (degr (degr v2)) fun n1 => stK 1 v2 (stK 1 v7 (
  br 20 (decide (x8 < (n1 : Int))) (isC (degr v2) (
  idX 1 none (degr (degr v2)) x8 fun p2 =>
  ldX [[vc0_0, vc0_1, vc0_2, vc0_3, vc0_4]] gh false 1 (degr p2) fun v3 => unI .i64 v3 fun n4 => isC (degr vc0_0) (isC (degr v7) (
  idX 1 none (degr (degr v7)) x8 fun p5 =>
  ldX [[vc0_0, vc0_1, vc0_2, vc0_3, vc0_4]] gh false 1 (degr p5) fun v6 => unI .i64 v6 fun n7 =>
  idX 6 none (degr (degr vc0_0)) n7 fun p8 => faX (degr p8) 1 fun p9 =>
  ldX [[vc0_0, vc0_1, vc0_2, vc0_3, vc0_4]] gh false 1 (degr p9) fun v10 => unI .i64 v10 fun n11 =>
  callR gh true (callL pg 27 [I n11] gh) fun r12 gh13 => unI .i64 r12 fun n14 =>
  callR gh13 true (callL pg 50 [I n4, I 0, (I (IntKind.i64.wrap (n14 - 1)))] gh13) fun r15 gh16 => unB r15 fun b17 => stK 1 v2 (stK 1 v7 (
  br 39 (!b17) (some (.ret, ⟨[(6, I 3)], [], gh16⟩)) (stK 1 v2 (stK 1 v7 (stK 1 v2 (stK 1 v7 (some (.normal, ⟨[(2, v2), (3, .ptr false 0 0), (7, v7), (8, (I (IntKind.i64.wrap (x8 + 1))))], [[vc0_0, vc0_1, vc0_2, vc0_3, vc0_4]], gh16⟩)))))))))))) (some ((.exit 0), ⟨[(2, v2), (3, .ptr false 0 0), (7, v7), (8, I x8), (20, (B (decide (x8 < (n1 : Int)))))], [[vc0_0, vc0_1, vc0_2, vc0_3, vc0_4]], gh⟩)))))
theorem q55_ {v2 v7 : PV} {x8 : Int} {vc0_0 vc0_1 : PV} {vc0_2 vc0_3 vc0_4 : PV} (h : q55 pg v2 v7 x8 vc0_0 vc0_1 vc0_2 vc0_3 vc0_4 gh = some (e, s)) : runL pg qc1 ⟨[(2, v2), (3, .ptr false 0 0), (7, v7), (8, I x8)], [[vc0_0, vc0_1, vc0_2, vc0_3, vc0_4]], gh⟩ = some (e, s) :=
 ji2 q9b (Eq.trans (by kernel_rfl) h)
def qhr (pg : Prg)  (gh : List GObj) : DR := some (.ret, ⟨[(6, I 0)], [], gh⟩)
theorem qhr_  (h : qhr pg  gh = some (e, s)) : runL pg q7k ⟨[], [], gh⟩ = some (e, s) :=
 ji2 q9b (Eq.trans (by kernel_rfl) h)
def q56 (pg : Prg) (v0_0 v0_1 : PV) (v0_2 v0_3 v0_4 : PV) (x1 : Int) (v2 : PV) (gh : List GObj) : DR := onK (degr1 v0_0) (onK (degr1 v0_1) (onK (degr1 v0_2) (onK (degr1 v0_3) (onK (degr1 v0_4) (stK 1 v2 (onK (degr1 (degr1 (degr1 v0_0))) (onK (degr1 (degr1 (degr1 v0_1))) (onK (degr1 (degr1 (degr1 v0_2))) (onK (degr1 (degr1 (degr1 v0_3))) (onK (degr1 (degr1 (degr1 v0_4))) (
  callR gh true (callL pg 39 [(.agg [(degr1 (degr1 (degr1 v0_0))), (degr1 (degr1 (degr1 v0_1))), (degr1 (degr1 (degr1 v0_2))), (degr1 (degr1 (degr1 v0_3))), (degr1 (degr1 (degr1 v0_4)))]), I x1] gh) fun r1 gh2 => isC r1 (stK 1 v2 (stK 1 r1 (isC (degr v2) (lenS (degr (degr v2)) fun n3 => isC (degr r1) (lenS (degr (degr r1)) fun n4 => stK 1 v2 (stK 1 r1 (
  br 16 ((n3 : Int) != (n4 : Int)) (some (.ret, ⟨[(6, I 2)], [], gh2⟩)) (stK 1 v2 (stK 1 r1 (
  kR (runL pg q7j ⟨[(2, v2), (3, .ptr false 0 0), (7, r1), (8, I 0)], [[(degr1 v0_0), (degr1 v0_1), (degr1 v0_2), (degr1 v0_3), (degr1 v0_4)]], gh2⟩) (fun e s => nx e s (fun e s => some (e, s)) fun s => kR (runL pg q7k s) (fun e s => some (e, s))))))))))))))))))))))))
theorem q56_ {v0_0 v0_1 : PV} {v0_2 v0_3 v0_4 : PV} {x1 : Int} {v2 : PV} (h : q56 pg v0_0 v0_1 v0_2 v0_3 v0_4 x1 v2 gh = some (e, s)) : runL pg qc2 ⟨[(0, .agg [v0_0, v0_1, v0_2, v0_3, v0_4]), (1, I x1), (2, v2)], [], gh⟩ = some (e, s) :=
 ji2 q9b (Eq.trans (by kernel_rfl) h)
end
end Go.Lw
end

/-! What the code of function eval_Raw comes to, piece by piece. Written by program (dprint.py). -/
section
set_option maxRecDepth 10000
set_option maxHeartbeats 4000000
namespace Go.Lw
open Go
noncomputable section
variable {pg : Prg} {gh : List GObj} {e : IExit} {s : St}
def q57 : Tr := (tI 45 (tI 21 (tO 12 (tO 6 (tO 1 (.node 0 (.agg [.any, .any, .any, .any, .any]) .nil .nil) (uO 2)) (tO 8 (uG 7) (uI 9))) (tO 17 (tO 14 (uI 13) (uO 15)) (tI 19 (uI 18) (uB 20)))) (tI 34 (tI 27 (tI 25 (.node 23 (.agg [.int .i64, .int .i64, .int .i64, .int .i64, .int .i64, .int .i64]) .nil .nil) (uO 26)) (tI 31 (uI 29) (uO 32))) (tI 39 (tO 36 (uI 35) (uI 38)) (tI 42 (uO 40) (uI 43))))) (tO 63 (tO 54 (tI 50 (.node 48 (.agg [.int .i64, .int .i64, .int .i64, .int .i64, .int .i64, .int .i64]) (uO 47) (.node 49 (.agg [.int .i64, .int .i64, .int .i64]) .nil .nil)) (tB 52 (uG 51) (uB 53))) (tB 59 (tI 57 (uI 55) (uG 58)) (tO 61 (uB 60) (uI 62)))) (tI 72 (tG 68 (tO 66 (uI 65) (uO 67)) (tB 70 (uB 69) (uO 71))) (tO 77 (tI 75 (uO 73) (uO 76)) (tI 79 (uG 78) (uO 80))))))
def qf0 (pg : Prg) (v1 v2 : PV) (g7 o7 : Nat) (v8 v17 : PV) (x18 x19 : Int) (vc0_0 vc0_1 : PV) (vc0_2 vc0_3 vc0_4 : PV) (gh : List GObj) : DR := stK 1 v1 (stK 1 v2 (stK 1 v8 (stK 1 v17 (some (.normal, ⟨[(1, v1), (2, v2), (3, .ptr false 0 0), (7, .ptr true g7 o7), (8, v8), (17, v17), (18, I x18), (19, (I (IntKind.i64.wrap (x19 + 1))))], [[vc0_0, vc0_1, vc0_2, vc0_3, vc0_4]], gh⟩)))))
theorem qf0_ {v1 v2 : PV} {g7 o7 : Nat} {v8 v17 : PV} {x18 x19 : Int} {vc0_0 vc0_1 : PV} {vc0_2 vc0_3 vc0_4 : PV} (h : qf0 pg v1 v2 g7 o7 v8 v17 x18 x19 vc0_0 vc0_1 vc0_2 vc0_3 vc0_4 gh = some (e, s)) : runL pg q14 ⟨[(1, v1), (2, v2), (3, .ptr false 0 0), (7, .ptr true g7 o7), (8, v8), (17, v17), (18, I x18), (19, I x19)], [[vc0_0, vc0_1, vc0_2, vc0_3, vc0_4]], gh⟩ = some (e, s) :=
 ji2 q57 (Eq.trans (by kernel_rfl) h)
def qj (pg : Prg) (v1 v2 : PV) (g7 o7 : Nat) (v8 v17 : PV) (x18 x19 : Int) (vc0_0 vc0_1 : PV) (vc0_2 vc0_3 vc0_4 : PV) (gh : List GObj) : DR :=
  br 20 (decide (x19 < x18)) (
  idX 6 none (degr v17) x19 fun p1 =>
  ldX [[vc0_0, vc0_1, vc0_2, vc0_3, vc0_4]] gh true 6 (degr p1) fun v3 => unA 6 v3 fun c4 c5 c6 c7 c8 c9 => unI .i64 c4 fun n10 => unI .i64 c5 fun n11 => unI .i64 c6 fun n12 => unI .i64 c7 fun n13 => unI .i64 c8 fun n14 => unI .i64 c9 fun n15 => stK 2 v1 (stK 2 v2 (stK 2 v8 (stK 2 v17 (stK 2 v1 (stK 2 v2 (stK 2 v8 (stK 2 v17 (stK 2 v1 (stK 2 v2 (stK 2 v8 (stK 2 v17 (
  br 52 (n10 == 1) (
  ob (ghCells gh g7) fun cs16 =>
  ob (grab false 1 o7 cs16) fun v18 => isC (degr v18) (
  idX 1 none (degr (degr v18)) x19 fun p19 => unG p19 fun g20 o21 =>
  ob (ghCells gh g20) fun cs22 => gb (stOk 1 o21 [I n15] cs22) (stK 1 v1 (stK 1 v2 (stK 1 v8 (stK 1 v17 (stK 1 v1 (stK 1 v2 (stK 1 v8 (stK 1 v17 (
  kR (runL pg q14 ⟨[(1, v1), (2, v2), (3, .ptr false 0 0), (7, .ptr true g7 o7), (8, v8), (17, v17), (18, I x18), (19, I x19)], [[vc0_0, vc0_1, vc0_2, vc0_3, vc0_4]], (List.set gh g20 (.cells (spliceAt cs22 o21 [I n15])))⟩) (fun e s => po [1, 2, 3, 7, 8, 17, 18, 19] 1 e s (fun e s => some (e, s)))))))))))))) (stK 2 v1 (stK 2 v2 (stK 2 v8 (stK 2 v17 (
  br 59 (n10 == 3) (
  ob (ghCells gh g7) fun cs23 =>
  ob (grab false 1 o7 cs23) fun v24 => isC (degr v24) (isC (degr v1) (
  idX 1 none (degr (degr v1)) 0 fun p25 =>
  ldX [[vc0_0, vc0_1, vc0_2, vc0_3, vc0_4], [I n10, I n11, I n12, I n13, I n14, I n15]] gh false 1 (degr p25) fun v26 => unI .i64 v26 fun n27 => isC (degr v1) (
  slX 1 (degr (degr v1)) (some 1) none fun v28 => isC v28 (
  idX 1 none (degr (degr v24)) x19 fun p29 => unG p29 fun g30 o31 =>
  ob (ghCells gh g30) fun cs32 => gb (stOk 1 o31 [I n27] cs32) (stK 1 v28 (stK 1 v2 (stK 1 v8 (stK 1 v17 (stK 1 v28 (stK 1 v2 (stK 1 v8 (stK 1 v17 (stK 1 v28 (stK 1 v2 (stK 1 v8 (stK 1 v17 (
  kR (runL pg q14 ⟨[(1, v28), (2, v2), (3, .ptr false 0 0), (7, .ptr true g7 o7), (8, v8), (17, v17), (18, I x18), (19, I x19)], [[vc0_0, vc0_1, vc0_2, vc0_3, vc0_4]], (List.set gh g30 (.cells (spliceAt cs32 o31 [I n27])))⟩) (fun e s => po [1, 2, 3, 7, 8, 17, 18, 19] 1 e s (fun e s => some (e, s))))))))))))))))))))) (stK 2 v1 (stK 2 v2 (stK 2 v8 (stK 2 v17 (
  br 69 (n10 == 2) (
  ob (ghCells gh g7) fun cs33 =>
  ob (grab false 1 o7 cs33) fun v34 => isC (degr v34) (isC (degr v2) (
  idX 1 none (degr (degr v2)) 0 fun p35 =>
  ldX [[vc0_0, vc0_1, vc0_2, vc0_3, vc0_4], [I n10, I n11, I n12, I n13, I n14, I n15]] gh false 1 (degr p35) fun v36 => unI .i64 v36 fun n37 => isC (degr v2) (
  slX 1 (degr (degr v2)) (some 1) none fun v38 => isC v38 (
  idX 1 none (degr (degr v34)) x19 fun p39 => unG p39 fun g40 o41 =>
  ob (ghCells gh g40) fun cs42 => gb (stOk 1 o41 [I n37] cs42) (stK 1 v1 (stK 1 v38 (stK 1 v8 (stK 1 v17 (stK 1 v1 (stK 1 v38 (stK 1 v8 (stK 1 v17 (stK 1 v1 (stK 1 v38 (stK 1 v8 (stK 1 v17 (stK 1 v1 (stK 1 v38 (stK 1 v8 (stK 1 v17 (
  kR (runL pg q14 ⟨[(1, v1), (2, v38), (3, .ptr false 0 0), (7, .ptr true g7 o7), (8, v8), (17, v17), (18, I x18), (19, I x19)], [[vc0_0, vc0_1, vc0_2, vc0_3, vc0_4]], (List.set gh g40 (.cells (spliceAt cs42 o41 [I n37])))⟩) (fun e s => po [1, 2, 3, 7, 8, 17, 18, 19] 1 e s (fun e s => some (e, s))))))))))))))))))))))))) (
  ob (ghCells gh g7) fun cs43 =>
  ob (grab false 1 o7 cs43) fun v44 => isC (degr v44) (isC (degr v8) (
  fnX (degr (degr v8)) fun f47 cs48 => allK cs48 (callR gh true (callL pg f47 ([I n12] ++ cs48) gh) fun r45 gh46 => unI .i64 r45 fun n49 => isC (degr v8) (
  fnX (degr (degr v8)) fun f52 cs53 => allK cs53 (callR gh46 true (callL pg f52 ([I n13] ++ cs53) gh46) fun r50 gh51 => unI .i64 r50 fun n54 => isC (degr v8) (
  fnX (degr (degr v8)) fun f57 cs58 => allK cs58 (callR gh51 true (callL pg f57 ([I n14] ++ cs58) gh51) fun r55 gh56 => unI .i64 r55 fun n59 => isC (degr vc0_0) (arK (degr (degr vc0_0)) (
  callR gh56 true (callL pg 104 [(degr (degr vc0_0)), .agg [I n10, I n11, I n12, I n13, I n14, I n15]] gh56) fun r60 gh61 => unA 3 r60 fun c62 c63 c64 => unI .i64 c62 fun n65 => unI .i64 c63 fun n66 => unI .i64 c64 fun n67 =>
  callR gh61 true (callL pg 66 [I n10, I n11, I n49, I n54, I n59, I n15, .agg [I n65, I n66, I n67]] gh61) fun r68 gh69 => unI .i64 r68 fun n70 =>
  idX 1 none (degr (degr v44)) x19 fun p71 => unG p71 fun g72 o73 =>
  ob (ghCells gh69 g72) fun cs74 => gb (stOk 1 o73 [I n70] cs74) (stK 1 v1 (stK 1 v2 (stK 1 v8 (stK 1 v17 (stK 1 v1 (stK 1 v2 (stK 1 v8 (stK 1 v17 (stK 1 v1 (stK 1 v2 (stK 1 v8 (stK 1 v17 (stK 1 v1 (stK 1 v2 (stK 1 v8 (stK 1 v17 (
  kR (runL pg q14 ⟨[(1, v1), (2, v2), (3, .ptr false 0 0), (7, .ptr true g7 o7), (8, v8), (17, v17), (18, I x18), (19, I x19)], [[vc0_0, vc0_1, vc0_2, vc0_3, vc0_4]], (List.set gh69 g72 (.cells (spliceAt cs74 o73 [I n70])))⟩) (fun e s => po [1, 2, 3, 7, 8, 17, 18, 19] 1 e s (fun e s => some (e, s))))))))))))))))))))))))))))))))))))))))))))))))))))) (some ((.exit 0), ⟨[(1, v1), (2, v2), (3, .ptr false 0 0), (7, .ptr true g7 o7), (8, v8), (17, v17), (18, I x18), (19, I x19), (20, (B (decide (x19 < x18))))], [[vc0_0, vc0_1, vc0_2, vc0_3, vc0_4]], gh⟩))
theorem qj_ {v1 v2 : PV} {g7 o7 : Nat} {v8 v17 : PV} {x18 x19 : Int} {vc0_0 vc0_1 : PV} {vc0_2 vc0_3 vc0_4 : PV} (h : qj pg v1 v2 g7 o7 v8 v17 x18 x19 vc0_0 vc0_1 vc0_2 vc0_3 vc0_4 gh = some (e, s)) : runL pg q9x ⟨[(1, v1), (2, v2), (3, .ptr false 0 0), (7, .ptr true g7 o7), (8, v8), (17, v17), (18, I x18), (19, I x19)], [[vc0_0, vc0_1, vc0_2, vc0_3, vc0_4]], gh⟩ = some (e, s) :=
 ji2 q57 (Eq.trans (by kernel_rfl) h)
def qf1 (pg : Prg) (g7 o7 : Nat) (gh : List GObj) : DR :=
  ob (ghCells gh g7) fun cs1 =>
  ob (grab false 1 o7 cs1) fun v2 => isC (degr v2) (stK 0 (degr v2) (some (.ret, ⟨[(6, (degr v2))], [], gh⟩)))
theorem qf1_ {g7 o7 : Nat} (h : qf1 pg g7 o7 gh = some (e, s)) : runL pg q3h ⟨[(7, .ptr true g7 o7)], [], gh⟩ = some (e, s) :=
 ji2 q57 (Eq.trans (by kernel_rfl) h)
def qf2 (pg : Prg) (v0_0 v0_1 : PV) (v0_2 v0_3 : PV) (v0_4 v1 v2 : PV) (gh : List GObj) : DR := onK (degr1 v0_0) (onK (degr1 v0_1) (onK (degr1 v0_2) (onK (degr1 v0_3) (onK (degr1 v0_4) (stK 1 v1 (stK 1 v2 (isC (degr (degr1 v0_0)) (lenS (degr (degr (degr1 v0_0))) fun n1 => gd (mkOk (n1 : Int) 8 1 (I 0)) (
  ob (ghCells ((gh ++ [.cells (List.flatMap PV.cells (List.replicate (Int.toNat (n1 : Int)) (I 0)))]) ++ [.cells [.sl true 1 []]]) (List.length (gh ++ [.cells (List.flatMap PV.cells (List.replicate (Int.toNat (n1 : Int)) (I 0)))]))) fun cs2 => gb (stOk 1 0 [(.bs true (List.length gh) 0 (Int.toNat (n1 : Int)) 1)] cs2) (stK 1 v1 (stK 1 v2 (stK 1 v1 (stK 1 v2 (isC (degr (degr1 v0_0)) (lenS (degr (degr (degr1 v0_0))) fun n3 => stK 1 v1 (stK 1 v2 (stK 1 (degr (degr1 v0_0)) (
  kR (runL pg q3g ⟨[(1, v1), (2, v2), (3, .ptr false 0 0), (7, (.ptr true (List.length (gh ++ [.cells (List.flatMap PV.cells (List.replicate (Int.toNat (n1 : Int)) (I 0)))])) 0)), (8, (.fn 143 [(.ptr true (List.length (gh ++ [.cells (List.flatMap PV.cells (List.replicate (Int.toNat (n1 : Int)) (I 0)))])) 0)])), (17, (degr (degr1 v0_0))), (18, (I (n3 : Int))), (19, I 0)], [[(degr1 v0_0), (degr1 v0_1), (degr1 v0_2), (degr1 v0_3), (degr1 v0_4)]], (List.set ((gh ++ [.cells (List.flatMap PV.cells (List.replicate (Int.toNat (n1 : Int)) (I 0)))]) ++ [.cells [.sl true 1 []]]) (List.length (gh ++ [.cells (List.flatMap PV.cells (List.replicate (Int.toNat (n1 : Int)) (I 0)))])) (.cells (spliceAt cs2 0 [(.bs true (List.length gh) 0 (Int.toNat (n1 : Int)) 1)])))⟩) (fun e s => nx e s (fun e s => some (e, s)) fun s => kR (runL pg q3h s) (fun e s => some (e, s)))))))))))))))))))))
theorem qf2_ {v0_0 v0_1 : PV} {v0_2 v0_3 : PV} {v0_4 v1 v2 : PV} (h : qf2 pg v0_0 v0_1 v0_2 v0_3 v0_4 v1 v2 gh = some (e, s)) : runL pg q9y ⟨[(0, .agg [v0_0, v0_1, v0_2, v0_3, v0_4]), (1, v1), (2, v2)], [], gh⟩ = some (e, s) :=
 ji2 q57 (Eq.trans (by kernel_rfl) h)
end
end Go.Lw
end

/-! What the code of function eval_Raw_1 comes to, piece by piece. Written by program (dprint.py). -/
section
set_option maxRecDepth 10000
set_option maxHeartbeats 4000000
namespace Go.Lw
open Go
noncomputable section
variable {pg : Prg} {gh : List GObj} {e : IExit} {s : St}
def qhs : Tr := (tO 4 (tG 1 (uI 0) (uI 3)) (tI 7 (uI 5) .nil))
def qf3 (pg : Prg) (x0 : Int) (g1 o1 : Nat) (gh : List GObj) : DR :=
  ob (ghCells gh g1) fun cs1 =>
  ob (grab false 1 o1 cs1) fun v2 => isC (degr v2) (
  idX 1 none (degr (degr v2)) x0 fun p3 =>
  ldX [] gh false 1 (degr p3) fun v4 => unI .i64 v4 fun n5 => some (.ret, ⟨[(3, I n5)], [], gh⟩))
theorem qf3_ {x0 : Int} {g1 o1 : Nat} (h : qf3 pg x0 g1 o1 gh = some (e, s)) : runL pg qa6 ⟨[(0, I x0), (1, .ptr true g1 o1)], [], gh⟩ = some (e, s) :=
 ji2 qhs (Eq.trans (by kernel_rfl) h)
end
end Go.Lw
end

/-! What the code of function ref_ValuesOf comes to, piece by piece. Written by program (dprint.py). -/
section
set_option maxRecDepth 10000
set_option maxHeartbeats 4000000
namespace Go.Lw
open Go
noncomputable section
variable {pg : Prg} {gh : List GObj} {e : IExit} {s : St}
def q58 : Tr := (tI 50 (tI 22 (tO 13 (tO 7 (tO 2 (tO 1 (.node 0 (.agg [.any, .any, .any, .any, .any]) .nil .nil) .nil) (uO 6)) (tI 9 (uI 8) (uI 10))) (tO 18 (tO 15 (uI 14) (uI 16)) (tB 20 (uI 19) (uI 21)))) (tO 36 (tO 30 (.node 27 (.agg [.int .i64, .int .i64, .int .i64, .int .i64, .int .i64, .int .i64]) (tI 25 (uO 24) .nil) (uI 29)) (tI 33 (uI 31) (uI 35))) (tI 43 (tI 40 (uI 38) (uO 41)) (tO 46 (uI 45) (uI 48))))) (tO 70 (tO 61 (tI 57 (.node 55 (.agg [.int .i64, .int .i64, .int .i64, .int .i64, .int .i64, .int .i64]) (tO 54 (uI 52) .nil) (.node 56 (.agg [.int .i64, .int .i64, .int .i64]) .nil .nil)) (tB 59 (uG 58) (uB 60))) (tB 66 (tI 64 (uI 62) (uG 65)) (tO 68 (uB 67) (uI 69)))) (tI 80 (tI 76 (tG 74 (tI 73 (uI 71) .nil) (uI 75)) (tB 78 (uB 77) (uO 79))) (tG 85 (tI 82 (uO 81) (uI 84)) (tI 87 (uI 86) (uO 88))))))
def q37 (pg : Prg) (v1 v2 v7 : PV) (x8 x9 x10 : Int) (vc0_0 vc0_1 : PV) (vc0_2 vc0_3 vc0_4 : PV) (gh : List GObj) : DR := stK 1 v1 (stK 1 v2 (stK 1 v7 (some (.normal, ⟨[(1, v1), (2, v2), (3, .ptr false 0 0), (7, v7), (8, I x8), (9, I x9), (10, (I (IntKind.i64.wrap (x10 + 1))))], [[vc0_0, vc0_1, vc0_2, vc0_3, vc0_4]], gh⟩))))
theorem q37_ {v1 v2 v7 : PV} {x8 x9 x10 : Int} {vc0_0 vc0_1 : PV} {vc0_2 vc0_3 vc0_4 : PV} (h : q37 pg v1 v2 v7 x8 x9 x10 vc0_0 vc0_1 vc0_2 vc0_3 vc0_4 gh = some (e, s)) : runL pg ql ⟨[(1, v1), (2, v2), (3, .ptr false 0 0), (7, v7), (8, I x8), (9, I x9), (10, I x10)], [[vc0_0, vc0_1, vc0_2, vc0_3, vc0_4]], gh⟩ = some (e, s) :=
 ji2 q58 (Eq.trans (by kernel_rfl) h)
def qk (pg : Prg) (v1 v2 v7 : PV) (x8 x9 x10 : Int) (vc0_0 vc0_1 : PV) (vc0_2 vc0_3 vc0_4 : PV) (gh : List GObj) : DR := isC (degr vc0_0) (lenS (degr (degr vc0_0)) fun n1 => stK 1 v1 (stK 1 v2 (stK 1 v7 (
  br 20 (decide (x10 < (n1 : Int))) (isC (degr vc0_0) (
  idX 6 none (degr (degr vc0_0)) x10 fun p2 =>
  ldX [[vc0_0, vc0_1, vc0_2, vc0_3, vc0_4]] gh true 6 (degr p2) fun v3 => unA 6 v3 fun c4 c5 c6 c7 c8 c9 => unI .i64 c4 fun n10 => unI .i64 c5 fun n11 => unI .i64 c6 fun n12 => unI .i64 c7 fun n13 => unI .i64 c8 fun n14 => unI .i64 c9 fun n15 => stK 2 v1 (stK 2 v2 (stK 2 v7 (stK 2 v1 (stK 2 v2 (stK 2 v7 (stK 2 v1 (stK 2 v2 (stK 2 v7 (
  br 59 (n10 == 1) (isC (degr v7) (
  idX 1 none (degr (degr v7)) x10 fun p16 => unG p16 fun g17 o18 =>
  ob (ghCells gh g17) fun cs19 => gb (stOk 1 o18 [I n15] cs19) (stK 1 v1 (stK 1 v2 (stK 1 v7 (stK 1 v1 (stK 1 v2 (stK 1 v7 (
  kR (runL pg ql ⟨[(1, v1), (2, v2), (3, .ptr false 0 0), (7, v7), (8, I x8), (9, I x9), (10, I x10)], [[vc0_0, vc0_1, vc0_2, vc0_3, vc0_4]], (List.set gh g17 (.cells (spliceAt cs19 o18 [I n15])))⟩) (fun e s => po [1, 2, 3, 7, 8, 9, 10] 1 e s (fun e s => some (e, s)))))))))))) (stK 2 v1 (stK 2 v2 (stK 2 v7 (
  br 66 (n10 == 2) (isC (degr v7) (isC (degr v2) (
  idX 1 none (degr (degr v2)) x9 fun p20 =>
  ldX [[vc0_0, vc0_1, vc0_2, vc0_3, vc0_4], [I n10, I n11, I n12, I n13, I n14, I n15]] gh false 1 (degr p20) fun v21 => unI .i64 v21 fun n22 =>
  idX 1 none (degr (degr v7)) x10 fun p23 => unG p23 fun g24 o25 =>
  ob (ghCells gh g24) fun cs26 => gb (stOk 1 o25 [I n22] cs26) (stK 1 v1 (stK 1 v2 (stK 1 v7 (stK 1 v1 (stK 1 v2 (stK 1 v7 (stK 1 v1 (stK 1 v2 (stK 1 v7 (stK 1 v1 (stK 1 v2 (stK 1 v7 (
  kR (runL pg ql ⟨[(1, v1), (2, v2), (3, .ptr false 0 0), (7, v7), (8, I x8), (9, (I (IntKind.i64.wrap (x9 + 1)))), (10, I x10)], [[vc0_0, vc0_1, vc0_2, vc0_3, vc0_4]], (List.set gh g24 (.cells (spliceAt cs26 o25 [I n22])))⟩) (fun e s => po [1, 2, 3, 7, 8, 9, 10] 1 e s (fun e s => some (e, s))))))))))))))))))) (stK 2 v1 (stK 2 v2 (stK 2 v7 (
  br 77 (n10 == 3) (isC (degr v7) (isC (degr v1) (
  idX 1 none (degr (degr v1)) x8 fun p27 =>
  ldX [[vc0_0, vc0_1, vc0_2, vc0_3, vc0_4], [I n10, I n11, I n12, I n13, I n14, I n15]] gh false 1 (degr p27) fun v28 => unI .i64 v28 fun n29 =>
  idX 1 none (degr (degr v7)) x10 fun p30 => unG p30 fun g31 o32 =>
  ob (ghCells gh g31) fun cs33 => gb (stOk 1 o32 [I n29] cs33) (stK 1 v1 (stK 1 v2 (stK 1 v7 (stK 1 v1 (stK 1 v2 (stK 1 v7 (stK 1 v1 (stK 1 v2 (stK 1 v7 (stK 1 v1 (stK 1 v2 (stK 1 v7 (stK 1 v1 (stK 1 v2 (stK 1 v7 (
  kR (runL pg ql ⟨[(1, v1), (2, v2), (3, .ptr false 0 0), (7, v7), (8, (I (IntKind.i64.wrap (x8 + 1)))), (9, I x9), (10, I x10)], [[vc0_0, vc0_1, vc0_2, vc0_3, vc0_4]], (List.set gh g31 (.cells (spliceAt cs33 o32 [I n29])))⟩) (fun e s => po [1, 2, 3, 7, 8, 9, 10] 1 e s (fun e s => some (e, s)))))))))))))))))))))) (isC (degr v7) (isC (degr v7) (
  idX 1 none (degr (degr v7)) n12 fun p34 =>
  ldX [[vc0_0, vc0_1, vc0_2, vc0_3, vc0_4], [I n10, I n11, I n12, I n13, I n14, I n15]] gh false 1 (degr p34) fun v35 => unI .i64 v35 fun n36 => isC (degr v7) (
  idX 1 none (degr (degr v7)) n13 fun p37 =>
  ldX [[vc0_0, vc0_1, vc0_2, vc0_3, vc0_4], [I n10, I n11, I n12, I n13, I n14, I n15]] gh false 1 (degr p37) fun v38 => unI .i64 v38 fun n39 => isC (degr v7) (
  idX 1 none (degr (degr v7)) n14 fun p40 =>
  ldX [[vc0_0, vc0_1, vc0_2, vc0_3, vc0_4], [I n10, I n11, I n12, I n13, I n14, I n15]] gh false 1 (degr p40) fun v41 => unI .i64 v41 fun n42 => isC (degr vc0_0) (arK (degr (degr vc0_0)) (
  callR gh true (callL pg 102 [(degr (degr vc0_0)), .agg [I n10, I n11, I n12, I n13, I n14, I n15]] gh) fun r43 gh44 => unA 3 r43 fun c45 c46 c47 => unI .i64 c45 fun n48 => unI .i64 c46 fun n49 => unI .i64 c47 fun n50 =>
  callR gh44 true (callL pg 28 [I n10, I n11, I n36, I n39, I n42, I n15, .agg [I n48, I n49, I n50]] gh44) fun r51 gh52 => unI .i64 r51 fun n53 =>
  idX 1 none (degr (degr v7)) x10 fun p54 => unG p54 fun g55 o56 =>
  ob (ghCells gh52 g55) fun cs57 => gb (stOk 1 o56 [I n53] cs57) (stK 1 v1 (stK 1 v2 (stK 1 v7 (stK 1 v1 (stK 1 v2 (stK 1 v7 (stK 1 v1 (stK 1 v2 (stK 1 v7 (stK 1 v1 (stK 1 v2 (stK 1 v7 (
  kR (runL pg ql ⟨[(1, v1), (2, v2), (3, .ptr false 0 0), (7, v7), (8, I x8), (9, I x9), (10, I x10)], [[vc0_0, vc0_1, vc0_2, vc0_3, vc0_4]], (List.set gh52 g55 (.cells (spliceAt cs57 o56 [I n53])))⟩) (fun e s => po [1, 2, 3, 7, 8, 9, 10] 1 e s (fun e s => some (e, s)))))))))))))))))))))))))))))))))))))))))) (some ((.exit 0), ⟨[(1, v1), (2, v2), (3, .ptr false 0 0), (7, v7), (8, I x8), (9, I x9), (10, I x10), (20, (B (decide (x10 < (n1 : Int)))))], [[vc0_0, vc0_1, vc0_2, vc0_3, vc0_4]], gh⟩))))))
theorem qk_ {v1 v2 v7 : PV} {x8 x9 x10 : Int} {vc0_0 vc0_1 : PV} {vc0_2 vc0_3 vc0_4 : PV} (h : qk pg v1 v2 v7 x8 x9 x10 vc0_0 vc0_1 vc0_2 vc0_3 vc0_4 gh = some (e, s)) : runL pg qc5 ⟨[(1, v1), (2, v2), (3, .ptr false 0 0), (7, v7), (8, I x8), (9, I x9), (10, I x10)], [[vc0_0, vc0_1, vc0_2, vc0_3, vc0_4]], gh⟩ = some (e, s) :=
 ji2 q58 (Eq.trans (by kernel_rfl) h)
def qf4 (pg : Prg) (v7 : PV) (gh : List GObj) : DR := isC (degr v7) (stK 0 (degr v7) (some (.ret, ⟨[(6, (degr v7))], [], gh⟩)))
theorem qf4_ {v7 : PV} (h : qf4 pg v7 gh = some (e, s)) : runL pg q7n ⟨[(7, v7)], [], gh⟩ = some (e, s) :=
 ji2 q58 (Eq.trans (by kernel_rfl) h)
def qf5 (pg : Prg) (v0_0 v0_1 : PV) (v0_2 v0_3 : PV) (v0_4 v1 v2 : PV) (gh : List GObj) : DR := onK (degr1 v0_0) (onK (degr1 v0_1) (onK (degr1 v0_2) (onK (degr1 v0_3) (onK (degr1 v0_4) (stK 1 v1 (stK 1 v2 (isC (degr (degr1 v0_0)) (lenS (degr (degr (degr1 v0_0))) fun n1 => gd (mkOk (n1 : Int) 8 1 (I 0)) (stK 1 v1 (stK 1 v2 (stK 1 v1 (stK 1 v2 (
  kR (runL pg q40 ⟨[(1, v1), (2, v2), (3, .ptr false 0 0), (7, (.bs true (List.length gh) 0 (Int.toNat (n1 : Int)) 1)), (8, I 0), (9, I 0), (10, I 0)], [[(degr1 v0_0), (degr1 v0_1), (degr1 v0_2), (degr1 v0_3), (degr1 v0_4)]], (gh ++ [.cells (List.flatMap PV.cells (List.replicate (Int.toNat (n1 : Int)) (I 0)))])⟩) (fun e s => nx e s (fun e s => some (e, s)) fun s => kR (runL pg q7n s) (fun e s => some (e, s))))))))))))))))
theorem qf5_ {v0_0 v0_1 : PV} {v0_2 v0_3 : PV} {v0_4 v1 v2 : PV} (h : qf5 pg v0_0 v0_1 v0_2 v0_3 v0_4 v1 v2 gh = some (e, s)) : runL pg qc6 ⟨[(0, .agg [v0_0, v0_1, v0_2, v0_3, v0_4]), (1, v1), (2, v2)], [], gh⟩ = some (e, s) :=
 ji2 q58 (Eq.trans (by kernel_rfl) h)
end
end Go.Lw
end

/-! What the code of function ref_PairOf comes to, piece by piece. Written by program (dprint.py). -/
section
set_option maxRecDepth 10000
set_option maxHeartbeats 4000000
namespace Go.Lw
open Go
noncomputable section
variable {pg : Prg} {gh : List GObj} {e : IExit} {s : St}
def q9c : Tr := (tI 11 (tI 6 (tI 4 (tI 1 (uO 0) .nil) (uI 5)) (tB 9 (tI 8 (uO 7) .nil) (uI 10))) (tB 18 (tI 16 (tI 13 (uO 12) .nil) (uI 17)) (tI 20 (uO 19) (uI 23))))
def q59 (pg : Prg) (v0 : PV) (x1 x5 : Int) (gh : List GObj) : DR := isC (degr v0) (lenS (degr (degr v0)) fun n1 => stK 0 v0 (
  br 9 (decide (x5 < (n1 : Int))) (isC (degr v0) (
  idX 2 none (degr (degr v0)) x5 fun p2 => faX (degr p2) 0 fun p3 =>
  ldX [] gh false 1 (degr p3) fun v4 => unI .i64 v4 fun n5 => stK 0 v0 (
  br 18 (n5 == x1) (isC (degr v0) (
  idX 2 none (degr (degr v0)) x5 fun p6 => faX (degr p6) 1 fun p7 =>
  ldX [] gh false 1 (degr p7) fun v8 => unI .i64 v8 fun n9 => some (.ret, ⟨[(4, I n9)], [], gh⟩))) (stK 0 v0 (stK 0 v0 (some (.normal, ⟨[(0, v0), (1, I x1), (5, (I (IntKind.i64.wrap (x5 + 1))))], [], gh⟩))))))) (some ((.exit 0), ⟨[(0, v0), (1, I x1), (5, I x5), (9, (B (decide (x5 < (n1 : Int)))))], [], gh⟩))))
theorem q59_ {v0 : PV} {x1 x5 : Int} (h : q59 pg v0 x1 x5 gh = some (e, s)) : runL pg qcc ⟨[(0, v0), (1, I x1), (5, I x5)], [], gh⟩ = some (e, s) :=
 ji2 q9c (Eq.trans (by kernel_rfl) h)
def qht (pg : Prg)  (gh : List GObj) : DR := some (.ret, ⟨[(4, (I (-1)))], [], gh⟩)
theorem qht_  (h : qht pg  gh = some (e, s)) : runL pg q7u ⟨[], [], gh⟩ = some (e, s) :=
 ji2 q9c (Eq.trans (by kernel_rfl) h)
def q9d (pg : Prg) (v0 : PV) (x1 : Int) (gh : List GObj) : DR := stK 0 v0 (stK 0 v0 (
  kR (runL pg q7t ⟨[(0, v0), (1, I x1), (5, I 0)], [], gh⟩) (fun e s => nx e s (fun e s => some (e, s)) fun s => kR (runL pg q7u s) (fun e s => some (e, s)))))
theorem q9d_ {v0 : PV} {x1 : Int} (h : q9d pg v0 x1 gh = some (e, s)) : runL pg qcd ⟨[(0, v0), (1, I x1)], [], gh⟩ = some (e, s) :=
 ji2 q9c (Eq.trans (by kernel_rfl) h)
end
end Go.Lw
end

/-! What the code of function eval_First comes to, piece by piece. Written by program (dprint.py). -/
section
set_option maxRecDepth 10000
set_option maxHeartbeats 4000000
namespace Go.Lw
open Go
noncomputable section
variable {pg : Prg} {gh : List GObj} {e : IExit} {s : St}
def q1g : Tr := (tI 34 (.node 17 (.agg [.any, .any, .any, .any, .any]) (tO 10 (tO 5 (tO 1 (.node 0 (.agg [.any, .any, .any, .any, .any]) .nil .nil) (uO 4)) (tO 7 (uO 6) .nil)) (tB 14 (tI 12 (uI 11) (uI 13)) (tO 16 (.node 15 (.agg [.any, .any, .any, .any, .any]) .nil .nil) .nil))) (tO 24 (tO 21 (tO 19 (uO 18) (.node 20 (.agg [.any, .any, .any, .any, .any]) .nil .nil)) (tO 23 (uO 22) .nil)) (tB 29 (tI 27 (uO 26) (uI 28)) (tO 32 (.node 31 (.agg [.int .i64, .int .i64]) .nil .nil) .nil)))) (.node 51 (.tup 2) (tI 43 (tI 40 (tI 37 (uO 35) (uI 39)) (tI 42 (uO 41) .nil)) (.node 48 (.tup 2) (tI 45 (uB 44) (uI 47)) (tI 50 (uO 49) .nil))) (tI 59 (tB 55 (tB 53 (uI 52) (uB 54)) (tI 57 (uO 56) .nil)) (tO 63 (tI 61 (uO 60) (uO 62)) (tO 65 (uI 64) .nil)))))
def q9e (pg : Prg) (v1 v5 : PV) (v6 v7 v26 : PV) (x27 x28 : Int) (gh : List GObj) : DR :=
  br 29 (decide (x28 < x27)) (
  idX 2 none (degr v26) x28 fun p1 =>
  ldX [] gh true 2 (degr p1) fun v2 => unA 2 v2 fun c3 c4 => unI .i64 c3 fun n5 => unI .i64 c4 fun n6 => stK 1 v1 (stK 1 v5 (stK 1 v6 (stK 1 v7 (stK 1 v26 (isC (degr v7) (isC (degr v6) (
  idX 1 none (degr (degr v6)) n6 fun p7 =>
  ldX [[I n5, I n6]] gh false 1 (degr p7) fun v8 => unI .i64 v8 fun n9 =>
  muX gh 0 (degr (degr v7)) (I n5) (I n9) fun gh10 => stK 0 v1 (stK 0 v5 (stK 0 v6 (stK 0 v7 (stK 0 v26 (stK 0 v1 (stK 0 v5 (stK 0 v6 (stK 0 v7 (stK 0 v26 (stK 0 v1 (stK 0 v5 (stK 0 v6 (stK 0 v7 (stK 0 v26 (some (.normal, ⟨[(1, v1), (5, v5), (6, v6), (7, v7), (26, v26), (27, I x27), (28, (I (IntKind.i64.wrap (x28 + 1))))], [], gh10⟩)))))))))))))))))))))))) (some ((.exit 0), ⟨[(1, v1), (5, v5), (6, v6), (7, v7), (26, v26), (27, I x27), (28, I x28), (29, (B (decide (x28 < x27))))], [], gh⟩))
theorem q9e_ {v1 v5 : PV} {v6 v7 v26 : PV} {x27 x28 : Int} (h : q9e pg v1 v5 v6 v7 v26 x27 x28 gh = some (e, s)) : runL pg q9u ⟨[(1, v1), (5, v5), (6, v6), (7, v7), (26, v26), (27, I x27), (28, I x28)], [], gh⟩ = some (e, s) :=
 ji2 q1g (Eq.trans (by kernel_rfl) h)
def qf6 (pg : Prg) (v1 v7 v10 : PV) (x13 : Int) (v41 : PV) (x42 x43 : Int) (gh : List GObj) : DR :=
  apX 1 8 v10 (.sl false 1 [I x13]) fun l1 => stK 0 v1 (stK 0 v7 (stK 0 v41 (some (.normal, ⟨[(1, v1), (7, v7), (10, .sl true 1 l1), (41, v41), (42, I x42), (43, I x43)], [], gh⟩))))
theorem qf6_ {v1 v7 v10 : PV} {x13 : Int} {v41 : PV} {x42 x43 : Int} (h : qf6 pg v1 v7 v10 x13 v41 x42 x43 gh = some (e, s)) : runL pg q1v ⟨[(1, v1), (7, v7), (10, v10), (13, I x13), (41, v41), (42, I x42), (43, I x43)], [], gh⟩ = some (e, s) :=
 ji2 q1g (Eq.trans (by kernel_rfl) h)
def qf7 (pg : Prg) (v1 v7 : PV) (v10 v41 : PV) (x42 x43 : Int) (gh : List GObj) : DR := stK 0 v1 (stK 0 v7 (stK 0 v10 (stK 0 v41 (some (.normal, ⟨[(1, v1), (7, v7), (10, v10), (41, v41), (42, I x42), (43, (I (IntKind.i64.wrap (x43 + 1))))], [], gh⟩)))))
theorem qf7_ {v1 v7 : PV} {v10 v41 : PV} {x42 x43 : Int} (h : qf7 pg v1 v7 v10 v41 x42 x43 gh = some (e, s)) : runL pg q1w ⟨[(1, v1), (7, v7), (10, v10), (41, v41), (42, I x42), (43, I x43)], [], gh⟩ = some (e, s) :=
 ji2 q1g (Eq.trans (by kernel_rfl) h)
def q5a (pg : Prg) (v1 v7 : PV) (v10 v41 : PV) (x42 x43 : Int) (gh : List GObj) : DR :=
  br 44 (decide (x43 < x42)) (
  idX 1 none (degr v41) x43 fun p1 =>
  ldX [] gh false 1 (degr p1) fun v2 => unI .i64 v2 fun n3 => stK 0 v1 (stK 0 v7 (stK 0 v10 (stK 0 v41 (isC (degr v7) (
  lkX gh 0 (degr (degr v7)) (I n3) fun r4 => unI .i64 (degr1 (degr1 (Option.getD r4 (I 0)))) fun n5 => stK 0 v1 (stK 0 v7 (stK 0 v10 (stK 0 v41 (stK 0 v1 (stK 0 v7 (stK 0 v10 (stK 0 v41 (
  br 55 (!(Option.isSome r4)) (isC (degr v1) (
  idX 1 none (degr (degr v1)) x43 fun p6 =>
  ldX [] gh false 1 (degr p6) fun v8 => unI .i64 v8 fun n9 => stK 0 v1 (stK 0 v7 (stK 0 v10 (stK 0 v41 (stK 0 v1 (stK 0 v7 (stK 0 v10 (stK 0 v41 (
  kR (runL pg q1v ⟨[(1, v1), (7, v7), (10, v10), (13, I n9), (41, v41), (42, I x42), (43, I x43)], [], gh⟩) (fun e s => bk 3 e s (fun e s => nx e s (fun e s => po [1, 7, 10, 41, 42, 43] 0 e s (fun e s => some (e, s))) fun s => kR (runL pg q1w s) (fun e s => po [1, 7, 10, 41, 42, 43] 0 e s (fun e s => some (e, s))))))))))))))) (stK 0 v1 (stK 0 v7 (stK 0 v10 (stK 0 v41 (
  kR (runL pg q1v ⟨[(1, v1), (7, v7), (10, v10), (13, I n5), (41, v41), (42, I x42), (43, I x43)], [], gh⟩) (fun e s => bk 3 e s (fun e s => nx e s (fun e s => po [1, 7, 10, 41, 42, 43] 0 e s (fun e s => some (e, s))) fun s => kR (runL pg q1w s) (fun e s => po [1, 7, 10, 41, 42, 43] 0 e s (fun e s => some (e, s)))))))))))))))))))))))) (some ((.exit 2), ⟨[(1, v1), (7, v7), (10, v10), (41, v41), (42, I x42), (43, I x43), (44, (B (decide (x43 < x42))))], [], gh⟩))
theorem q5a_ {v1 v7 : PV} {v10 v41 : PV} {x42 x43 : Int} (h : q5a pg v1 v7 v10 v41 x42 x43 gh = some (e, s)) : runL pg q9v ⟨[(1, v1), (7, v7), (10, v10), (41, v41), (42, I x42), (43, I x43)], [], gh⟩ = some (e, s) :=
 ji2 q1g (Eq.trans (by kernel_rfl) h)
def qf8 (pg : Prg) (v10 : PV) (gh : List GObj) : DR := isC (degr v10) (stK 0 (degr v10) (some (.ret, ⟨[(4, (degr v10))], [], gh⟩)))
theorem qf8_ {v10 : PV} (h : qf8 pg v10 gh = some (e, s)) : runL pg q3e ⟨[(10, v10)], [], gh⟩ = some (e, s) :=
 ji2 q1g (Eq.trans (by kernel_rfl) h)
def qf9 (pg : Prg) (v1 v5 v7 : PV) (gh : List GObj) : DR := isC (degr v5) (lenS (degr (degr v5)) fun n1 => stK 0 v1 (stK 0 v7 (stK 0 (degr v5) (
  kR (runL pg q3d ⟨[(1, v1), (7, v7), (10, .sl true 1 []), (41, (degr v5)), (42, (I (n1 : Int))), (43, I 0)], [], gh⟩) (fun e s => nx e s (fun e s => some (e, s)) fun s => kR (runL pg q3e s) (fun e s => some (e, s)))))))
theorem qf9_ {v1 v5 v7 : PV} (h : qf9 pg v1 v5 v7 gh = some (e, s)) : runL pg q3f ⟨[(1, v1), (5, v5), (7, v7)], [], gh⟩ = some (e, s) :=
 ji2 q1g (Eq.trans (by kernel_rfl) h)
def qfa (pg : Prg) (v0_0 v0_1 : PV) (v0_2 v0_3 : PV) (v0_4 v1 : PV) (gh : List GObj) : DR := onK (degr1 v0_0) (onK (degr1 v0_1) (onK (degr1 v0_2) (onK (degr1 v0_3) (onK (degr1 v0_4) (stK 1 v1 (onK (degr1 (degr1 (degr1 v0_0))) (onK (degr1 (degr1 (degr1 v0_1))) (onK (degr1 (degr1 (degr1 v0_2))) (onK (degr1 (degr1 (degr1 v0_3))) (onK (degr1 (degr1 (degr1 v0_4))) (
  callR gh true (callL pg 101 [(.agg [(degr1 (degr1 (degr1 v0_0))), (degr1 (degr1 (degr1 v0_1))), (degr1 (degr1 (degr1 v0_2))), (degr1 (degr1 (degr1 v0_3))), (degr1 (degr1 (degr1 v0_4)))]), I 3] gh) fun r1 gh2 => isC r1 (stK 1 v1 (stK 1 r1 (isC (degr r1) (arK (degr (degr r1)) (
  callR gh2 true (callL pg 142 [(degr (degr r1))] gh2) fun r3 gh4 => isC r3 (onK (degr1 (degr1 (degr1 v0_0))) (onK (degr1 (degr1 (degr1 v0_1))) (onK (degr1 (degr1 (degr1 v0_2))) (onK (degr1 (degr1 (degr1 v0_3))) (onK (degr1 (degr1 (degr1 v0_4))) (
  callR gh4 true (callL pg 101 [(.agg [(degr1 (degr1 (degr1 v0_0))), (degr1 (degr1 (degr1 v0_1))), (degr1 (degr1 (degr1 v0_2))), (degr1 (degr1 (degr1 v0_3))), (degr1 (degr1 (degr1 v0_4)))]), I 2] gh4) fun r5 gh6 => isC r5 (arK (degr r5) (
  callR gh6 true (callL pg 142 [(degr r5)] gh6) fun r7 gh8 => isC r7 (onK (degr1 (degr1 (degr1 v0_0))) (onK (degr1 (degr1 (degr1 v0_1))) (onK (degr1 (degr1 (degr1 v0_2))) (onK (degr1 (degr1 (degr1 v0_3))) (onK (degr1 (degr1 (degr1 v0_4))) (arK (degr r3) (arK (degr r7) (
  callR gh8 true (callL pg 139 [(.agg [(degr1 (degr1 (degr1 v0_0))), (degr1 (degr1 (degr1 v0_1))), (degr1 (degr1 (degr1 v0_2))), (degr1 (degr1 (degr1 v0_3))), (degr1 (degr1 (degr1 v0_4)))]), (degr r3), (degr r7)] gh8) fun r9 gh10 => isC r9 (stK 1 v1 (stK 1 r1 (stK 1 r9 (stK 1 v1 (stK 1 r1 (stK 1 r9 (isC (degr (degr1 v0_1)) (lenS (degr (degr (degr1 v0_1))) fun n11 => stK 0 v1 (stK 0 r1 (stK 0 r9 (stK 0 (degr (degr1 v0_1)) (
  kR (runL pg q3c ⟨[(1, v1), (5, r1), (6, r9), (7, (.mp (List.length gh10))), (26, (degr (degr1 v0_1))), (27, (I (n11 : Int))), (28, I 0)], [], (gh10 ++ [.map []])⟩) (fun e s => nx e s (fun e s => some (e, s)) fun s => kR (runL pg q3f s) (fun e s => some (e, s)))))))))))))))))))))))))))))))))))))))))))))))
theorem qfa_ {v0_0 v0_1 : PV} {v0_2 v0_3 : PV} {v0_4 v1 : PV} (h : qfa pg v0_0 v0_1 v0_2 v0_3 v0_4 v1 gh = some (e, s)) : runL pg q9w ⟨[(0, .agg [v0_0, v0_1, v0_2, v0_3, v0_4]), (1, v1)], [], gh⟩ = some (e, s) :=
 ji2 q1g (Eq.trans (by kernel_rfl) h)
end
end Go.Lw
end

/-! What the code of function ref_BeginOf comes to, piece by piece. Written by program (dprint.py). -/
section
set_option maxRecDepth 10000
set_option maxHeartbeats 4000000
namespace Go.Lw
open Go
noncomputable section
variable {pg : Prg} {gh : List GObj} {e : IExit} {s : St}
def q5b : Tr := (tB 24 (tO 13 (tO 7 (tO 4 (tO 1 (.node 0 (.agg [.any, .any, .any, .any, .any]) .nil .nil) .nil) (tO 6 (uO 5) .nil)) (.node 10 (.agg [.any, .any, .any, .any, .any]) (tI 9 (uI 8) .nil) (.node 12 (.agg [.any, .any, .any, .any, .any]) (uO 11) .nil))) (tO 19 (.node 16 (.agg [.any, .any, .any, .any, .any]) (tO 15 (uI 14) .nil) (tI 18 (uO 17) .nil)) (tO 22 (tI 21 (uO 20) .nil) (uI 23)))) (tI 38 (tI 32 (tO 28 (tI 26 (uI 25) .nil) (tI 30 (uO 29) .nil)) (tB 35 (tI 34 (uI 33) .nil) (tO 37 (uO 36) .nil))) (tI 45 (tO 42 (tO 41 (uI 40) .nil) (tO 44 (uO 43) .nil)) (tO 49 (tO 48 (uI 47) .nil) (uO 50)))))
def qfb (pg : Prg) (v1 v5 : PV) (v6 v7 : PV) (x8 : Int) (vc0_0 vc0_1 : PV) (vc0_2 vc0_3 vc0_4 : PV) (gh : List GObj) : DR := stK 1 v1 (stK 1 v5 (stK 1 v6 (stK 1 v7 (some (.normal, ⟨[(1, v1), (2, .ptr false 0 0), (5, v5), (6, v6), (7, v7), (8, (I (IntKind.i64.wrap (x8 + 1))))], [[vc0_0, vc0_1, vc0_2, vc0_3, vc0_4]], gh⟩)))))
theorem qfb_ {v1 v5 : PV} {v6 v7 : PV} {x8 : Int} {vc0_0 vc0_1 : PV} {vc0_2 vc0_3 vc0_4 : PV} (h : qfb pg v1 v5 v6 v7 x8 vc0_0 vc0_1 vc0_2 vc0_3 vc0_4 gh = some (e, s)) : runL pg q2n ⟨[(1, v1), (2, .ptr false 0 0), (5, v5), (6, v6), (7, v7), (8, I x8)], [[vc0_0, vc0_1, vc0_2, vc0_3, vc0_4]], gh⟩ = some (e, s) :=
 ji2 q5b (Eq.trans (by kernel_rfl) h)
def q5c (pg : Prg) (v1 v5 : PV) (v6 v7 : PV) (x8 : Int) (vc0_0 vc0_1 : PV) (vc0_2 vc0_3 vc0_4 : PV) (gh : List GObj) : DR := isC (degr v5) (lenS (degr (degr v5)) fun n1 => stK 1 v1 (stK 1 v5 (stK 1 v6 (stK 1 v7 (
  br 24 (decide (x8 < (n1 : Int))) (isC (degr vc0_1) (isC (degr v5) (
  idX 1 none (degr (degr v5)) x8 fun p2 =>
  ldX [[vc0_0, vc0_1, vc0_2, vc0_3, vc0_4]] gh false 1 (degr p2) fun v3 => unI .i64 v3 fun n4 => arK (degr (degr vc0_1)) (
  callR gh true (callL pg 137 [(degr (degr vc0_1)), I n4] gh) fun r5 gh6 => unI .i64 r5 fun n7 => stK 1 v1 (stK 1 v5 (stK 1 v6 (stK 1 v7 (stK 1 v1 (stK 1 v5 (stK 1 v6 (stK 1 v7 (
  br 35 (decide (0 ≤ n7)) (isC (degr v6) (
  idX 1 none (degr (degr v6)) n7 fun p8 =>
  ldX [[vc0_0, vc0_1, vc0_2, vc0_3, vc0_4]] gh6 false 1 (degr p8) fun v9 => unI .i64 v9 fun n10 =>
  apX 1 8 v7 (.sl false 1 [I n10]) fun l11 => stK 1 v1 (stK 1 v5 (stK 1 v6 (stK 1 v1 (stK 1 v5 (stK 1 v6 (
  kR (runL pg q2n ⟨[(1, v1), (2, .ptr false 0 0), (5, v5), (6, v6), (7, .sl true 1 l11), (8, I x8)], [[vc0_0, vc0_1, vc0_2, vc0_3, vc0_4]], gh6⟩) (fun e s => po [1, 2, 5, 6, 7, 8] 1 e s (fun e s => some (e, s))))))))))) (isC (degr v1) (
  idX 1 none (degr (degr v1)) x8 fun p12 =>
  ldX [[vc0_0, vc0_1, vc0_2, vc0_3, vc0_4]] gh6 false 1 (degr p12) fun v13 => unI .i64 v13 fun n14 =>
  apX 1 8 v7 (.sl false 1 [I n14]) fun l15 => stK 1 v1 (stK 1 v5 (stK 1 v6 (stK 1 v1 (stK 1 v5 (stK 1 v6 (
  kR (runL pg q2n ⟨[(1, v1), (2, .ptr false 0 0), (5, v5), (6, v6), (7, .sl true 1 l15), (8, I x8)], [[vc0_0, vc0_1, vc0_2, vc0_3, vc0_4]], gh6⟩) (fun e s => po [1, 2, 5, 6, 7, 8] 1 e s (fun e s => some (e, s))))))))))))))))))))))) (some ((.exit 0), ⟨[(1, v1), (2, .ptr false 0 0), (5, v5), (6, v6), (7, v7), (8, I x8), (24, (B (decide (x8 < (n1 : Int)))))], [[vc0_0, vc0_1, vc0_2, vc0_3, vc0_4]], gh⟩)))))))
theorem q5c_ {v1 v5 : PV} {v6 v7 : PV} {x8 : Int} {vc0_0 vc0_1 : PV} {vc0_2 vc0_3 vc0_4 : PV} (h : q5c pg v1 v5 v6 v7 x8 vc0_0 vc0_1 vc0_2 vc0_3 vc0_4 gh = some (e, s)) : runL pg qc3 ⟨[(1, v1), (2, .ptr false 0 0), (5, v5), (6, v6), (7, v7), (8, I x8)], [[vc0_0, vc0_1, vc0_2, vc0_3, vc0_4]], gh⟩ = some (e, s) :=
 ji2 q5b (Eq.trans (by kernel_rfl) h)
def qfc (pg : Prg) (v7 : PV) (gh : List GObj) : DR := isC (degr v7) (stK 0 (degr v7) (some (.ret, ⟨[(4, (degr v7))], [], gh⟩)))
theorem qfc_ {v7 : PV} (h : qfc pg v7 gh = some (e, s)) : runL pg q7l ⟨[(7, v7)], [], gh⟩ = some (e, s) :=
 ji2 q5b (Eq.trans (by kernel_rfl) h)
def qfd (pg : Prg) (v0_0 v0_1 : PV) (v0_2 v0_3 : PV) (v0_4 v1 : PV) (gh : List GObj) : DR := onK (degr1 v0_0) (onK (degr1 v0_1) (onK (degr1 v0_2) (onK (degr1 v0_3) (onK (degr1 v0_4) (stK 1 v1 (onK (degr1 (degr1 (degr1 v0_0))) (onK (degr1 (degr1 (degr1 v0_1))) (onK (degr1 (degr1 (degr1 v0_2))) (onK (degr1 (degr1 (degr1 v0_3))) (onK (degr1 (degr1 (degr1 v0_4))) (
  callR gh true (callL pg 39 [(.agg [(degr1 (degr1 (degr1 v0_0))), (degr1 (degr1 (degr1 v0_1))), (degr1 (degr1 (degr1 v0_2))), (degr1 (degr1 (degr1 v0_3))), (degr1 (degr1 (degr1 v0_4)))]), I 3] gh) fun r1 gh2 => isC r1 (stK 1 v1 (stK 1 r1 (isC (degr r1) (lenS (degr (degr r1)) fun n3 => gd (mkOk (n3 : Int) 8 1 (I 0)) (gd (isFlat (I 0)) <| onK (degr1 (degr1 (degr1 v0_0))) (onK (degr1 (degr1 (degr1 v0_1))) (onK (degr1 (degr1 (degr1 v0_2))) (onK (degr1 (degr1 (degr1 v0_3))) (onK (degr1 (degr1 (degr1 v0_4))) (
  callR gh2 true (callL pg 39 [(.agg [(degr1 (degr1 (degr1 v0_0))), (degr1 (degr1 (degr1 v0_1))), (degr1 (degr1 (degr1 v0_2))), (degr1 (degr1 (degr1 v0_3))), (degr1 (degr1 (degr1 v0_4)))]), I 2] gh2) fun r4 gh5 => isC r4 (lenS (degr r4) fun n6 => gd (mkOk (n6 : Int) 8 1 (I 0)) (gd (isFlat (I 0)) <| onK (degr1 (degr1 (degr1 v0_0))) (onK (degr1 (degr1 (degr1 v0_1))) (onK (degr1 (degr1 (degr1 v0_2))) (onK (degr1 (degr1 (degr1 v0_3))) (onK (degr1 (degr1 (degr1 v0_4))) (arK (degr (.sl true 1 (List.replicate (Int.toNat (n3 : Int)) (I 0)))) (arK (degr (.sl true 1 (List.replicate (Int.toNat (n6 : Int)) (I 0)))) (
  callR gh5 true (callL pg 132 [(.agg [(degr1 (degr1 (degr1 v0_0))), (degr1 (degr1 (degr1 v0_1))), (degr1 (degr1 (degr1 v0_2))), (degr1 (degr1 (degr1 v0_3))), (degr1 (degr1 (degr1 v0_4)))]), (degr (.sl true 1 (List.replicate (Int.toNat (n3 : Int)) (I 0)))), (degr (.sl true 1 (List.replicate (Int.toNat (n6 : Int)) (I 0))))] gh5) fun r7 gh8 => isC r7 (stK 1 v1 (stK 1 r1 (stK 1 r7 (stK 1 v1 (stK 1 r1 (stK 1 r7 (
  kR (runL pg q3z ⟨[(1, v1), (2, .ptr false 0 0), (5, r1), (6, r7), (7, .sl true 1 []), (8, I 0)], [[(degr1 v0_0), (degr1 v0_1), (degr1 v0_2), (degr1 v0_3), (degr1 v0_4)]], gh8⟩) (fun e s => nx e s (fun e s => some (e, s)) fun s => kR (runL pg q7l s) (fun e s => some (e, s))))))))))))))))))))))))))))))))))))))))
theorem qfd_ {v0_0 v0_1 : PV} {v0_2 v0_3 : PV} {v0_4 v1 : PV} (h : qfd pg v0_0 v0_1 v0_2 v0_3 v0_4 v1 gh = some (e, s)) : runL pg qc4 ⟨[(0, .agg [v0_0, v0_1, v0_2, v0_3, v0_4]), (1, v1)], [], gh⟩ = some (e, s) :=
 ji2 q5b (Eq.trans (by kernel_rfl) h)
end
end Go.Lw
end

/-! What the code of function eval_Next comes to, piece by piece. Written by program (dprint.py). -/
section
set_option maxRecDepth 10000
set_option maxHeartbeats 4000000
namespace Go.Lw
open Go
noncomputable section
variable {pg : Prg} {gh : List GObj} {e : IExit} {s : St}
def q38 : Tr := (tI 26 (tI 14 (tO 8 (tO 4 (tO 1 (.node 0 (.agg [.any, .any, .any, .any, .any]) .nil .nil) .nil) (uO 5)) (tO 11 (uI 10) (uO 13))) (tO 19 (tB 16 (uI 15) (.node 18 (.agg [.int .i64, .int .i64]) .nil .nil)) (tO 22 (uI 21) (uI 24)))) (tO 35 (tI 30 (.node 28 (.agg [.any, .any, .any, .any, .any]) (uI 27) (uO 29)) (tB 32 (uI 31) (uI 34))) (tO 39 (tI 37 (uO 36) (uI 38)) (tI 41 (uO 40) (uO 42)))))
def q9f (pg : Prg) (v1 v5 v13 : PV) (x14 x15 : Int) (vc0_0 vc0_1 : PV) (vc0_2 vc0_3 vc0_4 : PV) (gh : List GObj) : DR :=
  br 16 (decide (x15 < x14)) (
  idX 2 none (degr v13) x15 fun p1 =>
  ldX [[vc0_0, vc0_1, vc0_2, vc0_3, vc0_4]] gh true 2 (degr p1) fun v2 => unA 2 v2 fun c3 c4 => unI .i64 c3 fun n5 => unI .i64 c4 fun n6 => stK 2 v1 (stK 2 v5 (stK 2 v13 (isC (degr v5) (isC (degr v1) (
  idX 1 none (degr (degr v1)) n6 fun p7 =>
  ldX [[vc0_0, vc0_1, vc0_2, vc0_3, vc0_4], [I n5, I n6]] gh false 1 (degr p7) fun v8 => unI .i64 v8 fun n9 =>
  muX gh 0 (degr (degr v5)) (I n5) (I n9) fun gh10 => stK 1 v1 (stK 1 v5 (stK 1 v13 (stK 1 v1 (stK 1 v5 (stK 1 v13 (stK 1 v1 (stK 1 v5 (stK 1 v13 (some (.normal, ⟨[(1, v1), (2, .ptr false 0 0), (5, v5), (13, v13), (14, I x14), (15, (I (IntKind.i64.wrap (x15 + 1))))], [[vc0_0, vc0_1, vc0_2, vc0_3, vc0_4]], gh10⟩)))))))))))))))) (some ((.exit 0), ⟨[(1, v1), (2, .ptr false 0 0), (5, v5), (13, v13), (14, I x14), (15, I x15), (16, (B (decide (x15 < x14))))], [[vc0_0, vc0_1, vc0_2, vc0_3, vc0_4]], gh⟩))
theorem q9f_ {v1 v5 v13 : PV} {x14 x15 : Int} {vc0_0 vc0_1 : PV} {vc0_2 vc0_3 vc0_4 : PV} (h : q9f pg v1 v5 v13 x14 x15 vc0_0 vc0_1 vc0_2 vc0_3 vc0_4 gh = some (e, s)) : runL pg q9z ⟨[(1, v1), (2, .ptr false 0 0), (5, v5), (13, v13), (14, I x14), (15, I x15)], [[vc0_0, vc0_1, vc0_2, vc0_3, vc0_4]], gh⟩ = some (e, s) :=
 ji2 q38 (Eq.trans (by kernel_rfl) h)
def q9g (pg : Prg) (v5 v8 v29 : PV) (x30 x31 : Int) (gh : List GObj) : DR :=
  br 32 (decide (x31 < x30)) (
  idX 1 none (degr v29) x31 fun p1 =>
  ldX [] gh false 1 (degr p1) fun v2 => unI .i64 v2 fun n3 => stK 0 v5 (stK 0 v8 (stK 0 v29 (isC (degr v5) (
  lkX gh 0 (degr (degr v5)) (I n3) fun r4 => unI .i64 (Option.getD r4 (I 0)) fun n5 =>
  apX 1 8 v8 (.sl false 1 [I n5]) fun l6 => stK 0 v5 (stK 0 v29 (stK 0 v5 (stK 0 v29 (stK 0 v5 (stK 0 v29 (some (.normal, ⟨[(5, v5), (8, .sl true 1 l6), (29, v29), (30, I x30), (31, (I (IntKind.i64.wrap (x31 + 1))))], [], gh⟩)))))))))))) (some ((.exit 2), ⟨[(5, v5), (8, v8), (29, v29), (30, I x30), (31, I x31), (32, (B (decide (x31 < x30))))], [], gh⟩))
theorem q9g_ {v5 v8 v29 : PV} {x30 x31 : Int} (h : q9g pg v5 v8 v29 x30 x31 gh = some (e, s)) : runL pg qa0 ⟨[(5, v5), (8, v8), (29, v29), (30, I x30), (31, I x31)], [], gh⟩ = some (e, s) :=
 ji2 q38 (Eq.trans (by kernel_rfl) h)
def qfe (pg : Prg) (v8 : PV) (gh : List GObj) : DR := isC (degr v8) (stK 0 (degr v8) (some (.ret, ⟨[(4, (degr v8))], [], gh⟩)))
theorem qfe_ {v8 : PV} (h : qfe pg v8 gh = some (e, s)) : runL pg q3k ⟨[(8, v8)], [], gh⟩ = some (e, s) :=
 ji2 q38 (Eq.trans (by kernel_rfl) h)
def qff (pg : Prg) (v5 vc0_0 : PV) (vc0_1 vc0_2 : PV) (vc0_3 vc0_4 : PV) (gh : List GObj) : DR := onK (degr1 (degr1 vc0_0)) (onK (degr1 (degr1 vc0_1)) (onK (degr1 (degr1 vc0_2)) (onK (degr1 (degr1 vc0_3)) (onK (degr1 (degr1 vc0_4)) (
  callR gh true (callL pg 101 [(.agg [(degr1 (degr1 vc0_0)), (degr1 (degr1 vc0_1)), (degr1 (degr1 vc0_2)), (degr1 (degr1 vc0_3)), (degr1 (degr1 vc0_4))]), I 3] gh) fun r1 gh2 => isC r1 (lenS (degr r1) fun n3 => stK 0 v5 (stK 0 r1 (
  kR (runL pg q3j ⟨[(5, v5), (8, .sl true 1 []), (29, r1), (30, (I (n3 : Int))), (31, I 0)], [], gh2⟩) (fun e s => nx e s (fun e s => some (e, s)) fun s => kR (runL pg q3k s) (fun e s => some (e, s)))))))))))
theorem qff_ {v5 vc0_0 : PV} {vc0_1 vc0_2 : PV} {vc0_3 vc0_4 : PV} (h : qff pg v5 vc0_0 vc0_1 vc0_2 vc0_3 vc0_4 gh = some (e, s)) : runL pg q3l ⟨[(2, .ptr false 0 0), (5, v5)], [[vc0_0, vc0_1, vc0_2, vc0_3, vc0_4]], gh⟩ = some (e, s) :=
 ji2 q38 (Eq.trans (by kernel_rfl) h)
def qfg (pg : Prg) (v0_0 v0_1 : PV) (v0_2 v0_3 : PV) (v0_4 v1 : PV) (gh : List GObj) : DR := onK (degr1 v0_0) (onK (degr1 v0_1) (onK (degr1 v0_2) (onK (degr1 v0_3) (onK (degr1 v0_4) (stK 1 v1 (stK 1 v1 (isC (degr (degr1 v0_2)) (lenS (degr (degr (degr1 v0_2))) fun n1 => stK 1 v1 (stK 1 (degr (degr1 v0_2)) (
  kR (runL pg q3i ⟨[(1, v1), (2, .ptr false 0 0), (5, (.mp (List.length gh))), (13, (degr (degr1 v0_2))), (14, (I (n1 : Int))), (15, I 0)], [[(degr1 v0_0), (degr1 v0_1), (degr1 v0_2), (degr1 v0_3), (degr1 v0_4)]], (gh ++ [.map []])⟩) (fun e s => nx e s (fun e s => some (e, s)) fun s => kR (runL pg q3l s) (fun e s => some (e, s)))))))))))))
theorem qfg_ {v0_0 v0_1 : PV} {v0_2 v0_3 : PV} {v0_4 v1 : PV} (h : qfg pg v0_0 v0_1 v0_2 v0_3 v0_4 v1 gh = some (e, s)) : runL pg qa1 ⟨[(0, .agg [v0_0, v0_1, v0_2, v0_3, v0_4]), (1, v1)], [], gh⟩ = some (e, s) :=
 ji2 q38 (Eq.trans (by kernel_rfl) h)
end
end Go.Lw
end

/-! What the code of function ref_NextOf comes to, piece by piece. Written by program (dprint.py). -/
section
set_option maxRecDepth 10000
set_option maxHeartbeats 4000000
namespace Go.Lw
open Go
noncomputable section
variable {pg : Prg} {gh : List GObj} {e : IExit} {s : St}
def q9h : Tr := (tI 14 (.node 8 (.agg [.any, .any, .any, .any, .any]) (tO 5 (tO 1 (.node 0 (.agg [.any, .any, .any, .any, .any]) .nil .nil) (uO 4)) (tI 7 (uO 6) .nil)) (tO 11 (tI 10 (uO 9) .nil) (tB 13 (uI 12) .nil))) (tI 23 (tO 19 (tO 16 (uI 15) (uO 17)) (tI 21 (uO 20) .nil)) (tO 27 (tI 26 (uI 24) .nil) (tO 29 (uO 28) .nil))))
def q9i (pg : Prg) (v1 v5 v6 : PV) (x7 : Int) (vc0_0 vc0_1 : PV) (vc0_2 vc0_3 vc0_4 : PV) (gh : List GObj) : DR := isC (degr v5) (lenS (degr (degr v5)) fun n1 => stK 1 v1 (stK 1 v5 (stK 1 v6 (
  br 13 (decide (x7 < (n1 : Int))) (isC (degr v1) (isC (degr vc0_2) (isC (degr v5) (
  idX 1 none (degr (degr v5)) x7 fun p2 =>
  ldX [[vc0_0, vc0_1, vc0_2, vc0_3, vc0_4]] gh false 1 (degr p2) fun v3 => unI .i64 v3 fun n4 => arK (degr (degr vc0_2)) (
  callR gh true (callL pg 137 [(degr (degr vc0_2)), I n4] gh) fun r5 gh6 => unI .i64 r5 fun n7 =>
  idX 1 none (degr (degr v1)) n7 fun p8 =>
  ldX [[vc0_0, vc0_1, vc0_2, vc0_3, vc0_4]] gh6 false 1 (degr p8) fun v9 => unI .i64 v9 fun n10 =>
  apX 1 8 v6 (.sl false 1 [I n10]) fun l11 => stK 1 v1 (stK 1 v5 (stK 1 v1 (stK 1 v5 (stK 1 v1 (stK 1 v5 (some (.normal, ⟨[(1, v1), (2, .ptr false 0 0), (5, v5), (6, .sl true 1 l11), (7, (I (IntKind.i64.wrap (x7 + 1))))], [[vc0_0, vc0_1, vc0_2, vc0_3, vc0_4]], gh6⟩)))))))))))) (some ((.exit 0), ⟨[(1, v1), (2, .ptr false 0 0), (5, v5), (6, v6), (7, I x7), (13, (B (decide (x7 < (n1 : Int)))))], [[vc0_0, vc0_1, vc0_2, vc0_3, vc0_4]], gh⟩))))))
theorem q9i_ {v1 v5 v6 : PV} {x7 : Int} {vc0_0 vc0_1 : PV} {vc0_2 vc0_3 vc0_4 : PV} (h : q9i pg v1 v5 v6 x7 vc0_0 vc0_1 vc0_2 vc0_3 vc0_4 gh = some (e, s)) : runL pg qc7 ⟨[(1, v1), (2, .ptr false 0 0), (5, v5), (6, v6), (7, I x7)], [[vc0_0, vc0_1, vc0_2, vc0_3, vc0_4]], gh⟩ = some (e, s) :=
 ji2 q9h (Eq.trans (by kernel_rfl) h)
def qfh (pg : Prg) (v6 : PV) (gh : List GObj) : DR := isC (degr v6) (stK 0 (degr v6) (some (.ret, ⟨[(4, (degr v6))], [], gh⟩)))
theorem qfh_ {v6 : PV} (h : qfh pg v6 gh = some (e, s)) : runL pg q7p ⟨[(6, v6)], [], gh⟩ = some (e, s) :=
 ji2 q9h (Eq.trans (by kernel_rfl) h)
def qfi (pg : Prg) (v0_0 v0_1 : PV) (v0_2 v0_3 : PV) (v0_4 v1 : PV) (gh : List GObj) : DR := onK (degr1 v0_0) (onK (degr1 v0_1) (onK (degr1 v0_2) (onK (degr1 v0_3) (onK (degr1 v0_4) (stK 1 v1 (onK (degr1 (degr1 (degr1 v0_0))) (onK (degr1 (degr1 (degr1 v0_1))) (onK (degr1 (degr1 (degr1 v0_2))) (onK (degr1 (degr1 (degr1 v0_3))) (onK (degr1 (degr1 (degr1 v0_4))) (
  callR gh true (callL pg 39 [(.agg [(degr1 (degr1 (degr1 v0_0))), (degr1 (degr1 (degr1 v0_1))), (degr1 (degr1 (degr1 v0_2))), (degr1 (degr1 (degr1 v0_3))), (degr1 (degr1 (degr1 v0_4)))]), I 3] gh) fun r1 gh2 => isC r1 (stK 1 v1 (stK 1 r1 (stK 1 v1 (stK 1 r1 (
  kR (runL pg q41 ⟨[(1, v1), (2, .ptr false 0 0), (5, r1), (6, .sl true 1 []), (7, I 0)], [[(degr1 v0_0), (degr1 v0_1), (degr1 v0_2), (degr1 v0_3), (degr1 v0_4)]], gh2⟩) (fun e s => nx e s (fun e s => some (e, s)) fun s => kR (runL pg q7p s) (fun e s => some (e, s)))))))))))))))))))
theorem qfi_ {v0_0 v0_1 : PV} {v0_2 v0_3 : PV} {v0_4 v1 : PV} (h : qfi pg v0_0 v0_1 v0_2 v0_3 v0_4 v1 gh = some (e, s)) : runL pg qc8 ⟨[(0, .agg [v0_0, v0_1, v0_2, v0_3, v0_4]), (1, v1)], [], gh⟩ = some (e, s) :=
 ji2 q9h (Eq.trans (by kernel_rfl) h)
end
end Go.Lw
end

/-! What the code of function eval_Marks comes to, piece by piece. Written by program (dprint.py). -/
section
set_option maxRecDepth 10000
set_option maxHeartbeats 4000000
namespace Go.Lw
open Go
noncomputable section
variable {pg : Prg} {gh : List GObj} {e : IExit} {s : St}
def q39 : Tr := (tB 25 (tI 14 (tB 6 (tB 4 (tO 1 (.node 0 (.agg [.any, .any, .any, .any, .any]) .nil .nil) .nil) (uB 5)) (tI 11 (tI 9 (uB 7) .nil) (uO 13))) (tB 20 (tI 18 (tB 16 (uI 15) .nil) (uB 19)) (tI 22 (uO 21) (uI 24)))) (tB 36 (tI 31 (tO 29 (tI 27 (uB 26) .nil) (uI 30)) (tI 34 (uB 32) (uB 35))) (tB 42 (tI 40 (tI 38 (uO 37) .nil) (uB 41)) (tB 44 (uI 43) (uB 45)))))
def q5d (pg : Prg) (v1 : PV) (b6 b7 : Bool) (v13 : PV) (x14 x15 : Int) (vc0_0 vc0_1 : PV) (vc0_2 vc0_3 vc0_4 : PV) (gh : List GObj) : DR :=
  br 16 (decide (x15 < x14)) (
  idX 1 none (degr v13) x15 fun p1 =>
  ldX [[vc0_0, vc0_1, vc0_2, vc0_3, vc0_4]] gh false 1 (degr p1) fun v2 => unI .i64 v2 fun n3 => stK 1 v1 (stK 1 v13 (
  br 20 b6 (isC (degr v1) (
  idX 1 none (degr (degr v1)) n3 fun p4 =>
  ldX [[vc0_0, vc0_1, vc0_2, vc0_3, vc0_4]] gh false 1 (degr p4) fun v5 => unI .i64 v5 fun n6 => stK 1 v1 (stK 1 v13 (stK 1 v1 (stK 1 v13 (stK 1 v1 (stK 1 v13 (some (.normal, ⟨[(1, v1), (2, .ptr false 0 0), (6, (B (n6 == 1))), (7, B b7), (13, v13), (14, I x14), (15, (I (IntKind.i64.wrap (x15 + 1))))], [[vc0_0, vc0_1, vc0_2, vc0_3, vc0_4]], gh⟩))))))))) (stK 1 v1 (stK 1 v13 (stK 1 v1 (stK 1 v13 (stK 1 v1 (stK 1 v13 (some (.normal, ⟨[(1, v1), (2, .ptr false 0 0), (6, B false), (7, B b7), (13, v13), (14, I x14), (15, (I (IntKind.i64.wrap (x15 + 1))))], [[vc0_0, vc0_1, vc0_2, vc0_3, vc0_4]], gh⟩))))))))))) (some ((.exit 0), ⟨[(1, v1), (2, .ptr false 0 0), (6, B b6), (7, B b7), (13, v13), (14, I x14), (15, I x15), (16, (B (decide (x15 < x14))))], [[vc0_0, vc0_1, vc0_2, vc0_3, vc0_4]], gh⟩))
theorem q5d_ {v1 : PV} {b6 b7 : Bool} {v13 : PV} {x14 x15 : Int} {vc0_0 vc0_1 : PV} {vc0_2 vc0_3 vc0_4 : PV} (h : q5d pg v1 b6 b7 v13 x14 x15 vc0_0 vc0_1 vc0_2 vc0_3 vc0_4 gh = some (e, s)) : runL pg qa2 ⟨[(1, v1), (2, .ptr false 0 0), (6, B b6), (7, B b7), (13, v13), (14, I x14), (15, I x15)], [[vc0_0, vc0_1, vc0_2, vc0_3, vc0_4]], gh⟩ = some (e, s) :=
 ji2 q39 (Eq.trans (by kernel_rfl) h)
def q5e (pg : Prg) (v1 : PV) (b6 b7 : Bool) (v29 : PV) (x30 x31 : Int) (gh : List GObj) : DR :=
  br 32 (decide (x31 < x30)) (
  idX 1 none (degr v29) x31 fun p1 =>
  ldX [] gh false 1 (degr p1) fun v2 => unI .i64 v2 fun n3 => stK 0 v1 (stK 0 v29 (
  br 36 b7 (stK 0 v1 (stK 0 v29 (stK 0 v1 (stK 0 v29 (stK 0 v1 (stK 0 v29 (some (.normal, ⟨[(1, v1), (6, B b6), (7, B true), (29, v29), (30, I x30), (31, (I (IntKind.i64.wrap (x31 + 1))))], [], gh⟩)))))))) (isC (degr v1) (
  idX 1 none (degr (degr v1)) n3 fun p4 =>
  ldX [] gh false 1 (degr p4) fun v5 => unI .i64 v5 fun n6 => stK 0 v1 (stK 0 v29 (stK 0 v1 (stK 0 v29 (stK 0 v1 (stK 0 v29 (some (.normal, ⟨[(1, v1), (6, B b6), (7, (B (n6 == 1))), (29, v29), (30, I x30), (31, (I (IntKind.i64.wrap (x31 + 1))))], [], gh⟩)))))))))))) (some ((.exit 2), ⟨[(1, v1), (6, B b6), (7, B b7), (29, v29), (30, I x30), (31, I x31), (32, (B (decide (x31 < x30))))], [], gh⟩))
theorem q5e_ {v1 : PV} {b6 b7 : Bool} {v29 : PV} {x30 x31 : Int} (h : q5e pg v1 b6 b7 v29 x30 x31 gh = some (e, s)) : runL pg qa3 ⟨[(1, v1), (6, B b6), (7, B b7), (29, v29), (30, I x30), (31, I x31)], [], gh⟩ = some (e, s) :=
 ji2 q39 (Eq.trans (by kernel_rfl) h)
def qhu (pg : Prg) (b6 b7 : Bool) (gh : List GObj) : DR := some (.ret, ⟨[(4, B b6), (5, B b7)], [], gh⟩)
theorem qhu_ {b6 b7 : Bool} (h : qhu pg b6 b7 gh = some (e, s)) : runL pg q5o ⟨[(6, B b6), (7, B b7)], [], gh⟩ = some (e, s) :=
 ji2 q39 (Eq.trans (by kernel_rfl) h)
def qfj (pg : Prg) (v1 : PV) (b6 b7 : Bool) (vc0_0 vc0_1 : PV) (vc0_2 vc0_3 vc0_4 : PV) (gh : List GObj) : DR := isC (degr vc0_3) (lenS (degr (degr vc0_3)) fun n1 => stK 0 v1 (stK 0 (degr vc0_3) (
  kR (runL pg q3n ⟨[(1, v1), (6, B b6), (7, B b7), (29, (degr vc0_3)), (30, (I (n1 : Int))), (31, I 0)], [], gh⟩) (fun e s => nx e s (fun e s => some (e, s)) fun s => kR (runL pg q5o s) (fun e s => some (e, s))))))
theorem qfj_ {v1 : PV} {b6 b7 : Bool} {vc0_0 vc0_1 : PV} {vc0_2 vc0_3 vc0_4 : PV} (h : qfj pg v1 b6 b7 vc0_0 vc0_1 vc0_2 vc0_3 vc0_4 gh = some (e, s)) : runL pg q3o ⟨[(1, v1), (2, .ptr false 0 0), (6, B b6), (7, B b7)], [[vc0_0, vc0_1, vc0_2, vc0_3, vc0_4]], gh⟩ = some (e, s) :=
 ji2 q39 (Eq.trans (by kernel_rfl) h)
def qfk (pg : Prg) (v0_0 v0_1 : PV) (v0_2 v0_3 : PV) (v0_4 v1 : PV) (gh : List GObj) : DR := onK (degr1 v0_0) (onK (degr1 v0_1) (onK (degr1 v0_2) (onK (degr1 v0_3) (onK (degr1 v0_4) (stK 1 v1 (isC (degr (degr1 v0_4)) (lenS (degr (degr (degr1 v0_4))) fun n1 => stK 1 v1 (stK 1 (degr (degr1 v0_4)) (
  kR (runL pg q3m ⟨[(1, v1), (2, .ptr false 0 0), (6, B true), (7, B false), (13, (degr (degr1 v0_4))), (14, (I (n1 : Int))), (15, I 0)], [[(degr1 v0_0), (degr1 v0_1), (degr1 v0_2), (degr1 v0_3), (degr1 v0_4)]], gh⟩) (fun e s => nx e s (fun e s => some (e, s)) fun s => kR (runL pg q3o s) (fun e s => some (e, s))))))))))))
theorem qfk_ {v0_0 v0_1 : PV} {v0_2 v0_3 : PV} {v0_4 v1 : PV} (h : qfk pg v0_0 v0_1 v0_2 v0_3 v0_4 v1 gh = some (e, s)) : runL pg qa4 ⟨[(0, .agg [v0_0, v0_1, v0_2, v0_3, v0_4]), (1, v1)], [], gh⟩ = some (e, s) :=
 ji2 q39 (Eq.trans (by kernel_rfl) h)
end
end Go.Lw
end

/-! What the code of function ref_MarksOf comes to, piece by piece. Written by program (dprint.py). -/
section
set_option maxRecDepth 10000
set_option maxHeartbeats 4000000
namespace Go.Lw
open Go
noncomputable section
variable {pg : Prg} {gh : List GObj} {e : IExit} {s : St}
def q3a : Tr := (tI 26 (tI 13 (tB 7 (tB 4 (tO 1 (.node 0 (.agg [.any, .any, .any, .any, .any]) .nil .nil) .nil) (tB 6 (uB 5) .nil)) (tI 10 (tI 9 (uI 8) .nil) (uO 12))) (tB 18 (tI 16 (tI 15 (uB 14) .nil) (uB 17)) (tI 22 (tO 21 (uO 19) .nil) (uI 24)))) (tB 37 (tI 32 (tI 29 (tB 28 (uB 27) .nil) (uO 31)) (tI 35 (tI 34 (uB 33) .nil) (uB 36))) (tI 45 (tI 41 (tO 40 (uO 38) .nil) (uI 43)) (tB 48 (tB 47 (uB 46) .nil) (uB 49)))))
def q5f (pg : Prg) (v1 : PV) (b6 b7 : Bool) (x8 : Int) (vc0_0 vc0_1 : PV) (vc0_2 vc0_3 vc0_4 : PV) (gh : List GObj) : DR := isC (degr vc0_4) (lenS (degr (degr vc0_4)) fun n1 => stK 1 v1 (
  br 14 (decide (x8 < (n1 : Int))) (
  br 18 b6 (isC (degr v1) (isC (degr vc0_4) (
  idX 1 none (degr (degr vc0_4)) x8 fun p2 =>
  ldX [[vc0_0, vc0_1, vc0_2, vc0_3, vc0_4]] gh false 1 (degr p2) fun v3 => unI .i64 v3 fun n4 =>
  idX 1 none (degr (degr v1)) n4 fun p5 =>
  ldX [[vc0_0, vc0_1, vc0_2, vc0_3, vc0_4]] gh false 1 (degr p5) fun v6 => unI .i64 v6 fun n7 => stK 1 v1 (stK 1 v1 (stK 1 v1 (some (.normal, ⟨[(1, v1), (2, .ptr false 0 0), (6, (B (n7 == 1))), (7, B b7), (8, (I (IntKind.i64.wrap (x8 + 1))))], [[vc0_0, vc0_1, vc0_2, vc0_3, vc0_4]], gh⟩))))))) (stK 1 v1 (stK 1 v1 (stK 1 v1 (some (.normal, ⟨[(1, v1), (2, .ptr false 0 0), (6, B false), (7, B b7), (8, (I (IntKind.i64.wrap (x8 + 1))))], [[vc0_0, vc0_1, vc0_2, vc0_3, vc0_4]], gh⟩)))))) (some ((.exit 0), ⟨[(1, v1), (2, .ptr false 0 0), (6, B b6), (7, B b7), (8, I x8), (14, (B (decide (x8 < (n1 : Int)))))], [[vc0_0, vc0_1, vc0_2, vc0_3, vc0_4]], gh⟩))))
theorem q5f_ {v1 : PV} {b6 b7 : Bool} {x8 : Int} {vc0_0 vc0_1 : PV} {vc0_2 vc0_3 vc0_4 : PV} (h : q5f pg v1 b6 b7 x8 vc0_0 vc0_1 vc0_2 vc0_3 vc0_4 gh = some (e, s)) : runL pg qc9 ⟨[(1, v1), (2, .ptr false 0 0), (6, B b6), (7, B b7), (8, I x8)], [[vc0_0, vc0_1, vc0_2, vc0_3, vc0_4]], gh⟩ = some (e, s) :=
 ji2 q3a (Eq.trans (by kernel_rfl) h)
def q5g (pg : Prg) (v1 : PV) (b6 b7 : Bool) (x9 : Int) (vc0_0 vc0_1 : PV) (vc0_2 vc0_3 vc0_4 : PV) (gh : List GObj) : DR := isC (degr vc0_3) (lenS (degr (degr vc0_3)) fun n1 => stK 1 v1 (
  br 33 (decide (x9 < (n1 : Int))) (
  br 37 b7 (stK 1 v1 (stK 1 v1 (stK 1 v1 (some (.normal, ⟨[(1, v1), (2, .ptr false 0 0), (6, B b6), (7, B true), (9, (I (IntKind.i64.wrap (x9 + 1))))], [[vc0_0, vc0_1, vc0_2, vc0_3, vc0_4]], gh⟩))))) (isC (degr v1) (isC (degr vc0_3) (
  idX 1 none (degr (degr vc0_3)) x9 fun p2 =>
  ldX [[vc0_0, vc0_1, vc0_2, vc0_3, vc0_4]] gh false 1 (degr p2) fun v3 => unI .i64 v3 fun n4 =>
  idX 1 none (degr (degr v1)) n4 fun p5 =>
  ldX [[vc0_0, vc0_1, vc0_2, vc0_3, vc0_4]] gh false 1 (degr p5) fun v6 => unI .i64 v6 fun n7 => stK 1 v1 (stK 1 v1 (stK 1 v1 (some (.normal, ⟨[(1, v1), (2, .ptr false 0 0), (6, B b6), (7, (B (n7 == 1))), (9, (I (IntKind.i64.wrap (x9 + 1))))], [[vc0_0, vc0_1, vc0_2, vc0_3, vc0_4]], gh⟩)))))))) (some ((.exit 2), ⟨[(1, v1), (2, .ptr false 0 0), (6, B b6), (7, B b7), (9, I x9), (33, (B (decide (x9 < (n1 : Int)))))], [[vc0_0, vc0_1, vc0_2, vc0_3, vc0_4]], gh⟩))))
theorem q5g_ {v1 : PV} {b6 b7 : Bool} {x9 : Int} {vc0_0 vc0_1 : PV} {vc0_2 vc0_3 vc0_4 : PV} (h : q5g pg v1 b6 b7 x9 vc0_0 vc0_1 vc0_2 vc0_3 vc0_4 gh = some (e, s)) : runL pg qca ⟨[(1, v1), (2, .ptr false 0 0), (6, B b6), (7, B b7), (9, I x9)], [[vc0_0, vc0_1, vc0_2, vc0_3, vc0_4]], gh⟩ = some (e, s) :=
 ji2 q3a (Eq.trans (by kernel_rfl) h)
def qhv (pg : Prg) (b6 b7 : Bool) (gh : List GObj) : DR := some (.ret, ⟨[(4, B b6), (5, B b7)], [], gh⟩)
theorem qhv_ {b6 b7 : Bool} (h : qhv pg b6 b7 gh = some (e, s)) : runL pg q7r ⟨[(6, B b6), (7, B b7)], [], gh⟩ = some (e, s) :=
 ji2 q3a (Eq.trans (by kernel_rfl) h)
def qfl (pg : Prg) (v1 : PV) (b6 b7 : Bool) (vc0_0 vc0_1 : PV) (vc0_2 vc0_3 vc0_4 : PV) (gh : List GObj) : DR := stK 1 v1 (
  kR (runL pg q43 ⟨[(1, v1), (2, .ptr false 0 0), (6, B b6), (7, B b7), (9, I 0)], [[vc0_0, vc0_1, vc0_2, vc0_3, vc0_4]], gh⟩) (fun e s => nx e s (fun e s => some (e, s)) fun s => kR (runL pg q7r s) (fun e s => some (e, s))))
theorem qfl_ {v1 : PV} {b6 b7 : Bool} {vc0_0 vc0_1 : PV} {vc0_2 vc0_3 vc0_4 : PV} (h : qfl pg v1 b6 b7 vc0_0 vc0_1 vc0_2 vc0_3 vc0_4 gh = some (e, s)) : runL pg q44 ⟨[(1, v1), (2, .ptr false 0 0), (6, B b6), (7, B b7)], [[vc0_0, vc0_1, vc0_2, vc0_3, vc0_4]], gh⟩ = some (e, s) :=
 ji2 q3a (Eq.trans (by kernel_rfl) h)
def qfm (pg : Prg) (v0_0 v0_1 : PV) (v0_2 v0_3 : PV) (v0_4 v1 : PV) (gh : List GObj) : DR := onK (degr1 v0_0) (onK (degr1 v0_1) (onK (degr1 v0_2) (onK (degr1 v0_3) (onK (degr1 v0_4) (stK 1 v1 (stK 1 v1 (
  kR (runL pg q42 ⟨[(1, v1), (2, .ptr false 0 0), (6, B true), (7, B false), (8, I 0)], [[(degr1 v0_0), (degr1 v0_1), (degr1 v0_2), (degr1 v0_3), (degr1 v0_4)]], gh⟩) (fun e s => nx e s (fun e s => some (e, s)) fun s => kR (runL pg q44 s) (fun e s => some (e, s))))))))))
theorem qfm_ {v0_0 v0_1 : PV} {v0_2 v0_3 : PV} {v0_4 v1 : PV} (h : qfm pg v0_0 v0_1 v0_2 v0_3 v0_4 v1 gh = some (e, s)) : runL pg qcb ⟨[(0, .agg [v0_0, v0_1, v0_2, v0_3, v0_4]), (1, v1)], [], gh⟩ = some (e, s) :=
 ji2 q3a (Eq.trans (by kernel_rfl) h)
end
end Go.Lw
end

/-! What the code of function trace_Check comes to, piece by piece. Written by program (dprint.py). -/
section
set_option maxRecDepth 10000
set_option maxHeartbeats 4000000
namespace Go.Lw
open Go
noncomputable section
variable {pg : Prg} {gh : List GObj} {e : IExit} {s : St}
def q9j : Tr := (.node 26 (.agg [.any, .any, .any, .any, .any]) (tB 13 (tO 8 (tI 4 (.node 1 (.agg [.any, .any]) (.node 0 (.agg [.any, .any, .any, .any, .any]) .nil .nil) .nil) (tI 6 (uI 5) .nil)) (tI 11 (.node 10 (.agg [.any, .any, .any, .any, .any]) (uI 9) .nil) (uI 12))) (tO 21 (tI 17 (tO 16 (uI 14) .nil) (tB 19 (uB 18) .nil)) (tB 24 (tB 23 (uI 22) .nil) (.node 25 (.agg [.any, .any, .any, .any, .any]) .nil .nil)))) (tO 40 (tI 33 (tI 30 (tO 29 (uO 27) .nil) (tB 32 (uI 31) .nil)) (tI 37 (tI 36 (uO 35) .nil) (uB 38))) (tI 45 (tO 43 (.node 42 (.agg [.any, .any, .any, .any, .any]) (.node 41 (.agg [.any, .any, .any, .any, .any]) .nil .nil) .nil) (uO 44)) (tI 48 (tB 47 (uI 46) .nil) (uI 49)))))
def q5h (pg : Prg) (v35 : PV) (x36 x37 : Int) (vc0_0 vc0_1 : PV) (vc0_2 vc0_3 vc0_4 : PV) (gh : List GObj) : DR :=
  br 38 (decide (x37 < x36)) (
  idX 1 none (degr v35) x37 fun p1 =>
  ldX [[vc0_0, vc0_1, vc0_2, vc0_3, vc0_4]] gh false 1 (degr p1) fun v2 => isC v2 (stK 1 v2 (stK 1 v35 (onK (degr1 (degr1 vc0_0)) (onK (degr1 (degr1 vc0_1)) (onK (degr1 (degr1 vc0_2)) (onK (degr1 (degr1 vc0_3)) (onK (degr1 (degr1 vc0_4)) (
  callR gh true (callL pg 101 [(.agg [(degr1 (degr1 vc0_0)), (degr1 (degr1 vc0_1)), (degr1 (degr1 vc0_2)), (degr1 (degr1 vc0_3)), (degr1 (degr1 vc0_4))]), I 2] gh) fun r3 gh4 => isC r3 (isC (degr v2) (onK (degr1 (degr1 vc0_0)) (onK (degr1 (degr1 vc0_1)) (onK (degr1 (degr1 vc0_2)) (onK (degr1 (degr1 vc0_3)) (onK (degr1 (degr1 vc0_4)) (arK (degr r3) (arK (degr (degr v2)) (
  callR gh4 true (callL pg 135 [(.agg [(degr1 (degr1 vc0_0)), (degr1 (degr1 vc0_1)), (degr1 (degr1 vc0_2)), (degr1 (degr1 vc0_3)), (degr1 (degr1 vc0_4))]), (degr r3), (degr (degr v2))] gh4) fun r5 gh6 => unI .i64 r5 fun n7 => stK 1 v35 (stK 1 v35 (
  br 47 (n7 != 0) (some (.ret, ⟨[(4, I n7)], [], gh6⟩)) (stK 1 v35 (stK 1 v35 (some (.normal, ⟨[(2, .ptr false 0 0), (35, v35), (36, I x36), (37, (I (IntKind.i64.wrap (x37 + 1))))], [[vc0_0, vc0_1, vc0_2, vc0_3, vc0_4]], gh6⟩)))))))))))))))))))))))) (some ((.exit 0), ⟨[(2, .ptr false 0 0), (35, v35), (36, I x36), (37, I x37), (38, (B (decide (x37 < x36))))], [[vc0_0, vc0_1, vc0_2, vc0_3, vc0_4]], gh⟩))
theorem q5h_ {v35 : PV} {x36 x37 : Int} {vc0_0 vc0_1 : PV} {vc0_2 vc0_3 vc0_4 : PV} (h : q5h pg v35 x36 x37 vc0_0 vc0_1 vc0_2 vc0_3 vc0_4 gh = some (e, s)) : runL pg qcj ⟨[(2, .ptr false 0 0), (35, v35), (36, I x36), (37, I x37)], [[vc0_0, vc0_1, vc0_2, vc0_3, vc0_4]], gh⟩ = some (e, s) :=
 ji2 q9j (Eq.trans (by kernel_rfl) h)
def qhw (pg : Prg)  (gh : List GObj) : DR := some (.ret, ⟨[(4, I 0)], [], gh⟩)
theorem qhw_  (h : qhw pg  gh = some (e, s)) : runL pg q48 ⟨[], [], gh⟩ = some (e, s) :=
 ji2 q9j (Eq.trans (by kernel_rfl) h)
def q1h (pg : Prg) (v0_0 v0_1 : PV) (v0_2 v0_3 : PV) (v0_4 v1_0 v1_1 : PV) (gh : List GObj) : DR := onK (degr1 v0_0) (onK (degr1 v0_1) (onK (degr1 v0_2) (onK (degr1 v0_3) (onK (degr1 v0_4) (onK (degr1 v1_0) (onK (degr1 v1_1) (onK (degr1 (degr1 (degr1 v0_0))) (onK (degr1 (degr1 (degr1 v0_1))) (onK (degr1 (degr1 (degr1 v0_2))) (onK (degr1 (degr1 (degr1 v0_3))) (onK (degr1 (degr1 (degr1 v0_4))) (
  callR gh true (callL pg 38 [(.agg [(degr1 (degr1 (degr1 v0_0))), (degr1 (degr1 (degr1 v0_1))), (degr1 (degr1 (degr1 v0_2))), (degr1 (degr1 (degr1 v0_3))), (degr1 (degr1 (degr1 v0_4)))])] gh) fun r1 gh2 => unI .i64 r1 fun n3 =>
  br 13 (n3 != 0) (some (.ret, ⟨[(4, I n3)], [], gh2⟩)) (isC (degr (degr1 v1_1)) (lenS (degr (degr (degr1 v1_1))) fun n4 =>
  br 19 (decide ((n4 : Int) < 1)) (some (.ret, ⟨[(4, I 2)], [], gh2⟩)) (isC (degr (degr1 v1_1)) (lenS (degr (degr (degr1 v1_1))) fun n5 =>
  br 24 (decide (41 < (n5 : Int))) (some (.ret, ⟨[(4, I 2)], [], gh2⟩)) (onK (degr1 (degr1 (degr1 v0_0))) (onK (degr1 (degr1 (degr1 v0_1))) (onK (degr1 (degr1 (degr1 v0_2))) (onK (degr1 (degr1 (degr1 v0_3))) (onK (degr1 (degr1 (degr1 v0_4))) (
  callR gh2 true (callL pg 101 [(.agg [(degr1 (degr1 (degr1 v0_0))), (degr1 (degr1 (degr1 v0_1))), (degr1 (degr1 (degr1 v0_2))), (degr1 (degr1 (degr1 v0_3))), (degr1 (degr1 (degr1 v0_4)))]), I 3] gh2) fun r6 gh7 => isC r6 (isC (degr (degr1 v1_0)) (onK (degr1 (degr1 (degr1 v0_0))) (onK (degr1 (degr1 (degr1 v0_1))) (onK (degr1 (degr1 (degr1 v0_2))) (onK (degr1 (degr1 (degr1 v0_3))) (onK (degr1 (degr1 (degr1 v0_4))) (arK (degr r6) (arK (degr (degr (degr1 v1_0))) (
  callR gh7 true (callL pg 135 [(.agg [(degr1 (degr1 (degr1 v0_0))), (degr1 (degr1 (degr1 v0_1))), (degr1 (degr1 (degr1 v0_2))), (degr1 (degr1 (degr1 v0_3))), (degr1 (degr1 (degr1 v0_4)))]), (degr r6), (degr (degr (degr1 v1_0)))] gh7) fun r8 gh9 => unI .i64 r8 fun n10 =>
  br 32 (n10 != 0) (some (.ret, ⟨[(4, I n10)], [], gh9⟩)) (isC (degr (degr1 v1_1)) (lenS (degr (degr (degr1 v1_1))) fun n11 => stK 1 (degr (degr1 v1_1)) (
  kR (runL pg q7w ⟨[(2, .ptr false 0 0), (35, (degr (degr1 v1_1))), (36, (I (n11 : Int))), (37, I 0)], [[(degr1 v0_0), (degr1 v0_1), (degr1 v0_2), (degr1 v0_3), (degr1 v0_4)]], gh9⟩) (fun e s => nx e s (fun e s => some (e, s)) fun s => kR (runL pg q48 s) (fun e s => some (e, s)))))))))))))))))))))))))))))))))))))
theorem q1h_ {v0_0 v0_1 : PV} {v0_2 v0_3 : PV} {v0_4 v1_0 v1_1 : PV} (h : q1h pg v0_0 v0_1 v0_2 v0_3 v0_4 v1_0 v1_1 gh = some (e, s)) : runL pg qck ⟨[(0, .agg [v0_0, v0_1, v0_2, v0_3, v0_4]), (1, .agg [v1_0, v1_1])], [], gh⟩ = some (e, s) :=
 ji2 q9j (Eq.trans (by kernel_rfl) h)
end
end Go.Lw
end

/-! What the code of function ref_CheckTrace comes to, piece by piece. Written by program (dprint.py). -/
section
set_option maxRecDepth 10000
set_option maxHeartbeats 4000000
namespace Go.Lw
open Go
noncomputable section
variable {pg : Prg} {gh : List GObj} {e : IExit} {s : St}
def q3b : Tr := (tO 22 (tB 11 (tI 6 (tI 4 (.node 1 (.agg [.any, .any]) (.node 0 (.agg [.any, .any, .any, .any, .any]) .nil .nil) .nil) (uI 5)) (tI 9 (tI 8 (.node 7 (.agg [.any, .any, .any, .any, .any]) .nil .nil) .nil) (uB 10))) (tB 17 (tB 15 (tI 14 (uO 13) .nil) (uB 16)) (tB 19 (uI 18) (.node 20 (.agg [.any, .any, .any, .any, .any]) .nil .nil)))) (tB 32 (tB 28 (tO 26 (tI 24 (uI 23) .nil) (uI 27)) (tI 30 (uB 29) (uB 31))) (tI 38 (.node 35 (.agg [.any, .any, .any, .any, .any]) (tI 34 (uI 33) .nil) (uO 37)) (tI 41 (uO 40) (uI 42)))))
def q1u (pg : Prg) (x5 x6 : Int) (vc0_0 vc0_1 : PV) (vc0_2 vc0_3 : PV) (vc0_4 vc1_0 vc1_1 : PV) (gh : List GObj) : DR := isC (degr vc1_1) (lenS (degr (degr vc1_1)) fun n1 =>
  br 29 (decide (x6 < (n1 : Int))) (
  br 32 (x5 == 0) (isC (degr vc1_1) (
  idX 1 none (degr (degr vc1_1)) x6 fun p2 =>
  ldX [[vc0_0, vc0_1, vc0_2, vc0_3, vc0_4], [vc1_0, vc1_1]] gh false 1 (degr p2) fun v3 => isC v3 (onK (degr1 (degr1 vc0_0)) (onK (degr1 (degr1 vc0_1)) (onK (degr1 (degr1 vc0_2)) (onK (degr1 (degr1 vc0_3)) (onK (degr1 (degr1 vc0_4)) (arK (degr v3) (
  callR gh true (callL pg 124 [(.agg [(degr1 (degr1 vc0_0)), (degr1 (degr1 vc0_1)), (degr1 (degr1 vc0_2)), (degr1 (degr1 vc0_3)), (degr1 (degr1 vc0_4))]), I 2, (degr v3)] gh) fun r4 gh5 => unI .i64 r4 fun n6 => some (.normal, ⟨[(2, .ptr false 0 0), (3, .ptr false 1 0), (5, I n6), (6, (I (IntKind.i64.wrap (x6 + 1))))], [[vc0_0, vc0_1, vc0_2, vc0_3, vc0_4], [vc1_0, vc1_1]], gh5⟩)))))))))) (some ((.exit 0), ⟨[(2, .ptr false 0 0), (3, .ptr false 1 0), (5, I x5), (6, I x6), (32, (B (x5 == 0)))], [[vc0_0, vc0_1, vc0_2, vc0_3, vc0_4], [vc1_0, vc1_1]], gh⟩))) (some ((.exit 0), ⟨[(2, .ptr false 0 0), (3, .ptr false 1 0), (5, I x5), (6, I x6), (32, B false)], [[vc0_0, vc0_1, vc0_2, vc0_3, vc0_4], [vc1_0, vc1_1]], gh⟩)))
theorem q1u_ {x5 x6 : Int} {vc0_0 vc0_1 : PV} {vc0_2 vc0_3 : PV} {vc0_4 vc1_0 vc1_1 : PV} (h : q1u pg x5 x6 vc0_0 vc0_1 vc0_2 vc0_3 vc0_4 vc1_0 vc1_1 gh = some (e, s)) : runL pg qce ⟨[(2, .ptr false 0 0), (3, .ptr false 1 0), (5, I x5), (6, I x6)], [[vc0_0, vc0_1, vc0_2, vc0_3, vc0_4], [vc1_0, vc1_1]], gh⟩ = some (e, s) :=
 ji2 q3b (Eq.trans (by kernel_rfl) h)
def qhx (pg : Prg) (x5 : Int) (gh : List GObj) : DR := some (.ret, ⟨[(4, I x5)], [], gh⟩)
theorem qhx_ {x5 : Int} (h : qhx pg x5 gh = some (e, s)) : runL pg q45 ⟨[(5, I x5)], [], gh⟩ = some (e, s) :=
 ji2 q3b (Eq.trans (by kernel_rfl) h)
def qfn (pg : Prg) (x5 : Int) (vc0_0 vc0_1 : PV) (vc0_2 vc0_3 : PV) (vc0_4 vc1_0 vc1_1 : PV) (gh : List GObj) : DR :=
  kR (runL pg q2p ⟨[(2, .ptr false 0 0), (3, .ptr false 1 0), (5, I x5), (6, I 0)], [[vc0_0, vc0_1, vc0_2, vc0_3, vc0_4], [vc1_0, vc1_1]], gh⟩) (fun e s => nx e s (fun e s => some (e, s)) fun s => kR (runL pg q45 s) (fun e s => some (e, s)))
theorem qfn_ {x5 : Int} {vc0_0 vc0_1 : PV} {vc0_2 vc0_3 : PV} {vc0_4 vc1_0 vc1_1 : PV} (h : qfn pg x5 vc0_0 vc0_1 vc0_2 vc0_3 vc0_4 vc1_0 vc1_1 gh = some (e, s)) : runL pg q2q ⟨[(2, .ptr false 0 0), (3, .ptr false 1 0), (5, I x5)], [[vc0_0, vc0_1, vc0_2, vc0_3, vc0_4], [vc1_0, vc1_1]], gh⟩ = some (e, s) :=
 ji2 q3b (Eq.trans (by kernel_rfl) h)
def q9k (pg : Prg) (x5 : Int) (vc0_0 vc0_1 : PV) (vc0_2 vc0_3 : PV) (vc0_4 vc1_0 vc1_1 : PV) (gh : List GObj) : DR :=
  br 19 (x5 == 0) (isC (degr vc1_0) (onK (degr1 (degr1 vc0_0)) (onK (degr1 (degr1 vc0_1)) (onK (degr1 (degr1 vc0_2)) (onK (degr1 (degr1 vc0_3)) (onK (degr1 (degr1 vc0_4)) (arK (degr (degr vc1_0)) (
  callR gh true (callL pg 124 [(.agg [(degr1 (degr1 vc0_0)), (degr1 (degr1 vc0_1)), (degr1 (degr1 vc0_2)), (degr1 (degr1 vc0_3)), (degr1 (degr1 vc0_4))]), I 3, (degr (degr vc1_0))] gh) fun r1 gh2 => unI .i64 r1 fun n3 =>
  kR (runL pg q2q ⟨[(2, .ptr false 0 0), (3, .ptr false 1 0), (5, I n3)], [[vc0_0, vc0_1, vc0_2, vc0_3, vc0_4], [vc1_0, vc1_1]], gh2⟩) (fun e s => some (e, s)))))))))) (
  kR (runL pg q2q ⟨[(2, .ptr false 0 0), (3, .ptr false 1 0), (5, I x5)], [[vc0_0, vc0_1, vc0_2, vc0_3, vc0_4], [vc1_0, vc1_1]], gh⟩) (fun e s => some (e, s)))
theorem q9k_ {x5 : Int} {vc0_0 vc0_1 : PV} {vc0_2 vc0_3 : PV} {vc0_4 vc1_0 vc1_1 : PV} (h : q9k pg x5 vc0_0 vc0_1 vc0_2 vc0_3 vc0_4 vc1_0 vc1_1 gh = some (e, s)) : runL pg q1m ⟨[(2, .ptr false 0 0), (3, .ptr false 1 0), (5, I x5)], [[vc0_0, vc0_1, vc0_2, vc0_3, vc0_4], [vc1_0, vc1_1]], gh⟩ = some (e, s) :=
 ji2 q3b (Eq.trans (by kernel_rfl) h)
def q5i (pg : Prg) (v0_0 v0_1 : PV) (v0_2 v0_3 : PV) (v0_4 v1_0 v1_1 : PV) (gh : List GObj) : DR := onK (degr1 v0_0) (onK (degr1 v0_1) (onK (degr1 v0_2) (onK (degr1 v0_3) (onK (degr1 v0_4) (onK (degr1 v1_0) (onK (degr1 v1_1) (onK (degr1 (degr1 (degr1 v0_0))) (onK (degr1 (degr1 (degr1 v0_1))) (onK (degr1 (degr1 (degr1 v0_2))) (onK (degr1 (degr1 (degr1 v0_3))) (onK (degr1 (degr1 (degr1 v0_4))) (
  callR gh true (callL pg 36 [(.agg [(degr1 (degr1 (degr1 v0_0))), (degr1 (degr1 (degr1 v0_1))), (degr1 (degr1 (degr1 v0_2))), (degr1 (degr1 (degr1 v0_3))), (degr1 (degr1 (degr1 v0_4)))])] gh) fun r1 gh2 => unI .i64 r1 fun n3 =>
  br 11 (n3 == 0) (isC (degr (degr1 v1_1)) (lenS (degr (degr (degr1 v1_1))) fun n4 =>
  callR gh2 true (callL pg 50 [(I (n4 : Int)), I 1, I 41] gh2) fun r5 gh6 => unB r5 fun b7 =>
  br 17 (!b7) (
  kR (runL pg q1m ⟨[(2, .ptr false 0 0), (3, .ptr false 1 0), (5, I 2)], [[(degr1 v0_0), (degr1 v0_1), (degr1 v0_2), (degr1 v0_3), (degr1 v0_4)], [(degr1 v1_0), (degr1 v1_1)]], gh6⟩) (fun e s => some (e, s))) (
  kR (runL pg q1m ⟨[(2, .ptr false 0 0), (3, .ptr false 1 0), (5, I n3)], [[(degr1 v0_0), (degr1 v0_1), (degr1 v0_2), (degr1 v0_3), (degr1 v0_4)], [(degr1 v1_0), (degr1 v1_1)]], gh6⟩) (fun e s => some (e, s))))) (
  kR (runL pg q1m ⟨[(2, .ptr false 0 0), (3, .ptr false 1 0), (5, I n3)], [[(degr1 v0_0), (degr1 v0_1), (degr1 v0_2), (degr1 v0_3), (degr1 v0_4)], [(degr1 v1_0), (degr1 v1_1)]], gh2⟩) (fun e s => some (e, s)))))))))))))))
theorem q5i_ {v0_0 v0_1 : PV} {v0_2 v0_3 : PV} {v0_4 v1_0 v1_1 : PV} (h : q5i pg v0_0 v0_1 v0_2 v0_3 v0_4 v1_0 v1_1 gh = some (e, s)) : runL pg qcf ⟨[(0, .agg [v0_0, v0_1, v0_2, v0_3, v0_4]), (1, .agg [v1_0, v1_1])], [], gh⟩ = some (e, s) :=
 ji2 q3b (Eq.trans (by kernel_rfl) h)
end
end Go.Lw
end

/-! What the code of function trace_player comes to, piece by piece. Written by program (dprint.py). -/
section
set_option maxRecDepth 10000
set_option maxHeartbeats 4000000
namespace Go.Lw
open Go
noncomputable section
variable {pg : Prg} {gh : List GObj} {e : IExit} {s : St}
def qfo : Tr := (tB 18 (.node 10 (.agg [.any, .any, .any, .any, .any]) (tO 6 (.node 1 (.agg [.any, .any]) (.node 0 (.agg [.any, .any, .any, .any, .any]) .nil .nil) (uO 2)) (tO 9 (uO 8) .nil)) (tO 15 (tO 13 (uO 12) .nil) (tI 17 (uI 16) .nil))) (tO 26 (tO 23 (.node 21 (.agg [.any, .any, .any, .any, .any]) (uO 20) (uO 22)) (tO 25 (uO 24) .nil)) (tO 30 (.node 29 (.agg [.any, .any, .any, .any, .any]) (uO 27) .nil) (tI 32 (uO 31) .nil))))
def q9l (pg : Prg) (v2 v6 v15 : PV) (x16 x17 : Int) (vc0_0 vc0_1 : PV) (vc0_2 vc0_3 vc0_4 : PV) (gh : List GObj) : DR :=
  br 18 (decide (x17 < x16)) (
  idX 1 none (degr v15) x17 fun p1 =>
  ldX [[vc0_0, vc0_1, vc0_2, vc0_3, vc0_4]] gh false 1 (degr p1) fun v3 => isC v3 (stK 1 v2 (stK 1 v6 (stK 1 v3 (stK 1 v15 (isC (degr v6) (isC (degr v3) (onK (degr1 (degr1 vc0_0)) (onK (degr1 (degr1 vc0_1)) (onK (degr1 (degr1 vc0_2)) (onK (degr1 (degr1 vc0_3)) (onK (degr1 (degr1 vc0_4)) (arK (degr (degr v6)) (arK (degr (degr v3)) (
  callR gh true (callL pg 139 [(.agg [(degr1 (degr1 vc0_0)), (degr1 (degr1 vc0_1)), (degr1 (degr1 vc0_2)), (degr1 (degr1 vc0_3)), (degr1 (degr1 vc0_4))]), (degr (degr v6)), (degr (degr v3))] gh) fun r4 gh5 => isC r4 (stK 1 v2 (stK 1 v6 (stK 1 r4 (stK 1 v15 (isC (degr v2) (isC (degr v6) (isC (degr r4) (
  fnX (degr (degr v2)) fun f8 cs9 => arK (degr (degr v6)) (arK (degr (degr r4)) (allK cs9 (callR gh5 false (callL pg f8 ([(degr (degr v6)), (degr (degr r4))] ++ cs9) gh5) fun r6 gh7 => stK 1 v2 (stK 1 r4 (stK 1 v15 (isC (degr r4) (onK (degr1 (degr1 vc0_0)) (onK (degr1 (degr1 vc0_1)) (onK (degr1 (degr1 vc0_2)) (onK (degr1 (degr1 vc0_3)) (onK (degr1 (degr1 vc0_4)) (arK (degr (degr r4)) (
  callR gh7 true (callL pg 140 [(.agg [(degr1 (degr1 vc0_0)), (degr1 (degr1 vc0_1)), (degr1 (degr1 vc0_2)), (degr1 (degr1 vc0_3)), (degr1 (degr1 vc0_4))]), (degr (degr r4))] gh7) fun r10 gh11 => isC r10 (stK 1 v2 (stK 1 r10 (stK 1 v15 (stK 1 v2 (stK 1 r10 (stK 1 v15 (stK 1 v2 (stK 1 r10 (stK 1 v15 (some (.normal, ⟨[(2, v2), (3, .ptr false 0 0), (6, r10), (15, v15), (16, I x16), (17, (I (IntKind.i64.wrap (x17 + 1))))], [[vc0_0, vc0_1, vc0_2, vc0_3, vc0_4]], gh11⟩))))))))))))))))))))))))))))))))))))))))))))))) (some ((.exit 0), ⟨[(2, v2), (3, .ptr false 0 0), (6, v6), (15, v15), (16, I x16), (17, I x17), (18, (B (decide (x17 < x16))))], [[vc0_0, vc0_1, vc0_2, vc0_3, vc0_4]], gh⟩))
theorem q9l_ {v2 v6 v15 : PV} {x16 x17 : Int} {vc0_0 vc0_1 : PV} {vc0_2 vc0_3 vc0_4 : PV} (h : q9l pg v2 v6 v15 x16 x17 vc0_0 vc0_1 vc0_2 vc0_3 vc0_4 gh = some (e, s)) : runL pg qcm ⟨[(2, v2), (3, .ptr false 0 0), (6, v6), (15, v15), (16, I x16), (17, I x17)], [[vc0_0, vc0_1, vc0_2, vc0_3, vc0_4]], gh⟩ = some (e, s) :=
 ji2 qfo (Eq.trans (by kernel_rfl) h)
def qfp (pg : Prg) (v0_0 v0_1 : PV) (v0_2 v0_3 : PV) (v0_4 v1_0 : PV) (v1_1 v2 : PV) (gh : List GObj) : DR := onK (degr1 v0_0) (onK (degr1 v0_1) (onK (degr1 v0_2) (onK (degr1 v0_3) (onK (degr1 v0_4) (onK (degr1 v1_0) (onK (degr1 v1_1) (stK 2 v2 (isC (degr (degr1 v1_0)) (onK (degr1 (degr1 (degr1 v0_0))) (onK (degr1 (degr1 (degr1 v0_1))) (onK (degr1 (degr1 (degr1 v0_2))) (onK (degr1 (degr1 (degr1 v0_3))) (onK (degr1 (degr1 (degr1 v0_4))) (arK (degr (degr (degr1 v1_0))) (
  callR gh true (callL pg 136 [(.agg [(degr1 (degr1 (degr1 v0_0))), (degr1 (degr1 (degr1 v0_1))), (degr1 (degr1 (degr1 v0_2))), (degr1 (degr1 (degr1 v0_3))), (degr1 (degr1 (degr1 v0_4)))]), (degr (degr (degr1 v1_0)))] gh) fun r1 gh2 => isC r1 (stK 2 v2 (stK 2 r1 (isC (degr (degr1 v1_1)) (lenS (degr (degr (degr1 v1_1))) fun n3 => stK 1 v2 (stK 1 r1 (stK 1 (degr (degr1 v1_1)) (
  kR (runL pg q7y ⟨[(2, v2), (3, .ptr false 0 0), (6, r1), (15, (degr (degr1 v1_1))), (16, (I (n3 : Int))), (17, I 0)], [[(degr1 v0_0), (degr1 v0_1), (degr1 v0_2), (degr1 v0_3), (degr1 v0_4)]], gh2⟩) (fun e s => some (e, s))))))))))))))))))))))))
theorem qfp_ {v0_0 v0_1 : PV} {v0_2 v0_3 : PV} {v0_4 v1_0 : PV} {v1_1 v2 : PV} (h : qfp pg v0_0 v0_1 v0_2 v0_3 v0_4 v1_0 v1_1 v2 gh = some (e, s)) : runL pg qcn ⟨[(0, .agg [v0_0, v0_1, v0_2, v0_3, v0_4]), (1, .agg [v1_0, v1_1]), (2, v2)], [], gh⟩ = some (e, s) :=
 ji2 qfo (Eq.trans (by kernel_rfl) h)
end
end Go.Lw
end

/-! What the code of function trace_Play comes to, piece by piece. Written by program (dprint.py). -/
section
set_option maxRecDepth 10000
set_option maxHeartbeats 4000000
namespace Go.Lw
open Go
noncomputable section
variable {pg : Prg} {gh : List GObj} {e : IExit} {s : St}
def qhy : Tr := (tI 10 (tI 6 (tO 4 (.node 1 (.agg [.any, .any]) (.node 0 (.agg [.any, .any, .any, .any, .any]) .nil .nil) .nil) (uI 5)) (.node 8 (.agg [.any, .any, .any, .any, .any]) (uG 7) (.node 9 (.agg [.any, .any]) .nil .nil))) (.node 14 (.agg [.any, .any, .any, .any, .any]) (tB 12 (uI 11) (uI 13)) (tO 16 (.node 15 (.agg [.any, .any]) .nil .nil) (uO 18))))
def q9m (pg : Prg) (v0_0 v0_1 : PV) (v0_2 v0_3 : PV) (v0_4 v1_0 v1_1 : PV) (gh : List GObj) : DR := onK (degr1 v0_0) (onK (degr1 v0_1) (onK (degr1 v0_2) (onK (degr1 v0_3) (onK (degr1 v0_4) (onK (degr1 v1_0) (onK (degr1 v1_1) (onK (degr1 (degr1 (degr1 v0_0))) (onK (degr1 (degr1 (degr1 v0_1))) (onK (degr1 (degr1 (degr1 v0_2))) (onK (degr1 (degr1 (degr1 v0_3))) (onK (degr1 (degr1 (degr1 v0_4))) (onK (degr1 (degr1 (degr1 v1_0))) (onK (degr1 (degr1 (degr1 v1_1))) (
  callR gh true (callL pg 248 [(.agg [(degr1 (degr1 (degr1 v0_0))), (degr1 (degr1 (degr1 v0_1))), (degr1 (degr1 (degr1 v0_2))), (degr1 (degr1 (degr1 v0_3))), (degr1 (degr1 (degr1 v0_4)))]), (.agg [(degr1 (degr1 (degr1 v1_0))), (degr1 (degr1 (degr1 v1_1)))])] gh) fun r1 gh2 => unI .i64 r1 fun n3 =>
  br 12 (n3 != 0) (some (.ret, ⟨[(4, .sl true 1 []), (5, I n3)], [], gh2⟩)) (onK (degr1 (degr1 (degr1 v0_0))) (onK (degr1 (degr1 (degr1 v0_1))) (onK (degr1 (degr1 (degr1 v0_2))) (onK (degr1 (degr1 (degr1 v0_3))) (onK (degr1 (degr1 (degr1 v0_4))) (onK (degr1 (degr1 (degr1 v1_0))) (onK (degr1 (degr1 (degr1 v1_1))) (
  callR (gh2 ++ [.cells [.sl true 1 []]]) false (callL pg 253 [(.agg [(degr1 (degr1 (degr1 v0_0))), (degr1 (degr1 (degr1 v0_1))), (degr1 (degr1 (degr1 v0_2))), (degr1 (degr1 (degr1 v0_3))), (degr1 (degr1 (degr1 v0_4)))]), (.agg [(degr1 (degr1 (degr1 v1_0))), (degr1 (degr1 (degr1 v1_1)))]), (.fn 382 [(.ptr true (List.length gh2) 0)])] (gh2 ++ [.cells [.sl true 1 []]])) fun r4 gh5 =>
  ob (ghCells gh5 (List.length gh2)) fun cs6 =>
  ob (grab false 1 0 cs6) fun v7 => isC (degr v7) (stK 0 (degr v7) (some (.ret, ⟨[(4, (degr v7)), (5, I 0)], [], gh5⟩)))))))))))))))))))))))))
theorem q9m_ {v0_0 v0_1 : PV} {v0_2 v0_3 : PV} {v0_4 v1_0 v1_1 : PV} (h : q9m pg v0_0 v0_1 v0_2 v0_3 v0_4 v1_0 v1_1 gh = some (e, s)) : runL pg qco ⟨[(0, .agg [v0_0, v0_1, v0_2, v0_3, v0_4]), (1, .agg [v1_0, v1_1])], [], gh⟩ = some (e, s) :=
 ji2 qhy (Eq.trans (by kernel_rfl) h)
end
end Go.Lw
end

/-! What the code of function trace_Play_1 comes to, piece by piece. Written by program (dprint.py). -/
section
set_option maxRecDepth 10000
set_option maxHeartbeats 4000000
namespace Go.Lw
open Go
noncomputable section
variable {pg : Prg} {gh : List GObj} {e : IExit} {s : St}
def qhz : Tr := (tO 5 (tO 1 (uO 0) (uG 2)) (tO 7 (uO 6) (uO 8)))
def qfq (pg : Prg) (v0 v1 : PV) (g2 o2 : Nat) (gh : List GObj) : DR :=
  ob (ghCells gh g2) fun cs1 => ob (cs1[o2]?) fun v2 => isC (degr v0) (arK (degr (degr v0)) (lnK 1 (degr (degr v0)) (
  apX 1 24 v2 (.sl false 1 [(degr (degr v0))]) fun l3 =>
  ob (ghCells (List.set gh g2 (.cells (spliceAt cs1 o2 [degr1 v2]))) g2) fun cs4 => gb (stOk 1 o2 [.sl true 1 l3] cs4) (some (.normal, ⟨[], [], (List.set (List.set gh g2 (.cells (spliceAt cs1 o2 [degr1 v2]))) g2 (.cells (spliceAt cs4 o2 [.sl true 1 l3])))⟩)))))
theorem qfq_ {v0 v1 : PV} {g2 o2 : Nat} (h : qfq pg v0 v1 g2 o2 gh = some (e, s)) : runL pg qcp ⟨[(0, v0), (1, v1), (2, .ptr true g2 o2)], [], gh⟩ = some (e, s) :=
 ji2 qhz (Eq.trans (by kernel_rfl) h)
end
end Go.Lw
end

/-! What the code of function trace_Bad comes to, piece by piece. Written by program (dprint.py). -/
section
set_option maxRecDepth 10000
set_option maxHeartbeats 4000000
namespace Go.Lw
open Go
noncomputable section
variable {pg : Prg} {gh : List GObj} {e : IExit} {s : St}
def qi0 : Tr := (tI 11 (tI 6 (tG 2 (.node 1 (.agg [.any, .any]) (.node 0 (.agg [.any, .any, .any, .any, .any]) .nil .nil) .nil) (tI 5 (uB 4) .nil)) (.node 9 (.agg [.any, .any, .any, .any, .any]) (tG 8 (uG 7) .nil) (.node 10 (.agg [.any, .any]) .nil .nil))) (tO 17 (tI 14 (tB 13 (uI 12) .nil) (.node 16 (.agg [.any, .any]) (.node 15 (.agg [.any, .any, .any, .any, .any]) .nil .nil) .nil)) (tB 21 (tB 20 (uB 19) .nil) (uB 22))))
def q9n (pg : Prg) (v0_0 v0_1 : PV) (v0_2 v0_3 : PV) (v0_4 v1_0 v1_1 : PV) (gh : List GObj) : DR := onK (degr1 v0_0) (onK (degr1 v0_1) (onK (degr1 v0_2) (onK (degr1 v0_3) (onK (degr1 v0_4) (onK (degr1 v1_0) (onK (degr1 v1_1) (
  ob (ghCells (gh ++ [.cells [(degr1 v0_0), (degr1 v0_1), (degr1 v0_2), (degr1 v0_3), (degr1 v0_4)]]) (List.length gh)) fun cs1 =>
  ob (grab true 5 0 cs1) fun v2 => unA 5 (degr v2) fun c3 c4 c5 c6 c7 => onK (degr1 c3) (onK (degr1 c4) (onK (degr1 c5) (onK (degr1 c6) (onK (degr1 c7) (onK (degr1 (degr1 (degr1 v1_0))) (onK (degr1 (degr1 (degr1 v1_1))) (
  callR (gh ++ [.cells [(degr1 v0_0), (degr1 v0_1), (degr1 v0_2), (degr1 v0_3), (degr1 v0_4)]]) true (callL pg 248 [(.agg [(degr1 c3), (degr1 c4), (degr1 c5), (degr1 c6), (degr1 c7)]), (.agg [(degr1 (degr1 (degr1 v1_0))), (degr1 (degr1 (degr1 v1_1)))])] (gh ++ [.cells [(degr1 v0_0), (degr1 v0_1), (degr1 v0_2), (degr1 v0_3), (degr1 v0_4)]])) fun r8 gh9 => unI .i64 r8 fun n10 =>
  br 13 (n10 != 0) (some (.ret, ⟨[(4, B false), (5, I n10)], [], gh9⟩)) (
  ob (ghCells ((gh9 ++ [.cells [B false]]) ++ [.cells [B false]]) (List.length gh9)) fun cs11 => gb (stOk 1 0 [B true] cs11) (
  ob (ghCells (List.set ((gh9 ++ [.cells [B false]]) ++ [.cells [B false]]) (List.length gh9) (.cells (spliceAt cs11 0 [B true]))) (List.length (gh9 ++ [.cells [B false]]))) fun cs12 => gb (stOk 1 0 [B false] cs12) (
  ob (ghCells (List.set (List.set ((gh9 ++ [.cells [B false]]) ++ [.cells [B false]]) (List.length gh9) (.cells (spliceAt cs11 0 [B true]))) (List.length (gh9 ++ [.cells [B false]])) (.cells (spliceAt cs12 0 [B false]))) (List.length gh)) fun cs13 =>
  ob (grab true 5 0 cs13) fun v14 => unA 5 (degr v14) fun c15 c16 c17 c18 c19 => onK (degr1 c15) (onK (degr1 c16) (onK (degr1 c17) (onK (degr1 c18) (onK (degr1 c19) (onK (degr1 (degr1 (degr1 v1_0))) (onK (degr1 (degr1 (degr1 v1_1))) (
  callR (List.set (List.set ((gh9 ++ [.cells [B false]]) ++ [.cells [B false]]) (List.length gh9) (.cells (spliceAt cs11 0 [B true]))) (List.length (gh9 ++ [.cells [B false]])) (.cells (spliceAt cs12 0 [B false]))) false (callL pg 253 [(.agg [(degr1 c15), (degr1 c16), (degr1 c17), (degr1 c18), (degr1 c19)]), (.agg [(degr1 (degr1 (degr1 v1_0))), (degr1 (degr1 (degr1 v1_1)))]), (.fn 252 [(.ptr true (List.length gh) 0), (.ptr true (List.length gh9) 0), (.ptr true (List.length (gh9 ++ [.cells [B false]])) 0)])] (List.set (List.set ((gh9 ++ [.cells [B false]]) ++ [.cells [B false]]) (List.length gh9) (.cells (spliceAt cs11 0 [B true]))) (List.length (gh9 ++ [.cells [B false]])) (.cells (spliceAt cs12 0 [B false])))) fun r20 gh21 =>
  ob (ghCells gh21 (List.length gh9)) fun cs22 =>
  ob (grab false 1 0 cs22) fun v23 => unB (degr v23) fun b24 =>
  br 20 b24 (
  ob (ghCells gh21 (List.length (gh9 ++ [.cells [B false]]))) fun cs25 =>
  ob (grab false 1 0 cs25) fun v26 => unB (degr v26) fun b27 => some (.ret, ⟨[(4, B b27), (5, I 0)], [], gh21⟩)) (some (.ret, ⟨[(4, B false), (5, I 0)], [], gh21⟩))))))))))))))))))))))))))
theorem q9n_ {v0_0 v0_1 : PV} {v0_2 v0_3 : PV} {v0_4 v1_0 v1_1 : PV} (h : q9n pg v0_0 v0_1 v0_2 v0_3 v0_4 v1_0 v1_1 gh = some (e, s)) : runL pg qci ⟨[(0, .agg [v0_0, v0_1, v0_2, v0_3, v0_4]), (1, .agg [v1_0, v1_1])], [], gh⟩ = some (e, s) :=
 ji2 qi0 (Eq.trans (by kernel_rfl) h)
end
end Go.Lw
end

/-! What the code of function trace_Bad_1 comes to, piece by piece. Written by program (dprint.py). -/
section
set_option maxRecDepth 10000
set_option maxHeartbeats 4000000
namespace Go.Lw
open Go
noncomputable section
variable {pg : Prg} {gh : List GObj} {e : IExit} {s : St}
def qi1 : Tr := (tO 11 (tG 4 (tG 2 (tO 1 (uO 0) .nil) (uG 3)) (.node 9 (.tup 2) (tB 8 (uB 7) .nil) (.node 10 (.agg [.any, .any, .any, .any, .any]) .nil .nil))) (tB 16 (tB 14 (tB 13 (.node 12 (.tup 2) .nil .nil) .nil) (uB 15)) (tB 18 (uB 17) (uB 19))))
def qfr (pg : Prg) (v0 v1 : PV) (g2 o2 : Nat) (g3 o3 : Nat) (g4 o4 : Nat) (gh : List GObj) : DR :=
  ob (ghCells gh g2) fun cs1 =>
  ob (grab true 5 o2 cs1) fun v2 => unA 5 (degr v2) fun c3 c4 c5 c6 c7 => isC (degr v1) (onK (degr1 c3) (onK (degr1 c4) (onK (degr1 c5) (onK (degr1 c6) (onK (degr1 c7) (arK (degr (degr v1)) (
  callR gh true (callL pg 141 [(.agg [(degr1 c3), (degr1 c4), (degr1 c5), (degr1 c6), (degr1 c7)]), (degr (degr v1))] gh) fun r8 gh9 => unT 2 r8 fun r10 r11 => unB (degr1 (degr1 r10)) fun b12 => unB (degr1 (degr1 r11)) fun b13 =>
  ob (ghCells gh9 g3) fun cs14 =>
  ob (grab false 1 o3 cs14) fun v15 => unB (degr v15) fun b16 =>
  br 16 b16 (
  ob (ghCells gh9 g3) fun cs17 => gb (stOk 1 o3 [B b12] cs17) (
  ob (ghCells (List.set gh9 g3 (.cells (spliceAt cs17 o3 [B b12]))) g4) fun cs18 => gb (stOk 1 o4 [B b13] cs18) (some (.normal, ⟨[], [], (List.set (List.set gh9 g3 (.cells (spliceAt cs17 o3 [B b12]))) g4 (.cells (spliceAt cs18 o4 [B b13])))⟩)))) (
  ob (ghCells gh9 g3) fun cs19 => gb (stOk 1 o3 [B false] cs19) (
  ob (ghCells (List.set gh9 g3 (.cells (spliceAt cs19 o3 [B false]))) g4) fun cs20 => gb (stOk 1 o4 [B b13] cs20) (some (.normal, ⟨[], [], (List.set (List.set gh9 g3 (.cells (spliceAt cs19 o3 [B false]))) g4 (.cells (spliceAt cs20 o4 [B b13])))⟩)))))))))))
theorem qfr_ {v0 v1 : PV} {g2 o2 : Nat} {g3 o3 : Nat} {g4 o4 : Nat} (h : qfr pg v0 v1 g2 o2 g3 o3 g4 o4 gh = some (e, s)) : runL pg qcl ⟨[(0, v0), (1, v1), (2, .ptr true g2 o2), (3, .ptr true g3 o3), (4, .ptr true g4 o4)], [], gh⟩ = some (e, s) :=
 ji2 qi1 (Eq.trans (by kernel_rfl) h)
end
end Go.Lw
end

/-! What the code of function ref_PlayOf comes to, piece by piece. Written by program (dprint.py). -/
section
set_option maxRecDepth 10000
set_option maxHeartbeats 4000000
namespace Go.Lw
open Go
noncomputable section
variable {pg : Prg} {gh : List GObj} {e : IExit} {s : St}
def q9o : Tr := (.node 29 (.agg [.any, .any, .any, .any, .any]) (.node 14 (.agg [.any, .any, .any, .any, .any]) (tB 8 (tB 5 (.node 1 (.agg [.any, .any]) (.node 0 (.agg [.any, .any, .any, .any, .any]) .nil .nil) (uO 4)) (tO 7 (uO 6) .nil)) (tO 11 (tI 10 (uB 9) .nil) (tB 13 (uB 12) .nil))) (tI 23 (tO 20 (tO 17 (uO 16) (uI 18)) (tB 22 (uI 21) .nil)) (tO 26 (tO 25 (uI 24) .nil) (tO 28 (uO 27) .nil)))) (tB 44 (.node 38 (.agg [.any, .any, .any, .any, .any]) (tO 35 (tO 32 (uO 30) (uI 33)) (.node 37 (.tup 2) (uO 36) .nil)) (tB 41 (.node 40 (.tup 2) (uO 39) .nil) (tB 43 (uB 42) .nil))) (tO 50 (tB 47 (tB 46 (uB 45) .nil) (tO 49 (.node 48 (.agg [.any, .any, .any, .any, .any]) .nil .nil) .nil)) (tB 53 (tB 52 (uO 51) .nil) (tB 55 (uB 54) .nil)))))
def q9p (pg : Prg) (v6 v7 : PV) (b8 b9 : Bool) (x10 : Int) (vc0_0 vc0_1 : PV) (vc0_2 vc0_3 : PV) (vc0_4 vc1_0 vc1_1 : PV) (gh : List GObj) : DR := isC (degr vc1_1) (lenS (degr (degr vc1_1)) fun n1 => stK 2 v6 (stK 2 v7 (
  br 22 (decide (x10 < (n1 : Int))) (isC (degr v7) (arK (degr (degr v7)) (lnK 1 (degr (degr v7)) (
  apX 1 24 v6 (.sl false 1 [(degr (degr v7))]) fun l2 => stK 2 v7 (isC (degr v7) (isC (degr vc1_1) (
  idX 1 none (degr (degr vc1_1)) x10 fun p3 =>
  ldX [[vc0_0, vc0_1, vc0_2, vc0_3, vc0_4], [vc1_0, vc1_1]] gh false 1 (degr p3) fun v4 => isC v4 (onK (degr1 (degr1 vc0_0)) (onK (degr1 (degr1 vc0_1)) (onK (degr1 (degr1 vc0_2)) (onK (degr1 (degr1 vc0_3)) (onK (degr1 (degr1 vc0_4)) (arK (degr (degr v7)) (arK (degr v4) (
  callR gh true (callL pg 132 [(.agg [(degr1 (degr1 vc0_0)), (degr1 (degr1 vc0_1)), (degr1 (degr1 vc0_2)), (degr1 (degr1 vc0_3)), (degr1 (degr1 vc0_4))]), (degr (degr v7)), (degr v4)] gh) fun r5 gh6 => isC r5 (stK 2 r5 (isC (degr r5) (onK (degr1 (degr1 vc0_0)) (onK (degr1 (degr1 vc0_1)) (onK (degr1 (degr1 vc0_2)) (onK (degr1 (degr1 vc0_3)) (onK (degr1 (degr1 vc0_4)) (arK (degr (degr r5)) (
  callR gh6 true (callL pg 134 [(.agg [(degr1 (degr1 vc0_0)), (degr1 (degr1 vc0_1)), (degr1 (degr1 vc0_2)), (degr1 (degr1 vc0_3)), (degr1 (degr1 vc0_4))]), (degr (degr r5))] gh6) fun r7 gh8 => unT 2 r7 fun r9 r10 => unB (degr1 (degr1 r9)) fun b11 => unB (degr1 (degr1 r10)) fun b12 => stK 2 r5 (
  br 44 b8 (stK 2 r5 (isC (degr r5) (onK (degr1 (degr1 vc0_0)) (onK (degr1 (degr1 vc0_1)) (onK (degr1 (degr1 vc0_2)) (onK (degr1 (degr1 vc0_3)) (onK (degr1 (degr1 vc0_4)) (arK (degr (degr r5)) (
  callR gh8 true (callL pg 133 [(.agg [(degr1 (degr1 vc0_0)), (degr1 (degr1 vc0_1)), (degr1 (degr1 vc0_2)), (degr1 (degr1 vc0_3)), (degr1 (degr1 vc0_4))]), (degr (degr r5))] gh8) fun r13 gh14 => isC r13 (stK 2 r13 (stK 2 r13 (stK 2 r13 (some (.normal, ⟨[(2, .ptr false 0 0), (3, .ptr false 1 0), (6, .sl true 1 l2), (7, r13), (8, B b11), (9, B b12), (10, (I (IntKind.i64.wrap (x10 + 1))))], [[vc0_0, vc0_1, vc0_2, vc0_3, vc0_4], [vc1_0, vc1_1]], gh14⟩)))))))))))))) (stK 2 r5 (isC (degr r5) (onK (degr1 (degr1 vc0_0)) (onK (degr1 (degr1 vc0_1)) (onK (degr1 (degr1 vc0_2)) (onK (degr1 (degr1 vc0_3)) (onK (degr1 (degr1 vc0_4)) (arK (degr (degr r5)) (
  callR gh8 true (callL pg 133 [(.agg [(degr1 (degr1 vc0_0)), (degr1 (degr1 vc0_1)), (degr1 (degr1 vc0_2)), (degr1 (degr1 vc0_3)), (degr1 (degr1 vc0_4))]), (degr (degr r5))] gh8) fun r15 gh16 => isC r15 (stK 2 r15 (stK 2 r15 (stK 2 r15 (some (.normal, ⟨[(2, .ptr false 0 0), (3, .ptr false 1 0), (6, .sl true 1 l2), (7, r15), (8, B false), (9, B b12), (10, (I (IntKind.i64.wrap (x10 + 1))))], [[vc0_0, vc0_1, vc0_2, vc0_3, vc0_4], [vc1_0, vc1_1]], gh16⟩))))))))))))))))))))))))))))))))))))))) (some ((.exit 0), ⟨[(2, .ptr false 0 0), (3, .ptr false 1 0), (6, v6), (7, v7), (8, B b8), (9, B b9), (10, I x10), (22, (B (decide (x10 < (n1 : Int)))))], [[vc0_0, vc0_1, vc0_2, vc0_3, vc0_4], [vc1_0, vc1_1]], gh⟩)))))
theorem q9p_ {v6 v7 : PV} {b8 b9 : Bool} {x10 : Int} {vc0_0 vc0_1 : PV} {vc0_2 vc0_3 : PV} {vc0_4 vc1_0 vc1_1 : PV} (h : q9p pg v6 v7 b8 b9 x10 vc0_0 vc0_1 vc0_2 vc0_3 vc0_4 vc1_0 vc1_1 gh = some (e, s)) : runL pg qcg ⟨[(2, .ptr false 0 0), (3, .ptr false 1 0), (6, v6), (7, v7), (8, B b8), (9, B b9), (10, I x10)], [[vc0_0, vc0_1, vc0_2, vc0_3, vc0_4], [vc1_0, vc1_1]], gh⟩ = some (e, s) :=
 ji2 q9o (Eq.trans (by kernel_rfl) h)
def qfs (pg : Prg) (v6 : PV) (b8 b9 : Bool) (gh : List GObj) : DR := isC (degr v6) (
  br 53 b8 (stK 0 (degr v6) (some (.ret, ⟨[(4, (degr v6)), (5, B b9)], [], gh⟩))) (stK 0 (degr v6) (some (.ret, ⟨[(4, (degr v6)), (5, B false)], [], gh⟩))))
theorem qfs_ {v6 : PV} {b8 b9 : Bool} (h : qfs pg v6 b8 b9 gh = some (e, s)) : runL pg q47 ⟨[(6, v6), (8, B b8), (9, B b9)], [], gh⟩ = some (e, s) :=
 ji2 q9o (Eq.trans (by kernel_rfl) h)
def qft (pg : Prg) (v0_0 v0_1 : PV) (v0_2 v0_3 : PV) (v0_4 v1_0 v1_1 : PV) (gh : List GObj) : DR := onK (degr1 v0_0) (onK (degr1 v0_1) (onK (degr1 v0_2) (onK (degr1 v0_3) (onK (degr1 v0_4) (onK (degr1 v1_0) (onK (degr1 v1_1) (isC (degr (degr1 v1_0)) (onK (degr1 (degr1 (degr1 v0_0))) (onK (degr1 (degr1 (degr1 v0_1))) (onK (degr1 (degr1 (degr1 v0_2))) (onK (degr1 (degr1 (degr1 v0_3))) (onK (degr1 (degr1 (degr1 v0_4))) (arK (degr (degr (degr1 v1_0))) (
  callR gh true (callL pg 125 [(.agg [(degr1 (degr1 (degr1 v0_0))), (degr1 (degr1 (degr1 v0_1))), (degr1 (degr1 (degr1 v0_2))), (degr1 (degr1 (degr1 v0_3))), (degr1 (degr1 (degr1 v0_4)))]), (degr (degr (degr1 v1_0)))] gh) fun r1 gh2 => isC r1 (stK 2 r1 (stK 2 r1 (
  kR (runL pg q46 ⟨[(2, .ptr false 0 0), (3, .ptr false 1 0), (6, .sl true 1 []), (7, r1), (8, B true), (9, B false), (10, I 0)], [[(degr1 v0_0), (degr1 v0_1), (degr1 v0_2), (degr1 v0_3), (degr1 v0_4)], [(degr1 v1_0), (degr1 v1_1)]], gh2⟩) (fun e s => nx e s (fun e s => some (e, s)) fun s => kR (runL pg q47 s) (fun e s => some (e, s))))))))))))))))))))
theorem qft_ {v0_0 v0_1 : PV} {v0_2 v0_3 : PV} {v0_4 v1_0 v1_1 : PV} (h : qft pg v0_0 v0_1 v0_2 v0_3 v0_4 v1_0 v1_1 gh = some (e, s)) : runL pg qch ⟨[(0, .agg [v0_0, v0_1, v0_2, v0_3, v0_4]), (1, .agg [v1_0, v1_1])], [], gh⟩ = some (e, s) :=
 ji2 q9o (Eq.trans (by kernel_rfl) h)
end
end Go.Lw
end
