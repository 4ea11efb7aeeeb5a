/-
  The texts that the proof stands on, part 9.
-/
import Derived.Test.YtmodipglnngghabEvalValuesH
import Derived.KernelRfl
set_option linter.unusedVariables false
set_option linter.unusedSimpArgs false
set_option linter.unnecessarySimpa false

/-! What the code of function word_Fit comes to, piece by piece. Written by program (dprint.py). -/
section
set_option maxRecDepth 10000
set_option maxHeartbeats 4000000
namespace Go.Lw
open Go
noncomputable section
variable {pg : Prg} {gh : List GObj} {e : IExit} {s : St}
def an_word_Fit : Tr := (tI 29 (.node 16 (.tup 2) (tB 10 (.node 3 (.agg [.int .i64, .int .i64, .int .i64]) (tI 1 (uI 0) (uI 2)) (tI 9 (uI 8) .nil)) (.node 13 (.tup 2) (tI 12 (uI 11) .nil) (tI 15 (uO 14) .nil))) (tB 23 (tB 20 (tB 18 (uI 17) (uB 19)) (tB 22 (uI 21) .nil)) (tB 26 (tI 25 (.node 24 (.agg [.int .i64, .int .i64, .int .i64]) .nil .nil) .nil) (tI 28 (uI 27) .nil)))) (tB 42 (tB 36 (tB 33 (tI 31 (uI 30) (uB 32)) (tB 35 (uI 34) .nil)) (tI 39 (tB 38 (uB 37) .nil) (tI 41 (uI 40) .nil))) (tI 49 (tB 46 (tI 44 (uB 43) (uB 45)) (tI 48 (uB 47) .nil)) (.node 52 (.agg [.int .i64, .int .i64, .int .i64]) (tI 51 (uI 50) .nil) (tB 54 (uB 53) .nil)))))
def D_word_Fit_b1 (pg : Prg) (x0 x1 : Int) (x2 x9 : Int) (x24_0 x24_1 : Int) (x24_2 x25 : Int) (xc0_0 xc0_1 xc0_2 : Int) (gh : List GObj) : DR :=
  br 26 (decide (x25 < 3)) (ixX (.agg [I x24_0, I x24_1, I x24_2]) 1 3 false x25 fun v1 => unI .i64 v1 fun n2 =>
  callR gh true (callL pg 63 [I x0] gh) fun r3 gh4 => unI .i64 r3 fun n5 =>
  br 33 (decide (x25 < n5)) (
  callR gh4 true (callL pg 62 [I n2] gh4) fun r6 gh7 => unB r6 fun b8 =>
  br 38 (!b8) (some (.ret, ⟨[(8, I 3)], [], gh7⟩)) (
  callR gh7 true (callL pg 63 [I x0] gh7) fun r9 gh10 => unI .i64 r9 fun n11 =>
  br 43 (decide (n11 ≤ x25)) (
  br 47 (n2 != 0) (some (.ret, ⟨[(8, I 3)], [], gh10⟩)) (some (.normal, ⟨[(0, I x0), (1, I x1), (2, I x2), (7, .ptr false 0 0), (9, I x9), (24, .agg [I x24_0, I x24_1, I x24_2]), (25, (I (IntKind.i64.wrap (x25 + 1))))], [[I xc0_0, I xc0_1, I xc0_2]], gh10⟩))) (some (.normal, ⟨[(0, I x0), (1, I x1), (2, I x2), (7, .ptr false 0 0), (9, I x9), (24, .agg [I x24_0, I x24_1, I x24_2]), (25, (I (IntKind.i64.wrap (x25 + 1))))], [[I xc0_0, I xc0_1, I xc0_2]], gh10⟩)))) (
  callR gh4 true (callL pg 63 [I x0] gh4) fun r12 gh13 => unI .i64 r12 fun n14 =>
  br 43 (decide (n14 ≤ x25)) (
  br 47 (n2 != 0) (some (.ret, ⟨[(8, I 3)], [], gh13⟩)) (some (.normal, ⟨[(0, I x0), (1, I x1), (2, I x2), (7, .ptr false 0 0), (9, I x9), (24, .agg [I x24_0, I x24_1, I x24_2]), (25, (I (IntKind.i64.wrap (x25 + 1))))], [[I xc0_0, I xc0_1, I xc0_2]], gh13⟩))) (some (.normal, ⟨[(0, I x0), (1, I x1), (2, I x2), (7, .ptr false 0 0), (9, I x9), (24, .agg [I x24_0, I x24_1, I x24_2]), (25, (I (IntKind.i64.wrap (x25 + 1))))], [[I xc0_0, I xc0_1, I xc0_2]], gh13⟩)))) (some ((.exit 0), ⟨[(0, I x0), (1, I x1), (2, I x2), (7, .ptr false 0 0), (9, I x9), (24, .agg [I x24_0, I x24_1, I x24_2]), (25, I x25), (26, (B (decide (x25 < 3))))], [[I xc0_0, I xc0_1, I xc0_2]], gh⟩))
theorem D_word_Fit_b1_ok {x0 x1 : Int} {x2 x9 : Int} {x24_0 x24_1 : Int} {x24_2 x25 : Int} {xc0_0 xc0_1 xc0_2 : Int} (h : D_word_Fit_b1 pg x0 x1 x2 x9 x24_0 x24_1 x24_2 x25 xc0_0 xc0_1 xc0_2 gh = some (e, s)) : runL pg f_word_Fit_b1 ⟨[(0, I x0), (1, I x1), (2, I x2), (7, .ptr false 0 0), (9, I x9), (24, .agg [I x24_0, I x24_1, I x24_2]), (25, I x25)], [[I xc0_0, I xc0_1, I xc0_2]], gh⟩ = some (e, s) :=
  runX_ok an_word_Fit (Eq.trans (by kernel_rfl) h)
def D_word_Fit_k1 (pg : Prg) (x1 x2 : Int) (x9 xc0_0 : Int) (xc0_1 xc0_2 : Int) (gh : List GObj) : DR :=
  callR gh true (callL pg 64 [I x9, I x1, I x2, .agg [I xc0_0, I xc0_1, I xc0_2]] gh) fun r1 gh2 => unB r1 fun b3 =>
  br 54 (!b3) (some (.ret, ⟨[(8, I 1)], [], gh2⟩)) (some (.ret, ⟨[(8, I 0)], [], gh2⟩))
theorem D_word_Fit_k1_ok {x1 x2 : Int} {x9 xc0_0 : Int} {xc0_1 xc0_2 : Int} (h : D_word_Fit_k1 pg x1 x2 x9 xc0_0 xc0_1 xc0_2 gh = some (e, s)) : runL pg f_word_Fit_k1 ⟨[(1, I x1), (2, I x2), (7, .ptr false 0 0), (9, I x9)], [[I xc0_0, I xc0_1, I xc0_2]], gh⟩ = some (e, s) :=
  runX_ok an_word_Fit (Eq.trans (by kernel_rfl) h)
def D_word_Fit_0 (pg : Prg) (x0 x1 : Int) (x2 x3_0 : Int) (x3_1 x3_2 : Int) (gh : List GObj) : DR :=
  callR gh false (callL pg 61 [] gh) fun r1 gh2 => isC r1 (
  lkX gh2 0 (degr r1) (I x0) fun r3 => unI .i64 (degr1 (degr1 (Option.getD r3 (I 0)))) fun n4 =>
  br 20 (!(Option.isSome r3)) (some (.ret, ⟨[(8, I 7)], [], gh2⟩)) (
  callR gh2 true (callL pg 62 [I x1] gh2) fun r5 gh6 => unB r5 fun b7 =>
  br 23 (!b7) (some (.ret, ⟨[(8, I 3)], [], gh6⟩)) (
  kR (runL pg f_word_Fit_l1 ⟨[(0, I x0), (1, I x1), (2, I x2), (7, .ptr false 0 0), (9, I n4), (24, .agg [I x3_0, I x3_1, I x3_2]), (25, I 0)], [[I x3_0, I x3_1, I x3_2]], gh6⟩) (fun e s => nx e s (fun e s => some (e, s)) fun s => kR (runL pg f_word_Fit_k1 s) (fun e s => some (e, s))))))
theorem D_word_Fit_0_ok {x0 x1 : Int} {x2 x3_0 : Int} {x3_1 x3_2 : Int} (h : D_word_Fit_0 pg x0 x1 x2 x3_0 x3_1 x3_2 gh = some (e, s)) : runL pg f_word_Fit_0 ⟨[(0, I x0), (1, I x1), (2, I x2), (3, .agg [I x3_0, I x3_1, I x3_2])], [], gh⟩ = some (e, s) :=
  runX_ok an_word_Fit (Eq.trans (by kernel_rfl) h)
end
end Go.Lw
end

/-! What the code of function word_Takes comes to, piece by piece. Written by program (dprint.py). -/
section
set_option maxRecDepth 10000
set_option maxHeartbeats 4000000
namespace Go.Lw
open Go
noncomputable section
variable {pg : Prg} {gh : List GObj} {e : IExit} {s : St}
def an_word_Takes : Tr := (tB 7 (tI 4 (tI 2 (uI 0) (uO 3)) (tB 6 (uI 5) .nil)) (tB 11 (tB 9 (uB 8) (uB 10)) (tB 13 (uB 12) .nil)))
def D_word_Takes_k1 (pg : Prg) (x5 : Int) (b8 : Bool) (gh : List GObj) : DR :=
  br 8 b8 (some (.ret, ⟨[(2, I 1)], [], gh⟩)) (
  br 12 (x5 == 4) (some (.ret, ⟨[(2, I 3)], [], gh⟩)) (some (.normal, ⟨[(12, (B (x5 == 4)))], [], gh⟩)))
theorem D_word_Takes_k1_ok {x5 : Int} {b8 : Bool} (h : D_word_Takes_k1 pg x5 b8 gh = some (e, s)) : runL pg f_word_Takes_k1 ⟨[(5, I x5), (8, B b8)], [], gh⟩ = some (e, s) :=
  runX_ok an_word_Takes (Eq.trans (by kernel_rfl) h)
def D_word_Takes_k2 (pg : Prg) (b12 : Bool) (gh : List GObj) : DR := some (.ret, ⟨[(2, I 2)], [], gh⟩)
theorem D_word_Takes_k2_ok {b12 : Bool} (h : D_word_Takes_k2 pg b12 gh = some (e, s)) : runL pg f_word_Takes_k2 ⟨[(12, B b12)], [], gh⟩ = some (e, s) :=
  runX_ok an_word_Takes (Eq.trans (by kernel_rfl) h)
def D_word_Takes_0 (pg : Prg) (x0 : Int) (gh : List GObj) : DR :=
  callR gh false (callL pg 61 [] gh) fun r1 gh2 => isC r1 (
  lkX gh2 0 (degr r1) (I x0) fun r3 => unI .i64 (Option.getD r3 (I 0)) fun n4 =>
  br 6 (n4 == 0) (some (.ret, ⟨[(2, I 0)], [], gh2⟩)) (
  br 8 (n4 == 1) (
  kR (runL pg f_word_Takes_k1 ⟨[(5, I n4), (8, (B (n4 == 1)))], [], gh2⟩) (fun e s => bk 0 e s (fun e s => nx e s (fun e s => some (e, s)) fun s => kR (runL pg f_word_Takes_k2 s) (fun e s => some (e, s))))) (
  br 8 (n4 == 6) (
  kR (runL pg f_word_Takes_k1 ⟨[(5, I n4), (8, (B (n4 == 6)))], [], gh2⟩) (fun e s => bk 0 e s (fun e s => nx e s (fun e s => some (e, s)) fun s => kR (runL pg f_word_Takes_k2 s) (fun e s => some (e, s))))) (
  kR (runL pg f_word_Takes_k1 ⟨[(5, I n4), (8, (B (n4 == 7)))], [], gh2⟩) (fun e s => bk 0 e s (fun e s => nx e s (fun e s => some (e, s)) fun s => kR (runL pg f_word_Takes_k2 s) (fun e s => some (e, s))))))))
theorem D_word_Takes_0_ok {x0 : Int} (h : D_word_Takes_0 pg x0 gh = some (e, s)) : runL pg f_word_Takes_0 ⟨[(0, I x0)], [], gh⟩ = some (e, s) :=
  runX_ok an_word_Takes (Eq.trans (by kernel_rfl) h)
end
end Go.Lw
end

/-! What the code of function word_IsWidth comes to, piece by piece. Written by program (dprint.py). -/
section
set_option maxRecDepth 10000
set_option maxHeartbeats 4000000
namespace Go.Lw
open Go
noncomputable section
variable {pg : Prg} {gh : List GObj} {e : IExit} {s : St}
def an_word_IsWidth : Tr := (tB 5 (tI 3 (tB 2 (uI 0) .nil) (uB 4)) (tB 7 (uI 6) (uB 8)))
def D_word_IsWidth_0 (pg : Prg) (x0 : Int) (gh : List GObj) : DR :=
  br 5 (decide (1 ≤ x0)) (some (.ret, ⟨[(2, (B (decide (x0 ≤ 8))))], [], gh⟩)) (some (.ret, ⟨[(2, B false)], [], gh⟩))
theorem D_word_IsWidth_0_ok {x0 : Int} (h : D_word_IsWidth_0 pg x0 gh = some (e, s)) : runL pg f_word_IsWidth_0 ⟨[(0, I x0)], [], gh⟩ = some (e, s) :=
  runX_ok an_word_IsWidth (Eq.trans (by kernel_rfl) h)
end
end Go.Lw
end

/-! What the code of function word_fits comes to, piece by piece. Written by program (dprint.py). -/
section
set_option maxRecDepth 10000
set_option maxHeartbeats 4000000
namespace Go.Lw
open Go
noncomputable section
variable {pg : Prg} {gh : List GObj} {e : IExit} {s : St}
def an_word_fits : Tr := (tB 44 (tB 22 (tI 12 (tB 8 (tI 2 (tI 1 (uI 0) .nil) (.node 3 (.agg [.int .i64, .int .i64, .int .i64]) .nil .nil)) (tB 10 (uI 9) (uB 11))) (tB 17 (tI 15 (tB 14 (uB 13) .nil) (uB 16)) (tI 20 (uI 19) (uB 21)))) (tB 33 (tB 28 (tI 26 (tI 25 (uB 23) .nil) (uB 27)) (tI 31 (uI 30) (uB 32))) (tB 40 (tI 37 (tB 35 (uB 34) .nil) (uI 39)) (tI 42 (uB 41) (uB 43))))) (tI 67 (tB 55 (tB 50 (tI 48 (tB 46 (uB 45) .nil) (uB 49)) (tI 53 (uI 52) (uB 54))) (tB 61 (tI 59 (tI 58 (uB 56) .nil) (uB 60)) (tB 63 (uB 62) (uI 65)))) (tI 76 (tB 72 (tB 70 (tI 69 (uI 68) .nil) (uB 71)) (tB 74 (uI 73) (uB 75))) (tB 82 (tI 80 (tI 79 (uI 78) .nil) (uB 81)) (tI 85 (uI 83) (uB 86))))))
def D_word_fits_0 (pg : Prg) (x0 x1 : Int) (x2 x3_0 : Int) (x3_1 x3_2 : Int) (gh : List GObj) : DR :=
  br 11 (x2 != 0) (
  br 14 (x0 != 6) (some (.ret, ⟨[(8, B false)], [], gh⟩)) (
  br 16 (x0 == 1) (some (.ret, ⟨[(8, (B (x3_0 == x1)))], [], gh⟩)) (
  br 22 (x0 == 2) (
  br 28 (x3_0 == x1) (some (.ret, ⟨[(8, (B (x3_1 == x1)))], [], gh⟩)) (some (.ret, ⟨[(8, B false)], [], gh⟩))) (
  br 34 (x0 == 3) (
  br 41 (x3_0 == x3_1) (some (.ret, ⟨[(8, (B (x1 == 1)))], [], gh⟩)) (some (.ret, ⟨[(8, B false)], [], gh⟩))) (
  br 45 (x0 == 4) (
  br 50 (x3_0 == 1) (
  br 56 (x3_1 == x1) (some (.ret, ⟨[(8, (B (x3_2 == x1)))], [], gh⟩)) (some (.ret, ⟨[(8, B false)], [], gh⟩))) (some (.ret, ⟨[(8, B false)], [], gh⟩))) (
  br 62 (x0 == 5) (some (.ret, ⟨[(8, (B ((IntKind.i64.wrap (x3_0 + x3_1)) == x1)))], [], gh⟩)) (
  br 71 (x0 == 6) (
  br 75 (decide (0 ≤ x2)) (some (.ret, ⟨[(8, (B (decide (x2 ≤ (IntKind.i64.wrap (x3_0 - x1))))))], [], gh⟩)) (some (.ret, ⟨[(8, B false)], [], gh⟩))) (some (.ret, ⟨[(8, (B (decide (x3_0 ≤ x1))))], [], gh⟩))))))))) (
  br 16 (x0 == 1) (some (.ret, ⟨[(8, (B (x3_0 == x1)))], [], gh⟩)) (
  br 22 (x0 == 2) (
  br 28 (x3_0 == x1) (some (.ret, ⟨[(8, (B (x3_1 == x1)))], [], gh⟩)) (some (.ret, ⟨[(8, B false)], [], gh⟩))) (
  br 34 (x0 == 3) (
  br 41 (x3_0 == x3_1) (some (.ret, ⟨[(8, (B (x1 == 1)))], [], gh⟩)) (some (.ret, ⟨[(8, B false)], [], gh⟩))) (
  br 45 (x0 == 4) (
  br 50 (x3_0 == 1) (
  br 56 (x3_1 == x1) (some (.ret, ⟨[(8, (B (x3_2 == x1)))], [], gh⟩)) (some (.ret, ⟨[(8, B false)], [], gh⟩))) (some (.ret, ⟨[(8, B false)], [], gh⟩))) (
  br 62 (x0 == 5) (some (.ret, ⟨[(8, (B ((IntKind.i64.wrap (x3_0 + x3_1)) == x1)))], [], gh⟩)) (
  br 71 (x0 == 6) (
  br 75 (decide (0 ≤ x2)) (some (.ret, ⟨[(8, (B (decide (x2 ≤ (IntKind.i64.wrap (x3_0 - x1))))))], [], gh⟩)) (some (.ret, ⟨[(8, B false)], [], gh⟩))) (some (.ret, ⟨[(8, (B (decide (x3_0 ≤ x1))))], [], gh⟩))))))))
theorem D_word_fits_0_ok {x0 x1 : Int} {x2 x3_0 : Int} {x3_1 x3_2 : Int} (h : D_word_fits_0 pg x0 x1 x2 x3_0 x3_1 x3_2 gh = some (e, s)) : runL pg f_word_fits_0 ⟨[(0, I x0), (1, I x1), (2, I x2), (3, .agg [I x3_0, I x3_1, I x3_2])], [], gh⟩ = some (e, s) :=
  runX_ok an_word_fits (Eq.trans (by kernel_rfl) h)
end
end Go.Lw
end

/-! What the code of function word_shapes comes to, piece by piece. Written by program (dprint.py). -/
section
set_option maxRecDepth 10000
set_option maxHeartbeats 4000000
namespace Go.Lw
open Go
noncomputable section
variable {pg : Prg} {gh : List GObj} {e : IExit} {s : St}
def an_word_shapes : Tr := (tO 1 (uO 0) (uO 2))
def D_word_shapes_0 (pg : Prg)  (gh : List GObj) : DR :=
  muX (gh ++ [.map []]) 0 (.mp (List.length gh)) (I 4) (I 1) fun gh1 =>
  muX gh1 0 (.mp (List.length gh)) (I 5) (I 1) fun gh2 =>
  muX gh2 0 (.mp (List.length gh)) (I 6) (I 2) fun gh3 =>
  muX gh3 0 (.mp (List.length gh)) (I 7) (I 2) fun gh4 =>
  muX gh4 0 (.mp (List.length gh)) (I 8) (I 2) fun gh5 =>
  muX gh5 0 (.mp (List.length gh)) (I 9) (I 2) fun gh6 =>
  muX gh6 0 (.mp (List.length gh)) (I 10) (I 2) fun gh7 =>
  muX gh7 0 (.mp (List.length gh)) (I 11) (I 2) fun gh8 =>
  muX gh8 0 (.mp (List.length gh)) (I 12) (I 2) fun gh9 =>
  muX gh9 0 (.mp (List.length gh)) (I 13) (I 2) fun gh10 =>
  muX gh10 0 (.mp (List.length gh)) (I 14) (I 2) fun gh11 =>
  muX gh11 0 (.mp (List.length gh)) (I 15) (I 2) fun gh12 =>
  muX gh12 0 (.mp (List.length gh)) (I 16) (I 3) fun gh13 =>
  muX gh13 0 (.mp (List.length gh)) (I 17) (I 3) fun gh14 =>
  muX gh14 0 (.mp (List.length gh)) (I 18) (I 3) fun gh15 =>
  muX gh15 0 (.mp (List.length gh)) (I 19) (I 4) fun gh16 =>
  muX gh16 0 (.mp (List.length gh)) (I 20) (I 5) fun gh17 =>
  muX gh17 0 (.mp (List.length gh)) (I 21) (I 6) fun gh18 =>
  muX gh18 0 (.mp (List.length gh)) (I 22) (I 7) fun gh19 =>
  muX gh19 0 (.mp (List.length gh)) (I 23) (I 7) fun gh20 => some (.ret, ⟨[(0, (.mp (List.length gh)))], [], gh20⟩)
theorem D_word_shapes_0_ok  (h : D_word_shapes_0 pg  gh = some (e, s)) : runL pg f_word_shapes_0 ⟨[], [], gh⟩ = some (e, s) :=
  runX_ok an_word_shapes (Eq.trans (by kernel_rfl) h)
end
end Go.Lw
end

/-! What the functions of package word come to. -/
section
namespace Go.Lw
open Go
def shapesZ : List (Int × Int) := [(4, 1), (5, 1), (6, 2), (7, 2), (8, 2), (9, 2), (10, 2), (11, 2), (12, 2), (13, 2), (14, 2), (15, 2), (16, 3), (17, 3), (18, 3), (19, 4), (20, 5), (21, 6), (22, 7), (23, 7)]
theorem shapes_eq (gh : List GObj) : callL pg 61 [] gh = some (.mp gh.length, gh ++ [.map (mapI shapesZ)]) := by
  refine callL_fn (fn := f_word_shapes) (s := ⟨[(0, .mp gh.length)], [], gh ++ [.map (mapI shapesZ)]⟩) rfl rfl (D_word_shapes_0_ok ?h) ?r
  case h =>
    rw [D_word_shapes_0, show ([.map []] : List GObj) = [.map (mapI [])] from rfl]
    repeat rw [muX_last]
    rfl
  case r => simp [finish, results, f_word_shapes, resOfs, resOf, resOk]
def shapeOf (k : Int) : Option Int :=
  if k < 4 then none else if k < 6 then some 1 else if k < 16 then some 2 else if k < 19 then some 3 else if k = 19 then some 4 else if k = 20 then some 5
  else if k = 21 then some 6 else if k < 24 then some 7 else none
theorem findI_shapes (k : Int) : findI shapesZ k = shapeOf k := by
  by_cases h : 4 ≤ k ∧ k < 24
  · obtain ⟨n, rfl⟩ : ∃ n : Fin 20, k = 4 + (n.val : Int) := ⟨⟨(k - 4).toNat, by omega⟩, by simp; omega⟩
    revert n; decide
  · have : ∀ l : List (Int × Int), (∀ x ∈ l, 4 ≤ x.1 ∧ x.1 < 24) → findI l k = none := by
      intro l
      induction l with
      | nil => intro; rfl
      | cons x l ih =>
        intro hx
        have h1 := hx x (by simp)
        have h2 := ih fun y hy => hx y (by simp [hy])
        obtain ⟨a, u⟩ := x
        rw [findI, if_neg, h2]
        rintro rfl; exact h h1
    rw [this _ (by decide), shapeOf]
    split
    · rfl
    · repeat rw [if_neg (by omega)]
def takesOf (k : Int) : Int :=
  if k < 4 then 0 else if k < 6 then 1 else if k < 19 then 2 else if k = 19 then 3 else if k = 20 then 2 else if k < 24 then 1 else 0
theorem Takes_eq (k : Int) (gh : List GObj) : callL pg 63 [I k] gh = some (I (takesOf k), gh) := by
  have hk : callL pg 63 [I k] gh = some (I (let n := (shapeOf k).getD 0; if n = 0 then 0 else if n = 1 ∨ n = 6 ∨ n = 7 then 1 else if n = 4 then 3 else 2), gh) := by
    have hf := findI_shapes k
    cases hs : shapeOf k with
    | none =>
      rw [hs] at hf
      refine callL_fn (fn := f_word_Takes) (s := ?s0) rfl rfl (D_word_Takes_0_ok ?h0) ?r0
      case h0 => simp [D_word_Takes_0, shapes_eq, hf]; rfl
      case r0 => simp [finish, results, f_word_Takes, resOfs, resOf, resOk]
    | some n =>
      rw [hs] at hf
      by_cases h0 : n = 0
      · refine callL_fn (fn := f_word_Takes) (s := ?s1) rfl rfl (D_word_Takes_0_ok ?h1) ?r1
        case h1 => simp [D_word_Takes_0, shapes_eq, hf, h0]; rfl
        case r1 => simp [finish, results, f_word_Takes, resOfs, resOf, resOk, h0]
      by_cases h1 : n = 1 ∨ n = 6 ∨ n = 7
      · refine callL_fn (fn := f_word_Takes) (s := ⟨[(2, I 1)], [], gh ++ [.map (mapI shapesZ)]⟩) rfl rfl (D_word_Takes_0_ok ?h2) ?r2
        case h2 =>
          have := D_word_Takes_k1_ok (pg := pg) (gh := gh ++ [.map (mapI shapesZ)]) (x5 := n) (b8 := true) (e := .ret) (s := ⟨[(2, I 1)], [], gh ++ [.map (mapI shapesZ)]⟩) rfl
          rcases h1 with rfl | rfl | rfl <;> simp [D_word_Takes_0, shapes_eq, hf, this]
        case r2 => simp [finish, results, f_word_Takes, resOfs, resOf, resOk, h0, h1]
      · by_cases h4 : n = 4
        · refine callL_fn (fn := f_word_Takes) (s := ⟨[(2, I 3)], [], gh ++ [.map (mapI shapesZ)]⟩) rfl rfl (D_word_Takes_0_ok ?h3) ?r3
          case h3 =>
            subst h4
            have := D_word_Takes_k1_ok (pg := pg) (gh := gh ++ [.map (mapI shapesZ)]) (x5 := 4) (b8 := false) (e := .ret) (s := ⟨[(2, I 3)], [], gh ++ [.map (mapI shapesZ)]⟩) rfl
            simp [D_word_Takes_0, shapes_eq, hf, this]
          case r3 => simp [finish, results, f_word_Takes, resOfs, resOf, resOk, h0, h4]
        · simp only [not_or] at h1
          refine callL_fn (fn := f_word_Takes) (s := ⟨[(2, I 2)], [], gh ++ [.map (mapI shapesZ)]⟩) rfl rfl (D_word_Takes_0_ok ?h5) ?r5
          case h5 =>
            have := D_word_Takes_k1_ok (pg := pg) (gh := gh ++ [.map (mapI shapesZ)]) (x5 := n) (b8 := false) (e := .normal) (s := ⟨[(12, B false)], [], gh ++ [.map (mapI shapesZ)]⟩) (by simp [D_word_Takes_k1, h4])
            have h2 := D_word_Takes_k2_ok (pg := pg) (gh := gh ++ [.map (mapI shapesZ)]) (b12 := false) (e := .ret) (s := ⟨[(2, I 2)], [], gh ++ [.map (mapI shapesZ)]⟩) rfl
            simp [D_word_Takes_0, shapes_eq, hf, h0, h1, this, h2]
          case r5 => simp [finish, results, f_word_Takes, resOfs, resOf, resOk, h0, h1, h4]
  rw [hk]
  congr 3
  simp only [shapeOf, takesOf]
  repeat' split
  all_goals first | rfl | omega | simp_all
theorem IsWidth_eq (w : Int) (gh : List GObj) : callL pg 62 [I w] gh = some (B (decide (1 ≤ w ∧ w ≤ 8)), gh) := by
  by_cases h : 1 ≤ w
  · refine callL_fn (fn := f_word_IsWidth) (s := ?s1) rfl rfl (D_word_IsWidth_0_ok ?h1) ?r1
    case h1 => simp [D_word_IsWidth_0, h]; rfl
    case r1 => simp [finish, results, f_word_IsWidth, resOfs, resOf, resOk, h]
  · refine callL_fn (fn := f_word_IsWidth) (s := ?s2) rfl rfl (D_word_IsWidth_0_ok ?h2) ?r2
    case h2 => simp [D_word_IsWidth_0, h]; rfl
    case r2 => simp [finish, results, f_word_IsWidth, resOfs, resOf, resOk, h]
def fitsOf (s width n w0 w1 w2 : Int) : Bool :=
  if n ≠ 0 ∧ s ≠ 6 then false
  else if s = 1 then w0 = width
  else if s = 2 then w0 = width ∧ w1 = width
  else if s = 3 then w0 = w1 ∧ width = 1
  else if s = 4 then w0 = 1 ∧ w1 = width ∧ w2 = width
  else if s = 5 then IntKind.i64.wrap (w0 + w1) = width
  else if s = 6 then 0 ≤ n ∧ n ≤ IntKind.i64.wrap (w0 - width)
  else w0 ≤ width
theorem fits_eq (s width n w0 w1 w2 : Int) (gh : List GObj) : callL pg 64 [I s, I width, I n, .agg [I w0, I w1, I w2]] gh = some (B (fitsOf s width n w0 w1 w2), gh) := by
  have h : D_word_fits_0 pg s width n w0 w1 w2 gh = some (.ret, ⟨[(8, B (fitsOf s width n w0 w1 w2))], [], gh⟩) := by
    by_cases hn : n = 0
    · by_cases h1 : s = 1
      · simp [D_word_fits_0, fitsOf, hn, h1]
      by_cases h2 : s = 2
      · by_cases h : w0 = width <;> simp [D_word_fits_0, fitsOf, hn, h2, h]
      by_cases h3 : s = 3
      · by_cases h : w0 = w1 <;> simp [D_word_fits_0, fitsOf, hn, h3, h]
      by_cases h4 : s = 4
      · by_cases h : w0 = 1 <;> by_cases h' : w1 = width <;> simp [D_word_fits_0, fitsOf, hn, h4, h, h']
      by_cases h5 : s = 5
      · simp [D_word_fits_0, fitsOf, hn, h5]
      by_cases h6 : s = 6
      · simp [D_word_fits_0, fitsOf, hn, h6]
      simp [D_word_fits_0, fitsOf, hn, h1, h2, h3, h4, h5, h6]
    · by_cases h6 : s = 6
      · by_cases h : 0 ≤ n <;> simp [D_word_fits_0, fitsOf, hn, h6, h]
      · simp [D_word_fits_0, fitsOf, hn, h6]
  refine callL_fn (fn := f_word_fits) rfl rfl (D_word_fits_0_ok h) ?r
  simp [finish, results, f_word_fits, resOfs, resOf, resOk]
def wOk (k i w : Int) : Prop := if i < takesOf k then 1 ≤ w ∧ w ≤ 8 else w = 0
instance (k i w : Int) : Decidable (wOk k i w) := inferInstanceAs (Decidable (if i < takesOf k then 1 ≤ w ∧ w ≤ 8 else w = 0))
theorem Fit_b1 (k width n s w0 w1 w2 i w : Int) (gh : List GObj) (hi : (i = 0 ∧ w = w0) ∨ (i = 1 ∧ w = w1) ∨ (i = 2 ∧ w = w2)) :
    D_word_Fit_b1 pg k width n s w0 w1 w2 i w0 w1 w2 gh = if wOk k i w then some (.normal, ⟨[(0, I k), (1, I width), (2, I n), (7, .ptr false 0 0), (9, I s), (24, .agg [I w0, I w1, I w2]), (25, I (i + 1))], [[I w0, I w1, I w2]], gh⟩)
      else some (.ret, ⟨[(8, I 3)], [], gh⟩) := by
  have hw : (IntKind.i64.wrap (i + 1)) = i + 1 := wrap_id (by omega) (by omega)
  by_cases hk : i < takesOf k
  · have hk' := Int.not_le.2 hk
    by_cases h1 : 1 ≤ w
    · by_cases h2 : w ≤ 8
      · rcases hi with ⟨rfl, rfl⟩ | ⟨rfl, rfl⟩ | ⟨rfl, rfl⟩ <;> simp [D_word_Fit_b1, Takes_eq, IsWidth_eq, hk, hk', wOk, h1, h2] <;> exact hw
      · rcases hi with ⟨rfl, rfl⟩ | ⟨rfl, rfl⟩ | ⟨rfl, rfl⟩ <;> simp [D_word_Fit_b1, Takes_eq, IsWidth_eq, hk, wOk, h1, h2]
    · rcases hi with ⟨rfl, rfl⟩ | ⟨rfl, rfl⟩ | ⟨rfl, rfl⟩ <;> simp [D_word_Fit_b1, Takes_eq, IsWidth_eq, hk, wOk, h1]
  · have hk' := Int.not_lt.1 hk
    by_cases h2 : w = 0
    · rcases hi with ⟨rfl, rfl⟩ | ⟨rfl, rfl⟩ | ⟨rfl, rfl⟩ <;> simp [D_word_Fit_b1, Takes_eq, hk, hk', wOk, h2] <;> exact hw
    · rcases hi with ⟨rfl, rfl⟩ | ⟨rfl, rfl⟩ | ⟨rfl, rfl⟩ <;> simp [D_word_Fit_b1, Takes_eq, hk, hk', wOk, h2]
theorem Fit_loop (k width n s w0 w1 w2 : Int) (gh : List GObj) :
    runL pg f_word_Fit_l1 ⟨[(0, I k), (1, I width), (2, I n), (7, .ptr false 0 0), (9, I s), (24, .agg [I w0, I w1, I w2]), (25, I 0)], [[I w0, I w1, I w2]], gh⟩ =
      if wOk k 0 w0 ∧ wOk k 1 w1 ∧ wOk k 2 w2 then some (.normal, ⟨[(1, I width), (2, I n), (7, .ptr false 0 0), (9, I s)], [[I w0, I w1, I w2]], gh⟩) else some (.ret, ⟨[(8, I 3)], [], gh⟩) := by
  have b0 := Fit_b1 k width n s w0 w1 w2 0 w0 gh (by simp)
  have b1 := Fit_b1 k width n s w0 w1 w2 1 w1 gh (by simp)
  have b2 := Fit_b1 k width n s w0 w1 w2 2 w2 gh (by simp)
  by_cases h0 : wOk k 0 w0
  · rw [if_pos h0] at b0
    refine lp_next (D_word_Fit_b1_ok b0) ?_
    by_cases h1 : wOk k 1 w1
    · rw [if_pos h1] at b1
      refine lp_next (D_word_Fit_b1_ok b1) ?_
      by_cases h2 : wOk k 2 w2
      · rw [if_pos h2] at b2
        refine lp_next (D_word_Fit_b1_ok b2) ?_
        rw [if_pos ⟨h0, h1, h2⟩]
        refine (lp_exit (s1 := ?s1) (D_word_Fit_b1_ok ?h1)).trans ?r1
        case h1 => simp [D_word_Fit_b1]; rfl
        case r1 => simp [keep]
      · rw [if_neg h2] at b2
        rw [if_neg (fun h => h2 h.2.2)]
        exact lp_ret (D_word_Fit_b1_ok b2)
    · rw [if_neg h1] at b1
      rw [if_neg (fun h => h1 h.2.1)]
      exact lp_ret (D_word_Fit_b1_ok b1)
  · rw [if_neg h0] at b0
    rw [if_neg (fun h => h0 h.1)]
    exact lp_ret (D_word_Fit_b1_ok b0)
def fitE (k width n w0 w1 w2 : Int) : Int :=
  match shapeOf k with
  | none => 7
  | some s => if ¬ (1 ≤ width ∧ width ≤ 8) then 3 else if ¬ (wOk k 0 w0 ∧ wOk k 1 w1 ∧ wOk k 2 w2) then 3 else if fitsOf s width n w0 w1 w2 then 0 else 1
theorem Fit_eq (k width n w0 w1 w2 : Int) (gh : List GObj) : callL pg 22 [I k, I width, I n, .agg [I w0, I w1, I w2]] gh = some (I (fitE k width n w0 w1 w2), gh) := by
  have hf := findI_shapes k
  simp only [fitE]
  cases hs : shapeOf k with
  | none =>
    rw [hs] at hf
    refine callL_fn (fn := f_word_Fit) (s := ?s0) rfl rfl (D_word_Fit_0_ok ?h0) ?r0
    case h0 => simp [D_word_Fit_0, shapes_eq, hf]; rfl
    case r0 => simp [finish, results, f_word_Fit, resOfs, resOf, resOk]
  | some s =>
    rw [hs] at hf
    by_cases hw : 1 ≤ width ∧ width ≤ 8
    · have hl := Fit_loop k width n s w0 w1 w2 (gh ++ [.map (mapI shapesZ)])
      simp only [hw, not_true, if_false, and_self]
      by_cases ho : wOk k 0 w0 ∧ wOk k 1 w1 ∧ wOk k 2 w2
      · rw [if_pos ho] at hl
        simp only [ho, not_true, if_false, and_self]
        have hk : ∀ e s1, D_word_Fit_k1 pg width n s w0 w1 w2 (gh ++ [.map (mapI shapesZ)]) = some (e, s1) → _ := fun e s1 h => D_word_Fit_k1_ok h
        by_cases hb : fitsOf s width n w0 w1 w2
        · have := hk .ret ⟨[(8, I 0)], [], gh ++ [.map (mapI shapesZ)]⟩ (by simp [D_word_Fit_k1, fits_eq, hb])
          refine callL_fn (fn := f_word_Fit) (s := ?s1) rfl rfl (D_word_Fit_0_ok ?h1) ?r1
          case h1 => simp [D_word_Fit_0, shapes_eq, hf, IsWidth_eq, hw, hl, this]; rfl
          case r1 => simp [finish, results, f_word_Fit, resOfs, resOf, resOk, hb]
        · have := hk .ret ⟨[(8, I 1)], [], gh ++ [.map (mapI shapesZ)]⟩ (by simp [D_word_Fit_k1, fits_eq, hb])
          refine callL_fn (fn := f_word_Fit) (s := ?s2) rfl rfl (D_word_Fit_0_ok ?h2) ?r2
          case h2 => simp [D_word_Fit_0, shapes_eq, hf, IsWidth_eq, hw, hl, this]; rfl
          case r2 => simp [finish, results, f_word_Fit, resOfs, resOf, resOk, hb]
      · rw [if_neg ho] at hl
        refine callL_fn (fn := f_word_Fit) (s := ?s3) rfl rfl (D_word_Fit_0_ok ?h3) ?r3
        case h3 => simp [D_word_Fit_0, shapes_eq, hf, IsWidth_eq, hw, hl]; rfl
        case r3 => simp [finish, results, f_word_Fit, resOfs, resOf, resOk, ho]
    · refine callL_fn (fn := f_word_Fit) (s := ?s4) rfl rfl (D_word_Fit_0_ok ?h4) ?r4
      case h4 => simp [D_word_Fit_0, shapes_eq, hf, IsWidth_eq, hw]; rfl
      case r4 => simp [finish, results, f_word_Fit, resOfs, resOf, resOk, hw]
end Go.Lw
end

/-! What the code of function word_do comes to, piece by piece. Written by program (dprint.py). -/
section
set_option maxRecDepth 10000
set_option maxHeartbeats 4000000
namespace Go.Lw
open Go
noncomputable section
variable {pg : Prg} {gh : List GObj} {e : IExit} {s : St}
def an_word_do : Tr := (tI 66 (tI 36 (tB 21 (tI 14 (tI 3 (tI 1 (uI 0) (uI 2)) (tI 5 (uI 4) (.node 6 (.agg [.int .i64, .int .i64, .int .i64]) .nil .nil))) (tI 18 (tB 16 (uI 15) (uB 17)) (tB 20 (uI 19) .nil))) (tB 29 (tB 25 (tI 23 (uI 22) (uB 24)) (tI 27 (uI 26) (uI 28))) (tI 33 (tI 31 (uB 30) (uI 32)) (tB 35 (uB 34) .nil)))) (tI 51 (tB 44 (tB 40 (tI 38 (uI 37) (uB 39)) (tI 42 (uI 41) (uI 43))) (tI 48 (tI 46 (uB 45) (uI 47)) (tB 50 (uB 49) .nil))) (tB 59 (tB 55 (tI 53 (uI 52) (uB 54)) (tI 57 (uI 56) (uI 58))) (tI 63 (tI 61 (uB 60) (uI 62)) (tB 65 (uB 64) .nil))))) (tI 99 (tI 82 (tB 74 (tB 70 (tB 68 (uI 67) (uI 69)) (tI 72 (uB 71) (uI 73))) (tI 78 (tB 76 (uI 75) (uB 77)) (tI 81 (uI 80) .nil))) (tI 92 (tI 87 (tI 85 (uI 84) (uB 86)) (tB 89 (uB 88) (uI 90))) (tB 96 (tI 94 (uI 93) (uI 95)) (tI 98 (uB 97) .nil)))) (tI 115 (tB 108 (tI 103 (tB 101 (uI 100) (uB 102)) (tI 106 (uI 105) (uB 107))) (tI 112 (tB 110 (uI 109) (uI 111)) (tB 114 (uB 113) .nil))) (tI 122 (tI 119 (tI 117 (uB 116) (uI 118)) (tB 121 (uB 120) .nil)) (tI 126 (tI 124 (uB 123) (uI 125)) (tI 128 (uI 127) .nil))))))
def D_word_do_0 (pg : Prg) (x0 x1 : Int) (x2 x3 : Int) (x4 x5 : Int) (x6_0 x6_1 x6_2 : Int) (gh : List GObj) : DR :=
  br 16 (x0 == 4) (some (.ret, ⟨[(14, (I (iNot .i64 x2)))], [], gh⟩)) (
  br 20 (x0 == 5) (some (.ret, ⟨[(14, (I (IntKind.i64.wrap (0 - x2))))], [], gh⟩)) (
  br 24 (x0 == 6) (some (.ret, ⟨[(14, (I (iAnd .i64 x2 x3)))], [], gh⟩)) (
  br 29 (x0 == 7) (some (.ret, ⟨[(14, (I (iOr .i64 x2 x3)))], [], gh⟩)) (
  br 34 (x0 == 8) (some (.ret, ⟨[(14, (I (iXor .i64 x2 x3)))], [], gh⟩)) (
  br 39 (x0 == 9) (some (.ret, ⟨[(14, (I (IntKind.i64.wrap (x2 + x3))))], [], gh⟩)) (
  br 44 (x0 == 10) (some (.ret, ⟨[(14, (I (IntKind.i64.wrap (x2 - x3))))], [], gh⟩)) (
  br 49 (x0 == 11) (some (.ret, ⟨[(14, (I (IntKind.i64.wrap (x2 * x3))))], [], gh⟩)) (
  br 54 (x0 == 14) (gd (decide ((0 : Int) ≤ x3)) (some (.ret, ⟨[(14, (I (iShl .i64 x2 x3)))], [], gh⟩))) (
  br 59 (x0 == 15) (gd (decide ((0 : Int) ≤ x3)) (some (.ret, ⟨[(14, (I (iShr .i64 x2 x3)))], [], gh⟩))) (
  br 64 (x0 == 16) (
  callR gh true (callL pg 114 [(B (x2 == x3))] gh) fun r1 gh2 => unI .i64 r1 fun n3 => some (.ret, ⟨[(14, I n3)], [], gh2⟩)) (
  br 70 (x0 == 17) (
  callR gh true (callL pg 114 [(B (decide (x2 < x3)))] gh) fun r4 gh5 => unI .i64 r4 fun n6 => some (.ret, ⟨[(14, I n6)], [], gh5⟩)) (
  br 76 (x0 == 18) (
  callR gh true (callL pg 115 [I x2, I x6_0] gh) fun r7 gh8 => unI .i64 r7 fun n9 =>
  callR gh8 true (callL pg 115 [I x3, I x6_1] gh8) fun r10 gh11 => unI .i64 r10 fun n12 =>
  callR gh11 true (callL pg 114 [(B (decide (n9 < n12)))] gh11) fun r13 gh14 => unI .i64 r13 fun n15 => some (.ret, ⟨[(14, I n15)], [], gh14⟩)) (
  br 88 (x0 == 20) (gd (decide ((0 : Int) ≤ x6_1)) (some (.ret, ⟨[(14, (I (iOr .i64 (iShl .i64 x2 x6_1) x3)))], [], gh⟩))) (
  br 96 (x0 == 21) (gd (decide ((0 : Int) ≤ x5)) (some (.ret, ⟨[(14, (I (iShr .i64 x2 x5)))], [], gh⟩))) (
  br 101 (x0 == 23) (
  callR gh true (callL pg 115 [I x2, I x6_0] gh) fun r16 gh17 => unI .i64 r16 fun n18 => some (.ret, ⟨[(14, I n18)], [], gh17⟩)) (
  br 107 (x0 == 19) (
  br 110 (x2 == 1) (some (.ret, ⟨[(14, I x3)], [], gh⟩)) (some (.ret, ⟨[(14, I x4)], [], gh⟩))) (
  br 113 (x0 == 12) (
  br 116 (x3 == 0) (some (.ret, ⟨[(14, (I (-1)))], [], gh⟩)) (gd (decide ((x3 : Int) ≠ 0)) (some (.ret, ⟨[(14, (I (IntKind.i64.wrap (Int.tdiv x2 x3))))], [], gh⟩)))) (
  br 120 (x0 == 13) (
  br 123 (x3 == 0) (some (.ret, ⟨[(14, I x2)], [], gh⟩)) (gd (decide ((x3 : Int) ≠ 0)) (some (.ret, ⟨[(14, (I (Int.tmod x2 x3)))], [], gh⟩)))) (some (.ret, ⟨[(14, I x2)], [], gh⟩))))))))))))))))))))
theorem D_word_do_0_ok {x0 x1 : Int} {x2 x3 : Int} {x4 x5 : Int} {x6_0 x6_1 x6_2 : Int} (h : D_word_do_0 pg x0 x1 x2 x3 x4 x5 x6_0 x6_1 x6_2 gh = some (e, s)) : runL pg f_word_do_0 ⟨[(0, I x0), (1, I x1), (2, I x2), (3, I x3), (4, I x4), (5, I x5), (6, .agg [I x6_0, I x6_1, I x6_2])], [], gh⟩ = some (e, s) :=
  runX_ok an_word_do (Eq.trans (by kernel_rfl) h)
end
end Go.Lw
end

/-! What the code of function word_Raw comes to, piece by piece. Written by program (dprint.py). -/
section
set_option maxRecDepth 10000
set_option maxHeartbeats 4000000
namespace Go.Lw
open Go
noncomputable section
variable {pg : Prg} {gh : List GObj} {e : IExit} {s : St}
def an_word_Raw : Tr := (tI 17 (tI 5 (tI 2 (tI 1 (uI 0) .nil) (tI 4 (uI 3) .nil)) (tI 15 (tI 14 (.node 6 (.agg [.int .i64, .int .i64, .int .i64]) .nil .nil) .nil) (uI 16))) (tI 22 (tI 20 (tI 19 (uI 18) .nil) (.node 21 (.agg [.int .i64, .int .i64, .int .i64]) .nil .nil)) (tI 25 (tI 24 (uI 23) .nil) (uI 26))))
def D_word_Raw_0 (pg : Prg) (x0 x1 : Int) (x2 x3 : Int) (x4 x5 : Int) (x6_0 x6_1 x6_2 : Int) (gh : List GObj) : DR :=
  callR gh true (callL pg 96 [I x0, I x1, I x2, I x3, I x4, I x5, .agg [I x6_0, I x6_1, I x6_2]] gh) fun r1 gh2 => unI .i64 r1 fun n3 => gd (decide ((0 : Int) ≤ x1)) (some (.ret, ⟨[(14, (I (iAnd .i64 n3 (IntKind.i64.wrap ((iShl .i64 1 x1) - 1)))))], [], gh2⟩))
theorem D_word_Raw_0_ok {x0 x1 : Int} {x2 x3 : Int} {x4 x5 : Int} {x6_0 x6_1 x6_2 : Int} (h : D_word_Raw_0 pg x0 x1 x2 x3 x4 x5 x6_0 x6_1 x6_2 gh = some (e, s)) : runL pg f_word_Raw_0 ⟨[(0, I x0), (1, I x1), (2, I x2), (3, I x3), (4, I x4), (5, I x5), (6, .agg [I x6_0, I x6_1, I x6_2])], [], gh⟩ = some (e, s) :=
  runX_ok an_word_Raw (Eq.trans (by kernel_rfl) h)
end
end Go.Lw
end

/-! What the code of function word_yes comes to, piece by piece. Written by program (dprint.py). -/
section
set_option maxRecDepth 10000
set_option maxHeartbeats 4000000
namespace Go.Lw
open Go
noncomputable section
variable {pg : Prg} {gh : List GObj} {e : IExit} {s : St}
def an_word_yes : Tr := (tI 2 (uB 0) (uB 3))
def D_word_yes_0 (pg : Prg) (b0 : Bool) (gh : List GObj) : DR :=
  br 3 b0 (some (.ret, ⟨[(2, I 1)], [], gh⟩)) (some (.ret, ⟨[(2, I 0)], [], gh⟩))
theorem D_word_yes_0_ok {b0 : Bool} (h : D_word_yes_0 pg b0 gh = some (e, s)) : runL pg f_word_yes_0 ⟨[(0, B b0)], [], gh⟩ = some (e, s) :=
  runX_ok an_word_yes (Eq.trans (by kernel_rfl) h)
end
end Go.Lw
end

/-! What the code of function word_signed comes to, piece by piece. Written by program (dprint.py). -/
section
set_option maxRecDepth 10000
set_option maxHeartbeats 4000000
namespace Go.Lw
open Go
noncomputable section
variable {pg : Prg} {gh : List GObj} {e : IExit} {s : St}
def an_word_signed : Tr := (tI 8 (tI 5 (tI 1 (uI 0) (uI 4)) (tI 7 (uI 6) .nil)) (tI 12 (tI 10 (uB 9) (uI 11)) (tI 14 (uI 13) .nil)))
def D_word_signed_0 (pg : Prg) (x0 x1 : Int) (gh : List GObj) : DR := gd (decide ((0 : Int) ≤ (IntKind.i64.wrap (x1 - 1)))) (
  br 9 (decide ((iShl .i64 1 (IntKind.i64.wrap (x1 - 1))) ≤ x0)) (gd (decide ((0 : Int) ≤ x1)) (some (.ret, ⟨[(4, (I (IntKind.i64.wrap (x0 - (iShl .i64 1 x1)))))], [], gh⟩))) (some (.ret, ⟨[(4, I x0)], [], gh⟩)))
theorem D_word_signed_0_ok {x0 x1 : Int} (h : D_word_signed_0 pg x0 x1 gh = some (e, s)) : runL pg f_word_signed_0 ⟨[(0, I x0), (1, I x1)], [], gh⟩ = some (e, s) :=
  runX_ok an_word_signed (Eq.trans (by kernel_rfl) h)
end
end Go.Lw
end

/-! What the code of function word_IsWord comes to, piece by piece. Written by program (dprint.py). -/
section
set_option maxRecDepth 10000
set_option maxHeartbeats 4000000
namespace Go.Lw
open Go
noncomputable section
variable {pg : Prg} {gh : List GObj} {e : IExit} {s : St}
def an_word_IsWord : Tr := (tB 7 (tB 4 (tI 1 (uI 0) .nil) (tB 6 (uI 5) .nil)) (tI 10 (tI 9 (uI 8) .nil) (tB 12 (uB 11) .nil)))
def D_word_IsWord_0 (pg : Prg) (x0 x1 : Int) (gh : List GObj) : DR :=
  br 7 (decide (0 ≤ x0)) (gd (decide ((0 : Int) ≤ x1)) (some (.ret, ⟨[(4, (B (decide (x0 < (iShl .i64 1 x1)))))], [], gh⟩))) (some (.ret, ⟨[(4, B false)], [], gh⟩))
theorem D_word_IsWord_0_ok {x0 x1 : Int} (h : D_word_IsWord_0 pg x0 x1 gh = some (e, s)) : runL pg f_word_IsWord_0 ⟨[(0, I x0), (1, I x1)], [], gh⟩ = some (e, s) :=
  runX_ok an_word_IsWord (Eq.trans (by kernel_rfl) h)
end
end Go.Lw
end

/-! What Apply of package word comes to. -/
section
namespace Go.Lw
open Go
theorem yes_eq (b : Bool) (gh : List GObj) : callL pg 114 [B b] gh = some (I (if b then 1 else 0), gh) := by
  cases b
  · refine callL_fn (fn := f_word_yes) (s := ?s1) rfl rfl (D_word_yes_0_ok ?h1) ?r1
    case h1 => simp [D_word_yes_0]; rfl
    case r1 => simp [finish, results, f_word_yes, resOfs, resOf, resOk]
  · refine callL_fn (fn := f_word_yes) (s := ?s2) rfl rfl (D_word_yes_0_ok ?h2) ?r2
    case h2 => simp [D_word_yes_0]; rfl
    case r2 => simp [finish, results, f_word_yes, resOfs, resOf, resOk]
def sgnOf (n w : Int) : Int := if iShl .i64 1 (w - 1) ≤ n then IntKind.i64.wrap (n - iShl .i64 1 w) else n
theorem signed_eq (n w : Int) (hw : 1 ≤ w ∧ w ≤ 8) (gh : List GObj) : callL pg 115 [I n, I w] gh = some (I (sgnOf n w), gh) := by
  have e : IntKind.i64.wrap (w - 1) = w - 1 := wrap_id (by omega) (by omega)
  have h2 : 0 ≤ w := by omega
  by_cases h : iShl .i64 1 (w - 1) ≤ n
  · refine callL_fn (fn := f_word_signed) (s := ?s1) rfl rfl (D_word_signed_0_ok ?h1) ?r1
    case h1 => simp [D_word_signed_0, e, hw.1, h2, h]; rfl
    case r1 => simp [finish, results, f_word_signed, resOfs, resOf, resOk, sgnOf, h]
  · refine callL_fn (fn := f_word_signed) (s := ?s2) rfl rfl (D_word_signed_0_ok ?h2) ?r2
    case h2 => simp [D_word_signed_0, e, hw.1, h]; rfl
    case r2 => simp [finish, results, f_word_signed, resOfs, resOf, resOk, sgnOf, h]
theorem IsWord_eq (n w : Int) (hw : 0 ≤ w) (gh : List GObj) : callL pg 65 [I n, I w] gh = some (B (decide (0 ≤ n ∧ n < iShl .i64 1 w)), gh) := by
  by_cases h : 0 ≤ n
  · refine callL_fn (fn := f_word_IsWord) (s := ?s1) rfl rfl (D_word_IsWord_0_ok ?h1) ?r1
    case h1 => simp [D_word_IsWord_0, hw, h]; rfl
    case r1 => simp [finish, results, f_word_IsWord, resOfs, resOf, resOk, h]
  · refine callL_fn (fn := f_word_IsWord) (s := ?s2) rfl rfl (D_word_IsWord_0_ok ?h2) ?r2
    case h2 => simp [D_word_IsWord_0, h]; rfl
    case r2 => simp [finish, results, f_word_IsWord, resOfs, resOf, resOk, h]
def doOf (k a b c n w0 w1 : Int) : Int :=
  if k = 4 then iNot .i64 a else if k = 5 then IntKind.i64.wrap (0 - a) else if k = 6 then iAnd .i64 a b else if k = 7 then iOr .i64 a b else if k = 8 then iXor .i64 a b
  else if k = 9 then IntKind.i64.wrap (a + b) else if k = 10 then IntKind.i64.wrap (a - b) else if k = 11 then IntKind.i64.wrap (a * b) else if k = 14 then iShl .i64 a b else if k = 15 then iShr .i64 a b
  else if k = 16 then (if a = b then 1 else 0) else if k = 17 then (if a < b then 1 else 0) else if k = 18 then (if sgnOf a w0 < sgnOf b w1 then 1 else 0)
  else if k = 20 then iOr .i64 (iShl .i64 a w1) b else if k = 21 then iShr .i64 a n else if k = 23 then sgnOf a w0 else if k = 19 then (if a = 1 then b else c)
  else if k = 12 then (if b = 0 then -1 else IntKind.i64.wrap (Int.tdiv a b)) else if k = 13 then (if b = 0 then a else Int.tmod a b) else a
theorem do_D4 (width a b c n w0 w1 w2 : Int) (gh : List GObj) : D_word_do_0 pg 4 width a b c n w0 w1 w2 gh = some (.ret, ⟨[(14, I (doOf 4 a b c n w0 w1))], [], gh⟩) := rfl
theorem do_D5 (width a b c n w0 w1 w2 : Int) (gh : List GObj) : D_word_do_0 pg 5 width a b c n w0 w1 w2 gh = some (.ret, ⟨[(14, I (doOf 5 a b c n w0 w1))], [], gh⟩) := rfl
theorem do_D6 (width a b c n w0 w1 w2 : Int) (gh : List GObj) : D_word_do_0 pg 6 width a b c n w0 w1 w2 gh = some (.ret, ⟨[(14, I (doOf 6 a b c n w0 w1))], [], gh⟩) := rfl
theorem do_D7 (width a b c n w0 w1 w2 : Int) (gh : List GObj) : D_word_do_0 pg 7 width a b c n w0 w1 w2 gh = some (.ret, ⟨[(14, I (doOf 7 a b c n w0 w1))], [], gh⟩) := rfl
theorem do_D8 (width a b c n w0 w1 w2 : Int) (gh : List GObj) : D_word_do_0 pg 8 width a b c n w0 w1 w2 gh = some (.ret, ⟨[(14, I (doOf 8 a b c n w0 w1))], [], gh⟩) := rfl
theorem do_D9 (width a b c n w0 w1 w2 : Int) (gh : List GObj) : D_word_do_0 pg 9 width a b c n w0 w1 w2 gh = some (.ret, ⟨[(14, I (doOf 9 a b c n w0 w1))], [], gh⟩) := rfl
theorem do_D10 (width a b c n w0 w1 w2 : Int) (gh : List GObj) : D_word_do_0 pg 10 width a b c n w0 w1 w2 gh = some (.ret, ⟨[(14, I (doOf 10 a b c n w0 w1))], [], gh⟩) := rfl
theorem do_D11 (width a b c n w0 w1 w2 : Int) (gh : List GObj) : D_word_do_0 pg 11 width a b c n w0 w1 w2 gh = some (.ret, ⟨[(14, I (doOf 11 a b c n w0 w1))], [], gh⟩) := rfl
theorem do_D12 (width a b c n w0 w1 w2 : Int) (gh : List GObj) : D_word_do_0 pg 12 width a b c n w0 w1 w2 gh = some (.ret, ⟨[(14, I (doOf 12 a b c n w0 w1))], [], gh⟩) := by
  have e1 : D_word_do_0 pg 12 width a b c n w0 w1 w2 gh = br 116 (b == 0) (some (.ret, ⟨[(14, I (-1))], [], gh⟩)) (gd (decide (b ≠ 0)) (some (.ret, ⟨[(14, I (IntKind.i64.wrap (Int.tdiv a b)))], [], gh⟩))) := rfl
  have e2 : doOf 12 a b c n w0 w1 = if b = 0 then -1 else IntKind.i64.wrap (Int.tdiv a b) := rfl
  rw [e1, e2]
  by_cases h : b = 0 <;> simp [h]
theorem do_D13 (width a b c n w0 w1 w2 : Int) (gh : List GObj) : D_word_do_0 pg 13 width a b c n w0 w1 w2 gh = some (.ret, ⟨[(14, I (doOf 13 a b c n w0 w1))], [], gh⟩) := by
  have e1 : D_word_do_0 pg 13 width a b c n w0 w1 w2 gh = br 123 (b == 0) (some (.ret, ⟨[(14, I (a))], [], gh⟩)) (gd (decide (b ≠ 0)) (some (.ret, ⟨[(14, I (Int.tmod a b))], [], gh⟩))) := rfl
  have e2 : doOf 13 a b c n w0 w1 = if b = 0 then a else Int.tmod a b := rfl
  rw [e1, e2]
  by_cases h : b = 0 <;> simp [h]
theorem do_D14 (width a b c n w0 w1 w2 : Int) (gh : List GObj) (hb : 0 ≤ b) : D_word_do_0 pg 14 width a b c n w0 w1 w2 gh = some (.ret, ⟨[(14, I (doOf 14 a b c n w0 w1))], [], gh⟩) := by
  have e1 : D_word_do_0 pg 14 width a b c n w0 w1 w2 gh = gd (decide ((0 : Int) ≤ b)) (some (.ret, ⟨[(14, I (iShl .i64 a b))], [], gh⟩)) := rfl
  have e2 : doOf 14 a b c n w0 w1 = iShl .i64 a b := rfl
  rw [e1, e2]
  simp [hb]
theorem do_D15 (width a b c n w0 w1 w2 : Int) (gh : List GObj) (hb : 0 ≤ b) : D_word_do_0 pg 15 width a b c n w0 w1 w2 gh = some (.ret, ⟨[(14, I (doOf 15 a b c n w0 w1))], [], gh⟩) := by
  have e1 : D_word_do_0 pg 15 width a b c n w0 w1 w2 gh = gd (decide ((0 : Int) ≤ b)) (some (.ret, ⟨[(14, I (iShr .i64 a b))], [], gh⟩)) := rfl
  have e2 : doOf 15 a b c n w0 w1 = iShr .i64 a b := rfl
  rw [e1, e2]
  simp [hb]
theorem do_D16 (width a b c n w0 w1 w2 : Int) (gh : List GObj) : D_word_do_0 pg 16 width a b c n w0 w1 w2 gh = some (.ret, ⟨[(14, I (doOf 16 a b c n w0 w1))], [], gh⟩) := by
  have e1 : D_word_do_0 pg 16 width a b c n w0 w1 w2 gh = callR gh true (callL pg 114 [B (a == b)] gh) fun r1 gh2 => unI .i64 r1 fun n3 => some (.ret, ⟨[(14, I n3)], [], gh2⟩) := rfl
  have e2 : doOf 16 a b c n w0 w1 = if a = b then 1 else 0 := rfl
  rw [e1, e2]
  simp [yes_eq]
theorem do_D17 (width a b c n w0 w1 w2 : Int) (gh : List GObj) : D_word_do_0 pg 17 width a b c n w0 w1 w2 gh = some (.ret, ⟨[(14, I (doOf 17 a b c n w0 w1))], [], gh⟩) := by
  have e1 : D_word_do_0 pg 17 width a b c n w0 w1 w2 gh = callR gh true (callL pg 114 [B (decide (a < b))] gh) fun r1 gh2 => unI .i64 r1 fun n3 => some (.ret, ⟨[(14, I n3)], [], gh2⟩) := rfl
  have e2 : doOf 17 a b c n w0 w1 = if a < b then 1 else 0 := rfl
  rw [e1, e2]
  simp [yes_eq]
theorem do_D18 (width a b c n w0 w1 w2 : Int) (gh : List GObj) (h0 : 1 ≤ w0 ∧ w0 ≤ 8) (h1 : 1 ≤ w1 ∧ w1 ≤ 8) : D_word_do_0 pg 18 width a b c n w0 w1 w2 gh = some (.ret, ⟨[(14, I (doOf 18 a b c n w0 w1))], [], gh⟩) := by
  have e1 : D_word_do_0 pg 18 width a b c n w0 w1 w2 gh = callR gh true (callL pg 115 [I a, I w0] gh) fun r7 gh8 => unI .i64 r7 fun n9 => callR gh8 true (callL pg 115 [I b, I w1] gh8) fun r10 gh11 => unI .i64 r10 fun n12 => callR gh11 true (callL pg 114 [B (decide (n9 < n12))] gh11) fun r13 gh14 => unI .i64 r13 fun n15 => some (.ret, ⟨[(14, I n15)], [], gh14⟩) := rfl
  have e2 : doOf 18 a b c n w0 w1 = if sgnOf a w0 < sgnOf b w1 then 1 else 0 := rfl
  rw [e1, e2]
  simp [yes_eq, signed_eq a w0 h0, signed_eq b w1 h1]
theorem do_D19 (width a b c n w0 w1 w2 : Int) (gh : List GObj) : D_word_do_0 pg 19 width a b c n w0 w1 w2 gh = some (.ret, ⟨[(14, I (doOf 19 a b c n w0 w1))], [], gh⟩) := by
  have e1 : D_word_do_0 pg 19 width a b c n w0 w1 w2 gh = br 110 (a == 1) (some (.ret, ⟨[(14, I (b))], [], gh⟩)) (some (.ret, ⟨[(14, I (c))], [], gh⟩)) := rfl
  have e2 : doOf 19 a b c n w0 w1 = if a = 1 then b else c := rfl
  rw [e1, e2]
  by_cases h : a = 1 <;> simp [h]
theorem do_D20 (width a b c n w0 w1 w2 : Int) (gh : List GObj) (h1 : 0 ≤ w1) : D_word_do_0 pg 20 width a b c n w0 w1 w2 gh = some (.ret, ⟨[(14, I (doOf 20 a b c n w0 w1))], [], gh⟩) := by
  have e1 : D_word_do_0 pg 20 width a b c n w0 w1 w2 gh = gd (decide ((0 : Int) ≤ w1)) (some (.ret, ⟨[(14, I (iOr .i64 (iShl .i64 a w1) b))], [], gh⟩)) := rfl
  have e2 : doOf 20 a b c n w0 w1 = iOr .i64 (iShl .i64 a w1) b := rfl
  rw [e1, e2]
  simp [h1]
theorem do_D21 (width a b c n w0 w1 w2 : Int) (gh : List GObj) (hn : 0 ≤ n) : D_word_do_0 pg 21 width a b c n w0 w1 w2 gh = some (.ret, ⟨[(14, I (doOf 21 a b c n w0 w1))], [], gh⟩) := by
  have e1 : D_word_do_0 pg 21 width a b c n w0 w1 w2 gh = gd (decide ((0 : Int) ≤ n)) (some (.ret, ⟨[(14, I (iShr .i64 a n))], [], gh⟩)) := rfl
  have e2 : doOf 21 a b c n w0 w1 = iShr .i64 a n := rfl
  rw [e1, e2]
  simp [hn]
theorem do_D22 (width a b c n w0 w1 w2 : Int) (gh : List GObj) : D_word_do_0 pg 22 width a b c n w0 w1 w2 gh = some (.ret, ⟨[(14, I (doOf 22 a b c n w0 w1))], [], gh⟩) := rfl
theorem do_D23 (width a b c n w0 w1 w2 : Int) (gh : List GObj) (h0 : 1 ≤ w0 ∧ w0 ≤ 8) : D_word_do_0 pg 23 width a b c n w0 w1 w2 gh = some (.ret, ⟨[(14, I (doOf 23 a b c n w0 w1))], [], gh⟩) := by
  have e1 : D_word_do_0 pg 23 width a b c n w0 w1 w2 gh = callR gh true (callL pg 115 [I a, I w0] gh) fun r1 gh2 => unI .i64 r1 fun n3 => some (.ret, ⟨[(14, I n3)], [], gh2⟩) := rfl
  have e2 : doOf 23 a b c n w0 w1 = sgnOf a w0 := rfl
  rw [e1, e2]
  simp [signed_eq a w0 h0]
theorem do_eq (k width a b c n w0 w1 w2 : Int) (hk : 4 ≤ k ∧ k < 24) (hb : 0 ≤ b) (hn : k = 21 → 0 ≤ n) (h0 : 1 ≤ w0 ∧ w0 ≤ 8) (h1 : k = 18 ∨ k = 20 → 1 ≤ w1 ∧ w1 ≤ 8) (gh : List GObj) :
    callL pg 96 [I k, I width, I a, I b, I c, I n, .agg [I w0, I w1, I w2]] gh = some (I (doOf k a b c n w0 w1), gh) := by
  have hd : D_word_do_0 pg k width a b c n w0 w1 w2 gh = some (.ret, ⟨[(14, I (doOf k a b c n w0 w1))], [], gh⟩) := by
    have : k = 4 ∨ k = 5 ∨ k = 6 ∨ k = 7 ∨ k = 8 ∨ k = 9 ∨ k = 10 ∨ k = 11 ∨ k = 12 ∨ k = 13 ∨ k = 14 ∨ k = 15 ∨ k = 16 ∨ k = 17 ∨ k = 18 ∨ k = 19 ∨ k = 20 ∨ k = 21 ∨ k = 22 ∨ k = 23 := by omega
    rcases this with rfl | rfl | rfl | rfl | rfl | rfl | rfl | rfl | rfl | rfl | rfl | rfl | rfl | rfl | rfl | rfl | rfl | rfl | rfl | rfl
    · exact do_D4 width a b c n w0 w1 w2 gh
    · exact do_D5 width a b c n w0 w1 w2 gh
    · exact do_D6 width a b c n w0 w1 w2 gh
    · exact do_D7 width a b c n w0 w1 w2 gh
    · exact do_D8 width a b c n w0 w1 w2 gh
    · exact do_D9 width a b c n w0 w1 w2 gh
    · exact do_D10 width a b c n w0 w1 w2 gh
    · exact do_D11 width a b c n w0 w1 w2 gh
    · exact do_D12 width a b c n w0 w1 w2 gh
    · exact do_D13 width a b c n w0 w1 w2 gh
    · exact do_D14 width a b c n w0 w1 w2 gh hb
    · exact do_D15 width a b c n w0 w1 w2 gh hb
    · exact do_D16 width a b c n w0 w1 w2 gh
    · exact do_D17 width a b c n w0 w1 w2 gh
    · exact do_D18 width a b c n w0 w1 w2 gh h0 (h1 (.inl rfl))
    · exact do_D19 width a b c n w0 w1 w2 gh
    · exact do_D20 width a b c n w0 w1 w2 gh (by have := h1 (.inr rfl); omega)
    · exact do_D21 width a b c n w0 w1 w2 gh (hn rfl)
    · exact do_D22 width a b c n w0 w1 w2 gh
    · exact do_D23 width a b c n w0 w1 w2 gh h0
  refine callL_fn (fn := f_word_do) rfl rfl (D_word_do_0_ok hd) ?r1
  simp [finish, results, f_word_do, resOfs, resOf, resOk]
def rawOf (k width a b c n w0 w1 : Int) : Int := iAnd .i64 (doOf k a b c n w0 w1) (IntKind.i64.wrap (iShl .i64 1 width - 1))
theorem Raw_eq (k width a b c n w0 w1 w2 : Int) (hk : 4 ≤ k ∧ k < 24) (hb : 0 ≤ b) (hn : k = 21 → 0 ≤ n) (h0 : 1 ≤ w0 ∧ w0 ≤ 8) (h1 : k = 18 ∨ k = 20 → 1 ≤ w1 ∧ w1 ≤ 8) (hw : 0 ≤ width) (gh : List GObj) :
    callL pg 66 [I k, I width, I a, I b, I c, I n, .agg [I w0, I w1, I w2]] gh = some (I (rawOf k width a b c n w0 w1), gh) := by
  refine callL_fn (fn := f_word_Raw) (s := ?s1) rfl rfl (D_word_Raw_0_ok ?h1) ?r1
  case h1 => simp [D_word_Raw_0, do_eq k width a b c n w0 w1 w2 hk hb hn h0 h1, hw]; rfl
  case r1 => simp [finish, results, f_word_Raw, resOfs, resOf, resOk, rawOf]
def inOk (k i x w : Int) : Prop := if i < takesOf k then 0 ≤ x ∧ x < iShl .i64 1 w else x = 0
instance (k i x w : Int) : Decidable (inOk k i x w) := inferInstanceAs (Decidable (if i < takesOf k then 0 ≤ x ∧ x < iShl .i64 1 w else x = 0))
theorem fitE_zero {k width n w0 w1 w2 : Int} (h : fitE k width n w0 w1 w2 = 0) : (4 ≤ k ∧ k < 24) ∧ (1 ≤ width ∧ width ≤ 8) ∧ wOk k 0 w0 ∧ wOk k 1 w1 ∧ wOk k 2 w2 ∧ ∃ s, shapeOf k = some s ∧ fitsOf s width n w0 w1 w2 = true := by
  unfold fitE at h
  cases hs : shapeOf k with
  | none => rw [hs] at h; cases h
  | some s =>
    rw [hs] at h
    simp only at h
    by_cases h1 : 1 ≤ width ∧ width ≤ 8
    · by_cases h2 : wOk k 0 w0 ∧ wOk k 1 w1 ∧ wOk k 2 w2
      · simp only [h1, h2, and_self, not_true, if_false] at h
        refine ⟨?_, h1, h2.1, h2.2.1, h2.2.2, s, rfl, ?_⟩
        · simp only [shapeOf] at hs
          repeat' split at hs
          all_goals first | (exfalso; cases hs; done) | omega
        · cases hf : fitsOf s width n w0 w1 w2 with
          | true => rfl
          | false => rw [hf] at h; cases h
      · simp only [h1, and_self, not_true, if_false, h2, not_false_iff, if_true] at h; cases h
    · simp only [h1, not_false_iff, if_true] at h; cases h
theorem takes_pos {k : Int} (h : 4 ≤ k ∧ k < 24) : 0 < takesOf k := by
  simp only [takesOf]
  repeat' split
  all_goals omega
end Go.Lw
end

/-! What the code of function ref_FitOf comes to, piece by piece. Written by program (dprint.py). -/
section
set_option maxRecDepth 10000
set_option maxHeartbeats 4000000
namespace Go.Lw
open Go
noncomputable section
variable {pg : Prg} {gh : List GObj} {e : IExit} {s : St}
def an_ref_FitOf : Tr := (tB 70 (tI 35 (tI 19 (tB 11 (.node 3 (.agg [.int .i64, .int .i64, .int .i64]) (tI 1 (uI 0) (uI 2)) (tI 9 (uI 8) (uI 10))) (tB 15 (tI 13 (uI 12) (uI 14)) (tB 17 (uI 16) (uB 18)))) (tI 27 (tI 23 (tI 21 (uB 20) (uI 22)) (tB 25 (uI 24) (uB 26))) (tB 32 (tB 30 (uI 29) (uB 31)) (tI 34 (uB 33) .nil)))) (tI 52 (tI 44 (tI 40 (tB 37 (uB 36) (uI 38)) (tB 42 (uB 41) (uB 43))) (tI 49 (tB 47 (uI 46) (uB 48)) (tB 51 (uB 50) .nil))) (tB 61 (tI 57 (tB 54 (uB 53) (uI 56)) (tB 59 (uB 58) (uI 60))) (tB 66 (tI 64 (uI 63) (uB 65)) (tI 69 (uI 68) .nil))))) (tI 108 (tB 89 (tB 80 (tB 74 (tB 72 (uB 71) (uI 73)) (tI 78 (uI 76) (uB 79))) (tB 84 (tB 82 (uI 81) (uB 83)) (tB 86 (uI 85) (uI 88)))) (tI 99 (tB 94 (tI 92 (uB 90) (uI 93)) (tB 96 (uB 95) (uI 98))) (tI 103 (tB 101 (uB 100) (uB 102)) (tI 106 (uB 104) .nil)))) (tI 123 (tB 116 (tB 112 (tI 110 (uI 109) (uB 111)) (tB 114 (uI 113) (uI 115))) (tB 120 (tI 118 (uB 117) (uB 119)) (tI 122 (uB 121) .nil))) (tI 132 (tB 128 (tI 126 (uI 124) (uB 127)) (tB 130 (uB 129) (uB 131))) (tB 136 (tB 134 (uB 133) (uI 135)) (tB 138 (uB 137) .nil))))))
def D_ref_FitOf_b1 (pg : Prg) (x0 x1 : Int) (x2 x9 : Int) (x10 xc0_0 : Int) (xc0_1 xc0_2 : Int) (gh : List GObj) : DR :=
  br 20 (decide (x10 < 3)) (
  br 26 (decide (x10 < x9)) (gd (decide (0 ≤ x10 ∧ x10 < ((3 : Nat) : Int))) (
  ob (grab false 1 (0 + Int.toNat x10 * 1) [I xc0_0, I xc0_1, I xc0_2]) fun v1 => unI .i64 (degr v1) fun n2 =>
  callR gh true (callL pg 50 [I n2, I 1, I 8] gh) fun r3 gh4 => unB r3 fun b5 =>
  br 33 (!b5) (some (.ret, ⟨[(8, I 3)], [], gh4⟩)) (
  br 37 (decide (x9 ≤ x10)) (gd (decide (0 ≤ x10 ∧ x10 < ((3 : Nat) : Int))) (
  ob (grab false 1 (0 + Int.toNat x10 * 1) [I xc0_0, I xc0_1, I xc0_2]) fun v6 => unI .i64 (degr v6) fun n7 =>
  br 43 (n7 != 0) (some (.ret, ⟨[(8, I 3)], [], gh4⟩)) (some (.normal, ⟨[(0, I x0), (1, I x1), (2, I x2), (7, .ptr false 0 0), (9, I x9), (10, (I (IntKind.i64.wrap (x10 + 1))))], [[I xc0_0, I xc0_1, I xc0_2]], gh4⟩)))) (some (.normal, ⟨[(0, I x0), (1, I x1), (2, I x2), (7, .ptr false 0 0), (9, I x9), (10, (I (IntKind.i64.wrap (x10 + 1))))], [[I xc0_0, I xc0_1, I xc0_2]], gh4⟩))))) (
  br 37 (decide (x9 ≤ x10)) (gd (decide (0 ≤ x10 ∧ x10 < ((3 : Nat) : Int))) (
  ob (grab false 1 (0 + Int.toNat x10 * 1) [I xc0_0, I xc0_1, I xc0_2]) fun v8 => unI .i64 (degr v8) fun n9 =>
  br 43 (n9 != 0) (some (.ret, ⟨[(8, I 3)], [], gh⟩)) (some (.normal, ⟨[(0, I x0), (1, I x1), (2, I x2), (7, .ptr false 0 0), (9, I x9), (10, (I (IntKind.i64.wrap (x10 + 1))))], [[I xc0_0, I xc0_1, I xc0_2]], gh⟩)))) (some (.normal, ⟨[(0, I x0), (1, I x1), (2, I x2), (7, .ptr false 0 0), (9, I x9), (10, (I (IntKind.i64.wrap (x10 + 1))))], [[I xc0_0, I xc0_1, I xc0_2]], gh⟩)))) (some ((.exit 0), ⟨[(0, I x0), (1, I x1), (2, I x2), (7, .ptr false 0 0), (9, I x9), (10, I x10), (20, (B (decide (x10 < 3))))], [[I xc0_0, I xc0_1, I xc0_2]], gh⟩))
theorem D_ref_FitOf_b1_ok {x0 x1 : Int} {x2 x9 : Int} {x10 xc0_0 : Int} {xc0_1 xc0_2 : Int} (h : D_ref_FitOf_b1 pg x0 x1 x2 x9 x10 xc0_0 xc0_1 xc0_2 gh = some (e, s)) : runL pg f_ref_FitOf_b1 ⟨[(0, I x0), (1, I x1), (2, I x2), (7, .ptr false 0 0), (9, I x9), (10, I x10)], [[I xc0_0, I xc0_1, I xc0_2]], gh⟩ = some (e, s) :=
  runX_ok an_ref_FitOf (Eq.trans (by kernel_rfl) h)
def D_ref_FitOf_k2 (pg : Prg) (x0 x2 : Int) (b11 : Bool) (gh : List GObj) : DR :=
  br 131 (!b11) (some (.ret, ⟨[(8, I 1)], [], gh⟩)) (
  br 134 (x0 != 21) (
  br 138 (x2 != 0) (some (.ret, ⟨[(8, I 1)], [], gh⟩)) (some (.ret, ⟨[(8, I 0)], [], gh⟩))) (some (.ret, ⟨[(8, I 0)], [], gh⟩)))
theorem D_ref_FitOf_k2_ok {x0 x2 : Int} {b11 : Bool} (h : D_ref_FitOf_k2 pg x0 x2 b11 gh = some (e, s)) : runL pg f_ref_FitOf_k2 ⟨[(0, I x0), (2, I x2), (11, B b11)], [], gh⟩ = some (e, s) :=
  runX_ok an_ref_FitOf (Eq.trans (by kernel_rfl) h)
def D_ref_FitOf_k1 (pg : Prg) (x0 x1 : Int) (x2 xc0_0 : Int) (xc0_1 xc0_2 : Int) (gh : List GObj) : DR :=
  br 51 (x0 == 4) (
  kR (runL pg f_ref_FitOf_k2 ⟨[(0, I x0), (2, I x2), (11, (B (xc0_0 == x1)))], [], gh⟩) (fun e s => some (e, s))) (
  br 48 (x0 == 5) (
  kR (runL pg f_ref_FitOf_k2 ⟨[(0, I x0), (2, I x2), (11, (B (xc0_0 == x1)))], [], gh⟩) (fun e s => some (e, s))) (
  callR gh true (callL pg 50 [I x0, I 6, I 15] gh) fun r1 gh2 => unB r1 fun b3 =>
  br 59 b3 (
  br 66 (xc0_0 == x1) (
  kR (runL pg f_ref_FitOf_k2 ⟨[(0, I x0), (2, I x2), (11, (B (xc0_1 == x1)))], [], gh2⟩) (fun e s => some (e, s))) (
  kR (runL pg f_ref_FitOf_k2 ⟨[(0, I x0), (2, I x2), (11, B false)], [], gh2⟩) (fun e s => some (e, s)))) (
  callR gh2 true (callL pg 50 [I x0, I 16, I 18] gh2) fun r4 gh5 => unB r4 fun b6 =>
  br 72 b6 (
  br 80 (xc0_0 == xc0_1) (
  kR (runL pg f_ref_FitOf_k2 ⟨[(0, I x0), (2, I x2), (11, (B (x1 == 1)))], [], gh5⟩) (fun e s => some (e, s))) (
  kR (runL pg f_ref_FitOf_k2 ⟨[(0, I x0), (2, I x2), (11, B false)], [], gh5⟩) (fun e s => some (e, s)))) (
  br 84 (x0 == 19) (
  br 90 (xc0_0 == 1) (
  br 96 (xc0_1 == x1) (
  kR (runL pg f_ref_FitOf_k2 ⟨[(0, I x0), (2, I x2), (11, (B (xc0_2 == x1)))], [], gh5⟩) (fun e s => some (e, s))) (
  kR (runL pg f_ref_FitOf_k2 ⟨[(0, I x0), (2, I x2), (11, B false)], [], gh5⟩) (fun e s => some (e, s)))) (
  kR (runL pg f_ref_FitOf_k2 ⟨[(0, I x0), (2, I x2), (11, B false)], [], gh5⟩) (fun e s => some (e, s)))) (
  br 102 (x0 == 20) (
  kR (runL pg f_ref_FitOf_k2 ⟨[(0, I x0), (2, I x2), (11, (B ((IntKind.i64.wrap (xc0_0 + xc0_1)) == x1)))], [], gh5⟩) (fun e s => some (e, s))) (
  br 112 (x0 == 21) (
  br 117 (decide (0 ≤ x2)) (
  br 121 (decide (x2 ≤ 8)) (
  kR (runL pg f_ref_FitOf_k2 ⟨[(0, I x0), (2, I x2), (11, (B (decide ((IntKind.i64.wrap (x2 + x1)) ≤ xc0_0))))], [], gh5⟩) (fun e s => some (e, s))) (
  kR (runL pg f_ref_FitOf_k2 ⟨[(0, I x0), (2, I x2), (11, B false)], [], gh5⟩) (fun e s => some (e, s)))) (
  kR (runL pg f_ref_FitOf_k2 ⟨[(0, I x0), (2, I x2), (11, B false)], [], gh5⟩) (fun e s => some (e, s)))) (
  kR (runL pg f_ref_FitOf_k2 ⟨[(0, I x0), (2, I x2), (11, (B (decide (xc0_0 ≤ x1))))], [], gh5⟩) (fun e s => some (e, s)))))))))
theorem D_ref_FitOf_k1_ok {x0 x1 : Int} {x2 xc0_0 : Int} {xc0_1 xc0_2 : Int} (h : D_ref_FitOf_k1 pg x0 x1 x2 xc0_0 xc0_1 xc0_2 gh = some (e, s)) : runL pg f_ref_FitOf_k1 ⟨[(0, I x0), (1, I x1), (2, I x2), (7, .ptr false 0 0)], [[I xc0_0, I xc0_1, I xc0_2]], gh⟩ = some (e, s) :=
  runX_ok an_ref_FitOf (Eq.trans (by kernel_rfl) h)
def D_ref_FitOf_0 (pg : Prg) (x0 x1 : Int) (x2 x3_0 : Int) (x3_1 x3_2 : Int) (gh : List GObj) : DR :=
  callR gh true (callL pg 26 [I x0] gh) fun r1 gh2 => unI .i64 r1 fun n3 =>
  br 15 (n3 == 0) (some (.ret, ⟨[(8, I 7)], [], gh2⟩)) (
  callR gh2 true (callL pg 50 [I x1, I 1, I 8] gh2) fun r4 gh5 => unB r4 fun b6 =>
  br 18 (!b6) (some (.ret, ⟨[(8, I 3)], [], gh5⟩)) (
  kR (runL pg f_ref_FitOf_l1 ⟨[(0, I x0), (1, I x1), (2, I x2), (7, .ptr false 0 0), (9, I n3), (10, I 0)], [[I x3_0, I x3_1, I x3_2]], gh5⟩) (fun e s => nx e s (fun e s => some (e, s)) fun s => kR (runL pg f_ref_FitOf_k1 s) (fun e s => some (e, s)))))
theorem D_ref_FitOf_0_ok {x0 x1 : Int} {x2 x3_0 : Int} {x3_1 x3_2 : Int} (h : D_ref_FitOf_0 pg x0 x1 x2 x3_0 x3_1 x3_2 gh = some (e, s)) : runL pg f_ref_FitOf_0 ⟨[(0, I x0), (1, I x1), (2, I x2), (3, .agg [I x3_0, I x3_1, I x3_2])], [], gh⟩ = some (e, s) :=
  runX_ok an_ref_FitOf (Eq.trans (by kernel_rfl) h)
end
end Go.Lw
end

/-! What the code of function ref_Takes comes to, piece by piece. Written by program (dprint.py). -/
section
set_option maxRecDepth 10000
set_option maxHeartbeats 4000000
namespace Go.Lw
open Go
noncomputable section
variable {pg : Prg} {gh : List GObj} {e : IExit} {s : St}
def an_ref_Takes : Tr := (tB 7 (tB 4 (tI 2 (uI 0) (uI 3)) (tB 6 (uB 5) .nil)) (tB 11 (tB 9 (uB 8) (uB 10)) (tB 13 (uI 12) .nil)))
def D_ref_Takes_k1 (pg : Prg) (x0 x3 : Int) (b4 : Bool) (gh : List GObj) : DR :=
  br 4 b4 (some (.ret, ⟨[(2, I 1)], [], gh⟩)) (
  br 10 (x3 == 19) (some (.ret, ⟨[(2, I 3)], [], gh⟩)) (some (.normal, ⟨[(0, I x0), (10, (B (x3 == 19)))], [], gh⟩)))
theorem D_ref_Takes_k1_ok {x0 x3 : Int} {b4 : Bool} (h : D_ref_Takes_k1 pg x0 x3 b4 gh = some (e, s)) : runL pg f_ref_Takes_k1 ⟨[(0, I x0), (3, I x3), (4, B b4)], [], gh⟩ = some (e, s) :=
  runX_ok an_ref_Takes (Eq.trans (by kernel_rfl) h)
def D_ref_Takes_k2 (pg : Prg) (x0 : Int) (b10 : Bool) (gh : List GObj) : DR :=
  callR gh true (callL pg 50 [I x0, I 6, I 20] gh) fun r1 gh2 => unB r1 fun b3 =>
  br 13 b3 (some (.ret, ⟨[(2, I 2)], [], gh2⟩)) (some (.ret, ⟨[(2, I 0)], [], gh2⟩))
theorem D_ref_Takes_k2_ok {x0 : Int} {b10 : Bool} (h : D_ref_Takes_k2 pg x0 b10 gh = some (e, s)) : runL pg f_ref_Takes_k2 ⟨[(0, I x0), (10, B b10)], [], gh⟩ = some (e, s) :=
  runX_ok an_ref_Takes (Eq.trans (by kernel_rfl) h)
def D_ref_Takes_0 (pg : Prg) (x0 : Int) (gh : List GObj) : DR :=
  br 4 (x0 == 4) (
  kR (runL pg f_ref_Takes_k1 ⟨[(0, I x0), (3, I x0), (4, (B (x0 == 4)))], [], gh⟩) (fun e s => bk 0 e s (fun e s => nx e s (fun e s => some (e, s)) fun s => kR (runL pg f_ref_Takes_k2 s) (fun e s => some (e, s))))) (
  br 4 (x0 == 5) (
  kR (runL pg f_ref_Takes_k1 ⟨[(0, I x0), (3, I x0), (4, (B (x0 == 5)))], [], gh⟩) (fun e s => bk 0 e s (fun e s => nx e s (fun e s => some (e, s)) fun s => kR (runL pg f_ref_Takes_k2 s) (fun e s => some (e, s))))) (
  br 4 (x0 == 21) (
  kR (runL pg f_ref_Takes_k1 ⟨[(0, I x0), (3, I x0), (4, (B (x0 == 21)))], [], gh⟩) (fun e s => bk 0 e s (fun e s => nx e s (fun e s => some (e, s)) fun s => kR (runL pg f_ref_Takes_k2 s) (fun e s => some (e, s))))) (
  br 4 (x0 == 22) (
  kR (runL pg f_ref_Takes_k1 ⟨[(0, I x0), (3, I x0), (4, (B (x0 == 22)))], [], gh⟩) (fun e s => bk 0 e s (fun e s => nx e s (fun e s => some (e, s)) fun s => kR (runL pg f_ref_Takes_k2 s) (fun e s => some (e, s))))) (
  kR (runL pg f_ref_Takes_k1 ⟨[(0, I x0), (3, I x0), (4, (B (x0 == 23)))], [], gh⟩) (fun e s => bk 0 e s (fun e s => nx e s (fun e s => some (e, s)) fun s => kR (runL pg f_ref_Takes_k2 s) (fun e s => some (e, s))))))))
theorem D_ref_Takes_0_ok {x0 : Int} (h : D_ref_Takes_0 pg x0 gh = some (e, s)) : runL pg f_ref_Takes_0 ⟨[(0, I x0)], [], gh⟩ = some (e, s) :=
  runX_ok an_ref_Takes (Eq.trans (by kernel_rfl) h)
end
end Go.Lw
end

/-! What the code of function ref_between comes to, piece by piece. Written by program (dprint.py). -/
section
set_option maxRecDepth 10000
set_option maxHeartbeats 4000000
namespace Go.Lw
open Go
noncomputable section
variable {pg : Prg} {gh : List GObj} {e : IExit} {s : St}
def an_ref_between : Tr := (tB 9 (tB 6 (tI 1 (uI 0) (uI 2)) (tI 8 (uI 7) .nil)) (tI 12 (tI 11 (uB 10) .nil) (tB 14 (uB 13) .nil)))
def D_ref_between_0 (pg : Prg) (x0 x1 x2 : Int) (gh : List GObj) : DR :=
  br 10 (decide (x1 ≤ x0)) (some (.ret, ⟨[(6, (B (decide (x0 ≤ x2))))], [], gh⟩)) (some (.ret, ⟨[(6, B false)], [], gh⟩))
theorem D_ref_between_0_ok {x0 x1 x2 : Int} (h : D_ref_between_0 pg x0 x1 x2 gh = some (e, s)) : runL pg f_ref_between_0 ⟨[(0, I x0), (1, I x1), (2, I x2)], [], gh⟩ = some (e, s) :=
  runX_ok an_ref_between (Eq.trans (by kernel_rfl) h)
end
end Go.Lw
end

/-! What the document's functions of words come to. -/
section
namespace Go.Lw
open Go
theorem between_eq (n a b : Int) (gh : List GObj) : callL pg 50 [I n, I a, I b] gh = some (B (decide (a ≤ n ∧ n ≤ b)), gh) := by
  by_cases h : a ≤ n
  · refine callL_fn (fn := f_ref_between) (s := ?s1) rfl rfl (D_ref_between_0_ok ?h1) ?r1
    case h1 => simp [D_ref_between_0, h]; rfl
    case r1 => simp [finish, results, f_ref_between, resOfs, resOf, resOk, h]
  · refine callL_fn (fn := f_ref_between) (s := ?s2) rfl rfl (D_ref_between_0_ok ?h2) ?r2
    case h2 => simp [D_ref_between_0, h]; rfl
    case r2 => simp [finish, results, f_ref_between, resOfs, resOf, resOk, h]
theorem RTakes_eq (k : Int) (gh : List GObj) : callL pg 26 [I k] gh = some (I (takesOf k), gh) := by
  by_cases h1 : k = 4 ∨ k = 5 ∨ k = 21 ∨ k = 22 ∨ k = 23
  · refine callL_fn (fn := f_ref_Takes) (s := ⟨[(2, I 1)], [], gh⟩) rfl rfl (D_ref_Takes_0_ok ?h1) ?r1
    case h1 =>
      have := D_ref_Takes_k1_ok (pg := pg) (gh := gh) (x0 := k) (x3 := k) (b4 := true) (e := .ret) (s := ⟨[(2, I 1)], [], gh⟩) rfl
      rcases h1 with rfl | rfl | rfl | rfl | rfl <;> simp [D_ref_Takes_0, this]
    case r1 =>
      rcases h1 with rfl | rfl | rfl | rfl | rfl <;> simp [finish, results, f_ref_Takes, resOfs, resOf, resOk] <;> rfl
  simp only [not_or] at h1
  by_cases h2 : k = 19
  · refine callL_fn (fn := f_ref_Takes) (s := ⟨[(2, I 3)], [], gh⟩) rfl rfl (D_ref_Takes_0_ok ?h2) ?r2
    case h2 =>
      subst h2
      have := D_ref_Takes_k1_ok (pg := pg) (gh := gh) (x0 := 19) (x3 := 19) (b4 := false) (e := .ret) (s := ⟨[(2, I 3)], [], gh⟩) rfl
      simp [D_ref_Takes_0, this]
    case r2 => subst h2; simp [finish, results, f_ref_Takes, resOfs, resOf, resOk]; rfl
  have hk1 := D_ref_Takes_k1_ok (pg := pg) (gh := gh) (x0 := k) (x3 := k) (b4 := false) (e := .normal) (s := ⟨[(0, I k), (10, B false)], [], gh⟩) (by simp [D_ref_Takes_k1, h2])
  by_cases h3 : 6 ≤ k ∧ k ≤ 20
  · refine callL_fn (fn := f_ref_Takes) (s := ⟨[(2, I 2)], [], gh⟩) rfl rfl (D_ref_Takes_0_ok ?h3) ?r3
    case h3 =>
      have hk2 := D_ref_Takes_k2_ok (pg := pg) (gh := gh) (x0 := k) (b10 := false) (e := .ret) (s := ⟨[(2, I 2)], [], gh⟩) (by simp [D_ref_Takes_k2, between_eq, h3])
      simp [D_ref_Takes_0, h1, hk1, hk2]
    case r3 =>
      have : takesOf k = 2 := by simp only [takesOf]; repeat' split <;> first | omega | rfl
      simp [finish, results, f_ref_Takes, resOfs, resOf, resOk, this]
  · refine callL_fn (fn := f_ref_Takes) (s := ⟨[(2, I 0)], [], gh⟩) rfl rfl (D_ref_Takes_0_ok ?h4) ?r4
    case h4 =>
      have hk2 := D_ref_Takes_k2_ok (pg := pg) (gh := gh) (x0 := k) (b10 := false) (e := .ret) (s := ⟨[(2, I 0)], [], gh⟩) (by simp [D_ref_Takes_k2, between_eq, h3])
      simp [D_ref_Takes_0, h1, hk1, hk2]
    case r4 =>
      have : takesOf k = 0 := by simp only [takesOf]; repeat' split <;> first | omega | rfl
      simp [finish, results, f_ref_Takes, resOfs, resOf, resOk, this]
theorem FitOf_b1 (k width n w0 w1 w2 i w : Int) (gh : List GObj) (hi : (i = 0 ∧ w = w0) ∨ (i = 1 ∧ w = w1) ∨ (i = 2 ∧ w = w2)) :
    D_ref_FitOf_b1 pg k width n (takesOf k) i w0 w1 w2 gh = if wOk k i w then some (.normal, ⟨[(0, I k), (1, I width), (2, I n), (7, .ptr false 0 0), (9, I (takesOf k)), (10, I (i + 1))], [[I w0, I w1, I w2]], gh⟩)
      else some (.ret, ⟨[(8, I 3)], [], gh⟩) := by
  have hw : (IntKind.i64.wrap (i + 1)) = i + 1 := wrap_id (by omega) (by omega)
  by_cases hk : i < takesOf k
  · have hk' := Int.not_le.2 hk
    by_cases h1 : 1 ≤ w
    · by_cases h2 : w ≤ 8
      · rcases hi with ⟨rfl, rfl⟩ | ⟨rfl, rfl⟩ | ⟨rfl, rfl⟩ <;> simp [D_ref_FitOf_b1, between_eq, hk, hk', wOk, h1, h2] <;> exact hw
      · rcases hi with ⟨rfl, rfl⟩ | ⟨rfl, rfl⟩ | ⟨rfl, rfl⟩ <;> simp [D_ref_FitOf_b1, between_eq, hk, wOk, h1, h2]
    · rcases hi with ⟨rfl, rfl⟩ | ⟨rfl, rfl⟩ | ⟨rfl, rfl⟩ <;> simp [D_ref_FitOf_b1, between_eq, hk, wOk, h1]
  · have hk' := Int.not_lt.1 hk
    by_cases h2 : w = 0
    · rcases hi with ⟨rfl, rfl⟩ | ⟨rfl, rfl⟩ | ⟨rfl, rfl⟩ <;> simp [D_ref_FitOf_b1, hk, hk', wOk, h2] <;> exact hw
    · rcases hi with ⟨rfl, rfl⟩ | ⟨rfl, rfl⟩ | ⟨rfl, rfl⟩ <;> simp [D_ref_FitOf_b1, hk, hk', wOk, h2]
theorem FitOf_loop (k width n w0 w1 w2 : Int) (gh : List GObj) :
    runL pg f_ref_FitOf_l1 ⟨[(0, I k), (1, I width), (2, I n), (7, .ptr false 0 0), (9, I (takesOf k)), (10, I 0)], [[I w0, I w1, I w2]], gh⟩ =
      if wOk k 0 w0 ∧ wOk k 1 w1 ∧ wOk k 2 w2 then some (.normal, ⟨[(0, I k), (1, I width), (2, I n), (7, .ptr false 0 0)], [[I w0, I w1, I w2]], gh⟩) else some (.ret, ⟨[(8, I 3)], [], gh⟩) := by
  have b0 := FitOf_b1 k width n w0 w1 w2 0 w0 gh (by simp)
  have b1 := FitOf_b1 k width n w0 w1 w2 1 w1 gh (by simp)
  have b2 := FitOf_b1 k width n w0 w1 w2 2 w2 gh (by simp)
  by_cases h0 : wOk k 0 w0
  · rw [if_pos h0] at b0
    refine lp_next (D_ref_FitOf_b1_ok b0) ?_
    by_cases h1 : wOk k 1 w1
    · rw [if_pos h1] at b1
      refine lp_next (D_ref_FitOf_b1_ok b1) ?_
      by_cases h2 : wOk k 2 w2
      · rw [if_pos h2] at b2
        refine lp_next (D_ref_FitOf_b1_ok b2) ?_
        rw [if_pos ⟨h0, h1, h2⟩]
        refine (lp_exit (s1 := ?s1) (D_ref_FitOf_b1_ok ?h1)).trans ?r1
        case h1 => simp [D_ref_FitOf_b1]; rfl
        case r1 => simp [keep]
      · rw [if_neg h2] at b2
        rw [if_neg (fun h => h2 h.2.2)]
        exact lp_ret (D_ref_FitOf_b1_ok b2)
    · rw [if_neg h1] at b1
      rw [if_neg (fun h => h1 h.2.1)]
      exact lp_ret (D_ref_FitOf_b1_ok b1)
  · rw [if_neg h0] at b0
    rw [if_neg (fun h => h0 h.1)]
    exact lp_ret (D_ref_FitOf_b1_ok b0)
theorem FitOf_k2 (k n : Int) (b : Bool) (gh : List GObj) :
    runL pg f_ref_FitOf_k2 ⟨[(0, I k), (2, I n), (11, B b)], [], gh⟩ = some (.ret, ⟨[(8, I (if b = false ∨ (k ≠ 21 ∧ n ≠ 0) then 1 else 0))], [], gh⟩) := by
  refine D_ref_FitOf_k2_ok ?_
  cases b
  · simp [D_ref_FitOf_k2]
  · by_cases h1 : k = 21
    · simp [D_ref_FitOf_k2, h1]
    · by_cases h2 : n = 0 <;> simp [D_ref_FitOf_k2, h1, h2]
theorem FitOf_k1 (k width n w0 w1 w2 s : Int) (gh : List GObj) (hs : shapeOf k = some s) (hw : 1 ≤ width ∧ width ≤ 8) (h0 : wOk k 0 w0) (h1 : wOk k 1 w1) :
    runL pg f_ref_FitOf_k1 ⟨[(0, I k), (1, I width), (2, I n), (7, .ptr false 0 0)], [[I w0, I w1, I w2]], gh⟩ = some (.ret, ⟨[(8, I (if fitsOf s width n w0 w1 w2 then 0 else 1))], [], gh⟩) := by
  refine D_ref_FitOf_k1_ok ?_
  by_cases c1 : k = 4
  · subst c1; cases hs
    simp [D_ref_FitOf_k1, FitOf_k2, fitsOf]
    by_cases hn : n = 0 <;> by_cases hh : w0 = width <;> simp [hn, hh]
  by_cases c2 : k = 5
  · subst c2; cases hs
    simp [D_ref_FitOf_k1, FitOf_k2, fitsOf]
    by_cases hn : n = 0 <;> by_cases hh : w0 = width <;> simp [hn, hh]
  by_cases c3 : 6 ≤ k ∧ k ≤ 15
  · have : s = 2 := by
      simp only [shapeOf] at hs
      rw [if_neg (by omega), if_neg (by omega), if_pos (by omega)] at hs; cases hs; rfl
    subst this
    have hk : k ≠ 21 := by omega
    by_cases hn : n = 0 <;> by_cases hh : w0 = width <;> by_cases hh2 : w1 = width <;> simp [D_ref_FitOf_k1, FitOf_k2, between_eq, fitsOf, c1, c2, c3, hk, hn, hh, hh2]
  by_cases c4 : 16 ≤ k ∧ k ≤ 18
  · have : s = 3 := by
      simp only [shapeOf] at hs
      rw [if_neg (by omega), if_neg (by omega), if_neg (by omega), if_pos (by omega)] at hs; cases hs; rfl
    subst this
    have hk : k ≠ 21 := by omega
    by_cases hn : n = 0 <;> by_cases hh : w0 = w1 <;> by_cases hh2 : width = 1 <;> simp [D_ref_FitOf_k1, FitOf_k2, between_eq, fitsOf, c1, c2, c3, c4, hk, hn, hh, hh2]
  by_cases c5 : k = 19
  · subst c5; cases hs
    by_cases hn : n = 0 <;> by_cases hh : w0 = 1 <;> by_cases hh2 : w1 = width <;> by_cases hh3 : w2 = width <;> simp [D_ref_FitOf_k1, FitOf_k2, between_eq, fitsOf, hn, hh, hh2, hh3]
  by_cases c6 : k = 20
  · subst c6; cases hs
    by_cases hn : n = 0 <;> by_cases hh : IntKind.i64.wrap (w0 + w1) = width <;> simp [D_ref_FitOf_k1, FitOf_k2, between_eq, fitsOf, hn, hh]
  by_cases c7 : k = 21
  · subst c7; cases hs
    have hw0 : 1 ≤ w0 ∧ w0 ≤ 8 := h0
    have e1 : IntKind.i64.wrap (w0 - width) = w0 - width := wrap_id (by omega) (by omega)
    by_cases hn : 0 ≤ n
    · by_cases hn2 : n ≤ 8
      · have e2 : IntKind.i64.wrap (n + width) = n + width := wrap_id (by omega) (by omega)
        by_cases hh : n + width ≤ w0
        · simp [D_ref_FitOf_k1, FitOf_k2, between_eq, fitsOf, hn, hn2, e1, e2, hh, show n ≤ w0 - width by omega]
        · simp [D_ref_FitOf_k1, FitOf_k2, between_eq, fitsOf, hn, hn2, e1, e2, hh, show ¬ n ≤ w0 - width by omega]
      · simp [D_ref_FitOf_k1, FitOf_k2, between_eq, fitsOf, hn, hn2, e1, show ¬ n ≤ w0 - width by omega]
    · simp [D_ref_FitOf_k1, FitOf_k2, between_eq, fitsOf, hn]
  · have : s = 7 := by
      simp only [shapeOf] at hs
      repeat' split at hs
      all_goals first | (exfalso; omega) | (cases hs; done) | (cases hs; rfl)
    subst this
    by_cases hn : n = 0 <;> by_cases hh : w0 ≤ width <;> simp [D_ref_FitOf_k1, FitOf_k2, between_eq, fitsOf, c1, c2, c3, c4, c5, c6, c7, hn, hh]
theorem takes_zero (k : Int) : takesOf k = 0 ↔ shapeOf k = none := by
  simp only [takesOf, shapeOf]
  constructor
  · intro h; repeat' split
    all_goals first | rfl | (exfalso; revert h; repeat' split) <;> omega
  · intro h; repeat' split
    all_goals first | rfl | (exfalso; revert h; repeat' split) <;> first | omega | simp
theorem FitOf_eq (k width n w0 w1 w2 : Int) (gh : List GObj) : callL pg 23 [I k, I width, I n, .agg [I w0, I w1, I w2]] gh = some (I (fitE k width n w0 w1 w2), gh) := by
  simp only [fitE]
  cases hs : shapeOf k with
  | none =>
    refine callL_fn (fn := f_ref_FitOf) (s := ?s0) rfl rfl (D_ref_FitOf_0_ok ?h0) ?r0
    case h0 => simp [D_ref_FitOf_0, RTakes_eq, (takes_zero k).2 hs]; rfl
    case r0 => simp [finish, results, f_ref_FitOf, resOfs, resOf, resOk]
  | some s =>
    have ht : takesOf k ≠ 0 := fun h => by rw [takes_zero, hs] at h; cases h
    by_cases hw : 1 ≤ width ∧ width ≤ 8
    · have hl := FitOf_loop k width n w0 w1 w2 gh
      simp only [hw, not_true, if_false, and_self]
      by_cases ho : wOk k 0 w0 ∧ wOk k 1 w1 ∧ wOk k 2 w2
      · rw [if_pos ho] at hl
        have hk := FitOf_k1 k width n w0 w1 w2 s gh hs hw ho.1 ho.2.1
        simp only [ho, not_true, if_false, and_self]
        refine callL_fn (fn := f_ref_FitOf) (s := ?s1) rfl rfl (D_ref_FitOf_0_ok ?h1) ?r1
        case h1 => simp [D_ref_FitOf_0, RTakes_eq, ht, between_eq, hw, hl, hk]; rfl
        case r1 => simp [finish, results, f_ref_FitOf, resOfs, resOf, resOk]
      · rw [if_neg ho] at hl
        refine callL_fn (fn := f_ref_FitOf) (s := ?s3) rfl rfl (D_ref_FitOf_0_ok ?h3) ?r3
        case h3 => simp [D_ref_FitOf_0, RTakes_eq, ht, between_eq, hw, hl]; rfl
        case r3 => simp [finish, results, f_ref_FitOf, resOfs, resOf, resOk, ho]
    · refine callL_fn (fn := f_ref_FitOf) (s := ?s4) rfl rfl (D_ref_FitOf_0_ok ?h4) ?r4
      case h4 => simp [D_ref_FitOf_0, RTakes_eq, ht, between_eq, hw]; rfl
      case r4 => simp [finish, results, f_ref_FitOf, resOfs, resOf, resOk, hw]
end Go.Lw
end

/-! What the code of function ref_Two comes to, piece by piece. Written by program (dprint.py). -/
section
set_option maxRecDepth 10000
set_option maxHeartbeats 4000000
namespace Go.Lw
open Go
noncomputable section
variable {pg : Prg} {gh : List GObj} {e : IExit} {s : St}
def an_ref_Two : Tr := (tB 7 (tI 4 (tI 2 (uI 0) (uI 3)) (tI 6 (uI 5) .nil)) (tI 10 (tI 9 (uI 8) .nil) (tI 12 (uI 11) .nil)))
def D_ref_Two_b1 (pg : Prg) (x0 x3 x4 : Int) (gh : List GObj) : DR :=
  br 7 (decide (x4 < x0)) (some (.normal, ⟨[(0, I x0), (3, (I (IntKind.i64.wrap (2 * x3)))), (4, (I (IntKind.i64.wrap (x4 + 1))))], [], gh⟩)) (some ((.exit 0), ⟨[(0, I x0), (3, I x3), (4, I x4), (7, (B (decide (x4 < x0))))], [], gh⟩))
theorem D_ref_Two_b1_ok {x0 x3 x4 : Int} (h : D_ref_Two_b1 pg x0 x3 x4 gh = some (e, s)) : runL pg f_ref_Two_b1 ⟨[(0, I x0), (3, I x3), (4, I x4)], [], gh⟩ = some (e, s) :=
  runX_ok an_ref_Two (Eq.trans (by kernel_rfl) h)
def D_ref_Two_k1 (pg : Prg) (x3 : Int) (gh : List GObj) : DR := some (.ret, ⟨[(2, I x3)], [], gh⟩)
theorem D_ref_Two_k1_ok {x3 : Int} (h : D_ref_Two_k1 pg x3 gh = some (e, s)) : runL pg f_ref_Two_k1 ⟨[(3, I x3)], [], gh⟩ = some (e, s) :=
  runX_ok an_ref_Two (Eq.trans (by kernel_rfl) h)
def D_ref_Two_0 (pg : Prg) (x0 : Int) (gh : List GObj) : DR :=
  kR (runL pg f_ref_Two_l1 ⟨[(0, I x0), (3, I 1), (4, I 0)], [], gh⟩) (fun e s => nx e s (fun e s => some (e, s)) fun s => kR (runL pg f_ref_Two_k1 s) (fun e s => some (e, s)))
theorem D_ref_Two_0_ok {x0 : Int} (h : D_ref_Two_0 pg x0 gh = some (e, s)) : runL pg f_ref_Two_0 ⟨[(0, I x0)], [], gh⟩ = some (e, s) :=
  runX_ok an_ref_Two (Eq.trans (by kernel_rfl) h)
end
end Go.Lw
end

/-! What the code of function ref_Bit comes to, piece by piece. Written by program (dprint.py). -/
section
set_option maxRecDepth 10000
set_option maxHeartbeats 4000000
namespace Go.Lw
open Go
noncomputable section
variable {pg : Prg} {gh : List GObj} {e : IExit} {s : St}
def an_ref_Bit : Tr := (tI 6 (tI 4 (tI 1 (uI 0) .nil) (uI 5)) (tI 8 (uI 7) (uI 9)))
def D_ref_Bit_0 (pg : Prg) (x0 x1 : Int) (gh : List GObj) : DR :=
  callR gh true (callL pg 27 [I x1] gh) fun r1 gh2 => unI .i64 r1 fun n3 => gd (decide ((n3 : Int) ≠ 0)) (gd (decide ((2 : Int) ≠ 0)) (some (.ret, ⟨[(4, (I (Int.tmod (IntKind.i64.wrap (Int.tdiv x0 n3)) 2)))], [], gh2⟩)))
theorem D_ref_Bit_0_ok {x0 x1 : Int} (h : D_ref_Bit_0 pg x0 x1 gh = some (e, s)) : runL pg f_ref_Bit_0 ⟨[(0, I x0), (1, I x1)], [], gh⟩ = some (e, s) :=
  runX_ok an_ref_Bit (Eq.trans (by kernel_rfl) h)
end
end Go.Lw
end

/-! What the code of function ref_Signed comes to, piece by piece. Written by program (dprint.py). -/
section
set_option maxRecDepth 10000
set_option maxHeartbeats 4000000
namespace Go.Lw
open Go
noncomputable section
variable {pg : Prg} {gh : List GObj} {e : IExit} {s : St}
def an_ref_Signed : Tr := (tI 8 (tI 5 (tI 1 (uI 0) (uI 4)) (tI 7 (uI 6) .nil)) (tI 12 (tI 10 (uB 9) (uI 11)) (tI 14 (uI 13) .nil)))
def D_ref_Signed_0 (pg : Prg) (x0 x1 : Int) (gh : List GObj) : DR :=
  callR gh true (callL pg 97 [I x0, (I (IntKind.i64.wrap (x1 - 1)))] gh) fun r1 gh2 => unI .i64 r1 fun n3 =>
  br 9 (n3 == 1) (
  callR gh2 true (callL pg 27 [I x1] gh2) fun r4 gh5 => unI .i64 r4 fun n6 => some (.ret, ⟨[(4, (I (IntKind.i64.wrap (x0 - n6))))], [], gh5⟩)) (some (.ret, ⟨[(4, I x0)], [], gh2⟩))
theorem D_ref_Signed_0_ok {x0 x1 : Int} (h : D_ref_Signed_0 pg x0 x1 gh = some (e, s)) : runL pg f_ref_Signed_0 ⟨[(0, I x0), (1, I x1)], [], gh⟩ = some (e, s) :=
  runX_ok an_ref_Signed (Eq.trans (by kernel_rfl) h)
end
end Go.Lw
end

/-! What the code of function ref_yes comes to, piece by piece. Written by program (dprint.py). -/
section
set_option maxRecDepth 10000
set_option maxHeartbeats 4000000
namespace Go.Lw
open Go
noncomputable section
variable {pg : Prg} {gh : List GObj} {e : IExit} {s : St}
def an_ref_yes : Tr := (tI 2 (uB 0) (uB 3))
def D_ref_yes_0 (pg : Prg) (b0 : Bool) (gh : List GObj) : DR :=
  br 3 b0 (some (.ret, ⟨[(2, I 1)], [], gh⟩)) (some (.ret, ⟨[(2, I 0)], [], gh⟩))
theorem D_ref_yes_0_ok {b0 : Bool} (h : D_ref_yes_0 pg b0 gh = some (e, s)) : runL pg f_ref_yes_0 ⟨[(0, B b0)], [], gh⟩ = some (e, s) :=
  runX_ok an_ref_yes (Eq.trans (by kernel_rfl) h)
end
end Go.Lw
end

/-! What the code of function ref_bitwise comes to, piece by piece. Written by program (dprint.py). -/
section
set_option maxRecDepth 10000
set_option maxHeartbeats 4000000
namespace Go.Lw
open Go
noncomputable section
variable {pg : Prg} {gh : List GObj} {e : IExit} {s : St}
def an_ref_bitwise : Tr := (tI 17 (tI 10 (.node 3 (.agg [.int .i64, .int .i64, .int .i64, .int .i64]) (tI 1 (uI 0) (uI 2)) (tI 9 (uI 8) .nil)) (tI 14 (tI 12 (uI 11) (uB 13)) (tI 16 (uI 15) .nil))) (tI 24 (tI 21 (tI 19 (uI 18) (uI 20)) (tI 23 (uI 22) .nil)) (tI 29 (tI 27 (uI 26) (uI 28)) (tI 31 (uI 30) .nil))))
def D_ref_bitwise_b1 (pg : Prg) (x0 x1 : Int) (x2 x9 : Int) (x10 xc0_0 : Int) (xc0_1 xc0_2 xc0_3 : Int) (gh : List GObj) : DR :=
  br 13 (decide (x10 < x2)) (
  callR gh true (callL pg 97 [I x0, I x10] gh) fun r1 gh2 => unI .i64 r1 fun n3 =>
  callR gh2 true (callL pg 97 [I x1, I x10] gh2) fun r4 gh5 => unI .i64 r4 fun n6 => gd (decide (0 ≤ (IntKind.i64.wrap ((IntKind.i64.wrap (2 * n3)) + n6)) ∧ (IntKind.i64.wrap ((IntKind.i64.wrap (2 * n3)) + n6)) < ((4 : Nat) : Int))) (
  ob (grab false 1 (0 + Int.toNat (IntKind.i64.wrap ((IntKind.i64.wrap (2 * n3)) + n6)) * 1) [I xc0_0, I xc0_1, I xc0_2, I xc0_3]) fun v7 => unI .i64 (degr v7) fun n8 =>
  callR gh5 true (callL pg 27 [I x10] gh5) fun r9 gh10 => unI .i64 r9 fun n11 => some (.normal, ⟨[(0, I x0), (1, I x1), (2, I x2), (7, .ptr false 0 0), (9, (I (IntKind.i64.wrap (x9 + (IntKind.i64.wrap (n8 * n11)))))), (10, (I (IntKind.i64.wrap (x10 + 1))))], [[I xc0_0, I xc0_1, I xc0_2, I xc0_3]], gh10⟩))) (some ((.exit 0), ⟨[(0, I x0), (1, I x1), (2, I x2), (7, .ptr false 0 0), (9, I x9), (10, I x10), (13, (B (decide (x10 < x2))))], [[I xc0_0, I xc0_1, I xc0_2, I xc0_3]], gh⟩))
theorem D_ref_bitwise_b1_ok {x0 x1 : Int} {x2 x9 : Int} {x10 xc0_0 : Int} {xc0_1 xc0_2 xc0_3 : Int} (h : D_ref_bitwise_b1 pg x0 x1 x2 x9 x10 xc0_0 xc0_1 xc0_2 xc0_3 gh = some (e, s)) : runL pg f_ref_bitwise_b1 ⟨[(0, I x0), (1, I x1), (2, I x2), (7, .ptr false 0 0), (9, I x9), (10, I x10)], [[I xc0_0, I xc0_1, I xc0_2, I xc0_3]], gh⟩ = some (e, s) :=
  runX_ok an_ref_bitwise (Eq.trans (by kernel_rfl) h)
def D_ref_bitwise_k1 (pg : Prg) (x9 : Int) (gh : List GObj) : DR := some (.ret, ⟨[(8, I x9)], [], gh⟩)
theorem D_ref_bitwise_k1_ok {x9 : Int} (h : D_ref_bitwise_k1 pg x9 gh = some (e, s)) : runL pg f_ref_bitwise_k1 ⟨[(9, I x9)], [], gh⟩ = some (e, s) :=
  runX_ok an_ref_bitwise (Eq.trans (by kernel_rfl) h)
def D_ref_bitwise_0 (pg : Prg) (x0 x1 : Int) (x2 x3_0 : Int) (x3_1 x3_2 x3_3 : Int) (gh : List GObj) : DR :=
  kR (runL pg f_ref_bitwise_l1 ⟨[(0, I x0), (1, I x1), (2, I x2), (7, .ptr false 0 0), (9, I 0), (10, I 0)], [[I x3_0, I x3_1, I x3_2, I x3_3]], gh⟩) (fun e s => nx e s (fun e s => some (e, s)) fun s => kR (runL pg f_ref_bitwise_k1 s) (fun e s => some (e, s)))
theorem D_ref_bitwise_0_ok {x0 x1 : Int} {x2 x3_0 : Int} {x3_1 x3_2 x3_3 : Int} (h : D_ref_bitwise_0 pg x0 x1 x2 x3_0 x3_1 x3_2 x3_3 gh = some (e, s)) : runL pg f_ref_bitwise_0 ⟨[(0, I x0), (1, I x1), (2, I x2), (3, .agg [I x3_0, I x3_1, I x3_2, I x3_3])], [], gh⟩ = some (e, s) :=
  runX_ok an_ref_bitwise (Eq.trans (by kernel_rfl) h)
end
end Go.Lw
end

/-! What the code of function ref_Made comes to, piece by piece. Written by program (dprint.py). -/
section
set_option maxRecDepth 10000
set_option maxHeartbeats 4000000
namespace Go.Lw
open Go
noncomputable section
variable {pg : Prg} {gh : List GObj} {e : IExit} {s : St}
def an_ref_Made : Tr := (tI 87 (tB 47 (tI 27 (tI 17 (tI 5 (tI 2 (tI 1 (uI 0) .nil) (tI 4 (uI 3) .nil)) (tI 15 (tI 14 (.node 6 (.agg [.int .i64, .int .i64, .int .i64]) .nil .nil) .nil) (uI 16))) (tI 22 (tB 20 (tB 19 (uI 18) .nil) (uI 21)) (tB 25 (tI 24 (uI 23) .nil) (uB 26)))) (.node 37 (.agg [.int .i64, .int .i64, .int .i64, .int .i64]) (tB 32 (tI 30 (tI 29 (uI 28) .nil) (uI 31)) (tI 35 (tI 34 (uB 33) .nil) (uI 36))) (tI 42 (tB 40 (tB 39 (uI 38) .nil) (uI 41)) (tI 45 (.node 44 (.agg [.int .i64, .int .i64, .int .i64, .int .i64]) (uI 43) .nil) (uB 46))))) (tI 67 (tI 57 (tI 52 (tI 50 (tI 49 (uI 48) .nil) (.node 51 (.agg [.int .i64, .int .i64, .int .i64, .int .i64]) .nil .nil)) (tI 55 (tB 54 (uB 53) .nil) (uI 56))) (tI 62 (tB 60 (tI 59 (uI 58) .nil) (uB 61)) (tI 65 (tI 64 (uI 63) .nil) (uI 66)))) (tB 77 (tI 72 (tB 70 (tB 69 (uI 68) .nil) (uI 71)) (tI 75 (tI 74 (uI 73) .nil) (uB 76))) (tI 82 (tI 80 (tB 79 (uI 78) .nil) (uI 81)) (tB 85 (tI 84 (uI 83) .nil) (uB 86)))))) (tI 127 (tI 107 (tB 97 (tI 92 (tI 90 (tI 89 (uB 88) .nil) (uI 91)) (tI 95 (tB 94 (uB 93) .nil) (uI 96))) (tI 102 (tI 100 (tI 99 (uI 98) .nil) (uI 101)) (tB 105 (tB 104 (uI 103) .nil) (uI 106)))) (tB 117 (tI 112 (tI 110 (tI 109 (uB 108) .nil) (uI 111)) (tI 115 (tB 114 (uB 113) .nil) (uI 116))) (tI 122 (tB 120 (tB 119 (uI 118) .nil) (uI 121)) (tB 125 (tI 124 (uB 123) .nil) (uB 126))))) (tI 150 (tI 139 (tI 134 (tI 131 (tI 130 (uI 129) .nil) (uI 133)) (tB 137 (tI 136 (uB 135) .nil) (uB 138))) (tB 144 (tI 142 (tI 141 (uB 140) .nil) (uB 143)) (tI 148 (tI 147 (uI 145) .nil) (uI 149)))) (tB 160 (tI 155 (tB 153 (tB 152 (uI 151) .nil) (uI 154)) (tI 158 (tI 157 (uI 156) .nil) (uI 159))) (tI 166 (tI 164 (tI 162 (uB 161) .nil) (uI 165)) (tI 169 (tI 168 (uI 167) .nil) (uI 170)))))))
def D_ref_Made_0 (pg : Prg) (x0 x1 : Int) (x2 x3 : Int) (x4 x5 : Int) (x6_0 x6_1 x6_2 : Int) (gh : List GObj) : DR :=
  callR gh true (callL pg 27 [I x1] gh) fun r1 gh2 => unI .i64 r1 fun n3 =>
  br 19 (x0 == 4) (some (.ret, ⟨[(14, (I (IntKind.i64.wrap ((IntKind.i64.wrap (n3 - 1)) - x2))))], [], gh2⟩)) (
  br 25 (x0 == 5) (gd (decide ((n3 : Int) ≠ 0)) (some (.ret, ⟨[(14, (I (Int.tmod (IntKind.i64.wrap (n3 - x2)) n3)))], [], gh2⟩))) (
  br 32 (x0 == 6) (
  callR gh2 true (callL pg 67 [I x2, I x3, I x1, .agg [I 0, I 0, I 0, I 1]] gh2) fun r4 gh5 => unI .i64 r4 fun n6 => some (.ret, ⟨[(14, I n6)], [], gh5⟩)) (
  br 39 (x0 == 7) (
  callR gh2 true (callL pg 67 [I x2, I x3, I x1, .agg [I 0, I 1, I 1, I 1]] gh2) fun r7 gh8 => unI .i64 r7 fun n9 => some (.ret, ⟨[(14, I n9)], [], gh8⟩)) (
  br 46 (x0 == 8) (
  callR gh2 true (callL pg 67 [I x2, I x3, I x1, .agg [I 0, I 1, I 1, I 0]] gh2) fun r10 gh11 => unI .i64 r10 fun n12 => some (.ret, ⟨[(14, I n12)], [], gh11⟩)) (
  br 53 (x0 == 9) (gd (decide ((n3 : Int) ≠ 0)) (some (.ret, ⟨[(14, (I (Int.tmod (IntKind.i64.wrap (x2 + x3)) n3)))], [], gh2⟩))) (
  br 60 (x0 == 10) (gd (decide ((n3 : Int) ≠ 0)) (some (.ret, ⟨[(14, (I (Int.tmod (IntKind.i64.wrap ((IntKind.i64.wrap (x2 + n3)) - x3)) n3)))], [], gh2⟩))) (
  br 69 (x0 == 11) (gd (decide ((n3 : Int) ≠ 0)) (some (.ret, ⟨[(14, (I (Int.tmod (IntKind.i64.wrap (x2 * x3)) n3)))], [], gh2⟩))) (
  br 76 (x0 == 12) (
  br 79 (x3 == 0) (some (.ret, ⟨[(14, (I (IntKind.i64.wrap (n3 - 1))))], [], gh2⟩)) (gd (decide ((x3 : Int) ≠ 0)) (some (.ret, ⟨[(14, (I (IntKind.i64.wrap (Int.tdiv x2 x3))))], [], gh2⟩)))) (
  br 85 (x0 == 13) (
  br 88 (x3 == 0) (some (.ret, ⟨[(14, I x2)], [], gh2⟩)) (gd (decide ((x3 : Int) ≠ 0)) (some (.ret, ⟨[(14, (I (Int.tmod x2 x3)))], [], gh2⟩)))) (
  br 93 (x0 == 14) (
  br 97 (decide (x1 ≤ x3)) (some (.ret, ⟨[(14, I 0)], [], gh2⟩)) (
  callR gh2 true (callL pg 27 [I x3] gh2) fun r13 gh14 => unI .i64 r13 fun n15 => gd (decide ((n3 : Int) ≠ 0)) (some (.ret, ⟨[(14, (I (Int.tmod (IntKind.i64.wrap (x2 * n15)) n3)))], [], gh14⟩)))) (
  br 104 (x0 == 15) (
  br 108 (decide (x1 ≤ x3)) (some (.ret, ⟨[(14, I 0)], [], gh2⟩)) (
  callR gh2 true (callL pg 27 [I x3] gh2) fun r16 gh17 => unI .i64 r16 fun n18 => gd (decide ((n18 : Int) ≠ 0)) (some (.ret, ⟨[(14, (I (IntKind.i64.wrap (Int.tdiv x2 n18))))], [], gh17⟩)))) (
  br 113 (x0 == 16) (
  callR gh2 true (callL pg 68 [(B (x2 == x3))] gh2) fun r19 gh20 => unI .i64 r19 fun n21 => some (.ret, ⟨[(14, I n21)], [], gh20⟩)) (
  br 119 (x0 == 17) (
  callR gh2 true (callL pg 68 [(B (decide (x2 < x3)))] gh2) fun r22 gh23 => unI .i64 r22 fun n24 => some (.ret, ⟨[(14, I n24)], [], gh23⟩)) (
  br 125 (x0 == 18) (
  callR gh2 true (callL pg 69 [I x2, I x6_0] gh2) fun r25 gh26 => unI .i64 r25 fun n27 =>
  callR gh26 true (callL pg 69 [I x3, I x6_1] gh26) fun r28 gh29 => unI .i64 r28 fun n30 =>
  callR gh29 true (callL pg 68 [(B (decide (n27 < n30)))] gh29) fun r31 gh32 => unI .i64 r31 fun n33 => some (.ret, ⟨[(14, I n33)], [], gh32⟩)) (
  br 137 (x0 == 19) (
  br 140 (x2 == 1) (some (.ret, ⟨[(14, I x3)], [], gh2⟩)) (some (.ret, ⟨[(14, I x4)], [], gh2⟩))) (
  br 143 (x0 == 20) (
  callR gh2 true (callL pg 27 [I x6_1] gh2) fun r34 gh35 => unI .i64 r34 fun n36 => some (.ret, ⟨[(14, (I (IntKind.i64.wrap ((IntKind.i64.wrap (x2 * n36)) + x3))))], [], gh35⟩)) (
  br 152 (x0 == 21) (
  callR gh2 true (callL pg 27 [I x5] gh2) fun r37 gh38 => unI .i64 r37 fun n39 => gd (decide ((n39 : Int) ≠ 0)) (gd (decide ((n3 : Int) ≠ 0)) (some (.ret, ⟨[(14, (I (Int.tmod (IntKind.i64.wrap (Int.tdiv x2 n39)) n3)))], [], gh38⟩)))) (
  br 160 (x0 == 23) (
  callR gh2 true (callL pg 69 [I x2, I x6_0] gh2) fun r40 gh41 => unI .i64 r40 fun n42 => gd (decide ((n3 : Int) ≠ 0)) (some (.ret, ⟨[(14, (I (Int.tmod (IntKind.i64.wrap (n42 + n3)) n3)))], [], gh41⟩))) (some (.ret, ⟨[(14, I x2)], [], gh2⟩))))))))))))))))))))
theorem D_ref_Made_0_ok {x0 x1 : Int} {x2 x3 : Int} {x4 x5 : Int} {x6_0 x6_1 x6_2 : Int} (h : D_ref_Made_0 pg x0 x1 x2 x3 x4 x5 x6_0 x6_1 x6_2 gh = some (e, s)) : runL pg f_ref_Made_0 ⟨[(0, I x0), (1, I x1), (2, I x2), (3, I x3), (4, I x4), (5, I x5), (6, .agg [I x6_0, I x6_1, I x6_2])], [], gh⟩ = some (e, s) :=
  runX_ok an_ref_Made (Eq.trans (by kernel_rfl) h)
end
end Go.Lw
end

/-! What the document makes of words is what the program makes of them. -/
section
namespace Go.Lw
open Go
theorem two_nat (k : Nat) : ((2 ^ k : Nat) : Int) = 2 ^ k := Int.natCast_pow 2 k
theorem Two_loop {k : Nat} (hk : k ≤ 61) (gh : List GObj) : ∀ m i, i + m = k → runL pg f_ref_Two_l1 ⟨[(0, I k), (3, I ((2 ^ i : Nat) : Int)), (4, I i)], [], gh⟩ = some (.normal, ⟨[(3, I ((2 ^ k : Nat) : Int))], [], gh⟩)
  | 0, i, h => by
    obtain rfl : i = k := by omega
    refine (lp_exit (s1 := ?s1) (D_ref_Two_b1_ok ?h1)).trans ?r1
    case h1 => simp [D_ref_Two_b1]; rfl
    case r1 => simp [keep]
  | m + 1, i, h => by
    have hlt : (i : Int) < (k : Int) := by omega
    have h1 : 2 ^ i ≤ 2 ^ 60 := Nat.pow_le_pow_right (by decide) (by omega)
    have e1 : IntKind.i64.wrap (2 * ((2 ^ i : Nat) : Int)) = ((2 ^ (i + 1) : Nat) : Int) := by
      rw [Nat.pow_succ]
      generalize 2 ^ i = q at h1
      rw [wrap_id (by omega) (by omega)]; omega
    have e2 : IntKind.i64.wrap ((i : Int) + 1) = ((i + 1 : Nat) : Int) := by rw [wrap_id (by omega) (by omega)]; omega
    refine lp_next (s1 := ⟨[(0, I k), (3, I ((2 ^ (i + 1) : Nat) : Int)), (4, I ((i + 1 : Nat) : Int))], [], gh⟩) (D_ref_Two_b1_ok ?h2) ?r2
    case h2 => rw [D_ref_Two_b1, e1, e2, decide_eq_true hlt]; rfl
    case r2 => exact Two_loop hk gh m (i + 1) (by omega)
theorem Two_eq {k : Nat} (hk : k ≤ 61) (gh : List GObj) : callL pg 27 [I k] gh = some (I ((2 ^ k : Nat) : Int), gh) := by
  have hl := Two_loop hk gh k 0 (by omega)
  have hk1 := D_ref_Two_k1_ok (pg := pg) (gh := gh) (x3 := ((2 ^ k : Nat) : Int)) (e := .ret) (s := ⟨[(2, I ((2 ^ k : Nat) : Int))], [], gh⟩) rfl
  refine callL_fn (fn := f_ref_Two) (s := ⟨[(2, I ((2 ^ k : Nat) : Int))], [], gh⟩) rfl rfl (D_ref_Two_0_ok ?h1) ?r1
  case h1 =>
    have hl' : runL pg f_ref_Two_l1 ⟨[(0, I k), (3, I 1), (4, I 0)], [], gh⟩ = some (.normal, ⟨[(3, I ((2 ^ k : Nat) : Int))], [], gh⟩) := hl
    rw [D_ref_Two_0, hl', kR_some, nx_normal, hk1, kR_some]
  case r1 => simp [finish, results, f_ref_Two, resOfs, resOf, resOk]
theorem Bit_eq {A i : Nat} (hA : A < 65536) (hi : i ≤ 61) (gh : List GObj) : callL pg 97 [I A, I i] gh = some (I ((A / 2 ^ i % 2 : Nat) : Int), gh) := by
  have h0 : (2 : Nat) ^ i ≠ 0 := by have := Nat.one_le_two_pow (n := i); omega
  have h1 : A / 2 ^ i ≤ A := Nat.div_le_self _ _
  have e1 : Int.tmod (IntKind.i64.wrap (Int.tdiv (A : Int) ((2 ^ i : Nat) : Int))) 2 = ((A / 2 ^ i % 2 : Nat) : Int) := by
    have e0 : Int.tdiv (A : Int) ((2 ^ i : Nat) : Int) = ((A / 2 ^ i : Nat) : Int) := (Int.ofNat_tdiv _ _).symm
    rw [e0]
    generalize A / 2 ^ i = q at h1
    rw [wrap_id (by omega) (by omega)]
    exact (Int.ofNat_tmod _ 2).symm
  have h2 : (((2 ^ i : Nat) : Int) ≠ 0) := by omega
  refine callL_fn (fn := f_ref_Bit) (s := ⟨[(4, I ((A / 2 ^ i % 2 : Nat) : Int))], [], gh⟩) rfl rfl (D_ref_Bit_0_ok ?h1) ?r1
  case h1 =>
    rw [D_ref_Bit_0, Two_eq hi gh, callR_t, unI_int, decide_eq_true h2, e1]; rfl
  case r1 => simp [finish, results, f_ref_Bit, resOfs, resOf, resOk]
theorem ryes_eq (b : Bool) (gh : List GObj) : callL pg 68 [B b] gh = some (I (if b then 1 else 0), gh) := by
  cases b
  · refine callL_fn (fn := f_ref_yes) (s := ?s1) rfl rfl (D_ref_yes_0_ok ?h1) ?r1
    case h1 => simp [D_ref_yes_0]; rfl
    case r1 => simp [finish, results, f_ref_yes, resOfs, resOf, resOk]
  · refine callL_fn (fn := f_ref_yes) (s := ?s2) rfl rfl (D_ref_yes_0_ok ?h2) ?r2
    case h2 => simp [D_ref_yes_0]; rfl
    case r2 => simp [finish, results, f_ref_yes, resOfs, resOf, resOk]
theorem w_cases {w : Nat} (hw : 1 ≤ w ∧ w ≤ 8) : w = 1 ∨ w = 2 ∨ w = 3 ∨ w = 4 ∨ w = 5 ∨ w = 6 ∨ w = 7 ∨ w = 8 := by omega
theorem sgn_bit {A w : Nat} (hw : 1 ≤ w ∧ w ≤ 8) (hA : A < 2 ^ w) : A / 2 ^ (w - 1) % 2 = if 2 ^ (w - 1) ≤ A then 1 else 0 := by
  rcases w_cases hw with rfl | rfl | rfl | rfl | rfl | rfl | rfl | rfl <;> simp at hA ⊢ <;> split <;> omega
theorem sgnOf_nat {A w : Nat} (hw : 1 ≤ w ∧ w ≤ 8) (hA : A < 2 ^ w) : sgnOf A w = if 2 ^ (w - 1) ≤ A then (A : Int) - ((2 ^ w : Nat) : Int) else A := by
  have h1 := pow_lt hw.2
  have e0 : ((w : Int) - 1) = ((w - 1 : Nat) : Int) := by omega
  rw [sgnOf, e0, iShl_one (by omega), iShl_one hw.2, ← two_nat, ← two_nat, wrap_id (by omega) (by omega)]
  by_cases h : 2 ^ (w - 1) ≤ A
  · rw [if_pos h, if_pos (by omega)]
  · rw [if_neg h, if_neg (by omega)]
theorem Signed_eq {A w : Nat} (hw : 1 ≤ w ∧ w ≤ 8) (hA : A < 2 ^ w) (gh : List GObj) : callL pg 69 [I A, I w] gh = some (I (sgnOf A w), gh) := by
  have h1 := pow_lt hw.2
  have e0 : IntKind.i64.wrap ((w : Int) - 1) = ((w - 1 : Nat) : Int) := by rw [wrap_id (by omega) (by omega)]; omega
  have hs := sgnOf_nat hw hA
  have hb := sgn_bit hw hA
  have ew : IntKind.i64.wrap ((A : Int) - ((2 ^ w : Nat) : Int)) = (A : Int) - ((2 ^ w : Nat) : Int) := wrap_id (by omega) (by omega)
  by_cases h : 2 ^ (w - 1) ≤ A
  · rw [if_pos h] at hs hb
    refine callL_fn (fn := f_ref_Signed) (s := ⟨[(4, I (sgnOf A w))], [], gh⟩) rfl rfl (D_ref_Signed_0_ok ?h1) ?r1
    case h1 =>
      rw [D_ref_Signed_0, e0, Bit_eq (by omega) (by omega), callR_t, unI_int, hb, show (((1 : Nat) : Int) == 1) = true from rfl, br_true, Two_eq (by omega), callR_t, unI_int, ew, hs]
    case r1 => simp [finish, results, f_ref_Signed, resOfs, resOf, resOk]
  · rw [if_neg h] at hs hb
    refine callL_fn (fn := f_ref_Signed) (s := ⟨[(4, I (sgnOf A w))], [], gh⟩) rfl rfl (D_ref_Signed_0_ok ?h2) ?r2
    case h2 =>
      rw [D_ref_Signed_0, e0, Bit_eq (by omega) (by omega), callR_t, unI_int, hb, hs, show (((0 : Nat) : Int) == 1) = false from rfl, br_false]
    case r2 => simp [finish, results, f_ref_Signed, resOfs, resOf, resOk]
def tbl (t0 t1 t2 t3 : Int) (x y : Nat) : Int := if x = 0 then (if y = 0 then t0 else t1) else (if y = 0 then t2 else t3)
theorem bitwise_b1 {A B i w : Nat} (t0 t1 t2 t3 : Int) (s : Int) (hA : A < 65536) (hB : B < 65536) (hi : i < w) (hw : w ≤ 8) (gh : List GObj) :
    D_ref_bitwise_b1 pg A B w s i t0 t1 t2 t3 gh = some (.normal, ⟨[(0, I A), (1, I B), (2, I w), (7, .ptr false 0 0), (9, I (IntKind.i64.wrap (s + IntKind.i64.wrap (tbl t0 t1 t2 t3 (A / 2 ^ i % 2) (B / 2 ^ i % 2) * ((2 ^ i : Nat) : Int))))), (10, I ((i + 1 : Nat) : Int))], [[I t0, I t1, I t2, I t3]], gh⟩) := by
  have hlt : (i : Int) < (w : Int) := by omega
  have e2 : IntKind.i64.wrap ((i : Int) + 1) = ((i + 1 : Nat) : Int) := by rw [wrap_id (by omega) (by omega)]; omega
  have hx : A / 2 ^ i % 2 = 0 ∨ A / 2 ^ i % 2 = 1 := by omega
  have hy : B / 2 ^ i % 2 = 0 ∨ B / 2 ^ i % 2 = 1 := by omega
  rw [D_ref_bitwise_b1, e2, decide_eq_true hlt, br_true, Bit_eq hA (by omega), callR_t, unI_int, Bit_eq hB (by omega), callR_t, unI_int]
  rcases hx with hx | hx <;> rcases hy with hy | hy <;> rw [hx, hy]
  · rw [show IntKind.i64.wrap (IntKind.i64.wrap (2 * ((0 : Nat) : Int)) + ((0 : Nat) : Int)) = 0 by decide]
    have := Two_eq (show i ≤ 61 by omega) gh
    rw [two_nat] at this
    simp [this, tbl]
  · rw [show IntKind.i64.wrap (IntKind.i64.wrap (2 * ((0 : Nat) : Int)) + ((1 : Nat) : Int)) = 1 by decide]
    have := Two_eq (show i ≤ 61 by omega) gh
    rw [two_nat] at this
    simp [this, tbl]
  · rw [show IntKind.i64.wrap (IntKind.i64.wrap (2 * ((1 : Nat) : Int)) + ((0 : Nat) : Int)) = 2 by decide]
    have := Two_eq (show i ≤ 61 by omega) gh
    rw [two_nat] at this
    simp [this, tbl]
  · rw [show IntKind.i64.wrap (IntKind.i64.wrap (2 * ((1 : Nat) : Int)) + ((1 : Nat) : Int)) = 3 by decide]
    have := Two_eq (show i ≤ 61 by omega) gh
    rw [two_nat] at this
    simp [this, tbl]
theorem bitwise_loop {A B w R : Nat} (t0 t1 t2 t3 : Int) (hA : A < 65536) (hB : B < 65536) (hw : w ≤ 8) (hR : ∀ i, tbl t0 t1 t2 t3 (A / 2 ^ i % 2) (B / 2 ^ i % 2) = ((R / 2 ^ i % 2 : Nat) : Int)) (gh : List GObj) :
    ∀ m i, i + m = w → runL pg f_ref_bitwise_l1 ⟨[(0, I A), (1, I B), (2, I w), (7, .ptr false 0 0), (9, I ((R % 2 ^ i : Nat) : Int)), (10, I i)], [[I t0, I t1, I t2, I t3]], gh⟩ = some (.normal, ⟨[(9, I ((R % 2 ^ w : Nat) : Int))], [], gh⟩)
  | 0, i, h => by
    obtain rfl : i = w := by omega
    refine (lp_exit (s1 := ?s1) (D_ref_bitwise_b1_ok ?h1)).trans ?r1
    case h1 => simp only [D_ref_bitwise_b1, Int.lt_irrefl, decide_false, br_false]; rfl
    case r1 => rfl
  | m + 1, i, h => by
    refine lp_next (D_ref_bitwise_b1_ok (bitwise_b1 t0 t1 t2 t3 _ hA hB (by omega) hw gh)) ?r2
    have e : IntKind.i64.wrap (((R % 2 ^ i : Nat) : Int) + IntKind.i64.wrap (tbl t0 t1 t2 t3 (A / 2 ^ i % 2) (B / 2 ^ i % 2) * ((2 ^ i : Nat) : Int))) = ((R % 2 ^ (i + 1) : Nat) : Int) := by
      have h1 := pow_lt (show i ≤ 8 by omega)
      have h2 : R % 2 ^ i < 2 ^ i := Nat.mod_lt _ (by have := Nat.one_le_two_pow (n := i); omega)
      rw [hR i, ← Int.natCast_mul, Nat.mod_pow_succ, Nat.mul_comm (R / 2 ^ i % 2)]
      have h3 : 2 ^ i * (R / 2 ^ i % 2) ≤ 256 * 1 := Nat.mul_le_mul h1 (by omega)
      generalize R % 2 ^ i = x at h2 ⊢
      generalize 2 ^ i * (R / 2 ^ i % 2) = y at h3 ⊢
      generalize 2 ^ i = q at h1 h2
      rw [wrap_id (n := (y : Int)) (by omega) (by omega), wrap_id (by omega) (by omega)]
      omega
    rw [e]
    exact bitwise_loop t0 t1 t2 t3 hA hB hw hR gh m (i + 1) (by omega)
theorem bitwise_eq {A B w R : Nat} (t0 t1 t2 t3 : Int) (hA : A < 65536) (hB : B < 65536) (hw : w ≤ 8) (hR : ∀ i, tbl t0 t1 t2 t3 (A / 2 ^ i % 2) (B / 2 ^ i % 2) = ((R / 2 ^ i % 2 : Nat) : Int)) (gh : List GObj) :
    callL pg 67 [I A, I B, I w, .agg [I t0, I t1, I t2, I t3]] gh = some (I ((R % 2 ^ w : Nat) : Int), gh) := by
  have hl := bitwise_loop t0 t1 t2 t3 hA hB hw hR gh w 0 (by omega)
  rw [Nat.pow_zero, Nat.mod_one] at hl
  have hk1 := D_ref_bitwise_k1_ok (pg := pg) (gh := gh) (x9 := ((R % 2 ^ w : Nat) : Int)) (e := .ret) (s := ⟨[(8, I ((R % 2 ^ w : Nat) : Int))], [], gh⟩) rfl
  refine callL_fn (fn := f_ref_bitwise) (s := ⟨[(8, I ((R % 2 ^ w : Nat) : Int))], [], gh⟩) rfl rfl (D_ref_bitwise_0_ok ?h1) ?r1
  case h1 =>
    rw [D_ref_bitwise_0]
    erw [hl]
    rw [kR_some, nx_normal, hk1, kR_some]
  case r1 => simp [finish, results, f_ref_bitwise, resOfs, resOf, resOk]
theorem tbl_and (A B i : Nat) : tbl 0 0 0 1 (A / 2 ^ i % 2) (B / 2 ^ i % 2) = (((A &&& B) / 2 ^ i % 2 : Nat) : Int) := by
  rw [← Nat.toNat_testBit, ← Nat.toNat_testBit, ← Nat.toNat_testBit, Nat.testBit_and]
  cases A.testBit i <;> cases B.testBit i <;> rfl
theorem tbl_or (A B i : Nat) : tbl 0 1 1 1 (A / 2 ^ i % 2) (B / 2 ^ i % 2) = (((A ||| B) / 2 ^ i % 2 : Nat) : Int) := by
  rw [← Nat.toNat_testBit, ← Nat.toNat_testBit, ← Nat.toNat_testBit, Nat.testBit_or]
  cases A.testBit i <;> cases B.testBit i <;> rfl
theorem tbl_xor (A B i : Nat) : tbl 0 1 1 0 (A / 2 ^ i % 2) (B / 2 ^ i % 2) = (((A ^^^ B) / 2 ^ i % 2 : Nat) : Int) := by
  rw [← Nat.toNat_testBit, ← Nat.toNat_testBit, ← Nat.toNat_testBit, Nat.testBit_xor]
  cases A.testBit i <;> cases B.testBit i <;> rfl
end Go.Lw
end

/-! What the code of function slices_ContainsFunc_Lint_int comes to, piece by piece. Written by program (dprint.py). -/
section
set_option maxRecDepth 10000
set_option maxHeartbeats 4000000
namespace Go.Lw
open Go
noncomputable section
variable {pg : Prg} {gh : List GObj} {e : IExit} {s : St}
def an_slices_ContainsFunc_Lint_int : Tr := (tO 5 (tO 1 (uO 0) (uB 4)) (tI 7 (uO 6) (uB 8)))
def D_slices_ContainsFunc_Lint_int_0 (pg : Prg) (v0 v1 : PV) (gh : List GObj) : DR := stK 0 v0 (stK 0 v1 (isC (degr v0) (isC (degr v1) (arK (degr (degr v0)) (arK (degr (degr v1)) (
  callR gh true (callL pg 111 [(degr (degr v0)), (degr (degr v1))] gh) fun r1 gh2 => unI .i64 r1 fun n3 => some (.ret, ⟨[(4, (B (decide (0 ≤ n3))))], [], gh2⟩)))))))
theorem D_slices_ContainsFunc_Lint_int_0_ok {v0 v1 : PV} (h : D_slices_ContainsFunc_Lint_int_0 pg v0 v1 gh = some (e, s)) : runL pg f_slices_ContainsFunc_Lint_int_0 ⟨[(0, v0), (1, v1)], [], gh⟩ = some (e, s) :=
  runX_ok an_slices_ContainsFunc_Lint_int (Eq.trans (by kernel_rfl) h)
end
end Go.Lw
end

/-! What the code of function slices_IndexFunc_Lint_int comes to, piece by piece. Written by program (dprint.py). -/
section
set_option maxRecDepth 10000
set_option maxHeartbeats 4000000
namespace Go.Lw
open Go
noncomputable section
variable {pg : Prg} {gh : List GObj} {e : IExit} {s : St}
def an_slices_IndexFunc_Lint_int : Tr := (tI 10 (tO 6 (tI 4 (tO 1 (uO 0) .nil) (uI 5)) (tI 8 (uI 7) (uB 9))) (tI 15 (tO 12 (uO 11) (uI 13)) (tI 17 (uB 16) (uI 18))))
def D_slices_IndexFunc_Lint_int_b1 (pg : Prg) (v0 v1 : PV) (x7 x8 : Int) (gh : List GObj) : DR :=
  br 9 (decide (x8 < x7)) (stK 0 v0 (stK 0 v1 (isC (degr v1) (isC (degr v0) (
  idX 1 none (degr (degr v0)) x8 fun p1 =>
  ldX [] gh false 1 (degr p1) fun v2 => unI .i64 v2 fun n3 =>
  fnX (degr (degr v1)) fun f6 cs7 => allK cs7 (callR gh true (callL pg f6 ([I n3] ++ cs7) gh) fun r4 gh5 => unB r4 fun b8 => stK 0 v0 (stK 0 v1 (
  br 16 b8 (some (.ret, ⟨[(4, I x8)], [], gh5⟩)) (stK 0 v0 (stK 0 v1 (stK 0 v0 (stK 0 v1 (some (.normal, ⟨[(0, v0), (1, v1), (7, I x7), (8, (I (IntKind.i64.wrap (x8 + 1))))], [], gh5⟩)))))))))))))) (some ((.exit 0), ⟨[(0, v0), (1, v1), (7, I x7), (8, I x8), (9, (B (decide (x8 < x7))))], [], gh⟩))
theorem D_slices_IndexFunc_Lint_int_b1_ok {v0 v1 : PV} {x7 x8 : Int} (h : D_slices_IndexFunc_Lint_int_b1 pg v0 v1 x7 x8 gh = some (e, s)) : runL pg f_slices_IndexFunc_Lint_int_b1 ⟨[(0, v0), (1, v1), (7, I x7), (8, I x8)], [], gh⟩ = some (e, s) :=
  runX_ok an_slices_IndexFunc_Lint_int (Eq.trans (by kernel_rfl) h)
def D_slices_IndexFunc_Lint_int_k1 (pg : Prg)  (gh : List GObj) : DR := some (.ret, ⟨[(4, (I (-1)))], [], gh⟩)
theorem D_slices_IndexFunc_Lint_int_k1_ok  (h : D_slices_IndexFunc_Lint_int_k1 pg  gh = some (e, s)) : runL pg f_slices_IndexFunc_Lint_int_k1 ⟨[], [], gh⟩ = some (e, s) :=
  runX_ok an_slices_IndexFunc_Lint_int (Eq.trans (by kernel_rfl) h)
def D_slices_IndexFunc_Lint_int_0 (pg : Prg) (v0 v1 : PV) (gh : List GObj) : DR := stK 0 v0 (stK 0 v1 (isC (degr v0) (lenS (degr (degr v0)) fun n1 => stK 0 v0 (stK 0 v1 (
  kR (runL pg f_slices_IndexFunc_Lint_int_l1 ⟨[(0, v0), (1, v1), (7, (I (n1 : Int))), (8, I 0)], [], gh⟩) (fun e s => nx e s (fun e s => some (e, s)) fun s => kR (runL pg f_slices_IndexFunc_Lint_int_k1 s) (fun e s => some (e, s))))))))
theorem D_slices_IndexFunc_Lint_int_0_ok {v0 v1 : PV} (h : D_slices_IndexFunc_Lint_int_0 pg v0 v1 gh = some (e, s)) : runL pg f_slices_IndexFunc_Lint_int_0 ⟨[(0, v0), (1, v1)], [], gh⟩ = some (e, s) :=
  runX_ok an_slices_IndexFunc_Lint_int (Eq.trans (by kernel_rfl) h)
end
end Go.Lw
end

/-! What the functions of package gates come to. -/
section
namespace Go.Lw
open Go
theorem IndexFunc_loop {xs : List Int} {c : Nat} {caps : List PV} {gh : List GObj} {p : Int → Bool} (hc : ∀ x ∈ xs, callL pg c (I x :: caps) gh = some (B (p x), gh)) (hcap : caps.all argOk = true) (hs : Sz xs.length) :
    ∀ k i, i + k = xs.length → runL pg f_slices_IndexFunc_Lint_int_l1 ⟨[(0, LI xs), (1, .fn c caps), (7, I xs.length), (8, I i)], [], gh⟩ =
      match (xs.drop i).findIdx? p with
      | some j => some (.ret, ⟨[(4, I ((i + j : Nat)))], [], gh⟩)
      | none => some (.normal, ⟨[], [], gh⟩)
  | 0, i, h => by
    rw [List.drop_eq_nil_of_le (by omega)]
    refine (lp_exit (s1 := ?s1) (D_slices_IndexFunc_Lint_int_b1_ok ?h1)).trans ?r1
    case h1 => simp [D_slices_IndexFunc_Lint_int_b1, show i = xs.length by omega]; rfl
    case r1 => simp [keep]
  | k + 1, i, h => by
    have hlt : i < xs.length := by omega
    have hx : xs[i]? = some xs[i] := List.getElem?_eq_getElem hlt
    rw [List.drop_eq_getElem_cons hlt, List.findIdx?_cons]
    cases hp : p xs[i] with
    | true =>
      refine (lp_ret (s1 := ?s2) (D_slices_IndexFunc_Lint_int_b1_ok ?h2)).trans ?r2
      case h2 => simp [D_slices_IndexFunc_Lint_int_b1, hlt, hx, allK_ok hcap, hc xs[i] (List.getElem_mem hlt), hp]; rfl
      case r2 => simp
    | false =>
      refine lp_next (s1 := ?s3) (D_slices_IndexFunc_Lint_int_b1_ok ?h3) ?r3
      case h3 => simp [D_slices_IndexFunc_Lint_int_b1, hlt, hx, allK_ok hcap, hc xs[i] (List.getElem_mem hlt), hp]; rfl
      case r3 =>
        rw [wrap_nat (by omega)]
        refine (IndexFunc_loop hc hcap hs k (i + 1) (by omega)).trans ?_
        cases (xs.drop (i + 1)).findIdx? p <;> simp
        omega
theorem IndexFunc_eq {xs : List Int} {c : Nat} {caps : List PV} {gh : List GObj} {p : Int → Bool} (hc : ∀ x ∈ xs, callL pg c (I x :: caps) gh = some (B (p x), gh)) (hcap : caps.all argOk = true) (hs : Sz xs.length) :
    callL pg 111 [LI xs, .fn c caps] gh = some (I (match xs.findIdx? p with | some j => (j : Int) | none => -1), gh) := by
  have hl := IndexFunc_loop hc hcap hs xs.length 0 (by omega)
  simp only [List.drop_zero, Nat.zero_add, Int.natCast_zero] at hl
  cases hf : xs.findIdx? p with
  | some j =>
    rw [hf] at hl
    refine callL_fn (fn := f_slices_IndexFunc_Lint_int) (s := ?s4) rfl rfl (D_slices_IndexFunc_Lint_int_0_ok ?h4) ?r4
    case h4 => simp [D_slices_IndexFunc_Lint_int_0, hl]; rfl
    case r4 => simp [finish, results, f_slices_IndexFunc_Lint_int, resOfs, resOf, resOk, argOk, PV.one, PV.noG]
  | none =>
    rw [hf] at hl
    refine callL_fn (fn := f_slices_IndexFunc_Lint_int) (s := ?s5) rfl rfl (D_slices_IndexFunc_Lint_int_0_ok ?h5) ?r5
    case h5 => simp [D_slices_IndexFunc_Lint_int_0, hl, D_slices_IndexFunc_Lint_int_k1_ok (s := ⟨[(4, I (-1))], [], gh⟩) (e := .ret) rfl]; rfl
    case r5 => simp [finish, results, f_slices_IndexFunc_Lint_int, resOfs, resOf, resOk, argOk, PV.one, PV.noG]
theorem ContainsFunc_eq {xs : List Int} {c : Nat} {caps : List PV} {gh : List GObj} {p : Int → Bool} (hc : ∀ x ∈ xs, callL pg c (I x :: caps) gh = some (B (p x), gh)) (hcap : caps.all argOk = true) (hs : Sz xs.length) :
    callL pg 86 [LI xs, .fn c caps] gh = some (B (xs.any p), gh) := by
  refine callL_fn (fn := f_slices_ContainsFunc_Lint_int) (s := ?s6) rfl rfl (D_slices_ContainsFunc_Lint_int_0_ok ?h6) ?r6
  case h6 => simp [D_slices_ContainsFunc_Lint_int_0, IndexFunc_eq hc hcap hs]; rfl
  case r6 =>
    have : (decide (0 ≤ (match xs.findIdx? p with | some j => (j : Int) | none => -1))) = xs.any p := by
      cases hf : xs.findIdx? p with
      | some j =>
        have := List.findIdx?_eq_some_iff_getElem.1 hf
        obtain ⟨hj, hpj, _⟩ := this
        simp only [Int.natCast_nonneg, decide_true]
        exact (List.any_eq_true.2 ⟨_, List.getElem_mem hj, hpj⟩).symm
      | none =>
        have := List.findIdx?_eq_none_iff.1 hf
        simp only [show decide ((0 : Int) ≤ -1) = false by decide]
        exact (List.any_eq_false.2 fun x hx => by simp [this x hx]).symm
    simp [finish, results, f_slices_ContainsFunc_Lint_int, resOfs, resOf, resOk, argOk, PV.one, PV.noG, this]
end Go.Lw
end

/-! Graphs: maps whose keys are Ands, and the check of a graph. -/
section
namespace Go.Lw
open Go
theorem andV_def (x : Int × Int) : andV x = .agg [I x.1, I x.2] := rfl
def badA (ins : Int) (i : Nat) (x : Int × Int) : Prop := x.2 ≤ x.1 ∨ x.1 < 2 ∨ 2 * (1 + ins + i) ≤ x.2 ∨ x.1 / 2 = x.2 / 2
instance (ins : Int) (i : Nat) (x : Int × Int) : Decidable (badA ins i x) := inferInstanceAs (Decidable (_ ∨ _))
section
variable {ins : Int} {ands : List (Int × Int)} {gh : List GObj}
def RA (ands : List (Int × Int)) : Prop := ∀ x ∈ ands, (-9223372036854775808 ≤ x.1 ∧ x.1 ≤ 9223372036854775807) ∧ (-9223372036854775808 ≤ x.2 ∧ x.2 ≤ 9223372036854775807)
end
end Go.Lw
end

/-! Clauses: what the program makes and checks. -/
section
namespace Go.Lw
open Go
theorem noGs_ints (l : List Int) : noGs (l.map I) = true := by
  induction l with
  | nil => rfl
  | cons x l ih => simp [ih]
section
variable {gh : List GObj} {x y : GObj}
end
section
variable {ins : Int} {ands : List (Int × Int)} {gh : List GObj}
end
end Go.Lw
end

/-! What the code of function model_Args comes to, piece by piece. Written by program (dprint.py). -/
section
set_option maxRecDepth 10000
set_option maxHeartbeats 4000000
namespace Go.Lw
open Go
noncomputable section
variable {pg : Prg} {gh : List GObj} {e : IExit} {s : St}
def an_model_Args : Tr := (tI 8 (tI 4 (tO 2 (.node 0 (.agg [.int .i64, .int .i64, .int .i64, .int .i64, .int .i64, .int .i64]) .nil .nil) .nil) (uI 6)) (tI 12 (tI 11 (uO 9) .nil) (uO 13)))
def D_model_Args_0 (pg : Prg) (x0_0 x0_1 : Int) (x0_2 x0_3 : Int) (x0_4 x0_5 : Int) (gh : List GObj) : DR :=
  callR gh true (callL pg 63 [I x0_0] gh) fun r1 gh2 => unI .i64 r1 fun n3 =>
  slX 1 (.sl false 1 [I x0_2, I x0_3, I x0_4]) none (some n3) fun v4 => isC v4 (stK 0 v4 (some (.ret, ⟨[(2, v4)], [], gh2⟩)))
theorem D_model_Args_0_ok {x0_0 x0_1 : Int} {x0_2 x0_3 : Int} {x0_4 x0_5 : Int} (h : D_model_Args_0 pg x0_0 x0_1 x0_2 x0_3 x0_4 x0_5 gh = some (e, s)) : runL pg f_model_Args_0 ⟨[(0, .agg [I x0_0, I x0_1, I x0_2, I x0_3, I x0_4, I x0_5])], [], gh⟩ = some (e, s) :=
  runX_ok an_model_Args (Eq.trans (by kernel_rfl) h)
end
end Go.Lw
end

/-! What the code of function model_leaf comes to, piece by piece. Written by program (dprint.py). -/
section
set_option maxRecDepth 10000
set_option maxHeartbeats 4000000
namespace Go.Lw
open Go
noncomputable section
variable {pg : Prg} {gh : List GObj} {e : IExit} {s : St}
def an_model_leaf : Tr := (tB 5 (tI 3 (tB 2 (uI 0) .nil) (uB 4)) (tB 7 (uI 6) (uB 8)))
def D_model_leaf_0 (pg : Prg) (x0 : Int) (gh : List GObj) : DR :=
  br 5 (decide (1 ≤ x0)) (some (.ret, ⟨[(2, (B (decide (x0 ≤ 3))))], [], gh⟩)) (some (.ret, ⟨[(2, B false)], [], gh⟩))
theorem D_model_leaf_0_ok {x0 : Int} (h : D_model_leaf_0 pg x0 gh = some (e, s)) : runL pg f_model_leaf_0 ⟨[(0, I x0)], [], gh⟩ = some (e, s) :=
  runX_ok an_model_leaf (Eq.trans (by kernel_rfl) h)
end
end Go.Lw
end

/-! What the code of function model_Widths comes to, piece by piece. Written by program (dprint.py). -/
section
set_option maxRecDepth 10000
set_option maxHeartbeats 4000000
namespace Go.Lw
open Go
noncomputable section
variable {pg : Prg} {gh : List GObj} {e : IExit} {s : St}
def an_model_Widths : Tr := (tB 12 (.node 8 (.agg [.int .i64, .int .i64, .int .i64, .int .i64, .int .i64, .int .i64]) (tI 6 (.node 1 (.agg [.int .i64, .int .i64, .int .i64, .int .i64, .int .i64, .int .i64]) (uO 0) .nil) (uI 7)) (tI 10 (uO 9) (uI 11))) (tI 18 (tI 16 (tI 15 (uI 13) .nil) (uO 17)) (tI 23 (uI 21) (.node 24 (.agg [.int .i64, .int .i64, .int .i64]) .nil .nil))))
def D_model_Widths_b1 (pg : Prg) (v0 v9 : PV) (x10 x11 : Int) (xc0_0 xc0_1 : Int) (xc0_2 xc0_3 : Int) (xc0_4 xc0_5 : Int) (xc1_0 xc1_1 : Int) (xc1_2 xc2_0 : Int) (xc2_1 xc2_2 : Int) (gh : List GObj) : DR :=
  br 12 (decide (x11 < x10)) (
  idX 1 none (degr v9) x11 fun p1 =>
  ldX [[I xc0_0, I xc0_1, I xc0_2, I xc0_3, I xc0_4, I xc0_5], [I xc1_0, I xc1_1, I xc1_2], [I xc2_0, I xc2_1, I xc2_2]] gh false 1 (degr p1) fun v2 => unI .i64 v2 fun n3 => stK 3 v0 (stK 3 v9 (isC (degr v0) (
  idX 6 none (degr (degr v0)) n3 fun p4 => faX (degr p4) 1 fun p5 =>
  ldX [[I xc0_0, I xc0_1, I xc0_2, I xc0_3, I xc0_4, I xc0_5], [I xc1_0, I xc1_1, I xc1_2], [I xc2_0, I xc2_1, I xc2_2]] gh false 1 (degr p5) fun v6 => unI .i64 v6 fun n7 => gd (decide (0 ≤ x11 ∧ x11 < ((3 : Nat) : Int))) (gb (stOk 1 (0 + Int.toNat x11 * 1) [I n7] [I xc2_0, I xc2_1, I xc2_2]) (stK 3 v0 (stK 3 v9 (stK 3 v0 (stK 3 v9 (stK 3 v0 (stK 3 v9 (some (.normal, ⟨[(0, v0), (4, .ptr false 1 0), (5, .ptr false 2 0), (9, v9), (10, I x10), (11, (I (IntKind.i64.wrap (x11 + 1))))], [[I xc0_0, I xc0_1, I xc0_2, I xc0_3, I xc0_4, I xc0_5], [I xc1_0, I xc1_1, I xc1_2], (spliceAt [I xc2_0, I xc2_1, I xc2_2] (0 + Int.toNat x11 * 1) [I n7])], gh⟩))))))))))))) (some ((.exit 0), ⟨[(0, v0), (4, .ptr false 1 0), (5, .ptr false 2 0), (9, v9), (10, I x10), (11, I x11), (12, (B (decide (x11 < x10))))], [[I xc0_0, I xc0_1, I xc0_2, I xc0_3, I xc0_4, I xc0_5], [I xc1_0, I xc1_1, I xc1_2], [I xc2_0, I xc2_1, I xc2_2]], gh⟩))
theorem D_model_Widths_b1_ok {v0 v9 : PV} {x10 x11 : Int} {xc0_0 xc0_1 : Int} {xc0_2 xc0_3 : Int} {xc0_4 xc0_5 : Int} {xc1_0 xc1_1 : Int} {xc1_2 xc2_0 : Int} {xc2_1 xc2_2 : Int} (h : D_model_Widths_b1 pg v0 v9 x10 x11 xc0_0 xc0_1 xc0_2 xc0_3 xc0_4 xc0_5 xc1_0 xc1_1 xc1_2 xc2_0 xc2_1 xc2_2 gh = some (e, s)) : runL pg f_model_Widths_b1 ⟨[(0, v0), (4, .ptr false 1 0), (5, .ptr false 2 0), (9, v9), (10, I x10), (11, I x11)], [[I xc0_0, I xc0_1, I xc0_2, I xc0_3, I xc0_4, I xc0_5], [I xc1_0, I xc1_1, I xc1_2], [I xc2_0, I xc2_1, I xc2_2]], gh⟩ = some (e, s) :=
  runX_ok an_model_Widths (Eq.trans (by kernel_rfl) h)
def D_model_Widths_k1 (pg : Prg) (xc0_0 xc0_1 : Int) (xc0_2 xc0_3 : Int) (xc0_4 xc0_5 : Int) (xc1_0 xc1_1 : Int) (xc1_2 xc2_0 : Int) (xc2_1 xc2_2 : Int) (gh : List GObj) : DR := some (.ret, ⟨[(4, .ptr false 1 0)], [[I xc0_0, I xc0_1, I xc0_2, I xc0_3, I xc0_4, I xc0_5], [I xc2_0, I xc2_1, I xc2_2]], gh⟩)
theorem D_model_Widths_k1_ok {xc0_0 xc0_1 : Int} {xc0_2 xc0_3 : Int} {xc0_4 xc0_5 : Int} {xc1_0 xc1_1 : Int} {xc1_2 xc2_0 : Int} {xc2_1 xc2_2 : Int} (h : D_model_Widths_k1 pg xc0_0 xc0_1 xc0_2 xc0_3 xc0_4 xc0_5 xc1_0 xc1_1 xc1_2 xc2_0 xc2_1 xc2_2 gh = some (e, s)) : runL pg f_model_Widths_k1 ⟨[(4, .ptr false 1 0), (5, .ptr false 2 0)], [[I xc0_0, I xc0_1, I xc0_2, I xc0_3, I xc0_4, I xc0_5], [I xc1_0, I xc1_1, I xc1_2], [I xc2_0, I xc2_1, I xc2_2]], gh⟩ = some (e, s) :=
  runX_ok an_model_Widths (Eq.trans (by kernel_rfl) h)
def D_model_Widths_0 (pg : Prg) (v0 : PV) (x1_0 x1_1 : Int) (x1_2 x1_3 : Int) (x1_4 x1_5 : Int) (gh : List GObj) : DR := stK 2 v0 (
  callR gh true (callL pg 81 [.agg [I x1_0, I x1_1, I x1_2, I x1_3, I x1_4, I x1_5]] gh) fun r1 gh2 => isC r1 (lenS (degr r1) fun n3 => stK 3 v0 (stK 3 r1 (
  kR (runL pg f_model_Widths_l1 ⟨[(0, v0), (4, .ptr false 1 0), (5, .ptr false 2 0), (9, r1), (10, (I (n3 : Int))), (11, I 0)], [[I x1_0, I x1_1, I x1_2, I x1_3, I x1_4, I x1_5], [I 0, I 0, I 0], [I 0, I 0, I 0]], gh2⟩) (fun e s => nx e s (fun e s => some (e, s)) fun s => kR (runL pg f_model_Widths_k1 s) (fun e s => some (e, s)))))))
theorem D_model_Widths_0_ok {v0 : PV} {x1_0 x1_1 : Int} {x1_2 x1_3 : Int} {x1_4 x1_5 : Int} (h : D_model_Widths_0 pg v0 x1_0 x1_1 x1_2 x1_3 x1_4 x1_5 gh = some (e, s)) : runL pg f_model_Widths_0 ⟨[(0, v0), (1, .agg [I x1_0, I x1_1, I x1_2, I x1_3, I x1_4, I x1_5])], [], gh⟩ = some (e, s) :=
  runX_ok an_model_Widths (Eq.trans (by kernel_rfl) h)
end
end Go.Lw
end

/-! What the code of function model_node comes to, piece by piece. Written by program (dprint.py). -/
section
set_option maxRecDepth 10000
set_option maxHeartbeats 4000000
namespace Go.Lw
open Go
noncomputable section
variable {pg : Prg} {gh : List GObj} {e : IExit} {s : St}
def an_model_node : Tr := (tI 58 (tB 30 (tB 15 (tO 8 (tI 4 (tI 1 (uO 0) .nil) (tI 7 (uI 6) .nil)) (tI 13 (.node 11 (.agg [.int .i64, .int .i64, .int .i64, .int .i64, .int .i64, .int .i64]) (uI 9) .nil) (uB 14))) (tB 23 (tB 19 (tB 18 (uI 17) .nil) (tB 22 (uI 21) .nil)) (tB 27 (tB 26 (uI 25) .nil) (uI 29)))) (tI 45 (tB 38 (tI 35 (tI 33 (uB 31) .nil) (tB 37 (uB 36) .nil)) (tB 42 (tI 41 (uB 39) .nil) (uB 43))) (tB 51 (tI 49 (tB 47 (uB 46) .nil) (uB 50)) (tB 55 (tB 54 (uI 53) .nil) (uB 56))))) (tB 85 (tI 73 (tO 67 (tI 62 (tB 60 (uB 59) .nil) (tI 66 (uI 64) .nil)) (tB 70 (tI 69 (uI 68) .nil) (uI 71))) (tI 80 (tI 77 (tI 76 (uI 74) .nil) (tB 79 (uB 78) .nil)) (tI 83 (tB 82 (uB 81) .nil) (uI 84)))) (tB 97 (tI 92 (tB 88 (tB 87 (uB 86) .nil) (tI 91 (uI 89) .nil)) (tI 95 (tB 94 (uB 93) .nil) (uB 96))) (tI 105 (tI 101 (tI 99 (uB 98) .nil) (uI 103)) (.node 108 (.agg [.int .i64, .int .i64, .int .i64]) (.node 107 (.agg [.int .i64, .int .i64, .int .i64, .int .i64, .int .i64, .int .i64]) (uO 106) .nil) (uI 109))))))
def D_model_node_k1 (pg : Prg) (b39 : Bool) (gh : List GObj) : DR :=
  br 39 b39 (some (.ret, ⟨[(4, I 1)], [], gh⟩)) (some (.normal, ⟨[(39, B b39)], [], gh⟩))
theorem D_model_node_k1_ok {b39 : Bool} (h : D_model_node_k1 pg b39 gh = some (e, s)) : runL pg f_model_node_k1 ⟨[(39, B b39)], [], gh⟩ = some (e, s) :=
  runX_ok an_model_node (Eq.trans (by kernel_rfl) h)
def D_model_node_k2 (pg : Prg) (b39 : Bool) (gh : List GObj) : DR := some (.ret, ⟨[(4, I 0)], [], gh⟩)
theorem D_model_node_k2_ok {b39 : Bool} (h : D_model_node_k2 pg b39 gh = some (e, s)) : runL pg f_model_node_k2 ⟨[(39, B b39)], [], gh⟩ = some (e, s) :=
  runX_ok an_model_node (Eq.trans (by kernel_rfl) h)
def D_model_node_b1 (pg : Prg) (v0 : PV) (x1 : Int) (v67 : PV) (x68 x69 : Int) (xc0_0 xc0_1 : Int) (xc0_2 xc0_3 : Int) (xc0_4 xc0_5 : Int) (gh : List GObj) : DR :=
  br 70 (decide (x69 < x68)) (
  idX 1 none (degr v67) x69 fun p1 =>
  ldX [[I xc0_0, I xc0_1, I xc0_2, I xc0_3, I xc0_4, I xc0_5]] gh false 1 (degr p1) fun v2 => unI .i64 v2 fun n3 => stK 1 v0 (stK 1 v67 (
  callR gh true (callL pg 63 [I xc0_0] gh) fun r4 gh5 => unI .i64 r4 fun n6 =>
  br 79 (decide (x69 < n6)) (
  br 82 (decide (n3 < 0)) (stK 1 v0 (stK 1 v67 (some (.ret, ⟨[(4, I 4)], [], gh5⟩)))) (
  br 88 (decide (x1 ≤ n3)) (stK 1 v0 (stK 1 v67 (some (.ret, ⟨[(4, I 4)], [], gh5⟩)))) (
  callR gh5 true (callL pg 63 [I xc0_0] gh5) fun r7 gh8 => unI .i64 r7 fun n9 =>
  br 94 (decide (n9 ≤ x69)) (stK 1 v0 (stK 1 v67 (
  br 98 (n3 != 0) (some (.ret, ⟨[(4, I 4)], [], gh8⟩)) (stK 1 v0 (stK 1 v67 (stK 1 v0 (stK 1 v67 (some (.normal, ⟨[(0, v0), (1, I x1), (5, .ptr false 0 0), (67, v67), (68, I x68), (69, (I (IntKind.i64.wrap (x69 + 1))))], [[I xc0_0, I xc0_1, I xc0_2, I xc0_3, I xc0_4, I xc0_5]], gh8⟩))))))))) (stK 1 v0 (stK 1 v67 (stK 1 v0 (stK 1 v67 (stK 1 v0 (stK 1 v67 (some (.normal, ⟨[(0, v0), (1, I x1), (5, .ptr false 0 0), (67, v67), (68, I x68), (69, (I (IntKind.i64.wrap (x69 + 1))))], [[I xc0_0, I xc0_1, I xc0_2, I xc0_3, I xc0_4, I xc0_5]], gh8⟩))))))))))) (
  callR gh5 true (callL pg 63 [I xc0_0] gh5) fun r10 gh11 => unI .i64 r10 fun n12 =>
  br 94 (decide (n12 ≤ x69)) (stK 1 v0 (stK 1 v67 (
  br 98 (n3 != 0) (some (.ret, ⟨[(4, I 4)], [], gh11⟩)) (stK 1 v0 (stK 1 v67 (stK 1 v0 (stK 1 v67 (some (.normal, ⟨[(0, v0), (1, I x1), (5, .ptr false 0 0), (67, v67), (68, I x68), (69, (I (IntKind.i64.wrap (x69 + 1))))], [[I xc0_0, I xc0_1, I xc0_2, I xc0_3, I xc0_4, I xc0_5]], gh11⟩))))))))) (stK 1 v0 (stK 1 v67 (stK 1 v0 (stK 1 v67 (stK 1 v0 (stK 1 v67 (some (.normal, ⟨[(0, v0), (1, I x1), (5, .ptr false 0 0), (67, v67), (68, I x68), (69, (I (IntKind.i64.wrap (x69 + 1))))], [[I xc0_0, I xc0_1, I xc0_2, I xc0_3, I xc0_4, I xc0_5]], gh11⟩)))))))))))) (some ((.exit 1), ⟨[(0, v0), (1, I x1), (5, .ptr false 0 0), (67, v67), (68, I x68), (69, I x69), (70, (B (decide (x69 < x68))))], [[I xc0_0, I xc0_1, I xc0_2, I xc0_3, I xc0_4, I xc0_5]], gh⟩))
theorem D_model_node_b1_ok {v0 : PV} {x1 : Int} {v67 : PV} {x68 x69 : Int} {xc0_0 xc0_1 : Int} {xc0_2 xc0_3 : Int} {xc0_4 xc0_5 : Int} (h : D_model_node_b1 pg v0 x1 v67 x68 x69 xc0_0 xc0_1 xc0_2 xc0_3 xc0_4 xc0_5 gh = some (e, s)) : runL pg f_model_node_b1 ⟨[(0, v0), (1, I x1), (5, .ptr false 0 0), (67, v67), (68, I x68), (69, I x69)], [[I xc0_0, I xc0_1, I xc0_2, I xc0_3, I xc0_4, I xc0_5]], gh⟩ = some (e, s) :=
  runX_ok an_model_node (Eq.trans (by kernel_rfl) h)
def D_model_node_k4 (pg : Prg) (v0 : PV) (xc0_0 xc0_1 : Int) (xc0_2 xc0_3 : Int) (xc0_4 xc0_5 : Int) (gh : List GObj) : DR := isC (degr v0) (arK (degr (degr v0)) (
  callR gh true (callL pg 104 [(degr (degr v0)), .agg [I xc0_0, I xc0_1, I xc0_2, I xc0_3, I xc0_4, I xc0_5]] gh) fun r1 gh2 => unA 3 r1 fun c3 c4 c5 => unI .i64 c3 fun n6 => unI .i64 c4 fun n7 => unI .i64 c5 fun n8 =>
  callR gh2 true (callL pg 22 [I xc0_0, I xc0_1, I xc0_5, .agg [I n6, I n7, I n8]] gh2) fun r9 gh10 => unI .i64 r9 fun n11 => some (.ret, ⟨[(4, I n11)], [], gh10⟩)))
theorem D_model_node_k4_ok {v0 : PV} {xc0_0 xc0_1 : Int} {xc0_2 xc0_3 : Int} {xc0_4 xc0_5 : Int} (h : D_model_node_k4 pg v0 xc0_0 xc0_1 xc0_2 xc0_3 xc0_4 xc0_5 gh = some (e, s)) : runL pg f_model_node_k4 ⟨[(0, v0), (5, .ptr false 0 0)], [[I xc0_0, I xc0_1, I xc0_2, I xc0_3, I xc0_4, I xc0_5]], gh⟩ = some (e, s) :=
  runX_ok an_model_node (Eq.trans (by kernel_rfl) h)
def D_model_node_k3 (pg : Prg) (v0 : PV) (x1 : Int) (b26 : Bool) (xc0_0 xc0_1 : Int) (xc0_2 xc0_3 : Int) (xc0_4 xc0_5 : Int) (gh : List GObj) : DR := lenS (.sl false 1 [I xc0_2, I xc0_3, I xc0_4]) fun n1 => stK 1 v0 (
  kR (runL pg f_model_node_l1 ⟨[(0, v0), (1, I x1), (5, .ptr false 0 0), (67, .sl true 1 [I xc0_2, I xc0_3, I xc0_4]), (68, (I (n1 : Int))), (69, I 0)], [[I xc0_0, I xc0_1, I xc0_2, I xc0_3, I xc0_4, I xc0_5]], gh⟩) (fun e s => nx e s (fun e s => some (e, s)) fun s => kR (runL pg f_model_node_k4 s) (fun e s => some (e, s))))
theorem D_model_node_k3_ok {v0 : PV} {x1 : Int} {b26 : Bool} {xc0_0 xc0_1 : Int} {xc0_2 xc0_3 : Int} {xc0_4 xc0_5 : Int} (h : D_model_node_k3 pg v0 x1 b26 xc0_0 xc0_1 xc0_2 xc0_3 xc0_4 xc0_5 gh = some (e, s)) : runL pg f_model_node_k3 ⟨[(0, v0), (1, I x1), (5, .ptr false 0 0), (26, B b26)], [[I xc0_0, I xc0_1, I xc0_2, I xc0_3, I xc0_4, I xc0_5]], gh⟩ = some (e, s) :=
  runX_ok an_model_node (Eq.trans (by kernel_rfl) h)
def D_model_node_0 (pg : Prg) (v0 : PV) (x1 : Int) (gh : List GObj) : DR := stK 0 v0 (isC (degr v0) (
  idX 6 none (degr (degr v0)) x1 fun p1 =>
  ldX [] gh true 6 (degr p1) fun v2 => unA 6 v2 fun c3 c4 c5 c6 c7 c8 => unI .i64 c3 fun n9 => unI .i64 c4 fun n10 => unI .i64 c5 fun n11 => unI .i64 c6 fun n12 => unI .i64 c7 fun n13 => unI .i64 c8 fun n14 => stK 1 v0 (
  br 15 (decide (n9 < 1)) (stK 1 v0 (some (.ret, ⟨[(4, I 7)], [], gh⟩))) (stK 1 v0 (
  br 19 (decide (24 ≤ n9)) (some (.ret, ⟨[(4, I 7)], [], gh⟩)) (
  callR gh true (callL pg 62 [I n10] gh) fun r15 gh16 => unB r15 fun b17 => stK 1 v0 (
  br 23 (!b17) (some (.ret, ⟨[(4, I 3)], [], gh16⟩)) (
  callR gh16 true (callL pg 103 [I n9] gh16) fun r18 gh19 => unB r18 fun b20 => stK 1 v0 (
  br 26 b20 (
  br 31 (n9 == 1) (
  callR gh19 true (callL pg 65 [I n14, I n10] gh19) fun r21 gh22 => unB r21 fun b23 =>
  br 27 (!b23) (some (.ret, ⟨[(4, I 3)], [], gh22⟩)) (
  br 43 (n9 != 1) (
  br 39 (n14 != 0) (
  kR (runL pg f_model_node_k1 ⟨[(39, (B (n14 != 0)))], [], gh22⟩) (fun e s => bk 0 e s (fun e s => nx e s (fun e s => nx e s (fun e s => some (e, s)) fun s => kR (runL pg f_model_node_k3 s) (fun e s => some (e, s))) fun s => kR (runL pg f_model_node_k2 s) (fun e s => nx e s (fun e s => some (e, s)) fun s => kR (runL pg f_model_node_k3 s) (fun e s => some (e, s)))))) (
  br 51 (n11 != 0) (
  kR (runL pg f_model_node_k1 ⟨[(39, B true)], [], gh22⟩) (fun e s => bk 0 e s (fun e s => nx e s (fun e s => nx e s (fun e s => some (e, s)) fun s => kR (runL pg f_model_node_k3 s) (fun e s => some (e, s))) fun s => kR (runL pg f_model_node_k2 s) (fun e s => nx e s (fun e s => some (e, s)) fun s => kR (runL pg f_model_node_k3 s) (fun e s => some (e, s)))))) (
  br 56 (n12 != 0) (
  kR (runL pg f_model_node_k1 ⟨[(39, B true)], [], gh22⟩) (fun e s => bk 0 e s (fun e s => nx e s (fun e s => nx e s (fun e s => some (e, s)) fun s => kR (runL pg f_model_node_k3 s) (fun e s => some (e, s))) fun s => kR (runL pg f_model_node_k2 s) (fun e s => nx e s (fun e s => some (e, s)) fun s => kR (runL pg f_model_node_k3 s) (fun e s => some (e, s)))))) (
  kR (runL pg f_model_node_k1 ⟨[(39, (B (n13 != 0)))], [], gh22⟩) (fun e s => bk 0 e s (fun e s => nx e s (fun e s => nx e s (fun e s => some (e, s)) fun s => kR (runL pg f_model_node_k3 s) (fun e s => some (e, s))) fun s => kR (runL pg f_model_node_k2 s) (fun e s => nx e s (fun e s => some (e, s)) fun s => kR (runL pg f_model_node_k3 s) (fun e s => some (e, s))))))))) (
  br 51 (n11 != 0) (
  kR (runL pg f_model_node_k1 ⟨[(39, B true)], [], gh22⟩) (fun e s => bk 0 e s (fun e s => nx e s (fun e s => nx e s (fun e s => some (e, s)) fun s => kR (runL pg f_model_node_k3 s) (fun e s => some (e, s))) fun s => kR (runL pg f_model_node_k2 s) (fun e s => nx e s (fun e s => some (e, s)) fun s => kR (runL pg f_model_node_k3 s) (fun e s => some (e, s)))))) (
  br 56 (n12 != 0) (
  kR (runL pg f_model_node_k1 ⟨[(39, B true)], [], gh22⟩) (fun e s => bk 0 e s (fun e s => nx e s (fun e s => nx e s (fun e s => some (e, s)) fun s => kR (runL pg f_model_node_k3 s) (fun e s => some (e, s))) fun s => kR (runL pg f_model_node_k2 s) (fun e s => nx e s (fun e s => some (e, s)) fun s => kR (runL pg f_model_node_k3 s) (fun e s => some (e, s)))))) (
  kR (runL pg f_model_node_k1 ⟨[(39, (B (n13 != 0)))], [], gh22⟩) (fun e s => bk 0 e s (fun e s => nx e s (fun e s => nx e s (fun e s => some (e, s)) fun s => kR (runL pg f_model_node_k3 s) (fun e s => some (e, s))) fun s => kR (runL pg f_model_node_k2 s) (fun e s => nx e s (fun e s => some (e, s)) fun s => kR (runL pg f_model_node_k3 s) (fun e s => some (e, s)))))))))) (
  br 43 (n9 != 1) (
  br 39 (n14 != 0) (
  kR (runL pg f_model_node_k1 ⟨[(39, (B (n14 != 0)))], [], gh19⟩) (fun e s => bk 0 e s (fun e s => nx e s (fun e s => nx e s (fun e s => some (e, s)) fun s => kR (runL pg f_model_node_k3 s) (fun e s => some (e, s))) fun s => kR (runL pg f_model_node_k2 s) (fun e s => nx e s (fun e s => some (e, s)) fun s => kR (runL pg f_model_node_k3 s) (fun e s => some (e, s)))))) (
  br 51 (n11 != 0) (
  kR (runL pg f_model_node_k1 ⟨[(39, B true)], [], gh19⟩) (fun e s => bk 0 e s (fun e s => nx e s (fun e s => nx e s (fun e s => some (e, s)) fun s => kR (runL pg f_model_node_k3 s) (fun e s => some (e, s))) fun s => kR (runL pg f_model_node_k2 s) (fun e s => nx e s (fun e s => some (e, s)) fun s => kR (runL pg f_model_node_k3 s) (fun e s => some (e, s)))))) (
  br 56 (n12 != 0) (
  kR (runL pg f_model_node_k1 ⟨[(39, B true)], [], gh19⟩) (fun e s => bk 0 e s (fun e s => nx e s (fun e s => nx e s (fun e s => some (e, s)) fun s => kR (runL pg f_model_node_k3 s) (fun e s => some (e, s))) fun s => kR (runL pg f_model_node_k2 s) (fun e s => nx e s (fun e s => some (e, s)) fun s => kR (runL pg f_model_node_k3 s) (fun e s => some (e, s)))))) (
  kR (runL pg f_model_node_k1 ⟨[(39, (B (n13 != 0)))], [], gh19⟩) (fun e s => bk 0 e s (fun e s => nx e s (fun e s => nx e s (fun e s => some (e, s)) fun s => kR (runL pg f_model_node_k3 s) (fun e s => some (e, s))) fun s => kR (runL pg f_model_node_k2 s) (fun e s => nx e s (fun e s => some (e, s)) fun s => kR (runL pg f_model_node_k3 s) (fun e s => some (e, s))))))))) (
  br 51 (n11 != 0) (
  kR (runL pg f_model_node_k1 ⟨[(39, B true)], [], gh19⟩) (fun e s => bk 0 e s (fun e s => nx e s (fun e s => nx e s (fun e s => some (e, s)) fun s => kR (runL pg f_model_node_k3 s) (fun e s => some (e, s))) fun s => kR (runL pg f_model_node_k2 s) (fun e s => nx e s (fun e s => some (e, s)) fun s => kR (runL pg f_model_node_k3 s) (fun e s => some (e, s)))))) (
  br 56 (n12 != 0) (
  kR (runL pg f_model_node_k1 ⟨[(39, B true)], [], gh19⟩) (fun e s => bk 0 e s (fun e s => nx e s (fun e s => nx e s (fun e s => some (e, s)) fun s => kR (runL pg f_model_node_k3 s) (fun e s => some (e, s))) fun s => kR (runL pg f_model_node_k2 s) (fun e s => nx e s (fun e s => some (e, s)) fun s => kR (runL pg f_model_node_k3 s) (fun e s => some (e, s)))))) (
  kR (runL pg f_model_node_k1 ⟨[(39, (B (n13 != 0)))], [], gh19⟩) (fun e s => bk 0 e s (fun e s => nx e s (fun e s => nx e s (fun e s => some (e, s)) fun s => kR (runL pg f_model_node_k3 s) (fun e s => some (e, s))) fun s => kR (runL pg f_model_node_k2 s) (fun e s => nx e s (fun e s => some (e, s)) fun s => kR (runL pg f_model_node_k3 s) (fun e s => some (e, s)))))))))) (
  kR (runL pg f_model_node_k3 ⟨[(0, v0), (1, I x1), (5, .ptr false 0 0), (26, B b20)], [[I n9, I n10, I n11, I n12, I n13, I n14]], gh19⟩) (fun e s => some (e, s))))))))))))
theorem D_model_node_0_ok {v0 : PV} {x1 : Int} (h : D_model_node_0 pg v0 x1 gh = some (e, s)) : runL pg f_model_node_0 ⟨[(0, v0), (1, I x1)], [], gh⟩ = some (e, s) :=
  runX_ok an_model_node (Eq.trans (by kernel_rfl) h)
end
end Go.Lw
end

/-! What the code of function ref_WidthsOf comes to, piece by piece. Written by program (dprint.py). -/
section
set_option maxRecDepth 10000
set_option maxHeartbeats 4000000
namespace Go.Lw
open Go
noncomputable section
variable {pg : Prg} {gh : List GObj} {e : IExit} {s : St}
def an_ref_WidthsOf : Tr := (tI 19 (tI 10 (tI 6 (.node 1 (.agg [.int .i64, .int .i64, .int .i64, .int .i64, .int .i64, .int .i64]) (uO 0) .nil) (tI 9 (uI 8) .nil)) (tI 14 (tO 12 (uB 11) .nil) (uI 17))) (tB 29 (tI 23 (tO 21 (uB 20) .nil) (tI 28 (uI 26) .nil)) (tI 35 (tI 32 (uO 30) .nil) (.node 37 (.agg [.int .i64, .int .i64, .int .i64]) .nil .nil))))
def D_ref_WidthsOf_k3 (pg : Prg) (xc0_0 xc0_1 : Int) (xc0_2 xc0_3 : Int) (xc0_4 xc0_5 : Int) (xc1_0 xc1_1 : Int) (xc1_2 xc2_0 : Int) (xc2_1 xc2_2 : Int) (gh : List GObj) : DR := some (.ret, ⟨[(4, .ptr false 1 0)], [[I xc0_0, I xc0_1, I xc0_2, I xc0_3, I xc0_4, I xc0_5], [I xc2_0, I xc2_1, I xc2_2]], gh⟩)
theorem D_ref_WidthsOf_k3_ok {xc0_0 xc0_1 : Int} {xc0_2 xc0_3 : Int} {xc0_4 xc0_5 : Int} {xc1_0 xc1_1 : Int} {xc1_2 xc2_0 : Int} {xc2_1 xc2_2 : Int} (h : D_ref_WidthsOf_k3 pg xc0_0 xc0_1 xc0_2 xc0_3 xc0_4 xc0_5 xc1_0 xc1_1 xc1_2 xc2_0 xc2_1 xc2_2 gh = some (e, s)) : runL pg f_ref_WidthsOf_k3 ⟨[(4, .ptr false 1 0), (5, .ptr false 2 0)], [[I xc0_0, I xc0_1, I xc0_2, I xc0_3, I xc0_4, I xc0_5], [I xc1_0, I xc1_1, I xc1_2], [I xc2_0, I xc2_1, I xc2_2]], gh⟩ = some (e, s) :=
  runX_ok an_ref_WidthsOf (Eq.trans (by kernel_rfl) h)
def D_ref_WidthsOf_k2 (pg : Prg) (v0 : PV) (x6 xc0_0 : Int) (xc0_1 xc0_2 : Int) (xc0_3 xc0_4 : Int) (xc0_5 xc1_0 : Int) (xc1_1 xc1_2 : Int) (xc2_0 xc2_1 xc2_2 : Int) (gh : List GObj) : DR := stK 3 v0 (
  br 29 (decide (2 < x6)) (isC (degr v0) (
  idX 6 none (degr (degr v0)) xc0_4 fun p1 => faX (degr p1) 1 fun p2 =>
  ldX [[I xc0_0, I xc0_1, I xc0_2, I xc0_3, I xc0_4, I xc0_5], [I xc1_0, I xc1_1, I xc1_2], [I xc2_0, I xc2_1, I xc2_2]] gh false 1 (degr p2) fun v3 => unI .i64 v3 fun n4 =>
  kR (runL pg f_ref_WidthsOf_k3 ⟨[(4, .ptr false 1 0), (5, .ptr false 2 0)], [[I xc0_0, I xc0_1, I xc0_2, I xc0_3, I xc0_4, I xc0_5], [I xc1_0, I xc1_1, I xc1_2], [I xc2_0, I xc2_1, I n4]], gh⟩) (fun e s => some (e, s)))) (
  kR (runL pg f_ref_WidthsOf_k3 ⟨[(4, .ptr false 1 0), (5, .ptr false 2 0)], [[I xc0_0, I xc0_1, I xc0_2, I xc0_3, I xc0_4, I xc0_5], [I xc1_0, I xc1_1, I xc1_2], [I xc2_0, I xc2_1, I xc2_2]], gh⟩) (fun e s => some (e, s))))
theorem D_ref_WidthsOf_k2_ok {v0 : PV} {x6 xc0_0 : Int} {xc0_1 xc0_2 : Int} {xc0_3 xc0_4 : Int} {xc0_5 xc1_0 : Int} {xc1_1 xc1_2 : Int} {xc2_0 xc2_1 xc2_2 : Int} (h : D_ref_WidthsOf_k2 pg v0 x6 xc0_0 xc0_1 xc0_2 xc0_3 xc0_4 xc0_5 xc1_0 xc1_1 xc1_2 xc2_0 xc2_1 xc2_2 gh = some (e, s)) : runL pg f_ref_WidthsOf_k2 ⟨[(0, v0), (3, .ptr false 0 0), (4, .ptr false 1 0), (5, .ptr false 2 0), (6, I x6)], [[I xc0_0, I xc0_1, I xc0_2, I xc0_3, I xc0_4, I xc0_5], [I xc1_0, I xc1_1, I xc1_2], [I xc2_0, I xc2_1, I xc2_2]], gh⟩ = some (e, s) :=
  runX_ok an_ref_WidthsOf (Eq.trans (by kernel_rfl) h)
def D_ref_WidthsOf_k1 (pg : Prg) (v0 : PV) (x6 xc0_0 : Int) (xc0_1 xc0_2 : Int) (xc0_3 xc0_4 : Int) (xc0_5 xc1_0 : Int) (xc1_1 xc1_2 : Int) (xc2_0 xc2_1 xc2_2 : Int) (gh : List GObj) : DR := stK 3 v0 (
  br 20 (decide (1 < x6)) (isC (degr v0) (
  idX 6 none (degr (degr v0)) xc0_3 fun p1 => faX (degr p1) 1 fun p2 =>
  ldX [[I xc0_0, I xc0_1, I xc0_2, I xc0_3, I xc0_4, I xc0_5], [I xc1_0, I xc1_1, I xc1_2], [I xc2_0, I xc2_1, I xc2_2]] gh false 1 (degr p2) fun v3 => unI .i64 v3 fun n4 => stK 3 v0 (stK 3 v0 (
  kR (runL pg f_ref_WidthsOf_k2 ⟨[(0, v0), (3, .ptr false 0 0), (4, .ptr false 1 0), (5, .ptr false 2 0), (6, I x6)], [[I xc0_0, I xc0_1, I xc0_2, I xc0_3, I xc0_4, I xc0_5], [I xc1_0, I xc1_1, I xc1_2], [I xc2_0, I n4, I xc2_2]], gh⟩) (fun e s => some (e, s)))))) (stK 3 v0 (
  kR (runL pg f_ref_WidthsOf_k2 ⟨[(0, v0), (3, .ptr false 0 0), (4, .ptr false 1 0), (5, .ptr false 2 0), (6, I x6)], [[I xc0_0, I xc0_1, I xc0_2, I xc0_3, I xc0_4, I xc0_5], [I xc1_0, I xc1_1, I xc1_2], [I xc2_0, I xc2_1, I xc2_2]], gh⟩) (fun e s => some (e, s)))))
theorem D_ref_WidthsOf_k1_ok {v0 : PV} {x6 xc0_0 : Int} {xc0_1 xc0_2 : Int} {xc0_3 xc0_4 : Int} {xc0_5 xc1_0 : Int} {xc1_1 xc1_2 : Int} {xc2_0 xc2_1 xc2_2 : Int} (h : D_ref_WidthsOf_k1 pg v0 x6 xc0_0 xc0_1 xc0_2 xc0_3 xc0_4 xc0_5 xc1_0 xc1_1 xc1_2 xc2_0 xc2_1 xc2_2 gh = some (e, s)) : runL pg f_ref_WidthsOf_k1 ⟨[(0, v0), (3, .ptr false 0 0), (4, .ptr false 1 0), (5, .ptr false 2 0), (6, I x6)], [[I xc0_0, I xc0_1, I xc0_2, I xc0_3, I xc0_4, I xc0_5], [I xc1_0, I xc1_1, I xc1_2], [I xc2_0, I xc2_1, I xc2_2]], gh⟩ = some (e, s) :=
  runX_ok an_ref_WidthsOf (Eq.trans (by kernel_rfl) h)
def D_ref_WidthsOf_0 (pg : Prg) (v0 : PV) (x1_0 x1_1 : Int) (x1_2 x1_3 : Int) (x1_4 x1_5 : Int) (gh : List GObj) : DR := stK 2 v0 (
  callR gh true (callL pg 26 [I x1_0] gh) fun r1 gh2 => unI .i64 r1 fun n3 => stK 3 v0 (stK 3 v0 (
  br 11 (decide (0 < n3)) (isC (degr v0) (
  idX 6 none (degr (degr v0)) x1_2 fun p4 => faX (degr p4) 1 fun p5 =>
  ldX [[I x1_0, I x1_1, I x1_2, I x1_3, I x1_4, I x1_5], [I 0, I 0, I 0], [I 0, I 0, I 0]] gh2 false 1 (degr p5) fun v6 => unI .i64 v6 fun n7 => stK 3 v0 (stK 3 v0 (
  kR (runL pg f_ref_WidthsOf_k1 ⟨[(0, v0), (3, .ptr false 0 0), (4, .ptr false 1 0), (5, .ptr false 2 0), (6, I n3)], [[I x1_0, I x1_1, I x1_2, I x1_3, I x1_4, I x1_5], [I 0, I 0, I 0], [I n7, I 0, I 0]], gh2⟩) (fun e s => some (e, s)))))) (stK 3 v0 (
  kR (runL pg f_ref_WidthsOf_k1 ⟨[(0, v0), (3, .ptr false 0 0), (4, .ptr false 1 0), (5, .ptr false 2 0), (6, I n3)], [[I x1_0, I x1_1, I x1_2, I x1_3, I x1_4, I x1_5], [I 0, I 0, I 0], [I 0, I 0, I 0]], gh2⟩) (fun e s => some (e, s)))))))
theorem D_ref_WidthsOf_0_ok {v0 : PV} {x1_0 x1_1 : Int} {x1_2 x1_3 : Int} {x1_4 x1_5 : Int} (h : D_ref_WidthsOf_0 pg v0 x1_0 x1_1 x1_2 x1_3 x1_4 x1_5 gh = some (e, s)) : runL pg f_ref_WidthsOf_0 ⟨[(0, v0), (1, .agg [I x1_0, I x1_1, I x1_2, I x1_3, I x1_4, I x1_5])], [], gh⟩ = some (e, s) :=
  runX_ok an_ref_WidthsOf (Eq.trans (by kernel_rfl) h)
end
end Go.Lw
end

/-! What the code of function ref_CheckNode comes to, piece by piece. Written by program (dprint.py). -/
section
set_option maxRecDepth 10000
set_option maxHeartbeats 4000000
namespace Go.Lw
open Go
noncomputable section
variable {pg : Prg} {gh : List GObj} {e : IExit} {s : St}
def an_ref_CheckNode : Tr := (tI 61 (tI 32 (tB 16 (tO 8 (tI 4 (tI 1 (uO 0) .nil) (tI 7 (uO 6) .nil)) (tB 12 (.node 11 (.agg [.int .i64, .int .i64, .int .i64, .int .i64, .int .i64, .int .i64]) (uI 9) .nil) (tB 15 (uI 14) .nil))) (tI 24 (tB 20 (tI 19 (uB 17) .nil) (tB 22 (uB 21) .nil)) (tI 28 (tB 26 (uB 25) .nil) (tI 31 (uI 30) .nil)))) (tB 47 (tB 39 (tB 35 (tB 34 (uB 33) .nil) (tI 38 (uB 36) .nil)) (tB 43 (tI 42 (uB 40) .nil) (tI 46 (uB 44) .nil))) (tB 54 (tI 51 (tB 49 (uB 48) .nil) (tB 53 (uB 52) .nil)) (tB 58 (tB 57 (uI 56) .nil) (uB 59))))) (tI 91 (tB 77 (tB 68 (tB 64 (tB 63 (uB 62) .nil) (tI 67 (uB 65) .nil)) (tI 74 (tI 72 (uI 70) .nil) (tI 76 (uO 75) .nil))) (tB 84 (tI 80 (tI 79 (uI 78) .nil) (tI 83 (uI 82) .nil)) (tI 87 (tO 86 (uB 85) .nil) (tI 90 (uI 89) .nil)))) (tI 105 (tI 98 (tB 94 (tB 93 (uB 92) .nil) (tI 96 (uB 95) .nil)) (tB 101 (tB 100 (uI 99) .nil) (tI 103 (uO 102) .nil))) (tI 114 (tB 108 (tB 107 (uB 106) .nil) (tI 112 (uI 110) .nil)) (.node 117 (.agg [.int .i64, .int .i64, .int .i64]) (.node 116 (.agg [.int .i64, .int .i64, .int .i64, .int .i64, .int .i64, .int .i64]) (uO 115) .nil) (uI 118))))))
def D_ref_CheckNode_b1 (pg : Prg) (v0 : PV) (x1 : Int) (v6 : PV) (x7 xc0_0 : Int) (xc0_1 xc0_2 : Int) (xc0_3 xc0_4 xc0_5 : Int) (gh : List GObj) : DR := stK 1 v0 (stK 1 v6 (
  br 77 (decide (x7 < 3)) (
  callR gh true (callL pg 26 [I xc0_0] gh) fun r1 gh2 => unI .i64 r1 fun n3 =>
  br 85 (decide (x7 < n3)) (isC (degr v6) (
  idX 1 none (degr (degr v6)) x7 fun p4 =>
  ldX [[I xc0_0, I xc0_1, I xc0_2, I xc0_3, I xc0_4, I xc0_5]] gh2 false 1 (degr p4) fun v5 => unI .i64 v5 fun n6 =>
  callR gh2 true (callL pg 50 [I n6, I 0, (I (IntKind.i64.wrap (x1 - 1)))] gh2) fun r7 gh8 => unB r7 fun b9 =>
  br 95 (!b9) (stK 1 v0 (stK 1 v6 (some (.ret, ⟨[(4, I 4)], [], gh8⟩)))) (
  callR gh8 true (callL pg 26 [I xc0_0] gh8) fun r10 gh11 => unI .i64 r10 fun n12 =>
  br 101 (decide (n12 ≤ x7)) (isC (degr v6) (
  idX 1 none (degr (degr v6)) x7 fun p13 =>
  ldX [[I xc0_0, I xc0_1, I xc0_2, I xc0_3, I xc0_4, I xc0_5]] gh11 false 1 (degr p13) fun v14 => unI .i64 v14 fun n15 => stK 1 v0 (stK 1 v6 (
  br 108 (n15 != 0) (some (.ret, ⟨[(4, I 4)], [], gh11⟩)) (stK 1 v0 (stK 1 v6 (stK 1 v0 (stK 1 v6 (some (.normal, ⟨[(0, v0), (1, I x1), (5, .ptr false 0 0), (6, v6), (7, (I (IntKind.i64.wrap (x7 + 1))))], [[I xc0_0, I xc0_1, I xc0_2, I xc0_3, I xc0_4, I xc0_5]], gh11⟩)))))))))) (stK 1 v0 (stK 1 v6 (stK 1 v0 (stK 1 v6 (stK 1 v0 (stK 1 v6 (some (.normal, ⟨[(0, v0), (1, I x1), (5, .ptr false 0 0), (6, v6), (7, (I (IntKind.i64.wrap (x7 + 1))))], [[I xc0_0, I xc0_1, I xc0_2, I xc0_3, I xc0_4, I xc0_5]], gh11⟩))))))))))) (
  callR gh2 true (callL pg 26 [I xc0_0] gh2) fun r16 gh17 => unI .i64 r16 fun n18 =>
  br 101 (decide (n18 ≤ x7)) (isC (degr v6) (
  idX 1 none (degr (degr v6)) x7 fun p19 =>
  ldX [[I xc0_0, I xc0_1, I xc0_2, I xc0_3, I xc0_4, I xc0_5]] gh17 false 1 (degr p19) fun v20 => unI .i64 v20 fun n21 => stK 1 v0 (stK 1 v6 (
  br 108 (n21 != 0) (some (.ret, ⟨[(4, I 4)], [], gh17⟩)) (stK 1 v0 (stK 1 v6 (stK 1 v0 (stK 1 v6 (some (.normal, ⟨[(0, v0), (1, I x1), (5, .ptr false 0 0), (6, v6), (7, (I (IntKind.i64.wrap (x7 + 1))))], [[I xc0_0, I xc0_1, I xc0_2, I xc0_3, I xc0_4, I xc0_5]], gh17⟩)))))))))) (stK 1 v0 (stK 1 v6 (stK 1 v0 (stK 1 v6 (stK 1 v0 (stK 1 v6 (some (.normal, ⟨[(0, v0), (1, I x1), (5, .ptr false 0 0), (6, v6), (7, (I (IntKind.i64.wrap (x7 + 1))))], [[I xc0_0, I xc0_1, I xc0_2, I xc0_3, I xc0_4, I xc0_5]], gh17⟩)))))))))) (some ((.exit 1), ⟨[(0, v0), (1, I x1), (5, .ptr false 0 0), (6, v6), (7, I x7), (77, (B (decide (x7 < 3))))], [[I xc0_0, I xc0_1, I xc0_2, I xc0_3, I xc0_4, I xc0_5]], gh⟩))))
theorem D_ref_CheckNode_b1_ok {v0 : PV} {x1 : Int} {v6 : PV} {x7 xc0_0 : Int} {xc0_1 xc0_2 : Int} {xc0_3 xc0_4 xc0_5 : Int} (h : D_ref_CheckNode_b1 pg v0 x1 v6 x7 xc0_0 xc0_1 xc0_2 xc0_3 xc0_4 xc0_5 gh = some (e, s)) : runL pg f_ref_CheckNode_b1 ⟨[(0, v0), (1, I x1), (5, .ptr false 0 0), (6, v6), (7, I x7)], [[I xc0_0, I xc0_1, I xc0_2, I xc0_3, I xc0_4, I xc0_5]], gh⟩ = some (e, s) :=
  runX_ok an_ref_CheckNode (Eq.trans (by kernel_rfl) h)
def D_ref_CheckNode_k1 (pg : Prg) (v0 : PV) (xc0_0 xc0_1 : Int) (xc0_2 xc0_3 : Int) (xc0_4 xc0_5 : Int) (gh : List GObj) : DR := isC (degr v0) (arK (degr (degr v0)) (
  callR gh true (callL pg 102 [(degr (degr v0)), .agg [I xc0_0, I xc0_1, I xc0_2, I xc0_3, I xc0_4, I xc0_5]] gh) fun r1 gh2 => unA 3 r1 fun c3 c4 c5 => unI .i64 c3 fun n6 => unI .i64 c4 fun n7 => unI .i64 c5 fun n8 =>
  callR gh2 true (callL pg 23 [I xc0_0, I xc0_1, I xc0_5, .agg [I n6, I n7, I n8]] gh2) fun r9 gh10 => unI .i64 r9 fun n11 => some (.ret, ⟨[(4, I n11)], [], gh10⟩)))
theorem D_ref_CheckNode_k1_ok {v0 : PV} {xc0_0 xc0_1 : Int} {xc0_2 xc0_3 : Int} {xc0_4 xc0_5 : Int} (h : D_ref_CheckNode_k1 pg v0 xc0_0 xc0_1 xc0_2 xc0_3 xc0_4 xc0_5 gh = some (e, s)) : runL pg f_ref_CheckNode_k1 ⟨[(0, v0), (5, .ptr false 0 0)], [[I xc0_0, I xc0_1, I xc0_2, I xc0_3, I xc0_4, I xc0_5]], gh⟩ = some (e, s) :=
  runX_ok an_ref_CheckNode (Eq.trans (by kernel_rfl) h)
def D_ref_CheckNode_0 (pg : Prg) (v0 : PV) (x1 : Int) (gh : List GObj) : DR := stK 0 v0 (isC (degr v0) (
  idX 6 none (degr (degr v0)) x1 fun p1 =>
  ldX [] gh true 6 (degr p1) fun v2 => unA 6 v2 fun c3 c4 c5 c6 c7 c8 => unI .i64 c3 fun n9 => unI .i64 c4 fun n10 => unI .i64 c5 fun n11 => unI .i64 c6 fun n12 => unI .i64 c7 fun n13 => unI .i64 c8 fun n14 => stK 1 v0 (
  callR gh true (callL pg 50 [I n9, I 1, I 23] gh) fun r15 gh16 => unB r15 fun b17 => stK 1 v0 (
  br 12 (!b17) (some (.ret, ⟨[(4, I 7)], [], gh16⟩)) (
  callR gh16 true (callL pg 50 [I n10, I 1, I 8] gh16) fun r18 gh19 => unB r18 fun b20 => stK 1 v0 (
  br 17 (!b20) (some (.ret, ⟨[(4, I 3)], [], gh19⟩)) (
  br 26 (n9 == 1) (
  callR gh19 true (callL pg 27 [I n10] gh19) fun r21 gh22 => unI .i64 r21 fun n23 =>
  callR gh22 true (callL pg 50 [I n14, I 0, (I (IntKind.i64.wrap (n23 - 1)))] gh22) fun r24 gh25 => unB r24 fun b26 => stK 1 v0 (
  br 22 (!b26) (some (.ret, ⟨[(4, I 3)], [], gh25⟩)) (
  br 40 (decide (n9 ≤ 3)) (
  br 44 (decide (1 < n9)) (
  br 49 (n14 != 0) (stK 1 v0 (some (.ret, ⟨[(4, I 1)], [], gh25⟩))) (
  br 54 (n11 != 0) (stK 1 v0 (some (.ret, ⟨[(4, I 1)], [], gh25⟩))) (
  br 59 (n12 != 0) (stK 1 v0 (some (.ret, ⟨[(4, I 1)], [], gh25⟩))) (stK 1 v0 (
  br 36 (n13 != 0) (some (.ret, ⟨[(4, I 1)], [], gh25⟩)) (stK 1 v0 (
  br 65 (decide (n9 ≤ 3)) (some (.ret, ⟨[(4, I 0)], [], gh25⟩)) (stK 1 v0 (stK 1 v0 (
  kR (runL pg f_ref_CheckNode_l1 ⟨[(0, v0), (1, I x1), (5, .ptr false 0 0), (6, .sl true 1 [I n11, I n12, I n13]), (7, I 0)], [[I n9, I n10, I n11, I n12, I n13, I n14]], gh25⟩) (fun e s => nx e s (fun e s => some (e, s)) fun s => kR (runL pg f_ref_CheckNode_k1 s) (fun e s => some (e, s))))))))))))) (
  br 54 (n11 != 0) (stK 1 v0 (some (.ret, ⟨[(4, I 1)], [], gh25⟩))) (
  br 59 (n12 != 0) (stK 1 v0 (some (.ret, ⟨[(4, I 1)], [], gh25⟩))) (stK 1 v0 (
  br 36 (n13 != 0) (some (.ret, ⟨[(4, I 1)], [], gh25⟩)) (stK 1 v0 (
  br 65 (decide (n9 ≤ 3)) (some (.ret, ⟨[(4, I 0)], [], gh25⟩)) (stK 1 v0 (stK 1 v0 (
  kR (runL pg f_ref_CheckNode_l1 ⟨[(0, v0), (1, I x1), (5, .ptr false 0 0), (6, .sl true 1 [I n11, I n12, I n13]), (7, I 0)], [[I n9, I n10, I n11, I n12, I n13, I n14]], gh25⟩) (fun e s => nx e s (fun e s => some (e, s)) fun s => kR (runL pg f_ref_CheckNode_k1 s) (fun e s => some (e, s))))))))))))) (stK 1 v0 (stK 1 v0 (
  br 65 (decide (n9 ≤ 3)) (some (.ret, ⟨[(4, I 0)], [], gh25⟩)) (stK 1 v0 (stK 1 v0 (
  kR (runL pg f_ref_CheckNode_l1 ⟨[(0, v0), (1, I x1), (5, .ptr false 0 0), (6, .sl true 1 [I n11, I n12, I n13]), (7, I 0)], [[I n9, I n10, I n11, I n12, I n13, I n14]], gh25⟩) (fun e s => nx e s (fun e s => some (e, s)) fun s => kR (runL pg f_ref_CheckNode_k1 s) (fun e s => some (e, s)))))))))))) (stK 1 v0 (
  br 40 (decide (n9 ≤ 3)) (
  br 44 (decide (1 < n9)) (
  br 49 (n14 != 0) (stK 1 v0 (some (.ret, ⟨[(4, I 1)], [], gh19⟩))) (
  br 54 (n11 != 0) (stK 1 v0 (some (.ret, ⟨[(4, I 1)], [], gh19⟩))) (
  br 59 (n12 != 0) (stK 1 v0 (some (.ret, ⟨[(4, I 1)], [], gh19⟩))) (stK 1 v0 (
  br 36 (n13 != 0) (some (.ret, ⟨[(4, I 1)], [], gh19⟩)) (stK 1 v0 (
  br 65 (decide (n9 ≤ 3)) (some (.ret, ⟨[(4, I 0)], [], gh19⟩)) (stK 1 v0 (stK 1 v0 (
  kR (runL pg f_ref_CheckNode_l1 ⟨[(0, v0), (1, I x1), (5, .ptr false 0 0), (6, .sl true 1 [I n11, I n12, I n13]), (7, I 0)], [[I n9, I n10, I n11, I n12, I n13, I n14]], gh19⟩) (fun e s => nx e s (fun e s => some (e, s)) fun s => kR (runL pg f_ref_CheckNode_k1 s) (fun e s => some (e, s))))))))))))) (
  br 54 (n11 != 0) (stK 1 v0 (some (.ret, ⟨[(4, I 1)], [], gh19⟩))) (
  br 59 (n12 != 0) (stK 1 v0 (some (.ret, ⟨[(4, I 1)], [], gh19⟩))) (stK 1 v0 (
  br 36 (n13 != 0) (some (.ret, ⟨[(4, I 1)], [], gh19⟩)) (stK 1 v0 (
  br 65 (decide (n9 ≤ 3)) (some (.ret, ⟨[(4, I 0)], [], gh19⟩)) (stK 1 v0 (stK 1 v0 (
  kR (runL pg f_ref_CheckNode_l1 ⟨[(0, v0), (1, I x1), (5, .ptr false 0 0), (6, .sl true 1 [I n11, I n12, I n13]), (7, I 0)], [[I n9, I n10, I n11, I n12, I n13, I n14]], gh19⟩) (fun e s => nx e s (fun e s => some (e, s)) fun s => kR (runL pg f_ref_CheckNode_k1 s) (fun e s => some (e, s))))))))))))) (stK 1 v0 (stK 1 v0 (
  br 65 (decide (n9 ≤ 3)) (some (.ret, ⟨[(4, I 0)], [], gh19⟩)) (stK 1 v0 (stK 1 v0 (
  kR (runL pg f_ref_CheckNode_l1 ⟨[(0, v0), (1, I x1), (5, .ptr false 0 0), (6, .sl true 1 [I n11, I n12, I n13]), (7, I 0)], [[I n9, I n10, I n11, I n12, I n13, I n14]], gh19⟩) (fun e s => nx e s (fun e s => some (e, s)) fun s => kR (runL pg f_ref_CheckNode_k1 s) (fun e s => some (e, s))))))))))))))))))
theorem D_ref_CheckNode_0_ok {v0 : PV} {x1 : Int} (h : D_ref_CheckNode_0 pg v0 x1 gh = some (e, s)) : runL pg f_ref_CheckNode_0 ⟨[(0, v0), (1, I x1)], [], gh⟩ = some (e, s) :=
  runX_ok an_ref_CheckNode (Eq.trans (by kernel_rfl) h)
end
end Go.Lw
end

/-! Nodes of models: what the program and the document say of one. -/
section
namespace Go.Lw
open Go
structure Nd where
  k : Int
  w : Int
  a : Int
  b : Int
  c : Int
  n : Int
  deriving Inhabited
def nodeV (x : Nd) : PV := .agg [I x.k, I x.w, I x.a, I x.b, I x.c, I x.n]
theorem nodeV_def (x : Nd) : nodeV x = .agg [I x.k, I x.w, I x.a, I x.b, I x.c, I x.n] := rfl
abbrev LN (l : List Nd) : PV := .sl false 6 (l.map nodeV)
theorem takes_cases (k : Int) : takesOf k = 0 ∨ takesOf k = 1 ∨ takesOf k = 2 ∨ takesOf k = 3 := by
  unfold takesOf
  repeat' split
  all_goals simp
theorem takes_leaf {k : Int} (h : 1 ≤ k ∧ k ≤ 3) : takesOf k = 0 := by
  unfold takesOf; rw [if_pos (by omega)]
def argsL (x : Nd) : List Int := [x.a, x.b, x.c].take (takesOf x.k).toNat
theorem Args_eq (x : Nd) (gh : List GObj) : callL pg 81 [nodeV x] gh = some (LI (argsL x), gh) := by
  unfold nodeV argsL
  have ht := Takes_eq x.k gh
  rcases takes_cases x.k with h | h | h | h <;> rw [h] at ht ⊢
  · refine callL_fn (fn := f_model_Args) (s := ?s0) rfl rfl (D_model_Args_0_ok ?h0) ?r0
    case h0 => simp [D_model_Args_0, ht]; rfl
    case r0 => simp [finish, results, f_model_Args, resOk, get]
  · refine callL_fn (fn := f_model_Args) (s := ?s1) rfl rfl (D_model_Args_0_ok ?h1) ?r1
    case h1 => simp [D_model_Args_0, ht]; rfl
    case r1 => simp [finish, results, f_model_Args, resOk, get]
  · refine callL_fn (fn := f_model_Args) (s := ?s2) rfl rfl (D_model_Args_0_ok ?h2) ?r2
    case h2 => simp [D_model_Args_0, ht]; rfl
    case r2 => simp [finish, results, f_model_Args, resOk, get]
  · refine callL_fn (fn := f_model_Args) (s := ?s3) rfl rfl (D_model_Args_0_ok ?h3) ?r3
    case h3 => simp [D_model_Args_0, ht]; rfl
    case r3 => simp [finish, results, f_model_Args, resOk, get]
theorem leaf_eq (k : Int) (gh : List GObj) : callL pg 103 [I k] gh = some (B (decide (1 ≤ k ∧ k ≤ 3)), gh) := by
  by_cases h : 1 ≤ k
  · refine callL_fn (fn := f_model_leaf) (s := ?s1) rfl rfl (D_model_leaf_0_ok ?h1) ?r1
    case h1 => simp [D_model_leaf_0, h]; rfl
    case r1 => simp [finish, results, f_model_leaf, resOfs, resOf, resOk, h]
  · refine callL_fn (fn := f_model_leaf) (s := ?s2) rfl rfl (D_model_leaf_0_ok ?h2) ?r2
    case h2 => simp [D_model_leaf_0, h]; rfl
    case r2 => simp [finish, results, f_model_leaf, resOfs, resOf, resOk, h]
def wAt (l : List Nd) (a : Int) : Int := (l.getD a.toNat default).w
def isNo (l : List Nd) (a : Int) : Prop := 0 ≤ a ∧ a.toNat < l.length
instance (l : List Nd) (a : Int) : Decidable (isNo l a) := inferInstanceAs (Decidable (_ ∧ _))
theorem node_at {l : List Nd} {a : Int} (h : isNo l a) : (l.map nodeV)[a.toNat]? = some (nodeV (l.getD a.toNat default)) := by
  rw [List.getElem?_map, List.getElem?_eq_getElem h.2]
  simp [List.getD_eq_getElem?_getD, List.getElem?_eq_getElem h.2]
def wdSt (l : List Nd) (x : Nd) (w0 w1 w2 : Int) (xs : List Int) (i : Int) (gh : List GObj) : St :=
  ⟨[(0, LN l), (4, .ptr false 1 0), (5, .ptr false 2 0), (9, LI xs), (10, I xs.length), (11, I i)], [[I x.k, I x.w, I x.a, I x.b, I x.c, I x.n], [I 0, I 0, I 0], [I w0, I w1, I w2]], gh⟩
theorem Widths_b1 {l : List Nd} {x : Nd} {w0 w1 w2 a i : Int} {xs : List Int} {gh : List GObj} (hi : i = 0 ∨ i = 1 ∨ i = 2) (hx : xs[i.toNat]? = some a) (ha : isNo l a) :
    D_model_Widths_b1 pg (LN l) (LI xs) xs.length i x.k x.w x.a x.b x.c x.n 0 0 0 w0 w1 w2 gh =
      some (.normal, wdSt l x (if i = 0 then wAt l a else w0) (if i = 1 then wAt l a else w1) (if i = 2 then wAt l a else w2) xs (i + 1) gh) := by
  have hlt := (List.getElem?_eq_some_iff.1 hx).1
  have hltI : i < (xs.length : Int) := by omega
  have hm : (xs.map I)[i.toNat]? = some (I a) := by rw [List.getElem?_map, hx]; rfl
  have hn := node_at ha
  have h0 := ha.1
  have hw : IntKind.i64.wrap (i + 1) = i + 1 := wrap_id (by omega) (by omega)
  generalize hd : l.getD a.toNat default = d at hn
  have hwa : wAt l a = d.w := by unfold wAt; rw [hd]
  rw [hwa]
  rw [nodeV_def d] at hn
  unfold wdSt
  have h5 : 0 < xs.length := by omega
  rcases hi with rfl | rfl | rfl
  · have e0 : xs[0] = a := (List.getElem?_eq_some_iff.1 hx).2
    rw [Int.zero_add] at hw
    simp [D_model_Widths_b1, h5, e0, hn, h0, hw, spliceAt, -List.getElem?_map]
  · have hm0 : (xs.map I)[1]? = some (I a) := hm
    simp [D_model_Widths_b1, hltI, hm0, hn, h0, spliceAt, -List.getElem?_map]
    exact hw
  · have hm0 : (xs.map I)[2]? = some (I a) := hm
    simp [D_model_Widths_b1, hltI, hm0, hn, h0, spliceAt, -List.getElem?_map]
    exact hw
def wdJ (l : List Nd) (k j a : Int) : Int := if j < takesOf k then wAt l a else 0
structure ArgsIn (l : List Nd) (x : Nd) : Prop where
  a : 0 < takesOf x.k → isNo l x.a
  b : 1 < takesOf x.k → isNo l x.b
  c : 2 < takesOf x.k → isNo l x.c
def widthsV (l : List Nd) (x : Nd) : PV := .agg [I (wdJ l x.k 0 x.a), I (wdJ l x.k 1 x.b), I (wdJ l x.k 2 x.c)]
theorem Widths_done {l : List Nd} {x : Nd} {w0 w1 w2 : Int} {xs : List Int} {gh : List GObj} : runL pg f_model_Widths_l1 (wdSt l x w0 w1 w2 xs xs.length gh) =
    some (.normal, ⟨[(4, .ptr false 1 0), (5, .ptr false 2 0)], [[I x.k, I x.w, I x.a, I x.b, I x.c, I x.n], [I 0, I 0, I 0], [I w0, I w1, I w2]], gh⟩) := by
  refine (lp_exit (s1 := ?s1) (D_model_Widths_b1_ok ?h1)).trans ?r1
  case h1 => simp [D_model_Widths_b1]; rfl
  case r1 => simp [keep, stays]
theorem Widths_loop {l : List Nd} {x : Nd} {gh : List GObj} (h : ArgsIn l x) : runL pg f_model_Widths_l1 (wdSt l x 0 0 0 (argsL x) 0 gh) =
    some (.normal, ⟨[(4, .ptr false 1 0), (5, .ptr false 2 0)], [[I x.k, I x.w, I x.a, I x.b, I x.c, I x.n], [I 0, I 0, I 0], [I (wdJ l x.k 0 x.a), I (wdJ l x.k 1 x.b), I (wdJ l x.k 2 x.c)]], gh⟩) := by
  unfold argsL wdJ
  rcases takes_cases x.k with ht | ht | ht | ht <;> rw [ht]
  · exact Widths_done (xs := [])
  · refine lp_next (D_model_Widths_b1_ok (Widths_b1 (a := x.a) (.inl rfl) rfl (h.a (by omega)))) ?_
    exact Widths_done (xs := [x.a])
  · refine lp_next (D_model_Widths_b1_ok (Widths_b1 (a := x.a) (.inl rfl) rfl (h.a (by omega)))) ?_
    refine lp_next (D_model_Widths_b1_ok (Widths_b1 (a := x.b) (.inr (.inl rfl)) rfl (h.b (by omega)))) ?_
    exact Widths_done (xs := [x.a, x.b])
  · refine lp_next (D_model_Widths_b1_ok (Widths_b1 (a := x.a) (.inl rfl) rfl (h.a (by omega)))) ?_
    refine lp_next (D_model_Widths_b1_ok (Widths_b1 (a := x.b) (.inr (.inl rfl)) rfl (h.b (by omega)))) ?_
    refine lp_next (D_model_Widths_b1_ok (Widths_b1 (a := x.c) (.inr (.inr rfl)) rfl (h.c (by omega)))) ?_
    exact Widths_done (xs := [x.a, x.b, x.c])
theorem Widths_eq {l : List Nd} {x : Nd} {gh : List GObj} (h : ArgsIn l x) : callL pg 104 [LN l, nodeV x] gh = some (widthsV l x, gh) := by
  have hA := Args_eq x gh
  have hl := Widths_loop (gh := gh) h
  unfold wdSt at hl
  have hk := D_model_Widths_k1_ok (pg := pg) (gh := gh) (xc0_0 := x.k) (xc0_1 := x.w) (xc0_2 := x.a) (xc0_3 := x.b) (xc0_4 := x.c) (xc0_5 := x.n) (xc1_0 := 0) (xc1_1 := 0) (xc1_2 := 0) (xc2_0 := wdJ l x.k 0 x.a) (xc2_1 := wdJ l x.k 1 x.b) (xc2_2 := wdJ l x.k 2 x.c) rfl
  unfold nodeV at hA
  have hlen : ((argsL x).map I).length = (argsL x).length := by simp
  refine callL_fn (fn := f_model_Widths) (s := ?s1) rfl rfl (D_model_Widths_0_ok ?h1) ?r1
  case h1 => simp [D_model_Widths_0, hA, hl, hk]; rfl
  case r1 => simp [finish, results, f_model_Widths, resOfs, resOf, St.cellsAt, resOk, widthsV]
theorem WidthsOf_eq {l : List Nd} {x : Nd} {gh : List GObj} (h : ArgsIn l x) : callL pg 102 [LN l, nodeV x] gh = some (widthsV l x, gh) := by
  have ht := RTakes_eq x.k gh
  have k3 : ∀ (w0 w1 w2 : Int), runL pg f_ref_WidthsOf_k3 ⟨[(4, .ptr false 1 0), (5, .ptr false 2 0)], [[I x.k, I x.w, I x.a, I x.b, I x.c, I x.n], [I 0, I 0, I 0], [I w0, I w1, I w2]], gh⟩ =
      some (.ret, ⟨[(4, .ptr false 1 0)], [[I x.k, I x.w, I x.a, I x.b, I x.c, I x.n], [I w0, I w1, I w2]], gh⟩) := fun w0 w1 w2 => D_ref_WidthsOf_k3_ok rfl
  have k2 : ∀ (w0 w1 : Int), runL pg f_ref_WidthsOf_k2 ⟨[(0, LN l), (3, .ptr false 0 0), (4, .ptr false 1 0), (5, .ptr false 2 0), (6, I (takesOf x.k))], [[I x.k, I x.w, I x.a, I x.b, I x.c, I x.n], [I 0, I 0, I 0], [I w0, I w1, I 0]], gh⟩ =
      some (.ret, ⟨[(4, .ptr false 1 0)], [[I x.k, I x.w, I x.a, I x.b, I x.c, I x.n], [I w0, I w1, I (wdJ l x.k 2 x.c)]], gh⟩) := fun w0 w1 => by
    refine D_ref_WidthsOf_k2_ok ?_
    unfold wdJ
    by_cases h2 : 2 < takesOf x.k
    · have hn := node_at (h.c h2)
      have h0 := (h.c h2).1
      unfold wAt
      generalize l.getD x.c.toNat default = d at *
      rw [nodeV_def d] at hn
      simp [D_ref_WidthsOf_k2, h2, hn, h0, k3, -List.getElem?_map]
    · simp [D_ref_WidthsOf_k2, h2, k3]
  have k1 : ∀ (w0 : Int), runL pg f_ref_WidthsOf_k1 ⟨[(0, LN l), (3, .ptr false 0 0), (4, .ptr false 1 0), (5, .ptr false 2 0), (6, I (takesOf x.k))], [[I x.k, I x.w, I x.a, I x.b, I x.c, I x.n], [I 0, I 0, I 0], [I w0, I 0, I 0]], gh⟩ =
      some (.ret, ⟨[(4, .ptr false 1 0)], [[I x.k, I x.w, I x.a, I x.b, I x.c, I x.n], [I w0, I (wdJ l x.k 1 x.b), I (wdJ l x.k 2 x.c)]], gh⟩) := fun w0 => by
    refine D_ref_WidthsOf_k1_ok ?_
    by_cases h2 : 1 < takesOf x.k
    · have hn := node_at (h.b h2)
      have h0 := (h.b h2).1
      have e : wdJ l x.k 1 x.b = (l.getD x.b.toNat default).w := by unfold wdJ wAt; rw [if_pos h2]
      rw [e]
      generalize l.getD x.b.toNat default = d at *
      rw [nodeV_def d] at hn
      simp [D_ref_WidthsOf_k1, h2, hn, h0, k2, -List.getElem?_map]
    · have e : wdJ l x.k 1 x.b = 0 := by unfold wdJ; rw [if_neg h2]
      rw [e]
      simp [D_ref_WidthsOf_k1, h2, k2]
  unfold widthsV
  refine callL_fn (fn := f_ref_WidthsOf) (s := ⟨[(4, .ptr false 1 0)], [[I x.k, I x.w, I x.a, I x.b, I x.c, I x.n], [I (wdJ l x.k 0 x.a), I (wdJ l x.k 1 x.b), I (wdJ l x.k 2 x.c)]], gh⟩) rfl rfl (D_ref_WidthsOf_0_ok ?h1) ?r1
  case h1 =>
    by_cases h2 : 0 < takesOf x.k
    · have hn := node_at (h.a h2)
      have h0 := (h.a h2).1
      have e : wdJ l x.k 0 x.a = (l.getD x.a.toNat default).w := by unfold wdJ wAt; rw [if_pos h2]
      rw [e]
      generalize l.getD x.a.toNat default = d at *
      rw [nodeV_def d] at hn
      simp [D_ref_WidthsOf_0, ht, h2, hn, h0, k1, -List.getElem?_map]
    · have e : wdJ l x.k 0 x.a = 0 := by unfold wdJ; rw [if_neg h2]
      rw [e]
      simp [D_ref_WidthsOf_0, ht, h2, k1]
  case r1 => simp [finish, results, f_ref_WidthsOf, resOfs, resOf, St.cellsAt, resOk]
end Go.Lw
end

/-! What is wrong with a node: the program's answer and the document's. -/
section
namespace Go.Lw
open Go
def badJ (idx k j a : Int) : Prop := if j < takesOf k then a < 0 ∨ idx ≤ a else a ≠ 0
instance (idx k j a : Int) : Decidable (badJ idx k j a) := inferInstanceAs (Decidable (if j < takesOf k then a < 0 ∨ idx ≤ a else a ≠ 0))
def badArgs (idx : Int) (x : Nd) : Prop := badJ idx x.k 0 x.a ∨ badJ idx x.k 1 x.b ∨ badJ idx x.k 2 x.c
instance (idx : Int) (x : Nd) : Decidable (badArgs idx x) := inferInstanceAs (Decidable (_ ∨ _))
def nodeE (l : List Nd) (idx : Int) (x : Nd) : Int :=
  if x.k < 1 ∨ 24 ≤ x.k then 7 else if ¬ (1 ≤ x.w ∧ x.w ≤ 8) then 3
  else if x.k ≤ 3 then (if x.k = 1 ∧ ¬ (0 ≤ x.n ∧ x.n < ((2 ^ x.w.toNat : Nat) : Int)) then 3 else if (x.k ≠ 1 ∧ x.n ≠ 0) ∨ x.a ≠ 0 ∨ x.b ≠ 0 ∨ x.c ≠ 0 then 1 else 0)
  else if badArgs idx x then 4 else fitE x.k x.w x.n (wdJ l x.k 0 x.a) (wdJ l x.k 1 x.b) (wdJ l x.k 2 x.c)
theorem args_in {l : List Nd} {idx : Nat} {x : Nd} (hi : idx ≤ l.length) (h : ¬ badArgs idx x) : ArgsIn l x := by
  unfold badArgs badJ at h
  simp only [not_or] at h
  obtain ⟨h0, h1, h2⟩ := h
  refine ⟨fun q => ?_, fun q => ?_, fun q => ?_⟩
  · rw [if_pos q] at h0
    exact ⟨by omega, by omega⟩
  · rw [if_pos q] at h1
    exact ⟨by omega, by omega⟩
  · rw [if_pos q] at h2
    exact ⟨by omega, by omega⟩
section
variable {l : List Nd} {x : Nd} {gh : List GObj}
def nlSt (l : List Nd) (idx : Int) (x : Nd) (j : Int) (gh : List GObj) : St :=
  ⟨[(0, LN l), (1, I idx), (5, .ptr false 0 0), (67, .sl true 1 [I x.a, I x.b, I x.c]), (68, I 3), (69, I j)], [[I x.k, I x.w, I x.a, I x.b, I x.c, I x.n]], gh⟩
theorem node_b1 {idx j a : Int} (hj : (j = 0 ∧ a = x.a) ∨ (j = 1 ∧ a = x.b) ∨ (j = 2 ∧ a = x.c)) :
    D_model_node_b1 pg (LN l) idx (.sl true 1 [I x.a, I x.b, I x.c]) 3 j x.k x.w x.a x.b x.c x.n gh = if badJ idx x.k j a then some (.ret, ⟨[(4, I 4)], [], gh⟩) else some (.normal, nlSt l idx x (j + 1) gh) := by
  have hw : (IntKind.i64.wrap (j + 1)) = j + 1 := wrap_id (by omega) (by omega)
  by_cases hk : j < takesOf x.k
  · have hk' := Int.not_le.2 hk
    by_cases h1 : a < 0
    · rw [if_pos (by unfold badJ; rw [if_pos hk]; exact .inl h1)]
      rcases hj with ⟨rfl, rfl⟩ | ⟨rfl, rfl⟩ | ⟨rfl, rfl⟩ <;> simp [D_model_node_b1, Takes_eq, hk, h1]
    · by_cases h2 : idx ≤ a
      · rw [if_pos (by unfold badJ; rw [if_pos hk]; exact .inr h2)]
        rcases hj with ⟨rfl, rfl⟩ | ⟨rfl, rfl⟩ | ⟨rfl, rfl⟩ <;> simp [D_model_node_b1, Takes_eq, hk, h1, h2]
      · rw [if_neg (by unfold badJ; rw [if_pos hk]; rintro (h | h) <;> contradiction)]
        unfold nlSt
        rcases hj with ⟨rfl, rfl⟩ | ⟨rfl, rfl⟩ | ⟨rfl, rfl⟩ <;> simp [D_model_node_b1, Takes_eq, hk, hk', h1, h2] <;> exact hw
  · have hk' := Int.not_lt.1 hk
    by_cases h2 : a = 0
    · rw [if_neg (by unfold badJ; rw [if_neg hk]; exact fun h => h h2)]
      unfold nlSt
      rcases hj with ⟨rfl, rfl⟩ | ⟨rfl, rfl⟩ | ⟨rfl, rfl⟩ <;> simp [D_model_node_b1, Takes_eq, hk, hk', h2] <;> exact hw
    · rw [if_pos (by unfold badJ; rw [if_neg hk]; exact h2)]
      rcases hj with ⟨rfl, rfl⟩ | ⟨rfl, rfl⟩ | ⟨rfl, rfl⟩ <;> simp [D_model_node_b1, Takes_eq, hk, hk', h2]
theorem node_loop {idx : Int} : runL pg f_model_node_l1 (nlSt l idx x 0 gh) =
    if badArgs idx x then some (.ret, ⟨[(4, I 4)], [], gh⟩) else some (.normal, ⟨[(0, LN l), (5, .ptr false 0 0)], [[I x.k, I x.w, I x.a, I x.b, I x.c, I x.n]], gh⟩) := by
  have b0 := node_b1 (l := l) (x := x) (gh := gh) (idx := idx) (j := 0) (a := x.a) (by simp)
  have b1 := node_b1 (l := l) (x := x) (gh := gh) (idx := idx) (j := 1) (a := x.b) (by simp)
  have b2 := node_b1 (l := l) (x := x) (gh := gh) (idx := idx) (j := 2) (a := x.c) (by simp)
  by_cases h0 : badJ idx x.k 0 x.a
  · rw [if_pos h0] at b0
    rw [if_pos (.inl h0)]
    exact lp_ret (D_model_node_b1_ok b0)
  rw [if_neg h0] at b0
  refine lp_next (D_model_node_b1_ok b0) ?_
  by_cases h1 : badJ idx x.k 1 x.b
  · rw [if_pos h1] at b1
    rw [if_pos (.inr (.inl h1))]
    exact lp_ret (D_model_node_b1_ok b1)
  rw [if_neg h1] at b1
  refine lp_next (D_model_node_b1_ok b1) ?_
  by_cases h2 : badJ idx x.k 2 x.c
  · rw [if_pos h2] at b2
    rw [if_pos (.inr (.inr h2))]
    exact lp_ret (D_model_node_b1_ok b2)
  rw [if_neg h2] at b2
  refine lp_next (D_model_node_b1_ok b2) ?_
  rw [if_neg (by rintro (h | h | h) <;> contradiction)]
  refine (lp_exit (s1 := ?s1) (D_model_node_b1_ok ?h1)).trans ?r1
  case h1 => simp [D_model_node_b1]; rfl
  case r1 => simp [keep, stays]
theorem node_k3 {idx : Nat} (hi : idx ≤ l.length) (b : Bool) : runL pg f_model_node_k3 ⟨[(0, LN l), (1, I idx), (5, .ptr false 0 0), (26, B b)], [[I x.k, I x.w, I x.a, I x.b, I x.c, I x.n]], gh⟩ =
    some (.ret, ⟨[(4, I (if badArgs idx x then 4 else fitE x.k x.w x.n (wdJ l x.k 0 x.a) (wdJ l x.k 1 x.b) (wdJ l x.k 2 x.c)))], [], gh⟩) := by
  refine D_model_node_k3_ok ?_
  have hl := node_loop (l := l) (x := x) (gh := gh) (idx := idx)
  unfold nlSt at hl
  by_cases hb : badArgs idx x
  · rw [if_pos hb] at hl
    simp [D_model_node_k3, hl, hb]
  · rw [if_neg hb] at hl
    have hW := Widths_eq (gh := gh) (args_in hi hb)
    have hF := Fit_eq x.k x.w x.n (wdJ l x.k 0 x.a) (wdJ l x.k 1 x.b) (wdJ l x.k 2 x.c) gh
    unfold widthsV at hW
    rw [nodeV_def x] at hW
    have hk := D_model_node_k4_ok (pg := pg) (gh := gh) (v0 := LN l) (xc0_0 := x.k) (xc0_1 := x.w) (xc0_2 := x.a) (xc0_3 := x.b) (xc0_4 := x.c) (xc0_5 := x.n) (e := .ret)
      (s := ⟨[(4, I (fitE x.k x.w x.n (wdJ l x.k 0 x.a) (wdJ l x.k 1 x.b) (wdJ l x.k 2 x.c)))], [], gh⟩) (by
      simp [D_model_node_k4, hW, hF])
    simp [D_model_node_k3, hl, hb, hk]
theorem shl1 {w : Int} (h : 1 ≤ w ∧ w ≤ 8) : iShl .i64 1 w = ((2 ^ w.toNat : Nat) : Int) := by
  obtain ⟨h1, h2⟩ := h
  have : w = 1 ∨ w = 2 ∨ w = 3 ∨ w = 4 ∨ w = 5 ∨ w = 6 ∨ w = 7 ∨ w = 8 := by omega
  rcases this with rfl | rfl | rfl | rfl | rfl | rfl | rfl | rfl <;> decide +kernel
theorem node_eq {idx : Nat} (hx : l[idx]? = some x) : callL pg 76 [LN l, I idx] gh = some (I (nodeE l idx x), gh) := by
  have hlt := (List.getElem?_eq_some_iff.1 hx).1
  have hg : (l.map nodeV)[idx]? = some (nodeV x) := by rw [List.getElem?_map, hx]; rfl
  rw [nodeV_def x] at hg
  have k3 := node_k3 (l := l) (x := x) (gh := gh) (idx := idx) (by omega)
  have hw := IsWidth_eq x.w gh
  have hlf := leaf_eq x.k gh
  have k1t : runL pg f_model_node_k1 ⟨[(39, B true)], [], gh⟩ = some (.ret, ⟨[(4, I 1)], [], gh⟩) := D_model_node_k1_ok rfl
  have k1f : runL pg f_model_node_k1 ⟨[(39, B false)], [], gh⟩ = some (.normal, ⟨[(39, B false)], [], gh⟩) := D_model_node_k1_ok rfl
  have k2 : runL pg f_model_node_k2 ⟨[(39, B false)], [], gh⟩ = some (.ret, ⟨[(4, I 0)], [], gh⟩) := D_model_node_k2_ok rfl
  unfold nodeE
  refine callL_fn (fn := f_model_node) (s := ⟨[(4, I (nodeE l idx x))], [], gh⟩) rfl rfl (D_model_node_0_ok ?h1) ?r1
  case r1 => simp [finish, results, f_model_node, resOfs, resOf, resOk, nodeE]
  case h1 =>
    unfold nodeE
    by_cases h1 : x.k < 1
    · simp [D_model_node_0, hg, h1, -List.getElem?_map]
    by_cases h2 : 24 ≤ x.k
    · simp [D_model_node_0, hg, h1, h2, -List.getElem?_map]
    by_cases h3 : 1 ≤ x.w ∧ x.w ≤ 8
    · rw [decide_eq_true h3] at hw
      by_cases h4 : x.k ≤ 3
      · rw [decide_eq_true ⟨by omega, h4⟩] at hlf
        by_cases h5 : x.k = 1
        · have hI := IsWord_eq x.n x.w (by omega) gh
          rw [shl1 h3] at hI
          generalize ((2 ^ x.w.toNat : Nat) : Int) = T at *
          by_cases h6 : 0 ≤ x.n ∧ x.n < T
          · rw [decide_eq_true h6] at hI
            rw [h5] at hg hlf
            by_cases ha : x.a = 0
            · by_cases hb : x.b = 0
              · by_cases hc : x.c = 0
                · simp [D_model_node_0, hg, h3, hw, hlf, h5, hI, h6, ha, hb, hc, k1f, k2, -List.getElem?_map]
                · simp [D_model_node_0, hg, h3, hw, hlf, h5, hI, h6, ha, hb, hc, k1t, -List.getElem?_map]
              · simp [D_model_node_0, hg, h3, hw, hlf, h5, hI, h6, ha, hb, k1t, -List.getElem?_map]
            · simp [D_model_node_0, hg, h3, hw, hlf, h5, hI, h6, ha, k1t, -List.getElem?_map]
          · rw [decide_eq_false h6] at hI
            rw [h5] at hg hlf
            simp [D_model_node_0, hg, h3, hw, hlf, h5, hI, h6, -List.getElem?_map]
        · by_cases hn : x.n = 0
          · by_cases ha : x.a = 0
            · by_cases hb : x.b = 0
              · by_cases hc : x.c = 0
                · simp [D_model_node_0, hg, h1, h2, h3, hw, h4, hlf, h5, hn, ha, hb, hc, k1f, k2, -List.getElem?_map]
                · simp [D_model_node_0, hg, h1, h2, h3, hw, h4, hlf, h5, hn, ha, hb, hc, k1t, -List.getElem?_map]
              · simp [D_model_node_0, hg, h1, h2, h3, hw, h4, hlf, h5, hn, ha, hb, k1t, -List.getElem?_map]
            · simp [D_model_node_0, hg, h1, h2, h3, hw, h4, hlf, h5, hn, ha, k1t, -List.getElem?_map]
          · simp [D_model_node_0, hg, h1, h2, h3, hw, h4, hlf, h5, hn, k1t, -List.getElem?_map]
      · rw [decide_eq_false (fun h => h4 h.2)] at hlf
        have k3' := k3 false
        simp [D_model_node_0, hg, h1, h2, h3, hw, h4, hlf, k3', -List.getElem?_map]
    · rw [decide_eq_false h3] at hw
      simp [D_model_node_0, hg, h1, h2, h3, hw, -List.getElem?_map]
def cnSt (l : List Nd) (idx : Int) (x : Nd) (j : Int) (gh : List GObj) : St :=
  ⟨[(0, LN l), (1, I idx), (5, .ptr false 0 0), (6, .sl true 1 [I x.a, I x.b, I x.c]), (7, I j)], [[I x.k, I x.w, I x.a, I x.b, I x.c, I x.n]], gh⟩
theorem CheckNode_b1 {idx j a : Int} (hix : 0 ≤ idx ∧ idx ≤ 1000000) (hj : (j = 0 ∧ a = x.a) ∨ (j = 1 ∧ a = x.b) ∨ (j = 2 ∧ a = x.c)) :
    D_ref_CheckNode_b1 pg (LN l) idx (.sl true 1 [I x.a, I x.b, I x.c]) j x.k x.w x.a x.b x.c x.n gh = if badJ idx x.k j a then some (.ret, ⟨[(4, I 4)], [], gh⟩) else some (.normal, cnSt l idx x (j + 1) gh) := by
  have hw : (IntKind.i64.wrap (j + 1)) = j + 1 := wrap_id (by omega) (by omega)
  have hm : IntKind.i64.wrap (idx - 1) = idx - 1 := wrap_id (by omega) (by omega)
  have hbt := between_eq a 0 (idx - 1) gh
  by_cases hk : j < takesOf x.k
  · have hk' := Int.not_le.2 hk
    by_cases h1 : 0 ≤ a ∧ a ≤ idx - 1
    · rw [decide_eq_true h1] at hbt
      rw [if_neg (by unfold badJ; rw [if_pos hk]; omega)]
      unfold cnSt
      rcases hj with ⟨rfl, rfl⟩ | ⟨rfl, rfl⟩ | ⟨rfl, rfl⟩ <;> simp [D_ref_CheckNode_b1, RTakes_eq, hk, hk', hm, hbt] <;> exact hw
    · rw [decide_eq_false h1] at hbt
      rw [if_pos (by unfold badJ; rw [if_pos hk]; omega)]
      rcases hj with ⟨rfl, rfl⟩ | ⟨rfl, rfl⟩ | ⟨rfl, rfl⟩ <;> simp [D_ref_CheckNode_b1, RTakes_eq, hk, hm, hbt]
  · have hk' := Int.not_lt.1 hk
    by_cases h2 : a = 0
    · rw [if_neg (by unfold badJ; rw [if_neg hk]; exact fun h => h h2)]
      unfold cnSt
      rcases hj with ⟨rfl, rfl⟩ | ⟨rfl, rfl⟩ | ⟨rfl, rfl⟩ <;> simp [D_ref_CheckNode_b1, RTakes_eq, hk, hk', h2] <;> exact hw
    · rw [if_pos (by unfold badJ; rw [if_neg hk]; exact h2)]
      rcases hj with ⟨rfl, rfl⟩ | ⟨rfl, rfl⟩ | ⟨rfl, rfl⟩ <;> simp [D_ref_CheckNode_b1, RTakes_eq, hk, hk', h2]
theorem CheckNode_loop {idx : Int} (hix : 0 ≤ idx ∧ idx ≤ 1000000) : runL pg f_ref_CheckNode_l1 (cnSt l idx x 0 gh) =
    if badArgs idx x then some (.ret, ⟨[(4, I 4)], [], gh⟩) else some (.normal, ⟨[(0, LN l), (5, .ptr false 0 0)], [[I x.k, I x.w, I x.a, I x.b, I x.c, I x.n]], gh⟩) := by
  have b0 := CheckNode_b1 (l := l) (x := x) (gh := gh) (idx := idx) (j := 0) (a := x.a) hix (by simp)
  have b1 := CheckNode_b1 (l := l) (x := x) (gh := gh) (idx := idx) (j := 1) (a := x.b) hix (by simp)
  have b2 := CheckNode_b1 (l := l) (x := x) (gh := gh) (idx := idx) (j := 2) (a := x.c) hix (by simp)
  by_cases h0 : badJ idx x.k 0 x.a
  · rw [if_pos h0] at b0
    rw [if_pos (.inl h0)]
    exact lp_ret (D_ref_CheckNode_b1_ok b0)
  rw [if_neg h0] at b0
  refine lp_next (D_ref_CheckNode_b1_ok b0) ?_
  by_cases h1 : badJ idx x.k 1 x.b
  · rw [if_pos h1] at b1
    rw [if_pos (.inr (.inl h1))]
    exact lp_ret (D_ref_CheckNode_b1_ok b1)
  rw [if_neg h1] at b1
  refine lp_next (D_ref_CheckNode_b1_ok b1) ?_
  by_cases h2 : badJ idx x.k 2 x.c
  · rw [if_pos h2] at b2
    rw [if_pos (.inr (.inr h2))]
    exact lp_ret (D_ref_CheckNode_b1_ok b2)
  rw [if_neg h2] at b2
  refine lp_next (D_ref_CheckNode_b1_ok b2) ?_
  rw [if_neg (by rintro (h | h | h) <;> contradiction)]
  refine (lp_exit (s1 := ?s1) (D_ref_CheckNode_b1_ok ?h1)).trans ?r1
  case h1 => simp [D_ref_CheckNode_b1]; rfl
  case r1 => simp [keep, stays]
theorem CheckNode_k1 {idx : Nat} (hi : idx ≤ l.length) (hb : ¬ badArgs idx x) : runL pg f_ref_CheckNode_k1 ⟨[(0, LN l), (5, .ptr false 0 0)], [[I x.k, I x.w, I x.a, I x.b, I x.c, I x.n]], gh⟩ =
    some (.ret, ⟨[(4, I (fitE x.k x.w x.n (wdJ l x.k 0 x.a) (wdJ l x.k 1 x.b) (wdJ l x.k 2 x.c)))], [], gh⟩) := by
  have hW := WidthsOf_eq (gh := gh) (args_in hi hb)
  have hF := FitOf_eq x.k x.w x.n (wdJ l x.k 0 x.a) (wdJ l x.k 1 x.b) (wdJ l x.k 2 x.c) gh
  unfold widthsV at hW
  rw [nodeV_def x] at hW
  refine D_ref_CheckNode_k1_ok ?_
  simp [D_ref_CheckNode_k1, hW, hF]
theorem CheckNode_eq {idx : Nat} (hx : l[idx]? = some x) (hlen : l.length ≤ 1000000) : callL pg 72 [LN l, I idx] gh = some (I (nodeE l idx x), gh) := by
  have hlt := (List.getElem?_eq_some_iff.1 hx).1
  have hg : (l.map nodeV)[idx]? = some (nodeV x) := by rw [List.getElem?_map, hx]; rfl
  rw [nodeV_def x] at hg
  have b1 := between_eq x.k 1 23 gh
  have b2 := between_eq x.w 1 8 gh
  have hl := CheckNode_loop (l := l) (x := x) (gh := gh) (idx := idx) (by omega)
  unfold cnSt at hl
  refine callL_fn (fn := f_ref_CheckNode) (s := ⟨[(4, I (nodeE l idx x))], [], gh⟩) rfl rfl (D_ref_CheckNode_0_ok ?h1) ?r1
  case r1 => simp [finish, results, f_ref_CheckNode, resOfs, resOf, resOk]
  case h1 =>
    unfold nodeE
    by_cases h12 : 1 ≤ x.k ∧ x.k ≤ 23
    · rw [decide_eq_true h12] at b1
      have h1 : ¬ x.k < 1 := by omega
      have h2 : ¬ 24 ≤ x.k := by omega
      by_cases h3 : 1 ≤ x.w ∧ x.w ≤ 8
      · rw [decide_eq_true h3] at b2
        by_cases h4 : x.k ≤ 3
        · by_cases h5 : x.k = 1
          · obtain ⟨T, hTT, hT, e1⟩ : ∃ T : Int, ((2 ^ x.w.toNat : Nat) : Int) = T ∧ callL pg 27 [I x.w] gh = some (I T, gh) ∧ IntKind.i64.wrap (T - 1) = T - 1 := by
              have hT := Two_eq (k := x.w.toNat) (by omega) gh
              have hp : 2 ^ x.w.toNat ≤ 2 ^ 8 := Nat.pow_le_pow_right (by decide) (by omega)
              rw [show ((x.w.toNat : Nat) : Int) = x.w by omega] at hT
              generalize 2 ^ x.w.toNat = T at *
              exact ⟨T, rfl, hT, wrap_id (by omega) (by omega)⟩
            rw [hTT]
            have hB := between_eq x.n 0 (T - 1) gh
            have d5 : decide (x.k = 1) = true := decide_eq_true h5
            have d4 : decide (x.k ≤ 3) = true := decide_eq_true h4
            have d7 : decide (1 < x.k) = false := decide_eq_false (by omega)
            have ev : ∀ r : Int, (if x.k < 1 ∨ 24 ≤ x.k then 7 else if ¬ (1 ≤ x.w ∧ x.w ≤ 8) then 3
                else if x.k ≤ 3 then (if x.k = 1 ∧ ¬ (0 ≤ x.n ∧ x.n < T) then 3 else if (x.k ≠ 1 ∧ x.n ≠ 0) ∨ x.a ≠ 0 ∨ x.b ≠ 0 ∨ x.c ≠ 0 then 1 else 0)
                else if badArgs idx x then 4 else fitE x.k x.w x.n (wdJ l x.k 0 x.a) (wdJ l x.k 1 x.b) (wdJ l x.k 2 x.c)) = r →
              (if x.k < 1 ∨ 24 ≤ x.k then 7 else if ¬ (1 ≤ x.w ∧ x.w ≤ 8) then 3
                else if x.k ≤ 3 then (if x.k = 1 ∧ ¬ (0 ≤ x.n ∧ x.n < T) then 3 else if (x.k ≠ 1 ∧ x.n ≠ 0) ∨ x.a ≠ 0 ∨ x.b ≠ 0 ∨ x.c ≠ 0 then 1 else 0)
                else if badArgs idx x then 4 else fitE x.k x.w x.n (wdJ l x.k 0 x.a) (wdJ l x.k 1 x.b) (wdJ l x.k 2 x.c)) = r := fun _ h => h
            by_cases h6 : 0 ≤ x.n ∧ x.n < T
            · rw [decide_eq_true ⟨h6.1, by omega⟩] at hB
              by_cases ha : x.a = 0
              · by_cases hb : x.b = 0
                · by_cases hc : x.c = 0
                  · rw [ev 0 (by simp [h5, h3, h6, ha, hb, hc])]
                    simp [D_ref_CheckNode_0, hg, b1, b2, d5, d4, d7, hT, e1, hB, ha, hb, hc, -List.getElem?_map]
                  · rw [ev 1 (by simp [h5, h3, h6, ha, hb, hc])]
                    simp [D_ref_CheckNode_0, hg, b1, b2, d5, d4, d7, hT, e1, hB, ha, hb, hc, -List.getElem?_map]
                · rw [ev 1 (by simp [h5, h3, h6, ha, hb])]
                  simp [D_ref_CheckNode_0, hg, b1, b2, d5, d4, d7, hT, e1, hB, ha, hb, -List.getElem?_map]
              · rw [ev 1 (by simp [h5, h3, h6, ha])]
                simp [D_ref_CheckNode_0, hg, b1, b2, d5, d4, d7, hT, e1, hB, ha, -List.getElem?_map]
            · rw [decide_eq_false (by omega)] at hB
              rw [ev 3 (by simp [h5, h3, h6])]
              simp [D_ref_CheckNode_0, hg, b1, b2, d5, hT, e1, hB, -List.getElem?_map]
          · have h7 : 1 < x.k := by omega
            by_cases hn : x.n = 0
            · by_cases ha : x.a = 0
              · by_cases hb : x.b = 0
                · by_cases hc : x.c = 0
                  · simp [D_ref_CheckNode_0, hg, h1, h2, h3, b1, b2, h4, h5, h7, hn, ha, hb, hc, -List.getElem?_map]
                  · simp [D_ref_CheckNode_0, hg, h1, h2, h3, b1, b2, h4, h5, h7, hn, ha, hb, hc, -List.getElem?_map]
                · simp [D_ref_CheckNode_0, hg, h1, h2, h3, b1, b2, h4, h5, h7, hn, ha, hb, -List.getElem?_map]
              · simp [D_ref_CheckNode_0, hg, h1, h2, h3, b1, b2, h4, h5, h7, hn, ha, -List.getElem?_map]
            · simp [D_ref_CheckNode_0, hg, h1, h2, h3, b1, b2, h4, h5, h7, hn, -List.getElem?_map]
        · have h5 : x.k ≠ 1 := by omega
          by_cases hb : badArgs idx x
          · rw [if_pos hb] at hl
            simp [D_ref_CheckNode_0, hg, h1, h2, h3, b1, b2, h4, h5, hb, hl, -List.getElem?_map]
          · rw [if_neg hb] at hl
            have hk := CheckNode_k1 (l := l) (gh := gh) (idx := idx) (by omega) hb
            simp [D_ref_CheckNode_0, hg, h1, h2, h3, b1, b2, h4, h5, hb, hl, hk, -List.getElem?_map]
      · rw [decide_eq_false h3] at b2
        simp [D_ref_CheckNode_0, hg, h1, h2, h3, b1, b2, -List.getElem?_map]
    · rw [decide_eq_false h12] at b1
      have h1 : x.k < 1 ∨ 24 ≤ x.k := by omega
      simp [D_ref_CheckNode_0, hg, h1, b1, -List.getElem?_map]
end
end Go.Lw
end

/-! What the nodes of a graph are: what the program makes. -/
section
namespace Go.Lw
open Go
@[simp] theorem noG_ep (e : PV) (o : Nat) : PV.noG (.ep e o) = e.noG := rfl
section
variable {gh : List GObj}
end
end Go.Lw
end

/-! What the code of function model_Of comes to, piece by piece. Written by program (dprint.py). -/
section
set_option maxRecDepth 10000
set_option maxHeartbeats 4000000
namespace Go.Lw
open Go
noncomputable section
variable {pg : Prg} {gh : List GObj} {e : IExit} {s : St}
def an_model_Of : Tr := (.node 15 (.agg [.int .i64, .int .i64, .int .i64, .int .i64, .int .i64, .int .i64]) (tO 9 (tO 4 (tI 1 (.node 0 (.agg [.any, .any, .any, .any, .any]) .nil .nil) .nil) (tI 6 (uO 5) .nil)) (tB 12 (tI 11 (uI 10) .nil) (uI 13))) (tI 21 (tB 19 (tI 18 (uI 17) .nil) (uO 20)) (tI 24 (tO 23 (uO 22) .nil) (uO 25))))
def D_model_Of_k1 (pg : Prg) (x1 : Int) (v5 v9 : PV) (x10 x11 : Int) (gh : List GObj) : DR := stK 0 v5 (stK 0 v9 (some (.normal, ⟨[(1, I x1), (5, v5), (9, v9), (10, I x10), (11, (I (IntKind.i64.wrap (x11 + 1))))], [], gh⟩)))
theorem D_model_Of_k1_ok {x1 : Int} {v5 v9 : PV} {x10 x11 : Int} (h : D_model_Of_k1 pg x1 v5 v9 x10 x11 gh = some (e, s)) : runL pg f_model_Of_k1 ⟨[(1, I x1), (5, v5), (9, v9), (10, I x10), (11, I x11)], [], gh⟩ = some (e, s) :=
  runX_ok an_model_Of (Eq.trans (by kernel_rfl) h)
def D_model_Of_b1 (pg : Prg) (x1 : Int) (v5 v9 : PV) (x10 x11 : Int) (gh : List GObj) : DR :=
  br 12 (decide (x11 < x10)) (
  idX 6 none (degr v9) x11 fun p1 =>
  ldX [] gh true 6 (degr p1) fun v2 => unA 6 v2 fun c3 c4 c5 c6 c7 c8 => unI .i64 c3 fun n9 => unI .i64 c4 fun n10 => unI .i64 c5 fun n11 => unI .i64 c6 fun n12 => unI .i64 c7 fun n13 => unI .i64 c8 fun n14 => stK 1 v5 (stK 1 v9 (stK 0 v5 (stK 0 v9 (
  br 19 (n9 == x1) (
  apX 1 8 v5 (.sl false 1 [I x11]) fun l15 => stK 0 v9 (stK 0 v9 (
  kR (runL pg f_model_Of_k1 ⟨[(1, I x1), (5, .sl true 1 l15), (9, v9), (10, I x10), (11, I x11)], [], gh⟩) (fun e s => po [1, 5, 9, 10, 11] 0 e s (fun e s => some (e, s)))))) (stK 0 v5 (stK 0 v9 (
  kR (runL pg f_model_Of_k1 ⟨[(1, I x1), (5, v5), (9, v9), (10, I x10), (11, I x11)], [], gh⟩) (fun e s => po [1, 5, 9, 10, 11] 0 e s (fun e s => some (e, s))))))))))) (some ((.exit 0), ⟨[(1, I x1), (5, v5), (9, v9), (10, I x10), (11, I x11), (12, (B (decide (x11 < x10))))], [], gh⟩))
theorem D_model_Of_b1_ok {x1 : Int} {v5 v9 : PV} {x10 x11 : Int} (h : D_model_Of_b1 pg x1 v5 v9 x10 x11 gh = some (e, s)) : runL pg f_model_Of_b1 ⟨[(1, I x1), (5, v5), (9, v9), (10, I x10), (11, I x11)], [], gh⟩ = some (e, s) :=
  runX_ok an_model_Of (Eq.trans (by kernel_rfl) h)
def D_model_Of_k2 (pg : Prg) (v5 : PV) (gh : List GObj) : DR := isC (degr v5) (stK 0 (degr v5) (some (.ret, ⟨[(4, (degr v5))], [], gh⟩)))
theorem D_model_Of_k2_ok {v5 : PV} (h : D_model_Of_k2 pg v5 gh = some (e, s)) : runL pg f_model_Of_k2 ⟨[(5, v5)], [], gh⟩ = some (e, s) :=
  runX_ok an_model_Of (Eq.trans (by kernel_rfl) h)
def D_model_Of_0 (pg : Prg) (v0_0 v0_1 : PV) (v0_2 v0_3 v0_4 : PV) (x1 : Int) (gh : List GObj) : DR := onK (degr1 v0_0) (onK (degr1 v0_1) (onK (degr1 v0_2) (onK (degr1 v0_3) (onK (degr1 v0_4) (isC (degr (degr1 v0_0)) (lenS (degr (degr (degr1 v0_0))) fun n1 => stK 0 (degr (degr1 v0_0)) (
  kR (runL pg f_model_Of_l1 ⟨[(1, I x1), (5, .sl true 1 []), (9, (degr (degr1 v0_0))), (10, (I (n1 : Int))), (11, I 0)], [], gh⟩) (fun e s => nx e s (fun e s => some (e, s)) fun s => kR (runL pg f_model_Of_k2 s) (fun e s => some (e, s))))))))))
theorem D_model_Of_0_ok {v0_0 v0_1 : PV} {v0_2 v0_3 v0_4 : PV} {x1 : Int} (h : D_model_Of_0 pg v0_0 v0_1 v0_2 v0_3 v0_4 x1 gh = some (e, s)) : runL pg f_model_Of_0 ⟨[(0, .agg [v0_0, v0_1, v0_2, v0_3, v0_4]), (1, I x1)], [], gh⟩ = some (e, s) :=
  runX_ok an_model_Of (Eq.trans (by kernel_rfl) h)
end
end Go.Lw
end

/-! What the code of function model_Bits comes to, piece by piece. Written by program (dprint.py). -/
section
set_option maxRecDepth 10000
set_option maxHeartbeats 4000000
namespace Go.Lw
open Go
noncomputable section
variable {pg : Prg} {gh : List GObj} {e : IExit} {s : St}
def an_model_Bits : Tr := (tO 6 (tI 3 (tI 2 (.node 0 (.agg [.any, .any, .any, .any, .any]) .nil .nil) .nil) (.node 5 (.agg [.any, .any, .any, .any, .any]) (.node 4 (.agg [.any, .any, .any, .any, .any]) .nil .nil) .nil)) (.node 9 (.agg [.any, .any, .any, .any, .any]) (.node 8 (.agg [.any, .any, .any, .any, .any]) (uI 7) .nil) (tI 11 (uO 10) .nil)))
def D_model_Bits_0 (pg : Prg) (v0_0 v0_1 : PV) (v0_2 v0_3 v0_4 : PV) (gh : List GObj) : DR := onK (degr1 v0_0) (onK (degr1 v0_1) (onK (degr1 v0_2) (onK (degr1 v0_3) (onK (degr1 v0_4) (onK (degr1 (degr1 (degr1 v0_0))) (onK (degr1 (degr1 (degr1 v0_1))) (onK (degr1 (degr1 (degr1 v0_2))) (onK (degr1 (degr1 (degr1 v0_3))) (onK (degr1 (degr1 (degr1 v0_4))) (
  callR gh true (callL pg 101 [(.agg [(degr1 (degr1 (degr1 v0_0))), (degr1 (degr1 (degr1 v0_1))), (degr1 (degr1 (degr1 v0_2))), (degr1 (degr1 (degr1 v0_3))), (degr1 (degr1 (degr1 v0_4)))]), I 2] gh) fun r1 gh2 => isC r1 (onK (degr1 (degr1 (degr1 v0_0))) (onK (degr1 (degr1 (degr1 v0_1))) (onK (degr1 (degr1 (degr1 v0_2))) (onK (degr1 (degr1 (degr1 v0_3))) (onK (degr1 (degr1 (degr1 v0_4))) (arK (degr r1) (
  callR gh2 true (callL pg 105 [(.agg [(degr1 (degr1 (degr1 v0_0))), (degr1 (degr1 (degr1 v0_1))), (degr1 (degr1 (degr1 v0_2))), (degr1 (degr1 (degr1 v0_3))), (degr1 (degr1 (degr1 v0_4)))]), (degr r1)] gh2) fun r3 gh4 => unI .i64 r3 fun n5 => onK (degr1 (degr1 (degr1 v0_0))) (onK (degr1 (degr1 (degr1 v0_1))) (onK (degr1 (degr1 (degr1 v0_2))) (onK (degr1 (degr1 (degr1 v0_3))) (onK (degr1 (degr1 (degr1 v0_4))) (
  callR gh4 true (callL pg 101 [(.agg [(degr1 (degr1 (degr1 v0_0))), (degr1 (degr1 (degr1 v0_1))), (degr1 (degr1 (degr1 v0_2))), (degr1 (degr1 (degr1 v0_3))), (degr1 (degr1 (degr1 v0_4)))]), I 3] gh4) fun r6 gh7 => isC r6 (onK (degr1 (degr1 (degr1 v0_0))) (onK (degr1 (degr1 (degr1 v0_1))) (onK (degr1 (degr1 (degr1 v0_2))) (onK (degr1 (degr1 (degr1 v0_3))) (onK (degr1 (degr1 (degr1 v0_4))) (arK (degr r6) (
  callR gh7 true (callL pg 105 [(.agg [(degr1 (degr1 (degr1 v0_0))), (degr1 (degr1 (degr1 v0_1))), (degr1 (degr1 (degr1 v0_2))), (degr1 (degr1 (degr1 v0_3))), (degr1 (degr1 (degr1 v0_4)))]), (degr r6)] gh7) fun r8 gh9 => unI .i64 r8 fun n10 => some (.ret, ⟨[(2, I n5), (3, I n10)], [], gh9⟩))))))))))))))))))))))))))))))
theorem D_model_Bits_0_ok {v0_0 v0_1 : PV} {v0_2 v0_3 v0_4 : PV} (h : D_model_Bits_0 pg v0_0 v0_1 v0_2 v0_3 v0_4 gh = some (e, s)) : runL pg f_model_Bits_0 ⟨[(0, .agg [v0_0, v0_1, v0_2, v0_3, v0_4])], [], gh⟩ = some (e, s) :=
  runX_ok an_model_Bits (Eq.trans (by kernel_rfl) h)
end
end Go.Lw
end

/-! What the code of function model_bits comes to, piece by piece. Written by program (dprint.py). -/
section
set_option maxRecDepth 10000
set_option maxHeartbeats 4000000
namespace Go.Lw
open Go
noncomputable section
variable {pg : Prg} {gh : List GObj} {e : IExit} {s : St}
def an_model_bits : Tr := (tB 11 (tI 7 (tI 4 (tO 1 (.node 0 (.agg [.any, .any, .any, .any, .any]) .nil .nil) .nil) (uI 5)) (tI 9 (uO 8) (uI 10))) (tI 20 (tO 16 (tI 14 (uI 13) .nil) (uI 17)) (tI 22 (uI 21) (uI 23))))
def D_model_bits_b1 (pg : Prg) (x5 : Int) (v8 : PV) (x9 x10 : Int) (vc0_0 vc0_1 : PV) (vc0_2 vc0_3 vc0_4 : PV) (gh : List GObj) : DR :=
  br 11 (decide (x10 < x9)) (
  idX 1 none (degr v8) x10 fun p1 =>
  ldX [[vc0_0, vc0_1, vc0_2, vc0_3, vc0_4]] gh false 1 (degr p1) fun v2 => unI .i64 v2 fun n3 => stK 1 v8 (isC (degr vc0_0) (
  idX 6 none (degr (degr vc0_0)) n3 fun p4 => faX (degr p4) 1 fun p5 =>
  ldX [[vc0_0, vc0_1, vc0_2, vc0_3, vc0_4]] gh false 1 (degr p5) fun v6 => unI .i64 v6 fun n7 => stK 1 v8 (stK 1 v8 (stK 1 v8 (some (.normal, ⟨[(2, .ptr false 0 0), (5, (I (IntKind.i64.wrap (x5 + n7)))), (8, v8), (9, I x9), (10, (I (IntKind.i64.wrap (x10 + 1))))], [[vc0_0, vc0_1, vc0_2, vc0_3, vc0_4]], gh⟩))))))) (some ((.exit 0), ⟨[(2, .ptr false 0 0), (5, I x5), (8, v8), (9, I x9), (10, I x10), (11, (B (decide (x10 < x9))))], [[vc0_0, vc0_1, vc0_2, vc0_3, vc0_4]], gh⟩))
theorem D_model_bits_b1_ok {x5 : Int} {v8 : PV} {x9 x10 : Int} {vc0_0 vc0_1 : PV} {vc0_2 vc0_3 vc0_4 : PV} (h : D_model_bits_b1 pg x5 v8 x9 x10 vc0_0 vc0_1 vc0_2 vc0_3 vc0_4 gh = some (e, s)) : runL pg f_model_bits_b1 ⟨[(2, .ptr false 0 0), (5, I x5), (8, v8), (9, I x9), (10, I x10)], [[vc0_0, vc0_1, vc0_2, vc0_3, vc0_4]], gh⟩ = some (e, s) :=
  runX_ok an_model_bits (Eq.trans (by kernel_rfl) h)
def D_model_bits_k1 (pg : Prg) (x5 : Int) (gh : List GObj) : DR := some (.ret, ⟨[(4, I x5)], [], gh⟩)
theorem D_model_bits_k1_ok {x5 : Int} (h : D_model_bits_k1 pg x5 gh = some (e, s)) : runL pg f_model_bits_k1 ⟨[(5, I x5)], [], gh⟩ = some (e, s) :=
  runX_ok an_model_bits (Eq.trans (by kernel_rfl) h)
def D_model_bits_0 (pg : Prg) (v0_0 v0_1 : PV) (v0_2 v0_3 : PV) (v0_4 v1 : PV) (gh : List GObj) : DR := onK (degr1 v0_0) (onK (degr1 v0_1) (onK (degr1 v0_2) (onK (degr1 v0_3) (onK (degr1 v0_4) (stK 1 v1 (isC (degr v1) (lenS (degr (degr v1)) fun n1 => stK 1 (degr v1) (
  kR (runL pg f_model_bits_l1 ⟨[(2, .ptr false 0 0), (5, I 0), (8, (degr v1)), (9, (I (n1 : Int))), (10, I 0)], [[(degr1 v0_0), (degr1 v0_1), (degr1 v0_2), (degr1 v0_3), (degr1 v0_4)]], gh⟩) (fun e s => nx e s (fun e s => some (e, s)) fun s => kR (runL pg f_model_bits_k1 s) (fun e s => some (e, s)))))))))))
theorem D_model_bits_0_ok {v0_0 v0_1 : PV} {v0_2 v0_3 : PV} {v0_4 v1 : PV} (h : D_model_bits_0 pg v0_0 v0_1 v0_2 v0_3 v0_4 v1 gh = some (e, s)) : runL pg f_model_bits_0 ⟨[(0, .agg [v0_0, v0_1, v0_2, v0_3, v0_4]), (1, v1)], [], gh⟩ = some (e, s) :=
  runX_ok an_model_bits (Eq.trans (by kernel_rfl) h)
end
end Go.Lw
end

/-! What the code of function model_checker_lean comes to, piece by piece. Written by program (dprint.py). -/
section
set_option maxRecDepth 10000
set_option maxHeartbeats 4000000
namespace Go.Lw
open Go
noncomputable section
variable {pg : Prg} {gh : List GObj} {e : IExit} {s : St}
def an_model_checker_lean : Tr := (tI 28 (tI 18 (tO 11 (tI 6 (tB 4 (uG 0) .nil) (uG 7)) (tB 14 (tI 13 (uI 12) .nil) (.node 16 (.agg [.int .i64, .int .i64, .int .i64, .int .i64, .int .i64, .int .i64]) .nil .nil))) (tB 24 (tI 22 (tB 20 (uB 19) .nil) (uB 23)) (tO 26 (.node 25 (.agg [.int .i64, .int .i64, .int .i64, .int .i64, .int .i64, .int .i64]) .nil .nil) (uI 27)))) (tB 41 (tG 34 (tB 32 (tI 31 (uB 29) .nil) (uB 33)) (tI 38 (uO 37) (uB 40))) (tB 48 (tG 44 (tG 43 (uI 42) .nil) (uO 47)) (tO 50 (uO 49) (uI 53)))))
def D_model_checker_lean_b2 (pg : Prg) (g0 o0 : Nat) (b4 : Bool) (v11 : PV) (x12 x13 : Int) (v26 : PV) (x27 x28 : Int) (gh : List GObj) : DR :=
  br 29 (decide (x28 < x27)) (
  idX 1 none (degr v26) x28 fun p1 =>
  ldX [] gh false 1 (degr p1) fun v2 => unI .i64 v2 fun n3 => stK 0 v11 (stK 0 v26 (
  br 33 b4 (stK 0 v11 (stK 0 v26 (stK 0 v11 (stK 0 v26 (stK 0 v11 (stK 0 v26 (some (.normal, ⟨[(0, .ptr true g0 o0), (4, B true), (11, v11), (12, I x12), (13, I x13), (26, v26), (27, I x27), (28, (I (IntKind.i64.wrap (x28 + 1))))], [], gh⟩)))))))) (
  ob (ghCells gh g0) fun cs4 =>
  ob (grab false 1 (o0 + 5) cs4) fun v5 => isC (degr v5) (
  idX 1 none (degr (degr v5)) n3 fun p6 =>
  ldX [] gh false 1 (degr p6) fun v7 => unB v7 fun b8 => stK 0 v11 (stK 0 v26 (stK 0 v11 (stK 0 v26 (stK 0 v11 (stK 0 v26 (some (.normal, ⟨[(0, .ptr true g0 o0), (4, B b8), (11, v11), (12, I x12), (13, I x13), (26, v26), (27, I x27), (28, (I (IntKind.i64.wrap (x28 + 1))))], [], gh⟩)))))))))))) (some ((.exit 2), ⟨[(0, .ptr true g0 o0), (4, B b4), (11, v11), (12, I x12), (13, I x13), (26, v26), (27, I x27), (28, I x28), (29, (B (decide (x28 < x27))))], [], gh⟩))
theorem D_model_checker_lean_b2_ok {g0 o0 : Nat} {b4 : Bool} {v11 : PV} {x12 x13 : Int} {v26 : PV} {x27 x28 : Int} (h : D_model_checker_lean_b2 pg g0 o0 b4 v11 x12 x13 v26 x27 x28 gh = some (e, s)) : runL pg f_model_checker_lean_b2 ⟨[(0, .ptr true g0 o0), (4, B b4), (11, v11), (12, I x12), (13, I x13), (26, v26), (27, I x27), (28, I x28)], [], gh⟩ = some (e, s) :=
  runX_ok an_model_checker_lean (Eq.trans (by kernel_rfl) h)
def D_model_checker_lean_k1 (pg : Prg) (g0 o0 : Nat) (b4 : Bool) (v11 : PV) (x12 x13 : Int) (gh : List GObj) : DR :=
  ob (ghCells gh g0) fun cs1 => ob (cs1[(o0 + 5)]?) fun v2 =>
  apX 1 1 v2 (.sl false 1 [B b4]) fun l3 =>
  ob (ghCells (List.set gh g0 (.cells (spliceAt cs1 (o0 + 5) [degr1 v2]))) g0) fun cs4 => gb (stOk 1 (o0 + 5) [.sl true 1 l3] cs4) (stK 0 v11 (some (.normal, ⟨[(0, .ptr true g0 o0), (11, v11), (12, I x12), (13, I x13)], [], (List.set (List.set gh g0 (.cells (spliceAt cs1 (o0 + 5) [degr1 v2]))) g0 (.cells (spliceAt cs4 (o0 + 5) [.sl true 1 l3])))⟩)))
theorem D_model_checker_lean_k1_ok {g0 o0 : Nat} {b4 : Bool} {v11 : PV} {x12 x13 : Int} (h : D_model_checker_lean_k1 pg g0 o0 b4 v11 x12 x13 gh = some (e, s)) : runL pg f_model_checker_lean_k1 ⟨[(0, .ptr true g0 o0), (4, B b4), (11, v11), (12, I x12), (13, I x13)], [], gh⟩ = some (e, s) :=
  runX_ok an_model_checker_lean (Eq.trans (by kernel_rfl) h)
def D_model_checker_lean_k2 (pg : Prg) (g0 o0 : Nat) (v11 : PV) (x12 x13 : Int) (gh : List GObj) : DR := stK 0 v11 (some (.normal, ⟨[(0, .ptr true g0 o0), (11, v11), (12, I x12), (13, (I (IntKind.i64.wrap (x13 + 1))))], [], gh⟩))
theorem D_model_checker_lean_k2_ok {g0 o0 : Nat} {v11 : PV} {x12 x13 : Int} (h : D_model_checker_lean_k2 pg g0 o0 v11 x12 x13 gh = some (e, s)) : runL pg f_model_checker_lean_k2 ⟨[(0, .ptr true g0 o0), (11, v11), (12, I x12), (13, I x13)], [], gh⟩ = some (e, s) :=
  runX_ok an_model_checker_lean (Eq.trans (by kernel_rfl) h)
def D_model_checker_lean_b1 (pg : Prg) (g0 o0 : Nat) (v11 : PV) (x12 x13 : Int) (gh : List GObj) : DR :=
  br 14 (decide (x13 < x12)) (
  idX 6 none (degr v11) x13 fun p1 =>
  ldX [] gh true 6 (degr p1) fun v2 => unA 6 v2 fun c3 c4 c5 c6 c7 c8 => unI .i64 c3 fun n9 => unI .i64 c4 fun n10 => unI .i64 c5 fun n11 => unI .i64 c6 fun n12 => unI .i64 c7 fun n13 => unI .i64 c8 fun n14 => stK 1 v11 (
  br 20 (n9 == 2) (stK 1 v11 (
  callR gh true (callL pg 81 [.agg [I n9, I n10, I n11, I n12, I n13, I n14]] gh) fun r15 gh16 => isC r15 (lenS (degr r15) fun n17 => stK 0 v11 (stK 0 r15 (
  kR (runL pg f_model_checker_lean_l2 ⟨[(0, .ptr true g0 o0), (4, B true), (11, v11), (12, I x12), (13, I x13), (26, r15), (27, (I (n17 : Int))), (28, I 0)], [], gh16⟩) (fun e s => nx e s (fun e s => bk 1 e s (fun e s => nx e s (fun e s => po [0, 11, 12, 13] 0 e s (fun e s => some (e, s))) fun s => kR (runL pg f_model_checker_lean_k2 s) (fun e s => po [0, 11, 12, 13] 0 e s (fun e s => some (e, s))))) fun s => kR (runL pg f_model_checker_lean_k1 s) (fun e s => bk 1 e s (fun e s => nx e s (fun e s => po [0, 11, 12, 13] 0 e s (fun e s => some (e, s))) fun s => kR (runL pg f_model_checker_lean_k2 s) (fun e s => po [0, 11, 12, 13] 0 e s (fun e s => some (e, s))))))))))) (stK 1 v11 (
  callR gh true (callL pg 81 [.agg [I n9, I n10, I n11, I n12, I n13, I n14]] gh) fun r18 gh19 => isC r18 (lenS (degr r18) fun n20 => stK 0 v11 (stK 0 r18 (
  kR (runL pg f_model_checker_lean_l2 ⟨[(0, .ptr true g0 o0), (4, (B (n9 == 3))), (11, v11), (12, I x12), (13, I x13), (26, r18), (27, (I (n20 : Int))), (28, I 0)], [], gh19⟩) (fun e s => nx e s (fun e s => bk 1 e s (fun e s => nx e s (fun e s => po [0, 11, 12, 13] 0 e s (fun e s => some (e, s))) fun s => kR (runL pg f_model_checker_lean_k2 s) (fun e s => po [0, 11, 12, 13] 0 e s (fun e s => some (e, s))))) fun s => kR (runL pg f_model_checker_lean_k1 s) (fun e s => bk 1 e s (fun e s => nx e s (fun e s => po [0, 11, 12, 13] 0 e s (fun e s => some (e, s))) fun s => kR (runL pg f_model_checker_lean_k2 s) (fun e s => po [0, 11, 12, 13] 0 e s (fun e s => some (e, s))))))))))))) (some ((.exit 0), ⟨[(0, .ptr true g0 o0), (11, v11), (12, I x12), (13, I x13), (14, (B (decide (x13 < x12))))], [], gh⟩))
theorem D_model_checker_lean_b1_ok {g0 o0 : Nat} {v11 : PV} {x12 x13 : Int} (h : D_model_checker_lean_b1 pg g0 o0 v11 x12 x13 gh = some (e, s)) : runL pg f_model_checker_lean_b1 ⟨[(0, .ptr true g0 o0), (11, v11), (12, I x12), (13, I x13)], [], gh⟩ = some (e, s) :=
  runX_ok an_model_checker_lean (Eq.trans (by kernel_rfl) h)
def D_model_checker_lean_0 (pg : Prg) (g0 o0 : Nat) (gh : List GObj) : DR :=
  ob (ghCells gh g0) fun cs1 =>
  ob (grab false 1 ((o0 + 0) + 0) cs1) fun v2 => isC (degr v2) (lenS (degr (degr v2)) fun n3 => stK 0 (degr v2) (
  kR (runL pg f_model_checker_lean_l1 ⟨[(0, .ptr true g0 o0), (11, (degr v2)), (12, (I (n3 : Int))), (13, I 0)], [], gh⟩) (fun e s => some (e, s))))
theorem D_model_checker_lean_0_ok {g0 o0 : Nat} (h : D_model_checker_lean_0 pg g0 o0 gh = some (e, s)) : runL pg f_model_checker_lean_0 ⟨[(0, .ptr true g0 o0)], [], gh⟩ = some (e, s) :=
  runX_ok an_model_checker_lean (Eq.trans (by kernel_rfl) h)
end
end Go.Lw
end

/-! What the code of function model_checker_is comes to, piece by piece. Written by program (dprint.py). -/
section
set_option maxRecDepth 10000
set_option maxHeartbeats 4000000
namespace Go.Lw
open Go
noncomputable section
variable {pg : Prg} {gh : List GObj} {e : IExit} {s : St}
def an_model_checker_is : Tr := (tI 8 (tI 5 (tI 1 (uG 0) (uB 4)) (tB 7 (uB 6) .nil)) (tI 14 (tO 13 (uG 9) .nil) (tB 16 (uB 15) .nil)))
def D_model_checker_is_0 (pg : Prg) (g0 o0 : Nat) (x1 : Int) (gh : List GObj) : DR :=
  br 7 (decide (0 ≤ x1)) (
  ob (ghCells gh g0) fun cs1 =>
  ob (grab false 1 ((o0 + 0) + 0) cs1) fun v2 => isC (degr v2) (lenS (degr (degr v2)) fun n3 => some (.ret, ⟨[(4, (B (decide (x1 < (n3 : Int)))))], [], gh⟩))) (some (.ret, ⟨[(4, B false)], [], gh⟩))
theorem D_model_checker_is_0_ok {g0 o0 : Nat} {x1 : Int} (h : D_model_checker_is_0 pg g0 o0 x1 gh = some (e, s)) : runL pg f_model_checker_is_0 ⟨[(0, .ptr true g0 o0), (1, I x1)], [], gh⟩ = some (e, s) :=
  runX_ok an_model_checker_is (Eq.trans (by kernel_rfl) h)
end
end Go.Lw
end

/-! What the code of function model_checker_pair comes to, piece by piece. Written by program (dprint.py). -/
section
set_option maxRecDepth 10000
set_option maxHeartbeats 4000000
namespace Go.Lw
open Go
noncomputable section
variable {pg : Prg} {gh : List GObj} {e : IExit} {s : St}
def an_model_checker_pair : Tr := (tB 31 (tG 14 (tG 8 (tB 2 (.node 1 (.agg [.int .i64, .int .i64]) (uG 0) .nil) (tB 7 (uI 6) .nil)) (tB 12 (tB 11 (uI 10) .nil) (uB 13))) (tB 20 (tB 18 (tB 17 (uI 16) .nil) (uB 19)) (tI 27 (tO 25 (uG 21) .nil) (uI 30)))) (tI 53 (tI 40 (tG 34 (tB 33 (uB 32) .nil) (uO 38)) (tO 48 (tG 44 (uI 43) .nil) (uI 50))) (tG 58 (tB 56 (tB 55 (uB 54) .nil) (uB 57)) (tB 65 (tI 63 (uO 61) .nil) (uB 66)))))
def D_model_checker_pair_0 (pg : Prg) (g0 o0 : Nat) (x1_0 x1_1 : Int) (b2 : Bool) (gh : List GObj) : DR :=
  callR gh true (callL pg 118 [.ptr true g0 o0, I x1_0] gh) fun r1 gh2 => unB r1 fun b3 =>
  br 13 (!b3) (some (.ret, ⟨[(6, I 5)], [], gh2⟩)) (
  callR gh2 true (callL pg 118 [.ptr true g0 o0, I x1_1] gh2) fun r4 gh5 => unB r4 fun b6 =>
  br 20 (!b6) (some (.ret, ⟨[(6, I 5)], [], gh5⟩)) (
  ob (ghCells gh5 g0) fun cs7 =>
  ob (grab false 1 ((o0 + 0) + 0) cs7) fun v8 => isC (degr v8) (
  idX 6 none (degr (degr v8)) x1_0 fun p9 => faX (degr p9) 0 fun p10 =>
  ldX [[I x1_0, I x1_1]] gh5 false 1 (degr p10) fun v11 => unI .i64 v11 fun n12 =>
  br 7 (n12 != 3) (some (.ret, ⟨[(6, I 5)], [], gh5⟩)) (
  ob (ghCells gh5 g0) fun cs13 =>
  ob (grab false 1 ((o0 + 0) + 0) cs13) fun v14 => isC (degr v14) (
  idX 6 none (degr (degr v14)) x1_0 fun p15 => faX (degr p15) 1 fun p16 =>
  ldX [[I x1_0, I x1_1]] gh5 false 1 (degr p16) fun v17 => unI .i64 v17 fun n18 =>
  ob (ghCells gh5 g0) fun cs19 =>
  ob (grab false 1 ((o0 + 0) + 0) cs19) fun v20 => isC (degr v20) (
  idX 6 none (degr (degr v20)) x1_1 fun p21 => faX (degr p21) 1 fun p22 =>
  ldX [[I x1_0, I x1_1]] gh5 false 1 (degr p22) fun v23 => unI .i64 v23 fun n24 =>
  br 33 (n18 != n24) (some (.ret, ⟨[(6, I 1)], [], gh5⟩)) (
  br 57 b2 (
  ob (ghCells gh5 g0) fun cs25 =>
  ob (grab false 1 (o0 + 5) cs25) fun v26 => isC (degr v26) (
  idX 1 none (degr (degr v26)) x1_1 fun p27 =>
  ldX [[I x1_0, I x1_1]] gh5 false 1 (degr p27) fun v28 => unB v28 fun b29 =>
  br 55 b29 (some (.ret, ⟨[(6, I 4)], [], gh5⟩)) (some (.ret, ⟨[(6, I 0)], [], gh5⟩)))) (some (.ret, ⟨[(6, I 0)], [], gh5⟩)))))))))
theorem D_model_checker_pair_0_ok {g0 o0 : Nat} {x1_0 x1_1 : Int} {b2 : Bool} (h : D_model_checker_pair_0 pg g0 o0 x1_0 x1_1 b2 gh = some (e, s)) : runL pg f_model_checker_pair_0 ⟨[(0, .ptr true g0 o0), (1, .agg [I x1_0, I x1_1]), (2, B b2)], [], gh⟩ = some (e, s) :=
  runX_ok an_model_checker_pair (Eq.trans (by kernel_rfl) h)
end
end Go.Lw
end

/-! Models: nodes of a kind, bits, and what hangs on an input (the program). -/
section
namespace Go.Lw
open Go
structure Md where
  nodes : List Nd
  inits : List (Int × Int)
  nexts : List (Int × Int)
  bads : List Int
  holds : List Int
abbrev LP (l : List (Int × Int)) : PV := .sl false 2 (l.map andV)
def modelV (m : Md) : PV := .agg [LN m.nodes, LP m.inits, LP m.nexts, LI m.bads, LI m.holds]
theorem modelV_def (m : Md) : modelV m = .agg [LN m.nodes, LP m.inits, LP m.nexts, LI m.bads, LI m.holds] := rfl
def kindF (kind : Int) : Nat → List Nd → List Int
  | _, [] => []
  | i, x :: l => if x.k = kind then (i : Int) :: kindF kind (i + 1) l else kindF kind (i + 1) l
def kindL (l : List Nd) (kind : Int) : List Int := kindF kind 0 l
theorem kindF_len (kind : Int) : ∀ (i : Nat) (l : List Nd), (kindF kind i l).length ≤ l.length
  | _, [] => Nat.le_refl _
  | i, x :: l => by
    have := kindF_len kind (i + 1) l
    rw [kindF]; split <;> simp <;> omega
theorem kindF_mem {kind : Int} : ∀ {i : Nat} {l : List Nd} {a : Int}, a ∈ kindF kind i l ↔ ∃ j, j < l.length ∧ a = ((i + j : Nat) : Int) ∧ (l[j]?.map (·.k)) = some kind
  | i, [], a => by simp [kindF]
  | i, x :: l, a => by
    have ih := kindF_mem (kind := kind) (i := i + 1) (l := l) (a := a)
    rw [kindF]
    constructor
    · intro h
      split at h
      · rename_i hk
        rcases List.mem_cons.1 h with h | h
        · exact ⟨0, by simp, by simpa using h, by simp [hk]⟩
        · obtain ⟨j, h1, h2, h3⟩ := ih.1 h
          exact ⟨j + 1, by simp; omega, by rw [h2]; omega, by simpa using h3⟩
      · obtain ⟨j, h1, h2, h3⟩ := ih.1 h
        exact ⟨j + 1, by simp; omega, by rw [h2]; omega, by simpa using h3⟩
    · rintro ⟨j, h1, h2, h3⟩
      cases j with
      | zero =>
        simp at h3
        rw [if_pos h3]
        exact List.mem_cons.2 (.inl (by simpa using h2))
      | succ j =>
        have := ih.2 ⟨j, by simpa using h1, by rw [h2]; omega, by simpa using h3⟩
        split
        · exact List.mem_cons_of_mem _ this
        · exact this
section
variable {m : Md} {gh : List GObj}
def ofkSt (l : List Nd) (kind : Int) (acc : List Int) (i : Nat) (gh : List GObj) : St :=
  ⟨[(1, I kind), (5, .sl true 1 (acc.map I)), (9, LN l), (10, I l.length), (11, I (i : Int))], [], gh⟩
theorem ofk_k1 {l : List Nd} {kind : Int} {acc : List Int} {i : Nat} (hi : i ≤ 100000) : runL pg f_model_Of_k1 ⟨[(1, I kind), (5, .sl true 1 (acc.map I)), (9, LN l), (10, I l.length), (11, I (i : Int))], [], gh⟩ = some (.normal, ofkSt l kind acc (i + 1) gh) := by
  have e2 : IntKind.i64.wrap ((i : Int) + 1) = ((i + 1 : Nat) : Int) := by rw [wrap_id (by omega) (by omega)]; omega
  refine D_model_Of_k1_ok ?_
  simp [D_model_Of_k1, e2, ofkSt]
theorem Ofk_loop {l : List Nd} {kind : Int} (hl : l.length ≤ 1000) : ∀ k i (acc : List Int), i + k = l.length → acc.length ≤ i →
    runL pg f_model_Of_l1 (ofkSt l kind acc i gh) = some (.normal, ⟨[(5, .sl true 1 ((acc ++ kindF kind i (l.drop i)).map I))], [], gh⟩)
  | 0, i, acc, h, _ => by
    rw [List.drop_eq_nil_of_le (by omega)]
    have hlt : ¬ (i : Int) < (l.length : Int) := by omega
    refine (lp_exit (s1 := ?s1) (D_model_Of_b1_ok ?h1)).trans ?r1
    case h1 => simp only [D_model_Of_b1, decide_eq_false hlt, br_false]; rfl
    case r1 => simp [keep, kindF, stays]
  | k + 1, i, acc, h, ha => by
    have hlt : i < l.length := by omega
    have hltI : (i : Int) < (l.length : Int) := by omega
    have hx : (l.map nodeV)[i]? = some (nodeV l[i]) := by simp [List.getElem?_eq_getElem hlt]
    rw [nodeV_def l[i]] at hx
    have hmx : (acc.length + 1) * 8 ≤ maxBytes := by
      have : maxBytes = 140737488355328 := rfl
      omega
    rw [List.drop_eq_getElem_cons hlt, kindF]
    generalize l[i] = x at *
    by_cases hk : x.k = kind
    · rw [if_pos hk]
      have hk1 := ofk_k1 (gh := gh) (l := l) (kind := kind) (acc := acc ++ [(i : Int)]) (i := i) (by omega)
      have e : acc ++ (i : Int) :: kindF kind (i + 1) (l.drop (i + 1)) = (acc ++ [(i : Int)]) ++ kindF kind (i + 1) (l.drop (i + 1)) := by simp
      rw [e]
      refine lp_next (s1 := ofkSt l kind (acc ++ [(i : Int)]) (i + 1) gh) (D_model_Of_b1_ok ?_) (Ofk_loop hl k (i + 1) _ (by omega) (by simp; omega))
      have hal : (acc.map I).length = acc.length := by simp
      unfold ofkSt at *
      simp only [List.map_append, List.map_cons, List.map_nil] at hk1 ⊢
      generalize acc.map I = A at *
      simp [D_model_Of_b1, hltI, hx, hk, hal, hmx, hk1, -List.getElem?_map]
    · rw [if_neg hk]
      have hk1 := ofk_k1 (gh := gh) (l := l) (kind := kind) (acc := acc) (i := i) (by omega)
      refine lp_next (s1 := ofkSt l kind acc (i + 1) gh) (D_model_Of_b1_ok ?_) (Ofk_loop hl k (i + 1) _ (by omega) (by omega))
      unfold ofkSt at *
      generalize acc.map I = A at *
      simp [D_model_Of_b1, hltI, hx, hk, hk1, -List.getElem?_map]
theorem Ofk_eq {kind : Int} (hl : m.nodes.length ≤ 1000) : callL pg 101 [modelV m, I kind] gh = some (LI (kindL m.nodes kind), gh) := by
  have h := Ofk_loop (gh := gh) (l := m.nodes) (kind := kind) hl m.nodes.length 0 [] (by omega) (by simp)
  rw [List.drop_zero, List.nil_append] at h
  unfold ofkSt at h
  simp only [List.map_nil, Int.natCast_zero] at h
  have hn := noGs_ints (kindF kind 0 m.nodes)
  have hln : (m.nodes.map nodeV).length = m.nodes.length := by simp
  have hk := D_model_Of_k2_ok (pg := pg) (gh := gh) (v5 := .sl true 1 ((kindF kind 0 m.nodes).map I)) (e := .ret) (s := ⟨[(4, .sl false 1 ((kindF kind 0 m.nodes).map I))], [], gh⟩) (by simp [D_model_Of_k2])
  unfold kindL
  simp only [LI]
  generalize (kindF kind 0 m.nodes).map I = K at *
  rw [modelV_def]
  refine callL_fn (fn := f_model_Of) (s := ⟨[(4, .sl false 1 K)], [], gh⟩) rfl rfl (D_model_Of_0_ok ?h1) ?r1
  case h1 => simp [D_model_Of_0, h, hk]
  case r1 => simp [finish, results, f_model_Of, resOfs, resOf, resOk, hn]
def addW (s : Int) (x : Nd) : Int := IntKind.i64.wrap (s + x.w)
def bitsK (l : List Nd) (kind : Int) : Int := (l.filter fun x => decide (x.k = kind)).foldl addW 0
theorem bits_fold (L : List Nd) (kind : Int) : ∀ (i : Nat) (l : List Nd) (s : Int), l = L.drop i → (kindF kind i l).foldl (fun s a => IntKind.i64.wrap (s + wAt L a)) s = (l.filter fun x => decide (x.k = kind)).foldl addW s
  | _, [], _, _ => rfl
  | i, x :: l, s, h => by
    have hi : L[i]? = some x := by
      have := congrArg (·[0]?) h
      simpa using this.symm
    have hd : l = L.drop (i + 1) := by
      have := congrArg List.tail h
      rw [List.tail_drop] at this
      exact this
    have hw : wAt L (i : Int) = x.w := by unfold wAt; simp [List.getD_eq_getElem?_getD, hi]
    rw [kindF, List.filter_cons]
    by_cases hk : x.k = kind
    · rw [if_pos hk, if_pos (by simpa using hk), List.foldl_cons, List.foldl_cons, hw]
      exact bits_fold L kind (i + 1) l _ hd
    · rw [if_neg hk, if_neg (by simpa using hk)]
      exact bits_fold L kind (i + 1) l s hd
def biSt (m : Md) (xs : List Int) (s : Int) (i : Nat) (gh : List GObj) : St :=
  ⟨[(2, .ptr false 0 0), (5, I s), (8, LI xs), (9, I xs.length), (10, I (i : Int))], [[LN m.nodes, LP m.inits, LP m.nexts, LI m.bads, LI m.holds]], gh⟩
theorem bits_loop {xs : List Int} (hx : ∀ a ∈ xs, isNo m.nodes a) (hl : xs.length ≤ 1000) : ∀ k i s, i + k = xs.length →
    runL pg f_model_bits_l1 (biSt m xs s i gh) = some (.normal, ⟨[(5, I ((xs.drop i).foldl (fun s a => IntKind.i64.wrap (s + wAt m.nodes a)) s))], [], gh⟩)
  | 0, i, s, h => by
    rw [List.drop_eq_nil_of_le (by omega)]
    have hlt : ¬ (i : Int) < (xs.length : Int) := by omega
    refine (lp_exit (s1 := ?s1) (D_model_bits_b1_ok ?h1)).trans ?r1
    case h1 => simp only [D_model_bits_b1, decide_eq_false hlt, br_false]; rfl
    case r1 => simp [keep, stays]
  | k + 1, i, s, h => by
    have hlt : i < xs.length := by omega
    have hltI : (i : Int) < (xs.length : Int) := by omega
    have e2 : IntKind.i64.wrap ((i : Int) + 1) = ((i + 1 : Nat) : Int) := by rw [wrap_id (by omega) (by omega)]; omega
    have hg : (xs.map I)[i]? = some (I xs[i]) := by simp [List.getElem?_eq_getElem hlt]
    have hno := hx _ (List.getElem_mem hlt)
    have hn := node_at hno
    have h0 := hno.1
    rw [List.drop_eq_getElem_cons hlt, List.foldl_cons]
    generalize xs[i] = a at *
    refine lp_next (s1 := biSt m xs (IntKind.i64.wrap (s + wAt m.nodes a)) (i + 1) gh) (D_model_bits_b1_ok ?_) (bits_loop hx hl k (i + 1) _ (by omega))
    unfold biSt wAt
    generalize m.nodes.getD a.toNat default = d at *
    rw [nodeV_def d] at hn
    simp [D_model_bits_b1, hltI, hg, h0, hn, e2, -List.getElem?_map]
theorem bits_eq {xs : List Int} (hx : ∀ a ∈ xs, isNo m.nodes a) (hl : xs.length ≤ 1000) : callL pg 105 [modelV m, LI xs] gh = some (I (xs.foldl (fun s a => IntKind.i64.wrap (s + wAt m.nodes a)) 0), gh) := by
  have h := bits_loop (gh := gh) hx hl xs.length 0 0 (by omega)
  rw [List.drop_zero] at h
  unfold biSt at h
  simp only [Int.natCast_zero] at h
  generalize xs.foldl (fun s a => IntKind.i64.wrap (s + wAt m.nodes a)) 0 = r at *
  have hk := D_model_bits_k1_ok (pg := pg) (gh := gh) (x5 := r) rfl
  rw [modelV_def]
  refine callL_fn (fn := f_model_bits) (s := ⟨[(4, I r)], [], gh⟩) rfl rfl (D_model_bits_0_ok ?h1) ?r1
  case h1 => simp [D_model_bits_0, h, hk]
  case r1 => simp [finish, results, f_model_bits, resOfs, resOf, resOk]
theorem kindL_no {l : List Nd} {kind a : Int} (h : a ∈ kindL l kind) : isNo l a := by
  obtain ⟨j, h1, h2, -⟩ := kindF_mem.1 h
  exact ⟨by omega, by omega⟩
theorem Bits_eq (hl : m.nodes.length ≤ 1000) : callL pg 77 [modelV m] gh = some (.tup [I (bitsK m.nodes 2), I (bitsK m.nodes 3)], gh) := by
  have b : ∀ kind, callL pg 105 [modelV m, LI (kindL m.nodes kind)] gh = some (I (bitsK m.nodes kind), gh) := fun kind => by
    have h := bits_eq (m := m) (gh := gh) (xs := kindL m.nodes kind) (fun a ha => kindL_no ha) (Nat.le_trans (kindF_len kind 0 m.nodes) hl)
    have e := bits_fold m.nodes kind 0 m.nodes 0 rfl
    unfold kindL at h ⊢
    rw [e] at h
    exact h
  have o2 := Ofk_eq (m := m) (gh := gh) (kind := 2) hl
  have o3 := Ofk_eq (m := m) (gh := gh) (kind := 3) hl
  have b2 := b 2
  have b3 := b 3
  rw [modelV_def] at *
  refine callL_fn (fn := f_model_Bits) (s := ⟨[(2, I (bitsK m.nodes 2)), (3, I (bitsK m.nodes 3))], [], gh⟩) rfl rfl (D_model_Bits_0_ok ?h1) ?r1
  case h1 => simp [D_model_Bits_0, o2, o3, b2, b3]
  case r1 => simp [finish, results, f_model_Bits, resOfs, resOf, resOk]
def hangB (f : List Bool) (x : Nd) : Bool := decide (x.k = 2 ∨ x.k = 3) || (argsL x).any fun a => f.getD a.toNat false
def hangF : List Bool → List Nd → List Bool
  | f, [] => f
  | f, x :: l => hangF (f ++ [hangB f x]) l
theorem hangF_len : ∀ (f : List Bool) (l : List Nd), (hangF f l).length = f.length + l.length
  | f, [] => rfl
  | f, x :: l => by rw [hangF, hangF_len]; simp; omega
def Ahead (l : List Nd) : Prop := ∀ (i : Nat) (x : Nd), l[i]? = some x → ∀ a ∈ argsL x, 0 ≤ a ∧ a < i
def ckG (gh : List GObj) (m : Md) (f : List Bool) : List GObj := gh ++ [.cells [LN m.nodes, LP m.inits, LP m.nexts, LI m.bads, LI m.holds, .sl true 1 (f.map B)]]
theorem fr_idx {f : List Bool} {a : Int} (h : a.toNat < f.length) : (f.map B)[a.toNat]? = some (B (f.getD a.toNat false)) := by
  rw [List.getElem?_map, List.getElem?_eq_getElem h]
  simp [List.getD_eq_getElem?_getD, List.getElem?_eq_getElem h]
def le2St (m : Md) (f : List Bool) (xs : List Int) (b : Bool) (i j : Nat) (gh : List GObj) : St :=
  ⟨[(0, .ptr true gh.length 0), (4, B b), (11, LN m.nodes), (12, I m.nodes.length), (13, I (i : Int)), (26, LI xs), (27, I xs.length), (28, I (j : Int))], [], ckG gh m f⟩
theorem lean_loop2 {f : List Bool} {xs : List Int} {i : Nat} (hx : ∀ a ∈ xs, 0 ≤ a ∧ a.toNat < f.length) (hl : xs.length ≤ 1000) : ∀ k j b, j + k = xs.length →
    runL pg f_model_checker_lean_l2 (le2St m f xs b i j gh) = some (.normal, ⟨[(0, .ptr true gh.length 0), (4, B (b || (xs.drop j).any fun a => f.getD a.toNat false)), (11, LN m.nodes), (12, I m.nodes.length), (13, I (i : Int))], [], ckG gh m f⟩)
  | 0, j, b, h => by
    rw [List.drop_eq_nil_of_le (by omega)]
    have hlt : ¬ (j : Int) < (xs.length : Int) := by omega
    refine (lp_exit (s1 := ?s1) (D_model_checker_lean_b2_ok ?h1)).trans ?r1
    case h1 => simp only [D_model_checker_lean_b2, decide_eq_false hlt, br_false]; rfl
    case r1 => simp [keep, stays]
  | k + 1, j, b, h => by
    have hlt : j < xs.length := by omega
    have hltI : (j : Int) < (xs.length : Int) := by omega
    have e2 : IntKind.i64.wrap ((j : Int) + 1) = ((j + 1 : Nat) : Int) := by rw [wrap_id (by omega) (by omega)]; omega
    have hg : (xs.map I)[j]? = some (I xs[j]) := by simp [List.getElem?_eq_getElem hlt]
    obtain ⟨h0, h1⟩ := hx _ (List.getElem_mem hlt)
    rw [List.drop_eq_getElem_cons hlt, List.any_cons, ← Bool.or_assoc]
    generalize xs[j] = a at *
    have hfr := fr_idx h1
    generalize f.getD a.toNat false = c at *
    refine lp_next (s1 := le2St m f xs (b || c) i (j + 1) gh) (D_model_checker_lean_b2_ok ?_) (lean_loop2 hx hl k (j + 1) _ (by omega))
    unfold le2St ckG
    cases b with
    | true => simp [D_model_checker_lean_b2, hltI, hg, e2, -List.getElem?_map]
    | false => simp [D_model_checker_lean_b2, hltI, hg, h0, hfr, e2, -List.getElem?_map]
def le1St (m : Md) (f : List Bool) (i : Nat) (gh : List GObj) : St :=
  ⟨[(0, .ptr true gh.length 0), (11, LN m.nodes), (12, I m.nodes.length), (13, I (i : Int))], [], ckG gh m f⟩
theorem lean_loop1 (hA : Ahead m.nodes) (hl : m.nodes.length ≤ 1000) : ∀ k i f, i + k = m.nodes.length → f.length = i →
    runL pg f_model_checker_lean_l1 (le1St m f i gh) = some (.normal, ⟨[], [], ckG gh m (hangF f (m.nodes.drop i))⟩)
  | 0, i, f, h, _ => by
    rw [List.drop_eq_nil_of_le (by omega)]
    have hlt : ¬ (i : Int) < (m.nodes.length : Int) := by omega
    refine (lp_exit (s1 := ?s1) (D_model_checker_lean_b1_ok ?h1)).trans ?r1
    case h1 => simp only [D_model_checker_lean_b1, decide_eq_false hlt, br_false]; rfl
    case r1 => simp [keep, hangF]
  | k + 1, i, f, h, hf => by
    have hlt : i < m.nodes.length := by omega
    have hltI : (i : Int) < (m.nodes.length : Int) := by omega
    have e2 : IntKind.i64.wrap ((i : Int) + 1) = ((i + 1 : Nat) : Int) := by rw [wrap_id (by omega) (by omega)]; omega
    have hx : (m.nodes.map nodeV)[i]? = some (nodeV m.nodes[i]) := by simp [List.getElem?_eq_getElem hlt]
    have hah := hA i _ (List.getElem?_eq_getElem hlt)
    rw [List.drop_eq_getElem_cons hlt, hangF]
    generalize m.nodes[i] = x at *
    rw [nodeV_def x] at hx
    have hArg := Args_eq x (ckG gh m f)
    rw [nodeV_def x] at hArg
    have hal : (argsL x).length ≤ 3 := by unfold argsL; simp; omega
    have hl2 : ∀ b, runL pg f_model_checker_lean_l2 (le2St m f (argsL x) b i 0 gh) = _ := fun b => lean_loop2 (i := i) (fun a ha => ⟨(hah a ha).1, by have := hah a ha; omega⟩) (by omega) (argsL x).length 0 b (by omega)
    rw [List.drop_zero] at hl2
    generalize hany : ((argsL x).any fun a => f.getD a.toNat false) = c at *
    have hB : hangB f x = (decide (x.k = 2 ∨ x.k = 3) || c) := by unfold hangB; rw [hany]
    rw [hB]
    have hmx : f.length + 1 ≤ maxBytes := by
      have : maxBytes = 140737488355328 := rfl
      omega
    refine lp_next (s1 := le1St m (f ++ [decide (x.k = 2 ∨ x.k = 3) || c]) (i + 1) gh) (D_model_checker_lean_b1_ok ?_) (lean_loop1 hA hl k (i + 1) _ (by omega) (by simp; omega))
    have hk1 : ∀ b, runL pg f_model_checker_lean_k1 ⟨[(0, .ptr true gh.length 0), (4, B b), (11, LN m.nodes), (12, I m.nodes.length), (13, I (i : Int))], [], ckG gh m f⟩ = some (.normal, ⟨[(0, .ptr true gh.length 0), (11, LN m.nodes), (12, I m.nodes.length), (13, I (i : Int))], [], ckG gh m (f ++ [b])⟩) := fun b => by
      refine D_model_checker_lean_k1_ok ?_
      simp [D_model_checker_lean_k1, ckG, spliceAt, hmx]
    have hk2 : ∀ b, runL pg f_model_checker_lean_k2 ⟨[(0, .ptr true gh.length 0), (11, LN m.nodes), (12, I m.nodes.length), (13, I (i : Int))], [], ckG gh m (f ++ [b])⟩ = some (.normal, le1St m (f ++ [b]) (i + 1) gh) := fun b => by
      refine D_model_checker_lean_k2_ok ?_
      simp [D_model_checker_lean_k2, e2, le1St]
    unfold le2St at hl2
    simp only [Int.natCast_zero] at hl2
    unfold le1St at *
    generalize ckG gh m f = g0 at *
    by_cases h2 : x.k = 2
    · have hd : decide (x.k = 2 ∨ x.k = 3) = true := decide_eq_true (.inl h2)
      have d2 : decide (x.k = 2) = true := decide_eq_true h2
      rw [hd]
      have := hl2 true
      have k1' := hk1 (true || c)
      have k2' := hk2 (true || c)
      generalize ckG gh m (f ++ [true || c]) = g1 at *
      simp only [Bool.true_or] at this k1' k2'
      simp [D_model_checker_lean_b1, hltI, hx, d2, hArg, this, k1', k2', -List.getElem?_map]
    · have d2 : decide (x.k = 2) = false := decide_eq_false h2
      have hd : decide (x.k = 2 ∨ x.k = 3) = decide (x.k = 3) := by simp [h2]
      rw [hd]
      have := hl2 (decide (x.k = 3))
      have k1' := hk1 (decide (x.k = 3) || c)
      have k2' := hk2 (decide (x.k = 3) || c)
      generalize ckG gh m (f ++ [decide (x.k = 3) || c]) = g1 at *
      simp [D_model_checker_lean_b1, hltI, hx, d2, hArg, this, k1', k2', -List.getElem?_map]
theorem lean_eq (hA : Ahead m.nodes) (hl : m.nodes.length ≤ 1000) : callL pg 78 [.ptr true gh.length 0] (ckG gh m []) = some (.tup [], ckG gh m (hangF [] m.nodes)) := by
  have h := lean_loop1 (gh := gh) hA hl m.nodes.length 0 [] (by omega) rfl
  rw [List.drop_zero] at h
  unfold le1St at h
  simp only [Int.natCast_zero] at h
  generalize ckG gh m (hangF [] m.nodes) = g1 at *
  have h1 := D_model_checker_lean_0_ok (pg := pg) (g0 := gh.length) (o0 := 0) (gh := ckG gh m []) (e := .normal) (s := ⟨[], [], g1⟩) (by
    unfold ckG at h ⊢
    simp [D_model_checker_lean_0] at h ⊢
    simp [h])
  rw [callL_code (fn := f_model_checker_lean) rfl rfl h1]
  simp [finish, results, f_model_checker_lean, resOfs, resOk]
theorem is_eq {f : List Bool} {n : Int} {g : List GObj} {b : Nat} (hb : g[b]? = some (.cells [LN m.nodes, LP m.inits, LP m.nexts, LI m.bads, LI m.holds, .sl true 1 (f.map B)])) : callL pg 118 [.ptr true b 0, I n] g = some (B (decide (isNo m.nodes n)), g) := by
  by_cases h : 0 ≤ n
  · have e : decide (isNo m.nodes n) = decide (n < (m.nodes.length : Int)) := decide_eq_decide.2 ⟨fun h2 => by have := h2.2; omega, fun h2 => ⟨h, by omega⟩⟩
    rw [e]
    refine callL_fn (fn := f_model_checker_is) (s := ?s1) rfl rfl (D_model_checker_is_0_ok ?h1) ?r1
    case h1 => simp [D_model_checker_is_0, h, hb]; rfl
    case r1 => simp [finish, results, f_model_checker_is, resOfs, resOf, resOk]
  · have e : decide (isNo m.nodes n) = false := decide_eq_false fun h2 => h h2.1
    rw [e]
    refine callL_fn (fn := f_model_checker_is) (s := ?s2) rfl rfl (D_model_checker_is_0_ok ?h2) ?r2
    case h2 => simp [D_model_checker_is_0, h]; rfl
    case r2 => simp [finish, results, f_model_checker_is, resOfs, resOf, resOk]
def pairE (l : List Nd) (f : List Bool) (init : Bool) (p : Int × Int) : Int :=
  if ¬ isNo l p.1 ∨ ¬ isNo l p.2 ∨ (l.getD p.1.toNat default).k ≠ 3 then 5 else if wAt l p.1 ≠ wAt l p.2 then 1 else if init = true ∧ f.getD p.2.toNat false = true then 4 else 0
theorem pair_eq {f : List Bool} {init : Bool} {p : Int × Int} {g : List GObj} {b : Nat} (hf : f.length = m.nodes.length) (hb : g[b]? = some (.cells [LN m.nodes, LP m.inits, LP m.nexts, LI m.bads, LI m.holds, .sl true 1 (f.map B)])) :
    callL pg 106 [.ptr true b 0, andV p, B init] g = some (I (pairE m.nodes f init p), g) := by
  obtain ⟨s, n⟩ := p
  have i1 := is_eq (n := s) hb
  have i2 := is_eq (n := n) hb
  rw [andV_def]
  unfold pairE wAt
  simp only
  refine callL_fn (fn := f_model_checker_pair) (s := ⟨[(6, I (pairE m.nodes f init (s, n)))], [], g⟩) rfl rfl (D_model_checker_pair_0_ok ?h1) ?r1
  case r1 => simp [finish, results, f_model_checker_pair, resOfs, resOf, resOk, pairE, wAt]
  case h1 =>
    unfold pairE wAt
    simp only
    by_cases h1 : isNo m.nodes s
    · rw [decide_eq_true h1] at i1
      by_cases h2 : isNo m.nodes n
      · rw [decide_eq_true h2] at i2
        have n1 := node_at h1
        have n2 := node_at h2
        have z1 := h1.1
        have z2 := h2.1
        have hfr := fr_idx (f := f) (a := n) (by rw [hf]; exact h2.2)
        generalize m.nodes.getD s.toNat default = d1 at *
        generalize m.nodes.getD n.toNat default = d2 at *
        generalize f.getD n.toNat false = c at *
        rw [nodeV_def d1] at n1
        rw [nodeV_def d2] at n2
        by_cases h3 : d1.k = 3
        · have d3 : decide (d1.k = 3) = true := decide_eq_true h3
          by_cases h4 : d1.w = d2.w
          · rw [if_neg (by rintro (h | h | h) <;> contradiction), if_neg (fun h => h h4)]
            cases init with
            | true => cases c with
              | true => simp [D_model_checker_pair_0, i1, i2, hb, z1, z2, n1, n2, d3, h4, hfr, -List.getElem?_map]
              | false => simp [D_model_checker_pair_0, i1, i2, hb, z1, z2, n1, n2, d3, h4, hfr, -List.getElem?_map]
            | false => simp [D_model_checker_pair_0, i1, i2, hb, z1, z2, n1, n2, d3, h4, -List.getElem?_map]
          · rw [if_neg (by rintro (h | h | h) <;> contradiction), if_pos h4]
            simp [D_model_checker_pair_0, i1, i2, hb, z1, z2, n1, n2, d3, h4, -List.getElem?_map]
        · rw [if_pos (.inr (.inr h3))]
          simp [D_model_checker_pair_0, i1, i2, hb, z1, n1, h3, -List.getElem?_map]
      · rw [decide_eq_false h2] at i2
        rw [if_pos (.inr (.inl h2))]
        simp [D_model_checker_pair_0, i1, i2]
    · rw [decide_eq_false h1] at i1
      rw [if_pos (.inl h1)]
      simp [D_model_checker_pair_0, i1]
end
end Go.Lw
end

/-! What the code of function model_checker_pairs comes to, piece by piece. Written by program (dprint.py). -/
section
set_option maxRecDepth 10000
set_option maxHeartbeats 4000000
namespace Go.Lw
open Go
noncomputable section
variable {pg : Prg} {gh : List GObj} {e : IExit} {s : St}
def an_model_checker_pairs : Tr := (tB 42 (tB 26 (tG 13 (tO 4 (tI 2 (uG 0) (uI 3)) (tO 9 (uI 7) (uO 10))) (tO 23 (tG 18 (uO 17) (uO 22)) (tI 25 (uI 24) .nil))) (.node 35 (.agg [.int .i64, .int .i64]) (tI 31 (tO 29 (uI 27) (uO 30)) (tB 33 (uI 32) .nil)) (tB 39 (.node 37 (.agg [.int .i64, .int .i64]) (uG 36) (uI 38)) (tI 41 (uI 40) .nil)))) (tO 63 (tO 55 (tG 46 (tI 44 (uI 43) (uI 45)) (tG 51 (uO 50) .nil)) (tB 59 (tI 57 (uO 56) (uI 58)) (tO 62 (uO 61) .nil))) (tI 72 (.node 68 (.agg [.int .i64, .int .i64]) (tI 65 (uI 64) (uB 66)) (tI 71 (uO 69) .nil)) (tI 76 (tI 74 (uO 73) (uO 75)) (tI 78 (uB 77) .nil)))))
def D_model_checker_pairs_b2 (pg : Prg) (g0 o0 : Nat) (x3 : Int) (v23 : PV) (x24 x25 : Int) (v30 : PV) (x31 x32 : Int) (gh : List GObj) : DR :=
  br 33 (decide (x32 < x31)) (
  idX 2 none (degr v30) x32 fun p1 =>
  ldX [] gh true 2 (degr p1) fun v2 => unA 2 v2 fun c3 c4 => unI .i64 c3 fun n5 => unI .i64 c4 fun n6 => stK 1 v23 (stK 1 v30 (
  callR gh true (callL pg 106 [.ptr true g0 o0, .agg [I n5, I n6], (B (x3 == 0))] gh) fun r7 gh8 => unI .i64 r7 fun n9 => stK 0 v23 (stK 0 v30 (stK 0 v23 (stK 0 v30 (
  br 42 (n9 != 0) (some (.ret, ⟨[(2, I n9)], [], gh8⟩)) (stK 0 v23 (stK 0 v30 (stK 0 v23 (stK 0 v30 (some (.normal, ⟨[(0, .ptr true g0 o0), (3, I x3), (23, v23), (24, I x24), (25, I x25), (30, v30), (31, I x31), (32, (I (IntKind.i64.wrap (x32 + 1))))], [], gh8⟩))))))))))))) (some ((.exit 2), ⟨[(0, .ptr true g0 o0), (3, I x3), (23, v23), (24, I x24), (25, I x25), (30, v30), (31, I x31), (32, I x32), (33, (B (decide (x32 < x31))))], [], gh⟩))
theorem D_model_checker_pairs_b2_ok {g0 o0 : Nat} {x3 : Int} {v23 : PV} {x24 x25 : Int} {v30 : PV} {x31 x32 : Int} (h : D_model_checker_pairs_b2 pg g0 o0 x3 v23 x24 x25 v30 x31 x32 gh = some (e, s)) : runL pg f_model_checker_pairs_b2 ⟨[(0, .ptr true g0 o0), (3, I x3), (23, v23), (24, I x24), (25, I x25), (30, v30), (31, I x31), (32, I x32)], [], gh⟩ = some (e, s) :=
  runX_ok an_model_checker_pairs (Eq.trans (by kernel_rfl) h)
def D_model_checker_pairs_k1 (pg : Prg) (g0 o0 : Nat) (v23 : PV) (x24 x25 : Int) (gh : List GObj) : DR := stK 0 v23 (some (.normal, ⟨[(0, .ptr true g0 o0), (23, v23), (24, I x24), (25, (I (IntKind.i64.wrap (x25 + 1))))], [], gh⟩))
theorem D_model_checker_pairs_k1_ok {g0 o0 : Nat} {v23 : PV} {x24 x25 : Int} (h : D_model_checker_pairs_k1 pg g0 o0 v23 x24 x25 gh = some (e, s)) : runL pg f_model_checker_pairs_k1 ⟨[(0, .ptr true g0 o0), (23, v23), (24, I x24), (25, I x25)], [], gh⟩ = some (e, s) :=
  runX_ok an_model_checker_pairs (Eq.trans (by kernel_rfl) h)
def D_model_checker_pairs_b1 (pg : Prg) (g0 o0 : Nat) (v23 : PV) (x24 x25 : Int) (gh : List GObj) : DR :=
  br 26 (decide (x25 < x24)) (
  idX 1 none (degr v23) x25 fun p1 =>
  ldX [] gh false 1 (degr p1) fun v2 => isC v2 (stK 0 v2 (stK 0 v23 (isC (degr v2) (lenS (degr (degr v2)) fun n3 => stK 0 v23 (stK 0 (degr v2) (
  kR (runL pg f_model_checker_pairs_l2 ⟨[(0, .ptr true g0 o0), (3, I x25), (23, v23), (24, I x24), (25, I x25), (30, (degr v2)), (31, (I (n3 : Int))), (32, I 0)], [], gh⟩) (fun e s => bk 1 e s (fun e s => nx e s (fun e s => po [0, 23, 24, 25] 0 e s (fun e s => some (e, s))) fun s => kR (runL pg f_model_checker_pairs_k1 s) (fun e s => po [0, 23, 24, 25] 0 e s (fun e s => some (e, s)))))))))))) (some ((.exit 0), ⟨[(0, .ptr true g0 o0), (23, v23), (24, I x24), (25, I x25), (26, (B (decide (x25 < x24))))], [], gh⟩))
theorem D_model_checker_pairs_b1_ok {g0 o0 : Nat} {v23 : PV} {x24 x25 : Int} (h : D_model_checker_pairs_b1 pg g0 o0 v23 x24 x25 gh = some (e, s)) : runL pg f_model_checker_pairs_b1 ⟨[(0, .ptr true g0 o0), (23, v23), (24, I x24), (25, I x25)], [], gh⟩ = some (e, s) :=
  runX_ok an_model_checker_pairs (Eq.trans (by kernel_rfl) h)
def D_model_checker_pairs_b4 (pg : Prg) (v9 v10 v56 : PV) (x57 x58 : Int) (v63 : PV) (x64 x65 : Int) (gh : List GObj) : DR :=
  br 66 (decide (x65 < x64)) (
  idX 2 none (degr v63) x65 fun p1 =>
  ldX [] gh true 2 (degr p1) fun v2 => unA 2 v2 fun c3 c4 => unI .i64 c3 fun n5 => unI .i64 c4 fun n6 => stK 1 v9 (stK 1 v10 (stK 1 v56 (stK 1 v63 (isC (degr v10) (
  muX gh 0 (degr (degr v10)) (I n5) (B true) fun gh7 => stK 0 v9 (stK 0 v10 (stK 0 v56 (stK 0 v63 (stK 0 v9 (stK 0 v10 (stK 0 v56 (stK 0 v63 (stK 0 v9 (stK 0 v10 (stK 0 v56 (stK 0 v63 (some (.normal, ⟨[(9, v9), (10, v10), (56, v56), (57, I x57), (58, I x58), (63, v63), (64, I x64), (65, (I (IntKind.i64.wrap (x65 + 1))))], [], gh7⟩))))))))))))))))))) (some ((.exit 6), ⟨[(9, v9), (10, v10), (56, v56), (57, I x57), (58, I x58), (63, v63), (64, I x64), (65, I x65), (66, (B (decide (x65 < x64))))], [], gh⟩))
theorem D_model_checker_pairs_b4_ok {v9 v10 v56 : PV} {x57 x58 : Int} {v63 : PV} {x64 x65 : Int} (h : D_model_checker_pairs_b4 pg v9 v10 v56 x57 x58 v63 x64 x65 gh = some (e, s)) : runL pg f_model_checker_pairs_b4 ⟨[(9, v9), (10, v10), (56, v56), (57, I x57), (58, I x58), (63, v63), (64, I x64), (65, I x65)], [], gh⟩ = some (e, s) :=
  runX_ok an_model_checker_pairs (Eq.trans (by kernel_rfl) h)
def D_model_checker_pairs_k3 (pg : Prg) (v9 v10 v56 : PV) (x57 x58 : Int) (gh : List GObj) : DR := isC (degr v10) (
  lenM gh (degr (degr v10)) fun n1 => isC (degr v9) (lenS (degr (degr v9)) fun n2 => stK 0 v56 (
  br 77 (decide ((n1 : Int) < (n2 : Int))) (some (.ret, ⟨[(2, I 6)], [], gh⟩)) (some (.normal, ⟨[(56, v56), (57, I x57), (58, I x58), (77, (B (decide ((n1 : Int) < (n2 : Int)))))], [], gh⟩)))))
theorem D_model_checker_pairs_k3_ok {v9 v10 v56 : PV} {x57 x58 : Int} (h : D_model_checker_pairs_k3 pg v9 v10 v56 x57 x58 gh = some (e, s)) : runL pg f_model_checker_pairs_k3 ⟨[(9, v9), (10, v10), (56, v56), (57, I x57), (58, I x58)], [], gh⟩ = some (e, s) :=
  runX_ok an_model_checker_pairs (Eq.trans (by kernel_rfl) h)
def D_model_checker_pairs_k4 (pg : Prg) (v56 : PV) (x57 x58 : Int) (b77 : Bool) (gh : List GObj) : DR := stK 0 v56 (some (.normal, ⟨[(56, v56), (57, I x57), (58, (I (IntKind.i64.wrap (x58 + 1))))], [], gh⟩))
theorem D_model_checker_pairs_k4_ok {v56 : PV} {x57 x58 : Int} {b77 : Bool} (h : D_model_checker_pairs_k4 pg v56 x57 x58 b77 gh = some (e, s)) : runL pg f_model_checker_pairs_k4 ⟨[(56, v56), (57, I x57), (58, I x58), (77, B b77)], [], gh⟩ = some (e, s) :=
  runX_ok an_model_checker_pairs (Eq.trans (by kernel_rfl) h)
def D_model_checker_pairs_b3 (pg : Prg) (v56 : PV) (x57 x58 : Int) (gh : List GObj) : DR :=
  br 59 (decide (x58 < x57)) (
  idX 1 none (degr v56) x58 fun p1 =>
  ldX [] gh false 1 (degr p1) fun v2 => isC v2 (stK 0 v2 (stK 0 v56 (stK 0 v2 (stK 0 v56 (isC (degr v2) (lenS (degr (degr v2)) fun n3 => stK 0 v2 (stK 0 v56 (stK 0 (degr v2) (
  kR (runL pg f_model_checker_pairs_l4 ⟨[(9, v2), (10, (.mp (List.length gh))), (56, v56), (57, I x57), (58, I x58), (63, (degr v2)), (64, (I (n3 : Int))), (65, I 0)], [], (gh ++ [.map []])⟩) (fun e s => nx e s (fun e s => bk 5 e s (fun e s => nx e s (fun e s => po [56, 57, 58] 0 e s (fun e s => some (e, s))) fun s => kR (runL pg f_model_checker_pairs_k4 s) (fun e s => po [56, 57, 58] 0 e s (fun e s => some (e, s))))) fun s => kR (runL pg f_model_checker_pairs_k3 s) (fun e s => bk 5 e s (fun e s => nx e s (fun e s => po [56, 57, 58] 0 e s (fun e s => some (e, s))) fun s => kR (runL pg f_model_checker_pairs_k4 s) (fun e s => po [56, 57, 58] 0 e s (fun e s => some (e, s)))))))))))))))) (some ((.exit 4), ⟨[(56, v56), (57, I x57), (58, I x58), (59, (B (decide (x58 < x57))))], [], gh⟩))
theorem D_model_checker_pairs_b3_ok {v56 : PV} {x57 x58 : Int} (h : D_model_checker_pairs_b3 pg v56 x57 x58 gh = some (e, s)) : runL pg f_model_checker_pairs_b3 ⟨[(56, v56), (57, I x57), (58, I x58)], [], gh⟩ = some (e, s) :=
  runX_ok an_model_checker_pairs (Eq.trans (by kernel_rfl) h)
def D_model_checker_pairs_k5 (pg : Prg)  (gh : List GObj) : DR := some (.ret, ⟨[(2, I 0)], [], gh⟩)
theorem D_model_checker_pairs_k5_ok  (h : D_model_checker_pairs_k5 pg  gh = some (e, s)) : runL pg f_model_checker_pairs_k5 ⟨[], [], gh⟩ = some (e, s) :=
  runX_ok an_model_checker_pairs (Eq.trans (by kernel_rfl) h)
def D_model_checker_pairs_k2 (pg : Prg) (g0 o0 : Nat) (gh : List GObj) : DR :=
  ob (ghCells gh g0) fun cs1 =>
  ob (grab false 1 ((o0 + 0) + 1) cs1) fun v2 => isC (degr v2) (
  ob (ghCells gh g0) fun cs3 =>
  ob (grab false 1 ((o0 + 0) + 2) cs3) fun v4 => isC (degr v4) (arK (degr (degr v2)) (lnK 1 (degr (degr v2)) (arK (degr (degr v4)) (lnK 1 (degr (degr v4)) (lenS (.sl false 1 [(degr (degr v2)), (degr (degr v4))]) fun n5 =>
  kR (runL pg f_model_checker_pairs_l3 ⟨[(56, (.sl true 1 [(degr (degr v2)), (degr (degr v4))])), (57, (I (n5 : Int))), (58, I 0)], [], gh⟩) (fun e s => nx e s (fun e s => some (e, s)) fun s => kR (runL pg f_model_checker_pairs_k5 s) (fun e s => some (e, s)))))))))
theorem D_model_checker_pairs_k2_ok {g0 o0 : Nat} (h : D_model_checker_pairs_k2 pg g0 o0 gh = some (e, s)) : runL pg f_model_checker_pairs_k2 ⟨[(0, .ptr true g0 o0)], [], gh⟩ = some (e, s) :=
  runX_ok an_model_checker_pairs (Eq.trans (by kernel_rfl) h)
def D_model_checker_pairs_0 (pg : Prg) (g0 o0 : Nat) (gh : List GObj) : DR :=
  ob (ghCells gh g0) fun cs1 =>
  ob (grab false 1 ((o0 + 0) + 1) cs1) fun v2 => isC (degr v2) (
  ob (ghCells gh g0) fun cs3 =>
  ob (grab false 1 ((o0 + 0) + 2) cs3) fun v4 => isC (degr v4) (arK (degr (degr v2)) (lnK 1 (degr (degr v2)) (arK (degr (degr v4)) (lnK 1 (degr (degr v4)) (lenS (.sl false 1 [(degr (degr v2)), (degr (degr v4))]) fun n5 =>
  kR (runL pg f_model_checker_pairs_l1 ⟨[(0, .ptr true g0 o0), (23, (.sl true 1 [(degr (degr v2)), (degr (degr v4))])), (24, (I (n5 : Int))), (25, I 0)], [], gh⟩) (fun e s => nx e s (fun e s => some (e, s)) fun s => kR (runL pg f_model_checker_pairs_k2 s) (fun e s => some (e, s)))))))))
theorem D_model_checker_pairs_0_ok {g0 o0 : Nat} (h : D_model_checker_pairs_0 pg g0 o0 gh = some (e, s)) : runL pg f_model_checker_pairs_0 ⟨[(0, .ptr true g0 o0)], [], gh⟩ = some (e, s) :=
  runX_ok an_model_checker_pairs (Eq.trans (by kernel_rfl) h)
end
end Go.Lw
end

/-! What the code of function model_checker_marks comes to, piece by piece. Written by program (dprint.py). -/
section
set_option maxRecDepth 10000
set_option maxHeartbeats 4000000
namespace Go.Lw
open Go
noncomputable section
variable {pg : Prg} {gh : List GObj} {e : IExit} {s : St}
def an_model_checker_marks : Tr := (tG 17 (tI 9 (tO 3 (tG 1 (uG 0) (uI 2)) (tO 8 (uG 4) .nil)) (tO 14 (.node 13 (.agg [.any, .any, .any, .any, .any]) (uG 10) .nil) (tB 16 (uI 15) .nil))) (tO 29 (tO 26 (tG 22 (uO 21) .nil) (tO 28 (uO 27) .nil)) (tO 32 (tB 31 (uO 30) .nil) (tB 34 (uO 33) .nil))))
def D_model_checker_marks_0 (pg : Prg) (g0 o0 : Nat) (gh : List GObj) : DR :=
  ob (ghCells (gh ++ [.cells [.ptr true g0 o0]]) (List.length gh)) fun cs1 =>
  ob (grab false 1 0 cs1) fun v2 => unG (degr v2) fun g3 o4 =>
  ob (ghCells (gh ++ [.cells [.ptr true g0 o0]]) g3) fun cs5 =>
  ob (grab false 1 ((o4 + 0) + 2) cs5) fun v6 => isC (degr v6) (lenS (degr (degr v6)) fun n7 =>
  ob (ghCells (gh ++ [.cells [.ptr true g0 o0]]) (List.length gh)) fun cs8 =>
  ob (grab false 1 0 cs8) fun v9 => unG (degr v9) fun g10 o11 =>
  ob (ghCells (gh ++ [.cells [.ptr true g0 o0]]) g10) fun cs12 =>
  ob (grab true 5 (o11 + 0) cs12) fun v13 => unA 5 (degr v13) fun c14 c15 c16 c17 c18 => onK (degr1 c14) (onK (degr1 c15) (onK (degr1 c16) (onK (degr1 c17) (onK (degr1 c18) (
  callR (gh ++ [.cells [.ptr true g0 o0]]) true (callL pg 101 [(.agg [(degr1 c14), (degr1 c15), (degr1 c16), (degr1 c17), (degr1 c18)]), I 3] (gh ++ [.cells [.ptr true g0 o0]])) fun r19 gh20 => isC r19 (lenS (degr r19) fun n21 =>
  br 16 (decide ((n7 : Int) < (n21 : Int))) (some (.ret, ⟨[(2, I 5)], [], gh20⟩)) (
  ob (ghCells gh20 (List.length gh)) fun cs22 =>
  ob (grab false 1 0 cs22) fun v23 => unG (degr v23) fun g24 o25 =>
  ob (ghCells gh20 g24) fun cs26 =>
  ob (grab false 1 ((o25 + 0) + 3) cs26) fun v27 => isC (degr v27) (
  ob (ghCells gh20 (List.length gh)) fun cs28 =>
  ob (grab false 1 0 cs28) fun v29 => unG (degr v29) fun g30 o31 =>
  ob (ghCells gh20 g30) fun cs32 =>
  ob (grab false 1 ((o31 + 0) + 4) cs32) fun v33 => isC (degr v33) (arK (degr (degr v27)) (lnK 1 (degr (degr v27)) (arK (degr (degr v33)) (lnK 1 (degr (degr v33)) (
  callR gh20 true (callL pg 107 [(.sl false 1 [(degr (degr v27)), (degr (degr v33))])] gh20) fun r34 gh35 => isC r34 (stK 0 r34 (isC (degr r34) (arK (degr (degr r34)) (
  callR gh35 true (callL pg 86 [(degr (degr r34)), (.fn 108 [(.ptr true (List.length gh) 0)])] gh35) fun r36 gh37 => unB r36 fun b38 => stK 0 r34 (
  br 31 b38 (some (.ret, ⟨[(2, I 5)], [], gh37⟩)) (isC (degr r34) (arK (degr (degr r34)) (
  callR gh37 true (callL pg 86 [(degr (degr r34)), (.fn 109 [(.ptr true (List.length gh) 0)])] gh37) fun r39 gh40 => unB r39 fun b41 =>
  br 34 b41 (some (.ret, ⟨[(2, I 1)], [], gh40⟩)) (some (.ret, ⟨[(2, I 0)], [], gh40⟩))))))))))))))))))))))))
theorem D_model_checker_marks_0_ok {g0 o0 : Nat} (h : D_model_checker_marks_0 pg g0 o0 gh = some (e, s)) : runL pg f_model_checker_marks_0 ⟨[(0, .ptr true g0 o0)], [], gh⟩ = some (e, s) :=
  runX_ok an_model_checker_marks (Eq.trans (by kernel_rfl) h)
end
end Go.Lw
end

/-! What the code of function model_checker_marks_1 comes to, piece by piece. Written by program (dprint.py). -/
section
set_option maxRecDepth 10000
set_option maxHeartbeats 4000000
namespace Go.Lw
open Go
noncomputable section
variable {pg : Prg} {gh : List GObj} {e : IExit} {s : St}
def an_model_checker_marks_1 : Tr := (tG 4 (tG 1 (uI 0) (uB 3)) (tB 6 (uI 5) (uB 7)))
def D_model_checker_marks_1_0 (pg : Prg) (x0 : Int) (g1 o1 : Nat) (gh : List GObj) : DR :=
  ob (ghCells gh g1) fun cs1 =>
  ob (grab false 1 o1 cs1) fun v2 => unG (degr v2) fun g3 o4 =>
  callR gh true (callL pg 118 [.ptr true g3 o4, I x0] gh) fun r5 gh6 => unB r5 fun b7 => some (.ret, ⟨[(3, (B (!b7)))], [], gh6⟩)
theorem D_model_checker_marks_1_0_ok {x0 : Int} {g1 o1 : Nat} (h : D_model_checker_marks_1_0 pg x0 g1 o1 gh = some (e, s)) : runL pg f_model_checker_marks_1_0 ⟨[(0, I x0), (1, .ptr true g1 o1)], [], gh⟩ = some (e, s) :=
  runX_ok an_model_checker_marks_1 (Eq.trans (by kernel_rfl) h)
end
end Go.Lw
end

/-! What the code of function model_checker_marks_2 comes to, piece by piece. Written by program (dprint.py). -/
section
set_option maxRecDepth 10000
set_option maxHeartbeats 4000000
namespace Go.Lw
open Go
noncomputable section
variable {pg : Prg} {gh : List GObj} {e : IExit} {s : St}
def an_model_checker_marks_2 : Tr := (tO 8 (tB 3 (tG 1 (uI 0) .nil) (uG 4)) (tI 12 (uI 9) (uB 13)))
def D_model_checker_marks_2_0 (pg : Prg) (x0 : Int) (g1 o1 : Nat) (gh : List GObj) : DR :=
  ob (ghCells gh g1) fun cs1 =>
  ob (grab false 1 o1 cs1) fun v2 => unG (degr v2) fun g3 o4 =>
  ob (ghCells gh g3) fun cs5 =>
  ob (grab false 1 ((o4 + 0) + 0) cs5) fun v6 => isC (degr v6) (
  idX 6 none (degr (degr v6)) x0 fun p7 => faX (degr p7) 1 fun p8 =>
  ldX [] gh false 1 (degr p8) fun v9 => unI .i64 v9 fun n10 => some (.ret, ⟨[(3, (B (n10 != 1)))], [], gh⟩))
theorem D_model_checker_marks_2_0_ok {x0 : Int} {g1 o1 : Nat} (h : D_model_checker_marks_2_0 pg x0 g1 o1 gh = some (e, s)) : runL pg f_model_checker_marks_2_0 ⟨[(0, I x0), (1, .ptr true g1 o1)], [], gh⟩ = some (e, s) :=
  runX_ok an_model_checker_marks_2 (Eq.trans (by kernel_rfl) h)
end
end Go.Lw
end

/-! What the code of function model_Check comes to, piece by piece. Written by program (dprint.py). -/
section
set_option maxRecDepth 10000
set_option maxHeartbeats 4000000
namespace Go.Lw
open Go
noncomputable section
variable {pg : Prg} {gh : List GObj} {e : IExit} {s : St}
def an_model_Check : Tr := (tI 33 (tI 16 (tG 7 (tI 4 (tI 2 (.node 0 (.agg [.any, .any, .any, .any, .any]) .nil .nil) (uI 3)) (tI 6 (uI 5) .nil)) (tB 12 (tO 10 (uI 8) (uI 11)) (tO 15 (uB 13) .nil))) (tB 24 (tO 21 (tB 18 (uB 17) (uB 19)) (tB 23 (uI 22) .nil)) (tB 29 (tI 27 (uO 26) (uI 28)) (tO 32 (uI 30) .nil)))) (tI 47 (.node 40 (.agg [.any, .any, .any, .any, .any]) (tI 37 (tI 35 (uI 34) (uB 36)) (.node 39 (.tup 2) (uI 38) .nil)) (tI 44 (tI 42 (.node 41 (.tup 2) .nil .nil) (uI 43)) (tB 46 (uB 45) .nil))) (tG 55 (.node 51 (.agg [.any, .any, .any, .any, .any, .any]) (tB 49 (uB 48) (.node 50 (.agg [.any, .any, .any, .any, .any]) .nil .nil)) (tG 53 (uG 52) .nil)) (tI 59 (tI 57 (uI 56) (uB 58)) (tI 61 (uG 60) .nil)))))
def D_model_Check_b1 (pg : Prg) (x27 x28 : Int) (vc0_0 vc0_1 : PV) (vc0_2 vc0_3 vc0_4 : PV) (gh : List GObj) : DR :=
  br 29 (decide (x28 < x27)) (isC (degr vc0_0) (arK (degr (degr vc0_0)) (
  callR gh true (callL pg 76 [(degr (degr vc0_0)), I x28] gh) fun r1 gh2 => unI .i64 r1 fun n3 =>
  br 36 (n3 != 0) (some (.ret, ⟨[(2, I n3)], [], gh2⟩)) (some (.normal, ⟨[(1, .ptr false 0 0), (27, I x27), (28, (I (IntKind.i64.wrap (x28 + 1))))], [[vc0_0, vc0_1, vc0_2, vc0_3, vc0_4]], gh2⟩))))) (some ((.exit 0), ⟨[(1, .ptr false 0 0), (27, I x27), (28, I x28), (29, (B (decide (x28 < x27))))], [[vc0_0, vc0_1, vc0_2, vc0_3, vc0_4]], gh⟩))
theorem D_model_Check_b1_ok {x27 x28 : Int} {vc0_0 vc0_1 : PV} {vc0_2 vc0_3 vc0_4 : PV} (h : D_model_Check_b1 pg x27 x28 vc0_0 vc0_1 vc0_2 vc0_3 vc0_4 gh = some (e, s)) : runL pg f_model_Check_b1 ⟨[(1, .ptr false 0 0), (27, I x27), (28, I x28)], [[vc0_0, vc0_1, vc0_2, vc0_3, vc0_4]], gh⟩ = some (e, s) :=
  runX_ok an_model_Check (Eq.trans (by kernel_rfl) h)
def D_model_Check_k1 (pg : Prg) (vc0_0 vc0_1 : PV) (vc0_2 vc0_3 vc0_4 : PV) (gh : List GObj) : DR := onK (degr1 (degr1 vc0_0)) (onK (degr1 (degr1 vc0_1)) (onK (degr1 (degr1 vc0_2)) (onK (degr1 (degr1 vc0_3)) (onK (degr1 (degr1 vc0_4)) (
  callR gh true (callL pg 77 [(.agg [(degr1 (degr1 vc0_0)), (degr1 (degr1 vc0_1)), (degr1 (degr1 vc0_2)), (degr1 (degr1 vc0_3)), (degr1 (degr1 vc0_4))])] gh) fun r1 gh2 => unT 2 r1 fun r3 r4 => unI .i64 (degr1 (degr1 r3)) fun n5 => unI .i64 (degr1 (degr1 r4)) fun n6 =>
  br 46 (decide (6 < n5)) (some (.ret, ⟨[(2, I 2)], [], gh2⟩)) (
  br 49 (decide (10 < n6)) (some (.ret, ⟨[(2, I 2)], [], gh2⟩)) (onK (degr1 vc0_0) (onK (degr1 vc0_1) (onK (degr1 vc0_2) (onK (degr1 vc0_3) (onK (degr1 vc0_4) (onK (degr1 vc0_0) (onK (degr1 vc0_1) (onK (degr1 vc0_2) (onK (degr1 vc0_3) (onK (degr1 vc0_4) (
  callR (gh2 ++ [.cells [(degr1 vc0_0), (degr1 vc0_1), (degr1 vc0_2), (degr1 vc0_3), (degr1 vc0_4), .sl true 1 []]]) false (callL pg 78 [(.ptr true (List.length gh2) 0)] (gh2 ++ [.cells [(degr1 vc0_0), (degr1 vc0_1), (degr1 vc0_2), (degr1 vc0_3), (degr1 vc0_4), .sl true 1 []]])) fun r7 gh8 =>
  callR gh8 true (callL pg 79 [(.ptr true (List.length gh2) 0)] gh8) fun r9 gh10 => unI .i64 r9 fun n11 =>
  br 58 (n11 != 0) (some (.ret, ⟨[(2, I n11)], [], gh10⟩)) (
  callR gh10 true (callL pg 80 [(.ptr true (List.length gh2) 0)] gh10) fun r12 gh13 => unI .i64 r12 fun n14 => some (.ret, ⟨[(2, I n14)], [], gh13⟩)))))))))))))))))))
theorem D_model_Check_k1_ok {vc0_0 vc0_1 : PV} {vc0_2 vc0_3 vc0_4 : PV} (h : D_model_Check_k1 pg vc0_0 vc0_1 vc0_2 vc0_3 vc0_4 gh = some (e, s)) : runL pg f_model_Check_k1 ⟨[(1, .ptr false 0 0)], [[vc0_0, vc0_1, vc0_2, vc0_3, vc0_4]], gh⟩ = some (e, s) :=
  runX_ok an_model_Check (Eq.trans (by kernel_rfl) h)
def D_model_Check_0 (pg : Prg) (v0_0 v0_1 : PV) (v0_2 v0_3 v0_4 : PV) (gh : List GObj) : DR := onK (degr1 v0_0) (onK (degr1 v0_1) (onK (degr1 v0_2) (onK (degr1 v0_3) (onK (degr1 v0_4) (isC (degr (degr1 v0_0)) (lenS (degr (degr (degr1 v0_0))) fun n1 =>
  br 13 (decide (80 < (n1 : Int))) (some (.ret, ⟨[(2, I 2)], [], gh⟩)) (isC (degr (degr1 v0_3)) (lenS (degr (degr (degr1 v0_3))) fun n2 =>
  br 19 (decide (8 < (n2 : Int))) (some (.ret, ⟨[(2, I 2)], [], gh⟩)) (isC (degr (degr1 v0_4)) (lenS (degr (degr (degr1 v0_4))) fun n3 =>
  br 24 (decide (8 < (n3 : Int))) (some (.ret, ⟨[(2, I 2)], [], gh⟩)) (isC (degr (degr1 v0_0)) (lenS (degr (degr (degr1 v0_0))) fun n4 =>
  kR (runL pg f_model_Check_l1 ⟨[(1, .ptr false 0 0), (27, (I (n4 : Int))), (28, I 0)], [[(degr1 v0_0), (degr1 v0_1), (degr1 v0_2), (degr1 v0_3), (degr1 v0_4)]], gh⟩) (fun e s => nx e s (fun e s => some (e, s)) fun s => kR (runL pg f_model_Check_k1 s) (fun e s => some (e, s)))))))))))))))
theorem D_model_Check_0_ok {v0_0 v0_1 : PV} {v0_2 v0_3 v0_4 : PV} (h : D_model_Check_0 pg v0_0 v0_1 v0_2 v0_3 v0_4 gh = some (e, s)) : runL pg f_model_Check_0 ⟨[(0, .agg [v0_0, v0_1, v0_2, v0_3, v0_4])], [], gh⟩ = some (e, s) :=
  runX_ok an_model_Check (Eq.trans (by kernel_rfl) h)
end
end Go.Lw
end

/-! What the code of function slices_Concat_Lint_int comes to, piece by piece. Written by program (dprint.py). -/
section
set_option maxRecDepth 10000
set_option maxHeartbeats 4000000
namespace Go.Lw
open Go
noncomputable section
variable {pg : Prg} {gh : List GObj} {e : IExit} {s : St}
def an_slices_Concat_Lint_int : Tr := (tI 19 (tI 10 (tO 5 (tO 2 (uO 0) (uI 3)) (tO 8 (uO 6) (uO 9))) (tI 15 (tB 12 (uI 11) (uO 14)) (tI 17 (uO 16) (uI 18)))) (tB 28 (tO 24 (tI 22 (uB 20) (uI 23)) (tI 26 (uO 25) (uI 27))) (tO 33 (tO 31 (uO 30) (uO 32)) (tO 35 (uI 34) .nil))))
def D_slices_Concat_Lint_int_b1 (pg : Prg) (v0 : PV) (x3 : Int) (v9 : PV) (x10 x11 : Int) (gh : List GObj) : DR :=
  br 12 (decide (x11 < x10)) (
  idX 1 none (degr v9) x11 fun p1 =>
  ldX [] gh false 1 (degr p1) fun v2 => isC v2 (stK 0 v0 (stK 0 v2 (stK 0 v9 (isC (degr v2) (lenS (degr (degr v2)) fun n3 => stK 0 v0 (stK 0 v9 (stK 0 v0 (stK 0 v9 (
  br 20 (decide ((IntKind.i64.wrap (x3 + (n3 : Int))) < 0)) (none) (stK 0 v0 (stK 0 v9 (stK 0 v0 (stK 0 v9 (some (.normal, ⟨[(0, v0), (3, (I (IntKind.i64.wrap (x3 + (n3 : Int))))), (9, v9), (10, I x10), (11, (I (IntKind.i64.wrap (x11 + 1))))], [], gh⟩)))))))))))))))) (some ((.exit 0), ⟨[(0, v0), (3, I x3), (9, v9), (10, I x10), (11, I x11), (12, (B (decide (x11 < x10))))], [], gh⟩))
theorem D_slices_Concat_Lint_int_b1_ok {v0 : PV} {x3 : Int} {v9 : PV} {x10 x11 : Int} (h : D_slices_Concat_Lint_int_b1 pg v0 x3 v9 x10 x11 gh = some (e, s)) : runL pg f_slices_Concat_Lint_int_b1 ⟨[(0, v0), (3, I x3), (9, v9), (10, I x10), (11, I x11)], [], gh⟩ = some (e, s) :=
  runX_ok an_slices_Concat_Lint_int (Eq.trans (by kernel_rfl) h)
def D_slices_Concat_Lint_int_b2 (pg : Prg) (v6 v25 : PV) (x26 x27 : Int) (gh : List GObj) : DR :=
  br 28 (decide (x27 < x26)) (
  idX 1 none (degr v25) x27 fun p1 =>
  ldX [] gh false 1 (degr p1) fun v2 => isC v2 (stK 0 v6 (stK 0 v2 (stK 0 v25 (isC (degr v2) (
  apX 1 8 v6 (degr (degr v2)) fun l3 => stK 0 v25 (stK 0 v25 (stK 0 v25 (some (.normal, ⟨[(6, .sl true 1 l3), (25, v25), (26, I x26), (27, (I (IntKind.i64.wrap (x27 + 1))))], [], gh⟩)))))))))) (some ((.exit 2), ⟨[(6, v6), (25, v25), (26, I x26), (27, I x27), (28, (B (decide (x27 < x26))))], [], gh⟩))
theorem D_slices_Concat_Lint_int_b2_ok {v6 v25 : PV} {x26 x27 : Int} (h : D_slices_Concat_Lint_int_b2 pg v6 v25 x26 x27 gh = some (e, s)) : runL pg f_slices_Concat_Lint_int_b2 ⟨[(6, v6), (25, v25), (26, I x26), (27, I x27)], [], gh⟩ = some (e, s) :=
  runX_ok an_slices_Concat_Lint_int (Eq.trans (by kernel_rfl) h)
def D_slices_Concat_Lint_int_k2 (pg : Prg) (v6 : PV) (gh : List GObj) : DR := isC (degr v6) (stK 0 (degr v6) (some (.ret, ⟨[(2, (degr v6))], [], gh⟩)))
theorem D_slices_Concat_Lint_int_k2_ok {v6 : PV} (h : D_slices_Concat_Lint_int_k2 pg v6 gh = some (e, s)) : runL pg f_slices_Concat_Lint_int_k2 ⟨[(6, v6)], [], gh⟩ = some (e, s) :=
  runX_ok an_slices_Concat_Lint_int (Eq.trans (by kernel_rfl) h)
def D_slices_Concat_Lint_int_k1 (pg : Prg) (v0 : PV) (x3 : Int) (gh : List GObj) : DR :=
  callR gh true (callL pg 119 [.nils, I x3] gh) fun r1 gh2 => isC r1 (stK 0 v0 (stK 0 r1 (isC (degr v0) (lenS (degr (degr v0)) fun n3 => stK 0 r1 (stK 0 (degr v0) (
  kR (runL pg f_slices_Concat_Lint_int_l2 ⟨[(6, r1), (25, (degr v0)), (26, (I (n3 : Int))), (27, I 0)], [], gh2⟩) (fun e s => nx e s (fun e s => some (e, s)) fun s => kR (runL pg f_slices_Concat_Lint_int_k2 s) (fun e s => some (e, s)))))))))
theorem D_slices_Concat_Lint_int_k1_ok {v0 : PV} {x3 : Int} (h : D_slices_Concat_Lint_int_k1 pg v0 x3 gh = some (e, s)) : runL pg f_slices_Concat_Lint_int_k1 ⟨[(0, v0), (3, I x3)], [], gh⟩ = some (e, s) :=
  runX_ok an_slices_Concat_Lint_int (Eq.trans (by kernel_rfl) h)
def D_slices_Concat_Lint_int_0 (pg : Prg) (v0 : PV) (gh : List GObj) : DR := stK 0 v0 (isC (degr v0) (lenS (degr (degr v0)) fun n1 => stK 0 v0 (stK 0 (degr v0) (
  kR (runL pg f_slices_Concat_Lint_int_l1 ⟨[(0, v0), (3, I 0), (9, (degr v0)), (10, (I (n1 : Int))), (11, I 0)], [], gh⟩) (fun e s => nx e s (fun e s => some (e, s)) fun s => kR (runL pg f_slices_Concat_Lint_int_k1 s) (fun e s => some (e, s)))))))
theorem D_slices_Concat_Lint_int_0_ok {v0 : PV} (h : D_slices_Concat_Lint_int_0 pg v0 gh = some (e, s)) : runL pg f_slices_Concat_Lint_int_0 ⟨[(0, v0)], [], gh⟩ = some (e, s) :=
  runX_ok an_slices_Concat_Lint_int (Eq.trans (by kernel_rfl) h)
end
end Go.Lw
end

/-! Models: pairs, marks, and the whole check (the program). -/
section
namespace Go.Lw
open Go
section
variable {m : Md} {gh : List GObj}
theorem Grow1_eq {n : Nat} (h : n * 8 ≤ maxBytes) : callL pg 119 [.nils, I n] gh = some (.sl true 1 [], gh) := by
  have : callL pg 119 [.nils, I n] gh = libGrow 1 8 [.nils, I n] gh := rfl
  rw [this, libGrow, if_pos ⟨by omega, by simpa using h⟩]
theorem Concat_eq {X Y : List PV} (hX : noGs X = true) (hY : noGs Y = true) (h : (X.length + Y.length) * 8 ≤ maxBytes) : callL pg 107 [.sl false 1 [.sl false 1 X, .sl false 1 Y]] gh = some (.sl false 1 (X ++ Y), gh) := by
  have hm : maxBytes = 140737488355328 := rfl
  have w1 : IntKind.i64.wrap (X.length : Int) = X.length := wrap_id (by omega) (by omega)
  have w2 : IntKind.i64.wrap ((X.length : Int) + (Y.length : Int)) = ((X.length + Y.length : Nat) : Int) := by rw [wrap_id (by omega) (by omega)]; omega
  have w3 : IntKind.i64.wrap (0 + 1) = 1 := by decide
  have w5 : IntKind.i64.wrap 2 = 2 := by decide
  have n1 : ¬ ((X.length : Int) < 0) := by omega
  have hl1 : runL pg f_slices_Concat_Lint_int_l1 ⟨[(0, .sl false 1 [.sl false 1 X, .sl false 1 Y]), (3, I 0), (9, .sl false 1 [.sl false 1 X, .sl false 1 Y]), (10, I 2), (11, I 0)], [], gh⟩ =
      some (.normal, ⟨[(0, .sl false 1 [.sl false 1 X, .sl false 1 Y]), (3, I ((X.length + Y.length : Nat) : Int))], [], gh⟩) := by
    refine lp_next (s1 := ⟨[(0, .sl false 1 [.sl false 1 X, .sl false 1 Y]), (3, I X.length), (9, .sl false 1 [.sl false 1 X, .sl false 1 Y]), (10, I 2), (11, I 1)], [], gh⟩) (D_slices_Concat_Lint_int_b1_ok ?_) ?_
    · simp [D_slices_Concat_Lint_int_b1, w1, n1]; exact w3
    refine lp_next (s1 := ⟨[(0, .sl false 1 [.sl false 1 X, .sl false 1 Y]), (3, I ((X.length + Y.length : Nat) : Int)), (9, .sl false 1 [.sl false 1 X, .sl false 1 Y]), (10, I 2), (11, I 2)], [], gh⟩) (D_slices_Concat_Lint_int_b1_ok ?_) ?_
    · simp only [D_slices_Concat_Lint_int_b1]
      have n2' : decide ((X.length : Int) + (Y.length : Int) < 0) = false := decide_eq_false (by omega)
      simp [w2, n2']
      exact w5
    refine (lp_exit (s1 := ?s1) (D_slices_Concat_Lint_int_b1_ok ?h1)).trans ?r1
    case h1 => simp [D_slices_Concat_Lint_int_b1]; rfl
    case r1 => simp [keep, stays]
  have hl2 : runL pg f_slices_Concat_Lint_int_l2 ⟨[(6, .sl true 1 []), (25, .sl false 1 [.sl false 1 X, .sl false 1 Y]), (26, I 2), (27, I 0)], [], gh⟩ = some (.normal, ⟨[(6, .sl true 1 (X ++ Y))], [], gh⟩) := by
    refine lp_next (s1 := ⟨[(6, .sl true 1 X), (25, .sl false 1 [.sl false 1 X, .sl false 1 Y]), (26, I 2), (27, I 1)], [], gh⟩) (D_slices_Concat_Lint_int_b2_ok ?_) ?_
    · have : X.length * 8 ≤ maxBytes := by omega
      simp [D_slices_Concat_Lint_int_b2, this]; exact w3
    refine lp_next (s1 := ⟨[(6, .sl true 1 (X ++ Y)), (25, .sl false 1 [.sl false 1 X, .sl false 1 Y]), (26, I 2), (27, I 2)], [], gh⟩) (D_slices_Concat_Lint_int_b2_ok ?_) ?_
    · simp [D_slices_Concat_Lint_int_b2, h]; exact w5
    refine (lp_exit (s1 := ?s2) (D_slices_Concat_Lint_int_b2_ok ?h2)).trans ?r2
    case h2 => simp [D_slices_Concat_Lint_int_b2]; rfl
    case r2 => simp [keep, stays]
  have hg := Grow1_eq (gh := gh) h
  have k2 := D_slices_Concat_Lint_int_k2_ok (pg := pg) (gh := gh) (v6 := .sl true 1 (X ++ Y)) (e := .ret) (s := ⟨[(2, .sl false 1 (X ++ Y))], [], gh⟩) (by simp [D_slices_Concat_Lint_int_k2])
  have k1 := D_slices_Concat_Lint_int_k1_ok (pg := pg) (gh := gh) (v0 := .sl false 1 [.sl false 1 X, .sl false 1 Y]) (x3 := ((X.length + Y.length : Nat) : Int)) (e := .ret) (s := ⟨[(2, .sl false 1 (X ++ Y))], [], gh⟩) (by
    generalize X.length + Y.length = n at *
    simp [D_slices_Concat_Lint_int_k1, hg, hl2, k2])
  have hn : noGs (X ++ Y) = true := by
    have : ∀ (A B : List PV), noGs A = true → noGs B = true → noGs (A ++ B) = true := by
      intro A B
      induction A with
      | nil => intro _ h; exact h
      | cons a A ih =>
        intro h1 h2
        simp only [noGs_cons, Bool.and_eq_true] at h1
        simp [h1.1, ih h1.2 h2]
    exact this X Y hX hY
  refine callL_fn (fn := f_slices_Concat_Lint_int) (s := ⟨[(2, .sl false 1 (X ++ Y))], [], gh⟩) rfl rfl (D_slices_Concat_Lint_int_0_ok ?h1) ?r1
  case h1 =>
    generalize X.length + Y.length = n at *
    simp [D_slices_Concat_Lint_int_0, hl1, k1]
  case r1 => simp [finish, results, f_slices_Concat_Lint_int, resOk, hn, get]
def pairsE (l : List Nd) (f : List Bool) (init : Bool) : List (Int × Int) → Int
  | [] => 0
  | p :: r => if pairE l f init p = 0 then pairsE l f init r else pairE l f init p
theorem ckG_get {f : List Bool} : (ckG gh m f)[gh.length]? = some (.cells [LN m.nodes, LP m.inits, LP m.nexts, LI m.bads, LI m.holds, .sl true 1 (f.map B)]) := by simp [ckG]
abbrev twoL (m : Md) : PV := .sl true 1 [LP m.inits, LP m.nexts]
def pr2St (m : Md) (f : List Bool) (ps : List (Int × Int)) (k j : Nat) (gh : List GObj) : St :=
  ⟨[(0, .ptr true gh.length 0), (3, I (k : Int)), (23, twoL m), (24, I 2), (25, I (k : Int)), (30, LP ps), (31, I ps.length), (32, I (j : Int))], [], ckG gh m f⟩
theorem pairs_loop2 {f : List Bool} {ps : List (Int × Int)} {k : Nat} (hf : f.length = m.nodes.length) (hs : Sz ps.length) : ∀ n j, j + n = ps.length →
    runL pg f_model_checker_pairs_l2 (pr2St m f ps k j gh) = if pairsE m.nodes f (decide (k = 0)) (ps.drop j) = 0 then some (.normal, ⟨[(0, .ptr true gh.length 0), (23, twoL m), (24, I 2), (25, I (k : Int))], [], ckG gh m f⟩)
      else some (.ret, ⟨[(2, I (pairsE m.nodes f (decide (k = 0)) (ps.drop j)))], [], ckG gh m f⟩)
  | 0, j, h => by
    rw [List.drop_eq_nil_of_le (by omega), pairsE, if_pos rfl]
    have hlt : ¬ (j : Int) < (ps.length : Int) := by omega
    refine (lp_exit (s1 := ?s1) (D_model_checker_pairs_b2_ok ?h1)).trans ?r1
    case h1 => simp only [D_model_checker_pairs_b2, decide_eq_false hlt, br_false]; rfl
    case r1 => simp [keep, stays]
  | n + 1, j, h => by
    have hlt : j < ps.length := by omega
    have hltI : (j : Int) < (ps.length : Int) := by omega
    have e2 : IntKind.i64.wrap ((j : Int) + 1) = ((j + 1 : Nat) : Int) := wrap_nat (by simp only [Sz] at hs ⊢; omega)
    have hx : (ps.map andV)[j]? = some (andV ps[j]) := by simp [List.getElem?_eq_getElem hlt]
    rw [andV_def] at hx
    have hp := pair_eq (m := m) (f := f) (init := decide (k = 0)) (p := ps[j]) hf (ckG_get (gh := gh))
    rw [andV_def] at hp
    rw [List.drop_eq_getElem_cons hlt, pairsE]
    generalize ps[j] = p at *
    obtain ⟨a, b⟩ := p
    simp only at hx hp
    have hk0 : ((k : Int) == 0) = decide (k = 0) := by
      rw [beqI]; exact decide_eq_decide.2 (by omega)
    obtain ⟨ini, hini⟩ : ∃ ini, decide (k = 0) = ini := ⟨_, rfl⟩
    rw [hini] at hk0 hp ⊢
    by_cases he : pairE m.nodes f ini (a, b) = 0
    · rw [if_pos he]
      rw [he] at hp
      refine lp_next (s1 := pr2St m f ps k (j + 1) gh) (D_model_checker_pairs_b2_ok ?_) ?_
      · unfold pr2St
        generalize ckG gh m f = g0 at *
        simp only [D_model_checker_pairs_b2, hk0]
        simp [hltI, hx, hp, e2, -List.getElem?_map]
      · rw [← hini]
        exact pairs_loop2 hf hs n (j + 1) (by omega)
    · rw [if_neg he, if_neg he]
      refine lp_ret (D_model_checker_pairs_b2_ok ?_)
      generalize ckG gh m f = g0 at *
      simp only [D_model_checker_pairs_b2, hk0]
      simp [hltI, hx, hp, he, -List.getElem?_map]
end
end Go.Lw
end

/-! Models: pairs that name a state twice, and marks (the program). -/
section
namespace Go.Lw
open Go
def mapB (l : List Int) : List (PV × PV) := l.map fun a => (I a, B true)
def insL (l : List Int) (k : Int) : List Int := if k ∈ l then l else l ++ [k]
theorem mset_mapB (l : List Int) (k : Int) : mset 0 (mapB l) (I k) (B true) = some (mapB (insL l k)) := by
  induction l with
  | nil => rfl
  | cons a l ih =>
    by_cases h : k = a
    · simp [mapB, insL, mset, sameKey, h]
    · have ih' : mset 0 (l.map fun a => (I a, B true)) (I k) (B true) = some (mapB (insL l k)) := ih
      by_cases h2 : k ∈ l
      · simp [mapB, insL, mset, sameKey, beq_false_of_ne h, h, h2] at ih' ⊢
        exact ih'
      · simp [mapB, insL, mset, sameKey, beq_false_of_ne h, h, h2] at ih' ⊢
        exact ih'
def insA (l : List Int) (xs : List Int) : List Int := xs.foldl insL l
theorem insL_len (l : List Int) (k : Int) : (insL l k).length = if k ∈ l then l.length else l.length + 1 := by
  unfold insL; split <;> simp
theorem insL_mem {l : List Int} {k a : Int} : a ∈ insL l k ↔ a ∈ l ∨ a = k := by
  unfold insL; split
  · rename_i h
    exact ⟨.inl, fun h2 => h2.elim id fun e => e ▸ h⟩
  · simp
theorem insA_len : ∀ (xs l : List Int), (insA l xs).length ≤ l.length + xs.length ∧ ((insA l xs).length = l.length + xs.length ↔ (xs.Nodup ∧ ∀ a ∈ xs, a ∉ l))
  | [], l => by simp [insA]
  | x :: xs, l => by
    have ih := insA_len xs (insL l x)
    have e : insA l (x :: xs) = insA (insL l x) xs := rfl
    rw [e]
    have hl := insL_len l x
    by_cases h : x ∈ l
    · rw [if_pos h] at hl
      rw [hl] at ih
      refine ⟨by simp; omega, ⟨fun he => by simp at he; omega, fun ⟨_, h2⟩ => absurd h (h2 x (by simp))⟩⟩
    · rw [if_neg h] at hl
      rw [hl] at ih
      refine ⟨by simp; omega, ?_⟩
      have e2 : (x :: xs).length = xs.length + 1 := rfl
      rw [e2, show l.length + (xs.length + 1) = l.length + 1 + xs.length by omega, ih.2]
      simp only [List.nodup_cons, List.mem_cons, insL_mem]
      constructor
      · rintro ⟨h1, h2⟩
        refine ⟨⟨fun hx => (h2 x hx) (.inr rfl), h1⟩, ?_⟩
        rintro a (rfl | ha)
        · exact h
        · exact fun hal => h2 a ha (.inl hal)
      · rintro ⟨⟨h1, h2⟩, h3⟩
        refine ⟨h2, fun a ha => ?_⟩
        rintro (h4 | rfl)
        · exact h3 a (.inr ha) h4
        · exact h1 ha
def twice (ps : List (Int × Int)) : Prop := ¬ (ps.map (·.1)).Nodup
instance (ps : List (Int × Int)) : Decidable (twice ps) := by unfold twice; exact inferInstance
theorem twice_len (ps : List (Int × Int)) : ((insA [] (ps.map (·.1))).length < ps.length) ↔ twice ps := by
  have := insA_len (ps.map (·.1)) []
  simp at this
  unfold twice
  rw [← this.2]
  omega
section
variable {m : Md} {gh : List GObj}
theorem pairs_loop4 {ps : List (Int × Int)} {k : Nat} (hs : Sz ps.length) : ∀ n j (acc : List Int), j + n = ps.length →
    runL pg f_model_checker_pairs_l4 ⟨[(9, LP ps), (10, .mp gh.length), (56, twoL m), (57, I 2), (58, I (k : Int)), (63, LP ps), (64, I ps.length), (65, I (j : Int))], [], gh ++ [.map (mapB acc)]⟩ =
      some (.normal, ⟨[(9, LP ps), (10, .mp gh.length), (56, twoL m), (57, I 2), (58, I (k : Int))], [], gh ++ [.map (mapB (insA acc ((ps.drop j).map (·.1))))]⟩)
  | 0, j, acc, h => by
    rw [List.drop_eq_nil_of_le (by omega)]
    have hlt : ¬ (j : Int) < (ps.length : Int) := by omega
    refine (lp_exit (s1 := ?s1) (D_model_checker_pairs_b4_ok ?h1)).trans ?r1
    case h1 => simp only [D_model_checker_pairs_b4, decide_eq_false hlt, br_false]; rfl
    case r1 => simp [keep, stays, insA]
  | n + 1, j, acc, h => by
    have hlt : j < ps.length := by omega
    have hltI : (j : Int) < (ps.length : Int) := by omega
    have e2 : IntKind.i64.wrap ((j : Int) + 1) = ((j + 1 : Nat) : Int) := wrap_nat (by simp only [Sz] at hs ⊢; omega)
    have hx : (ps.map andV)[j]? = some (andV ps[j]) := by simp [List.getElem?_eq_getElem hlt]
    rw [andV_def] at hx
    rw [List.drop_eq_getElem_cons hlt]
    generalize ps[j] = p at *
    obtain ⟨a, b⟩ := p
    simp only [List.map_cons] at hx ⊢
    have hin : insA acc (a :: (ps.drop (j + 1)).map (·.1)) = insA (insL acc a) ((ps.drop (j + 1)).map (·.1)) := rfl
    rw [hin]
    have hm := mset_mapB acc a
    refine lp_next (s1 := ⟨[(9, LP ps), (10, .mp gh.length), (56, twoL m), (57, I 2), (58, I (k : Int)), (63, LP ps), (64, I ps.length), (65, I ((j + 1 : Nat) : Int))], [], gh ++ [GObj.map (mapB (insL acc a))]⟩) (D_model_checker_pairs_b4_ok ?_) (pairs_loop4 (k := k) hs n (j + 1) (insL acc a) (by omega))
    simp [D_model_checker_pairs_b4, hltI, hx, e2, hm, -List.getElem?_map]
theorem pairs_b3 {ps : List (Int × Int)} {k : Nat} (hk : (k = 0 ∧ ps = m.inits) ∨ (k = 1 ∧ ps = m.nexts)) (hs : Sz ps.length) :
    runL pg f_model_checker_pairs_b3 ⟨[(56, twoL m), (57, I 2), (58, I (k : Int))], [], gh⟩ =
      if twice ps then some (.ret, ⟨[(2, I 6)], [], gh ++ [.map (mapB (insA [] (ps.map (·.1))))]⟩)
      else some (.normal, ⟨[(56, twoL m), (57, I 2), (58, I ((k + 1 : Nat) : Int))], [], gh ++ [.map (mapB (insA [] (ps.map (·.1))))]⟩) := by
  have h4 := pairs_loop4 (m := m) (gh := gh) (k := k) hs ps.length 0 [] (by omega)
  rw [List.drop_zero] at h4
  simp only [Int.natCast_zero] at h4
  have hml : ∀ l, (mapB l).length = l.length := fun l => by simp [mapB]
  have hlt : decide (((insA [] (ps.map (·.1))).length : Int) < (ps.length : Int)) = decide (twice ps) := by
    have := twice_len ps
    exact decide_eq_decide.2 (by rw [← this]; omega)
  have hltN : decide ((insA [] (ps.map (·.1))).length < ps.length) = decide (twice ps) := decide_eq_decide.2 (twice_len ps)
  have hmb : mapB [] = [] := rfl
  rw [hmb] at h4
  have e2 : IntKind.i64.wrap ((k : Int) + 1) = ((k + 1 : Nat) : Int) := by rcases hk with ⟨rfl, _⟩ | ⟨rfl, _⟩ <;> decide
  have hix : ([LP m.inits, LP m.nexts] : List PV)[k]? = some (LP ps) := by rcases hk with ⟨rfl, rfl⟩ | ⟨rfl, rfl⟩ <;> rfl
  have hk2 : (k : Int) < 2 := by omega
  generalize hA : insA [] (ps.map (·.1)) = A at *
  have k3 := D_model_checker_pairs_k3_ok (pg := pg) (gh := gh ++ [.map (mapB A)]) (v9 := LP ps) (v10 := .mp gh.length) (v56 := twoL m) (x57 := 2) (x58 := k)
    (e := if twice ps then .ret else .normal) (s := if twice ps then ⟨[(2, I 6)], [], gh ++ [.map (mapB A)]⟩ else ⟨[(56, twoL m), (57, I 2), (58, I (k : Int)), (77, B false)], [], gh ++ [.map (mapB A)]⟩)
    (by
      simp [D_model_checker_pairs_k3, hml, hltN]
      by_cases ht : twice ps <;> simp [ht])
  have k4 := D_model_checker_pairs_k4_ok (pg := pg) (gh := gh ++ [.map (mapB A)]) (v56 := twoL m) (x57 := 2) (x58 := k) (b77 := false) (e := .normal) (s := ⟨[(56, twoL m), (57, I 2), (58, I ((k + 1 : Nat) : Int))], [], gh ++ [.map (mapB A)]⟩) (by simp [D_model_checker_pairs_k4, e2])
  by_cases ht : twice ps
  · rw [if_pos ht] at k3 ⊢
    rw [if_pos ht] at k3
    refine D_model_checker_pairs_b3_ok ?_
    simp [D_model_checker_pairs_b3, hk2, hix, h4, k3]
  · rw [if_neg ht] at k3 ⊢
    rw [if_neg ht] at k3
    refine D_model_checker_pairs_b3_ok ?_
    simp [D_model_checker_pairs_b3, hk2, hix, h4, k3, k4]
end
end Go.Lw
end
