/-
  The texts that the proof stands on, part 10.
-/
import Derived.Test.YtmodipglnngghacSearchIsI
import Derived.KernelRfl
set_option linter.unusedVariables false
set_option linter.unusedSimpArgs false
set_option linter.unnecessarySimpa false

/-! What the code of function proof_checker_put comes to, piece by piece. Written by program (dprint.py). -/
section
set_option maxRecDepth 10000
set_option maxHeartbeats 4000000
namespace Go.Lw
open Go
noncomputable section
variable {pg : Prg} {gh : List GObj} {e : IExit} {s : St}
def an_proof_checker_put : Tr := (tB 17 (tI 9 (tB 4 (tI 1 (uG 0) .nil) (tO 8 (uG 5) .nil)) (tG 12 (tB 11 (uI 10) .nil) (tI 16 (uO 15) .nil))) (tG 25 (tO 22 (tG 19 (uB 18) .nil) (tG 24 (uI 23) .nil)) (tO 30 (tI 29 (uO 28) .nil) (uO 31))))
def D_proof_checker_put_k1 (pg : Prg)  (gh : List GObj) : DR := some (.ret, ⟨[(4, B true)], [], gh⟩)
theorem D_proof_checker_put_k1_ok  (h : D_proof_checker_put_k1 pg  gh = some (e, s)) : runL pg f_proof_checker_put_k1 ⟨[], [], gh⟩ = some (e, s) :=
  runX_ok an_proof_checker_put (Eq.trans (by kernel_rfl) h)
def D_proof_checker_put_0 (pg : Prg) (g0 o0 : Nat) (x1 : Int) (gh : List GObj) : DR :=
  ob (ghCells gh g0) fun cs1 =>
  ob (grab false 1 (o0 + 2) cs1) fun v2 => isC (degr v2) (
  lkX gh 0 (degr (degr v2)) (I (IntKind.i64.wrap (0 - x1))) fun r3 => unB (Option.getD r3 (B false)) fun b4 =>
  br 11 b4 (some (.ret, ⟨[(4, B false)], [], gh⟩)) (
  ob (ghCells gh g0) fun cs5 =>
  ob (grab false 1 (o0 + 2) cs5) fun v6 => isC (degr v6) (
  lkX gh 0 (degr (degr v6)) (I x1) fun r7 => unB (Option.getD r7 (B false)) fun b8 =>
  br 18 (!b8) (
  ob (ghCells gh g0) fun cs9 =>
  ob (grab false 1 (o0 + 2) cs9) fun v10 => isC (degr v10) (
  muX gh 0 (degr (degr v10)) (I x1) (B true) fun gh11 =>
  ob (ghCells gh11 g0) fun cs12 =>
  ob (grab false 1 (o0 + 3) cs12) fun v13 => isC (degr v13) (
  anX gh11 8 (degr (degr v13)) (.sl false 1 [I x1]) fun gh14 v15 => isC v15 (arK v15 (isC v15 (
  ob (ghCells gh14 g0) fun cs16 => gb (stOk 1 (o0 + 3) [v15] cs16) (
  kR (runL pg f_proof_checker_put_k1 ⟨[], [], (List.set gh14 g0 (.cells (spliceAt cs16 (o0 + 3) [v15])))⟩) (fun e s => some (e, s))))))))) (
  kR (runL pg f_proof_checker_put_k1 ⟨[], [], gh⟩) (fun e s => some (e, s))))))
theorem D_proof_checker_put_0_ok {g0 o0 : Nat} {x1 : Int} (h : D_proof_checker_put_0 pg g0 o0 x1 gh = some (e, s)) : runL pg f_proof_checker_put_0 ⟨[(0, .ptr true g0 o0), (1, I x1)], [], gh⟩ = some (e, s) :=
  runX_ok an_proof_checker_put (Eq.trans (by kernel_rfl) h)
end
end Go.Lw
end

/-! What the code of function proof_checker_must comes to, piece by piece. Written by program (dprint.py). -/
section
set_option maxRecDepth 10000
set_option maxHeartbeats 4000000
namespace Go.Lw
open Go
noncomputable section
variable {pg : Prg} {gh : List GObj} {e : IExit} {s : St}
def an_proof_checker_must : Tr := (tG 23 (tI 11 (tI 6 (tB 4 (tO 1 (uG 0) .nil) (uI 5)) (tO 9 (uI 8) (uI 10))) (tO 19 (tB 15 (tI 14 (uB 12) .nil) (uG 16)) (tB 21 (uI 20) (uB 22)))) (tI 34 (tB 30 (tI 28 (tI 27 (uO 26) .nil) (uB 29)) (tI 32 (uI 31) (uI 33))) (tB 39 (tB 37 (tB 36 (uI 35) .nil) (uB 38)) (tI 41 (uG 40) (uB 42)))))
def D_proof_checker_must_k1 (pg : Prg) (g0 o0 : Nat) (x5 x6 : Int) (v9 : PV) (x10 x11 : Int) (gh : List GObj) : DR := stK 0 v9 (some (.normal, ⟨[(0, .ptr true g0 o0), (5, I x5), (6, I x6), (9, v9), (10, I x10), (11, (I (IntKind.i64.wrap (x11 + 1))))], [], gh⟩))
theorem D_proof_checker_must_k1_ok {g0 o0 : Nat} {x5 x6 : Int} {v9 : PV} {x10 x11 : Int} (h : D_proof_checker_must_k1 pg g0 o0 x5 x6 v9 x10 x11 gh = some (e, s)) : runL pg f_proof_checker_must_k1 ⟨[(0, .ptr true g0 o0), (5, I x5), (6, I x6), (9, v9), (10, I x10), (11, I x11)], [], gh⟩ = some (e, s) :=
  runX_ok an_proof_checker_must (Eq.trans (by kernel_rfl) h)
def D_proof_checker_must_b1 (pg : Prg) (g0 o0 : Nat) (x5 x6 : Int) (v9 : PV) (x10 x11 : Int) (gh : List GObj) : DR :=
  br 12 (decide (x11 < x10)) (
  idX 1 none (degr v9) x11 fun p1 =>
  lkK gh (degr p1) fun v2 => unI .i64 v2 fun n3 => stK 0 v9 (
  ob (ghCells gh g0) fun cs4 =>
  ob (grab false 1 (o0 + 2) cs4) fun v5 => isC (degr v5) (
  lkX gh 0 (degr (degr v5)) (I n3) fun r6 => unB (Option.getD r6 (B false)) fun b7 => stK 0 v9 (
  br 15 b7 (some (.ret, ⟨[(4, B true)], [], gh⟩)) (
  ob (ghCells gh g0) fun cs8 =>
  ob (grab false 1 (o0 + 2) cs8) fun v10 => isC (degr v10) (
  lkX gh 0 (degr (degr v10)) (I (IntKind.i64.wrap (0 - n3))) fun r11 => unB (Option.getD r11 (B false)) fun b12 => stK 0 v9 (
  br 22 (!b12) (stK 0 v9 (stK 0 v9 (stK 0 v9 (
  kR (runL pg f_proof_checker_must_k1 ⟨[(0, .ptr true g0 o0), (5, I n3), (6, (I (IntKind.i64.wrap (x6 + 1)))), (9, v9), (10, I x10), (11, I x11)], [], gh⟩) (fun e s => po [0, 5, 6, 9, 10, 11] 0 e s (fun e s => some (e, s))))))) (stK 0 v9 (
  kR (runL pg f_proof_checker_must_k1 ⟨[(0, .ptr true g0 o0), (5, I x5), (6, I x6), (9, v9), (10, I x10), (11, I x11)], [], gh⟩) (fun e s => po [0, 5, 6, 9, 10, 11] 0 e s (fun e s => some (e, s)))))))))))) (some ((.exit 0), ⟨[(0, .ptr true g0 o0), (5, I x5), (6, I x6), (9, v9), (10, I x10), (11, I x11), (12, (B (decide (x11 < x10))))], [], gh⟩))
theorem D_proof_checker_must_b1_ok {g0 o0 : Nat} {x5 x6 : Int} {v9 : PV} {x10 x11 : Int} (h : D_proof_checker_must_b1 pg g0 o0 x5 x6 v9 x10 x11 gh = some (e, s)) : runL pg f_proof_checker_must_b1 ⟨[(0, .ptr true g0 o0), (5, I x5), (6, I x6), (9, v9), (10, I x10), (11, I x11)], [], gh⟩ = some (e, s) :=
  runX_ok an_proof_checker_must (Eq.trans (by kernel_rfl) h)
def D_proof_checker_must_k2 (pg : Prg) (g0 o0 : Nat) (x5 x6 : Int) (gh : List GObj) : DR :=
  br 36 (x6 == 0) (some (.ret, ⟨[(4, B false)], [], gh⟩)) (
  br 38 (x6 == 1) (
  callR gh false (callL pg 158 [.ptr true g0 o0, I x5] gh) fun r1 gh2 => unB r1 fun b3 => some (.ret, ⟨[(4, B b3)], [], gh2⟩)) (some (.ret, ⟨[(4, B true)], [], gh⟩)))
theorem D_proof_checker_must_k2_ok {g0 o0 : Nat} {x5 x6 : Int} (h : D_proof_checker_must_k2 pg g0 o0 x5 x6 gh = some (e, s)) : runL pg f_proof_checker_must_k2 ⟨[(0, .ptr true g0 o0), (5, I x5), (6, I x6)], [], gh⟩ = some (e, s) :=
  runX_ok an_proof_checker_must (Eq.trans (by kernel_rfl) h)
def D_proof_checker_must_0 (pg : Prg) (g0 o0 : Nat) (v1 : PV) (gh : List GObj) : DR := stK 0 v1 (isC (degr v1) (lenS (degr (degr v1)) fun n1 => stK 0 (degr v1) (
  kR (runL pg f_proof_checker_must_l1 ⟨[(0, .ptr true g0 o0), (5, I 0), (6, I 0), (9, (degr v1)), (10, (I (n1 : Int))), (11, I 0)], [], gh⟩) (fun e s => nx e s (fun e s => some (e, s)) fun s => kR (runL pg f_proof_checker_must_k2 s) (fun e s => some (e, s))))))
theorem D_proof_checker_must_0_ok {g0 o0 : Nat} {v1 : PV} (h : D_proof_checker_must_0 pg g0 o0 v1 gh = some (e, s)) : runL pg f_proof_checker_must_0 ⟨[(0, .ptr true g0 o0), (1, v1)], [], gh⟩ = some (e, s) :=
  runX_ok an_proof_checker_must (Eq.trans (by kernel_rfl) h)
end
end Go.Lw
end

/-! What the code of function proof_checker_follows comes to, piece by piece. Written by program (dprint.py). -/
section
set_option maxRecDepth 10000
set_option maxHeartbeats 4000000
namespace Go.Lw
open Go
noncomputable section
variable {pg : Prg} {gh : List GObj} {e : IExit} {s : St}
def an_proof_checker_follows : Tr := (tI 49 (tB 28 (tO 14 (tO 8 (tB 4 (tO 1 (uG 0) .nil) (uI 6)) (tG 12 (tI 11 (uI 9) .nil) (uG 13))) (tI 24 (tI 21 (tI 20 (uO 19) .nil) (uB 22)) (tI 26 (uG 25) (uI 27)))) (tO 40 (tI 35 (tG 31 (tI 30 (uB 29) .nil) (uO 34)) (tB 37 (uI 36) (uO 39))) (tO 45 (tB 43 (tB 42 (uI 41) .nil) (uG 44)) (tB 47 (uB 46) (uB 48))))) (tO 79 (tI 65 (tG 56 (tI 54 (tO 53 (uG 50) .nil) (uB 55)) (tO 63 (tG 60 (uO 59) .nil) (uI 64))) (tG 73 (tG 69 (tG 68 (uI 67) .nil) (uO 72)) (tI 77 (uO 76) (uI 78)))) (tI 93 (tO 88 (tI 86 (tO 85 (uG 82) .nil) (uI 87)) (tI 90 (uI 89) (uB 91))) (tO 101 (tO 98 (tG 95 (uG 94) .nil) (uI 99)) (tB 103 (uB 102) (uI 104))))))
def D_proof_checker_follows_b1 (pg : Prg) (g0 o0 : Nat) (v19 : PV) (x20 x21 : Int) (gh : List GObj) : DR :=
  br 22 (decide (x21 < x20)) (
  idX 1 none (degr v19) x21 fun p1 =>
  ldX [] gh false 1 (degr p1) fun v2 => unI .i64 v2 fun n3 => stK 0 v19 (
  callR gh false (callL pg 158 [.ptr true g0 o0, (I (IntKind.i64.wrap (0 - n3)))] gh) fun r4 gh5 => unB r4 fun b6 => stK 0 v19 (
  br 29 (!b6) (some (.ret, ⟨[(4, B true)], [], gh5⟩)) (stK 0 v19 (stK 0 v19 (some (.normal, ⟨[(0, .ptr true g0 o0), (19, v19), (20, I x20), (21, (I (IntKind.i64.wrap (x21 + 1))))], [], gh5⟩))))))) (some ((.exit 0), ⟨[(0, .ptr true g0 o0), (19, v19), (20, I x20), (21, I x21), (22, (B (decide (x21 < x20))))], [], gh⟩))
theorem D_proof_checker_follows_b1_ok {g0 o0 : Nat} {v19 : PV} {x20 x21 : Int} (h : D_proof_checker_follows_b1 pg g0 o0 v19 x20 x21 gh = some (e, s)) : runL pg f_proof_checker_follows_b1 ⟨[(0, .ptr true g0 o0), (19, v19), (20, I x20), (21, I x21)], [], gh⟩ = some (e, s) :=
  runX_ok an_proof_checker_follows (Eq.trans (by kernel_rfl) h)
def D_proof_checker_follows_b2 (pg : Prg) (g0 o0 : Nat) (v34 : PV) (x35 x36 : Int) (gh : List GObj) : DR :=
  br 37 (decide (x36 < x35)) (
  idX 1 none (degr v34) x36 fun p1 =>
  ldX [] gh false 1 (degr p1) fun v2 => isC v2 (stK 0 v2 (stK 0 v34 (isC (degr v2) (lenS (degr (degr v2)) fun n3 =>
  br 43 (decide ((n3 : Int) < 2)) (isC (degr v2) (arK (degr (degr v2)) (
  callR gh false (callL pg 159 [.ptr true g0 o0, (degr (degr v2))] gh) fun r4 gh5 => unB r4 fun b6 => stK 0 v34 (
  br 48 (!b6) (some (.ret, ⟨[(4, B true)], [], gh5⟩)) (stK 0 v34 (stK 0 v34 (some (.normal, ⟨[(0, .ptr true g0 o0), (34, v34), (35, I x35), (36, (I (IntKind.i64.wrap (x36 + 1))))], [], gh5⟩)))))))) (stK 0 v34 (stK 0 v34 (stK 0 v34 (some (.normal, ⟨[(0, .ptr true g0 o0), (34, v34), (35, I x35), (36, (I (IntKind.i64.wrap (x36 + 1))))], [], gh⟩)))))))))) (some ((.exit 2), ⟨[(0, .ptr true g0 o0), (34, v34), (35, I x35), (36, I x36), (37, (B (decide (x36 < x35))))], [], gh⟩))
theorem D_proof_checker_follows_b2_ok {g0 o0 : Nat} {v34 : PV} {x35 x36 : Int} (h : D_proof_checker_follows_b2 pg g0 o0 v34 x35 x36 gh = some (e, s)) : runL pg f_proof_checker_follows_b2 ⟨[(0, .ptr true g0 o0), (34, v34), (35, I x35), (36, I x36)], [], gh⟩ = some (e, s) :=
  runX_ok an_proof_checker_follows (Eq.trans (by kernel_rfl) h)
def D_proof_checker_follows_b4 (pg : Prg) (g0 o0 : Nat) (v88 : PV) (x89 x90 : Int) (gh : List GObj) : DR :=
  br 91 (decide (x90 < x89)) (
  idX 1 none (degr v88) x90 fun p1 =>
  lkK gh (degr p1) fun v2 => unI .i64 v2 fun n3 => stK 0 v88 (
  ob (ghCells gh g0) fun cs4 =>
  ob (grab false 1 (o0 + 0) cs4) fun v5 => isC (degr v5) (
  idX 1 none (degr (degr v5)) n3 fun p6 =>
  ldX [] gh false 1 (degr p6) fun v7 => isC v7 (arK (degr v7) (
  callR gh false (callL pg 159 [.ptr true g0 o0, (degr v7)] gh) fun r8 gh9 => unB r8 fun b10 => stK 0 v88 (
  br 103 (!b10) (some (.ret, ⟨[(4, B true)], [], gh9⟩)) (stK 0 v88 (stK 0 v88 (some (.normal, ⟨[(0, .ptr true g0 o0), (88, v88), (89, I x89), (90, (I (IntKind.i64.wrap (x90 + 1))))], [], gh9⟩)))))))))) (some ((.exit 6), ⟨[(0, .ptr true g0 o0), (88, v88), (89, I x89), (90, I x90), (91, (B (decide (x90 < x89))))], [], gh⟩))
theorem D_proof_checker_follows_b4_ok {g0 o0 : Nat} {v88 : PV} {x89 x90 : Int} (h : D_proof_checker_follows_b4 pg g0 o0 v88 x89 x90 gh = some (e, s)) : runL pg f_proof_checker_follows_b4 ⟨[(0, .ptr true g0 o0), (88, v88), (89, I x89), (90, I x90)], [], gh⟩ = some (e, s) :=
  runX_ok an_proof_checker_follows (Eq.trans (by kernel_rfl) h)
def D_proof_checker_follows_b3 (pg : Prg) (g0 o0 : Nat) (gh : List GObj) : DR :=
  ob (ghCells gh g0) fun cs1 =>
  ob (grab false 1 (o0 + 3) cs1) fun v2 => isC (degr v2) (lenS (degr (degr v2)) fun n3 =>
  br 55 (decide (0 < (n3 : Int))) (
  ob (ghCells gh g0) fun cs4 =>
  ob (grab false 1 (o0 + 3) cs4) fun v5 => isC (degr v5) (
  ob (ghCells gh g0) fun cs6 =>
  ob (grab false 1 (o0 + 3) cs6) fun v7 => isC (degr v7) (lenS (degr (degr v7)) fun n8 =>
  idX 1 none (degr (degr v5)) (IntKind.i64.wrap ((n8 : Int) - 1)) fun p9 =>
  lkK gh (degr p9) fun v10 => unI .i64 v10 fun n11 =>
  ob (ghCells gh g0) fun cs12 =>
  ob (grab false 1 (o0 + 3) cs12) fun v13 => isC (degr v13) (
  ob (ghCells gh g0) fun cs14 =>
  ob (grab false 1 (o0 + 3) cs14) fun v15 => isC (degr v15) (lenS (degr (degr v15)) fun n16 =>
  slX 1 (degr (degr v13)) none (some (IntKind.i64.wrap ((n16 : Int) - 1))) fun v17 => isC v17 (arK v17 (isC v17 (
  ob (ghCells gh g0) fun cs18 => gb (stOk 1 (o0 + 3) [v17] cs18) (
  ob (ghCells (List.set gh g0 (.cells (spliceAt cs18 (o0 + 3) [v17]))) g0) fun cs19 =>
  ob (grab false 1 (o0 + 1) cs19) fun v20 => isC (degr v20) (
  lkX (List.set gh g0 (.cells (spliceAt cs18 (o0 + 3) [v17]))) 0 (degr (degr v20)) (I (IntKind.i64.wrap (0 - n11))) fun r21 => isC (Option.getD r21 .nils) (lenS (degr (Option.getD r21 .nils)) fun n22 => stK 0 (Option.getD r21 .nils) (
  kR (runL pg f_proof_checker_follows_l4 ⟨[(0, .ptr true g0 o0), (88, (Option.getD r21 .nils)), (89, (I (n22 : Int))), (90, I 0)], [], (List.set gh g0 (.cells (spliceAt cs18 (o0 + 3) [v17])))⟩) (fun e s => bk 5 e s (fun e s => po [0] 0 e s (fun e s => some (e, s)))))))))))))))) (some ((.exit 4), ⟨[(0, .ptr true g0 o0), (55, (B (decide (0 < (n3 : Int)))))], [], gh⟩)))
theorem D_proof_checker_follows_b3_ok {g0 o0 : Nat} (h : D_proof_checker_follows_b3 pg g0 o0 gh = some (e, s)) : runL pg f_proof_checker_follows_b3 ⟨[(0, .ptr true g0 o0)], [], gh⟩ = some (e, s) :=
  runX_ok an_proof_checker_follows (Eq.trans (by kernel_rfl) h)
def D_proof_checker_follows_k3 (pg : Prg)  (gh : List GObj) : DR := some (.ret, ⟨[(4, B false)], [], gh⟩)
theorem D_proof_checker_follows_k3_ok  (h : D_proof_checker_follows_k3 pg  gh = some (e, s)) : runL pg f_proof_checker_follows_k3 ⟨[], [], gh⟩ = some (e, s) :=
  runX_ok an_proof_checker_follows (Eq.trans (by kernel_rfl) h)
def D_proof_checker_follows_k2 (pg : Prg) (g0 o0 : Nat) (gh : List GObj) : DR :=
  kR (runL pg f_proof_checker_follows_l3 ⟨[(0, .ptr true g0 o0)], [], gh⟩) (fun e s => nx e s (fun e s => some (e, s)) fun s => kR (runL pg f_proof_checker_follows_k3 s) (fun e s => some (e, s)))
theorem D_proof_checker_follows_k2_ok {g0 o0 : Nat} (h : D_proof_checker_follows_k2 pg g0 o0 gh = some (e, s)) : runL pg f_proof_checker_follows_k2 ⟨[(0, .ptr true g0 o0)], [], gh⟩ = some (e, s) :=
  runX_ok an_proof_checker_follows (Eq.trans (by kernel_rfl) h)
def D_proof_checker_follows_k1 (pg : Prg) (g0 o0 : Nat) (gh : List GObj) : DR :=
  ob (ghCells gh g0) fun cs1 =>
  ob (grab false 1 (o0 + 0) cs1) fun v2 => isC (degr v2) (lenS (degr (degr v2)) fun n3 => stK 0 (degr v2) (
  kR (runL pg f_proof_checker_follows_l2 ⟨[(0, .ptr true g0 o0), (34, (degr v2)), (35, (I (n3 : Int))), (36, I 0)], [], gh⟩) (fun e s => nx e s (fun e s => some (e, s)) fun s => kR (runL pg f_proof_checker_follows_k2 s) (fun e s => some (e, s)))))
theorem D_proof_checker_follows_k1_ok {g0 o0 : Nat} (h : D_proof_checker_follows_k1 pg g0 o0 gh = some (e, s)) : runL pg f_proof_checker_follows_k1 ⟨[(0, .ptr true g0 o0)], [], gh⟩ = some (e, s) :=
  runX_ok an_proof_checker_follows (Eq.trans (by kernel_rfl) h)
def D_proof_checker_follows_0 (pg : Prg) (g0 o0 : Nat) (v1 : PV) (gh : List GObj) : DR := stK 0 v1 (
  ob (ghCells (gh ++ [.map []]) g0) fun cs1 => gb (stOk 1 (o0 + 2) [(.mp (List.length gh))] cs1) (
  ob (ghCells (List.set (gh ++ [.map []]) g0 (.cells (spliceAt cs1 (o0 + 2) [(.mp (List.length gh))]))) g0) fun cs2 => gb (stOk 1 (o0 + 3) [.nils] cs2) (stK 0 v1 (isC (degr v1) (lenS (degr (degr v1)) fun n3 => stK 0 (degr v1) (
  kR (runL pg f_proof_checker_follows_l1 ⟨[(0, .ptr true g0 o0), (19, (degr v1)), (20, (I (n3 : Int))), (21, I 0)], [], (List.set (List.set (gh ++ [.map []]) g0 (.cells (spliceAt cs1 (o0 + 2) [(.mp (List.length gh))]))) g0 (.cells (spliceAt cs2 (o0 + 3) [.nils])))⟩) (fun e s => nx e s (fun e s => some (e, s)) fun s => kR (runL pg f_proof_checker_follows_k1 s) (fun e s => some (e, s)))))))))
theorem D_proof_checker_follows_0_ok {g0 o0 : Nat} {v1 : PV} (h : D_proof_checker_follows_0 pg g0 o0 v1 gh = some (e, s)) : runL pg f_proof_checker_follows_0 ⟨[(0, .ptr true g0 o0), (1, v1)], [], gh⟩ = some (e, s) :=
  runX_ok an_proof_checker_follows (Eq.trans (by kernel_rfl) h)
end
end Go.Lw
end

/-! What the code of function proof_checker_add comes to, piece by piece. Written by program (dprint.py). -/
section
set_option maxRecDepth 10000
set_option maxHeartbeats 4000000
namespace Go.Lw
open Go
noncomputable section
variable {pg : Prg} {gh : List GObj} {e : IExit} {s : St}
def an_proof_checker_add : Tr := (tG 23 (tO 12 (tO 7 (tI 5 (tO 1 (uG 0) .nil) (uO 6)) (tO 10 (uO 8) (uO 11))) (tI 17 (tI 14 (uI 13) (uB 15)) (tO 21 (uG 18) (uI 22)))) (tO 35 (tG 29 (tI 27 (uO 26) (uO 28)) (tI 33 (uO 32) (uO 34))) (tO 41 (tG 37 (uI 36) (uG 38)) (tO 43 (uO 42) (uO 44)))))
def D_proof_checker_add_b1 (pg : Prg) (g0 o0 : Nat) (v1 v12 : PV) (x13 x14 : Int) (gh : List GObj) : DR :=
  br 15 (decide (x14 < x13)) (
  idX 1 none (degr v12) x14 fun p1 =>
  lkK gh (degr p1) fun v2 => unI .i64 v2 fun n3 => stK 0 v1 (stK 0 v12 (
  ob (ghCells gh g0) fun cs4 =>
  ob (grab false 1 (o0 + 1) cs4) fun v5 => isC (degr v5) (
  ob (ghCells gh g0) fun cs6 =>
  ob (grab false 1 (o0 + 1) cs6) fun v7 => isC (degr v7) (
  lkX gh 0 (degr (degr v7)) (I n3) fun r8 => isC (Option.getD r8 .nils) (
  ob (ghCells gh g0) fun cs9 =>
  ob (grab false 1 (o0 + 0) cs9) fun v10 => isC (degr v10) (lenS (degr (degr v10)) fun n11 =>
  anX gh 8 (degr (Option.getD r8 .nils)) (.sl false 1 [(I (n11 : Int))]) fun gh12 v13 => isC v13 (
  muX gh12 0 (degr (degr v5)) (I n3) (degr v13) fun gh14 => stK 0 v1 (stK 0 v12 (stK 0 v1 (stK 0 v12 (stK 0 v1 (stK 0 v12 (some (.normal, ⟨[(0, .ptr true g0 o0), (1, v1), (12, v12), (13, I x13), (14, (I (IntKind.i64.wrap (x14 + 1))))], [], gh14⟩))))))))))))))) (some ((.exit 0), ⟨[(0, .ptr true g0 o0), (1, v1), (12, v12), (13, I x13), (14, I x14), (15, (B (decide (x14 < x13))))], [], gh⟩))
theorem D_proof_checker_add_b1_ok {g0 o0 : Nat} {v1 v12 : PV} {x13 x14 : Int} (h : D_proof_checker_add_b1 pg g0 o0 v1 v12 x13 x14 gh = some (e, s)) : runL pg f_proof_checker_add_b1 ⟨[(0, .ptr true g0 o0), (1, v1), (12, v12), (13, I x13), (14, I x14)], [], gh⟩ = some (e, s) :=
  runX_ok an_proof_checker_add (Eq.trans (by kernel_rfl) h)
def D_proof_checker_add_k1 (pg : Prg) (g0 o0 : Nat) (v1 : PV) (gh : List GObj) : DR :=
  ob (ghCells gh g0) fun cs1 => ob (cs1[(o0 + 0)]?) fun v2 => isC (degr v1) (arK (degr (degr v1)) (lnK 1 (degr (degr v1)) (
  apX 1 24 v2 (.sl false 1 [(degr (degr v1))]) fun l3 =>
  ob (ghCells (List.set gh g0 (.cells (spliceAt cs1 (o0 + 0) [degr1 v2]))) g0) fun cs4 => gb (stOk 1 (o0 + 0) [.sl true 1 l3] cs4) (some (.normal, ⟨[], [], (List.set (List.set gh g0 (.cells (spliceAt cs1 (o0 + 0) [degr1 v2]))) g0 (.cells (spliceAt cs4 (o0 + 0) [.sl true 1 l3])))⟩)))))
theorem D_proof_checker_add_k1_ok {g0 o0 : Nat} {v1 : PV} (h : D_proof_checker_add_k1 pg g0 o0 v1 gh = some (e, s)) : runL pg f_proof_checker_add_k1 ⟨[(0, .ptr true g0 o0), (1, v1)], [], gh⟩ = some (e, s) :=
  runX_ok an_proof_checker_add (Eq.trans (by kernel_rfl) h)
def D_proof_checker_add_0 (pg : Prg) (g0 o0 : Nat) (v1 : PV) (gh : List GObj) : DR := isC (degr v1) (arK (degr (degr v1)) (
  callR gh false (callL pg 121 [(degr (degr v1))] gh) fun r1 gh2 => isC r1 (stK 0 r1 (isC (degr r1) (arK (degr (degr r1)) (
  callR gh2 false (callL pg 161 [(degr (degr r1))] gh2) fun r3 gh4 => stK 0 r1 (isC (degr r1) (arK (degr (degr r1)) (
  callR gh4 false (callL pg 162 [(degr (degr r1))] gh4) fun r5 gh6 => isC r5 (stK 0 r5 (isC (degr r5) (lenS (degr (degr r5)) fun n7 => stK 0 r5 (stK 0 (degr r5) (
  kR (runL pg f_proof_checker_add_l1 ⟨[(0, .ptr true g0 o0), (1, r5), (12, (degr r5)), (13, (I (n7 : Int))), (14, I 0)], [], gh6⟩) (fun e s => nx e s (fun e s => some (e, s)) fun s => kR (runL pg f_proof_checker_add_k1 s) (fun e s => some (e, s)))))))))))))))))
theorem D_proof_checker_add_0_ok {g0 o0 : Nat} {v1 : PV} (h : D_proof_checker_add_0 pg g0 o0 v1 gh = some (e, s)) : runL pg f_proof_checker_add_0 ⟨[(0, .ptr true g0 o0), (1, v1)], [], gh⟩ = some (e, s) :=
  runX_ok an_proof_checker_add (Eq.trans (by kernel_rfl) h)
end
end Go.Lw
end

/-! What the code of function proof_open comes to, piece by piece. Written by program (dprint.py). -/
section
set_option maxRecDepth 10000
set_option maxHeartbeats 4000000
namespace Go.Lw
open Go
noncomputable section
variable {pg : Prg} {gh : List GObj} {e : IExit} {s : St}
def an_proof_open : Tr := (tI 10 (tO 6 (tG 3 (uO 0) (uO 5)) (tG 8 (.node 7 (.agg [.any, .any, .any, .any]) .nil .nil) (uO 9))) (tG 15 (tB 12 (uI 11) (uO 14)) (tI 18 (uO 16) (uG 19))))
def D_proof_open_b1 (pg : Prg) (g3 o3 : Nat) (v9 : PV) (x10 x11 : Int) (gh : List GObj) : DR :=
  br 12 (decide (x11 < x10)) (
  idX 1 none (degr v9) x11 fun p1 =>
  ldX [] gh false 1 (degr p1) fun v2 => isC v2 (stK 0 v2 (stK 0 v9 (isC (degr v2) (arK (degr (degr v2)) (
  callR gh false (callL pg 157 [.ptr true g3 o3, (degr (degr v2))] gh) fun r3 gh4 => stK 0 v9 (stK 0 v9 (stK 0 v9 (some (.normal, ⟨[(3, .ptr true g3 o3), (9, v9), (10, I x10), (11, (I (IntKind.i64.wrap (x11 + 1))))], [], gh4⟩)))))))))) (some ((.exit 0), ⟨[(3, .ptr true g3 o3), (9, v9), (10, I x10), (11, I x11), (12, (B (decide (x11 < x10))))], [], gh⟩))
theorem D_proof_open_b1_ok {g3 o3 : Nat} {v9 : PV} {x10 x11 : Int} (h : D_proof_open_b1 pg g3 o3 v9 x10 x11 gh = some (e, s)) : runL pg f_proof_open_b1 ⟨[(3, .ptr true g3 o3), (9, v9), (10, I x10), (11, I x11)], [], gh⟩ = some (e, s) :=
  runX_ok an_proof_open (Eq.trans (by kernel_rfl) h)
def D_proof_open_k1 (pg : Prg) (g3 o3 : Nat) (gh : List GObj) : DR := some (.ret, ⟨[(2, .ptr true g3 o3)], [], gh⟩)
theorem D_proof_open_k1_ok {g3 o3 : Nat} (h : D_proof_open_k1 pg g3 o3 gh = some (e, s)) : runL pg f_proof_open_k1 ⟨[(3, .ptr true g3 o3)], [], gh⟩ = some (e, s) :=
  runX_ok an_proof_open (Eq.trans (by kernel_rfl) h)
def D_proof_open_0 (pg : Prg) (v0 : PV) (gh : List GObj) : DR := stK 0 v0 (stK 0 v0 (isC (degr v0) (lenS (degr (degr v0)) fun n1 => stK 0 (degr v0) (
  kR (runL pg f_proof_open_l1 ⟨[(3, (.ptr true (List.length (gh ++ [.map []])) 0)), (9, (degr v0)), (10, (I (n1 : Int))), (11, I 0)], [], ((gh ++ [.map []]) ++ [.cells [.sl true 1 [], (.mp (List.length gh)), .nilm, .nils]])⟩) (fun e s => nx e s (fun e s => some (e, s)) fun s => kR (runL pg f_proof_open_k1 s) (fun e s => some (e, s)))))))
theorem D_proof_open_0_ok {v0 : PV} (h : D_proof_open_0 pg v0 gh = some (e, s)) : runL pg f_proof_open_0 ⟨[(0, v0)], [], gh⟩ = some (e, s) :=
  runX_ok an_proof_open (Eq.trans (by kernel_rfl) h)
end
end Go.Lw
end

/-! What the code of function ref_Has comes to, piece by piece. Written by program (dprint.py). -/
section
set_option maxRecDepth 10000
set_option maxHeartbeats 4000000
namespace Go.Lw
open Go
noncomputable section
variable {pg : Prg} {gh : List GObj} {e : IExit} {s : St}
def an_ref_Has : Tr := (tB 9 (tI 5 (tI 1 (uO 0) (uB 4)) (tO 7 (uI 6) (uI 8))) (tI 13 (tI 11 (uI 10) (uO 12)) (tI 16 (uI 15) (uB 17))))
def D_ref_Has_b1 (pg : Prg) (v0 : PV) (x1 x5 : Int) (gh : List GObj) : DR := isC (degr v0) (lenS (degr (degr v0)) fun n1 => stK 0 v0 (
  br 9 (decide (x5 < (n1 : Int))) (isC (degr v0) (
  idX 1 none (degr (degr v0)) x5 fun p2 =>
  ldX [] gh false 1 (degr p2) fun v3 => unI .i64 v3 fun n4 => stK 0 v0 (
  br 17 (n4 == x1) (some (.ret, ⟨[(4, B true)], [], gh⟩)) (stK 0 v0 (stK 0 v0 (some (.normal, ⟨[(0, v0), (1, I x1), (5, (I (IntKind.i64.wrap (x5 + 1))))], [], gh⟩))))))) (some ((.exit 0), ⟨[(0, v0), (1, I x1), (5, I x5), (9, (B (decide (x5 < (n1 : Int)))))], [], gh⟩))))
theorem D_ref_Has_b1_ok {v0 : PV} {x1 x5 : Int} (h : D_ref_Has_b1 pg v0 x1 x5 gh = some (e, s)) : runL pg f_ref_Has_b1 ⟨[(0, v0), (1, I x1), (5, I x5)], [], gh⟩ = some (e, s) :=
  runX_ok an_ref_Has (Eq.trans (by kernel_rfl) h)
def D_ref_Has_k1 (pg : Prg)  (gh : List GObj) : DR := some (.ret, ⟨[(4, B false)], [], gh⟩)
theorem D_ref_Has_k1_ok  (h : D_ref_Has_k1 pg  gh = some (e, s)) : runL pg f_ref_Has_k1 ⟨[], [], gh⟩ = some (e, s) :=
  runX_ok an_ref_Has (Eq.trans (by kernel_rfl) h)
def D_ref_Has_0 (pg : Prg) (v0 : PV) (x1 : Int) (gh : List GObj) : DR := stK 0 v0 (stK 0 v0 (
  kR (runL pg f_ref_Has_l1 ⟨[(0, v0), (1, I x1), (5, I 0)], [], gh⟩) (fun e s => nx e s (fun e s => some (e, s)) fun s => kR (runL pg f_ref_Has_k1 s) (fun e s => some (e, s)))))
theorem D_ref_Has_0_ok {v0 : PV} {x1 : Int} (h : D_ref_Has_0 pg v0 x1 gh = some (e, s)) : runL pg f_ref_Has_0 ⟨[(0, v0), (1, I x1)], [], gh⟩ = some (e, s) :=
  runX_ok an_ref_Has (Eq.trans (by kernel_rfl) h)
end
end Go.Lw
end

/-! What the code of function ref_FollowsOf comes to, piece by piece. Written by program (dprint.py). -/
section
set_option maxRecDepth 10000
set_option maxHeartbeats 4000000
namespace Go.Lw
open Go
noncomputable section
variable {pg : Prg} {gh : List GObj} {e : IExit} {s : St}
def an_ref_FollowsOf : Tr := (tO 45 (tI 22 (tI 12 (tB 7 (tB 4 (tO 1 (uO 0) .nil) (tI 6 (uO 5) .nil)) (tI 10 (tI 9 (uI 8) .nil) (uB 11))) (tB 17 (tO 15 (tI 14 (uI 13) .nil) (uI 16)) (tO 20 (tI 19 (uI 18) .nil) (uO 21)))) (tB 34 (tI 28 (tO 26 (tB 25 (uI 24) .nil) (uO 27)) (tO 32 (tI 31 (uI 30) .nil) (uO 33))) (tI 39 (tI 37 (tO 36 (uI 35) .nil) (uB 38)) (tO 42 (tI 41 (uI 40) .nil) (uI 43))))) (tB 68 (tI 58 (tI 51 (tI 48 (tB 47 (uI 46) .nil) (tO 50 (uI 49) .nil)) (tI 56 (tI 54 (uO 53) .nil) (uO 57))) (tB 63 (tI 61 (tO 60 (uB 59) .nil) (uB 62)) (tI 66 (tO 65 (uB 64) .nil) (uI 67)))) (tI 78 (tI 73 (tB 71 (tB 70 (uB 69) .nil) (uI 72)) (tI 76 (tB 75 (uB 74) .nil) (uI 77))) (tB 83 (tB 81 (tI 80 (uB 79) .nil) (uI 82)) (tO 86 (tI 85 (uO 84) .nil) (uO 87))))))
def D_ref_FollowsOf_b1 (pg : Prg) (v0 v1 v5 : PV) (x6 : Int) (gh : List GObj) : DR := isC (degr v1) (lenS (degr (degr v1)) fun n1 => stK 0 v0 (stK 0 v1 (stK 0 v5 (
  br 17 (decide (x6 < (n1 : Int))) (isC (degr v5) (isC (degr v1) (
  idX 1 none (degr (degr v1)) x6 fun p2 =>
  ldX [] gh false 1 (degr p2) fun v3 => unI .i64 v3 fun n4 => arK (degr (degr v5)) (
  callR gh true (callL pg 45 [(degr (degr v5)), I n4] gh) fun r5 gh6 => unB r5 fun b7 => stK 0 v0 (stK 0 v1 (stK 0 v5 (
  br 25 b7 (some (.ret, ⟨[(4, B true)], [], gh6⟩)) (isC (degr v1) (
  idX 1 none (degr (degr v1)) x6 fun p8 =>
  ldX [] gh6 false 1 (degr p8) fun v9 => unI .i64 v9 fun n10 =>
  apX 1 8 v5 (.sl false 1 [(I (IntKind.i64.wrap (0 - n10)))]) fun l11 => stK 0 v0 (stK 0 v1 (stK 0 v0 (stK 0 v1 (stK 0 v0 (stK 0 v1 (some (.normal, ⟨[(0, v0), (1, v1), (5, .sl true 1 l11), (6, (I (IntKind.i64.wrap (x6 + 1))))], [], gh6⟩)))))))))))))))) (some ((.exit 0), ⟨[(0, v0), (1, v1), (5, v5), (6, I x6), (17, (B (decide (x6 < (n1 : Int)))))], [], gh⟩))))))
theorem D_ref_FollowsOf_b1_ok {v0 v1 v5 : PV} {x6 : Int} (h : D_ref_FollowsOf_b1 pg v0 v1 v5 x6 gh = some (e, s)) : runL pg f_ref_FollowsOf_b1 ⟨[(0, v0), (1, v1), (5, v5), (6, I x6)], [], gh⟩ = some (e, s) :=
  runX_ok an_ref_FollowsOf (Eq.trans (by kernel_rfl) h)
def D_ref_FollowsOf_k2 (pg : Prg) (v0 v5 : PV) (b7 : Bool) (x8 x9 x10 : Int) (b11 : Bool) (x12 x13 : Int) (gh : List GObj) : DR := isC (degr v5) (arK (degr (degr v5)) (
  callR gh true (callL pg 45 [(degr (degr v5)), I x13] gh) fun r1 gh2 => unB r1 fun b3 =>
  br 64 (!b3) (isC (degr v5) (arK (degr (degr v5)) (
  callR gh2 true (callL pg 45 [(degr (degr v5)), (I (IntKind.i64.wrap (0 - x13)))] gh2) fun r4 gh5 => unB r4 fun b6 =>
  br 71 (!b6) (stK 0 v0 (stK 0 v5 (
  br 75 (x13 != x9) (stK 0 v0 (stK 0 v5 (stK 0 v0 (stK 0 v5 (stK 0 v0 (stK 0 v5 (some (.normal, ⟨[(0, v0), (5, v5), (7, B b7), (8, I x8), (9, I x13), (10, (I (IntKind.i64.wrap (x10 + 1)))), (11, B b11), (12, I x12)], [], gh5⟩)))))))) (stK 0 v0 (stK 0 v5 (some (.normal, ⟨[(0, v0), (5, v5), (7, B b7), (8, I x8), (9, I x9), (10, I x10), (11, B b11), (12, I x12)], [], gh5⟩))))))) (stK 0 v0 (stK 0 v5 (stK 0 v0 (stK 0 v5 (some (.normal, ⟨[(0, v0), (5, v5), (7, B b7), (8, I x8), (9, I x9), (10, I x10), (11, B b11), (12, I x12)], [], gh5⟩))))))))) (stK 0 v0 (stK 0 v5 (stK 0 v0 (stK 0 v5 (some (.normal, ⟨[(0, v0), (5, v5), (7, B b7), (8, I x8), (9, I x9), (10, I x10), (11, B b11), (12, I x12)], [], gh2⟩))))))))
theorem D_ref_FollowsOf_k2_ok {v0 v5 : PV} {b7 : Bool} {x8 x9 x10 : Int} {b11 : Bool} {x12 x13 : Int} (h : D_ref_FollowsOf_k2 pg v0 v5 b7 x8 x9 x10 b11 x12 x13 gh = some (e, s)) : runL pg f_ref_FollowsOf_k2 ⟨[(0, v0), (5, v5), (7, B b7), (8, I x8), (9, I x9), (10, I x10), (11, B b11), (12, I x12), (13, I x13)], [], gh⟩ = some (e, s) :=
  runX_ok an_ref_FollowsOf (Eq.trans (by kernel_rfl) h)
def D_ref_FollowsOf_k3 (pg : Prg) (v0 v5 : PV) (b7 : Bool) (x8 x9 x10 : Int) (b11 : Bool) (x12 : Int) (gh : List GObj) : DR := stK 0 v0 (stK 0 v5 (some (.normal, ⟨[(0, v0), (5, v5), (7, B b7), (8, I x8), (9, I x9), (10, I x10), (11, B b11), (12, (I (IntKind.i64.wrap (x12 + 1))))], [], gh⟩)))
theorem D_ref_FollowsOf_k3_ok {v0 v5 : PV} {b7 : Bool} {x8 x9 x10 : Int} {b11 : Bool} {x12 : Int} (h : D_ref_FollowsOf_k3 pg v0 v5 b7 x8 x9 x10 b11 x12 gh = some (e, s)) : runL pg f_ref_FollowsOf_k3 ⟨[(0, v0), (5, v5), (7, B b7), (8, I x8), (9, I x9), (10, I x10), (11, B b11), (12, I x12)], [], gh⟩ = some (e, s) :=
  runX_ok an_ref_FollowsOf (Eq.trans (by kernel_rfl) h)
def D_ref_FollowsOf_b4 (pg : Prg) (v0 v5 : PV) (b7 : Bool) (x8 x9 x10 : Int) (b11 : Bool) (x12 : Int) (gh : List GObj) : DR := isC (degr v0) (
  idX 1 none (degr (degr v0)) x8 fun p1 =>
  ldX [] gh false 1 (degr p1) fun v2 => isC v2 (lenS (degr v2) fun n3 => stK 0 v0 (stK 0 v5 (
  br 47 (decide (x12 < (n3 : Int))) (isC (degr v0) (
  idX 1 none (degr (degr v0)) x8 fun p4 =>
  ldX [] gh false 1 (degr p4) fun v6 => isC v6 (
  idX 1 none (degr v6) x12 fun p7 =>
  ldX [] gh false 1 (degr p7) fun v8 => unI .i64 v8 fun n9 => stK 0 v0 (stK 0 v5 (isC (degr v5) (arK (degr (degr v5)) (
  callR gh true (callL pg 45 [(degr (degr v5)), I n9] gh) fun r10 gh11 => unB r10 fun b12 => stK 0 v0 (stK 0 v5 (
  br 59 b12 (stK 0 v0 (stK 0 v5 (stK 0 v0 (stK 0 v5 (
  kR (runL pg f_ref_FollowsOf_k2 ⟨[(0, v0), (5, v5), (7, B b7), (8, I x8), (9, I x9), (10, I x10), (11, B true), (12, I x12), (13, I n9)], [], gh11⟩) (fun e s => bk 7 e s (fun e s => nx e s (fun e s => po [0, 5, 7, 8, 9, 10, 11, 12] 0 e s (fun e s => some (e, s))) fun s => kR (runL pg f_ref_FollowsOf_k3 s) (fun e s => po [0, 5, 7, 8, 9, 10, 11, 12] 0 e s (fun e s => some (e, s)))))))))) (stK 0 v0 (stK 0 v5 (
  kR (runL pg f_ref_FollowsOf_k2 ⟨[(0, v0), (5, v5), (7, B b7), (8, I x8), (9, I x9), (10, I x10), (11, B b11), (12, I x12), (13, I n9)], [], gh11⟩) (fun e s => bk 7 e s (fun e s => nx e s (fun e s => po [0, 5, 7, 8, 9, 10, 11, 12] 0 e s (fun e s => some (e, s))) fun s => kR (runL pg f_ref_FollowsOf_k3 s) (fun e s => po [0, 5, 7, 8, 9, 10, 11, 12] 0 e s (fun e s => some (e, s))))))))))))))))) (some ((.exit 6), ⟨[(0, v0), (5, v5), (7, B b7), (8, I x8), (9, I x9), (10, I x10), (11, B b11), (12, I x12), (47, (B (decide (x12 < (n3 : Int)))))], [], gh⟩))))))
theorem D_ref_FollowsOf_b4_ok {v0 v5 : PV} {b7 : Bool} {x8 x9 x10 : Int} {b11 : Bool} {x12 : Int} (h : D_ref_FollowsOf_b4 pg v0 v5 b7 x8 x9 x10 b11 x12 gh = some (e, s)) : runL pg f_ref_FollowsOf_b4 ⟨[(0, v0), (5, v5), (7, B b7), (8, I x8), (9, I x9), (10, I x10), (11, B b11), (12, I x12)], [], gh⟩ = some (e, s) :=
  runX_ok an_ref_FollowsOf (Eq.trans (by kernel_rfl) h)
def D_ref_FollowsOf_k4 (pg : Prg) (v0 v5 : PV) (b7 : Bool) (x8 x9 x10 : Int) (b11 : Bool) (gh : List GObj) : DR := stK 0 v0 (stK 0 v5 (
  br 79 b11 (some ((.exit 5), ⟨[(0, v0), (5, v5), (7, B b7), (8, I x8), (9, I x9), (10, I x10), (79, B b11)], [], gh⟩)) (stK 0 v0 (stK 0 v5 (
  br 81 (x10 == 0) (some (.ret, ⟨[(4, B true)], [], gh⟩)) (stK 0 v0 (stK 0 v5 (
  br 83 (x10 == 1) (
  apX 1 8 v5 (.sl false 1 [I x9]) fun l1 => stK 0 v0 (stK 0 v0 (some (.normal, ⟨[(0, v0), (5, .sl true 1 l1), (7, B true), (8, I x8)], [], gh⟩)))) (stK 0 v0 (stK 0 v5 (some (.normal, ⟨[(0, v0), (5, v5), (7, B b7), (8, I x8)], [], gh⟩))))))))))))
theorem D_ref_FollowsOf_k4_ok {v0 v5 : PV} {b7 : Bool} {x8 x9 x10 : Int} {b11 : Bool} (h : D_ref_FollowsOf_k4 pg v0 v5 b7 x8 x9 x10 b11 gh = some (e, s)) : runL pg f_ref_FollowsOf_k4 ⟨[(0, v0), (5, v5), (7, B b7), (8, I x8), (9, I x9), (10, I x10), (11, B b11)], [], gh⟩ = some (e, s) :=
  runX_ok an_ref_FollowsOf (Eq.trans (by kernel_rfl) h)
def D_ref_FollowsOf_k5 (pg : Prg) (v0 v5 : PV) (b7 : Bool) (x8 : Int) (gh : List GObj) : DR := stK 0 v0 (stK 0 v5 (some (.normal, ⟨[(0, v0), (5, v5), (7, B b7), (8, (I (IntKind.i64.wrap (x8 + 1))))], [], gh⟩)))
theorem D_ref_FollowsOf_k5_ok {v0 v5 : PV} {b7 : Bool} {x8 : Int} (h : D_ref_FollowsOf_k5 pg v0 v5 b7 x8 gh = some (e, s)) : runL pg f_ref_FollowsOf_k5 ⟨[(0, v0), (5, v5), (7, B b7), (8, I x8)], [], gh⟩ = some (e, s) :=
  runX_ok an_ref_FollowsOf (Eq.trans (by kernel_rfl) h)
def D_ref_FollowsOf_b3 (pg : Prg) (v0 v5 : PV) (b7 : Bool) (x8 : Int) (gh : List GObj) : DR := isC (degr v0) (lenS (degr (degr v0)) fun n1 => stK 0 v0 (stK 0 v5 (
  br 38 (decide (x8 < (n1 : Int))) (stK 0 v0 (stK 0 v5 (stK 0 v0 (stK 0 v5 (
  kR (runL pg f_ref_FollowsOf_l4 ⟨[(0, v0), (5, v5), (7, B b7), (8, I x8), (9, I 0), (10, I 0), (11, B false), (12, I 0)], [], gh⟩) (fun e s => nx e s (fun e s => bk 5 e s (fun e s => po [0, 5, 7, 8] 0 e s (fun e s => nx e s (fun e s => po [0, 5, 7, 8] 0 e s (fun e s => some (e, s))) fun s => kR (runL pg f_ref_FollowsOf_k5 s) (fun e s => po [0, 5, 7, 8] 0 e s (fun e s => some (e, s)))))) fun s => kR (runL pg f_ref_FollowsOf_k4 s) (fun e s => bk 5 e s (fun e s => po [0, 5, 7, 8] 0 e s (fun e s => nx e s (fun e s => po [0, 5, 7, 8] 0 e s (fun e s => some (e, s))) fun s => kR (runL pg f_ref_FollowsOf_k5 s) (fun e s => po [0, 5, 7, 8] 0 e s (fun e s => some (e, s)))))))))))) (some ((.exit 4), ⟨[(0, v0), (5, v5), (7, B b7), (8, I x8), (38, (B (decide (x8 < (n1 : Int)))))], [], gh⟩)))))
theorem D_ref_FollowsOf_b3_ok {v0 v5 : PV} {b7 : Bool} {x8 : Int} (h : D_ref_FollowsOf_b3 pg v0 v5 b7 x8 gh = some (e, s)) : runL pg f_ref_FollowsOf_b3 ⟨[(0, v0), (5, v5), (7, B b7), (8, I x8)], [], gh⟩ = some (e, s) :=
  runX_ok an_ref_FollowsOf (Eq.trans (by kernel_rfl) h)
def D_ref_FollowsOf_b2 (pg : Prg) (v0 v5 : PV) (b7 : Bool) (gh : List GObj) : DR := stK 0 v0 (stK 0 v5 (
  br 34 b7 (stK 0 v0 (stK 0 v5 (stK 0 v0 (stK 0 v5 (
  kR (runL pg f_ref_FollowsOf_l3 ⟨[(0, v0), (5, v5), (7, B false), (8, I 0)], [], gh⟩) (fun e s => bk 3 e s (fun e s => po [0, 5, 7] 0 e s (fun e s => some (e, s))))))))) (some ((.exit 2), ⟨[(0, v0), (5, v5), (34, B b7)], [], gh⟩))))
theorem D_ref_FollowsOf_b2_ok {v0 v5 : PV} {b7 : Bool} (h : D_ref_FollowsOf_b2 pg v0 v5 b7 gh = some (e, s)) : runL pg f_ref_FollowsOf_b2 ⟨[(0, v0), (5, v5), (7, B b7)], [], gh⟩ = some (e, s) :=
  runX_ok an_ref_FollowsOf (Eq.trans (by kernel_rfl) h)
def D_ref_FollowsOf_k6 (pg : Prg)  (gh : List GObj) : DR := some (.ret, ⟨[(4, B false)], [], gh⟩)
theorem D_ref_FollowsOf_k6_ok  (h : D_ref_FollowsOf_k6 pg  gh = some (e, s)) : runL pg f_ref_FollowsOf_k6 ⟨[], [], gh⟩ = some (e, s) :=
  runX_ok an_ref_FollowsOf (Eq.trans (by kernel_rfl) h)
def D_ref_FollowsOf_k1 (pg : Prg) (v0 v5 : PV) (gh : List GObj) : DR := stK 0 v0 (stK 0 v5 (
  kR (runL pg f_ref_FollowsOf_l2 ⟨[(0, v0), (5, v5), (7, B true)], [], gh⟩) (fun e s => nx e s (fun e s => some (e, s)) fun s => kR (runL pg f_ref_FollowsOf_k6 s) (fun e s => some (e, s)))))
theorem D_ref_FollowsOf_k1_ok {v0 v5 : PV} (h : D_ref_FollowsOf_k1 pg v0 v5 gh = some (e, s)) : runL pg f_ref_FollowsOf_k1 ⟨[(0, v0), (5, v5)], [], gh⟩ = some (e, s) :=
  runX_ok an_ref_FollowsOf (Eq.trans (by kernel_rfl) h)
def D_ref_FollowsOf_0 (pg : Prg) (v0 v1 : PV) (gh : List GObj) : DR := stK 0 v0 (stK 0 v1 (stK 0 v0 (stK 0 v1 (
  kR (runL pg f_ref_FollowsOf_l1 ⟨[(0, v0), (1, v1), (5, .sl true 1 []), (6, I 0)], [], gh⟩) (fun e s => nx e s (fun e s => some (e, s)) fun s => kR (runL pg f_ref_FollowsOf_k1 s) (fun e s => some (e, s)))))))
theorem D_ref_FollowsOf_0_ok {v0 v1 : PV} (h : D_ref_FollowsOf_0 pg v0 v1 gh = some (e, s)) : runL pg f_ref_FollowsOf_0 ⟨[(0, v0), (1, v1)], [], gh⟩ = some (e, s) :=
  runX_ok an_ref_FollowsOf (Eq.trans (by kernel_rfl) h)
end
end Go.Lw
end

/-! What the code of function slices_ContainsFunc_Lint_int comes to, piece by piece. Written by program (dprint.py). -/
section
set_option maxRecDepth 10000
set_option maxHeartbeats 4000000
namespace Go.Lw
open Go
noncomputable section
variable {pg : Prg} {gh : List GObj} {e : IExit} {s : St}
def an_slices_ContainsFunc_Lint_int : Tr := (tO 5 (tO 1 (uO 0) (uB 4)) (tI 7 (uO 6) (uB 8)))
def D_slices_ContainsFunc_Lint_int_0 (pg : Prg) (v0 v1 : PV) (gh : List GObj) : DR := stK 0 v0 (stK 0 v1 (isC (degr v0) (isC (degr v1) (arK (degr (degr v0)) (arK (degr (degr v1)) (
  callR gh true (callL pg 111 [(degr (degr v0)), (degr (degr v1))] gh) fun r1 gh2 => unI .i64 r1 fun n3 => some (.ret, ⟨[(4, (B (decide (0 ≤ n3))))], [], gh2⟩)))))))
theorem D_slices_ContainsFunc_Lint_int_0_ok {v0 v1 : PV} (h : D_slices_ContainsFunc_Lint_int_0 pg v0 v1 gh = some (e, s)) : runL pg f_slices_ContainsFunc_Lint_int_0 ⟨[(0, v0), (1, v1)], [], gh⟩ = some (e, s) :=
  runX_ok an_slices_ContainsFunc_Lint_int (Eq.trans (by kernel_rfl) h)
end
end Go.Lw
end

/-! What the code of function slices_IndexFunc_Lint_int comes to, piece by piece. Written by program (dprint.py). -/
section
set_option maxRecDepth 10000
set_option maxHeartbeats 4000000
namespace Go.Lw
open Go
noncomputable section
variable {pg : Prg} {gh : List GObj} {e : IExit} {s : St}
def an_slices_IndexFunc_Lint_int : Tr := (tI 10 (tO 6 (tI 4 (tO 1 (uO 0) .nil) (uI 5)) (tI 8 (uI 7) (uB 9))) (tI 15 (tO 12 (uO 11) (uI 13)) (tI 17 (uB 16) (uI 18))))
def D_slices_IndexFunc_Lint_int_b1 (pg : Prg) (v0 v1 : PV) (x7 x8 : Int) (gh : List GObj) : DR :=
  br 9 (decide (x8 < x7)) (stK 0 v0 (stK 0 v1 (isC (degr v1) (isC (degr v0) (
  idX 1 none (degr (degr v0)) x8 fun p1 =>
  ldX [] gh false 1 (degr p1) fun v2 => unI .i64 v2 fun n3 =>
  fnX (degr (degr v1)) fun f6 cs7 => allK cs7 (callR gh true (callL pg f6 ([I n3] ++ cs7) gh) fun r4 gh5 => unB r4 fun b8 => stK 0 v0 (stK 0 v1 (
  br 16 b8 (some (.ret, ⟨[(4, I x8)], [], gh5⟩)) (stK 0 v0 (stK 0 v1 (stK 0 v0 (stK 0 v1 (some (.normal, ⟨[(0, v0), (1, v1), (7, I x7), (8, (I (IntKind.i64.wrap (x8 + 1))))], [], gh5⟩)))))))))))))) (some ((.exit 0), ⟨[(0, v0), (1, v1), (7, I x7), (8, I x8), (9, (B (decide (x8 < x7))))], [], gh⟩))
theorem D_slices_IndexFunc_Lint_int_b1_ok {v0 v1 : PV} {x7 x8 : Int} (h : D_slices_IndexFunc_Lint_int_b1 pg v0 v1 x7 x8 gh = some (e, s)) : runL pg f_slices_IndexFunc_Lint_int_b1 ⟨[(0, v0), (1, v1), (7, I x7), (8, I x8)], [], gh⟩ = some (e, s) :=
  runX_ok an_slices_IndexFunc_Lint_int (Eq.trans (by kernel_rfl) h)
def D_slices_IndexFunc_Lint_int_k1 (pg : Prg)  (gh : List GObj) : DR := some (.ret, ⟨[(4, (I (-1)))], [], gh⟩)
theorem D_slices_IndexFunc_Lint_int_k1_ok  (h : D_slices_IndexFunc_Lint_int_k1 pg  gh = some (e, s)) : runL pg f_slices_IndexFunc_Lint_int_k1 ⟨[], [], gh⟩ = some (e, s) :=
  runX_ok an_slices_IndexFunc_Lint_int (Eq.trans (by kernel_rfl) h)
def D_slices_IndexFunc_Lint_int_0 (pg : Prg) (v0 v1 : PV) (gh : List GObj) : DR := stK 0 v0 (stK 0 v1 (isC (degr v0) (lenS (degr (degr v0)) fun n1 => stK 0 v0 (stK 0 v1 (
  kR (runL pg f_slices_IndexFunc_Lint_int_l1 ⟨[(0, v0), (1, v1), (7, (I (n1 : Int))), (8, I 0)], [], gh⟩) (fun e s => nx e s (fun e s => some (e, s)) fun s => kR (runL pg f_slices_IndexFunc_Lint_int_k1 s) (fun e s => some (e, s))))))))
theorem D_slices_IndexFunc_Lint_int_0_ok {v0 v1 : PV} (h : D_slices_IndexFunc_Lint_int_0 pg v0 v1 gh = some (e, s)) : runL pg f_slices_IndexFunc_Lint_int_0 ⟨[(0, v0), (1, v1)], [], gh⟩ = some (e, s) :=
  runX_ok an_slices_IndexFunc_Lint_int (Eq.trans (by kernel_rfl) h)
end
end Go.Lw
end

/-! What the code of function cnf_one comes to, piece by piece. Written by program (dprint.py). -/
section
set_option maxRecDepth 10000
set_option maxHeartbeats 4000000
namespace Go.Lw
open Go
noncomputable section
variable {pg : Prg} {gh : List GObj} {e : IExit} {s : St}
def an_cnf_one : Tr := (tI 6 (tG 2 (tO 1 (uI 0) .nil) (tO 5 (uI 4) .nil)) (tO 9 (tO 8 (uB 7) .nil) (uB 10)))
def D_cnf_one_0 (pg : Prg) (x0 : Int) (v1 : PV) (gh : List GObj) : DR := stK 0 v1 (isC (degr v1) (lenS (degr (degr v1)) fun n1 => stK 0 v1 (
  br 7 (decide (200 < (n1 : Int))) (some (.ret, ⟨[(4, I 2)], [], (gh ++ [.cells [I x0]])⟩)) (isC (degr v1) (arK (degr (degr v1)) (
  callR (gh ++ [.cells [I x0]]) true (callL pg 86 [(degr (degr v1)), (.fn 113 [(.ptr true (List.length gh) 0)])] (gh ++ [.cells [I x0]])) fun r2 gh3 => unB r2 fun b4 =>
  br 10 b4 (some (.ret, ⟨[(4, I 5)], [], gh3⟩)) (some (.ret, ⟨[(4, I 0)], [], gh3⟩))))))))
theorem D_cnf_one_0_ok {x0 : Int} {v1 : PV} (h : D_cnf_one_0 pg x0 v1 gh = some (e, s)) : runL pg f_cnf_one_0 ⟨[(0, I x0), (1, v1)], [], gh⟩ = some (e, s) :=
  runX_ok an_cnf_one (Eq.trans (by kernel_rfl) h)
end
end Go.Lw
end

/-! What the code of function cnf_one_1 comes to, piece by piece. Written by program (dprint.py). -/
section
set_option maxRecDepth 10000
set_option maxHeartbeats 4000000
namespace Go.Lw
open Go
noncomputable section
variable {pg : Prg} {gh : List GObj} {e : IExit} {s : St}
def an_cnf_one_1 : Tr := (tB 9 (tB 5 (tB 3 (tG 1 (uI 0) .nil) (uI 4)) (tI 7 (uB 6) (uI 8))) (tI 13 (tB 11 (uB 10) (uI 12)) (tB 15 (uI 14) (uB 16))))
def D_cnf_one_1_0 (pg : Prg) (x0 : Int) (g1 o1 : Nat) (gh : List GObj) : DR :=
  br 6 (x0 == 0) (some (.ret, ⟨[(3, B true)], [], gh⟩)) (
  ob (ghCells gh g1) fun cs1 =>
  ob (grab false 1 o1 cs1) fun v2 => unI .i64 (degr v2) fun n3 =>
  br 11 (decide (n3 < x0)) (some (.ret, ⟨[(3, B true)], [], gh⟩)) (
  ob (ghCells gh g1) fun cs4 =>
  ob (grab false 1 o1 cs4) fun v5 => unI .i64 (degr v5) fun n6 => some (.ret, ⟨[(3, (B (decide (x0 < (IntKind.i64.wrap (0 - n6))))))], [], gh⟩)))
theorem D_cnf_one_1_0_ok {x0 : Int} {g1 o1 : Nat} (h : D_cnf_one_1_0 pg x0 g1 o1 gh = some (e, s)) : runL pg f_cnf_one_1_0 ⟨[(0, I x0), (1, .ptr true g1 o1)], [], gh⟩ = some (e, s) :=
  runX_ok an_cnf_one_1 (Eq.trans (by kernel_rfl) h)
end
end Go.Lw
end

/-! What the code of function cnf_Check comes to, piece by piece. Written by program (dprint.py). -/
section
set_option maxRecDepth 10000
set_option maxHeartbeats 4000000
namespace Go.Lw
open Go
noncomputable section
variable {pg : Prg} {gh : List GObj} {e : IExit} {s : St}
def an_cnf_Check : Tr := (tB 17 (tB 9 (tI 5 (tI 2 (.node 0 (.agg [.int .i64, .any]) .nil .nil) (uO 4)) (tB 8 (uI 7) .nil)) (tB 13 (tB 12 (uI 11) .nil) (tI 16 (uO 15) .nil))) (tO 27 (tB 22 (tI 20 (uO 19) (uI 21)) (tI 26 (uO 24) .nil)) (tB 30 (tI 29 (uI 28) .nil) (tI 32 (uI 31) .nil))))
def D_cnf_Check_b1 (pg : Prg) (v19 : PV) (x20 x21 xc0_0 : Int) (vc0_1 : PV) (gh : List GObj) : DR :=
  br 22 (decide (x21 < x20)) (
  idX 1 none (degr v19) x21 fun p1 =>
  ldX [[I xc0_0, vc0_1]] gh false 1 (degr p1) fun v2 => isC v2 (stK 1 v2 (stK 1 v19 (isC (degr v2) (arK (degr (degr v2)) (
  callR gh true (callL pg 94 [I xc0_0, (degr (degr v2))] gh) fun r3 gh4 => unI .i64 r3 fun n5 => stK 1 v19 (stK 1 v19 (
  br 30 (n5 != 0) (some (.ret, ⟨[(2, I n5)], [], gh4⟩)) (stK 1 v19 (stK 1 v19 (some (.normal, ⟨[(1, .ptr false 0 0), (19, v19), (20, I x20), (21, (I (IntKind.i64.wrap (x21 + 1))))], [[I xc0_0, vc0_1]], gh4⟩)))))))))))) (some ((.exit 0), ⟨[(1, .ptr false 0 0), (19, v19), (20, I x20), (21, I x21), (22, (B (decide (x21 < x20))))], [[I xc0_0, vc0_1]], gh⟩))
theorem D_cnf_Check_b1_ok {v19 : PV} {x20 x21 xc0_0 : Int} {vc0_1 : PV} (h : D_cnf_Check_b1 pg v19 x20 x21 xc0_0 vc0_1 gh = some (e, s)) : runL pg f_cnf_Check_b1 ⟨[(1, .ptr false 0 0), (19, v19), (20, I x20), (21, I x21)], [[I xc0_0, vc0_1]], gh⟩ = some (e, s) :=
  runX_ok an_cnf_Check (Eq.trans (by kernel_rfl) h)
def D_cnf_Check_k1 (pg : Prg)  (gh : List GObj) : DR := some (.ret, ⟨[(2, I 0)], [], gh⟩)
theorem D_cnf_Check_k1_ok  (h : D_cnf_Check_k1 pg  gh = some (e, s)) : runL pg f_cnf_Check_k1 ⟨[], [], gh⟩ = some (e, s) :=
  runX_ok an_cnf_Check (Eq.trans (by kernel_rfl) h)
def D_cnf_Check_0 (pg : Prg) (x0_0 : Int) (v0_1 : PV) (gh : List GObj) : DR := onK (degr1 v0_1) (
  br 9 (decide (x0_0 < 0)) (some (.ret, ⟨[(2, I 3)], [], gh⟩)) (
  br 13 (decide (200000 < x0_0)) (some (.ret, ⟨[(2, I 3)], [], gh⟩)) (isC (degr (degr1 v0_1)) (lenS (degr (degr (degr1 v0_1))) fun n1 =>
  br 17 (decide (800000 < (n1 : Int))) (some (.ret, ⟨[(2, I 2)], [], gh⟩)) (isC (degr (degr1 v0_1)) (lenS (degr (degr (degr1 v0_1))) fun n2 => stK 1 (degr (degr1 v0_1)) (
  kR (runL pg f_cnf_Check_l1 ⟨[(1, .ptr false 0 0), (19, (degr (degr1 v0_1))), (20, (I (n2 : Int))), (21, I 0)], [[I x0_0, (degr1 v0_1)]], gh⟩) (fun e s => nx e s (fun e s => some (e, s)) fun s => kR (runL pg f_cnf_Check_k1 s) (fun e s => some (e, s))))))))))
theorem D_cnf_Check_0_ok {x0_0 : Int} {v0_1 : PV} (h : D_cnf_Check_0 pg x0_0 v0_1 gh = some (e, s)) : runL pg f_cnf_Check_0 ⟨[(0, .agg [I x0_0, v0_1])], [], gh⟩ = some (e, s) :=
  runX_ok an_cnf_Check (Eq.trans (by kernel_rfl) h)
end
end Go.Lw
end

/-! What the code of function ref_between comes to, piece by piece. Written by program (dprint.py). -/
section
set_option maxRecDepth 10000
set_option maxHeartbeats 4000000
namespace Go.Lw
open Go
noncomputable section
variable {pg : Prg} {gh : List GObj} {e : IExit} {s : St}
def an_ref_between : Tr := (tB 9 (tB 6 (tI 1 (uI 0) (uI 2)) (tI 8 (uI 7) .nil)) (tI 12 (tI 11 (uB 10) .nil) (tB 14 (uB 13) .nil)))
def D_ref_between_0 (pg : Prg) (x0 x1 x2 : Int) (gh : List GObj) : DR :=
  br 10 (decide (x1 ≤ x0)) (some (.ret, ⟨[(6, (B (decide (x0 ≤ x2))))], [], gh⟩)) (some (.ret, ⟨[(6, B false)], [], gh⟩))
theorem D_ref_between_0_ok {x0 x1 x2 : Int} (h : D_ref_between_0 pg x0 x1 x2 gh = some (e, s)) : runL pg f_ref_between_0 ⟨[(0, I x0), (1, I x1), (2, I x2)], [], gh⟩ = some (e, s) :=
  runX_ok an_ref_between (Eq.trans (by kernel_rfl) h)
end
end Go.Lw
end

/-! What the code of function ref_CheckClause comes to, piece by piece. Written by program (dprint.py). -/
section
set_option maxRecDepth 10000
set_option maxHeartbeats 4000000
namespace Go.Lw
open Go
noncomputable section
variable {pg : Prg} {gh : List GObj} {e : IExit} {s : St}
def an_ref_CheckClause : Tr := (tB 19 (tO 10 (tO 6 (tI 4 (tO 1 (uI 0) .nil) (uI 5)) (tB 8 (uI 7) (uI 9))) (tI 14 (tB 12 (uI 11) (uI 13)) (tI 16 (uO 15) (uI 18)))) (tB 28 (tI 24 (tO 21 (uB 20) (uI 22)) (tB 26 (uI 25) (uB 27))) (tI 33 (tI 30 (uO 29) (uI 32)) (tB 35 (uI 34) (uB 36)))))
def D_ref_CheckClause_b1 (pg : Prg) (x0 : Int) (v1 : PV) (x5 : Int) (gh : List GObj) : DR := isC (degr v1) (lenS (degr (degr v1)) fun n1 => stK 0 v1 (
  br 12 (decide (x5 < (n1 : Int))) (isC (degr v1) (
  idX 1 none (degr (degr v1)) x5 fun p2 =>
  ldX [] gh false 1 (degr p2) fun v3 => unI .i64 v3 fun n4 =>
  br 20 (n4 == 0) (stK 0 v1 (some (.ret, ⟨[(4, I 5)], [], gh⟩))) (isC (degr v1) (
  idX 1 none (degr (degr v1)) x5 fun p5 =>
  ldX [] gh false 1 (degr p5) fun v6 => unI .i64 v6 fun n7 =>
  br 28 (decide (x0 < n7)) (stK 0 v1 (some (.ret, ⟨[(4, I 5)], [], gh⟩))) (isC (degr v1) (
  idX 1 none (degr (degr v1)) x5 fun p8 =>
  ldX [] gh false 1 (degr p8) fun v9 => unI .i64 v9 fun n10 => stK 0 v1 (
  br 36 (decide (n10 < (IntKind.i64.wrap (0 - x0)))) (some (.ret, ⟨[(4, I 5)], [], gh⟩)) (stK 0 v1 (stK 0 v1 (some (.normal, ⟨[(0, I x0), (1, v1), (5, (I (IntKind.i64.wrap (x5 + 1))))], [], gh⟩))))))))))) (some ((.exit 0), ⟨[(0, I x0), (1, v1), (5, I x5), (12, (B (decide (x5 < (n1 : Int)))))], [], gh⟩))))
theorem D_ref_CheckClause_b1_ok {x0 : Int} {v1 : PV} {x5 : Int} (h : D_ref_CheckClause_b1 pg x0 v1 x5 gh = some (e, s)) : runL pg f_ref_CheckClause_b1 ⟨[(0, I x0), (1, v1), (5, I x5)], [], gh⟩ = some (e, s) :=
  runX_ok an_ref_CheckClause (Eq.trans (by kernel_rfl) h)
def D_ref_CheckClause_k1 (pg : Prg)  (gh : List GObj) : DR := some (.ret, ⟨[(4, I 0)], [], gh⟩)
theorem D_ref_CheckClause_k1_ok  (h : D_ref_CheckClause_k1 pg  gh = some (e, s)) : runL pg f_ref_CheckClause_k1 ⟨[], [], gh⟩ = some (e, s) :=
  runX_ok an_ref_CheckClause (Eq.trans (by kernel_rfl) h)
def D_ref_CheckClause_0 (pg : Prg) (x0 : Int) (v1 : PV) (gh : List GObj) : DR := stK 0 v1 (isC (degr v1) (lenS (degr (degr v1)) fun n1 => stK 0 v1 (
  br 8 (decide (200 < (n1 : Int))) (some (.ret, ⟨[(4, I 2)], [], gh⟩)) (stK 0 v1 (
  kR (runL pg f_ref_CheckClause_l1 ⟨[(0, I x0), (1, v1), (5, I 0)], [], gh⟩) (fun e s => nx e s (fun e s => some (e, s)) fun s => kR (runL pg f_ref_CheckClause_k1 s) (fun e s => some (e, s))))))))
theorem D_ref_CheckClause_0_ok {x0 : Int} {v1 : PV} (h : D_ref_CheckClause_0 pg x0 v1 gh = some (e, s)) : runL pg f_ref_CheckClause_0 ⟨[(0, I x0), (1, v1)], [], gh⟩ = some (e, s) :=
  runX_ok an_ref_CheckClause (Eq.trans (by kernel_rfl) h)
end
end Go.Lw
end

/-! What the code of function ref_CheckClauses comes to, piece by piece. Written by program (dprint.py). -/
section
set_option maxRecDepth 10000
set_option maxHeartbeats 4000000
namespace Go.Lw
open Go
noncomputable section
variable {pg : Prg} {gh : List GObj} {e : IExit} {s : St}
def an_ref_CheckClauses : Tr := (tI 16 (tB 8 (tI 4 (tI 2 (.node 0 (.agg [.int .i64, .any]) .nil .nil) (uI 3)) (tB 7 (uI 6) .nil)) (tB 12 (tI 11 (uO 10) .nil) (tO 15 (uI 13) .nil))) (tI 24 (tI 19 (tI 18 (uB 17) .nil) (tO 23 (uI 21) .nil)) (tI 28 (tI 27 (uO 26) .nil) (tI 30 (uB 29) .nil))))
def D_ref_CheckClauses_b1 (pg : Prg) (x3 xc0_0 : Int) (vc0_1 : PV) (gh : List GObj) : DR := isC (degr vc0_1) (lenS (degr (degr vc0_1)) fun n1 =>
  br 17 (decide (x3 < (n1 : Int))) (isC (degr vc0_1) (
  idX 1 none (degr (degr vc0_1)) x3 fun p2 =>
  ldX [[I xc0_0, vc0_1]] gh false 1 (degr p2) fun v3 => isC v3 (arK (degr v3) (
  callR gh true (callL pg 112 [I xc0_0, (degr v3)] gh) fun r4 gh5 => unI .i64 r4 fun n6 =>
  br 29 (n6 != 0) (some (.ret, ⟨[(2, I n6)], [], gh5⟩)) (some (.normal, ⟨[(1, .ptr false 0 0), (3, (I (IntKind.i64.wrap (x3 + 1))))], [[I xc0_0, vc0_1]], gh5⟩)))))) (some ((.exit 0), ⟨[(1, .ptr false 0 0), (3, I x3), (17, (B (decide (x3 < (n1 : Int)))))], [[I xc0_0, vc0_1]], gh⟩)))
theorem D_ref_CheckClauses_b1_ok {x3 xc0_0 : Int} {vc0_1 : PV} (h : D_ref_CheckClauses_b1 pg x3 xc0_0 vc0_1 gh = some (e, s)) : runL pg f_ref_CheckClauses_b1 ⟨[(1, .ptr false 0 0), (3, I x3)], [[I xc0_0, vc0_1]], gh⟩ = some (e, s) :=
  runX_ok an_ref_CheckClauses (Eq.trans (by kernel_rfl) h)
def D_ref_CheckClauses_k1 (pg : Prg)  (gh : List GObj) : DR := some (.ret, ⟨[(2, I 0)], [], gh⟩)
theorem D_ref_CheckClauses_k1_ok  (h : D_ref_CheckClauses_k1 pg  gh = some (e, s)) : runL pg f_ref_CheckClauses_k1 ⟨[], [], gh⟩ = some (e, s) :=
  runX_ok an_ref_CheckClauses (Eq.trans (by kernel_rfl) h)
def D_ref_CheckClauses_0 (pg : Prg) (x0_0 : Int) (v0_1 : PV) (gh : List GObj) : DR := onK (degr1 v0_1) (
  callR gh true (callL pg 50 [I x0_0, I 0, I 200000] gh) fun r1 gh2 => unB r1 fun b3 =>
  br 8 (!b3) (some (.ret, ⟨[(2, I 3)], [], gh2⟩)) (isC (degr (degr1 v0_1)) (lenS (degr (degr (degr1 v0_1))) fun n4 =>
  br 12 (decide (800000 < (n4 : Int))) (some (.ret, ⟨[(2, I 2)], [], gh2⟩)) (
  kR (runL pg f_ref_CheckClauses_l1 ⟨[(1, .ptr false 0 0), (3, I 0)], [[I x0_0, (degr1 v0_1)]], gh2⟩) (fun e s => nx e s (fun e s => some (e, s)) fun s => kR (runL pg f_ref_CheckClauses_k1 s) (fun e s => some (e, s)))))))
theorem D_ref_CheckClauses_0_ok {x0_0 : Int} {v0_1 : PV} (h : D_ref_CheckClauses_0 pg x0_0 v0_1 gh = some (e, s)) : runL pg f_ref_CheckClauses_0 ⟨[(0, .agg [I x0_0, v0_1])], [], gh⟩ = some (e, s) :=
  runX_ok an_ref_CheckClauses (Eq.trans (by kernel_rfl) h)
end
end Go.Lw
end

/-! What the code of function cnf_abs comes to, piece by piece. Written by program (dprint.py). -/
section
set_option maxRecDepth 10000
set_option maxHeartbeats 4000000
namespace Go.Lw
open Go
noncomputable section
variable {pg : Prg} {gh : List GObj} {e : IExit} {s : St}
def an_cnf_abs : Tr := (tI 4 (tI 2 (uI 0) (uI 3)) (tI 6 (uI 5) .nil))
def D_cnf_abs_0 (pg : Prg) (x0 : Int) (gh : List GObj) : DR := some (.ret, ⟨[(2, (I (if (IntKind.i64.wrap (0 - x0)) > x0 then (IntKind.i64.wrap (0 - x0)) else x0)))], [], gh⟩)
theorem D_cnf_abs_0_ok {x0 : Int} (h : D_cnf_abs_0 pg x0 gh = some (e, s)) : runL pg f_cnf_abs_0 ⟨[(0, I x0)], [], gh⟩ = some (e, s) :=
  runX_ok an_cnf_abs (Eq.trans (by kernel_rfl) h)
end
end Go.Lw
end

/-! What the code of function cnf_Hold comes to, piece by piece. Written by program (dprint.py). -/
section
set_option maxRecDepth 10000
set_option maxHeartbeats 4000000
namespace Go.Lw
open Go
noncomputable section
variable {pg : Prg} {gh : List GObj} {e : IExit} {s : St}
def an_cnf_Hold : Tr := (tO 6 (tG 3 (tO 1 (.node 0 (.agg [.int .i64, .any]) .nil .nil) .nil) (tG 5 (uB 4) .nil)) (tB 10 (tO 9 (uO 8) .nil) (uB 11)))
def D_cnf_Hold_0 (pg : Prg) (x0_0 : Int) (v0_1 v1 : PV) (gh : List GObj) : DR := onK (degr1 v0_1) (arK (degr v1) (isC (degr v1) (
  ob (ghCells ((gh ++ [.cells [(degr v1)]]) ++ [.cells [.nilf]]) (List.length (gh ++ [.cells [(degr v1)]]))) fun cs1 => gb (stOk 1 0 [(.fn 98 [(.ptr true (List.length gh) 0)])] cs1) (isC (degr (degr1 v0_1)) (arK (degr (degr (degr1 v0_1))) (
  callR (List.set ((gh ++ [.cells [(degr v1)]]) ++ [.cells [.nilf]]) (List.length (gh ++ [.cells [(degr v1)]])) (.cells (spliceAt cs1 0 [(.fn 98 [(.ptr true (List.length gh) 0)])]))) true (callL pg 100 [(degr (degr (degr1 v0_1))), (.fn 99 [(.ptr true (List.length (gh ++ [.cells [(degr v1)]])) 0)])] (List.set ((gh ++ [.cells [(degr v1)]]) ++ [.cells [.nilf]]) (List.length (gh ++ [.cells [(degr v1)]])) (.cells (spliceAt cs1 0 [(.fn 98 [(.ptr true (List.length gh) 0)])])))) fun r2 gh3 => unB r2 fun b4 => some (.ret, ⟨[(4, (B (!b4)))], [], gh3⟩)))))))
theorem D_cnf_Hold_0_ok {x0_0 : Int} {v0_1 v1 : PV} (h : D_cnf_Hold_0 pg x0_0 v0_1 v1 gh = some (e, s)) : runL pg f_cnf_Hold_0 ⟨[(0, .agg [I x0_0, v0_1]), (1, v1)], [], gh⟩ = some (e, s) :=
  runX_ok an_cnf_Hold (Eq.trans (by kernel_rfl) h)
end
end Go.Lw
end

/-! What the code of function cnf_Hold_1 comes to, piece by piece. Written by program (dprint.py). -/
section
set_option maxRecDepth 10000
set_option maxHeartbeats 4000000
namespace Go.Lw
open Go
noncomputable section
variable {pg : Prg} {gh : List GObj} {e : IExit} {s : St}
def an_cnf_Hold_1 : Tr := (tI 6 (tB 3 (tG 1 (uI 0) .nil) (tI 5 (uO 4) .nil)) (tI 10 (tB 9 (uI 7) .nil) (tB 12 (uB 11) .nil)))
def D_cnf_Hold_1_0 (pg : Prg) (x0 : Int) (g1 o1 : Nat) (gh : List GObj) : DR :=
  ob (ghCells gh g1) fun cs1 =>
  ob (grab false 1 o1 cs1) fun v2 => isC (degr v2) (
  callR gh true (callL pg 116 [I x0] gh) fun r3 gh4 => unI .i64 r3 fun n5 =>
  idX 1 none (degr (degr v2)) (IntKind.i64.wrap (n5 - 1)) fun p6 =>
  ldX [] gh4 false 1 (degr p6) fun v7 => unB v7 fun b8 => some (.ret, ⟨[(3, (B (b8 == (decide (0 < x0)))))], [], gh4⟩))
theorem D_cnf_Hold_1_0_ok {x0 : Int} {g1 o1 : Nat} (h : D_cnf_Hold_1_0 pg x0 g1 o1 gh = some (e, s)) : runL pg f_cnf_Hold_1_0 ⟨[(0, I x0), (1, .ptr true g1 o1)], [], gh⟩ = some (e, s) :=
  runX_ok an_cnf_Hold_1 (Eq.trans (by kernel_rfl) h)
end
end Go.Lw
end

/-! What the code of function cnf_Hold_2 comes to, piece by piece. Written by program (dprint.py). -/
section
set_option maxRecDepth 10000
set_option maxHeartbeats 4000000
namespace Go.Lw
open Go
noncomputable section
variable {pg : Prg} {gh : List GObj} {e : IExit} {s : St}
def an_cnf_Hold_2 : Tr := (tO 4 (tG 1 (uO 0) (uB 3)) (tB 6 (uO 5) (uB 7)))
def D_cnf_Hold_2_0 (pg : Prg) (v0 : PV) (g1 o1 : Nat) (gh : List GObj) : DR := stK 0 v0 (isC (degr v0) (
  ob (ghCells gh g1) fun cs1 =>
  ob (grab false 1 o1 cs1) fun v2 => isC (degr v2) (arK (degr (degr v0)) (arK (degr (degr v2)) (
  callR gh true (callL pg 86 [(degr (degr v0)), (degr (degr v2))] gh) fun r3 gh4 => unB r3 fun b5 => some (.ret, ⟨[(3, (B (!b5)))], [], gh4⟩))))))
theorem D_cnf_Hold_2_0_ok {v0 : PV} {g1 o1 : Nat} (h : D_cnf_Hold_2_0 pg v0 g1 o1 gh = some (e, s)) : runL pg f_cnf_Hold_2_0 ⟨[(0, v0), (1, .ptr true g1 o1)], [], gh⟩ = some (e, s) :=
  runX_ok an_cnf_Hold_2 (Eq.trans (by kernel_rfl) h)
end
end Go.Lw
end

/-! What the code of function slices_IndexFunc_LLint_Lint comes to, piece by piece. Written by program (dprint.py). -/
section
set_option maxRecDepth 10000
set_option maxHeartbeats 4000000
namespace Go.Lw
open Go
noncomputable section
variable {pg : Prg} {gh : List GObj} {e : IExit} {s : St}
def an_slices_IndexFunc_LLint_Lint : Tr := (tI 10 (tO 6 (tI 4 (tO 1 (uO 0) .nil) (uI 5)) (tI 8 (uI 7) (uB 9))) (tO 15 (tO 12 (uO 11) (uI 13)) (tI 17 (uB 16) (uI 18))))
def D_slices_IndexFunc_LLint_Lint_b1 (pg : Prg) (v0 v1 : PV) (x7 x8 : Int) (gh : List GObj) : DR :=
  br 9 (decide (x8 < x7)) (stK 0 v0 (stK 0 v1 (isC (degr v1) (isC (degr v0) (
  idX 1 none (degr (degr v0)) x8 fun p1 =>
  ldX [] gh false 1 (degr p1) fun v2 => isC v2 (
  fnX (degr (degr v1)) fun f5 cs6 => arK (degr v2) (allK cs6 (callR gh true (callL pg f5 ([(degr v2)] ++ cs6) gh) fun r3 gh4 => unB r3 fun b7 => stK 0 v0 (stK 0 v1 (
  br 16 b7 (some (.ret, ⟨[(4, I x8)], [], gh4⟩)) (stK 0 v0 (stK 0 v1 (stK 0 v0 (stK 0 v1 (some (.normal, ⟨[(0, v0), (1, v1), (7, I x7), (8, (I (IntKind.i64.wrap (x8 + 1))))], [], gh4⟩)))))))))))))))) (some ((.exit 0), ⟨[(0, v0), (1, v1), (7, I x7), (8, I x8), (9, (B (decide (x8 < x7))))], [], gh⟩))
theorem D_slices_IndexFunc_LLint_Lint_b1_ok {v0 v1 : PV} {x7 x8 : Int} (h : D_slices_IndexFunc_LLint_Lint_b1 pg v0 v1 x7 x8 gh = some (e, s)) : runL pg f_slices_IndexFunc_LLint_Lint_b1 ⟨[(0, v0), (1, v1), (7, I x7), (8, I x8)], [], gh⟩ = some (e, s) :=
  runX_ok an_slices_IndexFunc_LLint_Lint (Eq.trans (by kernel_rfl) h)
def D_slices_IndexFunc_LLint_Lint_k1 (pg : Prg)  (gh : List GObj) : DR := some (.ret, ⟨[(4, (I (-1)))], [], gh⟩)
theorem D_slices_IndexFunc_LLint_Lint_k1_ok  (h : D_slices_IndexFunc_LLint_Lint_k1 pg  gh = some (e, s)) : runL pg f_slices_IndexFunc_LLint_Lint_k1 ⟨[], [], gh⟩ = some (e, s) :=
  runX_ok an_slices_IndexFunc_LLint_Lint (Eq.trans (by kernel_rfl) h)
def D_slices_IndexFunc_LLint_Lint_0 (pg : Prg) (v0 v1 : PV) (gh : List GObj) : DR := stK 0 v0 (stK 0 v1 (isC (degr v0) (lenS (degr (degr v0)) fun n1 => stK 0 v0 (stK 0 v1 (
  kR (runL pg f_slices_IndexFunc_LLint_Lint_l1 ⟨[(0, v0), (1, v1), (7, (I (n1 : Int))), (8, I 0)], [], gh⟩) (fun e s => nx e s (fun e s => some (e, s)) fun s => kR (runL pg f_slices_IndexFunc_LLint_Lint_k1 s) (fun e s => some (e, s))))))))
theorem D_slices_IndexFunc_LLint_Lint_0_ok {v0 v1 : PV} (h : D_slices_IndexFunc_LLint_Lint_0 pg v0 v1 gh = some (e, s)) : runL pg f_slices_IndexFunc_LLint_Lint_0 ⟨[(0, v0), (1, v1)], [], gh⟩ = some (e, s) :=
  runX_ok an_slices_IndexFunc_LLint_Lint (Eq.trans (by kernel_rfl) h)
end
end Go.Lw
end

/-! What the code of function slices_ContainsFunc_LLint_Lint comes to, piece by piece. Written by program (dprint.py). -/
section
set_option maxRecDepth 10000
set_option maxHeartbeats 4000000
namespace Go.Lw
open Go
noncomputable section
variable {pg : Prg} {gh : List GObj} {e : IExit} {s : St}
def an_slices_ContainsFunc_LLint_Lint : Tr := (tO 5 (tO 1 (uO 0) (uB 4)) (tI 7 (uO 6) (uB 8)))
def D_slices_ContainsFunc_LLint_Lint_0 (pg : Prg) (v0 v1 : PV) (gh : List GObj) : DR := stK 0 v0 (stK 0 v1 (isC (degr v0) (isC (degr v1) (arK (degr (degr v0)) (arK (degr (degr v1)) (
  callR gh true (callL pg 117 [(degr (degr v0)), (degr (degr v1))] gh) fun r1 gh2 => unI .i64 r1 fun n3 => some (.ret, ⟨[(4, (B (decide (0 ≤ n3))))], [], gh2⟩)))))))
theorem D_slices_ContainsFunc_LLint_Lint_0_ok {v0 v1 : PV} (h : D_slices_ContainsFunc_LLint_Lint_0 pg v0 v1 gh = some (e, s)) : runL pg f_slices_ContainsFunc_LLint_Lint_0 ⟨[(0, v0), (1, v1)], [], gh⟩ = some (e, s) :=
  runX_ok an_slices_ContainsFunc_LLint_Lint (Eq.trans (by kernel_rfl) h)
end
end Go.Lw
end

/-! What the code of function proof_Check comes to, piece by piece. Written by program (dprint.py). -/
section
set_option maxRecDepth 10000
set_option maxHeartbeats 4000000
namespace Go.Lw
open Go
noncomputable section
variable {pg : Prg} {gh : List GObj} {e : IExit} {s : St}
def an_proof_Check : Tr := (tB 27 (tI 14 (tI 7 (tB 4 (tO 1 (.node 0 (.agg [.int .i64, .any]) .nil .nil) .nil) (tI 6 (uI 5) .nil)) (tO 11 (tB 9 (uG 8) .nil) (tI 13 (.node 12 (.agg [.int .i64, .any]) .nil .nil) .nil))) (tO 22 (tI 18 (tI 16 (uB 15) .nil) (tO 21 (uO 20) .nil)) (tI 25 (.node 24 (.agg [.int .i64, .any]) (uO 23) .nil) (uI 26)))) (tB 41 (tI 34 (tG 31 (tO 30 (uI 28) .nil) (tI 33 (uO 32) .nil)) (tG 38 (tO 37 (uB 35) .nil) (tB 40 (uO 39) .nil))) (tI 48 (tB 45 (tO 43 (uG 42) .nil) (tO 47 (uB 46) .nil)) (tI 51 (tB 50 (uB 49) .nil) (uB 52)))))
def D_proof_Check_b1 (pg : Prg) (g8 o8 : Nat) (b9 : Bool) (v32 : PV) (x33 x34 : Int) (gh : List GObj) : DR :=
  br 35 (decide (x34 < x33)) (
  idX 1 none (degr v32) x34 fun p1 =>
  ldX [] gh false 1 (degr p1) fun v2 => isC v2 (stK 0 v2 (stK 0 v32 (isC (degr v2) (arK (degr (degr v2)) (
  callR gh false (callL pg 155 [.ptr true g8 o8, (degr (degr v2))] gh) fun r3 gh4 => unB r3 fun b5 => stK 0 v2 (stK 0 v32 (
  br 41 (!b5) (some (.ret, ⟨[(4, B false), (5, I 0)], [], gh4⟩)) (isC (degr v2) (arK (degr (degr v2)) (
  callR gh4 false (callL pg 157 [.ptr true g8 o8, (degr (degr v2))] gh4) fun r6 gh7 => stK 0 v2 (stK 0 v32 (
  br 46 b9 (stK 0 v32 (stK 0 v32 (stK 0 v32 (some (.normal, ⟨[(8, .ptr true g8 o8), (9, B true), (32, v32), (33, I x33), (34, (I (IntKind.i64.wrap (x34 + 1))))], [], gh7⟩))))) (isC (degr v2) (lenS (degr (degr v2)) fun n8 => stK 0 v32 (stK 0 v32 (stK 0 v32 (some (.normal, ⟨[(8, .ptr true g8 o8), (9, (B ((n8 : Int) == 0))), (32, v32), (33, I x33), (34, (I (IntKind.i64.wrap (x34 + 1))))], [], gh7⟩))))))))))))))))))) (some ((.exit 0), ⟨[(8, .ptr true g8 o8), (9, B b9), (32, v32), (33, I x33), (34, I x34), (35, (B (decide (x34 < x33))))], [], gh⟩))
theorem D_proof_Check_b1_ok {g8 o8 : Nat} {b9 : Bool} {v32 : PV} {x33 x34 : Int} (h : D_proof_Check_b1 pg g8 o8 b9 v32 x33 x34 gh = some (e, s)) : runL pg f_proof_Check_b1 ⟨[(8, .ptr true g8 o8), (9, B b9), (32, v32), (33, I x33), (34, I x34)], [], gh⟩ = some (e, s) :=
  runX_ok an_proof_Check (Eq.trans (by kernel_rfl) h)
def D_proof_Check_k1 (pg : Prg) (b9 : Bool) (gh : List GObj) : DR := some (.ret, ⟨[(4, B b9), (5, I 0)], [], gh⟩)
theorem D_proof_Check_k1_ok {b9 : Bool} (h : D_proof_Check_k1 pg b9 gh = some (e, s)) : runL pg f_proof_Check_k1 ⟨[(9, B b9)], [], gh⟩ = some (e, s) :=
  runX_ok an_proof_Check (Eq.trans (by kernel_rfl) h)
def D_proof_Check_0 (pg : Prg) (x0_0 : Int) (v0_1 v1 : PV) (gh : List GObj) : DR := onK (degr1 v0_1) (stK 1 v1 (onK (degr1 (degr1 (degr1 v0_1))) (
  callR gh true (callL pg 59 [(.agg [I x0_0, (degr1 (degr1 (degr1 v0_1)))])] gh) fun r1 gh2 => unI .i64 r1 fun n3 => stK 1 v1 (stK 1 v1 (
  br 15 (n3 != 0) (some (.ret, ⟨[(4, B false), (5, I n3)], [], gh2⟩)) (isC (degr (degr1 v0_1)) (isC (degr v1) (arK (degr (degr (degr1 v0_1))) (lnK 1 (degr (degr (degr1 v0_1))) (arK (degr (degr v1)) (lnK 1 (degr (degr v1)) (
  callR gh2 true (callL pg 156 [(.sl false 1 [(degr (degr (degr1 v0_1))), (degr (degr v1))])] gh2) fun r4 gh5 => isC r4 (arK r4 (isC r4 (onK (degr1 r4) (
  callR gh5 true (callL pg 59 [(.agg [I x0_0, (degr1 r4)])] gh5) fun r6 gh7 => unI .i64 r6 fun n8 => stK 1 v1 (stK 1 v1 (
  br 27 (n8 != 0) (some (.ret, ⟨[(4, B false), (5, I n8)], [], gh7⟩)) (isC (degr (degr1 v0_1)) (arK (degr (degr (degr1 v0_1))) (
  callR gh7 false (callL pg 154 [(degr (degr (degr1 v0_1)))] gh7) fun r9 gh10 => unG r9 fun g11 o12 => stK 0 v1 (isC (degr v1) (lenS (degr (degr v1)) fun n13 => stK 0 (degr v1) (
  kR (runL pg f_proof_Check_l1 ⟨[(8, .ptr true g11 o12), (9, B false), (32, (degr v1)), (33, (I (n13 : Int))), (34, I 0)], [], gh10⟩) (fun e s => nx e s (fun e s => some (e, s)) fun s => kR (runL pg f_proof_Check_k1 s) (fun e s => some (e, s)))))))))))))))))))))))))))
theorem D_proof_Check_0_ok {x0_0 : Int} {v0_1 v1 : PV} (h : D_proof_Check_0 pg x0_0 v0_1 v1 gh = some (e, s)) : runL pg f_proof_Check_0 ⟨[(0, .agg [I x0_0, v0_1]), (1, v1)], [], gh⟩ = some (e, s) :=
  runX_ok an_proof_Check (Eq.trans (by kernel_rfl) h)
end
end Go.Lw
end

/-! What the code of function ref_ProofOf comes to, piece by piece. Written by program (dprint.py). -/
section
set_option maxRecDepth 10000
set_option maxHeartbeats 4000000
namespace Go.Lw
open Go
noncomputable section
variable {pg : Prg} {gh : List GObj} {e : IExit} {s : St}
def an_ref_ProofOf : Tr := (tO 22 (tI 12 (tB 6 (tB 4 (tO 1 (.node 0 (.agg [.int .i64, .any]) .nil .nil) .nil) (uO 5)) (tO 10 (tO 8 (uI 7) .nil) (uO 11))) (tI 17 (tB 15 (tI 14 (uO 13) .nil) (uI 16)) (tO 19 (uO 18) (uI 20)))) (tB 32 (tI 27 (tO 25 (tB 24 (uB 23) .nil) (uO 26)) (tO 30 (uO 29) (uO 31))) (tI 38 (tI 35 (tO 34 (uB 33) .nil) (uO 37)) (tB 40 (uB 39) (uB 41)))))
def D_ref_ProofOf_b1 (pg : Prg) (v1 v5 : PV) (b6 : Bool) (x7 : Int) (gh : List GObj) : DR := isC (degr v1) (lenS (degr (degr v1)) fun n1 => stK 0 v1 (stK 0 v5 (
  br 15 (decide (x7 < (n1 : Int))) (isC (degr v5) (isC (degr v1) (
  idX 1 none (degr (degr v1)) x7 fun p2 =>
  ldX [] gh false 1 (degr p2) fun v3 => isC v3 (arK (degr (degr v5)) (arK (degr v3) (
  callR gh true (callL pg 146 [(degr (degr v5)), (degr v3)] gh) fun r4 gh5 => unB r4 fun b7 => stK 0 v1 (stK 0 v5 (
  br 24 (!b7) (some (.ret, ⟨[(4, B false)], [], gh5⟩)) (isC (degr v1) (
  idX 1 none (degr (degr v1)) x7 fun p8 =>
  ldX [] gh5 false 1 (degr p8) fun v9 => isC v9 (arK (degr v9) (lnK 1 (degr v9) (
  apX 1 24 v5 (.sl false 1 [(degr v9)]) fun l10 => stK 0 v1 (
  br 33 b6 (stK 0 v1 (stK 0 v1 (stK 0 v1 (some (.normal, ⟨[(1, v1), (5, .sl true 1 l10), (6, B true), (7, (I (IntKind.i64.wrap (x7 + 1))))], [], gh5⟩))))) (isC (degr v1) (
  idX 1 none (degr (degr v1)) x7 fun p11 =>
  ldX [] gh5 false 1 (degr p11) fun v12 => isC v12 (lenS (degr v12) fun n13 => stK 0 v1 (stK 0 v1 (stK 0 v1 (some (.normal, ⟨[(1, v1), (5, .sl true 1 l10), (6, (B ((n13 : Int) == 0))), (7, (I (IntKind.i64.wrap (x7 + 1))))], [], gh5⟩))))))))))))))))))))) (some ((.exit 0), ⟨[(1, v1), (5, v5), (6, B b6), (7, I x7), (15, (B (decide (x7 < (n1 : Int)))))], [], gh⟩)))))
theorem D_ref_ProofOf_b1_ok {v1 v5 : PV} {b6 : Bool} {x7 : Int} (h : D_ref_ProofOf_b1 pg v1 v5 b6 x7 gh = some (e, s)) : runL pg f_ref_ProofOf_b1 ⟨[(1, v1), (5, v5), (6, B b6), (7, I x7)], [], gh⟩ = some (e, s) :=
  runX_ok an_ref_ProofOf (Eq.trans (by kernel_rfl) h)
def D_ref_ProofOf_k1 (pg : Prg) (b6 : Bool) (gh : List GObj) : DR := some (.ret, ⟨[(4, B b6)], [], gh⟩)
theorem D_ref_ProofOf_k1_ok {b6 : Bool} (h : D_ref_ProofOf_k1 pg b6 gh = some (e, s)) : runL pg f_ref_ProofOf_k1 ⟨[(6, B b6)], [], gh⟩ = some (e, s) :=
  runX_ok an_ref_ProofOf (Eq.trans (by kernel_rfl) h)
def D_ref_ProofOf_0 (pg : Prg) (x0_0 : Int) (v0_1 v1 : PV) (gh : List GObj) : DR := onK (degr1 v0_1) (stK 1 v1 (isC (degr (degr1 v0_1)) (
  apX 1 24 (.sl true 1 []) (degr (degr (degr1 v0_1))) fun l1 => stK 0 v1 (stK 0 v1 (
  kR (runL pg f_ref_ProofOf_l1 ⟨[(1, v1), (5, .sl true 1 l1), (6, B false), (7, I 0)], [], gh⟩) (fun e s => nx e s (fun e s => some (e, s)) fun s => kR (runL pg f_ref_ProofOf_k1 s) (fun e s => some (e, s))))))))
theorem D_ref_ProofOf_0_ok {x0_0 : Int} {v0_1 v1 : PV} (h : D_ref_ProofOf_0 pg x0_0 v0_1 v1 gh = some (e, s)) : runL pg f_ref_ProofOf_0 ⟨[(0, .agg [I x0_0, v0_1]), (1, v1)], [], gh⟩ = some (e, s) :=
  runX_ok an_ref_ProofOf (Eq.trans (by kernel_rfl) h)
end
end Go.Lw
end

/-! What the code of function ref_CheckProof comes to, piece by piece. Written by program (dprint.py). -/
section
set_option maxRecDepth 10000
set_option maxHeartbeats 4000000
namespace Go.Lw
open Go
noncomputable section
variable {pg : Prg} {gh : List GObj} {e : IExit} {s : St}
def an_ref_CheckProof : Tr := (tI 11 (.node 6 (.agg [.int .i64, .any]) (tI 4 (tO 1 (.node 0 (.agg [.int .i64, .any]) .nil .nil) .nil) (uI 5)) (tI 8 (uI 7) (uB 9))) (tO 17 (tO 15 (tO 14 (uO 12) .nil) (uO 16)) (tI 19 (.node 18 (.agg [.int .i64, .any]) .nil .nil) (uI 20))))
def D_ref_CheckProof_k1 (pg : Prg) (x5 : Int) (gh : List GObj) : DR := some (.ret, ⟨[(4, I x5)], [], gh⟩)
theorem D_ref_CheckProof_k1_ok {x5 : Int} (h : D_ref_CheckProof_k1 pg x5 gh = some (e, s)) : runL pg f_ref_CheckProof_k1 ⟨[(5, I x5)], [], gh⟩ = some (e, s) :=
  runX_ok an_ref_CheckProof (Eq.trans (by kernel_rfl) h)
def D_ref_CheckProof_0 (pg : Prg) (x0_0 : Int) (v0_1 v1 : PV) (gh : List GObj) : DR := onK (degr1 v0_1) (stK 1 v1 (onK (degr1 (degr1 (degr1 v0_1))) (
  callR gh true (callL pg 93 [(.agg [I x0_0, (degr1 (degr1 (degr1 v0_1)))])] gh) fun r1 gh2 => unI .i64 r1 fun n3 => stK 1 v1 (stK 1 v1 (
  br 9 (n3 == 0) (isC (degr (degr1 v0_1)) (
  apX 1 24 (.sl true 1 []) (degr (degr (degr1 v0_1))) fun l4 => isC (degr v1) (
  apX 1 24 (.sl true 1 l4) (degr (degr v1)) fun l5 =>
  callR gh2 true (callL pg 93 [.agg [I x0_0, .sl false 1 l5]] gh2) fun r6 gh7 => unI .i64 r6 fun n8 =>
  kR (runL pg f_ref_CheckProof_k1 ⟨[(5, I n8)], [], gh7⟩) (fun e s => some (e, s))))) (
  kR (runL pg f_ref_CheckProof_k1 ⟨[(5, I n3)], [], gh2⟩) (fun e s => some (e, s))))))))
theorem D_ref_CheckProof_0_ok {x0_0 : Int} {v0_1 v1 : PV} (h : D_ref_CheckProof_0 pg x0_0 v0_1 v1 gh = some (e, s)) : runL pg f_ref_CheckProof_0 ⟨[(0, .agg [I x0_0, v0_1]), (1, v1)], [], gh⟩ = some (e, s) :=
  runX_ok an_ref_CheckProof (Eq.trans (by kernel_rfl) h)
end
end Go.Lw
end

/-! What the code of function slices_Concat_LLint_Lint comes to, piece by piece. Written by program (dprint.py). -/
section
set_option maxRecDepth 10000
set_option maxHeartbeats 4000000
namespace Go.Lw
open Go
noncomputable section
variable {pg : Prg} {gh : List GObj} {e : IExit} {s : St}
def an_slices_Concat_LLint_Lint : Tr := (tI 19 (tI 10 (tO 5 (tO 2 (uO 0) (uI 3)) (tO 8 (uO 6) (uO 9))) (tI 15 (tB 12 (uI 11) (uO 14)) (tI 17 (uO 16) (uI 18)))) (tB 28 (tO 24 (tI 22 (uB 20) (uI 23)) (tI 26 (uO 25) (uI 27))) (tO 33 (tO 31 (uO 30) (uO 32)) (tO 35 (uI 34) .nil))))
def D_slices_Concat_LLint_Lint_b1 (pg : Prg) (v0 : PV) (x3 : Int) (v9 : PV) (x10 x11 : Int) (gh : List GObj) : DR :=
  br 12 (decide (x11 < x10)) (
  idX 1 none (degr v9) x11 fun p1 =>
  ldX [] gh false 1 (degr p1) fun v2 => isC v2 (stK 0 v0 (stK 0 v2 (stK 0 v9 (isC (degr v2) (lenS (degr (degr v2)) fun n3 => stK 0 v0 (stK 0 v9 (stK 0 v0 (stK 0 v9 (
  br 20 (decide ((IntKind.i64.wrap (x3 + (n3 : Int))) < 0)) (none) (stK 0 v0 (stK 0 v9 (stK 0 v0 (stK 0 v9 (some (.normal, ⟨[(0, v0), (3, (I (IntKind.i64.wrap (x3 + (n3 : Int))))), (9, v9), (10, I x10), (11, (I (IntKind.i64.wrap (x11 + 1))))], [], gh⟩)))))))))))))))) (some ((.exit 0), ⟨[(0, v0), (3, I x3), (9, v9), (10, I x10), (11, I x11), (12, (B (decide (x11 < x10))))], [], gh⟩))
theorem D_slices_Concat_LLint_Lint_b1_ok {v0 : PV} {x3 : Int} {v9 : PV} {x10 x11 : Int} (h : D_slices_Concat_LLint_Lint_b1 pg v0 x3 v9 x10 x11 gh = some (e, s)) : runL pg f_slices_Concat_LLint_Lint_b1 ⟨[(0, v0), (3, I x3), (9, v9), (10, I x10), (11, I x11)], [], gh⟩ = some (e, s) :=
  runX_ok an_slices_Concat_LLint_Lint (Eq.trans (by kernel_rfl) h)
def D_slices_Concat_LLint_Lint_b2 (pg : Prg) (v6 v25 : PV) (x26 x27 : Int) (gh : List GObj) : DR :=
  br 28 (decide (x27 < x26)) (
  idX 1 none (degr v25) x27 fun p1 =>
  ldX [] gh false 1 (degr p1) fun v2 => isC v2 (stK 0 v6 (stK 0 v2 (stK 0 v25 (isC (degr v2) (
  apX 1 24 v6 (degr (degr v2)) fun l3 => stK 0 v25 (stK 0 v25 (stK 0 v25 (some (.normal, ⟨[(6, .sl true 1 l3), (25, v25), (26, I x26), (27, (I (IntKind.i64.wrap (x27 + 1))))], [], gh⟩)))))))))) (some ((.exit 2), ⟨[(6, v6), (25, v25), (26, I x26), (27, I x27), (28, (B (decide (x27 < x26))))], [], gh⟩))
theorem D_slices_Concat_LLint_Lint_b2_ok {v6 v25 : PV} {x26 x27 : Int} (h : D_slices_Concat_LLint_Lint_b2 pg v6 v25 x26 x27 gh = some (e, s)) : runL pg f_slices_Concat_LLint_Lint_b2 ⟨[(6, v6), (25, v25), (26, I x26), (27, I x27)], [], gh⟩ = some (e, s) :=
  runX_ok an_slices_Concat_LLint_Lint (Eq.trans (by kernel_rfl) h)
def D_slices_Concat_LLint_Lint_k2 (pg : Prg) (v6 : PV) (gh : List GObj) : DR := isC (degr v6) (stK 0 (degr v6) (some (.ret, ⟨[(2, (degr v6))], [], gh⟩)))
theorem D_slices_Concat_LLint_Lint_k2_ok {v6 : PV} (h : D_slices_Concat_LLint_Lint_k2 pg v6 gh = some (e, s)) : runL pg f_slices_Concat_LLint_Lint_k2 ⟨[(6, v6)], [], gh⟩ = some (e, s) :=
  runX_ok an_slices_Concat_LLint_Lint (Eq.trans (by kernel_rfl) h)
def D_slices_Concat_LLint_Lint_k1 (pg : Prg) (v0 : PV) (x3 : Int) (gh : List GObj) : DR :=
  callR gh true (callL pg 160 [.nils, I x3] gh) fun r1 gh2 => isC r1 (stK 0 v0 (stK 0 r1 (isC (degr v0) (lenS (degr (degr v0)) fun n3 => stK 0 r1 (stK 0 (degr v0) (
  kR (runL pg f_slices_Concat_LLint_Lint_l2 ⟨[(6, r1), (25, (degr v0)), (26, (I (n3 : Int))), (27, I 0)], [], gh2⟩) (fun e s => nx e s (fun e s => some (e, s)) fun s => kR (runL pg f_slices_Concat_LLint_Lint_k2 s) (fun e s => some (e, s)))))))))
theorem D_slices_Concat_LLint_Lint_k1_ok {v0 : PV} {x3 : Int} (h : D_slices_Concat_LLint_Lint_k1 pg v0 x3 gh = some (e, s)) : runL pg f_slices_Concat_LLint_Lint_k1 ⟨[(0, v0), (3, I x3)], [], gh⟩ = some (e, s) :=
  runX_ok an_slices_Concat_LLint_Lint (Eq.trans (by kernel_rfl) h)
def D_slices_Concat_LLint_Lint_0 (pg : Prg) (v0 : PV) (gh : List GObj) : DR := stK 0 v0 (isC (degr v0) (lenS (degr (degr v0)) fun n1 => stK 0 v0 (stK 0 (degr v0) (
  kR (runL pg f_slices_Concat_LLint_Lint_l1 ⟨[(0, v0), (3, I 0), (9, (degr v0)), (10, (I (n1 : Int))), (11, I 0)], [], gh⟩) (fun e s => nx e s (fun e s => some (e, s)) fun s => kR (runL pg f_slices_Concat_LLint_Lint_k1 s) (fun e s => some (e, s)))))))
theorem D_slices_Concat_LLint_Lint_0_ok {v0 : PV} (h : D_slices_Concat_LLint_Lint_0 pg v0 gh = some (e, s)) : runL pg f_slices_Concat_LLint_Lint_0 ⟨[(0, v0)], [], gh⟩ = some (e, s) :=
  runX_ok an_slices_Concat_LLint_Lint (Eq.trans (by kernel_rfl) h)
end
end Go.Lw
end

/-! What the code of function law_SearchIs comes to, piece by piece. Written by program (dprint.py). -/
section
set_option maxRecDepth 10000
set_option maxHeartbeats 4000000
namespace Go.Lw
open Go
noncomputable section
variable {pg : Prg} {gh : List GObj} {e : IExit} {s : St}
def an_law_SearchIs : Tr := (.node 19 (.tup 2) (.node 10 (.agg [.int .i64, .any]) (tI 6 (tB 4 (.node 1 (.agg [.int .i64, .any, .any]) (.node 0 (.agg [.int .i64, .any]) .nil .nil) .nil) (uB 5)) (tB 8 (uI 7) (.node 9 (.tup 2) .nil .nil))) (.node 15 (.agg [.int .i64, .any]) (tB 13 (.node 12 (.tup 2) (.node 11 (.agg [.int .i64, .any, .any]) .nil .nil) .nil) (uI 14)) (tI 17 (uI 16) (uB 18)))) (tI 28 (tI 24 (.node 22 (.tup 2) (.node 21 (.agg [.int .i64, .any, .any]) (.node 20 (.agg [.int .i64, .any]) .nil .nil) .nil) (uB 23)) (tB 26 (uB 25) (uI 27))) (tB 32 (tB 30 (uB 29) (uB 31)) (tB 34 (uB 33) (uB 35)))))
def D_law_SearchIs_k1 (pg : Prg) (b5 : Bool) (x6 x7 : Int) (b8 : Bool) (gh : List GObj) : DR :=
  callR gh true (callL pg 165 [] gh) fun r1 gh2 => unB r1 fun b3 =>
  br 26 b3 (
  br 31 (x6 == x7) (some (.ret, ⟨[(4, (B (b5 == b8)))], [], gh2⟩)) (some (.ret, ⟨[(4, B false)], [], gh2⟩))) (some (.ret, ⟨[(4, B false)], [], gh2⟩))
theorem D_law_SearchIs_k1_ok {b5 : Bool} {x6 x7 : Int} {b8 : Bool} (h : D_law_SearchIs_k1 pg b5 x6 x7 b8 gh = some (e, s)) : runL pg f_law_SearchIs_k1 ⟨[(5, B b5), (6, I x6), (7, I x7), (8, B b8)], [], gh⟩ = some (e, s) :=
  runX_ok an_law_SearchIs (Eq.trans (by kernel_rfl) h)
def D_law_SearchIs_0 (pg : Prg) (x0_0 : Int) (v0_1 : PV) (x1_0 : Int) (v1_1 v1_2 : PV) (gh : List GObj) : DR := onK (degr1 v0_1) (onK (degr1 v1_1) (onK (degr1 v1_2) (onK (degr1 (degr1 (degr1 v0_1))) (onK (degr1 (degr1 (degr1 v1_1))) (onK (degr1 (degr1 (degr1 v1_2))) (
  callR gh true (callL pg 166 [(.agg [I x0_0, (degr1 (degr1 (degr1 v0_1)))]), (.agg [I x1_0, (degr1 (degr1 (degr1 v1_1))), (degr1 (degr1 (degr1 v1_2)))])] gh) fun r1 gh2 => unT 2 r1 fun r3 r4 => unB (degr1 (degr1 r3)) fun b5 => unI .i64 (degr1 (degr1 r4)) fun n6 => onK (degr1 (degr1 (degr1 v0_1))) (
  callR gh2 true (callL pg 93 [(.agg [I x0_0, (degr1 (degr1 (degr1 v0_1)))])] gh2) fun r7 gh8 => unI .i64 r7 fun n9 =>
  br 18 (n9 == 0) (onK (degr1 (degr1 (degr1 v0_1))) (onK (degr1 (degr1 (degr1 v1_1))) (onK (degr1 (degr1 (degr1 v1_2))) (
  callR gh8 true (callL pg 167 [(.agg [I x0_0, (degr1 (degr1 (degr1 v0_1)))]), (.agg [I x1_0, (degr1 (degr1 (degr1 v1_1))), (degr1 (degr1 (degr1 v1_2)))])] gh8) fun r10 gh11 => unT 2 r10 fun r12 r13 => unB (degr1 (degr1 r12)) fun b14 => unI .i64 (degr1 (degr1 r13)) fun n15 =>
  kR (runL pg f_law_SearchIs_k1 ⟨[(5, B b5), (6, I n6), (7, I n15), (8, B b14)], [], gh11⟩) (fun e s => some (e, s)))))) (
  kR (runL pg f_law_SearchIs_k1 ⟨[(5, B b5), (6, I n6), (7, I n9), (8, B false)], [], gh8⟩) (fun e s => some (e, s))))))))))
theorem D_law_SearchIs_0_ok {x0_0 : Int} {v0_1 : PV} {x1_0 : Int} {v1_1 v1_2 : PV} (h : D_law_SearchIs_0 pg x0_0 v0_1 x1_0 v1_1 v1_2 gh = some (e, s)) : runL pg f_law_SearchIs_0 ⟨[(0, .agg [I x0_0, v0_1]), (1, .agg [I x1_0, v1_1, v1_2])], [], gh⟩ = some (e, s) :=
  runX_ok an_law_SearchIs (Eq.trans (by kernel_rfl) h)
end
end Go.Lw
end

/-! What the code of function search_Is comes to, piece by piece. Written by program (dprint.py). -/
section
set_option maxRecDepth 10000
set_option maxHeartbeats 4000000
namespace Go.Lw
open Go
noncomputable section
variable {pg : Prg} {gh : List GObj} {e : IExit} {s : St}
def an_search_Is : Tr := (tB 34 (tB 16 (tI 8 (tI 5 (.node 1 (.agg [.int .i64, .any, .any]) (.node 0 (.agg [.int .i64, .any]) .nil .nil) (uB 4)) (tB 7 (uI 6) .nil)) (tB 12 (tI 10 (.node 9 (.agg [.int .i64, .any]) .nil .nil) (uI 11)) (tI 15 (uI 13) .nil))) (tI 25 (tB 21 (tO 19 (uB 17) (uI 20)) (tO 24 (uB 22) .nil)) (tB 30 (tB 28 (uI 27) (uB 29)) (tO 33 (.node 31 (.agg [.int .i64, .any]) .nil .nil) .nil)))) (tB 50 (.node 42 (.tup 2) (.node 38 (.tup 2) (tB 36 (uB 35) (uB 37)) (tO 41 (.node 39 (.agg [.int .i64, .any]) .nil .nil) .nil)) (tI 47 (tI 44 (uB 43) (uO 46)) (tB 49 (uB 48) .nil))) (tB 57 (tB 54 (tB 52 (uB 51) (uI 53)) (tB 56 (uB 55) .nil)) (tI 63 (tI 60 (uO 59) (uO 62)) (tB 65 (uI 64) .nil)))))
def D_search_Is_0 (pg : Prg) (x0_0 : Int) (v0_1 : PV) (x1_0 : Int) (v1_1 v1_2 : PV) (gh : List GObj) : DR := onK (degr1 v0_1) (onK (degr1 v1_1) (onK (degr1 v1_2) (onK (degr1 (degr1 (degr1 v0_1))) (
  callR gh true (callL pg 59 [(.agg [I x0_0, (degr1 (degr1 (degr1 v0_1)))])] gh) fun r1 gh2 => unI .i64 r1 fun n3 =>
  br 12 (n3 != 0) (some (.ret, ⟨[(4, B false), (5, I n3)], [], gh2⟩)) (
  br 16 (x1_0 == 1) (isC (degr (degr1 v1_2)) (lenS (degr (degr (degr1 v1_2))) fun n4 =>
  br 22 ((n4 : Int) == 0) (isC (degr (degr1 v1_1)) (lenS (degr (degr (degr1 v1_1))) fun n5 =>
  br 30 ((n5 : Int) == x0_0) (isC (degr (degr1 v1_1)) (onK (degr1 (degr1 (degr1 v0_1))) (arK (degr (degr (degr1 v1_1))) (
  callR gh2 true (callL pg 70 [(.agg [I x0_0, (degr1 (degr1 (degr1 v0_1)))]), (degr (degr (degr1 v1_1)))] gh2) fun r6 gh7 => unB r6 fun b8 => some (.ret, ⟨[(4, B b8), (5, I 0)], [], gh7⟩))))) (some (.ret, ⟨[(4, B false), (5, I 0)], [], gh2⟩)))) (some (.ret, ⟨[(4, B false), (5, I 0)], [], gh2⟩)))) (
  br 36 (x1_0 == 2) (isC (degr (degr1 v1_2)) (onK (degr1 (degr1 (degr1 v0_1))) (arK (degr (degr (degr1 v1_2))) (
  callR gh2 true (callL pg 149 [(.agg [I x0_0, (degr1 (degr1 (degr1 v0_1)))]), (degr (degr (degr1 v1_2)))] gh2) fun r9 gh10 => unT 2 r9 fun r11 r12 => unB (degr1 (degr1 r11)) fun b13 => unI .i64 (degr1 (degr1 r12)) fun n14 => isC (degr (degr1 v1_1)) (lenS (degr (degr (degr1 v1_1))) fun n15 =>
  br 49 ((n15 : Int) == 0) (
  br 52 b13 (some (.ret, ⟨[(4, (B (n14 == 0))), (5, I 0)], [], gh10⟩)) (some (.ret, ⟨[(4, B false), (5, I 0)], [], gh10⟩))) (some (.ret, ⟨[(4, B false), (5, I 0)], [], gh10⟩))))))) (
  br 56 (x1_0 == 3) (isC (degr (degr1 v1_1)) (lenS (degr (degr (degr1 v1_1))) fun n16 => isC (degr (degr1 v1_2)) (lenS (degr (degr (degr1 v1_2))) fun n17 => some (.ret, ⟨[(4, (B ((IntKind.i64.wrap ((n16 : Int) + (n17 : Int))) == 0))), (5, I 0)], [], gh2⟩)))) (some (.ret, ⟨[(4, B false), (5, I 7)], [], gh2⟩)))))))))
theorem D_search_Is_0_ok {x0_0 : Int} {v0_1 : PV} {x1_0 : Int} {v1_1 v1_2 : PV} (h : D_search_Is_0 pg x0_0 v0_1 x1_0 v1_1 v1_2 gh = some (e, s)) : runL pg f_search_Is_0 ⟨[(0, .agg [I x0_0, v0_1]), (1, .agg [I x1_0, v1_1, v1_2])], [], gh⟩ = some (e, s) :=
  runX_ok an_search_Is (Eq.trans (by kernel_rfl) h)
end
end Go.Lw
end

/-! What the code of function ref_AnswerIs comes to, piece by piece. Written by program (dprint.py). -/
section
set_option maxRecDepth 10000
set_option maxHeartbeats 4000000
namespace Go.Lw
open Go
noncomputable section
variable {pg : Prg} {gh : List GObj} {e : IExit} {s : St}
def an_ref_AnswerIs : Tr := (tO 31 (tO 16 (tB 8 (tB 4 (.node 1 (.agg [.int .i64, .any, .any]) (.node 0 (.agg [.int .i64, .any]) .nil .nil) .nil) (tI 7 (uI 5) .nil)) (tI 12 (tO 11 (uB 9) .nil) (tB 14 (uB 13) .nil))) (.node 23 (.agg [.int .i64, .any]) (tB 20 (tI 19 (uI 17) .nil) (tB 22 (uB 21) .nil)) (tB 27 (tB 26 (uO 25) .nil) (tB 29 (uB 28) .nil)))) (tB 45 (tI 38 (tB 34 (tB 33 (uI 32) .nil) (tO 37 (.node 35 (.agg [.int .i64, .any]) .nil .nil) .nil)) (tB 41 (tB 40 (uB 39) .nil) (tO 44 (.node 42 (.agg [.int .i64, .any]) .nil .nil) .nil))) (tB 52 (tB 48 (tB 47 (uB 46) .nil) (tI 51 (uO 50) .nil)) (tI 56 (tO 55 (uB 53) .nil) (tB 58 (uB 57) .nil)))))
def D_ref_AnswerIs_0 (pg : Prg) (x0_0 : Int) (v0_1 : PV) (x1_0 : Int) (v1_1 v1_2 : PV) (gh : List GObj) : DR := onK (degr1 v0_1) (onK (degr1 v1_1) (onK (degr1 v1_2) (
  br 8 (x1_0 == 1) (isC (degr (degr1 v1_2)) (lenS (degr (degr (degr1 v1_2))) fun n1 =>
  br 14 ((n1 : Int) == 0) (isC (degr (degr1 v1_1)) (lenS (degr (degr (degr1 v1_1))) fun n2 =>
  br 22 ((n2 : Int) == x0_0) (isC (degr (degr1 v1_1)) (onK (degr1 (degr1 (degr1 v0_1))) (arK (degr (degr (degr1 v1_1))) (
  callR gh true (callL pg 168 [(.agg [I x0_0, (degr1 (degr1 (degr1 v0_1)))]), (degr (degr (degr1 v1_1)))] gh) fun r3 gh4 => unB r3 fun b5 => some (.ret, ⟨[(4, B b5), (5, I 0)], [], gh4⟩))))) (some (.ret, ⟨[(4, B false), (5, I 0)], [], gh⟩)))) (some (.ret, ⟨[(4, B false), (5, I 0)], [], gh⟩)))) (
  br 28 (x1_0 == 2) (isC (degr (degr1 v1_1)) (lenS (degr (degr (degr1 v1_1))) fun n6 =>
  br 34 ((n6 : Int) == 0) (isC (degr (degr1 v1_2)) (onK (degr1 (degr1 (degr1 v0_1))) (arK (degr (degr (degr1 v1_2))) (
  callR gh true (callL pg 150 [(.agg [I x0_0, (degr1 (degr1 (degr1 v0_1)))]), (degr (degr (degr1 v1_2)))] gh) fun r7 gh8 => unI .i64 r7 fun n9 =>
  br 41 (n9 == 0) (isC (degr (degr1 v1_2)) (onK (degr1 (degr1 (degr1 v0_1))) (arK (degr (degr (degr1 v1_2))) (
  callR gh8 true (callL pg 151 [(.agg [I x0_0, (degr1 (degr1 (degr1 v0_1)))]), (degr (degr (degr1 v1_2)))] gh8) fun r10 gh11 => unB r10 fun b12 => some (.ret, ⟨[(4, B b12), (5, I 0)], [], gh11⟩))))) (some (.ret, ⟨[(4, B false), (5, I 0)], [], gh8⟩)))))) (some (.ret, ⟨[(4, B false), (5, I 0)], [], gh⟩)))) (
  br 47 (x1_0 == 3) (isC (degr (degr1 v1_1)) (lenS (degr (degr (degr1 v1_1))) fun n13 =>
  br 53 ((n13 : Int) == 0) (isC (degr (degr1 v1_2)) (lenS (degr (degr (degr1 v1_2))) fun n14 => some (.ret, ⟨[(4, (B ((n14 : Int) == 0))), (5, I 0)], [], gh⟩))) (some (.ret, ⟨[(4, B false), (5, I 0)], [], gh⟩)))) (some (.ret, ⟨[(4, B false), (5, I 7)], [], gh⟩)))))))
theorem D_ref_AnswerIs_0_ok {x0_0 : Int} {v0_1 : PV} {x1_0 : Int} {v1_1 v1_2 : PV} (h : D_ref_AnswerIs_0 pg x0_0 v0_1 x1_0 v1_1 v1_2 gh = some (e, s)) : runL pg f_ref_AnswerIs_0 ⟨[(0, .agg [I x0_0, v0_1]), (1, .agg [I x1_0, v1_1, v1_2])], [], gh⟩ = some (e, s) :=
  runX_ok an_ref_AnswerIs (Eq.trans (by kernel_rfl) h)
end
end Go.Lw
end

/-! What the code of function ref_HoldsOf comes to, piece by piece. Written by program (dprint.py). -/
section
set_option maxRecDepth 10000
set_option maxHeartbeats 4000000
namespace Go.Lw
open Go
noncomputable section
variable {pg : Prg} {gh : List GObj} {e : IExit} {s : St}
def an_ref_HoldsOf : Tr := (tO 30 (tI 14 (tI 7 (tB 4 (tO 1 (.node 0 (.agg [.int .i64, .any]) .nil .nil) .nil) (tB 6 (uI 5) .nil)) (tO 11 (tI 9 (uI 8) .nil) (tB 13 (uI 12) .nil))) (tI 22 (tO 18 (tI 16 (uI 15) .nil) (tO 21 (uI 19) .nil)) (tI 25 (tI 24 (uB 23) .nil) (tI 28 (uO 27) .nil)))) (tB 44 (tB 37 (tI 34 (tI 33 (uI 31) .nil) (tB 36 (uB 35) .nil)) (tI 40 (tI 39 (uO 38) .nil) (tB 43 (uB 42) .nil))) (tB 51 (tI 47 (tO 46 (uB 45) .nil) (tI 49 (uI 48) .nil)) (tB 54 (tB 53 (uB 52) .nil) (uB 55)))))
def D_ref_HoldsOf_k1 (pg : Prg) (v1 : PV) (x5 : Int) (b6 : Bool) (x7 xc0_0 : Int) (vc0_1 : PV) (gh : List GObj) : DR := stK 1 v1 (some (.normal, ⟨[(1, v1), (2, .ptr false 0 0), (5, I x5), (6, B b6), (7, (I (IntKind.i64.wrap (x7 + 1))))], [[I xc0_0, vc0_1]], gh⟩))
theorem D_ref_HoldsOf_k1_ok {v1 : PV} {x5 : Int} {b6 : Bool} {x7 xc0_0 : Int} {vc0_1 : PV} (h : D_ref_HoldsOf_k1 pg v1 x5 b6 x7 xc0_0 vc0_1 gh = some (e, s)) : runL pg f_ref_HoldsOf_k1 ⟨[(1, v1), (2, .ptr false 0 0), (5, I x5), (6, B b6), (7, I x7)], [[I xc0_0, vc0_1]], gh⟩ = some (e, s) :=
  runX_ok an_ref_HoldsOf (Eq.trans (by kernel_rfl) h)
def D_ref_HoldsOf_b2 (pg : Prg) (v1 : PV) (x5 : Int) (b6 : Bool) (x7 xc0_0 : Int) (vc0_1 : PV) (gh : List GObj) : DR := isC (degr vc0_1) (
  idX 1 none (degr (degr vc0_1)) x5 fun p1 =>
  ldX [[I xc0_0, vc0_1]] gh false 1 (degr p1) fun v2 => isC v2 (lenS (degr v2) fun n3 => stK 1 v1 (
  br 23 (decide (x7 < (n3 : Int))) (isC (degr vc0_1) (
  idX 1 none (degr (degr vc0_1)) x5 fun p4 =>
  ldX [[I xc0_0, vc0_1]] gh false 1 (degr p4) fun v5 => isC v5 (
  idX 1 none (degr v5) x7 fun p6 =>
  ldX [[I xc0_0, vc0_1]] gh false 1 (degr p6) fun v7 => unI .i64 v7 fun n8 => stK 1 v1 (stK 1 v1 (
  br 35 (decide (0 < n8)) (
  br 37 b6 (stK 1 v1 (stK 1 v1 (
  kR (runL pg f_ref_HoldsOf_k1 ⟨[(1, v1), (2, .ptr false 0 0), (5, I x5), (6, B true), (7, I x7)], [[I xc0_0, vc0_1]], gh⟩) (fun e s => po [1, 2, 5, 6, 7] 1 e s (fun e s => some (e, s)))))) (isC (degr v1) (
  idX 1 none (degr (degr v1)) (IntKind.i64.wrap (n8 - 1)) fun p9 =>
  ldX [[I xc0_0, vc0_1]] gh false 1 (degr p9) fun v10 => unB v10 fun b11 => stK 1 v1 (stK 1 v1 (
  kR (runL pg f_ref_HoldsOf_k1 ⟨[(1, v1), (2, .ptr false 0 0), (5, I x5), (6, B b11), (7, I x7)], [[I xc0_0, vc0_1]], gh⟩) (fun e s => po [1, 2, 5, 6, 7] 1 e s (fun e s => some (e, s)))))))) (
  br 45 b6 (stK 1 v1 (stK 1 v1 (
  kR (runL pg f_ref_HoldsOf_k1 ⟨[(1, v1), (2, .ptr false 0 0), (5, I x5), (6, B true), (7, I x7)], [[I xc0_0, vc0_1]], gh⟩) (fun e s => po [1, 2, 5, 6, 7] 1 e s (fun e s => some (e, s)))))) (isC (degr v1) (
  idX 1 none (degr (degr v1)) (IntKind.i64.wrap ((IntKind.i64.wrap (0 - n8)) - 1)) fun p12 =>
  ldX [[I xc0_0, vc0_1]] gh false 1 (degr p12) fun v13 => unB v13 fun b14 => stK 1 v1 (stK 1 v1 (
  kR (runL pg f_ref_HoldsOf_k1 ⟨[(1, v1), (2, .ptr false 0 0), (5, I x5), (6, (B (!b14))), (7, I x7)], [[I xc0_0, vc0_1]], gh⟩) (fun e s => po [1, 2, 5, 6, 7] 1 e s (fun e s => some (e, s))))))))))))) (some ((.exit 2), ⟨[(1, v1), (2, .ptr false 0 0), (5, I x5), (6, B b6), (7, I x7), (23, (B (decide (x7 < (n3 : Int)))))], [[I xc0_0, vc0_1]], gh⟩)))))
theorem D_ref_HoldsOf_b2_ok {v1 : PV} {x5 : Int} {b6 : Bool} {x7 xc0_0 : Int} {vc0_1 : PV} (h : D_ref_HoldsOf_b2 pg v1 x5 b6 x7 xc0_0 vc0_1 gh = some (e, s)) : runL pg f_ref_HoldsOf_b2 ⟨[(1, v1), (2, .ptr false 0 0), (5, I x5), (6, B b6), (7, I x7)], [[I xc0_0, vc0_1]], gh⟩ = some (e, s) :=
  runX_ok an_ref_HoldsOf (Eq.trans (by kernel_rfl) h)
def D_ref_HoldsOf_k2 (pg : Prg) (v1 : PV) (x5 : Int) (b6 : Bool) (xc0_0 : Int) (vc0_1 : PV) (gh : List GObj) : DR := stK 1 v1 (
  br 55 (!b6) (some (.ret, ⟨[(4, B false)], [], gh⟩)) (some (.normal, ⟨[(1, v1), (2, .ptr false 0 0), (5, I x5), (55, (B (!b6)))], [[I xc0_0, vc0_1]], gh⟩)))
theorem D_ref_HoldsOf_k2_ok {v1 : PV} {x5 : Int} {b6 : Bool} {xc0_0 : Int} {vc0_1 : PV} (h : D_ref_HoldsOf_k2 pg v1 x5 b6 xc0_0 vc0_1 gh = some (e, s)) : runL pg f_ref_HoldsOf_k2 ⟨[(1, v1), (2, .ptr false 0 0), (5, I x5), (6, B b6)], [[I xc0_0, vc0_1]], gh⟩ = some (e, s) :=
  runX_ok an_ref_HoldsOf (Eq.trans (by kernel_rfl) h)
def D_ref_HoldsOf_k3 (pg : Prg) (v1 : PV) (x5 : Int) (b55 : Bool) (xc0_0 : Int) (vc0_1 : PV) (gh : List GObj) : DR := stK 1 v1 (some (.normal, ⟨[(1, v1), (2, .ptr false 0 0), (5, (I (IntKind.i64.wrap (x5 + 1))))], [[I xc0_0, vc0_1]], gh⟩))
theorem D_ref_HoldsOf_k3_ok {v1 : PV} {x5 : Int} {b55 : Bool} {xc0_0 : Int} {vc0_1 : PV} (h : D_ref_HoldsOf_k3 pg v1 x5 b55 xc0_0 vc0_1 gh = some (e, s)) : runL pg f_ref_HoldsOf_k3 ⟨[(1, v1), (2, .ptr false 0 0), (5, I x5), (55, B b55)], [[I xc0_0, vc0_1]], gh⟩ = some (e, s) :=
  runX_ok an_ref_HoldsOf (Eq.trans (by kernel_rfl) h)
def D_ref_HoldsOf_b1 (pg : Prg) (v1 : PV) (x5 xc0_0 : Int) (vc0_1 : PV) (gh : List GObj) : DR := isC (degr vc0_1) (lenS (degr (degr vc0_1)) fun n1 => stK 1 v1 (
  br 13 (decide (x5 < (n1 : Int))) (stK 1 v1 (stK 1 v1 (
  kR (runL pg f_ref_HoldsOf_l2 ⟨[(1, v1), (2, .ptr false 0 0), (5, I x5), (6, B false), (7, I 0)], [[I xc0_0, vc0_1]], gh⟩) (fun e s => nx e s (fun e s => bk 1 e s (fun e s => nx e s (fun e s => po [1, 2, 5] 1 e s (fun e s => some (e, s))) fun s => kR (runL pg f_ref_HoldsOf_k3 s) (fun e s => po [1, 2, 5] 1 e s (fun e s => some (e, s))))) fun s => kR (runL pg f_ref_HoldsOf_k2 s) (fun e s => bk 1 e s (fun e s => nx e s (fun e s => po [1, 2, 5] 1 e s (fun e s => some (e, s))) fun s => kR (runL pg f_ref_HoldsOf_k3 s) (fun e s => po [1, 2, 5] 1 e s (fun e s => some (e, s))))))))) (some ((.exit 0), ⟨[(1, v1), (2, .ptr false 0 0), (5, I x5), (13, (B (decide (x5 < (n1 : Int)))))], [[I xc0_0, vc0_1]], gh⟩))))
theorem D_ref_HoldsOf_b1_ok {v1 : PV} {x5 xc0_0 : Int} {vc0_1 : PV} (h : D_ref_HoldsOf_b1 pg v1 x5 xc0_0 vc0_1 gh = some (e, s)) : runL pg f_ref_HoldsOf_b1 ⟨[(1, v1), (2, .ptr false 0 0), (5, I x5)], [[I xc0_0, vc0_1]], gh⟩ = some (e, s) :=
  runX_ok an_ref_HoldsOf (Eq.trans (by kernel_rfl) h)
def D_ref_HoldsOf_k4 (pg : Prg)  (gh : List GObj) : DR := some (.ret, ⟨[(4, B true)], [], gh⟩)
theorem D_ref_HoldsOf_k4_ok  (h : D_ref_HoldsOf_k4 pg  gh = some (e, s)) : runL pg f_ref_HoldsOf_k4 ⟨[], [], gh⟩ = some (e, s) :=
  runX_ok an_ref_HoldsOf (Eq.trans (by kernel_rfl) h)
def D_ref_HoldsOf_0 (pg : Prg) (x0_0 : Int) (v0_1 v1 : PV) (gh : List GObj) : DR := onK (degr1 v0_1) (stK 1 v1 (stK 1 v1 (
  kR (runL pg f_ref_HoldsOf_l1 ⟨[(1, v1), (2, .ptr false 0 0), (5, I 0)], [[I x0_0, (degr1 v0_1)]], gh⟩) (fun e s => nx e s (fun e s => some (e, s)) fun s => kR (runL pg f_ref_HoldsOf_k4 s) (fun e s => some (e, s))))))
theorem D_ref_HoldsOf_0_ok {x0_0 : Int} {v0_1 v1 : PV} (h : D_ref_HoldsOf_0 pg x0_0 v0_1 v1 gh = some (e, s)) : runL pg f_ref_HoldsOf_0 ⟨[(0, .agg [I x0_0, v0_1]), (1, v1)], [], gh⟩ = some (e, s) :=
  runX_ok an_ref_HoldsOf (Eq.trans (by kernel_rfl) h)
end
end Go.Lw
end
