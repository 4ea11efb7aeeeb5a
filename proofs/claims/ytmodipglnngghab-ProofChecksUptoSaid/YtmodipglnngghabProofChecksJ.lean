/-
  The texts that the proof stands on, part 10.
-/
import Derived.Test.YtmodipglnngghabProofChecksI
import Derived.KernelRfl
set_option linter.unusedVariables false
set_option linter.unusedSimpArgs false
set_option linter.unnecessarySimpa false

/-! What the code of function proof_checker_put comes to, piece by piece. Written by program (dprint.py). -/
section
set_option maxRecDepth 10000
set_option maxHeartbeats 4000000
namespace Go.Lw
open Go

def an_proof_checker_put : Tr := (.node 17 (.ce (.bool)) (.node 9 (.ce (.int .i64)) (.node 4 (.ce (.bool)) (.node 1 (.ce (.int .i64)) (.node 0 (.ce (.gp)) .nil .nil) .nil) (.node 8 (.ce (.one)) (.node 5 (.ce (.gp)) .nil .nil) .nil)) (.node 12 (.ce (.gp)) (.node 11 (.ce (.bool)) (.node 10 (.ce (.int .i64)) .nil .nil) .nil) (.node 16 (.ce (.int .i64)) (.node 15 (.ce (.one)) .nil .nil) .nil))) (.node 25 (.ce (.gp)) (.node 22 (.ce (.one)) (.node 19 (.ce (.gp)) (.node 18 (.ce (.bool)) .nil .nil) .nil) (.node 24 (.ce (.gp)) (.node 23 (.ce (.int .i64)) .nil .nil) .nil)) (.node 30 (.ce (.one)) (.node 29 (.ce (.int .i64)) (.node 28 (.ce (.one)) .nil .nil) .nil) (.node 31 (.ce (.one)) .nil .nil))))

noncomputable def D_proof_checker_put_k1 (pg : Prg)  (gh : List GObj) : Option (IExit × St) := some (.ret, ⟨[(4, (.bool true))], [], gh⟩)

theorem D_proof_checker_put_k1_ok {pg : Prg} {gh : List GObj}  {e : IExit} {s : St} (h : D_proof_checker_put_k1 pg  gh = some (e, s)) : runL pg f_proof_checker_put_k1 ⟨[], [], gh⟩ = some (e, s) :=
  runX_ok an_proof_checker_put (Eq.trans (by kernel_rfl) h)

noncomputable def D_proof_checker_put_0 (pg : Prg) (g0 : Nat) (o0 : Nat) (x1 : Int) (gh : List GObj) : Option (IExit × St) := 
  ob (ghCells gh g0) fun cs1 => 
  ob (grab false 1 (o0 + 2) cs1) fun v2 => isC (degr v2) (
  lkX gh 0 (degr (degr v2)) (.int .i64 (IntKind.i64.wrap (0 - x1))) fun r3 => unB (Option.getD r3 (.bool false)) fun b4 => 
  br 11 b4 (some (.ret, ⟨[(4, (.bool false))], [], gh⟩)) (
  ob (ghCells gh g0) fun cs5 => 
  ob (grab false 1 (o0 + 2) cs5) fun v6 => isC (degr v6) (
  lkX gh 0 (degr (degr v6)) (.int .i64 x1) fun r7 => unB (Option.getD r7 (.bool false)) fun b8 => 
  br 18 (!b8) (
  ob (ghCells gh g0) fun cs9 => 
  ob (grab false 1 (o0 + 2) cs9) fun v10 => isC (degr v10) (
  muX gh 0 (degr (degr v10)) (.int .i64 x1) (.bool true) fun gh11 => 
  ob (ghCells gh11 g0) fun cs12 => 
  ob (grab false 1 (o0 + 3) cs12) fun v13 => isC (degr v13) (
  anX gh11 8 (degr (degr v13)) (.sl false 1 [(.int .i64 x1)]) fun gh14 v15 => isC v15 (arK v15 (isC v15 (
  ob (ghCells gh14 g0) fun cs16 => gb (stOk 1 (o0 + 3) [v15] cs16) (
  kR (runL pg f_proof_checker_put_k1 ⟨[], [], (List.set gh14 g0 (.cells (spliceAt cs16 (o0 + 3) [v15])))⟩) (fun e s => some (e, s))))))))) (
  kR (runL pg f_proof_checker_put_k1 ⟨[], [], gh⟩) (fun e s => some (e, s))))))

theorem D_proof_checker_put_0_ok {pg : Prg} {gh : List GObj} {g0 : Nat} {o0 : Nat} {x1 : Int} {e : IExit} {s : St} (h : D_proof_checker_put_0 pg g0 o0 x1 gh = some (e, s)) : runL pg f_proof_checker_put_0 ⟨[(0, (.ptr true g0 o0)), (1, (.int .i64 x1))], [], gh⟩ = some (e, s) :=
  runX_ok an_proof_checker_put (Eq.trans (by kernel_rfl) h)

end Go.Lw
end

/-! What the code of function proof_checker_must comes to, piece by piece. Written by program (dprint.py). -/
section
set_option maxRecDepth 10000
set_option maxHeartbeats 4000000
namespace Go.Lw
open Go

def an_proof_checker_must : Tr := (.node 23 (.ce (.gp)) (.node 11 (.ce (.int .i64)) (.node 6 (.ce (.int .i64)) (.node 4 (.ce (.bool)) (.node 1 (.ce (.one)) (.node 0 (.ce (.gp)) .nil .nil) .nil) (.node 5 (.ce (.int .i64)) .nil .nil)) (.node 9 (.ce (.one)) (.node 8 (.ce (.int .i64)) .nil .nil) (.node 10 (.ce (.int .i64)) .nil .nil))) (.node 19 (.ce (.one)) (.node 15 (.ce (.bool)) (.node 14 (.ce (.int .i64)) (.node 12 (.ce (.bool)) .nil .nil) .nil) (.node 16 (.ce (.gp)) .nil .nil)) (.node 21 (.ce (.bool)) (.node 20 (.ce (.int .i64)) .nil .nil) (.node 22 (.ce (.bool)) .nil .nil)))) (.node 34 (.ce (.int .i64)) (.node 30 (.ce (.bool)) (.node 28 (.ce (.int .i64)) (.node 27 (.ce (.int .i64)) (.node 26 (.ce (.one)) .nil .nil) .nil) (.node 29 (.ce (.bool)) .nil .nil)) (.node 32 (.ce (.int .i64)) (.node 31 (.ce (.int .i64)) .nil .nil) (.node 33 (.ce (.int .i64)) .nil .nil))) (.node 39 (.ce (.bool)) (.node 37 (.ce (.bool)) (.node 36 (.ce (.bool)) (.node 35 (.ce (.int .i64)) .nil .nil) .nil) (.node 38 (.ce (.bool)) .nil .nil)) (.node 41 (.ce (.int .i64)) (.node 40 (.ce (.gp)) .nil .nil) (.node 42 (.ce (.bool)) .nil .nil)))))

noncomputable def D_proof_checker_must_k1 (pg : Prg) (g0 : Nat) (o0 : Nat) (x5 : Int) (x6 : Int) (v9 : PV) (x10 : Int) (x11 : Int) (gh : List GObj) : Option (IExit × St) := stK 0 v9 (some (.normal, ⟨[(0, (.ptr true g0 o0)), (5, (.int .i64 x5)), (6, (.int .i64 x6)), (9, v9), (10, (.int .i64 x10)), (11, (.int .i64 (IntKind.i64.wrap (x11 + 1))))], [], gh⟩))

theorem D_proof_checker_must_k1_ok {pg : Prg} {gh : List GObj} {g0 : Nat} {o0 : Nat} {x5 : Int} {x6 : Int} {v9 : PV} {x10 : Int} {x11 : Int} {e : IExit} {s : St} (h : D_proof_checker_must_k1 pg g0 o0 x5 x6 v9 x10 x11 gh = some (e, s)) : runL pg f_proof_checker_must_k1 ⟨[(0, (.ptr true g0 o0)), (5, (.int .i64 x5)), (6, (.int .i64 x6)), (9, v9), (10, (.int .i64 x10)), (11, (.int .i64 x11))], [], gh⟩ = some (e, s) :=
  runX_ok an_proof_checker_must (Eq.trans (by kernel_rfl) h)

noncomputable def D_proof_checker_must_b1 (pg : Prg) (g0 : Nat) (o0 : Nat) (x5 : Int) (x6 : Int) (v9 : PV) (x10 : Int) (x11 : Int) (gh : List GObj) : Option (IExit × St) := 
  br 12 (decide (x11 < x10)) (
  idX 1 none (degr v9) x11 fun p1 => 
  lkK gh (degr p1) fun v2 => unI .i64 v2 fun n3 => stK 0 v9 (
  ob (ghCells gh g0) fun cs4 => 
  ob (grab false 1 (o0 + 2) cs4) fun v5 => isC (degr v5) (
  lkX gh 0 (degr (degr v5)) (.int .i64 n3) fun r6 => unB (Option.getD r6 (.bool false)) fun b7 => stK 0 v9 (
  br 15 b7 (some (.ret, ⟨[(4, (.bool true))], [], gh⟩)) (
  ob (ghCells gh g0) fun cs8 => 
  ob (grab false 1 (o0 + 2) cs8) fun v10 => isC (degr v10) (
  lkX gh 0 (degr (degr v10)) (.int .i64 (IntKind.i64.wrap (0 - n3))) fun r11 => unB (Option.getD r11 (.bool false)) fun b12 => stK 0 v9 (
  br 22 (!b12) (stK 0 v9 (stK 0 v9 (stK 0 v9 (
  kR (runL pg f_proof_checker_must_k1 ⟨[(0, (.ptr true g0 o0)), (5, (.int .i64 n3)), (6, (.int .i64 (IntKind.i64.wrap (x6 + 1)))), (9, v9), (10, (.int .i64 x10)), (11, (.int .i64 x11))], [], gh⟩) (fun e s => po [0, 5, 6, 9, 10, 11] 0 e s (fun e s => some (e, s))))))) (stK 0 v9 (
  kR (runL pg f_proof_checker_must_k1 ⟨[(0, (.ptr true g0 o0)), (5, (.int .i64 x5)), (6, (.int .i64 x6)), (9, v9), (10, (.int .i64 x10)), (11, (.int .i64 x11))], [], gh⟩) (fun e s => po [0, 5, 6, 9, 10, 11] 0 e s (fun e s => some (e, s)))))))))))) (some ((.exit 0), ⟨[(0, (.ptr true g0 o0)), (5, (.int .i64 x5)), (6, (.int .i64 x6)), (9, v9), (10, (.int .i64 x10)), (11, (.int .i64 x11)), (12, (.bool (decide (x11 < x10))))], [], gh⟩))

theorem D_proof_checker_must_b1_ok {pg : Prg} {gh : List GObj} {g0 : Nat} {o0 : Nat} {x5 : Int} {x6 : Int} {v9 : PV} {x10 : Int} {x11 : Int} {e : IExit} {s : St} (h : D_proof_checker_must_b1 pg g0 o0 x5 x6 v9 x10 x11 gh = some (e, s)) : runL pg f_proof_checker_must_b1 ⟨[(0, (.ptr true g0 o0)), (5, (.int .i64 x5)), (6, (.int .i64 x6)), (9, v9), (10, (.int .i64 x10)), (11, (.int .i64 x11))], [], gh⟩ = some (e, s) :=
  runX_ok an_proof_checker_must (Eq.trans (by kernel_rfl) h)

noncomputable def D_proof_checker_must_k2 (pg : Prg) (g0 : Nat) (o0 : Nat) (x5 : Int) (x6 : Int) (gh : List GObj) : Option (IExit × St) := 
  br 36 (x6 == 0) (some (.ret, ⟨[(4, (.bool false))], [], gh⟩)) (
  br 38 (x6 == 1) (
  callR gh false (callL pg 158 [(.ptr true g0 o0), (.int .i64 x5)] gh) fun r1 gh2 => unB r1 fun b3 => some (.ret, ⟨[(4, (.bool b3))], [], gh2⟩)) (some (.ret, ⟨[(4, (.bool true))], [], gh⟩)))

theorem D_proof_checker_must_k2_ok {pg : Prg} {gh : List GObj} {g0 : Nat} {o0 : Nat} {x5 : Int} {x6 : Int} {e : IExit} {s : St} (h : D_proof_checker_must_k2 pg g0 o0 x5 x6 gh = some (e, s)) : runL pg f_proof_checker_must_k2 ⟨[(0, (.ptr true g0 o0)), (5, (.int .i64 x5)), (6, (.int .i64 x6))], [], gh⟩ = some (e, s) :=
  runX_ok an_proof_checker_must (Eq.trans (by kernel_rfl) h)

noncomputable def D_proof_checker_must_0 (pg : Prg) (g0 : Nat) (o0 : Nat) (v1 : PV) (gh : List GObj) : Option (IExit × St) := stK 0 v1 (isC (degr v1) (lenS (degr (degr v1)) fun n1 => stK 0 (degr v1) (
  kR (runL pg f_proof_checker_must_l1 ⟨[(0, (.ptr true g0 o0)), (5, (.int .i64 0)), (6, (.int .i64 0)), (9, (degr v1)), (10, (.int .i64 (n1 : Int))), (11, (.int .i64 0))], [], gh⟩) (fun e s => nx e s (fun e s => some (e, s)) fun s => kR (runL pg f_proof_checker_must_k2 s) (fun e s => some (e, s))))))

theorem D_proof_checker_must_0_ok {pg : Prg} {gh : List GObj} {g0 : Nat} {o0 : Nat} {v1 : PV} {e : IExit} {s : St} (h : D_proof_checker_must_0 pg g0 o0 v1 gh = some (e, s)) : runL pg f_proof_checker_must_0 ⟨[(0, (.ptr true g0 o0)), (1, v1)], [], gh⟩ = some (e, s) :=
  runX_ok an_proof_checker_must (Eq.trans (by kernel_rfl) h)

end Go.Lw
end

/-! What the code of function proof_checker_follows comes to, piece by piece. Written by program (dprint.py). -/
section
set_option maxRecDepth 10000
set_option maxHeartbeats 4000000
namespace Go.Lw
open Go

def an_proof_checker_follows : Tr := (.node 49 (.ce (.int .i64)) (.node 28 (.ce (.bool)) (.node 14 (.ce (.one)) (.node 8 (.ce (.one)) (.node 4 (.ce (.bool)) (.node 1 (.ce (.one)) (.node 0 (.ce (.gp)) .nil .nil) .nil) (.node 6 (.ce (.int .i64)) .nil .nil)) (.node 12 (.ce (.gp)) (.node 11 (.ce (.int .i64)) (.node 9 (.ce (.int .i64)) .nil .nil) .nil) (.node 13 (.ce (.gp)) .nil .nil))) (.node 24 (.ce (.int .i64)) (.node 21 (.ce (.int .i64)) (.node 20 (.ce (.int .i64)) (.node 19 (.ce (.one)) .nil .nil) .nil) (.node 22 (.ce (.bool)) .nil .nil)) (.node 26 (.ce (.int .i64)) (.node 25 (.ce (.gp)) .nil .nil) (.node 27 (.ce (.int .i64)) .nil .nil)))) (.node 40 (.ce (.one)) (.node 35 (.ce (.int .i64)) (.node 31 (.ce (.gp)) (.node 30 (.ce (.int .i64)) (.node 29 (.ce (.bool)) .nil .nil) .nil) (.node 34 (.ce (.one)) .nil .nil)) (.node 37 (.ce (.bool)) (.node 36 (.ce (.int .i64)) .nil .nil) (.node 39 (.ce (.one)) .nil .nil))) (.node 45 (.ce (.one)) (.node 43 (.ce (.bool)) (.node 42 (.ce (.bool)) (.node 41 (.ce (.int .i64)) .nil .nil) .nil) (.node 44 (.ce (.gp)) .nil .nil)) (.node 47 (.ce (.bool)) (.node 46 (.ce (.bool)) .nil .nil) (.node 48 (.ce (.bool)) .nil .nil))))) (.node 79 (.ce (.one)) (.node 65 (.ce (.int .i64)) (.node 56 (.ce (.gp)) (.node 54 (.ce (.int .i64)) (.node 53 (.ce (.one)) (.node 50 (.ce (.gp)) .nil .nil) .nil) (.node 55 (.ce (.bool)) .nil .nil)) (.node 63 (.ce (.one)) (.node 60 (.ce (.gp)) (.node 59 (.ce (.one)) .nil .nil) .nil) (.node 64 (.ce (.int .i64)) .nil .nil))) (.node 73 (.ce (.gp)) (.node 69 (.ce (.gp)) (.node 68 (.ce (.gp)) (.node 67 (.ce (.int .i64)) .nil .nil) .nil) (.node 72 (.ce (.one)) .nil .nil)) (.node 77 (.ce (.int .i64)) (.node 76 (.ce (.one)) .nil .nil) (.node 78 (.ce (.int .i64)) .nil .nil)))) (.node 93 (.ce (.int .i64)) (.node 88 (.ce (.one)) (.node 86 (.ce (.int .i64)) (.node 85 (.ce (.one)) (.node 82 (.ce (.gp)) .nil .nil) .nil) (.node 87 (.ce (.int .i64)) .nil .nil)) (.node 90 (.ce (.int .i64)) (.node 89 (.ce (.int .i64)) .nil .nil) (.node 91 (.ce (.bool)) .nil .nil))) (.node 101 (.ce (.one)) (.node 98 (.ce (.one)) (.node 95 (.ce (.gp)) (.node 94 (.ce (.gp)) .nil .nil) .nil) (.node 99 (.ce (.int .i64)) .nil .nil)) (.node 103 (.ce (.bool)) (.node 102 (.ce (.bool)) .nil .nil) (.node 104 (.ce (.int .i64)) .nil .nil))))))

noncomputable def D_proof_checker_follows_b1 (pg : Prg) (g0 : Nat) (o0 : Nat) (v19 : PV) (x20 : Int) (x21 : Int) (gh : List GObj) : Option (IExit × St) := 
  br 22 (decide (x21 < x20)) (
  idX 1 none (degr v19) x21 fun p1 => 
  ldX [] gh false 1 (degr p1) fun v2 => unI .i64 v2 fun n3 => stK 0 v19 (
  callR gh false (callL pg 158 [(.ptr true g0 o0), (.int .i64 (IntKind.i64.wrap (0 - n3)))] gh) fun r4 gh5 => unB r4 fun b6 => stK 0 v19 (
  br 29 (!b6) (some (.ret, ⟨[(4, (.bool true))], [], gh5⟩)) (stK 0 v19 (stK 0 v19 (some (.normal, ⟨[(0, (.ptr true g0 o0)), (19, v19), (20, (.int .i64 x20)), (21, (.int .i64 (IntKind.i64.wrap (x21 + 1))))], [], gh5⟩))))))) (some ((.exit 0), ⟨[(0, (.ptr true g0 o0)), (19, v19), (20, (.int .i64 x20)), (21, (.int .i64 x21)), (22, (.bool (decide (x21 < x20))))], [], gh⟩))

theorem D_proof_checker_follows_b1_ok {pg : Prg} {gh : List GObj} {g0 : Nat} {o0 : Nat} {v19 : PV} {x20 : Int} {x21 : Int} {e : IExit} {s : St} (h : D_proof_checker_follows_b1 pg g0 o0 v19 x20 x21 gh = some (e, s)) : runL pg f_proof_checker_follows_b1 ⟨[(0, (.ptr true g0 o0)), (19, v19), (20, (.int .i64 x20)), (21, (.int .i64 x21))], [], gh⟩ = some (e, s) :=
  runX_ok an_proof_checker_follows (Eq.trans (by kernel_rfl) h)

noncomputable def D_proof_checker_follows_b2 (pg : Prg) (g0 : Nat) (o0 : Nat) (v34 : PV) (x35 : Int) (x36 : Int) (gh : List GObj) : Option (IExit × St) := 
  br 37 (decide (x36 < x35)) (
  idX 1 none (degr v34) x36 fun p1 => 
  ldX [] gh false 1 (degr p1) fun v2 => isC v2 (stK 0 v2 (stK 0 v34 (isC (degr v2) (lenS (degr (degr v2)) fun n3 => 
  br 43 (decide ((n3 : Int) < 2)) (isC (degr v2) (arK (degr (degr v2)) (
  callR gh false (callL pg 159 [(.ptr true g0 o0), (degr (degr v2))] gh) fun r4 gh5 => unB r4 fun b6 => stK 0 v34 (
  br 48 (!b6) (some (.ret, ⟨[(4, (.bool true))], [], gh5⟩)) (stK 0 v34 (stK 0 v34 (some (.normal, ⟨[(0, (.ptr true g0 o0)), (34, v34), (35, (.int .i64 x35)), (36, (.int .i64 (IntKind.i64.wrap (x36 + 1))))], [], gh5⟩)))))))) (stK 0 v34 (stK 0 v34 (stK 0 v34 (some (.normal, ⟨[(0, (.ptr true g0 o0)), (34, v34), (35, (.int .i64 x35)), (36, (.int .i64 (IntKind.i64.wrap (x36 + 1))))], [], gh⟩)))))))))) (some ((.exit 2), ⟨[(0, (.ptr true g0 o0)), (34, v34), (35, (.int .i64 x35)), (36, (.int .i64 x36)), (37, (.bool (decide (x36 < x35))))], [], gh⟩))

theorem D_proof_checker_follows_b2_ok {pg : Prg} {gh : List GObj} {g0 : Nat} {o0 : Nat} {v34 : PV} {x35 : Int} {x36 : Int} {e : IExit} {s : St} (h : D_proof_checker_follows_b2 pg g0 o0 v34 x35 x36 gh = some (e, s)) : runL pg f_proof_checker_follows_b2 ⟨[(0, (.ptr true g0 o0)), (34, v34), (35, (.int .i64 x35)), (36, (.int .i64 x36))], [], gh⟩ = some (e, s) :=
  runX_ok an_proof_checker_follows (Eq.trans (by kernel_rfl) h)

noncomputable def D_proof_checker_follows_b4 (pg : Prg) (g0 : Nat) (o0 : Nat) (v88 : PV) (x89 : Int) (x90 : Int) (gh : List GObj) : Option (IExit × St) := 
  br 91 (decide (x90 < x89)) (
  idX 1 none (degr v88) x90 fun p1 => 
  lkK gh (degr p1) fun v2 => unI .i64 v2 fun n3 => stK 0 v88 (
  ob (ghCells gh g0) fun cs4 => 
  ob (grab false 1 (o0 + 0) cs4) fun v5 => isC (degr v5) (
  idX 1 none (degr (degr v5)) n3 fun p6 => 
  ldX [] gh false 1 (degr p6) fun v7 => isC v7 (arK (degr v7) (
  callR gh false (callL pg 159 [(.ptr true g0 o0), (degr v7)] gh) fun r8 gh9 => unB r8 fun b10 => stK 0 v88 (
  br 103 (!b10) (some (.ret, ⟨[(4, (.bool true))], [], gh9⟩)) (stK 0 v88 (stK 0 v88 (some (.normal, ⟨[(0, (.ptr true g0 o0)), (88, v88), (89, (.int .i64 x89)), (90, (.int .i64 (IntKind.i64.wrap (x90 + 1))))], [], gh9⟩)))))))))) (some ((.exit 6), ⟨[(0, (.ptr true g0 o0)), (88, v88), (89, (.int .i64 x89)), (90, (.int .i64 x90)), (91, (.bool (decide (x90 < x89))))], [], gh⟩))

theorem D_proof_checker_follows_b4_ok {pg : Prg} {gh : List GObj} {g0 : Nat} {o0 : Nat} {v88 : PV} {x89 : Int} {x90 : Int} {e : IExit} {s : St} (h : D_proof_checker_follows_b4 pg g0 o0 v88 x89 x90 gh = some (e, s)) : runL pg f_proof_checker_follows_b4 ⟨[(0, (.ptr true g0 o0)), (88, v88), (89, (.int .i64 x89)), (90, (.int .i64 x90))], [], gh⟩ = some (e, s) :=
  runX_ok an_proof_checker_follows (Eq.trans (by kernel_rfl) h)

noncomputable def D_proof_checker_follows_b3 (pg : Prg) (g0 : Nat) (o0 : Nat) (gh : List GObj) : Option (IExit × St) := 
  ob (ghCells gh g0) fun cs1 => 
  ob (grab false 1 (o0 + 3) cs1) fun v2 => isC (degr v2) (lenS (degr (degr v2)) fun n3 => 
  br 55 (decide (0 < (n3 : Int))) (
  ob (ghCells gh g0) fun cs4 => 
  ob (grab false 1 (o0 + 3) cs4) fun v5 => isC (degr v5) (
  ob (ghCells gh g0) fun cs6 => 
  ob (grab false 1 (o0 + 3) cs6) fun v7 => isC (degr v7) (lenS (degr (degr v7)) fun n8 => 
  idX 1 none (degr (degr v5)) (IntKind.i64.wrap ((n8 : Int) - 1)) fun p9 => 
  lkK gh (degr p9) fun v10 => unI .i64 v10 fun n11 => 
  ob (ghCells gh g0) fun cs12 => 
  ob (grab false 1 (o0 + 3) cs12) fun v13 => isC (degr v13) (
  ob (ghCells gh g0) fun cs14 => 
  ob (grab false 1 (o0 + 3) cs14) fun v15 => isC (degr v15) (lenS (degr (degr v15)) fun n16 => 
  slX 1 (degr (degr v13)) none (some (IntKind.i64.wrap ((n16 : Int) - 1))) fun v17 => isC v17 (arK v17 (isC v17 (
  ob (ghCells gh g0) fun cs18 => gb (stOk 1 (o0 + 3) [v17] cs18) (
  ob (ghCells (List.set gh g0 (.cells (spliceAt cs18 (o0 + 3) [v17]))) g0) fun cs19 => 
  ob (grab false 1 (o0 + 1) cs19) fun v20 => isC (degr v20) (
  lkX (List.set gh g0 (.cells (spliceAt cs18 (o0 + 3) [v17]))) 0 (degr (degr v20)) (.int .i64 (IntKind.i64.wrap (0 - n11))) fun r21 => isC (Option.getD r21 .nils) (lenS (degr (Option.getD r21 .nils)) fun n22 => stK 0 (Option.getD r21 .nils) (
  kR (runL pg f_proof_checker_follows_l4 ⟨[(0, (.ptr true g0 o0)), (88, (Option.getD r21 .nils)), (89, (.int .i64 (n22 : Int))), (90, (.int .i64 0))], [], (List.set gh g0 (.cells (spliceAt cs18 (o0 + 3) [v17])))⟩) (fun e s => bk 5 e s (fun e s => po [0] 0 e s (fun e s => some (e, s)))))))))))))))) (some ((.exit 4), ⟨[(0, (.ptr true g0 o0)), (55, (.bool (decide (0 < (n3 : Int)))))], [], gh⟩)))

theorem D_proof_checker_follows_b3_ok {pg : Prg} {gh : List GObj} {g0 : Nat} {o0 : Nat} {e : IExit} {s : St} (h : D_proof_checker_follows_b3 pg g0 o0 gh = some (e, s)) : runL pg f_proof_checker_follows_b3 ⟨[(0, (.ptr true g0 o0))], [], gh⟩ = some (e, s) :=
  runX_ok an_proof_checker_follows (Eq.trans (by kernel_rfl) h)

noncomputable def D_proof_checker_follows_k3 (pg : Prg)  (gh : List GObj) : Option (IExit × St) := some (.ret, ⟨[(4, (.bool false))], [], gh⟩)

theorem D_proof_checker_follows_k3_ok {pg : Prg} {gh : List GObj}  {e : IExit} {s : St} (h : D_proof_checker_follows_k3 pg  gh = some (e, s)) : runL pg f_proof_checker_follows_k3 ⟨[], [], gh⟩ = some (e, s) :=
  runX_ok an_proof_checker_follows (Eq.trans (by kernel_rfl) h)

noncomputable def D_proof_checker_follows_k2 (pg : Prg) (g0 : Nat) (o0 : Nat) (gh : List GObj) : Option (IExit × St) := 
  kR (runL pg f_proof_checker_follows_l3 ⟨[(0, (.ptr true g0 o0))], [], gh⟩) (fun e s => nx e s (fun e s => some (e, s)) fun s => kR (runL pg f_proof_checker_follows_k3 s) (fun e s => some (e, s)))

theorem D_proof_checker_follows_k2_ok {pg : Prg} {gh : List GObj} {g0 : Nat} {o0 : Nat} {e : IExit} {s : St} (h : D_proof_checker_follows_k2 pg g0 o0 gh = some (e, s)) : runL pg f_proof_checker_follows_k2 ⟨[(0, (.ptr true g0 o0))], [], gh⟩ = some (e, s) :=
  runX_ok an_proof_checker_follows (Eq.trans (by kernel_rfl) h)

noncomputable def D_proof_checker_follows_k1 (pg : Prg) (g0 : Nat) (o0 : Nat) (gh : List GObj) : Option (IExit × St) := 
  ob (ghCells gh g0) fun cs1 => 
  ob (grab false 1 (o0 + 0) cs1) fun v2 => isC (degr v2) (lenS (degr (degr v2)) fun n3 => stK 0 (degr v2) (
  kR (runL pg f_proof_checker_follows_l2 ⟨[(0, (.ptr true g0 o0)), (34, (degr v2)), (35, (.int .i64 (n3 : Int))), (36, (.int .i64 0))], [], gh⟩) (fun e s => nx e s (fun e s => some (e, s)) fun s => kR (runL pg f_proof_checker_follows_k2 s) (fun e s => some (e, s)))))

theorem D_proof_checker_follows_k1_ok {pg : Prg} {gh : List GObj} {g0 : Nat} {o0 : Nat} {e : IExit} {s : St} (h : D_proof_checker_follows_k1 pg g0 o0 gh = some (e, s)) : runL pg f_proof_checker_follows_k1 ⟨[(0, (.ptr true g0 o0))], [], gh⟩ = some (e, s) :=
  runX_ok an_proof_checker_follows (Eq.trans (by kernel_rfl) h)

noncomputable def D_proof_checker_follows_0 (pg : Prg) (g0 : Nat) (o0 : Nat) (v1 : PV) (gh : List GObj) : Option (IExit × St) := stK 0 v1 (
  ob (ghCells (gh ++ [.map []]) g0) fun cs1 => gb (stOk 1 (o0 + 2) [(.mp (List.length gh))] cs1) (
  ob (ghCells (List.set (gh ++ [.map []]) g0 (.cells (spliceAt cs1 (o0 + 2) [(.mp (List.length gh))]))) g0) fun cs2 => gb (stOk 1 (o0 + 3) [.nils] cs2) (stK 0 v1 (isC (degr v1) (lenS (degr (degr v1)) fun n3 => stK 0 (degr v1) (
  kR (runL pg f_proof_checker_follows_l1 ⟨[(0, (.ptr true g0 o0)), (19, (degr v1)), (20, (.int .i64 (n3 : Int))), (21, (.int .i64 0))], [], (List.set (List.set (gh ++ [.map []]) g0 (.cells (spliceAt cs1 (o0 + 2) [(.mp (List.length gh))]))) g0 (.cells (spliceAt cs2 (o0 + 3) [.nils])))⟩) (fun e s => nx e s (fun e s => some (e, s)) fun s => kR (runL pg f_proof_checker_follows_k1 s) (fun e s => some (e, s)))))))))

theorem D_proof_checker_follows_0_ok {pg : Prg} {gh : List GObj} {g0 : Nat} {o0 : Nat} {v1 : PV} {e : IExit} {s : St} (h : D_proof_checker_follows_0 pg g0 o0 v1 gh = some (e, s)) : runL pg f_proof_checker_follows_0 ⟨[(0, (.ptr true g0 o0)), (1, v1)], [], gh⟩ = some (e, s) :=
  runX_ok an_proof_checker_follows (Eq.trans (by kernel_rfl) h)

end Go.Lw
end

/-! What the code of function proof_checker_add comes to, piece by piece. Written by program (dprint.py). -/
section
set_option maxRecDepth 10000
set_option maxHeartbeats 4000000
namespace Go.Lw
open Go

def an_proof_checker_add : Tr := (.node 23 (.ce (.gp)) (.node 12 (.ce (.one)) (.node 7 (.ce (.one)) (.node 5 (.ce (.int .i64)) (.node 1 (.ce (.one)) (.node 0 (.ce (.gp)) .nil .nil) .nil) (.node 6 (.ce (.one)) .nil .nil)) (.node 10 (.ce (.one)) (.node 8 (.ce (.one)) .nil .nil) (.node 11 (.ce (.one)) .nil .nil))) (.node 17 (.ce (.int .i64)) (.node 14 (.ce (.int .i64)) (.node 13 (.ce (.int .i64)) .nil .nil) (.node 15 (.ce (.bool)) .nil .nil)) (.node 21 (.ce (.one)) (.node 18 (.ce (.gp)) .nil .nil) (.node 22 (.ce (.int .i64)) .nil .nil)))) (.node 35 (.ce (.one)) (.node 29 (.ce (.gp)) (.node 27 (.ce (.int .i64)) (.node 26 (.ce (.one)) .nil .nil) (.node 28 (.ce (.one)) .nil .nil)) (.node 33 (.ce (.int .i64)) (.node 32 (.ce (.one)) .nil .nil) (.node 34 (.ce (.one)) .nil .nil))) (.node 41 (.ce (.one)) (.node 37 (.ce (.gp)) (.node 36 (.ce (.int .i64)) .nil .nil) (.node 38 (.ce (.gp)) .nil .nil)) (.node 43 (.ce (.one)) (.node 42 (.ce (.one)) .nil .nil) (.node 44 (.ce (.one)) .nil .nil)))))

noncomputable def D_proof_checker_add_b1 (pg : Prg) (g0 : Nat) (o0 : Nat) (v1 : PV) (v12 : PV) (x13 : Int) (x14 : Int) (gh : List GObj) : Option (IExit × St) := 
  br 15 (decide (x14 < x13)) (
  idX 1 none (degr v12) x14 fun p1 => 
  lkK gh (degr p1) fun v2 => unI .i64 v2 fun n3 => stK 0 v1 (stK 0 v12 (
  ob (ghCells gh g0) fun cs4 => 
  ob (grab false 1 (o0 + 1) cs4) fun v5 => isC (degr v5) (
  ob (ghCells gh g0) fun cs6 => 
  ob (grab false 1 (o0 + 1) cs6) fun v7 => isC (degr v7) (
  lkX gh 0 (degr (degr v7)) (.int .i64 n3) fun r8 => isC (Option.getD r8 .nils) (
  ob (ghCells gh g0) fun cs9 => 
  ob (grab false 1 (o0 + 0) cs9) fun v10 => isC (degr v10) (lenS (degr (degr v10)) fun n11 => 
  anX gh 8 (degr (Option.getD r8 .nils)) (.sl false 1 [(.int .i64 (n11 : Int))]) fun gh12 v13 => isC v13 (
  muX gh12 0 (degr (degr v5)) (.int .i64 n3) (degr v13) fun gh14 => stK 0 v1 (stK 0 v12 (stK 0 v1 (stK 0 v12 (stK 0 v1 (stK 0 v12 (some (.normal, ⟨[(0, (.ptr true g0 o0)), (1, v1), (12, v12), (13, (.int .i64 x13)), (14, (.int .i64 (IntKind.i64.wrap (x14 + 1))))], [], gh14⟩))))))))))))))) (some ((.exit 0), ⟨[(0, (.ptr true g0 o0)), (1, v1), (12, v12), (13, (.int .i64 x13)), (14, (.int .i64 x14)), (15, (.bool (decide (x14 < x13))))], [], gh⟩))

theorem D_proof_checker_add_b1_ok {pg : Prg} {gh : List GObj} {g0 : Nat} {o0 : Nat} {v1 : PV} {v12 : PV} {x13 : Int} {x14 : Int} {e : IExit} {s : St} (h : D_proof_checker_add_b1 pg g0 o0 v1 v12 x13 x14 gh = some (e, s)) : runL pg f_proof_checker_add_b1 ⟨[(0, (.ptr true g0 o0)), (1, v1), (12, v12), (13, (.int .i64 x13)), (14, (.int .i64 x14))], [], gh⟩ = some (e, s) :=
  runX_ok an_proof_checker_add (Eq.trans (by kernel_rfl) h)

noncomputable def D_proof_checker_add_k1 (pg : Prg) (g0 : Nat) (o0 : Nat) (v1 : PV) (gh : List GObj) : Option (IExit × St) := 
  ob (ghCells gh g0) fun cs1 => ob (cs1[(o0 + 0)]?) fun v2 => isC (degr v1) (arK (degr (degr v1)) (lnK 1 (degr (degr v1)) (
  apX 1 24 v2 (.sl false 1 [(degr (degr v1))]) fun l3 => 
  ob (ghCells (List.set gh g0 (.cells (spliceAt cs1 (o0 + 0) [degr1 v2]))) g0) fun cs4 => gb (stOk 1 (o0 + 0) [(.sl true 1 l3)] cs4) (some (.normal, ⟨[], [], (List.set (List.set gh g0 (.cells (spliceAt cs1 (o0 + 0) [degr1 v2]))) g0 (.cells (spliceAt cs4 (o0 + 0) [(.sl true 1 l3)])))⟩)))))

theorem D_proof_checker_add_k1_ok {pg : Prg} {gh : List GObj} {g0 : Nat} {o0 : Nat} {v1 : PV} {e : IExit} {s : St} (h : D_proof_checker_add_k1 pg g0 o0 v1 gh = some (e, s)) : runL pg f_proof_checker_add_k1 ⟨[(0, (.ptr true g0 o0)), (1, v1)], [], gh⟩ = some (e, s) :=
  runX_ok an_proof_checker_add (Eq.trans (by kernel_rfl) h)

noncomputable def D_proof_checker_add_0 (pg : Prg) (g0 : Nat) (o0 : Nat) (v1 : PV) (gh : List GObj) : Option (IExit × St) := isC (degr v1) (arK (degr (degr v1)) (
  callR gh false (callL pg 121 [(degr (degr v1))] gh) fun r1 gh2 => isC r1 (stK 0 r1 (isC (degr r1) (arK (degr (degr r1)) (
  callR gh2 false (callL pg 161 [(degr (degr r1))] gh2) fun r3 gh4 => stK 0 r1 (isC (degr r1) (arK (degr (degr r1)) (
  callR gh4 false (callL pg 162 [(degr (degr r1))] gh4) fun r5 gh6 => isC r5 (stK 0 r5 (isC (degr r5) (lenS (degr (degr r5)) fun n7 => stK 0 r5 (stK 0 (degr r5) (
  kR (runL pg f_proof_checker_add_l1 ⟨[(0, (.ptr true g0 o0)), (1, r5), (12, (degr r5)), (13, (.int .i64 (n7 : Int))), (14, (.int .i64 0))], [], gh6⟩) (fun e s => nx e s (fun e s => some (e, s)) fun s => kR (runL pg f_proof_checker_add_k1 s) (fun e s => some (e, s)))))))))))))))))

theorem D_proof_checker_add_0_ok {pg : Prg} {gh : List GObj} {g0 : Nat} {o0 : Nat} {v1 : PV} {e : IExit} {s : St} (h : D_proof_checker_add_0 pg g0 o0 v1 gh = some (e, s)) : runL pg f_proof_checker_add_0 ⟨[(0, (.ptr true g0 o0)), (1, v1)], [], gh⟩ = some (e, s) :=
  runX_ok an_proof_checker_add (Eq.trans (by kernel_rfl) h)

end Go.Lw
end

/-! What the code of function proof_open comes to, piece by piece. Written by program (dprint.py). -/
section
set_option maxRecDepth 10000
set_option maxHeartbeats 4000000
namespace Go.Lw
open Go

def an_proof_open : Tr := (.node 10 (.ce (.int .i64)) (.node 6 (.ce (.one)) (.node 3 (.ce (.gp)) (.node 0 (.ce (.one)) .nil .nil) (.node 5 (.ce (.one)) .nil .nil)) (.node 8 (.ce (.gp)) (.node 7 (.agg [.any, .any, .any, .any]) .nil .nil) (.node 9 (.ce (.one)) .nil .nil))) (.node 15 (.ce (.gp)) (.node 12 (.ce (.bool)) (.node 11 (.ce (.int .i64)) .nil .nil) (.node 14 (.ce (.one)) .nil .nil)) (.node 18 (.ce (.int .i64)) (.node 16 (.ce (.one)) .nil .nil) (.node 19 (.ce (.gp)) .nil .nil))))

noncomputable def D_proof_open_b1 (pg : Prg) (g3 : Nat) (o3 : Nat) (v9 : PV) (x10 : Int) (x11 : Int) (gh : List GObj) : Option (IExit × St) := 
  br 12 (decide (x11 < x10)) (
  idX 1 none (degr v9) x11 fun p1 => 
  ldX [] gh false 1 (degr p1) fun v2 => isC v2 (stK 0 v2 (stK 0 v9 (isC (degr v2) (arK (degr (degr v2)) (
  callR gh false (callL pg 157 [(.ptr true g3 o3), (degr (degr v2))] gh) fun r3 gh4 => stK 0 v9 (stK 0 v9 (stK 0 v9 (some (.normal, ⟨[(3, (.ptr true g3 o3)), (9, v9), (10, (.int .i64 x10)), (11, (.int .i64 (IntKind.i64.wrap (x11 + 1))))], [], gh4⟩)))))))))) (some ((.exit 0), ⟨[(3, (.ptr true g3 o3)), (9, v9), (10, (.int .i64 x10)), (11, (.int .i64 x11)), (12, (.bool (decide (x11 < x10))))], [], gh⟩))

theorem D_proof_open_b1_ok {pg : Prg} {gh : List GObj} {g3 : Nat} {o3 : Nat} {v9 : PV} {x10 : Int} {x11 : Int} {e : IExit} {s : St} (h : D_proof_open_b1 pg g3 o3 v9 x10 x11 gh = some (e, s)) : runL pg f_proof_open_b1 ⟨[(3, (.ptr true g3 o3)), (9, v9), (10, (.int .i64 x10)), (11, (.int .i64 x11))], [], gh⟩ = some (e, s) :=
  runX_ok an_proof_open (Eq.trans (by kernel_rfl) h)

noncomputable def D_proof_open_k1 (pg : Prg) (g3 : Nat) (o3 : Nat) (gh : List GObj) : Option (IExit × St) := some (.ret, ⟨[(2, (.ptr true g3 o3))], [], gh⟩)

theorem D_proof_open_k1_ok {pg : Prg} {gh : List GObj} {g3 : Nat} {o3 : Nat} {e : IExit} {s : St} (h : D_proof_open_k1 pg g3 o3 gh = some (e, s)) : runL pg f_proof_open_k1 ⟨[(3, (.ptr true g3 o3))], [], gh⟩ = some (e, s) :=
  runX_ok an_proof_open (Eq.trans (by kernel_rfl) h)

noncomputable def D_proof_open_0 (pg : Prg) (v0 : PV) (gh : List GObj) : Option (IExit × St) := stK 0 v0 (stK 0 v0 (isC (degr v0) (lenS (degr (degr v0)) fun n1 => stK 0 (degr v0) (
  kR (runL pg f_proof_open_l1 ⟨[(3, (.ptr true (List.length (gh ++ [.map []])) 0)), (9, (degr v0)), (10, (.int .i64 (n1 : Int))), (11, (.int .i64 0))], [], ((gh ++ [.map []]) ++ [.cells [(.sl true 1 []), (.mp (List.length gh)), .nilm, .nils]])⟩) (fun e s => nx e s (fun e s => some (e, s)) fun s => kR (runL pg f_proof_open_k1 s) (fun e s => some (e, s)))))))

theorem D_proof_open_0_ok {pg : Prg} {gh : List GObj} {v0 : PV} {e : IExit} {s : St} (h : D_proof_open_0 pg v0 gh = some (e, s)) : runL pg f_proof_open_0 ⟨[(0, v0)], [], gh⟩ = some (e, s) :=
  runX_ok an_proof_open (Eq.trans (by kernel_rfl) h)

end Go.Lw
end

/-! What the code of function ref_Has comes to, piece by piece. Written by program (dprint.py). -/
section
set_option maxRecDepth 10000
set_option maxHeartbeats 4000000
namespace Go.Lw
open Go

def an_ref_Has : Tr := (.node 9 (.ce (.bool)) (.node 5 (.ce (.int .i64)) (.node 1 (.ce (.int .i64)) (.node 0 (.ce (.one)) .nil .nil) (.node 4 (.ce (.bool)) .nil .nil)) (.node 7 (.ce (.one)) (.node 6 (.ce (.int .i64)) .nil .nil) (.node 8 (.ce (.int .i64)) .nil .nil))) (.node 13 (.ce (.int .i64)) (.node 11 (.ce (.int .i64)) (.node 10 (.ce (.int .i64)) .nil .nil) (.node 12 (.ce (.one)) .nil .nil)) (.node 16 (.ce (.int .i64)) (.node 15 (.ce (.int .i64)) .nil .nil) (.node 17 (.ce (.bool)) .nil .nil))))

noncomputable def D_ref_Has_b1 (pg : Prg) (v0 : PV) (x1 : Int) (x5 : Int) (gh : List GObj) : Option (IExit × St) := isC (degr v0) (lenS (degr (degr v0)) fun n1 => stK 0 v0 (
  br 9 (decide (x5 < (n1 : Int))) (isC (degr v0) (
  idX 1 none (degr (degr v0)) x5 fun p2 => 
  ldX [] gh false 1 (degr p2) fun v3 => unI .i64 v3 fun n4 => stK 0 v0 (
  br 17 (n4 == x1) (some (.ret, ⟨[(4, (.bool true))], [], gh⟩)) (stK 0 v0 (stK 0 v0 (some (.normal, ⟨[(0, v0), (1, (.int .i64 x1)), (5, (.int .i64 (IntKind.i64.wrap (x5 + 1))))], [], gh⟩))))))) (some ((.exit 0), ⟨[(0, v0), (1, (.int .i64 x1)), (5, (.int .i64 x5)), (9, (.bool (decide (x5 < (n1 : Int)))))], [], gh⟩))))

theorem D_ref_Has_b1_ok {pg : Prg} {gh : List GObj} {v0 : PV} {x1 : Int} {x5 : Int} {e : IExit} {s : St} (h : D_ref_Has_b1 pg v0 x1 x5 gh = some (e, s)) : runL pg f_ref_Has_b1 ⟨[(0, v0), (1, (.int .i64 x1)), (5, (.int .i64 x5))], [], gh⟩ = some (e, s) :=
  runX_ok an_ref_Has (Eq.trans (by kernel_rfl) h)

noncomputable def D_ref_Has_k1 (pg : Prg)  (gh : List GObj) : Option (IExit × St) := some (.ret, ⟨[(4, (.bool false))], [], gh⟩)

theorem D_ref_Has_k1_ok {pg : Prg} {gh : List GObj}  {e : IExit} {s : St} (h : D_ref_Has_k1 pg  gh = some (e, s)) : runL pg f_ref_Has_k1 ⟨[], [], gh⟩ = some (e, s) :=
  runX_ok an_ref_Has (Eq.trans (by kernel_rfl) h)

noncomputable def D_ref_Has_0 (pg : Prg) (v0 : PV) (x1 : Int) (gh : List GObj) : Option (IExit × St) := stK 0 v0 (stK 0 v0 (
  kR (runL pg f_ref_Has_l1 ⟨[(0, v0), (1, (.int .i64 x1)), (5, (.int .i64 0))], [], gh⟩) (fun e s => nx e s (fun e s => some (e, s)) fun s => kR (runL pg f_ref_Has_k1 s) (fun e s => some (e, s)))))

theorem D_ref_Has_0_ok {pg : Prg} {gh : List GObj} {v0 : PV} {x1 : Int} {e : IExit} {s : St} (h : D_ref_Has_0 pg v0 x1 gh = some (e, s)) : runL pg f_ref_Has_0 ⟨[(0, v0), (1, (.int .i64 x1))], [], gh⟩ = some (e, s) :=
  runX_ok an_ref_Has (Eq.trans (by kernel_rfl) h)

end Go.Lw
end

/-! What the code of function ref_FollowsOf comes to, piece by piece. Written by program (dprint.py). -/
section
set_option maxRecDepth 10000
set_option maxHeartbeats 4000000
namespace Go.Lw
open Go

def an_ref_FollowsOf : Tr := (.node 45 (.ce (.one)) (.node 22 (.ce (.int .i64)) (.node 12 (.ce (.int .i64)) (.node 7 (.ce (.bool)) (.node 4 (.ce (.bool)) (.node 1 (.ce (.one)) (.node 0 (.ce (.one)) .nil .nil) .nil) (.node 6 (.ce (.int .i64)) (.node 5 (.ce (.one)) .nil .nil) .nil)) (.node 10 (.ce (.int .i64)) (.node 9 (.ce (.int .i64)) (.node 8 (.ce (.int .i64)) .nil .nil) .nil) (.node 11 (.ce (.bool)) .nil .nil))) (.node 17 (.ce (.bool)) (.node 15 (.ce (.one)) (.node 14 (.ce (.int .i64)) (.node 13 (.ce (.int .i64)) .nil .nil) .nil) (.node 16 (.ce (.int .i64)) .nil .nil)) (.node 20 (.ce (.one)) (.node 19 (.ce (.int .i64)) (.node 18 (.ce (.int .i64)) .nil .nil) .nil) (.node 21 (.ce (.one)) .nil .nil)))) (.node 34 (.ce (.bool)) (.node 28 (.ce (.int .i64)) (.node 26 (.ce (.one)) (.node 25 (.ce (.bool)) (.node 24 (.ce (.int .i64)) .nil .nil) .nil) (.node 27 (.ce (.one)) .nil .nil)) (.node 32 (.ce (.one)) (.node 31 (.ce (.int .i64)) (.node 30 (.ce (.int .i64)) .nil .nil) .nil) (.node 33 (.ce (.one)) .nil .nil))) (.node 39 (.ce (.int .i64)) (.node 37 (.ce (.int .i64)) (.node 36 (.ce (.one)) (.node 35 (.ce (.int .i64)) .nil .nil) .nil) (.node 38 (.ce (.bool)) .nil .nil)) (.node 42 (.ce (.one)) (.node 41 (.ce (.int .i64)) (.node 40 (.ce (.int .i64)) .nil .nil) .nil) (.node 43 (.ce (.int .i64)) .nil .nil))))) (.node 68 (.ce (.bool)) (.node 58 (.ce (.int .i64)) (.node 51 (.ce (.int .i64)) (.node 48 (.ce (.int .i64)) (.node 47 (.ce (.bool)) (.node 46 (.ce (.int .i64)) .nil .nil) .nil) (.node 50 (.ce (.one)) (.node 49 (.ce (.int .i64)) .nil .nil) .nil)) (.node 56 (.ce (.int .i64)) (.node 54 (.ce (.int .i64)) (.node 53 (.ce (.one)) .nil .nil) .nil) (.node 57 (.ce (.one)) .nil .nil))) (.node 63 (.ce (.bool)) (.node 61 (.ce (.int .i64)) (.node 60 (.ce (.one)) (.node 59 (.ce (.bool)) .nil .nil) .nil) (.node 62 (.ce (.bool)) .nil .nil)) (.node 66 (.ce (.int .i64)) (.node 65 (.ce (.one)) (.node 64 (.ce (.bool)) .nil .nil) .nil) (.node 67 (.ce (.int .i64)) .nil .nil)))) (.node 78 (.ce (.int .i64)) (.node 73 (.ce (.int .i64)) (.node 71 (.ce (.bool)) (.node 70 (.ce (.bool)) (.node 69 (.ce (.bool)) .nil .nil) .nil) (.node 72 (.ce (.int .i64)) .nil .nil)) (.node 76 (.ce (.int .i64)) (.node 75 (.ce (.bool)) (.node 74 (.ce (.bool)) .nil .nil) .nil) (.node 77 (.ce (.int .i64)) .nil .nil))) (.node 83 (.ce (.bool)) (.node 81 (.ce (.bool)) (.node 80 (.ce (.int .i64)) (.node 79 (.ce (.bool)) .nil .nil) .nil) (.node 82 (.ce (.int .i64)) .nil .nil)) (.node 86 (.ce (.one)) (.node 85 (.ce (.int .i64)) (.node 84 (.ce (.one)) .nil .nil) .nil) (.node 87 (.ce (.one)) .nil .nil))))))

noncomputable def D_ref_FollowsOf_b1 (pg : Prg) (v0 : PV) (v1 : PV) (v5 : PV) (x6 : Int) (gh : List GObj) : Option (IExit × St) := isC (degr v1) (lenS (degr (degr v1)) fun n1 => stK 0 v0 (stK 0 v1 (stK 0 v5 (
  br 17 (decide (x6 < (n1 : Int))) (isC (degr v5) (isC (degr v1) (
  idX 1 none (degr (degr v1)) x6 fun p2 => 
  ldX [] gh false 1 (degr p2) fun v3 => unI .i64 v3 fun n4 => arK (degr (degr v5)) (
  callR gh true (callL pg 45 [(degr (degr v5)), (.int .i64 n4)] gh) fun r5 gh6 => unB r5 fun b7 => stK 0 v0 (stK 0 v1 (stK 0 v5 (
  br 25 b7 (some (.ret, ⟨[(4, (.bool true))], [], gh6⟩)) (isC (degr v1) (
  idX 1 none (degr (degr v1)) x6 fun p8 => 
  ldX [] gh6 false 1 (degr p8) fun v9 => unI .i64 v9 fun n10 => 
  apX 1 8 v5 (.sl false 1 [(.int .i64 (IntKind.i64.wrap (0 - n10)))]) fun l11 => stK 0 v0 (stK 0 v1 (stK 0 v0 (stK 0 v1 (stK 0 v0 (stK 0 v1 (some (.normal, ⟨[(0, v0), (1, v1), (5, (.sl true 1 l11)), (6, (.int .i64 (IntKind.i64.wrap (x6 + 1))))], [], gh6⟩)))))))))))))))) (some ((.exit 0), ⟨[(0, v0), (1, v1), (5, v5), (6, (.int .i64 x6)), (17, (.bool (decide (x6 < (n1 : Int)))))], [], gh⟩))))))

theorem D_ref_FollowsOf_b1_ok {pg : Prg} {gh : List GObj} {v0 : PV} {v1 : PV} {v5 : PV} {x6 : Int} {e : IExit} {s : St} (h : D_ref_FollowsOf_b1 pg v0 v1 v5 x6 gh = some (e, s)) : runL pg f_ref_FollowsOf_b1 ⟨[(0, v0), (1, v1), (5, v5), (6, (.int .i64 x6))], [], gh⟩ = some (e, s) :=
  runX_ok an_ref_FollowsOf (Eq.trans (by kernel_rfl) h)

noncomputable def D_ref_FollowsOf_k2 (pg : Prg) (v0 : PV) (v5 : PV) (b7 : Bool) (x8 : Int) (x9 : Int) (x10 : Int) (b11 : Bool) (x12 : Int) (x13 : Int) (gh : List GObj) : Option (IExit × St) := isC (degr v5) (arK (degr (degr v5)) (
  callR gh true (callL pg 45 [(degr (degr v5)), (.int .i64 x13)] gh) fun r1 gh2 => unB r1 fun b3 => 
  br 64 (!b3) (isC (degr v5) (arK (degr (degr v5)) (
  callR gh2 true (callL pg 45 [(degr (degr v5)), (.int .i64 (IntKind.i64.wrap (0 - x13)))] gh2) fun r4 gh5 => unB r4 fun b6 => 
  br 71 (!b6) (stK 0 v0 (stK 0 v5 (
  br 75 (x13 != x9) (stK 0 v0 (stK 0 v5 (stK 0 v0 (stK 0 v5 (stK 0 v0 (stK 0 v5 (some (.normal, ⟨[(0, v0), (5, v5), (7, (.bool b7)), (8, (.int .i64 x8)), (9, (.int .i64 x13)), (10, (.int .i64 (IntKind.i64.wrap (x10 + 1)))), (11, (.bool b11)), (12, (.int .i64 x12))], [], gh5⟩)))))))) (stK 0 v0 (stK 0 v5 (some (.normal, ⟨[(0, v0), (5, v5), (7, (.bool b7)), (8, (.int .i64 x8)), (9, (.int .i64 x9)), (10, (.int .i64 x10)), (11, (.bool b11)), (12, (.int .i64 x12))], [], gh5⟩))))))) (stK 0 v0 (stK 0 v5 (stK 0 v0 (stK 0 v5 (some (.normal, ⟨[(0, v0), (5, v5), (7, (.bool b7)), (8, (.int .i64 x8)), (9, (.int .i64 x9)), (10, (.int .i64 x10)), (11, (.bool b11)), (12, (.int .i64 x12))], [], gh5⟩))))))))) (stK 0 v0 (stK 0 v5 (stK 0 v0 (stK 0 v5 (some (.normal, ⟨[(0, v0), (5, v5), (7, (.bool b7)), (8, (.int .i64 x8)), (9, (.int .i64 x9)), (10, (.int .i64 x10)), (11, (.bool b11)), (12, (.int .i64 x12))], [], gh2⟩))))))))

theorem D_ref_FollowsOf_k2_ok {pg : Prg} {gh : List GObj} {v0 : PV} {v5 : PV} {b7 : Bool} {x8 : Int} {x9 : Int} {x10 : Int} {b11 : Bool} {x12 : Int} {x13 : Int} {e : IExit} {s : St} (h : D_ref_FollowsOf_k2 pg v0 v5 b7 x8 x9 x10 b11 x12 x13 gh = some (e, s)) : runL pg f_ref_FollowsOf_k2 ⟨[(0, v0), (5, v5), (7, (.bool b7)), (8, (.int .i64 x8)), (9, (.int .i64 x9)), (10, (.int .i64 x10)), (11, (.bool b11)), (12, (.int .i64 x12)), (13, (.int .i64 x13))], [], gh⟩ = some (e, s) :=
  runX_ok an_ref_FollowsOf (Eq.trans (by kernel_rfl) h)

noncomputable def D_ref_FollowsOf_k3 (pg : Prg) (v0 : PV) (v5 : PV) (b7 : Bool) (x8 : Int) (x9 : Int) (x10 : Int) (b11 : Bool) (x12 : Int) (gh : List GObj) : Option (IExit × St) := stK 0 v0 (stK 0 v5 (some (.normal, ⟨[(0, v0), (5, v5), (7, (.bool b7)), (8, (.int .i64 x8)), (9, (.int .i64 x9)), (10, (.int .i64 x10)), (11, (.bool b11)), (12, (.int .i64 (IntKind.i64.wrap (x12 + 1))))], [], gh⟩)))

theorem D_ref_FollowsOf_k3_ok {pg : Prg} {gh : List GObj} {v0 : PV} {v5 : PV} {b7 : Bool} {x8 : Int} {x9 : Int} {x10 : Int} {b11 : Bool} {x12 : Int} {e : IExit} {s : St} (h : D_ref_FollowsOf_k3 pg v0 v5 b7 x8 x9 x10 b11 x12 gh = some (e, s)) : runL pg f_ref_FollowsOf_k3 ⟨[(0, v0), (5, v5), (7, (.bool b7)), (8, (.int .i64 x8)), (9, (.int .i64 x9)), (10, (.int .i64 x10)), (11, (.bool b11)), (12, (.int .i64 x12))], [], gh⟩ = some (e, s) :=
  runX_ok an_ref_FollowsOf (Eq.trans (by kernel_rfl) h)

noncomputable def D_ref_FollowsOf_b4 (pg : Prg) (v0 : PV) (v5 : PV) (b7 : Bool) (x8 : Int) (x9 : Int) (x10 : Int) (b11 : Bool) (x12 : Int) (gh : List GObj) : Option (IExit × St) := isC (degr v0) (
  idX 1 none (degr (degr v0)) x8 fun p1 => 
  ldX [] gh false 1 (degr p1) fun v2 => isC v2 (lenS (degr v2) fun n3 => stK 0 v0 (stK 0 v5 (
  br 47 (decide (x12 < (n3 : Int))) (isC (degr v0) (
  idX 1 none (degr (degr v0)) x8 fun p4 => 
  ldX [] gh false 1 (degr p4) fun v6 => isC v6 (
  idX 1 none (degr v6) x12 fun p7 => 
  ldX [] gh false 1 (degr p7) fun v8 => unI .i64 v8 fun n9 => stK 0 v0 (stK 0 v5 (isC (degr v5) (arK (degr (degr v5)) (
  callR gh true (callL pg 45 [(degr (degr v5)), (.int .i64 n9)] gh) fun r10 gh11 => unB r10 fun b12 => stK 0 v0 (stK 0 v5 (
  br 59 b12 (stK 0 v0 (stK 0 v5 (stK 0 v0 (stK 0 v5 (
  kR (runL pg f_ref_FollowsOf_k2 ⟨[(0, v0), (5, v5), (7, (.bool b7)), (8, (.int .i64 x8)), (9, (.int .i64 x9)), (10, (.int .i64 x10)), (11, (.bool true)), (12, (.int .i64 x12)), (13, (.int .i64 n9))], [], gh11⟩) (fun e s => bk 7 e s (fun e s => nx e s (fun e s => po [0, 5, 7, 8, 9, 10, 11, 12] 0 e s (fun e s => some (e, s))) fun s => kR (runL pg f_ref_FollowsOf_k3 s) (fun e s => po [0, 5, 7, 8, 9, 10, 11, 12] 0 e s (fun e s => some (e, s)))))))))) (stK 0 v0 (stK 0 v5 (
  kR (runL pg f_ref_FollowsOf_k2 ⟨[(0, v0), (5, v5), (7, (.bool b7)), (8, (.int .i64 x8)), (9, (.int .i64 x9)), (10, (.int .i64 x10)), (11, (.bool b11)), (12, (.int .i64 x12)), (13, (.int .i64 n9))], [], gh11⟩) (fun e s => bk 7 e s (fun e s => nx e s (fun e s => po [0, 5, 7, 8, 9, 10, 11, 12] 0 e s (fun e s => some (e, s))) fun s => kR (runL pg f_ref_FollowsOf_k3 s) (fun e s => po [0, 5, 7, 8, 9, 10, 11, 12] 0 e s (fun e s => some (e, s))))))))))))))))) (some ((.exit 6), ⟨[(0, v0), (5, v5), (7, (.bool b7)), (8, (.int .i64 x8)), (9, (.int .i64 x9)), (10, (.int .i64 x10)), (11, (.bool b11)), (12, (.int .i64 x12)), (47, (.bool (decide (x12 < (n3 : Int)))))], [], gh⟩))))))

theorem D_ref_FollowsOf_b4_ok {pg : Prg} {gh : List GObj} {v0 : PV} {v5 : PV} {b7 : Bool} {x8 : Int} {x9 : Int} {x10 : Int} {b11 : Bool} {x12 : Int} {e : IExit} {s : St} (h : D_ref_FollowsOf_b4 pg v0 v5 b7 x8 x9 x10 b11 x12 gh = some (e, s)) : runL pg f_ref_FollowsOf_b4 ⟨[(0, v0), (5, v5), (7, (.bool b7)), (8, (.int .i64 x8)), (9, (.int .i64 x9)), (10, (.int .i64 x10)), (11, (.bool b11)), (12, (.int .i64 x12))], [], gh⟩ = some (e, s) :=
  runX_ok an_ref_FollowsOf (Eq.trans (by kernel_rfl) h)

noncomputable def D_ref_FollowsOf_k4 (pg : Prg) (v0 : PV) (v5 : PV) (b7 : Bool) (x8 : Int) (x9 : Int) (x10 : Int) (b11 : Bool) (gh : List GObj) : Option (IExit × St) := stK 0 v0 (stK 0 v5 (
  br 79 b11 (some ((.exit 5), ⟨[(0, v0), (5, v5), (7, (.bool b7)), (8, (.int .i64 x8)), (9, (.int .i64 x9)), (10, (.int .i64 x10)), (79, (.bool b11))], [], gh⟩)) (stK 0 v0 (stK 0 v5 (
  br 81 (x10 == 0) (some (.ret, ⟨[(4, (.bool true))], [], gh⟩)) (stK 0 v0 (stK 0 v5 (
  br 83 (x10 == 1) (
  apX 1 8 v5 (.sl false 1 [(.int .i64 x9)]) fun l1 => stK 0 v0 (stK 0 v0 (some (.normal, ⟨[(0, v0), (5, (.sl true 1 l1)), (7, (.bool true)), (8, (.int .i64 x8))], [], gh⟩)))) (stK 0 v0 (stK 0 v5 (some (.normal, ⟨[(0, v0), (5, v5), (7, (.bool b7)), (8, (.int .i64 x8))], [], gh⟩))))))))))))

theorem D_ref_FollowsOf_k4_ok {pg : Prg} {gh : List GObj} {v0 : PV} {v5 : PV} {b7 : Bool} {x8 : Int} {x9 : Int} {x10 : Int} {b11 : Bool} {e : IExit} {s : St} (h : D_ref_FollowsOf_k4 pg v0 v5 b7 x8 x9 x10 b11 gh = some (e, s)) : runL pg f_ref_FollowsOf_k4 ⟨[(0, v0), (5, v5), (7, (.bool b7)), (8, (.int .i64 x8)), (9, (.int .i64 x9)), (10, (.int .i64 x10)), (11, (.bool b11))], [], gh⟩ = some (e, s) :=
  runX_ok an_ref_FollowsOf (Eq.trans (by kernel_rfl) h)

noncomputable def D_ref_FollowsOf_k5 (pg : Prg) (v0 : PV) (v5 : PV) (b7 : Bool) (x8 : Int) (gh : List GObj) : Option (IExit × St) := stK 0 v0 (stK 0 v5 (some (.normal, ⟨[(0, v0), (5, v5), (7, (.bool b7)), (8, (.int .i64 (IntKind.i64.wrap (x8 + 1))))], [], gh⟩)))

theorem D_ref_FollowsOf_k5_ok {pg : Prg} {gh : List GObj} {v0 : PV} {v5 : PV} {b7 : Bool} {x8 : Int} {e : IExit} {s : St} (h : D_ref_FollowsOf_k5 pg v0 v5 b7 x8 gh = some (e, s)) : runL pg f_ref_FollowsOf_k5 ⟨[(0, v0), (5, v5), (7, (.bool b7)), (8, (.int .i64 x8))], [], gh⟩ = some (e, s) :=
  runX_ok an_ref_FollowsOf (Eq.trans (by kernel_rfl) h)

noncomputable def D_ref_FollowsOf_b3 (pg : Prg) (v0 : PV) (v5 : PV) (b7 : Bool) (x8 : Int) (gh : List GObj) : Option (IExit × St) := isC (degr v0) (lenS (degr (degr v0)) fun n1 => stK 0 v0 (stK 0 v5 (
  br 38 (decide (x8 < (n1 : Int))) (stK 0 v0 (stK 0 v5 (stK 0 v0 (stK 0 v5 (
  kR (runL pg f_ref_FollowsOf_l4 ⟨[(0, v0), (5, v5), (7, (.bool b7)), (8, (.int .i64 x8)), (9, (.int .i64 0)), (10, (.int .i64 0)), (11, (.bool false)), (12, (.int .i64 0))], [], gh⟩) (fun e s => nx e s (fun e s => bk 5 e s (fun e s => po [0, 5, 7, 8] 0 e s (fun e s => nx e s (fun e s => po [0, 5, 7, 8] 0 e s (fun e s => some (e, s))) fun s => kR (runL pg f_ref_FollowsOf_k5 s) (fun e s => po [0, 5, 7, 8] 0 e s (fun e s => some (e, s)))))) fun s => kR (runL pg f_ref_FollowsOf_k4 s) (fun e s => bk 5 e s (fun e s => po [0, 5, 7, 8] 0 e s (fun e s => nx e s (fun e s => po [0, 5, 7, 8] 0 e s (fun e s => some (e, s))) fun s => kR (runL pg f_ref_FollowsOf_k5 s) (fun e s => po [0, 5, 7, 8] 0 e s (fun e s => some (e, s)))))))))))) (some ((.exit 4), ⟨[(0, v0), (5, v5), (7, (.bool b7)), (8, (.int .i64 x8)), (38, (.bool (decide (x8 < (n1 : Int)))))], [], gh⟩)))))

theorem D_ref_FollowsOf_b3_ok {pg : Prg} {gh : List GObj} {v0 : PV} {v5 : PV} {b7 : Bool} {x8 : Int} {e : IExit} {s : St} (h : D_ref_FollowsOf_b3 pg v0 v5 b7 x8 gh = some (e, s)) : runL pg f_ref_FollowsOf_b3 ⟨[(0, v0), (5, v5), (7, (.bool b7)), (8, (.int .i64 x8))], [], gh⟩ = some (e, s) :=
  runX_ok an_ref_FollowsOf (Eq.trans (by kernel_rfl) h)

noncomputable def D_ref_FollowsOf_b2 (pg : Prg) (v0 : PV) (v5 : PV) (b7 : Bool) (gh : List GObj) : Option (IExit × St) := stK 0 v0 (stK 0 v5 (
  br 34 b7 (stK 0 v0 (stK 0 v5 (stK 0 v0 (stK 0 v5 (
  kR (runL pg f_ref_FollowsOf_l3 ⟨[(0, v0), (5, v5), (7, (.bool false)), (8, (.int .i64 0))], [], gh⟩) (fun e s => bk 3 e s (fun e s => po [0, 5, 7] 0 e s (fun e s => some (e, s))))))))) (some ((.exit 2), ⟨[(0, v0), (5, v5), (34, (.bool b7))], [], gh⟩))))

theorem D_ref_FollowsOf_b2_ok {pg : Prg} {gh : List GObj} {v0 : PV} {v5 : PV} {b7 : Bool} {e : IExit} {s : St} (h : D_ref_FollowsOf_b2 pg v0 v5 b7 gh = some (e, s)) : runL pg f_ref_FollowsOf_b2 ⟨[(0, v0), (5, v5), (7, (.bool b7))], [], gh⟩ = some (e, s) :=
  runX_ok an_ref_FollowsOf (Eq.trans (by kernel_rfl) h)

noncomputable def D_ref_FollowsOf_k6 (pg : Prg)  (gh : List GObj) : Option (IExit × St) := some (.ret, ⟨[(4, (.bool false))], [], gh⟩)

theorem D_ref_FollowsOf_k6_ok {pg : Prg} {gh : List GObj}  {e : IExit} {s : St} (h : D_ref_FollowsOf_k6 pg  gh = some (e, s)) : runL pg f_ref_FollowsOf_k6 ⟨[], [], gh⟩ = some (e, s) :=
  runX_ok an_ref_FollowsOf (Eq.trans (by kernel_rfl) h)

noncomputable def D_ref_FollowsOf_k1 (pg : Prg) (v0 : PV) (v5 : PV) (gh : List GObj) : Option (IExit × St) := stK 0 v0 (stK 0 v5 (
  kR (runL pg f_ref_FollowsOf_l2 ⟨[(0, v0), (5, v5), (7, (.bool true))], [], gh⟩) (fun e s => nx e s (fun e s => some (e, s)) fun s => kR (runL pg f_ref_FollowsOf_k6 s) (fun e s => some (e, s)))))

theorem D_ref_FollowsOf_k1_ok {pg : Prg} {gh : List GObj} {v0 : PV} {v5 : PV} {e : IExit} {s : St} (h : D_ref_FollowsOf_k1 pg v0 v5 gh = some (e, s)) : runL pg f_ref_FollowsOf_k1 ⟨[(0, v0), (5, v5)], [], gh⟩ = some (e, s) :=
  runX_ok an_ref_FollowsOf (Eq.trans (by kernel_rfl) h)

noncomputable def D_ref_FollowsOf_0 (pg : Prg) (v0 : PV) (v1 : PV) (gh : List GObj) : Option (IExit × St) := stK 0 v0 (stK 0 v1 (stK 0 v0 (stK 0 v1 (
  kR (runL pg f_ref_FollowsOf_l1 ⟨[(0, v0), (1, v1), (5, (.sl true 1 [])), (6, (.int .i64 0))], [], gh⟩) (fun e s => nx e s (fun e s => some (e, s)) fun s => kR (runL pg f_ref_FollowsOf_k1 s) (fun e s => some (e, s)))))))

theorem D_ref_FollowsOf_0_ok {pg : Prg} {gh : List GObj} {v0 : PV} {v1 : PV} {e : IExit} {s : St} (h : D_ref_FollowsOf_0 pg v0 v1 gh = some (e, s)) : runL pg f_ref_FollowsOf_0 ⟨[(0, v0), (1, v1)], [], gh⟩ = some (e, s) :=
  runX_ok an_ref_FollowsOf (Eq.trans (by kernel_rfl) h)

end Go.Lw
end

/-! What the code of function slices_ContainsFunc_Lint_int comes to, piece by piece. Written by program (dprint.py). -/
section
set_option maxRecDepth 10000
set_option maxHeartbeats 4000000
namespace Go.Lw
open Go

def an_slices_ContainsFunc_Lint_int : Tr := (.node 5 (.ce (.one)) (.node 1 (.ce (.one)) (.node 0 (.ce (.one)) .nil .nil) (.node 4 (.ce (.bool)) .nil .nil)) (.node 7 (.ce (.int .i64)) (.node 6 (.ce (.one)) .nil .nil) (.node 8 (.ce (.bool)) .nil .nil)))

noncomputable def D_slices_ContainsFunc_Lint_int_0 (pg : Prg) (v0 : PV) (v1 : PV) (gh : List GObj) : Option (IExit × St) := stK 0 v0 (stK 0 v1 (isC (degr v0) (isC (degr v1) (arK (degr (degr v0)) (arK (degr (degr v1)) (
  callR gh true (callL pg 111 [(degr (degr v0)), (degr (degr v1))] gh) fun r1 gh2 => unI .i64 r1 fun n3 => some (.ret, ⟨[(4, (.bool (decide (0 ≤ n3))))], [], gh2⟩)))))))

theorem D_slices_ContainsFunc_Lint_int_0_ok {pg : Prg} {gh : List GObj} {v0 : PV} {v1 : PV} {e : IExit} {s : St} (h : D_slices_ContainsFunc_Lint_int_0 pg v0 v1 gh = some (e, s)) : runL pg f_slices_ContainsFunc_Lint_int_0 ⟨[(0, v0), (1, v1)], [], gh⟩ = some (e, s) :=
  runX_ok an_slices_ContainsFunc_Lint_int (Eq.trans (by kernel_rfl) h)

end Go.Lw
end

/-! What the code of function slices_IndexFunc_Lint_int comes to, piece by piece. Written by program (dprint.py). -/
section
set_option maxRecDepth 10000
set_option maxHeartbeats 4000000
namespace Go.Lw
open Go

def an_slices_IndexFunc_Lint_int : Tr := (.node 10 (.ce (.int .i64)) (.node 6 (.ce (.one)) (.node 4 (.ce (.int .i64)) (.node 1 (.ce (.one)) (.node 0 (.ce (.one)) .nil .nil) .nil) (.node 5 (.ce (.int .i64)) .nil .nil)) (.node 8 (.ce (.int .i64)) (.node 7 (.ce (.int .i64)) .nil .nil) (.node 9 (.ce (.bool)) .nil .nil))) (.node 15 (.ce (.int .i64)) (.node 12 (.ce (.one)) (.node 11 (.ce (.one)) .nil .nil) (.node 13 (.ce (.int .i64)) .nil .nil)) (.node 17 (.ce (.int .i64)) (.node 16 (.ce (.bool)) .nil .nil) (.node 18 (.ce (.int .i64)) .nil .nil))))

noncomputable def D_slices_IndexFunc_Lint_int_b1 (pg : Prg) (v0 : PV) (v1 : PV) (x7 : Int) (x8 : Int) (gh : List GObj) : Option (IExit × St) := 
  br 9 (decide (x8 < x7)) (stK 0 v0 (stK 0 v1 (isC (degr v1) (isC (degr v0) (
  idX 1 none (degr (degr v0)) x8 fun p1 => 
  ldX [] gh false 1 (degr p1) fun v2 => unI .i64 v2 fun n3 => 
  fnX (degr (degr v1)) fun f6 cs7 => allK cs7 (callR gh true (callL pg f6 ([(.int .i64 n3)] ++ cs7) gh) fun r4 gh5 => unB r4 fun b8 => stK 0 v0 (stK 0 v1 (
  br 16 b8 (some (.ret, ⟨[(4, (.int .i64 x8))], [], gh5⟩)) (stK 0 v0 (stK 0 v1 (stK 0 v0 (stK 0 v1 (some (.normal, ⟨[(0, v0), (1, v1), (7, (.int .i64 x7)), (8, (.int .i64 (IntKind.i64.wrap (x8 + 1))))], [], gh5⟩)))))))))))))) (some ((.exit 0), ⟨[(0, v0), (1, v1), (7, (.int .i64 x7)), (8, (.int .i64 x8)), (9, (.bool (decide (x8 < x7))))], [], gh⟩))

theorem D_slices_IndexFunc_Lint_int_b1_ok {pg : Prg} {gh : List GObj} {v0 : PV} {v1 : PV} {x7 : Int} {x8 : Int} {e : IExit} {s : St} (h : D_slices_IndexFunc_Lint_int_b1 pg v0 v1 x7 x8 gh = some (e, s)) : runL pg f_slices_IndexFunc_Lint_int_b1 ⟨[(0, v0), (1, v1), (7, (.int .i64 x7)), (8, (.int .i64 x8))], [], gh⟩ = some (e, s) :=
  runX_ok an_slices_IndexFunc_Lint_int (Eq.trans (by kernel_rfl) h)

noncomputable def D_slices_IndexFunc_Lint_int_k1 (pg : Prg)  (gh : List GObj) : Option (IExit × St) := some (.ret, ⟨[(4, (.int .i64 (-1)))], [], gh⟩)

theorem D_slices_IndexFunc_Lint_int_k1_ok {pg : Prg} {gh : List GObj}  {e : IExit} {s : St} (h : D_slices_IndexFunc_Lint_int_k1 pg  gh = some (e, s)) : runL pg f_slices_IndexFunc_Lint_int_k1 ⟨[], [], gh⟩ = some (e, s) :=
  runX_ok an_slices_IndexFunc_Lint_int (Eq.trans (by kernel_rfl) h)

noncomputable def D_slices_IndexFunc_Lint_int_0 (pg : Prg) (v0 : PV) (v1 : PV) (gh : List GObj) : Option (IExit × St) := stK 0 v0 (stK 0 v1 (isC (degr v0) (lenS (degr (degr v0)) fun n1 => stK 0 v0 (stK 0 v1 (
  kR (runL pg f_slices_IndexFunc_Lint_int_l1 ⟨[(0, v0), (1, v1), (7, (.int .i64 (n1 : Int))), (8, (.int .i64 0))], [], gh⟩) (fun e s => nx e s (fun e s => some (e, s)) fun s => kR (runL pg f_slices_IndexFunc_Lint_int_k1 s) (fun e s => some (e, s))))))))

theorem D_slices_IndexFunc_Lint_int_0_ok {pg : Prg} {gh : List GObj} {v0 : PV} {v1 : PV} {e : IExit} {s : St} (h : D_slices_IndexFunc_Lint_int_0 pg v0 v1 gh = some (e, s)) : runL pg f_slices_IndexFunc_Lint_int_0 ⟨[(0, v0), (1, v1)], [], gh⟩ = some (e, s) :=
  runX_ok an_slices_IndexFunc_Lint_int (Eq.trans (by kernel_rfl) h)

end Go.Lw
end

/-! What the code of function cnf_one comes to, piece by piece. Written by program (dprint.py). -/
section
set_option maxRecDepth 10000
set_option maxHeartbeats 4000000
namespace Go.Lw
open Go

def an_cnf_one : Tr := (.node 6 (.ce (.int .i64)) (.node 2 (.ce (.gp)) (.node 1 (.ce (.one)) (.node 0 (.ce (.int .i64)) .nil .nil) .nil) (.node 5 (.ce (.one)) (.node 4 (.ce (.int .i64)) .nil .nil) .nil)) (.node 9 (.ce (.one)) (.node 8 (.ce (.one)) (.node 7 (.ce (.bool)) .nil .nil) .nil) (.node 10 (.ce (.bool)) .nil .nil)))

noncomputable def D_cnf_one_0 (pg : Prg) (x0 : Int) (v1 : PV) (gh : List GObj) : Option (IExit × St) := stK 0 v1 (isC (degr v1) (lenS (degr (degr v1)) fun n1 => stK 0 v1 (
  br 7 (decide (200 < (n1 : Int))) (some (.ret, ⟨[(4, (.int .i64 2))], [], (gh ++ [.cells [(.int .i64 x0)]])⟩)) (isC (degr v1) (arK (degr (degr v1)) (
  callR (gh ++ [.cells [(.int .i64 x0)]]) true (callL pg 86 [(degr (degr v1)), (.fn 113 [(.ptr true (List.length gh) 0)])] (gh ++ [.cells [(.int .i64 x0)]])) fun r2 gh3 => unB r2 fun b4 => 
  br 10 b4 (some (.ret, ⟨[(4, (.int .i64 5))], [], gh3⟩)) (some (.ret, ⟨[(4, (.int .i64 0))], [], gh3⟩))))))))

theorem D_cnf_one_0_ok {pg : Prg} {gh : List GObj} {x0 : Int} {v1 : PV} {e : IExit} {s : St} (h : D_cnf_one_0 pg x0 v1 gh = some (e, s)) : runL pg f_cnf_one_0 ⟨[(0, (.int .i64 x0)), (1, v1)], [], gh⟩ = some (e, s) :=
  runX_ok an_cnf_one (Eq.trans (by kernel_rfl) h)

end Go.Lw
end

/-! What the code of function cnf_one_1 comes to, piece by piece. Written by program (dprint.py). -/
section
set_option maxRecDepth 10000
set_option maxHeartbeats 4000000
namespace Go.Lw
open Go

def an_cnf_one_1 : Tr := (.node 9 (.ce (.bool)) (.node 5 (.ce (.bool)) (.node 3 (.ce (.bool)) (.node 1 (.ce (.gp)) (.node 0 (.ce (.int .i64)) .nil .nil) .nil) (.node 4 (.ce (.int .i64)) .nil .nil)) (.node 7 (.ce (.int .i64)) (.node 6 (.ce (.bool)) .nil .nil) (.node 8 (.ce (.int .i64)) .nil .nil))) (.node 13 (.ce (.int .i64)) (.node 11 (.ce (.bool)) (.node 10 (.ce (.bool)) .nil .nil) (.node 12 (.ce (.int .i64)) .nil .nil)) (.node 15 (.ce (.bool)) (.node 14 (.ce (.int .i64)) .nil .nil) (.node 16 (.ce (.bool)) .nil .nil))))

noncomputable def D_cnf_one_1_0 (pg : Prg) (x0 : Int) (g1 : Nat) (o1 : Nat) (gh : List GObj) : Option (IExit × St) := 
  br 6 (x0 == 0) (some (.ret, ⟨[(3, (.bool true))], [], gh⟩)) (
  ob (ghCells gh g1) fun cs1 => 
  ob (grab false 1 o1 cs1) fun v2 => unI .i64 (degr v2) fun n3 => 
  br 11 (decide (n3 < x0)) (some (.ret, ⟨[(3, (.bool true))], [], gh⟩)) (
  ob (ghCells gh g1) fun cs4 => 
  ob (grab false 1 o1 cs4) fun v5 => unI .i64 (degr v5) fun n6 => some (.ret, ⟨[(3, (.bool (decide (x0 < (IntKind.i64.wrap (0 - n6))))))], [], gh⟩)))

theorem D_cnf_one_1_0_ok {pg : Prg} {gh : List GObj} {x0 : Int} {g1 : Nat} {o1 : Nat} {e : IExit} {s : St} (h : D_cnf_one_1_0 pg x0 g1 o1 gh = some (e, s)) : runL pg f_cnf_one_1_0 ⟨[(0, (.int .i64 x0)), (1, (.ptr true g1 o1))], [], gh⟩ = some (e, s) :=
  runX_ok an_cnf_one_1 (Eq.trans (by kernel_rfl) h)

end Go.Lw
end

/-! What the code of function cnf_Check comes to, piece by piece. Written by program (dprint.py). -/
section
set_option maxRecDepth 10000
set_option maxHeartbeats 4000000
namespace Go.Lw
open Go

def an_cnf_Check : Tr := (.node 17 (.ce (.bool)) (.node 9 (.ce (.bool)) (.node 5 (.ce (.int .i64)) (.node 2 (.ce (.int .i64)) (.node 0 (.agg [.int .i64, .any]) .nil .nil) (.node 4 (.ce (.one)) .nil .nil)) (.node 8 (.ce (.bool)) (.node 7 (.ce (.int .i64)) .nil .nil) .nil)) (.node 13 (.ce (.bool)) (.node 12 (.ce (.bool)) (.node 11 (.ce (.int .i64)) .nil .nil) .nil) (.node 16 (.ce (.int .i64)) (.node 15 (.ce (.one)) .nil .nil) .nil))) (.node 27 (.ce (.one)) (.node 22 (.ce (.bool)) (.node 20 (.ce (.int .i64)) (.node 19 (.ce (.one)) .nil .nil) (.node 21 (.ce (.int .i64)) .nil .nil)) (.node 26 (.ce (.int .i64)) (.node 24 (.ce (.one)) .nil .nil) .nil)) (.node 30 (.ce (.bool)) (.node 29 (.ce (.int .i64)) (.node 28 (.ce (.int .i64)) .nil .nil) .nil) (.node 32 (.ce (.int .i64)) (.node 31 (.ce (.int .i64)) .nil .nil) .nil))))

noncomputable def D_cnf_Check_b1 (pg : Prg) (v19 : PV) (x20 : Int) (x21 : Int) (xc0_0 : Int) (vc0_1 : PV) (gh : List GObj) : Option (IExit × St) := 
  br 22 (decide (x21 < x20)) (
  idX 1 none (degr v19) x21 fun p1 => 
  ldX [[(.int .i64 xc0_0), vc0_1]] gh false 1 (degr p1) fun v2 => isC v2 (stK 1 v2 (stK 1 v19 (isC (degr v2) (arK (degr (degr v2)) (
  callR gh true (callL pg 94 [(.int .i64 xc0_0), (degr (degr v2))] gh) fun r3 gh4 => unI .i64 r3 fun n5 => stK 1 v19 (stK 1 v19 (
  br 30 (n5 != 0) (some (.ret, ⟨[(2, (.int .i64 n5))], [], gh4⟩)) (stK 1 v19 (stK 1 v19 (some (.normal, ⟨[(1, (.ptr false 0 0)), (19, v19), (20, (.int .i64 x20)), (21, (.int .i64 (IntKind.i64.wrap (x21 + 1))))], [[(.int .i64 xc0_0), vc0_1]], gh4⟩)))))))))))) (some ((.exit 0), ⟨[(1, (.ptr false 0 0)), (19, v19), (20, (.int .i64 x20)), (21, (.int .i64 x21)), (22, (.bool (decide (x21 < x20))))], [[(.int .i64 xc0_0), vc0_1]], gh⟩))

theorem D_cnf_Check_b1_ok {pg : Prg} {gh : List GObj} {v19 : PV} {x20 : Int} {x21 : Int} {xc0_0 : Int} {vc0_1 : PV} {e : IExit} {s : St} (h : D_cnf_Check_b1 pg v19 x20 x21 xc0_0 vc0_1 gh = some (e, s)) : runL pg f_cnf_Check_b1 ⟨[(1, (.ptr false 0 0)), (19, v19), (20, (.int .i64 x20)), (21, (.int .i64 x21))], [[(.int .i64 xc0_0), vc0_1]], gh⟩ = some (e, s) :=
  runX_ok an_cnf_Check (Eq.trans (by kernel_rfl) h)

noncomputable def D_cnf_Check_k1 (pg : Prg)  (gh : List GObj) : Option (IExit × St) := some (.ret, ⟨[(2, (.int .i64 0))], [], gh⟩)

theorem D_cnf_Check_k1_ok {pg : Prg} {gh : List GObj}  {e : IExit} {s : St} (h : D_cnf_Check_k1 pg  gh = some (e, s)) : runL pg f_cnf_Check_k1 ⟨[], [], gh⟩ = some (e, s) :=
  runX_ok an_cnf_Check (Eq.trans (by kernel_rfl) h)

noncomputable def D_cnf_Check_0 (pg : Prg) (x0_0 : Int) (v0_1 : PV) (gh : List GObj) : Option (IExit × St) := onK (degr1 v0_1) (
  br 9 (decide (x0_0 < 0)) (some (.ret, ⟨[(2, (.int .i64 3))], [], gh⟩)) (
  br 13 (decide (200000 < x0_0)) (some (.ret, ⟨[(2, (.int .i64 3))], [], gh⟩)) (isC (degr (degr1 v0_1)) (lenS (degr (degr (degr1 v0_1))) fun n1 => 
  br 17 (decide (800000 < (n1 : Int))) (some (.ret, ⟨[(2, (.int .i64 2))], [], gh⟩)) (isC (degr (degr1 v0_1)) (lenS (degr (degr (degr1 v0_1))) fun n2 => stK 1 (degr (degr1 v0_1)) (
  kR (runL pg f_cnf_Check_l1 ⟨[(1, (.ptr false 0 0)), (19, (degr (degr1 v0_1))), (20, (.int .i64 (n2 : Int))), (21, (.int .i64 0))], [[(.int .i64 x0_0), (degr1 v0_1)]], gh⟩) (fun e s => nx e s (fun e s => some (e, s)) fun s => kR (runL pg f_cnf_Check_k1 s) (fun e s => some (e, s))))))))))

theorem D_cnf_Check_0_ok {pg : Prg} {gh : List GObj} {x0_0 : Int} {v0_1 : PV} {e : IExit} {s : St} (h : D_cnf_Check_0 pg x0_0 v0_1 gh = some (e, s)) : runL pg f_cnf_Check_0 ⟨[(0, (.agg [(.int .i64 x0_0), v0_1]))], [], gh⟩ = some (e, s) :=
  runX_ok an_cnf_Check (Eq.trans (by kernel_rfl) h)

end Go.Lw
end

/-! What the code of function ref_between comes to, piece by piece. Written by program (dprint.py). -/
section
set_option maxRecDepth 10000
set_option maxHeartbeats 4000000
namespace Go.Lw
open Go

def an_ref_between : Tr := (.node 9 (.ce (.bool)) (.node 6 (.ce (.bool)) (.node 1 (.ce (.int .i64)) (.node 0 (.ce (.int .i64)) .nil .nil) (.node 2 (.ce (.int .i64)) .nil .nil)) (.node 8 (.ce (.int .i64)) (.node 7 (.ce (.int .i64)) .nil .nil) .nil)) (.node 12 (.ce (.int .i64)) (.node 11 (.ce (.int .i64)) (.node 10 (.ce (.bool)) .nil .nil) .nil) (.node 14 (.ce (.bool)) (.node 13 (.ce (.bool)) .nil .nil) .nil)))

noncomputable def D_ref_between_0 (pg : Prg) (x0 : Int) (x1 : Int) (x2 : Int) (gh : List GObj) : Option (IExit × St) := 
  br 10 (decide (x1 ≤ x0)) (some (.ret, ⟨[(6, (.bool (decide (x0 ≤ x2))))], [], gh⟩)) (some (.ret, ⟨[(6, (.bool false))], [], gh⟩))

theorem D_ref_between_0_ok {pg : Prg} {gh : List GObj} {x0 : Int} {x1 : Int} {x2 : Int} {e : IExit} {s : St} (h : D_ref_between_0 pg x0 x1 x2 gh = some (e, s)) : runL pg f_ref_between_0 ⟨[(0, (.int .i64 x0)), (1, (.int .i64 x1)), (2, (.int .i64 x2))], [], gh⟩ = some (e, s) :=
  runX_ok an_ref_between (Eq.trans (by kernel_rfl) h)

end Go.Lw
end

/-! What the code of function ref_CheckClause comes to, piece by piece. Written by program (dprint.py). -/
section
set_option maxRecDepth 10000
set_option maxHeartbeats 4000000
namespace Go.Lw
open Go

def an_ref_CheckClause : Tr := (.node 19 (.ce (.bool)) (.node 10 (.ce (.one)) (.node 6 (.ce (.one)) (.node 4 (.ce (.int .i64)) (.node 1 (.ce (.one)) (.node 0 (.ce (.int .i64)) .nil .nil) .nil) (.node 5 (.ce (.int .i64)) .nil .nil)) (.node 8 (.ce (.bool)) (.node 7 (.ce (.int .i64)) .nil .nil) (.node 9 (.ce (.int .i64)) .nil .nil))) (.node 14 (.ce (.int .i64)) (.node 12 (.ce (.bool)) (.node 11 (.ce (.int .i64)) .nil .nil) (.node 13 (.ce (.int .i64)) .nil .nil)) (.node 16 (.ce (.int .i64)) (.node 15 (.ce (.one)) .nil .nil) (.node 18 (.ce (.int .i64)) .nil .nil)))) (.node 28 (.ce (.bool)) (.node 24 (.ce (.int .i64)) (.node 21 (.ce (.one)) (.node 20 (.ce (.bool)) .nil .nil) (.node 22 (.ce (.int .i64)) .nil .nil)) (.node 26 (.ce (.bool)) (.node 25 (.ce (.int .i64)) .nil .nil) (.node 27 (.ce (.bool)) .nil .nil))) (.node 33 (.ce (.int .i64)) (.node 30 (.ce (.int .i64)) (.node 29 (.ce (.one)) .nil .nil) (.node 32 (.ce (.int .i64)) .nil .nil)) (.node 35 (.ce (.bool)) (.node 34 (.ce (.int .i64)) .nil .nil) (.node 36 (.ce (.bool)) .nil .nil)))))

noncomputable def D_ref_CheckClause_b1 (pg : Prg) (x0 : Int) (v1 : PV) (x5 : Int) (gh : List GObj) : Option (IExit × St) := isC (degr v1) (lenS (degr (degr v1)) fun n1 => stK 0 v1 (
  br 12 (decide (x5 < (n1 : Int))) (isC (degr v1) (
  idX 1 none (degr (degr v1)) x5 fun p2 => 
  ldX [] gh false 1 (degr p2) fun v3 => unI .i64 v3 fun n4 => 
  br 20 (n4 == 0) (stK 0 v1 (some (.ret, ⟨[(4, (.int .i64 5))], [], gh⟩))) (isC (degr v1) (
  idX 1 none (degr (degr v1)) x5 fun p5 => 
  ldX [] gh false 1 (degr p5) fun v6 => unI .i64 v6 fun n7 => 
  br 28 (decide (x0 < n7)) (stK 0 v1 (some (.ret, ⟨[(4, (.int .i64 5))], [], gh⟩))) (isC (degr v1) (
  idX 1 none (degr (degr v1)) x5 fun p8 => 
  ldX [] gh false 1 (degr p8) fun v9 => unI .i64 v9 fun n10 => stK 0 v1 (
  br 36 (decide (n10 < (IntKind.i64.wrap (0 - x0)))) (some (.ret, ⟨[(4, (.int .i64 5))], [], gh⟩)) (stK 0 v1 (stK 0 v1 (some (.normal, ⟨[(0, (.int .i64 x0)), (1, v1), (5, (.int .i64 (IntKind.i64.wrap (x5 + 1))))], [], gh⟩))))))))))) (some ((.exit 0), ⟨[(0, (.int .i64 x0)), (1, v1), (5, (.int .i64 x5)), (12, (.bool (decide (x5 < (n1 : Int)))))], [], gh⟩))))

theorem D_ref_CheckClause_b1_ok {pg : Prg} {gh : List GObj} {x0 : Int} {v1 : PV} {x5 : Int} {e : IExit} {s : St} (h : D_ref_CheckClause_b1 pg x0 v1 x5 gh = some (e, s)) : runL pg f_ref_CheckClause_b1 ⟨[(0, (.int .i64 x0)), (1, v1), (5, (.int .i64 x5))], [], gh⟩ = some (e, s) :=
  runX_ok an_ref_CheckClause (Eq.trans (by kernel_rfl) h)

noncomputable def D_ref_CheckClause_k1 (pg : Prg)  (gh : List GObj) : Option (IExit × St) := some (.ret, ⟨[(4, (.int .i64 0))], [], gh⟩)

theorem D_ref_CheckClause_k1_ok {pg : Prg} {gh : List GObj}  {e : IExit} {s : St} (h : D_ref_CheckClause_k1 pg  gh = some (e, s)) : runL pg f_ref_CheckClause_k1 ⟨[], [], gh⟩ = some (e, s) :=
  runX_ok an_ref_CheckClause (Eq.trans (by kernel_rfl) h)

noncomputable def D_ref_CheckClause_0 (pg : Prg) (x0 : Int) (v1 : PV) (gh : List GObj) : Option (IExit × St) := stK 0 v1 (isC (degr v1) (lenS (degr (degr v1)) fun n1 => stK 0 v1 (
  br 8 (decide (200 < (n1 : Int))) (some (.ret, ⟨[(4, (.int .i64 2))], [], gh⟩)) (stK 0 v1 (
  kR (runL pg f_ref_CheckClause_l1 ⟨[(0, (.int .i64 x0)), (1, v1), (5, (.int .i64 0))], [], gh⟩) (fun e s => nx e s (fun e s => some (e, s)) fun s => kR (runL pg f_ref_CheckClause_k1 s) (fun e s => some (e, s))))))))

theorem D_ref_CheckClause_0_ok {pg : Prg} {gh : List GObj} {x0 : Int} {v1 : PV} {e : IExit} {s : St} (h : D_ref_CheckClause_0 pg x0 v1 gh = some (e, s)) : runL pg f_ref_CheckClause_0 ⟨[(0, (.int .i64 x0)), (1, v1)], [], gh⟩ = some (e, s) :=
  runX_ok an_ref_CheckClause (Eq.trans (by kernel_rfl) h)

end Go.Lw
end

/-! What the code of function ref_CheckClauses comes to, piece by piece. Written by program (dprint.py). -/
section
set_option maxRecDepth 10000
set_option maxHeartbeats 4000000
namespace Go.Lw
open Go

def an_ref_CheckClauses : Tr := (.node 16 (.ce (.int .i64)) (.node 8 (.ce (.bool)) (.node 4 (.ce (.int .i64)) (.node 2 (.ce (.int .i64)) (.node 0 (.agg [.int .i64, .any]) .nil .nil) (.node 3 (.ce (.int .i64)) .nil .nil)) (.node 7 (.ce (.bool)) (.node 6 (.ce (.int .i64)) .nil .nil) .nil)) (.node 12 (.ce (.bool)) (.node 11 (.ce (.int .i64)) (.node 10 (.ce (.one)) .nil .nil) .nil) (.node 15 (.ce (.one)) (.node 13 (.ce (.int .i64)) .nil .nil) .nil))) (.node 24 (.ce (.int .i64)) (.node 19 (.ce (.int .i64)) (.node 18 (.ce (.int .i64)) (.node 17 (.ce (.bool)) .nil .nil) .nil) (.node 23 (.ce (.one)) (.node 21 (.ce (.int .i64)) .nil .nil) .nil)) (.node 28 (.ce (.int .i64)) (.node 27 (.ce (.int .i64)) (.node 26 (.ce (.one)) .nil .nil) .nil) (.node 30 (.ce (.int .i64)) (.node 29 (.ce (.bool)) .nil .nil) .nil))))

noncomputable def D_ref_CheckClauses_b1 (pg : Prg) (x3 : Int) (xc0_0 : Int) (vc0_1 : PV) (gh : List GObj) : Option (IExit × St) := isC (degr vc0_1) (lenS (degr (degr vc0_1)) fun n1 => 
  br 17 (decide (x3 < (n1 : Int))) (isC (degr vc0_1) (
  idX 1 none (degr (degr vc0_1)) x3 fun p2 => 
  ldX [[(.int .i64 xc0_0), vc0_1]] gh false 1 (degr p2) fun v3 => isC v3 (arK (degr v3) (
  callR gh true (callL pg 112 [(.int .i64 xc0_0), (degr v3)] gh) fun r4 gh5 => unI .i64 r4 fun n6 => 
  br 29 (n6 != 0) (some (.ret, ⟨[(2, (.int .i64 n6))], [], gh5⟩)) (some (.normal, ⟨[(1, (.ptr false 0 0)), (3, (.int .i64 (IntKind.i64.wrap (x3 + 1))))], [[(.int .i64 xc0_0), vc0_1]], gh5⟩)))))) (some ((.exit 0), ⟨[(1, (.ptr false 0 0)), (3, (.int .i64 x3)), (17, (.bool (decide (x3 < (n1 : Int)))))], [[(.int .i64 xc0_0), vc0_1]], gh⟩)))

theorem D_ref_CheckClauses_b1_ok {pg : Prg} {gh : List GObj} {x3 : Int} {xc0_0 : Int} {vc0_1 : PV} {e : IExit} {s : St} (h : D_ref_CheckClauses_b1 pg x3 xc0_0 vc0_1 gh = some (e, s)) : runL pg f_ref_CheckClauses_b1 ⟨[(1, (.ptr false 0 0)), (3, (.int .i64 x3))], [[(.int .i64 xc0_0), vc0_1]], gh⟩ = some (e, s) :=
  runX_ok an_ref_CheckClauses (Eq.trans (by kernel_rfl) h)

noncomputable def D_ref_CheckClauses_k1 (pg : Prg)  (gh : List GObj) : Option (IExit × St) := some (.ret, ⟨[(2, (.int .i64 0))], [], gh⟩)

theorem D_ref_CheckClauses_k1_ok {pg : Prg} {gh : List GObj}  {e : IExit} {s : St} (h : D_ref_CheckClauses_k1 pg  gh = some (e, s)) : runL pg f_ref_CheckClauses_k1 ⟨[], [], gh⟩ = some (e, s) :=
  runX_ok an_ref_CheckClauses (Eq.trans (by kernel_rfl) h)

noncomputable def D_ref_CheckClauses_0 (pg : Prg) (x0_0 : Int) (v0_1 : PV) (gh : List GObj) : Option (IExit × St) := onK (degr1 v0_1) (
  callR gh true (callL pg 50 [(.int .i64 x0_0), (.int .i64 0), (.int .i64 200000)] gh) fun r1 gh2 => unB r1 fun b3 => 
  br 8 (!b3) (some (.ret, ⟨[(2, (.int .i64 3))], [], gh2⟩)) (isC (degr (degr1 v0_1)) (lenS (degr (degr (degr1 v0_1))) fun n4 => 
  br 12 (decide (800000 < (n4 : Int))) (some (.ret, ⟨[(2, (.int .i64 2))], [], gh2⟩)) (
  kR (runL pg f_ref_CheckClauses_l1 ⟨[(1, (.ptr false 0 0)), (3, (.int .i64 0))], [[(.int .i64 x0_0), (degr1 v0_1)]], gh2⟩) (fun e s => nx e s (fun e s => some (e, s)) fun s => kR (runL pg f_ref_CheckClauses_k1 s) (fun e s => some (e, s)))))))

theorem D_ref_CheckClauses_0_ok {pg : Prg} {gh : List GObj} {x0_0 : Int} {v0_1 : PV} {e : IExit} {s : St} (h : D_ref_CheckClauses_0 pg x0_0 v0_1 gh = some (e, s)) : runL pg f_ref_CheckClauses_0 ⟨[(0, (.agg [(.int .i64 x0_0), v0_1]))], [], gh⟩ = some (e, s) :=
  runX_ok an_ref_CheckClauses (Eq.trans (by kernel_rfl) h)

end Go.Lw
end

/-! What the code of function cnf_Clause comes to, piece by piece. Written by program (dprint.py). -/
section
set_option maxRecDepth 10000
set_option maxHeartbeats 4000000
namespace Go.Lw
open Go

def an_cnf_Clause : Tr := (.node 5 (.ce (.int .i64)) (.node 1 (.ce (.one)) (.node 0 (.ce (.int .i64)) .nil .nil) (.node 4 (.ce (.int .i64)) .nil .nil)) (.node 7 (.ce (.int .i64)) (.node 6 (.ce (.one)) .nil .nil) .nil))

noncomputable def D_cnf_Clause_0 (pg : Prg) (x0 : Int) (v1 : PV) (gh : List GObj) : Option (IExit × St) := stK 0 v1 (isC (degr v1) (arK (degr (degr v1)) (
  callR gh true (callL pg 94 [(.int .i64 x0), (degr (degr v1))] gh) fun r1 gh2 => unI .i64 r1 fun n3 => some (.ret, ⟨[(4, (.int .i64 n3))], [], gh2⟩))))

theorem D_cnf_Clause_0_ok {pg : Prg} {gh : List GObj} {x0 : Int} {v1 : PV} {e : IExit} {s : St} (h : D_cnf_Clause_0 pg x0 v1 gh = some (e, s)) : runL pg f_cnf_Clause_0 ⟨[(0, (.int .i64 x0)), (1, v1)], [], gh⟩ = some (e, s) :=
  runX_ok an_cnf_Clause (Eq.trans (by kernel_rfl) h)

end Go.Lw
end

/-! What the code of function proof_Follows comes to, piece by piece. Written by program (dprint.py). -/
section
set_option maxRecDepth 10000
set_option maxHeartbeats 4000000
namespace Go.Lw
open Go

def an_proof_Follows : Tr := (.node 12 (.ce (.int .i64)) (.node 6 (.ce (.int .i64)) (.node 4 (.ce (.bool)) (.node 1 (.ce (.one)) (.node 0 (.agg [.int .i64, .any]) .nil .nil) .nil) (.node 5 (.ce (.int .i64)) .nil .nil)) (.node 9 (.ce (.int .i64)) (.node 8 (.ce (.int .i64)) (.node 7 (.agg [.int .i64, .any]) .nil .nil) .nil) (.node 10 (.ce (.bool)) .nil .nil))) (.node 17 (.ce (.int .i64)) (.node 15 (.ce (.int .i64)) (.node 14 (.ce (.int .i64)) (.node 13 (.ce (.one)) .nil .nil) .nil) (.node 16 (.ce (.bool)) .nil .nil)) (.node 21 (.ce (.one)) (.node 20 (.ce (.gp)) (.node 19 (.ce (.one)) .nil .nil) .nil) (.node 22 (.ce (.bool)) .nil .nil))))

noncomputable def D_proof_Follows_k1 (pg : Prg) (v1 : PV) (x6 : Int) (xc0_0 : Int) (vc0_1 : PV) (gh : List GObj) : Option (IExit × St) := stK 1 v1 (
  br 16 (x6 != 0) (some (.ret, ⟨[(4, (.bool false)), (5, (.int .i64 x6))], [], gh⟩)) (isC (degr vc0_1) (arK (degr (degr vc0_1)) (
  callR gh false (callL pg 154 [(degr (degr vc0_1))] gh) fun r1 gh2 => unG r1 fun g3 o4 => isC (degr v1) (arK (degr (degr v1)) (
  callR gh2 false (callL pg 155 [(.ptr true g3 o4), (degr (degr v1))] gh2) fun r5 gh6 => unB r5 fun b7 => some (.ret, ⟨[(4, (.bool b7)), (5, (.int .i64 0))], [], gh6⟩)))))))

theorem D_proof_Follows_k1_ok {pg : Prg} {gh : List GObj} {v1 : PV} {x6 : Int} {xc0_0 : Int} {vc0_1 : PV} {e : IExit} {s : St} (h : D_proof_Follows_k1 pg v1 x6 xc0_0 vc0_1 gh = some (e, s)) : runL pg f_proof_Follows_k1 ⟨[(1, v1), (2, (.ptr false 0 0)), (6, (.int .i64 x6))], [[(.int .i64 xc0_0), vc0_1]], gh⟩ = some (e, s) :=
  runX_ok an_proof_Follows (Eq.trans (by kernel_rfl) h)

noncomputable def D_proof_Follows_0 (pg : Prg) (x0_0 : Int) (v0_1 : PV) (v1 : PV) (gh : List GObj) : Option (IExit × St) := onK (degr1 v0_1) (stK 1 v1 (onK (degr1 (degr1 (degr1 v0_1))) (
  callR gh true (callL pg 59 [(.agg [(.int .i64 x0_0), (degr1 (degr1 (degr1 v0_1)))])] gh) fun r1 gh2 => unI .i64 r1 fun n3 => stK 1 v1 (stK 1 v1 (
  br 10 (n3 == 0) (isC (degr v1) (arK (degr (degr v1)) (
  callR gh2 true (callL pg 153 [(.int .i64 x0_0), (degr (degr v1))] gh2) fun r4 gh5 => unI .i64 r4 fun n6 => stK 1 v1 (stK 1 v1 (
  kR (runL pg f_proof_Follows_k1 ⟨[(1, v1), (2, (.ptr false 0 0)), (6, (.int .i64 n6))], [[(.int .i64 x0_0), (degr1 v0_1)]], gh5⟩) (fun e s => some (e, s))))))) (stK 1 v1 (
  kR (runL pg f_proof_Follows_k1 ⟨[(1, v1), (2, (.ptr false 0 0)), (6, (.int .i64 n3))], [[(.int .i64 x0_0), (degr1 v0_1)]], gh2⟩) (fun e s => some (e, s)))))))))

theorem D_proof_Follows_0_ok {pg : Prg} {gh : List GObj} {x0_0 : Int} {v0_1 : PV} {v1 : PV} {e : IExit} {s : St} (h : D_proof_Follows_0 pg x0_0 v0_1 v1 gh = some (e, s)) : runL pg f_proof_Follows_0 ⟨[(0, (.agg [(.int .i64 x0_0), v0_1])), (1, v1)], [], gh⟩ = some (e, s) :=
  runX_ok an_proof_Follows (Eq.trans (by kernel_rfl) h)

end Go.Lw
end

/-! What the code of function proof_Check comes to, piece by piece. Written by program (dprint.py). -/
section
set_option maxRecDepth 10000
set_option maxHeartbeats 4000000
namespace Go.Lw
open Go

def an_proof_Check : Tr := (.node 27 (.ce (.bool)) (.node 14 (.ce (.int .i64)) (.node 7 (.ce (.int .i64)) (.node 4 (.ce (.bool)) (.node 1 (.ce (.one)) (.node 0 (.agg [.int .i64, .any]) .nil .nil) .nil) (.node 6 (.ce (.int .i64)) (.node 5 (.ce (.int .i64)) .nil .nil) .nil)) (.node 11 (.ce (.one)) (.node 9 (.ce (.bool)) (.node 8 (.ce (.gp)) .nil .nil) .nil) (.node 13 (.ce (.int .i64)) (.node 12 (.agg [.int .i64, .any]) .nil .nil) .nil))) (.node 22 (.ce (.one)) (.node 18 (.ce (.int .i64)) (.node 16 (.ce (.int .i64)) (.node 15 (.ce (.bool)) .nil .nil) .nil) (.node 21 (.ce (.one)) (.node 20 (.ce (.one)) .nil .nil) .nil)) (.node 25 (.ce (.int .i64)) (.node 24 (.agg [.int .i64, .any]) (.node 23 (.ce (.one)) .nil .nil) .nil) (.node 26 (.ce (.int .i64)) .nil .nil)))) (.node 41 (.ce (.bool)) (.node 34 (.ce (.int .i64)) (.node 31 (.ce (.gp)) (.node 30 (.ce (.one)) (.node 28 (.ce (.int .i64)) .nil .nil) .nil) (.node 33 (.ce (.int .i64)) (.node 32 (.ce (.one)) .nil .nil) .nil)) (.node 38 (.ce (.gp)) (.node 37 (.ce (.one)) (.node 35 (.ce (.bool)) .nil .nil) .nil) (.node 40 (.ce (.bool)) (.node 39 (.ce (.one)) .nil .nil) .nil))) (.node 48 (.ce (.int .i64)) (.node 45 (.ce (.bool)) (.node 43 (.ce (.one)) (.node 42 (.ce (.gp)) .nil .nil) .nil) (.node 47 (.ce (.one)) (.node 46 (.ce (.bool)) .nil .nil) .nil)) (.node 51 (.ce (.int .i64)) (.node 50 (.ce (.bool)) (.node 49 (.ce (.bool)) .nil .nil) .nil) (.node 52 (.ce (.bool)) .nil .nil)))))

noncomputable def D_proof_Check_b1 (pg : Prg) (g8 : Nat) (o8 : Nat) (b9 : Bool) (v32 : PV) (x33 : Int) (x34 : Int) (gh : List GObj) : Option (IExit × St) := 
  br 35 (decide (x34 < x33)) (
  idX 1 none (degr v32) x34 fun p1 => 
  ldX [] gh false 1 (degr p1) fun v2 => isC v2 (stK 0 v2 (stK 0 v32 (isC (degr v2) (arK (degr (degr v2)) (
  callR gh false (callL pg 155 [(.ptr true g8 o8), (degr (degr v2))] gh) fun r3 gh4 => unB r3 fun b5 => stK 0 v2 (stK 0 v32 (
  br 41 (!b5) (some (.ret, ⟨[(4, (.bool false)), (5, (.int .i64 0))], [], gh4⟩)) (isC (degr v2) (arK (degr (degr v2)) (
  callR gh4 false (callL pg 157 [(.ptr true g8 o8), (degr (degr v2))] gh4) fun r6 gh7 => stK 0 v2 (stK 0 v32 (
  br 46 b9 (stK 0 v32 (stK 0 v32 (stK 0 v32 (some (.normal, ⟨[(8, (.ptr true g8 o8)), (9, (.bool true)), (32, v32), (33, (.int .i64 x33)), (34, (.int .i64 (IntKind.i64.wrap (x34 + 1))))], [], gh7⟩))))) (isC (degr v2) (lenS (degr (degr v2)) fun n8 => stK 0 v32 (stK 0 v32 (stK 0 v32 (some (.normal, ⟨[(8, (.ptr true g8 o8)), (9, (.bool ((n8 : Int) == 0))), (32, v32), (33, (.int .i64 x33)), (34, (.int .i64 (IntKind.i64.wrap (x34 + 1))))], [], gh7⟩))))))))))))))))))) (some ((.exit 0), ⟨[(8, (.ptr true g8 o8)), (9, (.bool b9)), (32, v32), (33, (.int .i64 x33)), (34, (.int .i64 x34)), (35, (.bool (decide (x34 < x33))))], [], gh⟩))

theorem D_proof_Check_b1_ok {pg : Prg} {gh : List GObj} {g8 : Nat} {o8 : Nat} {b9 : Bool} {v32 : PV} {x33 : Int} {x34 : Int} {e : IExit} {s : St} (h : D_proof_Check_b1 pg g8 o8 b9 v32 x33 x34 gh = some (e, s)) : runL pg f_proof_Check_b1 ⟨[(8, (.ptr true g8 o8)), (9, (.bool b9)), (32, v32), (33, (.int .i64 x33)), (34, (.int .i64 x34))], [], gh⟩ = some (e, s) :=
  runX_ok an_proof_Check (Eq.trans (by kernel_rfl) h)

noncomputable def D_proof_Check_k1 (pg : Prg) (b9 : Bool) (gh : List GObj) : Option (IExit × St) := some (.ret, ⟨[(4, (.bool b9)), (5, (.int .i64 0))], [], gh⟩)

theorem D_proof_Check_k1_ok {pg : Prg} {gh : List GObj} {b9 : Bool} {e : IExit} {s : St} (h : D_proof_Check_k1 pg b9 gh = some (e, s)) : runL pg f_proof_Check_k1 ⟨[(9, (.bool b9))], [], gh⟩ = some (e, s) :=
  runX_ok an_proof_Check (Eq.trans (by kernel_rfl) h)

noncomputable def D_proof_Check_0 (pg : Prg) (x0_0 : Int) (v0_1 : PV) (v1 : PV) (gh : List GObj) : Option (IExit × St) := onK (degr1 v0_1) (stK 1 v1 (onK (degr1 (degr1 (degr1 v0_1))) (
  callR gh true (callL pg 59 [(.agg [(.int .i64 x0_0), (degr1 (degr1 (degr1 v0_1)))])] gh) fun r1 gh2 => unI .i64 r1 fun n3 => stK 1 v1 (stK 1 v1 (
  br 15 (n3 != 0) (some (.ret, ⟨[(4, (.bool false)), (5, (.int .i64 n3))], [], gh2⟩)) (isC (degr (degr1 v0_1)) (isC (degr v1) (arK (degr (degr (degr1 v0_1))) (lnK 1 (degr (degr (degr1 v0_1))) (arK (degr (degr v1)) (lnK 1 (degr (degr v1)) (
  callR gh2 true (callL pg 156 [(.sl false 1 [(degr (degr (degr1 v0_1))), (degr (degr v1))])] gh2) fun r4 gh5 => isC r4 (arK r4 (isC r4 (onK (degr1 r4) (
  callR gh5 true (callL pg 59 [(.agg [(.int .i64 x0_0), (degr1 r4)])] gh5) fun r6 gh7 => unI .i64 r6 fun n8 => stK 1 v1 (stK 1 v1 (
  br 27 (n8 != 0) (some (.ret, ⟨[(4, (.bool false)), (5, (.int .i64 n8))], [], gh7⟩)) (isC (degr (degr1 v0_1)) (arK (degr (degr (degr1 v0_1))) (
  callR gh7 false (callL pg 154 [(degr (degr (degr1 v0_1)))] gh7) fun r9 gh10 => unG r9 fun g11 o12 => stK 0 v1 (isC (degr v1) (lenS (degr (degr v1)) fun n13 => stK 0 (degr v1) (
  kR (runL pg f_proof_Check_l1 ⟨[(8, (.ptr true g11 o12)), (9, (.bool false)), (32, (degr v1)), (33, (.int .i64 (n13 : Int))), (34, (.int .i64 0))], [], gh10⟩) (fun e s => nx e s (fun e s => some (e, s)) fun s => kR (runL pg f_proof_Check_k1 s) (fun e s => some (e, s)))))))))))))))))))))))))))

theorem D_proof_Check_0_ok {pg : Prg} {gh : List GObj} {x0_0 : Int} {v0_1 : PV} {v1 : PV} {e : IExit} {s : St} (h : D_proof_Check_0 pg x0_0 v0_1 v1 gh = some (e, s)) : runL pg f_proof_Check_0 ⟨[(0, (.agg [(.int .i64 x0_0), v0_1])), (1, v1)], [], gh⟩ = some (e, s) :=
  runX_ok an_proof_Check (Eq.trans (by kernel_rfl) h)

end Go.Lw
end

/-! What the code of function ref_ProofOf comes to, piece by piece. Written by program (dprint.py). -/
section
set_option maxRecDepth 10000
set_option maxHeartbeats 4000000
namespace Go.Lw
open Go

def an_ref_ProofOf : Tr := (.node 22 (.ce (.one)) (.node 12 (.ce (.int .i64)) (.node 6 (.ce (.bool)) (.node 4 (.ce (.bool)) (.node 1 (.ce (.one)) (.node 0 (.agg [.int .i64, .any]) .nil .nil) .nil) (.node 5 (.ce (.one)) .nil .nil)) (.node 10 (.ce (.one)) (.node 8 (.ce (.one)) (.node 7 (.ce (.int .i64)) .nil .nil) .nil) (.node 11 (.ce (.one)) .nil .nil))) (.node 17 (.ce (.int .i64)) (.node 15 (.ce (.bool)) (.node 14 (.ce (.int .i64)) (.node 13 (.ce (.one)) .nil .nil) .nil) (.node 16 (.ce (.int .i64)) .nil .nil)) (.node 19 (.ce (.one)) (.node 18 (.ce (.one)) .nil .nil) (.node 20 (.ce (.int .i64)) .nil .nil)))) (.node 32 (.ce (.bool)) (.node 27 (.ce (.int .i64)) (.node 25 (.ce (.one)) (.node 24 (.ce (.bool)) (.node 23 (.ce (.bool)) .nil .nil) .nil) (.node 26 (.ce (.one)) .nil .nil)) (.node 30 (.ce (.one)) (.node 29 (.ce (.one)) .nil .nil) (.node 31 (.ce (.one)) .nil .nil))) (.node 38 (.ce (.int .i64)) (.node 35 (.ce (.int .i64)) (.node 34 (.ce (.one)) (.node 33 (.ce (.bool)) .nil .nil) .nil) (.node 37 (.ce (.one)) .nil .nil)) (.node 40 (.ce (.bool)) (.node 39 (.ce (.bool)) .nil .nil) (.node 41 (.ce (.bool)) .nil .nil)))))

noncomputable def D_ref_ProofOf_b1 (pg : Prg) (v1 : PV) (v5 : PV) (b6 : Bool) (x7 : Int) (gh : List GObj) : Option (IExit × St) := isC (degr v1) (lenS (degr (degr v1)) fun n1 => stK 0 v1 (stK 0 v5 (
  br 15 (decide (x7 < (n1 : Int))) (isC (degr v5) (isC (degr v1) (
  idX 1 none (degr (degr v1)) x7 fun p2 => 
  ldX [] gh false 1 (degr p2) fun v3 => isC v3 (arK (degr (degr v5)) (arK (degr v3) (
  callR gh true (callL pg 146 [(degr (degr v5)), (degr v3)] gh) fun r4 gh5 => unB r4 fun b7 => stK 0 v1 (stK 0 v5 (
  br 24 (!b7) (some (.ret, ⟨[(4, (.bool false))], [], gh5⟩)) (isC (degr v1) (
  idX 1 none (degr (degr v1)) x7 fun p8 => 
  ldX [] gh5 false 1 (degr p8) fun v9 => isC v9 (arK (degr v9) (lnK 1 (degr v9) (
  apX 1 24 v5 (.sl false 1 [(degr v9)]) fun l10 => stK 0 v1 (
  br 33 b6 (stK 0 v1 (stK 0 v1 (stK 0 v1 (some (.normal, ⟨[(1, v1), (5, (.sl true 1 l10)), (6, (.bool true)), (7, (.int .i64 (IntKind.i64.wrap (x7 + 1))))], [], gh5⟩))))) (isC (degr v1) (
  idX 1 none (degr (degr v1)) x7 fun p11 => 
  ldX [] gh5 false 1 (degr p11) fun v12 => isC v12 (lenS (degr v12) fun n13 => stK 0 v1 (stK 0 v1 (stK 0 v1 (some (.normal, ⟨[(1, v1), (5, (.sl true 1 l10)), (6, (.bool ((n13 : Int) == 0))), (7, (.int .i64 (IntKind.i64.wrap (x7 + 1))))], [], gh5⟩))))))))))))))))))))) (some ((.exit 0), ⟨[(1, v1), (5, v5), (6, (.bool b6)), (7, (.int .i64 x7)), (15, (.bool (decide (x7 < (n1 : Int)))))], [], gh⟩)))))

theorem D_ref_ProofOf_b1_ok {pg : Prg} {gh : List GObj} {v1 : PV} {v5 : PV} {b6 : Bool} {x7 : Int} {e : IExit} {s : St} (h : D_ref_ProofOf_b1 pg v1 v5 b6 x7 gh = some (e, s)) : runL pg f_ref_ProofOf_b1 ⟨[(1, v1), (5, v5), (6, (.bool b6)), (7, (.int .i64 x7))], [], gh⟩ = some (e, s) :=
  runX_ok an_ref_ProofOf (Eq.trans (by kernel_rfl) h)

noncomputable def D_ref_ProofOf_k1 (pg : Prg) (b6 : Bool) (gh : List GObj) : Option (IExit × St) := some (.ret, ⟨[(4, (.bool b6))], [], gh⟩)

theorem D_ref_ProofOf_k1_ok {pg : Prg} {gh : List GObj} {b6 : Bool} {e : IExit} {s : St} (h : D_ref_ProofOf_k1 pg b6 gh = some (e, s)) : runL pg f_ref_ProofOf_k1 ⟨[(6, (.bool b6))], [], gh⟩ = some (e, s) :=
  runX_ok an_ref_ProofOf (Eq.trans (by kernel_rfl) h)

noncomputable def D_ref_ProofOf_0 (pg : Prg) (x0_0 : Int) (v0_1 : PV) (v1 : PV) (gh : List GObj) : Option (IExit × St) := onK (degr1 v0_1) (stK 1 v1 (isC (degr (degr1 v0_1)) (
  apX 1 24 (.sl true 1 []) (degr (degr (degr1 v0_1))) fun l1 => stK 0 v1 (stK 0 v1 (
  kR (runL pg f_ref_ProofOf_l1 ⟨[(1, v1), (5, (.sl true 1 l1)), (6, (.bool false)), (7, (.int .i64 0))], [], gh⟩) (fun e s => nx e s (fun e s => some (e, s)) fun s => kR (runL pg f_ref_ProofOf_k1 s) (fun e s => some (e, s))))))))

theorem D_ref_ProofOf_0_ok {pg : Prg} {gh : List GObj} {x0_0 : Int} {v0_1 : PV} {v1 : PV} {e : IExit} {s : St} (h : D_ref_ProofOf_0 pg x0_0 v0_1 v1 gh = some (e, s)) : runL pg f_ref_ProofOf_0 ⟨[(0, (.agg [(.int .i64 x0_0), v0_1])), (1, v1)], [], gh⟩ = some (e, s) :=
  runX_ok an_ref_ProofOf (Eq.trans (by kernel_rfl) h)

end Go.Lw
end

/-! What the code of function ref_CheckProof comes to, piece by piece. Written by program (dprint.py). -/
section
set_option maxRecDepth 10000
set_option maxHeartbeats 4000000
namespace Go.Lw
open Go

def an_ref_CheckProof : Tr := (.node 11 (.ce (.int .i64)) (.node 6 (.agg [.int .i64, .any]) (.node 4 (.ce (.int .i64)) (.node 1 (.ce (.one)) (.node 0 (.agg [.int .i64, .any]) .nil .nil) .nil) (.node 5 (.ce (.int .i64)) .nil .nil)) (.node 8 (.ce (.int .i64)) (.node 7 (.ce (.int .i64)) .nil .nil) (.node 9 (.ce (.bool)) .nil .nil))) (.node 17 (.ce (.one)) (.node 15 (.ce (.one)) (.node 14 (.ce (.one)) (.node 12 (.ce (.one)) .nil .nil) .nil) (.node 16 (.ce (.one)) .nil .nil)) (.node 19 (.ce (.int .i64)) (.node 18 (.agg [.int .i64, .any]) .nil .nil) (.node 20 (.ce (.int .i64)) .nil .nil))))

noncomputable def D_ref_CheckProof_k1 (pg : Prg) (x5 : Int) (gh : List GObj) : Option (IExit × St) := some (.ret, ⟨[(4, (.int .i64 x5))], [], gh⟩)

theorem D_ref_CheckProof_k1_ok {pg : Prg} {gh : List GObj} {x5 : Int} {e : IExit} {s : St} (h : D_ref_CheckProof_k1 pg x5 gh = some (e, s)) : runL pg f_ref_CheckProof_k1 ⟨[(5, (.int .i64 x5))], [], gh⟩ = some (e, s) :=
  runX_ok an_ref_CheckProof (Eq.trans (by kernel_rfl) h)

noncomputable def D_ref_CheckProof_0 (pg : Prg) (x0_0 : Int) (v0_1 : PV) (v1 : PV) (gh : List GObj) : Option (IExit × St) := onK (degr1 v0_1) (stK 1 v1 (onK (degr1 (degr1 (degr1 v0_1))) (
  callR gh true (callL pg 93 [(.agg [(.int .i64 x0_0), (degr1 (degr1 (degr1 v0_1)))])] gh) fun r1 gh2 => unI .i64 r1 fun n3 => stK 1 v1 (stK 1 v1 (
  br 9 (n3 == 0) (isC (degr (degr1 v0_1)) (
  apX 1 24 (.sl true 1 []) (degr (degr (degr1 v0_1))) fun l4 => isC (degr v1) (
  apX 1 24 (.sl true 1 l4) (degr (degr v1)) fun l5 => 
  callR gh2 true (callL pg 93 [(.agg [(.int .i64 x0_0), (.sl false 1 l5)])] gh2) fun r6 gh7 => unI .i64 r6 fun n8 => 
  kR (runL pg f_ref_CheckProof_k1 ⟨[(5, (.int .i64 n8))], [], gh7⟩) (fun e s => some (e, s))))) (
  kR (runL pg f_ref_CheckProof_k1 ⟨[(5, (.int .i64 n3))], [], gh2⟩) (fun e s => some (e, s))))))))

theorem D_ref_CheckProof_0_ok {pg : Prg} {gh : List GObj} {x0_0 : Int} {v0_1 : PV} {v1 : PV} {e : IExit} {s : St} (h : D_ref_CheckProof_0 pg x0_0 v0_1 v1 gh = some (e, s)) : runL pg f_ref_CheckProof_0 ⟨[(0, (.agg [(.int .i64 x0_0), v0_1])), (1, v1)], [], gh⟩ = some (e, s) :=
  runX_ok an_ref_CheckProof (Eq.trans (by kernel_rfl) h)

end Go.Lw
end

/-! What the code of function slices_Concat_LLint_Lint comes to, piece by piece. Written by program (dprint.py). -/
section
set_option maxRecDepth 10000
set_option maxHeartbeats 4000000
namespace Go.Lw
open Go

def an_slices_Concat_LLint_Lint : Tr := (.node 19 (.ce (.int .i64)) (.node 10 (.ce (.int .i64)) (.node 5 (.ce (.one)) (.node 2 (.ce (.one)) (.node 0 (.ce (.one)) .nil .nil) (.node 3 (.ce (.int .i64)) .nil .nil)) (.node 8 (.ce (.one)) (.node 6 (.ce (.one)) .nil .nil) (.node 9 (.ce (.one)) .nil .nil))) (.node 15 (.ce (.int .i64)) (.node 12 (.ce (.bool)) (.node 11 (.ce (.int .i64)) .nil .nil) (.node 14 (.ce (.one)) .nil .nil)) (.node 17 (.ce (.int .i64)) (.node 16 (.ce (.one)) .nil .nil) (.node 18 (.ce (.int .i64)) .nil .nil)))) (.node 28 (.ce (.bool)) (.node 24 (.ce (.one)) (.node 22 (.ce (.int .i64)) (.node 20 (.ce (.bool)) .nil .nil) (.node 23 (.ce (.int .i64)) .nil .nil)) (.node 26 (.ce (.int .i64)) (.node 25 (.ce (.one)) .nil .nil) (.node 27 (.ce (.int .i64)) .nil .nil))) (.node 33 (.ce (.one)) (.node 31 (.ce (.one)) (.node 30 (.ce (.one)) .nil .nil) (.node 32 (.ce (.one)) .nil .nil)) (.node 35 (.ce (.one)) (.node 34 (.ce (.int .i64)) .nil .nil) .nil))))

noncomputable def D_slices_Concat_LLint_Lint_b1 (pg : Prg) (v0 : PV) (x3 : Int) (v9 : PV) (x10 : Int) (x11 : Int) (gh : List GObj) : Option (IExit × St) := 
  br 12 (decide (x11 < x10)) (
  idX 1 none (degr v9) x11 fun p1 => 
  ldX [] gh false 1 (degr p1) fun v2 => isC v2 (stK 0 v0 (stK 0 v2 (stK 0 v9 (isC (degr v2) (lenS (degr (degr v2)) fun n3 => stK 0 v0 (stK 0 v9 (stK 0 v0 (stK 0 v9 (
  br 20 (decide ((IntKind.i64.wrap (x3 + (n3 : Int))) < 0)) (none) (stK 0 v0 (stK 0 v9 (stK 0 v0 (stK 0 v9 (some (.normal, ⟨[(0, v0), (3, (.int .i64 (IntKind.i64.wrap (x3 + (n3 : Int))))), (9, v9), (10, (.int .i64 x10)), (11, (.int .i64 (IntKind.i64.wrap (x11 + 1))))], [], gh⟩)))))))))))))))) (some ((.exit 0), ⟨[(0, v0), (3, (.int .i64 x3)), (9, v9), (10, (.int .i64 x10)), (11, (.int .i64 x11)), (12, (.bool (decide (x11 < x10))))], [], gh⟩))

theorem D_slices_Concat_LLint_Lint_b1_ok {pg : Prg} {gh : List GObj} {v0 : PV} {x3 : Int} {v9 : PV} {x10 : Int} {x11 : Int} {e : IExit} {s : St} (h : D_slices_Concat_LLint_Lint_b1 pg v0 x3 v9 x10 x11 gh = some (e, s)) : runL pg f_slices_Concat_LLint_Lint_b1 ⟨[(0, v0), (3, (.int .i64 x3)), (9, v9), (10, (.int .i64 x10)), (11, (.int .i64 x11))], [], gh⟩ = some (e, s) :=
  runX_ok an_slices_Concat_LLint_Lint (Eq.trans (by kernel_rfl) h)

noncomputable def D_slices_Concat_LLint_Lint_b2 (pg : Prg) (v6 : PV) (v25 : PV) (x26 : Int) (x27 : Int) (gh : List GObj) : Option (IExit × St) := 
  br 28 (decide (x27 < x26)) (
  idX 1 none (degr v25) x27 fun p1 => 
  ldX [] gh false 1 (degr p1) fun v2 => isC v2 (stK 0 v6 (stK 0 v2 (stK 0 v25 (isC (degr v2) (
  apX 1 24 v6 (degr (degr v2)) fun l3 => stK 0 v25 (stK 0 v25 (stK 0 v25 (some (.normal, ⟨[(6, (.sl true 1 l3)), (25, v25), (26, (.int .i64 x26)), (27, (.int .i64 (IntKind.i64.wrap (x27 + 1))))], [], gh⟩)))))))))) (some ((.exit 2), ⟨[(6, v6), (25, v25), (26, (.int .i64 x26)), (27, (.int .i64 x27)), (28, (.bool (decide (x27 < x26))))], [], gh⟩))

theorem D_slices_Concat_LLint_Lint_b2_ok {pg : Prg} {gh : List GObj} {v6 : PV} {v25 : PV} {x26 : Int} {x27 : Int} {e : IExit} {s : St} (h : D_slices_Concat_LLint_Lint_b2 pg v6 v25 x26 x27 gh = some (e, s)) : runL pg f_slices_Concat_LLint_Lint_b2 ⟨[(6, v6), (25, v25), (26, (.int .i64 x26)), (27, (.int .i64 x27))], [], gh⟩ = some (e, s) :=
  runX_ok an_slices_Concat_LLint_Lint (Eq.trans (by kernel_rfl) h)

noncomputable def D_slices_Concat_LLint_Lint_k2 (pg : Prg) (v6 : PV) (gh : List GObj) : Option (IExit × St) := isC (degr v6) (stK 0 (degr v6) (some (.ret, ⟨[(2, (degr v6))], [], gh⟩)))

theorem D_slices_Concat_LLint_Lint_k2_ok {pg : Prg} {gh : List GObj} {v6 : PV} {e : IExit} {s : St} (h : D_slices_Concat_LLint_Lint_k2 pg v6 gh = some (e, s)) : runL pg f_slices_Concat_LLint_Lint_k2 ⟨[(6, v6)], [], gh⟩ = some (e, s) :=
  runX_ok an_slices_Concat_LLint_Lint (Eq.trans (by kernel_rfl) h)

noncomputable def D_slices_Concat_LLint_Lint_k1 (pg : Prg) (v0 : PV) (x3 : Int) (gh : List GObj) : Option (IExit × St) := 
  callR gh true (callL pg 160 [.nils, (.int .i64 x3)] gh) fun r1 gh2 => isC r1 (stK 0 v0 (stK 0 r1 (isC (degr v0) (lenS (degr (degr v0)) fun n3 => stK 0 r1 (stK 0 (degr v0) (
  kR (runL pg f_slices_Concat_LLint_Lint_l2 ⟨[(6, r1), (25, (degr v0)), (26, (.int .i64 (n3 : Int))), (27, (.int .i64 0))], [], gh2⟩) (fun e s => nx e s (fun e s => some (e, s)) fun s => kR (runL pg f_slices_Concat_LLint_Lint_k2 s) (fun e s => some (e, s)))))))))

theorem D_slices_Concat_LLint_Lint_k1_ok {pg : Prg} {gh : List GObj} {v0 : PV} {x3 : Int} {e : IExit} {s : St} (h : D_slices_Concat_LLint_Lint_k1 pg v0 x3 gh = some (e, s)) : runL pg f_slices_Concat_LLint_Lint_k1 ⟨[(0, v0), (3, (.int .i64 x3))], [], gh⟩ = some (e, s) :=
  runX_ok an_slices_Concat_LLint_Lint (Eq.trans (by kernel_rfl) h)

noncomputable def D_slices_Concat_LLint_Lint_0 (pg : Prg) (v0 : PV) (gh : List GObj) : Option (IExit × St) := stK 0 v0 (isC (degr v0) (lenS (degr (degr v0)) fun n1 => stK 0 v0 (stK 0 (degr v0) (
  kR (runL pg f_slices_Concat_LLint_Lint_l1 ⟨[(0, v0), (3, (.int .i64 0)), (9, (degr v0)), (10, (.int .i64 (n1 : Int))), (11, (.int .i64 0))], [], gh⟩) (fun e s => nx e s (fun e s => some (e, s)) fun s => kR (runL pg f_slices_Concat_LLint_Lint_k1 s) (fun e s => some (e, s)))))))

theorem D_slices_Concat_LLint_Lint_0_ok {pg : Prg} {gh : List GObj} {v0 : PV} {e : IExit} {s : St} (h : D_slices_Concat_LLint_Lint_0 pg v0 gh = some (e, s)) : runL pg f_slices_Concat_LLint_Lint_0 ⟨[(0, v0)], [], gh⟩ = some (e, s) :=
  runX_ok an_slices_Concat_LLint_Lint (Eq.trans (by kernel_rfl) h)

end Go.Lw
end

/-! What the code of function law_proofBegun comes to, piece by piece. Written by program (dprint.py). -/
section
set_option maxRecDepth 10000
set_option maxHeartbeats 4000000
namespace Go.Lw
open Go

def an_law_proofBegun : Tr := (.node 19 (.tup 2) (.node 10 (.ce (.one)) (.node 5 (.ce (.int .i64)) (.node 3 (.ce (.int .i64)) (.node 2 (.ce (.bool)) (.node 0 (.ce (.bool)) .nil .nil) .nil) (.node 4 (.ce (.bool)) .nil .nil)) (.node 8 (.ce (.one)) (.node 7 (.ce (.one)) (.node 6 (.ce (.one)) .nil .nil) .nil) (.node 9 (.ce (.one)) .nil .nil))) (.node 15 (.ce (.one)) (.node 13 (.agg [.int .i64, .any]) (.node 12 (.tup 2) (.node 11 (.agg [.int .i64, .any]) .nil .nil) .nil) (.node 14 (.ce (.one)) .nil .nil)) (.node 17 (.ce (.bool)) (.node 16 (.tup 2) .nil .nil) (.node 18 (.ce (.int .i64)) .nil .nil)))) (.node 28 (.ce (.bool)) (.node 24 (.ce (.int .i64)) (.node 22 (.ce (.bool)) (.node 21 (.tup 2) (.node 20 (.agg [.int .i64, .any]) .nil .nil) .nil) (.node 23 (.ce (.int .i64)) .nil .nil)) (.node 26 (.ce (.bool)) (.node 25 (.ce (.bool)) .nil .nil) (.node 27 (.ce (.int .i64)) .nil .nil))) (.node 33 (.ce (.bool)) (.node 31 (.ce (.bool)) (.node 30 (.ce (.bool)) (.node 29 (.ce (.bool)) .nil .nil) .nil) (.node 32 (.ce (.bool)) .nil .nil)) (.node 35 (.ce (.bool)) (.node 34 (.ce (.bool)) .nil .nil) (.node 36 (.ce (.bool)) .nil .nil)))))

noncomputable def D_law_proofBegun_0 (pg : Prg)  (gh : List GObj) : Option (IExit × St) := 
  callR gh true (callL pg 149 [(.agg [(.int .i64 2), (.sl false 1 [(.sl false 1 [(.int .i64 1), (.int .i64 2)]), (.sl false 1 [(.int .i64 1), (.int .i64 (-2))]), (.sl false 1 [(.int .i64 (-1)), (.int .i64 2)]), (.sl false 1 [(.int .i64 (-1)), (.int .i64 (-2))])])]), (.sl false 1 [(.sl false 1 [(.int .i64 1)]), (.sl false 1 [])])] gh) fun r1 gh2 => unT 2 r1 fun r3 r4 => unB (degr1 (degr1 r3)) fun b5 => unI .i64 (degr1 (degr1 r4)) fun n6 => 
  callR gh2 true (callL pg 145 [(.agg [(.int .i64 2), (.sl false 1 [(.sl false 1 [(.int .i64 1), (.int .i64 2)]), (.sl false 1 [(.int .i64 1), (.int .i64 (-2))]), (.sl false 1 [(.int .i64 (-1)), (.int .i64 2)]), (.sl false 1 [(.int .i64 (-1)), (.int .i64 (-2))])])]), (.sl false 1 [])] gh2) fun r7 gh8 => unT 2 r7 fun r9 r10 => unB (degr1 (degr1 r9)) fun b11 => unI .i64 (degr1 (degr1 r10)) fun n12 => 
  br 26 (n6 == 0) (
  br 30 (n12 == 0) (
  br 33 b5 (some (.ret, ⟨[(0, (.bool (!b11)))], [], gh8⟩)) (some (.ret, ⟨[(0, (.bool false))], [], gh8⟩))) (some (.ret, ⟨[(0, (.bool false))], [], gh8⟩))) (some (.ret, ⟨[(0, (.bool false))], [], gh8⟩))

theorem D_law_proofBegun_0_ok {pg : Prg} {gh : List GObj}  {e : IExit} {s : St} (h : D_law_proofBegun_0 pg  gh = some (e, s)) : runL pg f_law_proofBegun_0 ⟨[], [], gh⟩ = some (e, s) :=
  runX_ok an_law_proofBegun (Eq.trans (by kernel_rfl) h)

end Go.Lw
end

/-! What the code of function law_ProofChecks comes to, piece by piece. Written by program (dprint.py). -/
section
set_option maxRecDepth 10000
set_option maxHeartbeats 4000000
namespace Go.Lw
open Go

def an_law_ProofChecks : Tr := (.node 18 (.ce (.int .i64)) (.node 10 (.agg [.int .i64, .any]) (.node 6 (.ce (.int .i64)) (.node 4 (.ce (.bool)) (.node 1 (.ce (.one)) (.node 0 (.agg [.int .i64, .any]) .nil .nil) .nil) (.node 5 (.ce (.bool)) .nil .nil)) (.node 8 (.ce (.bool)) (.node 7 (.ce (.int .i64)) .nil .nil) (.node 9 (.tup 2) .nil .nil))) (.node 14 (.ce (.int .i64)) (.node 12 (.tup 2) (.node 11 (.ce (.one)) .nil .nil) (.node 13 (.ce (.bool)) .nil .nil)) (.node 16 (.ce (.one)) (.node 15 (.agg [.int .i64, .any]) .nil .nil) (.node 17 (.ce (.int .i64)) .nil .nil)))) (.node 26 (.ce (.int .i64)) (.node 22 (.ce (.bool)) (.node 20 (.agg [.int .i64, .any]) (.node 19 (.ce (.bool)) .nil .nil) (.node 21 (.ce (.one)) .nil .nil)) (.node 24 (.ce (.bool)) (.node 23 (.ce (.bool)) .nil .nil) (.node 25 (.ce (.int .i64)) .nil .nil))) (.node 30 (.ce (.bool)) (.node 28 (.ce (.bool)) (.node 27 (.ce (.bool)) .nil .nil) (.node 29 (.ce (.bool)) .nil .nil)) (.node 32 (.ce (.bool)) (.node 31 (.ce (.bool)) .nil .nil) (.node 33 (.ce (.bool)) .nil .nil)))))

noncomputable def D_law_ProofChecks_k1 (pg : Prg) (b5 : Bool) (x6 : Int) (x7 : Int) (b8 : Bool) (gh : List GObj) : Option (IExit × St) := 
  callR gh true (callL pg 147 [] gh) fun r1 gh2 => unB r1 fun b3 => 
  br 24 b3 (
  br 29 (x6 == x7) (some (.ret, ⟨[(4, (.bool (b5 == b8)))], [], gh2⟩)) (some (.ret, ⟨[(4, (.bool false))], [], gh2⟩))) (some (.ret, ⟨[(4, (.bool false))], [], gh2⟩))

theorem D_law_ProofChecks_k1_ok {pg : Prg} {gh : List GObj} {b5 : Bool} {x6 : Int} {x7 : Int} {b8 : Bool} {e : IExit} {s : St} (h : D_law_ProofChecks_k1 pg b5 x6 x7 b8 gh = some (e, s)) : runL pg f_law_ProofChecks_k1 ⟨[(5, (.bool b5)), (6, (.int .i64 x6)), (7, (.int .i64 x7)), (8, (.bool b8))], [], gh⟩ = some (e, s) :=
  runX_ok an_law_ProofChecks (Eq.trans (by kernel_rfl) h)

noncomputable def D_law_ProofChecks_0 (pg : Prg) (x0_0 : Int) (v0_1 : PV) (v1 : PV) (gh : List GObj) : Option (IExit × St) := onK (degr1 v0_1) (stK 1 v1 (isC (degr v1) (onK (degr1 (degr1 (degr1 v0_1))) (arK (degr (degr v1)) (
  callR gh true (callL pg 149 [(.agg [(.int .i64 x0_0), (degr1 (degr1 (degr1 v0_1)))]), (degr (degr v1))] gh) fun r1 gh2 => unT 2 r1 fun r3 r4 => unB (degr1 (degr1 r3)) fun b5 => unI .i64 (degr1 (degr1 r4)) fun n6 => stK 1 v1 (isC (degr v1) (onK (degr1 (degr1 (degr1 v0_1))) (arK (degr (degr v1)) (
  callR gh2 true (callL pg 150 [(.agg [(.int .i64 x0_0), (degr1 (degr1 (degr1 v0_1)))]), (degr (degr v1))] gh2) fun r7 gh8 => unI .i64 r7 fun n9 => stK 1 v1 (stK 1 v1 (
  br 19 (n9 == 0) (isC (degr v1) (onK (degr1 (degr1 (degr1 v0_1))) (arK (degr (degr v1)) (
  callR gh8 true (callL pg 151 [(.agg [(.int .i64 x0_0), (degr1 (degr1 (degr1 v0_1)))]), (degr (degr v1))] gh8) fun r10 gh11 => unB r10 fun b12 => 
  kR (runL pg f_law_ProofChecks_k1 ⟨[(5, (.bool b5)), (6, (.int .i64 n6)), (7, (.int .i64 n9)), (8, (.bool b12))], [], gh11⟩) (fun e s => some (e, s)))))) (
  kR (runL pg f_law_ProofChecks_k1 ⟨[(5, (.bool b5)), (6, (.int .i64 n6)), (7, (.int .i64 n9)), (8, (.bool false))], [], gh8⟩) (fun e s => some (e, s))))))))))))))

theorem D_law_ProofChecks_0_ok {pg : Prg} {gh : List GObj} {x0_0 : Int} {v0_1 : PV} {v1 : PV} {e : IExit} {s : St} (h : D_law_ProofChecks_0 pg x0_0 v0_1 v1 gh = some (e, s)) : runL pg f_law_ProofChecks_0 ⟨[(0, (.agg [(.int .i64 x0_0), v0_1])), (1, v1)], [], gh⟩ = some (e, s) :=
  runX_ok an_law_ProofChecks (Eq.trans (by kernel_rfl) h)

end Go.Lw
end
