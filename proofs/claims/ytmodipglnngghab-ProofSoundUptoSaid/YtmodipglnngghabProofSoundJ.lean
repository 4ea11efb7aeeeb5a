/-
  The texts that the proof stands on, part 10.
-/
import Derived.Test.YtmodipglnngghabProofSoundI
import Derived.KernelRfl
set_option linter.unusedVariables false
set_option linter.unusedSimpArgs false
set_option linter.unnecessarySimpa false

/-! What the code of function proof_checker_put comes to, piece by piece. Written by program (dprint.py). -/
section
set_option maxRecDepth 10000
set_option maxHeartbeats 4000000
namespace Go.Lw
open Go

def an_proof_checker_put : Tr := (.node 17 (.ce (.bool)) (.node 9 (.ce (.int .i64)) (.node 4 (.ce (.bool)) (.node 1 (.ce (.int .i64)) (.node 0 (.ce (.gp)) .nil .nil) .nil) (.node 8 (.ce (.one)) (.node 5 (.ce (.gp)) .nil .nil) .nil)) (.node 12 (.ce (.gp)) (.node 11 (.ce (.bool)) (.node 10 (.ce (.int .i64)) .nil .nil) .nil) (.node 16 (.ce (.int .i64)) (.node 15 (.ce (.one)) .nil .nil) .nil))) (.node 25 (.ce (.gp)) (.node 22 (.ce (.one)) (.node 19 (.ce (.gp)) (.node 18 (.ce (.bool)) .nil .nil) .nil) (.node 24 (.ce (.gp)) (.node 23 (.ce (.int .i64)) .nil .nil) .nil)) (.node 30 (.ce (.one)) (.node 29 (.ce (.int .i64)) (.node 28 (.ce (.one)) .nil .nil) .nil) (.node 31 (.ce (.one)) .nil .nil))))

noncomputable def D_proof_checker_put_k1 (pg : Prg)  (gh : List GObj) : Option (IExit × St) := some (.ret, ⟨[(4, (.bool true))], [], gh⟩)

theorem D_proof_checker_put_k1_ok {pg : Prg} {gh : List GObj}  {e : IExit} {s : St} (h : D_proof_checker_put_k1 pg  gh = some (e, s)) : runL pg f_proof_checker_put_k1 ⟨[], [], gh⟩ = some (e, s) :=
  runX_ok an_proof_checker_put (Eq.trans (by kernel_rfl) h)

noncomputable def D_proof_checker_put_0 (pg : Prg) (g0 : Nat) (o0 : Nat) (x1 : Int) (gh : List GObj) : Option (IExit × St) := 
  ob (ghCells gh g0) fun cs1 => 
  ob (grab false 1 (o0 + 2) cs1) fun v2 => isC (degr v2) (
  lkX gh 0 (degr (degr v2)) (.int .i64 (IntKind.i64.wrap (0 - x1))) fun r3 => unB (Option.getD r3 (.bool false)) fun b4 => 
  br 11 b4 (some (.ret, ⟨[(4, (.bool false))], [], gh⟩)) (
  ob (ghCells gh g0) fun cs5 => 
  ob (grab false 1 (o0 + 2) cs5) fun v6 => isC (degr v6) (
  lkX gh 0 (degr (degr v6)) (.int .i64 x1) fun r7 => unB (Option.getD r7 (.bool false)) fun b8 => 
  br 18 (!b8) (
  ob (ghCells gh g0) fun cs9 => 
  ob (grab false 1 (o0 + 2) cs9) fun v10 => isC (degr v10) (
  muX gh 0 (degr (degr v10)) (.int .i64 x1) (.bool true) fun gh11 => 
  ob (ghCells gh11 g0) fun cs12 => 
  ob (grab false 1 (o0 + 3) cs12) fun v13 => isC (degr v13) (
  anX gh11 8 (degr (degr v13)) (.sl false 1 [(.int .i64 x1)]) fun gh14 v15 => isC v15 (arK v15 (isC v15 (
  ob (ghCells gh14 g0) fun cs16 => gb (stOk 1 (o0 + 3) [v15] cs16) (
  kR (runL pg f_proof_checker_put_k1 ⟨[], [], (List.set gh14 g0 (.cells (spliceAt cs16 (o0 + 3) [v15])))⟩) (fun e s => some (e, s))))))))) (
  kR (runL pg f_proof_checker_put_k1 ⟨[], [], gh⟩) (fun e s => some (e, s))))))

theorem D_proof_checker_put_0_ok {pg : Prg} {gh : List GObj} {g0 : Nat} {o0 : Nat} {x1 : Int} {e : IExit} {s : St} (h : D_proof_checker_put_0 pg g0 o0 x1 gh = some (e, s)) : runL pg f_proof_checker_put_0 ⟨[(0, (.ptr true g0 o0)), (1, (.int .i64 x1))], [], gh⟩ = some (e, s) :=
  runX_ok an_proof_checker_put (Eq.trans (by kernel_rfl) h)

end Go.Lw
end

/-! What the code of function proof_checker_must comes to, piece by piece. Written by program (dprint.py). -/
section
set_option maxRecDepth 10000
set_option maxHeartbeats 4000000
namespace Go.Lw
open Go

def an_proof_checker_must : Tr := (.node 23 (.ce (.gp)) (.node 11 (.ce (.int .i64)) (.node 6 (.ce (.int .i64)) (.node 4 (.ce (.bool)) (.node 1 (.ce (.one)) (.node 0 (.ce (.gp)) .nil .nil) .nil) (.node 5 (.ce (.int .i64)) .nil .nil)) (.node 9 (.ce (.one)) (.node 8 (.ce (.int .i64)) .nil .nil) (.node 10 (.ce (.int .i64)) .nil .nil))) (.node 19 (.ce (.one)) (.node 15 (.ce (.bool)) (.node 14 (.ce (.int .i64)) (.node 12 (.ce (.bool)) .nil .nil) .nil) (.node 16 (.ce (.gp)) .nil .nil)) (.node 21 (.ce (.bool)) (.node 20 (.ce (.int .i64)) .nil .nil) (.node 22 (.ce (.bool)) .nil .nil)))) (.node 34 (.ce (.int .i64)) (.node 30 (.ce (.bool)) (.node 28 (.ce (.int .i64)) (.node 27 (.ce (.int .i64)) (.node 26 (.ce (.one)) .nil .nil) .nil) (.node 29 (.ce (.bool)) .nil .nil)) (.node 32 (.ce (.int .i64)) (.node 31 (.ce (.int .i64)) .nil .nil) (.node 33 (.ce (.int .i64)) .nil .nil))) (.node 39 (.ce (.bool)) (.node 37 (.ce (.bool)) (.node 36 (.ce (.bool)) (.node 35 (.ce (.int .i64)) .nil .nil) .nil) (.node 38 (.ce (.bool)) .nil .nil)) (.node 41 (.ce (.int .i64)) (.node 40 (.ce (.gp)) .nil .nil) (.node 42 (.ce (.bool)) .nil .nil)))))

noncomputable def D_proof_checker_must_k1 (pg : Prg) (g0 : Nat) (o0 : Nat) (x5 : Int) (x6 : Int) (v9 : PV) (x10 : Int) (x11 : Int) (gh : List GObj) : Option (IExit × St) := stK 0 v9 (some (.normal, ⟨[(0, (.ptr true g0 o0)), (5, (.int .i64 x5)), (6, (.int .i64 x6)), (9, v9), (10, (.int .i64 x10)), (11, (.int .i64 (IntKind.i64.wrap (x11 + 1))))], [], gh⟩))

theorem D_proof_checker_must_k1_ok {pg : Prg} {gh : List GObj} {g0 : Nat} {o0 : Nat} {x5 : Int} {x6 : Int} {v9 : PV} {x10 : Int} {x11 : Int} {e : IExit} {s : St} (h : D_proof_checker_must_k1 pg g0 o0 x5 x6 v9 x10 x11 gh = some (e, s)) : runL pg f_proof_checker_must_k1 ⟨[(0, (.ptr true g0 o0)), (5, (.int .i64 x5)), (6, (.int .i64 x6)), (9, v9), (10, (.int .i64 x10)), (11, (.int .i64 x11))], [], gh⟩ = some (e, s) :=
  runX_ok an_proof_checker_must (Eq.trans (by kernel_rfl) h)

noncomputable def D_proof_checker_must_b1 (pg : Prg) (g0 : Nat) (o0 : Nat) (x5 : Int) (x6 : Int) (v9 : PV) (x10 : Int) (x11 : Int) (gh : List GObj) : Option (IExit × St) := 
  br 12 (decide (x11 < x10)) (
  idX 1 none (degr v9) x11 fun p1 => 
  lkK gh (degr p1) fun v2 => unI .i64 v2 fun n3 => stK 0 v9 (
  ob (ghCells gh g0) fun cs4 => 
  ob (grab false 1 (o0 + 2) cs4) fun v5 => isC (degr v5) (
  lkX gh 0 (degr (degr v5)) (.int .i64 n3) fun r6 => unB (Option.getD r6 (.bool false)) fun b7 => stK 0 v9 (
  br 15 b7 (some (.ret, ⟨[(4, (.bool true))], [], gh⟩)) (
  ob (ghCells gh g0) fun cs8 => 
  ob (grab false 1 (o0 + 2) cs8) fun v10 => isC (degr v10) (
  lkX gh 0 (degr (degr v10)) (.int .i64 (IntKind.i64.wrap (0 - n3))) fun r11 => unB (Option.getD r11 (.bool false)) fun b12 => stK 0 v9 (
  br 22 (!b12) (stK 0 v9 (stK 0 v9 (stK 0 v9 (
  kR (runL pg f_proof_checker_must_k1 ⟨[(0, (.ptr true g0 o0)), (5, (.int .i64 n3)), (6, (.int .i64 (IntKind.i64.wrap (x6 + 1)))), (9, v9), (10, (.int .i64 x10)), (11, (.int .i64 x11))], [], gh⟩) (fun e s => po [0, 5, 6, 9, 10, 11] 0 e s (fun e s => some (e, s))))))) (stK 0 v9 (
  kR (runL pg f_proof_checker_must_k1 ⟨[(0, (.ptr true g0 o0)), (5, (.int .i64 x5)), (6, (.int .i64 x6)), (9, v9), (10, (.int .i64 x10)), (11, (.int .i64 x11))], [], gh⟩) (fun e s => po [0, 5, 6, 9, 10, 11] 0 e s (fun e s => some (e, s)))))))))))) (some ((.exit 0), ⟨[(0, (.ptr true g0 o0)), (5, (.int .i64 x5)), (6, (.int .i64 x6)), (9, v9), (10, (.int .i64 x10)), (11, (.int .i64 x11)), (12, (.bool (decide (x11 < x10))))], [], gh⟩))

theorem D_proof_checker_must_b1_ok {pg : Prg} {gh : List GObj} {g0 : Nat} {o0 : Nat} {x5 : Int} {x6 : Int} {v9 : PV} {x10 : Int} {x11 : Int} {e : IExit} {s : St} (h : D_proof_checker_must_b1 pg g0 o0 x5 x6 v9 x10 x11 gh = some (e, s)) : runL pg f_proof_checker_must_b1 ⟨[(0, (.ptr true g0 o0)), (5, (.int .i64 x5)), (6, (.int .i64 x6)), (9, v9), (10, (.int .i64 x10)), (11, (.int .i64 x11))], [], gh⟩ = some (e, s) :=
  runX_ok an_proof_checker_must (Eq.trans (by kernel_rfl) h)

noncomputable def D_proof_checker_must_k2 (pg : Prg) (g0 : Nat) (o0 : Nat) (x5 : Int) (x6 : Int) (gh : List GObj) : Option (IExit × St) := 
  br 36 (x6 == 0) (some (.ret, ⟨[(4, (.bool false))], [], gh⟩)) (
  br 38 (x6 == 1) (
  callR gh false (callL pg 158 [(.ptr true g0 o0), (.int .i64 x5)] gh) fun r1 gh2 => unB r1 fun b3 => some (.ret, ⟨[(4, (.bool b3))], [], gh2⟩)) (some (.ret, ⟨[(4, (.bool true))], [], gh⟩)))

theorem D_proof_checker_must_k2_ok {pg : Prg} {gh : List GObj} {g0 : Nat} {o0 : Nat} {x5 : Int} {x6 : Int} {e : IExit} {s : St} (h : D_proof_checker_must_k2 pg g0 o0 x5 x6 gh = some (e, s)) : runL pg f_proof_checker_must_k2 ⟨[(0, (.ptr true g0 o0)), (5, (.int .i64 x5)), (6, (.int .i64 x6))], [], gh⟩ = some (e, s) :=
  runX_ok an_proof_checker_must (Eq.trans (by kernel_rfl) h)

noncomputable def D_proof_checker_must_0 (pg : Prg) (g0 : Nat) (o0 : Nat) (v1 : PV) (gh : List GObj) : Option (IExit × St) := stK 0 v1 (isC (degr v1) (lenS (degr (degr v1)) fun n1 => stK 0 (degr v1) (
  kR (runL pg f_proof_checker_must_l1 ⟨[(0, (.ptr true g0 o0)), (5, (.int .i64 0)), (6, (.int .i64 0)), (9, (degr v1)), (10, (.int .i64 (n1 : Int))), (11, (.int .i64 0))], [], gh⟩) (fun e s => nx e s (fun e s => some (e, s)) fun s => kR (runL pg f_proof_checker_must_k2 s) (fun e s => some (e, s))))))

theorem D_proof_checker_must_0_ok {pg : Prg} {gh : List GObj} {g0 : Nat} {o0 : Nat} {v1 : PV} {e : IExit} {s : St} (h : D_proof_checker_must_0 pg g0 o0 v1 gh = some (e, s)) : runL pg f_proof_checker_must_0 ⟨[(0, (.ptr true g0 o0)), (1, v1)], [], gh⟩ = some (e, s) :=
  runX_ok an_proof_checker_must (Eq.trans (by kernel_rfl) h)

end Go.Lw
end

/-! What the code of function proof_checker_follows comes to, piece by piece. Written by program (dprint.py). -/
section
set_option maxRecDepth 10000
set_option maxHeartbeats 4000000
namespace Go.Lw
open Go

def an_proof_checker_follows : Tr := (.node 49 (.ce (.int .i64)) (.node 28 (.ce (.bool)) (.node 14 (.ce (.one)) (.node 8 (.ce (.one)) (.node 4 (.ce (.bool)) (.node 1 (.ce (.one)) (.node 0 (.ce (.gp)) .nil .nil) .nil) (.node 6 (.ce (.int .i64)) .nil .nil)) (.node 12 (.ce (.gp)) (.node 11 (.ce (.int .i64)) (.node 9 (.ce (.int .i64)) .nil .nil) .nil) (.node 13 (.ce (.gp)) .nil .nil))) (.node 24 (.ce (.int .i64)) (.node 21 (.ce (.int .i64)) (.node 20 (.ce (.int .i64)) (.node 19 (.ce (.one)) .nil .nil) .nil) (.node 22 (.ce (.bool)) .nil .nil)) (.node 26 (.ce (.int .i64)) (.node 25 (.ce (.gp)) .nil .nil) (.node 27 (.ce (.int .i64)) .nil .nil)))) (.node 40 (.ce (.one)) (.node 35 (.ce (.int .i64)) (.node 31 (.ce (.gp)) (.node 30 (.ce (.int .i64)) (.node 29 (.ce (.bool)) .nil .nil) .nil) (.node 34 (.ce (.one)) .nil .nil)) (.node 37 (.ce (.bool)) (.node 36 (.ce (.int .i64)) .nil .nil) (.node 39 (.ce (.one)) .nil .nil))) (.node 45 (.ce (.one)) (.node 43 (.ce (.bool)) (.node 42 (.ce (.bool)) (.node 41 (.ce (.int .i64)) .nil .nil) .nil) (.node 44 (.ce (.gp)) .nil .nil)) (.node 47 (.ce (.bool)) (.node 46 (.ce (.bool)) .nil .nil) (.node 48 (.ce (.bool)) .nil .nil))))) (.node 79 (.ce (.one)) (.node 65 (.ce (.int .i64)) (.node 56 (.ce (.gp)) (.node 54 (.ce (.int .i64)) (.node 53 (.ce (.one)) (.node 50 (.ce (.gp)) .nil .nil) .nil) (.node 55 (.ce (.bool)) .nil .nil)) (.node 63 (.ce (.one)) (.node 60 (.ce (.gp)) (.node 59 (.ce (.one)) .nil .nil) .nil) (.node 64 (.ce (.int .i64)) .nil .nil))) (.node 73 (.ce (.gp)) (.node 69 (.ce (.gp)) (.node 68 (.ce (.gp)) (.node 67 (.ce (.int .i64)) .nil .nil) .nil) (.node 72 (.ce (.one)) .nil .nil)) (.node 77 (.ce (.int .i64)) (.node 76 (.ce (.one)) .nil .nil) (.node 78 (.ce (.int .i64)) .nil .nil)))) (.node 93 (.ce (.int .i64)) (.node 88 (.ce (.one)) (.node 86 (.ce (.int .i64)) (.node 85 (.ce (.one)) (.node 82 (.ce (.gp)) .nil .nil) .nil) (.node 87 (.ce (.int .i64)) .nil .nil)) (.node 90 (.ce (.int .i64)) (.node 89 (.ce (.int .i64)) .nil .nil) (.node 91 (.ce (.bool)) .nil .nil))) (.node 101 (.ce (.one)) (.node 98 (.ce (.one)) (.node 95 (.ce (.gp)) (.node 94 (.ce (.gp)) .nil .nil) .nil) (.node 99 (.ce (.int .i64)) .nil .nil)) (.node 103 (.ce (.bool)) (.node 102 (.ce (.bool)) .nil .nil) (.node 104 (.ce (.int .i64)) .nil .nil))))))

noncomputable def D_proof_checker_follows_b1 (pg : Prg) (g0 : Nat) (o0 : Nat) (v19 : PV) (x20 : Int) (x21 : Int) (gh : List GObj) : Option (IExit × St) := 
  br 22 (decide (x21 < x20)) (
  idX 1 none (degr v19) x21 fun p1 => 
  ldX [] gh false 1 (degr p1) fun v2 => unI .i64 v2 fun n3 => stK 0 v19 (
  callR gh false (callL pg 158 [(.ptr true g0 o0), (.int .i64 (IntKind.i64.wrap (0 - n3)))] gh) fun r4 gh5 => unB r4 fun b6 => stK 0 v19 (
  br 29 (!b6) (some (.ret, ⟨[(4, (.bool true))], [], gh5⟩)) (stK 0 v19 (stK 0 v19 (some (.normal, ⟨[(0, (.ptr true g0 o0)), (19, v19), (20, (.int .i64 x20)), (21, (.int .i64 (IntKind.i64.wrap (x21 + 1))))], [], gh5⟩))))))) (some ((.exit 0), ⟨[(0, (.ptr true g0 o0)), (19, v19), (20, (.int .i64 x20)), (21, (.int .i64 x21)), (22, (.bool (decide (x21 < x20))))], [], gh⟩))

theorem D_proof_checker_follows_b1_ok {pg : Prg} {gh : List GObj} {g0 : Nat} {o0 : Nat} {v19 : PV} {x20 : Int} {x21 : Int} {e : IExit} {s : St} (h : D_proof_checker_follows_b1 pg g0 o0 v19 x20 x21 gh = some (e, s)) : runL pg f_proof_checker_follows_b1 ⟨[(0, (.ptr true g0 o0)), (19, v19), (20, (.int .i64 x20)), (21, (.int .i64 x21))], [], gh⟩ = some (e, s) :=
  runX_ok an_proof_checker_follows (Eq.trans (by kernel_rfl) h)

noncomputable def D_proof_checker_follows_b2 (pg : Prg) (g0 : Nat) (o0 : Nat) (v34 : PV) (x35 : Int) (x36 : Int) (gh : List GObj) : Option (IExit × St) := 
  br 37 (decide (x36 < x35)) (
  idX 1 none (degr v34) x36 fun p1 => 
  ldX [] gh false 1 (degr p1) fun v2 => isC v2 (stK 0 v2 (stK 0 v34 (isC (degr v2) (lenS (degr (degr v2)) fun n3 => 
  br 43 (decide ((n3 : Int) < 2)) (isC (degr v2) (arK (degr (degr v2)) (
  callR gh false (callL pg 159 [(.ptr true g0 o0), (degr (degr v2))] gh) fun r4 gh5 => unB r4 fun b6 => stK 0 v34 (
  br 48 (!b6) (some (.ret, ⟨[(4, (.bool true))], [], gh5⟩)) (stK 0 v34 (stK 0 v34 (some (.normal, ⟨[(0, (.ptr true g0 o0)), (34, v34), (35, (.int .i64 x35)), (36, (.int .i64 (IntKind.i64.wrap (x36 + 1))))], [], gh5⟩)))))))) (stK 0 v34 (stK 0 v34 (stK 0 v34 (some (.normal, ⟨[(0, (.ptr true g0 o0)), (34, v34), (35, (.int .i64 x35)), (36, (.int .i64 (IntKind.i64.wrap (x36 + 1))))], [], gh⟩)))))))))) (some ((.exit 2), ⟨[(0, (.ptr true g0 o0)), (34, v34), (35, (.int .i64 x35)), (36, (.int .i64 x36)), (37, (.bool (decide (x36 < x35))))], [], gh⟩))

theorem D_proof_checker_follows_b2_ok {pg : Prg} {gh : List GObj} {g0 : Nat} {o0 : Nat} {v34 : PV} {x35 : Int} {x36 : Int} {e : IExit} {s : St} (h : D_proof_checker_follows_b2 pg g0 o0 v34 x35 x36 gh = some (e, s)) : runL pg f_proof_checker_follows_b2 ⟨[(0, (.ptr true g0 o0)), (34, v34), (35, (.int .i64 x35)), (36, (.int .i64 x36))], [], gh⟩ = some (e, s) :=
  runX_ok an_proof_checker_follows (Eq.trans (by kernel_rfl) h)

noncomputable def D_proof_checker_follows_b4 (pg : Prg) (g0 : Nat) (o0 : Nat) (v88 : PV) (x89 : Int) (x90 : Int) (gh : List GObj) : Option (IExit × St) := 
  br 91 (decide (x90 < x89)) (
  idX 1 none (degr v88) x90 fun p1 => 
  lkK gh (degr p1) fun v2 => unI .i64 v2 fun n3 => stK 0 v88 (
  ob (ghCells gh g0) fun cs4 => 
  ob (grab false 1 (o0 + 0) cs4) fun v5 => isC (degr v5) (
  idX 1 none (degr (degr v5)) n3 fun p6 => 
  ldX [] gh false 1 (degr p6) fun v7 => isC v7 (arK (degr v7) (
  callR gh false (callL pg 159 [(.ptr true g0 o0), (degr v7)] gh) fun r8 gh9 => unB r8 fun b10 => stK 0 v88 (
  br 103 (!b10) (some (.ret, ⟨[(4, (.bool true))], [], gh9⟩)) (stK 0 v88 (stK 0 v88 (some (.normal, ⟨[(0, (.ptr true g0 o0)), (88, v88), (89, (.int .i64 x89)), (90, (.int .i64 (IntKind.i64.wrap (x90 + 1))))], [], gh9⟩)))))))))) (some ((.exit 6), ⟨[(0, (.ptr true g0 o0)), (88, v88), (89, (.int .i64 x89)), (90, (.int .i64 x90)), (91, (.bool (decide (x90 < x89))))], [], gh⟩))

theorem D_proof_checker_follows_b4_ok {pg : Prg} {gh : List GObj} {g0 : Nat} {o0 : Nat} {v88 : PV} {x89 : Int} {x90 : Int} {e : IExit} {s : St} (h : D_proof_checker_follows_b4 pg g0 o0 v88 x89 x90 gh = some (e, s)) : runL pg f_proof_checker_follows_b4 ⟨[(0, (.ptr true g0 o0)), (88, v88), (89, (.int .i64 x89)), (90, (.int .i64 x90))], [], gh⟩ = some (e, s) :=
  runX_ok an_proof_checker_follows (Eq.trans (by kernel_rfl) h)

noncomputable def D_proof_checker_follows_b3 (pg : Prg) (g0 : Nat) (o0 : Nat) (gh : List GObj) : Option (IExit × St) := 
  ob (ghCells gh g0) fun cs1 => 
  ob (grab false 1 (o0 + 3) cs1) fun v2 => isC (degr v2) (lenS (degr (degr v2)) fun n3 => 
  br 55 (decide (0 < (n3 : Int))) (
  ob (ghCells gh g0) fun cs4 => 
  ob (grab false 1 (o0 + 3) cs4) fun v5 => isC (degr v5) (
  ob (ghCells gh g0) fun cs6 => 
  ob (grab false 1 (o0 + 3) cs6) fun v7 => isC (degr v7) (lenS (degr (degr v7)) fun n8 => 
  idX 1 none (degr (degr v5)) (IntKind.i64.wrap ((n8 : Int) - 1)) fun p9 => 
  lkK gh (degr p9) fun v10 => unI .i64 v10 fun n11 => 
  ob (ghCells gh g0) fun cs12 => 
  ob (grab false 1 (o0 + 3) cs12) fun v13 => isC (degr v13) (
  ob (ghCells gh g0) fun cs14 => 
  ob (grab false 1 (o0 + 3) cs14) fun v15 => isC (degr v15) (lenS (degr (degr v15)) fun n16 => 
  slX 1 (degr (degr v13)) none (some (IntKind.i64.wrap ((n16 : Int) - 1))) fun v17 => isC v17 (arK v17 (isC v17 (
  ob (ghCells gh g0) fun cs18 => gb (stOk 1 (o0 + 3) [v17] cs18) (
  ob (ghCells (List.set gh g0 (.cells (spliceAt cs18 (o0 + 3) [v17]))) g0) fun cs19 => 
  ob (grab false 1 (o0 + 1) cs19) fun v20 => isC (degr v20) (
  lkX (List.set gh g0 (.cells (spliceAt cs18 (o0 + 3) [v17]))) 0 (degr (degr v20)) (.int .i64 (IntKind.i64.wrap (0 - n11))) fun r21 => isC (Option.getD r21 .nils) (lenS (degr (Option.getD r21 .nils)) fun n22 => stK 0 (Option.getD r21 .nils) (
  kR (runL pg f_proof_checker_follows_l4 ⟨[(0, (.ptr true g0 o0)), (88, (Option.getD r21 .nils)), (89, (.int .i64 (n22 : Int))), (90, (.int .i64 0))], [], (List.set gh g0 (.cells (spliceAt cs18 (o0 + 3) [v17])))⟩) (fun e s => bk 5 e s (fun e s => po [0] 0 e s (fun e s => some (e, s)))))))))))))))) (some ((.exit 4), ⟨[(0, (.ptr true g0 o0)), (55, (.bool (decide (0 < (n3 : Int)))))], [], gh⟩)))

theorem D_proof_checker_follows_b3_ok {pg : Prg} {gh : List GObj} {g0 : Nat} {o0 : Nat} {e : IExit} {s : St} (h : D_proof_checker_follows_b3 pg g0 o0 gh = some (e, s)) : runL pg f_proof_checker_follows_b3 ⟨[(0, (.ptr true g0 o0))], [], gh⟩ = some (e, s) :=
  runX_ok an_proof_checker_follows (Eq.trans (by kernel_rfl) h)

noncomputable def D_proof_checker_follows_k3 (pg : Prg)  (gh : List GObj) : Option (IExit × St) := some (.ret, ⟨[(4, (.bool false))], [], gh⟩)

theorem D_proof_checker_follows_k3_ok {pg : Prg} {gh : List GObj}  {e : IExit} {s : St} (h : D_proof_checker_follows_k3 pg  gh = some (e, s)) : runL pg f_proof_checker_follows_k3 ⟨[], [], gh⟩ = some (e, s) :=
  runX_ok an_proof_checker_follows (Eq.trans (by kernel_rfl) h)

noncomputable def D_proof_checker_follows_k2 (pg : Prg) (g0 : Nat) (o0 : Nat) (gh : List GObj) : Option (IExit × St) := 
  kR (runL pg f_proof_checker_follows_l3 ⟨[(0, (.ptr true g0 o0))], [], gh⟩) (fun e s => nx e s (fun e s => some (e, s)) fun s => kR (runL pg f_proof_checker_follows_k3 s) (fun e s => some (e, s)))

theorem D_proof_checker_follows_k2_ok {pg : Prg} {gh : List GObj} {g0 : Nat} {o0 : Nat} {e : IExit} {s : St} (h : D_proof_checker_follows_k2 pg g0 o0 gh = some (e, s)) : runL pg f_proof_checker_follows_k2 ⟨[(0, (.ptr true g0 o0))], [], gh⟩ = some (e, s) :=
  runX_ok an_proof_checker_follows (Eq.trans (by kernel_rfl) h)

noncomputable def D_proof_checker_follows_k1 (pg : Prg) (g0 : Nat) (o0 : Nat) (gh : List GObj) : Option (IExit × St) := 
  ob (ghCells gh g0) fun cs1 => 
  ob (grab false 1 (o0 + 0) cs1) fun v2 => isC (degr v2) (lenS (degr (degr v2)) fun n3 => stK 0 (degr v2) (
  kR (runL pg f_proof_checker_follows_l2 ⟨[(0, (.ptr true g0 o0)), (34, (degr v2)), (35, (.int .i64 (n3 : Int))), (36, (.int .i64 0))], [], gh⟩) (fun e s => nx e s (fun e s => some (e, s)) fun s => kR (runL pg f_proof_checker_follows_k2 s) (fun e s => some (e, s)))))

theorem D_proof_checker_follows_k1_ok {pg : Prg} {gh : List GObj} {g0 : Nat} {o0 : Nat} {e : IExit} {s : St} (h : D_proof_checker_follows_k1 pg g0 o0 gh = some (e, s)) : runL pg f_proof_checker_follows_k1 ⟨[(0, (.ptr true g0 o0))], [], gh⟩ = some (e, s) :=
  runX_ok an_proof_checker_follows (Eq.trans (by kernel_rfl) h)

noncomputable def D_proof_checker_follows_0 (pg : Prg) (g0 : Nat) (o0 : Nat) (v1 : PV) (gh : List GObj) : Option (IExit × St) := stK 0 v1 (
  ob (ghCells (gh ++ [.map []]) g0) fun cs1 => gb (stOk 1 (o0 + 2) [(.mp (List.length gh))] cs1) (
  ob (ghCells (List.set (gh ++ [.map []]) g0 (.cells (spliceAt cs1 (o0 + 2) [(.mp (List.length gh))]))) g0) fun cs2 => gb (stOk 1 (o0 + 3) [.nils] cs2) (stK 0 v1 (isC (degr v1) (lenS (degr (degr v1)) fun n3 => stK 0 (degr v1) (
  kR (runL pg f_proof_checker_follows_l1 ⟨[(0, (.ptr true g0 o0)), (19, (degr v1)), (20, (.int .i64 (n3 : Int))), (21, (.int .i64 0))], [], (List.set (List.set (gh ++ [.map []]) g0 (.cells (spliceAt cs1 (o0 + 2) [(.mp (List.length gh))]))) g0 (.cells (spliceAt cs2 (o0 + 3) [.nils])))⟩) (fun e s => nx e s (fun e s => some (e, s)) fun s => kR (runL pg f_proof_checker_follows_k1 s) (fun e s => some (e, s)))))))))

theorem D_proof_checker_follows_0_ok {pg : Prg} {gh : List GObj} {g0 : Nat} {o0 : Nat} {v1 : PV} {e : IExit} {s : St} (h : D_proof_checker_follows_0 pg g0 o0 v1 gh = some (e, s)) : runL pg f_proof_checker_follows_0 ⟨[(0, (.ptr true g0 o0)), (1, v1)], [], gh⟩ = some (e, s) :=
  runX_ok an_proof_checker_follows (Eq.trans (by kernel_rfl) h)

end Go.Lw
end

/-! What the code of function proof_checker_add comes to, piece by piece. Written by program (dprint.py). -/
section
set_option maxRecDepth 10000
set_option maxHeartbeats 4000000
namespace Go.Lw
open Go

def an_proof_checker_add : Tr := (.node 23 (.ce (.gp)) (.node 12 (.ce (.one)) (.node 7 (.ce (.one)) (.node 5 (.ce (.int .i64)) (.node 1 (.ce (.one)) (.node 0 (.ce (.gp)) .nil .nil) .nil) (.node 6 (.ce (.one)) .nil .nil)) (.node 10 (.ce (.one)) (.node 8 (.ce (.one)) .nil .nil) (.node 11 (.ce (.one)) .nil .nil))) (.node 17 (.ce (.int .i64)) (.node 14 (.ce (.int .i64)) (.node 13 (.ce (.int .i64)) .nil .nil) (.node 15 (.ce (.bool)) .nil .nil)) (.node 21 (.ce (.one)) (.node 18 (.ce (.gp)) .nil .nil) (.node 22 (.ce (.int .i64)) .nil .nil)))) (.node 35 (.ce (.one)) (.node 29 (.ce (.gp)) (.node 27 (.ce (.int .i64)) (.node 26 (.ce (.one)) .nil .nil) (.node 28 (.ce (.one)) .nil .nil)) (.node 33 (.ce (.int .i64)) (.node 32 (.ce (.one)) .nil .nil) (.node 34 (.ce (.one)) .nil .nil))) (.node 41 (.ce (.one)) (.node 37 (.ce (.gp)) (.node 36 (.ce (.int .i64)) .nil .nil) (.node 38 (.ce (.gp)) .nil .nil)) (.node 43 (.ce (.one)) (.node 42 (.ce (.one)) .nil .nil) (.node 44 (.ce (.one)) .nil .nil)))))

noncomputable def D_proof_checker_add_b1 (pg : Prg) (g0 : Nat) (o0 : Nat) (v1 : PV) (v12 : PV) (x13 : Int) (x14 : Int) (gh : List GObj) : Option (IExit × St) := 
  br 15 (decide (x14 < x13)) (
  idX 1 none (degr v12) x14 fun p1 => 
  lkK gh (degr p1) fun v2 => unI .i64 v2 fun n3 => stK 0 v1 (stK 0 v12 (
  ob (ghCells gh g0) fun cs4 => 
  ob (grab false 1 (o0 + 1) cs4) fun v5 => isC (degr v5) (
  ob (ghCells gh g0) fun cs6 => 
  ob (grab false 1 (o0 + 1) cs6) fun v7 => isC (degr v7) (
  lkX gh 0 (degr (degr v7)) (.int .i64 n3) fun r8 => isC (Option.getD r8 .nils) (
  ob (ghCells gh g0) fun cs9 => 
  ob (grab false 1 (o0 + 0) cs9) fun v10 => isC (degr v10) (lenS (degr (degr v10)) fun n11 => 
  anX gh 8 (degr (Option.getD r8 .nils)) (.sl false 1 [(.int .i64 (n11 : Int))]) fun gh12 v13 => isC v13 (
  muX gh12 0 (degr (degr v5)) (.int .i64 n3) (degr v13) fun gh14 => stK 0 v1 (stK 0 v12 (stK 0 v1 (stK 0 v12 (stK 0 v1 (stK 0 v12 (some (.normal, ⟨[(0, (.ptr true g0 o0)), (1, v1), (12, v12), (13, (.int .i64 x13)), (14, (.int .i64 (IntKind.i64.wrap (x14 + 1))))], [], gh14⟩))))))))))))))) (some ((.exit 0), ⟨[(0, (.ptr true g0 o0)), (1, v1), (12, v12), (13, (.int .i64 x13)), (14, (.int .i64 x14)), (15, (.bool (decide (x14 < x13))))], [], gh⟩))

theorem D_proof_checker_add_b1_ok {pg : Prg} {gh : List GObj} {g0 : Nat} {o0 : Nat} {v1 : PV} {v12 : PV} {x13 : Int} {x14 : Int} {e : IExit} {s : St} (h : D_proof_checker_add_b1 pg g0 o0 v1 v12 x13 x14 gh = some (e, s)) : runL pg f_proof_checker_add_b1 ⟨[(0, (.ptr true g0 o0)), (1, v1), (12, v12), (13, (.int .i64 x13)), (14, (.int .i64 x14))], [], gh⟩ = some (e, s) :=
  runX_ok an_proof_checker_add (Eq.trans (by kernel_rfl) h)

noncomputable def D_proof_checker_add_k1 (pg : Prg) (g0 : Nat) (o0 : Nat) (v1 : PV) (gh : List GObj) : Option (IExit × St) := 
  ob (ghCells gh g0) fun cs1 => ob (cs1[(o0 + 0)]?) fun v2 => isC (degr v1) (arK (degr (degr v1)) (lnK 1 (degr (degr v1)) (
  apX 1 24 v2 (.sl false 1 [(degr (degr v1))]) fun l3 => 
  ob (ghCells (List.set gh g0 (.cells (spliceAt cs1 (o0 + 0) [degr1 v2]))) g0) fun cs4 => gb (stOk 1 (o0 + 0) [(.sl true 1 l3)] cs4) (some (.normal, ⟨[], [], (List.set (List.set gh g0 (.cells (spliceAt cs1 (o0 + 0) [degr1 v2]))) g0 (.cells (spliceAt cs4 (o0 + 0) [(.sl true 1 l3)])))⟩)))))

theorem D_proof_checker_add_k1_ok {pg : Prg} {gh : List GObj} {g0 : Nat} {o0 : Nat} {v1 : PV} {e : IExit} {s : St} (h : D_proof_checker_add_k1 pg g0 o0 v1 gh = some (e, s)) : runL pg f_proof_checker_add_k1 ⟨[(0, (.ptr true g0 o0)), (1, v1)], [], gh⟩ = some (e, s) :=
  runX_ok an_proof_checker_add (Eq.trans (by kernel_rfl) h)

noncomputable def D_proof_checker_add_0 (pg : Prg) (g0 : Nat) (o0 : Nat) (v1 : PV) (gh : List GObj) : Option (IExit × St) := isC (degr v1) (arK (degr (degr v1)) (
  callR gh false (callL pg 121 [(degr (degr v1))] gh) fun r1 gh2 => isC r1 (stK 0 r1 (isC (degr r1) (arK (degr (degr r1)) (
  callR gh2 false (callL pg 161 [(degr (degr r1))] gh2) fun r3 gh4 => stK 0 r1 (isC (degr r1) (arK (degr (degr r1)) (
  callR gh4 false (callL pg 162 [(degr (degr r1))] gh4) fun r5 gh6 => isC r5 (stK 0 r5 (isC (degr r5) (lenS (degr (degr r5)) fun n7 => stK 0 r5 (stK 0 (degr r5) (
  kR (runL pg f_proof_checker_add_l1 ⟨[(0, (.ptr true g0 o0)), (1, r5), (12, (degr r5)), (13, (.int .i64 (n7 : Int))), (14, (.int .i64 0))], [], gh6⟩) (fun e s => nx e s (fun e s => some (e, s)) fun s => kR (runL pg f_proof_checker_add_k1 s) (fun e s => some (e, s)))))))))))))))))

theorem D_proof_checker_add_0_ok {pg : Prg} {gh : List GObj} {g0 : Nat} {o0 : Nat} {v1 : PV} {e : IExit} {s : St} (h : D_proof_checker_add_0 pg g0 o0 v1 gh = some (e, s)) : runL pg f_proof_checker_add_0 ⟨[(0, (.ptr true g0 o0)), (1, v1)], [], gh⟩ = some (e, s) :=
  runX_ok an_proof_checker_add (Eq.trans (by kernel_rfl) h)

end Go.Lw
end

/-! What the code of function proof_open comes to, piece by piece. Written by program (dprint.py). -/
section
set_option maxRecDepth 10000
set_option maxHeartbeats 4000000
namespace Go.Lw
open Go

def an_proof_open : Tr := (.node 10 (.ce (.int .i64)) (.node 6 (.ce (.one)) (.node 3 (.ce (.gp)) (.node 0 (.ce (.one)) .nil .nil) (.node 5 (.ce (.one)) .nil .nil)) (.node 8 (.ce (.gp)) (.node 7 (.agg [.any, .any, .any, .any]) .nil .nil) (.node 9 (.ce (.one)) .nil .nil))) (.node 15 (.ce (.gp)) (.node 12 (.ce (.bool)) (.node 11 (.ce (.int .i64)) .nil .nil) (.node 14 (.ce (.one)) .nil .nil)) (.node 18 (.ce (.int .i64)) (.node 16 (.ce (.one)) .nil .nil) (.node 19 (.ce (.gp)) .nil .nil))))

noncomputable def D_proof_open_b1 (pg : Prg) (g3 : Nat) (o3 : Nat) (v9 : PV) (x10 : Int) (x11 : Int) (gh : List GObj) : Option (IExit × St) := 
  br 12 (decide (x11 < x10)) (
  idX 1 none (degr v9) x11 fun p1 => 
  ldX [] gh false 1 (degr p1) fun v2 => isC v2 (stK 0 v2 (stK 0 v9 (isC (degr v2) (arK (degr (degr v2)) (
  callR gh false (callL pg 157 [(.ptr true g3 o3), (degr (degr v2))] gh) fun r3 gh4 => stK 0 v9 (stK 0 v9 (stK 0 v9 (some (.normal, ⟨[(3, (.ptr true g3 o3)), (9, v9), (10, (.int .i64 x10)), (11, (.int .i64 (IntKind.i64.wrap (x11 + 1))))], [], gh4⟩)))))))))) (some ((.exit 0), ⟨[(3, (.ptr true g3 o3)), (9, v9), (10, (.int .i64 x10)), (11, (.int .i64 x11)), (12, (.bool (decide (x11 < x10))))], [], gh⟩))

theorem D_proof_open_b1_ok {pg : Prg} {gh : List GObj} {g3 : Nat} {o3 : Nat} {v9 : PV} {x10 : Int} {x11 : Int} {e : IExit} {s : St} (h : D_proof_open_b1 pg g3 o3 v9 x10 x11 gh = some (e, s)) : runL pg f_proof_open_b1 ⟨[(3, (.ptr true g3 o3)), (9, v9), (10, (.int .i64 x10)), (11, (.int .i64 x11))], [], gh⟩ = some (e, s) :=
  runX_ok an_proof_open (Eq.trans (by kernel_rfl) h)

noncomputable def D_proof_open_k1 (pg : Prg) (g3 : Nat) (o3 : Nat) (gh : List GObj) : Option (IExit × St) := some (.ret, ⟨[(2, (.ptr true g3 o3))], [], gh⟩)

theorem D_proof_open_k1_ok {pg : Prg} {gh : List GObj} {g3 : Nat} {o3 : Nat} {e : IExit} {s : St} (h : D_proof_open_k1 pg g3 o3 gh = some (e, s)) : runL pg f_proof_open_k1 ⟨[(3, (.ptr true g3 o3))], [], gh⟩ = some (e, s) :=
  runX_ok an_proof_open (Eq.trans (by kernel_rfl) h)

noncomputable def D_proof_open_0 (pg : Prg) (v0 : PV) (gh : List GObj) : Option (IExit × St) := stK 0 v0 (stK 0 v0 (isC (degr v0) (lenS (degr (degr v0)) fun n1 => stK 0 (degr v0) (
  kR (runL pg f_proof_open_l1 ⟨[(3, (.ptr true (List.length (gh ++ [.map []])) 0)), (9, (degr v0)), (10, (.int .i64 (n1 : Int))), (11, (.int .i64 0))], [], ((gh ++ [.map []]) ++ [.cells [(.sl true 1 []), (.mp (List.length gh)), .nilm, .nils]])⟩) (fun e s => nx e s (fun e s => some (e, s)) fun s => kR (runL pg f_proof_open_k1 s) (fun e s => some (e, s)))))))

theorem D_proof_open_0_ok {pg : Prg} {gh : List GObj} {v0 : PV} {e : IExit} {s : St} (h : D_proof_open_0 pg v0 gh = some (e, s)) : runL pg f_proof_open_0 ⟨[(0, v0)], [], gh⟩ = some (e, s) :=
  runX_ok an_proof_open (Eq.trans (by kernel_rfl) h)

end Go.Lw
end

/-! What the code of function gates_Nodes comes to, piece by piece. Written by program (dprint.py). -/
section
set_option maxRecDepth 10000
set_option maxHeartbeats 4000000
namespace Go.Lw
open Go

def an_gates_Nodes : Tr := (.node 5 (.ce (.int .i64)) (.node 2 (.ce (.int .i64)) (.node 0 (.agg [.int .i64, .any]) .nil .nil) (.node 4 (.ce (.int .i64)) .nil .nil)) (.node 8 (.ce (.int .i64)) (.node 7 (.ce (.one)) .nil .nil) (.node 9 (.ce (.int .i64)) .nil .nil)))

noncomputable def D_gates_Nodes_0 (pg : Prg) (x0_0 : Int) (v0_1 : PV) (gh : List GObj) : Option (IExit × St) := onK (degr1 v0_1) (isC (degr (degr1 v0_1)) (lenS (degr (degr (degr1 v0_1))) fun n1 => some (.ret, ⟨[(2, (.int .i64 (IntKind.i64.wrap ((IntKind.i64.wrap (1 + x0_0)) + (n1 : Int)))))], [], gh⟩)))

theorem D_gates_Nodes_0_ok {pg : Prg} {gh : List GObj} {x0_0 : Int} {v0_1 : PV} {e : IExit} {s : St} (h : D_gates_Nodes_0 pg x0_0 v0_1 gh = some (e, s)) : runL pg f_gates_Nodes_0 ⟨[(0, (.agg [(.int .i64 x0_0), v0_1]))], [], gh⟩ = some (e, s) :=
  runX_ok an_gates_Nodes (Eq.trans (by kernel_rfl) h)

end Go.Lw
end

/-! What the code of function slices_ContainsFunc_Lint_int comes to, piece by piece. Written by program (dprint.py). -/
section
set_option maxRecDepth 10000
set_option maxHeartbeats 4000000
namespace Go.Lw
open Go

def an_slices_ContainsFunc_Lint_int : Tr := (.node 5 (.ce (.one)) (.node 1 (.ce (.one)) (.node 0 (.ce (.one)) .nil .nil) (.node 4 (.ce (.bool)) .nil .nil)) (.node 7 (.ce (.int .i64)) (.node 6 (.ce (.one)) .nil .nil) (.node 8 (.ce (.bool)) .nil .nil)))

noncomputable def D_slices_ContainsFunc_Lint_int_0 (pg : Prg) (v0 : PV) (v1 : PV) (gh : List GObj) : Option (IExit × St) := stK 0 v0 (stK 0 v1 (isC (degr v0) (isC (degr v1) (arK (degr (degr v0)) (arK (degr (degr v1)) (
  callR gh true (callL pg 111 [(degr (degr v0)), (degr (degr v1))] gh) fun r1 gh2 => unI .i64 r1 fun n3 => some (.ret, ⟨[(4, (.bool (decide (0 ≤ n3))))], [], gh2⟩)))))))

theorem D_slices_ContainsFunc_Lint_int_0_ok {pg : Prg} {gh : List GObj} {v0 : PV} {v1 : PV} {e : IExit} {s : St} (h : D_slices_ContainsFunc_Lint_int_0 pg v0 v1 gh = some (e, s)) : runL pg f_slices_ContainsFunc_Lint_int_0 ⟨[(0, v0), (1, v1)], [], gh⟩ = some (e, s) :=
  runX_ok an_slices_ContainsFunc_Lint_int (Eq.trans (by kernel_rfl) h)

end Go.Lw
end

/-! What the code of function slices_IndexFunc_Lint_int comes to, piece by piece. Written by program (dprint.py). -/
section
set_option maxRecDepth 10000
set_option maxHeartbeats 4000000
namespace Go.Lw
open Go

def an_slices_IndexFunc_Lint_int : Tr := (.node 10 (.ce (.int .i64)) (.node 6 (.ce (.one)) (.node 4 (.ce (.int .i64)) (.node 1 (.ce (.one)) (.node 0 (.ce (.one)) .nil .nil) .nil) (.node 5 (.ce (.int .i64)) .nil .nil)) (.node 8 (.ce (.int .i64)) (.node 7 (.ce (.int .i64)) .nil .nil) (.node 9 (.ce (.bool)) .nil .nil))) (.node 15 (.ce (.int .i64)) (.node 12 (.ce (.one)) (.node 11 (.ce (.one)) .nil .nil) (.node 13 (.ce (.int .i64)) .nil .nil)) (.node 17 (.ce (.int .i64)) (.node 16 (.ce (.bool)) .nil .nil) (.node 18 (.ce (.int .i64)) .nil .nil))))

noncomputable def D_slices_IndexFunc_Lint_int_b1 (pg : Prg) (v0 : PV) (v1 : PV) (x7 : Int) (x8 : Int) (gh : List GObj) : Option (IExit × St) := 
  br 9 (decide (x8 < x7)) (stK 0 v0 (stK 0 v1 (isC (degr v1) (isC (degr v0) (
  idX 1 none (degr (degr v0)) x8 fun p1 => 
  ldX [] gh false 1 (degr p1) fun v2 => unI .i64 v2 fun n3 => 
  fnX (degr (degr v1)) fun f6 cs7 => allK cs7 (callR gh true (callL pg f6 ([(.int .i64 n3)] ++ cs7) gh) fun r4 gh5 => unB r4 fun b8 => stK 0 v0 (stK 0 v1 (
  br 16 b8 (some (.ret, ⟨[(4, (.int .i64 x8))], [], gh5⟩)) (stK 0 v0 (stK 0 v1 (stK 0 v0 (stK 0 v1 (some (.normal, ⟨[(0, v0), (1, v1), (7, (.int .i64 x7)), (8, (.int .i64 (IntKind.i64.wrap (x8 + 1))))], [], gh5⟩)))))))))))))) (some ((.exit 0), ⟨[(0, v0), (1, v1), (7, (.int .i64 x7)), (8, (.int .i64 x8)), (9, (.bool (decide (x8 < x7))))], [], gh⟩))

theorem D_slices_IndexFunc_Lint_int_b1_ok {pg : Prg} {gh : List GObj} {v0 : PV} {v1 : PV} {x7 : Int} {x8 : Int} {e : IExit} {s : St} (h : D_slices_IndexFunc_Lint_int_b1 pg v0 v1 x7 x8 gh = some (e, s)) : runL pg f_slices_IndexFunc_Lint_int_b1 ⟨[(0, v0), (1, v1), (7, (.int .i64 x7)), (8, (.int .i64 x8))], [], gh⟩ = some (e, s) :=
  runX_ok an_slices_IndexFunc_Lint_int (Eq.trans (by kernel_rfl) h)

noncomputable def D_slices_IndexFunc_Lint_int_k1 (pg : Prg)  (gh : List GObj) : Option (IExit × St) := some (.ret, ⟨[(4, (.int .i64 (-1)))], [], gh⟩)

theorem D_slices_IndexFunc_Lint_int_k1_ok {pg : Prg} {gh : List GObj}  {e : IExit} {s : St} (h : D_slices_IndexFunc_Lint_int_k1 pg  gh = some (e, s)) : runL pg f_slices_IndexFunc_Lint_int_k1 ⟨[], [], gh⟩ = some (e, s) :=
  runX_ok an_slices_IndexFunc_Lint_int (Eq.trans (by kernel_rfl) h)

noncomputable def D_slices_IndexFunc_Lint_int_0 (pg : Prg) (v0 : PV) (v1 : PV) (gh : List GObj) : Option (IExit × St) := stK 0 v0 (stK 0 v1 (isC (degr v0) (lenS (degr (degr v0)) fun n1 => stK 0 v0 (stK 0 v1 (
  kR (runL pg f_slices_IndexFunc_Lint_int_l1 ⟨[(0, v0), (1, v1), (7, (.int .i64 (n1 : Int))), (8, (.int .i64 0))], [], gh⟩) (fun e s => nx e s (fun e s => some (e, s)) fun s => kR (runL pg f_slices_IndexFunc_Lint_int_k1 s) (fun e s => some (e, s))))))))

theorem D_slices_IndexFunc_Lint_int_0_ok {pg : Prg} {gh : List GObj} {v0 : PV} {v1 : PV} {e : IExit} {s : St} (h : D_slices_IndexFunc_Lint_int_0 pg v0 v1 gh = some (e, s)) : runL pg f_slices_IndexFunc_Lint_int_0 ⟨[(0, v0), (1, v1)], [], gh⟩ = some (e, s) :=
  runX_ok an_slices_IndexFunc_Lint_int (Eq.trans (by kernel_rfl) h)

end Go.Lw
end

/-! What the code of function gates_Check comes to, piece by piece. Written by program (dprint.py). -/
section
set_option maxRecDepth 10000
set_option maxHeartbeats 4000000
namespace Go.Lw
open Go

def an_gates_Check : Tr := (.node 35 (.ce (.bool)) (.node 17 (.ce (.bool)) (.node 9 (.ce (.bool)) (.node 4 (.ce (.int .i64)) (.node 2 (.ce (.int .i64)) (.node 0 (.agg [.int .i64, .any]) .nil .nil) (.node 3 (.ce (.one)) .nil .nil)) (.node 8 (.ce (.bool)) (.node 7 (.ce (.int .i64)) .nil .nil) .nil)) (.node 13 (.ce (.bool)) (.node 12 (.ce (.bool)) (.node 11 (.ce (.int .i64)) .nil .nil) .nil) (.node 16 (.ce (.int .i64)) (.node 15 (.ce (.one)) .nil .nil) .nil))) (.node 26 (.agg [.int .i64, .int .i64]) (.node 22 (.ce (.int .i64)) (.node 20 (.ce (.one)) (.node 18 (.ce (.one)) .nil .nil) (.node 21 (.ce (.int .i64)) .nil .nil)) (.node 24 (.ce (.int .i64)) (.node 23 (.ce (.bool)) .nil .nil) .nil)) (.node 31 (.ce (.bool)) (.node 30 (.ce (.int .i64)) (.node 28 (.ce (.int .i64)) .nil .nil) .nil) (.node 34 (.ce (.int .i64)) (.node 32 (.ce (.bool)) .nil .nil) .nil)))) (.node 51 (.ce (.int .i64)) (.node 44 (.ce (.int .i64)) (.node 40 (.ce (.int .i64)) (.node 37 (.ce (.bool)) (.node 36 (.ce (.bool)) .nil .nil) (.node 39 (.ce (.int .i64)) .nil .nil)) (.node 43 (.ce (.int .i64)) (.node 42 (.ce (.int .i64)) .nil .nil) .nil)) (.node 47 (.ce (.bool)) (.node 46 (.ce (.bool)) (.node 45 (.ce (.int .i64)) .nil .nil) .nil) (.node 50 (.ce (.int .i64)) (.node 48 (.ce (.bool)) .nil .nil) .nil))) (.node 59 (.ce (.int .i64)) (.node 56 (.ce (.bool)) (.node 54 (.ce (.int .i64)) (.node 53 (.ce (.int .i64)) .nil .nil) (.node 55 (.ce (.bool)) .nil .nil)) (.node 58 (.agg [.int .i64, .int .i64]) (.node 57 (.ce (.one)) .nil .nil) .nil)) (.node 63 (.ce (.one)) (.node 61 (.ce (.int .i64)) (.node 60 (.ce (.one)) .nil .nil) .nil) (.node 65 (.ce (.bool)) (.node 64 (.ce (.int .i64)) .nil .nil) .nil)))))

noncomputable def D_gates_Check_b1 (pg : Prg) (v3 : PV) (v20 : PV) (x21 : Int) (x22 : Int) (xc0_0 : Int) (vc0_1 : PV) (gh : List GObj) : Option (IExit × St) := 
  br 23 (decide (x22 < x21)) (
  idX 2 none (degr v20) x22 fun p1 => 
  ldX [[(.int .i64 xc0_0), vc0_1]] gh true 2 (degr p1) fun v2 => unA 2 v2 fun c3 c4 => unI .i64 c3 fun n5 => unI .i64 c4 fun n6 => stK 2 v3 (stK 2 v20 (
  br 32 (decide (n6 ≤ n5)) (stK 2 v3 (stK 2 v20 (some (.ret, ⟨[(2, (.int .i64 4))], [], gh⟩)))) (
  br 37 (decide (n5 < 2)) (stK 2 v3 (stK 2 v20 (some (.ret, ⟨[(2, (.int .i64 4))], [], gh⟩)))) (gd (decide ((2 : Int) ≠ 0)) (
  br 48 (decide ((IntKind.i64.wrap ((IntKind.i64.wrap (1 + xc0_0)) + x22)) ≤ (IntKind.i64.wrap (Int.tdiv n6 2)))) (stK 2 v3 (stK 2 v20 (some (.ret, ⟨[(2, (.int .i64 4))], [], gh⟩)))) (gd (decide ((2 : Int) ≠ 0)) (gd (decide ((2 : Int) ≠ 0)) (stK 2 v3 (stK 2 v20 (
  br 56 ((IntKind.i64.wrap (Int.tdiv n5 2)) == (IntKind.i64.wrap (Int.tdiv n6 2))) (some (.ret, ⟨[(2, (.int .i64 4))], [], gh⟩)) (isC (degr v3) (
  muX gh 2 (degr (degr v3)) (.agg [(.int .i64 n5), (.int .i64 n6)]) (.bool true) fun gh7 => stK 1 v3 (stK 1 v20 (stK 1 v3 (stK 1 v20 (stK 1 v3 (stK 1 v20 (some (.normal, ⟨[(1, (.ptr false 0 0)), (3, v3), (20, v20), (21, (.int .i64 x21)), (22, (.int .i64 (IntKind.i64.wrap (x22 + 1))))], [[(.int .i64 xc0_0), vc0_1]], gh7⟩)))))))))))))))))))) (some ((.exit 0), ⟨[(1, (.ptr false 0 0)), (3, v3), (20, v20), (21, (.int .i64 x21)), (22, (.int .i64 x22)), (23, (.bool (decide (x22 < x21))))], [[(.int .i64 xc0_0), vc0_1]], gh⟩))

theorem D_gates_Check_b1_ok {pg : Prg} {gh : List GObj} {v3 : PV} {v20 : PV} {x21 : Int} {x22 : Int} {xc0_0 : Int} {vc0_1 : PV} {e : IExit} {s : St} (h : D_gates_Check_b1 pg v3 v20 x21 x22 xc0_0 vc0_1 gh = some (e, s)) : runL pg f_gates_Check_b1 ⟨[(1, (.ptr false 0 0)), (3, v3), (20, v20), (21, (.int .i64 x21)), (22, (.int .i64 x22))], [[(.int .i64 xc0_0), vc0_1]], gh⟩ = some (e, s) :=
  runX_ok an_gates_Check (Eq.trans (by kernel_rfl) h)

noncomputable def D_gates_Check_k1 (pg : Prg) (v3 : PV) (xc0_0 : Int) (vc0_1 : PV) (gh : List GObj) : Option (IExit × St) := isC (degr v3) (
  lenM gh (degr (degr v3)) fun n1 => isC (degr vc0_1) (lenS (degr (degr vc0_1)) fun n2 => 
  br 65 (decide ((n1 : Int) < (n2 : Int))) (some (.ret, ⟨[(2, (.int .i64 6))], [], gh⟩)) (some (.ret, ⟨[(2, (.int .i64 0))], [], gh⟩))))

theorem D_gates_Check_k1_ok {pg : Prg} {gh : List GObj} {v3 : PV} {xc0_0 : Int} {vc0_1 : PV} {e : IExit} {s : St} (h : D_gates_Check_k1 pg v3 xc0_0 vc0_1 gh = some (e, s)) : runL pg f_gates_Check_k1 ⟨[(1, (.ptr false 0 0)), (3, v3)], [[(.int .i64 xc0_0), vc0_1]], gh⟩ = some (e, s) :=
  runX_ok an_gates_Check (Eq.trans (by kernel_rfl) h)

noncomputable def D_gates_Check_0 (pg : Prg) (x0_0 : Int) (v0_1 : PV) (gh : List GObj) : Option (IExit × St) := onK (degr1 v0_1) (
  br 9 (decide (x0_0 < 0)) (some (.ret, ⟨[(2, (.int .i64 3))], [], gh⟩)) (
  br 13 (decide (1000 < x0_0)) (some (.ret, ⟨[(2, (.int .i64 3))], [], gh⟩)) (isC (degr (degr1 v0_1)) (lenS (degr (degr (degr1 v0_1))) fun n1 => 
  br 17 (decide (1000000 < (n1 : Int))) (some (.ret, ⟨[(2, (.int .i64 2))], [], gh⟩)) (isC (degr (degr1 v0_1)) (lenS (degr (degr (degr1 v0_1))) fun n2 => stK 1 (degr (degr1 v0_1)) (
  kR (runL pg f_gates_Check_l1 ⟨[(1, (.ptr false 0 0)), (3, (.mp (List.length gh))), (20, (degr (degr1 v0_1))), (21, (.int .i64 (n2 : Int))), (22, (.int .i64 0))], [[(.int .i64 x0_0), (degr1 v0_1)]], (gh ++ [.map []])⟩) (fun e s => nx e s (fun e s => some (e, s)) fun s => kR (runL pg f_gates_Check_k1 s) (fun e s => some (e, s))))))))))

theorem D_gates_Check_0_ok {pg : Prg} {gh : List GObj} {x0_0 : Int} {v0_1 : PV} {e : IExit} {s : St} (h : D_gates_Check_0 pg x0_0 v0_1 gh = some (e, s)) : runL pg f_gates_Check_0 ⟨[(0, (.agg [(.int .i64 x0_0), v0_1]))], [], gh⟩ = some (e, s) :=
  runX_ok an_gates_Check (Eq.trans (by kernel_rfl) h)

end Go.Lw
end

/-! What the code of function gates_Is comes to, piece by piece. Written by program (dprint.py). -/
section
set_option maxRecDepth 10000
set_option maxHeartbeats 4000000
namespace Go.Lw
open Go

def an_gates_Is : Tr := (.node 5 (.ce (.one)) (.node 2 (.ce (.gp)) (.node 1 (.ce (.one)) (.node 0 (.agg [.int .i64, .any]) .nil .nil) .nil) (.node 4 (.ce (.bool)) .nil .nil)) (.node 7 (.ce (.bool)) (.node 6 (.ce (.one)) .nil .nil) (.node 8 (.ce (.bool)) .nil .nil)))

noncomputable def D_gates_Is_0 (pg : Prg) (x0_0 : Int) (v0_1 : PV) (v1 : PV) (gh : List GObj) : Option (IExit × St) := onK (degr1 v0_1) (stK 0 v1 (isC (degr v1) (arK (degr (degr v1)) (
  callR (gh ++ [.cells [(.int .i64 x0_0), (degr1 v0_1)]]) true (callL pg 86 [(degr (degr v1)), (.fn 85 [(.ptr true (List.length gh) 0)])] (gh ++ [.cells [(.int .i64 x0_0), (degr1 v0_1)]])) fun r1 gh2 => unB r1 fun b3 => some (.ret, ⟨[(4, (.bool (!b3)))], [], gh2⟩)))))

theorem D_gates_Is_0_ok {pg : Prg} {gh : List GObj} {x0_0 : Int} {v0_1 : PV} {v1 : PV} {e : IExit} {s : St} (h : D_gates_Is_0 pg x0_0 v0_1 v1 gh = some (e, s)) : runL pg f_gates_Is_0 ⟨[(0, (.agg [(.int .i64 x0_0), v0_1])), (1, v1)], [], gh⟩ = some (e, s) :=
  runX_ok an_gates_Is (Eq.trans (by kernel_rfl) h)

end Go.Lw
end

/-! What the code of function gates_Is_1 comes to, piece by piece. Written by program (dprint.py). -/
section
set_option maxRecDepth 10000
set_option maxHeartbeats 4000000
namespace Go.Lw
open Go

def an_gates_Is_1 : Tr := (.node 7 (.ce (.int .i64)) (.node 4 (.ce (.int .i64)) (.node 1 (.ce (.gp)) (.node 0 (.ce (.int .i64)) .nil .nil) (.node 3 (.ce (.bool)) .nil .nil)) (.node 6 (.ce (.bool)) (.node 5 (.ce (.bool)) .nil .nil) .nil)) (.node 10 (.ce (.int .i64)) (.node 9 (.ce (.int .i64)) (.node 8 (.agg [.int .i64, .any]) .nil .nil) .nil) (.node 12 (.ce (.bool)) (.node 11 (.ce (.bool)) .nil .nil) .nil)))

noncomputable def D_gates_Is_1_0 (pg : Prg) (x0 : Int) (g1 : Nat) (o1 : Nat) (gh : List GObj) : Option (IExit × St) := 
  br 6 (decide (x0 < 0)) (some (.ret, ⟨[(3, (.bool true))], [], gh⟩)) (
  ob (ghCells gh g1) fun cs1 => 
  ob (grab true 2 o1 cs1) fun v2 => unA 2 (degr v2) fun c3 c4 => unI .i64 c3 fun n5 => onK (degr1 c4) (
  callR gh true (callL pg 88 [(.agg [(.int .i64 n5), (degr1 c4)])] gh) fun r6 gh7 => unI .i64 r6 fun n8 => some (.ret, ⟨[(3, (.bool (decide ((IntKind.i64.wrap (2 * n8)) ≤ x0))))], [], gh7⟩)))

theorem D_gates_Is_1_0_ok {pg : Prg} {gh : List GObj} {x0 : Int} {g1 : Nat} {o1 : Nat} {e : IExit} {s : St} (h : D_gates_Is_1_0 pg x0 g1 o1 gh = some (e, s)) : runL pg f_gates_Is_1_0 ⟨[(0, (.int .i64 x0)), (1, (.ptr true g1 o1))], [], gh⟩ = some (e, s) :=
  runX_ok an_gates_Is_1 (Eq.trans (by kernel_rfl) h)

end Go.Lw
end

/-! What the code of function cnf_Number comes to, piece by piece. Written by program (dprint.py). -/
section
set_option maxRecDepth 10000
set_option maxHeartbeats 4000000
namespace Go.Lw
open Go

def an_cnf_Number : Tr := (.node 9 (.ce (.int .i64)) (.node 5 (.ce (.int .i64)) (.node 1 (.ce (.int .i64)) (.node 0 (.ce (.int .i64)) .nil .nil) (.node 4 (.ce (.int .i64)) .nil .nil)) (.node 7 (.ce (.bool)) (.node 6 (.ce (.int .i64)) .nil .nil) (.node 8 (.ce (.int .i64)) .nil .nil))) (.node 13 (.ce (.int .i64)) (.node 11 (.ce (.int .i64)) (.node 10 (.ce (.int .i64)) .nil .nil) (.node 12 (.ce (.int .i64)) .nil .nil)) (.node 15 (.ce (.int .i64)) (.node 14 (.ce (.int .i64)) .nil .nil) (.node 16 (.ce (.int .i64)) .nil .nil))))

noncomputable def D_cnf_Number_0 (pg : Prg) (x0 : Int) (x1 : Int) (gh : List GObj) : Option (IExit × St) := gd (decide ((2 : Int) ≠ 0)) (
  br 7 ((Int.tmod x0 2) == 1) (gd (decide ((2 : Int) ≠ 0)) (some (.ret, ⟨[(4, (.int .i64 (IntKind.i64.wrap (0 - (IntKind.i64.wrap ((IntKind.i64.wrap (Int.tdiv x0 2)) + x1))))))], [], gh⟩))) (gd (decide ((2 : Int) ≠ 0)) (some (.ret, ⟨[(4, (.int .i64 (IntKind.i64.wrap ((IntKind.i64.wrap (Int.tdiv x0 2)) + x1))))], [], gh⟩))))

theorem D_cnf_Number_0_ok {pg : Prg} {gh : List GObj} {x0 : Int} {x1 : Int} {e : IExit} {s : St} (h : D_cnf_Number_0 pg x0 x1 gh = some (e, s)) : runL pg f_cnf_Number_0 ⟨[(0, (.int .i64 x0)), (1, (.int .i64 x1))], [], gh⟩ = some (e, s) :=
  runX_ok an_cnf_Number (Eq.trans (by kernel_rfl) h)

end Go.Lw
end

/-! What the code of function cnf_Maker_Add comes to, piece by piece. Written by program (dprint.py). -/
section
set_option maxRecDepth 10000
set_option maxHeartbeats 4000000
namespace Go.Lw
open Go

def an_cnf_Maker_Add : Tr := (.node 9 (.ce (.one)) (.node 4 (.ce (.gp)) (.node 1 (.ce (.one)) (.node 0 (.ce (.gp)) .nil .nil) .nil) (.node 5 (.ce (.gp)) .nil .nil)) (.node 11 (.ce (.one)) (.node 10 (.ce (.one)) .nil .nil) (.node 12 (.ce (.one)) .nil .nil)))

noncomputable def D_cnf_Maker_Add_0 (pg : Prg) (g0 : Nat) (o0 : Nat) (v1 : PV) (gh : List GObj) : Option (IExit × St) := 
  ob (ghCells gh g0) fun cs1 => ob (cs1[((o0 + 0) + 1)]?) fun v2 => isC (degr v1) (arK (degr (degr v1)) (lnK 1 (degr (degr v1)) (
  apX 1 24 v2 (.sl false 1 [(degr (degr v1))]) fun l3 => 
  ob (ghCells (List.set gh g0 (.cells (spliceAt cs1 ((o0 + 0) + 1) [degr1 v2]))) g0) fun cs4 => gb (stOk 1 ((o0 + 0) + 1) [(.sl true 1 l3)] cs4) (some (.normal, ⟨[], [], (List.set (List.set gh g0 (.cells (spliceAt cs1 ((o0 + 0) + 1) [degr1 v2]))) g0 (.cells (spliceAt cs4 ((o0 + 0) + 1) [(.sl true 1 l3)])))⟩)))))

theorem D_cnf_Maker_Add_0_ok {pg : Prg} {gh : List GObj} {g0 : Nat} {o0 : Nat} {v1 : PV} {e : IExit} {s : St} (h : D_cnf_Maker_Add_0 pg g0 o0 v1 gh = some (e, s)) : runL pg f_cnf_Maker_Add_0 ⟨[(0, (.ptr true g0 o0)), (1, v1)], [], gh⟩ = some (e, s) :=
  runX_ok an_cnf_Maker_Add (Eq.trans (by kernel_rfl) h)

end Go.Lw
end

/-! What the code of function cnf_Maker_Ands comes to, piece by piece. Written by program (dprint.py). -/
section
set_option maxRecDepth 10000
set_option maxHeartbeats 4000000
namespace Go.Lw
open Go

def an_cnf_Maker_Ands : Tr := (.node 29 (.ce (.int .i64)) (.node 15 (.ce (.bool)) (.node 9 (.ce (.int .i64)) (.node 2 (.ce (.int .i64)) (.node 1 (.agg [.int .i64, .any]) (.node 0 (.ce (.gp)) .nil .nil) .nil) (.node 8 (.ce (.int .i64)) (.node 6 (.ce (.int .i64)) .nil .nil) .nil)) (.node 13 (.ce (.int .i64)) (.node 12 (.ce (.one)) (.node 10 (.ce (.int .i64)) .nil .nil) .nil) (.node 14 (.ce (.int .i64)) .nil .nil))) (.node 23 (.ce (.int .i64)) (.node 20 (.ce (.int .i64)) (.node 18 (.agg [.int .i64, .int .i64]) (.node 16 (.ce (.int .i64)) .nil .nil) .nil) (.node 22 (.ce (.int .i64)) (.node 21 (.ce (.int .i64)) .nil .nil) .nil)) (.node 27 (.ce (.int .i64)) (.node 25 (.ce (.int .i64)) (.node 24 (.ce (.int .i64)) .nil .nil) .nil) (.node 28 (.ce (.int .i64)) .nil .nil)))) (.node 42 (.ce (.int .i64)) (.node 36 (.ce (.int .i64)) (.node 33 (.ce (.int .i64)) (.node 32 (.ce (.int .i64)) (.node 31 (.ce (.int .i64)) .nil .nil) .nil) (.node 35 (.ce (.int .i64)) (.node 34 (.ce (.gp)) .nil .nil) .nil)) (.node 40 (.ce (.gp)) (.node 38 (.ce (.one)) (.node 37 (.ce (.int .i64)) .nil .nil) .nil) (.node 41 (.ce (.int .i64)) .nil .nil))) (.node 49 (.ce (.int .i64)) (.node 46 (.ce (.gp)) (.node 44 (.ce (.one)) (.node 43 (.ce (.int .i64)) .nil .nil) .nil) (.node 48 (.ce (.int .i64)) (.node 47 (.ce (.int .i64)) .nil .nil) .nil)) (.node 52 (.ce (.one)) (.node 51 (.ce (.int .i64)) (.node 50 (.ce (.int .i64)) .nil .nil) .nil) (.node 54 (.ce (.int .i64)) .nil .nil)))))

noncomputable def D_cnf_Maker_Ands_b1 (pg : Prg) (g0 : Nat) (o0 : Nat) (x2 : Int) (v12 : PV) (x13 : Int) (x14 : Int) (xc0_0 : Int) (vc0_1 : PV) (gh : List GObj) : Option (IExit × St) := 
  br 15 (decide (x14 < x13)) (
  idX 2 none (degr v12) x14 fun p1 => 
  ldX [[(.int .i64 xc0_0), vc0_1]] gh true 2 (degr p1) fun v2 => unA 2 v2 fun c3 c4 => unI .i64 c3 fun n5 => unI .i64 c4 fun n6 => stK 2 v12 (stK 2 v12 (
  callR gh true (callL pg 90 [(.int .i64 n5), (.int .i64 x2)] gh) fun r7 gh8 => unI .i64 r7 fun n9 => 
  callR gh8 true (callL pg 90 [(.int .i64 n6), (.int .i64 x2)] gh8) fun r10 gh11 => unI .i64 r10 fun n12 => stK 1 v12 (
  callR gh11 false (callL pg 91 [(.ptr true g0 o0), (.sl false 1 [(.int .i64 (IntKind.i64.wrap (0 - (IntKind.i64.wrap ((IntKind.i64.wrap ((IntKind.i64.wrap (1 + xc0_0)) + x14)) + x2))))), (.int .i64 n9)])] gh11) fun r13 gh14 => stK 1 v12 (
  callR gh14 false (callL pg 91 [(.ptr true g0 o0), (.sl false 1 [(.int .i64 (IntKind.i64.wrap (0 - (IntKind.i64.wrap ((IntKind.i64.wrap ((IntKind.i64.wrap (1 + xc0_0)) + x14)) + x2))))), (.int .i64 n12)])] gh14) fun r15 gh16 => stK 1 v12 (
  callR gh16 false (callL pg 91 [(.ptr true g0 o0), (.sl false 1 [(.int .i64 (IntKind.i64.wrap ((IntKind.i64.wrap ((IntKind.i64.wrap (1 + xc0_0)) + x14)) + x2))), (.int .i64 (IntKind.i64.wrap (0 - n9))), (.int .i64 (IntKind.i64.wrap (0 - n12)))])] gh16) fun r17 gh18 => stK 1 v12 (stK 1 v12 (stK 1 v12 (some (.normal, ⟨[(0, (.ptr true g0 o0)), (2, (.int .i64 x2)), (4, (.ptr false 0 0)), (12, v12), (13, (.int .i64 x13)), (14, (.int .i64 (IntKind.i64.wrap (x14 + 1))))], [[(.int .i64 xc0_0), vc0_1]], gh18⟩)))))))))) (some ((.exit 0), ⟨[(0, (.ptr true g0 o0)), (2, (.int .i64 x2)), (4, (.ptr false 0 0)), (12, v12), (13, (.int .i64 x13)), (14, (.int .i64 x14)), (15, (.bool (decide (x14 < x13))))], [[(.int .i64 xc0_0), vc0_1]], gh⟩))

theorem D_cnf_Maker_Ands_b1_ok {pg : Prg} {gh : List GObj} {g0 : Nat} {o0 : Nat} {x2 : Int} {v12 : PV} {x13 : Int} {x14 : Int} {xc0_0 : Int} {vc0_1 : PV} {e : IExit} {s : St} (h : D_cnf_Maker_Ands_b1 pg g0 o0 x2 v12 x13 x14 xc0_0 vc0_1 gh = some (e, s)) : runL pg f_cnf_Maker_Ands_b1 ⟨[(0, (.ptr true g0 o0)), (2, (.int .i64 x2)), (4, (.ptr false 0 0)), (12, v12), (13, (.int .i64 x13)), (14, (.int .i64 x14))], [[(.int .i64 xc0_0), vc0_1]], gh⟩ = some (e, s) :=
  runX_ok an_cnf_Maker_Ands (Eq.trans (by kernel_rfl) h)

noncomputable def D_cnf_Maker_Ands_0 (pg : Prg) (g0 : Nat) (o0 : Nat) (x1_0 : Int) (v1_1 : PV) (x2 : Int) (gh : List GObj) : Option (IExit × St) := onK (degr1 v1_1) (isC (degr (degr1 v1_1)) (lenS (degr (degr (degr1 v1_1))) fun n1 => stK 1 (degr (degr1 v1_1)) (
  kR (runL pg f_cnf_Maker_Ands_l1 ⟨[(0, (.ptr true g0 o0)), (2, (.int .i64 x2)), (4, (.ptr false 0 0)), (12, (degr (degr1 v1_1))), (13, (.int .i64 (n1 : Int))), (14, (.int .i64 0))], [[(.int .i64 x1_0), (degr1 v1_1)]], gh⟩) (fun e s => some (e, s)))))

theorem D_cnf_Maker_Ands_0_ok {pg : Prg} {gh : List GObj} {g0 : Nat} {o0 : Nat} {x1_0 : Int} {v1_1 : PV} {x2 : Int} {e : IExit} {s : St} (h : D_cnf_Maker_Ands_0 pg g0 o0 x1_0 v1_1 x2 gh = some (e, s)) : runL pg f_cnf_Maker_Ands_0 ⟨[(0, (.ptr true g0 o0)), (1, (.agg [(.int .i64 x1_0), v1_1])), (2, (.int .i64 x2))], [], gh⟩ = some (e, s) :=
  runX_ok an_cnf_Maker_Ands (Eq.trans (by kernel_rfl) h)

end Go.Lw
end

/-! What the code of function cnf_Maker_Must comes to, piece by piece. Written by program (dprint.py). -/
section
set_option maxRecDepth 10000
set_option maxHeartbeats 4000000
namespace Go.Lw
open Go

def an_cnf_Maker_Must : Tr := (.node 10 (.ce (.int .i64)) (.node 6 (.ce (.int .i64)) (.node 1 (.ce (.int .i64)) (.node 0 (.ce (.gp)) .nil .nil) (.node 2 (.ce (.int .i64)) .nil .nil)) (.node 8 (.ce (.int .i64)) (.node 7 (.ce (.gp)) .nil .nil) (.node 9 (.ce (.int .i64)) .nil .nil))) (.node 15 (.ce (.bool)) (.node 13 (.ce (.bool)) (.node 11 (.ce (.one)) .nil .nil) (.node 14 (.ce (.bool)) .nil .nil)) (.node 17 (.ce (.gp)) (.node 16 (.ce (.bool)) .nil .nil) .nil)))

noncomputable def D_cnf_Maker_Must_0 (pg : Prg) (g0 : Nat) (o0 : Nat) (x1 : Int) (x2 : Int) (gh : List GObj) : Option (IExit × St) := 
  br 13 (x1 == 1) (some (.normal, ⟨[], [], gh⟩)) (
  br 15 (x1 == 0) (
  callR gh false (callL pg 91 [(.ptr true g0 o0), (.sl false 1 [])] gh) fun r1 gh2 => some (.normal, ⟨[], [], gh2⟩)) (
  callR gh true (callL pg 90 [(.int .i64 x1), (.int .i64 x2)] gh) fun r3 gh4 => unI .i64 r3 fun n5 => 
  callR gh4 false (callL pg 91 [(.ptr true g0 o0), (.sl false 1 [(.int .i64 n5)])] gh4) fun r6 gh7 => some (.normal, ⟨[], [], gh7⟩)))

theorem D_cnf_Maker_Must_0_ok {pg : Prg} {gh : List GObj} {g0 : Nat} {o0 : Nat} {x1 : Int} {x2 : Int} {e : IExit} {s : St} (h : D_cnf_Maker_Must_0 pg g0 o0 x1 x2 gh = some (e, s)) : runL pg f_cnf_Maker_Must_0 ⟨[(0, (.ptr true g0 o0)), (1, (.int .i64 x1)), (2, (.int .i64 x2))], [], gh⟩ = some (e, s) :=
  runX_ok an_cnf_Maker_Must (Eq.trans (by kernel_rfl) h)

end Go.Lw
end

/-! What the code of function cnf_one comes to, piece by piece. Written by program (dprint.py). -/
section
set_option maxRecDepth 10000
set_option maxHeartbeats 4000000
namespace Go.Lw
open Go

def an_cnf_one : Tr := (.node 6 (.ce (.int .i64)) (.node 2 (.ce (.gp)) (.node 1 (.ce (.one)) (.node 0 (.ce (.int .i64)) .nil .nil) .nil) (.node 5 (.ce (.one)) (.node 4 (.ce (.int .i64)) .nil .nil) .nil)) (.node 9 (.ce (.one)) (.node 8 (.ce (.one)) (.node 7 (.ce (.bool)) .nil .nil) .nil) (.node 10 (.ce (.bool)) .nil .nil)))

noncomputable def D_cnf_one_0 (pg : Prg) (x0 : Int) (v1 : PV) (gh : List GObj) : Option (IExit × St) := stK 0 v1 (isC (degr v1) (lenS (degr (degr v1)) fun n1 => stK 0 v1 (
  br 7 (decide (200 < (n1 : Int))) (some (.ret, ⟨[(4, (.int .i64 2))], [], (gh ++ [.cells [(.int .i64 x0)]])⟩)) (isC (degr v1) (arK (degr (degr v1)) (
  callR (gh ++ [.cells [(.int .i64 x0)]]) true (callL pg 86 [(degr (degr v1)), (.fn 113 [(.ptr true (List.length gh) 0)])] (gh ++ [.cells [(.int .i64 x0)]])) fun r2 gh3 => unB r2 fun b4 => 
  br 10 b4 (some (.ret, ⟨[(4, (.int .i64 5))], [], gh3⟩)) (some (.ret, ⟨[(4, (.int .i64 0))], [], gh3⟩))))))))

theorem D_cnf_one_0_ok {pg : Prg} {gh : List GObj} {x0 : Int} {v1 : PV} {e : IExit} {s : St} (h : D_cnf_one_0 pg x0 v1 gh = some (e, s)) : runL pg f_cnf_one_0 ⟨[(0, (.int .i64 x0)), (1, v1)], [], gh⟩ = some (e, s) :=
  runX_ok an_cnf_one (Eq.trans (by kernel_rfl) h)

end Go.Lw
end

/-! What the code of function cnf_one_1 comes to, piece by piece. Written by program (dprint.py). -/
section
set_option maxRecDepth 10000
set_option maxHeartbeats 4000000
namespace Go.Lw
open Go

def an_cnf_one_1 : Tr := (.node 9 (.ce (.bool)) (.node 5 (.ce (.bool)) (.node 3 (.ce (.bool)) (.node 1 (.ce (.gp)) (.node 0 (.ce (.int .i64)) .nil .nil) .nil) (.node 4 (.ce (.int .i64)) .nil .nil)) (.node 7 (.ce (.int .i64)) (.node 6 (.ce (.bool)) .nil .nil) (.node 8 (.ce (.int .i64)) .nil .nil))) (.node 13 (.ce (.int .i64)) (.node 11 (.ce (.bool)) (.node 10 (.ce (.bool)) .nil .nil) (.node 12 (.ce (.int .i64)) .nil .nil)) (.node 15 (.ce (.bool)) (.node 14 (.ce (.int .i64)) .nil .nil) (.node 16 (.ce (.bool)) .nil .nil))))

noncomputable def D_cnf_one_1_0 (pg : Prg) (x0 : Int) (g1 : Nat) (o1 : Nat) (gh : List GObj) : Option (IExit × St) := 
  br 6 (x0 == 0) (some (.ret, ⟨[(3, (.bool true))], [], gh⟩)) (
  ob (ghCells gh g1) fun cs1 => 
  ob (grab false 1 o1 cs1) fun v2 => unI .i64 (degr v2) fun n3 => 
  br 11 (decide (n3 < x0)) (some (.ret, ⟨[(3, (.bool true))], [], gh⟩)) (
  ob (ghCells gh g1) fun cs4 => 
  ob (grab false 1 o1 cs4) fun v5 => unI .i64 (degr v5) fun n6 => some (.ret, ⟨[(3, (.bool (decide (x0 < (IntKind.i64.wrap (0 - n6))))))], [], gh⟩)))

theorem D_cnf_one_1_0_ok {pg : Prg} {gh : List GObj} {x0 : Int} {g1 : Nat} {o1 : Nat} {e : IExit} {s : St} (h : D_cnf_one_1_0 pg x0 g1 o1 gh = some (e, s)) : runL pg f_cnf_one_1_0 ⟨[(0, (.int .i64 x0)), (1, (.ptr true g1 o1))], [], gh⟩ = some (e, s) :=
  runX_ok an_cnf_one_1 (Eq.trans (by kernel_rfl) h)

end Go.Lw
end

/-! What the code of function cnf_Check comes to, piece by piece. Written by program (dprint.py). -/
section
set_option maxRecDepth 10000
set_option maxHeartbeats 4000000
namespace Go.Lw
open Go

def an_cnf_Check : Tr := (.node 17 (.ce (.bool)) (.node 9 (.ce (.bool)) (.node 5 (.ce (.int .i64)) (.node 2 (.ce (.int .i64)) (.node 0 (.agg [.int .i64, .any]) .nil .nil) (.node 4 (.ce (.one)) .nil .nil)) (.node 8 (.ce (.bool)) (.node 7 (.ce (.int .i64)) .nil .nil) .nil)) (.node 13 (.ce (.bool)) (.node 12 (.ce (.bool)) (.node 11 (.ce (.int .i64)) .nil .nil) .nil) (.node 16 (.ce (.int .i64)) (.node 15 (.ce (.one)) .nil .nil) .nil))) (.node 27 (.ce (.one)) (.node 22 (.ce (.bool)) (.node 20 (.ce (.int .i64)) (.node 19 (.ce (.one)) .nil .nil) (.node 21 (.ce (.int .i64)) .nil .nil)) (.node 26 (.ce (.int .i64)) (.node 24 (.ce (.one)) .nil .nil) .nil)) (.node 30 (.ce (.bool)) (.node 29 (.ce (.int .i64)) (.node 28 (.ce (.int .i64)) .nil .nil) .nil) (.node 32 (.ce (.int .i64)) (.node 31 (.ce (.int .i64)) .nil .nil) .nil))))

noncomputable def D_cnf_Check_b1 (pg : Prg) (v19 : PV) (x20 : Int) (x21 : Int) (xc0_0 : Int) (vc0_1 : PV) (gh : List GObj) : Option (IExit × St) := 
  br 22 (decide (x21 < x20)) (
  idX 1 none (degr v19) x21 fun p1 => 
  ldX [[(.int .i64 xc0_0), vc0_1]] gh false 1 (degr p1) fun v2 => isC v2 (stK 1 v2 (stK 1 v19 (isC (degr v2) (arK (degr (degr v2)) (
  callR gh true (callL pg 94 [(.int .i64 xc0_0), (degr (degr v2))] gh) fun r3 gh4 => unI .i64 r3 fun n5 => stK 1 v19 (stK 1 v19 (
  br 30 (n5 != 0) (some (.ret, ⟨[(2, (.int .i64 n5))], [], gh4⟩)) (stK 1 v19 (stK 1 v19 (some (.normal, ⟨[(1, (.ptr false 0 0)), (19, v19), (20, (.int .i64 x20)), (21, (.int .i64 (IntKind.i64.wrap (x21 + 1))))], [[(.int .i64 xc0_0), vc0_1]], gh4⟩)))))))))))) (some ((.exit 0), ⟨[(1, (.ptr false 0 0)), (19, v19), (20, (.int .i64 x20)), (21, (.int .i64 x21)), (22, (.bool (decide (x21 < x20))))], [[(.int .i64 xc0_0), vc0_1]], gh⟩))

theorem D_cnf_Check_b1_ok {pg : Prg} {gh : List GObj} {v19 : PV} {x20 : Int} {x21 : Int} {xc0_0 : Int} {vc0_1 : PV} {e : IExit} {s : St} (h : D_cnf_Check_b1 pg v19 x20 x21 xc0_0 vc0_1 gh = some (e, s)) : runL pg f_cnf_Check_b1 ⟨[(1, (.ptr false 0 0)), (19, v19), (20, (.int .i64 x20)), (21, (.int .i64 x21))], [[(.int .i64 xc0_0), vc0_1]], gh⟩ = some (e, s) :=
  runX_ok an_cnf_Check (Eq.trans (by kernel_rfl) h)

noncomputable def D_cnf_Check_k1 (pg : Prg)  (gh : List GObj) : Option (IExit × St) := some (.ret, ⟨[(2, (.int .i64 0))], [], gh⟩)

theorem D_cnf_Check_k1_ok {pg : Prg} {gh : List GObj}  {e : IExit} {s : St} (h : D_cnf_Check_k1 pg  gh = some (e, s)) : runL pg f_cnf_Check_k1 ⟨[], [], gh⟩ = some (e, s) :=
  runX_ok an_cnf_Check (Eq.trans (by kernel_rfl) h)

noncomputable def D_cnf_Check_0 (pg : Prg) (x0_0 : Int) (v0_1 : PV) (gh : List GObj) : Option (IExit × St) := onK (degr1 v0_1) (
  br 9 (decide (x0_0 < 0)) (some (.ret, ⟨[(2, (.int .i64 3))], [], gh⟩)) (
  br 13 (decide (200000 < x0_0)) (some (.ret, ⟨[(2, (.int .i64 3))], [], gh⟩)) (isC (degr (degr1 v0_1)) (lenS (degr (degr (degr1 v0_1))) fun n1 => 
  br 17 (decide (800000 < (n1 : Int))) (some (.ret, ⟨[(2, (.int .i64 2))], [], gh⟩)) (isC (degr (degr1 v0_1)) (lenS (degr (degr (degr1 v0_1))) fun n2 => stK 1 (degr (degr1 v0_1)) (
  kR (runL pg f_cnf_Check_l1 ⟨[(1, (.ptr false 0 0)), (19, (degr (degr1 v0_1))), (20, (.int .i64 (n2 : Int))), (21, (.int .i64 0))], [[(.int .i64 x0_0), (degr1 v0_1)]], gh⟩) (fun e s => nx e s (fun e s => some (e, s)) fun s => kR (runL pg f_cnf_Check_k1 s) (fun e s => some (e, s))))))))))

theorem D_cnf_Check_0_ok {pg : Prg} {gh : List GObj} {x0_0 : Int} {v0_1 : PV} {e : IExit} {s : St} (h : D_cnf_Check_0 pg x0_0 v0_1 gh = some (e, s)) : runL pg f_cnf_Check_0 ⟨[(0, (.agg [(.int .i64 x0_0), v0_1]))], [], gh⟩ = some (e, s) :=
  runX_ok an_cnf_Check (Eq.trans (by kernel_rfl) h)

end Go.Lw
end

/-! What the code of function cnf_Done comes to, piece by piece. Written by program (dprint.py). -/
section
set_option maxRecDepth 10000
set_option maxHeartbeats 4000000
namespace Go.Lw
open Go

def an_cnf_Done : Tr := (.node 7 (.ce (.int .i64)) (.node 4 (.ce (.int .i64)) (.node 3 (.ce (.int .i64)) (.node 0 (.agg [.int .i64, .any]) .nil .nil) .nil) (.node 6 (.ce (.int .i64)) (.node 5 (.agg [.int .i64, .any]) .nil .nil) .nil)) (.node 10 (.ce (.int .i64)) (.node 9 (.agg [.int .i64, .any]) (.node 8 (.ce (.bool)) .nil .nil) .nil) (.node 11 (.agg [.int .i64, .any]) .nil .nil)))

noncomputable def D_cnf_Done_0 (pg : Prg) (x0_0 : Int) (v0_1 : PV) (gh : List GObj) : Option (IExit × St) := onK (degr1 v0_1) (onK (degr1 (degr1 (degr1 v0_1))) (
  callR gh true (callL pg 59 [(.agg [(.int .i64 x0_0), (degr1 (degr1 (degr1 v0_1)))])] gh) fun r1 gh2 => unI .i64 r1 fun n3 => 
  br 8 (n3 != 0) (some (.ret, ⟨[(2, (.ptr false 1 0)), (3, (.int .i64 n3))], [[(.int .i64 x0_0), (degr1 v0_1)], [(.int .i64 0), (.sl true 1 [])]], gh2⟩)) (onK (degr1 (degr1 v0_1)) (some (.ret, ⟨[(2, (.ptr false 1 0)), (3, (.int .i64 0))], [[(.int .i64 x0_0), (degr1 v0_1)], [(.int .i64 x0_0), (degr1 (degr1 v0_1))]], gh2⟩)))))

theorem D_cnf_Done_0_ok {pg : Prg} {gh : List GObj} {x0_0 : Int} {v0_1 : PV} {e : IExit} {s : St} (h : D_cnf_Done_0 pg x0_0 v0_1 gh = some (e, s)) : runL pg f_cnf_Done_0 ⟨[(0, (.agg [(.int .i64 x0_0), v0_1]))], [], gh⟩ = some (e, s) :=
  runX_ok an_cnf_Done (Eq.trans (by kernel_rfl) h)

end Go.Lw
end

/-! What the code of function cnf_Of comes to, piece by piece. Written by program (dprint.py). -/
section
set_option maxRecDepth 10000
set_option maxHeartbeats 4000000
namespace Go.Lw
open Go

def an_cnf_Of : Tr := (.node 25 (.ce (.int .i64)) (.node 13 (.ce (.bool)) (.node 7 (.ce (.gp)) (.node 5 (.ce (.int .i64)) (.node 1 (.ce (.one)) (.node 0 (.agg [.int .i64, .any]) .nil .nil) .nil) (.node 6 (.ce (.int .i64)) .nil .nil)) (.node 11 (.ce (.int .i64)) (.node 10 (.agg [.int .i64, .any]) (.node 9 (.ce (.int .i64)) .nil .nil) .nil) (.node 12 (.ce (.int .i64)) .nil .nil))) (.node 18 (.ce (.bool)) (.node 16 (.agg [.int .i64, .any]) (.node 15 (.ce (.int .i64)) (.node 14 (.agg [.int .i64, .any]) .nil .nil) .nil) (.node 17 (.ce (.one)) .nil .nil)) (.node 22 (.ce (.int .i64)) (.node 20 (.agg [.int .i64, .any]) (.node 19 (.ce (.bool)) .nil .nil) .nil) (.node 24 (.ce (.one)) .nil .nil)))) (.node 36 (.ce (.bool)) (.node 30 (.ce (.gp)) (.node 28 (.agg [.int .i64, .any]) (.node 27 (.agg [.int .i64, .any]) (.node 26 (.ce (.int .i64)) .nil .nil) .nil) (.node 29 (.ce (.gp)) .nil .nil)) (.node 34 (.ce (.int .i64)) (.node 33 (.ce (.one)) (.node 31 (.agg [.int .i64, .any]) .nil .nil) .nil) (.node 35 (.ce (.int .i64)) .nil .nil))) (.node 43 (.ce (.gp)) (.node 40 (.ce (.int .i64)) (.node 39 (.ce (.gp)) (.node 38 (.ce (.int .i64)) .nil .nil) .nil) (.node 42 (.ce (.int .i64)) .nil .nil)) (.node 48 (.agg [.int .i64, .any]) (.node 47 (.tup 2) (.node 46 (.agg [.int .i64, .any]) .nil .nil) .nil) (.node 49 (.ce (.int .i64)) .nil .nil)))))

noncomputable def D_cnf_Of_b1 (pg : Prg) (g7 : Nat) (o7 : Nat) (v33 : PV) (x34 : Int) (x35 : Int) (xc0_0 : Int) (vc0_1 : PV) (xc1_0 : Int) (vc1_1 : PV) (gh : List GObj) : Option (IExit × St) := 
  br 36 (decide (x35 < x34)) (
  idX 1 none (degr v33) x35 fun p1 => 
  ldX [[(.int .i64 xc0_0), vc0_1], [(.int .i64 xc1_0), vc1_1]] gh false 1 (degr p1) fun v2 => unI .i64 v2 fun n3 => stK 2 v33 (
  callR gh false (callL pg 54 [(.ptr true g7 o7), (.int .i64 n3), (.int .i64 0)] gh) fun r4 gh5 => stK 2 v33 (stK 2 v33 (stK 2 v33 (some (.normal, ⟨[(4, (.ptr false 1 0)), (7, (.ptr true g7 o7)), (33, v33), (34, (.int .i64 x34)), (35, (.int .i64 (IntKind.i64.wrap (x35 + 1))))], [[(.int .i64 xc0_0), vc0_1], [(.int .i64 xc1_0), vc1_1]], gh5⟩)))))) (some ((.exit 0), ⟨[(4, (.ptr false 1 0)), (7, (.ptr true g7 o7)), (33, v33), (34, (.int .i64 x34)), (35, (.int .i64 x35)), (36, (.bool (decide (x35 < x34))))], [[(.int .i64 xc0_0), vc0_1], [(.int .i64 xc1_0), vc1_1]], gh⟩))

theorem D_cnf_Of_b1_ok {pg : Prg} {gh : List GObj} {g7 : Nat} {o7 : Nat} {v33 : PV} {x34 : Int} {x35 : Int} {xc0_0 : Int} {vc0_1 : PV} {xc1_0 : Int} {vc1_1 : PV} {e : IExit} {s : St} (h : D_cnf_Of_b1 pg g7 o7 v33 x34 x35 xc0_0 vc0_1 xc1_0 vc1_1 gh = some (e, s)) : runL pg f_cnf_Of_b1 ⟨[(4, (.ptr false 1 0)), (7, (.ptr true g7 o7)), (33, v33), (34, (.int .i64 x34)), (35, (.int .i64 x35))], [[(.int .i64 xc0_0), vc0_1], [(.int .i64 xc1_0), vc1_1]], gh⟩ = some (e, s) :=
  runX_ok an_cnf_Of (Eq.trans (by kernel_rfl) h)

noncomputable def D_cnf_Of_k1 (pg : Prg) (g7 : Nat) (o7 : Nat) (xc0_0 : Int) (vc0_1 : PV) (xc1_0 : Int) (vc1_1 : PV) (gh : List GObj) : Option (IExit × St) := 
  ob (ghCells gh g7) fun cs1 => 
  ob (grab true 2 (o7 + 0) cs1) fun v2 => unA 2 (degr v2) fun c3 c4 => unI .i64 c3 fun n5 => onK (degr1 c4) (
  callR gh true (callL pg 55 [(.agg [(.int .i64 n5), (degr1 c4)])] gh) fun r6 gh7 => unT 2 r6 fun r8 r9 => unA 2 (degr1 r8) fun c10 c11 => unI .i64 c10 fun n12 => unI .i64 (degr1 r9) fun n13 => onK c11 (some (.ret, ⟨[(4, (.ptr false 1 0)), (5, (.int .i64 n13))], [[(.int .i64 xc0_0), vc0_1], [(.int .i64 n12), c11]], gh7⟩)))

theorem D_cnf_Of_k1_ok {pg : Prg} {gh : List GObj} {g7 : Nat} {o7 : Nat} {xc0_0 : Int} {vc0_1 : PV} {xc1_0 : Int} {vc1_1 : PV} {e : IExit} {s : St} (h : D_cnf_Of_k1 pg g7 o7 xc0_0 vc0_1 xc1_0 vc1_1 gh = some (e, s)) : runL pg f_cnf_Of_k1 ⟨[(4, (.ptr false 1 0)), (7, (.ptr true g7 o7))], [[(.int .i64 xc0_0), vc0_1], [(.int .i64 xc1_0), vc1_1]], gh⟩ = some (e, s) :=
  runX_ok an_cnf_Of (Eq.trans (by kernel_rfl) h)

noncomputable def D_cnf_Of_0 (pg : Prg) (x0_0 : Int) (v0_1 : PV) (v1 : PV) (gh : List GObj) : Option (IExit × St) := onK (degr1 v0_1) (stK 2 v1 (onK (degr1 (degr1 (degr1 v0_1))) (
  callR gh true (callL pg 6 [(.agg [(.int .i64 x0_0), (degr1 (degr1 (degr1 v0_1)))])] gh) fun r1 gh2 => unI .i64 r1 fun n3 => stK 2 v1 (stK 2 v1 (
  br 13 (n3 != 0) (some (.ret, ⟨[(4, (.ptr false 1 0)), (5, (.int .i64 n3))], [[(.int .i64 x0_0), (degr1 v0_1)], [(.int .i64 0), (.sl true 1 [])]], gh2⟩)) (isC (degr v1) (onK (degr1 (degr1 (degr1 v0_1))) (arK (degr (degr v1)) (
  callR gh2 true (callL pg 47 [(.agg [(.int .i64 x0_0), (degr1 (degr1 (degr1 v0_1)))]), (degr (degr v1))] gh2) fun r4 gh5 => unB r4 fun b6 => stK 2 v1 (
  br 19 (!b6) (some (.ret, ⟨[(4, (.ptr false 1 0)), (5, (.int .i64 5))], [[(.int .i64 x0_0), (degr1 v0_1)], [(.int .i64 0), (.sl true 1 [])]], gh5⟩)) (isC (degr (degr1 v0_1)) (lenS (degr (degr (degr1 v0_1))) fun n7 => stK 2 v1 (onK (degr1 (degr1 (degr1 v0_1))) (
  callR (gh5 ++ [.cells [(.int .i64 (IntKind.i64.wrap (x0_0 + (n7 : Int)))), (.sl true 1 [])]]) false (callL pg 53 [(.ptr true (List.length gh5) 0), (.agg [(.int .i64 x0_0), (degr1 (degr1 (degr1 v0_1)))]), (.int .i64 0)] (gh5 ++ [.cells [(.int .i64 (IntKind.i64.wrap (x0_0 + (n7 : Int)))), (.sl true 1 [])]])) fun r8 gh9 => stK 2 v1 (isC (degr v1) (lenS (degr (degr v1)) fun n10 => stK 2 (degr v1) (
  kR (runL pg f_cnf_Of_l1 ⟨[(4, (.ptr false 1 0)), (7, (.ptr true (List.length gh5) 0)), (33, (degr v1)), (34, (.int .i64 (n10 : Int))), (35, (.int .i64 0))], [[(.int .i64 x0_0), (degr1 v0_1)], [(.int .i64 0), (.sl true 1 [])]], gh9⟩) (fun e s => nx e s (fun e s => some (e, s)) fun s => kR (runL pg f_cnf_Of_k1 s) (fun e s => some (e, s))))))))))))))))))))

theorem D_cnf_Of_0_ok {pg : Prg} {gh : List GObj} {x0_0 : Int} {v0_1 : PV} {v1 : PV} {e : IExit} {s : St} (h : D_cnf_Of_0 pg x0_0 v0_1 v1 gh = some (e, s)) : runL pg f_cnf_Of_0 ⟨[(0, (.agg [(.int .i64 x0_0), v0_1])), (1, v1)], [], gh⟩ = some (e, s) :=
  runX_ok an_cnf_Of (Eq.trans (by kernel_rfl) h)

end Go.Lw
end

/-! What the code of function cnf_abs comes to, piece by piece. Written by program (dprint.py). -/
section
set_option maxRecDepth 10000
set_option maxHeartbeats 4000000
namespace Go.Lw
open Go

def an_cnf_abs : Tr := (.node 4 (.ce (.int .i64)) (.node 2 (.ce (.int .i64)) (.node 0 (.ce (.int .i64)) .nil .nil) (.node 3 (.ce (.int .i64)) .nil .nil)) (.node 6 (.ce (.int .i64)) (.node 5 (.ce (.int .i64)) .nil .nil) .nil))

noncomputable def D_cnf_abs_0 (pg : Prg) (x0 : Int) (gh : List GObj) : Option (IExit × St) := some (.ret, ⟨[(2, (.int .i64 (if (IntKind.i64.wrap (0 - x0)) > x0 then (IntKind.i64.wrap (0 - x0)) else x0)))], [], gh⟩)

theorem D_cnf_abs_0_ok {pg : Prg} {gh : List GObj} {x0 : Int} {e : IExit} {s : St} (h : D_cnf_abs_0 pg x0 gh = some (e, s)) : runL pg f_cnf_abs_0 ⟨[(0, (.int .i64 x0))], [], gh⟩ = some (e, s) :=
  runX_ok an_cnf_abs (Eq.trans (by kernel_rfl) h)

end Go.Lw
end

/-! What the code of function cnf_Hold comes to, piece by piece. Written by program (dprint.py). -/
section
set_option maxRecDepth 10000
set_option maxHeartbeats 4000000
namespace Go.Lw
open Go

def an_cnf_Hold : Tr := (.node 6 (.ce (.one)) (.node 3 (.ce (.gp)) (.node 1 (.ce (.one)) (.node 0 (.agg [.int .i64, .any]) .nil .nil) .nil) (.node 5 (.ce (.gp)) (.node 4 (.ce (.bool)) .nil .nil) .nil)) (.node 10 (.ce (.bool)) (.node 9 (.ce (.one)) (.node 8 (.ce (.one)) .nil .nil) .nil) (.node 11 (.ce (.bool)) .nil .nil)))

noncomputable def D_cnf_Hold_0 (pg : Prg) (x0_0 : Int) (v0_1 : PV) (v1 : PV) (gh : List GObj) : Option (IExit × St) := onK (degr1 v0_1) (arK (degr v1) (isC (degr v1) (
  ob (ghCells ((gh ++ [.cells [(degr v1)]]) ++ [.cells [.nilf]]) (List.length (gh ++ [.cells [(degr v1)]]))) fun cs1 => gb (stOk 1 0 [(.fn 98 [(.ptr true (List.length gh) 0)])] cs1) (isC (degr (degr1 v0_1)) (arK (degr (degr (degr1 v0_1))) (
  callR (List.set ((gh ++ [.cells [(degr v1)]]) ++ [.cells [.nilf]]) (List.length (gh ++ [.cells [(degr v1)]])) (.cells (spliceAt cs1 0 [(.fn 98 [(.ptr true (List.length gh) 0)])]))) true (callL pg 100 [(degr (degr (degr1 v0_1))), (.fn 99 [(.ptr true (List.length (gh ++ [.cells [(degr v1)]])) 0)])] (List.set ((gh ++ [.cells [(degr v1)]]) ++ [.cells [.nilf]]) (List.length (gh ++ [.cells [(degr v1)]])) (.cells (spliceAt cs1 0 [(.fn 98 [(.ptr true (List.length gh) 0)])])))) fun r2 gh3 => unB r2 fun b4 => some (.ret, ⟨[(4, (.bool (!b4)))], [], gh3⟩)))))))

theorem D_cnf_Hold_0_ok {pg : Prg} {gh : List GObj} {x0_0 : Int} {v0_1 : PV} {v1 : PV} {e : IExit} {s : St} (h : D_cnf_Hold_0 pg x0_0 v0_1 v1 gh = some (e, s)) : runL pg f_cnf_Hold_0 ⟨[(0, (.agg [(.int .i64 x0_0), v0_1])), (1, v1)], [], gh⟩ = some (e, s) :=
  runX_ok an_cnf_Hold (Eq.trans (by kernel_rfl) h)

end Go.Lw
end

/-! What the code of function cnf_Hold_1 comes to, piece by piece. Written by program (dprint.py). -/
section
set_option maxRecDepth 10000
set_option maxHeartbeats 4000000
namespace Go.Lw
open Go

def an_cnf_Hold_1 : Tr := (.node 6 (.ce (.int .i64)) (.node 3 (.ce (.bool)) (.node 1 (.ce (.gp)) (.node 0 (.ce (.int .i64)) .nil .nil) .nil) (.node 5 (.ce (.int .i64)) (.node 4 (.ce (.one)) .nil .nil) .nil)) (.node 10 (.ce (.int .i64)) (.node 9 (.ce (.bool)) (.node 7 (.ce (.int .i64)) .nil .nil) .nil) (.node 12 (.ce (.bool)) (.node 11 (.ce (.bool)) .nil .nil) .nil)))

noncomputable def D_cnf_Hold_1_0 (pg : Prg) (x0 : Int) (g1 : Nat) (o1 : Nat) (gh : List GObj) : Option (IExit × St) := 
  ob (ghCells gh g1) fun cs1 => 
  ob (grab false 1 o1 cs1) fun v2 => isC (degr v2) (
  callR gh true (callL pg 116 [(.int .i64 x0)] gh) fun r3 gh4 => unI .i64 r3 fun n5 => 
  idX 1 none (degr (degr v2)) (IntKind.i64.wrap (n5 - 1)) fun p6 => 
  ldX [] gh4 false 1 (degr p6) fun v7 => unB v7 fun b8 => some (.ret, ⟨[(3, (.bool (b8 == (decide (0 < x0)))))], [], gh4⟩))

theorem D_cnf_Hold_1_0_ok {pg : Prg} {gh : List GObj} {x0 : Int} {g1 : Nat} {o1 : Nat} {e : IExit} {s : St} (h : D_cnf_Hold_1_0 pg x0 g1 o1 gh = some (e, s)) : runL pg f_cnf_Hold_1_0 ⟨[(0, (.int .i64 x0)), (1, (.ptr true g1 o1))], [], gh⟩ = some (e, s) :=
  runX_ok an_cnf_Hold_1 (Eq.trans (by kernel_rfl) h)

end Go.Lw
end

/-! What the code of function cnf_Hold_2 comes to, piece by piece. Written by program (dprint.py). -/
section
set_option maxRecDepth 10000
set_option maxHeartbeats 4000000
namespace Go.Lw
open Go

def an_cnf_Hold_2 : Tr := (.node 4 (.ce (.one)) (.node 1 (.ce (.gp)) (.node 0 (.ce (.one)) .nil .nil) (.node 3 (.ce (.bool)) .nil .nil)) (.node 6 (.ce (.bool)) (.node 5 (.ce (.one)) .nil .nil) (.node 7 (.ce (.bool)) .nil .nil)))

noncomputable def D_cnf_Hold_2_0 (pg : Prg) (v0 : PV) (g1 : Nat) (o1 : Nat) (gh : List GObj) : Option (IExit × St) := stK 0 v0 (isC (degr v0) (
  ob (ghCells gh g1) fun cs1 => 
  ob (grab false 1 o1 cs1) fun v2 => isC (degr v2) (arK (degr (degr v0)) (arK (degr (degr v2)) (
  callR gh true (callL pg 86 [(degr (degr v0)), (degr (degr v2))] gh) fun r3 gh4 => unB r3 fun b5 => some (.ret, ⟨[(3, (.bool (!b5)))], [], gh4⟩))))))

theorem D_cnf_Hold_2_0_ok {pg : Prg} {gh : List GObj} {v0 : PV} {g1 : Nat} {o1 : Nat} {e : IExit} {s : St} (h : D_cnf_Hold_2_0 pg v0 g1 o1 gh = some (e, s)) : runL pg f_cnf_Hold_2_0 ⟨[(0, v0), (1, (.ptr true g1 o1))], [], gh⟩ = some (e, s) :=
  runX_ok an_cnf_Hold_2 (Eq.trans (by kernel_rfl) h)

end Go.Lw
end

/-! What the code of function cnf_Holds comes to, piece by piece. Written by program (dprint.py). -/
section
set_option maxRecDepth 10000
set_option maxHeartbeats 4000000
namespace Go.Lw
open Go

def an_cnf_Holds : Tr := (.node 10 (.ce (.bool)) (.node 6 (.ce (.int .i64)) (.node 4 (.ce (.bool)) (.node 1 (.ce (.one)) (.node 0 (.agg [.int .i64, .any]) .nil .nil) .nil) (.node 5 (.ce (.int .i64)) .nil .nil)) (.node 8 (.ce (.int .i64)) (.node 7 (.agg [.int .i64, .any]) .nil .nil) (.node 9 (.ce (.int .i64)) .nil .nil))) (.node 16 (.ce (.bool)) (.node 13 (.ce (.int .i64)) (.node 12 (.ce (.one)) (.node 11 (.ce (.int .i64)) .nil .nil) .nil) (.node 15 (.ce (.int .i64)) .nil .nil)) (.node 18 (.ce (.one)) (.node 17 (.agg [.int .i64, .any]) .nil .nil) (.node 19 (.ce (.bool)) .nil .nil))))

noncomputable def D_cnf_Holds_0 (pg : Prg) (x0_0 : Int) (v0_1 : PV) (v1 : PV) (gh : List GObj) : Option (IExit × St) := onK (degr1 v0_1) (stK 1 v1 (onK (degr1 (degr1 (degr1 v0_1))) (
  callR gh true (callL pg 59 [(.agg [(.int .i64 x0_0), (degr1 (degr1 (degr1 v0_1)))])] gh) fun r1 gh2 => unI .i64 r1 fun n3 => stK 1 v1 (stK 1 v1 (
  br 10 (n3 != 0) (some (.ret, ⟨[(4, (.bool false)), (5, (.int .i64 n3))], [], gh2⟩)) (isC (degr v1) (lenS (degr (degr v1)) fun n4 => stK 1 v1 (
  br 16 ((n4 : Int) != x0_0) (some (.ret, ⟨[(4, (.bool false)), (5, (.int .i64 1))], [], gh2⟩)) (isC (degr v1) (onK (degr1 (degr1 (degr1 v0_1))) (arK (degr (degr v1)) (
  callR gh2 true (callL pg 70 [(.agg [(.int .i64 x0_0), (degr1 (degr1 (degr1 v0_1)))]), (degr (degr v1))] gh2) fun r5 gh6 => unB r5 fun b7 => some (.ret, ⟨[(4, (.bool b7)), (5, (.int .i64 0))], [], gh6⟩)))))))))))))

theorem D_cnf_Holds_0_ok {pg : Prg} {gh : List GObj} {x0_0 : Int} {v0_1 : PV} {v1 : PV} {e : IExit} {s : St} (h : D_cnf_Holds_0 pg x0_0 v0_1 v1 gh = some (e, s)) : runL pg f_cnf_Holds_0 ⟨[(0, (.agg [(.int .i64 x0_0), v0_1])), (1, v1)], [], gh⟩ = some (e, s) :=
  runX_ok an_cnf_Holds (Eq.trans (by kernel_rfl) h)

end Go.Lw
end

/-! What the code of function law_cnfBegun comes to, piece by piece. Written by program (dprint.py). -/
section
set_option maxRecDepth 10000
set_option maxHeartbeats 4000000
namespace Go.Lw
open Go

def an_law_cnfBegun : Tr := (.node 21 (.ce (.bool)) (.node 11 (.agg [.int .i64, .any]) (.node 6 (.agg [.int .i64, .int .i64]) (.node 3 (.ce (.bool)) (.node 2 (.ce (.int .i64)) (.node 0 (.ce (.bool)) .nil .nil) .nil) (.node 5 (.tup 2) (.node 4 (.ce (.int .i64)) .nil .nil) .nil)) (.node 9 (.ce (.one)) (.node 8 (.agg [.int .i64, .any]) (.node 7 (.ce (.one)) .nil .nil) .nil) (.node 10 (.tup 2) .nil .nil))) (.node 16 (.tup 2) (.node 14 (.agg [.int .i64, .any]) (.node 13 (.tup 2) (.node 12 (.ce (.int .i64)) .nil .nil) .nil) (.node 15 (.ce (.one)) .nil .nil)) (.node 19 (.ce (.int .i64)) (.node 18 (.ce (.int .i64)) (.node 17 (.ce (.bool)) .nil .nil) .nil) (.node 20 (.ce (.bool)) .nil .nil)))) (.node 33 (.ce (.bool)) (.node 27 (.ce (.bool)) (.node 24 (.ce (.bool)) (.node 23 (.ce (.bool)) (.node 22 (.ce (.int .i64)) .nil .nil) .nil) (.node 26 (.ce (.bool)) (.node 25 (.ce (.bool)) .nil .nil) .nil)) (.node 31 (.ce (.bool)) (.node 30 (.ce (.int .i64)) (.node 28 (.ce (.bool)) .nil .nil) .nil) (.node 32 (.ce (.bool)) .nil .nil))) (.node 39 (.ce (.bool)) (.node 37 (.ce (.bool)) (.node 36 (.ce (.int .i64)) (.node 35 (.ce (.one)) .nil .nil) .nil) (.node 38 (.ce (.bool)) .nil .nil)) (.node 42 (.ce (.bool)) (.node 41 (.ce (.int .i64)) (.node 40 (.agg [.int .i64, .any]) .nil .nil) .nil) (.node 43 (.ce (.bool)) .nil .nil)))))

noncomputable def D_law_cnfBegun_0 (pg : Prg)  (gh : List GObj) : Option (IExit × St) := 
  callR gh true (callL pg 16 [(.agg [(.int .i64 2), (.sl false 2 [(.agg [(.int .i64 2), (.int .i64 4)])])]), (.sl false 1 [(.int .i64 6)])] gh) fun r1 gh2 => unT 2 r1 fun r3 r4 => unA 2 (degr1 (degr1 r3)) fun c5 c6 => unI .i64 c5 fun n7 => unI .i64 (degr1 (degr1 r4)) fun n8 => onK c6 (onK (degr1 (degr1 c6)) (
  callR gh2 true (callL pg 32 [(.agg [(.int .i64 n7), (degr1 (degr1 c6))]), (.sl false 1 [(.bool true), (.bool true), (.bool true)])] gh2) fun r9 gh10 => unT 2 r9 fun r11 r12 => unB (degr1 (degr1 r11)) fun b13 => unI .i64 (degr1 (degr1 r12)) fun n14 => 
  br 21 (n8 == 0) (
  br 25 (n14 == 0) (
  br 28 b13 (
  br 33 (n7 == 3) (isC (degr c6) (lenS (degr (degr c6)) fun n15 => 
  br 39 ((n15 : Int) == 4) (onK (degr1 (degr1 c6)) (
  callR gh10 true (callL pg 59 [(.agg [(.int .i64 n7), (degr1 (degr1 c6))])] gh10) fun r16 gh17 => unI .i64 r16 fun n18 => some (.ret, ⟨[(0, (.bool (n18 == 0)))], [], gh17⟩))) (some (.ret, ⟨[(0, (.bool false))], [], gh10⟩)))) (some (.ret, ⟨[(0, (.bool false))], [], gh10⟩))) (some (.ret, ⟨[(0, (.bool false))], [], gh10⟩))) (some (.ret, ⟨[(0, (.bool false))], [], gh10⟩))) (some (.ret, ⟨[(0, (.bool false))], [], gh10⟩))))

theorem D_law_cnfBegun_0_ok {pg : Prg} {gh : List GObj}  {e : IExit} {s : St} (h : D_law_cnfBegun_0 pg  gh = some (e, s)) : runL pg f_law_cnfBegun_0 ⟨[], [], gh⟩ = some (e, s) :=
  runX_ok an_law_cnfBegun (Eq.trans (by kernel_rfl) h)

end Go.Lw
end

/-! What the code of function slices_IndexFunc_LLint_Lint comes to, piece by piece. Written by program (dprint.py). -/
section
set_option maxRecDepth 10000
set_option maxHeartbeats 4000000
namespace Go.Lw
open Go

def an_slices_IndexFunc_LLint_Lint : Tr := (.node 10 (.ce (.int .i64)) (.node 6 (.ce (.one)) (.node 4 (.ce (.int .i64)) (.node 1 (.ce (.one)) (.node 0 (.ce (.one)) .nil .nil) .nil) (.node 5 (.ce (.int .i64)) .nil .nil)) (.node 8 (.ce (.int .i64)) (.node 7 (.ce (.int .i64)) .nil .nil) (.node 9 (.ce (.bool)) .nil .nil))) (.node 15 (.ce (.one)) (.node 12 (.ce (.one)) (.node 11 (.ce (.one)) .nil .nil) (.node 13 (.ce (.int .i64)) .nil .nil)) (.node 17 (.ce (.int .i64)) (.node 16 (.ce (.bool)) .nil .nil) (.node 18 (.ce (.int .i64)) .nil .nil))))

noncomputable def D_slices_IndexFunc_LLint_Lint_b1 (pg : Prg) (v0 : PV) (v1 : PV) (x7 : Int) (x8 : Int) (gh : List GObj) : Option (IExit × St) := 
  br 9 (decide (x8 < x7)) (stK 0 v0 (stK 0 v1 (isC (degr v1) (isC (degr v0) (
  idX 1 none (degr (degr v0)) x8 fun p1 => 
  ldX [] gh false 1 (degr p1) fun v2 => isC v2 (
  fnX (degr (degr v1)) fun f5 cs6 => arK (degr v2) (allK cs6 (callR gh true (callL pg f5 ([(degr v2)] ++ cs6) gh) fun r3 gh4 => unB r3 fun b7 => stK 0 v0 (stK 0 v1 (
  br 16 b7 (some (.ret, ⟨[(4, (.int .i64 x8))], [], gh4⟩)) (stK 0 v0 (stK 0 v1 (stK 0 v0 (stK 0 v1 (some (.normal, ⟨[(0, v0), (1, v1), (7, (.int .i64 x7)), (8, (.int .i64 (IntKind.i64.wrap (x8 + 1))))], [], gh4⟩)))))))))))))))) (some ((.exit 0), ⟨[(0, v0), (1, v1), (7, (.int .i64 x7)), (8, (.int .i64 x8)), (9, (.bool (decide (x8 < x7))))], [], gh⟩))

theorem D_slices_IndexFunc_LLint_Lint_b1_ok {pg : Prg} {gh : List GObj} {v0 : PV} {v1 : PV} {x7 : Int} {x8 : Int} {e : IExit} {s : St} (h : D_slices_IndexFunc_LLint_Lint_b1 pg v0 v1 x7 x8 gh = some (e, s)) : runL pg f_slices_IndexFunc_LLint_Lint_b1 ⟨[(0, v0), (1, v1), (7, (.int .i64 x7)), (8, (.int .i64 x8))], [], gh⟩ = some (e, s) :=
  runX_ok an_slices_IndexFunc_LLint_Lint (Eq.trans (by kernel_rfl) h)

noncomputable def D_slices_IndexFunc_LLint_Lint_k1 (pg : Prg)  (gh : List GObj) : Option (IExit × St) := some (.ret, ⟨[(4, (.int .i64 (-1)))], [], gh⟩)

theorem D_slices_IndexFunc_LLint_Lint_k1_ok {pg : Prg} {gh : List GObj}  {e : IExit} {s : St} (h : D_slices_IndexFunc_LLint_Lint_k1 pg  gh = some (e, s)) : runL pg f_slices_IndexFunc_LLint_Lint_k1 ⟨[], [], gh⟩ = some (e, s) :=
  runX_ok an_slices_IndexFunc_LLint_Lint (Eq.trans (by kernel_rfl) h)

noncomputable def D_slices_IndexFunc_LLint_Lint_0 (pg : Prg) (v0 : PV) (v1 : PV) (gh : List GObj) : Option (IExit × St) := stK 0 v0 (stK 0 v1 (isC (degr v0) (lenS (degr (degr v0)) fun n1 => stK 0 v0 (stK 0 v1 (
  kR (runL pg f_slices_IndexFunc_LLint_Lint_l1 ⟨[(0, v0), (1, v1), (7, (.int .i64 (n1 : Int))), (8, (.int .i64 0))], [], gh⟩) (fun e s => nx e s (fun e s => some (e, s)) fun s => kR (runL pg f_slices_IndexFunc_LLint_Lint_k1 s) (fun e s => some (e, s))))))))

theorem D_slices_IndexFunc_LLint_Lint_0_ok {pg : Prg} {gh : List GObj} {v0 : PV} {v1 : PV} {e : IExit} {s : St} (h : D_slices_IndexFunc_LLint_Lint_0 pg v0 v1 gh = some (e, s)) : runL pg f_slices_IndexFunc_LLint_Lint_0 ⟨[(0, v0), (1, v1)], [], gh⟩ = some (e, s) :=
  runX_ok an_slices_IndexFunc_LLint_Lint (Eq.trans (by kernel_rfl) h)

end Go.Lw
end

/-! What the code of function slices_ContainsFunc_LLint_Lint comes to, piece by piece. Written by program (dprint.py). -/
section
set_option maxRecDepth 10000
set_option maxHeartbeats 4000000
namespace Go.Lw
open Go

def an_slices_ContainsFunc_LLint_Lint : Tr := (.node 5 (.ce (.one)) (.node 1 (.ce (.one)) (.node 0 (.ce (.one)) .nil .nil) (.node 4 (.ce (.bool)) .nil .nil)) (.node 7 (.ce (.int .i64)) (.node 6 (.ce (.one)) .nil .nil) (.node 8 (.ce (.bool)) .nil .nil)))

noncomputable def D_slices_ContainsFunc_LLint_Lint_0 (pg : Prg) (v0 : PV) (v1 : PV) (gh : List GObj) : Option (IExit × St) := stK 0 v0 (stK 0 v1 (isC (degr v0) (isC (degr v1) (arK (degr (degr v0)) (arK (degr (degr v1)) (
  callR gh true (callL pg 117 [(degr (degr v0)), (degr (degr v1))] gh) fun r1 gh2 => unI .i64 r1 fun n3 => some (.ret, ⟨[(4, (.bool (decide (0 ≤ n3))))], [], gh2⟩)))))))

theorem D_slices_ContainsFunc_LLint_Lint_0_ok {pg : Prg} {gh : List GObj} {v0 : PV} {v1 : PV} {e : IExit} {s : St} (h : D_slices_ContainsFunc_LLint_Lint_0 pg v0 v1 gh = some (e, s)) : runL pg f_slices_ContainsFunc_LLint_Lint_0 ⟨[(0, v0), (1, v1)], [], gh⟩ = some (e, s) :=
  runX_ok an_slices_ContainsFunc_LLint_Lint (Eq.trans (by kernel_rfl) h)

end Go.Lw
end

/-! What the code of function cnf_Clause comes to, piece by piece. Written by program (dprint.py). -/
section
set_option maxRecDepth 10000
set_option maxHeartbeats 4000000
namespace Go.Lw
open Go

def an_cnf_Clause : Tr := (.node 5 (.ce (.int .i64)) (.node 1 (.ce (.one)) (.node 0 (.ce (.int .i64)) .nil .nil) (.node 4 (.ce (.int .i64)) .nil .nil)) (.node 7 (.ce (.int .i64)) (.node 6 (.ce (.one)) .nil .nil) .nil))

noncomputable def D_cnf_Clause_0 (pg : Prg) (x0 : Int) (v1 : PV) (gh : List GObj) : Option (IExit × St) := stK 0 v1 (isC (degr v1) (arK (degr (degr v1)) (
  callR gh true (callL pg 94 [(.int .i64 x0), (degr (degr v1))] gh) fun r1 gh2 => unI .i64 r1 fun n3 => some (.ret, ⟨[(4, (.int .i64 n3))], [], gh2⟩))))

theorem D_cnf_Clause_0_ok {pg : Prg} {gh : List GObj} {x0 : Int} {v1 : PV} {e : IExit} {s : St} (h : D_cnf_Clause_0 pg x0 v1 gh = some (e, s)) : runL pg f_cnf_Clause_0 ⟨[(0, (.int .i64 x0)), (1, v1)], [], gh⟩ = some (e, s) :=
  runX_ok an_cnf_Clause (Eq.trans (by kernel_rfl) h)

end Go.Lw
end

/-! What the code of function proof_Follows comes to, piece by piece. Written by program (dprint.py). -/
section
set_option maxRecDepth 10000
set_option maxHeartbeats 4000000
namespace Go.Lw
open Go

def an_proof_Follows : Tr := (.node 12 (.ce (.int .i64)) (.node 6 (.ce (.int .i64)) (.node 4 (.ce (.bool)) (.node 1 (.ce (.one)) (.node 0 (.agg [.int .i64, .any]) .nil .nil) .nil) (.node 5 (.ce (.int .i64)) .nil .nil)) (.node 9 (.ce (.int .i64)) (.node 8 (.ce (.int .i64)) (.node 7 (.agg [.int .i64, .any]) .nil .nil) .nil) (.node 10 (.ce (.bool)) .nil .nil))) (.node 17 (.ce (.int .i64)) (.node 15 (.ce (.int .i64)) (.node 14 (.ce (.int .i64)) (.node 13 (.ce (.one)) .nil .nil) .nil) (.node 16 (.ce (.bool)) .nil .nil)) (.node 21 (.ce (.one)) (.node 20 (.ce (.gp)) (.node 19 (.ce (.one)) .nil .nil) .nil) (.node 22 (.ce (.bool)) .nil .nil))))

noncomputable def D_proof_Follows_k1 (pg : Prg) (v1 : PV) (x6 : Int) (xc0_0 : Int) (vc0_1 : PV) (gh : List GObj) : Option (IExit × St) := stK 1 v1 (
  br 16 (x6 != 0) (some (.ret, ⟨[(4, (.bool false)), (5, (.int .i64 x6))], [], gh⟩)) (isC (degr vc0_1) (arK (degr (degr vc0_1)) (
  callR gh false (callL pg 154 [(degr (degr vc0_1))] gh) fun r1 gh2 => unG r1 fun g3 o4 => isC (degr v1) (arK (degr (degr v1)) (
  callR gh2 false (callL pg 155 [(.ptr true g3 o4), (degr (degr v1))] gh2) fun r5 gh6 => unB r5 fun b7 => some (.ret, ⟨[(4, (.bool b7)), (5, (.int .i64 0))], [], gh6⟩)))))))

theorem D_proof_Follows_k1_ok {pg : Prg} {gh : List GObj} {v1 : PV} {x6 : Int} {xc0_0 : Int} {vc0_1 : PV} {e : IExit} {s : St} (h : D_proof_Follows_k1 pg v1 x6 xc0_0 vc0_1 gh = some (e, s)) : runL pg f_proof_Follows_k1 ⟨[(1, v1), (2, (.ptr false 0 0)), (6, (.int .i64 x6))], [[(.int .i64 xc0_0), vc0_1]], gh⟩ = some (e, s) :=
  runX_ok an_proof_Follows (Eq.trans (by kernel_rfl) h)

noncomputable def D_proof_Follows_0 (pg : Prg) (x0_0 : Int) (v0_1 : PV) (v1 : PV) (gh : List GObj) : Option (IExit × St) := onK (degr1 v0_1) (stK 1 v1 (onK (degr1 (degr1 (degr1 v0_1))) (
  callR gh true (callL pg 59 [(.agg [(.int .i64 x0_0), (degr1 (degr1 (degr1 v0_1)))])] gh) fun r1 gh2 => unI .i64 r1 fun n3 => stK 1 v1 (stK 1 v1 (
  br 10 (n3 == 0) (isC (degr v1) (arK (degr (degr v1)) (
  callR gh2 true (callL pg 153 [(.int .i64 x0_0), (degr (degr v1))] gh2) fun r4 gh5 => unI .i64 r4 fun n6 => stK 1 v1 (stK 1 v1 (
  kR (runL pg f_proof_Follows_k1 ⟨[(1, v1), (2, (.ptr false 0 0)), (6, (.int .i64 n6))], [[(.int .i64 x0_0), (degr1 v0_1)]], gh5⟩) (fun e s => some (e, s))))))) (stK 1 v1 (
  kR (runL pg f_proof_Follows_k1 ⟨[(1, v1), (2, (.ptr false 0 0)), (6, (.int .i64 n3))], [[(.int .i64 x0_0), (degr1 v0_1)]], gh2⟩) (fun e s => some (e, s)))))))))

theorem D_proof_Follows_0_ok {pg : Prg} {gh : List GObj} {x0_0 : Int} {v0_1 : PV} {v1 : PV} {e : IExit} {s : St} (h : D_proof_Follows_0 pg x0_0 v0_1 v1 gh = some (e, s)) : runL pg f_proof_Follows_0 ⟨[(0, (.agg [(.int .i64 x0_0), v0_1])), (1, v1)], [], gh⟩ = some (e, s) :=
  runX_ok an_proof_Follows (Eq.trans (by kernel_rfl) h)

end Go.Lw
end

/-! What the code of function proof_Check comes to, piece by piece. Written by program (dprint.py). -/
section
set_option maxRecDepth 10000
set_option maxHeartbeats 4000000
namespace Go.Lw
open Go

def an_proof_Check : Tr := (.node 27 (.ce (.bool)) (.node 14 (.ce (.int .i64)) (.node 7 (.ce (.int .i64)) (.node 4 (.ce (.bool)) (.node 1 (.ce (.one)) (.node 0 (.agg [.int .i64, .any]) .nil .nil) .nil) (.node 6 (.ce (.int .i64)) (.node 5 (.ce (.int .i64)) .nil .nil) .nil)) (.node 11 (.ce (.one)) (.node 9 (.ce (.bool)) (.node 8 (.ce (.gp)) .nil .nil) .nil) (.node 13 (.ce (.int .i64)) (.node 12 (.agg [.int .i64, .any]) .nil .nil) .nil))) (.node 22 (.ce (.one)) (.node 18 (.ce (.int .i64)) (.node 16 (.ce (.int .i64)) (.node 15 (.ce (.bool)) .nil .nil) .nil) (.node 21 (.ce (.one)) (.node 20 (.ce (.one)) .nil .nil) .nil)) (.node 25 (.ce (.int .i64)) (.node 24 (.agg [.int .i64, .any]) (.node 23 (.ce (.one)) .nil .nil) .nil) (.node 26 (.ce (.int .i64)) .nil .nil)))) (.node 41 (.ce (.bool)) (.node 34 (.ce (.int .i64)) (.node 31 (.ce (.gp)) (.node 30 (.ce (.one)) (.node 28 (.ce (.int .i64)) .nil .nil) .nil) (.node 33 (.ce (.int .i64)) (.node 32 (.ce (.one)) .nil .nil) .nil)) (.node 38 (.ce (.gp)) (.node 37 (.ce (.one)) (.node 35 (.ce (.bool)) .nil .nil) .nil) (.node 40 (.ce (.bool)) (.node 39 (.ce (.one)) .nil .nil) .nil))) (.node 48 (.ce (.int .i64)) (.node 45 (.ce (.bool)) (.node 43 (.ce (.one)) (.node 42 (.ce (.gp)) .nil .nil) .nil) (.node 47 (.ce (.one)) (.node 46 (.ce (.bool)) .nil .nil) .nil)) (.node 51 (.ce (.int .i64)) (.node 50 (.ce (.bool)) (.node 49 (.ce (.bool)) .nil .nil) .nil) (.node 52 (.ce (.bool)) .nil .nil)))))

noncomputable def D_proof_Check_b1 (pg : Prg) (g8 : Nat) (o8 : Nat) (b9 : Bool) (v32 : PV) (x33 : Int) (x34 : Int) (gh : List GObj) : Option (IExit × St) := 
  br 35 (decide (x34 < x33)) (
  idX 1 none (degr v32) x34 fun p1 => 
  ldX [] gh false 1 (degr p1) fun v2 => isC v2 (stK 0 v2 (stK 0 v32 (isC (degr v2) (arK (degr (degr v2)) (
  callR gh false (callL pg 155 [(.ptr true g8 o8), (degr (degr v2))] gh) fun r3 gh4 => unB r3 fun b5 => stK 0 v2 (stK 0 v32 (
  br 41 (!b5) (some (.ret, ⟨[(4, (.bool false)), (5, (.int .i64 0))], [], gh4⟩)) (isC (degr v2) (arK (degr (degr v2)) (
  callR gh4 false (callL pg 157 [(.ptr true g8 o8), (degr (degr v2))] gh4) fun r6 gh7 => stK 0 v2 (stK 0 v32 (
  br 46 b9 (stK 0 v32 (stK 0 v32 (stK 0 v32 (some (.normal, ⟨[(8, (.ptr true g8 o8)), (9, (.bool true)), (32, v32), (33, (.int .i64 x33)), (34, (.int .i64 (IntKind.i64.wrap (x34 + 1))))], [], gh7⟩))))) (isC (degr v2) (lenS (degr (degr v2)) fun n8 => stK 0 v32 (stK 0 v32 (stK 0 v32 (some (.normal, ⟨[(8, (.ptr true g8 o8)), (9, (.bool ((n8 : Int) == 0))), (32, v32), (33, (.int .i64 x33)), (34, (.int .i64 (IntKind.i64.wrap (x34 + 1))))], [], gh7⟩))))))))))))))))))) (some ((.exit 0), ⟨[(8, (.ptr true g8 o8)), (9, (.bool b9)), (32, v32), (33, (.int .i64 x33)), (34, (.int .i64 x34)), (35, (.bool (decide (x34 < x33))))], [], gh⟩))

theorem D_proof_Check_b1_ok {pg : Prg} {gh : List GObj} {g8 : Nat} {o8 : Nat} {b9 : Bool} {v32 : PV} {x33 : Int} {x34 : Int} {e : IExit} {s : St} (h : D_proof_Check_b1 pg g8 o8 b9 v32 x33 x34 gh = some (e, s)) : runL pg f_proof_Check_b1 ⟨[(8, (.ptr true g8 o8)), (9, (.bool b9)), (32, v32), (33, (.int .i64 x33)), (34, (.int .i64 x34))], [], gh⟩ = some (e, s) :=
  runX_ok an_proof_Check (Eq.trans (by kernel_rfl) h)

noncomputable def D_proof_Check_k1 (pg : Prg) (b9 : Bool) (gh : List GObj) : Option (IExit × St) := some (.ret, ⟨[(4, (.bool b9)), (5, (.int .i64 0))], [], gh⟩)

theorem D_proof_Check_k1_ok {pg : Prg} {gh : List GObj} {b9 : Bool} {e : IExit} {s : St} (h : D_proof_Check_k1 pg b9 gh = some (e, s)) : runL pg f_proof_Check_k1 ⟨[(9, (.bool b9))], [], gh⟩ = some (e, s) :=
  runX_ok an_proof_Check (Eq.trans (by kernel_rfl) h)

noncomputable def D_proof_Check_0 (pg : Prg) (x0_0 : Int) (v0_1 : PV) (v1 : PV) (gh : List GObj) : Option (IExit × St) := onK (degr1 v0_1) (stK 1 v1 (onK (degr1 (degr1 (degr1 v0_1))) (
  callR gh true (callL pg 59 [(.agg [(.int .i64 x0_0), (degr1 (degr1 (degr1 v0_1)))])] gh) fun r1 gh2 => unI .i64 r1 fun n3 => stK 1 v1 (stK 1 v1 (
  br 15 (n3 != 0) (some (.ret, ⟨[(4, (.bool false)), (5, (.int .i64 n3))], [], gh2⟩)) (isC (degr (degr1 v0_1)) (isC (degr v1) (arK (degr (degr (degr1 v0_1))) (lnK 1 (degr (degr (degr1 v0_1))) (arK (degr (degr v1)) (lnK 1 (degr (degr v1)) (
  callR gh2 true (callL pg 156 [(.sl false 1 [(degr (degr (degr1 v0_1))), (degr (degr v1))])] gh2) fun r4 gh5 => isC r4 (arK r4 (isC r4 (onK (degr1 r4) (
  callR gh5 true (callL pg 59 [(.agg [(.int .i64 x0_0), (degr1 r4)])] gh5) fun r6 gh7 => unI .i64 r6 fun n8 => stK 1 v1 (stK 1 v1 (
  br 27 (n8 != 0) (some (.ret, ⟨[(4, (.bool false)), (5, (.int .i64 n8))], [], gh7⟩)) (isC (degr (degr1 v0_1)) (arK (degr (degr (degr1 v0_1))) (
  callR gh7 false (callL pg 154 [(degr (degr (degr1 v0_1)))] gh7) fun r9 gh10 => unG r9 fun g11 o12 => stK 0 v1 (isC (degr v1) (lenS (degr (degr v1)) fun n13 => stK 0 (degr v1) (
  kR (runL pg f_proof_Check_l1 ⟨[(8, (.ptr true g11 o12)), (9, (.bool false)), (32, (degr v1)), (33, (.int .i64 (n13 : Int))), (34, (.int .i64 0))], [], gh10⟩) (fun e s => nx e s (fun e s => some (e, s)) fun s => kR (runL pg f_proof_Check_k1 s) (fun e s => some (e, s)))))))))))))))))))))))))))

theorem D_proof_Check_0_ok {pg : Prg} {gh : List GObj} {x0_0 : Int} {v0_1 : PV} {v1 : PV} {e : IExit} {s : St} (h : D_proof_Check_0 pg x0_0 v0_1 v1 gh = some (e, s)) : runL pg f_proof_Check_0 ⟨[(0, (.agg [(.int .i64 x0_0), v0_1])), (1, v1)], [], gh⟩ = some (e, s) :=
  runX_ok an_proof_Check (Eq.trans (by kernel_rfl) h)

end Go.Lw
end

/-! What the code of function slices_Concat_LLint_Lint comes to, piece by piece. Written by program (dprint.py). -/
section
set_option maxRecDepth 10000
set_option maxHeartbeats 4000000
namespace Go.Lw
open Go

def an_slices_Concat_LLint_Lint : Tr := (.node 19 (.ce (.int .i64)) (.node 10 (.ce (.int .i64)) (.node 5 (.ce (.one)) (.node 2 (.ce (.one)) (.node 0 (.ce (.one)) .nil .nil) (.node 3 (.ce (.int .i64)) .nil .nil)) (.node 8 (.ce (.one)) (.node 6 (.ce (.one)) .nil .nil) (.node 9 (.ce (.one)) .nil .nil))) (.node 15 (.ce (.int .i64)) (.node 12 (.ce (.bool)) (.node 11 (.ce (.int .i64)) .nil .nil) (.node 14 (.ce (.one)) .nil .nil)) (.node 17 (.ce (.int .i64)) (.node 16 (.ce (.one)) .nil .nil) (.node 18 (.ce (.int .i64)) .nil .nil)))) (.node 28 (.ce (.bool)) (.node 24 (.ce (.one)) (.node 22 (.ce (.int .i64)) (.node 20 (.ce (.bool)) .nil .nil) (.node 23 (.ce (.int .i64)) .nil .nil)) (.node 26 (.ce (.int .i64)) (.node 25 (.ce (.one)) .nil .nil) (.node 27 (.ce (.int .i64)) .nil .nil))) (.node 33 (.ce (.one)) (.node 31 (.ce (.one)) (.node 30 (.ce (.one)) .nil .nil) (.node 32 (.ce (.one)) .nil .nil)) (.node 35 (.ce (.one)) (.node 34 (.ce (.int .i64)) .nil .nil) .nil))))

noncomputable def D_slices_Concat_LLint_Lint_b1 (pg : Prg) (v0 : PV) (x3 : Int) (v9 : PV) (x10 : Int) (x11 : Int) (gh : List GObj) : Option (IExit × St) := 
  br 12 (decide (x11 < x10)) (
  idX 1 none (degr v9) x11 fun p1 => 
  ldX [] gh false 1 (degr p1) fun v2 => isC v2 (stK 0 v0 (stK 0 v2 (stK 0 v9 (isC (degr v2) (lenS (degr (degr v2)) fun n3 => stK 0 v0 (stK 0 v9 (stK 0 v0 (stK 0 v9 (
  br 20 (decide ((IntKind.i64.wrap (x3 + (n3 : Int))) < 0)) (none) (stK 0 v0 (stK 0 v9 (stK 0 v0 (stK 0 v9 (some (.normal, ⟨[(0, v0), (3, (.int .i64 (IntKind.i64.wrap (x3 + (n3 : Int))))), (9, v9), (10, (.int .i64 x10)), (11, (.int .i64 (IntKind.i64.wrap (x11 + 1))))], [], gh⟩)))))))))))))))) (some ((.exit 0), ⟨[(0, v0), (3, (.int .i64 x3)), (9, v9), (10, (.int .i64 x10)), (11, (.int .i64 x11)), (12, (.bool (decide (x11 < x10))))], [], gh⟩))

theorem D_slices_Concat_LLint_Lint_b1_ok {pg : Prg} {gh : List GObj} {v0 : PV} {x3 : Int} {v9 : PV} {x10 : Int} {x11 : Int} {e : IExit} {s : St} (h : D_slices_Concat_LLint_Lint_b1 pg v0 x3 v9 x10 x11 gh = some (e, s)) : runL pg f_slices_Concat_LLint_Lint_b1 ⟨[(0, v0), (3, (.int .i64 x3)), (9, v9), (10, (.int .i64 x10)), (11, (.int .i64 x11))], [], gh⟩ = some (e, s) :=
  runX_ok an_slices_Concat_LLint_Lint (Eq.trans (by kernel_rfl) h)

noncomputable def D_slices_Concat_LLint_Lint_b2 (pg : Prg) (v6 : PV) (v25 : PV) (x26 : Int) (x27 : Int) (gh : List GObj) : Option (IExit × St) := 
  br 28 (decide (x27 < x26)) (
  idX 1 none (degr v25) x27 fun p1 => 
  ldX [] gh false 1 (degr p1) fun v2 => isC v2 (stK 0 v6 (stK 0 v2 (stK 0 v25 (isC (degr v2) (
  apX 1 24 v6 (degr (degr v2)) fun l3 => stK 0 v25 (stK 0 v25 (stK 0 v25 (some (.normal, ⟨[(6, (.sl true 1 l3)), (25, v25), (26, (.int .i64 x26)), (27, (.int .i64 (IntKind.i64.wrap (x27 + 1))))], [], gh⟩)))))))))) (some ((.exit 2), ⟨[(6, v6), (25, v25), (26, (.int .i64 x26)), (27, (.int .i64 x27)), (28, (.bool (decide (x27 < x26))))], [], gh⟩))

theorem D_slices_Concat_LLint_Lint_b2_ok {pg : Prg} {gh : List GObj} {v6 : PV} {v25 : PV} {x26 : Int} {x27 : Int} {e : IExit} {s : St} (h : D_slices_Concat_LLint_Lint_b2 pg v6 v25 x26 x27 gh = some (e, s)) : runL pg f_slices_Concat_LLint_Lint_b2 ⟨[(6, v6), (25, v25), (26, (.int .i64 x26)), (27, (.int .i64 x27))], [], gh⟩ = some (e, s) :=
  runX_ok an_slices_Concat_LLint_Lint (Eq.trans (by kernel_rfl) h)

noncomputable def D_slices_Concat_LLint_Lint_k2 (pg : Prg) (v6 : PV) (gh : List GObj) : Option (IExit × St) := isC (degr v6) (stK 0 (degr v6) (some (.ret, ⟨[(2, (degr v6))], [], gh⟩)))

theorem D_slices_Concat_LLint_Lint_k2_ok {pg : Prg} {gh : List GObj} {v6 : PV} {e : IExit} {s : St} (h : D_slices_Concat_LLint_Lint_k2 pg v6 gh = some (e, s)) : runL pg f_slices_Concat_LLint_Lint_k2 ⟨[(6, v6)], [], gh⟩ = some (e, s) :=
  runX_ok an_slices_Concat_LLint_Lint (Eq.trans (by kernel_rfl) h)

noncomputable def D_slices_Concat_LLint_Lint_k1 (pg : Prg) (v0 : PV) (x3 : Int) (gh : List GObj) : Option (IExit × St) := 
  callR gh true (callL pg 160 [.nils, (.int .i64 x3)] gh) fun r1 gh2 => isC r1 (stK 0 v0 (stK 0 r1 (isC (degr v0) (lenS (degr (degr v0)) fun n3 => stK 0 r1 (stK 0 (degr v0) (
  kR (runL pg f_slices_Concat_LLint_Lint_l2 ⟨[(6, r1), (25, (degr v0)), (26, (.int .i64 (n3 : Int))), (27, (.int .i64 0))], [], gh2⟩) (fun e s => nx e s (fun e s => some (e, s)) fun s => kR (runL pg f_slices_Concat_LLint_Lint_k2 s) (fun e s => some (e, s)))))))))

theorem D_slices_Concat_LLint_Lint_k1_ok {pg : Prg} {gh : List GObj} {v0 : PV} {x3 : Int} {e : IExit} {s : St} (h : D_slices_Concat_LLint_Lint_k1 pg v0 x3 gh = some (e, s)) : runL pg f_slices_Concat_LLint_Lint_k1 ⟨[(0, v0), (3, (.int .i64 x3))], [], gh⟩ = some (e, s) :=
  runX_ok an_slices_Concat_LLint_Lint (Eq.trans (by kernel_rfl) h)

noncomputable def D_slices_Concat_LLint_Lint_0 (pg : Prg) (v0 : PV) (gh : List GObj) : Option (IExit × St) := stK 0 v0 (isC (degr v0) (lenS (degr (degr v0)) fun n1 => stK 0 v0 (stK 0 (degr v0) (
  kR (runL pg f_slices_Concat_LLint_Lint_l1 ⟨[(0, v0), (3, (.int .i64 0)), (9, (degr v0)), (10, (.int .i64 (n1 : Int))), (11, (.int .i64 0))], [], gh⟩) (fun e s => nx e s (fun e s => some (e, s)) fun s => kR (runL pg f_slices_Concat_LLint_Lint_k1 s) (fun e s => some (e, s)))))))

theorem D_slices_Concat_LLint_Lint_0_ok {pg : Prg} {gh : List GObj} {v0 : PV} {e : IExit} {s : St} (h : D_slices_Concat_LLint_Lint_0 pg v0 gh = some (e, s)) : runL pg f_slices_Concat_LLint_Lint_0 ⟨[(0, v0)], [], gh⟩ = some (e, s) :=
  runX_ok an_slices_Concat_LLint_Lint (Eq.trans (by kernel_rfl) h)

end Go.Lw
end

/-! What the code of function law_proofBegun comes to, piece by piece. Written by program (dprint.py). -/
section
set_option maxRecDepth 10000
set_option maxHeartbeats 4000000
namespace Go.Lw
open Go

def an_law_proofBegun : Tr := (.node 19 (.tup 2) (.node 10 (.ce (.one)) (.node 5 (.ce (.int .i64)) (.node 3 (.ce (.int .i64)) (.node 2 (.ce (.bool)) (.node 0 (.ce (.bool)) .nil .nil) .nil) (.node 4 (.ce (.bool)) .nil .nil)) (.node 8 (.ce (.one)) (.node 7 (.ce (.one)) (.node 6 (.ce (.one)) .nil .nil) .nil) (.node 9 (.ce (.one)) .nil .nil))) (.node 15 (.ce (.one)) (.node 13 (.agg [.int .i64, .any]) (.node 12 (.tup 2) (.node 11 (.agg [.int .i64, .any]) .nil .nil) .nil) (.node 14 (.ce (.one)) .nil .nil)) (.node 17 (.ce (.bool)) (.node 16 (.tup 2) .nil .nil) (.node 18 (.ce (.int .i64)) .nil .nil)))) (.node 28 (.ce (.bool)) (.node 24 (.ce (.int .i64)) (.node 22 (.ce (.bool)) (.node 21 (.tup 2) (.node 20 (.agg [.int .i64, .any]) .nil .nil) .nil) (.node 23 (.ce (.int .i64)) .nil .nil)) (.node 26 (.ce (.bool)) (.node 25 (.ce (.bool)) .nil .nil) (.node 27 (.ce (.int .i64)) .nil .nil))) (.node 33 (.ce (.bool)) (.node 31 (.ce (.bool)) (.node 30 (.ce (.bool)) (.node 29 (.ce (.bool)) .nil .nil) .nil) (.node 32 (.ce (.bool)) .nil .nil)) (.node 35 (.ce (.bool)) (.node 34 (.ce (.bool)) .nil .nil) (.node 36 (.ce (.bool)) .nil .nil)))))

noncomputable def D_law_proofBegun_0 (pg : Prg)  (gh : List GObj) : Option (IExit × St) := 
  callR gh true (callL pg 149 [(.agg [(.int .i64 2), (.sl false 1 [(.sl false 1 [(.int .i64 1), (.int .i64 2)]), (.sl false 1 [(.int .i64 1), (.int .i64 (-2))]), (.sl false 1 [(.int .i64 (-1)), (.int .i64 2)]), (.sl false 1 [(.int .i64 (-1)), (.int .i64 (-2))])])]), (.sl false 1 [(.sl false 1 [(.int .i64 1)]), (.sl false 1 [])])] gh) fun r1 gh2 => unT 2 r1 fun r3 r4 => unB (degr1 (degr1 r3)) fun b5 => unI .i64 (degr1 (degr1 r4)) fun n6 => 
  callR gh2 true (callL pg 145 [(.agg [(.int .i64 2), (.sl false 1 [(.sl false 1 [(.int .i64 1), (.int .i64 2)]), (.sl false 1 [(.int .i64 1), (.int .i64 (-2))]), (.sl false 1 [(.int .i64 (-1)), (.int .i64 2)]), (.sl false 1 [(.int .i64 (-1)), (.int .i64 (-2))])])]), (.sl false 1 [])] gh2) fun r7 gh8 => unT 2 r7 fun r9 r10 => unB (degr1 (degr1 r9)) fun b11 => unI .i64 (degr1 (degr1 r10)) fun n12 => 
  br 26 (n6 == 0) (
  br 30 (n12 == 0) (
  br 33 b5 (some (.ret, ⟨[(0, (.bool (!b11)))], [], gh8⟩)) (some (.ret, ⟨[(0, (.bool false))], [], gh8⟩))) (some (.ret, ⟨[(0, (.bool false))], [], gh8⟩))) (some (.ret, ⟨[(0, (.bool false))], [], gh8⟩))

theorem D_law_proofBegun_0_ok {pg : Prg} {gh : List GObj}  {e : IExit} {s : St} (h : D_law_proofBegun_0 pg  gh = some (e, s)) : runL pg f_law_proofBegun_0 ⟨[], [], gh⟩ = some (e, s) :=
  runX_ok an_law_proofBegun (Eq.trans (by kernel_rfl) h)

end Go.Lw
end

/-! What the code of function law_ProofSound comes to, piece by piece. Written by program (dprint.py). -/
section
set_option maxRecDepth 10000
set_option maxHeartbeats 4000000
namespace Go.Lw
open Go

def an_law_ProofSound : Tr := (.node 21 (.ce (.int .i64)) (.node 12 (.ce (.bool)) (.node 7 (.ce (.bool)) (.node 2 (.ce (.one)) (.node 1 (.ce (.one)) (.node 0 (.agg [.int .i64, .any]) .nil .nil) .nil) (.node 6 (.ce (.bool)) .nil .nil)) (.node 10 (.ce (.bool)) (.node 9 (.ce (.bool)) (.node 8 (.ce (.int .i64)) .nil .nil) .nil) (.node 11 (.ce (.bool)) .nil .nil))) (.node 17 (.agg [.int .i64, .any]) (.node 15 (.ce (.bool)) (.node 14 (.ce (.bool)) (.node 13 (.ce (.bool)) .nil .nil) .nil) (.node 16 (.tup 2) .nil .nil)) (.node 19 (.tup 2) (.node 18 (.ce (.one)) .nil .nil) (.node 20 (.ce (.bool)) .nil .nil)))) (.node 31 (.tup 2) (.node 26 (.ce (.bool)) (.node 24 (.ce (.bool)) (.node 23 (.ce (.bool)) (.node 22 (.ce (.int .i64)) .nil .nil) .nil) (.node 25 (.ce (.bool)) .nil .nil)) (.node 29 (.agg [.int .i64, .any]) (.node 28 (.tup 2) (.node 27 (.ce (.bool)) .nil .nil) .nil) (.node 30 (.ce (.one)) .nil .nil))) (.node 36 (.ce (.bool)) (.node 34 (.ce (.int .i64)) (.node 33 (.ce (.int .i64)) (.node 32 (.ce (.bool)) .nil .nil) .nil) (.node 35 (.ce (.bool)) .nil .nil)) (.node 38 (.ce (.bool)) (.node 37 (.ce (.bool)) .nil .nil) (.node 39 (.ce (.bool)) .nil .nil)))))

noncomputable def D_law_ProofSound_0 (pg : Prg) (x0_0 : Int) (v0_1 : PV) (v1 : PV) (v2 : PV) (gh : List GObj) : Option (IExit × St) := onK (degr1 v0_1) (stK 1 v1 (stK 1 v2 (
  callR gh true (callL pg 147 [] gh) fun r1 gh2 => unB r1 fun b3 => 
  br 12 (!b3) (stK 1 v1 (stK 1 v2 (some (.ret, ⟨[(6, (.bool false))], [], gh2⟩)))) (
  callR gh2 true (callL pg 18 [] gh2) fun r4 gh5 => unB r4 fun b6 => stK 1 v1 (stK 1 v2 (
  br 15 (!b6) (some (.ret, ⟨[(6, (.bool false))], [], gh5⟩)) (isC (degr v1) (onK (degr1 (degr1 (degr1 v0_1))) (arK (degr (degr v1)) (
  callR gh5 true (callL pg 149 [(.agg [(.int .i64 x0_0), (degr1 (degr1 (degr1 v0_1)))]), (degr (degr v1))] gh5) fun r7 gh8 => unT 2 r7 fun r9 r10 => unB (degr1 (degr1 r9)) fun b11 => unI .i64 (degr1 (degr1 r10)) fun n12 => stK 1 v2 (
  br 24 (n12 != 0) (stK 1 v2 (some (.ret, ⟨[(6, (.bool true))], [], gh8⟩))) (stK 1 v2 (
  br 27 (!b11) (some (.ret, ⟨[(6, (.bool true))], [], gh8⟩)) (isC (degr v2) (onK (degr1 (degr1 (degr1 v0_1))) (arK (degr (degr v2)) (
  callR gh8 true (callL pg 32 [(.agg [(.int .i64 x0_0), (degr1 (degr1 (degr1 v0_1)))]), (degr (degr v2))] gh8) fun r13 gh14 => unT 2 r13 fun r15 r16 => unB (degr1 (degr1 r15)) fun b17 => unI .i64 (degr1 (degr1 r16)) fun n18 => 
  br 36 (n18 != 0) (some (.ret, ⟨[(6, (.bool true))], [], gh14⟩)) (some (.ret, ⟨[(6, (.bool (!b17)))], [], gh14⟩)))))))))))))))))))

theorem D_law_ProofSound_0_ok {pg : Prg} {gh : List GObj} {x0_0 : Int} {v0_1 : PV} {v1 : PV} {v2 : PV} {e : IExit} {s : St} (h : D_law_ProofSound_0 pg x0_0 v0_1 v1 v2 gh = some (e, s)) : runL pg f_law_ProofSound_0 ⟨[(0, (.agg [(.int .i64 x0_0), v0_1])), (1, v1), (2, v2)], [], gh⟩ = some (e, s) :=
  runX_ok an_law_ProofSound (Eq.trans (by kernel_rfl) h)

end Go.Lw
end
