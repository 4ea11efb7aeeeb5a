/-
  The texts that the proof stands on, part 10.
-/
import Derived.Test.YtmodipglnngghaaWordTurnsI
import Derived.KernelRfl
set_option linter.unusedVariables false
set_option linter.unusedSimpArgs false
set_option linter.unnecessarySimpa false

/-! What the code of function word_Fit comes to, piece by piece. Written by program (dprint.py). -/
section
set_option maxRecDepth 10000
set_option maxHeartbeats 4000000
namespace Go.Lw
open Go

def an_word_Fit : Tr := (.node 29 (.ce (.int .i64)) (.node 16 (.tup 2) (.node 10 (.ce (.bool)) (.node 3 (.agg [.int .i64, .int .i64, .int .i64]) (.node 1 (.ce (.int .i64)) (.node 0 (.ce (.int .i64)) .nil .nil) (.node 2 (.ce (.int .i64)) .nil .nil)) (.node 9 (.ce (.int .i64)) (.node 8 (.ce (.int .i64)) .nil .nil) .nil)) (.node 13 (.tup 2) (.node 12 (.ce (.int .i64)) (.node 11 (.ce (.int .i64)) .nil .nil) .nil) (.node 15 (.ce (.int .i64)) (.node 14 (.ce (.one)) .nil .nil) .nil))) (.node 23 (.ce (.bool)) (.node 20 (.ce (.bool)) (.node 18 (.ce (.bool)) (.node 17 (.ce (.int .i64)) .nil .nil) (.node 19 (.ce (.bool)) .nil .nil)) (.node 22 (.ce (.bool)) (.node 21 (.ce (.int .i64)) .nil .nil) .nil)) (.node 26 (.ce (.bool)) (.node 25 (.ce (.int .i64)) (.node 24 (.agg [.int .i64, .int .i64, .int .i64]) .nil .nil) .nil) (.node 28 (.ce (.int .i64)) (.node 27 (.ce (.int .i64)) .nil .nil) .nil)))) (.node 42 (.ce (.bool)) (.node 36 (.ce (.bool)) (.node 33 (.ce (.bool)) (.node 31 (.ce (.int .i64)) (.node 30 (.ce (.int .i64)) .nil .nil) (.node 32 (.ce (.bool)) .nil .nil)) (.node 35 (.ce (.bool)) (.node 34 (.ce (.int .i64)) .nil .nil) .nil)) (.node 39 (.ce (.int .i64)) (.node 38 (.ce (.bool)) (.node 37 (.ce (.bool)) .nil .nil) .nil) (.node 41 (.ce (.int .i64)) (.node 40 (.ce (.int .i64)) .nil .nil) .nil))) (.node 49 (.ce (.int .i64)) (.node 46 (.ce (.bool)) (.node 44 (.ce (.int .i64)) (.node 43 (.ce (.bool)) .nil .nil) (.node 45 (.ce (.bool)) .nil .nil)) (.node 48 (.ce (.int .i64)) (.node 47 (.ce (.bool)) .nil .nil) .nil)) (.node 52 (.agg [.int .i64, .int .i64, .int .i64]) (.node 51 (.ce (.int .i64)) (.node 50 (.ce (.int .i64)) .nil .nil) .nil) (.node 54 (.ce (.bool)) (.node 53 (.ce (.bool)) .nil .nil) .nil)))))

noncomputable def D_word_Fit_b1 (pg : Prg) (x0 : Int) (x1 : Int) (x2 : Int) (x9 : Int) (x24_0 : Int) (x24_1 : Int) (x24_2 : Int) (x25 : Int) (xc0_0 : Int) (xc0_1 : Int) (xc0_2 : Int) (gh : List GObj) : Option (IExit × St) := 
  br 26 (decide (x25 < 3)) (ixX (.agg [(.int .i64 x24_0), (.int .i64 x24_1), (.int .i64 x24_2)]) 1 3 false x25 fun v1 => unI .i64 v1 fun n2 => 
  callR gh true (callL pg 63 [(.int .i64 x0)] gh) fun r3 gh4 => unI .i64 r3 fun n5 => 
  br 33 (decide (x25 < n5)) (
  callR gh4 true (callL pg 62 [(.int .i64 n2)] gh4) fun r6 gh7 => unB r6 fun b8 => 
  br 38 (!b8) (some (.ret, ⟨[(8, (.int .i64 3))], [], gh7⟩)) (
  callR gh7 true (callL pg 63 [(.int .i64 x0)] gh7) fun r9 gh10 => unI .i64 r9 fun n11 => 
  br 43 (decide (n11 ≤ x25)) (
  br 47 (n2 != 0) (some (.ret, ⟨[(8, (.int .i64 3))], [], gh10⟩)) (some (.normal, ⟨[(0, (.int .i64 x0)), (1, (.int .i64 x1)), (2, (.int .i64 x2)), (7, (.ptr false 0 0)), (9, (.int .i64 x9)), (24, (.agg [(.int .i64 x24_0), (.int .i64 x24_1), (.int .i64 x24_2)])), (25, (.int .i64 (IntKind.i64.wrap (x25 + 1))))], [[(.int .i64 xc0_0), (.int .i64 xc0_1), (.int .i64 xc0_2)]], gh10⟩))) (some (.normal, ⟨[(0, (.int .i64 x0)), (1, (.int .i64 x1)), (2, (.int .i64 x2)), (7, (.ptr false 0 0)), (9, (.int .i64 x9)), (24, (.agg [(.int .i64 x24_0), (.int .i64 x24_1), (.int .i64 x24_2)])), (25, (.int .i64 (IntKind.i64.wrap (x25 + 1))))], [[(.int .i64 xc0_0), (.int .i64 xc0_1), (.int .i64 xc0_2)]], gh10⟩)))) (
  callR gh4 true (callL pg 63 [(.int .i64 x0)] gh4) fun r12 gh13 => unI .i64 r12 fun n14 => 
  br 43 (decide (n14 ≤ x25)) (
  br 47 (n2 != 0) (some (.ret, ⟨[(8, (.int .i64 3))], [], gh13⟩)) (some (.normal, ⟨[(0, (.int .i64 x0)), (1, (.int .i64 x1)), (2, (.int .i64 x2)), (7, (.ptr false 0 0)), (9, (.int .i64 x9)), (24, (.agg [(.int .i64 x24_0), (.int .i64 x24_1), (.int .i64 x24_2)])), (25, (.int .i64 (IntKind.i64.wrap (x25 + 1))))], [[(.int .i64 xc0_0), (.int .i64 xc0_1), (.int .i64 xc0_2)]], gh13⟩))) (some (.normal, ⟨[(0, (.int .i64 x0)), (1, (.int .i64 x1)), (2, (.int .i64 x2)), (7, (.ptr false 0 0)), (9, (.int .i64 x9)), (24, (.agg [(.int .i64 x24_0), (.int .i64 x24_1), (.int .i64 x24_2)])), (25, (.int .i64 (IntKind.i64.wrap (x25 + 1))))], [[(.int .i64 xc0_0), (.int .i64 xc0_1), (.int .i64 xc0_2)]], gh13⟩)))) (some ((.exit 0), ⟨[(0, (.int .i64 x0)), (1, (.int .i64 x1)), (2, (.int .i64 x2)), (7, (.ptr false 0 0)), (9, (.int .i64 x9)), (24, (.agg [(.int .i64 x24_0), (.int .i64 x24_1), (.int .i64 x24_2)])), (25, (.int .i64 x25)), (26, (.bool (decide (x25 < 3))))], [[(.int .i64 xc0_0), (.int .i64 xc0_1), (.int .i64 xc0_2)]], gh⟩))

theorem D_word_Fit_b1_ok {pg : Prg} {gh : List GObj} {x0 : Int} {x1 : Int} {x2 : Int} {x9 : Int} {x24_0 : Int} {x24_1 : Int} {x24_2 : Int} {x25 : Int} {xc0_0 : Int} {xc0_1 : Int} {xc0_2 : Int} {e : IExit} {s : St} (h : D_word_Fit_b1 pg x0 x1 x2 x9 x24_0 x24_1 x24_2 x25 xc0_0 xc0_1 xc0_2 gh = some (e, s)) : runL pg f_word_Fit_b1 ⟨[(0, (.int .i64 x0)), (1, (.int .i64 x1)), (2, (.int .i64 x2)), (7, (.ptr false 0 0)), (9, (.int .i64 x9)), (24, (.agg [(.int .i64 x24_0), (.int .i64 x24_1), (.int .i64 x24_2)])), (25, (.int .i64 x25))], [[(.int .i64 xc0_0), (.int .i64 xc0_1), (.int .i64 xc0_2)]], gh⟩ = some (e, s) :=
  runX_ok an_word_Fit (Eq.trans (by kernel_rfl) h)

noncomputable def D_word_Fit_k1 (pg : Prg) (x1 : Int) (x2 : Int) (x9 : Int) (xc0_0 : Int) (xc0_1 : Int) (xc0_2 : Int) (gh : List GObj) : Option (IExit × St) := 
  callR gh true (callL pg 64 [(.int .i64 x9), (.int .i64 x1), (.int .i64 x2), (.agg [(.int .i64 xc0_0), (.int .i64 xc0_1), (.int .i64 xc0_2)])] gh) fun r1 gh2 => unB r1 fun b3 => 
  br 54 (!b3) (some (.ret, ⟨[(8, (.int .i64 1))], [], gh2⟩)) (some (.ret, ⟨[(8, (.int .i64 0))], [], gh2⟩))

theorem D_word_Fit_k1_ok {pg : Prg} {gh : List GObj} {x1 : Int} {x2 : Int} {x9 : Int} {xc0_0 : Int} {xc0_1 : Int} {xc0_2 : Int} {e : IExit} {s : St} (h : D_word_Fit_k1 pg x1 x2 x9 xc0_0 xc0_1 xc0_2 gh = some (e, s)) : runL pg f_word_Fit_k1 ⟨[(1, (.int .i64 x1)), (2, (.int .i64 x2)), (7, (.ptr false 0 0)), (9, (.int .i64 x9))], [[(.int .i64 xc0_0), (.int .i64 xc0_1), (.int .i64 xc0_2)]], gh⟩ = some (e, s) :=
  runX_ok an_word_Fit (Eq.trans (by kernel_rfl) h)

noncomputable def D_word_Fit_0 (pg : Prg) (x0 : Int) (x1 : Int) (x2 : Int) (x3_0 : Int) (x3_1 : Int) (x3_2 : Int) (gh : List GObj) : Option (IExit × St) := 
  callR gh false (callL pg 61 [] gh) fun r1 gh2 => isC r1 (
  lkX gh2 0 (degr r1) (.int .i64 x0) fun r3 => unI .i64 (degr1 (degr1 (Option.getD r3 (.int .i64 0)))) fun n4 => 
  br 20 (!(Option.isSome r3)) (some (.ret, ⟨[(8, (.int .i64 7))], [], gh2⟩)) (
  callR gh2 true (callL pg 62 [(.int .i64 x1)] gh2) fun r5 gh6 => unB r5 fun b7 => 
  br 23 (!b7) (some (.ret, ⟨[(8, (.int .i64 3))], [], gh6⟩)) (
  kR (runL pg f_word_Fit_l1 ⟨[(0, (.int .i64 x0)), (1, (.int .i64 x1)), (2, (.int .i64 x2)), (7, (.ptr false 0 0)), (9, (.int .i64 n4)), (24, (.agg [(.int .i64 x3_0), (.int .i64 x3_1), (.int .i64 x3_2)])), (25, (.int .i64 0))], [[(.int .i64 x3_0), (.int .i64 x3_1), (.int .i64 x3_2)]], gh6⟩) (fun e s => nx e s (fun e s => some (e, s)) fun s => kR (runL pg f_word_Fit_k1 s) (fun e s => some (e, s))))))

theorem D_word_Fit_0_ok {pg : Prg} {gh : List GObj} {x0 : Int} {x1 : Int} {x2 : Int} {x3_0 : Int} {x3_1 : Int} {x3_2 : Int} {e : IExit} {s : St} (h : D_word_Fit_0 pg x0 x1 x2 x3_0 x3_1 x3_2 gh = some (e, s)) : runL pg f_word_Fit_0 ⟨[(0, (.int .i64 x0)), (1, (.int .i64 x1)), (2, (.int .i64 x2)), (3, (.agg [(.int .i64 x3_0), (.int .i64 x3_1), (.int .i64 x3_2)]))], [], gh⟩ = some (e, s) :=
  runX_ok an_word_Fit (Eq.trans (by kernel_rfl) h)

end Go.Lw
end

/-! What the code of function word_Takes comes to, piece by piece. Written by program (dprint.py). -/
section
set_option maxRecDepth 10000
set_option maxHeartbeats 4000000
namespace Go.Lw
open Go

def an_word_Takes : Tr := (.node 7 (.ce (.bool)) (.node 4 (.ce (.int .i64)) (.node 2 (.ce (.int .i64)) (.node 0 (.ce (.int .i64)) .nil .nil) (.node 3 (.ce (.one)) .nil .nil)) (.node 6 (.ce (.bool)) (.node 5 (.ce (.int .i64)) .nil .nil) .nil)) (.node 11 (.ce (.bool)) (.node 9 (.ce (.bool)) (.node 8 (.ce (.bool)) .nil .nil) (.node 10 (.ce (.bool)) .nil .nil)) (.node 13 (.ce (.bool)) (.node 12 (.ce (.bool)) .nil .nil) .nil)))

noncomputable def D_word_Takes_k1 (pg : Prg) (x5 : Int) (b8 : Bool) (gh : List GObj) : Option (IExit × St) := 
  br 8 b8 (some (.ret, ⟨[(2, (.int .i64 1))], [], gh⟩)) (
  br 12 (x5 == 4) (some (.ret, ⟨[(2, (.int .i64 3))], [], gh⟩)) (some (.normal, ⟨[(12, (.bool (x5 == 4)))], [], gh⟩)))

theorem D_word_Takes_k1_ok {pg : Prg} {gh : List GObj} {x5 : Int} {b8 : Bool} {e : IExit} {s : St} (h : D_word_Takes_k1 pg x5 b8 gh = some (e, s)) : runL pg f_word_Takes_k1 ⟨[(5, (.int .i64 x5)), (8, (.bool b8))], [], gh⟩ = some (e, s) :=
  runX_ok an_word_Takes (Eq.trans (by kernel_rfl) h)

noncomputable def D_word_Takes_k2 (pg : Prg) (b12 : Bool) (gh : List GObj) : Option (IExit × St) := some (.ret, ⟨[(2, (.int .i64 2))], [], gh⟩)

theorem D_word_Takes_k2_ok {pg : Prg} {gh : List GObj} {b12 : Bool} {e : IExit} {s : St} (h : D_word_Takes_k2 pg b12 gh = some (e, s)) : runL pg f_word_Takes_k2 ⟨[(12, (.bool b12))], [], gh⟩ = some (e, s) :=
  runX_ok an_word_Takes (Eq.trans (by kernel_rfl) h)

noncomputable def D_word_Takes_0 (pg : Prg) (x0 : Int) (gh : List GObj) : Option (IExit × St) := 
  callR gh false (callL pg 61 [] gh) fun r1 gh2 => isC r1 (
  lkX gh2 0 (degr r1) (.int .i64 x0) fun r3 => unI .i64 (Option.getD r3 (.int .i64 0)) fun n4 => 
  br 6 (n4 == 0) (some (.ret, ⟨[(2, (.int .i64 0))], [], gh2⟩)) (
  br 8 (n4 == 1) (
  kR (runL pg f_word_Takes_k1 ⟨[(5, (.int .i64 n4)), (8, (.bool (n4 == 1)))], [], gh2⟩) (fun e s => bk 0 e s (fun e s => nx e s (fun e s => some (e, s)) fun s => kR (runL pg f_word_Takes_k2 s) (fun e s => some (e, s))))) (
  br 8 (n4 == 6) (
  kR (runL pg f_word_Takes_k1 ⟨[(5, (.int .i64 n4)), (8, (.bool (n4 == 6)))], [], gh2⟩) (fun e s => bk 0 e s (fun e s => nx e s (fun e s => some (e, s)) fun s => kR (runL pg f_word_Takes_k2 s) (fun e s => some (e, s))))) (
  kR (runL pg f_word_Takes_k1 ⟨[(5, (.int .i64 n4)), (8, (.bool (n4 == 7)))], [], gh2⟩) (fun e s => bk 0 e s (fun e s => nx e s (fun e s => some (e, s)) fun s => kR (runL pg f_word_Takes_k2 s) (fun e s => some (e, s))))))))

theorem D_word_Takes_0_ok {pg : Prg} {gh : List GObj} {x0 : Int} {e : IExit} {s : St} (h : D_word_Takes_0 pg x0 gh = some (e, s)) : runL pg f_word_Takes_0 ⟨[(0, (.int .i64 x0))], [], gh⟩ = some (e, s) :=
  runX_ok an_word_Takes (Eq.trans (by kernel_rfl) h)

end Go.Lw
end

/-! What the code of function word_IsWidth comes to, piece by piece. Written by program (dprint.py). -/
section
set_option maxRecDepth 10000
set_option maxHeartbeats 4000000
namespace Go.Lw
open Go

def an_word_IsWidth : Tr := (.node 5 (.ce (.bool)) (.node 3 (.ce (.int .i64)) (.node 2 (.ce (.bool)) (.node 0 (.ce (.int .i64)) .nil .nil) .nil) (.node 4 (.ce (.bool)) .nil .nil)) (.node 7 (.ce (.bool)) (.node 6 (.ce (.int .i64)) .nil .nil) (.node 8 (.ce (.bool)) .nil .nil)))

noncomputable def D_word_IsWidth_0 (pg : Prg) (x0 : Int) (gh : List GObj) : Option (IExit × St) := 
  br 5 (decide (1 ≤ x0)) (some (.ret, ⟨[(2, (.bool (decide (x0 ≤ 8))))], [], gh⟩)) (some (.ret, ⟨[(2, (.bool false))], [], gh⟩))

theorem D_word_IsWidth_0_ok {pg : Prg} {gh : List GObj} {x0 : Int} {e : IExit} {s : St} (h : D_word_IsWidth_0 pg x0 gh = some (e, s)) : runL pg f_word_IsWidth_0 ⟨[(0, (.int .i64 x0))], [], gh⟩ = some (e, s) :=
  runX_ok an_word_IsWidth (Eq.trans (by kernel_rfl) h)

end Go.Lw
end

/-! What the code of function word_fits comes to, piece by piece. Written by program (dprint.py). -/
section
set_option maxRecDepth 10000
set_option maxHeartbeats 4000000
namespace Go.Lw
open Go

def an_word_fits : Tr := (.node 44 (.ce (.bool)) (.node 22 (.ce (.bool)) (.node 12 (.ce (.int .i64)) (.node 8 (.ce (.bool)) (.node 2 (.ce (.int .i64)) (.node 1 (.ce (.int .i64)) (.node 0 (.ce (.int .i64)) .nil .nil) .nil) (.node 3 (.agg [.int .i64, .int .i64, .int .i64]) .nil .nil)) (.node 10 (.ce (.bool)) (.node 9 (.ce (.int .i64)) .nil .nil) (.node 11 (.ce (.bool)) .nil .nil))) (.node 17 (.ce (.bool)) (.node 15 (.ce (.int .i64)) (.node 14 (.ce (.bool)) (.node 13 (.ce (.bool)) .nil .nil) .nil) (.node 16 (.ce (.bool)) .nil .nil)) (.node 20 (.ce (.int .i64)) (.node 19 (.ce (.int .i64)) .nil .nil) (.node 21 (.ce (.bool)) .nil .nil)))) (.node 33 (.ce (.bool)) (.node 28 (.ce (.bool)) (.node 26 (.ce (.int .i64)) (.node 25 (.ce (.int .i64)) (.node 23 (.ce (.bool)) .nil .nil) .nil) (.node 27 (.ce (.bool)) .nil .nil)) (.node 31 (.ce (.int .i64)) (.node 30 (.ce (.int .i64)) .nil .nil) (.node 32 (.ce (.bool)) .nil .nil))) (.node 40 (.ce (.bool)) (.node 37 (.ce (.int .i64)) (.node 35 (.ce (.bool)) (.node 34 (.ce (.bool)) .nil .nil) .nil) (.node 39 (.ce (.int .i64)) .nil .nil)) (.node 42 (.ce (.int .i64)) (.node 41 (.ce (.bool)) .nil .nil) (.node 43 (.ce (.bool)) .nil .nil))))) (.node 67 (.ce (.int .i64)) (.node 55 (.ce (.bool)) (.node 50 (.ce (.bool)) (.node 48 (.ce (.int .i64)) (.node 46 (.ce (.bool)) (.node 45 (.ce (.bool)) .nil .nil) .nil) (.node 49 (.ce (.bool)) .nil .nil)) (.node 53 (.ce (.int .i64)) (.node 52 (.ce (.int .i64)) .nil .nil) (.node 54 (.ce (.bool)) .nil .nil))) (.node 61 (.ce (.bool)) (.node 59 (.ce (.int .i64)) (.node 58 (.ce (.int .i64)) (.node 56 (.ce (.bool)) .nil .nil) .nil) (.node 60 (.ce (.bool)) .nil .nil)) (.node 63 (.ce (.bool)) (.node 62 (.ce (.bool)) .nil .nil) (.node 65 (.ce (.int .i64)) .nil .nil)))) (.node 76 (.ce (.int .i64)) (.node 72 (.ce (.bool)) (.node 70 (.ce (.bool)) (.node 69 (.ce (.int .i64)) (.node 68 (.ce (.int .i64)) .nil .nil) .nil) (.node 71 (.ce (.bool)) .nil .nil)) (.node 74 (.ce (.bool)) (.node 73 (.ce (.int .i64)) .nil .nil) (.node 75 (.ce (.bool)) .nil .nil))) (.node 82 (.ce (.bool)) (.node 80 (.ce (.int .i64)) (.node 79 (.ce (.int .i64)) (.node 78 (.ce (.int .i64)) .nil .nil) .nil) (.node 81 (.ce (.bool)) .nil .nil)) (.node 85 (.ce (.int .i64)) (.node 83 (.ce (.int .i64)) .nil .nil) (.node 86 (.ce (.bool)) .nil .nil))))))

noncomputable def D_word_fits_0 (pg : Prg) (x0 : Int) (x1 : Int) (x2 : Int) (x3_0 : Int) (x3_1 : Int) (x3_2 : Int) (gh : List GObj) : Option (IExit × St) := 
  br 11 (x2 != 0) (
  br 14 (x0 != 6) (some (.ret, ⟨[(8, (.bool false))], [], gh⟩)) (
  br 16 (x0 == 1) (some (.ret, ⟨[(8, (.bool (x3_0 == x1)))], [], gh⟩)) (
  br 22 (x0 == 2) (
  br 28 (x3_0 == x1) (some (.ret, ⟨[(8, (.bool (x3_1 == x1)))], [], gh⟩)) (some (.ret, ⟨[(8, (.bool false))], [], gh⟩))) (
  br 34 (x0 == 3) (
  br 41 (x3_0 == x3_1) (some (.ret, ⟨[(8, (.bool (x1 == 1)))], [], gh⟩)) (some (.ret, ⟨[(8, (.bool false))], [], gh⟩))) (
  br 45 (x0 == 4) (
  br 50 (x3_0 == 1) (
  br 56 (x3_1 == x1) (some (.ret, ⟨[(8, (.bool (x3_2 == x1)))], [], gh⟩)) (some (.ret, ⟨[(8, (.bool false))], [], gh⟩))) (some (.ret, ⟨[(8, (.bool false))], [], gh⟩))) (
  br 62 (x0 == 5) (some (.ret, ⟨[(8, (.bool ((IntKind.i64.wrap (x3_0 + x3_1)) == x1)))], [], gh⟩)) (
  br 71 (x0 == 6) (
  br 75 (decide (0 ≤ x2)) (some (.ret, ⟨[(8, (.bool (decide (x2 ≤ (IntKind.i64.wrap (x3_0 - x1))))))], [], gh⟩)) (some (.ret, ⟨[(8, (.bool false))], [], gh⟩))) (some (.ret, ⟨[(8, (.bool (decide (x3_0 ≤ x1))))], [], gh⟩))))))))) (
  br 16 (x0 == 1) (some (.ret, ⟨[(8, (.bool (x3_0 == x1)))], [], gh⟩)) (
  br 22 (x0 == 2) (
  br 28 (x3_0 == x1) (some (.ret, ⟨[(8, (.bool (x3_1 == x1)))], [], gh⟩)) (some (.ret, ⟨[(8, (.bool false))], [], gh⟩))) (
  br 34 (x0 == 3) (
  br 41 (x3_0 == x3_1) (some (.ret, ⟨[(8, (.bool (x1 == 1)))], [], gh⟩)) (some (.ret, ⟨[(8, (.bool false))], [], gh⟩))) (
  br 45 (x0 == 4) (
  br 50 (x3_0 == 1) (
  br 56 (x3_1 == x1) (some (.ret, ⟨[(8, (.bool (x3_2 == x1)))], [], gh⟩)) (some (.ret, ⟨[(8, (.bool false))], [], gh⟩))) (some (.ret, ⟨[(8, (.bool false))], [], gh⟩))) (
  br 62 (x0 == 5) (some (.ret, ⟨[(8, (.bool ((IntKind.i64.wrap (x3_0 + x3_1)) == x1)))], [], gh⟩)) (
  br 71 (x0 == 6) (
  br 75 (decide (0 ≤ x2)) (some (.ret, ⟨[(8, (.bool (decide (x2 ≤ (IntKind.i64.wrap (x3_0 - x1))))))], [], gh⟩)) (some (.ret, ⟨[(8, (.bool false))], [], gh⟩))) (some (.ret, ⟨[(8, (.bool (decide (x3_0 ≤ x1))))], [], gh⟩))))))))

theorem D_word_fits_0_ok {pg : Prg} {gh : List GObj} {x0 : Int} {x1 : Int} {x2 : Int} {x3_0 : Int} {x3_1 : Int} {x3_2 : Int} {e : IExit} {s : St} (h : D_word_fits_0 pg x0 x1 x2 x3_0 x3_1 x3_2 gh = some (e, s)) : runL pg f_word_fits_0 ⟨[(0, (.int .i64 x0)), (1, (.int .i64 x1)), (2, (.int .i64 x2)), (3, (.agg [(.int .i64 x3_0), (.int .i64 x3_1), (.int .i64 x3_2)]))], [], gh⟩ = some (e, s) :=
  runX_ok an_word_fits (Eq.trans (by kernel_rfl) h)

end Go.Lw
end

/-! What the code of function word_shapes comes to, piece by piece. Written by program (dprint.py). -/
section
set_option maxRecDepth 10000
set_option maxHeartbeats 4000000
namespace Go.Lw
open Go

def an_word_shapes : Tr := (.node 1 (.ce (.one)) (.node 0 (.ce (.one)) .nil .nil) (.node 2 (.ce (.one)) .nil .nil))

noncomputable def D_word_shapes_0 (pg : Prg)  (gh : List GObj) : Option (IExit × St) := 
  muX (gh ++ [.map []]) 0 (.mp (List.length gh)) (.int .i64 4) (.int .i64 1) fun gh1 => 
  muX gh1 0 (.mp (List.length gh)) (.int .i64 5) (.int .i64 1) fun gh2 => 
  muX gh2 0 (.mp (List.length gh)) (.int .i64 6) (.int .i64 2) fun gh3 => 
  muX gh3 0 (.mp (List.length gh)) (.int .i64 7) (.int .i64 2) fun gh4 => 
  muX gh4 0 (.mp (List.length gh)) (.int .i64 8) (.int .i64 2) fun gh5 => 
  muX gh5 0 (.mp (List.length gh)) (.int .i64 9) (.int .i64 2) fun gh6 => 
  muX gh6 0 (.mp (List.length gh)) (.int .i64 10) (.int .i64 2) fun gh7 => 
  muX gh7 0 (.mp (List.length gh)) (.int .i64 11) (.int .i64 2) fun gh8 => 
  muX gh8 0 (.mp (List.length gh)) (.int .i64 12) (.int .i64 2) fun gh9 => 
  muX gh9 0 (.mp (List.length gh)) (.int .i64 13) (.int .i64 2) fun gh10 => 
  muX gh10 0 (.mp (List.length gh)) (.int .i64 14) (.int .i64 2) fun gh11 => 
  muX gh11 0 (.mp (List.length gh)) (.int .i64 15) (.int .i64 2) fun gh12 => 
  muX gh12 0 (.mp (List.length gh)) (.int .i64 16) (.int .i64 3) fun gh13 => 
  muX gh13 0 (.mp (List.length gh)) (.int .i64 17) (.int .i64 3) fun gh14 => 
  muX gh14 0 (.mp (List.length gh)) (.int .i64 18) (.int .i64 3) fun gh15 => 
  muX gh15 0 (.mp (List.length gh)) (.int .i64 19) (.int .i64 4) fun gh16 => 
  muX gh16 0 (.mp (List.length gh)) (.int .i64 20) (.int .i64 5) fun gh17 => 
  muX gh17 0 (.mp (List.length gh)) (.int .i64 21) (.int .i64 6) fun gh18 => 
  muX gh18 0 (.mp (List.length gh)) (.int .i64 22) (.int .i64 7) fun gh19 => 
  muX gh19 0 (.mp (List.length gh)) (.int .i64 23) (.int .i64 7) fun gh20 => some (.ret, ⟨[(0, (.mp (List.length gh)))], [], gh20⟩)

theorem D_word_shapes_0_ok {pg : Prg} {gh : List GObj}  {e : IExit} {s : St} (h : D_word_shapes_0 pg  gh = some (e, s)) : runL pg f_word_shapes_0 ⟨[], [], gh⟩ = some (e, s) :=
  runX_ok an_word_shapes (Eq.trans (by kernel_rfl) h)

end Go.Lw
end

/-! What the functions of package word come to. -/
section
namespace Go.Lw
open Go

def shapesZ : List (Int × Int) := [(4, 1), (5, 1), (6, 2), (7, 2), (8, 2), (9, 2), (10, 2), (11, 2), (12, 2), (13, 2), (14, 2), (15, 2), (16, 3), (17, 3), (18, 3), (19, 4), (20, 5), (21, 6), (22, 7), (23, 7)]

theorem shapes_eq (gh : List GObj) : callL pg 61 [] gh = some (.mp gh.length, gh ++ [.map (mapI shapesZ)]) := by
  refine callL_fn (fn := f_word_shapes) (s := ⟨[(0, .mp gh.length)], [], gh ++ [.map (mapI shapesZ)]⟩) rfl rfl (D_word_shapes_0_ok ?h) ?r
  case h =>
    rw [D_word_shapes_0, show ([.map []] : List GObj) = [.map (mapI [])] from rfl]
    repeat rw [muX_last]
    rfl
  case r => simp [finish, results, f_word_shapes, resOfs, resOf, resOk]

/-- What an operation's shape is; none. -/
def shapeOf (k : Int) : Option Int :=
  if k < 4 then none else if k < 6 then some 1 else if k < 16 then some 2 else if k < 19 then some 3 else if k = 19 then some 4 else if k = 20 then some 5
  else if k = 21 then some 6 else if k < 24 then some 7 else none

theorem findI_shapes (k : Int) : findI shapesZ k = shapeOf k := by
  by_cases h : 4 ≤ k ∧ k < 24
  · obtain ⟨n, rfl⟩ : ∃ n : Fin 20, k = 4 + (n.val : Int) := ⟨⟨(k - 4).toNat, by omega⟩, by simp; omega⟩
    revert n; decide
  · have : ∀ l : List (Int × Int), (∀ x ∈ l, 4 ≤ x.1 ∧ x.1 < 24) → findI l k = none := by
      intro l
      induction l with
      | nil => intro; rfl
      | cons x l ih =>
        intro hx
        have h1 := hx x (by simp)
        have h2 := ih fun y hy => hx y (by simp [hy])
        obtain ⟨a, u⟩ := x
        rw [findI, if_neg, h2]
        rintro rfl; exact h h1
    rw [this _ (by decide), shapeOf]
    split
    · rfl
    · repeat rw [if_neg (by omega)]

/-- How many words an operation takes. -/
def takesOf (k : Int) : Int :=
  if k < 4 then 0 else if k < 6 then 1 else if k < 19 then 2 else if k = 19 then 3 else if k = 20 then 2 else if k < 24 then 1 else 0

theorem Takes_eq (k : Int) (gh : List GObj) : callL pg 63 [I k] gh = some (I (takesOf k), gh) := by
  have hk : callL pg 63 [I k] gh = some (I (let n := (shapeOf k).getD 0; if n = 0 then 0 else if n = 1 ∨ n = 6 ∨ n = 7 then 1 else if n = 4 then 3 else 2), gh) := by
    have hf := findI_shapes k
    cases hs : shapeOf k with
    | none =>
      rw [hs] at hf
      refine callL_fn (fn := f_word_Takes) (s := ?s0) rfl rfl (D_word_Takes_0_ok ?h0) ?r0
      case h0 => simp [D_word_Takes_0, shapes_eq, hf]; rfl
      case r0 => simp [finish, results, f_word_Takes, resOfs, resOf, resOk]
    | some n =>
      rw [hs] at hf
      by_cases h0 : n = 0
      · refine callL_fn (fn := f_word_Takes) (s := ?s1) rfl rfl (D_word_Takes_0_ok ?h1) ?r1
        case h1 => simp [D_word_Takes_0, shapes_eq, hf, h0]; rfl
        case r1 => simp [finish, results, f_word_Takes, resOfs, resOf, resOk, h0]
      by_cases h1 : n = 1 ∨ n = 6 ∨ n = 7
      · refine callL_fn (fn := f_word_Takes) (s := ⟨[(2, I 1)], [], gh ++ [.map (mapI shapesZ)]⟩) rfl rfl (D_word_Takes_0_ok ?h2) ?r2
        case h2 =>
          have := D_word_Takes_k1_ok (pg := pg) (gh := gh ++ [.map (mapI shapesZ)]) (x5 := n) (b8 := true) (e := .ret) (s := ⟨[(2, I 1)], [], gh ++ [.map (mapI shapesZ)]⟩) rfl
          rcases h1 with rfl | rfl | rfl <;> simp [D_word_Takes_0, shapes_eq, hf, this]
        case r2 => simp [finish, results, f_word_Takes, resOfs, resOf, resOk, h0, h1]
      · by_cases h4 : n = 4
        · refine callL_fn (fn := f_word_Takes) (s := ⟨[(2, I 3)], [], gh ++ [.map (mapI shapesZ)]⟩) rfl rfl (D_word_Takes_0_ok ?h3) ?r3
          case h3 =>
            subst h4
            have := D_word_Takes_k1_ok (pg := pg) (gh := gh ++ [.map (mapI shapesZ)]) (x5 := 4) (b8 := false) (e := .ret) (s := ⟨[(2, I 3)], [], gh ++ [.map (mapI shapesZ)]⟩) rfl
            simp [D_word_Takes_0, shapes_eq, hf, this]
          case r3 => simp [finish, results, f_word_Takes, resOfs, resOf, resOk, h0, h4]
        · simp only [not_or] at h1
          refine callL_fn (fn := f_word_Takes) (s := ⟨[(2, I 2)], [], gh ++ [.map (mapI shapesZ)]⟩) rfl rfl (D_word_Takes_0_ok ?h5) ?r5
          case h5 =>
            have := D_word_Takes_k1_ok (pg := pg) (gh := gh ++ [.map (mapI shapesZ)]) (x5 := n) (b8 := false) (e := .normal) (s := ⟨[(12, B false)], [], gh ++ [.map (mapI shapesZ)]⟩) (by simp [D_word_Takes_k1, h4])
            have h2 := D_word_Takes_k2_ok (pg := pg) (gh := gh ++ [.map (mapI shapesZ)]) (b12 := false) (e := .ret) (s := ⟨[(2, I 2)], [], gh ++ [.map (mapI shapesZ)]⟩) rfl
            simp [D_word_Takes_0, shapes_eq, hf, h0, h1, this, h2]
          case r5 => simp [finish, results, f_word_Takes, resOfs, resOf, resOk, h0, h1, h4]
  rw [hk]
  congr 3
  simp only [shapeOf, takesOf]
  repeat' split
  all_goals first | rfl | omega | simp_all

theorem IsWidth_eq (w : Int) (gh : List GObj) : callL pg 62 [I w] gh = some (B (decide (1 ≤ w ∧ w ≤ 8)), gh) := by
  by_cases h : 1 ≤ w
  · refine callL_fn (fn := f_word_IsWidth) (s := ?s1) rfl rfl (D_word_IsWidth_0_ok ?h1) ?r1
    case h1 => simp [D_word_IsWidth_0, h]; rfl
    case r1 => simp [finish, results, f_word_IsWidth, resOfs, resOf, resOk, h]
  · refine callL_fn (fn := f_word_IsWidth) (s := ?s2) rfl rfl (D_word_IsWidth_0_ok ?h2) ?r2
    case h2 => simp [D_word_IsWidth_0, h]; rfl
    case r2 => simp [finish, results, f_word_IsWidth, resOfs, resOf, resOk, h]

theorem callL_fin {pg : Prg} {f : Nat} {fn : IFunc} {vs : List PV} {gh gh' : List GObj} {s : St} {v : PV} (h : pg f = some (.code fn)) (hl : vs.length = fn.np) (hr : runL pg fn.body ⟨enum 0 vs, [], gh⟩ = some (.ret, s))
    (hf : finish fn gh (.ret, s) = some (v, gh')) : callL pg f vs gh = some (v, gh') := callL_fn h hl hr hf

/-- Are the widths as a shape asks? -/
def fitsOf (s width n w0 w1 w2 : Int) : Bool :=
  if n ≠ 0 ∧ s ≠ 6 then false
  else if s = 1 then w0 = width
  else if s = 2 then w0 = width ∧ w1 = width
  else if s = 3 then w0 = w1 ∧ width = 1
  else if s = 4 then w0 = 1 ∧ w1 = width ∧ w2 = width
  else if s = 5 then IntKind.i64.wrap (w0 + w1) = width
  else if s = 6 then 0 ≤ n ∧ n ≤ IntKind.i64.wrap (w0 - width)
  else w0 ≤ width

theorem fits_eq (s width n w0 w1 w2 : Int) (gh : List GObj) : callL pg 64 [I s, I width, I n, .agg [I w0, I w1, I w2]] gh = some (B (fitsOf s width n w0 w1 w2), gh) := by
  have h : D_word_fits_0 pg s width n w0 w1 w2 gh = some (.ret, ⟨[(8, B (fitsOf s width n w0 w1 w2))], [], gh⟩) := by
    by_cases hn : n = 0
    · by_cases h1 : s = 1
      · simp [D_word_fits_0, fitsOf, hn, h1]
      by_cases h2 : s = 2
      · by_cases h : w0 = width <;> simp [D_word_fits_0, fitsOf, hn, h2, h]
      by_cases h3 : s = 3
      · by_cases h : w0 = w1 <;> simp [D_word_fits_0, fitsOf, hn, h3, h]
      by_cases h4 : s = 4
      · by_cases h : w0 = 1 <;> by_cases h' : w1 = width <;> simp [D_word_fits_0, fitsOf, hn, h4, h, h']
      by_cases h5 : s = 5
      · simp [D_word_fits_0, fitsOf, hn, h5]
      by_cases h6 : s = 6
      · simp [D_word_fits_0, fitsOf, hn, h6]
      simp [D_word_fits_0, fitsOf, hn, h1, h2, h3, h4, h5, h6]
    · by_cases h6 : s = 6
      · by_cases h : 0 ≤ n <;> simp [D_word_fits_0, fitsOf, hn, h6, h]
      · simp [D_word_fits_0, fitsOf, hn, h6]
  refine callL_fn (fn := f_word_fits) rfl rfl (D_word_fits_0_ok h) ?r
  simp [finish, results, f_word_fits, resOfs, resOf, resOk]

/-- May the word at place i be as wide? -/
def wOk (k i w : Int) : Prop := if i < takesOf k then 1 ≤ w ∧ w ≤ 8 else w = 0
instance (k i w : Int) : Decidable (wOk k i w) := inferInstanceAs (Decidable (if i < takesOf k then 1 ≤ w ∧ w ≤ 8 else w = 0))

theorem Fit_b1 (k width n s w0 w1 w2 i w : Int) (gh : List GObj) (hi : (i = 0 ∧ w = w0) ∨ (i = 1 ∧ w = w1) ∨ (i = 2 ∧ w = w2)) :
    D_word_Fit_b1 pg k width n s w0 w1 w2 i w0 w1 w2 gh = if wOk k i w then some (.normal, ⟨[(0, I k), (1, I width), (2, I n), (7, .ptr false 0 0), (9, I s), (24, .agg [I w0, I w1, I w2]), (25, I (i + 1))], [[I w0, I w1, I w2]], gh⟩)
      else some (.ret, ⟨[(8, I 3)], [], gh⟩) := by
  have hw : (IntKind.i64.wrap (i + 1)) = i + 1 := wrap_id (by omega) (by omega)
  by_cases hk : i < takesOf k
  · have hk' := Int.not_le.2 hk
    by_cases h1 : 1 ≤ w
    · by_cases h2 : w ≤ 8
      · rcases hi with ⟨rfl, rfl⟩ | ⟨rfl, rfl⟩ | ⟨rfl, rfl⟩ <;> simp [D_word_Fit_b1, Takes_eq, IsWidth_eq, hk, hk', wOk, h1, h2] <;> exact hw
      · rcases hi with ⟨rfl, rfl⟩ | ⟨rfl, rfl⟩ | ⟨rfl, rfl⟩ <;> simp [D_word_Fit_b1, Takes_eq, IsWidth_eq, hk, wOk, h1, h2]
    · rcases hi with ⟨rfl, rfl⟩ | ⟨rfl, rfl⟩ | ⟨rfl, rfl⟩ <;> simp [D_word_Fit_b1, Takes_eq, IsWidth_eq, hk, wOk, h1]
  · have hk' := Int.not_lt.1 hk
    by_cases h2 : w = 0
    · rcases hi with ⟨rfl, rfl⟩ | ⟨rfl, rfl⟩ | ⟨rfl, rfl⟩ <;> simp [D_word_Fit_b1, Takes_eq, hk, hk', wOk, h2] <;> exact hw
    · rcases hi with ⟨rfl, rfl⟩ | ⟨rfl, rfl⟩ | ⟨rfl, rfl⟩ <;> simp [D_word_Fit_b1, Takes_eq, hk, hk', wOk, h2]

theorem Fit_loop (k width n s w0 w1 w2 : Int) (gh : List GObj) :
    runL pg f_word_Fit_l1 ⟨[(0, I k), (1, I width), (2, I n), (7, .ptr false 0 0), (9, I s), (24, .agg [I w0, I w1, I w2]), (25, I 0)], [[I w0, I w1, I w2]], gh⟩ =
      if wOk k 0 w0 ∧ wOk k 1 w1 ∧ wOk k 2 w2 then some (.normal, ⟨[(1, I width), (2, I n), (7, .ptr false 0 0), (9, I s)], [[I w0, I w1, I w2]], gh⟩) else some (.ret, ⟨[(8, I 3)], [], gh⟩) := by
  have b0 := Fit_b1 k width n s w0 w1 w2 0 w0 gh (by simp)
  have b1 := Fit_b1 k width n s w0 w1 w2 1 w1 gh (by simp)
  have b2 := Fit_b1 k width n s w0 w1 w2 2 w2 gh (by simp)
  by_cases h0 : wOk k 0 w0
  · rw [if_pos h0] at b0
    refine lp_next (D_word_Fit_b1_ok b0) ?_
    by_cases h1 : wOk k 1 w1
    · rw [if_pos h1] at b1
      refine lp_next (D_word_Fit_b1_ok b1) ?_
      by_cases h2 : wOk k 2 w2
      · rw [if_pos h2] at b2
        refine lp_next (D_word_Fit_b1_ok b2) ?_
        rw [if_pos ⟨h0, h1, h2⟩]
        refine (lp_exit (s1 := ?s1) (D_word_Fit_b1_ok ?h1)).trans ?r1
        case h1 => simp [D_word_Fit_b1]; rfl
        case r1 => simp [keep]
      · rw [if_neg h2] at b2
        rw [if_neg (fun h => h2 h.2.2)]
        exact lp_ret (D_word_Fit_b1_ok b2)
    · rw [if_neg h1] at b1
      rw [if_neg (fun h => h1 h.2.1)]
      exact lp_ret (D_word_Fit_b1_ok b1)
  · rw [if_neg h0] at b0
    rw [if_neg (fun h => h0 h.1)]
    exact lp_ret (D_word_Fit_b1_ok b0)

/-- Which error an operation's widths make. -/
def fitE (k width n w0 w1 w2 : Int) : Int :=
  match shapeOf k with
  | none => 7
  | some s => if ¬ (1 ≤ width ∧ width ≤ 8) then 3 else if ¬ (wOk k 0 w0 ∧ wOk k 1 w1 ∧ wOk k 2 w2) then 3 else if fitsOf s width n w0 w1 w2 then 0 else 1

theorem Fit_eq (k width n w0 w1 w2 : Int) (gh : List GObj) : callL pg 22 [I k, I width, I n, .agg [I w0, I w1, I w2]] gh = some (I (fitE k width n w0 w1 w2), gh) := by
  have hf := findI_shapes k
  simp only [fitE]
  cases hs : shapeOf k with
  | none =>
    rw [hs] at hf
    refine callL_fn (fn := f_word_Fit) (s := ?s0) rfl rfl (D_word_Fit_0_ok ?h0) ?r0
    case h0 => simp [D_word_Fit_0, shapes_eq, hf]; rfl
    case r0 => simp [finish, results, f_word_Fit, resOfs, resOf, resOk]
  | some s =>
    rw [hs] at hf
    by_cases hw : 1 ≤ width ∧ width ≤ 8
    · have hl := Fit_loop k width n s w0 w1 w2 (gh ++ [.map (mapI shapesZ)])
      simp only [hw, not_true, if_false, and_self]
      by_cases ho : wOk k 0 w0 ∧ wOk k 1 w1 ∧ wOk k 2 w2
      · rw [if_pos ho] at hl
        simp only [ho, not_true, if_false, and_self]
        have hk : ∀ e s1, D_word_Fit_k1 pg width n s w0 w1 w2 (gh ++ [.map (mapI shapesZ)]) = some (e, s1) → _ := fun e s1 h => D_word_Fit_k1_ok h
        by_cases hb : fitsOf s width n w0 w1 w2
        · have := hk .ret ⟨[(8, I 0)], [], gh ++ [.map (mapI shapesZ)]⟩ (by simp [D_word_Fit_k1, fits_eq, hb])
          refine callL_fn (fn := f_word_Fit) (s := ?s1) rfl rfl (D_word_Fit_0_ok ?h1) ?r1
          case h1 => simp [D_word_Fit_0, shapes_eq, hf, IsWidth_eq, hw, hl, this]; rfl
          case r1 => simp [finish, results, f_word_Fit, resOfs, resOf, resOk, hb]
        · have := hk .ret ⟨[(8, I 1)], [], gh ++ [.map (mapI shapesZ)]⟩ (by simp [D_word_Fit_k1, fits_eq, hb])
          refine callL_fn (fn := f_word_Fit) (s := ?s2) rfl rfl (D_word_Fit_0_ok ?h2) ?r2
          case h2 => simp [D_word_Fit_0, shapes_eq, hf, IsWidth_eq, hw, hl, this]; rfl
          case r2 => simp [finish, results, f_word_Fit, resOfs, resOf, resOk, hb]
      · rw [if_neg ho] at hl
        refine callL_fn (fn := f_word_Fit) (s := ?s3) rfl rfl (D_word_Fit_0_ok ?h3) ?r3
        case h3 => simp [D_word_Fit_0, shapes_eq, hf, IsWidth_eq, hw, hl]; rfl
        case r3 => simp [finish, results, f_word_Fit, resOfs, resOf, resOk, ho]
    · refine callL_fn (fn := f_word_Fit) (s := ?s4) rfl rfl (D_word_Fit_0_ok ?h4) ?r4
      case h4 => simp [D_word_Fit_0, shapes_eq, hf, IsWidth_eq, hw]; rfl
      case r4 => simp [finish, results, f_word_Fit, resOfs, resOf, resOk, hw]

end Go.Lw
end

/-! What the code of function word_Apply comes to, piece by piece. Written by program (dprint.py). -/
section
set_option maxRecDepth 10000
set_option maxHeartbeats 4000000
namespace Go.Lw
open Go

def an_word_Apply : Tr := (.node 37 (.ce (.int .i64)) (.node 21 (.ce (.int .i64)) (.node 14 (.ce (.int .i64)) (.node 3 (.ce (.int .i64)) (.node 1 (.ce (.int .i64)) (.node 0 (.ce (.int .i64)) .nil .nil) (.node 2 (.ce (.int .i64)) .nil .nil)) (.node 5 (.ce (.int .i64)) (.node 4 (.ce (.int .i64)) .nil .nil) (.node 6 (.agg [.int .i64, .int .i64, .int .i64]) .nil .nil))) (.node 18 (.ce (.int .i64)) (.node 16 (.ce (.int .i64)) (.node 15 (.ce (.int .i64)) .nil .nil) (.node 17 (.ce (.int .i64)) .nil .nil)) (.node 20 (.ce (.int .i64)) (.node 19 (.ce (.int .i64)) .nil .nil) .nil))) (.node 29 (.ce (.int .i64)) (.node 25 (.ce (.bool)) (.node 23 (.ce (.int .i64)) (.node 22 (.agg [.int .i64, .int .i64, .int .i64]) .nil .nil) (.node 24 (.ce (.int .i64)) .nil .nil)) (.node 27 (.ce (.int .i64)) (.node 26 (.ce (.int .i64)) .nil .nil) (.node 28 (.ce (.int .i64)) .nil .nil))) (.node 33 (.ce (.bool)) (.node 31 (.ce (.int .i64)) (.node 30 (.ce (.one)) .nil .nil) (.node 32 (.ce (.int .i64)) .nil .nil)) (.node 36 (.ce (.int .i64)) (.node 34 (.ce (.int .i64)) .nil .nil) .nil)))) (.node 53 (.ce (.bool)) (.node 46 (.ce (.bool)) (.node 41 (.ce (.bool)) (.node 39 (.ce (.int .i64)) (.node 38 (.ce (.int .i64)) .nil .nil) (.node 40 (.ce (.bool)) .nil .nil)) (.node 43 (.ce (.int .i64)) (.node 42 (.ce (.int .i64)) .nil .nil) (.node 45 (.ce (.int .i64)) .nil .nil))) (.node 50 (.ce (.int .i64)) (.node 48 (.ce (.bool)) (.node 47 (.ce (.bool)) .nil .nil) (.node 49 (.ce (.bool)) .nil .nil)) (.node 52 (.ce (.int .i64)) (.node 51 (.ce (.int .i64)) .nil .nil) .nil))) (.node 61 (.ce (.int .i64)) (.node 57 (.ce (.bool)) (.node 55 (.ce (.int .i64)) (.node 54 (.ce (.bool)) .nil .nil) (.node 56 (.ce (.bool)) .nil .nil)) (.node 59 (.ce (.int .i64)) (.node 58 (.ce (.bool)) .nil .nil) (.node 60 (.ce (.int .i64)) .nil .nil))) (.node 65 (.ce (.int .i64)) (.node 63 (.ce (.int .i64)) (.node 62 (.ce (.int .i64)) .nil .nil) (.node 64 (.ce (.int .i64)) .nil .nil)) (.node 67 (.ce (.int .i64)) (.node 66 (.agg [.int .i64, .int .i64, .int .i64]) .nil .nil) .nil)))))

noncomputable def D_word_Apply_b1 (pg : Prg) (x0 : Int) (x1 : Int) (x2 : Int) (x3 : Int) (x4 : Int) (x5 : Int) (v30 : PV) (x31 : Int) (x32 : Int) (xc0_0 : Int) (xc0_1 : Int) (xc0_2 : Int) (gh : List GObj) : Option (IExit × St) := 
  br 33 (decide (x32 < x31)) (
  idX 1 none (degr v30) x32 fun p1 => 
  ldX [[(.int .i64 xc0_0), (.int .i64 xc0_1), (.int .i64 xc0_2)]] gh false 1 (degr p1) fun v2 => unI .i64 v2 fun n3 => stK 1 v30 (
  callR gh true (callL pg 63 [(.int .i64 x0)] gh) fun r4 gh5 => unI .i64 r4 fun n6 => 
  br 41 (decide (x32 < n6)) (gd (decide (0 ≤ x32 ∧ x32 < ((3 : Nat) : Int))) (
  ob (grab false 1 (0 + Int.toNat x32 * 1) [(.int .i64 xc0_0), (.int .i64 xc0_1), (.int .i64 xc0_2)]) fun v7 => unI .i64 (degr v7) fun n8 => 
  callR gh5 true (callL pg 65 [(.int .i64 n3), (.int .i64 n8)] gh5) fun r9 gh10 => unB r9 fun b11 => 
  br 49 (!b11) (stK 1 v30 (some (.ret, ⟨[(14, (.int .i64 0)), (15, (.int .i64 3))], [], gh10⟩))) (
  callR gh10 true (callL pg 63 [(.int .i64 x0)] gh10) fun r12 gh13 => unI .i64 r12 fun n14 => 
  br 54 (decide (n14 ≤ x32)) (stK 1 v30 (
  br 58 (n3 != 0) (some (.ret, ⟨[(14, (.int .i64 0)), (15, (.int .i64 3))], [], gh13⟩)) (stK 1 v30 (stK 1 v30 (some (.normal, ⟨[(0, (.int .i64 x0)), (1, (.int .i64 x1)), (2, (.int .i64 x2)), (3, (.int .i64 x3)), (4, (.int .i64 x4)), (5, (.int .i64 x5)), (13, (.ptr false 0 0)), (30, v30), (31, (.int .i64 x31)), (32, (.int .i64 (IntKind.i64.wrap (x32 + 1))))], [[(.int .i64 xc0_0), (.int .i64 xc0_1), (.int .i64 xc0_2)]], gh13⟩)))))) (stK 1 v30 (stK 1 v30 (stK 1 v30 (some (.normal, ⟨[(0, (.int .i64 x0)), (1, (.int .i64 x1)), (2, (.int .i64 x2)), (3, (.int .i64 x3)), (4, (.int .i64 x4)), (5, (.int .i64 x5)), (13, (.ptr false 0 0)), (30, v30), (31, (.int .i64 x31)), (32, (.int .i64 (IntKind.i64.wrap (x32 + 1))))], [[(.int .i64 xc0_0), (.int .i64 xc0_1), (.int .i64 xc0_2)]], gh13⟩)))))))) (
  callR gh5 true (callL pg 63 [(.int .i64 x0)] gh5) fun r15 gh16 => unI .i64 r15 fun n17 => 
  br 54 (decide (n17 ≤ x32)) (stK 1 v30 (
  br 58 (n3 != 0) (some (.ret, ⟨[(14, (.int .i64 0)), (15, (.int .i64 3))], [], gh16⟩)) (stK 1 v30 (stK 1 v30 (some (.normal, ⟨[(0, (.int .i64 x0)), (1, (.int .i64 x1)), (2, (.int .i64 x2)), (3, (.int .i64 x3)), (4, (.int .i64 x4)), (5, (.int .i64 x5)), (13, (.ptr false 0 0)), (30, v30), (31, (.int .i64 x31)), (32, (.int .i64 (IntKind.i64.wrap (x32 + 1))))], [[(.int .i64 xc0_0), (.int .i64 xc0_1), (.int .i64 xc0_2)]], gh16⟩)))))) (stK 1 v30 (stK 1 v30 (stK 1 v30 (some (.normal, ⟨[(0, (.int .i64 x0)), (1, (.int .i64 x1)), (2, (.int .i64 x2)), (3, (.int .i64 x3)), (4, (.int .i64 x4)), (5, (.int .i64 x5)), (13, (.ptr false 0 0)), (30, v30), (31, (.int .i64 x31)), (32, (.int .i64 (IntKind.i64.wrap (x32 + 1))))], [[(.int .i64 xc0_0), (.int .i64 xc0_1), (.int .i64 xc0_2)]], gh16⟩)))))))) (some ((.exit 0), ⟨[(0, (.int .i64 x0)), (1, (.int .i64 x1)), (2, (.int .i64 x2)), (3, (.int .i64 x3)), (4, (.int .i64 x4)), (5, (.int .i64 x5)), (13, (.ptr false 0 0)), (30, v30), (31, (.int .i64 x31)), (32, (.int .i64 x32)), (33, (.bool (decide (x32 < x31))))], [[(.int .i64 xc0_0), (.int .i64 xc0_1), (.int .i64 xc0_2)]], gh⟩))

theorem D_word_Apply_b1_ok {pg : Prg} {gh : List GObj} {x0 : Int} {x1 : Int} {x2 : Int} {x3 : Int} {x4 : Int} {x5 : Int} {v30 : PV} {x31 : Int} {x32 : Int} {xc0_0 : Int} {xc0_1 : Int} {xc0_2 : Int} {e : IExit} {s : St} (h : D_word_Apply_b1 pg x0 x1 x2 x3 x4 x5 v30 x31 x32 xc0_0 xc0_1 xc0_2 gh = some (e, s)) : runL pg f_word_Apply_b1 ⟨[(0, (.int .i64 x0)), (1, (.int .i64 x1)), (2, (.int .i64 x2)), (3, (.int .i64 x3)), (4, (.int .i64 x4)), (5, (.int .i64 x5)), (13, (.ptr false 0 0)), (30, v30), (31, (.int .i64 x31)), (32, (.int .i64 x32))], [[(.int .i64 xc0_0), (.int .i64 xc0_1), (.int .i64 xc0_2)]], gh⟩ = some (e, s) :=
  runX_ok an_word_Apply (Eq.trans (by kernel_rfl) h)

noncomputable def D_word_Apply_k1 (pg : Prg) (x0 : Int) (x1 : Int) (x2 : Int) (x3 : Int) (x4 : Int) (x5 : Int) (xc0_0 : Int) (xc0_1 : Int) (xc0_2 : Int) (gh : List GObj) : Option (IExit × St) := 
  callR gh true (callL pg 66 [(.int .i64 x0), (.int .i64 x1), (.int .i64 x2), (.int .i64 x3), (.int .i64 x4), (.int .i64 x5), (.agg [(.int .i64 xc0_0), (.int .i64 xc0_1), (.int .i64 xc0_2)])] gh) fun r1 gh2 => unI .i64 r1 fun n3 => some (.ret, ⟨[(14, (.int .i64 n3)), (15, (.int .i64 0))], [], gh2⟩)

theorem D_word_Apply_k1_ok {pg : Prg} {gh : List GObj} {x0 : Int} {x1 : Int} {x2 : Int} {x3 : Int} {x4 : Int} {x5 : Int} {xc0_0 : Int} {xc0_1 : Int} {xc0_2 : Int} {e : IExit} {s : St} (h : D_word_Apply_k1 pg x0 x1 x2 x3 x4 x5 xc0_0 xc0_1 xc0_2 gh = some (e, s)) : runL pg f_word_Apply_k1 ⟨[(0, (.int .i64 x0)), (1, (.int .i64 x1)), (2, (.int .i64 x2)), (3, (.int .i64 x3)), (4, (.int .i64 x4)), (5, (.int .i64 x5)), (13, (.ptr false 0 0))], [[(.int .i64 xc0_0), (.int .i64 xc0_1), (.int .i64 xc0_2)]], gh⟩ = some (e, s) :=
  runX_ok an_word_Apply (Eq.trans (by kernel_rfl) h)

noncomputable def D_word_Apply_0 (pg : Prg) (x0 : Int) (x1 : Int) (x2 : Int) (x3 : Int) (x4 : Int) (x5 : Int) (x6_0 : Int) (x6_1 : Int) (x6_2 : Int) (gh : List GObj) : Option (IExit × St) := 
  callR gh true (callL pg 22 [(.int .i64 x0), (.int .i64 x1), (.int .i64 x5), (.agg [(.int .i64 x6_0), (.int .i64 x6_1), (.int .i64 x6_2)])] gh) fun r1 gh2 => unI .i64 r1 fun n3 => 
  br 25 (n3 != 0) (some (.ret, ⟨[(14, (.int .i64 0)), (15, (.int .i64 n3))], [], gh2⟩)) (lenS (.sl false 1 [(.int .i64 x2), (.int .i64 x3), (.int .i64 x4)]) fun n4 => 
  kR (runL pg f_word_Apply_l1 ⟨[(0, (.int .i64 x0)), (1, (.int .i64 x1)), (2, (.int .i64 x2)), (3, (.int .i64 x3)), (4, (.int .i64 x4)), (5, (.int .i64 x5)), (13, (.ptr false 0 0)), (30, (.sl true 1 [(.int .i64 x2), (.int .i64 x3), (.int .i64 x4)])), (31, (.int .i64 (n4 : Int))), (32, (.int .i64 0))], [[(.int .i64 x6_0), (.int .i64 x6_1), (.int .i64 x6_2)]], gh2⟩) (fun e s => nx e s (fun e s => some (e, s)) fun s => kR (runL pg f_word_Apply_k1 s) (fun e s => some (e, s))))

theorem D_word_Apply_0_ok {pg : Prg} {gh : List GObj} {x0 : Int} {x1 : Int} {x2 : Int} {x3 : Int} {x4 : Int} {x5 : Int} {x6_0 : Int} {x6_1 : Int} {x6_2 : Int} {e : IExit} {s : St} (h : D_word_Apply_0 pg x0 x1 x2 x3 x4 x5 x6_0 x6_1 x6_2 gh = some (e, s)) : runL pg f_word_Apply_0 ⟨[(0, (.int .i64 x0)), (1, (.int .i64 x1)), (2, (.int .i64 x2)), (3, (.int .i64 x3)), (4, (.int .i64 x4)), (5, (.int .i64 x5)), (6, (.agg [(.int .i64 x6_0), (.int .i64 x6_1), (.int .i64 x6_2)]))], [], gh⟩ = some (e, s) :=
  runX_ok an_word_Apply (Eq.trans (by kernel_rfl) h)

end Go.Lw
end

/-! What the code of function word_do comes to, piece by piece. Written by program (dprint.py). -/
section
set_option maxRecDepth 10000
set_option maxHeartbeats 4000000
namespace Go.Lw
open Go

def an_word_do : Tr := (.node 66 (.ce (.int .i64)) (.node 36 (.ce (.int .i64)) (.node 21 (.ce (.bool)) (.node 14 (.ce (.int .i64)) (.node 3 (.ce (.int .i64)) (.node 1 (.ce (.int .i64)) (.node 0 (.ce (.int .i64)) .nil .nil) (.node 2 (.ce (.int .i64)) .nil .nil)) (.node 5 (.ce (.int .i64)) (.node 4 (.ce (.int .i64)) .nil .nil) (.node 6 (.agg [.int .i64, .int .i64, .int .i64]) .nil .nil))) (.node 18 (.ce (.int .i64)) (.node 16 (.ce (.bool)) (.node 15 (.ce (.int .i64)) .nil .nil) (.node 17 (.ce (.bool)) .nil .nil)) (.node 20 (.ce (.bool)) (.node 19 (.ce (.int .i64)) .nil .nil) .nil))) (.node 29 (.ce (.bool)) (.node 25 (.ce (.bool)) (.node 23 (.ce (.int .i64)) (.node 22 (.ce (.int .i64)) .nil .nil) (.node 24 (.ce (.bool)) .nil .nil)) (.node 27 (.ce (.int .i64)) (.node 26 (.ce (.int .i64)) .nil .nil) (.node 28 (.ce (.int .i64)) .nil .nil))) (.node 33 (.ce (.int .i64)) (.node 31 (.ce (.int .i64)) (.node 30 (.ce (.bool)) .nil .nil) (.node 32 (.ce (.int .i64)) .nil .nil)) (.node 35 (.ce (.bool)) (.node 34 (.ce (.bool)) .nil .nil) .nil)))) (.node 51 (.ce (.int .i64)) (.node 44 (.ce (.bool)) (.node 40 (.ce (.bool)) (.node 38 (.ce (.int .i64)) (.node 37 (.ce (.int .i64)) .nil .nil) (.node 39 (.ce (.bool)) .nil .nil)) (.node 42 (.ce (.int .i64)) (.node 41 (.ce (.int .i64)) .nil .nil) (.node 43 (.ce (.int .i64)) .nil .nil))) (.node 48 (.ce (.int .i64)) (.node 46 (.ce (.int .i64)) (.node 45 (.ce (.bool)) .nil .nil) (.node 47 (.ce (.int .i64)) .nil .nil)) (.node 50 (.ce (.bool)) (.node 49 (.ce (.bool)) .nil .nil) .nil))) (.node 59 (.ce (.bool)) (.node 55 (.ce (.bool)) (.node 53 (.ce (.int .i64)) (.node 52 (.ce (.int .i64)) .nil .nil) (.node 54 (.ce (.bool)) .nil .nil)) (.node 57 (.ce (.int .i64)) (.node 56 (.ce (.int .i64)) .nil .nil) (.node 58 (.ce (.int .i64)) .nil .nil))) (.node 63 (.ce (.int .i64)) (.node 61 (.ce (.int .i64)) (.node 60 (.ce (.bool)) .nil .nil) (.node 62 (.ce (.int .i64)) .nil .nil)) (.node 65 (.ce (.bool)) (.node 64 (.ce (.bool)) .nil .nil) .nil))))) (.node 99 (.ce (.int .i64)) (.node 82 (.ce (.int .i64)) (.node 74 (.ce (.bool)) (.node 70 (.ce (.bool)) (.node 68 (.ce (.bool)) (.node 67 (.ce (.int .i64)) .nil .nil) (.node 69 (.ce (.int .i64)) .nil .nil)) (.node 72 (.ce (.int .i64)) (.node 71 (.ce (.bool)) .nil .nil) (.node 73 (.ce (.int .i64)) .nil .nil))) (.node 78 (.ce (.int .i64)) (.node 76 (.ce (.bool)) (.node 75 (.ce (.int .i64)) .nil .nil) (.node 77 (.ce (.bool)) .nil .nil)) (.node 81 (.ce (.int .i64)) (.node 80 (.ce (.int .i64)) .nil .nil) .nil))) (.node 92 (.ce (.int .i64)) (.node 87 (.ce (.int .i64)) (.node 85 (.ce (.int .i64)) (.node 84 (.ce (.int .i64)) .nil .nil) (.node 86 (.ce (.bool)) .nil .nil)) (.node 89 (.ce (.bool)) (.node 88 (.ce (.bool)) .nil .nil) (.node 90 (.ce (.int .i64)) .nil .nil))) (.node 96 (.ce (.bool)) (.node 94 (.ce (.int .i64)) (.node 93 (.ce (.int .i64)) .nil .nil) (.node 95 (.ce (.int .i64)) .nil .nil)) (.node 98 (.ce (.int .i64)) (.node 97 (.ce (.bool)) .nil .nil) .nil)))) (.node 115 (.ce (.int .i64)) (.node 108 (.ce (.bool)) (.node 103 (.ce (.int .i64)) (.node 101 (.ce (.bool)) (.node 100 (.ce (.int .i64)) .nil .nil) (.node 102 (.ce (.bool)) .nil .nil)) (.node 106 (.ce (.int .i64)) (.node 105 (.ce (.int .i64)) .nil .nil) (.node 107 (.ce (.bool)) .nil .nil))) (.node 112 (.ce (.int .i64)) (.node 110 (.ce (.bool)) (.node 109 (.ce (.int .i64)) .nil .nil) (.node 111 (.ce (.int .i64)) .nil .nil)) (.node 114 (.ce (.bool)) (.node 113 (.ce (.bool)) .nil .nil) .nil))) (.node 122 (.ce (.int .i64)) (.node 119 (.ce (.int .i64)) (.node 117 (.ce (.int .i64)) (.node 116 (.ce (.bool)) .nil .nil) (.node 118 (.ce (.int .i64)) .nil .nil)) (.node 121 (.ce (.bool)) (.node 120 (.ce (.bool)) .nil .nil) .nil)) (.node 126 (.ce (.int .i64)) (.node 124 (.ce (.int .i64)) (.node 123 (.ce (.bool)) .nil .nil) (.node 125 (.ce (.int .i64)) .nil .nil)) (.node 128 (.ce (.int .i64)) (.node 127 (.ce (.int .i64)) .nil .nil) .nil))))))

noncomputable def D_word_do_0 (pg : Prg) (x0 : Int) (x1 : Int) (x2 : Int) (x3 : Int) (x4 : Int) (x5 : Int) (x6_0 : Int) (x6_1 : Int) (x6_2 : Int) (gh : List GObj) : Option (IExit × St) := 
  br 16 (x0 == 4) (some (.ret, ⟨[(14, (.int .i64 (iNot .i64 x2)))], [], gh⟩)) (
  br 20 (x0 == 5) (some (.ret, ⟨[(14, (.int .i64 (IntKind.i64.wrap (0 - x2))))], [], gh⟩)) (
  br 24 (x0 == 6) (some (.ret, ⟨[(14, (.int .i64 (iAnd .i64 x2 x3)))], [], gh⟩)) (
  br 29 (x0 == 7) (some (.ret, ⟨[(14, (.int .i64 (iOr .i64 x2 x3)))], [], gh⟩)) (
  br 34 (x0 == 8) (some (.ret, ⟨[(14, (.int .i64 (iXor .i64 x2 x3)))], [], gh⟩)) (
  br 39 (x0 == 9) (some (.ret, ⟨[(14, (.int .i64 (IntKind.i64.wrap (x2 + x3))))], [], gh⟩)) (
  br 44 (x0 == 10) (some (.ret, ⟨[(14, (.int .i64 (IntKind.i64.wrap (x2 - x3))))], [], gh⟩)) (
  br 49 (x0 == 11) (some (.ret, ⟨[(14, (.int .i64 (IntKind.i64.wrap (x2 * x3))))], [], gh⟩)) (
  br 54 (x0 == 14) (gd (decide ((0 : Int) ≤ x3)) (some (.ret, ⟨[(14, (.int .i64 (iShl .i64 x2 x3)))], [], gh⟩))) (
  br 59 (x0 == 15) (gd (decide ((0 : Int) ≤ x3)) (some (.ret, ⟨[(14, (.int .i64 (iShr .i64 x2 x3)))], [], gh⟩))) (
  br 64 (x0 == 16) (
  callR gh true (callL pg 114 [(.bool (x2 == x3))] gh) fun r1 gh2 => unI .i64 r1 fun n3 => some (.ret, ⟨[(14, (.int .i64 n3))], [], gh2⟩)) (
  br 70 (x0 == 17) (
  callR gh true (callL pg 114 [(.bool (decide (x2 < x3)))] gh) fun r4 gh5 => unI .i64 r4 fun n6 => some (.ret, ⟨[(14, (.int .i64 n6))], [], gh5⟩)) (
  br 76 (x0 == 18) (
  callR gh true (callL pg 115 [(.int .i64 x2), (.int .i64 x6_0)] gh) fun r7 gh8 => unI .i64 r7 fun n9 => 
  callR gh8 true (callL pg 115 [(.int .i64 x3), (.int .i64 x6_1)] gh8) fun r10 gh11 => unI .i64 r10 fun n12 => 
  callR gh11 true (callL pg 114 [(.bool (decide (n9 < n12)))] gh11) fun r13 gh14 => unI .i64 r13 fun n15 => some (.ret, ⟨[(14, (.int .i64 n15))], [], gh14⟩)) (
  br 88 (x0 == 20) (gd (decide ((0 : Int) ≤ x6_1)) (some (.ret, ⟨[(14, (.int .i64 (iOr .i64 (iShl .i64 x2 x6_1) x3)))], [], gh⟩))) (
  br 96 (x0 == 21) (gd (decide ((0 : Int) ≤ x5)) (some (.ret, ⟨[(14, (.int .i64 (iShr .i64 x2 x5)))], [], gh⟩))) (
  br 101 (x0 == 23) (
  callR gh true (callL pg 115 [(.int .i64 x2), (.int .i64 x6_0)] gh) fun r16 gh17 => unI .i64 r16 fun n18 => some (.ret, ⟨[(14, (.int .i64 n18))], [], gh17⟩)) (
  br 107 (x0 == 19) (
  br 110 (x2 == 1) (some (.ret, ⟨[(14, (.int .i64 x3))], [], gh⟩)) (some (.ret, ⟨[(14, (.int .i64 x4))], [], gh⟩))) (
  br 113 (x0 == 12) (
  br 116 (x3 == 0) (some (.ret, ⟨[(14, (.int .i64 (-1)))], [], gh⟩)) (gd (decide ((x3 : Int) ≠ 0)) (some (.ret, ⟨[(14, (.int .i64 (IntKind.i64.wrap (Int.tdiv x2 x3))))], [], gh⟩)))) (
  br 120 (x0 == 13) (
  br 123 (x3 == 0) (some (.ret, ⟨[(14, (.int .i64 x2))], [], gh⟩)) (gd (decide ((x3 : Int) ≠ 0)) (some (.ret, ⟨[(14, (.int .i64 (Int.tmod x2 x3)))], [], gh⟩)))) (some (.ret, ⟨[(14, (.int .i64 x2))], [], gh⟩))))))))))))))))))))

theorem D_word_do_0_ok {pg : Prg} {gh : List GObj} {x0 : Int} {x1 : Int} {x2 : Int} {x3 : Int} {x4 : Int} {x5 : Int} {x6_0 : Int} {x6_1 : Int} {x6_2 : Int} {e : IExit} {s : St} (h : D_word_do_0 pg x0 x1 x2 x3 x4 x5 x6_0 x6_1 x6_2 gh = some (e, s)) : runL pg f_word_do_0 ⟨[(0, (.int .i64 x0)), (1, (.int .i64 x1)), (2, (.int .i64 x2)), (3, (.int .i64 x3)), (4, (.int .i64 x4)), (5, (.int .i64 x5)), (6, (.agg [(.int .i64 x6_0), (.int .i64 x6_1), (.int .i64 x6_2)]))], [], gh⟩ = some (e, s) :=
  runX_ok an_word_do (Eq.trans (by kernel_rfl) h)

end Go.Lw
end

/-! What the code of function word_Raw comes to, piece by piece. Written by program (dprint.py). -/
section
set_option maxRecDepth 10000
set_option maxHeartbeats 4000000
namespace Go.Lw
open Go

def an_word_Raw : Tr := (.node 17 (.ce (.int .i64)) (.node 5 (.ce (.int .i64)) (.node 2 (.ce (.int .i64)) (.node 1 (.ce (.int .i64)) (.node 0 (.ce (.int .i64)) .nil .nil) .nil) (.node 4 (.ce (.int .i64)) (.node 3 (.ce (.int .i64)) .nil .nil) .nil)) (.node 15 (.ce (.int .i64)) (.node 14 (.ce (.int .i64)) (.node 6 (.agg [.int .i64, .int .i64, .int .i64]) .nil .nil) .nil) (.node 16 (.ce (.int .i64)) .nil .nil))) (.node 22 (.ce (.int .i64)) (.node 20 (.ce (.int .i64)) (.node 19 (.ce (.int .i64)) (.node 18 (.ce (.int .i64)) .nil .nil) .nil) (.node 21 (.agg [.int .i64, .int .i64, .int .i64]) .nil .nil)) (.node 25 (.ce (.int .i64)) (.node 24 (.ce (.int .i64)) (.node 23 (.ce (.int .i64)) .nil .nil) .nil) (.node 26 (.ce (.int .i64)) .nil .nil))))

noncomputable def D_word_Raw_0 (pg : Prg) (x0 : Int) (x1 : Int) (x2 : Int) (x3 : Int) (x4 : Int) (x5 : Int) (x6_0 : Int) (x6_1 : Int) (x6_2 : Int) (gh : List GObj) : Option (IExit × St) := 
  callR gh true (callL pg 96 [(.int .i64 x0), (.int .i64 x1), (.int .i64 x2), (.int .i64 x3), (.int .i64 x4), (.int .i64 x5), (.agg [(.int .i64 x6_0), (.int .i64 x6_1), (.int .i64 x6_2)])] gh) fun r1 gh2 => unI .i64 r1 fun n3 => gd (decide ((0 : Int) ≤ x1)) (some (.ret, ⟨[(14, (.int .i64 (iAnd .i64 n3 (IntKind.i64.wrap ((iShl .i64 1 x1) - 1)))))], [], gh2⟩))

theorem D_word_Raw_0_ok {pg : Prg} {gh : List GObj} {x0 : Int} {x1 : Int} {x2 : Int} {x3 : Int} {x4 : Int} {x5 : Int} {x6_0 : Int} {x6_1 : Int} {x6_2 : Int} {e : IExit} {s : St} (h : D_word_Raw_0 pg x0 x1 x2 x3 x4 x5 x6_0 x6_1 x6_2 gh = some (e, s)) : runL pg f_word_Raw_0 ⟨[(0, (.int .i64 x0)), (1, (.int .i64 x1)), (2, (.int .i64 x2)), (3, (.int .i64 x3)), (4, (.int .i64 x4)), (5, (.int .i64 x5)), (6, (.agg [(.int .i64 x6_0), (.int .i64 x6_1), (.int .i64 x6_2)]))], [], gh⟩ = some (e, s) :=
  runX_ok an_word_Raw (Eq.trans (by kernel_rfl) h)

end Go.Lw
end

/-! What the code of function word_yes comes to, piece by piece. Written by program (dprint.py). -/
section
set_option maxRecDepth 10000
set_option maxHeartbeats 4000000
namespace Go.Lw
open Go

def an_word_yes : Tr := (.node 2 (.ce (.int .i64)) (.node 0 (.ce (.bool)) .nil .nil) (.node 3 (.ce (.bool)) .nil .nil))

noncomputable def D_word_yes_0 (pg : Prg) (b0 : Bool) (gh : List GObj) : Option (IExit × St) := 
  br 3 b0 (some (.ret, ⟨[(2, (.int .i64 1))], [], gh⟩)) (some (.ret, ⟨[(2, (.int .i64 0))], [], gh⟩))

theorem D_word_yes_0_ok {pg : Prg} {gh : List GObj} {b0 : Bool} {e : IExit} {s : St} (h : D_word_yes_0 pg b0 gh = some (e, s)) : runL pg f_word_yes_0 ⟨[(0, (.bool b0))], [], gh⟩ = some (e, s) :=
  runX_ok an_word_yes (Eq.trans (by kernel_rfl) h)

end Go.Lw
end

/-! What the code of function word_signed comes to, piece by piece. Written by program (dprint.py). -/
section
set_option maxRecDepth 10000
set_option maxHeartbeats 4000000
namespace Go.Lw
open Go

def an_word_signed : Tr := (.node 8 (.ce (.int .i64)) (.node 5 (.ce (.int .i64)) (.node 1 (.ce (.int .i64)) (.node 0 (.ce (.int .i64)) .nil .nil) (.node 4 (.ce (.int .i64)) .nil .nil)) (.node 7 (.ce (.int .i64)) (.node 6 (.ce (.int .i64)) .nil .nil) .nil)) (.node 12 (.ce (.int .i64)) (.node 10 (.ce (.int .i64)) (.node 9 (.ce (.bool)) .nil .nil) (.node 11 (.ce (.int .i64)) .nil .nil)) (.node 14 (.ce (.int .i64)) (.node 13 (.ce (.int .i64)) .nil .nil) .nil)))

noncomputable def D_word_signed_0 (pg : Prg) (x0 : Int) (x1 : Int) (gh : List GObj) : Option (IExit × St) := gd (decide ((0 : Int) ≤ (IntKind.i64.wrap (x1 - 1)))) (
  br 9 (decide ((iShl .i64 1 (IntKind.i64.wrap (x1 - 1))) ≤ x0)) (gd (decide ((0 : Int) ≤ x1)) (some (.ret, ⟨[(4, (.int .i64 (IntKind.i64.wrap (x0 - (iShl .i64 1 x1)))))], [], gh⟩))) (some (.ret, ⟨[(4, (.int .i64 x0))], [], gh⟩)))

theorem D_word_signed_0_ok {pg : Prg} {gh : List GObj} {x0 : Int} {x1 : Int} {e : IExit} {s : St} (h : D_word_signed_0 pg x0 x1 gh = some (e, s)) : runL pg f_word_signed_0 ⟨[(0, (.int .i64 x0)), (1, (.int .i64 x1))], [], gh⟩ = some (e, s) :=
  runX_ok an_word_signed (Eq.trans (by kernel_rfl) h)

end Go.Lw
end

/-! What the code of function word_IsWord comes to, piece by piece. Written by program (dprint.py). -/
section
set_option maxRecDepth 10000
set_option maxHeartbeats 4000000
namespace Go.Lw
open Go

def an_word_IsWord : Tr := (.node 7 (.ce (.bool)) (.node 4 (.ce (.bool)) (.node 1 (.ce (.int .i64)) (.node 0 (.ce (.int .i64)) .nil .nil) .nil) (.node 6 (.ce (.bool)) (.node 5 (.ce (.int .i64)) .nil .nil) .nil)) (.node 10 (.ce (.int .i64)) (.node 9 (.ce (.int .i64)) (.node 8 (.ce (.int .i64)) .nil .nil) .nil) (.node 12 (.ce (.bool)) (.node 11 (.ce (.bool)) .nil .nil) .nil)))

noncomputable def D_word_IsWord_0 (pg : Prg) (x0 : Int) (x1 : Int) (gh : List GObj) : Option (IExit × St) := 
  br 7 (decide (0 ≤ x0)) (gd (decide ((0 : Int) ≤ x1)) (some (.ret, ⟨[(4, (.bool (decide (x0 < (iShl .i64 1 x1)))))], [], gh⟩))) (some (.ret, ⟨[(4, (.bool false))], [], gh⟩))

theorem D_word_IsWord_0_ok {pg : Prg} {gh : List GObj} {x0 : Int} {x1 : Int} {e : IExit} {s : St} (h : D_word_IsWord_0 pg x0 x1 gh = some (e, s)) : runL pg f_word_IsWord_0 ⟨[(0, (.int .i64 x0)), (1, (.int .i64 x1))], [], gh⟩ = some (e, s) :=
  runX_ok an_word_IsWord (Eq.trans (by kernel_rfl) h)

end Go.Lw
end

/-! What Apply of package word comes to. -/
section
namespace Go.Lw
open Go

theorem yes_eq (b : Bool) (gh : List GObj) : callL pg 114 [B b] gh = some (I (if b then 1 else 0), gh) := by
  cases b
  · refine callL_fn (fn := f_word_yes) (s := ?s1) rfl rfl (D_word_yes_0_ok ?h1) ?r1
    case h1 => simp [D_word_yes_0]; rfl
    case r1 => simp [finish, results, f_word_yes, resOfs, resOf, resOk]
  · refine callL_fn (fn := f_word_yes) (s := ?s2) rfl rfl (D_word_yes_0_ok ?h2) ?r2
    case h2 => simp [D_word_yes_0]; rfl
    case r2 => simp [finish, results, f_word_yes, resOfs, resOf, resOk]

/-- The signed value, as the program makes it. -/
def sgnOf (n w : Int) : Int := if iShl .i64 1 (w - 1) ≤ n then IntKind.i64.wrap (n - iShl .i64 1 w) else n

theorem signed_eq (n w : Int) (hw : 1 ≤ w ∧ w ≤ 8) (gh : List GObj) : callL pg 115 [I n, I w] gh = some (I (sgnOf n w), gh) := by
  have e : IntKind.i64.wrap (w - 1) = w - 1 := wrap_id (by omega) (by omega)

  have h2 : 0 ≤ w := by omega
  by_cases h : iShl .i64 1 (w - 1) ≤ n
  · refine callL_fn (fn := f_word_signed) (s := ?s1) rfl rfl (D_word_signed_0_ok ?h1) ?r1
    case h1 => simp [D_word_signed_0, e, hw.1, h2, h]; rfl
    case r1 => simp [finish, results, f_word_signed, resOfs, resOf, resOk, sgnOf, h]
  · refine callL_fn (fn := f_word_signed) (s := ?s2) rfl rfl (D_word_signed_0_ok ?h2) ?r2
    case h2 => simp [D_word_signed_0, e, hw.1, h]; rfl
    case r2 => simp [finish, results, f_word_signed, resOfs, resOf, resOk, sgnOf, h]

theorem IsWord_eq (n w : Int) (hw : 0 ≤ w) (gh : List GObj) : callL pg 65 [I n, I w] gh = some (B (decide (0 ≤ n ∧ n < iShl .i64 1 w)), gh) := by
  by_cases h : 0 ≤ n
  · refine callL_fn (fn := f_word_IsWord) (s := ?s1) rfl rfl (D_word_IsWord_0_ok ?h1) ?r1
    case h1 => simp [D_word_IsWord_0, hw, h]; rfl
    case r1 => simp [finish, results, f_word_IsWord, resOfs, resOf, resOk, h]
  · refine callL_fn (fn := f_word_IsWord) (s := ?s2) rfl rfl (D_word_IsWord_0_ok ?h2) ?r2
    case h2 => simp [D_word_IsWord_0, h]; rfl
    case r2 => simp [finish, results, f_word_IsWord, resOfs, resOf, resOk, h]

/-- What an operation makes before it is cut to its width. -/
def doOf (k a b c n w0 w1 : Int) : Int :=
  if k = 4 then iNot .i64 a else if k = 5 then IntKind.i64.wrap (0 - a) else if k = 6 then iAnd .i64 a b else if k = 7 then iOr .i64 a b else if k = 8 then iXor .i64 a b
  else if k = 9 then IntKind.i64.wrap (a + b) else if k = 10 then IntKind.i64.wrap (a - b) else if k = 11 then IntKind.i64.wrap (a * b) else if k = 14 then iShl .i64 a b else if k = 15 then iShr .i64 a b
  else if k = 16 then (if a = b then 1 else 0) else if k = 17 then (if a < b then 1 else 0) else if k = 18 then (if sgnOf a w0 < sgnOf b w1 then 1 else 0)
  else if k = 20 then iOr .i64 (iShl .i64 a w1) b else if k = 21 then iShr .i64 a n else if k = 23 then sgnOf a w0 else if k = 19 then (if a = 1 then b else c)
  else if k = 12 then (if b = 0 then -1 else IntKind.i64.wrap (Int.tdiv a b)) else if k = 13 then (if b = 0 then a else Int.tmod a b) else a

theorem do_D4 (width a b c n w0 w1 w2 : Int) (gh : List GObj) : D_word_do_0 pg 4 width a b c n w0 w1 w2 gh = some (.ret, ⟨[(14, I (doOf 4 a b c n w0 w1))], [], gh⟩) := rfl

theorem do_D5 (width a b c n w0 w1 w2 : Int) (gh : List GObj) : D_word_do_0 pg 5 width a b c n w0 w1 w2 gh = some (.ret, ⟨[(14, I (doOf 5 a b c n w0 w1))], [], gh⟩) := rfl

theorem do_D6 (width a b c n w0 w1 w2 : Int) (gh : List GObj) : D_word_do_0 pg 6 width a b c n w0 w1 w2 gh = some (.ret, ⟨[(14, I (doOf 6 a b c n w0 w1))], [], gh⟩) := rfl

theorem do_D7 (width a b c n w0 w1 w2 : Int) (gh : List GObj) : D_word_do_0 pg 7 width a b c n w0 w1 w2 gh = some (.ret, ⟨[(14, I (doOf 7 a b c n w0 w1))], [], gh⟩) := rfl

theorem do_D8 (width a b c n w0 w1 w2 : Int) (gh : List GObj) : D_word_do_0 pg 8 width a b c n w0 w1 w2 gh = some (.ret, ⟨[(14, I (doOf 8 a b c n w0 w1))], [], gh⟩) := rfl

theorem do_D9 (width a b c n w0 w1 w2 : Int) (gh : List GObj) : D_word_do_0 pg 9 width a b c n w0 w1 w2 gh = some (.ret, ⟨[(14, I (doOf 9 a b c n w0 w1))], [], gh⟩) := rfl

theorem do_D10 (width a b c n w0 w1 w2 : Int) (gh : List GObj) : D_word_do_0 pg 10 width a b c n w0 w1 w2 gh = some (.ret, ⟨[(14, I (doOf 10 a b c n w0 w1))], [], gh⟩) := rfl

theorem do_D11 (width a b c n w0 w1 w2 : Int) (gh : List GObj) : D_word_do_0 pg 11 width a b c n w0 w1 w2 gh = some (.ret, ⟨[(14, I (doOf 11 a b c n w0 w1))], [], gh⟩) := rfl

theorem do_D12 (width a b c n w0 w1 w2 : Int) (gh : List GObj) : D_word_do_0 pg 12 width a b c n w0 w1 w2 gh = some (.ret, ⟨[(14, I (doOf 12 a b c n w0 w1))], [], gh⟩) := by
  have e1 : D_word_do_0 pg 12 width a b c n w0 w1 w2 gh = br 116 (b == 0) (some (.ret, ⟨[(14, I (-1))], [], gh⟩)) (gd (decide (b ≠ 0)) (some (.ret, ⟨[(14, I (IntKind.i64.wrap (Int.tdiv a b)))], [], gh⟩))) := rfl
  have e2 : doOf 12 a b c n w0 w1 = if b = 0 then -1 else IntKind.i64.wrap (Int.tdiv a b) := rfl
  rw [e1, e2]
  by_cases h : b = 0 <;> simp [h]

theorem do_D13 (width a b c n w0 w1 w2 : Int) (gh : List GObj) : D_word_do_0 pg 13 width a b c n w0 w1 w2 gh = some (.ret, ⟨[(14, I (doOf 13 a b c n w0 w1))], [], gh⟩) := by
  have e1 : D_word_do_0 pg 13 width a b c n w0 w1 w2 gh = br 123 (b == 0) (some (.ret, ⟨[(14, I (a))], [], gh⟩)) (gd (decide (b ≠ 0)) (some (.ret, ⟨[(14, I (Int.tmod a b))], [], gh⟩))) := rfl
  have e2 : doOf 13 a b c n w0 w1 = if b = 0 then a else Int.tmod a b := rfl
  rw [e1, e2]
  by_cases h : b = 0 <;> simp [h]

theorem do_D14 (width a b c n w0 w1 w2 : Int) (gh : List GObj) (hb : 0 ≤ b) : D_word_do_0 pg 14 width a b c n w0 w1 w2 gh = some (.ret, ⟨[(14, I (doOf 14 a b c n w0 w1))], [], gh⟩) := by
  have e1 : D_word_do_0 pg 14 width a b c n w0 w1 w2 gh = gd (decide ((0 : Int) ≤ b)) (some (.ret, ⟨[(14, I (iShl .i64 a b))], [], gh⟩)) := rfl
  have e2 : doOf 14 a b c n w0 w1 = iShl .i64 a b := rfl
  rw [e1, e2]
  simp [hb]

theorem do_D15 (width a b c n w0 w1 w2 : Int) (gh : List GObj) (hb : 0 ≤ b) : D_word_do_0 pg 15 width a b c n w0 w1 w2 gh = some (.ret, ⟨[(14, I (doOf 15 a b c n w0 w1))], [], gh⟩) := by
  have e1 : D_word_do_0 pg 15 width a b c n w0 w1 w2 gh = gd (decide ((0 : Int) ≤ b)) (some (.ret, ⟨[(14, I (iShr .i64 a b))], [], gh⟩)) := rfl
  have e2 : doOf 15 a b c n w0 w1 = iShr .i64 a b := rfl
  rw [e1, e2]
  simp [hb]

theorem do_D16 (width a b c n w0 w1 w2 : Int) (gh : List GObj) : D_word_do_0 pg 16 width a b c n w0 w1 w2 gh = some (.ret, ⟨[(14, I (doOf 16 a b c n w0 w1))], [], gh⟩) := by
  have e1 : D_word_do_0 pg 16 width a b c n w0 w1 w2 gh = callR gh true (callL pg 114 [B (a == b)] gh) fun r1 gh2 => unI .i64 r1 fun n3 => some (.ret, ⟨[(14, I n3)], [], gh2⟩) := rfl
  have e2 : doOf 16 a b c n w0 w1 = if a = b then 1 else 0 := rfl
  rw [e1, e2]
  simp [yes_eq]

theorem do_D17 (width a b c n w0 w1 w2 : Int) (gh : List GObj) : D_word_do_0 pg 17 width a b c n w0 w1 w2 gh = some (.ret, ⟨[(14, I (doOf 17 a b c n w0 w1))], [], gh⟩) := by
  have e1 : D_word_do_0 pg 17 width a b c n w0 w1 w2 gh = callR gh true (callL pg 114 [B (decide (a < b))] gh) fun r1 gh2 => unI .i64 r1 fun n3 => some (.ret, ⟨[(14, I n3)], [], gh2⟩) := rfl
  have e2 : doOf 17 a b c n w0 w1 = if a < b then 1 else 0 := rfl
  rw [e1, e2]
  simp [yes_eq]

theorem do_D18 (width a b c n w0 w1 w2 : Int) (gh : List GObj) (h0 : 1 ≤ w0 ∧ w0 ≤ 8) (h1 : 1 ≤ w1 ∧ w1 ≤ 8) : D_word_do_0 pg 18 width a b c n w0 w1 w2 gh = some (.ret, ⟨[(14, I (doOf 18 a b c n w0 w1))], [], gh⟩) := by
  have e1 : D_word_do_0 pg 18 width a b c n w0 w1 w2 gh = callR gh true (callL pg 115 [I a, I w0] gh) fun r7 gh8 => unI .i64 r7 fun n9 => callR gh8 true (callL pg 115 [I b, I w1] gh8) fun r10 gh11 => unI .i64 r10 fun n12 => callR gh11 true (callL pg 114 [B (decide (n9 < n12))] gh11) fun r13 gh14 => unI .i64 r13 fun n15 => some (.ret, ⟨[(14, I n15)], [], gh14⟩) := rfl
  have e2 : doOf 18 a b c n w0 w1 = if sgnOf a w0 < sgnOf b w1 then 1 else 0 := rfl
  rw [e1, e2]
  simp [yes_eq, signed_eq a w0 h0, signed_eq b w1 h1]

theorem do_D19 (width a b c n w0 w1 w2 : Int) (gh : List GObj) : D_word_do_0 pg 19 width a b c n w0 w1 w2 gh = some (.ret, ⟨[(14, I (doOf 19 a b c n w0 w1))], [], gh⟩) := by
  have e1 : D_word_do_0 pg 19 width a b c n w0 w1 w2 gh = br 110 (a == 1) (some (.ret, ⟨[(14, I (b))], [], gh⟩)) (some (.ret, ⟨[(14, I (c))], [], gh⟩)) := rfl
  have e2 : doOf 19 a b c n w0 w1 = if a = 1 then b else c := rfl
  rw [e1, e2]
  by_cases h : a = 1 <;> simp [h]

theorem do_D20 (width a b c n w0 w1 w2 : Int) (gh : List GObj) (h1 : 0 ≤ w1) : D_word_do_0 pg 20 width a b c n w0 w1 w2 gh = some (.ret, ⟨[(14, I (doOf 20 a b c n w0 w1))], [], gh⟩) := by
  have e1 : D_word_do_0 pg 20 width a b c n w0 w1 w2 gh = gd (decide ((0 : Int) ≤ w1)) (some (.ret, ⟨[(14, I (iOr .i64 (iShl .i64 a w1) b))], [], gh⟩)) := rfl
  have e2 : doOf 20 a b c n w0 w1 = iOr .i64 (iShl .i64 a w1) b := rfl
  rw [e1, e2]
  simp [h1]

theorem do_D21 (width a b c n w0 w1 w2 : Int) (gh : List GObj) (hn : 0 ≤ n) : D_word_do_0 pg 21 width a b c n w0 w1 w2 gh = some (.ret, ⟨[(14, I (doOf 21 a b c n w0 w1))], [], gh⟩) := by
  have e1 : D_word_do_0 pg 21 width a b c n w0 w1 w2 gh = gd (decide ((0 : Int) ≤ n)) (some (.ret, ⟨[(14, I (iShr .i64 a n))], [], gh⟩)) := rfl
  have e2 : doOf 21 a b c n w0 w1 = iShr .i64 a n := rfl
  rw [e1, e2]
  simp [hn]

theorem do_D22 (width a b c n w0 w1 w2 : Int) (gh : List GObj) : D_word_do_0 pg 22 width a b c n w0 w1 w2 gh = some (.ret, ⟨[(14, I (doOf 22 a b c n w0 w1))], [], gh⟩) := rfl

theorem do_D23 (width a b c n w0 w1 w2 : Int) (gh : List GObj) (h0 : 1 ≤ w0 ∧ w0 ≤ 8) : D_word_do_0 pg 23 width a b c n w0 w1 w2 gh = some (.ret, ⟨[(14, I (doOf 23 a b c n w0 w1))], [], gh⟩) := by
  have e1 : D_word_do_0 pg 23 width a b c n w0 w1 w2 gh = callR gh true (callL pg 115 [I a, I w0] gh) fun r1 gh2 => unI .i64 r1 fun n3 => some (.ret, ⟨[(14, I n3)], [], gh2⟩) := rfl
  have e2 : doOf 23 a b c n w0 w1 = sgnOf a w0 := rfl
  rw [e1, e2]
  simp [signed_eq a w0 h0]

theorem do_eq (k width a b c n w0 w1 w2 : Int) (hk : 4 ≤ k ∧ k < 24) (hb : 0 ≤ b) (hn : k = 21 → 0 ≤ n) (h0 : 1 ≤ w0 ∧ w0 ≤ 8) (h1 : k = 18 ∨ k = 20 → 1 ≤ w1 ∧ w1 ≤ 8) (gh : List GObj) :
    callL pg 96 [I k, I width, I a, I b, I c, I n, .agg [I w0, I w1, I w2]] gh = some (I (doOf k a b c n w0 w1), gh) := by
  have hd : D_word_do_0 pg k width a b c n w0 w1 w2 gh = some (.ret, ⟨[(14, I (doOf k a b c n w0 w1))], [], gh⟩) := by
    have : k = 4 ∨ k = 5 ∨ k = 6 ∨ k = 7 ∨ k = 8 ∨ k = 9 ∨ k = 10 ∨ k = 11 ∨ k = 12 ∨ k = 13 ∨ k = 14 ∨ k = 15 ∨ k = 16 ∨ k = 17 ∨ k = 18 ∨ k = 19 ∨ k = 20 ∨ k = 21 ∨ k = 22 ∨ k = 23 := by omega
    rcases this with rfl | rfl | rfl | rfl | rfl | rfl | rfl | rfl | rfl | rfl | rfl | rfl | rfl | rfl | rfl | rfl | rfl | rfl | rfl | rfl
    · exact do_D4 width a b c n w0 w1 w2 gh
    · exact do_D5 width a b c n w0 w1 w2 gh
    · exact do_D6 width a b c n w0 w1 w2 gh
    · exact do_D7 width a b c n w0 w1 w2 gh
    · exact do_D8 width a b c n w0 w1 w2 gh
    · exact do_D9 width a b c n w0 w1 w2 gh
    · exact do_D10 width a b c n w0 w1 w2 gh
    · exact do_D11 width a b c n w0 w1 w2 gh
    · exact do_D12 width a b c n w0 w1 w2 gh
    · exact do_D13 width a b c n w0 w1 w2 gh
    · exact do_D14 width a b c n w0 w1 w2 gh hb
    · exact do_D15 width a b c n w0 w1 w2 gh hb
    · exact do_D16 width a b c n w0 w1 w2 gh
    · exact do_D17 width a b c n w0 w1 w2 gh
    · exact do_D18 width a b c n w0 w1 w2 gh h0 (h1 (.inl rfl))
    · exact do_D19 width a b c n w0 w1 w2 gh
    · exact do_D20 width a b c n w0 w1 w2 gh (by have := h1 (.inr rfl); omega)
    · exact do_D21 width a b c n w0 w1 w2 gh (hn rfl)
    · exact do_D22 width a b c n w0 w1 w2 gh
    · exact do_D23 width a b c n w0 w1 w2 gh h0
  refine callL_fn (fn := f_word_do) rfl rfl (D_word_do_0_ok hd) ?r1
  simp [finish, results, f_word_do, resOfs, resOf, resOk]

def rawOf (k width a b c n w0 w1 : Int) : Int := iAnd .i64 (doOf k a b c n w0 w1) (IntKind.i64.wrap (iShl .i64 1 width - 1))

theorem Raw_eq (k width a b c n w0 w1 w2 : Int) (hk : 4 ≤ k ∧ k < 24) (hb : 0 ≤ b) (hn : k = 21 → 0 ≤ n) (h0 : 1 ≤ w0 ∧ w0 ≤ 8) (h1 : k = 18 ∨ k = 20 → 1 ≤ w1 ∧ w1 ≤ 8) (hw : 0 ≤ width) (gh : List GObj) :
    callL pg 66 [I k, I width, I a, I b, I c, I n, .agg [I w0, I w1, I w2]] gh = some (I (rawOf k width a b c n w0 w1), gh) := by
  refine callL_fn (fn := f_word_Raw) (s := ?s1) rfl rfl (D_word_Raw_0_ok ?h1) ?r1
  case h1 => simp [D_word_Raw_0, do_eq k width a b c n w0 w1 w2 hk hb hn h0 h1, hw]; rfl
  case r1 => simp [finish, results, f_word_Raw, resOfs, resOf, resOk, rawOf]

/-- Is the word at place i one of its width? -/
def inOk (k i x w : Int) : Prop := if i < takesOf k then 0 ≤ x ∧ x < iShl .i64 1 w else x = 0
instance (k i x w : Int) : Decidable (inOk k i x w) := inferInstanceAs (Decidable (if i < takesOf k then 0 ≤ x ∧ x < iShl .i64 1 w else x = 0))

theorem Apply_b1 (k width a b c n w0 w1 w2 i x w : Int) (gh : List GObj) (hi : (i = 0 ∧ w = w0 ∧ x = a) ∨ (i = 1 ∧ w = w1 ∧ x = b) ∨ (i = 2 ∧ w = w2 ∧ x = c)) (hw : wOk k i w) :
    D_word_Apply_b1 pg k width a b c n (.sl true 1 [I a, I b, I c]) 3 i w0 w1 w2 gh = if inOk k i x w then some (.normal, ⟨[(0, I k), (1, I width), (2, I a), (3, I b), (4, I c), (5, I n), (13, .ptr false 0 0), (30, .sl true 1 [I a, I b, I c]), (31, I 3), (32, I (i + 1))], [[I w0, I w1, I w2]], gh⟩)
      else some (.ret, ⟨[(14, I 0), (15, I 3)], [], gh⟩) := by
  have hwr : (IntKind.i64.wrap (i + 1)) = i + 1 := wrap_id (by omega) (by omega)
  by_cases hk : i < takesOf k
  · have hk' := Int.not_le.2 hk
    have hw0 : 0 ≤ w := by unfold wOk at hw; rw [if_pos hk] at hw; omega
    by_cases h1 : 0 ≤ x
    · by_cases h2 : x < iShl .i64 1 w
      · rcases hi with ⟨rfl, rfl, rfl⟩ | ⟨rfl, rfl, rfl⟩ | ⟨rfl, rfl, rfl⟩ <;> simp [D_word_Apply_b1, Takes_eq, IsWord_eq _ _ hw0, hk, hk', inOk, h1, h2] <;> exact hwr
      · rcases hi with ⟨rfl, rfl, rfl⟩ | ⟨rfl, rfl, rfl⟩ | ⟨rfl, rfl, rfl⟩ <;> simp [D_word_Apply_b1, Takes_eq, IsWord_eq _ _ hw0, hk, inOk, h1, h2]
    · rcases hi with ⟨rfl, rfl, rfl⟩ | ⟨rfl, rfl, rfl⟩ | ⟨rfl, rfl, rfl⟩ <;> simp [D_word_Apply_b1, Takes_eq, IsWord_eq _ _ hw0, hk, inOk, h1]
  · have hk' := Int.not_lt.1 hk
    by_cases h2 : x = 0
    · rcases hi with ⟨rfl, rfl, h3⟩ | ⟨rfl, rfl, h3⟩ | ⟨rfl, rfl, h3⟩ <;> simp [D_word_Apply_b1, Takes_eq, hk, hk', inOk, h2, ← h3] <;> exact hwr
    · rcases hi with ⟨rfl, rfl, rfl⟩ | ⟨rfl, rfl, rfl⟩ | ⟨rfl, rfl, rfl⟩ <;> simp [D_word_Apply_b1, Takes_eq, hk, hk', inOk, h2]

theorem Apply_loop (k width a b c n w0 w1 w2 : Int) (gh : List GObj) (g0 : wOk k 0 w0) (g1 : wOk k 1 w1) (g2 : wOk k 2 w2) :
    runL pg f_word_Apply_l1 ⟨[(0, I k), (1, I width), (2, I a), (3, I b), (4, I c), (5, I n), (13, .ptr false 0 0), (30, .sl true 1 [I a, I b, I c]), (31, I 3), (32, I 0)], [[I w0, I w1, I w2]], gh⟩ =
      if inOk k 0 a w0 ∧ inOk k 1 b w1 ∧ inOk k 2 c w2 then some (.normal, ⟨[(0, I k), (1, I width), (2, I a), (3, I b), (4, I c), (5, I n), (13, .ptr false 0 0)], [[I w0, I w1, I w2]], gh⟩) else some (.ret, ⟨[(14, I 0), (15, I 3)], [], gh⟩) := by
  have b0 := Apply_b1 k width a b c n w0 w1 w2 0 a w0 gh (by simp) g0
  have b1 := Apply_b1 k width a b c n w0 w1 w2 1 b w1 gh (by simp) g1
  have b2 := Apply_b1 k width a b c n w0 w1 w2 2 c w2 gh (by simp) g2
  by_cases h0 : inOk k 0 a w0
  · rw [if_pos h0] at b0
    refine lp_next (D_word_Apply_b1_ok b0) ?_
    by_cases h1 : inOk k 1 b w1
    · rw [if_pos h1] at b1
      refine lp_next (D_word_Apply_b1_ok b1) ?_
      by_cases h2 : inOk k 2 c w2
      · rw [if_pos h2] at b2
        refine lp_next (D_word_Apply_b1_ok b2) ?_
        rw [if_pos ⟨h0, h1, h2⟩]
        refine (lp_exit (s1 := ?s1) (D_word_Apply_b1_ok ?h1)).trans ?r1
        case h1 => simp [D_word_Apply_b1]; rfl
        case r1 => simp [keep]
      · rw [if_neg h2] at b2
        rw [if_neg (fun h => h2 h.2.2)]
        exact lp_ret (D_word_Apply_b1_ok b2)
    · rw [if_neg h1] at b1
      rw [if_neg (fun h => h1 h.2.1)]
      exact lp_ret (D_word_Apply_b1_ok b1)
  · rw [if_neg h0] at b0
    rw [if_neg (fun h => h0 h.1)]
    exact lp_ret (D_word_Apply_b1_ok b0)

theorem fitE_zero {k width n w0 w1 w2 : Int} (h : fitE k width n w0 w1 w2 = 0) : (4 ≤ k ∧ k < 24) ∧ (1 ≤ width ∧ width ≤ 8) ∧ wOk k 0 w0 ∧ wOk k 1 w1 ∧ wOk k 2 w2 ∧ ∃ s, shapeOf k = some s ∧ fitsOf s width n w0 w1 w2 = true := by
  unfold fitE at h
  cases hs : shapeOf k with
  | none => rw [hs] at h; cases h
  | some s =>
    rw [hs] at h
    simp only at h
    by_cases h1 : 1 ≤ width ∧ width ≤ 8
    · by_cases h2 : wOk k 0 w0 ∧ wOk k 1 w1 ∧ wOk k 2 w2
      · simp only [h1, h2, and_self, not_true, if_false] at h
        refine ⟨?_, h1, h2.1, h2.2.1, h2.2.2, s, rfl, ?_⟩
        · simp only [shapeOf] at hs
          repeat' split at hs
          all_goals first | (exfalso; cases hs; done) | omega
        · cases hf : fitsOf s width n w0 w1 w2 with
          | true => rfl
          | false => rw [hf] at h; cases h
      · simp only [h1, and_self, not_true, if_false, h2, not_false_iff, if_true] at h; cases h
    · simp only [h1, not_false_iff, if_true] at h; cases h

theorem takes_pos {k : Int} (h : 4 ≤ k ∧ k < 24) : 0 < takesOf k := by
  simp only [takesOf]
  repeat' split
  all_goals omega

/-- What Apply answers: the word, and the error. -/
def applyOf (k width a b c n w0 w1 w2 : Int) : Int × Int :=
  if fitE k width n w0 w1 w2 ≠ 0 then (0, fitE k width n w0 w1 w2)
  else if inOk k 0 a w0 ∧ inOk k 1 b w1 ∧ inOk k 2 c w2 then (rawOf k width a b c n w0 w1, 0) else (0, 3)

theorem Apply_eq (k width a b c n w0 w1 w2 : Int) (gh : List GObj) :
    callL pg 25 [I k, I width, I a, I b, I c, I n, .agg [I w0, I w1, I w2]] gh = some (.tup [I (applyOf k width a b c n w0 w1 w2).1, I (applyOf k width a b c n w0 w1 w2).2], gh) := by
  by_cases he : fitE k width n w0 w1 w2 = 0
  · obtain ⟨hk, hw, g0, g1, g2, s, hs, hf⟩ := fitE_zero he
    have hl := Apply_loop k width a b c n w0 w1 w2 gh g0 g1 g2
    by_cases ho : inOk k 0 a w0 ∧ inOk k 1 b w1 ∧ inOk k 2 c w2
    · rw [if_pos ho] at hl
      have ht := takes_pos hk
      have hw0 : 1 ≤ w0 ∧ w0 ≤ 8 := by unfold wOk at g0; rwa [if_pos ht] at g0
      have hb : 0 ≤ b := by
        have := ho.2.1
        unfold inOk at this
        split at this <;> omega
      have h18 : k = 18 ∨ k = 20 → 1 ≤ w1 ∧ w1 ≤ 8 := by
        intro h
        have : (1 : Int) < takesOf k := by rcases h with rfl | rfl <;> decide
        unfold wOk at g1; rwa [if_pos this] at g1
      have hn : k = 21 → 0 ≤ n := by
        rintro rfl
        cases hs
        unfold fitsOf at hf
        simp at hf
        exact hf.1
      have hk1 := D_word_Apply_k1_ok (pg := pg) (gh := gh) (x0 := k) (x1 := width) (x2 := a) (x3 := b) (x4 := c) (x5 := n) (xc0_0 := w0) (xc0_1 := w1) (xc0_2 := w2) (e := .ret) (s := ⟨[(14, I (rawOf k width a b c n w0 w1)), (15, I 0)], [], gh⟩)
        (by simp [D_word_Apply_k1, Raw_eq k width a b c n w0 w1 w2 hk hb hn hw0 h18 (by omega)])
      refine callL_fn (fn := f_word_Apply) (s := ?s1) rfl rfl (D_word_Apply_0_ok ?h1) ?r1
      case h1 => simp [D_word_Apply_0, Fit_eq, he, hl, hk1]; rfl
      case r1 => simp [finish, results, f_word_Apply, resOfs, resOf, resOk, applyOf, he, ho]
    · rw [if_neg ho] at hl
      refine callL_fn (fn := f_word_Apply) (s := ?s2) rfl rfl (D_word_Apply_0_ok ?h2) ?r2
      case h2 => simp [D_word_Apply_0, Fit_eq, he, hl]; rfl
      case r2 => simp [finish, results, f_word_Apply, resOfs, resOf, resOk, applyOf, he, ho]
  · refine callL_fn (fn := f_word_Apply) (s := ?s3) rfl rfl (D_word_Apply_0_ok ?h3) ?r3
    case h3 => simp [D_word_Apply_0, Fit_eq, he]; rfl
    case r3 => simp [finish, results, f_word_Apply, resOfs, resOf, resOk, applyOf, he]

end Go.Lw
end

/-! What the code of function law_wordBegun comes to, piece by piece. Written by program (dprint.py). -/
section
set_option maxRecDepth 10000
set_option maxHeartbeats 4000000
namespace Go.Lw
open Go

def an_law_wordBegun : Tr := (.node 9 (.ce (.bool)) (.node 4 (.agg [.int .i64, .int .i64, .int .i64]) (.node 2 (.ce (.int .i64)) (.node 1 (.ce (.int .i64)) (.node 0 (.ce (.bool)) .nil .nil) .nil) (.node 3 (.tup 2) .nil .nil)) (.node 7 (.ce (.int .i64)) (.node 6 (.ce (.int .i64)) (.node 5 (.tup 2) .nil .nil) .nil) (.node 8 (.ce (.int .i64)) .nil .nil))) (.node 14 (.ce (.bool)) (.node 12 (.ce (.bool)) (.node 11 (.ce (.int .i64)) (.node 10 (.ce (.bool)) .nil .nil) .nil) (.node 13 (.ce (.bool)) .nil .nil)) (.node 17 (.ce (.bool)) (.node 16 (.ce (.int .i64)) (.node 15 (.agg [.int .i64, .int .i64, .int .i64]) .nil .nil) .nil) (.node 18 (.ce (.bool)) .nil .nil))))

noncomputable def D_law_wordBegun_0 (pg : Prg)  (gh : List GObj) : Option (IExit × St) := 
  callR gh true (callL pg 25 [(.int .i64 9), (.int .i64 4), (.int .i64 9), (.int .i64 9), (.int .i64 0), (.int .i64 0), (.agg [(.int .i64 4), (.int .i64 4), (.int .i64 0)])] gh) fun r1 gh2 => unT 2 r1 fun r3 r4 => unI .i64 (degr1 (degr1 r3)) fun n5 => unI .i64 (degr1 (degr1 r4)) fun n6 => 
  br 10 (n6 == 0) (
  br 14 (n5 == 2) (
  callR gh2 true (callL pg 22 [(.int .i64 9), (.int .i64 4), (.int .i64 0), (.agg [(.int .i64 4), (.int .i64 4), (.int .i64 0)])] gh2) fun r7 gh8 => unI .i64 r7 fun n9 => some (.ret, ⟨[(0, (.bool (n9 == 0)))], [], gh8⟩)) (some (.ret, ⟨[(0, (.bool false))], [], gh2⟩))) (some (.ret, ⟨[(0, (.bool false))], [], gh2⟩))

theorem D_law_wordBegun_0_ok {pg : Prg} {gh : List GObj}  {e : IExit} {s : St} (h : D_law_wordBegun_0 pg  gh = some (e, s)) : runL pg f_law_wordBegun_0 ⟨[], [], gh⟩ = some (e, s) :=
  runX_ok an_law_wordBegun (Eq.trans (by kernel_rfl) h)

end Go.Lw
end

/-! What must be of words in any case. -/
section
namespace Go.Lw
open Go

theorem wordBegun_true (gh : List GObj) : callL pg 21 [] gh = some (B true, gh) := by
  have e1 : applyOf 9 4 9 9 0 0 4 4 0 = (2, 0) := by decide +kernel
  have e2 : fitE 9 4 0 4 4 0 = 0 := by decide +kernel
  refine callL_fn (fn := f_law_wordBegun) (s := ?s1) rfl rfl (D_law_wordBegun_0_ok ?h1) ?r1
  case h1 => simp [D_law_wordBegun_0, Apply_eq, Fit_eq, e1, e2]; rfl
  case r1 => simp [finish, results, f_law_wordBegun, resOfs, resOf, resOk]

end Go.Lw
end

/-! What the code of function ref_FitOf comes to, piece by piece. Written by program (dprint.py). -/
section
set_option maxRecDepth 10000
set_option maxHeartbeats 4000000
namespace Go.Lw
open Go

def an_ref_FitOf : Tr := (.node 70 (.ce (.bool)) (.node 35 (.ce (.int .i64)) (.node 19 (.ce (.int .i64)) (.node 11 (.ce (.bool)) (.node 3 (.agg [.int .i64, .int .i64, .int .i64]) (.node 1 (.ce (.int .i64)) (.node 0 (.ce (.int .i64)) .nil .nil) (.node 2 (.ce (.int .i64)) .nil .nil)) (.node 9 (.ce (.int .i64)) (.node 8 (.ce (.int .i64)) .nil .nil) (.node 10 (.ce (.int .i64)) .nil .nil))) (.node 15 (.ce (.bool)) (.node 13 (.ce (.int .i64)) (.node 12 (.ce (.int .i64)) .nil .nil) (.node 14 (.ce (.int .i64)) .nil .nil)) (.node 17 (.ce (.bool)) (.node 16 (.ce (.int .i64)) .nil .nil) (.node 18 (.ce (.bool)) .nil .nil)))) (.node 27 (.ce (.int .i64)) (.node 23 (.ce (.int .i64)) (.node 21 (.ce (.int .i64)) (.node 20 (.ce (.bool)) .nil .nil) (.node 22 (.ce (.int .i64)) .nil .nil)) (.node 25 (.ce (.bool)) (.node 24 (.ce (.int .i64)) .nil .nil) (.node 26 (.ce (.bool)) .nil .nil))) (.node 32 (.ce (.bool)) (.node 30 (.ce (.bool)) (.node 29 (.ce (.int .i64)) .nil .nil) (.node 31 (.ce (.bool)) .nil .nil)) (.node 34 (.ce (.int .i64)) (.node 33 (.ce (.bool)) .nil .nil) .nil)))) (.node 52 (.ce (.int .i64)) (.node 44 (.ce (.int .i64)) (.node 40 (.ce (.int .i64)) (.node 37 (.ce (.bool)) (.node 36 (.ce (.bool)) .nil .nil) (.node 38 (.ce (.int .i64)) .nil .nil)) (.node 42 (.ce (.bool)) (.node 41 (.ce (.bool)) .nil .nil) (.node 43 (.ce (.bool)) .nil .nil))) (.node 49 (.ce (.int .i64)) (.node 47 (.ce (.bool)) (.node 46 (.ce (.int .i64)) .nil .nil) (.node 48 (.ce (.bool)) .nil .nil)) (.node 51 (.ce (.bool)) (.node 50 (.ce (.bool)) .nil .nil) .nil))) (.node 61 (.ce (.bool)) (.node 57 (.ce (.int .i64)) (.node 54 (.ce (.bool)) (.node 53 (.ce (.bool)) .nil .nil) (.node 56 (.ce (.int .i64)) .nil .nil)) (.node 59 (.ce (.bool)) (.node 58 (.ce (.bool)) .nil .nil) (.node 60 (.ce (.int .i64)) .nil .nil))) (.node 66 (.ce (.bool)) (.node 64 (.ce (.int .i64)) (.node 63 (.ce (.int .i64)) .nil .nil) (.node 65 (.ce (.bool)) .nil .nil)) (.node 69 (.ce (.int .i64)) (.node 68 (.ce (.int .i64)) .nil .nil) .nil))))) (.node 108 (.ce (.int .i64)) (.node 89 (.ce (.bool)) (.node 80 (.ce (.bool)) (.node 74 (.ce (.bool)) (.node 72 (.ce (.bool)) (.node 71 (.ce (.bool)) .nil .nil) (.node 73 (.ce (.int .i64)) .nil .nil)) (.node 78 (.ce (.int .i64)) (.node 76 (.ce (.int .i64)) .nil .nil) (.node 79 (.ce (.bool)) .nil .nil))) (.node 84 (.ce (.bool)) (.node 82 (.ce (.bool)) (.node 81 (.ce (.int .i64)) .nil .nil) (.node 83 (.ce (.bool)) .nil .nil)) (.node 86 (.ce (.bool)) (.node 85 (.ce (.int .i64)) .nil .nil) (.node 88 (.ce (.int .i64)) .nil .nil)))) (.node 99 (.ce (.int .i64)) (.node 94 (.ce (.bool)) (.node 92 (.ce (.int .i64)) (.node 90 (.ce (.bool)) .nil .nil) (.node 93 (.ce (.int .i64)) .nil .nil)) (.node 96 (.ce (.bool)) (.node 95 (.ce (.bool)) .nil .nil) (.node 98 (.ce (.int .i64)) .nil .nil))) (.node 103 (.ce (.int .i64)) (.node 101 (.ce (.bool)) (.node 100 (.ce (.bool)) .nil .nil) (.node 102 (.ce (.bool)) .nil .nil)) (.node 106 (.ce (.int .i64)) (.node 104 (.ce (.bool)) .nil .nil) .nil)))) (.node 123 (.ce (.int .i64)) (.node 116 (.ce (.bool)) (.node 112 (.ce (.bool)) (.node 110 (.ce (.int .i64)) (.node 109 (.ce (.int .i64)) .nil .nil) (.node 111 (.ce (.bool)) .nil .nil)) (.node 114 (.ce (.bool)) (.node 113 (.ce (.int .i64)) .nil .nil) (.node 115 (.ce (.int .i64)) .nil .nil))) (.node 120 (.ce (.bool)) (.node 118 (.ce (.int .i64)) (.node 117 (.ce (.bool)) .nil .nil) (.node 119 (.ce (.bool)) .nil .nil)) (.node 122 (.ce (.int .i64)) (.node 121 (.ce (.bool)) .nil .nil) .nil))) (.node 132 (.ce (.int .i64)) (.node 128 (.ce (.bool)) (.node 126 (.ce (.int .i64)) (.node 124 (.ce (.int .i64)) .nil .nil) (.node 127 (.ce (.bool)) .nil .nil)) (.node 130 (.ce (.bool)) (.node 129 (.ce (.bool)) .nil .nil) (.node 131 (.ce (.bool)) .nil .nil))) (.node 136 (.ce (.bool)) (.node 134 (.ce (.bool)) (.node 133 (.ce (.bool)) .nil .nil) (.node 135 (.ce (.int .i64)) .nil .nil)) (.node 138 (.ce (.bool)) (.node 137 (.ce (.bool)) .nil .nil) .nil))))))

noncomputable def D_ref_FitOf_b1 (pg : Prg) (x0 : Int) (x1 : Int) (x2 : Int) (x9 : Int) (x10 : Int) (xc0_0 : Int) (xc0_1 : Int) (xc0_2 : Int) (gh : List GObj) : Option (IExit × St) := 
  br 20 (decide (x10 < 3)) (
  br 26 (decide (x10 < x9)) (gd (decide (0 ≤ x10 ∧ x10 < ((3 : Nat) : Int))) (
  ob (grab false 1 (0 + Int.toNat x10 * 1) [(.int .i64 xc0_0), (.int .i64 xc0_1), (.int .i64 xc0_2)]) fun v1 => unI .i64 (degr v1) fun n2 => 
  callR gh true (callL pg 50 [(.int .i64 n2), (.int .i64 1), (.int .i64 8)] gh) fun r3 gh4 => unB r3 fun b5 => 
  br 33 (!b5) (some (.ret, ⟨[(8, (.int .i64 3))], [], gh4⟩)) (
  br 37 (decide (x9 ≤ x10)) (gd (decide (0 ≤ x10 ∧ x10 < ((3 : Nat) : Int))) (
  ob (grab false 1 (0 + Int.toNat x10 * 1) [(.int .i64 xc0_0), (.int .i64 xc0_1), (.int .i64 xc0_2)]) fun v6 => unI .i64 (degr v6) fun n7 => 
  br 43 (n7 != 0) (some (.ret, ⟨[(8, (.int .i64 3))], [], gh4⟩)) (some (.normal, ⟨[(0, (.int .i64 x0)), (1, (.int .i64 x1)), (2, (.int .i64 x2)), (7, (.ptr false 0 0)), (9, (.int .i64 x9)), (10, (.int .i64 (IntKind.i64.wrap (x10 + 1))))], [[(.int .i64 xc0_0), (.int .i64 xc0_1), (.int .i64 xc0_2)]], gh4⟩)))) (some (.normal, ⟨[(0, (.int .i64 x0)), (1, (.int .i64 x1)), (2, (.int .i64 x2)), (7, (.ptr false 0 0)), (9, (.int .i64 x9)), (10, (.int .i64 (IntKind.i64.wrap (x10 + 1))))], [[(.int .i64 xc0_0), (.int .i64 xc0_1), (.int .i64 xc0_2)]], gh4⟩))))) (
  br 37 (decide (x9 ≤ x10)) (gd (decide (0 ≤ x10 ∧ x10 < ((3 : Nat) : Int))) (
  ob (grab false 1 (0 + Int.toNat x10 * 1) [(.int .i64 xc0_0), (.int .i64 xc0_1), (.int .i64 xc0_2)]) fun v8 => unI .i64 (degr v8) fun n9 => 
  br 43 (n9 != 0) (some (.ret, ⟨[(8, (.int .i64 3))], [], gh⟩)) (some (.normal, ⟨[(0, (.int .i64 x0)), (1, (.int .i64 x1)), (2, (.int .i64 x2)), (7, (.ptr false 0 0)), (9, (.int .i64 x9)), (10, (.int .i64 (IntKind.i64.wrap (x10 + 1))))], [[(.int .i64 xc0_0), (.int .i64 xc0_1), (.int .i64 xc0_2)]], gh⟩)))) (some (.normal, ⟨[(0, (.int .i64 x0)), (1, (.int .i64 x1)), (2, (.int .i64 x2)), (7, (.ptr false 0 0)), (9, (.int .i64 x9)), (10, (.int .i64 (IntKind.i64.wrap (x10 + 1))))], [[(.int .i64 xc0_0), (.int .i64 xc0_1), (.int .i64 xc0_2)]], gh⟩)))) (some ((.exit 0), ⟨[(0, (.int .i64 x0)), (1, (.int .i64 x1)), (2, (.int .i64 x2)), (7, (.ptr false 0 0)), (9, (.int .i64 x9)), (10, (.int .i64 x10)), (20, (.bool (decide (x10 < 3))))], [[(.int .i64 xc0_0), (.int .i64 xc0_1), (.int .i64 xc0_2)]], gh⟩))

theorem D_ref_FitOf_b1_ok {pg : Prg} {gh : List GObj} {x0 : Int} {x1 : Int} {x2 : Int} {x9 : Int} {x10 : Int} {xc0_0 : Int} {xc0_1 : Int} {xc0_2 : Int} {e : IExit} {s : St} (h : D_ref_FitOf_b1 pg x0 x1 x2 x9 x10 xc0_0 xc0_1 xc0_2 gh = some (e, s)) : runL pg f_ref_FitOf_b1 ⟨[(0, (.int .i64 x0)), (1, (.int .i64 x1)), (2, (.int .i64 x2)), (7, (.ptr false 0 0)), (9, (.int .i64 x9)), (10, (.int .i64 x10))], [[(.int .i64 xc0_0), (.int .i64 xc0_1), (.int .i64 xc0_2)]], gh⟩ = some (e, s) :=
  runX_ok an_ref_FitOf (Eq.trans (by kernel_rfl) h)

noncomputable def D_ref_FitOf_k2 (pg : Prg) (x0 : Int) (x2 : Int) (b11 : Bool) (gh : List GObj) : Option (IExit × St) := 
  br 131 (!b11) (some (.ret, ⟨[(8, (.int .i64 1))], [], gh⟩)) (
  br 134 (x0 != 21) (
  br 138 (x2 != 0) (some (.ret, ⟨[(8, (.int .i64 1))], [], gh⟩)) (some (.ret, ⟨[(8, (.int .i64 0))], [], gh⟩))) (some (.ret, ⟨[(8, (.int .i64 0))], [], gh⟩)))

theorem D_ref_FitOf_k2_ok {pg : Prg} {gh : List GObj} {x0 : Int} {x2 : Int} {b11 : Bool} {e : IExit} {s : St} (h : D_ref_FitOf_k2 pg x0 x2 b11 gh = some (e, s)) : runL pg f_ref_FitOf_k2 ⟨[(0, (.int .i64 x0)), (2, (.int .i64 x2)), (11, (.bool b11))], [], gh⟩ = some (e, s) :=
  runX_ok an_ref_FitOf (Eq.trans (by kernel_rfl) h)

noncomputable def D_ref_FitOf_k1 (pg : Prg) (x0 : Int) (x1 : Int) (x2 : Int) (xc0_0 : Int) (xc0_1 : Int) (xc0_2 : Int) (gh : List GObj) : Option (IExit × St) := 
  br 51 (x0 == 4) (
  kR (runL pg f_ref_FitOf_k2 ⟨[(0, (.int .i64 x0)), (2, (.int .i64 x2)), (11, (.bool (xc0_0 == x1)))], [], gh⟩) (fun e s => some (e, s))) (
  br 48 (x0 == 5) (
  kR (runL pg f_ref_FitOf_k2 ⟨[(0, (.int .i64 x0)), (2, (.int .i64 x2)), (11, (.bool (xc0_0 == x1)))], [], gh⟩) (fun e s => some (e, s))) (
  callR gh true (callL pg 50 [(.int .i64 x0), (.int .i64 6), (.int .i64 15)] gh) fun r1 gh2 => unB r1 fun b3 => 
  br 59 b3 (
  br 66 (xc0_0 == x1) (
  kR (runL pg f_ref_FitOf_k2 ⟨[(0, (.int .i64 x0)), (2, (.int .i64 x2)), (11, (.bool (xc0_1 == x1)))], [], gh2⟩) (fun e s => some (e, s))) (
  kR (runL pg f_ref_FitOf_k2 ⟨[(0, (.int .i64 x0)), (2, (.int .i64 x2)), (11, (.bool false))], [], gh2⟩) (fun e s => some (e, s)))) (
  callR gh2 true (callL pg 50 [(.int .i64 x0), (.int .i64 16), (.int .i64 18)] gh2) fun r4 gh5 => unB r4 fun b6 => 
  br 72 b6 (
  br 80 (xc0_0 == xc0_1) (
  kR (runL pg f_ref_FitOf_k2 ⟨[(0, (.int .i64 x0)), (2, (.int .i64 x2)), (11, (.bool (x1 == 1)))], [], gh5⟩) (fun e s => some (e, s))) (
  kR (runL pg f_ref_FitOf_k2 ⟨[(0, (.int .i64 x0)), (2, (.int .i64 x2)), (11, (.bool false))], [], gh5⟩) (fun e s => some (e, s)))) (
  br 84 (x0 == 19) (
  br 90 (xc0_0 == 1) (
  br 96 (xc0_1 == x1) (
  kR (runL pg f_ref_FitOf_k2 ⟨[(0, (.int .i64 x0)), (2, (.int .i64 x2)), (11, (.bool (xc0_2 == x1)))], [], gh5⟩) (fun e s => some (e, s))) (
  kR (runL pg f_ref_FitOf_k2 ⟨[(0, (.int .i64 x0)), (2, (.int .i64 x2)), (11, (.bool false))], [], gh5⟩) (fun e s => some (e, s)))) (
  kR (runL pg f_ref_FitOf_k2 ⟨[(0, (.int .i64 x0)), (2, (.int .i64 x2)), (11, (.bool false))], [], gh5⟩) (fun e s => some (e, s)))) (
  br 102 (x0 == 20) (
  kR (runL pg f_ref_FitOf_k2 ⟨[(0, (.int .i64 x0)), (2, (.int .i64 x2)), (11, (.bool ((IntKind.i64.wrap (xc0_0 + xc0_1)) == x1)))], [], gh5⟩) (fun e s => some (e, s))) (
  br 112 (x0 == 21) (
  br 117 (decide (0 ≤ x2)) (
  br 121 (decide (x2 ≤ 8)) (
  kR (runL pg f_ref_FitOf_k2 ⟨[(0, (.int .i64 x0)), (2, (.int .i64 x2)), (11, (.bool (decide ((IntKind.i64.wrap (x2 + x1)) ≤ xc0_0))))], [], gh5⟩) (fun e s => some (e, s))) (
  kR (runL pg f_ref_FitOf_k2 ⟨[(0, (.int .i64 x0)), (2, (.int .i64 x2)), (11, (.bool false))], [], gh5⟩) (fun e s => some (e, s)))) (
  kR (runL pg f_ref_FitOf_k2 ⟨[(0, (.int .i64 x0)), (2, (.int .i64 x2)), (11, (.bool false))], [], gh5⟩) (fun e s => some (e, s)))) (
  kR (runL pg f_ref_FitOf_k2 ⟨[(0, (.int .i64 x0)), (2, (.int .i64 x2)), (11, (.bool (decide (xc0_0 ≤ x1))))], [], gh5⟩) (fun e s => some (e, s)))))))))

theorem D_ref_FitOf_k1_ok {pg : Prg} {gh : List GObj} {x0 : Int} {x1 : Int} {x2 : Int} {xc0_0 : Int} {xc0_1 : Int} {xc0_2 : Int} {e : IExit} {s : St} (h : D_ref_FitOf_k1 pg x0 x1 x2 xc0_0 xc0_1 xc0_2 gh = some (e, s)) : runL pg f_ref_FitOf_k1 ⟨[(0, (.int .i64 x0)), (1, (.int .i64 x1)), (2, (.int .i64 x2)), (7, (.ptr false 0 0))], [[(.int .i64 xc0_0), (.int .i64 xc0_1), (.int .i64 xc0_2)]], gh⟩ = some (e, s) :=
  runX_ok an_ref_FitOf (Eq.trans (by kernel_rfl) h)

noncomputable def D_ref_FitOf_0 (pg : Prg) (x0 : Int) (x1 : Int) (x2 : Int) (x3_0 : Int) (x3_1 : Int) (x3_2 : Int) (gh : List GObj) : Option (IExit × St) := 
  callR gh true (callL pg 26 [(.int .i64 x0)] gh) fun r1 gh2 => unI .i64 r1 fun n3 => 
  br 15 (n3 == 0) (some (.ret, ⟨[(8, (.int .i64 7))], [], gh2⟩)) (
  callR gh2 true (callL pg 50 [(.int .i64 x1), (.int .i64 1), (.int .i64 8)] gh2) fun r4 gh5 => unB r4 fun b6 => 
  br 18 (!b6) (some (.ret, ⟨[(8, (.int .i64 3))], [], gh5⟩)) (
  kR (runL pg f_ref_FitOf_l1 ⟨[(0, (.int .i64 x0)), (1, (.int .i64 x1)), (2, (.int .i64 x2)), (7, (.ptr false 0 0)), (9, (.int .i64 n3)), (10, (.int .i64 0))], [[(.int .i64 x3_0), (.int .i64 x3_1), (.int .i64 x3_2)]], gh5⟩) (fun e s => nx e s (fun e s => some (e, s)) fun s => kR (runL pg f_ref_FitOf_k1 s) (fun e s => some (e, s)))))

theorem D_ref_FitOf_0_ok {pg : Prg} {gh : List GObj} {x0 : Int} {x1 : Int} {x2 : Int} {x3_0 : Int} {x3_1 : Int} {x3_2 : Int} {e : IExit} {s : St} (h : D_ref_FitOf_0 pg x0 x1 x2 x3_0 x3_1 x3_2 gh = some (e, s)) : runL pg f_ref_FitOf_0 ⟨[(0, (.int .i64 x0)), (1, (.int .i64 x1)), (2, (.int .i64 x2)), (3, (.agg [(.int .i64 x3_0), (.int .i64 x3_1), (.int .i64 x3_2)]))], [], gh⟩ = some (e, s) :=
  runX_ok an_ref_FitOf (Eq.trans (by kernel_rfl) h)

end Go.Lw
end

/-! What the code of function ref_Takes comes to, piece by piece. Written by program (dprint.py). -/
section
set_option maxRecDepth 10000
set_option maxHeartbeats 4000000
namespace Go.Lw
open Go

def an_ref_Takes : Tr := (.node 7 (.ce (.bool)) (.node 4 (.ce (.bool)) (.node 2 (.ce (.int .i64)) (.node 0 (.ce (.int .i64)) .nil .nil) (.node 3 (.ce (.int .i64)) .nil .nil)) (.node 6 (.ce (.bool)) (.node 5 (.ce (.bool)) .nil .nil) .nil)) (.node 11 (.ce (.bool)) (.node 9 (.ce (.bool)) (.node 8 (.ce (.bool)) .nil .nil) (.node 10 (.ce (.bool)) .nil .nil)) (.node 13 (.ce (.bool)) (.node 12 (.ce (.int .i64)) .nil .nil) .nil)))

noncomputable def D_ref_Takes_k1 (pg : Prg) (x0 : Int) (x3 : Int) (b4 : Bool) (gh : List GObj) : Option (IExit × St) := 
  br 4 b4 (some (.ret, ⟨[(2, (.int .i64 1))], [], gh⟩)) (
  br 10 (x3 == 19) (some (.ret, ⟨[(2, (.int .i64 3))], [], gh⟩)) (some (.normal, ⟨[(0, (.int .i64 x0)), (10, (.bool (x3 == 19)))], [], gh⟩)))

theorem D_ref_Takes_k1_ok {pg : Prg} {gh : List GObj} {x0 : Int} {x3 : Int} {b4 : Bool} {e : IExit} {s : St} (h : D_ref_Takes_k1 pg x0 x3 b4 gh = some (e, s)) : runL pg f_ref_Takes_k1 ⟨[(0, (.int .i64 x0)), (3, (.int .i64 x3)), (4, (.bool b4))], [], gh⟩ = some (e, s) :=
  runX_ok an_ref_Takes (Eq.trans (by kernel_rfl) h)

noncomputable def D_ref_Takes_k2 (pg : Prg) (x0 : Int) (b10 : Bool) (gh : List GObj) : Option (IExit × St) := 
  callR gh true (callL pg 50 [(.int .i64 x0), (.int .i64 6), (.int .i64 20)] gh) fun r1 gh2 => unB r1 fun b3 => 
  br 13 b3 (some (.ret, ⟨[(2, (.int .i64 2))], [], gh2⟩)) (some (.ret, ⟨[(2, (.int .i64 0))], [], gh2⟩))

theorem D_ref_Takes_k2_ok {pg : Prg} {gh : List GObj} {x0 : Int} {b10 : Bool} {e : IExit} {s : St} (h : D_ref_Takes_k2 pg x0 b10 gh = some (e, s)) : runL pg f_ref_Takes_k2 ⟨[(0, (.int .i64 x0)), (10, (.bool b10))], [], gh⟩ = some (e, s) :=
  runX_ok an_ref_Takes (Eq.trans (by kernel_rfl) h)

noncomputable def D_ref_Takes_0 (pg : Prg) (x0 : Int) (gh : List GObj) : Option (IExit × St) := 
  br 4 (x0 == 4) (
  kR (runL pg f_ref_Takes_k1 ⟨[(0, (.int .i64 x0)), (3, (.int .i64 x0)), (4, (.bool (x0 == 4)))], [], gh⟩) (fun e s => bk 0 e s (fun e s => nx e s (fun e s => some (e, s)) fun s => kR (runL pg f_ref_Takes_k2 s) (fun e s => some (e, s))))) (
  br 4 (x0 == 5) (
  kR (runL pg f_ref_Takes_k1 ⟨[(0, (.int .i64 x0)), (3, (.int .i64 x0)), (4, (.bool (x0 == 5)))], [], gh⟩) (fun e s => bk 0 e s (fun e s => nx e s (fun e s => some (e, s)) fun s => kR (runL pg f_ref_Takes_k2 s) (fun e s => some (e, s))))) (
  br 4 (x0 == 21) (
  kR (runL pg f_ref_Takes_k1 ⟨[(0, (.int .i64 x0)), (3, (.int .i64 x0)), (4, (.bool (x0 == 21)))], [], gh⟩) (fun e s => bk 0 e s (fun e s => nx e s (fun e s => some (e, s)) fun s => kR (runL pg f_ref_Takes_k2 s) (fun e s => some (e, s))))) (
  br 4 (x0 == 22) (
  kR (runL pg f_ref_Takes_k1 ⟨[(0, (.int .i64 x0)), (3, (.int .i64 x0)), (4, (.bool (x0 == 22)))], [], gh⟩) (fun e s => bk 0 e s (fun e s => nx e s (fun e s => some (e, s)) fun s => kR (runL pg f_ref_Takes_k2 s) (fun e s => some (e, s))))) (
  kR (runL pg f_ref_Takes_k1 ⟨[(0, (.int .i64 x0)), (3, (.int .i64 x0)), (4, (.bool (x0 == 23)))], [], gh⟩) (fun e s => bk 0 e s (fun e s => nx e s (fun e s => some (e, s)) fun s => kR (runL pg f_ref_Takes_k2 s) (fun e s => some (e, s))))))))

theorem D_ref_Takes_0_ok {pg : Prg} {gh : List GObj} {x0 : Int} {e : IExit} {s : St} (h : D_ref_Takes_0 pg x0 gh = some (e, s)) : runL pg f_ref_Takes_0 ⟨[(0, (.int .i64 x0))], [], gh⟩ = some (e, s) :=
  runX_ok an_ref_Takes (Eq.trans (by kernel_rfl) h)

end Go.Lw
end

/-! What the code of function ref_between comes to, piece by piece. Written by program (dprint.py). -/
section
set_option maxRecDepth 10000
set_option maxHeartbeats 4000000
namespace Go.Lw
open Go

def an_ref_between : Tr := (.node 9 (.ce (.bool)) (.node 6 (.ce (.bool)) (.node 1 (.ce (.int .i64)) (.node 0 (.ce (.int .i64)) .nil .nil) (.node 2 (.ce (.int .i64)) .nil .nil)) (.node 8 (.ce (.int .i64)) (.node 7 (.ce (.int .i64)) .nil .nil) .nil)) (.node 12 (.ce (.int .i64)) (.node 11 (.ce (.int .i64)) (.node 10 (.ce (.bool)) .nil .nil) .nil) (.node 14 (.ce (.bool)) (.node 13 (.ce (.bool)) .nil .nil) .nil)))

noncomputable def D_ref_between_0 (pg : Prg) (x0 : Int) (x1 : Int) (x2 : Int) (gh : List GObj) : Option (IExit × St) := 
  br 10 (decide (x1 ≤ x0)) (some (.ret, ⟨[(6, (.bool (decide (x0 ≤ x2))))], [], gh⟩)) (some (.ret, ⟨[(6, (.bool false))], [], gh⟩))

theorem D_ref_between_0_ok {pg : Prg} {gh : List GObj} {x0 : Int} {x1 : Int} {x2 : Int} {e : IExit} {s : St} (h : D_ref_between_0 pg x0 x1 x2 gh = some (e, s)) : runL pg f_ref_between_0 ⟨[(0, (.int .i64 x0)), (1, (.int .i64 x1)), (2, (.int .i64 x2))], [], gh⟩ = some (e, s) :=
  runX_ok an_ref_between (Eq.trans (by kernel_rfl) h)

end Go.Lw
end

/-! What the document's functions of words come to. -/
section
namespace Go.Lw
open Go

theorem between_eq (n a b : Int) (gh : List GObj) : callL pg 50 [I n, I a, I b] gh = some (B (decide (a ≤ n ∧ n ≤ b)), gh) := by
  by_cases h : a ≤ n
  · refine callL_fn (fn := f_ref_between) (s := ?s1) rfl rfl (D_ref_between_0_ok ?h1) ?r1
    case h1 => simp [D_ref_between_0, h]; rfl
    case r1 => simp [finish, results, f_ref_between, resOfs, resOf, resOk, h]
  · refine callL_fn (fn := f_ref_between) (s := ?s2) rfl rfl (D_ref_between_0_ok ?h2) ?r2
    case h2 => simp [D_ref_between_0, h]; rfl
    case r2 => simp [finish, results, f_ref_between, resOfs, resOf, resOk, h]

theorem RTakes_eq (k : Int) (gh : List GObj) : callL pg 26 [I k] gh = some (I (takesOf k), gh) := by
  by_cases h1 : k = 4 ∨ k = 5 ∨ k = 21 ∨ k = 22 ∨ k = 23
  · refine callL_fn (fn := f_ref_Takes) (s := ⟨[(2, I 1)], [], gh⟩) rfl rfl (D_ref_Takes_0_ok ?h1) ?r1
    case h1 =>
      have := D_ref_Takes_k1_ok (pg := pg) (gh := gh) (x0 := k) (x3 := k) (b4 := true) (e := .ret) (s := ⟨[(2, I 1)], [], gh⟩) rfl
      rcases h1 with rfl | rfl | rfl | rfl | rfl <;> simp [D_ref_Takes_0, this]
    case r1 =>
      rcases h1 with rfl | rfl | rfl | rfl | rfl <;> simp [finish, results, f_ref_Takes, resOfs, resOf, resOk] <;> rfl
  simp only [not_or] at h1
  by_cases h2 : k = 19
  · refine callL_fn (fn := f_ref_Takes) (s := ⟨[(2, I 3)], [], gh⟩) rfl rfl (D_ref_Takes_0_ok ?h2) ?r2
    case h2 =>
      subst h2
      have := D_ref_Takes_k1_ok (pg := pg) (gh := gh) (x0 := 19) (x3 := 19) (b4 := false) (e := .ret) (s := ⟨[(2, I 3)], [], gh⟩) rfl
      simp [D_ref_Takes_0, this]
    case r2 => subst h2; simp [finish, results, f_ref_Takes, resOfs, resOf, resOk]; rfl
  have hk1 := D_ref_Takes_k1_ok (pg := pg) (gh := gh) (x0 := k) (x3 := k) (b4 := false) (e := .normal) (s := ⟨[(0, I k), (10, B false)], [], gh⟩) (by simp [D_ref_Takes_k1, h2])
  by_cases h3 : 6 ≤ k ∧ k ≤ 20
  · refine callL_fn (fn := f_ref_Takes) (s := ⟨[(2, I 2)], [], gh⟩) rfl rfl (D_ref_Takes_0_ok ?h3) ?r3
    case h3 =>
      have hk2 := D_ref_Takes_k2_ok (pg := pg) (gh := gh) (x0 := k) (b10 := false) (e := .ret) (s := ⟨[(2, I 2)], [], gh⟩) (by simp [D_ref_Takes_k2, between_eq, h3])
      simp [D_ref_Takes_0, h1, hk1, hk2]
    case r3 =>
      have : takesOf k = 2 := by simp only [takesOf]; repeat' split <;> first | omega | rfl
      simp [finish, results, f_ref_Takes, resOfs, resOf, resOk, this]
  · refine callL_fn (fn := f_ref_Takes) (s := ⟨[(2, I 0)], [], gh⟩) rfl rfl (D_ref_Takes_0_ok ?h4) ?r4
    case h4 =>
      have hk2 := D_ref_Takes_k2_ok (pg := pg) (gh := gh) (x0 := k) (b10 := false) (e := .ret) (s := ⟨[(2, I 0)], [], gh⟩) (by simp [D_ref_Takes_k2, between_eq, h3])
      simp [D_ref_Takes_0, h1, hk1, hk2]
    case r4 =>
      have : takesOf k = 0 := by simp only [takesOf]; repeat' split <;> first | omega | rfl
      simp [finish, results, f_ref_Takes, resOfs, resOf, resOk, this]

theorem FitOf_b1 (k width n w0 w1 w2 i w : Int) (gh : List GObj) (hi : (i = 0 ∧ w = w0) ∨ (i = 1 ∧ w = w1) ∨ (i = 2 ∧ w = w2)) :
    D_ref_FitOf_b1 pg k width n (takesOf k) i w0 w1 w2 gh = if wOk k i w then some (.normal, ⟨[(0, I k), (1, I width), (2, I n), (7, .ptr false 0 0), (9, I (takesOf k)), (10, I (i + 1))], [[I w0, I w1, I w2]], gh⟩)
      else some (.ret, ⟨[(8, I 3)], [], gh⟩) := by
  have hw : (IntKind.i64.wrap (i + 1)) = i + 1 := wrap_id (by omega) (by omega)
  by_cases hk : i < takesOf k
  · have hk' := Int.not_le.2 hk
    by_cases h1 : 1 ≤ w
    · by_cases h2 : w ≤ 8
      · rcases hi with ⟨rfl, rfl⟩ | ⟨rfl, rfl⟩ | ⟨rfl, rfl⟩ <;> simp [D_ref_FitOf_b1, between_eq, hk, hk', wOk, h1, h2] <;> exact hw
      · rcases hi with ⟨rfl, rfl⟩ | ⟨rfl, rfl⟩ | ⟨rfl, rfl⟩ <;> simp [D_ref_FitOf_b1, between_eq, hk, wOk, h1, h2]
    · rcases hi with ⟨rfl, rfl⟩ | ⟨rfl, rfl⟩ | ⟨rfl, rfl⟩ <;> simp [D_ref_FitOf_b1, between_eq, hk, wOk, h1]
  · have hk' := Int.not_lt.1 hk
    by_cases h2 : w = 0
    · rcases hi with ⟨rfl, rfl⟩ | ⟨rfl, rfl⟩ | ⟨rfl, rfl⟩ <;> simp [D_ref_FitOf_b1, hk, hk', wOk, h2] <;> exact hw
    · rcases hi with ⟨rfl, rfl⟩ | ⟨rfl, rfl⟩ | ⟨rfl, rfl⟩ <;> simp [D_ref_FitOf_b1, hk, hk', wOk, h2]

theorem FitOf_loop (k width n w0 w1 w2 : Int) (gh : List GObj) :
    runL pg f_ref_FitOf_l1 ⟨[(0, I k), (1, I width), (2, I n), (7, .ptr false 0 0), (9, I (takesOf k)), (10, I 0)], [[I w0, I w1, I w2]], gh⟩ =
      if wOk k 0 w0 ∧ wOk k 1 w1 ∧ wOk k 2 w2 then some (.normal, ⟨[(0, I k), (1, I width), (2, I n), (7, .ptr false 0 0)], [[I w0, I w1, I w2]], gh⟩) else some (.ret, ⟨[(8, I 3)], [], gh⟩) := by
  have b0 := FitOf_b1 k width n w0 w1 w2 0 w0 gh (by simp)
  have b1 := FitOf_b1 k width n w0 w1 w2 1 w1 gh (by simp)
  have b2 := FitOf_b1 k width n w0 w1 w2 2 w2 gh (by simp)
  by_cases h0 : wOk k 0 w0
  · rw [if_pos h0] at b0
    refine lp_next (D_ref_FitOf_b1_ok b0) ?_
    by_cases h1 : wOk k 1 w1
    · rw [if_pos h1] at b1
      refine lp_next (D_ref_FitOf_b1_ok b1) ?_
      by_cases h2 : wOk k 2 w2
      · rw [if_pos h2] at b2
        refine lp_next (D_ref_FitOf_b1_ok b2) ?_
        rw [if_pos ⟨h0, h1, h2⟩]
        refine (lp_exit (s1 := ?s1) (D_ref_FitOf_b1_ok ?h1)).trans ?r1
        case h1 => simp [D_ref_FitOf_b1]; rfl
        case r1 => simp [keep]
      · rw [if_neg h2] at b2
        rw [if_neg (fun h => h2 h.2.2)]
        exact lp_ret (D_ref_FitOf_b1_ok b2)
    · rw [if_neg h1] at b1
      rw [if_neg (fun h => h1 h.2.1)]
      exact lp_ret (D_ref_FitOf_b1_ok b1)
  · rw [if_neg h0] at b0
    rw [if_neg (fun h => h0 h.1)]
    exact lp_ret (D_ref_FitOf_b1_ok b0)

theorem FitOf_k2 (k n : Int) (b : Bool) (gh : List GObj) :
    runL pg f_ref_FitOf_k2 ⟨[(0, I k), (2, I n), (11, B b)], [], gh⟩ = some (.ret, ⟨[(8, I (if b = false ∨ (k ≠ 21 ∧ n ≠ 0) then 1 else 0))], [], gh⟩) := by
  refine D_ref_FitOf_k2_ok ?_
  cases b
  · simp [D_ref_FitOf_k2]
  · by_cases h1 : k = 21
    · simp [D_ref_FitOf_k2, h1]
    · by_cases h2 : n = 0 <;> simp [D_ref_FitOf_k2, h1, h2]

theorem FitOf_k1 (k width n w0 w1 w2 s : Int) (gh : List GObj) (hs : shapeOf k = some s) (hw : 1 ≤ width ∧ width ≤ 8) (h0 : wOk k 0 w0) (h1 : wOk k 1 w1) :
    runL pg f_ref_FitOf_k1 ⟨[(0, I k), (1, I width), (2, I n), (7, .ptr false 0 0)], [[I w0, I w1, I w2]], gh⟩ = some (.ret, ⟨[(8, I (if fitsOf s width n w0 w1 w2 then 0 else 1))], [], gh⟩) := by
  refine D_ref_FitOf_k1_ok ?_
  by_cases c1 : k = 4
  · subst c1; cases hs
    simp [D_ref_FitOf_k1, FitOf_k2, fitsOf]
    by_cases hn : n = 0 <;> by_cases hh : w0 = width <;> simp [hn, hh]
  by_cases c2 : k = 5
  · subst c2; cases hs
    simp [D_ref_FitOf_k1, FitOf_k2, fitsOf]
    by_cases hn : n = 0 <;> by_cases hh : w0 = width <;> simp [hn, hh]
  by_cases c3 : 6 ≤ k ∧ k ≤ 15
  · have : s = 2 := by
      simp only [shapeOf] at hs
      rw [if_neg (by omega), if_neg (by omega), if_pos (by omega)] at hs; cases hs; rfl
    subst this
    have hk : k ≠ 21 := by omega
    by_cases hn : n = 0 <;> by_cases hh : w0 = width <;> by_cases hh2 : w1 = width <;> simp [D_ref_FitOf_k1, FitOf_k2, between_eq, fitsOf, c1, c2, c3, hk, hn, hh, hh2]
  by_cases c4 : 16 ≤ k ∧ k ≤ 18
  · have : s = 3 := by
      simp only [shapeOf] at hs
      rw [if_neg (by omega), if_neg (by omega), if_neg (by omega), if_pos (by omega)] at hs; cases hs; rfl
    subst this
    have hk : k ≠ 21 := by omega
    by_cases hn : n = 0 <;> by_cases hh : w0 = w1 <;> by_cases hh2 : width = 1 <;> simp [D_ref_FitOf_k1, FitOf_k2, between_eq, fitsOf, c1, c2, c3, c4, hk, hn, hh, hh2]
  by_cases c5 : k = 19
  · subst c5; cases hs
    by_cases hn : n = 0 <;> by_cases hh : w0 = 1 <;> by_cases hh2 : w1 = width <;> by_cases hh3 : w2 = width <;> simp [D_ref_FitOf_k1, FitOf_k2, between_eq, fitsOf, hn, hh, hh2, hh3]
  by_cases c6 : k = 20
  · subst c6; cases hs
    by_cases hn : n = 0 <;> by_cases hh : IntKind.i64.wrap (w0 + w1) = width <;> simp [D_ref_FitOf_k1, FitOf_k2, between_eq, fitsOf, hn, hh]
  by_cases c7 : k = 21
  · subst c7; cases hs
    have hw0 : 1 ≤ w0 ∧ w0 ≤ 8 := h0
    have e1 : IntKind.i64.wrap (w0 - width) = w0 - width := wrap_id (by omega) (by omega)
    by_cases hn : 0 ≤ n
    · by_cases hn2 : n ≤ 8
      · have e2 : IntKind.i64.wrap (n + width) = n + width := wrap_id (by omega) (by omega)
        by_cases hh : n + width ≤ w0
        · simp [D_ref_FitOf_k1, FitOf_k2, between_eq, fitsOf, hn, hn2, e1, e2, hh, show n ≤ w0 - width by omega]
        · simp [D_ref_FitOf_k1, FitOf_k2, between_eq, fitsOf, hn, hn2, e1, e2, hh, show ¬ n ≤ w0 - width by omega]
      · simp [D_ref_FitOf_k1, FitOf_k2, between_eq, fitsOf, hn, hn2, e1, show ¬ n ≤ w0 - width by omega]
    · simp [D_ref_FitOf_k1, FitOf_k2, between_eq, fitsOf, hn]
  · have : s = 7 := by
      simp only [shapeOf] at hs
      repeat' split at hs
      all_goals first | (exfalso; omega) | (cases hs; done) | (cases hs; rfl)
    subst this
    by_cases hn : n = 0 <;> by_cases hh : w0 ≤ width <;> simp [D_ref_FitOf_k1, FitOf_k2, between_eq, fitsOf, c1, c2, c3, c4, c5, c6, c7, hn, hh]

theorem takes_zero (k : Int) : takesOf k = 0 ↔ shapeOf k = none := by
  simp only [takesOf, shapeOf]
  constructor
  · intro h; repeat' split
    all_goals first | rfl | (exfalso; revert h; repeat' split) <;> omega
  · intro h; repeat' split
    all_goals first | rfl | (exfalso; revert h; repeat' split) <;> first | omega | simp

theorem FitOf_eq (k width n w0 w1 w2 : Int) (gh : List GObj) : callL pg 23 [I k, I width, I n, .agg [I w0, I w1, I w2]] gh = some (I (fitE k width n w0 w1 w2), gh) := by
  simp only [fitE]
  cases hs : shapeOf k with
  | none =>
    refine callL_fn (fn := f_ref_FitOf) (s := ?s0) rfl rfl (D_ref_FitOf_0_ok ?h0) ?r0
    case h0 => simp [D_ref_FitOf_0, RTakes_eq, (takes_zero k).2 hs]; rfl
    case r0 => simp [finish, results, f_ref_FitOf, resOfs, resOf, resOk]
  | some s =>
    have ht : takesOf k ≠ 0 := fun h => by rw [takes_zero, hs] at h; cases h
    by_cases hw : 1 ≤ width ∧ width ≤ 8
    · have hl := FitOf_loop k width n w0 w1 w2 gh
      simp only [hw, not_true, if_false, and_self]
      by_cases ho : wOk k 0 w0 ∧ wOk k 1 w1 ∧ wOk k 2 w2
      · rw [if_pos ho] at hl
        have hk := FitOf_k1 k width n w0 w1 w2 s gh hs hw ho.1 ho.2.1
        simp only [ho, not_true, if_false, and_self]
        refine callL_fn (fn := f_ref_FitOf) (s := ?s1) rfl rfl (D_ref_FitOf_0_ok ?h1) ?r1
        case h1 => simp [D_ref_FitOf_0, RTakes_eq, ht, between_eq, hw, hl, hk]; rfl
        case r1 => simp [finish, results, f_ref_FitOf, resOfs, resOf, resOk]
      · rw [if_neg ho] at hl
        refine callL_fn (fn := f_ref_FitOf) (s := ?s3) rfl rfl (D_ref_FitOf_0_ok ?h3) ?r3
        case h3 => simp [D_ref_FitOf_0, RTakes_eq, ht, between_eq, hw, hl]; rfl
        case r3 => simp [finish, results, f_ref_FitOf, resOfs, resOf, resOk, ho]
    · refine callL_fn (fn := f_ref_FitOf) (s := ?s4) rfl rfl (D_ref_FitOf_0_ok ?h4) ?r4
      case h4 => simp [D_ref_FitOf_0, RTakes_eq, ht, between_eq, hw]; rfl
      case r4 => simp [finish, results, f_ref_FitOf, resOfs, resOf, resOk, hw]

end Go.Lw
end

/-! What the code of function ref_Two comes to, piece by piece. Written by program (dprint.py). -/
section
set_option maxRecDepth 10000
set_option maxHeartbeats 4000000
namespace Go.Lw
open Go

def an_ref_Two : Tr := (.node 7 (.ce (.bool)) (.node 4 (.ce (.int .i64)) (.node 2 (.ce (.int .i64)) (.node 0 (.ce (.int .i64)) .nil .nil) (.node 3 (.ce (.int .i64)) .nil .nil)) (.node 6 (.ce (.int .i64)) (.node 5 (.ce (.int .i64)) .nil .nil) .nil)) (.node 10 (.ce (.int .i64)) (.node 9 (.ce (.int .i64)) (.node 8 (.ce (.int .i64)) .nil .nil) .nil) (.node 12 (.ce (.int .i64)) (.node 11 (.ce (.int .i64)) .nil .nil) .nil)))

noncomputable def D_ref_Two_b1 (pg : Prg) (x0 : Int) (x3 : Int) (x4 : Int) (gh : List GObj) : Option (IExit × St) := 
  br 7 (decide (x4 < x0)) (some (.normal, ⟨[(0, (.int .i64 x0)), (3, (.int .i64 (IntKind.i64.wrap (2 * x3)))), (4, (.int .i64 (IntKind.i64.wrap (x4 + 1))))], [], gh⟩)) (some ((.exit 0), ⟨[(0, (.int .i64 x0)), (3, (.int .i64 x3)), (4, (.int .i64 x4)), (7, (.bool (decide (x4 < x0))))], [], gh⟩))

theorem D_ref_Two_b1_ok {pg : Prg} {gh : List GObj} {x0 : Int} {x3 : Int} {x4 : Int} {e : IExit} {s : St} (h : D_ref_Two_b1 pg x0 x3 x4 gh = some (e, s)) : runL pg f_ref_Two_b1 ⟨[(0, (.int .i64 x0)), (3, (.int .i64 x3)), (4, (.int .i64 x4))], [], gh⟩ = some (e, s) :=
  runX_ok an_ref_Two (Eq.trans (by kernel_rfl) h)

noncomputable def D_ref_Two_k1 (pg : Prg) (x3 : Int) (gh : List GObj) : Option (IExit × St) := some (.ret, ⟨[(2, (.int .i64 x3))], [], gh⟩)

theorem D_ref_Two_k1_ok {pg : Prg} {gh : List GObj} {x3 : Int} {e : IExit} {s : St} (h : D_ref_Two_k1 pg x3 gh = some (e, s)) : runL pg f_ref_Two_k1 ⟨[(3, (.int .i64 x3))], [], gh⟩ = some (e, s) :=
  runX_ok an_ref_Two (Eq.trans (by kernel_rfl) h)

noncomputable def D_ref_Two_0 (pg : Prg) (x0 : Int) (gh : List GObj) : Option (IExit × St) := 
  kR (runL pg f_ref_Two_l1 ⟨[(0, (.int .i64 x0)), (3, (.int .i64 1)), (4, (.int .i64 0))], [], gh⟩) (fun e s => nx e s (fun e s => some (e, s)) fun s => kR (runL pg f_ref_Two_k1 s) (fun e s => some (e, s)))

theorem D_ref_Two_0_ok {pg : Prg} {gh : List GObj} {x0 : Int} {e : IExit} {s : St} (h : D_ref_Two_0 pg x0 gh = some (e, s)) : runL pg f_ref_Two_0 ⟨[(0, (.int .i64 x0))], [], gh⟩ = some (e, s) :=
  runX_ok an_ref_Two (Eq.trans (by kernel_rfl) h)

end Go.Lw
end

/-! What the code of function ref_Bit comes to, piece by piece. Written by program (dprint.py). -/
section
set_option maxRecDepth 10000
set_option maxHeartbeats 4000000
namespace Go.Lw
open Go

def an_ref_Bit : Tr := (.node 6 (.ce (.int .i64)) (.node 4 (.ce (.int .i64)) (.node 1 (.ce (.int .i64)) (.node 0 (.ce (.int .i64)) .nil .nil) .nil) (.node 5 (.ce (.int .i64)) .nil .nil)) (.node 8 (.ce (.int .i64)) (.node 7 (.ce (.int .i64)) .nil .nil) (.node 9 (.ce (.int .i64)) .nil .nil)))

noncomputable def D_ref_Bit_0 (pg : Prg) (x0 : Int) (x1 : Int) (gh : List GObj) : Option (IExit × St) := 
  callR gh true (callL pg 27 [(.int .i64 x1)] gh) fun r1 gh2 => unI .i64 r1 fun n3 => gd (decide ((n3 : Int) ≠ 0)) (gd (decide ((2 : Int) ≠ 0)) (some (.ret, ⟨[(4, (.int .i64 (Int.tmod (IntKind.i64.wrap (Int.tdiv x0 n3)) 2)))], [], gh2⟩)))

theorem D_ref_Bit_0_ok {pg : Prg} {gh : List GObj} {x0 : Int} {x1 : Int} {e : IExit} {s : St} (h : D_ref_Bit_0 pg x0 x1 gh = some (e, s)) : runL pg f_ref_Bit_0 ⟨[(0, (.int .i64 x0)), (1, (.int .i64 x1))], [], gh⟩ = some (e, s) :=
  runX_ok an_ref_Bit (Eq.trans (by kernel_rfl) h)

end Go.Lw
end

/-! What the code of function ref_Signed comes to, piece by piece. Written by program (dprint.py). -/
section
set_option maxRecDepth 10000
set_option maxHeartbeats 4000000
namespace Go.Lw
open Go

def an_ref_Signed : Tr := (.node 8 (.ce (.int .i64)) (.node 5 (.ce (.int .i64)) (.node 1 (.ce (.int .i64)) (.node 0 (.ce (.int .i64)) .nil .nil) (.node 4 (.ce (.int .i64)) .nil .nil)) (.node 7 (.ce (.int .i64)) (.node 6 (.ce (.int .i64)) .nil .nil) .nil)) (.node 12 (.ce (.int .i64)) (.node 10 (.ce (.int .i64)) (.node 9 (.ce (.bool)) .nil .nil) (.node 11 (.ce (.int .i64)) .nil .nil)) (.node 14 (.ce (.int .i64)) (.node 13 (.ce (.int .i64)) .nil .nil) .nil)))

noncomputable def D_ref_Signed_0 (pg : Prg) (x0 : Int) (x1 : Int) (gh : List GObj) : Option (IExit × St) := 
  callR gh true (callL pg 97 [(.int .i64 x0), (.int .i64 (IntKind.i64.wrap (x1 - 1)))] gh) fun r1 gh2 => unI .i64 r1 fun n3 => 
  br 9 (n3 == 1) (
  callR gh2 true (callL pg 27 [(.int .i64 x1)] gh2) fun r4 gh5 => unI .i64 r4 fun n6 => some (.ret, ⟨[(4, (.int .i64 (IntKind.i64.wrap (x0 - n6))))], [], gh5⟩)) (some (.ret, ⟨[(4, (.int .i64 x0))], [], gh2⟩))

theorem D_ref_Signed_0_ok {pg : Prg} {gh : List GObj} {x0 : Int} {x1 : Int} {e : IExit} {s : St} (h : D_ref_Signed_0 pg x0 x1 gh = some (e, s)) : runL pg f_ref_Signed_0 ⟨[(0, (.int .i64 x0)), (1, (.int .i64 x1))], [], gh⟩ = some (e, s) :=
  runX_ok an_ref_Signed (Eq.trans (by kernel_rfl) h)

end Go.Lw
end

/-! What the code of function ref_yes comes to, piece by piece. Written by program (dprint.py). -/
section
set_option maxRecDepth 10000
set_option maxHeartbeats 4000000
namespace Go.Lw
open Go

def an_ref_yes : Tr := (.node 2 (.ce (.int .i64)) (.node 0 (.ce (.bool)) .nil .nil) (.node 3 (.ce (.bool)) .nil .nil))

noncomputable def D_ref_yes_0 (pg : Prg) (b0 : Bool) (gh : List GObj) : Option (IExit × St) := 
  br 3 b0 (some (.ret, ⟨[(2, (.int .i64 1))], [], gh⟩)) (some (.ret, ⟨[(2, (.int .i64 0))], [], gh⟩))

theorem D_ref_yes_0_ok {pg : Prg} {gh : List GObj} {b0 : Bool} {e : IExit} {s : St} (h : D_ref_yes_0 pg b0 gh = some (e, s)) : runL pg f_ref_yes_0 ⟨[(0, (.bool b0))], [], gh⟩ = some (e, s) :=
  runX_ok an_ref_yes (Eq.trans (by kernel_rfl) h)

end Go.Lw
end

/-! What the code of function ref_bitwise comes to, piece by piece. Written by program (dprint.py). -/
section
set_option maxRecDepth 10000
set_option maxHeartbeats 4000000
namespace Go.Lw
open Go

def an_ref_bitwise : Tr := (.node 17 (.ce (.int .i64)) (.node 10 (.ce (.int .i64)) (.node 3 (.agg [.int .i64, .int .i64, .int .i64, .int .i64]) (.node 1 (.ce (.int .i64)) (.node 0 (.ce (.int .i64)) .nil .nil) (.node 2 (.ce (.int .i64)) .nil .nil)) (.node 9 (.ce (.int .i64)) (.node 8 (.ce (.int .i64)) .nil .nil) .nil)) (.node 14 (.ce (.int .i64)) (.node 12 (.ce (.int .i64)) (.node 11 (.ce (.int .i64)) .nil .nil) (.node 13 (.ce (.bool)) .nil .nil)) (.node 16 (.ce (.int .i64)) (.node 15 (.ce (.int .i64)) .nil .nil) .nil))) (.node 24 (.ce (.int .i64)) (.node 21 (.ce (.int .i64)) (.node 19 (.ce (.int .i64)) (.node 18 (.ce (.int .i64)) .nil .nil) (.node 20 (.ce (.int .i64)) .nil .nil)) (.node 23 (.ce (.int .i64)) (.node 22 (.ce (.int .i64)) .nil .nil) .nil)) (.node 29 (.ce (.int .i64)) (.node 27 (.ce (.int .i64)) (.node 26 (.ce (.int .i64)) .nil .nil) (.node 28 (.ce (.int .i64)) .nil .nil)) (.node 31 (.ce (.int .i64)) (.node 30 (.ce (.int .i64)) .nil .nil) .nil))))

noncomputable def D_ref_bitwise_b1 (pg : Prg) (x0 : Int) (x1 : Int) (x2 : Int) (x9 : Int) (x10 : Int) (xc0_0 : Int) (xc0_1 : Int) (xc0_2 : Int) (xc0_3 : Int) (gh : List GObj) : Option (IExit × St) := 
  br 13 (decide (x10 < x2)) (
  callR gh true (callL pg 97 [(.int .i64 x0), (.int .i64 x10)] gh) fun r1 gh2 => unI .i64 r1 fun n3 => 
  callR gh2 true (callL pg 97 [(.int .i64 x1), (.int .i64 x10)] gh2) fun r4 gh5 => unI .i64 r4 fun n6 => gd (decide (0 ≤ (IntKind.i64.wrap ((IntKind.i64.wrap (2 * n3)) + n6)) ∧ (IntKind.i64.wrap ((IntKind.i64.wrap (2 * n3)) + n6)) < ((4 : Nat) : Int))) (
  ob (grab false 1 (0 + Int.toNat (IntKind.i64.wrap ((IntKind.i64.wrap (2 * n3)) + n6)) * 1) [(.int .i64 xc0_0), (.int .i64 xc0_1), (.int .i64 xc0_2), (.int .i64 xc0_3)]) fun v7 => unI .i64 (degr v7) fun n8 => 
  callR gh5 true (callL pg 27 [(.int .i64 x10)] gh5) fun r9 gh10 => unI .i64 r9 fun n11 => some (.normal, ⟨[(0, (.int .i64 x0)), (1, (.int .i64 x1)), (2, (.int .i64 x2)), (7, (.ptr false 0 0)), (9, (.int .i64 (IntKind.i64.wrap (x9 + (IntKind.i64.wrap (n8 * n11)))))), (10, (.int .i64 (IntKind.i64.wrap (x10 + 1))))], [[(.int .i64 xc0_0), (.int .i64 xc0_1), (.int .i64 xc0_2), (.int .i64 xc0_3)]], gh10⟩))) (some ((.exit 0), ⟨[(0, (.int .i64 x0)), (1, (.int .i64 x1)), (2, (.int .i64 x2)), (7, (.ptr false 0 0)), (9, (.int .i64 x9)), (10, (.int .i64 x10)), (13, (.bool (decide (x10 < x2))))], [[(.int .i64 xc0_0), (.int .i64 xc0_1), (.int .i64 xc0_2), (.int .i64 xc0_3)]], gh⟩))

theorem D_ref_bitwise_b1_ok {pg : Prg} {gh : List GObj} {x0 : Int} {x1 : Int} {x2 : Int} {x9 : Int} {x10 : Int} {xc0_0 : Int} {xc0_1 : Int} {xc0_2 : Int} {xc0_3 : Int} {e : IExit} {s : St} (h : D_ref_bitwise_b1 pg x0 x1 x2 x9 x10 xc0_0 xc0_1 xc0_2 xc0_3 gh = some (e, s)) : runL pg f_ref_bitwise_b1 ⟨[(0, (.int .i64 x0)), (1, (.int .i64 x1)), (2, (.int .i64 x2)), (7, (.ptr false 0 0)), (9, (.int .i64 x9)), (10, (.int .i64 x10))], [[(.int .i64 xc0_0), (.int .i64 xc0_1), (.int .i64 xc0_2), (.int .i64 xc0_3)]], gh⟩ = some (e, s) :=
  runX_ok an_ref_bitwise (Eq.trans (by kernel_rfl) h)

noncomputable def D_ref_bitwise_k1 (pg : Prg) (x9 : Int) (gh : List GObj) : Option (IExit × St) := some (.ret, ⟨[(8, (.int .i64 x9))], [], gh⟩)

theorem D_ref_bitwise_k1_ok {pg : Prg} {gh : List GObj} {x9 : Int} {e : IExit} {s : St} (h : D_ref_bitwise_k1 pg x9 gh = some (e, s)) : runL pg f_ref_bitwise_k1 ⟨[(9, (.int .i64 x9))], [], gh⟩ = some (e, s) :=
  runX_ok an_ref_bitwise (Eq.trans (by kernel_rfl) h)

noncomputable def D_ref_bitwise_0 (pg : Prg) (x0 : Int) (x1 : Int) (x2 : Int) (x3_0 : Int) (x3_1 : Int) (x3_2 : Int) (x3_3 : Int) (gh : List GObj) : Option (IExit × St) := 
  kR (runL pg f_ref_bitwise_l1 ⟨[(0, (.int .i64 x0)), (1, (.int .i64 x1)), (2, (.int .i64 x2)), (7, (.ptr false 0 0)), (9, (.int .i64 0)), (10, (.int .i64 0))], [[(.int .i64 x3_0), (.int .i64 x3_1), (.int .i64 x3_2), (.int .i64 x3_3)]], gh⟩) (fun e s => nx e s (fun e s => some (e, s)) fun s => kR (runL pg f_ref_bitwise_k1 s) (fun e s => some (e, s)))

theorem D_ref_bitwise_0_ok {pg : Prg} {gh : List GObj} {x0 : Int} {x1 : Int} {x2 : Int} {x3_0 : Int} {x3_1 : Int} {x3_2 : Int} {x3_3 : Int} {e : IExit} {s : St} (h : D_ref_bitwise_0 pg x0 x1 x2 x3_0 x3_1 x3_2 x3_3 gh = some (e, s)) : runL pg f_ref_bitwise_0 ⟨[(0, (.int .i64 x0)), (1, (.int .i64 x1)), (2, (.int .i64 x2)), (3, (.agg [(.int .i64 x3_0), (.int .i64 x3_1), (.int .i64 x3_2), (.int .i64 x3_3)]))], [], gh⟩ = some (e, s) :=
  runX_ok an_ref_bitwise (Eq.trans (by kernel_rfl) h)

end Go.Lw
end

/-! What the code of function ref_Made comes to, piece by piece. Written by program (dprint.py). -/
section
set_option maxRecDepth 10000
set_option maxHeartbeats 4000000
namespace Go.Lw
open Go

def an_ref_Made : Tr := (.node 87 (.ce (.int .i64)) (.node 47 (.ce (.bool)) (.node 27 (.ce (.int .i64)) (.node 17 (.ce (.int .i64)) (.node 5 (.ce (.int .i64)) (.node 2 (.ce (.int .i64)) (.node 1 (.ce (.int .i64)) (.node 0 (.ce (.int .i64)) .nil .nil) .nil) (.node 4 (.ce (.int .i64)) (.node 3 (.ce (.int .i64)) .nil .nil) .nil)) (.node 15 (.ce (.int .i64)) (.node 14 (.ce (.int .i64)) (.node 6 (.agg [.int .i64, .int .i64, .int .i64]) .nil .nil) .nil) (.node 16 (.ce (.int .i64)) .nil .nil))) (.node 22 (.ce (.int .i64)) (.node 20 (.ce (.bool)) (.node 19 (.ce (.bool)) (.node 18 (.ce (.int .i64)) .nil .nil) .nil) (.node 21 (.ce (.int .i64)) .nil .nil)) (.node 25 (.ce (.bool)) (.node 24 (.ce (.int .i64)) (.node 23 (.ce (.int .i64)) .nil .nil) .nil) (.node 26 (.ce (.bool)) .nil .nil)))) (.node 37 (.agg [.int .i64, .int .i64, .int .i64, .int .i64]) (.node 32 (.ce (.bool)) (.node 30 (.ce (.int .i64)) (.node 29 (.ce (.int .i64)) (.node 28 (.ce (.int .i64)) .nil .nil) .nil) (.node 31 (.ce (.int .i64)) .nil .nil)) (.node 35 (.ce (.int .i64)) (.node 34 (.ce (.int .i64)) (.node 33 (.ce (.bool)) .nil .nil) .nil) (.node 36 (.ce (.int .i64)) .nil .nil))) (.node 42 (.ce (.int .i64)) (.node 40 (.ce (.bool)) (.node 39 (.ce (.bool)) (.node 38 (.ce (.int .i64)) .nil .nil) .nil) (.node 41 (.ce (.int .i64)) .nil .nil)) (.node 45 (.ce (.int .i64)) (.node 44 (.agg [.int .i64, .int .i64, .int .i64, .int .i64]) (.node 43 (.ce (.int .i64)) .nil .nil) .nil) (.node 46 (.ce (.bool)) .nil .nil))))) (.node 67 (.ce (.int .i64)) (.node 57 (.ce (.int .i64)) (.node 52 (.ce (.int .i64)) (.node 50 (.ce (.int .i64)) (.node 49 (.ce (.int .i64)) (.node 48 (.ce (.int .i64)) .nil .nil) .nil) (.node 51 (.agg [.int .i64, .int .i64, .int .i64, .int .i64]) .nil .nil)) (.node 55 (.ce (.int .i64)) (.node 54 (.ce (.bool)) (.node 53 (.ce (.bool)) .nil .nil) .nil) (.node 56 (.ce (.int .i64)) .nil .nil))) (.node 62 (.ce (.int .i64)) (.node 60 (.ce (.bool)) (.node 59 (.ce (.int .i64)) (.node 58 (.ce (.int .i64)) .nil .nil) .nil) (.node 61 (.ce (.bool)) .nil .nil)) (.node 65 (.ce (.int .i64)) (.node 64 (.ce (.int .i64)) (.node 63 (.ce (.int .i64)) .nil .nil) .nil) (.node 66 (.ce (.int .i64)) .nil .nil)))) (.node 77 (.ce (.bool)) (.node 72 (.ce (.int .i64)) (.node 70 (.ce (.bool)) (.node 69 (.ce (.bool)) (.node 68 (.ce (.int .i64)) .nil .nil) .nil) (.node 71 (.ce (.int .i64)) .nil .nil)) (.node 75 (.ce (.int .i64)) (.node 74 (.ce (.int .i64)) (.node 73 (.ce (.int .i64)) .nil .nil) .nil) (.node 76 (.ce (.bool)) .nil .nil))) (.node 82 (.ce (.int .i64)) (.node 80 (.ce (.int .i64)) (.node 79 (.ce (.bool)) (.node 78 (.ce (.int .i64)) .nil .nil) .nil) (.node 81 (.ce (.int .i64)) .nil .nil)) (.node 85 (.ce (.bool)) (.node 84 (.ce (.int .i64)) (.node 83 (.ce (.int .i64)) .nil .nil) .nil) (.node 86 (.ce (.bool)) .nil .nil)))))) (.node 127 (.ce (.int .i64)) (.node 107 (.ce (.int .i64)) (.node 97 (.ce (.bool)) (.node 92 (.ce (.int .i64)) (.node 90 (.ce (.int .i64)) (.node 89 (.ce (.int .i64)) (.node 88 (.ce (.bool)) .nil .nil) .nil) (.node 91 (.ce (.int .i64)) .nil .nil)) (.node 95 (.ce (.int .i64)) (.node 94 (.ce (.bool)) (.node 93 (.ce (.bool)) .nil .nil) .nil) (.node 96 (.ce (.int .i64)) .nil .nil))) (.node 102 (.ce (.int .i64)) (.node 100 (.ce (.int .i64)) (.node 99 (.ce (.int .i64)) (.node 98 (.ce (.int .i64)) .nil .nil) .nil) (.node 101 (.ce (.int .i64)) .nil .nil)) (.node 105 (.ce (.bool)) (.node 104 (.ce (.bool)) (.node 103 (.ce (.int .i64)) .nil .nil) .nil) (.node 106 (.ce (.int .i64)) .nil .nil)))) (.node 117 (.ce (.bool)) (.node 112 (.ce (.int .i64)) (.node 110 (.ce (.int .i64)) (.node 109 (.ce (.int .i64)) (.node 108 (.ce (.bool)) .nil .nil) .nil) (.node 111 (.ce (.int .i64)) .nil .nil)) (.node 115 (.ce (.int .i64)) (.node 114 (.ce (.bool)) (.node 113 (.ce (.bool)) .nil .nil) .nil) (.node 116 (.ce (.int .i64)) .nil .nil))) (.node 122 (.ce (.int .i64)) (.node 120 (.ce (.bool)) (.node 119 (.ce (.bool)) (.node 118 (.ce (.int .i64)) .nil .nil) .nil) (.node 121 (.ce (.int .i64)) .nil .nil)) (.node 125 (.ce (.bool)) (.node 124 (.ce (.int .i64)) (.node 123 (.ce (.bool)) .nil .nil) .nil) (.node 126 (.ce (.bool)) .nil .nil))))) (.node 150 (.ce (.int .i64)) (.node 139 (.ce (.int .i64)) (.node 134 (.ce (.int .i64)) (.node 131 (.ce (.int .i64)) (.node 130 (.ce (.int .i64)) (.node 129 (.ce (.int .i64)) .nil .nil) .nil) (.node 133 (.ce (.int .i64)) .nil .nil)) (.node 137 (.ce (.bool)) (.node 136 (.ce (.int .i64)) (.node 135 (.ce (.bool)) .nil .nil) .nil) (.node 138 (.ce (.bool)) .nil .nil))) (.node 144 (.ce (.bool)) (.node 142 (.ce (.int .i64)) (.node 141 (.ce (.int .i64)) (.node 140 (.ce (.bool)) .nil .nil) .nil) (.node 143 (.ce (.bool)) .nil .nil)) (.node 148 (.ce (.int .i64)) (.node 147 (.ce (.int .i64)) (.node 145 (.ce (.int .i64)) .nil .nil) .nil) (.node 149 (.ce (.int .i64)) .nil .nil)))) (.node 160 (.ce (.bool)) (.node 155 (.ce (.int .i64)) (.node 153 (.ce (.bool)) (.node 152 (.ce (.bool)) (.node 151 (.ce (.int .i64)) .nil .nil) .nil) (.node 154 (.ce (.int .i64)) .nil .nil)) (.node 158 (.ce (.int .i64)) (.node 157 (.ce (.int .i64)) (.node 156 (.ce (.int .i64)) .nil .nil) .nil) (.node 159 (.ce (.int .i64)) .nil .nil))) (.node 166 (.ce (.int .i64)) (.node 164 (.ce (.int .i64)) (.node 162 (.ce (.int .i64)) (.node 161 (.ce (.bool)) .nil .nil) .nil) (.node 165 (.ce (.int .i64)) .nil .nil)) (.node 169 (.ce (.int .i64)) (.node 168 (.ce (.int .i64)) (.node 167 (.ce (.int .i64)) .nil .nil) .nil) (.node 170 (.ce (.int .i64)) .nil .nil)))))))

noncomputable def D_ref_Made_0 (pg : Prg) (x0 : Int) (x1 : Int) (x2 : Int) (x3 : Int) (x4 : Int) (x5 : Int) (x6_0 : Int) (x6_1 : Int) (x6_2 : Int) (gh : List GObj) : Option (IExit × St) := 
  callR gh true (callL pg 27 [(.int .i64 x1)] gh) fun r1 gh2 => unI .i64 r1 fun n3 => 
  br 19 (x0 == 4) (some (.ret, ⟨[(14, (.int .i64 (IntKind.i64.wrap ((IntKind.i64.wrap (n3 - 1)) - x2))))], [], gh2⟩)) (
  br 25 (x0 == 5) (gd (decide ((n3 : Int) ≠ 0)) (some (.ret, ⟨[(14, (.int .i64 (Int.tmod (IntKind.i64.wrap (n3 - x2)) n3)))], [], gh2⟩))) (
  br 32 (x0 == 6) (
  callR gh2 true (callL pg 67 [(.int .i64 x2), (.int .i64 x3), (.int .i64 x1), (.agg [(.int .i64 0), (.int .i64 0), (.int .i64 0), (.int .i64 1)])] gh2) fun r4 gh5 => unI .i64 r4 fun n6 => some (.ret, ⟨[(14, (.int .i64 n6))], [], gh5⟩)) (
  br 39 (x0 == 7) (
  callR gh2 true (callL pg 67 [(.int .i64 x2), (.int .i64 x3), (.int .i64 x1), (.agg [(.int .i64 0), (.int .i64 1), (.int .i64 1), (.int .i64 1)])] gh2) fun r7 gh8 => unI .i64 r7 fun n9 => some (.ret, ⟨[(14, (.int .i64 n9))], [], gh8⟩)) (
  br 46 (x0 == 8) (
  callR gh2 true (callL pg 67 [(.int .i64 x2), (.int .i64 x3), (.int .i64 x1), (.agg [(.int .i64 0), (.int .i64 1), (.int .i64 1), (.int .i64 0)])] gh2) fun r10 gh11 => unI .i64 r10 fun n12 => some (.ret, ⟨[(14, (.int .i64 n12))], [], gh11⟩)) (
  br 53 (x0 == 9) (gd (decide ((n3 : Int) ≠ 0)) (some (.ret, ⟨[(14, (.int .i64 (Int.tmod (IntKind.i64.wrap (x2 + x3)) n3)))], [], gh2⟩))) (
  br 60 (x0 == 10) (gd (decide ((n3 : Int) ≠ 0)) (some (.ret, ⟨[(14, (.int .i64 (Int.tmod (IntKind.i64.wrap ((IntKind.i64.wrap (x2 + n3)) - x3)) n3)))], [], gh2⟩))) (
  br 69 (x0 == 11) (gd (decide ((n3 : Int) ≠ 0)) (some (.ret, ⟨[(14, (.int .i64 (Int.tmod (IntKind.i64.wrap (x2 * x3)) n3)))], [], gh2⟩))) (
  br 76 (x0 == 12) (
  br 79 (x3 == 0) (some (.ret, ⟨[(14, (.int .i64 (IntKind.i64.wrap (n3 - 1))))], [], gh2⟩)) (gd (decide ((x3 : Int) ≠ 0)) (some (.ret, ⟨[(14, (.int .i64 (IntKind.i64.wrap (Int.tdiv x2 x3))))], [], gh2⟩)))) (
  br 85 (x0 == 13) (
  br 88 (x3 == 0) (some (.ret, ⟨[(14, (.int .i64 x2))], [], gh2⟩)) (gd (decide ((x3 : Int) ≠ 0)) (some (.ret, ⟨[(14, (.int .i64 (Int.tmod x2 x3)))], [], gh2⟩)))) (
  br 93 (x0 == 14) (
  br 97 (decide (x1 ≤ x3)) (some (.ret, ⟨[(14, (.int .i64 0))], [], gh2⟩)) (
  callR gh2 true (callL pg 27 [(.int .i64 x3)] gh2) fun r13 gh14 => unI .i64 r13 fun n15 => gd (decide ((n3 : Int) ≠ 0)) (some (.ret, ⟨[(14, (.int .i64 (Int.tmod (IntKind.i64.wrap (x2 * n15)) n3)))], [], gh14⟩)))) (
  br 104 (x0 == 15) (
  br 108 (decide (x1 ≤ x3)) (some (.ret, ⟨[(14, (.int .i64 0))], [], gh2⟩)) (
  callR gh2 true (callL pg 27 [(.int .i64 x3)] gh2) fun r16 gh17 => unI .i64 r16 fun n18 => gd (decide ((n18 : Int) ≠ 0)) (some (.ret, ⟨[(14, (.int .i64 (IntKind.i64.wrap (Int.tdiv x2 n18))))], [], gh17⟩)))) (
  br 113 (x0 == 16) (
  callR gh2 true (callL pg 68 [(.bool (x2 == x3))] gh2) fun r19 gh20 => unI .i64 r19 fun n21 => some (.ret, ⟨[(14, (.int .i64 n21))], [], gh20⟩)) (
  br 119 (x0 == 17) (
  callR gh2 true (callL pg 68 [(.bool (decide (x2 < x3)))] gh2) fun r22 gh23 => unI .i64 r22 fun n24 => some (.ret, ⟨[(14, (.int .i64 n24))], [], gh23⟩)) (
  br 125 (x0 == 18) (
  callR gh2 true (callL pg 69 [(.int .i64 x2), (.int .i64 x6_0)] gh2) fun r25 gh26 => unI .i64 r25 fun n27 => 
  callR gh26 true (callL pg 69 [(.int .i64 x3), (.int .i64 x6_1)] gh26) fun r28 gh29 => unI .i64 r28 fun n30 => 
  callR gh29 true (callL pg 68 [(.bool (decide (n27 < n30)))] gh29) fun r31 gh32 => unI .i64 r31 fun n33 => some (.ret, ⟨[(14, (.int .i64 n33))], [], gh32⟩)) (
  br 137 (x0 == 19) (
  br 140 (x2 == 1) (some (.ret, ⟨[(14, (.int .i64 x3))], [], gh2⟩)) (some (.ret, ⟨[(14, (.int .i64 x4))], [], gh2⟩))) (
  br 143 (x0 == 20) (
  callR gh2 true (callL pg 27 [(.int .i64 x6_1)] gh2) fun r34 gh35 => unI .i64 r34 fun n36 => some (.ret, ⟨[(14, (.int .i64 (IntKind.i64.wrap ((IntKind.i64.wrap (x2 * n36)) + x3))))], [], gh35⟩)) (
  br 152 (x0 == 21) (
  callR gh2 true (callL pg 27 [(.int .i64 x5)] gh2) fun r37 gh38 => unI .i64 r37 fun n39 => gd (decide ((n39 : Int) ≠ 0)) (gd (decide ((n3 : Int) ≠ 0)) (some (.ret, ⟨[(14, (.int .i64 (Int.tmod (IntKind.i64.wrap (Int.tdiv x2 n39)) n3)))], [], gh38⟩)))) (
  br 160 (x0 == 23) (
  callR gh2 true (callL pg 69 [(.int .i64 x2), (.int .i64 x6_0)] gh2) fun r40 gh41 => unI .i64 r40 fun n42 => gd (decide ((n3 : Int) ≠ 0)) (some (.ret, ⟨[(14, (.int .i64 (Int.tmod (IntKind.i64.wrap (n42 + n3)) n3)))], [], gh41⟩))) (some (.ret, ⟨[(14, (.int .i64 x2))], [], gh2⟩))))))))))))))))))))

theorem D_ref_Made_0_ok {pg : Prg} {gh : List GObj} {x0 : Int} {x1 : Int} {x2 : Int} {x3 : Int} {x4 : Int} {x5 : Int} {x6_0 : Int} {x6_1 : Int} {x6_2 : Int} {e : IExit} {s : St} (h : D_ref_Made_0 pg x0 x1 x2 x3 x4 x5 x6_0 x6_1 x6_2 gh = some (e, s)) : runL pg f_ref_Made_0 ⟨[(0, (.int .i64 x0)), (1, (.int .i64 x1)), (2, (.int .i64 x2)), (3, (.int .i64 x3)), (4, (.int .i64 x4)), (5, (.int .i64 x5)), (6, (.agg [(.int .i64 x6_0), (.int .i64 x6_1), (.int .i64 x6_2)]))], [], gh⟩ = some (e, s) :=
  runX_ok an_ref_Made (Eq.trans (by kernel_rfl) h)

end Go.Lw
end

/-! What the document makes of words is what the program makes of them. -/
section
namespace Go.Lw
open Go

theorem two_nat (k : Nat) : ((2 ^ k : Nat) : Int) = 2 ^ k := Int.natCast_pow 2 k

theorem Two_loop {k : Nat} (hk : k ≤ 61) (gh : List GObj) : ∀ m i, i + m = k → runL pg f_ref_Two_l1 ⟨[(0, I k), (3, I ((2 ^ i : Nat) : Int)), (4, I i)], [], gh⟩ = some (.normal, ⟨[(3, I ((2 ^ k : Nat) : Int))], [], gh⟩)
  | 0, i, h => by
    obtain rfl : i = k := by omega
    refine (lp_exit (s1 := ?s1) (D_ref_Two_b1_ok ?h1)).trans ?r1
    case h1 => simp [D_ref_Two_b1]; rfl
    case r1 => simp [keep]
  | m + 1, i, h => by
    have hlt : (i : Int) < (k : Int) := by omega
    have h1 : 2 ^ i ≤ 2 ^ 60 := Nat.pow_le_pow_right (by decide) (by omega)
    have e1 : IntKind.i64.wrap (2 * ((2 ^ i : Nat) : Int)) = ((2 ^ (i + 1) : Nat) : Int) := by
      rw [Nat.pow_succ]
      generalize 2 ^ i = q at h1
      rw [wrap_id (by omega) (by omega)]; omega
    have e2 : IntKind.i64.wrap ((i : Int) + 1) = ((i + 1 : Nat) : Int) := by rw [wrap_id (by omega) (by omega)]; omega
    refine lp_next (s1 := ⟨[(0, I k), (3, I ((2 ^ (i + 1) : Nat) : Int)), (4, I ((i + 1 : Nat) : Int))], [], gh⟩) (D_ref_Two_b1_ok ?h2) ?r2
    case h2 => rw [D_ref_Two_b1, e1, e2, decide_eq_true hlt]; rfl
    case r2 => exact Two_loop hk gh m (i + 1) (by omega)

theorem Two_eq {k : Nat} (hk : k ≤ 61) (gh : List GObj) : callL pg 27 [I k] gh = some (I ((2 ^ k : Nat) : Int), gh) := by
  have hl := Two_loop hk gh k 0 (by omega)
  have hk1 := D_ref_Two_k1_ok (pg := pg) (gh := gh) (x3 := ((2 ^ k : Nat) : Int)) (e := .ret) (s := ⟨[(2, I ((2 ^ k : Nat) : Int))], [], gh⟩) rfl
  refine callL_fn (fn := f_ref_Two) (s := ⟨[(2, I ((2 ^ k : Nat) : Int))], [], gh⟩) rfl rfl (D_ref_Two_0_ok ?h1) ?r1
  case h1 =>
    have hl' : runL pg f_ref_Two_l1 ⟨[(0, I k), (3, I 1), (4, I 0)], [], gh⟩ = some (.normal, ⟨[(3, I ((2 ^ k : Nat) : Int))], [], gh⟩) := hl
    rw [D_ref_Two_0, hl', kR_some, nx_normal, hk1, kR_some]
  case r1 => simp [finish, results, f_ref_Two, resOfs, resOf, resOk]

theorem Bit_eq {A i : Nat} (hA : A < 65536) (hi : i ≤ 61) (gh : List GObj) : callL pg 97 [I A, I i] gh = some (I ((A / 2 ^ i % 2 : Nat) : Int), gh) := by
  have h0 : (2 : Nat) ^ i ≠ 0 := by have := Nat.one_le_two_pow (n := i); omega
  have h1 : A / 2 ^ i ≤ A := Nat.div_le_self _ _
  have e1 : Int.tmod (IntKind.i64.wrap (Int.tdiv (A : Int) ((2 ^ i : Nat) : Int))) 2 = ((A / 2 ^ i % 2 : Nat) : Int) := by
    have e0 : Int.tdiv (A : Int) ((2 ^ i : Nat) : Int) = ((A / 2 ^ i : Nat) : Int) := (Int.ofNat_tdiv _ _).symm
    rw [e0]
    generalize A / 2 ^ i = q at h1
    rw [wrap_id (by omega) (by omega)]
    exact (Int.ofNat_tmod _ 2).symm
  have h2 : (((2 ^ i : Nat) : Int) ≠ 0) := by omega
  refine callL_fn (fn := f_ref_Bit) (s := ⟨[(4, I ((A / 2 ^ i % 2 : Nat) : Int))], [], gh⟩) rfl rfl (D_ref_Bit_0_ok ?h1) ?r1
  case h1 =>
    rw [D_ref_Bit_0, Two_eq hi gh, callR_t, unI_int, decide_eq_true h2, e1]; rfl
  case r1 => simp [finish, results, f_ref_Bit, resOfs, resOf, resOk]

theorem ryes_eq (b : Bool) (gh : List GObj) : callL pg 68 [B b] gh = some (I (if b then 1 else 0), gh) := by
  cases b
  · refine callL_fn (fn := f_ref_yes) (s := ?s1) rfl rfl (D_ref_yes_0_ok ?h1) ?r1
    case h1 => simp [D_ref_yes_0]; rfl
    case r1 => simp [finish, results, f_ref_yes, resOfs, resOf, resOk]
  · refine callL_fn (fn := f_ref_yes) (s := ?s2) rfl rfl (D_ref_yes_0_ok ?h2) ?r2
    case h2 => simp [D_ref_yes_0]; rfl
    case r2 => simp [finish, results, f_ref_yes, resOfs, resOf, resOk]

/-- Widths, one by one. -/
theorem w_cases {w : Nat} (hw : 1 ≤ w ∧ w ≤ 8) : w = 1 ∨ w = 2 ∨ w = 3 ∨ w = 4 ∨ w = 5 ∨ w = 6 ∨ w = 7 ∨ w = 8 := by omega

theorem sgn_bit {A w : Nat} (hw : 1 ≤ w ∧ w ≤ 8) (hA : A < 2 ^ w) : A / 2 ^ (w - 1) % 2 = if 2 ^ (w - 1) ≤ A then 1 else 0 := by
  rcases w_cases hw with rfl | rfl | rfl | rfl | rfl | rfl | rfl | rfl <;> simp at hA ⊢ <;> split <;> omega

theorem sgnOf_nat {A w : Nat} (hw : 1 ≤ w ∧ w ≤ 8) (hA : A < 2 ^ w) : sgnOf A w = if 2 ^ (w - 1) ≤ A then (A : Int) - ((2 ^ w : Nat) : Int) else A := by
  have h1 := pow_lt hw.2
  have e0 : ((w : Int) - 1) = ((w - 1 : Nat) : Int) := by omega
  rw [sgnOf, e0, iShl_one (by omega), iShl_one hw.2, ← two_nat, ← two_nat, wrap_id (by omega) (by omega)]
  by_cases h : 2 ^ (w - 1) ≤ A
  · rw [if_pos h, if_pos (by omega)]
  · rw [if_neg h, if_neg (by omega)]

theorem Signed_eq {A w : Nat} (hw : 1 ≤ w ∧ w ≤ 8) (hA : A < 2 ^ w) (gh : List GObj) : callL pg 69 [I A, I w] gh = some (I (sgnOf A w), gh) := by
  have h1 := pow_lt hw.2
  have e0 : IntKind.i64.wrap ((w : Int) - 1) = ((w - 1 : Nat) : Int) := by rw [wrap_id (by omega) (by omega)]; omega
  have hs := sgnOf_nat hw hA
  have hb := sgn_bit hw hA
  have ew : IntKind.i64.wrap ((A : Int) - ((2 ^ w : Nat) : Int)) = (A : Int) - ((2 ^ w : Nat) : Int) := wrap_id (by omega) (by omega)
  by_cases h : 2 ^ (w - 1) ≤ A
  · rw [if_pos h] at hs hb
    refine callL_fn (fn := f_ref_Signed) (s := ⟨[(4, I (sgnOf A w))], [], gh⟩) rfl rfl (D_ref_Signed_0_ok ?h1) ?r1
    case h1 =>
      rw [D_ref_Signed_0, e0, Bit_eq (by omega) (by omega), callR_t, unI_int, hb, show (((1 : Nat) : Int) == 1) = true from rfl, br_true, Two_eq (by omega), callR_t, unI_int, ew, hs]
    case r1 => simp [finish, results, f_ref_Signed, resOfs, resOf, resOk]
  · rw [if_neg h] at hs hb
    refine callL_fn (fn := f_ref_Signed) (s := ⟨[(4, I (sgnOf A w))], [], gh⟩) rfl rfl (D_ref_Signed_0_ok ?h2) ?r2
    case h2 =>
      rw [D_ref_Signed_0, e0, Bit_eq (by omega) (by omega), callR_t, unI_int, hb, hs, show (((0 : Nat) : Int) == 1) = false from rfl, br_false]
    case r2 => simp [finish, results, f_ref_Signed, resOfs, resOf, resOk]

/-- The entry of a table of four. -/
def tbl (t0 t1 t2 t3 : Int) (x y : Nat) : Int := if x = 0 then (if y = 0 then t0 else t1) else (if y = 0 then t2 else t3)

theorem bitwise_b1 {A B i w : Nat} (t0 t1 t2 t3 : Int) (s : Int) (hA : A < 65536) (hB : B < 65536) (hi : i < w) (hw : w ≤ 8) (gh : List GObj) :
    D_ref_bitwise_b1 pg A B w s i t0 t1 t2 t3 gh = some (.normal, ⟨[(0, I A), (1, I B), (2, I w), (7, .ptr false 0 0), (9, I (IntKind.i64.wrap (s + IntKind.i64.wrap (tbl t0 t1 t2 t3 (A / 2 ^ i % 2) (B / 2 ^ i % 2) * ((2 ^ i : Nat) : Int))))), (10, I ((i + 1 : Nat) : Int))], [[I t0, I t1, I t2, I t3]], gh⟩) := by
  have hlt : (i : Int) < (w : Int) := by omega
  have e2 : IntKind.i64.wrap ((i : Int) + 1) = ((i + 1 : Nat) : Int) := by rw [wrap_id (by omega) (by omega)]; omega
  have hx : A / 2 ^ i % 2 = 0 ∨ A / 2 ^ i % 2 = 1 := by omega
  have hy : B / 2 ^ i % 2 = 0 ∨ B / 2 ^ i % 2 = 1 := by omega
  rw [D_ref_bitwise_b1, e2, decide_eq_true hlt, br_true, Bit_eq hA (by omega), callR_t, unI_int, Bit_eq hB (by omega), callR_t, unI_int]
  rcases hx with hx | hx <;> rcases hy with hy | hy <;> rw [hx, hy]
  · rw [show IntKind.i64.wrap (IntKind.i64.wrap (2 * ((0 : Nat) : Int)) + ((0 : Nat) : Int)) = 0 by decide]
    have := Two_eq (show i ≤ 61 by omega) gh
    rw [two_nat] at this
    simp [this, tbl]
  · rw [show IntKind.i64.wrap (IntKind.i64.wrap (2 * ((0 : Nat) : Int)) + ((1 : Nat) : Int)) = 1 by decide]
    have := Two_eq (show i ≤ 61 by omega) gh
    rw [two_nat] at this
    simp [this, tbl]
  · rw [show IntKind.i64.wrap (IntKind.i64.wrap (2 * ((1 : Nat) : Int)) + ((0 : Nat) : Int)) = 2 by decide]
    have := Two_eq (show i ≤ 61 by omega) gh
    rw [two_nat] at this
    simp [this, tbl]
  · rw [show IntKind.i64.wrap (IntKind.i64.wrap (2 * ((1 : Nat) : Int)) + ((1 : Nat) : Int)) = 3 by decide]
    have := Two_eq (show i ≤ 61 by omega) gh
    rw [two_nat] at this
    simp [this, tbl]

theorem bitwise_loop {A B w R : Nat} (t0 t1 t2 t3 : Int) (hA : A < 65536) (hB : B < 65536) (hw : w ≤ 8) (hR : ∀ i, tbl t0 t1 t2 t3 (A / 2 ^ i % 2) (B / 2 ^ i % 2) = ((R / 2 ^ i % 2 : Nat) : Int)) (gh : List GObj) :
    ∀ m i, i + m = w → runL pg f_ref_bitwise_l1 ⟨[(0, I A), (1, I B), (2, I w), (7, .ptr false 0 0), (9, I ((R % 2 ^ i : Nat) : Int)), (10, I i)], [[I t0, I t1, I t2, I t3]], gh⟩ = some (.normal, ⟨[(9, I ((R % 2 ^ w : Nat) : Int))], [], gh⟩)
  | 0, i, h => by
    obtain rfl : i = w := by omega
    refine (lp_exit (s1 := ?s1) (D_ref_bitwise_b1_ok ?h1)).trans ?r1
    case h1 => simp only [D_ref_bitwise_b1, Int.lt_irrefl, decide_false, br_false]; rfl
    case r1 => rfl
  | m + 1, i, h => by
    refine lp_next (D_ref_bitwise_b1_ok (bitwise_b1 t0 t1 t2 t3 _ hA hB (by omega) hw gh)) ?r2
    have e : IntKind.i64.wrap (((R % 2 ^ i : Nat) : Int) + IntKind.i64.wrap (tbl t0 t1 t2 t3 (A / 2 ^ i % 2) (B / 2 ^ i % 2) * ((2 ^ i : Nat) : Int))) = ((R % 2 ^ (i + 1) : Nat) : Int) := by
      have h1 := pow_lt (show i ≤ 8 by omega)
      have h2 : R % 2 ^ i < 2 ^ i := Nat.mod_lt _ (by have := Nat.one_le_two_pow (n := i); omega)
      rw [hR i, ← Int.natCast_mul, Nat.mod_pow_succ, Nat.mul_comm (R / 2 ^ i % 2)]
      have h3 : 2 ^ i * (R / 2 ^ i % 2) ≤ 256 * 1 := Nat.mul_le_mul h1 (by omega)
      generalize R % 2 ^ i = x at h2 ⊢
      generalize 2 ^ i * (R / 2 ^ i % 2) = y at h3 ⊢
      generalize 2 ^ i = q at h1 h2
      rw [wrap_id (n := (y : Int)) (by omega) (by omega), wrap_id (by omega) (by omega)]
      omega
    rw [e]
    exact bitwise_loop t0 t1 t2 t3 hA hB hw hR gh m (i + 1) (by omega)

theorem bitwise_eq {A B w R : Nat} (t0 t1 t2 t3 : Int) (hA : A < 65536) (hB : B < 65536) (hw : w ≤ 8) (hR : ∀ i, tbl t0 t1 t2 t3 (A / 2 ^ i % 2) (B / 2 ^ i % 2) = ((R / 2 ^ i % 2 : Nat) : Int)) (gh : List GObj) :
    callL pg 67 [I A, I B, I w, .agg [I t0, I t1, I t2, I t3]] gh = some (I ((R % 2 ^ w : Nat) : Int), gh) := by
  have hl := bitwise_loop t0 t1 t2 t3 hA hB hw hR gh w 0 (by omega)
  rw [Nat.pow_zero, Nat.mod_one] at hl
  have hk1 := D_ref_bitwise_k1_ok (pg := pg) (gh := gh) (x9 := ((R % 2 ^ w : Nat) : Int)) (e := .ret) (s := ⟨[(8, I ((R % 2 ^ w : Nat) : Int))], [], gh⟩) rfl
  refine callL_fn (fn := f_ref_bitwise) (s := ⟨[(8, I ((R % 2 ^ w : Nat) : Int))], [], gh⟩) rfl rfl (D_ref_bitwise_0_ok ?h1) ?r1
  case h1 =>
    rw [D_ref_bitwise_0]
    erw [hl]
    rw [kR_some, nx_normal, hk1, kR_some]
  case r1 => simp [finish, results, f_ref_bitwise, resOfs, resOf, resOk]

theorem tbl_and (A B i : Nat) : tbl 0 0 0 1 (A / 2 ^ i % 2) (B / 2 ^ i % 2) = (((A &&& B) / 2 ^ i % 2 : Nat) : Int) := by
  rw [← Nat.toNat_testBit, ← Nat.toNat_testBit, ← Nat.toNat_testBit, Nat.testBit_and]
  cases A.testBit i <;> cases B.testBit i <;> rfl
theorem tbl_or (A B i : Nat) : tbl 0 1 1 1 (A / 2 ^ i % 2) (B / 2 ^ i % 2) = (((A ||| B) / 2 ^ i % 2 : Nat) : Int) := by
  rw [← Nat.toNat_testBit, ← Nat.toNat_testBit, ← Nat.toNat_testBit, Nat.testBit_or]
  cases A.testBit i <;> cases B.testBit i <;> rfl
theorem tbl_xor (A B i : Nat) : tbl 0 1 1 0 (A / 2 ^ i % 2) (B / 2 ^ i % 2) = (((A ^^^ B) / 2 ^ i % 2 : Nat) : Int) := by
  rw [← Nat.toNat_testBit, ← Nat.toNat_testBit, ← Nat.toNat_testBit, Nat.testBit_xor]
  cases A.testBit i <;> cases B.testBit i <;> rfl

end Go.Lw
end

/-! What the document makes of words, kind by kind. -/
section
namespace Go.Lw
open Go

theorem Made_e4 (W A B C N W0 W1 W2 : Nat) (gh : List GObj) : D_ref_Made_0 pg 4 W A B C N W0 W1 W2 gh = callR gh true (callL pg 27 [I W] gh) (fun r1 gh2 => unI .i64 r1 fun n3 => (some (.ret, ⟨[(14, (.int .i64 (IntKind.i64.wrap ((IntKind.i64.wrap (n3 - 1)) - (A : Int)))))], [], gh2⟩))) := rfl

theorem Made_e5 (W A B C N W0 W1 W2 : Nat) (gh : List GObj) : D_ref_Made_0 pg 5 W A B C N W0 W1 W2 gh = callR gh true (callL pg 27 [I W] gh) (fun r1 gh2 => unI .i64 r1 fun n3 => (gd (decide ((n3 : Int) ≠ 0)) (some (.ret, ⟨[(14, (.int .i64 (Int.tmod (IntKind.i64.wrap (n3 - (A : Int))) n3)))], [], gh2⟩)))) := rfl

theorem Made_e6 (W A B C N W0 W1 W2 : Nat) (gh : List GObj) : D_ref_Made_0 pg 6 W A B C N W0 W1 W2 gh = callR gh true (callL pg 27 [I W] gh) (fun r1 gh2 => unI .i64 r1 fun n3 => ( callR gh2 true (callL pg 67 [(.int .i64 (A : Int)), (.int .i64 (B : Int)), (.int .i64 (W : Int)), (.agg [(.int .i64 0), (.int .i64 0), (.int .i64 0), (.int .i64 1)])] gh2) fun r4 gh5 => unI .i64 r4 fun n6 => some (.ret, ⟨[(14, (.int .i64 n6))], [], gh5⟩))) := rfl

theorem Made_e7 (W A B C N W0 W1 W2 : Nat) (gh : List GObj) : D_ref_Made_0 pg 7 W A B C N W0 W1 W2 gh = callR gh true (callL pg 27 [I W] gh) (fun r1 gh2 => unI .i64 r1 fun n3 => ( callR gh2 true (callL pg 67 [(.int .i64 (A : Int)), (.int .i64 (B : Int)), (.int .i64 (W : Int)), (.agg [(.int .i64 0), (.int .i64 1), (.int .i64 1), (.int .i64 1)])] gh2) fun r7 gh8 => unI .i64 r7 fun n9 => some (.ret, ⟨[(14, (.int .i64 n9))], [], gh8⟩))) := rfl

theorem Made_e8 (W A B C N W0 W1 W2 : Nat) (gh : List GObj) : D_ref_Made_0 pg 8 W A B C N W0 W1 W2 gh = callR gh true (callL pg 27 [I W] gh) (fun r1 gh2 => unI .i64 r1 fun n3 => ( callR gh2 true (callL pg 67 [(.int .i64 (A : Int)), (.int .i64 (B : Int)), (.int .i64 (W : Int)), (.agg [(.int .i64 0), (.int .i64 1), (.int .i64 1), (.int .i64 0)])] gh2) fun r10 gh11 => unI .i64 r10 fun n12 => some (.ret, ⟨[(14, (.int .i64 n12))], [], gh11⟩))) := rfl

theorem Made_e9 (W A B C N W0 W1 W2 : Nat) (gh : List GObj) : D_ref_Made_0 pg 9 W A B C N W0 W1 W2 gh = callR gh true (callL pg 27 [I W] gh) (fun r1 gh2 => unI .i64 r1 fun n3 => (gd (decide ((n3 : Int) ≠ 0)) (some (.ret, ⟨[(14, (.int .i64 (Int.tmod (IntKind.i64.wrap ((A : Int) + (B : Int))) n3)))], [], gh2⟩)))) := rfl

theorem Made_e10 (W A B C N W0 W1 W2 : Nat) (gh : List GObj) : D_ref_Made_0 pg 10 W A B C N W0 W1 W2 gh = callR gh true (callL pg 27 [I W] gh) (fun r1 gh2 => unI .i64 r1 fun n3 => (gd (decide ((n3 : Int) ≠ 0)) (some (.ret, ⟨[(14, (.int .i64 (Int.tmod (IntKind.i64.wrap ((IntKind.i64.wrap ((A : Int) + n3)) - (B : Int))) n3)))], [], gh2⟩)))) := rfl

theorem Made_e11 (W A B C N W0 W1 W2 : Nat) (gh : List GObj) : D_ref_Made_0 pg 11 W A B C N W0 W1 W2 gh = callR gh true (callL pg 27 [I W] gh) (fun r1 gh2 => unI .i64 r1 fun n3 => (gd (decide ((n3 : Int) ≠ 0)) (some (.ret, ⟨[(14, (.int .i64 (Int.tmod (IntKind.i64.wrap ((A : Int) * (B : Int))) n3)))], [], gh2⟩)))) := rfl

theorem Made_e12 (W A B C N W0 W1 W2 : Nat) (gh : List GObj) : D_ref_Made_0 pg 12 W A B C N W0 W1 W2 gh = callR gh true (callL pg 27 [I W] gh) (fun r1 gh2 => unI .i64 r1 fun n3 => ( br 79 ((B : Int) == 0) (some (.ret, ⟨[(14, (.int .i64 (IntKind.i64.wrap (n3 - 1))))], [], gh2⟩)) (gd (decide (((B : Int) : Int) ≠ 0)) (some (.ret, ⟨[(14, (.int .i64 (IntKind.i64.wrap (Int.tdiv (A : Int) (B : Int)))))], [], gh2⟩))))) := rfl

theorem Made_e13 (W A B C N W0 W1 W2 : Nat) (gh : List GObj) : D_ref_Made_0 pg 13 W A B C N W0 W1 W2 gh = callR gh true (callL pg 27 [I W] gh) (fun r1 gh2 => unI .i64 r1 fun n3 => ( br 88 ((B : Int) == 0) (some (.ret, ⟨[(14, (.int .i64 (A : Int)))], [], gh2⟩)) (gd (decide (((B : Int) : Int) ≠ 0)) (some (.ret, ⟨[(14, (.int .i64 (Int.tmod (A : Int) (B : Int))))], [], gh2⟩))))) := rfl

theorem Made_e14 (W A B C N W0 W1 W2 : Nat) (gh : List GObj) : D_ref_Made_0 pg 14 W A B C N W0 W1 W2 gh = callR gh true (callL pg 27 [I W] gh) (fun r1 gh2 => unI .i64 r1 fun n3 => ( br 97 (decide ((W : Int) ≤ (B : Int))) (some (.ret, ⟨[(14, (.int .i64 0))], [], gh2⟩)) ( callR gh2 true (callL pg 27 [(.int .i64 (B : Int))] gh2) fun r13 gh14 => unI .i64 r13 fun n15 => gd (decide ((n3 : Int) ≠ 0)) (some (.ret, ⟨[(14, (.int .i64 (Int.tmod (IntKind.i64.wrap ((A : Int) * n15)) n3)))], [], gh14⟩))))) := rfl

theorem Made_e15 (W A B C N W0 W1 W2 : Nat) (gh : List GObj) : D_ref_Made_0 pg 15 W A B C N W0 W1 W2 gh = callR gh true (callL pg 27 [I W] gh) (fun r1 gh2 => unI .i64 r1 fun n3 => ( br 108 (decide ((W : Int) ≤ (B : Int))) (some (.ret, ⟨[(14, (.int .i64 0))], [], gh2⟩)) ( callR gh2 true (callL pg 27 [(.int .i64 (B : Int))] gh2) fun r16 gh17 => unI .i64 r16 fun n18 => gd (decide ((n18 : Int) ≠ 0)) (some (.ret, ⟨[(14, (.int .i64 (IntKind.i64.wrap (Int.tdiv (A : Int) n18))))], [], gh17⟩))))) := rfl

theorem Made_e16 (W A B C N W0 W1 W2 : Nat) (gh : List GObj) : D_ref_Made_0 pg 16 W A B C N W0 W1 W2 gh = callR gh true (callL pg 27 [I W] gh) (fun r1 gh2 => unI .i64 r1 fun n3 => ( callR gh2 true (callL pg 68 [(.bool ((A : Int) == (B : Int)))] gh2) fun r19 gh20 => unI .i64 r19 fun n21 => some (.ret, ⟨[(14, (.int .i64 n21))], [], gh20⟩))) := rfl

theorem Made_e17 (W A B C N W0 W1 W2 : Nat) (gh : List GObj) : D_ref_Made_0 pg 17 W A B C N W0 W1 W2 gh = callR gh true (callL pg 27 [I W] gh) (fun r1 gh2 => unI .i64 r1 fun n3 => ( callR gh2 true (callL pg 68 [(.bool (decide ((A : Int) < (B : Int))))] gh2) fun r22 gh23 => unI .i64 r22 fun n24 => some (.ret, ⟨[(14, (.int .i64 n24))], [], gh23⟩))) := rfl

theorem Made_e18 (W A B C N W0 W1 W2 : Nat) (gh : List GObj) : D_ref_Made_0 pg 18 W A B C N W0 W1 W2 gh = callR gh true (callL pg 27 [I W] gh) (fun r1 gh2 => unI .i64 r1 fun n3 => ( callR gh2 true (callL pg 69 [(.int .i64 (A : Int)), (.int .i64 (W0 : Int))] gh2) fun r25 gh26 => unI .i64 r25 fun n27 =>  callR gh26 true (callL pg 69 [(.int .i64 (B : Int)), (.int .i64 (W1 : Int))] gh26) fun r28 gh29 => unI .i64 r28 fun n30 =>  callR gh29 true (callL pg 68 [(.bool (decide (n27 < n30)))] gh29) fun r31 gh32 => unI .i64 r31 fun n33 => some (.ret, ⟨[(14, (.int .i64 n33))], [], gh32⟩))) := rfl

theorem Made_e19 (W A B C N W0 W1 W2 : Nat) (gh : List GObj) : D_ref_Made_0 pg 19 W A B C N W0 W1 W2 gh = callR gh true (callL pg 27 [I W] gh) (fun r1 gh2 => unI .i64 r1 fun n3 => ( br 140 ((A : Int) == 1) (some (.ret, ⟨[(14, (.int .i64 (B : Int)))], [], gh2⟩)) (some (.ret, ⟨[(14, (.int .i64 (C : Int)))], [], gh2⟩)))) := rfl

theorem Made_e20 (W A B C N W0 W1 W2 : Nat) (gh : List GObj) : D_ref_Made_0 pg 20 W A B C N W0 W1 W2 gh = callR gh true (callL pg 27 [I W] gh) (fun r1 gh2 => unI .i64 r1 fun n3 => ( callR gh2 true (callL pg 27 [(.int .i64 (W1 : Int))] gh2) fun r34 gh35 => unI .i64 r34 fun n36 => some (.ret, ⟨[(14, (.int .i64 (IntKind.i64.wrap ((IntKind.i64.wrap ((A : Int) * n36)) + (B : Int)))))], [], gh35⟩))) := rfl

theorem Made_e21 (W A B C N W0 W1 W2 : Nat) (gh : List GObj) : D_ref_Made_0 pg 21 W A B C N W0 W1 W2 gh = callR gh true (callL pg 27 [I W] gh) (fun r1 gh2 => unI .i64 r1 fun n3 => ( callR gh2 true (callL pg 27 [(.int .i64 (N : Int))] gh2) fun r37 gh38 => unI .i64 r37 fun n39 => gd (decide ((n39 : Int) ≠ 0)) (gd (decide ((n3 : Int) ≠ 0)) (some (.ret, ⟨[(14, (.int .i64 (Int.tmod (IntKind.i64.wrap (Int.tdiv (A : Int) n39)) n3)))], [], gh38⟩))))) := rfl

theorem Made_e23 (W A B C N W0 W1 W2 : Nat) (gh : List GObj) : D_ref_Made_0 pg 23 W A B C N W0 W1 W2 gh = callR gh true (callL pg 27 [I W] gh) (fun r1 gh2 => unI .i64 r1 fun n3 => ( callR gh2 true (callL pg 69 [(.int .i64 (A : Int)), (.int .i64 (W0 : Int))] gh2) fun r40 gh41 => unI .i64 r40 fun n42 => gd (decide ((n3 : Int) ≠ 0)) (some (.ret, ⟨[(14, (.int .i64 (Int.tmod (IntKind.i64.wrap (n42 + n3)) n3)))], [], gh41⟩)))) := rfl

theorem Made_e22 (W A B C N W0 W1 W2 : Nat) (gh : List GObj) : D_ref_Made_0 pg 22 W A B C N W0 W1 W2 gh = callR gh true (callL pg 27 [I W] gh) (fun r1 gh2 => unI .i64 r1 fun n3 => some (.ret, ⟨[(14, (.int .i64 (A : Int)))], [], gh2⟩)) := rfl

theorem raw_emod (k a b c n w0 w1 : Int) {W : Nat} (hW : W ≤ 8) : rawOf k W a b c n w0 w1 = doOf k a b c n w0 w1 % ((2 ^ W : Nat) : Int) := by
  unfold rawOf
  rw [mask_wrap hW, iAnd_mask _ hW, two_nat]

theorem tmod_nat (x : Int) (p : Nat) (h : 0 ≤ x) : Int.tmod x (p : Int) = x % (p : Int) := Int.tmod_eq_emod_of_nonneg h

theorem made4 {W A : Nat} (hW : 1 ≤ W ∧ W ≤ 8) (hA : A < 2 ^ W) : IntKind.i64.wrap (IntKind.i64.wrap (((2 ^ W : Nat) : Int) - 1) - (A : Int)) = iNot .i64 A % ((2 ^ W : Nat) : Int) := by
  have h1 := pow_lt hW.2
  rw [iNot_nat (by omega), wrap_id (n := ((2 ^ W : Nat) : Int) - 1) (by omega) (by omega), wrap_id (by omega) (by omega)]
  rcases w_cases hW with rfl | rfl | rfl | rfl | rfl | rfl | rfl | rfl <;> simp at hA ⊢ <;> omega

theorem made5 {W A : Nat} (hW : 1 ≤ W ∧ W ≤ 8) (hA : A < 2 ^ W) : Int.tmod (IntKind.i64.wrap (((2 ^ W : Nat) : Int) - (A : Int))) ((2 ^ W : Nat) : Int) = IntKind.i64.wrap (0 - (A : Int)) % ((2 ^ W : Nat) : Int) := by
  have h1 := pow_lt hW.2
  rw [wrap_id (by omega) (by omega), wrap_id (by omega) (by omega), tmod_nat _ _ (by omega)]
  rcases w_cases hW with rfl | rfl | rfl | rfl | rfl | rfl | rfl | rfl <;> simp at hA ⊢ <;> omega

theorem made9 {W A B : Nat} (hW : 1 ≤ W ∧ W ≤ 8) (hA : A < 2 ^ W) (hB : B < 2 ^ W) : Int.tmod (IntKind.i64.wrap ((A : Int) + B)) ((2 ^ W : Nat) : Int) = IntKind.i64.wrap ((A : Int) + B) % ((2 ^ W : Nat) : Int) := by
  have h1 := pow_lt hW.2
  rw [wrap_id (by omega) (by omega), tmod_nat _ _ (by omega)]

theorem made10 {W A B : Nat} (hW : 1 ≤ W ∧ W ≤ 8) (hA : A < 2 ^ W) (hB : B < 2 ^ W) : Int.tmod (IntKind.i64.wrap (IntKind.i64.wrap ((A : Int) + ((2 ^ W : Nat) : Int)) - B)) ((2 ^ W : Nat) : Int) = IntKind.i64.wrap ((A : Int) - B) % ((2 ^ W : Nat) : Int) := by
  have h1 := pow_lt hW.2
  rw [wrap_id (n := (A : Int) + ((2 ^ W : Nat) : Int)) (by omega) (by omega), wrap_id (by omega) (by omega), wrap_id (by omega) (by omega), tmod_nat _ _ (by omega)]
  rcases w_cases hW with rfl | rfl | rfl | rfl | rfl | rfl | rfl | rfl <;> simp at hA hB ⊢ <;> omega

theorem made11 {W A B : Nat} (hW : 1 ≤ W ∧ W ≤ 8) (hA : A < 2 ^ W) (hB : B < 2 ^ W) : Int.tmod (IntKind.i64.wrap ((A : Int) * B)) ((2 ^ W : Nat) : Int) = IntKind.i64.wrap ((A : Int) * B) % ((2 ^ W : Nat) : Int) := by
  have h1 := pow_lt hW.2
  have h2 : A * B ≤ 256 * 256 := Nat.mul_le_mul (by omega) (by omega)
  have e : (A : Int) * B = ((A * B : Nat) : Int) := by simp
  rw [e, wrap_id (by omega) (by omega), tmod_nat _ _ (by omega)]

theorem small_emod {W : Nat} {x : Int} (h0 : 0 ≤ x) (h : x < ((2 ^ W : Nat) : Int)) : x % ((2 ^ W : Nat) : Int) = x := Int.emod_eq_of_lt h0 h

theorem neg1_emod {W : Nat} (hW : 1 ≤ W ∧ W ≤ 8) : IntKind.i64.wrap (((2 ^ W : Nat) : Int) - 1) = (-1) % ((2 ^ W : Nat) : Int) := by
  rcases w_cases hW with rfl | rfl | rfl | rfl | rfl | rfl | rfl | rfl <;> decide

theorem made12 {W A B : Nat} (hW : 1 ≤ W ∧ W ≤ 8) (hA : A < 2 ^ W) : IntKind.i64.wrap (Int.tdiv (A : Int) B) = IntKind.i64.wrap (Int.tdiv (A : Int) B) % ((2 ^ W : Nat) : Int) := by
  have h1 := pow_lt hW.2
  have e0 : Int.tdiv (A : Int) (B : Int) = ((A / B : Nat) : Int) := (Int.ofNat_tdiv _ _).symm
  have h2 : A / B ≤ A := Nat.div_le_self _ _
  rw [e0]
  generalize A / B = q at h2
  rw [wrap_id (by omega) (by omega), small_emod (by omega) (by omega)]

theorem made13 {W A B : Nat} (hA : A < 2 ^ W) : Int.tmod (A : Int) B = Int.tmod (A : Int) B % ((2 ^ W : Nat) : Int) := by
  have e0 : Int.tmod (A : Int) (B : Int) = ((A % B : Nat) : Int) := (Int.ofNat_tmod _ _).symm
  have h2 : A % B ≤ A := Nat.mod_le _ _
  rw [e0]
  generalize A % B = q at h2
  rw [small_emod (by omega) (by omega)]

theorem made14 {W A B : Nat} (hW : 1 ≤ W ∧ W ≤ 8) (hA : A < 2 ^ W) (hB : B < W) : Int.tmod (IntKind.i64.wrap ((A : Int) * ((2 ^ B : Nat) : Int))) ((2 ^ W : Nat) : Int) = iShl .i64 A B % ((2 ^ W : Nat) : Int) := by
  have h1 := pow_lt hW.2
  have h2 := pow_lt (show B ≤ 8 by omega)
  have h3 : A * 2 ^ B ≤ 256 * 256 := Nat.mul_le_mul (by omega) h2
  rw [iShl_small (by omega) (by omega), ← Int.natCast_mul]
  generalize A * 2 ^ B = q at h3
  rw [wrap_id (by omega) (by omega), tmod_nat _ _ (by omega)]

theorem made15 {W A B : Nat} (hW : 1 ≤ W ∧ W ≤ 8) (hA : A < 2 ^ W) : IntKind.i64.wrap (Int.tdiv (A : Int) ((2 ^ B : Nat) : Int)) = iShr .i64 A B % ((2 ^ W : Nat) : Int) := by
  have h1 := pow_lt hW.2
  have h2 : A / 2 ^ B ≤ A := Nat.div_le_self _ _
  have e0 : Int.tdiv (A : Int) ((2 ^ B : Nat) : Int) = ((A / 2 ^ B : Nat) : Int) := (Int.ofNat_tdiv _ _).symm
  rw [iShr_nat _ _ (by omega), e0]
  generalize A / 2 ^ B = q at h2
  rw [wrap_id (by omega) (by omega), small_emod (by omega) (by omega)]

theorem made15z {W A B : Nat} (hA : A < 2 ^ W) (hW : W ≤ 8) (hB : W ≤ B) : iShr .i64 A B % ((2 ^ W : Nat) : Int) = 0 := by
  have h1 := pow_lt hW
  rw [iShr_nat _ _ (by omega), Nat.div_eq_of_lt (Nat.lt_of_lt_of_le hA (Nat.pow_le_pow_right (by decide) hB))]
  simp

theorem made20 {A B W0 W1 : Nat} (hA : A < 2 ^ W0) (hB : B < 2 ^ W1) (h0 : W0 + W1 ≤ 8) : IntKind.i64.wrap (IntKind.i64.wrap ((A : Int) * ((2 ^ W1 : Nat) : Int)) + B) = iOr .i64 (iShl .i64 A W1) B % ((2 ^ (W0 + W1) : Nat) : Int) := by
  have h1 := pow_lt (show W1 ≤ 8 by omega)
  have h2 := pow_lt (show W0 ≤ 8 by omega)
  have h3 := pow_lt h0
  have h4 : (A + 1) * 2 ^ W1 ≤ 2 ^ W0 * 2 ^ W1 := Nat.mul_le_mul_right _ hA
  rw [← Nat.pow_add, Nat.succ_mul] at h4
  rw [iShl_small (by omega) (by omega), iOr_nat (by omega) (by omega), ← Int.natCast_mul]
  have e : A * 2 ^ W1 ||| B = A * 2 ^ W1 + B := by rw [Nat.mul_comm, Nat.two_pow_add_eq_or_of_lt hB]
  rw [e]
  generalize A * 2 ^ W1 = q at h4
  rw [wrap_id (n := (q : Int)) (by omega) (by omega), wrap_id (by omega) (by omega), small_emod (by omega) (by omega)]
  omega

theorem made21 {W A N : Nat} (hW : 1 ≤ W ∧ W ≤ 8) (hA : A < 256) : Int.tmod (IntKind.i64.wrap (Int.tdiv (A : Int) ((2 ^ N : Nat) : Int))) ((2 ^ W : Nat) : Int) = iShr .i64 A N % ((2 ^ W : Nat) : Int) := by
  have h2 : A / 2 ^ N ≤ A := Nat.div_le_self _ _
  have e0 : Int.tdiv (A : Int) ((2 ^ N : Nat) : Int) = ((A / 2 ^ N : Nat) : Int) := (Int.ofNat_tdiv _ _).symm
  rw [iShr_nat _ _ (by omega), e0]
  generalize A / 2 ^ N = q at h2
  rw [wrap_id (by omega) (by omega), tmod_nat _ _ (by omega)]

theorem made23 {W A W0 : Nat} (hW : 1 ≤ W ∧ W ≤ 8) (h0 : 1 ≤ W0 ∧ W0 ≤ W) (hA : A < 2 ^ W0) : Int.tmod (IntKind.i64.wrap (sgnOf A W0 + ((2 ^ W : Nat) : Int))) ((2 ^ W : Nat) : Int) = sgnOf A W0 % ((2 ^ W : Nat) : Int) := by
  have h1 := pow_lt hW.2
  have h2 : 2 ^ W0 ≤ 2 ^ W := Nat.pow_le_pow_right (by decide) h0.2
  rw [sgnOf_nat (by omega) hA]
  split <;> rw [wrap_id (by omega) (by omega), tmod_nat _ _ (by omega), Int.add_emod_right]

theorem ne_two (W : Nat) : (((2 ^ W : Nat) : Int) ≠ 0) := by
  have := Nat.one_le_two_pow (n := W); omega

theorem Made_D {k : Int} {W A B C N W0 W1 W2 : Nat} {gh : List GObj} {s : Int} (hk : 4 ≤ k ∧ k < 24) (hs : shapeOf k = some s) (hf : fitsOf s W N W0 W1 W2 = true) (hW : 1 ≤ W ∧ W ≤ 8) (h0 : 1 ≤ W0 ∧ W0 ≤ 8) (h1 : 1 < takesOf k → 1 ≤ W1 ∧ W1 ≤ 8)
    (hA : A < 2 ^ W0) (hB : 1 < takesOf k → B < 2 ^ W1) (hC : 2 < takesOf k → C < 2 ^ W2) :
    D_ref_Made_0 pg k W A B C N W0 W1 W2 gh = some (.ret, ⟨[(14, I (rawOf k W A B C N W0 W1))], [], gh⟩) := by
  rw [raw_emod _ _ _ _ _ _ _ hW.2]
  have hT := Two_eq (show W ≤ 61 by omega) gh
  have hz := ne_two W
  have hzd : decide (((2 ^ W : Nat) : Int) ≠ 0) = true := decide_eq_true hz
  have hp := pow_lt hW.2
  have hp0 := pow_lt h0.2
  have : k = 4 ∨ k = 5 ∨ k = 6 ∨ k = 7 ∨ k = 8 ∨ k = 9 ∨ k = 10 ∨ k = 11 ∨ k = 12 ∨ k = 13 ∨ k = 14 ∨ k = 15 ∨ k = 16 ∨ k = 17 ∨ k = 18 ∨ k = 19 ∨ k = 20 ∨ k = 21 ∨ k = 22 ∨ k = 23 := by omega
  rcases this with rfl | rfl | rfl | rfl | rfl | rfl | rfl | rfl | rfl | rfl | rfl | rfl | rfl | rfl | rfl | rfl | rfl | rfl | rfl | rfl
  all_goals cases hs
  all_goals simp [fitsOf] at hf
  · rw [Made_e4, hT, callR_t, unI_int]
    obtain rfl : W0 = W := by omega
    rw [made4 hW hA]; rfl
  · rw [Made_e5, hT, callR_t, unI_int, hzd]
    obtain rfl : W0 = W := by omega
    rw [made5 hW hA]; rfl
  · obtain ⟨-, e0, e1⟩ := hf
    obtain rfl : W0 = W := by omega
    obtain rfl : W1 = W0 := by omega
    have hB := hB (by decide)
    rw [Made_e6, hT, callR_t, unI_int, bitwise_eq 0 0 0 1 (by omega) (by omega) hW.2 (tbl_and A B), callR_t, unI_int]
    rw [show doOf 6 A B C N W1 W1 = iAnd .i64 A B from rfl, iAnd_nat (by omega) (by omega), Int.natCast_emod]
  · obtain ⟨-, e0, e1⟩ := hf
    obtain rfl : W0 = W := by omega
    obtain rfl : W1 = W0 := by omega
    have hB := hB (by decide)
    rw [Made_e7, hT, callR_t, unI_int, bitwise_eq 0 1 1 1 (by omega) (by omega) hW.2 (tbl_or A B), callR_t, unI_int]
    rw [show doOf 7 A B C N W1 W1 = iOr .i64 A B from rfl, iOr_nat (by omega) (by omega), Int.natCast_emod]
  · obtain ⟨-, e0, e1⟩ := hf
    obtain rfl : W0 = W := by omega
    obtain rfl : W1 = W0 := by omega
    have hB := hB (by decide)
    rw [Made_e8, hT, callR_t, unI_int, bitwise_eq 0 1 1 0 (by omega) (by omega) hW.2 (tbl_xor A B), callR_t, unI_int]
    rw [show doOf 8 A B C N W1 W1 = iXor .i64 A B from rfl, iXor_nat (by omega) (by omega), Int.natCast_emod]
  · obtain ⟨-, e0, e1⟩ := hf
    obtain rfl : W0 = W := by omega
    obtain rfl : W1 = W0 := by omega
    rw [Made_e9, hT, callR_t, unI_int, hzd, made9 hW hA (hB (by decide))]; rfl
  · obtain ⟨-, e0, e1⟩ := hf
    obtain rfl : W0 = W := by omega
    obtain rfl : W1 = W0 := by omega
    rw [Made_e10, hT, callR_t, unI_int, hzd, made10 hW hA (hB (by decide))]; rfl
  · obtain ⟨-, e0, e1⟩ := hf
    obtain rfl : W0 = W := by omega
    obtain rfl : W1 = W0 := by omega
    rw [Made_e11, hT, callR_t, unI_int, hzd, made11 hW hA (hB (by decide))]; rfl
  · obtain ⟨-, e0, e1⟩ := hf
    obtain rfl : W0 = W := by omega
    obtain rfl : W1 = W0 := by omega
    rw [Made_e12, hT, callR_t, unI_int]
    by_cases hb : B = 0
    · subst hb
      rw [neg1_emod hW]; rfl
    · rw [show doOf 12 A B C N W1 W1 = if (B : Int) = 0 then -1 else IntKind.i64.wrap (Int.tdiv A B) from rfl, if_neg (by omega), ← made12 hW hA]
      simp [hb]
  · obtain ⟨-, e0, e1⟩ := hf
    obtain rfl : W0 = W := by omega
    obtain rfl : W1 = W0 := by omega
    rw [Made_e13, hT, callR_t, unI_int]
    by_cases hb : B = 0
    · subst hb
      rw [show doOf 13 A ((0 : Nat) : Int) C N W1 W1 = A from rfl, small_emod (by omega) (by omega)]; rfl
    · rw [show doOf 13 A B C N W1 W1 = if (B : Int) = 0 then (A : Int) else Int.tmod A B from rfl, if_neg (by omega), ← made13 hA]
      simp [hb]
  · obtain ⟨-, e0, e1⟩ := hf
    obtain rfl : W0 = W := by omega
    obtain rfl : W1 = W0 := by omega
    rw [Made_e14, hT, callR_t, unI_int, show doOf 14 A B C N W1 W1 = iShl .i64 A B from rfl]
    by_cases hb : W1 ≤ B
    · rw [decide_eq_true (by omega), two_nat, iShl_emod hW.2 hb]; rfl
    · rw [decide_eq_false (by omega), br_false, Two_eq (by omega), callR_t, unI_int, hzd, made14 hW hA (by omega)]; rfl
  · obtain ⟨-, e0, e1⟩ := hf
    obtain rfl : W0 = W := by omega
    obtain rfl : W1 = W0 := by omega
    rw [Made_e15, hT, callR_t, unI_int, show doOf 15 A B C N W1 W1 = iShr .i64 A B from rfl]
    by_cases hb : W1 ≤ B
    · rw [decide_eq_true (by omega), made15z hA hW.2 hb]; rfl
    · rw [decide_eq_false (by omega), br_false, Two_eq (by omega), callR_t, unI_int, decide_eq_true (ne_two B), made15 hW hA]; rfl
  · obtain ⟨-, e0, e1⟩ := hf
    obtain rfl : W = 1 := by omega
    rw [Made_e16, hT, callR_t, unI_int, ryes_eq, callR_t, unI_int, show doOf 16 A B C N W0 W1 = if (A : Int) = B then 1 else 0 from rfl]
    by_cases h : (A : Int) = B <;> simp [h]
  · obtain ⟨-, e0, e1⟩ := hf
    obtain rfl : W = 1 := by omega
    rw [Made_e17, hT, callR_t, unI_int, ryes_eq, callR_t, unI_int, show doOf 17 A B C N W0 W1 = if (A : Int) < B then 1 else 0 from rfl]
    by_cases h : (A : Int) < B
    · rw [decide_eq_true h]; simp [h]
    · rw [decide_eq_false h]; simp [h]
  · obtain ⟨-, e0, e1⟩ := hf
    obtain rfl : W = 1 := by omega
    rw [Made_e18, hT, callR_t, unI_int, Signed_eq h0 hA, callR_t, unI_int, Signed_eq (h1 (by decide)) (hB (by decide)), callR_t, unI_int, ryes_eq, callR_t, unI_int, show doOf 18 A B C N W0 W1 = if sgnOf A W0 < sgnOf B W1 then 1 else 0 from rfl]
    by_cases h : sgnOf A W0 < sgnOf B W1
    · rw [decide_eq_true h]; simp [h]
    · rw [decide_eq_false h]; simp [h]
  · obtain ⟨-, e0, e1, e2⟩ := hf
    obtain rfl : W1 = W := by omega
    obtain rfl : W2 = W1 := by omega
    have hB := hB (by decide)
    have hC := hC (by decide)
    rw [Made_e19, hT, callR_t, unI_int, show doOf 19 A B C N W0 W2 = if (A : Int) = 1 then (B : Int) else C from rfl]
    by_cases h : (A : Int) = 1
    · rw [if_pos h, small_emod (by omega) (by omega)]; simp [h]
    · rw [if_neg h, small_emod (by omega) (by omega)]; simp [h]
  · obtain ⟨-, e0⟩ := hf
    have g1 := h1 (by decide)
    rw [wrap_id (by omega) (by omega)] at e0
    obtain rfl : W = W0 + W1 := by omega
    rw [Made_e20, hT, callR_t, unI_int, Two_eq (by omega), callR_t, unI_int, made20 hA (hB (by decide)) hW.2]; rfl
  · rw [wrap_id (by omega) (by omega)] at hf
    rw [Made_e21, hT, callR_t, unI_int, Two_eq (by omega), callR_t, unI_int, decide_eq_true (ne_two N), hzd, made21 hW (by omega)]; rfl
  · obtain ⟨-, e0⟩ := hf
    have h2 : 2 ^ W0 ≤ 2 ^ W := Nat.pow_le_pow_right (by decide) (by omega)
    rw [Made_e22, hT, callR_t, unI_int, show doOf 22 A B C N W0 W1 = A from rfl, small_emod (by omega) (by omega)]
  · obtain ⟨-, e0⟩ := hf
    rw [Made_e23, hT, callR_t, unI_int, Signed_eq h0 hA, callR_t, unI_int, hzd, made23 hW (by omega) hA]; rfl

end Go.Lw
end

/-! What the code of function law_WordApplies comes to, piece by piece. Written by program (dprint.py). -/
section
set_option maxRecDepth 10000
set_option maxHeartbeats 4000000
namespace Go.Lw
open Go

def an_law_WordApplies : Tr := (.node 57 (.ce (.int .i64)) (.node 31 (.ce (.int .i64)) (.node 16 (.ce (.int .i64)) (.node 10 (.ce (.bool)) (.node 2 (.agg [.int .i64, .int .i64, .int .i64]) (.node 1 (.ce (.int .i64)) (.node 0 (.ce (.int .i64)) .nil .nil) .nil) (.node 4 (.agg [.int .i64, .int .i64, .int .i64]) (.node 3 (.ce (.int .i64)) .nil .nil) .nil)) (.node 13 (.ce (.int .i64)) (.node 12 (.ce (.int .i64)) (.node 11 (.ce (.int .i64)) .nil .nil) .nil) (.node 15 (.ce (.one)) (.node 14 (.ce (.int .i64)) .nil .nil) .nil))) (.node 25 (.ce (.int .i64)) (.node 19 (.ce (.int .i64)) (.node 18 (.ce (.int .i64)) (.node 17 (.tup 2) .nil .nil) .nil) (.node 23 (.ce (.int .i64)) (.node 21 (.ce (.int .i64)) .nil .nil) .nil)) (.node 28 (.tup 2) (.node 27 (.agg [.int .i64, .int .i64, .int .i64]) (.node 26 (.ce (.int .i64)) .nil .nil) .nil) (.node 30 (.ce (.int .i64)) (.node 29 (.ce (.int .i64)) .nil .nil) .nil)))) (.node 46 (.ce (.int .i64)) (.node 39 (.ce (.int .i64)) (.node 34 (.agg [.int .i64, .int .i64, .int .i64]) (.node 33 (.ce (.int .i64)) (.node 32 (.ce (.int .i64)) .nil .nil) .nil) (.node 37 (.ce (.int .i64)) (.node 35 (.ce (.int .i64)) .nil .nil) .nil)) (.node 43 (.ce (.int .i64)) (.node 42 (.ce (.one)) (.node 41 (.ce (.int .i64)) .nil .nil) .nil) (.node 45 (.ce (.bool)) (.node 44 (.ce (.bool)) .nil .nil) .nil))) (.node 52 (.ce (.int .i64)) (.node 49 (.ce (.int .i64)) (.node 48 (.ce (.bool)) (.node 47 (.ce (.bool)) .nil .nil) .nil) (.node 51 (.ce (.int .i64)) (.node 50 (.ce (.int .i64)) .nil .nil) .nil)) (.node 55 (.ce (.bool)) (.node 54 (.ce (.bool)) (.node 53 (.ce (.int .i64)) .nil .nil) .nil) (.node 56 (.ce (.one)) .nil .nil))))) (.node 84 (.ce (.bool)) (.node 72 (.ce (.bool)) (.node 65 (.ce (.int .i64)) (.node 61 (.ce (.bool)) (.node 60 (.ce (.bool)) (.node 59 (.ce (.int .i64)) .nil .nil) .nil) (.node 63 (.ce (.int .i64)) (.node 62 (.ce (.one)) .nil .nil) .nil)) (.node 69 (.ce (.int .i64)) (.node 68 (.ce (.int .i64)) (.node 66 (.ce (.int .i64)) .nil .nil) .nil) (.node 71 (.ce (.bool)) (.node 70 (.ce (.bool)) .nil .nil) .nil))) (.node 78 (.ce (.bool)) (.node 75 (.ce (.int .i64)) (.node 74 (.ce (.int .i64)) (.node 73 (.ce (.bool)) .nil .nil) .nil) (.node 77 (.ce (.bool)) (.node 76 (.ce (.int .i64)) .nil .nil) .nil)) (.node 82 (.ce (.int .i64)) (.node 80 (.ce (.int .i64)) (.node 79 (.ce (.one)) .nil .nil) .nil) (.node 83 (.ce (.bool)) .nil .nil)))) (.node 99 (.ce (.bool)) (.node 91 (.ce (.int .i64)) (.node 87 (.ce (.bool)) (.node 86 (.ce (.int .i64)) (.node 85 (.ce (.bool)) .nil .nil) .nil) (.node 89 (.ce (.int .i64)) (.node 88 (.ce (.int .i64)) .nil .nil) .nil)) (.node 96 (.ce (.int .i64)) (.node 95 (.ce (.int .i64)) (.node 93 (.ce (.int .i64)) .nil .nil) .nil) (.node 98 (.ce (.int .i64)) (.node 97 (.agg [.int .i64, .int .i64, .int .i64]) .nil .nil) .nil))) (.node 105 (.ce (.bool)) (.node 102 (.ce (.int .i64)) (.node 101 (.ce (.int .i64)) (.node 100 (.ce (.bool)) .nil .nil) .nil) (.node 104 (.ce (.bool)) (.node 103 (.ce (.bool)) .nil .nil) .nil)) (.node 108 (.ce (.bool)) (.node 107 (.ce (.int .i64)) (.node 106 (.ce (.int .i64)) .nil .nil) .nil) (.node 109 (.ce (.bool)) .nil .nil))))))

noncomputable def D_law_WordApplies_k1 (pg : Prg) (x0 : Int) (x1 : Int) (x3 : Int) (x11 : Int) (x12 : Int) (x13 : Int) (x14 : Int) (v15 : PV) (x16 : Int) (xc0_0 : Int) (xc0_1 : Int) (xc0_2 : Int) (xc1_0 : Int) (xc1_1 : Int) (xc1_2 : Int) (gh : List GObj) : Option (IExit × St) := stK 2 v15 (some (.normal, ⟨[(0, (.int .i64 x0)), (1, (.int .i64 x1)), (3, (.int .i64 x3)), (7, (.ptr false 0 0)), (9, (.ptr false 1 0)), (11, (.int .i64 x11)), (12, (.int .i64 x12)), (13, (.int .i64 x13)), (14, (.int .i64 x14)), (15, v15), (16, (.int .i64 (IntKind.i64.wrap (x16 + 1))))], [[(.int .i64 xc0_0), (.int .i64 xc0_1), (.int .i64 xc0_2)], [(.int .i64 xc1_0), (.int .i64 xc1_1), (.int .i64 xc1_2)]], gh⟩))

theorem D_law_WordApplies_k1_ok {pg : Prg} {gh : List GObj} {x0 : Int} {x1 : Int} {x3 : Int} {x11 : Int} {x12 : Int} {x13 : Int} {x14 : Int} {v15 : PV} {x16 : Int} {xc0_0 : Int} {xc0_1 : Int} {xc0_2 : Int} {xc1_0 : Int} {xc1_1 : Int} {xc1_2 : Int} {e : IExit} {s : St} (h : D_law_WordApplies_k1 pg x0 x1 x3 x11 x12 x13 x14 v15 x16 xc0_0 xc0_1 xc0_2 xc1_0 xc1_1 xc1_2 gh = some (e, s)) : runL pg f_law_WordApplies_k1 ⟨[(0, (.int .i64 x0)), (1, (.int .i64 x1)), (3, (.int .i64 x3)), (7, (.ptr false 0 0)), (9, (.ptr false 1 0)), (11, (.int .i64 x11)), (12, (.int .i64 x12)), (13, (.int .i64 x13)), (14, (.int .i64 x14)), (15, v15), (16, (.int .i64 x16))], [[(.int .i64 xc0_0), (.int .i64 xc0_1), (.int .i64 xc0_2)], [(.int .i64 xc1_0), (.int .i64 xc1_1), (.int .i64 xc1_2)]], gh⟩ = some (e, s) :=
  runX_ok an_law_WordApplies (Eq.trans (by kernel_rfl) h)

noncomputable def D_law_WordApplies_b1 (pg : Prg) (x0 : Int) (x1 : Int) (x3 : Int) (x11 : Int) (x12 : Int) (x13 : Int) (x14 : Int) (v15 : PV) (x16 : Int) (xc0_0 : Int) (xc0_1 : Int) (xc0_2 : Int) (xc1_0 : Int) (xc1_1 : Int) (xc1_2 : Int) (gh : List GObj) : Option (IExit × St) := 
  br 45 (decide (x16 < 3)) (stK 2 v15 (
  br 48 (x13 == 0) (
  callR gh true (callL pg 26 [(.int .i64 x0)] gh) fun r1 gh2 => unI .i64 r1 fun n3 => 
  br 55 (decide (x16 < n3)) (isC (degr v15) (
  idX 1 none (degr (degr v15)) x16 fun p4 => 
  ldX [[(.int .i64 xc0_0), (.int .i64 xc0_1), (.int .i64 xc0_2)], [(.int .i64 xc1_0), (.int .i64 xc1_1), (.int .i64 xc1_2)]] gh2 false 1 (degr p4) fun v5 => unI .i64 v5 fun n6 => 
  br 61 (decide (n6 < 0)) (stK 2 v15 (stK 2 v15 (stK 2 v15 (
  kR (runL pg f_law_WordApplies_k1 ⟨[(0, (.int .i64 x0)), (1, (.int .i64 x1)), (3, (.int .i64 x3)), (7, (.ptr false 0 0)), (9, (.ptr false 1 0)), (11, (.int .i64 x11)), (12, (.int .i64 x12)), (13, (.int .i64 3)), (14, (.int .i64 x14)), (15, v15), (16, (.int .i64 x16))], [[(.int .i64 xc0_0), (.int .i64 xc0_1), (.int .i64 xc0_2)], [(.int .i64 xc1_0), (.int .i64 xc1_1), (.int .i64 xc1_2)]], gh2⟩) (fun e s => po [0, 1, 3, 7, 9, 11, 12, 13, 14, 15, 16] 2 e s (fun e s => some (e, s))))))) (isC (degr v15) (
  idX 1 none (degr (degr v15)) x16 fun p7 => 
  ldX [[(.int .i64 xc0_0), (.int .i64 xc0_1), (.int .i64 xc0_2)], [(.int .i64 xc1_0), (.int .i64 xc1_1), (.int .i64 xc1_2)]] gh2 false 1 (degr p7) fun v8 => unI .i64 v8 fun n9 => gd (decide (0 ≤ x16 ∧ x16 < ((3 : Nat) : Int))) (
  ob (grab false 1 (0 + Int.toNat x16 * 1) [(.int .i64 xc1_0), (.int .i64 xc1_1), (.int .i64 xc1_2)]) fun v10 => unI .i64 (degr v10) fun n11 => 
  callR gh2 true (callL pg 27 [(.int .i64 n11)] gh2) fun r12 gh13 => unI .i64 r12 fun n14 => 
  br 73 (decide (n14 ≤ n9)) (stK 2 v15 (stK 2 v15 (stK 2 v15 (
  kR (runL pg f_law_WordApplies_k1 ⟨[(0, (.int .i64 x0)), (1, (.int .i64 x1)), (3, (.int .i64 x3)), (7, (.ptr false 0 0)), (9, (.ptr false 1 0)), (11, (.int .i64 x11)), (12, (.int .i64 x12)), (13, (.int .i64 3)), (14, (.int .i64 x14)), (15, v15), (16, (.int .i64 x16))], [[(.int .i64 xc0_0), (.int .i64 xc0_1), (.int .i64 xc0_2)], [(.int .i64 xc1_0), (.int .i64 xc1_1), (.int .i64 xc1_2)]], gh13⟩) (fun e s => po [0, 1, 3, 7, 9, 11, 12, 13, 14, 15, 16] 2 e s (fun e s => some (e, s))))))) (
  callR gh13 true (callL pg 26 [(.int .i64 x0)] gh13) fun r15 gh16 => unI .i64 r15 fun n17 => 
  br 78 (decide (n17 ≤ x16)) (isC (degr v15) (
  idX 1 none (degr (degr v15)) x16 fun p18 => 
  ldX [[(.int .i64 xc0_0), (.int .i64 xc0_1), (.int .i64 xc0_2)], [(.int .i64 xc1_0), (.int .i64 xc1_1), (.int .i64 xc1_2)]] gh16 false 1 (degr p18) fun v19 => unI .i64 v19 fun n20 => stK 2 v15 (
  br 85 (n20 != 0) (stK 2 v15 (stK 2 v15 (
  kR (runL pg f_law_WordApplies_k1 ⟨[(0, (.int .i64 x0)), (1, (.int .i64 x1)), (3, (.int .i64 x3)), (7, (.ptr false 0 0)), (9, (.ptr false 1 0)), (11, (.int .i64 x11)), (12, (.int .i64 x12)), (13, (.int .i64 3)), (14, (.int .i64 x14)), (15, v15), (16, (.int .i64 x16))], [[(.int .i64 xc0_0), (.int .i64 xc0_1), (.int .i64 xc0_2)], [(.int .i64 xc1_0), (.int .i64 xc1_1), (.int .i64 xc1_2)]], gh16⟩) (fun e s => po [0, 1, 3, 7, 9, 11, 12, 13, 14, 15, 16] 2 e s (fun e s => some (e, s)))))) (stK 2 v15 (
  kR (runL pg f_law_WordApplies_k1 ⟨[(0, (.int .i64 x0)), (1, (.int .i64 x1)), (3, (.int .i64 x3)), (7, (.ptr false 0 0)), (9, (.ptr false 1 0)), (11, (.int .i64 x11)), (12, (.int .i64 x12)), (13, (.int .i64 x13)), (14, (.int .i64 x14)), (15, v15), (16, (.int .i64 x16))], [[(.int .i64 xc0_0), (.int .i64 xc0_1), (.int .i64 xc0_2)], [(.int .i64 xc1_0), (.int .i64 xc1_1), (.int .i64 xc1_2)]], gh16⟩) (fun e s => po [0, 1, 3, 7, 9, 11, 12, 13, 14, 15, 16] 2 e s (fun e s => some (e, s)))))))) (stK 2 v15 (stK 2 v15 (
  kR (runL pg f_law_WordApplies_k1 ⟨[(0, (.int .i64 x0)), (1, (.int .i64 x1)), (3, (.int .i64 x3)), (7, (.ptr false 0 0)), (9, (.ptr false 1 0)), (11, (.int .i64 x11)), (12, (.int .i64 x12)), (13, (.int .i64 x13)), (14, (.int .i64 x14)), (15, v15), (16, (.int .i64 x16))], [[(.int .i64 xc0_0), (.int .i64 xc0_1), (.int .i64 xc0_2)], [(.int .i64 xc1_0), (.int .i64 xc1_1), (.int .i64 xc1_2)]], gh16⟩) (fun e s => po [0, 1, 3, 7, 9, 11, 12, 13, 14, 15, 16] 2 e s (fun e s => some (e, s)))))))))))) (
  callR gh2 true (callL pg 26 [(.int .i64 x0)] gh2) fun r21 gh22 => unI .i64 r21 fun n23 => 
  br 78 (decide (n23 ≤ x16)) (isC (degr v15) (
  idX 1 none (degr (degr v15)) x16 fun p24 => 
  ldX [[(.int .i64 xc0_0), (.int .i64 xc0_1), (.int .i64 xc0_2)], [(.int .i64 xc1_0), (.int .i64 xc1_1), (.int .i64 xc1_2)]] gh22 false 1 (degr p24) fun v25 => unI .i64 v25 fun n26 => stK 2 v15 (
  br 85 (n26 != 0) (stK 2 v15 (stK 2 v15 (
  kR (runL pg f_law_WordApplies_k1 ⟨[(0, (.int .i64 x0)), (1, (.int .i64 x1)), (3, (.int .i64 x3)), (7, (.ptr false 0 0)), (9, (.ptr false 1 0)), (11, (.int .i64 x11)), (12, (.int .i64 x12)), (13, (.int .i64 3)), (14, (.int .i64 x14)), (15, v15), (16, (.int .i64 x16))], [[(.int .i64 xc0_0), (.int .i64 xc0_1), (.int .i64 xc0_2)], [(.int .i64 xc1_0), (.int .i64 xc1_1), (.int .i64 xc1_2)]], gh22⟩) (fun e s => po [0, 1, 3, 7, 9, 11, 12, 13, 14, 15, 16] 2 e s (fun e s => some (e, s)))))) (stK 2 v15 (
  kR (runL pg f_law_WordApplies_k1 ⟨[(0, (.int .i64 x0)), (1, (.int .i64 x1)), (3, (.int .i64 x3)), (7, (.ptr false 0 0)), (9, (.ptr false 1 0)), (11, (.int .i64 x11)), (12, (.int .i64 x12)), (13, (.int .i64 x13)), (14, (.int .i64 x14)), (15, v15), (16, (.int .i64 x16))], [[(.int .i64 xc0_0), (.int .i64 xc0_1), (.int .i64 xc0_2)], [(.int .i64 xc1_0), (.int .i64 xc1_1), (.int .i64 xc1_2)]], gh22⟩) (fun e s => po [0, 1, 3, 7, 9, 11, 12, 13, 14, 15, 16] 2 e s (fun e s => some (e, s)))))))) (stK 2 v15 (stK 2 v15 (
  kR (runL pg f_law_WordApplies_k1 ⟨[(0, (.int .i64 x0)), (1, (.int .i64 x1)), (3, (.int .i64 x3)), (7, (.ptr false 0 0)), (9, (.ptr false 1 0)), (11, (.int .i64 x11)), (12, (.int .i64 x12)), (13, (.int .i64 x13)), (14, (.int .i64 x14)), (15, v15), (16, (.int .i64 x16))], [[(.int .i64 xc0_0), (.int .i64 xc0_1), (.int .i64 xc0_2)], [(.int .i64 xc1_0), (.int .i64 xc1_1), (.int .i64 xc1_2)]], gh22⟩) (fun e s => po [0, 1, 3, 7, 9, 11, 12, 13, 14, 15, 16] 2 e s (fun e s => some (e, s)))))))) (some ((.exit 0), ⟨[(0, (.int .i64 x0)), (1, (.int .i64 x1)), (3, (.int .i64 x3)), (7, (.ptr false 0 0)), (9, (.ptr false 1 0)), (11, (.int .i64 x11)), (12, (.int .i64 x12)), (13, (.int .i64 x13)), (14, (.int .i64 x14)), (15, v15), (16, (.int .i64 x16)), (48, (.bool (x13 == 0)))], [[(.int .i64 xc0_0), (.int .i64 xc0_1), (.int .i64 xc0_2)], [(.int .i64 xc1_0), (.int .i64 xc1_1), (.int .i64 xc1_2)]], gh⟩)))) (stK 2 v15 (some ((.exit 0), ⟨[(0, (.int .i64 x0)), (1, (.int .i64 x1)), (3, (.int .i64 x3)), (7, (.ptr false 0 0)), (9, (.ptr false 1 0)), (11, (.int .i64 x11)), (12, (.int .i64 x12)), (13, (.int .i64 x13)), (14, (.int .i64 x14)), (15, v15), (16, (.int .i64 x16)), (48, (.bool false))], [[(.int .i64 xc0_0), (.int .i64 xc0_1), (.int .i64 xc0_2)], [(.int .i64 xc1_0), (.int .i64 xc1_1), (.int .i64 xc1_2)]], gh⟩)))

theorem D_law_WordApplies_b1_ok {pg : Prg} {gh : List GObj} {x0 : Int} {x1 : Int} {x3 : Int} {x11 : Int} {x12 : Int} {x13 : Int} {x14 : Int} {v15 : PV} {x16 : Int} {xc0_0 : Int} {xc0_1 : Int} {xc0_2 : Int} {xc1_0 : Int} {xc1_1 : Int} {xc1_2 : Int} {e : IExit} {s : St} (h : D_law_WordApplies_b1 pg x0 x1 x3 x11 x12 x13 x14 v15 x16 xc0_0 xc0_1 xc0_2 xc1_0 xc1_1 xc1_2 gh = some (e, s)) : runL pg f_law_WordApplies_b1 ⟨[(0, (.int .i64 x0)), (1, (.int .i64 x1)), (3, (.int .i64 x3)), (7, (.ptr false 0 0)), (9, (.ptr false 1 0)), (11, (.int .i64 x11)), (12, (.int .i64 x12)), (13, (.int .i64 x13)), (14, (.int .i64 x14)), (15, v15), (16, (.int .i64 x16))], [[(.int .i64 xc0_0), (.int .i64 xc0_1), (.int .i64 xc0_2)], [(.int .i64 xc1_0), (.int .i64 xc1_1), (.int .i64 xc1_2)]], gh⟩ = some (e, s) :=
  runX_ok an_law_WordApplies (Eq.trans (by kernel_rfl) h)

noncomputable def D_law_WordApplies_k3 (pg : Prg) (x11 : Int) (x12 : Int) (x13 : Int) (x14 : Int) (gh : List GObj) : Option (IExit × St) := 
  callR gh true (callL pg 21 [] gh) fun r1 gh2 => unB r1 fun b3 => 
  br 100 b3 (
  br 105 (x12 == x13) (some (.ret, ⟨[(10, (.bool (x11 == x14)))], [], gh2⟩)) (some (.ret, ⟨[(10, (.bool false))], [], gh2⟩))) (some (.ret, ⟨[(10, (.bool false))], [], gh2⟩))

theorem D_law_WordApplies_k3_ok {pg : Prg} {gh : List GObj} {x11 : Int} {x12 : Int} {x13 : Int} {x14 : Int} {e : IExit} {s : St} (h : D_law_WordApplies_k3 pg x11 x12 x13 x14 gh = some (e, s)) : runL pg f_law_WordApplies_k3 ⟨[(11, (.int .i64 x11)), (12, (.int .i64 x12)), (13, (.int .i64 x13)), (14, (.int .i64 x14))], [], gh⟩ = some (e, s) :=
  runX_ok an_law_WordApplies (Eq.trans (by kernel_rfl) h)

noncomputable def D_law_WordApplies_k2 (pg : Prg) (x0 : Int) (x1 : Int) (x3 : Int) (x11 : Int) (x12 : Int) (x13 : Int) (x14 : Int) (xc0_0 : Int) (xc0_1 : Int) (xc0_2 : Int) (xc1_0 : Int) (xc1_1 : Int) (xc1_2 : Int) (gh : List GObj) : Option (IExit × St) := 
  br 87 (x13 == 0) (
  callR gh true (callL pg 28 [(.int .i64 x0), (.int .i64 x1), (.int .i64 xc0_0), (.int .i64 xc0_1), (.int .i64 xc0_2), (.int .i64 x3), (.agg [(.int .i64 xc1_0), (.int .i64 xc1_1), (.int .i64 xc1_2)])] gh) fun r1 gh2 => unI .i64 r1 fun n3 => 
  kR (runL pg f_law_WordApplies_k3 ⟨[(11, (.int .i64 x11)), (12, (.int .i64 x12)), (13, (.int .i64 x13)), (14, (.int .i64 n3))], [], gh2⟩) (fun e s => some (e, s))) (
  kR (runL pg f_law_WordApplies_k3 ⟨[(11, (.int .i64 x11)), (12, (.int .i64 x12)), (13, (.int .i64 x13)), (14, (.int .i64 x14))], [], gh⟩) (fun e s => some (e, s)))

theorem D_law_WordApplies_k2_ok {pg : Prg} {gh : List GObj} {x0 : Int} {x1 : Int} {x3 : Int} {x11 : Int} {x12 : Int} {x13 : Int} {x14 : Int} {xc0_0 : Int} {xc0_1 : Int} {xc0_2 : Int} {xc1_0 : Int} {xc1_1 : Int} {xc1_2 : Int} {e : IExit} {s : St} (h : D_law_WordApplies_k2 pg x0 x1 x3 x11 x12 x13 x14 xc0_0 xc0_1 xc0_2 xc1_0 xc1_1 xc1_2 gh = some (e, s)) : runL pg f_law_WordApplies_k2 ⟨[(0, (.int .i64 x0)), (1, (.int .i64 x1)), (3, (.int .i64 x3)), (7, (.ptr false 0 0)), (9, (.ptr false 1 0)), (11, (.int .i64 x11)), (12, (.int .i64 x12)), (13, (.int .i64 x13)), (14, (.int .i64 x14))], [[(.int .i64 xc0_0), (.int .i64 xc0_1), (.int .i64 xc0_2)], [(.int .i64 xc1_0), (.int .i64 xc1_1), (.int .i64 xc1_2)]], gh⟩ = some (e, s) :=
  runX_ok an_law_WordApplies (Eq.trans (by kernel_rfl) h)

noncomputable def D_law_WordApplies_0 (pg : Prg) (x0 : Int) (x1 : Int) (x2_0 : Int) (x2_1 : Int) (x2_2 : Int) (x3 : Int) (x4_0 : Int) (x4_1 : Int) (x4_2 : Int) (gh : List GObj) : Option (IExit × St) := 
  callR gh true (callL pg 25 [(.int .i64 x0), (.int .i64 x1), (.int .i64 x2_0), (.int .i64 x2_1), (.int .i64 x2_2), (.int .i64 x3), (.agg [(.int .i64 x4_0), (.int .i64 x4_1), (.int .i64 x4_2)])] gh) fun r1 gh2 => unT 2 r1 fun r3 r4 => unI .i64 (degr1 (degr1 r3)) fun n5 => unI .i64 (degr1 (degr1 r4)) fun n6 => 
  callR gh2 true (callL pg 23 [(.int .i64 x0), (.int .i64 x1), (.int .i64 x3), (.agg [(.int .i64 x4_0), (.int .i64 x4_1), (.int .i64 x4_2)])] gh2) fun r7 gh8 => unI .i64 r7 fun n9 => 
  kR (runL pg f_law_WordApplies_l1 ⟨[(0, (.int .i64 x0)), (1, (.int .i64 x1)), (3, (.int .i64 x3)), (7, (.ptr false 0 0)), (9, (.ptr false 1 0)), (11, (.int .i64 n5)), (12, (.int .i64 n6)), (13, (.int .i64 n9)), (14, (.int .i64 0)), (15, (.sl true 1 [(.int .i64 x2_0), (.int .i64 x2_1), (.int .i64 x2_2)])), (16, (.int .i64 0))], [[(.int .i64 x2_0), (.int .i64 x2_1), (.int .i64 x2_2)], [(.int .i64 x4_0), (.int .i64 x4_1), (.int .i64 x4_2)]], gh8⟩) (fun e s => nx e s (fun e s => some (e, s)) fun s => kR (runL pg f_law_WordApplies_k2 s) (fun e s => some (e, s)))

theorem D_law_WordApplies_0_ok {pg : Prg} {gh : List GObj} {x0 : Int} {x1 : Int} {x2_0 : Int} {x2_1 : Int} {x2_2 : Int} {x3 : Int} {x4_0 : Int} {x4_1 : Int} {x4_2 : Int} {e : IExit} {s : St} (h : D_law_WordApplies_0 pg x0 x1 x2_0 x2_1 x2_2 x3 x4_0 x4_1 x4_2 gh = some (e, s)) : runL pg f_law_WordApplies_0 ⟨[(0, (.int .i64 x0)), (1, (.int .i64 x1)), (2, (.agg [(.int .i64 x2_0), (.int .i64 x2_1), (.int .i64 x2_2)])), (3, (.int .i64 x3)), (4, (.agg [(.int .i64 x4_0), (.int .i64 x4_1), (.int .i64 x4_2)]))], [], gh⟩ = some (e, s) :=
  runX_ok an_law_WordApplies (Eq.trans (by kernel_rfl) h)

end Go.Lw
end

/-! What the code of function law_WordTurns comes to, piece by piece. Written by program (dprint.py). -/
section
set_option maxRecDepth 10000
set_option maxHeartbeats 4000000
namespace Go.Lw
open Go

def an_law_WordTurns : Tr := (.node 78 (.ce (.int .i64)) (.node 41 (.ce (.int .i64)) (.node 22 (.ce (.int .i64)) (.node 13 (.ce (.int .i64)) (.node 8 (.ce (.int .i64)) (.node 2 (.ce (.int .i64)) (.node 1 (.ce (.int .i64)) (.node 0 (.ce (.int .i64)) .nil .nil) .nil) (.node 6 (.ce (.bool)) .nil .nil)) (.node 11 (.ce (.int .i64)) (.node 10 (.ce (.int .i64)) (.node 9 (.ce (.int .i64)) .nil .nil) .nil) (.node 12 (.ce (.int .i64)) .nil .nil))) (.node 18 (.ce (.int .i64)) (.node 16 (.ce (.int .i64)) (.node 15 (.ce (.int .i64)) (.node 14 (.ce (.int .i64)) .nil .nil) .nil) (.node 17 (.ce (.int .i64)) .nil .nil)) (.node 20 (.ce (.bool)) (.node 19 (.ce (.bool)) .nil .nil) (.node 21 (.ce (.int .i64)) .nil .nil)))) (.node 32 (.ce (.int .i64)) (.node 27 (.ce (.int .i64)) (.node 25 (.ce (.int .i64)) (.node 24 (.ce (.int .i64)) (.node 23 (.ce (.int .i64)) .nil .nil) .nil) (.node 26 (.ce (.int .i64)) .nil .nil)) (.node 30 (.ce (.int .i64)) (.node 29 (.ce (.int .i64)) (.node 28 (.ce (.int .i64)) .nil .nil) .nil) (.node 31 (.ce (.int .i64)) .nil .nil))) (.node 37 (.ce (.int .i64)) (.node 35 (.tup 2) (.node 34 (.agg [.int .i64, .int .i64, .int .i64]) (.node 33 (.ce (.int .i64)) .nil .nil) .nil) (.node 36 (.ce (.int .i64)) .nil .nil)) (.node 39 (.agg [.int .i64, .int .i64, .int .i64]) (.node 38 (.ce (.int .i64)) .nil .nil) (.node 40 (.tup 2) .nil .nil))))) (.node 60 (.ce (.int .i64)) (.node 51 (.tup 2) (.node 46 (.ce (.int .i64)) (.node 44 (.ce (.int .i64)) (.node 43 (.tup 2) (.node 42 (.ce (.int .i64)) .nil .nil) .nil) (.node 45 (.ce (.int .i64)) .nil .nil)) (.node 49 (.ce (.int .i64)) (.node 48 (.tup 2) (.node 47 (.agg [.int .i64, .int .i64, .int .i64]) .nil .nil) .nil) (.node 50 (.ce (.int .i64)) .nil .nil))) (.node 56 (.tup 2) (.node 54 (.ce (.int .i64)) (.node 53 (.ce (.int .i64)) (.node 52 (.ce (.int .i64)) .nil .nil) .nil) (.node 55 (.agg [.int .i64, .int .i64, .int .i64]) .nil .nil)) (.node 58 (.ce (.int .i64)) (.node 57 (.ce (.int .i64)) .nil .nil) (.node 59 (.tup 2) .nil .nil)))) (.node 69 (.ce (.bool)) (.node 65 (.ce (.int .i64)) (.node 63 (.agg [.int .i64, .int .i64, .int .i64]) (.node 62 (.ce (.int .i64)) (.node 61 (.ce (.int .i64)) .nil .nil) .nil) (.node 64 (.tup 2) .nil .nil)) (.node 67 (.ce (.int .i64)) (.node 66 (.ce (.int .i64)) .nil .nil) (.node 68 (.ce (.bool)) .nil .nil))) (.node 74 (.ce (.int .i64)) (.node 72 (.ce (.bool)) (.node 71 (.ce (.bool)) (.node 70 (.ce (.int .i64)) .nil .nil) .nil) (.node 73 (.ce (.bool)) .nil .nil)) (.node 76 (.ce (.bool)) (.node 75 (.ce (.bool)) .nil .nil) (.node 77 (.ce (.bool)) .nil .nil)))))) (.node 116 (.ce (.int .i64)) (.node 97 (.ce (.int .i64)) (.node 88 (.ce (.bool)) (.node 83 (.ce (.int .i64)) (.node 81 (.ce (.bool)) (.node 80 (.ce (.bool)) (.node 79 (.ce (.bool)) .nil .nil) .nil) (.node 82 (.ce (.int .i64)) .nil .nil)) (.node 86 (.ce (.int .i64)) (.node 85 (.ce (.bool)) (.node 84 (.ce (.bool)) .nil .nil) .nil) (.node 87 (.ce (.bool)) .nil .nil))) (.node 93 (.ce (.int .i64)) (.node 91 (.ce (.int .i64)) (.node 90 (.ce (.int .i64)) (.node 89 (.ce (.int .i64)) .nil .nil) .nil) (.node 92 (.ce (.int .i64)) .nil .nil)) (.node 95 (.ce (.bool)) (.node 94 (.ce (.int .i64)) .nil .nil) (.node 96 (.ce (.bool)) .nil .nil)))) (.node 107 (.ce (.int .i64)) (.node 102 (.ce (.int .i64)) (.node 100 (.ce (.bool)) (.node 99 (.ce (.bool)) (.node 98 (.ce (.int .i64)) .nil .nil) .nil) (.node 101 (.ce (.bool)) .nil .nil)) (.node 105 (.tup 2) (.node 104 (.ce (.bool)) (.node 103 (.ce (.int .i64)) .nil .nil) .nil) (.node 106 (.ce (.int .i64)) .nil .nil))) (.node 112 (.ce (.int .i64)) (.node 110 (.agg [.int .i64, .int .i64, .int .i64]) (.node 109 (.ce (.int .i64)) (.node 108 (.ce (.int .i64)) .nil .nil) .nil) (.node 111 (.tup 2) .nil .nil)) (.node 114 (.tup 2) (.node 113 (.ce (.int .i64)) .nil .nil) (.node 115 (.ce (.int .i64)) .nil .nil))))) (.node 135 (.ce (.bool)) (.node 126 (.ce (.int .i64)) (.node 121 (.ce (.int .i64)) (.node 119 (.agg [.int .i64, .int .i64, .int .i64]) (.node 118 (.ce (.int .i64)) (.node 117 (.ce (.int .i64)) .nil .nil) .nil) (.node 120 (.tup 2) .nil .nil)) (.node 124 (.ce (.int .i64)) (.node 123 (.tup 2) (.node 122 (.ce (.int .i64)) .nil .nil) .nil) (.node 125 (.ce (.int .i64)) .nil .nil))) (.node 131 (.ce (.int .i64)) (.node 129 (.agg [.int .i64, .int .i64, .int .i64]) (.node 128 (.ce (.int .i64)) (.node 127 (.ce (.int .i64)) .nil .nil) .nil) (.node 130 (.tup 2) .nil .nil)) (.node 133 (.ce (.int .i64)) (.node 132 (.ce (.int .i64)) .nil .nil) (.node 134 (.ce (.bool)) .nil .nil)))) (.node 144 (.ce (.int .i64)) (.node 140 (.ce (.int .i64)) (.node 138 (.ce (.bool)) (.node 137 (.ce (.bool)) (.node 136 (.ce (.int .i64)) .nil .nil) .nil) (.node 139 (.ce (.bool)) .nil .nil)) (.node 142 (.ce (.bool)) (.node 141 (.ce (.bool)) .nil .nil) (.node 143 (.ce (.bool)) .nil .nil))) (.node 149 (.ce (.int .i64)) (.node 147 (.ce (.bool)) (.node 146 (.ce (.bool)) (.node 145 (.ce (.int .i64)) .nil .nil) .nil) (.node 148 (.ce (.bool)) .nil .nil)) (.node 151 (.ce (.bool)) (.node 150 (.ce (.int .i64)) .nil .nil) (.node 152 (.ce (.bool)) .nil .nil)))))))

noncomputable def D_law_WordTurns_0 (pg : Prg) (x0 : Int) (x1 : Int) (x2 : Int) (gh : List GObj) : Option (IExit × St) := 
  callR gh true (callL pg 21 [] gh) fun r1 gh2 => unB r1 fun b3 => 
  br 20 (!b3) (some (.ret, ⟨[(6, (.bool false))], [], gh2⟩)) (
  callR gh2 true (callL pg 30 [(.int .i64 x0), (.int .i64 8)] gh2) fun r4 gh5 => unI .i64 r4 fun n6 => 
  callR gh5 true (callL pg 27 [(.int .i64 (IntKind.i64.wrap (1 + n6)))] gh5) fun r7 gh8 => unI .i64 r7 fun n9 => 
  callR gh8 true (callL pg 30 [(.int .i64 x1), (.int .i64 n9)] gh8) fun r10 gh11 => unI .i64 r10 fun n12 => 
  callR gh11 true (callL pg 27 [(.int .i64 (IntKind.i64.wrap (1 + n6)))] gh11) fun r13 gh14 => unI .i64 r13 fun n15 => 
  callR gh14 true (callL pg 30 [(.int .i64 x2), (.int .i64 n15)] gh14) fun r16 gh17 => unI .i64 r16 fun n18 => 
  callR gh17 true (callL pg 25 [(.int .i64 9), (.int .i64 (IntKind.i64.wrap (1 + n6))), (.int .i64 n12), (.int .i64 n18), (.int .i64 0), (.int .i64 0), (.agg [(.int .i64 (IntKind.i64.wrap (1 + n6))), (.int .i64 (IntKind.i64.wrap (1 + n6))), (.int .i64 0)])] gh17) fun r19 gh20 => unT 2 r19 fun r21 r22 => unI .i64 (degr1 (degr1 r21)) fun n23 => unI .i64 (degr1 (degr1 r22)) fun n24 => 
  callR gh20 true (callL pg 25 [(.int .i64 10), (.int .i64 (IntKind.i64.wrap (1 + n6))), (.int .i64 n23), (.int .i64 n18), (.int .i64 0), (.int .i64 0), (.agg [(.int .i64 (IntKind.i64.wrap (1 + n6))), (.int .i64 (IntKind.i64.wrap (1 + n6))), (.int .i64 0)])] gh20) fun r25 gh26 => unT 2 r25 fun r27 r28 => unI .i64 (degr1 (degr1 r27)) fun n29 => unI .i64 (degr1 (degr1 r28)) fun n30 => 
  callR gh26 true (callL pg 25 [(.int .i64 12), (.int .i64 (IntKind.i64.wrap (1 + n6))), (.int .i64 n12), (.int .i64 n18), (.int .i64 0), (.int .i64 0), (.agg [(.int .i64 (IntKind.i64.wrap (1 + n6))), (.int .i64 (IntKind.i64.wrap (1 + n6))), (.int .i64 0)])] gh26) fun r31 gh32 => unT 2 r31 fun r33 r34 => unI .i64 (degr1 (degr1 r33)) fun n35 => unI .i64 (degr1 (degr1 r34)) fun n36 => 
  callR gh32 true (callL pg 25 [(.int .i64 13), (.int .i64 (IntKind.i64.wrap (1 + n6))), (.int .i64 n12), (.int .i64 n18), (.int .i64 0), (.int .i64 0), (.agg [(.int .i64 (IntKind.i64.wrap (1 + n6))), (.int .i64 (IntKind.i64.wrap (1 + n6))), (.int .i64 0)])] gh32) fun r37 gh38 => unT 2 r37 fun r39 r40 => unI .i64 (degr1 (degr1 r39)) fun n41 => unI .i64 (degr1 (degr1 r40)) fun n42 => 
  br 69 (n24 != 0) (some (.ret, ⟨[(6, (.bool false))], [], gh38⟩)) (
  br 73 (n30 != 0) (some (.ret, ⟨[(6, (.bool false))], [], gh38⟩)) (
  br 77 (n36 != 0) (some (.ret, ⟨[(6, (.bool false))], [], gh38⟩)) (
  br 81 (n42 != 0) (some (.ret, ⟨[(6, (.bool false))], [], gh38⟩)) (
  br 85 (n29 != n12) (some (.ret, ⟨[(6, (.bool false))], [], gh38⟩)) (
  br 88 (n18 != 0) (
  br 96 ((IntKind.i64.wrap ((IntKind.i64.wrap (n35 * n18)) + n41)) != n12) (some (.ret, ⟨[(6, (.bool false))], [], gh38⟩)) (
  br 101 (decide (n18 ≤ n41)) (some (.ret, ⟨[(6, (.bool false))], [], gh38⟩)) (
  br 104 (decide (8 < (IntKind.i64.wrap (2 * (IntKind.i64.wrap (1 + n6)))))) (some (.ret, ⟨[(6, (.bool true))], [], gh38⟩)) (
  callR gh38 true (callL pg 25 [(.int .i64 20), (.int .i64 (IntKind.i64.wrap (2 * (IntKind.i64.wrap (1 + n6))))), (.int .i64 n12), (.int .i64 n18), (.int .i64 0), (.int .i64 0), (.agg [(.int .i64 (IntKind.i64.wrap (1 + n6))), (.int .i64 (IntKind.i64.wrap (1 + n6))), (.int .i64 0)])] gh38) fun r43 gh44 => unT 2 r43 fun r45 r46 => unI .i64 (degr1 (degr1 r45)) fun n47 => unI .i64 (degr1 (degr1 r46)) fun n48 => 
  callR gh44 true (callL pg 25 [(.int .i64 21), (.int .i64 (IntKind.i64.wrap (1 + n6))), (.int .i64 n47), (.int .i64 0), (.int .i64 0), (.int .i64 0), (.agg [(.int .i64 (IntKind.i64.wrap (2 * (IntKind.i64.wrap (1 + n6))))), (.int .i64 0), (.int .i64 0)])] gh44) fun r49 gh50 => unT 2 r49 fun r51 r52 => unI .i64 (degr1 (degr1 r51)) fun n53 => unI .i64 (degr1 (degr1 r52)) fun n54 => 
  callR gh50 true (callL pg 25 [(.int .i64 21), (.int .i64 (IntKind.i64.wrap (1 + n6))), (.int .i64 n47), (.int .i64 0), (.int .i64 0), (.int .i64 (IntKind.i64.wrap (1 + n6))), (.agg [(.int .i64 (IntKind.i64.wrap (2 * (IntKind.i64.wrap (1 + n6))))), (.int .i64 0), (.int .i64 0)])] gh50) fun r55 gh56 => unT 2 r55 fun r57 r58 => unI .i64 (degr1 (degr1 r57)) fun n59 => unI .i64 (degr1 (degr1 r58)) fun n60 => 
  br 135 (n48 == 0) (
  br 139 (n54 == 0) (
  br 143 (n60 == 0) (
  br 148 (n53 == n18) (some (.ret, ⟨[(6, (.bool (n59 == n12)))], [], gh56⟩)) (some (.ret, ⟨[(6, (.bool false))], [], gh56⟩))) (some (.ret, ⟨[(6, (.bool false))], [], gh56⟩))) (some (.ret, ⟨[(6, (.bool false))], [], gh56⟩))) (some (.ret, ⟨[(6, (.bool false))], [], gh56⟩)))))) (
  br 104 (decide (8 < (IntKind.i64.wrap (2 * (IntKind.i64.wrap (1 + n6)))))) (some (.ret, ⟨[(6, (.bool true))], [], gh38⟩)) (
  callR gh38 true (callL pg 25 [(.int .i64 20), (.int .i64 (IntKind.i64.wrap (2 * (IntKind.i64.wrap (1 + n6))))), (.int .i64 n12), (.int .i64 n18), (.int .i64 0), (.int .i64 0), (.agg [(.int .i64 (IntKind.i64.wrap (1 + n6))), (.int .i64 (IntKind.i64.wrap (1 + n6))), (.int .i64 0)])] gh38) fun r61 gh62 => unT 2 r61 fun r63 r64 => unI .i64 (degr1 (degr1 r63)) fun n65 => unI .i64 (degr1 (degr1 r64)) fun n66 => 
  callR gh62 true (callL pg 25 [(.int .i64 21), (.int .i64 (IntKind.i64.wrap (1 + n6))), (.int .i64 n65), (.int .i64 0), (.int .i64 0), (.int .i64 0), (.agg [(.int .i64 (IntKind.i64.wrap (2 * (IntKind.i64.wrap (1 + n6))))), (.int .i64 0), (.int .i64 0)])] gh62) fun r67 gh68 => unT 2 r67 fun r69 r70 => unI .i64 (degr1 (degr1 r69)) fun n71 => unI .i64 (degr1 (degr1 r70)) fun n72 => 
  callR gh68 true (callL pg 25 [(.int .i64 21), (.int .i64 (IntKind.i64.wrap (1 + n6))), (.int .i64 n65), (.int .i64 0), (.int .i64 0), (.int .i64 (IntKind.i64.wrap (1 + n6))), (.agg [(.int .i64 (IntKind.i64.wrap (2 * (IntKind.i64.wrap (1 + n6))))), (.int .i64 0), (.int .i64 0)])] gh68) fun r73 gh74 => unT 2 r73 fun r75 r76 => unI .i64 (degr1 (degr1 r75)) fun n77 => unI .i64 (degr1 (degr1 r76)) fun n78 => 
  br 135 (n66 == 0) (
  br 139 (n72 == 0) (
  br 143 (n78 == 0) (
  br 148 (n71 == n18) (some (.ret, ⟨[(6, (.bool (n77 == n12)))], [], gh74⟩)) (some (.ret, ⟨[(6, (.bool false))], [], gh74⟩))) (some (.ret, ⟨[(6, (.bool false))], [], gh74⟩))) (some (.ret, ⟨[(6, (.bool false))], [], gh74⟩))) (some (.ret, ⟨[(6, (.bool false))], [], gh74⟩))))))))))

theorem D_law_WordTurns_0_ok {pg : Prg} {gh : List GObj} {x0 : Int} {x1 : Int} {x2 : Int} {e : IExit} {s : St} (h : D_law_WordTurns_0 pg x0 x1 x2 gh = some (e, s)) : runL pg f_law_WordTurns_0 ⟨[(0, (.int .i64 x0)), (1, (.int .i64 x1)), (2, (.int .i64 x2))], [], gh⟩ = some (e, s) :=
  runX_ok an_law_WordTurns (Eq.trans (by kernel_rfl) h)

end Go.Lw
end

/-! What the code of function law_choose comes to, piece by piece. Written by program (dprint.py). -/
section
set_option maxRecDepth 10000
set_option maxHeartbeats 4000000
namespace Go.Lw
open Go

def an_law_choose : Tr := (.node 7 (.ce (.int .i64)) (.node 4 (.ce (.int .i64)) (.node 1 (.ce (.int .i64)) (.node 0 (.ce (.int .i64)) .nil .nil) .nil) (.node 6 (.ce (.bool)) (.node 5 (.ce (.int .i64)) .nil .nil) .nil)) (.node 10 (.ce (.int .i64)) (.node 9 (.ce (.int .i64)) (.node 8 (.ce (.int .i64)) .nil .nil) .nil) (.node 12 (.ce (.int .i64)) (.node 11 (.ce (.int .i64)) .nil .nil) .nil)))

noncomputable def D_law_choose_k1 (pg : Prg) (x0 : Int) (x1 : Int) (gh : List GObj) : Option (IExit × St) := gd (decide ((x1 : Int) ≠ 0)) (some (.ret, ⟨[(4, (.int .i64 (Int.tmod x0 x1)))], [], gh⟩))

theorem D_law_choose_k1_ok {pg : Prg} {gh : List GObj} {x0 : Int} {x1 : Int} {e : IExit} {s : St} (h : D_law_choose_k1 pg x0 x1 gh = some (e, s)) : runL pg f_law_choose_k1 ⟨[(0, (.int .i64 x0)), (1, (.int .i64 x1))], [], gh⟩ = some (e, s) :=
  runX_ok an_law_choose (Eq.trans (by kernel_rfl) h)

noncomputable def D_law_choose_0 (pg : Prg) (x0 : Int) (x1 : Int) (gh : List GObj) : Option (IExit × St) := 
  br 6 (decide (x0 < 0)) (
  kR (runL pg f_law_choose_k1 ⟨[(0, (.int .i64 (IntKind.i64.wrap (0 - (IntKind.i64.wrap (x0 + 1)))))), (1, (.int .i64 x1))], [], gh⟩) (fun e s => some (e, s))) (
  kR (runL pg f_law_choose_k1 ⟨[(0, (.int .i64 x0)), (1, (.int .i64 x1))], [], gh⟩) (fun e s => some (e, s)))

theorem D_law_choose_0_ok {pg : Prg} {gh : List GObj} {x0 : Int} {x1 : Int} {e : IExit} {s : St} (h : D_law_choose_0 pg x0 x1 gh = some (e, s)) : runL pg f_law_choose_0 ⟨[(0, (.int .i64 x0)), (1, (.int .i64 x1))], [], gh⟩ = some (e, s) :=
  runX_ok an_law_choose (Eq.trans (by kernel_rfl) h)

end Go.Lw
end
