/-
  The texts that the proof stands on, part 9.
-/
import Derived.Test.YtmodipglnngghaaModelAgainH
import Derived.KernelRfl
set_option linter.unusedVariables false
set_option linter.unusedSimpArgs false
set_option linter.unnecessarySimpa false

/-! What the code of function word_Fit comes to, piece by piece. Written by program (dprint.py). -/
section
set_option maxRecDepth 10000
set_option maxHeartbeats 4000000
namespace Go.Lw
open Go

def an_word_Fit : Tr := (.node 29 (.ce (.int .i64)) (.node 16 (.tup 2) (.node 10 (.ce (.bool)) (.node 3 (.agg [.int .i64, .int .i64, .int .i64]) (.node 1 (.ce (.int .i64)) (.node 0 (.ce (.int .i64)) .nil .nil) (.node 2 (.ce (.int .i64)) .nil .nil)) (.node 9 (.ce (.int .i64)) (.node 8 (.ce (.int .i64)) .nil .nil) .nil)) (.node 13 (.tup 2) (.node 12 (.ce (.int .i64)) (.node 11 (.ce (.int .i64)) .nil .nil) .nil) (.node 15 (.ce (.int .i64)) (.node 14 (.ce (.one)) .nil .nil) .nil))) (.node 23 (.ce (.bool)) (.node 20 (.ce (.bool)) (.node 18 (.ce (.bool)) (.node 17 (.ce (.int .i64)) .nil .nil) (.node 19 (.ce (.bool)) .nil .nil)) (.node 22 (.ce (.bool)) (.node 21 (.ce (.int .i64)) .nil .nil) .nil)) (.node 26 (.ce (.bool)) (.node 25 (.ce (.int .i64)) (.node 24 (.agg [.int .i64, .int .i64, .int .i64]) .nil .nil) .nil) (.node 28 (.ce (.int .i64)) (.node 27 (.ce (.int .i64)) .nil .nil) .nil)))) (.node 42 (.ce (.bool)) (.node 36 (.ce (.bool)) (.node 33 (.ce (.bool)) (.node 31 (.ce (.int .i64)) (.node 30 (.ce (.int .i64)) .nil .nil) (.node 32 (.ce (.bool)) .nil .nil)) (.node 35 (.ce (.bool)) (.node 34 (.ce (.int .i64)) .nil .nil) .nil)) (.node 39 (.ce (.int .i64)) (.node 38 (.ce (.bool)) (.node 37 (.ce (.bool)) .nil .nil) .nil) (.node 41 (.ce (.int .i64)) (.node 40 (.ce (.int .i64)) .nil .nil) .nil))) (.node 49 (.ce (.int .i64)) (.node 46 (.ce (.bool)) (.node 44 (.ce (.int .i64)) (.node 43 (.ce (.bool)) .nil .nil) (.node 45 (.ce (.bool)) .nil .nil)) (.node 48 (.ce (.int .i64)) (.node 47 (.ce (.bool)) .nil .nil) .nil)) (.node 52 (.agg [.int .i64, .int .i64, .int .i64]) (.node 51 (.ce (.int .i64)) (.node 50 (.ce (.int .i64)) .nil .nil) .nil) (.node 54 (.ce (.bool)) (.node 53 (.ce (.bool)) .nil .nil) .nil)))))

noncomputable def D_word_Fit_b1 (pg : Prg) (x0 : Int) (x1 : Int) (x2 : Int) (x9 : Int) (x24_0 : Int) (x24_1 : Int) (x24_2 : Int) (x25 : Int) (xc0_0 : Int) (xc0_1 : Int) (xc0_2 : Int) (gh : List GObj) : Option (IExit × St) := 
  br 26 (decide (x25 < 3)) (ixX (.agg [(.int .i64 x24_0), (.int .i64 x24_1), (.int .i64 x24_2)]) 1 3 false x25 fun v1 => unI .i64 v1 fun n2 => 
  callR gh true (callL pg 63 [(.int .i64 x0)] gh) fun r3 gh4 => unI .i64 r3 fun n5 => 
  br 33 (decide (x25 < n5)) (
  callR gh4 true (callL pg 62 [(.int .i64 n2)] gh4) fun r6 gh7 => unB r6 fun b8 => 
  br 38 (!b8) (some (.ret, ⟨[(8, (.int .i64 3))], [], gh7⟩)) (
  callR gh7 true (callL pg 63 [(.int .i64 x0)] gh7) fun r9 gh10 => unI .i64 r9 fun n11 => 
  br 43 (decide (n11 ≤ x25)) (
  br 47 (n2 != 0) (some (.ret, ⟨[(8, (.int .i64 3))], [], gh10⟩)) (some (.normal, ⟨[(0, (.int .i64 x0)), (1, (.int .i64 x1)), (2, (.int .i64 x2)), (7, (.ptr false 0 0)), (9, (.int .i64 x9)), (24, (.agg [(.int .i64 x24_0), (.int .i64 x24_1), (.int .i64 x24_2)])), (25, (.int .i64 (IntKind.i64.wrap (x25 + 1))))], [[(.int .i64 xc0_0), (.int .i64 xc0_1), (.int .i64 xc0_2)]], gh10⟩))) (some (.normal, ⟨[(0, (.int .i64 x0)), (1, (.int .i64 x1)), (2, (.int .i64 x2)), (7, (.ptr false 0 0)), (9, (.int .i64 x9)), (24, (.agg [(.int .i64 x24_0), (.int .i64 x24_1), (.int .i64 x24_2)])), (25, (.int .i64 (IntKind.i64.wrap (x25 + 1))))], [[(.int .i64 xc0_0), (.int .i64 xc0_1), (.int .i64 xc0_2)]], gh10⟩)))) (
  callR gh4 true (callL pg 63 [(.int .i64 x0)] gh4) fun r12 gh13 => unI .i64 r12 fun n14 => 
  br 43 (decide (n14 ≤ x25)) (
  br 47 (n2 != 0) (some (.ret, ⟨[(8, (.int .i64 3))], [], gh13⟩)) (some (.normal, ⟨[(0, (.int .i64 x0)), (1, (.int .i64 x1)), (2, (.int .i64 x2)), (7, (.ptr false 0 0)), (9, (.int .i64 x9)), (24, (.agg [(.int .i64 x24_0), (.int .i64 x24_1), (.int .i64 x24_2)])), (25, (.int .i64 (IntKind.i64.wrap (x25 + 1))))], [[(.int .i64 xc0_0), (.int .i64 xc0_1), (.int .i64 xc0_2)]], gh13⟩))) (some (.normal, ⟨[(0, (.int .i64 x0)), (1, (.int .i64 x1)), (2, (.int .i64 x2)), (7, (.ptr false 0 0)), (9, (.int .i64 x9)), (24, (.agg [(.int .i64 x24_0), (.int .i64 x24_1), (.int .i64 x24_2)])), (25, (.int .i64 (IntKind.i64.wrap (x25 + 1))))], [[(.int .i64 xc0_0), (.int .i64 xc0_1), (.int .i64 xc0_2)]], gh13⟩)))) (some ((.exit 0), ⟨[(0, (.int .i64 x0)), (1, (.int .i64 x1)), (2, (.int .i64 x2)), (7, (.ptr false 0 0)), (9, (.int .i64 x9)), (24, (.agg [(.int .i64 x24_0), (.int .i64 x24_1), (.int .i64 x24_2)])), (25, (.int .i64 x25)), (26, (.bool (decide (x25 < 3))))], [[(.int .i64 xc0_0), (.int .i64 xc0_1), (.int .i64 xc0_2)]], gh⟩))

theorem D_word_Fit_b1_ok {pg : Prg} {gh : List GObj} {x0 : Int} {x1 : Int} {x2 : Int} {x9 : Int} {x24_0 : Int} {x24_1 : Int} {x24_2 : Int} {x25 : Int} {xc0_0 : Int} {xc0_1 : Int} {xc0_2 : Int} {e : IExit} {s : St} (h : D_word_Fit_b1 pg x0 x1 x2 x9 x24_0 x24_1 x24_2 x25 xc0_0 xc0_1 xc0_2 gh = some (e, s)) : runL pg f_word_Fit_b1 ⟨[(0, (.int .i64 x0)), (1, (.int .i64 x1)), (2, (.int .i64 x2)), (7, (.ptr false 0 0)), (9, (.int .i64 x9)), (24, (.agg [(.int .i64 x24_0), (.int .i64 x24_1), (.int .i64 x24_2)])), (25, (.int .i64 x25))], [[(.int .i64 xc0_0), (.int .i64 xc0_1), (.int .i64 xc0_2)]], gh⟩ = some (e, s) :=
  runX_ok an_word_Fit (Eq.trans (by kernel_rfl) h)

noncomputable def D_word_Fit_k1 (pg : Prg) (x1 : Int) (x2 : Int) (x9 : Int) (xc0_0 : Int) (xc0_1 : Int) (xc0_2 : Int) (gh : List GObj) : Option (IExit × St) := 
  callR gh true (callL pg 64 [(.int .i64 x9), (.int .i64 x1), (.int .i64 x2), (.agg [(.int .i64 xc0_0), (.int .i64 xc0_1), (.int .i64 xc0_2)])] gh) fun r1 gh2 => unB r1 fun b3 => 
  br 54 (!b3) (some (.ret, ⟨[(8, (.int .i64 1))], [], gh2⟩)) (some (.ret, ⟨[(8, (.int .i64 0))], [], gh2⟩))

theorem D_word_Fit_k1_ok {pg : Prg} {gh : List GObj} {x1 : Int} {x2 : Int} {x9 : Int} {xc0_0 : Int} {xc0_1 : Int} {xc0_2 : Int} {e : IExit} {s : St} (h : D_word_Fit_k1 pg x1 x2 x9 xc0_0 xc0_1 xc0_2 gh = some (e, s)) : runL pg f_word_Fit_k1 ⟨[(1, (.int .i64 x1)), (2, (.int .i64 x2)), (7, (.ptr false 0 0)), (9, (.int .i64 x9))], [[(.int .i64 xc0_0), (.int .i64 xc0_1), (.int .i64 xc0_2)]], gh⟩ = some (e, s) :=
  runX_ok an_word_Fit (Eq.trans (by kernel_rfl) h)

noncomputable def D_word_Fit_0 (pg : Prg) (x0 : Int) (x1 : Int) (x2 : Int) (x3_0 : Int) (x3_1 : Int) (x3_2 : Int) (gh : List GObj) : Option (IExit × St) := 
  callR gh false (callL pg 61 [] gh) fun r1 gh2 => isC r1 (
  lkX gh2 0 (degr r1) (.int .i64 x0) fun r3 => unI .i64 (degr1 (degr1 (Option.getD r3 (.int .i64 0)))) fun n4 => 
  br 20 (!(Option.isSome r3)) (some (.ret, ⟨[(8, (.int .i64 7))], [], gh2⟩)) (
  callR gh2 true (callL pg 62 [(.int .i64 x1)] gh2) fun r5 gh6 => unB r5 fun b7 => 
  br 23 (!b7) (some (.ret, ⟨[(8, (.int .i64 3))], [], gh6⟩)) (
  kR (runL pg f_word_Fit_l1 ⟨[(0, (.int .i64 x0)), (1, (.int .i64 x1)), (2, (.int .i64 x2)), (7, (.ptr false 0 0)), (9, (.int .i64 n4)), (24, (.agg [(.int .i64 x3_0), (.int .i64 x3_1), (.int .i64 x3_2)])), (25, (.int .i64 0))], [[(.int .i64 x3_0), (.int .i64 x3_1), (.int .i64 x3_2)]], gh6⟩) (fun e s => nx e s (fun e s => some (e, s)) fun s => kR (runL pg f_word_Fit_k1 s) (fun e s => some (e, s))))))

theorem D_word_Fit_0_ok {pg : Prg} {gh : List GObj} {x0 : Int} {x1 : Int} {x2 : Int} {x3_0 : Int} {x3_1 : Int} {x3_2 : Int} {e : IExit} {s : St} (h : D_word_Fit_0 pg x0 x1 x2 x3_0 x3_1 x3_2 gh = some (e, s)) : runL pg f_word_Fit_0 ⟨[(0, (.int .i64 x0)), (1, (.int .i64 x1)), (2, (.int .i64 x2)), (3, (.agg [(.int .i64 x3_0), (.int .i64 x3_1), (.int .i64 x3_2)]))], [], gh⟩ = some (e, s) :=
  runX_ok an_word_Fit (Eq.trans (by kernel_rfl) h)

end Go.Lw
end

/-! What the code of function word_Takes comes to, piece by piece. Written by program (dprint.py). -/
section
set_option maxRecDepth 10000
set_option maxHeartbeats 4000000
namespace Go.Lw
open Go

def an_word_Takes : Tr := (.node 7 (.ce (.bool)) (.node 4 (.ce (.int .i64)) (.node 2 (.ce (.int .i64)) (.node 0 (.ce (.int .i64)) .nil .nil) (.node 3 (.ce (.one)) .nil .nil)) (.node 6 (.ce (.bool)) (.node 5 (.ce (.int .i64)) .nil .nil) .nil)) (.node 11 (.ce (.bool)) (.node 9 (.ce (.bool)) (.node 8 (.ce (.bool)) .nil .nil) (.node 10 (.ce (.bool)) .nil .nil)) (.node 13 (.ce (.bool)) (.node 12 (.ce (.bool)) .nil .nil) .nil)))

noncomputable def D_word_Takes_k1 (pg : Prg) (x5 : Int) (b8 : Bool) (gh : List GObj) : Option (IExit × St) := 
  br 8 b8 (some (.ret, ⟨[(2, (.int .i64 1))], [], gh⟩)) (
  br 12 (x5 == 4) (some (.ret, ⟨[(2, (.int .i64 3))], [], gh⟩)) (some (.normal, ⟨[(12, (.bool (x5 == 4)))], [], gh⟩)))

theorem D_word_Takes_k1_ok {pg : Prg} {gh : List GObj} {x5 : Int} {b8 : Bool} {e : IExit} {s : St} (h : D_word_Takes_k1 pg x5 b8 gh = some (e, s)) : runL pg f_word_Takes_k1 ⟨[(5, (.int .i64 x5)), (8, (.bool b8))], [], gh⟩ = some (e, s) :=
  runX_ok an_word_Takes (Eq.trans (by kernel_rfl) h)

noncomputable def D_word_Takes_k2 (pg : Prg) (b12 : Bool) (gh : List GObj) : Option (IExit × St) := some (.ret, ⟨[(2, (.int .i64 2))], [], gh⟩)

theorem D_word_Takes_k2_ok {pg : Prg} {gh : List GObj} {b12 : Bool} {e : IExit} {s : St} (h : D_word_Takes_k2 pg b12 gh = some (e, s)) : runL pg f_word_Takes_k2 ⟨[(12, (.bool b12))], [], gh⟩ = some (e, s) :=
  runX_ok an_word_Takes (Eq.trans (by kernel_rfl) h)

noncomputable def D_word_Takes_0 (pg : Prg) (x0 : Int) (gh : List GObj) : Option (IExit × St) := 
  callR gh false (callL pg 61 [] gh) fun r1 gh2 => isC r1 (
  lkX gh2 0 (degr r1) (.int .i64 x0) fun r3 => unI .i64 (Option.getD r3 (.int .i64 0)) fun n4 => 
  br 6 (n4 == 0) (some (.ret, ⟨[(2, (.int .i64 0))], [], gh2⟩)) (
  br 8 (n4 == 1) (
  kR (runL pg f_word_Takes_k1 ⟨[(5, (.int .i64 n4)), (8, (.bool (n4 == 1)))], [], gh2⟩) (fun e s => bk 0 e s (fun e s => nx e s (fun e s => some (e, s)) fun s => kR (runL pg f_word_Takes_k2 s) (fun e s => some (e, s))))) (
  br 8 (n4 == 6) (
  kR (runL pg f_word_Takes_k1 ⟨[(5, (.int .i64 n4)), (8, (.bool (n4 == 6)))], [], gh2⟩) (fun e s => bk 0 e s (fun e s => nx e s (fun e s => some (e, s)) fun s => kR (runL pg f_word_Takes_k2 s) (fun e s => some (e, s))))) (
  kR (runL pg f_word_Takes_k1 ⟨[(5, (.int .i64 n4)), (8, (.bool (n4 == 7)))], [], gh2⟩) (fun e s => bk 0 e s (fun e s => nx e s (fun e s => some (e, s)) fun s => kR (runL pg f_word_Takes_k2 s) (fun e s => some (e, s))))))))

theorem D_word_Takes_0_ok {pg : Prg} {gh : List GObj} {x0 : Int} {e : IExit} {s : St} (h : D_word_Takes_0 pg x0 gh = some (e, s)) : runL pg f_word_Takes_0 ⟨[(0, (.int .i64 x0))], [], gh⟩ = some (e, s) :=
  runX_ok an_word_Takes (Eq.trans (by kernel_rfl) h)

end Go.Lw
end

/-! What the code of function word_IsWidth comes to, piece by piece. Written by program (dprint.py). -/
section
set_option maxRecDepth 10000
set_option maxHeartbeats 4000000
namespace Go.Lw
open Go

def an_word_IsWidth : Tr := (.node 5 (.ce (.bool)) (.node 3 (.ce (.int .i64)) (.node 2 (.ce (.bool)) (.node 0 (.ce (.int .i64)) .nil .nil) .nil) (.node 4 (.ce (.bool)) .nil .nil)) (.node 7 (.ce (.bool)) (.node 6 (.ce (.int .i64)) .nil .nil) (.node 8 (.ce (.bool)) .nil .nil)))

noncomputable def D_word_IsWidth_0 (pg : Prg) (x0 : Int) (gh : List GObj) : Option (IExit × St) := 
  br 5 (decide (1 ≤ x0)) (some (.ret, ⟨[(2, (.bool (decide (x0 ≤ 8))))], [], gh⟩)) (some (.ret, ⟨[(2, (.bool false))], [], gh⟩))

theorem D_word_IsWidth_0_ok {pg : Prg} {gh : List GObj} {x0 : Int} {e : IExit} {s : St} (h : D_word_IsWidth_0 pg x0 gh = some (e, s)) : runL pg f_word_IsWidth_0 ⟨[(0, (.int .i64 x0))], [], gh⟩ = some (e, s) :=
  runX_ok an_word_IsWidth (Eq.trans (by kernel_rfl) h)

end Go.Lw
end

/-! What the code of function word_fits comes to, piece by piece. Written by program (dprint.py). -/
section
set_option maxRecDepth 10000
set_option maxHeartbeats 4000000
namespace Go.Lw
open Go

def an_word_fits : Tr := (.node 44 (.ce (.bool)) (.node 22 (.ce (.bool)) (.node 12 (.ce (.int .i64)) (.node 8 (.ce (.bool)) (.node 2 (.ce (.int .i64)) (.node 1 (.ce (.int .i64)) (.node 0 (.ce (.int .i64)) .nil .nil) .nil) (.node 3 (.agg [.int .i64, .int .i64, .int .i64]) .nil .nil)) (.node 10 (.ce (.bool)) (.node 9 (.ce (.int .i64)) .nil .nil) (.node 11 (.ce (.bool)) .nil .nil))) (.node 17 (.ce (.bool)) (.node 15 (.ce (.int .i64)) (.node 14 (.ce (.bool)) (.node 13 (.ce (.bool)) .nil .nil) .nil) (.node 16 (.ce (.bool)) .nil .nil)) (.node 20 (.ce (.int .i64)) (.node 19 (.ce (.int .i64)) .nil .nil) (.node 21 (.ce (.bool)) .nil .nil)))) (.node 33 (.ce (.bool)) (.node 28 (.ce (.bool)) (.node 26 (.ce (.int .i64)) (.node 25 (.ce (.int .i64)) (.node 23 (.ce (.bool)) .nil .nil) .nil) (.node 27 (.ce (.bool)) .nil .nil)) (.node 31 (.ce (.int .i64)) (.node 30 (.ce (.int .i64)) .nil .nil) (.node 32 (.ce (.bool)) .nil .nil))) (.node 40 (.ce (.bool)) (.node 37 (.ce (.int .i64)) (.node 35 (.ce (.bool)) (.node 34 (.ce (.bool)) .nil .nil) .nil) (.node 39 (.ce (.int .i64)) .nil .nil)) (.node 42 (.ce (.int .i64)) (.node 41 (.ce (.bool)) .nil .nil) (.node 43 (.ce (.bool)) .nil .nil))))) (.node 67 (.ce (.int .i64)) (.node 55 (.ce (.bool)) (.node 50 (.ce (.bool)) (.node 48 (.ce (.int .i64)) (.node 46 (.ce (.bool)) (.node 45 (.ce (.bool)) .nil .nil) .nil) (.node 49 (.ce (.bool)) .nil .nil)) (.node 53 (.ce (.int .i64)) (.node 52 (.ce (.int .i64)) .nil .nil) (.node 54 (.ce (.bool)) .nil .nil))) (.node 61 (.ce (.bool)) (.node 59 (.ce (.int .i64)) (.node 58 (.ce (.int .i64)) (.node 56 (.ce (.bool)) .nil .nil) .nil) (.node 60 (.ce (.bool)) .nil .nil)) (.node 63 (.ce (.bool)) (.node 62 (.ce (.bool)) .nil .nil) (.node 65 (.ce (.int .i64)) .nil .nil)))) (.node 76 (.ce (.int .i64)) (.node 72 (.ce (.bool)) (.node 70 (.ce (.bool)) (.node 69 (.ce (.int .i64)) (.node 68 (.ce (.int .i64)) .nil .nil) .nil) (.node 71 (.ce (.bool)) .nil .nil)) (.node 74 (.ce (.bool)) (.node 73 (.ce (.int .i64)) .nil .nil) (.node 75 (.ce (.bool)) .nil .nil))) (.node 82 (.ce (.bool)) (.node 80 (.ce (.int .i64)) (.node 79 (.ce (.int .i64)) (.node 78 (.ce (.int .i64)) .nil .nil) .nil) (.node 81 (.ce (.bool)) .nil .nil)) (.node 85 (.ce (.int .i64)) (.node 83 (.ce (.int .i64)) .nil .nil) (.node 86 (.ce (.bool)) .nil .nil))))))

noncomputable def D_word_fits_0 (pg : Prg) (x0 : Int) (x1 : Int) (x2 : Int) (x3_0 : Int) (x3_1 : Int) (x3_2 : Int) (gh : List GObj) : Option (IExit × St) := 
  br 11 (x2 != 0) (
  br 14 (x0 != 6) (some (.ret, ⟨[(8, (.bool false))], [], gh⟩)) (
  br 16 (x0 == 1) (some (.ret, ⟨[(8, (.bool (x3_0 == x1)))], [], gh⟩)) (
  br 22 (x0 == 2) (
  br 28 (x3_0 == x1) (some (.ret, ⟨[(8, (.bool (x3_1 == x1)))], [], gh⟩)) (some (.ret, ⟨[(8, (.bool false))], [], gh⟩))) (
  br 34 (x0 == 3) (
  br 41 (x3_0 == x3_1) (some (.ret, ⟨[(8, (.bool (x1 == 1)))], [], gh⟩)) (some (.ret, ⟨[(8, (.bool false))], [], gh⟩))) (
  br 45 (x0 == 4) (
  br 50 (x3_0 == 1) (
  br 56 (x3_1 == x1) (some (.ret, ⟨[(8, (.bool (x3_2 == x1)))], [], gh⟩)) (some (.ret, ⟨[(8, (.bool false))], [], gh⟩))) (some (.ret, ⟨[(8, (.bool false))], [], gh⟩))) (
  br 62 (x0 == 5) (some (.ret, ⟨[(8, (.bool ((IntKind.i64.wrap (x3_0 + x3_1)) == x1)))], [], gh⟩)) (
  br 71 (x0 == 6) (
  br 75 (decide (0 ≤ x2)) (some (.ret, ⟨[(8, (.bool (decide (x2 ≤ (IntKind.i64.wrap (x3_0 - x1))))))], [], gh⟩)) (some (.ret, ⟨[(8, (.bool false))], [], gh⟩))) (some (.ret, ⟨[(8, (.bool (decide (x3_0 ≤ x1))))], [], gh⟩))))))))) (
  br 16 (x0 == 1) (some (.ret, ⟨[(8, (.bool (x3_0 == x1)))], [], gh⟩)) (
  br 22 (x0 == 2) (
  br 28 (x3_0 == x1) (some (.ret, ⟨[(8, (.bool (x3_1 == x1)))], [], gh⟩)) (some (.ret, ⟨[(8, (.bool false))], [], gh⟩))) (
  br 34 (x0 == 3) (
  br 41 (x3_0 == x3_1) (some (.ret, ⟨[(8, (.bool (x1 == 1)))], [], gh⟩)) (some (.ret, ⟨[(8, (.bool false))], [], gh⟩))) (
  br 45 (x0 == 4) (
  br 50 (x3_0 == 1) (
  br 56 (x3_1 == x1) (some (.ret, ⟨[(8, (.bool (x3_2 == x1)))], [], gh⟩)) (some (.ret, ⟨[(8, (.bool false))], [], gh⟩))) (some (.ret, ⟨[(8, (.bool false))], [], gh⟩))) (
  br 62 (x0 == 5) (some (.ret, ⟨[(8, (.bool ((IntKind.i64.wrap (x3_0 + x3_1)) == x1)))], [], gh⟩)) (
  br 71 (x0 == 6) (
  br 75 (decide (0 ≤ x2)) (some (.ret, ⟨[(8, (.bool (decide (x2 ≤ (IntKind.i64.wrap (x3_0 - x1))))))], [], gh⟩)) (some (.ret, ⟨[(8, (.bool false))], [], gh⟩))) (some (.ret, ⟨[(8, (.bool (decide (x3_0 ≤ x1))))], [], gh⟩))))))))

theorem D_word_fits_0_ok {pg : Prg} {gh : List GObj} {x0 : Int} {x1 : Int} {x2 : Int} {x3_0 : Int} {x3_1 : Int} {x3_2 : Int} {e : IExit} {s : St} (h : D_word_fits_0 pg x0 x1 x2 x3_0 x3_1 x3_2 gh = some (e, s)) : runL pg f_word_fits_0 ⟨[(0, (.int .i64 x0)), (1, (.int .i64 x1)), (2, (.int .i64 x2)), (3, (.agg [(.int .i64 x3_0), (.int .i64 x3_1), (.int .i64 x3_2)]))], [], gh⟩ = some (e, s) :=
  runX_ok an_word_fits (Eq.trans (by kernel_rfl) h)

end Go.Lw
end

/-! What the code of function word_shapes comes to, piece by piece. Written by program (dprint.py). -/
section
set_option maxRecDepth 10000
set_option maxHeartbeats 4000000
namespace Go.Lw
open Go

def an_word_shapes : Tr := (.node 1 (.ce (.one)) (.node 0 (.ce (.one)) .nil .nil) (.node 2 (.ce (.one)) .nil .nil))

noncomputable def D_word_shapes_0 (pg : Prg)  (gh : List GObj) : Option (IExit × St) := 
  muX (gh ++ [.map []]) 0 (.mp (List.length gh)) (.int .i64 4) (.int .i64 1) fun gh1 => 
  muX gh1 0 (.mp (List.length gh)) (.int .i64 5) (.int .i64 1) fun gh2 => 
  muX gh2 0 (.mp (List.length gh)) (.int .i64 6) (.int .i64 2) fun gh3 => 
  muX gh3 0 (.mp (List.length gh)) (.int .i64 7) (.int .i64 2) fun gh4 => 
  muX gh4 0 (.mp (List.length gh)) (.int .i64 8) (.int .i64 2) fun gh5 => 
  muX gh5 0 (.mp (List.length gh)) (.int .i64 9) (.int .i64 2) fun gh6 => 
  muX gh6 0 (.mp (List.length gh)) (.int .i64 10) (.int .i64 2) fun gh7 => 
  muX gh7 0 (.mp (List.length gh)) (.int .i64 11) (.int .i64 2) fun gh8 => 
  muX gh8 0 (.mp (List.length gh)) (.int .i64 12) (.int .i64 2) fun gh9 => 
  muX gh9 0 (.mp (List.length gh)) (.int .i64 13) (.int .i64 2) fun gh10 => 
  muX gh10 0 (.mp (List.length gh)) (.int .i64 14) (.int .i64 2) fun gh11 => 
  muX gh11 0 (.mp (List.length gh)) (.int .i64 15) (.int .i64 2) fun gh12 => 
  muX gh12 0 (.mp (List.length gh)) (.int .i64 16) (.int .i64 3) fun gh13 => 
  muX gh13 0 (.mp (List.length gh)) (.int .i64 17) (.int .i64 3) fun gh14 => 
  muX gh14 0 (.mp (List.length gh)) (.int .i64 18) (.int .i64 3) fun gh15 => 
  muX gh15 0 (.mp (List.length gh)) (.int .i64 19) (.int .i64 4) fun gh16 => 
  muX gh16 0 (.mp (List.length gh)) (.int .i64 20) (.int .i64 5) fun gh17 => 
  muX gh17 0 (.mp (List.length gh)) (.int .i64 21) (.int .i64 6) fun gh18 => 
  muX gh18 0 (.mp (List.length gh)) (.int .i64 22) (.int .i64 7) fun gh19 => 
  muX gh19 0 (.mp (List.length gh)) (.int .i64 23) (.int .i64 7) fun gh20 => some (.ret, ⟨[(0, (.mp (List.length gh)))], [], gh20⟩)

theorem D_word_shapes_0_ok {pg : Prg} {gh : List GObj}  {e : IExit} {s : St} (h : D_word_shapes_0 pg  gh = some (e, s)) : runL pg f_word_shapes_0 ⟨[], [], gh⟩ = some (e, s) :=
  runX_ok an_word_shapes (Eq.trans (by kernel_rfl) h)

end Go.Lw
end

/-! What the functions of package word come to. -/
section
namespace Go.Lw
open Go

def shapesZ : List (Int × Int) := [(4, 1), (5, 1), (6, 2), (7, 2), (8, 2), (9, 2), (10, 2), (11, 2), (12, 2), (13, 2), (14, 2), (15, 2), (16, 3), (17, 3), (18, 3), (19, 4), (20, 5), (21, 6), (22, 7), (23, 7)]

theorem shapes_eq (gh : List GObj) : callL pg 61 [] gh = some (.mp gh.length, gh ++ [.map (mapI shapesZ)]) := by
  refine callL_fn (fn := f_word_shapes) (s := ⟨[(0, .mp gh.length)], [], gh ++ [.map (mapI shapesZ)]⟩) rfl rfl (D_word_shapes_0_ok ?h) ?r
  case h =>
    rw [D_word_shapes_0, show ([.map []] : List GObj) = [.map (mapI [])] from rfl]
    repeat rw [muX_last]
    rfl
  case r => simp [finish, results, f_word_shapes, resOfs, resOf, resOk]

/-- What an operation's shape is; none. -/
def shapeOf (k : Int) : Option Int :=
  if k < 4 then none else if k < 6 then some 1 else if k < 16 then some 2 else if k < 19 then some 3 else if k = 19 then some 4 else if k = 20 then some 5
  else if k = 21 then some 6 else if k < 24 then some 7 else none

theorem findI_shapes (k : Int) : findI shapesZ k = shapeOf k := by
  by_cases h : 4 ≤ k ∧ k < 24
  · obtain ⟨n, rfl⟩ : ∃ n : Fin 20, k = 4 + (n.val : Int) := ⟨⟨(k - 4).toNat, by omega⟩, by simp; omega⟩
    revert n; decide
  · have : ∀ l : List (Int × Int), (∀ x ∈ l, 4 ≤ x.1 ∧ x.1 < 24) → findI l k = none := by
      intro l
      induction l with
      | nil => intro; rfl
      | cons x l ih =>
        intro hx
        have h1 := hx x (by simp)
        have h2 := ih fun y hy => hx y (by simp [hy])
        obtain ⟨a, u⟩ := x
        rw [findI, if_neg, h2]
        rintro rfl; exact h h1
    rw [this _ (by decide), shapeOf]
    split
    · rfl
    · repeat rw [if_neg (by omega)]

/-- How many words an operation takes. -/
def takesOf (k : Int) : Int :=
  if k < 4 then 0 else if k < 6 then 1 else if k < 19 then 2 else if k = 19 then 3 else if k = 20 then 2 else if k < 24 then 1 else 0

theorem Takes_eq (k : Int) (gh : List GObj) : callL pg 63 [I k] gh = some (I (takesOf k), gh) := by
  have hk : callL pg 63 [I k] gh = some (I (let n := (shapeOf k).getD 0; if n = 0 then 0 else if n = 1 ∨ n = 6 ∨ n = 7 then 1 else if n = 4 then 3 else 2), gh) := by
    have hf := findI_shapes k
    cases hs : shapeOf k with
    | none =>
      rw [hs] at hf
      refine callL_fn (fn := f_word_Takes) (s := ?s0) rfl rfl (D_word_Takes_0_ok ?h0) ?r0
      case h0 => simp [D_word_Takes_0, shapes_eq, hf]; rfl
      case r0 => simp [finish, results, f_word_Takes, resOfs, resOf, resOk]
    | some n =>
      rw [hs] at hf
      by_cases h0 : n = 0
      · refine callL_fn (fn := f_word_Takes) (s := ?s1) rfl rfl (D_word_Takes_0_ok ?h1) ?r1
        case h1 => simp [D_word_Takes_0, shapes_eq, hf, h0]; rfl
        case r1 => simp [finish, results, f_word_Takes, resOfs, resOf, resOk, h0]
      by_cases h1 : n = 1 ∨ n = 6 ∨ n = 7
      · refine callL_fn (fn := f_word_Takes) (s := ⟨[(2, I 1)], [], gh ++ [.map (mapI shapesZ)]⟩) rfl rfl (D_word_Takes_0_ok ?h2) ?r2
        case h2 =>
          have := D_word_Takes_k1_ok (pg := pg) (gh := gh ++ [.map (mapI shapesZ)]) (x5 := n) (b8 := true) (e := .ret) (s := ⟨[(2, I 1)], [], gh ++ [.map (mapI shapesZ)]⟩) rfl
          rcases h1 with rfl | rfl | rfl <;> simp [D_word_Takes_0, shapes_eq, hf, this]
        case r2 => simp [finish, results, f_word_Takes, resOfs, resOf, resOk, h0, h1]
      · by_cases h4 : n = 4
        · refine callL_fn (fn := f_word_Takes) (s := ⟨[(2, I 3)], [], gh ++ [.map (mapI shapesZ)]⟩) rfl rfl (D_word_Takes_0_ok ?h3) ?r3
          case h3 =>
            subst h4
            have := D_word_Takes_k1_ok (pg := pg) (gh := gh ++ [.map (mapI shapesZ)]) (x5 := 4) (b8 := false) (e := .ret) (s := ⟨[(2, I 3)], [], gh ++ [.map (mapI shapesZ)]⟩) rfl
            simp [D_word_Takes_0, shapes_eq, hf, this]
          case r3 => simp [finish, results, f_word_Takes, resOfs, resOf, resOk, h0, h4]
        · simp only [not_or] at h1
          refine callL_fn (fn := f_word_Takes) (s := ⟨[(2, I 2)], [], gh ++ [.map (mapI shapesZ)]⟩) rfl rfl (D_word_Takes_0_ok ?h5) ?r5
          case h5 =>
            have := D_word_Takes_k1_ok (pg := pg) (gh := gh ++ [.map (mapI shapesZ)]) (x5 := n) (b8 := false) (e := .normal) (s := ⟨[(12, B false)], [], gh ++ [.map (mapI shapesZ)]⟩) (by simp [D_word_Takes_k1, h4])
            have h2 := D_word_Takes_k2_ok (pg := pg) (gh := gh ++ [.map (mapI shapesZ)]) (b12 := false) (e := .ret) (s := ⟨[(2, I 2)], [], gh ++ [.map (mapI shapesZ)]⟩) rfl
            simp [D_word_Takes_0, shapes_eq, hf, h0, h1, this, h2]
          case r5 => simp [finish, results, f_word_Takes, resOfs, resOf, resOk, h0, h1, h4]
  rw [hk]
  congr 3
  simp only [shapeOf, takesOf]
  repeat' split
  all_goals first | rfl | omega | simp_all

theorem IsWidth_eq (w : Int) (gh : List GObj) : callL pg 62 [I w] gh = some (B (decide (1 ≤ w ∧ w ≤ 8)), gh) := by
  by_cases h : 1 ≤ w
  · refine callL_fn (fn := f_word_IsWidth) (s := ?s1) rfl rfl (D_word_IsWidth_0_ok ?h1) ?r1
    case h1 => simp [D_word_IsWidth_0, h]; rfl
    case r1 => simp [finish, results, f_word_IsWidth, resOfs, resOf, resOk, h]
  · refine callL_fn (fn := f_word_IsWidth) (s := ?s2) rfl rfl (D_word_IsWidth_0_ok ?h2) ?r2
    case h2 => simp [D_word_IsWidth_0, h]; rfl
    case r2 => simp [finish, results, f_word_IsWidth, resOfs, resOf, resOk, h]

/-- Are the widths as a shape asks? -/
def fitsOf (s width n w0 w1 w2 : Int) : Bool :=
  if n ≠ 0 ∧ s ≠ 6 then false
  else if s = 1 then w0 = width
  else if s = 2 then w0 = width ∧ w1 = width
  else if s = 3 then w0 = w1 ∧ width = 1
  else if s = 4 then w0 = 1 ∧ w1 = width ∧ w2 = width
  else if s = 5 then IntKind.i64.wrap (w0 + w1) = width
  else if s = 6 then 0 ≤ n ∧ n ≤ IntKind.i64.wrap (w0 - width)
  else w0 ≤ width

theorem fits_eq (s width n w0 w1 w2 : Int) (gh : List GObj) : callL pg 64 [I s, I width, I n, .agg [I w0, I w1, I w2]] gh = some (B (fitsOf s width n w0 w1 w2), gh) := by
  have h : D_word_fits_0 pg s width n w0 w1 w2 gh = some (.ret, ⟨[(8, B (fitsOf s width n w0 w1 w2))], [], gh⟩) := by
    by_cases hn : n = 0
    · by_cases h1 : s = 1
      · simp [D_word_fits_0, fitsOf, hn, h1]
      by_cases h2 : s = 2
      · by_cases h : w0 = width <;> simp [D_word_fits_0, fitsOf, hn, h2, h]
      by_cases h3 : s = 3
      · by_cases h : w0 = w1 <;> simp [D_word_fits_0, fitsOf, hn, h3, h]
      by_cases h4 : s = 4
      · by_cases h : w0 = 1 <;> by_cases h' : w1 = width <;> simp [D_word_fits_0, fitsOf, hn, h4, h, h']
      by_cases h5 : s = 5
      · simp [D_word_fits_0, fitsOf, hn, h5]
      by_cases h6 : s = 6
      · simp [D_word_fits_0, fitsOf, hn, h6]
      simp [D_word_fits_0, fitsOf, hn, h1, h2, h3, h4, h5, h6]
    · by_cases h6 : s = 6
      · by_cases h : 0 ≤ n <;> simp [D_word_fits_0, fitsOf, hn, h6, h]
      · simp [D_word_fits_0, fitsOf, hn, h6]
  refine callL_fn (fn := f_word_fits) rfl rfl (D_word_fits_0_ok h) ?r
  simp [finish, results, f_word_fits, resOfs, resOf, resOk]

/-- May the word at place i be as wide? -/
def wOk (k i w : Int) : Prop := if i < takesOf k then 1 ≤ w ∧ w ≤ 8 else w = 0
instance (k i w : Int) : Decidable (wOk k i w) := inferInstanceAs (Decidable (if i < takesOf k then 1 ≤ w ∧ w ≤ 8 else w = 0))

theorem Fit_b1 (k width n s w0 w1 w2 i w : Int) (gh : List GObj) (hi : (i = 0 ∧ w = w0) ∨ (i = 1 ∧ w = w1) ∨ (i = 2 ∧ w = w2)) :
    D_word_Fit_b1 pg k width n s w0 w1 w2 i w0 w1 w2 gh = if wOk k i w then some (.normal, ⟨[(0, I k), (1, I width), (2, I n), (7, .ptr false 0 0), (9, I s), (24, .agg [I w0, I w1, I w2]), (25, I (i + 1))], [[I w0, I w1, I w2]], gh⟩)
      else some (.ret, ⟨[(8, I 3)], [], gh⟩) := by
  have hw : (IntKind.i64.wrap (i + 1)) = i + 1 := wrap_id (by omega) (by omega)
  by_cases hk : i < takesOf k
  · have hk' := Int.not_le.2 hk
    by_cases h1 : 1 ≤ w
    · by_cases h2 : w ≤ 8
      · rcases hi with ⟨rfl, rfl⟩ | ⟨rfl, rfl⟩ | ⟨rfl, rfl⟩ <;> simp [D_word_Fit_b1, Takes_eq, IsWidth_eq, hk, hk', wOk, h1, h2] <;> exact hw
      · rcases hi with ⟨rfl, rfl⟩ | ⟨rfl, rfl⟩ | ⟨rfl, rfl⟩ <;> simp [D_word_Fit_b1, Takes_eq, IsWidth_eq, hk, wOk, h1, h2]
    · rcases hi with ⟨rfl, rfl⟩ | ⟨rfl, rfl⟩ | ⟨rfl, rfl⟩ <;> simp [D_word_Fit_b1, Takes_eq, IsWidth_eq, hk, wOk, h1]
  · have hk' := Int.not_lt.1 hk
    by_cases h2 : w = 0
    · rcases hi with ⟨rfl, rfl⟩ | ⟨rfl, rfl⟩ | ⟨rfl, rfl⟩ <;> simp [D_word_Fit_b1, Takes_eq, hk, hk', wOk, h2] <;> exact hw
    · rcases hi with ⟨rfl, rfl⟩ | ⟨rfl, rfl⟩ | ⟨rfl, rfl⟩ <;> simp [D_word_Fit_b1, Takes_eq, hk, hk', wOk, h2]

theorem Fit_loop (k width n s w0 w1 w2 : Int) (gh : List GObj) :
    runL pg f_word_Fit_l1 ⟨[(0, I k), (1, I width), (2, I n), (7, .ptr false 0 0), (9, I s), (24, .agg [I w0, I w1, I w2]), (25, I 0)], [[I w0, I w1, I w2]], gh⟩ =
      if wOk k 0 w0 ∧ wOk k 1 w1 ∧ wOk k 2 w2 then some (.normal, ⟨[(1, I width), (2, I n), (7, .ptr false 0 0), (9, I s)], [[I w0, I w1, I w2]], gh⟩) else some (.ret, ⟨[(8, I 3)], [], gh⟩) := by
  have b0 := Fit_b1 k width n s w0 w1 w2 0 w0 gh (by simp)
  have b1 := Fit_b1 k width n s w0 w1 w2 1 w1 gh (by simp)
  have b2 := Fit_b1 k width n s w0 w1 w2 2 w2 gh (by simp)
  by_cases h0 : wOk k 0 w0
  · rw [if_pos h0] at b0
    refine lp_next (D_word_Fit_b1_ok b0) ?_
    by_cases h1 : wOk k 1 w1
    · rw [if_pos h1] at b1
      refine lp_next (D_word_Fit_b1_ok b1) ?_
      by_cases h2 : wOk k 2 w2
      · rw [if_pos h2] at b2
        refine lp_next (D_word_Fit_b1_ok b2) ?_
        rw [if_pos ⟨h0, h1, h2⟩]
        refine (lp_exit (s1 := ?s1) (D_word_Fit_b1_ok ?h1)).trans ?r1
        case h1 => simp [D_word_Fit_b1]; rfl
        case r1 => simp [keep]
      · rw [if_neg h2] at b2
        rw [if_neg (fun h => h2 h.2.2)]
        exact lp_ret (D_word_Fit_b1_ok b2)
    · rw [if_neg h1] at b1
      rw [if_neg (fun h => h1 h.2.1)]
      exact lp_ret (D_word_Fit_b1_ok b1)
  · rw [if_neg h0] at b0
    rw [if_neg (fun h => h0 h.1)]
    exact lp_ret (D_word_Fit_b1_ok b0)

/-- Which error an operation's widths make. -/
def fitE (k width n w0 w1 w2 : Int) : Int :=
  match shapeOf k with
  | none => 7
  | some s => if ¬ (1 ≤ width ∧ width ≤ 8) then 3 else if ¬ (wOk k 0 w0 ∧ wOk k 1 w1 ∧ wOk k 2 w2) then 3 else if fitsOf s width n w0 w1 w2 then 0 else 1

theorem Fit_eq (k width n w0 w1 w2 : Int) (gh : List GObj) : callL pg 22 [I k, I width, I n, .agg [I w0, I w1, I w2]] gh = some (I (fitE k width n w0 w1 w2), gh) := by
  have hf := findI_shapes k
  simp only [fitE]
  cases hs : shapeOf k with
  | none =>
    rw [hs] at hf
    refine callL_fn (fn := f_word_Fit) (s := ?s0) rfl rfl (D_word_Fit_0_ok ?h0) ?r0
    case h0 => simp [D_word_Fit_0, shapes_eq, hf]; rfl
    case r0 => simp [finish, results, f_word_Fit, resOfs, resOf, resOk]
  | some s =>
    rw [hs] at hf
    by_cases hw : 1 ≤ width ∧ width ≤ 8
    · have hl := Fit_loop k width n s w0 w1 w2 (gh ++ [.map (mapI shapesZ)])
      simp only [hw, not_true, if_false, and_self]
      by_cases ho : wOk k 0 w0 ∧ wOk k 1 w1 ∧ wOk k 2 w2
      · rw [if_pos ho] at hl
        simp only [ho, not_true, if_false, and_self]
        have hk : ∀ e s1, D_word_Fit_k1 pg width n s w0 w1 w2 (gh ++ [.map (mapI shapesZ)]) = some (e, s1) → _ := fun e s1 h => D_word_Fit_k1_ok h
        by_cases hb : fitsOf s width n w0 w1 w2
        · have := hk .ret ⟨[(8, I 0)], [], gh ++ [.map (mapI shapesZ)]⟩ (by simp [D_word_Fit_k1, fits_eq, hb])
          refine callL_fn (fn := f_word_Fit) (s := ?s1) rfl rfl (D_word_Fit_0_ok ?h1) ?r1
          case h1 => simp [D_word_Fit_0, shapes_eq, hf, IsWidth_eq, hw, hl, this]; rfl
          case r1 => simp [finish, results, f_word_Fit, resOfs, resOf, resOk, hb]
        · have := hk .ret ⟨[(8, I 1)], [], gh ++ [.map (mapI shapesZ)]⟩ (by simp [D_word_Fit_k1, fits_eq, hb])
          refine callL_fn (fn := f_word_Fit) (s := ?s2) rfl rfl (D_word_Fit_0_ok ?h2) ?r2
          case h2 => simp [D_word_Fit_0, shapes_eq, hf, IsWidth_eq, hw, hl, this]; rfl
          case r2 => simp [finish, results, f_word_Fit, resOfs, resOf, resOk, hb]
      · rw [if_neg ho] at hl
        refine callL_fn (fn := f_word_Fit) (s := ?s3) rfl rfl (D_word_Fit_0_ok ?h3) ?r3
        case h3 => simp [D_word_Fit_0, shapes_eq, hf, IsWidth_eq, hw, hl]; rfl
        case r3 => simp [finish, results, f_word_Fit, resOfs, resOf, resOk, ho]
    · refine callL_fn (fn := f_word_Fit) (s := ?s4) rfl rfl (D_word_Fit_0_ok ?h4) ?r4
      case h4 => simp [D_word_Fit_0, shapes_eq, hf, IsWidth_eq, hw]; rfl
      case r4 => simp [finish, results, f_word_Fit, resOfs, resOf, resOk, hw]

end Go.Lw
end

/-! What the code of function word_IsWord comes to, piece by piece. Written by program (dprint.py). -/
section
set_option maxRecDepth 10000
set_option maxHeartbeats 4000000
namespace Go.Lw
open Go

def an_word_IsWord : Tr := (.node 7 (.ce (.bool)) (.node 4 (.ce (.bool)) (.node 1 (.ce (.int .i64)) (.node 0 (.ce (.int .i64)) .nil .nil) .nil) (.node 6 (.ce (.bool)) (.node 5 (.ce (.int .i64)) .nil .nil) .nil)) (.node 10 (.ce (.int .i64)) (.node 9 (.ce (.int .i64)) (.node 8 (.ce (.int .i64)) .nil .nil) .nil) (.node 12 (.ce (.bool)) (.node 11 (.ce (.bool)) .nil .nil) .nil)))

noncomputable def D_word_IsWord_0 (pg : Prg) (x0 : Int) (x1 : Int) (gh : List GObj) : Option (IExit × St) := 
  br 7 (decide (0 ≤ x0)) (gd (decide ((0 : Int) ≤ x1)) (some (.ret, ⟨[(4, (.bool (decide (x0 < (iShl .i64 1 x1)))))], [], gh⟩))) (some (.ret, ⟨[(4, (.bool false))], [], gh⟩))

theorem D_word_IsWord_0_ok {pg : Prg} {gh : List GObj} {x0 : Int} {x1 : Int} {e : IExit} {s : St} (h : D_word_IsWord_0 pg x0 x1 gh = some (e, s)) : runL pg f_word_IsWord_0 ⟨[(0, (.int .i64 x0)), (1, (.int .i64 x1))], [], gh⟩ = some (e, s) :=
  runX_ok an_word_IsWord (Eq.trans (by kernel_rfl) h)

end Go.Lw
end

/-! What Apply of package word comes to. -/
section
namespace Go.Lw
open Go

theorem IsWord_eq (n w : Int) (hw : 0 ≤ w) (gh : List GObj) : callL pg 65 [I n, I w] gh = some (B (decide (0 ≤ n ∧ n < iShl .i64 1 w)), gh) := by
  by_cases h : 0 ≤ n
  · refine callL_fn (fn := f_word_IsWord) (s := ?s1) rfl rfl (D_word_IsWord_0_ok ?h1) ?r1
    case h1 => simp [D_word_IsWord_0, hw, h]; rfl
    case r1 => simp [finish, results, f_word_IsWord, resOfs, resOf, resOk, h]
  · refine callL_fn (fn := f_word_IsWord) (s := ?s2) rfl rfl (D_word_IsWord_0_ok ?h2) ?r2
    case h2 => simp [D_word_IsWord_0, h]; rfl
    case r2 => simp [finish, results, f_word_IsWord, resOfs, resOf, resOk, h]

/-- Is the word at place i one of its width? -/
def inOk (k i x w : Int) : Prop := if i < takesOf k then 0 ≤ x ∧ x < iShl .i64 1 w else x = 0
instance (k i x w : Int) : Decidable (inOk k i x w) := inferInstanceAs (Decidable (if i < takesOf k then 0 ≤ x ∧ x < iShl .i64 1 w else x = 0))

end Go.Lw
end

/-! What the code of function slices_ContainsFunc_Lint_int comes to, piece by piece. Written by program (dprint.py). -/
section
set_option maxRecDepth 10000
set_option maxHeartbeats 4000000
namespace Go.Lw
open Go

def an_slices_ContainsFunc_Lint_int : Tr := (.node 5 (.ce (.one)) (.node 1 (.ce (.one)) (.node 0 (.ce (.one)) .nil .nil) (.node 4 (.ce (.bool)) .nil .nil)) (.node 7 (.ce (.int .i64)) (.node 6 (.ce (.one)) .nil .nil) (.node 8 (.ce (.bool)) .nil .nil)))

noncomputable def D_slices_ContainsFunc_Lint_int_0 (pg : Prg) (v0 : PV) (v1 : PV) (gh : List GObj) : Option (IExit × St) := stK 0 v0 (stK 0 v1 (isC (degr v0) (isC (degr v1) (arK (degr (degr v0)) (arK (degr (degr v1)) (
  callR gh true (callL pg 111 [(degr (degr v0)), (degr (degr v1))] gh) fun r1 gh2 => unI .i64 r1 fun n3 => some (.ret, ⟨[(4, (.bool (decide (0 ≤ n3))))], [], gh2⟩)))))))

theorem D_slices_ContainsFunc_Lint_int_0_ok {pg : Prg} {gh : List GObj} {v0 : PV} {v1 : PV} {e : IExit} {s : St} (h : D_slices_ContainsFunc_Lint_int_0 pg v0 v1 gh = some (e, s)) : runL pg f_slices_ContainsFunc_Lint_int_0 ⟨[(0, v0), (1, v1)], [], gh⟩ = some (e, s) :=
  runX_ok an_slices_ContainsFunc_Lint_int (Eq.trans (by kernel_rfl) h)

end Go.Lw
end

/-! What the code of function slices_IndexFunc_Lint_int comes to, piece by piece. Written by program (dprint.py). -/
section
set_option maxRecDepth 10000
set_option maxHeartbeats 4000000
namespace Go.Lw
open Go

def an_slices_IndexFunc_Lint_int : Tr := (.node 10 (.ce (.int .i64)) (.node 6 (.ce (.one)) (.node 4 (.ce (.int .i64)) (.node 1 (.ce (.one)) (.node 0 (.ce (.one)) .nil .nil) .nil) (.node 5 (.ce (.int .i64)) .nil .nil)) (.node 8 (.ce (.int .i64)) (.node 7 (.ce (.int .i64)) .nil .nil) (.node 9 (.ce (.bool)) .nil .nil))) (.node 15 (.ce (.int .i64)) (.node 12 (.ce (.one)) (.node 11 (.ce (.one)) .nil .nil) (.node 13 (.ce (.int .i64)) .nil .nil)) (.node 17 (.ce (.int .i64)) (.node 16 (.ce (.bool)) .nil .nil) (.node 18 (.ce (.int .i64)) .nil .nil))))

noncomputable def D_slices_IndexFunc_Lint_int_b1 (pg : Prg) (v0 : PV) (v1 : PV) (x7 : Int) (x8 : Int) (gh : List GObj) : Option (IExit × St) := 
  br 9 (decide (x8 < x7)) (stK 0 v0 (stK 0 v1 (isC (degr v1) (isC (degr v0) (
  idX 1 none (degr (degr v0)) x8 fun p1 => 
  ldX [] gh false 1 (degr p1) fun v2 => unI .i64 v2 fun n3 => 
  fnX (degr (degr v1)) fun f6 cs7 => allK cs7 (callR gh true (callL pg f6 ([(.int .i64 n3)] ++ cs7) gh) fun r4 gh5 => unB r4 fun b8 => stK 0 v0 (stK 0 v1 (
  br 16 b8 (some (.ret, ⟨[(4, (.int .i64 x8))], [], gh5⟩)) (stK 0 v0 (stK 0 v1 (stK 0 v0 (stK 0 v1 (some (.normal, ⟨[(0, v0), (1, v1), (7, (.int .i64 x7)), (8, (.int .i64 (IntKind.i64.wrap (x8 + 1))))], [], gh5⟩)))))))))))))) (some ((.exit 0), ⟨[(0, v0), (1, v1), (7, (.int .i64 x7)), (8, (.int .i64 x8)), (9, (.bool (decide (x8 < x7))))], [], gh⟩))

theorem D_slices_IndexFunc_Lint_int_b1_ok {pg : Prg} {gh : List GObj} {v0 : PV} {v1 : PV} {x7 : Int} {x8 : Int} {e : IExit} {s : St} (h : D_slices_IndexFunc_Lint_int_b1 pg v0 v1 x7 x8 gh = some (e, s)) : runL pg f_slices_IndexFunc_Lint_int_b1 ⟨[(0, v0), (1, v1), (7, (.int .i64 x7)), (8, (.int .i64 x8))], [], gh⟩ = some (e, s) :=
  runX_ok an_slices_IndexFunc_Lint_int (Eq.trans (by kernel_rfl) h)

noncomputable def D_slices_IndexFunc_Lint_int_k1 (pg : Prg)  (gh : List GObj) : Option (IExit × St) := some (.ret, ⟨[(4, (.int .i64 (-1)))], [], gh⟩)

theorem D_slices_IndexFunc_Lint_int_k1_ok {pg : Prg} {gh : List GObj}  {e : IExit} {s : St} (h : D_slices_IndexFunc_Lint_int_k1 pg  gh = some (e, s)) : runL pg f_slices_IndexFunc_Lint_int_k1 ⟨[], [], gh⟩ = some (e, s) :=
  runX_ok an_slices_IndexFunc_Lint_int (Eq.trans (by kernel_rfl) h)

noncomputable def D_slices_IndexFunc_Lint_int_0 (pg : Prg) (v0 : PV) (v1 : PV) (gh : List GObj) : Option (IExit × St) := stK 0 v0 (stK 0 v1 (isC (degr v0) (lenS (degr (degr v0)) fun n1 => stK 0 v0 (stK 0 v1 (
  kR (runL pg f_slices_IndexFunc_Lint_int_l1 ⟨[(0, v0), (1, v1), (7, (.int .i64 (n1 : Int))), (8, (.int .i64 0))], [], gh⟩) (fun e s => nx e s (fun e s => some (e, s)) fun s => kR (runL pg f_slices_IndexFunc_Lint_int_k1 s) (fun e s => some (e, s))))))))

theorem D_slices_IndexFunc_Lint_int_0_ok {pg : Prg} {gh : List GObj} {v0 : PV} {v1 : PV} {e : IExit} {s : St} (h : D_slices_IndexFunc_Lint_int_0 pg v0 v1 gh = some (e, s)) : runL pg f_slices_IndexFunc_Lint_int_0 ⟨[(0, v0), (1, v1)], [], gh⟩ = some (e, s) :=
  runX_ok an_slices_IndexFunc_Lint_int (Eq.trans (by kernel_rfl) h)

end Go.Lw
end

/-! What the functions of package gates come to. -/
section
namespace Go.Lw
open Go

/-! ### slices -/
theorem IndexFunc_loop {xs : List Int} {c : Nat} {caps : List PV} {gh : List GObj} {p : Int → Bool} (hc : ∀ x ∈ xs, callL pg c (I x :: caps) gh = some (B (p x), gh)) (hcap : caps.all argOk = true) (hs : Sz xs.length) :
    ∀ k i, i + k = xs.length → runL pg f_slices_IndexFunc_Lint_int_l1 ⟨[(0, LI xs), (1, .fn c caps), (7, I xs.length), (8, I i)], [], gh⟩ =
      match (xs.drop i).findIdx? p with
      | some j => some (.ret, ⟨[(4, I ((i + j : Nat)))], [], gh⟩)
      | none => some (.normal, ⟨[], [], gh⟩)
  | 0, i, h => by
    rw [List.drop_eq_nil_of_le (by omega)]
    refine (lp_exit (s1 := ?s1) (D_slices_IndexFunc_Lint_int_b1_ok ?h1)).trans ?r1
    case h1 => simp [D_slices_IndexFunc_Lint_int_b1, show i = xs.length by omega]; rfl
    case r1 => simp [keep]
  | k + 1, i, h => by
    have hlt : i < xs.length := by omega
    have hx : xs[i]? = some xs[i] := List.getElem?_eq_getElem hlt
    rw [List.drop_eq_getElem_cons hlt, List.findIdx?_cons]
    cases hp : p xs[i] with
    | true =>
      refine (lp_ret (s1 := ?s2) (D_slices_IndexFunc_Lint_int_b1_ok ?h2)).trans ?r2
      case h2 => simp [D_slices_IndexFunc_Lint_int_b1, hlt, hx, allK_ok hcap, hc xs[i] (List.getElem_mem hlt), hp]; rfl
      case r2 => simp
    | false =>
      refine lp_next (s1 := ?s3) (D_slices_IndexFunc_Lint_int_b1_ok ?h3) ?r3
      case h3 => simp [D_slices_IndexFunc_Lint_int_b1, hlt, hx, allK_ok hcap, hc xs[i] (List.getElem_mem hlt), hp]; rfl
      case r3 =>
        rw [wrap_nat (by omega)]
        refine (IndexFunc_loop hc hcap hs k (i + 1) (by omega)).trans ?_
        cases (xs.drop (i + 1)).findIdx? p <;> simp
        omega

theorem IndexFunc_eq {xs : List Int} {c : Nat} {caps : List PV} {gh : List GObj} {p : Int → Bool} (hc : ∀ x ∈ xs, callL pg c (I x :: caps) gh = some (B (p x), gh)) (hcap : caps.all argOk = true) (hs : Sz xs.length) :
    callL pg 111 [LI xs, .fn c caps] gh = some (I (match xs.findIdx? p with | some j => (j : Int) | none => -1), gh) := by
  have hl := IndexFunc_loop hc hcap hs xs.length 0 (by omega)
  simp only [List.drop_zero, Nat.zero_add, Int.natCast_zero] at hl
  cases hf : xs.findIdx? p with
  | some j =>
    rw [hf] at hl
    refine callL_fn (fn := f_slices_IndexFunc_Lint_int) (s := ?s4) rfl rfl (D_slices_IndexFunc_Lint_int_0_ok ?h4) ?r4
    case h4 => simp [D_slices_IndexFunc_Lint_int_0, hl]; rfl
    case r4 => simp [finish, results, f_slices_IndexFunc_Lint_int, resOfs, resOf, resOk, argOk, PV.one, PV.noG]
  | none =>
    rw [hf] at hl
    refine callL_fn (fn := f_slices_IndexFunc_Lint_int) (s := ?s5) rfl rfl (D_slices_IndexFunc_Lint_int_0_ok ?h5) ?r5
    case h5 => simp [D_slices_IndexFunc_Lint_int_0, hl, D_slices_IndexFunc_Lint_int_k1_ok (s := ⟨[(4, I (-1))], [], gh⟩) (e := .ret) rfl]; rfl
    case r5 => simp [finish, results, f_slices_IndexFunc_Lint_int, resOfs, resOf, resOk, argOk, PV.one, PV.noG]

theorem ContainsFunc_eq {xs : List Int} {c : Nat} {caps : List PV} {gh : List GObj} {p : Int → Bool} (hc : ∀ x ∈ xs, callL pg c (I x :: caps) gh = some (B (p x), gh)) (hcap : caps.all argOk = true) (hs : Sz xs.length) :
    callL pg 86 [LI xs, .fn c caps] gh = some (B (xs.any p), gh) := by
  refine callL_fn (fn := f_slices_ContainsFunc_Lint_int) (s := ?s6) rfl rfl (D_slices_ContainsFunc_Lint_int_0_ok ?h6) ?r6
  case h6 => simp [D_slices_ContainsFunc_Lint_int_0, IndexFunc_eq hc hcap hs]; rfl
  case r6 =>
    have : (decide (0 ≤ (match xs.findIdx? p with | some j => (j : Int) | none => -1))) = xs.any p := by
      cases hf : xs.findIdx? p with
      | some j =>
        have := List.findIdx?_eq_some_iff_getElem.1 hf
        obtain ⟨hj, hpj, _⟩ := this
        simp only [Int.natCast_nonneg, decide_true]
        exact (List.any_eq_true.2 ⟨_, List.getElem_mem hj, hpj⟩).symm
      | none =>
        have := List.findIdx?_eq_none_iff.1 hf
        simp only [show decide ((0 : Int) ≤ -1) = false by decide]
        exact (List.any_eq_false.2 fun x hx => by simp [this x hx]).symm
    simp [finish, results, f_slices_ContainsFunc_Lint_int, resOfs, resOf, resOk, argOk, PV.one, PV.noG, this]

end Go.Lw
end

/-! Graphs: maps whose keys are Ands, and the check of a graph. -/
section
namespace Go.Lw
open Go

theorem andV_def (x : Int × Int) : andV x = .agg [I x.1, I x.2] := rfl

/-! maps by Ands -/
/-- An And that may not stand at place i. -/
def badA (ins : Int) (i : Nat) (x : Int × Int) : Prop := x.2 ≤ x.1 ∨ x.1 < 2 ∨ 2 * (1 + ins + i) ≤ x.2 ∨ x.1 / 2 = x.2 / 2
instance (ins : Int) (i : Nat) (x : Int × Int) : Decidable (badA ins i x) := inferInstanceAs (Decidable (_ ∨ _))

section
variable {ins : Int} {ands : List (Int × Int)} {gh : List GObj}

/-- All numbers of a graph are Go's. -/
def RA (ands : List (Int × Int)) : Prop := ∀ x ∈ ands, (-9223372036854775808 ≤ x.1 ∧ x.1 ≤ 9223372036854775807) ∧ (-9223372036854775808 ≤ x.2 ∧ x.2 ≤ 9223372036854775807)

end
end Go.Lw
end

/-! Clauses: what the program makes and checks. -/
section
namespace Go.Lw
open Go

theorem noGs_ints (l : List Int) : noGs (l.map I) = true := by
  induction l with
  | nil => rfl
  | cons x l ih => simp [ih]

section
variable {gh : List GObj} {x y : GObj}
end

section
variable {ins : Int} {ands : List (Int × Int)} {gh : List GObj}

end
end Go.Lw
end

/-! What the code of function model_Args comes to, piece by piece. Written by program (dprint.py). -/
section
set_option maxRecDepth 10000
set_option maxHeartbeats 4000000
namespace Go.Lw
open Go

def an_model_Args : Tr := (.node 8 (.ce (.int .i64)) (.node 4 (.ce (.int .i64)) (.node 2 (.ce (.one)) (.node 0 (.agg [.int .i64, .int .i64, .int .i64, .int .i64, .int .i64, .int .i64]) .nil .nil) .nil) (.node 6 (.ce (.int .i64)) .nil .nil)) (.node 12 (.ce (.int .i64)) (.node 11 (.ce (.int .i64)) (.node 9 (.ce (.one)) .nil .nil) .nil) (.node 13 (.ce (.one)) .nil .nil)))

noncomputable def D_model_Args_0 (pg : Prg) (x0_0 : Int) (x0_1 : Int) (x0_2 : Int) (x0_3 : Int) (x0_4 : Int) (x0_5 : Int) (gh : List GObj) : Option (IExit × St) := 
  callR gh true (callL pg 63 [(.int .i64 x0_0)] gh) fun r1 gh2 => unI .i64 r1 fun n3 => 
  slX 1 (.sl false 1 [(.int .i64 x0_2), (.int .i64 x0_3), (.int .i64 x0_4)]) none (some n3) fun v4 => isC v4 (stK 0 v4 (some (.ret, ⟨[(2, v4)], [], gh2⟩)))

theorem D_model_Args_0_ok {pg : Prg} {gh : List GObj} {x0_0 : Int} {x0_1 : Int} {x0_2 : Int} {x0_3 : Int} {x0_4 : Int} {x0_5 : Int} {e : IExit} {s : St} (h : D_model_Args_0 pg x0_0 x0_1 x0_2 x0_3 x0_4 x0_5 gh = some (e, s)) : runL pg f_model_Args_0 ⟨[(0, (.agg [(.int .i64 x0_0), (.int .i64 x0_1), (.int .i64 x0_2), (.int .i64 x0_3), (.int .i64 x0_4), (.int .i64 x0_5)]))], [], gh⟩ = some (e, s) :=
  runX_ok an_model_Args (Eq.trans (by kernel_rfl) h)

end Go.Lw
end

/-! What the code of function model_leaf comes to, piece by piece. Written by program (dprint.py). -/
section
set_option maxRecDepth 10000
set_option maxHeartbeats 4000000
namespace Go.Lw
open Go

def an_model_leaf : Tr := (.node 5 (.ce (.bool)) (.node 3 (.ce (.int .i64)) (.node 2 (.ce (.bool)) (.node 0 (.ce (.int .i64)) .nil .nil) .nil) (.node 4 (.ce (.bool)) .nil .nil)) (.node 7 (.ce (.bool)) (.node 6 (.ce (.int .i64)) .nil .nil) (.node 8 (.ce (.bool)) .nil .nil)))

noncomputable def D_model_leaf_0 (pg : Prg) (x0 : Int) (gh : List GObj) : Option (IExit × St) := 
  br 5 (decide (1 ≤ x0)) (some (.ret, ⟨[(2, (.bool (decide (x0 ≤ 3))))], [], gh⟩)) (some (.ret, ⟨[(2, (.bool false))], [], gh⟩))

theorem D_model_leaf_0_ok {pg : Prg} {gh : List GObj} {x0 : Int} {e : IExit} {s : St} (h : D_model_leaf_0 pg x0 gh = some (e, s)) : runL pg f_model_leaf_0 ⟨[(0, (.int .i64 x0))], [], gh⟩ = some (e, s) :=
  runX_ok an_model_leaf (Eq.trans (by kernel_rfl) h)

end Go.Lw
end

/-! What the code of function model_Widths comes to, piece by piece. Written by program (dprint.py). -/
section
set_option maxRecDepth 10000
set_option maxHeartbeats 4000000
namespace Go.Lw
open Go

def an_model_Widths : Tr := (.node 12 (.ce (.bool)) (.node 8 (.agg [.int .i64, .int .i64, .int .i64, .int .i64, .int .i64, .int .i64]) (.node 6 (.ce (.int .i64)) (.node 1 (.agg [.int .i64, .int .i64, .int .i64, .int .i64, .int .i64, .int .i64]) (.node 0 (.ce (.one)) .nil .nil) .nil) (.node 7 (.ce (.int .i64)) .nil .nil)) (.node 10 (.ce (.int .i64)) (.node 9 (.ce (.one)) .nil .nil) (.node 11 (.ce (.int .i64)) .nil .nil))) (.node 18 (.ce (.int .i64)) (.node 16 (.ce (.int .i64)) (.node 15 (.ce (.int .i64)) (.node 13 (.ce (.int .i64)) .nil .nil) .nil) (.node 17 (.ce (.one)) .nil .nil)) (.node 23 (.ce (.int .i64)) (.node 21 (.ce (.int .i64)) .nil .nil) (.node 24 (.agg [.int .i64, .int .i64, .int .i64]) .nil .nil))))

noncomputable def D_model_Widths_b1 (pg : Prg) (v0 : PV) (v9 : PV) (x10 : Int) (x11 : Int) (xc0_0 : Int) (xc0_1 : Int) (xc0_2 : Int) (xc0_3 : Int) (xc0_4 : Int) (xc0_5 : Int) (xc1_0 : Int) (xc1_1 : Int) (xc1_2 : Int) (xc2_0 : Int) (xc2_1 : Int) (xc2_2 : Int) (gh : List GObj) : Option (IExit × St) := 
  br 12 (decide (x11 < x10)) (
  idX 1 none (degr v9) x11 fun p1 => 
  ldX [[(.int .i64 xc0_0), (.int .i64 xc0_1), (.int .i64 xc0_2), (.int .i64 xc0_3), (.int .i64 xc0_4), (.int .i64 xc0_5)], [(.int .i64 xc1_0), (.int .i64 xc1_1), (.int .i64 xc1_2)], [(.int .i64 xc2_0), (.int .i64 xc2_1), (.int .i64 xc2_2)]] gh false 1 (degr p1) fun v2 => unI .i64 v2 fun n3 => stK 3 v0 (stK 3 v9 (isC (degr v0) (
  idX 6 none (degr (degr v0)) n3 fun p4 => faX (degr p4) 1 fun p5 => 
  ldX [[(.int .i64 xc0_0), (.int .i64 xc0_1), (.int .i64 xc0_2), (.int .i64 xc0_3), (.int .i64 xc0_4), (.int .i64 xc0_5)], [(.int .i64 xc1_0), (.int .i64 xc1_1), (.int .i64 xc1_2)], [(.int .i64 xc2_0), (.int .i64 xc2_1), (.int .i64 xc2_2)]] gh false 1 (degr p5) fun v6 => unI .i64 v6 fun n7 => gd (decide (0 ≤ x11 ∧ x11 < ((3 : Nat) : Int))) (gb (stOk 1 (0 + Int.toNat x11 * 1) [(.int .i64 n7)] [(.int .i64 xc2_0), (.int .i64 xc2_1), (.int .i64 xc2_2)]) (stK 3 v0 (stK 3 v9 (stK 3 v0 (stK 3 v9 (stK 3 v0 (stK 3 v9 (some (.normal, ⟨[(0, v0), (4, (.ptr false 1 0)), (5, (.ptr false 2 0)), (9, v9), (10, (.int .i64 x10)), (11, (.int .i64 (IntKind.i64.wrap (x11 + 1))))], [[(.int .i64 xc0_0), (.int .i64 xc0_1), (.int .i64 xc0_2), (.int .i64 xc0_3), (.int .i64 xc0_4), (.int .i64 xc0_5)], [(.int .i64 xc1_0), (.int .i64 xc1_1), (.int .i64 xc1_2)], (spliceAt [(.int .i64 xc2_0), (.int .i64 xc2_1), (.int .i64 xc2_2)] (0 + Int.toNat x11 * 1) [(.int .i64 n7)])], gh⟩))))))))))))) (some ((.exit 0), ⟨[(0, v0), (4, (.ptr false 1 0)), (5, (.ptr false 2 0)), (9, v9), (10, (.int .i64 x10)), (11, (.int .i64 x11)), (12, (.bool (decide (x11 < x10))))], [[(.int .i64 xc0_0), (.int .i64 xc0_1), (.int .i64 xc0_2), (.int .i64 xc0_3), (.int .i64 xc0_4), (.int .i64 xc0_5)], [(.int .i64 xc1_0), (.int .i64 xc1_1), (.int .i64 xc1_2)], [(.int .i64 xc2_0), (.int .i64 xc2_1), (.int .i64 xc2_2)]], gh⟩))

theorem D_model_Widths_b1_ok {pg : Prg} {gh : List GObj} {v0 : PV} {v9 : PV} {x10 : Int} {x11 : Int} {xc0_0 : Int} {xc0_1 : Int} {xc0_2 : Int} {xc0_3 : Int} {xc0_4 : Int} {xc0_5 : Int} {xc1_0 : Int} {xc1_1 : Int} {xc1_2 : Int} {xc2_0 : Int} {xc2_1 : Int} {xc2_2 : Int} {e : IExit} {s : St} (h : D_model_Widths_b1 pg v0 v9 x10 x11 xc0_0 xc0_1 xc0_2 xc0_3 xc0_4 xc0_5 xc1_0 xc1_1 xc1_2 xc2_0 xc2_1 xc2_2 gh = some (e, s)) : runL pg f_model_Widths_b1 ⟨[(0, v0), (4, (.ptr false 1 0)), (5, (.ptr false 2 0)), (9, v9), (10, (.int .i64 x10)), (11, (.int .i64 x11))], [[(.int .i64 xc0_0), (.int .i64 xc0_1), (.int .i64 xc0_2), (.int .i64 xc0_3), (.int .i64 xc0_4), (.int .i64 xc0_5)], [(.int .i64 xc1_0), (.int .i64 xc1_1), (.int .i64 xc1_2)], [(.int .i64 xc2_0), (.int .i64 xc2_1), (.int .i64 xc2_2)]], gh⟩ = some (e, s) :=
  runX_ok an_model_Widths (Eq.trans (by kernel_rfl) h)

noncomputable def D_model_Widths_k1 (pg : Prg) (xc0_0 : Int) (xc0_1 : Int) (xc0_2 : Int) (xc0_3 : Int) (xc0_4 : Int) (xc0_5 : Int) (xc1_0 : Int) (xc1_1 : Int) (xc1_2 : Int) (xc2_0 : Int) (xc2_1 : Int) (xc2_2 : Int) (gh : List GObj) : Option (IExit × St) := some (.ret, ⟨[(4, (.ptr false 1 0))], [[(.int .i64 xc0_0), (.int .i64 xc0_1), (.int .i64 xc0_2), (.int .i64 xc0_3), (.int .i64 xc0_4), (.int .i64 xc0_5)], [(.int .i64 xc2_0), (.int .i64 xc2_1), (.int .i64 xc2_2)]], gh⟩)

theorem D_model_Widths_k1_ok {pg : Prg} {gh : List GObj} {xc0_0 : Int} {xc0_1 : Int} {xc0_2 : Int} {xc0_3 : Int} {xc0_4 : Int} {xc0_5 : Int} {xc1_0 : Int} {xc1_1 : Int} {xc1_2 : Int} {xc2_0 : Int} {xc2_1 : Int} {xc2_2 : Int} {e : IExit} {s : St} (h : D_model_Widths_k1 pg xc0_0 xc0_1 xc0_2 xc0_3 xc0_4 xc0_5 xc1_0 xc1_1 xc1_2 xc2_0 xc2_1 xc2_2 gh = some (e, s)) : runL pg f_model_Widths_k1 ⟨[(4, (.ptr false 1 0)), (5, (.ptr false 2 0))], [[(.int .i64 xc0_0), (.int .i64 xc0_1), (.int .i64 xc0_2), (.int .i64 xc0_3), (.int .i64 xc0_4), (.int .i64 xc0_5)], [(.int .i64 xc1_0), (.int .i64 xc1_1), (.int .i64 xc1_2)], [(.int .i64 xc2_0), (.int .i64 xc2_1), (.int .i64 xc2_2)]], gh⟩ = some (e, s) :=
  runX_ok an_model_Widths (Eq.trans (by kernel_rfl) h)

noncomputable def D_model_Widths_0 (pg : Prg) (v0 : PV) (x1_0 : Int) (x1_1 : Int) (x1_2 : Int) (x1_3 : Int) (x1_4 : Int) (x1_5 : Int) (gh : List GObj) : Option (IExit × St) := stK 2 v0 (
  callR gh true (callL pg 81 [(.agg [(.int .i64 x1_0), (.int .i64 x1_1), (.int .i64 x1_2), (.int .i64 x1_3), (.int .i64 x1_4), (.int .i64 x1_5)])] gh) fun r1 gh2 => isC r1 (lenS (degr r1) fun n3 => stK 3 v0 (stK 3 r1 (
  kR (runL pg f_model_Widths_l1 ⟨[(0, v0), (4, (.ptr false 1 0)), (5, (.ptr false 2 0)), (9, r1), (10, (.int .i64 (n3 : Int))), (11, (.int .i64 0))], [[(.int .i64 x1_0), (.int .i64 x1_1), (.int .i64 x1_2), (.int .i64 x1_3), (.int .i64 x1_4), (.int .i64 x1_5)], [(.int .i64 0), (.int .i64 0), (.int .i64 0)], [(.int .i64 0), (.int .i64 0), (.int .i64 0)]], gh2⟩) (fun e s => nx e s (fun e s => some (e, s)) fun s => kR (runL pg f_model_Widths_k1 s) (fun e s => some (e, s)))))))

theorem D_model_Widths_0_ok {pg : Prg} {gh : List GObj} {v0 : PV} {x1_0 : Int} {x1_1 : Int} {x1_2 : Int} {x1_3 : Int} {x1_4 : Int} {x1_5 : Int} {e : IExit} {s : St} (h : D_model_Widths_0 pg v0 x1_0 x1_1 x1_2 x1_3 x1_4 x1_5 gh = some (e, s)) : runL pg f_model_Widths_0 ⟨[(0, v0), (1, (.agg [(.int .i64 x1_0), (.int .i64 x1_1), (.int .i64 x1_2), (.int .i64 x1_3), (.int .i64 x1_4), (.int .i64 x1_5)]))], [], gh⟩ = some (e, s) :=
  runX_ok an_model_Widths (Eq.trans (by kernel_rfl) h)

end Go.Lw
end

/-! What the code of function model_node comes to, piece by piece. Written by program (dprint.py). -/
section
set_option maxRecDepth 10000
set_option maxHeartbeats 4000000
namespace Go.Lw
open Go

def an_model_node : Tr := (.node 58 (.ce (.int .i64)) (.node 30 (.ce (.bool)) (.node 15 (.ce (.bool)) (.node 8 (.ce (.one)) (.node 4 (.ce (.int .i64)) (.node 1 (.ce (.int .i64)) (.node 0 (.ce (.one)) .nil .nil) .nil) (.node 7 (.ce (.int .i64)) (.node 6 (.ce (.int .i64)) .nil .nil) .nil)) (.node 13 (.ce (.int .i64)) (.node 11 (.agg [.int .i64, .int .i64, .int .i64, .int .i64, .int .i64, .int .i64]) (.node 9 (.ce (.int .i64)) .nil .nil) .nil) (.node 14 (.ce (.bool)) .nil .nil))) (.node 23 (.ce (.bool)) (.node 19 (.ce (.bool)) (.node 18 (.ce (.bool)) (.node 17 (.ce (.int .i64)) .nil .nil) .nil) (.node 22 (.ce (.bool)) (.node 21 (.ce (.int .i64)) .nil .nil) .nil)) (.node 27 (.ce (.bool)) (.node 26 (.ce (.bool)) (.node 25 (.ce (.int .i64)) .nil .nil) .nil) (.node 29 (.ce (.int .i64)) .nil .nil)))) (.node 45 (.ce (.int .i64)) (.node 38 (.ce (.bool)) (.node 35 (.ce (.int .i64)) (.node 33 (.ce (.int .i64)) (.node 31 (.ce (.bool)) .nil .nil) .nil) (.node 37 (.ce (.bool)) (.node 36 (.ce (.bool)) .nil .nil) .nil)) (.node 42 (.ce (.bool)) (.node 41 (.ce (.int .i64)) (.node 39 (.ce (.bool)) .nil .nil) .nil) (.node 43 (.ce (.bool)) .nil .nil))) (.node 51 (.ce (.bool)) (.node 49 (.ce (.int .i64)) (.node 47 (.ce (.bool)) (.node 46 (.ce (.bool)) .nil .nil) .nil) (.node 50 (.ce (.bool)) .nil .nil)) (.node 55 (.ce (.bool)) (.node 54 (.ce (.bool)) (.node 53 (.ce (.int .i64)) .nil .nil) .nil) (.node 56 (.ce (.bool)) .nil .nil))))) (.node 85 (.ce (.bool)) (.node 73 (.ce (.int .i64)) (.node 67 (.ce (.one)) (.node 62 (.ce (.int .i64)) (.node 60 (.ce (.bool)) (.node 59 (.ce (.bool)) .nil .nil) .nil) (.node 66 (.ce (.int .i64)) (.node 64 (.ce (.int .i64)) .nil .nil) .nil)) (.node 70 (.ce (.bool)) (.node 69 (.ce (.int .i64)) (.node 68 (.ce (.int .i64)) .nil .nil) .nil) (.node 71 (.ce (.int .i64)) .nil .nil))) (.node 80 (.ce (.int .i64)) (.node 77 (.ce (.int .i64)) (.node 76 (.ce (.int .i64)) (.node 74 (.ce (.int .i64)) .nil .nil) .nil) (.node 79 (.ce (.bool)) (.node 78 (.ce (.bool)) .nil .nil) .nil)) (.node 83 (.ce (.int .i64)) (.node 82 (.ce (.bool)) (.node 81 (.ce (.bool)) .nil .nil) .nil) (.node 84 (.ce (.int .i64)) .nil .nil)))) (.node 97 (.ce (.bool)) (.node 92 (.ce (.int .i64)) (.node 88 (.ce (.bool)) (.node 87 (.ce (.bool)) (.node 86 (.ce (.bool)) .nil .nil) .nil) (.node 91 (.ce (.int .i64)) (.node 89 (.ce (.int .i64)) .nil .nil) .nil)) (.node 95 (.ce (.int .i64)) (.node 94 (.ce (.bool)) (.node 93 (.ce (.bool)) .nil .nil) .nil) (.node 96 (.ce (.bool)) .nil .nil))) (.node 105 (.ce (.int .i64)) (.node 101 (.ce (.int .i64)) (.node 99 (.ce (.int .i64)) (.node 98 (.ce (.bool)) .nil .nil) .nil) (.node 103 (.ce (.int .i64)) .nil .nil)) (.node 108 (.agg [.int .i64, .int .i64, .int .i64]) (.node 107 (.agg [.int .i64, .int .i64, .int .i64, .int .i64, .int .i64, .int .i64]) (.node 106 (.ce (.one)) .nil .nil) .nil) (.node 109 (.ce (.int .i64)) .nil .nil))))))

noncomputable def D_model_node_k1 (pg : Prg) (b39 : Bool) (gh : List GObj) : Option (IExit × St) := 
  br 39 b39 (some (.ret, ⟨[(4, (.int .i64 1))], [], gh⟩)) (some (.normal, ⟨[(39, (.bool b39))], [], gh⟩))

theorem D_model_node_k1_ok {pg : Prg} {gh : List GObj} {b39 : Bool} {e : IExit} {s : St} (h : D_model_node_k1 pg b39 gh = some (e, s)) : runL pg f_model_node_k1 ⟨[(39, (.bool b39))], [], gh⟩ = some (e, s) :=
  runX_ok an_model_node (Eq.trans (by kernel_rfl) h)

noncomputable def D_model_node_k2 (pg : Prg) (b39 : Bool) (gh : List GObj) : Option (IExit × St) := some (.ret, ⟨[(4, (.int .i64 0))], [], gh⟩)

theorem D_model_node_k2_ok {pg : Prg} {gh : List GObj} {b39 : Bool} {e : IExit} {s : St} (h : D_model_node_k2 pg b39 gh = some (e, s)) : runL pg f_model_node_k2 ⟨[(39, (.bool b39))], [], gh⟩ = some (e, s) :=
  runX_ok an_model_node (Eq.trans (by kernel_rfl) h)

noncomputable def D_model_node_b1 (pg : Prg) (v0 : PV) (x1 : Int) (v67 : PV) (x68 : Int) (x69 : Int) (xc0_0 : Int) (xc0_1 : Int) (xc0_2 : Int) (xc0_3 : Int) (xc0_4 : Int) (xc0_5 : Int) (gh : List GObj) : Option (IExit × St) := 
  br 70 (decide (x69 < x68)) (
  idX 1 none (degr v67) x69 fun p1 => 
  ldX [[(.int .i64 xc0_0), (.int .i64 xc0_1), (.int .i64 xc0_2), (.int .i64 xc0_3), (.int .i64 xc0_4), (.int .i64 xc0_5)]] gh false 1 (degr p1) fun v2 => unI .i64 v2 fun n3 => stK 1 v0 (stK 1 v67 (
  callR gh true (callL pg 63 [(.int .i64 xc0_0)] gh) fun r4 gh5 => unI .i64 r4 fun n6 => 
  br 79 (decide (x69 < n6)) (
  br 82 (decide (n3 < 0)) (stK 1 v0 (stK 1 v67 (some (.ret, ⟨[(4, (.int .i64 4))], [], gh5⟩)))) (
  br 88 (decide (x1 ≤ n3)) (stK 1 v0 (stK 1 v67 (some (.ret, ⟨[(4, (.int .i64 4))], [], gh5⟩)))) (
  callR gh5 true (callL pg 63 [(.int .i64 xc0_0)] gh5) fun r7 gh8 => unI .i64 r7 fun n9 => 
  br 94 (decide (n9 ≤ x69)) (stK 1 v0 (stK 1 v67 (
  br 98 (n3 != 0) (some (.ret, ⟨[(4, (.int .i64 4))], [], gh8⟩)) (stK 1 v0 (stK 1 v67 (stK 1 v0 (stK 1 v67 (some (.normal, ⟨[(0, v0), (1, (.int .i64 x1)), (5, (.ptr false 0 0)), (67, v67), (68, (.int .i64 x68)), (69, (.int .i64 (IntKind.i64.wrap (x69 + 1))))], [[(.int .i64 xc0_0), (.int .i64 xc0_1), (.int .i64 xc0_2), (.int .i64 xc0_3), (.int .i64 xc0_4), (.int .i64 xc0_5)]], gh8⟩))))))))) (stK 1 v0 (stK 1 v67 (stK 1 v0 (stK 1 v67 (stK 1 v0 (stK 1 v67 (some (.normal, ⟨[(0, v0), (1, (.int .i64 x1)), (5, (.ptr false 0 0)), (67, v67), (68, (.int .i64 x68)), (69, (.int .i64 (IntKind.i64.wrap (x69 + 1))))], [[(.int .i64 xc0_0), (.int .i64 xc0_1), (.int .i64 xc0_2), (.int .i64 xc0_3), (.int .i64 xc0_4), (.int .i64 xc0_5)]], gh8⟩))))))))))) (
  callR gh5 true (callL pg 63 [(.int .i64 xc0_0)] gh5) fun r10 gh11 => unI .i64 r10 fun n12 => 
  br 94 (decide (n12 ≤ x69)) (stK 1 v0 (stK 1 v67 (
  br 98 (n3 != 0) (some (.ret, ⟨[(4, (.int .i64 4))], [], gh11⟩)) (stK 1 v0 (stK 1 v67 (stK 1 v0 (stK 1 v67 (some (.normal, ⟨[(0, v0), (1, (.int .i64 x1)), (5, (.ptr false 0 0)), (67, v67), (68, (.int .i64 x68)), (69, (.int .i64 (IntKind.i64.wrap (x69 + 1))))], [[(.int .i64 xc0_0), (.int .i64 xc0_1), (.int .i64 xc0_2), (.int .i64 xc0_3), (.int .i64 xc0_4), (.int .i64 xc0_5)]], gh11⟩))))))))) (stK 1 v0 (stK 1 v67 (stK 1 v0 (stK 1 v67 (stK 1 v0 (stK 1 v67 (some (.normal, ⟨[(0, v0), (1, (.int .i64 x1)), (5, (.ptr false 0 0)), (67, v67), (68, (.int .i64 x68)), (69, (.int .i64 (IntKind.i64.wrap (x69 + 1))))], [[(.int .i64 xc0_0), (.int .i64 xc0_1), (.int .i64 xc0_2), (.int .i64 xc0_3), (.int .i64 xc0_4), (.int .i64 xc0_5)]], gh11⟩)))))))))))) (some ((.exit 1), ⟨[(0, v0), (1, (.int .i64 x1)), (5, (.ptr false 0 0)), (67, v67), (68, (.int .i64 x68)), (69, (.int .i64 x69)), (70, (.bool (decide (x69 < x68))))], [[(.int .i64 xc0_0), (.int .i64 xc0_1), (.int .i64 xc0_2), (.int .i64 xc0_3), (.int .i64 xc0_4), (.int .i64 xc0_5)]], gh⟩))

theorem D_model_node_b1_ok {pg : Prg} {gh : List GObj} {v0 : PV} {x1 : Int} {v67 : PV} {x68 : Int} {x69 : Int} {xc0_0 : Int} {xc0_1 : Int} {xc0_2 : Int} {xc0_3 : Int} {xc0_4 : Int} {xc0_5 : Int} {e : IExit} {s : St} (h : D_model_node_b1 pg v0 x1 v67 x68 x69 xc0_0 xc0_1 xc0_2 xc0_3 xc0_4 xc0_5 gh = some (e, s)) : runL pg f_model_node_b1 ⟨[(0, v0), (1, (.int .i64 x1)), (5, (.ptr false 0 0)), (67, v67), (68, (.int .i64 x68)), (69, (.int .i64 x69))], [[(.int .i64 xc0_0), (.int .i64 xc0_1), (.int .i64 xc0_2), (.int .i64 xc0_3), (.int .i64 xc0_4), (.int .i64 xc0_5)]], gh⟩ = some (e, s) :=
  runX_ok an_model_node (Eq.trans (by kernel_rfl) h)

noncomputable def D_model_node_k4 (pg : Prg) (v0 : PV) (xc0_0 : Int) (xc0_1 : Int) (xc0_2 : Int) (xc0_3 : Int) (xc0_4 : Int) (xc0_5 : Int) (gh : List GObj) : Option (IExit × St) := isC (degr v0) (arK (degr (degr v0)) (
  callR gh true (callL pg 104 [(degr (degr v0)), (.agg [(.int .i64 xc0_0), (.int .i64 xc0_1), (.int .i64 xc0_2), (.int .i64 xc0_3), (.int .i64 xc0_4), (.int .i64 xc0_5)])] gh) fun r1 gh2 => unA 3 r1 fun c3 c4 c5 => unI .i64 c3 fun n6 => unI .i64 c4 fun n7 => unI .i64 c5 fun n8 => 
  callR gh2 true (callL pg 22 [(.int .i64 xc0_0), (.int .i64 xc0_1), (.int .i64 xc0_5), (.agg [(.int .i64 n6), (.int .i64 n7), (.int .i64 n8)])] gh2) fun r9 gh10 => unI .i64 r9 fun n11 => some (.ret, ⟨[(4, (.int .i64 n11))], [], gh10⟩)))

theorem D_model_node_k4_ok {pg : Prg} {gh : List GObj} {v0 : PV} {xc0_0 : Int} {xc0_1 : Int} {xc0_2 : Int} {xc0_3 : Int} {xc0_4 : Int} {xc0_5 : Int} {e : IExit} {s : St} (h : D_model_node_k4 pg v0 xc0_0 xc0_1 xc0_2 xc0_3 xc0_4 xc0_5 gh = some (e, s)) : runL pg f_model_node_k4 ⟨[(0, v0), (5, (.ptr false 0 0))], [[(.int .i64 xc0_0), (.int .i64 xc0_1), (.int .i64 xc0_2), (.int .i64 xc0_3), (.int .i64 xc0_4), (.int .i64 xc0_5)]], gh⟩ = some (e, s) :=
  runX_ok an_model_node (Eq.trans (by kernel_rfl) h)

noncomputable def D_model_node_k3 (pg : Prg) (v0 : PV) (x1 : Int) (b26 : Bool) (xc0_0 : Int) (xc0_1 : Int) (xc0_2 : Int) (xc0_3 : Int) (xc0_4 : Int) (xc0_5 : Int) (gh : List GObj) : Option (IExit × St) := lenS (.sl false 1 [(.int .i64 xc0_2), (.int .i64 xc0_3), (.int .i64 xc0_4)]) fun n1 => stK 1 v0 (
  kR (runL pg f_model_node_l1 ⟨[(0, v0), (1, (.int .i64 x1)), (5, (.ptr false 0 0)), (67, (.sl true 1 [(.int .i64 xc0_2), (.int .i64 xc0_3), (.int .i64 xc0_4)])), (68, (.int .i64 (n1 : Int))), (69, (.int .i64 0))], [[(.int .i64 xc0_0), (.int .i64 xc0_1), (.int .i64 xc0_2), (.int .i64 xc0_3), (.int .i64 xc0_4), (.int .i64 xc0_5)]], gh⟩) (fun e s => nx e s (fun e s => some (e, s)) fun s => kR (runL pg f_model_node_k4 s) (fun e s => some (e, s))))

theorem D_model_node_k3_ok {pg : Prg} {gh : List GObj} {v0 : PV} {x1 : Int} {b26 : Bool} {xc0_0 : Int} {xc0_1 : Int} {xc0_2 : Int} {xc0_3 : Int} {xc0_4 : Int} {xc0_5 : Int} {e : IExit} {s : St} (h : D_model_node_k3 pg v0 x1 b26 xc0_0 xc0_1 xc0_2 xc0_3 xc0_4 xc0_5 gh = some (e, s)) : runL pg f_model_node_k3 ⟨[(0, v0), (1, (.int .i64 x1)), (5, (.ptr false 0 0)), (26, (.bool b26))], [[(.int .i64 xc0_0), (.int .i64 xc0_1), (.int .i64 xc0_2), (.int .i64 xc0_3), (.int .i64 xc0_4), (.int .i64 xc0_5)]], gh⟩ = some (e, s) :=
  runX_ok an_model_node (Eq.trans (by kernel_rfl) h)

noncomputable def D_model_node_0 (pg : Prg) (v0 : PV) (x1 : Int) (gh : List GObj) : Option (IExit × St) := stK 0 v0 (isC (degr v0) (
  idX 6 none (degr (degr v0)) x1 fun p1 => 
  ldX [] gh true 6 (degr p1) fun v2 => unA 6 v2 fun c3 c4 c5 c6 c7 c8 => unI .i64 c3 fun n9 => unI .i64 c4 fun n10 => unI .i64 c5 fun n11 => unI .i64 c6 fun n12 => unI .i64 c7 fun n13 => unI .i64 c8 fun n14 => stK 1 v0 (
  br 15 (decide (n9 < 1)) (stK 1 v0 (some (.ret, ⟨[(4, (.int .i64 7))], [], gh⟩))) (stK 1 v0 (
  br 19 (decide (24 ≤ n9)) (some (.ret, ⟨[(4, (.int .i64 7))], [], gh⟩)) (
  callR gh true (callL pg 62 [(.int .i64 n10)] gh) fun r15 gh16 => unB r15 fun b17 => stK 1 v0 (
  br 23 (!b17) (some (.ret, ⟨[(4, (.int .i64 3))], [], gh16⟩)) (
  callR gh16 true (callL pg 103 [(.int .i64 n9)] gh16) fun r18 gh19 => unB r18 fun b20 => stK 1 v0 (
  br 26 b20 (
  br 31 (n9 == 1) (
  callR gh19 true (callL pg 65 [(.int .i64 n14), (.int .i64 n10)] gh19) fun r21 gh22 => unB r21 fun b23 => 
  br 27 (!b23) (some (.ret, ⟨[(4, (.int .i64 3))], [], gh22⟩)) (
  br 43 (n9 != 1) (
  br 39 (n14 != 0) (
  kR (runL pg f_model_node_k1 ⟨[(39, (.bool (n14 != 0)))], [], gh22⟩) (fun e s => bk 0 e s (fun e s => nx e s (fun e s => nx e s (fun e s => some (e, s)) fun s => kR (runL pg f_model_node_k3 s) (fun e s => some (e, s))) fun s => kR (runL pg f_model_node_k2 s) (fun e s => nx e s (fun e s => some (e, s)) fun s => kR (runL pg f_model_node_k3 s) (fun e s => some (e, s)))))) (
  br 51 (n11 != 0) (
  kR (runL pg f_model_node_k1 ⟨[(39, (.bool true))], [], gh22⟩) (fun e s => bk 0 e s (fun e s => nx e s (fun e s => nx e s (fun e s => some (e, s)) fun s => kR (runL pg f_model_node_k3 s) (fun e s => some (e, s))) fun s => kR (runL pg f_model_node_k2 s) (fun e s => nx e s (fun e s => some (e, s)) fun s => kR (runL pg f_model_node_k3 s) (fun e s => some (e, s)))))) (
  br 56 (n12 != 0) (
  kR (runL pg f_model_node_k1 ⟨[(39, (.bool true))], [], gh22⟩) (fun e s => bk 0 e s (fun e s => nx e s (fun e s => nx e s (fun e s => some (e, s)) fun s => kR (runL pg f_model_node_k3 s) (fun e s => some (e, s))) fun s => kR (runL pg f_model_node_k2 s) (fun e s => nx e s (fun e s => some (e, s)) fun s => kR (runL pg f_model_node_k3 s) (fun e s => some (e, s)))))) (
  kR (runL pg f_model_node_k1 ⟨[(39, (.bool (n13 != 0)))], [], gh22⟩) (fun e s => bk 0 e s (fun e s => nx e s (fun e s => nx e s (fun e s => some (e, s)) fun s => kR (runL pg f_model_node_k3 s) (fun e s => some (e, s))) fun s => kR (runL pg f_model_node_k2 s) (fun e s => nx e s (fun e s => some (e, s)) fun s => kR (runL pg f_model_node_k3 s) (fun e s => some (e, s))))))))) (
  br 51 (n11 != 0) (
  kR (runL pg f_model_node_k1 ⟨[(39, (.bool true))], [], gh22⟩) (fun e s => bk 0 e s (fun e s => nx e s (fun e s => nx e s (fun e s => some (e, s)) fun s => kR (runL pg f_model_node_k3 s) (fun e s => some (e, s))) fun s => kR (runL pg f_model_node_k2 s) (fun e s => nx e s (fun e s => some (e, s)) fun s => kR (runL pg f_model_node_k3 s) (fun e s => some (e, s)))))) (
  br 56 (n12 != 0) (
  kR (runL pg f_model_node_k1 ⟨[(39, (.bool true))], [], gh22⟩) (fun e s => bk 0 e s (fun e s => nx e s (fun e s => nx e s (fun e s => some (e, s)) fun s => kR (runL pg f_model_node_k3 s) (fun e s => some (e, s))) fun s => kR (runL pg f_model_node_k2 s) (fun e s => nx e s (fun e s => some (e, s)) fun s => kR (runL pg f_model_node_k3 s) (fun e s => some (e, s)))))) (
  kR (runL pg f_model_node_k1 ⟨[(39, (.bool (n13 != 0)))], [], gh22⟩) (fun e s => bk 0 e s (fun e s => nx e s (fun e s => nx e s (fun e s => some (e, s)) fun s => kR (runL pg f_model_node_k3 s) (fun e s => some (e, s))) fun s => kR (runL pg f_model_node_k2 s) (fun e s => nx e s (fun e s => some (e, s)) fun s => kR (runL pg f_model_node_k3 s) (fun e s => some (e, s)))))))))) (
  br 43 (n9 != 1) (
  br 39 (n14 != 0) (
  kR (runL pg f_model_node_k1 ⟨[(39, (.bool (n14 != 0)))], [], gh19⟩) (fun e s => bk 0 e s (fun e s => nx e s (fun e s => nx e s (fun e s => some (e, s)) fun s => kR (runL pg f_model_node_k3 s) (fun e s => some (e, s))) fun s => kR (runL pg f_model_node_k2 s) (fun e s => nx e s (fun e s => some (e, s)) fun s => kR (runL pg f_model_node_k3 s) (fun e s => some (e, s)))))) (
  br 51 (n11 != 0) (
  kR (runL pg f_model_node_k1 ⟨[(39, (.bool true))], [], gh19⟩) (fun e s => bk 0 e s (fun e s => nx e s (fun e s => nx e s (fun e s => some (e, s)) fun s => kR (runL pg f_model_node_k3 s) (fun e s => some (e, s))) fun s => kR (runL pg f_model_node_k2 s) (fun e s => nx e s (fun e s => some (e, s)) fun s => kR (runL pg f_model_node_k3 s) (fun e s => some (e, s)))))) (
  br 56 (n12 != 0) (
  kR (runL pg f_model_node_k1 ⟨[(39, (.bool true))], [], gh19⟩) (fun e s => bk 0 e s (fun e s => nx e s (fun e s => nx e s (fun e s => some (e, s)) fun s => kR (runL pg f_model_node_k3 s) (fun e s => some (e, s))) fun s => kR (runL pg f_model_node_k2 s) (fun e s => nx e s (fun e s => some (e, s)) fun s => kR (runL pg f_model_node_k3 s) (fun e s => some (e, s)))))) (
  kR (runL pg f_model_node_k1 ⟨[(39, (.bool (n13 != 0)))], [], gh19⟩) (fun e s => bk 0 e s (fun e s => nx e s (fun e s => nx e s (fun e s => some (e, s)) fun s => kR (runL pg f_model_node_k3 s) (fun e s => some (e, s))) fun s => kR (runL pg f_model_node_k2 s) (fun e s => nx e s (fun e s => some (e, s)) fun s => kR (runL pg f_model_node_k3 s) (fun e s => some (e, s))))))))) (
  br 51 (n11 != 0) (
  kR (runL pg f_model_node_k1 ⟨[(39, (.bool true))], [], gh19⟩) (fun e s => bk 0 e s (fun e s => nx e s (fun e s => nx e s (fun e s => some (e, s)) fun s => kR (runL pg f_model_node_k3 s) (fun e s => some (e, s))) fun s => kR (runL pg f_model_node_k2 s) (fun e s => nx e s (fun e s => some (e, s)) fun s => kR (runL pg f_model_node_k3 s) (fun e s => some (e, s)))))) (
  br 56 (n12 != 0) (
  kR (runL pg f_model_node_k1 ⟨[(39, (.bool true))], [], gh19⟩) (fun e s => bk 0 e s (fun e s => nx e s (fun e s => nx e s (fun e s => some (e, s)) fun s => kR (runL pg f_model_node_k3 s) (fun e s => some (e, s))) fun s => kR (runL pg f_model_node_k2 s) (fun e s => nx e s (fun e s => some (e, s)) fun s => kR (runL pg f_model_node_k3 s) (fun e s => some (e, s)))))) (
  kR (runL pg f_model_node_k1 ⟨[(39, (.bool (n13 != 0)))], [], gh19⟩) (fun e s => bk 0 e s (fun e s => nx e s (fun e s => nx e s (fun e s => some (e, s)) fun s => kR (runL pg f_model_node_k3 s) (fun e s => some (e, s))) fun s => kR (runL pg f_model_node_k2 s) (fun e s => nx e s (fun e s => some (e, s)) fun s => kR (runL pg f_model_node_k3 s) (fun e s => some (e, s)))))))))) (
  kR (runL pg f_model_node_k3 ⟨[(0, v0), (1, (.int .i64 x1)), (5, (.ptr false 0 0)), (26, (.bool b20))], [[(.int .i64 n9), (.int .i64 n10), (.int .i64 n11), (.int .i64 n12), (.int .i64 n13), (.int .i64 n14)]], gh19⟩) (fun e s => some (e, s))))))))))))

theorem D_model_node_0_ok {pg : Prg} {gh : List GObj} {v0 : PV} {x1 : Int} {e : IExit} {s : St} (h : D_model_node_0 pg v0 x1 gh = some (e, s)) : runL pg f_model_node_0 ⟨[(0, v0), (1, (.int .i64 x1))], [], gh⟩ = some (e, s) :=
  runX_ok an_model_node (Eq.trans (by kernel_rfl) h)

end Go.Lw
end

/-! Nodes of models: what the program and the document say of one. -/
section
namespace Go.Lw
open Go

structure Nd where
  k : Int
  w : Int
  a : Int
  b : Int
  c : Int
  n : Int
  deriving Inhabited

def nodeV (x : Nd) : PV := .agg [I x.k, I x.w, I x.a, I x.b, I x.c, I x.n]
theorem nodeV_def (x : Nd) : nodeV x = .agg [I x.k, I x.w, I x.a, I x.b, I x.c, I x.n] := rfl
/-- Nodes. -/
abbrev LN (l : List Nd) : PV := .sl false 6 (l.map nodeV)

theorem takes_cases (k : Int) : takesOf k = 0 ∨ takesOf k = 1 ∨ takesOf k = 2 ∨ takesOf k = 3 := by
  unfold takesOf
  repeat' split
  all_goals simp

theorem takes_leaf {k : Int} (h : 1 ≤ k ∧ k ≤ 3) : takesOf k = 0 := by
  unfold takesOf; rw [if_pos (by omega)]

/-- The numbers of those that a node names. -/
def argsL (x : Nd) : List Int := [x.a, x.b, x.c].take (takesOf x.k).toNat

theorem Args_eq (x : Nd) (gh : List GObj) : callL pg 81 [nodeV x] gh = some (LI (argsL x), gh) := by
  unfold nodeV argsL
  have ht := Takes_eq x.k gh
  rcases takes_cases x.k with h | h | h | h <;> rw [h] at ht ⊢
  · refine callL_fn (fn := f_model_Args) (s := ?s0) rfl rfl (D_model_Args_0_ok ?h0) ?r0
    case h0 => simp [D_model_Args_0, ht]; rfl
    case r0 => simp [finish, results, f_model_Args, resOk, get]
  · refine callL_fn (fn := f_model_Args) (s := ?s1) rfl rfl (D_model_Args_0_ok ?h1) ?r1
    case h1 => simp [D_model_Args_0, ht]; rfl
    case r1 => simp [finish, results, f_model_Args, resOk, get]
  · refine callL_fn (fn := f_model_Args) (s := ?s2) rfl rfl (D_model_Args_0_ok ?h2) ?r2
    case h2 => simp [D_model_Args_0, ht]; rfl
    case r2 => simp [finish, results, f_model_Args, resOk, get]
  · refine callL_fn (fn := f_model_Args) (s := ?s3) rfl rfl (D_model_Args_0_ok ?h3) ?r3
    case h3 => simp [D_model_Args_0, ht]; rfl
    case r3 => simp [finish, results, f_model_Args, resOk, get]

theorem leaf_eq (k : Int) (gh : List GObj) : callL pg 103 [I k] gh = some (B (decide (1 ≤ k ∧ k ≤ 3)), gh) := by
  by_cases h : 1 ≤ k
  · refine callL_fn (fn := f_model_leaf) (s := ?s1) rfl rfl (D_model_leaf_0_ok ?h1) ?r1
    case h1 => simp [D_model_leaf_0, h]; rfl
    case r1 => simp [finish, results, f_model_leaf, resOfs, resOf, resOk, h]
  · refine callL_fn (fn := f_model_leaf) (s := ?s2) rfl rfl (D_model_leaf_0_ok ?h2) ?r2
    case h2 => simp [D_model_leaf_0, h]; rfl
    case r2 => simp [finish, results, f_model_leaf, resOfs, resOf, resOk, h]

/-- The width of the node of that number. -/
def wAt (l : List Nd) (a : Int) : Int := (l.getD a.toNat default).w

/-- It is the number of a node. -/
def isNo (l : List Nd) (a : Int) : Prop := 0 ≤ a ∧ a.toNat < l.length
instance (l : List Nd) (a : Int) : Decidable (isNo l a) := inferInstanceAs (Decidable (_ ∧ _))

theorem node_at {l : List Nd} {a : Int} (h : isNo l a) : (l.map nodeV)[a.toNat]? = some (nodeV (l.getD a.toNat default)) := by
  rw [List.getElem?_map, List.getElem?_eq_getElem h.2]
  simp [List.getD_eq_getElem?_getD, List.getElem?_eq_getElem h.2]

def wdSt (l : List Nd) (x : Nd) (w0 w1 w2 : Int) (xs : List Int) (i : Int) (gh : List GObj) : St :=
  ⟨[(0, LN l), (4, .ptr false 1 0), (5, .ptr false 2 0), (9, LI xs), (10, I xs.length), (11, I i)], [[I x.k, I x.w, I x.a, I x.b, I x.c, I x.n], [I 0, I 0, I 0], [I w0, I w1, I w2]], gh⟩

theorem Widths_b1 {l : List Nd} {x : Nd} {w0 w1 w2 a i : Int} {xs : List Int} {gh : List GObj} (hi : i = 0 ∨ i = 1 ∨ i = 2) (hx : xs[i.toNat]? = some a) (ha : isNo l a) :
    D_model_Widths_b1 pg (LN l) (LI xs) xs.length i x.k x.w x.a x.b x.c x.n 0 0 0 w0 w1 w2 gh =
      some (.normal, wdSt l x (if i = 0 then wAt l a else w0) (if i = 1 then wAt l a else w1) (if i = 2 then wAt l a else w2) xs (i + 1) gh) := by
  have hlt := (List.getElem?_eq_some_iff.1 hx).1
  have hltI : i < (xs.length : Int) := by omega
  have hm : (xs.map I)[i.toNat]? = some (I a) := by rw [List.getElem?_map, hx]; rfl
  have hn := node_at ha
  have h0 := ha.1
  have hw : IntKind.i64.wrap (i + 1) = i + 1 := wrap_id (by omega) (by omega)
  generalize hd : l.getD a.toNat default = d at hn
  have hwa : wAt l a = d.w := by unfold wAt; rw [hd]
  rw [hwa]
  rw [nodeV_def d] at hn
  unfold wdSt
  have h5 : 0 < xs.length := by omega
  rcases hi with rfl | rfl | rfl
  · have e0 : xs[0] = a := (List.getElem?_eq_some_iff.1 hx).2
    rw [Int.zero_add] at hw
    simp [D_model_Widths_b1, h5, e0, hn, h0, hw, spliceAt, -List.getElem?_map]
  · have hm0 : (xs.map I)[1]? = some (I a) := hm
    simp [D_model_Widths_b1, hltI, hm0, hn, h0, spliceAt, -List.getElem?_map]
    exact hw
  · have hm0 : (xs.map I)[2]? = some (I a) := hm
    simp [D_model_Widths_b1, hltI, hm0, hn, h0, spliceAt, -List.getElem?_map]
    exact hw

/-- The widths of what a node names. -/
def wdJ (l : List Nd) (k j a : Int) : Int := if j < takesOf k then wAt l a else 0

/-- What a node names are nodes. -/
structure ArgsIn (l : List Nd) (x : Nd) : Prop where
  a : 0 < takesOf x.k → isNo l x.a
  b : 1 < takesOf x.k → isNo l x.b
  c : 2 < takesOf x.k → isNo l x.c

def widthsV (l : List Nd) (x : Nd) : PV := .agg [I (wdJ l x.k 0 x.a), I (wdJ l x.k 1 x.b), I (wdJ l x.k 2 x.c)]

theorem Widths_done {l : List Nd} {x : Nd} {w0 w1 w2 : Int} {xs : List Int} {gh : List GObj} : runL pg f_model_Widths_l1 (wdSt l x w0 w1 w2 xs xs.length gh) =
    some (.normal, ⟨[(4, .ptr false 1 0), (5, .ptr false 2 0)], [[I x.k, I x.w, I x.a, I x.b, I x.c, I x.n], [I 0, I 0, I 0], [I w0, I w1, I w2]], gh⟩) := by
  refine (lp_exit (s1 := ?s1) (D_model_Widths_b1_ok ?h1)).trans ?r1
  case h1 => simp [D_model_Widths_b1]; rfl
  case r1 => simp [keep, stays]

theorem Widths_loop {l : List Nd} {x : Nd} {gh : List GObj} (h : ArgsIn l x) : runL pg f_model_Widths_l1 (wdSt l x 0 0 0 (argsL x) 0 gh) =
    some (.normal, ⟨[(4, .ptr false 1 0), (5, .ptr false 2 0)], [[I x.k, I x.w, I x.a, I x.b, I x.c, I x.n], [I 0, I 0, I 0], [I (wdJ l x.k 0 x.a), I (wdJ l x.k 1 x.b), I (wdJ l x.k 2 x.c)]], gh⟩) := by
  unfold argsL wdJ
  rcases takes_cases x.k with ht | ht | ht | ht <;> rw [ht]
  · exact Widths_done (xs := [])
  · refine lp_next (D_model_Widths_b1_ok (Widths_b1 (a := x.a) (.inl rfl) rfl (h.a (by omega)))) ?_
    exact Widths_done (xs := [x.a])
  · refine lp_next (D_model_Widths_b1_ok (Widths_b1 (a := x.a) (.inl rfl) rfl (h.a (by omega)))) ?_
    refine lp_next (D_model_Widths_b1_ok (Widths_b1 (a := x.b) (.inr (.inl rfl)) rfl (h.b (by omega)))) ?_
    exact Widths_done (xs := [x.a, x.b])
  · refine lp_next (D_model_Widths_b1_ok (Widths_b1 (a := x.a) (.inl rfl) rfl (h.a (by omega)))) ?_
    refine lp_next (D_model_Widths_b1_ok (Widths_b1 (a := x.b) (.inr (.inl rfl)) rfl (h.b (by omega)))) ?_
    refine lp_next (D_model_Widths_b1_ok (Widths_b1 (a := x.c) (.inr (.inr rfl)) rfl (h.c (by omega)))) ?_
    exact Widths_done (xs := [x.a, x.b, x.c])

theorem Widths_eq {l : List Nd} {x : Nd} {gh : List GObj} (h : ArgsIn l x) : callL pg 104 [LN l, nodeV x] gh = some (widthsV l x, gh) := by
  have hA := Args_eq x gh
  have hl := Widths_loop (gh := gh) h
  unfold wdSt at hl
  have hk := D_model_Widths_k1_ok (pg := pg) (gh := gh) (xc0_0 := x.k) (xc0_1 := x.w) (xc0_2 := x.a) (xc0_3 := x.b) (xc0_4 := x.c) (xc0_5 := x.n) (xc1_0 := 0) (xc1_1 := 0) (xc1_2 := 0) (xc2_0 := wdJ l x.k 0 x.a) (xc2_1 := wdJ l x.k 1 x.b) (xc2_2 := wdJ l x.k 2 x.c) rfl
  unfold nodeV at hA
  have hlen : ((argsL x).map I).length = (argsL x).length := by simp
  refine callL_fn (fn := f_model_Widths) (s := ?s1) rfl rfl (D_model_Widths_0_ok ?h1) ?r1
  case h1 => simp [D_model_Widths_0, hA, hl, hk]; rfl
  case r1 => simp [finish, results, f_model_Widths, resOfs, resOf, St.cellsAt, resOk, widthsV]

end Go.Lw
end

/-! What is wrong with a node: the program's answer and the document's. -/
section
namespace Go.Lw
open Go

/-- A number that may not stand at place j of a node. -/
def badJ (idx k j a : Int) : Prop := if j < takesOf k then a < 0 ∨ idx ≤ a else a ≠ 0
instance (idx k j a : Int) : Decidable (badJ idx k j a) := inferInstanceAs (Decidable (if j < takesOf k then a < 0 ∨ idx ≤ a else a ≠ 0))

def badArgs (idx : Int) (x : Nd) : Prop := badJ idx x.k 0 x.a ∨ badJ idx x.k 1 x.b ∨ badJ idx x.k 2 x.c
instance (idx : Int) (x : Nd) : Decidable (badArgs idx x) := inferInstanceAs (Decidable (_ ∨ _))

/-- What is wrong with a node. -/
def nodeE (l : List Nd) (idx : Int) (x : Nd) : Int :=
  if x.k < 1 ∨ 24 ≤ x.k then 7 else if ¬ (1 ≤ x.w ∧ x.w ≤ 8) then 3
  else if x.k ≤ 3 then (if x.k = 1 ∧ ¬ (0 ≤ x.n ∧ x.n < ((2 ^ x.w.toNat : Nat) : Int)) then 3 else if (x.k ≠ 1 ∧ x.n ≠ 0) ∨ x.a ≠ 0 ∨ x.b ≠ 0 ∨ x.c ≠ 0 then 1 else 0)
  else if badArgs idx x then 4 else fitE x.k x.w x.n (wdJ l x.k 0 x.a) (wdJ l x.k 1 x.b) (wdJ l x.k 2 x.c)

theorem args_in {l : List Nd} {idx : Nat} {x : Nd} (hi : idx ≤ l.length) (h : ¬ badArgs idx x) : ArgsIn l x := by
  unfold badArgs badJ at h
  simp only [not_or] at h
  obtain ⟨h0, h1, h2⟩ := h
  refine ⟨fun q => ?_, fun q => ?_, fun q => ?_⟩
  · rw [if_pos q] at h0
    exact ⟨by omega, by omega⟩
  · rw [if_pos q] at h1
    exact ⟨by omega, by omega⟩
  · rw [if_pos q] at h2
    exact ⟨by omega, by omega⟩

section
variable {l : List Nd} {x : Nd} {gh : List GObj}

def nlSt (l : List Nd) (idx : Int) (x : Nd) (j : Int) (gh : List GObj) : St :=
  ⟨[(0, LN l), (1, I idx), (5, .ptr false 0 0), (67, .sl true 1 [I x.a, I x.b, I x.c]), (68, I 3), (69, I j)], [[I x.k, I x.w, I x.a, I x.b, I x.c, I x.n]], gh⟩

theorem node_b1 {idx j a : Int} (hj : (j = 0 ∧ a = x.a) ∨ (j = 1 ∧ a = x.b) ∨ (j = 2 ∧ a = x.c)) :
    D_model_node_b1 pg (LN l) idx (.sl true 1 [I x.a, I x.b, I x.c]) 3 j x.k x.w x.a x.b x.c x.n gh = if badJ idx x.k j a then some (.ret, ⟨[(4, I 4)], [], gh⟩) else some (.normal, nlSt l idx x (j + 1) gh) := by
  have hw : (IntKind.i64.wrap (j + 1)) = j + 1 := wrap_id (by omega) (by omega)
  by_cases hk : j < takesOf x.k
  · have hk' := Int.not_le.2 hk
    by_cases h1 : a < 0
    · rw [if_pos (by unfold badJ; rw [if_pos hk]; exact .inl h1)]
      rcases hj with ⟨rfl, rfl⟩ | ⟨rfl, rfl⟩ | ⟨rfl, rfl⟩ <;> simp [D_model_node_b1, Takes_eq, hk, h1]
    · by_cases h2 : idx ≤ a
      · rw [if_pos (by unfold badJ; rw [if_pos hk]; exact .inr h2)]
        rcases hj with ⟨rfl, rfl⟩ | ⟨rfl, rfl⟩ | ⟨rfl, rfl⟩ <;> simp [D_model_node_b1, Takes_eq, hk, h1, h2]
      · rw [if_neg (by unfold badJ; rw [if_pos hk]; rintro (h | h) <;> contradiction)]
        unfold nlSt
        rcases hj with ⟨rfl, rfl⟩ | ⟨rfl, rfl⟩ | ⟨rfl, rfl⟩ <;> simp [D_model_node_b1, Takes_eq, hk, hk', h1, h2] <;> exact hw
  · have hk' := Int.not_lt.1 hk
    by_cases h2 : a = 0
    · rw [if_neg (by unfold badJ; rw [if_neg hk]; exact fun h => h h2)]
      unfold nlSt
      rcases hj with ⟨rfl, rfl⟩ | ⟨rfl, rfl⟩ | ⟨rfl, rfl⟩ <;> simp [D_model_node_b1, Takes_eq, hk, hk', h2] <;> exact hw
    · rw [if_pos (by unfold badJ; rw [if_neg hk]; exact h2)]
      rcases hj with ⟨rfl, rfl⟩ | ⟨rfl, rfl⟩ | ⟨rfl, rfl⟩ <;> simp [D_model_node_b1, Takes_eq, hk, hk', h2]

theorem node_loop {idx : Int} : runL pg f_model_node_l1 (nlSt l idx x 0 gh) =
    if badArgs idx x then some (.ret, ⟨[(4, I 4)], [], gh⟩) else some (.normal, ⟨[(0, LN l), (5, .ptr false 0 0)], [[I x.k, I x.w, I x.a, I x.b, I x.c, I x.n]], gh⟩) := by
  have b0 := node_b1 (l := l) (x := x) (gh := gh) (idx := idx) (j := 0) (a := x.a) (by simp)
  have b1 := node_b1 (l := l) (x := x) (gh := gh) (idx := idx) (j := 1) (a := x.b) (by simp)
  have b2 := node_b1 (l := l) (x := x) (gh := gh) (idx := idx) (j := 2) (a := x.c) (by simp)
  by_cases h0 : badJ idx x.k 0 x.a
  · rw [if_pos h0] at b0
    rw [if_pos (.inl h0)]
    exact lp_ret (D_model_node_b1_ok b0)
  rw [if_neg h0] at b0
  refine lp_next (D_model_node_b1_ok b0) ?_
  by_cases h1 : badJ idx x.k 1 x.b
  · rw [if_pos h1] at b1
    rw [if_pos (.inr (.inl h1))]
    exact lp_ret (D_model_node_b1_ok b1)
  rw [if_neg h1] at b1
  refine lp_next (D_model_node_b1_ok b1) ?_
  by_cases h2 : badJ idx x.k 2 x.c
  · rw [if_pos h2] at b2
    rw [if_pos (.inr (.inr h2))]
    exact lp_ret (D_model_node_b1_ok b2)
  rw [if_neg h2] at b2
  refine lp_next (D_model_node_b1_ok b2) ?_
  rw [if_neg (by rintro (h | h | h) <;> contradiction)]
  refine (lp_exit (s1 := ?s1) (D_model_node_b1_ok ?h1)).trans ?r1
  case h1 => simp [D_model_node_b1]; rfl
  case r1 => simp [keep, stays]

theorem node_k3 {idx : Nat} (hi : idx ≤ l.length) (b : Bool) : runL pg f_model_node_k3 ⟨[(0, LN l), (1, I idx), (5, .ptr false 0 0), (26, B b)], [[I x.k, I x.w, I x.a, I x.b, I x.c, I x.n]], gh⟩ =
    some (.ret, ⟨[(4, I (if badArgs idx x then 4 else fitE x.k x.w x.n (wdJ l x.k 0 x.a) (wdJ l x.k 1 x.b) (wdJ l x.k 2 x.c)))], [], gh⟩) := by
  refine D_model_node_k3_ok ?_
  have hl := node_loop (l := l) (x := x) (gh := gh) (idx := idx)
  unfold nlSt at hl
  by_cases hb : badArgs idx x
  · rw [if_pos hb] at hl
    simp [D_model_node_k3, hl, hb]
  · rw [if_neg hb] at hl
    have hW := Widths_eq (gh := gh) (args_in hi hb)
    have hF := Fit_eq x.k x.w x.n (wdJ l x.k 0 x.a) (wdJ l x.k 1 x.b) (wdJ l x.k 2 x.c) gh
    unfold widthsV at hW
    rw [nodeV_def x] at hW
    have hk := D_model_node_k4_ok (pg := pg) (gh := gh) (v0 := LN l) (xc0_0 := x.k) (xc0_1 := x.w) (xc0_2 := x.a) (xc0_3 := x.b) (xc0_4 := x.c) (xc0_5 := x.n) (e := .ret)
      (s := ⟨[(4, I (fitE x.k x.w x.n (wdJ l x.k 0 x.a) (wdJ l x.k 1 x.b) (wdJ l x.k 2 x.c)))], [], gh⟩) (by
      simp [D_model_node_k4, hW, hF])
    simp [D_model_node_k3, hl, hb, hk]

theorem shl1 {w : Int} (h : 1 ≤ w ∧ w ≤ 8) : iShl .i64 1 w = ((2 ^ w.toNat : Nat) : Int) := by
  obtain ⟨h1, h2⟩ := h
  have : w = 1 ∨ w = 2 ∨ w = 3 ∨ w = 4 ∨ w = 5 ∨ w = 6 ∨ w = 7 ∨ w = 8 := by omega
  rcases this with rfl | rfl | rfl | rfl | rfl | rfl | rfl | rfl <;> decide +kernel

theorem node_eq {idx : Nat} (hx : l[idx]? = some x) : callL pg 76 [LN l, I idx] gh = some (I (nodeE l idx x), gh) := by
  have hlt := (List.getElem?_eq_some_iff.1 hx).1
  have hg : (l.map nodeV)[idx]? = some (nodeV x) := by rw [List.getElem?_map, hx]; rfl
  rw [nodeV_def x] at hg
  have k3 := node_k3 (l := l) (x := x) (gh := gh) (idx := idx) (by omega)
  have hw := IsWidth_eq x.w gh
  have hlf := leaf_eq x.k gh
  have k1t : runL pg f_model_node_k1 ⟨[(39, B true)], [], gh⟩ = some (.ret, ⟨[(4, I 1)], [], gh⟩) := D_model_node_k1_ok rfl
  have k1f : runL pg f_model_node_k1 ⟨[(39, B false)], [], gh⟩ = some (.normal, ⟨[(39, B false)], [], gh⟩) := D_model_node_k1_ok rfl
  have k2 : runL pg f_model_node_k2 ⟨[(39, B false)], [], gh⟩ = some (.ret, ⟨[(4, I 0)], [], gh⟩) := D_model_node_k2_ok rfl
  unfold nodeE
  refine callL_fn (fn := f_model_node) (s := ⟨[(4, I (nodeE l idx x))], [], gh⟩) rfl rfl (D_model_node_0_ok ?h1) ?r1
  case r1 => simp [finish, results, f_model_node, resOfs, resOf, resOk, nodeE]
  case h1 =>
    unfold nodeE
    by_cases h1 : x.k < 1
    · simp [D_model_node_0, hg, h1, -List.getElem?_map]
    by_cases h2 : 24 ≤ x.k
    · simp [D_model_node_0, hg, h1, h2, -List.getElem?_map]
    by_cases h3 : 1 ≤ x.w ∧ x.w ≤ 8
    · rw [decide_eq_true h3] at hw
      by_cases h4 : x.k ≤ 3
      · rw [decide_eq_true ⟨by omega, h4⟩] at hlf
        by_cases h5 : x.k = 1
        · have hI := IsWord_eq x.n x.w (by omega) gh
          rw [shl1 h3] at hI
          generalize ((2 ^ x.w.toNat : Nat) : Int) = T at *
          by_cases h6 : 0 ≤ x.n ∧ x.n < T
          · rw [decide_eq_true h6] at hI
            rw [h5] at hg hlf
            by_cases ha : x.a = 0
            · by_cases hb : x.b = 0
              · by_cases hc : x.c = 0
                · simp [D_model_node_0, hg, h3, hw, hlf, h5, hI, h6, ha, hb, hc, k1f, k2, -List.getElem?_map]
                · simp [D_model_node_0, hg, h3, hw, hlf, h5, hI, h6, ha, hb, hc, k1t, -List.getElem?_map]
              · simp [D_model_node_0, hg, h3, hw, hlf, h5, hI, h6, ha, hb, k1t, -List.getElem?_map]
            · simp [D_model_node_0, hg, h3, hw, hlf, h5, hI, h6, ha, k1t, -List.getElem?_map]
          · rw [decide_eq_false h6] at hI
            rw [h5] at hg hlf
            simp [D_model_node_0, hg, h3, hw, hlf, h5, hI, h6, -List.getElem?_map]
        · by_cases hn : x.n = 0
          · by_cases ha : x.a = 0
            · by_cases hb : x.b = 0
              · by_cases hc : x.c = 0
                · simp [D_model_node_0, hg, h1, h2, h3, hw, h4, hlf, h5, hn, ha, hb, hc, k1f, k2, -List.getElem?_map]
                · simp [D_model_node_0, hg, h1, h2, h3, hw, h4, hlf, h5, hn, ha, hb, hc, k1t, -List.getElem?_map]
              · simp [D_model_node_0, hg, h1, h2, h3, hw, h4, hlf, h5, hn, ha, hb, k1t, -List.getElem?_map]
            · simp [D_model_node_0, hg, h1, h2, h3, hw, h4, hlf, h5, hn, ha, k1t, -List.getElem?_map]
          · simp [D_model_node_0, hg, h1, h2, h3, hw, h4, hlf, h5, hn, k1t, -List.getElem?_map]
      · rw [decide_eq_false (fun h => h4 h.2)] at hlf
        have k3' := k3 false
        simp [D_model_node_0, hg, h1, h2, h3, hw, h4, hlf, k3', -List.getElem?_map]
    · rw [decide_eq_false h3] at hw
      simp [D_model_node_0, hg, h1, h2, h3, hw, -List.getElem?_map]

/-! the document -/
end
end Go.Lw
end

/-! What the nodes of a graph are: what the program makes. -/
section
namespace Go.Lw
open Go

@[simp] theorem noG_ep (e : PV) (o : Nat) : PV.noG (.ep e o) = e.noG := rfl

section
variable {gh : List GObj}

end
end Go.Lw
end

/-! What the code of function model_Of comes to, piece by piece. Written by program (dprint.py). -/
section
set_option maxRecDepth 10000
set_option maxHeartbeats 4000000
namespace Go.Lw
open Go

def an_model_Of : Tr := (.node 15 (.agg [.int .i64, .int .i64, .int .i64, .int .i64, .int .i64, .int .i64]) (.node 9 (.ce (.one)) (.node 4 (.ce (.one)) (.node 1 (.ce (.int .i64)) (.node 0 (.agg [.any, .any, .any, .any, .any]) .nil .nil) .nil) (.node 6 (.ce (.int .i64)) (.node 5 (.ce (.one)) .nil .nil) .nil)) (.node 12 (.ce (.bool)) (.node 11 (.ce (.int .i64)) (.node 10 (.ce (.int .i64)) .nil .nil) .nil) (.node 13 (.ce (.int .i64)) .nil .nil))) (.node 21 (.ce (.int .i64)) (.node 19 (.ce (.bool)) (.node 18 (.ce (.int .i64)) (.node 17 (.ce (.int .i64)) .nil .nil) .nil) (.node 20 (.ce (.one)) .nil .nil)) (.node 24 (.ce (.int .i64)) (.node 23 (.ce (.one)) (.node 22 (.ce (.one)) .nil .nil) .nil) (.node 25 (.ce (.one)) .nil .nil))))

noncomputable def D_model_Of_k1 (pg : Prg) (x1 : Int) (v5 : PV) (v9 : PV) (x10 : Int) (x11 : Int) (gh : List GObj) : Option (IExit × St) := stK 0 v5 (stK 0 v9 (some (.normal, ⟨[(1, (.int .i64 x1)), (5, v5), (9, v9), (10, (.int .i64 x10)), (11, (.int .i64 (IntKind.i64.wrap (x11 + 1))))], [], gh⟩)))

theorem D_model_Of_k1_ok {pg : Prg} {gh : List GObj} {x1 : Int} {v5 : PV} {v9 : PV} {x10 : Int} {x11 : Int} {e : IExit} {s : St} (h : D_model_Of_k1 pg x1 v5 v9 x10 x11 gh = some (e, s)) : runL pg f_model_Of_k1 ⟨[(1, (.int .i64 x1)), (5, v5), (9, v9), (10, (.int .i64 x10)), (11, (.int .i64 x11))], [], gh⟩ = some (e, s) :=
  runX_ok an_model_Of (Eq.trans (by kernel_rfl) h)

noncomputable def D_model_Of_b1 (pg : Prg) (x1 : Int) (v5 : PV) (v9 : PV) (x10 : Int) (x11 : Int) (gh : List GObj) : Option (IExit × St) := 
  br 12 (decide (x11 < x10)) (
  idX 6 none (degr v9) x11 fun p1 => 
  ldX [] gh true 6 (degr p1) fun v2 => unA 6 v2 fun c3 c4 c5 c6 c7 c8 => unI .i64 c3 fun n9 => unI .i64 c4 fun n10 => unI .i64 c5 fun n11 => unI .i64 c6 fun n12 => unI .i64 c7 fun n13 => unI .i64 c8 fun n14 => stK 1 v5 (stK 1 v9 (stK 0 v5 (stK 0 v9 (
  br 19 (n9 == x1) (
  apX 1 8 v5 (.sl false 1 [(.int .i64 x11)]) fun l15 => stK 0 v9 (stK 0 v9 (
  kR (runL pg f_model_Of_k1 ⟨[(1, (.int .i64 x1)), (5, (.sl true 1 l15)), (9, v9), (10, (.int .i64 x10)), (11, (.int .i64 x11))], [], gh⟩) (fun e s => po [1, 5, 9, 10, 11] 0 e s (fun e s => some (e, s)))))) (stK 0 v5 (stK 0 v9 (
  kR (runL pg f_model_Of_k1 ⟨[(1, (.int .i64 x1)), (5, v5), (9, v9), (10, (.int .i64 x10)), (11, (.int .i64 x11))], [], gh⟩) (fun e s => po [1, 5, 9, 10, 11] 0 e s (fun e s => some (e, s))))))))))) (some ((.exit 0), ⟨[(1, (.int .i64 x1)), (5, v5), (9, v9), (10, (.int .i64 x10)), (11, (.int .i64 x11)), (12, (.bool (decide (x11 < x10))))], [], gh⟩))

theorem D_model_Of_b1_ok {pg : Prg} {gh : List GObj} {x1 : Int} {v5 : PV} {v9 : PV} {x10 : Int} {x11 : Int} {e : IExit} {s : St} (h : D_model_Of_b1 pg x1 v5 v9 x10 x11 gh = some (e, s)) : runL pg f_model_Of_b1 ⟨[(1, (.int .i64 x1)), (5, v5), (9, v9), (10, (.int .i64 x10)), (11, (.int .i64 x11))], [], gh⟩ = some (e, s) :=
  runX_ok an_model_Of (Eq.trans (by kernel_rfl) h)

noncomputable def D_model_Of_k2 (pg : Prg) (v5 : PV) (gh : List GObj) : Option (IExit × St) := isC (degr v5) (stK 0 (degr v5) (some (.ret, ⟨[(4, (degr v5))], [], gh⟩)))

theorem D_model_Of_k2_ok {pg : Prg} {gh : List GObj} {v5 : PV} {e : IExit} {s : St} (h : D_model_Of_k2 pg v5 gh = some (e, s)) : runL pg f_model_Of_k2 ⟨[(5, v5)], [], gh⟩ = some (e, s) :=
  runX_ok an_model_Of (Eq.trans (by kernel_rfl) h)

noncomputable def D_model_Of_0 (pg : Prg) (v0_0 : PV) (v0_1 : PV) (v0_2 : PV) (v0_3 : PV) (v0_4 : PV) (x1 : Int) (gh : List GObj) : Option (IExit × St) := onK (degr1 v0_0) (onK (degr1 v0_1) (onK (degr1 v0_2) (onK (degr1 v0_3) (onK (degr1 v0_4) (isC (degr (degr1 v0_0)) (lenS (degr (degr (degr1 v0_0))) fun n1 => stK 0 (degr (degr1 v0_0)) (
  kR (runL pg f_model_Of_l1 ⟨[(1, (.int .i64 x1)), (5, (.sl true 1 [])), (9, (degr (degr1 v0_0))), (10, (.int .i64 (n1 : Int))), (11, (.int .i64 0))], [], gh⟩) (fun e s => nx e s (fun e s => some (e, s)) fun s => kR (runL pg f_model_Of_k2 s) (fun e s => some (e, s))))))))))

theorem D_model_Of_0_ok {pg : Prg} {gh : List GObj} {v0_0 : PV} {v0_1 : PV} {v0_2 : PV} {v0_3 : PV} {v0_4 : PV} {x1 : Int} {e : IExit} {s : St} (h : D_model_Of_0 pg v0_0 v0_1 v0_2 v0_3 v0_4 x1 gh = some (e, s)) : runL pg f_model_Of_0 ⟨[(0, (.agg [v0_0, v0_1, v0_2, v0_3, v0_4])), (1, (.int .i64 x1))], [], gh⟩ = some (e, s) :=
  runX_ok an_model_Of (Eq.trans (by kernel_rfl) h)

end Go.Lw
end

/-! What the code of function model_Bits comes to, piece by piece. Written by program (dprint.py). -/
section
set_option maxRecDepth 10000
set_option maxHeartbeats 4000000
namespace Go.Lw
open Go

def an_model_Bits : Tr := (.node 6 (.ce (.one)) (.node 3 (.ce (.int .i64)) (.node 2 (.ce (.int .i64)) (.node 0 (.agg [.any, .any, .any, .any, .any]) .nil .nil) .nil) (.node 5 (.agg [.any, .any, .any, .any, .any]) (.node 4 (.agg [.any, .any, .any, .any, .any]) .nil .nil) .nil)) (.node 9 (.agg [.any, .any, .any, .any, .any]) (.node 8 (.agg [.any, .any, .any, .any, .any]) (.node 7 (.ce (.int .i64)) .nil .nil) .nil) (.node 11 (.ce (.int .i64)) (.node 10 (.ce (.one)) .nil .nil) .nil)))

noncomputable def D_model_Bits_0 (pg : Prg) (v0_0 : PV) (v0_1 : PV) (v0_2 : PV) (v0_3 : PV) (v0_4 : PV) (gh : List GObj) : Option (IExit × St) := onK (degr1 v0_0) (onK (degr1 v0_1) (onK (degr1 v0_2) (onK (degr1 v0_3) (onK (degr1 v0_4) (onK (degr1 (degr1 (degr1 v0_0))) (onK (degr1 (degr1 (degr1 v0_1))) (onK (degr1 (degr1 (degr1 v0_2))) (onK (degr1 (degr1 (degr1 v0_3))) (onK (degr1 (degr1 (degr1 v0_4))) (
  callR gh true (callL pg 101 [(.agg [(degr1 (degr1 (degr1 v0_0))), (degr1 (degr1 (degr1 v0_1))), (degr1 (degr1 (degr1 v0_2))), (degr1 (degr1 (degr1 v0_3))), (degr1 (degr1 (degr1 v0_4)))]), (.int .i64 2)] gh) fun r1 gh2 => isC r1 (onK (degr1 (degr1 (degr1 v0_0))) (onK (degr1 (degr1 (degr1 v0_1))) (onK (degr1 (degr1 (degr1 v0_2))) (onK (degr1 (degr1 (degr1 v0_3))) (onK (degr1 (degr1 (degr1 v0_4))) (arK (degr r1) (
  callR gh2 true (callL pg 105 [(.agg [(degr1 (degr1 (degr1 v0_0))), (degr1 (degr1 (degr1 v0_1))), (degr1 (degr1 (degr1 v0_2))), (degr1 (degr1 (degr1 v0_3))), (degr1 (degr1 (degr1 v0_4)))]), (degr r1)] gh2) fun r3 gh4 => unI .i64 r3 fun n5 => onK (degr1 (degr1 (degr1 v0_0))) (onK (degr1 (degr1 (degr1 v0_1))) (onK (degr1 (degr1 (degr1 v0_2))) (onK (degr1 (degr1 (degr1 v0_3))) (onK (degr1 (degr1 (degr1 v0_4))) (
  callR gh4 true (callL pg 101 [(.agg [(degr1 (degr1 (degr1 v0_0))), (degr1 (degr1 (degr1 v0_1))), (degr1 (degr1 (degr1 v0_2))), (degr1 (degr1 (degr1 v0_3))), (degr1 (degr1 (degr1 v0_4)))]), (.int .i64 3)] gh4) fun r6 gh7 => isC r6 (onK (degr1 (degr1 (degr1 v0_0))) (onK (degr1 (degr1 (degr1 v0_1))) (onK (degr1 (degr1 (degr1 v0_2))) (onK (degr1 (degr1 (degr1 v0_3))) (onK (degr1 (degr1 (degr1 v0_4))) (arK (degr r6) (
  callR gh7 true (callL pg 105 [(.agg [(degr1 (degr1 (degr1 v0_0))), (degr1 (degr1 (degr1 v0_1))), (degr1 (degr1 (degr1 v0_2))), (degr1 (degr1 (degr1 v0_3))), (degr1 (degr1 (degr1 v0_4)))]), (degr r6)] gh7) fun r8 gh9 => unI .i64 r8 fun n10 => some (.ret, ⟨[(2, (.int .i64 n5)), (3, (.int .i64 n10))], [], gh9⟩))))))))))))))))))))))))))))))

theorem D_model_Bits_0_ok {pg : Prg} {gh : List GObj} {v0_0 : PV} {v0_1 : PV} {v0_2 : PV} {v0_3 : PV} {v0_4 : PV} {e : IExit} {s : St} (h : D_model_Bits_0 pg v0_0 v0_1 v0_2 v0_3 v0_4 gh = some (e, s)) : runL pg f_model_Bits_0 ⟨[(0, (.agg [v0_0, v0_1, v0_2, v0_3, v0_4]))], [], gh⟩ = some (e, s) :=
  runX_ok an_model_Bits (Eq.trans (by kernel_rfl) h)

end Go.Lw
end

/-! What the code of function model_bits comes to, piece by piece. Written by program (dprint.py). -/
section
set_option maxRecDepth 10000
set_option maxHeartbeats 4000000
namespace Go.Lw
open Go

def an_model_bits : Tr := (.node 11 (.ce (.bool)) (.node 7 (.ce (.int .i64)) (.node 4 (.ce (.int .i64)) (.node 1 (.ce (.one)) (.node 0 (.agg [.any, .any, .any, .any, .any]) .nil .nil) .nil) (.node 5 (.ce (.int .i64)) .nil .nil)) (.node 9 (.ce (.int .i64)) (.node 8 (.ce (.one)) .nil .nil) (.node 10 (.ce (.int .i64)) .nil .nil))) (.node 20 (.ce (.int .i64)) (.node 16 (.ce (.one)) (.node 14 (.ce (.int .i64)) (.node 13 (.ce (.int .i64)) .nil .nil) .nil) (.node 17 (.ce (.int .i64)) .nil .nil)) (.node 22 (.ce (.int .i64)) (.node 21 (.ce (.int .i64)) .nil .nil) (.node 23 (.ce (.int .i64)) .nil .nil))))

noncomputable def D_model_bits_b1 (pg : Prg) (x5 : Int) (v8 : PV) (x9 : Int) (x10 : Int) (vc0_0 : PV) (vc0_1 : PV) (vc0_2 : PV) (vc0_3 : PV) (vc0_4 : PV) (gh : List GObj) : Option (IExit × St) := 
  br 11 (decide (x10 < x9)) (
  idX 1 none (degr v8) x10 fun p1 => 
  ldX [[vc0_0, vc0_1, vc0_2, vc0_3, vc0_4]] gh false 1 (degr p1) fun v2 => unI .i64 v2 fun n3 => stK 1 v8 (isC (degr vc0_0) (
  idX 6 none (degr (degr vc0_0)) n3 fun p4 => faX (degr p4) 1 fun p5 => 
  ldX [[vc0_0, vc0_1, vc0_2, vc0_3, vc0_4]] gh false 1 (degr p5) fun v6 => unI .i64 v6 fun n7 => stK 1 v8 (stK 1 v8 (stK 1 v8 (some (.normal, ⟨[(2, (.ptr false 0 0)), (5, (.int .i64 (IntKind.i64.wrap (x5 + n7)))), (8, v8), (9, (.int .i64 x9)), (10, (.int .i64 (IntKind.i64.wrap (x10 + 1))))], [[vc0_0, vc0_1, vc0_2, vc0_3, vc0_4]], gh⟩))))))) (some ((.exit 0), ⟨[(2, (.ptr false 0 0)), (5, (.int .i64 x5)), (8, v8), (9, (.int .i64 x9)), (10, (.int .i64 x10)), (11, (.bool (decide (x10 < x9))))], [[vc0_0, vc0_1, vc0_2, vc0_3, vc0_4]], gh⟩))

theorem D_model_bits_b1_ok {pg : Prg} {gh : List GObj} {x5 : Int} {v8 : PV} {x9 : Int} {x10 : Int} {vc0_0 : PV} {vc0_1 : PV} {vc0_2 : PV} {vc0_3 : PV} {vc0_4 : PV} {e : IExit} {s : St} (h : D_model_bits_b1 pg x5 v8 x9 x10 vc0_0 vc0_1 vc0_2 vc0_3 vc0_4 gh = some (e, s)) : runL pg f_model_bits_b1 ⟨[(2, (.ptr false 0 0)), (5, (.int .i64 x5)), (8, v8), (9, (.int .i64 x9)), (10, (.int .i64 x10))], [[vc0_0, vc0_1, vc0_2, vc0_3, vc0_4]], gh⟩ = some (e, s) :=
  runX_ok an_model_bits (Eq.trans (by kernel_rfl) h)

noncomputable def D_model_bits_k1 (pg : Prg) (x5 : Int) (gh : List GObj) : Option (IExit × St) := some (.ret, ⟨[(4, (.int .i64 x5))], [], gh⟩)

theorem D_model_bits_k1_ok {pg : Prg} {gh : List GObj} {x5 : Int} {e : IExit} {s : St} (h : D_model_bits_k1 pg x5 gh = some (e, s)) : runL pg f_model_bits_k1 ⟨[(5, (.int .i64 x5))], [], gh⟩ = some (e, s) :=
  runX_ok an_model_bits (Eq.trans (by kernel_rfl) h)

noncomputable def D_model_bits_0 (pg : Prg) (v0_0 : PV) (v0_1 : PV) (v0_2 : PV) (v0_3 : PV) (v0_4 : PV) (v1 : PV) (gh : List GObj) : Option (IExit × St) := onK (degr1 v0_0) (onK (degr1 v0_1) (onK (degr1 v0_2) (onK (degr1 v0_3) (onK (degr1 v0_4) (stK 1 v1 (isC (degr v1) (lenS (degr (degr v1)) fun n1 => stK 1 (degr v1) (
  kR (runL pg f_model_bits_l1 ⟨[(2, (.ptr false 0 0)), (5, (.int .i64 0)), (8, (degr v1)), (9, (.int .i64 (n1 : Int))), (10, (.int .i64 0))], [[(degr1 v0_0), (degr1 v0_1), (degr1 v0_2), (degr1 v0_3), (degr1 v0_4)]], gh⟩) (fun e s => nx e s (fun e s => some (e, s)) fun s => kR (runL pg f_model_bits_k1 s) (fun e s => some (e, s)))))))))))

theorem D_model_bits_0_ok {pg : Prg} {gh : List GObj} {v0_0 : PV} {v0_1 : PV} {v0_2 : PV} {v0_3 : PV} {v0_4 : PV} {v1 : PV} {e : IExit} {s : St} (h : D_model_bits_0 pg v0_0 v0_1 v0_2 v0_3 v0_4 v1 gh = some (e, s)) : runL pg f_model_bits_0 ⟨[(0, (.agg [v0_0, v0_1, v0_2, v0_3, v0_4])), (1, v1)], [], gh⟩ = some (e, s) :=
  runX_ok an_model_bits (Eq.trans (by kernel_rfl) h)

end Go.Lw
end

/-! What the code of function model_checker_lean comes to, piece by piece. Written by program (dprint.py). -/
section
set_option maxRecDepth 10000
set_option maxHeartbeats 4000000
namespace Go.Lw
open Go

def an_model_checker_lean : Tr := (.node 28 (.ce (.int .i64)) (.node 18 (.ce (.int .i64)) (.node 11 (.ce (.one)) (.node 6 (.ce (.int .i64)) (.node 4 (.ce (.bool)) (.node 0 (.ce (.gp)) .nil .nil) .nil) (.node 7 (.ce (.gp)) .nil .nil)) (.node 14 (.ce (.bool)) (.node 13 (.ce (.int .i64)) (.node 12 (.ce (.int .i64)) .nil .nil) .nil) (.node 16 (.agg [.int .i64, .int .i64, .int .i64, .int .i64, .int .i64, .int .i64]) .nil .nil))) (.node 24 (.ce (.bool)) (.node 22 (.ce (.int .i64)) (.node 20 (.ce (.bool)) (.node 19 (.ce (.bool)) .nil .nil) .nil) (.node 23 (.ce (.bool)) .nil .nil)) (.node 26 (.ce (.one)) (.node 25 (.agg [.int .i64, .int .i64, .int .i64, .int .i64, .int .i64, .int .i64]) .nil .nil) (.node 27 (.ce (.int .i64)) .nil .nil)))) (.node 41 (.ce (.bool)) (.node 34 (.ce (.gp)) (.node 32 (.ce (.bool)) (.node 31 (.ce (.int .i64)) (.node 29 (.ce (.bool)) .nil .nil) .nil) (.node 33 (.ce (.bool)) .nil .nil)) (.node 38 (.ce (.int .i64)) (.node 37 (.ce (.one)) .nil .nil) (.node 40 (.ce (.bool)) .nil .nil))) (.node 48 (.ce (.bool)) (.node 44 (.ce (.gp)) (.node 43 (.ce (.gp)) (.node 42 (.ce (.int .i64)) .nil .nil) .nil) (.node 47 (.ce (.one)) .nil .nil)) (.node 50 (.ce (.one)) (.node 49 (.ce (.one)) .nil .nil) (.node 53 (.ce (.int .i64)) .nil .nil)))))

noncomputable def D_model_checker_lean_b2 (pg : Prg) (g0 : Nat) (o0 : Nat) (b4 : Bool) (v11 : PV) (x12 : Int) (x13 : Int) (v26 : PV) (x27 : Int) (x28 : Int) (gh : List GObj) : Option (IExit × St) := 
  br 29 (decide (x28 < x27)) (
  idX 1 none (degr v26) x28 fun p1 => 
  ldX [] gh false 1 (degr p1) fun v2 => unI .i64 v2 fun n3 => stK 0 v11 (stK 0 v26 (
  br 33 b4 (stK 0 v11 (stK 0 v26 (stK 0 v11 (stK 0 v26 (stK 0 v11 (stK 0 v26 (some (.normal, ⟨[(0, (.ptr true g0 o0)), (4, (.bool true)), (11, v11), (12, (.int .i64 x12)), (13, (.int .i64 x13)), (26, v26), (27, (.int .i64 x27)), (28, (.int .i64 (IntKind.i64.wrap (x28 + 1))))], [], gh⟩)))))))) (
  ob (ghCells gh g0) fun cs4 => 
  ob (grab false 1 (o0 + 5) cs4) fun v5 => isC (degr v5) (
  idX 1 none (degr (degr v5)) n3 fun p6 => 
  ldX [] gh false 1 (degr p6) fun v7 => unB v7 fun b8 => stK 0 v11 (stK 0 v26 (stK 0 v11 (stK 0 v26 (stK 0 v11 (stK 0 v26 (some (.normal, ⟨[(0, (.ptr true g0 o0)), (4, (.bool b8)), (11, v11), (12, (.int .i64 x12)), (13, (.int .i64 x13)), (26, v26), (27, (.int .i64 x27)), (28, (.int .i64 (IntKind.i64.wrap (x28 + 1))))], [], gh⟩)))))))))))) (some ((.exit 2), ⟨[(0, (.ptr true g0 o0)), (4, (.bool b4)), (11, v11), (12, (.int .i64 x12)), (13, (.int .i64 x13)), (26, v26), (27, (.int .i64 x27)), (28, (.int .i64 x28)), (29, (.bool (decide (x28 < x27))))], [], gh⟩))

theorem D_model_checker_lean_b2_ok {pg : Prg} {gh : List GObj} {g0 : Nat} {o0 : Nat} {b4 : Bool} {v11 : PV} {x12 : Int} {x13 : Int} {v26 : PV} {x27 : Int} {x28 : Int} {e : IExit} {s : St} (h : D_model_checker_lean_b2 pg g0 o0 b4 v11 x12 x13 v26 x27 x28 gh = some (e, s)) : runL pg f_model_checker_lean_b2 ⟨[(0, (.ptr true g0 o0)), (4, (.bool b4)), (11, v11), (12, (.int .i64 x12)), (13, (.int .i64 x13)), (26, v26), (27, (.int .i64 x27)), (28, (.int .i64 x28))], [], gh⟩ = some (e, s) :=
  runX_ok an_model_checker_lean (Eq.trans (by kernel_rfl) h)

noncomputable def D_model_checker_lean_k1 (pg : Prg) (g0 : Nat) (o0 : Nat) (b4 : Bool) (v11 : PV) (x12 : Int) (x13 : Int) (gh : List GObj) : Option (IExit × St) := 
  ob (ghCells gh g0) fun cs1 => ob (cs1[(o0 + 5)]?) fun v2 => 
  apX 1 1 v2 (.sl false 1 [(.bool b4)]) fun l3 => 
  ob (ghCells (List.set gh g0 (.cells (spliceAt cs1 (o0 + 5) [degr1 v2]))) g0) fun cs4 => gb (stOk 1 (o0 + 5) [(.sl true 1 l3)] cs4) (stK 0 v11 (some (.normal, ⟨[(0, (.ptr true g0 o0)), (11, v11), (12, (.int .i64 x12)), (13, (.int .i64 x13))], [], (List.set (List.set gh g0 (.cells (spliceAt cs1 (o0 + 5) [degr1 v2]))) g0 (.cells (spliceAt cs4 (o0 + 5) [(.sl true 1 l3)])))⟩)))

theorem D_model_checker_lean_k1_ok {pg : Prg} {gh : List GObj} {g0 : Nat} {o0 : Nat} {b4 : Bool} {v11 : PV} {x12 : Int} {x13 : Int} {e : IExit} {s : St} (h : D_model_checker_lean_k1 pg g0 o0 b4 v11 x12 x13 gh = some (e, s)) : runL pg f_model_checker_lean_k1 ⟨[(0, (.ptr true g0 o0)), (4, (.bool b4)), (11, v11), (12, (.int .i64 x12)), (13, (.int .i64 x13))], [], gh⟩ = some (e, s) :=
  runX_ok an_model_checker_lean (Eq.trans (by kernel_rfl) h)

noncomputable def D_model_checker_lean_k2 (pg : Prg) (g0 : Nat) (o0 : Nat) (v11 : PV) (x12 : Int) (x13 : Int) (gh : List GObj) : Option (IExit × St) := stK 0 v11 (some (.normal, ⟨[(0, (.ptr true g0 o0)), (11, v11), (12, (.int .i64 x12)), (13, (.int .i64 (IntKind.i64.wrap (x13 + 1))))], [], gh⟩))

theorem D_model_checker_lean_k2_ok {pg : Prg} {gh : List GObj} {g0 : Nat} {o0 : Nat} {v11 : PV} {x12 : Int} {x13 : Int} {e : IExit} {s : St} (h : D_model_checker_lean_k2 pg g0 o0 v11 x12 x13 gh = some (e, s)) : runL pg f_model_checker_lean_k2 ⟨[(0, (.ptr true g0 o0)), (11, v11), (12, (.int .i64 x12)), (13, (.int .i64 x13))], [], gh⟩ = some (e, s) :=
  runX_ok an_model_checker_lean (Eq.trans (by kernel_rfl) h)

noncomputable def D_model_checker_lean_b1 (pg : Prg) (g0 : Nat) (o0 : Nat) (v11 : PV) (x12 : Int) (x13 : Int) (gh : List GObj) : Option (IExit × St) := 
  br 14 (decide (x13 < x12)) (
  idX 6 none (degr v11) x13 fun p1 => 
  ldX [] gh true 6 (degr p1) fun v2 => unA 6 v2 fun c3 c4 c5 c6 c7 c8 => unI .i64 c3 fun n9 => unI .i64 c4 fun n10 => unI .i64 c5 fun n11 => unI .i64 c6 fun n12 => unI .i64 c7 fun n13 => unI .i64 c8 fun n14 => stK 1 v11 (
  br 20 (n9 == 2) (stK 1 v11 (
  callR gh true (callL pg 81 [(.agg [(.int .i64 n9), (.int .i64 n10), (.int .i64 n11), (.int .i64 n12), (.int .i64 n13), (.int .i64 n14)])] gh) fun r15 gh16 => isC r15 (lenS (degr r15) fun n17 => stK 0 v11 (stK 0 r15 (
  kR (runL pg f_model_checker_lean_l2 ⟨[(0, (.ptr true g0 o0)), (4, (.bool true)), (11, v11), (12, (.int .i64 x12)), (13, (.int .i64 x13)), (26, r15), (27, (.int .i64 (n17 : Int))), (28, (.int .i64 0))], [], gh16⟩) (fun e s => nx e s (fun e s => bk 1 e s (fun e s => nx e s (fun e s => po [0, 11, 12, 13] 0 e s (fun e s => some (e, s))) fun s => kR (runL pg f_model_checker_lean_k2 s) (fun e s => po [0, 11, 12, 13] 0 e s (fun e s => some (e, s))))) fun s => kR (runL pg f_model_checker_lean_k1 s) (fun e s => bk 1 e s (fun e s => nx e s (fun e s => po [0, 11, 12, 13] 0 e s (fun e s => some (e, s))) fun s => kR (runL pg f_model_checker_lean_k2 s) (fun e s => po [0, 11, 12, 13] 0 e s (fun e s => some (e, s))))))))))) (stK 1 v11 (
  callR gh true (callL pg 81 [(.agg [(.int .i64 n9), (.int .i64 n10), (.int .i64 n11), (.int .i64 n12), (.int .i64 n13), (.int .i64 n14)])] gh) fun r18 gh19 => isC r18 (lenS (degr r18) fun n20 => stK 0 v11 (stK 0 r18 (
  kR (runL pg f_model_checker_lean_l2 ⟨[(0, (.ptr true g0 o0)), (4, (.bool (n9 == 3))), (11, v11), (12, (.int .i64 x12)), (13, (.int .i64 x13)), (26, r18), (27, (.int .i64 (n20 : Int))), (28, (.int .i64 0))], [], gh19⟩) (fun e s => nx e s (fun e s => bk 1 e s (fun e s => nx e s (fun e s => po [0, 11, 12, 13] 0 e s (fun e s => some (e, s))) fun s => kR (runL pg f_model_checker_lean_k2 s) (fun e s => po [0, 11, 12, 13] 0 e s (fun e s => some (e, s))))) fun s => kR (runL pg f_model_checker_lean_k1 s) (fun e s => bk 1 e s (fun e s => nx e s (fun e s => po [0, 11, 12, 13] 0 e s (fun e s => some (e, s))) fun s => kR (runL pg f_model_checker_lean_k2 s) (fun e s => po [0, 11, 12, 13] 0 e s (fun e s => some (e, s))))))))))))) (some ((.exit 0), ⟨[(0, (.ptr true g0 o0)), (11, v11), (12, (.int .i64 x12)), (13, (.int .i64 x13)), (14, (.bool (decide (x13 < x12))))], [], gh⟩))

theorem D_model_checker_lean_b1_ok {pg : Prg} {gh : List GObj} {g0 : Nat} {o0 : Nat} {v11 : PV} {x12 : Int} {x13 : Int} {e : IExit} {s : St} (h : D_model_checker_lean_b1 pg g0 o0 v11 x12 x13 gh = some (e, s)) : runL pg f_model_checker_lean_b1 ⟨[(0, (.ptr true g0 o0)), (11, v11), (12, (.int .i64 x12)), (13, (.int .i64 x13))], [], gh⟩ = some (e, s) :=
  runX_ok an_model_checker_lean (Eq.trans (by kernel_rfl) h)

noncomputable def D_model_checker_lean_0 (pg : Prg) (g0 : Nat) (o0 : Nat) (gh : List GObj) : Option (IExit × St) := 
  ob (ghCells gh g0) fun cs1 => 
  ob (grab false 1 ((o0 + 0) + 0) cs1) fun v2 => isC (degr v2) (lenS (degr (degr v2)) fun n3 => stK 0 (degr v2) (
  kR (runL pg f_model_checker_lean_l1 ⟨[(0, (.ptr true g0 o0)), (11, (degr v2)), (12, (.int .i64 (n3 : Int))), (13, (.int .i64 0))], [], gh⟩) (fun e s => some (e, s))))

theorem D_model_checker_lean_0_ok {pg : Prg} {gh : List GObj} {g0 : Nat} {o0 : Nat} {e : IExit} {s : St} (h : D_model_checker_lean_0 pg g0 o0 gh = some (e, s)) : runL pg f_model_checker_lean_0 ⟨[(0, (.ptr true g0 o0))], [], gh⟩ = some (e, s) :=
  runX_ok an_model_checker_lean (Eq.trans (by kernel_rfl) h)

end Go.Lw
end

/-! What the code of function model_checker_is comes to, piece by piece. Written by program (dprint.py). -/
section
set_option maxRecDepth 10000
set_option maxHeartbeats 4000000
namespace Go.Lw
open Go

def an_model_checker_is : Tr := (.node 8 (.ce (.int .i64)) (.node 5 (.ce (.int .i64)) (.node 1 (.ce (.int .i64)) (.node 0 (.ce (.gp)) .nil .nil) (.node 4 (.ce (.bool)) .nil .nil)) (.node 7 (.ce (.bool)) (.node 6 (.ce (.bool)) .nil .nil) .nil)) (.node 14 (.ce (.int .i64)) (.node 13 (.ce (.one)) (.node 9 (.ce (.gp)) .nil .nil) .nil) (.node 16 (.ce (.bool)) (.node 15 (.ce (.bool)) .nil .nil) .nil)))

noncomputable def D_model_checker_is_0 (pg : Prg) (g0 : Nat) (o0 : Nat) (x1 : Int) (gh : List GObj) : Option (IExit × St) := 
  br 7 (decide (0 ≤ x1)) (
  ob (ghCells gh g0) fun cs1 => 
  ob (grab false 1 ((o0 + 0) + 0) cs1) fun v2 => isC (degr v2) (lenS (degr (degr v2)) fun n3 => some (.ret, ⟨[(4, (.bool (decide (x1 < (n3 : Int)))))], [], gh⟩))) (some (.ret, ⟨[(4, (.bool false))], [], gh⟩))

theorem D_model_checker_is_0_ok {pg : Prg} {gh : List GObj} {g0 : Nat} {o0 : Nat} {x1 : Int} {e : IExit} {s : St} (h : D_model_checker_is_0 pg g0 o0 x1 gh = some (e, s)) : runL pg f_model_checker_is_0 ⟨[(0, (.ptr true g0 o0)), (1, (.int .i64 x1))], [], gh⟩ = some (e, s) :=
  runX_ok an_model_checker_is (Eq.trans (by kernel_rfl) h)

end Go.Lw
end

/-! What the code of function model_checker_pair comes to, piece by piece. Written by program (dprint.py). -/
section
set_option maxRecDepth 10000
set_option maxHeartbeats 4000000
namespace Go.Lw
open Go

def an_model_checker_pair : Tr := (.node 31 (.ce (.bool)) (.node 14 (.ce (.gp)) (.node 8 (.ce (.gp)) (.node 2 (.ce (.bool)) (.node 1 (.agg [.int .i64, .int .i64]) (.node 0 (.ce (.gp)) .nil .nil) .nil) (.node 7 (.ce (.bool)) (.node 6 (.ce (.int .i64)) .nil .nil) .nil)) (.node 12 (.ce (.bool)) (.node 11 (.ce (.bool)) (.node 10 (.ce (.int .i64)) .nil .nil) .nil) (.node 13 (.ce (.bool)) .nil .nil))) (.node 20 (.ce (.bool)) (.node 18 (.ce (.bool)) (.node 17 (.ce (.bool)) (.node 16 (.ce (.int .i64)) .nil .nil) .nil) (.node 19 (.ce (.bool)) .nil .nil)) (.node 27 (.ce (.int .i64)) (.node 25 (.ce (.one)) (.node 21 (.ce (.gp)) .nil .nil) .nil) (.node 30 (.ce (.int .i64)) .nil .nil)))) (.node 53 (.ce (.int .i64)) (.node 40 (.ce (.int .i64)) (.node 34 (.ce (.gp)) (.node 33 (.ce (.bool)) (.node 32 (.ce (.bool)) .nil .nil) .nil) (.node 38 (.ce (.one)) .nil .nil)) (.node 48 (.ce (.one)) (.node 44 (.ce (.gp)) (.node 43 (.ce (.int .i64)) .nil .nil) .nil) (.node 50 (.ce (.int .i64)) .nil .nil))) (.node 58 (.ce (.gp)) (.node 56 (.ce (.bool)) (.node 55 (.ce (.bool)) (.node 54 (.ce (.bool)) .nil .nil) .nil) (.node 57 (.ce (.bool)) .nil .nil)) (.node 65 (.ce (.bool)) (.node 63 (.ce (.int .i64)) (.node 61 (.ce (.one)) .nil .nil) .nil) (.node 66 (.ce (.bool)) .nil .nil)))))

noncomputable def D_model_checker_pair_0 (pg : Prg) (g0 : Nat) (o0 : Nat) (x1_0 : Int) (x1_1 : Int) (b2 : Bool) (gh : List GObj) : Option (IExit × St) := 
  callR gh true (callL pg 118 [(.ptr true g0 o0), (.int .i64 x1_0)] gh) fun r1 gh2 => unB r1 fun b3 => 
  br 13 (!b3) (some (.ret, ⟨[(6, (.int .i64 5))], [], gh2⟩)) (
  callR gh2 true (callL pg 118 [(.ptr true g0 o0), (.int .i64 x1_1)] gh2) fun r4 gh5 => unB r4 fun b6 => 
  br 20 (!b6) (some (.ret, ⟨[(6, (.int .i64 5))], [], gh5⟩)) (
  ob (ghCells gh5 g0) fun cs7 => 
  ob (grab false 1 ((o0 + 0) + 0) cs7) fun v8 => isC (degr v8) (
  idX 6 none (degr (degr v8)) x1_0 fun p9 => faX (degr p9) 0 fun p10 => 
  ldX [[(.int .i64 x1_0), (.int .i64 x1_1)]] gh5 false 1 (degr p10) fun v11 => unI .i64 v11 fun n12 => 
  br 7 (n12 != 3) (some (.ret, ⟨[(6, (.int .i64 5))], [], gh5⟩)) (
  ob (ghCells gh5 g0) fun cs13 => 
  ob (grab false 1 ((o0 + 0) + 0) cs13) fun v14 => isC (degr v14) (
  idX 6 none (degr (degr v14)) x1_0 fun p15 => faX (degr p15) 1 fun p16 => 
  ldX [[(.int .i64 x1_0), (.int .i64 x1_1)]] gh5 false 1 (degr p16) fun v17 => unI .i64 v17 fun n18 => 
  ob (ghCells gh5 g0) fun cs19 => 
  ob (grab false 1 ((o0 + 0) + 0) cs19) fun v20 => isC (degr v20) (
  idX 6 none (degr (degr v20)) x1_1 fun p21 => faX (degr p21) 1 fun p22 => 
  ldX [[(.int .i64 x1_0), (.int .i64 x1_1)]] gh5 false 1 (degr p22) fun v23 => unI .i64 v23 fun n24 => 
  br 33 (n18 != n24) (some (.ret, ⟨[(6, (.int .i64 1))], [], gh5⟩)) (
  br 57 b2 (
  ob (ghCells gh5 g0) fun cs25 => 
  ob (grab false 1 (o0 + 5) cs25) fun v26 => isC (degr v26) (
  idX 1 none (degr (degr v26)) x1_1 fun p27 => 
  ldX [[(.int .i64 x1_0), (.int .i64 x1_1)]] gh5 false 1 (degr p27) fun v28 => unB v28 fun b29 => 
  br 55 b29 (some (.ret, ⟨[(6, (.int .i64 4))], [], gh5⟩)) (some (.ret, ⟨[(6, (.int .i64 0))], [], gh5⟩)))) (some (.ret, ⟨[(6, (.int .i64 0))], [], gh5⟩)))))))))

theorem D_model_checker_pair_0_ok {pg : Prg} {gh : List GObj} {g0 : Nat} {o0 : Nat} {x1_0 : Int} {x1_1 : Int} {b2 : Bool} {e : IExit} {s : St} (h : D_model_checker_pair_0 pg g0 o0 x1_0 x1_1 b2 gh = some (e, s)) : runL pg f_model_checker_pair_0 ⟨[(0, (.ptr true g0 o0)), (1, (.agg [(.int .i64 x1_0), (.int .i64 x1_1)])), (2, (.bool b2))], [], gh⟩ = some (e, s) :=
  runX_ok an_model_checker_pair (Eq.trans (by kernel_rfl) h)

end Go.Lw
end

/-! Models: nodes of a kind, bits, and what hangs on an input (the program). -/
section
namespace Go.Lw
open Go

structure Md where
  nodes : List Nd
  inits : List (Int × Int)
  nexts : List (Int × Int)
  bads : List Int
  holds : List Int

/-- Pairs. -/
abbrev LP (l : List (Int × Int)) : PV := .sl false 2 (l.map andV)

def modelV (m : Md) : PV := .agg [LN m.nodes, LP m.inits, LP m.nexts, LI m.bads, LI m.holds]
theorem modelV_def (m : Md) : modelV m = .agg [LN m.nodes, LP m.inits, LP m.nexts, LI m.bads, LI m.holds] := rfl

/-- The numbers of nodes of a kind, from number i on. -/
def kindF (kind : Int) : Nat → List Nd → List Int
  | _, [] => []
  | i, x :: l => if x.k = kind then (i : Int) :: kindF kind (i + 1) l else kindF kind (i + 1) l

def kindL (l : List Nd) (kind : Int) : List Int := kindF kind 0 l

theorem kindF_len (kind : Int) : ∀ (i : Nat) (l : List Nd), (kindF kind i l).length ≤ l.length
  | _, [] => Nat.le_refl _
  | i, x :: l => by
    have := kindF_len kind (i + 1) l
    rw [kindF]; split <;> simp <;> omega

theorem kindF_mem {kind : Int} : ∀ {i : Nat} {l : List Nd} {a : Int}, a ∈ kindF kind i l ↔ ∃ j, j < l.length ∧ a = ((i + j : Nat) : Int) ∧ (l[j]?.map (·.k)) = some kind
  | i, [], a => by simp [kindF]
  | i, x :: l, a => by
    have ih := kindF_mem (kind := kind) (i := i + 1) (l := l) (a := a)
    rw [kindF]
    constructor
    · intro h
      split at h
      · rename_i hk
        rcases List.mem_cons.1 h with h | h
        · exact ⟨0, by simp, by simpa using h, by simp [hk]⟩
        · obtain ⟨j, h1, h2, h3⟩ := ih.1 h
          exact ⟨j + 1, by simp; omega, by rw [h2]; omega, by simpa using h3⟩
      · obtain ⟨j, h1, h2, h3⟩ := ih.1 h
        exact ⟨j + 1, by simp; omega, by rw [h2]; omega, by simpa using h3⟩
    · rintro ⟨j, h1, h2, h3⟩
      cases j with
      | zero =>
        simp at h3
        rw [if_pos h3]
        exact List.mem_cons.2 (.inl (by simpa using h2))
      | succ j =>
        have := ih.2 ⟨j, by simpa using h1, by rw [h2]; omega, by simpa using h3⟩
        split
        · exact List.mem_cons_of_mem _ this
        · exact this

section
variable {m : Md} {gh : List GObj}

def ofkSt (l : List Nd) (kind : Int) (acc : List Int) (i : Nat) (gh : List GObj) : St :=
  ⟨[(1, I kind), (5, .sl true 1 (acc.map I)), (9, LN l), (10, I l.length), (11, I (i : Int))], [], gh⟩

theorem ofk_k1 {l : List Nd} {kind : Int} {acc : List Int} {i : Nat} (hi : i ≤ 100000) : runL pg f_model_Of_k1 ⟨[(1, I kind), (5, .sl true 1 (acc.map I)), (9, LN l), (10, I l.length), (11, I (i : Int))], [], gh⟩ = some (.normal, ofkSt l kind acc (i + 1) gh) := by
  have e2 : IntKind.i64.wrap ((i : Int) + 1) = ((i + 1 : Nat) : Int) := by rw [wrap_id (by omega) (by omega)]; omega
  refine D_model_Of_k1_ok ?_
  simp [D_model_Of_k1, e2, ofkSt]

theorem Ofk_loop {l : List Nd} {kind : Int} (hl : l.length ≤ 1000) : ∀ k i (acc : List Int), i + k = l.length → acc.length ≤ i →
    runL pg f_model_Of_l1 (ofkSt l kind acc i gh) = some (.normal, ⟨[(5, .sl true 1 ((acc ++ kindF kind i (l.drop i)).map I))], [], gh⟩)
  | 0, i, acc, h, _ => by
    rw [List.drop_eq_nil_of_le (by omega)]
    have hlt : ¬ (i : Int) < (l.length : Int) := by omega
    refine (lp_exit (s1 := ?s1) (D_model_Of_b1_ok ?h1)).trans ?r1
    case h1 => simp only [D_model_Of_b1, decide_eq_false hlt, br_false]; rfl
    case r1 => simp [keep, kindF, stays]
  | k + 1, i, acc, h, ha => by
    have hlt : i < l.length := by omega
    have hltI : (i : Int) < (l.length : Int) := by omega
    have hx : (l.map nodeV)[i]? = some (nodeV l[i]) := by simp [List.getElem?_eq_getElem hlt]
    rw [nodeV_def l[i]] at hx
    have hmx : (acc.length + 1) * 8 ≤ maxBytes := by
      have : maxBytes = 140737488355328 := rfl
      omega
    rw [List.drop_eq_getElem_cons hlt, kindF]
    generalize l[i] = x at *
    by_cases hk : x.k = kind
    · rw [if_pos hk]
      have hk1 := ofk_k1 (gh := gh) (l := l) (kind := kind) (acc := acc ++ [(i : Int)]) (i := i) (by omega)
      have e : acc ++ (i : Int) :: kindF kind (i + 1) (l.drop (i + 1)) = (acc ++ [(i : Int)]) ++ kindF kind (i + 1) (l.drop (i + 1)) := by simp
      rw [e]
      refine lp_next (s1 := ofkSt l kind (acc ++ [(i : Int)]) (i + 1) gh) (D_model_Of_b1_ok ?_) (Ofk_loop hl k (i + 1) _ (by omega) (by simp; omega))
      have hal : (acc.map I).length = acc.length := by simp
      unfold ofkSt at *
      simp only [List.map_append, List.map_cons, List.map_nil] at hk1 ⊢
      generalize acc.map I = A at *
      simp [D_model_Of_b1, hltI, hx, hk, hal, hmx, hk1, -List.getElem?_map]
    · rw [if_neg hk]
      have hk1 := ofk_k1 (gh := gh) (l := l) (kind := kind) (acc := acc) (i := i) (by omega)
      refine lp_next (s1 := ofkSt l kind acc (i + 1) gh) (D_model_Of_b1_ok ?_) (Ofk_loop hl k (i + 1) _ (by omega) (by omega))
      unfold ofkSt at *
      generalize acc.map I = A at *
      simp [D_model_Of_b1, hltI, hx, hk, hk1, -List.getElem?_map]

theorem Ofk_eq {kind : Int} (hl : m.nodes.length ≤ 1000) : callL pg 101 [modelV m, I kind] gh = some (LI (kindL m.nodes kind), gh) := by
  have h := Ofk_loop (gh := gh) (l := m.nodes) (kind := kind) hl m.nodes.length 0 [] (by omega) (by simp)
  rw [List.drop_zero, List.nil_append] at h
  unfold ofkSt at h
  simp only [List.map_nil, Int.natCast_zero] at h
  have hn := noGs_ints (kindF kind 0 m.nodes)
  have hln : (m.nodes.map nodeV).length = m.nodes.length := by simp
  have hk := D_model_Of_k2_ok (pg := pg) (gh := gh) (v5 := .sl true 1 ((kindF kind 0 m.nodes).map I)) (e := .ret) (s := ⟨[(4, .sl false 1 ((kindF kind 0 m.nodes).map I))], [], gh⟩) (by simp [D_model_Of_k2])
  unfold kindL
  simp only [LI]
  generalize (kindF kind 0 m.nodes).map I = K at *
  rw [modelV_def]
  refine callL_fn (fn := f_model_Of) (s := ⟨[(4, .sl false 1 K)], [], gh⟩) rfl rfl (D_model_Of_0_ok ?h1) ?r1
  case h1 => simp [D_model_Of_0, h, hk]
  case r1 => simp [finish, results, f_model_Of, resOfs, resOf, resOk, hn]

/-- Bits of nodes of a kind. -/
def addW (s : Int) (x : Nd) : Int := IntKind.i64.wrap (s + x.w)
def bitsK (l : List Nd) (kind : Int) : Int := (l.filter fun x => decide (x.k = kind)).foldl addW 0

theorem bits_fold (L : List Nd) (kind : Int) : ∀ (i : Nat) (l : List Nd) (s : Int), l = L.drop i → (kindF kind i l).foldl (fun s a => IntKind.i64.wrap (s + wAt L a)) s = (l.filter fun x => decide (x.k = kind)).foldl addW s
  | _, [], _, _ => rfl
  | i, x :: l, s, h => by
    have hi : L[i]? = some x := by
      have := congrArg (·[0]?) h
      simpa using this.symm
    have hd : l = L.drop (i + 1) := by
      have := congrArg List.tail h
      rw [List.tail_drop] at this
      exact this
    have hw : wAt L (i : Int) = x.w := by unfold wAt; simp [List.getD_eq_getElem?_getD, hi]
    rw [kindF, List.filter_cons]
    by_cases hk : x.k = kind
    · rw [if_pos hk, if_pos (by simpa using hk), List.foldl_cons, List.foldl_cons, hw]
      exact bits_fold L kind (i + 1) l _ hd
    · rw [if_neg hk, if_neg (by simpa using hk)]
      exact bits_fold L kind (i + 1) l s hd

def biSt (m : Md) (xs : List Int) (s : Int) (i : Nat) (gh : List GObj) : St :=
  ⟨[(2, .ptr false 0 0), (5, I s), (8, LI xs), (9, I xs.length), (10, I (i : Int))], [[LN m.nodes, LP m.inits, LP m.nexts, LI m.bads, LI m.holds]], gh⟩

theorem bits_loop {xs : List Int} (hx : ∀ a ∈ xs, isNo m.nodes a) (hl : xs.length ≤ 1000) : ∀ k i s, i + k = xs.length →
    runL pg f_model_bits_l1 (biSt m xs s i gh) = some (.normal, ⟨[(5, I ((xs.drop i).foldl (fun s a => IntKind.i64.wrap (s + wAt m.nodes a)) s))], [], gh⟩)
  | 0, i, s, h => by
    rw [List.drop_eq_nil_of_le (by omega)]
    have hlt : ¬ (i : Int) < (xs.length : Int) := by omega
    refine (lp_exit (s1 := ?s1) (D_model_bits_b1_ok ?h1)).trans ?r1
    case h1 => simp only [D_model_bits_b1, decide_eq_false hlt, br_false]; rfl
    case r1 => simp [keep, stays]
  | k + 1, i, s, h => by
    have hlt : i < xs.length := by omega
    have hltI : (i : Int) < (xs.length : Int) := by omega
    have e2 : IntKind.i64.wrap ((i : Int) + 1) = ((i + 1 : Nat) : Int) := by rw [wrap_id (by omega) (by omega)]; omega
    have hg : (xs.map I)[i]? = some (I xs[i]) := by simp [List.getElem?_eq_getElem hlt]
    have hno := hx _ (List.getElem_mem hlt)
    have hn := node_at hno
    have h0 := hno.1
    rw [List.drop_eq_getElem_cons hlt, List.foldl_cons]
    generalize xs[i] = a at *
    refine lp_next (s1 := biSt m xs (IntKind.i64.wrap (s + wAt m.nodes a)) (i + 1) gh) (D_model_bits_b1_ok ?_) (bits_loop hx hl k (i + 1) _ (by omega))
    unfold biSt wAt
    generalize m.nodes.getD a.toNat default = d at *
    rw [nodeV_def d] at hn
    simp [D_model_bits_b1, hltI, hg, h0, hn, e2, -List.getElem?_map]

theorem bits_eq {xs : List Int} (hx : ∀ a ∈ xs, isNo m.nodes a) (hl : xs.length ≤ 1000) : callL pg 105 [modelV m, LI xs] gh = some (I (xs.foldl (fun s a => IntKind.i64.wrap (s + wAt m.nodes a)) 0), gh) := by
  have h := bits_loop (gh := gh) hx hl xs.length 0 0 (by omega)
  rw [List.drop_zero] at h
  unfold biSt at h
  simp only [Int.natCast_zero] at h
  generalize xs.foldl (fun s a => IntKind.i64.wrap (s + wAt m.nodes a)) 0 = r at *
  have hk := D_model_bits_k1_ok (pg := pg) (gh := gh) (x5 := r) rfl
  rw [modelV_def]
  refine callL_fn (fn := f_model_bits) (s := ⟨[(4, I r)], [], gh⟩) rfl rfl (D_model_bits_0_ok ?h1) ?r1
  case h1 => simp [D_model_bits_0, h, hk]
  case r1 => simp [finish, results, f_model_bits, resOfs, resOf, resOk]

theorem kindL_no {l : List Nd} {kind a : Int} (h : a ∈ kindL l kind) : isNo l a := by
  obtain ⟨j, h1, h2, -⟩ := kindF_mem.1 h
  exact ⟨by omega, by omega⟩

theorem Bits_eq (hl : m.nodes.length ≤ 1000) : callL pg 77 [modelV m] gh = some (.tup [I (bitsK m.nodes 2), I (bitsK m.nodes 3)], gh) := by
  have b : ∀ kind, callL pg 105 [modelV m, LI (kindL m.nodes kind)] gh = some (I (bitsK m.nodes kind), gh) := fun kind => by
    have h := bits_eq (m := m) (gh := gh) (xs := kindL m.nodes kind) (fun a ha => kindL_no ha) (Nat.le_trans (kindF_len kind 0 m.nodes) hl)
    have e := bits_fold m.nodes kind 0 m.nodes 0 rfl
    unfold kindL at h ⊢
    rw [e] at h
    exact h
  have o2 := Ofk_eq (m := m) (gh := gh) (kind := 2) hl
  have o3 := Ofk_eq (m := m) (gh := gh) (kind := 3) hl
  have b2 := b 2
  have b3 := b 3
  rw [modelV_def] at *
  refine callL_fn (fn := f_model_Bits) (s := ⟨[(2, I (bitsK m.nodes 2)), (3, I (bitsK m.nodes 3))], [], gh⟩) rfl rfl (D_model_Bits_0_ok ?h1) ?r1
  case h1 => simp [D_model_Bits_0, o2, o3, b2, b3]
  case r1 => simp [finish, results, f_model_Bits, resOfs, resOf, resOk]

/-! ### what hangs on an input, or a state -/
def hangB (f : List Bool) (x : Nd) : Bool := decide (x.k = 2 ∨ x.k = 3) || (argsL x).any fun a => f.getD a.toNat false

def hangF : List Bool → List Nd → List Bool
  | f, [] => f
  | f, x :: l => hangF (f ++ [hangB f x]) l

theorem hangF_len : ∀ (f : List Bool) (l : List Nd), (hangF f l).length = f.length + l.length
  | f, [] => rfl
  | f, x :: l => by rw [hangF, hangF_len]; simp; omega

/-- All nodes name but nodes ahead of them. -/
def Ahead (l : List Nd) : Prop := ∀ (i : Nat) (x : Nd), l[i]? = some x → ∀ a ∈ argsL x, 0 ≤ a ∧ a < i

/-- A checker behind what there is. -/
def ckG (gh : List GObj) (m : Md) (f : List Bool) : List GObj := gh ++ [.cells [LN m.nodes, LP m.inits, LP m.nexts, LI m.bads, LI m.holds, .sl true 1 (f.map B)]]

theorem fr_idx {f : List Bool} {a : Int} (h : a.toNat < f.length) : (f.map B)[a.toNat]? = some (B (f.getD a.toNat false)) := by
  rw [List.getElem?_map, List.getElem?_eq_getElem h]
  simp [List.getD_eq_getElem?_getD, List.getElem?_eq_getElem h]

def le2St (m : Md) (f : List Bool) (xs : List Int) (b : Bool) (i j : Nat) (gh : List GObj) : St :=
  ⟨[(0, .ptr true gh.length 0), (4, B b), (11, LN m.nodes), (12, I m.nodes.length), (13, I (i : Int)), (26, LI xs), (27, I xs.length), (28, I (j : Int))], [], ckG gh m f⟩

theorem lean_loop2 {f : List Bool} {xs : List Int} {i : Nat} (hx : ∀ a ∈ xs, 0 ≤ a ∧ a.toNat < f.length) (hl : xs.length ≤ 1000) : ∀ k j b, j + k = xs.length →
    runL pg f_model_checker_lean_l2 (le2St m f xs b i j gh) = some (.normal, ⟨[(0, .ptr true gh.length 0), (4, B (b || (xs.drop j).any fun a => f.getD a.toNat false)), (11, LN m.nodes), (12, I m.nodes.length), (13, I (i : Int))], [], ckG gh m f⟩)
  | 0, j, b, h => by
    rw [List.drop_eq_nil_of_le (by omega)]
    have hlt : ¬ (j : Int) < (xs.length : Int) := by omega
    refine (lp_exit (s1 := ?s1) (D_model_checker_lean_b2_ok ?h1)).trans ?r1
    case h1 => simp only [D_model_checker_lean_b2, decide_eq_false hlt, br_false]; rfl
    case r1 => simp [keep, stays]
  | k + 1, j, b, h => by
    have hlt : j < xs.length := by omega
    have hltI : (j : Int) < (xs.length : Int) := by omega
    have e2 : IntKind.i64.wrap ((j : Int) + 1) = ((j + 1 : Nat) : Int) := by rw [wrap_id (by omega) (by omega)]; omega
    have hg : (xs.map I)[j]? = some (I xs[j]) := by simp [List.getElem?_eq_getElem hlt]
    obtain ⟨h0, h1⟩ := hx _ (List.getElem_mem hlt)
    rw [List.drop_eq_getElem_cons hlt, List.any_cons, ← Bool.or_assoc]
    generalize xs[j] = a at *
    have hfr := fr_idx h1
    generalize f.getD a.toNat false = c at *
    refine lp_next (s1 := le2St m f xs (b || c) i (j + 1) gh) (D_model_checker_lean_b2_ok ?_) (lean_loop2 hx hl k (j + 1) _ (by omega))
    unfold le2St ckG
    cases b with
    | true => simp [D_model_checker_lean_b2, hltI, hg, e2, -List.getElem?_map]
    | false => simp [D_model_checker_lean_b2, hltI, hg, h0, hfr, e2, -List.getElem?_map]

def le1St (m : Md) (f : List Bool) (i : Nat) (gh : List GObj) : St :=
  ⟨[(0, .ptr true gh.length 0), (11, LN m.nodes), (12, I m.nodes.length), (13, I (i : Int))], [], ckG gh m f⟩

theorem lean_loop1 (hA : Ahead m.nodes) (hl : m.nodes.length ≤ 1000) : ∀ k i f, i + k = m.nodes.length → f.length = i →
    runL pg f_model_checker_lean_l1 (le1St m f i gh) = some (.normal, ⟨[], [], ckG gh m (hangF f (m.nodes.drop i))⟩)
  | 0, i, f, h, _ => by
    rw [List.drop_eq_nil_of_le (by omega)]
    have hlt : ¬ (i : Int) < (m.nodes.length : Int) := by omega
    refine (lp_exit (s1 := ?s1) (D_model_checker_lean_b1_ok ?h1)).trans ?r1
    case h1 => simp only [D_model_checker_lean_b1, decide_eq_false hlt, br_false]; rfl
    case r1 => simp [keep, hangF]
  | k + 1, i, f, h, hf => by
    have hlt : i < m.nodes.length := by omega
    have hltI : (i : Int) < (m.nodes.length : Int) := by omega
    have e2 : IntKind.i64.wrap ((i : Int) + 1) = ((i + 1 : Nat) : Int) := by rw [wrap_id (by omega) (by omega)]; omega
    have hx : (m.nodes.map nodeV)[i]? = some (nodeV m.nodes[i]) := by simp [List.getElem?_eq_getElem hlt]
    have hah := hA i _ (List.getElem?_eq_getElem hlt)
    rw [List.drop_eq_getElem_cons hlt, hangF]
    generalize m.nodes[i] = x at *
    rw [nodeV_def x] at hx
    have hArg := Args_eq x (ckG gh m f)
    rw [nodeV_def x] at hArg
    have hal : (argsL x).length ≤ 3 := by unfold argsL; simp; omega
    have hl2 : ∀ b, runL pg f_model_checker_lean_l2 (le2St m f (argsL x) b i 0 gh) = _ := fun b => lean_loop2 (i := i) (fun a ha => ⟨(hah a ha).1, by have := hah a ha; omega⟩) (by omega) (argsL x).length 0 b (by omega)
    rw [List.drop_zero] at hl2
    generalize hany : ((argsL x).any fun a => f.getD a.toNat false) = c at *
    have hB : hangB f x = (decide (x.k = 2 ∨ x.k = 3) || c) := by unfold hangB; rw [hany]
    rw [hB]
    have hmx : f.length + 1 ≤ maxBytes := by
      have : maxBytes = 140737488355328 := rfl
      omega
    refine lp_next (s1 := le1St m (f ++ [decide (x.k = 2 ∨ x.k = 3) || c]) (i + 1) gh) (D_model_checker_lean_b1_ok ?_) (lean_loop1 hA hl k (i + 1) _ (by omega) (by simp; omega))
    have hk1 : ∀ b, runL pg f_model_checker_lean_k1 ⟨[(0, .ptr true gh.length 0), (4, B b), (11, LN m.nodes), (12, I m.nodes.length), (13, I (i : Int))], [], ckG gh m f⟩ = some (.normal, ⟨[(0, .ptr true gh.length 0), (11, LN m.nodes), (12, I m.nodes.length), (13, I (i : Int))], [], ckG gh m (f ++ [b])⟩) := fun b => by
      refine D_model_checker_lean_k1_ok ?_
      simp [D_model_checker_lean_k1, ckG, spliceAt, hmx]
    have hk2 : ∀ b, runL pg f_model_checker_lean_k2 ⟨[(0, .ptr true gh.length 0), (11, LN m.nodes), (12, I m.nodes.length), (13, I (i : Int))], [], ckG gh m (f ++ [b])⟩ = some (.normal, le1St m (f ++ [b]) (i + 1) gh) := fun b => by
      refine D_model_checker_lean_k2_ok ?_
      simp [D_model_checker_lean_k2, e2, le1St]
    unfold le2St at hl2
    simp only [Int.natCast_zero] at hl2
    unfold le1St at *
    generalize ckG gh m f = g0 at *
    by_cases h2 : x.k = 2
    · have hd : decide (x.k = 2 ∨ x.k = 3) = true := decide_eq_true (.inl h2)
      have d2 : decide (x.k = 2) = true := decide_eq_true h2
      rw [hd]
      have := hl2 true
      have k1' := hk1 (true || c)
      have k2' := hk2 (true || c)
      generalize ckG gh m (f ++ [true || c]) = g1 at *
      simp only [Bool.true_or] at this k1' k2'
      simp [D_model_checker_lean_b1, hltI, hx, d2, hArg, this, k1', k2', -List.getElem?_map]
    · have d2 : decide (x.k = 2) = false := decide_eq_false h2
      have hd : decide (x.k = 2 ∨ x.k = 3) = decide (x.k = 3) := by simp [h2]
      rw [hd]
      have := hl2 (decide (x.k = 3))
      have k1' := hk1 (decide (x.k = 3) || c)
      have k2' := hk2 (decide (x.k = 3) || c)
      generalize ckG gh m (f ++ [decide (x.k = 3) || c]) = g1 at *
      simp [D_model_checker_lean_b1, hltI, hx, d2, hArg, this, k1', k2', -List.getElem?_map]

theorem lean_eq (hA : Ahead m.nodes) (hl : m.nodes.length ≤ 1000) : callL pg 78 [.ptr true gh.length 0] (ckG gh m []) = some (.tup [], ckG gh m (hangF [] m.nodes)) := by
  have h := lean_loop1 (gh := gh) hA hl m.nodes.length 0 [] (by omega) rfl
  rw [List.drop_zero] at h
  unfold le1St at h
  simp only [Int.natCast_zero] at h
  generalize ckG gh m (hangF [] m.nodes) = g1 at *
  have h1 := D_model_checker_lean_0_ok (pg := pg) (g0 := gh.length) (o0 := 0) (gh := ckG gh m []) (e := .normal) (s := ⟨[], [], g1⟩) (by
    unfold ckG at h ⊢
    simp [D_model_checker_lean_0] at h ⊢
    simp [h])
  rw [callL_code (fn := f_model_checker_lean) rfl rfl h1]
  simp [finish, results, f_model_checker_lean, resOfs, resOk]

/-! ### pairs -/
theorem is_eq {f : List Bool} {n : Int} {g : List GObj} {b : Nat} (hb : g[b]? = some (.cells [LN m.nodes, LP m.inits, LP m.nexts, LI m.bads, LI m.holds, .sl true 1 (f.map B)])) : callL pg 118 [.ptr true b 0, I n] g = some (B (decide (isNo m.nodes n)), g) := by
  by_cases h : 0 ≤ n
  · have e : decide (isNo m.nodes n) = decide (n < (m.nodes.length : Int)) := decide_eq_decide.2 ⟨fun h2 => by have := h2.2; omega, fun h2 => ⟨h, by omega⟩⟩
    rw [e]
    refine callL_fn (fn := f_model_checker_is) (s := ?s1) rfl rfl (D_model_checker_is_0_ok ?h1) ?r1
    case h1 => simp [D_model_checker_is_0, h, hb]; rfl
    case r1 => simp [finish, results, f_model_checker_is, resOfs, resOf, resOk]
  · have e : decide (isNo m.nodes n) = false := decide_eq_false fun h2 => h h2.1
    rw [e]
    refine callL_fn (fn := f_model_checker_is) (s := ?s2) rfl rfl (D_model_checker_is_0_ok ?h2) ?r2
    case h2 => simp [D_model_checker_is_0, h]; rfl
    case r2 => simp [finish, results, f_model_checker_is, resOfs, resOf, resOk]

/-- What is wrong with a pair. -/
def pairE (l : List Nd) (f : List Bool) (init : Bool) (p : Int × Int) : Int :=
  if ¬ isNo l p.1 ∨ ¬ isNo l p.2 ∨ (l.getD p.1.toNat default).k ≠ 3 then 5 else if wAt l p.1 ≠ wAt l p.2 then 1 else if init = true ∧ f.getD p.2.toNat false = true then 4 else 0

theorem pair_eq {f : List Bool} {init : Bool} {p : Int × Int} {g : List GObj} {b : Nat} (hf : f.length = m.nodes.length) (hb : g[b]? = some (.cells [LN m.nodes, LP m.inits, LP m.nexts, LI m.bads, LI m.holds, .sl true 1 (f.map B)])) :
    callL pg 106 [.ptr true b 0, andV p, B init] g = some (I (pairE m.nodes f init p), g) := by
  obtain ⟨s, n⟩ := p
  have i1 := is_eq (n := s) hb
  have i2 := is_eq (n := n) hb
  rw [andV_def]
  unfold pairE wAt
  simp only
  refine callL_fn (fn := f_model_checker_pair) (s := ⟨[(6, I (pairE m.nodes f init (s, n)))], [], g⟩) rfl rfl (D_model_checker_pair_0_ok ?h1) ?r1
  case r1 => simp [finish, results, f_model_checker_pair, resOfs, resOf, resOk, pairE, wAt]
  case h1 =>
    unfold pairE wAt
    simp only
    by_cases h1 : isNo m.nodes s
    · rw [decide_eq_true h1] at i1
      by_cases h2 : isNo m.nodes n
      · rw [decide_eq_true h2] at i2
        have n1 := node_at h1
        have n2 := node_at h2
        have z1 := h1.1
        have z2 := h2.1
        have hfr := fr_idx (f := f) (a := n) (by rw [hf]; exact h2.2)
        generalize m.nodes.getD s.toNat default = d1 at *
        generalize m.nodes.getD n.toNat default = d2 at *
        generalize f.getD n.toNat false = c at *
        rw [nodeV_def d1] at n1
        rw [nodeV_def d2] at n2
        by_cases h3 : d1.k = 3
        · have d3 : decide (d1.k = 3) = true := decide_eq_true h3
          by_cases h4 : d1.w = d2.w
          · rw [if_neg (by rintro (h | h | h) <;> contradiction), if_neg (fun h => h h4)]
            cases init with
            | true => cases c with
              | true => simp [D_model_checker_pair_0, i1, i2, hb, z1, z2, n1, n2, d3, h4, hfr, -List.getElem?_map]
              | false => simp [D_model_checker_pair_0, i1, i2, hb, z1, z2, n1, n2, d3, h4, hfr, -List.getElem?_map]
            | false => simp [D_model_checker_pair_0, i1, i2, hb, z1, z2, n1, n2, d3, h4, -List.getElem?_map]
          · rw [if_neg (by rintro (h | h | h) <;> contradiction), if_pos h4]
            simp [D_model_checker_pair_0, i1, i2, hb, z1, z2, n1, n2, d3, h4, -List.getElem?_map]
        · rw [if_pos (.inr (.inr h3))]
          simp [D_model_checker_pair_0, i1, i2, hb, z1, n1, h3, -List.getElem?_map]
      · rw [decide_eq_false h2] at i2
        rw [if_pos (.inr (.inl h2))]
        simp [D_model_checker_pair_0, i1, i2]
    · rw [decide_eq_false h1] at i1
      rw [if_pos (.inl h1)]
      simp [D_model_checker_pair_0, i1]

end
end Go.Lw
end

/-! What the code of function model_checker_pairs comes to, piece by piece. Written by program (dprint.py). -/
section
set_option maxRecDepth 10000
set_option maxHeartbeats 4000000
namespace Go.Lw
open Go

def an_model_checker_pairs : Tr := (.node 42 (.ce (.bool)) (.node 26 (.ce (.bool)) (.node 13 (.ce (.gp)) (.node 4 (.ce (.one)) (.node 2 (.ce (.int .i64)) (.node 0 (.ce (.gp)) .nil .nil) (.node 3 (.ce (.int .i64)) .nil .nil)) (.node 9 (.ce (.one)) (.node 7 (.ce (.int .i64)) .nil .nil) (.node 10 (.ce (.one)) .nil .nil))) (.node 23 (.ce (.one)) (.node 18 (.ce (.gp)) (.node 17 (.ce (.one)) .nil .nil) (.node 22 (.ce (.one)) .nil .nil)) (.node 25 (.ce (.int .i64)) (.node 24 (.ce (.int .i64)) .nil .nil) .nil))) (.node 35 (.agg [.int .i64, .int .i64]) (.node 31 (.ce (.int .i64)) (.node 29 (.ce (.one)) (.node 27 (.ce (.int .i64)) .nil .nil) (.node 30 (.ce (.one)) .nil .nil)) (.node 33 (.ce (.bool)) (.node 32 (.ce (.int .i64)) .nil .nil) .nil)) (.node 39 (.ce (.bool)) (.node 37 (.agg [.int .i64, .int .i64]) (.node 36 (.ce (.gp)) .nil .nil) (.node 38 (.ce (.int .i64)) .nil .nil)) (.node 41 (.ce (.int .i64)) (.node 40 (.ce (.int .i64)) .nil .nil) .nil)))) (.node 63 (.ce (.one)) (.node 55 (.ce (.one)) (.node 46 (.ce (.gp)) (.node 44 (.ce (.int .i64)) (.node 43 (.ce (.int .i64)) .nil .nil) (.node 45 (.ce (.int .i64)) .nil .nil)) (.node 51 (.ce (.gp)) (.node 50 (.ce (.one)) .nil .nil) .nil)) (.node 59 (.ce (.bool)) (.node 57 (.ce (.int .i64)) (.node 56 (.ce (.one)) .nil .nil) (.node 58 (.ce (.int .i64)) .nil .nil)) (.node 62 (.ce (.one)) (.node 61 (.ce (.one)) .nil .nil) .nil))) (.node 72 (.ce (.int .i64)) (.node 68 (.agg [.int .i64, .int .i64]) (.node 65 (.ce (.int .i64)) (.node 64 (.ce (.int .i64)) .nil .nil) (.node 66 (.ce (.bool)) .nil .nil)) (.node 71 (.ce (.int .i64)) (.node 69 (.ce (.one)) .nil .nil) .nil)) (.node 76 (.ce (.int .i64)) (.node 74 (.ce (.int .i64)) (.node 73 (.ce (.one)) .nil .nil) (.node 75 (.ce (.one)) .nil .nil)) (.node 78 (.ce (.int .i64)) (.node 77 (.ce (.bool)) .nil .nil) .nil)))))

noncomputable def D_model_checker_pairs_b2 (pg : Prg) (g0 : Nat) (o0 : Nat) (x3 : Int) (v23 : PV) (x24 : Int) (x25 : Int) (v30 : PV) (x31 : Int) (x32 : Int) (gh : List GObj) : Option (IExit × St) := 
  br 33 (decide (x32 < x31)) (
  idX 2 none (degr v30) x32 fun p1 => 
  ldX [] gh true 2 (degr p1) fun v2 => unA 2 v2 fun c3 c4 => unI .i64 c3 fun n5 => unI .i64 c4 fun n6 => stK 1 v23 (stK 1 v30 (
  callR gh true (callL pg 106 [(.ptr true g0 o0), (.agg [(.int .i64 n5), (.int .i64 n6)]), (.bool (x3 == 0))] gh) fun r7 gh8 => unI .i64 r7 fun n9 => stK 0 v23 (stK 0 v30 (stK 0 v23 (stK 0 v30 (
  br 42 (n9 != 0) (some (.ret, ⟨[(2, (.int .i64 n9))], [], gh8⟩)) (stK 0 v23 (stK 0 v30 (stK 0 v23 (stK 0 v30 (some (.normal, ⟨[(0, (.ptr true g0 o0)), (3, (.int .i64 x3)), (23, v23), (24, (.int .i64 x24)), (25, (.int .i64 x25)), (30, v30), (31, (.int .i64 x31)), (32, (.int .i64 (IntKind.i64.wrap (x32 + 1))))], [], gh8⟩))))))))))))) (some ((.exit 2), ⟨[(0, (.ptr true g0 o0)), (3, (.int .i64 x3)), (23, v23), (24, (.int .i64 x24)), (25, (.int .i64 x25)), (30, v30), (31, (.int .i64 x31)), (32, (.int .i64 x32)), (33, (.bool (decide (x32 < x31))))], [], gh⟩))

theorem D_model_checker_pairs_b2_ok {pg : Prg} {gh : List GObj} {g0 : Nat} {o0 : Nat} {x3 : Int} {v23 : PV} {x24 : Int} {x25 : Int} {v30 : PV} {x31 : Int} {x32 : Int} {e : IExit} {s : St} (h : D_model_checker_pairs_b2 pg g0 o0 x3 v23 x24 x25 v30 x31 x32 gh = some (e, s)) : runL pg f_model_checker_pairs_b2 ⟨[(0, (.ptr true g0 o0)), (3, (.int .i64 x3)), (23, v23), (24, (.int .i64 x24)), (25, (.int .i64 x25)), (30, v30), (31, (.int .i64 x31)), (32, (.int .i64 x32))], [], gh⟩ = some (e, s) :=
  runX_ok an_model_checker_pairs (Eq.trans (by kernel_rfl) h)

noncomputable def D_model_checker_pairs_k1 (pg : Prg) (g0 : Nat) (o0 : Nat) (v23 : PV) (x24 : Int) (x25 : Int) (gh : List GObj) : Option (IExit × St) := stK 0 v23 (some (.normal, ⟨[(0, (.ptr true g0 o0)), (23, v23), (24, (.int .i64 x24)), (25, (.int .i64 (IntKind.i64.wrap (x25 + 1))))], [], gh⟩))

theorem D_model_checker_pairs_k1_ok {pg : Prg} {gh : List GObj} {g0 : Nat} {o0 : Nat} {v23 : PV} {x24 : Int} {x25 : Int} {e : IExit} {s : St} (h : D_model_checker_pairs_k1 pg g0 o0 v23 x24 x25 gh = some (e, s)) : runL pg f_model_checker_pairs_k1 ⟨[(0, (.ptr true g0 o0)), (23, v23), (24, (.int .i64 x24)), (25, (.int .i64 x25))], [], gh⟩ = some (e, s) :=
  runX_ok an_model_checker_pairs (Eq.trans (by kernel_rfl) h)

noncomputable def D_model_checker_pairs_b1 (pg : Prg) (g0 : Nat) (o0 : Nat) (v23 : PV) (x24 : Int) (x25 : Int) (gh : List GObj) : Option (IExit × St) := 
  br 26 (decide (x25 < x24)) (
  idX 1 none (degr v23) x25 fun p1 => 
  ldX [] gh false 1 (degr p1) fun v2 => isC v2 (stK 0 v2 (stK 0 v23 (isC (degr v2) (lenS (degr (degr v2)) fun n3 => stK 0 v23 (stK 0 (degr v2) (
  kR (runL pg f_model_checker_pairs_l2 ⟨[(0, (.ptr true g0 o0)), (3, (.int .i64 x25)), (23, v23), (24, (.int .i64 x24)), (25, (.int .i64 x25)), (30, (degr v2)), (31, (.int .i64 (n3 : Int))), (32, (.int .i64 0))], [], gh⟩) (fun e s => bk 1 e s (fun e s => nx e s (fun e s => po [0, 23, 24, 25] 0 e s (fun e s => some (e, s))) fun s => kR (runL pg f_model_checker_pairs_k1 s) (fun e s => po [0, 23, 24, 25] 0 e s (fun e s => some (e, s)))))))))))) (some ((.exit 0), ⟨[(0, (.ptr true g0 o0)), (23, v23), (24, (.int .i64 x24)), (25, (.int .i64 x25)), (26, (.bool (decide (x25 < x24))))], [], gh⟩))

theorem D_model_checker_pairs_b1_ok {pg : Prg} {gh : List GObj} {g0 : Nat} {o0 : Nat} {v23 : PV} {x24 : Int} {x25 : Int} {e : IExit} {s : St} (h : D_model_checker_pairs_b1 pg g0 o0 v23 x24 x25 gh = some (e, s)) : runL pg f_model_checker_pairs_b1 ⟨[(0, (.ptr true g0 o0)), (23, v23), (24, (.int .i64 x24)), (25, (.int .i64 x25))], [], gh⟩ = some (e, s) :=
  runX_ok an_model_checker_pairs (Eq.trans (by kernel_rfl) h)

noncomputable def D_model_checker_pairs_b4 (pg : Prg) (v9 : PV) (v10 : PV) (v56 : PV) (x57 : Int) (x58 : Int) (v63 : PV) (x64 : Int) (x65 : Int) (gh : List GObj) : Option (IExit × St) := 
  br 66 (decide (x65 < x64)) (
  idX 2 none (degr v63) x65 fun p1 => 
  ldX [] gh true 2 (degr p1) fun v2 => unA 2 v2 fun c3 c4 => unI .i64 c3 fun n5 => unI .i64 c4 fun n6 => stK 1 v9 (stK 1 v10 (stK 1 v56 (stK 1 v63 (isC (degr v10) (
  muX gh 0 (degr (degr v10)) (.int .i64 n5) (.bool true) fun gh7 => stK 0 v9 (stK 0 v10 (stK 0 v56 (stK 0 v63 (stK 0 v9 (stK 0 v10 (stK 0 v56 (stK 0 v63 (stK 0 v9 (stK 0 v10 (stK 0 v56 (stK 0 v63 (some (.normal, ⟨[(9, v9), (10, v10), (56, v56), (57, (.int .i64 x57)), (58, (.int .i64 x58)), (63, v63), (64, (.int .i64 x64)), (65, (.int .i64 (IntKind.i64.wrap (x65 + 1))))], [], gh7⟩))))))))))))))))))) (some ((.exit 6), ⟨[(9, v9), (10, v10), (56, v56), (57, (.int .i64 x57)), (58, (.int .i64 x58)), (63, v63), (64, (.int .i64 x64)), (65, (.int .i64 x65)), (66, (.bool (decide (x65 < x64))))], [], gh⟩))

theorem D_model_checker_pairs_b4_ok {pg : Prg} {gh : List GObj} {v9 : PV} {v10 : PV} {v56 : PV} {x57 : Int} {x58 : Int} {v63 : PV} {x64 : Int} {x65 : Int} {e : IExit} {s : St} (h : D_model_checker_pairs_b4 pg v9 v10 v56 x57 x58 v63 x64 x65 gh = some (e, s)) : runL pg f_model_checker_pairs_b4 ⟨[(9, v9), (10, v10), (56, v56), (57, (.int .i64 x57)), (58, (.int .i64 x58)), (63, v63), (64, (.int .i64 x64)), (65, (.int .i64 x65))], [], gh⟩ = some (e, s) :=
  runX_ok an_model_checker_pairs (Eq.trans (by kernel_rfl) h)

noncomputable def D_model_checker_pairs_k3 (pg : Prg) (v9 : PV) (v10 : PV) (v56 : PV) (x57 : Int) (x58 : Int) (gh : List GObj) : Option (IExit × St) := isC (degr v10) (
  lenM gh (degr (degr v10)) fun n1 => isC (degr v9) (lenS (degr (degr v9)) fun n2 => stK 0 v56 (
  br 77 (decide ((n1 : Int) < (n2 : Int))) (some (.ret, ⟨[(2, (.int .i64 6))], [], gh⟩)) (some (.normal, ⟨[(56, v56), (57, (.int .i64 x57)), (58, (.int .i64 x58)), (77, (.bool (decide ((n1 : Int) < (n2 : Int)))))], [], gh⟩)))))

theorem D_model_checker_pairs_k3_ok {pg : Prg} {gh : List GObj} {v9 : PV} {v10 : PV} {v56 : PV} {x57 : Int} {x58 : Int} {e : IExit} {s : St} (h : D_model_checker_pairs_k3 pg v9 v10 v56 x57 x58 gh = some (e, s)) : runL pg f_model_checker_pairs_k3 ⟨[(9, v9), (10, v10), (56, v56), (57, (.int .i64 x57)), (58, (.int .i64 x58))], [], gh⟩ = some (e, s) :=
  runX_ok an_model_checker_pairs (Eq.trans (by kernel_rfl) h)

noncomputable def D_model_checker_pairs_k4 (pg : Prg) (v56 : PV) (x57 : Int) (x58 : Int) (b77 : Bool) (gh : List GObj) : Option (IExit × St) := stK 0 v56 (some (.normal, ⟨[(56, v56), (57, (.int .i64 x57)), (58, (.int .i64 (IntKind.i64.wrap (x58 + 1))))], [], gh⟩))

theorem D_model_checker_pairs_k4_ok {pg : Prg} {gh : List GObj} {v56 : PV} {x57 : Int} {x58 : Int} {b77 : Bool} {e : IExit} {s : St} (h : D_model_checker_pairs_k4 pg v56 x57 x58 b77 gh = some (e, s)) : runL pg f_model_checker_pairs_k4 ⟨[(56, v56), (57, (.int .i64 x57)), (58, (.int .i64 x58)), (77, (.bool b77))], [], gh⟩ = some (e, s) :=
  runX_ok an_model_checker_pairs (Eq.trans (by kernel_rfl) h)

noncomputable def D_model_checker_pairs_b3 (pg : Prg) (v56 : PV) (x57 : Int) (x58 : Int) (gh : List GObj) : Option (IExit × St) := 
  br 59 (decide (x58 < x57)) (
  idX 1 none (degr v56) x58 fun p1 => 
  ldX [] gh false 1 (degr p1) fun v2 => isC v2 (stK 0 v2 (stK 0 v56 (stK 0 v2 (stK 0 v56 (isC (degr v2) (lenS (degr (degr v2)) fun n3 => stK 0 v2 (stK 0 v56 (stK 0 (degr v2) (
  kR (runL pg f_model_checker_pairs_l4 ⟨[(9, v2), (10, (.mp (List.length gh))), (56, v56), (57, (.int .i64 x57)), (58, (.int .i64 x58)), (63, (degr v2)), (64, (.int .i64 (n3 : Int))), (65, (.int .i64 0))], [], (gh ++ [.map []])⟩) (fun e s => nx e s (fun e s => bk 5 e s (fun e s => nx e s (fun e s => po [56, 57, 58] 0 e s (fun e s => some (e, s))) fun s => kR (runL pg f_model_checker_pairs_k4 s) (fun e s => po [56, 57, 58] 0 e s (fun e s => some (e, s))))) fun s => kR (runL pg f_model_checker_pairs_k3 s) (fun e s => bk 5 e s (fun e s => nx e s (fun e s => po [56, 57, 58] 0 e s (fun e s => some (e, s))) fun s => kR (runL pg f_model_checker_pairs_k4 s) (fun e s => po [56, 57, 58] 0 e s (fun e s => some (e, s)))))))))))))))) (some ((.exit 4), ⟨[(56, v56), (57, (.int .i64 x57)), (58, (.int .i64 x58)), (59, (.bool (decide (x58 < x57))))], [], gh⟩))

theorem D_model_checker_pairs_b3_ok {pg : Prg} {gh : List GObj} {v56 : PV} {x57 : Int} {x58 : Int} {e : IExit} {s : St} (h : D_model_checker_pairs_b3 pg v56 x57 x58 gh = some (e, s)) : runL pg f_model_checker_pairs_b3 ⟨[(56, v56), (57, (.int .i64 x57)), (58, (.int .i64 x58))], [], gh⟩ = some (e, s) :=
  runX_ok an_model_checker_pairs (Eq.trans (by kernel_rfl) h)

noncomputable def D_model_checker_pairs_k5 (pg : Prg)  (gh : List GObj) : Option (IExit × St) := some (.ret, ⟨[(2, (.int .i64 0))], [], gh⟩)

theorem D_model_checker_pairs_k5_ok {pg : Prg} {gh : List GObj}  {e : IExit} {s : St} (h : D_model_checker_pairs_k5 pg  gh = some (e, s)) : runL pg f_model_checker_pairs_k5 ⟨[], [], gh⟩ = some (e, s) :=
  runX_ok an_model_checker_pairs (Eq.trans (by kernel_rfl) h)

noncomputable def D_model_checker_pairs_k2 (pg : Prg) (g0 : Nat) (o0 : Nat) (gh : List GObj) : Option (IExit × St) := 
  ob (ghCells gh g0) fun cs1 => 
  ob (grab false 1 ((o0 + 0) + 1) cs1) fun v2 => isC (degr v2) (
  ob (ghCells gh g0) fun cs3 => 
  ob (grab false 1 ((o0 + 0) + 2) cs3) fun v4 => isC (degr v4) (arK (degr (degr v2)) (lnK 1 (degr (degr v2)) (arK (degr (degr v4)) (lnK 1 (degr (degr v4)) (lenS (.sl false 1 [(degr (degr v2)), (degr (degr v4))]) fun n5 => 
  kR (runL pg f_model_checker_pairs_l3 ⟨[(56, (.sl true 1 [(degr (degr v2)), (degr (degr v4))])), (57, (.int .i64 (n5 : Int))), (58, (.int .i64 0))], [], gh⟩) (fun e s => nx e s (fun e s => some (e, s)) fun s => kR (runL pg f_model_checker_pairs_k5 s) (fun e s => some (e, s)))))))))

theorem D_model_checker_pairs_k2_ok {pg : Prg} {gh : List GObj} {g0 : Nat} {o0 : Nat} {e : IExit} {s : St} (h : D_model_checker_pairs_k2 pg g0 o0 gh = some (e, s)) : runL pg f_model_checker_pairs_k2 ⟨[(0, (.ptr true g0 o0))], [], gh⟩ = some (e, s) :=
  runX_ok an_model_checker_pairs (Eq.trans (by kernel_rfl) h)

noncomputable def D_model_checker_pairs_0 (pg : Prg) (g0 : Nat) (o0 : Nat) (gh : List GObj) : Option (IExit × St) := 
  ob (ghCells gh g0) fun cs1 => 
  ob (grab false 1 ((o0 + 0) + 1) cs1) fun v2 => isC (degr v2) (
  ob (ghCells gh g0) fun cs3 => 
  ob (grab false 1 ((o0 + 0) + 2) cs3) fun v4 => isC (degr v4) (arK (degr (degr v2)) (lnK 1 (degr (degr v2)) (arK (degr (degr v4)) (lnK 1 (degr (degr v4)) (lenS (.sl false 1 [(degr (degr v2)), (degr (degr v4))]) fun n5 => 
  kR (runL pg f_model_checker_pairs_l1 ⟨[(0, (.ptr true g0 o0)), (23, (.sl true 1 [(degr (degr v2)), (degr (degr v4))])), (24, (.int .i64 (n5 : Int))), (25, (.int .i64 0))], [], gh⟩) (fun e s => nx e s (fun e s => some (e, s)) fun s => kR (runL pg f_model_checker_pairs_k2 s) (fun e s => some (e, s)))))))))

theorem D_model_checker_pairs_0_ok {pg : Prg} {gh : List GObj} {g0 : Nat} {o0 : Nat} {e : IExit} {s : St} (h : D_model_checker_pairs_0 pg g0 o0 gh = some (e, s)) : runL pg f_model_checker_pairs_0 ⟨[(0, (.ptr true g0 o0))], [], gh⟩ = some (e, s) :=
  runX_ok an_model_checker_pairs (Eq.trans (by kernel_rfl) h)

end Go.Lw
end

/-! What the code of function model_checker_marks comes to, piece by piece. Written by program (dprint.py). -/
section
set_option maxRecDepth 10000
set_option maxHeartbeats 4000000
namespace Go.Lw
open Go

def an_model_checker_marks : Tr := (.node 17 (.ce (.gp)) (.node 9 (.ce (.int .i64)) (.node 3 (.ce (.one)) (.node 1 (.ce (.gp)) (.node 0 (.ce (.gp)) .nil .nil) (.node 2 (.ce (.int .i64)) .nil .nil)) (.node 8 (.ce (.one)) (.node 4 (.ce (.gp)) .nil .nil) .nil)) (.node 14 (.ce (.one)) (.node 13 (.agg [.any, .any, .any, .any, .any]) (.node 10 (.ce (.gp)) .nil .nil) .nil) (.node 16 (.ce (.bool)) (.node 15 (.ce (.int .i64)) .nil .nil) .nil))) (.node 29 (.ce (.one)) (.node 26 (.ce (.one)) (.node 22 (.ce (.gp)) (.node 21 (.ce (.one)) .nil .nil) .nil) (.node 28 (.ce (.one)) (.node 27 (.ce (.one)) .nil .nil) .nil)) (.node 32 (.ce (.one)) (.node 31 (.ce (.bool)) (.node 30 (.ce (.one)) .nil .nil) .nil) (.node 34 (.ce (.bool)) (.node 33 (.ce (.one)) .nil .nil) .nil))))

noncomputable def D_model_checker_marks_0 (pg : Prg) (g0 : Nat) (o0 : Nat) (gh : List GObj) : Option (IExit × St) := 
  ob (ghCells (gh ++ [.cells [(.ptr true g0 o0)]]) (List.length gh)) fun cs1 => 
  ob (grab false 1 0 cs1) fun v2 => unG (degr v2) fun g3 o4 => 
  ob (ghCells (gh ++ [.cells [(.ptr true g0 o0)]]) g3) fun cs5 => 
  ob (grab false 1 ((o4 + 0) + 2) cs5) fun v6 => isC (degr v6) (lenS (degr (degr v6)) fun n7 => 
  ob (ghCells (gh ++ [.cells [(.ptr true g0 o0)]]) (List.length gh)) fun cs8 => 
  ob (grab false 1 0 cs8) fun v9 => unG (degr v9) fun g10 o11 => 
  ob (ghCells (gh ++ [.cells [(.ptr true g0 o0)]]) g10) fun cs12 => 
  ob (grab true 5 (o11 + 0) cs12) fun v13 => unA 5 (degr v13) fun c14 c15 c16 c17 c18 => onK (degr1 c14) (onK (degr1 c15) (onK (degr1 c16) (onK (degr1 c17) (onK (degr1 c18) (
  callR (gh ++ [.cells [(.ptr true g0 o0)]]) true (callL pg 101 [(.agg [(degr1 c14), (degr1 c15), (degr1 c16), (degr1 c17), (degr1 c18)]), (.int .i64 3)] (gh ++ [.cells [(.ptr true g0 o0)]])) fun r19 gh20 => isC r19 (lenS (degr r19) fun n21 => 
  br 16 (decide ((n7 : Int) < (n21 : Int))) (some (.ret, ⟨[(2, (.int .i64 5))], [], gh20⟩)) (
  ob (ghCells gh20 (List.length gh)) fun cs22 => 
  ob (grab false 1 0 cs22) fun v23 => unG (degr v23) fun g24 o25 => 
  ob (ghCells gh20 g24) fun cs26 => 
  ob (grab false 1 ((o25 + 0) + 3) cs26) fun v27 => isC (degr v27) (
  ob (ghCells gh20 (List.length gh)) fun cs28 => 
  ob (grab false 1 0 cs28) fun v29 => unG (degr v29) fun g30 o31 => 
  ob (ghCells gh20 g30) fun cs32 => 
  ob (grab false 1 ((o31 + 0) + 4) cs32) fun v33 => isC (degr v33) (arK (degr (degr v27)) (lnK 1 (degr (degr v27)) (arK (degr (degr v33)) (lnK 1 (degr (degr v33)) (
  callR gh20 true (callL pg 107 [(.sl false 1 [(degr (degr v27)), (degr (degr v33))])] gh20) fun r34 gh35 => isC r34 (stK 0 r34 (isC (degr r34) (arK (degr (degr r34)) (
  callR gh35 true (callL pg 86 [(degr (degr r34)), (.fn 108 [(.ptr true (List.length gh) 0)])] gh35) fun r36 gh37 => unB r36 fun b38 => stK 0 r34 (
  br 31 b38 (some (.ret, ⟨[(2, (.int .i64 5))], [], gh37⟩)) (isC (degr r34) (arK (degr (degr r34)) (
  callR gh37 true (callL pg 86 [(degr (degr r34)), (.fn 109 [(.ptr true (List.length gh) 0)])] gh37) fun r39 gh40 => unB r39 fun b41 => 
  br 34 b41 (some (.ret, ⟨[(2, (.int .i64 1))], [], gh40⟩)) (some (.ret, ⟨[(2, (.int .i64 0))], [], gh40⟩))))))))))))))))))))))))

theorem D_model_checker_marks_0_ok {pg : Prg} {gh : List GObj} {g0 : Nat} {o0 : Nat} {e : IExit} {s : St} (h : D_model_checker_marks_0 pg g0 o0 gh = some (e, s)) : runL pg f_model_checker_marks_0 ⟨[(0, (.ptr true g0 o0))], [], gh⟩ = some (e, s) :=
  runX_ok an_model_checker_marks (Eq.trans (by kernel_rfl) h)

end Go.Lw
end

/-! What the code of function model_checker_marks_1 comes to, piece by piece. Written by program (dprint.py). -/
section
set_option maxRecDepth 10000
set_option maxHeartbeats 4000000
namespace Go.Lw
open Go

def an_model_checker_marks_1 : Tr := (.node 4 (.ce (.gp)) (.node 1 (.ce (.gp)) (.node 0 (.ce (.int .i64)) .nil .nil) (.node 3 (.ce (.bool)) .nil .nil)) (.node 6 (.ce (.bool)) (.node 5 (.ce (.int .i64)) .nil .nil) (.node 7 (.ce (.bool)) .nil .nil)))

noncomputable def D_model_checker_marks_1_0 (pg : Prg) (x0 : Int) (g1 : Nat) (o1 : Nat) (gh : List GObj) : Option (IExit × St) := 
  ob (ghCells gh g1) fun cs1 => 
  ob (grab false 1 o1 cs1) fun v2 => unG (degr v2) fun g3 o4 => 
  callR gh true (callL pg 118 [(.ptr true g3 o4), (.int .i64 x0)] gh) fun r5 gh6 => unB r5 fun b7 => some (.ret, ⟨[(3, (.bool (!b7)))], [], gh6⟩)

theorem D_model_checker_marks_1_0_ok {pg : Prg} {gh : List GObj} {x0 : Int} {g1 : Nat} {o1 : Nat} {e : IExit} {s : St} (h : D_model_checker_marks_1_0 pg x0 g1 o1 gh = some (e, s)) : runL pg f_model_checker_marks_1_0 ⟨[(0, (.int .i64 x0)), (1, (.ptr true g1 o1))], [], gh⟩ = some (e, s) :=
  runX_ok an_model_checker_marks_1 (Eq.trans (by kernel_rfl) h)

end Go.Lw
end

/-! What the code of function model_checker_marks_2 comes to, piece by piece. Written by program (dprint.py). -/
section
set_option maxRecDepth 10000
set_option maxHeartbeats 4000000
namespace Go.Lw
open Go

def an_model_checker_marks_2 : Tr := (.node 8 (.ce (.one)) (.node 3 (.ce (.bool)) (.node 1 (.ce (.gp)) (.node 0 (.ce (.int .i64)) .nil .nil) .nil) (.node 4 (.ce (.gp)) .nil .nil)) (.node 12 (.ce (.int .i64)) (.node 9 (.ce (.int .i64)) .nil .nil) (.node 13 (.ce (.bool)) .nil .nil)))

noncomputable def D_model_checker_marks_2_0 (pg : Prg) (x0 : Int) (g1 : Nat) (o1 : Nat) (gh : List GObj) : Option (IExit × St) := 
  ob (ghCells gh g1) fun cs1 => 
  ob (grab false 1 o1 cs1) fun v2 => unG (degr v2) fun g3 o4 => 
  ob (ghCells gh g3) fun cs5 => 
  ob (grab false 1 ((o4 + 0) + 0) cs5) fun v6 => isC (degr v6) (
  idX 6 none (degr (degr v6)) x0 fun p7 => faX (degr p7) 1 fun p8 => 
  ldX [] gh false 1 (degr p8) fun v9 => unI .i64 v9 fun n10 => some (.ret, ⟨[(3, (.bool (n10 != 1)))], [], gh⟩))

theorem D_model_checker_marks_2_0_ok {pg : Prg} {gh : List GObj} {x0 : Int} {g1 : Nat} {o1 : Nat} {e : IExit} {s : St} (h : D_model_checker_marks_2_0 pg x0 g1 o1 gh = some (e, s)) : runL pg f_model_checker_marks_2_0 ⟨[(0, (.int .i64 x0)), (1, (.ptr true g1 o1))], [], gh⟩ = some (e, s) :=
  runX_ok an_model_checker_marks_2 (Eq.trans (by kernel_rfl) h)

end Go.Lw
end

/-! What the code of function model_Check comes to, piece by piece. Written by program (dprint.py). -/
section
set_option maxRecDepth 10000
set_option maxHeartbeats 4000000
namespace Go.Lw
open Go

def an_model_Check : Tr := (.node 33 (.ce (.int .i64)) (.node 16 (.ce (.int .i64)) (.node 7 (.ce (.gp)) (.node 4 (.ce (.int .i64)) (.node 2 (.ce (.int .i64)) (.node 0 (.agg [.any, .any, .any, .any, .any]) .nil .nil) (.node 3 (.ce (.int .i64)) .nil .nil)) (.node 6 (.ce (.int .i64)) (.node 5 (.ce (.int .i64)) .nil .nil) .nil)) (.node 12 (.ce (.bool)) (.node 10 (.ce (.one)) (.node 8 (.ce (.int .i64)) .nil .nil) (.node 11 (.ce (.int .i64)) .nil .nil)) (.node 15 (.ce (.one)) (.node 13 (.ce (.bool)) .nil .nil) .nil))) (.node 24 (.ce (.bool)) (.node 21 (.ce (.one)) (.node 18 (.ce (.bool)) (.node 17 (.ce (.bool)) .nil .nil) (.node 19 (.ce (.bool)) .nil .nil)) (.node 23 (.ce (.bool)) (.node 22 (.ce (.int .i64)) .nil .nil) .nil)) (.node 29 (.ce (.bool)) (.node 27 (.ce (.int .i64)) (.node 26 (.ce (.one)) .nil .nil) (.node 28 (.ce (.int .i64)) .nil .nil)) (.node 32 (.ce (.one)) (.node 30 (.ce (.int .i64)) .nil .nil) .nil)))) (.node 47 (.ce (.int .i64)) (.node 40 (.agg [.any, .any, .any, .any, .any]) (.node 37 (.ce (.int .i64)) (.node 35 (.ce (.int .i64)) (.node 34 (.ce (.int .i64)) .nil .nil) (.node 36 (.ce (.bool)) .nil .nil)) (.node 39 (.tup 2) (.node 38 (.ce (.int .i64)) .nil .nil) .nil)) (.node 44 (.ce (.int .i64)) (.node 42 (.ce (.int .i64)) (.node 41 (.tup 2) .nil .nil) (.node 43 (.ce (.int .i64)) .nil .nil)) (.node 46 (.ce (.bool)) (.node 45 (.ce (.bool)) .nil .nil) .nil))) (.node 55 (.ce (.gp)) (.node 51 (.agg [.any, .any, .any, .any, .any, .any]) (.node 49 (.ce (.bool)) (.node 48 (.ce (.bool)) .nil .nil) (.node 50 (.agg [.any, .any, .any, .any, .any]) .nil .nil)) (.node 53 (.ce (.gp)) (.node 52 (.ce (.gp)) .nil .nil) .nil)) (.node 59 (.ce (.int .i64)) (.node 57 (.ce (.int .i64)) (.node 56 (.ce (.int .i64)) .nil .nil) (.node 58 (.ce (.bool)) .nil .nil)) (.node 61 (.ce (.int .i64)) (.node 60 (.ce (.gp)) .nil .nil) .nil)))))

noncomputable def D_model_Check_b1 (pg : Prg) (x27 : Int) (x28 : Int) (vc0_0 : PV) (vc0_1 : PV) (vc0_2 : PV) (vc0_3 : PV) (vc0_4 : PV) (gh : List GObj) : Option (IExit × St) := 
  br 29 (decide (x28 < x27)) (isC (degr vc0_0) (arK (degr (degr vc0_0)) (
  callR gh true (callL pg 76 [(degr (degr vc0_0)), (.int .i64 x28)] gh) fun r1 gh2 => unI .i64 r1 fun n3 => 
  br 36 (n3 != 0) (some (.ret, ⟨[(2, (.int .i64 n3))], [], gh2⟩)) (some (.normal, ⟨[(1, (.ptr false 0 0)), (27, (.int .i64 x27)), (28, (.int .i64 (IntKind.i64.wrap (x28 + 1))))], [[vc0_0, vc0_1, vc0_2, vc0_3, vc0_4]], gh2⟩))))) (some ((.exit 0), ⟨[(1, (.ptr false 0 0)), (27, (.int .i64 x27)), (28, (.int .i64 x28)), (29, (.bool (decide (x28 < x27))))], [[vc0_0, vc0_1, vc0_2, vc0_3, vc0_4]], gh⟩))

theorem D_model_Check_b1_ok {pg : Prg} {gh : List GObj} {x27 : Int} {x28 : Int} {vc0_0 : PV} {vc0_1 : PV} {vc0_2 : PV} {vc0_3 : PV} {vc0_4 : PV} {e : IExit} {s : St} (h : D_model_Check_b1 pg x27 x28 vc0_0 vc0_1 vc0_2 vc0_3 vc0_4 gh = some (e, s)) : runL pg f_model_Check_b1 ⟨[(1, (.ptr false 0 0)), (27, (.int .i64 x27)), (28, (.int .i64 x28))], [[vc0_0, vc0_1, vc0_2, vc0_3, vc0_4]], gh⟩ = some (e, s) :=
  runX_ok an_model_Check (Eq.trans (by kernel_rfl) h)

noncomputable def D_model_Check_k1 (pg : Prg) (vc0_0 : PV) (vc0_1 : PV) (vc0_2 : PV) (vc0_3 : PV) (vc0_4 : PV) (gh : List GObj) : Option (IExit × St) := onK (degr1 (degr1 vc0_0)) (onK (degr1 (degr1 vc0_1)) (onK (degr1 (degr1 vc0_2)) (onK (degr1 (degr1 vc0_3)) (onK (degr1 (degr1 vc0_4)) (
  callR gh true (callL pg 77 [(.agg [(degr1 (degr1 vc0_0)), (degr1 (degr1 vc0_1)), (degr1 (degr1 vc0_2)), (degr1 (degr1 vc0_3)), (degr1 (degr1 vc0_4))])] gh) fun r1 gh2 => unT 2 r1 fun r3 r4 => unI .i64 (degr1 (degr1 r3)) fun n5 => unI .i64 (degr1 (degr1 r4)) fun n6 => 
  br 46 (decide (6 < n5)) (some (.ret, ⟨[(2, (.int .i64 2))], [], gh2⟩)) (
  br 49 (decide (10 < n6)) (some (.ret, ⟨[(2, (.int .i64 2))], [], gh2⟩)) (onK (degr1 vc0_0) (onK (degr1 vc0_1) (onK (degr1 vc0_2) (onK (degr1 vc0_3) (onK (degr1 vc0_4) (onK (degr1 vc0_0) (onK (degr1 vc0_1) (onK (degr1 vc0_2) (onK (degr1 vc0_3) (onK (degr1 vc0_4) (
  callR (gh2 ++ [.cells [(degr1 vc0_0), (degr1 vc0_1), (degr1 vc0_2), (degr1 vc0_3), (degr1 vc0_4), (.sl true 1 [])]]) false (callL pg 78 [(.ptr true (List.length gh2) 0)] (gh2 ++ [.cells [(degr1 vc0_0), (degr1 vc0_1), (degr1 vc0_2), (degr1 vc0_3), (degr1 vc0_4), (.sl true 1 [])]])) fun r7 gh8 => 
  callR gh8 true (callL pg 79 [(.ptr true (List.length gh2) 0)] gh8) fun r9 gh10 => unI .i64 r9 fun n11 => 
  br 58 (n11 != 0) (some (.ret, ⟨[(2, (.int .i64 n11))], [], gh10⟩)) (
  callR gh10 true (callL pg 80 [(.ptr true (List.length gh2) 0)] gh10) fun r12 gh13 => unI .i64 r12 fun n14 => some (.ret, ⟨[(2, (.int .i64 n14))], [], gh13⟩)))))))))))))))))))

theorem D_model_Check_k1_ok {pg : Prg} {gh : List GObj} {vc0_0 : PV} {vc0_1 : PV} {vc0_2 : PV} {vc0_3 : PV} {vc0_4 : PV} {e : IExit} {s : St} (h : D_model_Check_k1 pg vc0_0 vc0_1 vc0_2 vc0_3 vc0_4 gh = some (e, s)) : runL pg f_model_Check_k1 ⟨[(1, (.ptr false 0 0))], [[vc0_0, vc0_1, vc0_2, vc0_3, vc0_4]], gh⟩ = some (e, s) :=
  runX_ok an_model_Check (Eq.trans (by kernel_rfl) h)

noncomputable def D_model_Check_0 (pg : Prg) (v0_0 : PV) (v0_1 : PV) (v0_2 : PV) (v0_3 : PV) (v0_4 : PV) (gh : List GObj) : Option (IExit × St) := onK (degr1 v0_0) (onK (degr1 v0_1) (onK (degr1 v0_2) (onK (degr1 v0_3) (onK (degr1 v0_4) (isC (degr (degr1 v0_0)) (lenS (degr (degr (degr1 v0_0))) fun n1 => 
  br 13 (decide (80 < (n1 : Int))) (some (.ret, ⟨[(2, (.int .i64 2))], [], gh⟩)) (isC (degr (degr1 v0_3)) (lenS (degr (degr (degr1 v0_3))) fun n2 => 
  br 19 (decide (8 < (n2 : Int))) (some (.ret, ⟨[(2, (.int .i64 2))], [], gh⟩)) (isC (degr (degr1 v0_4)) (lenS (degr (degr (degr1 v0_4))) fun n3 => 
  br 24 (decide (8 < (n3 : Int))) (some (.ret, ⟨[(2, (.int .i64 2))], [], gh⟩)) (isC (degr (degr1 v0_0)) (lenS (degr (degr (degr1 v0_0))) fun n4 => 
  kR (runL pg f_model_Check_l1 ⟨[(1, (.ptr false 0 0)), (27, (.int .i64 (n4 : Int))), (28, (.int .i64 0))], [[(degr1 v0_0), (degr1 v0_1), (degr1 v0_2), (degr1 v0_3), (degr1 v0_4)]], gh⟩) (fun e s => nx e s (fun e s => some (e, s)) fun s => kR (runL pg f_model_Check_k1 s) (fun e s => some (e, s)))))))))))))))

theorem D_model_Check_0_ok {pg : Prg} {gh : List GObj} {v0_0 : PV} {v0_1 : PV} {v0_2 : PV} {v0_3 : PV} {v0_4 : PV} {e : IExit} {s : St} (h : D_model_Check_0 pg v0_0 v0_1 v0_2 v0_3 v0_4 gh = some (e, s)) : runL pg f_model_Check_0 ⟨[(0, (.agg [v0_0, v0_1, v0_2, v0_3, v0_4]))], [], gh⟩ = some (e, s) :=
  runX_ok an_model_Check (Eq.trans (by kernel_rfl) h)

end Go.Lw
end

/-! What the code of function slices_Concat_Lint_int comes to, piece by piece. Written by program (dprint.py). -/
section
set_option maxRecDepth 10000
set_option maxHeartbeats 4000000
namespace Go.Lw
open Go

def an_slices_Concat_Lint_int : Tr := (.node 19 (.ce (.int .i64)) (.node 10 (.ce (.int .i64)) (.node 5 (.ce (.one)) (.node 2 (.ce (.one)) (.node 0 (.ce (.one)) .nil .nil) (.node 3 (.ce (.int .i64)) .nil .nil)) (.node 8 (.ce (.one)) (.node 6 (.ce (.one)) .nil .nil) (.node 9 (.ce (.one)) .nil .nil))) (.node 15 (.ce (.int .i64)) (.node 12 (.ce (.bool)) (.node 11 (.ce (.int .i64)) .nil .nil) (.node 14 (.ce (.one)) .nil .nil)) (.node 17 (.ce (.int .i64)) (.node 16 (.ce (.one)) .nil .nil) (.node 18 (.ce (.int .i64)) .nil .nil)))) (.node 28 (.ce (.bool)) (.node 24 (.ce (.one)) (.node 22 (.ce (.int .i64)) (.node 20 (.ce (.bool)) .nil .nil) (.node 23 (.ce (.int .i64)) .nil .nil)) (.node 26 (.ce (.int .i64)) (.node 25 (.ce (.one)) .nil .nil) (.node 27 (.ce (.int .i64)) .nil .nil))) (.node 33 (.ce (.one)) (.node 31 (.ce (.one)) (.node 30 (.ce (.one)) .nil .nil) (.node 32 (.ce (.one)) .nil .nil)) (.node 35 (.ce (.one)) (.node 34 (.ce (.int .i64)) .nil .nil) .nil))))

noncomputable def D_slices_Concat_Lint_int_b1 (pg : Prg) (v0 : PV) (x3 : Int) (v9 : PV) (x10 : Int) (x11 : Int) (gh : List GObj) : Option (IExit × St) := 
  br 12 (decide (x11 < x10)) (
  idX 1 none (degr v9) x11 fun p1 => 
  ldX [] gh false 1 (degr p1) fun v2 => isC v2 (stK 0 v0 (stK 0 v2 (stK 0 v9 (isC (degr v2) (lenS (degr (degr v2)) fun n3 => stK 0 v0 (stK 0 v9 (stK 0 v0 (stK 0 v9 (
  br 20 (decide ((IntKind.i64.wrap (x3 + (n3 : Int))) < 0)) (none) (stK 0 v0 (stK 0 v9 (stK 0 v0 (stK 0 v9 (some (.normal, ⟨[(0, v0), (3, (.int .i64 (IntKind.i64.wrap (x3 + (n3 : Int))))), (9, v9), (10, (.int .i64 x10)), (11, (.int .i64 (IntKind.i64.wrap (x11 + 1))))], [], gh⟩)))))))))))))))) (some ((.exit 0), ⟨[(0, v0), (3, (.int .i64 x3)), (9, v9), (10, (.int .i64 x10)), (11, (.int .i64 x11)), (12, (.bool (decide (x11 < x10))))], [], gh⟩))

theorem D_slices_Concat_Lint_int_b1_ok {pg : Prg} {gh : List GObj} {v0 : PV} {x3 : Int} {v9 : PV} {x10 : Int} {x11 : Int} {e : IExit} {s : St} (h : D_slices_Concat_Lint_int_b1 pg v0 x3 v9 x10 x11 gh = some (e, s)) : runL pg f_slices_Concat_Lint_int_b1 ⟨[(0, v0), (3, (.int .i64 x3)), (9, v9), (10, (.int .i64 x10)), (11, (.int .i64 x11))], [], gh⟩ = some (e, s) :=
  runX_ok an_slices_Concat_Lint_int (Eq.trans (by kernel_rfl) h)

noncomputable def D_slices_Concat_Lint_int_b2 (pg : Prg) (v6 : PV) (v25 : PV) (x26 : Int) (x27 : Int) (gh : List GObj) : Option (IExit × St) := 
  br 28 (decide (x27 < x26)) (
  idX 1 none (degr v25) x27 fun p1 => 
  ldX [] gh false 1 (degr p1) fun v2 => isC v2 (stK 0 v6 (stK 0 v2 (stK 0 v25 (isC (degr v2) (
  apX 1 8 v6 (degr (degr v2)) fun l3 => stK 0 v25 (stK 0 v25 (stK 0 v25 (some (.normal, ⟨[(6, (.sl true 1 l3)), (25, v25), (26, (.int .i64 x26)), (27, (.int .i64 (IntKind.i64.wrap (x27 + 1))))], [], gh⟩)))))))))) (some ((.exit 2), ⟨[(6, v6), (25, v25), (26, (.int .i64 x26)), (27, (.int .i64 x27)), (28, (.bool (decide (x27 < x26))))], [], gh⟩))

theorem D_slices_Concat_Lint_int_b2_ok {pg : Prg} {gh : List GObj} {v6 : PV} {v25 : PV} {x26 : Int} {x27 : Int} {e : IExit} {s : St} (h : D_slices_Concat_Lint_int_b2 pg v6 v25 x26 x27 gh = some (e, s)) : runL pg f_slices_Concat_Lint_int_b2 ⟨[(6, v6), (25, v25), (26, (.int .i64 x26)), (27, (.int .i64 x27))], [], gh⟩ = some (e, s) :=
  runX_ok an_slices_Concat_Lint_int (Eq.trans (by kernel_rfl) h)

noncomputable def D_slices_Concat_Lint_int_k2 (pg : Prg) (v6 : PV) (gh : List GObj) : Option (IExit × St) := isC (degr v6) (stK 0 (degr v6) (some (.ret, ⟨[(2, (degr v6))], [], gh⟩)))

theorem D_slices_Concat_Lint_int_k2_ok {pg : Prg} {gh : List GObj} {v6 : PV} {e : IExit} {s : St} (h : D_slices_Concat_Lint_int_k2 pg v6 gh = some (e, s)) : runL pg f_slices_Concat_Lint_int_k2 ⟨[(6, v6)], [], gh⟩ = some (e, s) :=
  runX_ok an_slices_Concat_Lint_int (Eq.trans (by kernel_rfl) h)

noncomputable def D_slices_Concat_Lint_int_k1 (pg : Prg) (v0 : PV) (x3 : Int) (gh : List GObj) : Option (IExit × St) := 
  callR gh true (callL pg 119 [.nils, (.int .i64 x3)] gh) fun r1 gh2 => isC r1 (stK 0 v0 (stK 0 r1 (isC (degr v0) (lenS (degr (degr v0)) fun n3 => stK 0 r1 (stK 0 (degr v0) (
  kR (runL pg f_slices_Concat_Lint_int_l2 ⟨[(6, r1), (25, (degr v0)), (26, (.int .i64 (n3 : Int))), (27, (.int .i64 0))], [], gh2⟩) (fun e s => nx e s (fun e s => some (e, s)) fun s => kR (runL pg f_slices_Concat_Lint_int_k2 s) (fun e s => some (e, s)))))))))

theorem D_slices_Concat_Lint_int_k1_ok {pg : Prg} {gh : List GObj} {v0 : PV} {x3 : Int} {e : IExit} {s : St} (h : D_slices_Concat_Lint_int_k1 pg v0 x3 gh = some (e, s)) : runL pg f_slices_Concat_Lint_int_k1 ⟨[(0, v0), (3, (.int .i64 x3))], [], gh⟩ = some (e, s) :=
  runX_ok an_slices_Concat_Lint_int (Eq.trans (by kernel_rfl) h)

noncomputable def D_slices_Concat_Lint_int_0 (pg : Prg) (v0 : PV) (gh : List GObj) : Option (IExit × St) := stK 0 v0 (isC (degr v0) (lenS (degr (degr v0)) fun n1 => stK 0 v0 (stK 0 (degr v0) (
  kR (runL pg f_slices_Concat_Lint_int_l1 ⟨[(0, v0), (3, (.int .i64 0)), (9, (degr v0)), (10, (.int .i64 (n1 : Int))), (11, (.int .i64 0))], [], gh⟩) (fun e s => nx e s (fun e s => some (e, s)) fun s => kR (runL pg f_slices_Concat_Lint_int_k1 s) (fun e s => some (e, s)))))))

theorem D_slices_Concat_Lint_int_0_ok {pg : Prg} {gh : List GObj} {v0 : PV} {e : IExit} {s : St} (h : D_slices_Concat_Lint_int_0 pg v0 gh = some (e, s)) : runL pg f_slices_Concat_Lint_int_0 ⟨[(0, v0)], [], gh⟩ = some (e, s) :=
  runX_ok an_slices_Concat_Lint_int (Eq.trans (by kernel_rfl) h)

end Go.Lw
end

/-! Models: pairs, marks, and the whole check (the program). -/
section
namespace Go.Lw
open Go

section
variable {m : Md} {gh : List GObj}

/-! ### slices.Concat of two lists -/
theorem Grow1_eq {n : Nat} (h : n * 8 ≤ maxBytes) : callL pg 119 [.nils, I n] gh = some (.sl true 1 [], gh) := by
  have : callL pg 119 [.nils, I n] gh = libGrow 1 8 [.nils, I n] gh := rfl
  rw [this, libGrow, if_pos ⟨by omega, by simpa using h⟩]

theorem Concat_eq {X Y : List PV} (hX : noGs X = true) (hY : noGs Y = true) (h : (X.length + Y.length) * 8 ≤ maxBytes) : callL pg 107 [.sl false 1 [.sl false 1 X, .sl false 1 Y]] gh = some (.sl false 1 (X ++ Y), gh) := by
  have hm : maxBytes = 140737488355328 := rfl
  have w1 : IntKind.i64.wrap (X.length : Int) = X.length := wrap_id (by omega) (by omega)
  have w2 : IntKind.i64.wrap ((X.length : Int) + (Y.length : Int)) = ((X.length + Y.length : Nat) : Int) := by rw [wrap_id (by omega) (by omega)]; omega
  have w3 : IntKind.i64.wrap (0 + 1) = 1 := by decide
  have w5 : IntKind.i64.wrap 2 = 2 := by decide
  have n1 : ¬ ((X.length : Int) < 0) := by omega
  have hl1 : runL pg f_slices_Concat_Lint_int_l1 ⟨[(0, .sl false 1 [.sl false 1 X, .sl false 1 Y]), (3, I 0), (9, .sl false 1 [.sl false 1 X, .sl false 1 Y]), (10, I 2), (11, I 0)], [], gh⟩ =
      some (.normal, ⟨[(0, .sl false 1 [.sl false 1 X, .sl false 1 Y]), (3, I ((X.length + Y.length : Nat) : Int))], [], gh⟩) := by
    refine lp_next (s1 := ⟨[(0, .sl false 1 [.sl false 1 X, .sl false 1 Y]), (3, I X.length), (9, .sl false 1 [.sl false 1 X, .sl false 1 Y]), (10, I 2), (11, I 1)], [], gh⟩) (D_slices_Concat_Lint_int_b1_ok ?_) ?_
    · simp [D_slices_Concat_Lint_int_b1, w1, n1]; exact w3
    refine lp_next (s1 := ⟨[(0, .sl false 1 [.sl false 1 X, .sl false 1 Y]), (3, I ((X.length + Y.length : Nat) : Int)), (9, .sl false 1 [.sl false 1 X, .sl false 1 Y]), (10, I 2), (11, I 2)], [], gh⟩) (D_slices_Concat_Lint_int_b1_ok ?_) ?_
    · simp only [D_slices_Concat_Lint_int_b1]
      have n2' : decide ((X.length : Int) + (Y.length : Int) < 0) = false := decide_eq_false (by omega)
      simp [w2, n2']
      exact w5
    refine (lp_exit (s1 := ?s1) (D_slices_Concat_Lint_int_b1_ok ?h1)).trans ?r1
    case h1 => simp [D_slices_Concat_Lint_int_b1]; rfl
    case r1 => simp [keep, stays]
  have hl2 : runL pg f_slices_Concat_Lint_int_l2 ⟨[(6, .sl true 1 []), (25, .sl false 1 [.sl false 1 X, .sl false 1 Y]), (26, I 2), (27, I 0)], [], gh⟩ = some (.normal, ⟨[(6, .sl true 1 (X ++ Y))], [], gh⟩) := by
    refine lp_next (s1 := ⟨[(6, .sl true 1 X), (25, .sl false 1 [.sl false 1 X, .sl false 1 Y]), (26, I 2), (27, I 1)], [], gh⟩) (D_slices_Concat_Lint_int_b2_ok ?_) ?_
    · have : X.length * 8 ≤ maxBytes := by omega
      simp [D_slices_Concat_Lint_int_b2, this]; exact w3
    refine lp_next (s1 := ⟨[(6, .sl true 1 (X ++ Y)), (25, .sl false 1 [.sl false 1 X, .sl false 1 Y]), (26, I 2), (27, I 2)], [], gh⟩) (D_slices_Concat_Lint_int_b2_ok ?_) ?_
    · simp [D_slices_Concat_Lint_int_b2, h]; exact w5
    refine (lp_exit (s1 := ?s2) (D_slices_Concat_Lint_int_b2_ok ?h2)).trans ?r2
    case h2 => simp [D_slices_Concat_Lint_int_b2]; rfl
    case r2 => simp [keep, stays]
  have hg := Grow1_eq (gh := gh) h
  have k2 := D_slices_Concat_Lint_int_k2_ok (pg := pg) (gh := gh) (v6 := .sl true 1 (X ++ Y)) (e := .ret) (s := ⟨[(2, .sl false 1 (X ++ Y))], [], gh⟩) (by simp [D_slices_Concat_Lint_int_k2])
  have k1 := D_slices_Concat_Lint_int_k1_ok (pg := pg) (gh := gh) (v0 := .sl false 1 [.sl false 1 X, .sl false 1 Y]) (x3 := ((X.length + Y.length : Nat) : Int)) (e := .ret) (s := ⟨[(2, .sl false 1 (X ++ Y))], [], gh⟩) (by
    generalize X.length + Y.length = n at *
    simp [D_slices_Concat_Lint_int_k1, hg, hl2, k2])
  have hn : noGs (X ++ Y) = true := by
    have : ∀ (A B : List PV), noGs A = true → noGs B = true → noGs (A ++ B) = true := by
      intro A B
      induction A with
      | nil => intro _ h; exact h
      | cons a A ih =>
        intro h1 h2
        simp only [noGs_cons, Bool.and_eq_true] at h1
        simp [h1.1, ih h1.2 h2]
    exact this X Y hX hY
  refine callL_fn (fn := f_slices_Concat_Lint_int) (s := ⟨[(2, .sl false 1 (X ++ Y))], [], gh⟩) rfl rfl (D_slices_Concat_Lint_int_0_ok ?h1) ?r1
  case h1 =>
    generalize X.length + Y.length = n at *
    simp [D_slices_Concat_Lint_int_0, hl1, k1]
  case r1 => simp [finish, results, f_slices_Concat_Lint_int, resOk, hn, get]

/-! ### pairs -/
/-- The first that is wrong with pairs. -/
def pairsE (l : List Nd) (f : List Bool) (init : Bool) : List (Int × Int) → Int
  | [] => 0
  | p :: r => if pairE l f init p = 0 then pairsE l f init r else pairE l f init p

theorem ckG_get {f : List Bool} : (ckG gh m f)[gh.length]? = some (.cells [LN m.nodes, LP m.inits, LP m.nexts, LI m.bads, LI m.holds, .sl true 1 (f.map B)]) := by simp [ckG]

abbrev twoL (m : Md) : PV := .sl true 1 [LP m.inits, LP m.nexts]

def pr2St (m : Md) (f : List Bool) (ps : List (Int × Int)) (k j : Nat) (gh : List GObj) : St :=
  ⟨[(0, .ptr true gh.length 0), (3, I (k : Int)), (23, twoL m), (24, I 2), (25, I (k : Int)), (30, LP ps), (31, I ps.length), (32, I (j : Int))], [], ckG gh m f⟩

theorem pairs_loop2 {f : List Bool} {ps : List (Int × Int)} {k : Nat} (hf : f.length = m.nodes.length) (hs : Sz ps.length) : ∀ n j, j + n = ps.length →
    runL pg f_model_checker_pairs_l2 (pr2St m f ps k j gh) = if pairsE m.nodes f (decide (k = 0)) (ps.drop j) = 0 then some (.normal, ⟨[(0, .ptr true gh.length 0), (23, twoL m), (24, I 2), (25, I (k : Int))], [], ckG gh m f⟩)
      else some (.ret, ⟨[(2, I (pairsE m.nodes f (decide (k = 0)) (ps.drop j)))], [], ckG gh m f⟩)
  | 0, j, h => by
    rw [List.drop_eq_nil_of_le (by omega), pairsE, if_pos rfl]
    have hlt : ¬ (j : Int) < (ps.length : Int) := by omega
    refine (lp_exit (s1 := ?s1) (D_model_checker_pairs_b2_ok ?h1)).trans ?r1
    case h1 => simp only [D_model_checker_pairs_b2, decide_eq_false hlt, br_false]; rfl
    case r1 => simp [keep, stays]
  | n + 1, j, h => by
    have hlt : j < ps.length := by omega
    have hltI : (j : Int) < (ps.length : Int) := by omega
    have e2 : IntKind.i64.wrap ((j : Int) + 1) = ((j + 1 : Nat) : Int) := wrap_nat (by simp only [Sz] at hs ⊢; omega)
    have hx : (ps.map andV)[j]? = some (andV ps[j]) := by simp [List.getElem?_eq_getElem hlt]
    rw [andV_def] at hx
    have hp := pair_eq (m := m) (f := f) (init := decide (k = 0)) (p := ps[j]) hf (ckG_get (gh := gh))
    rw [andV_def] at hp
    rw [List.drop_eq_getElem_cons hlt, pairsE]
    generalize ps[j] = p at *
    obtain ⟨a, b⟩ := p
    simp only at hx hp
    have hk0 : ((k : Int) == 0) = decide (k = 0) := by
      rw [beqI]; exact decide_eq_decide.2 (by omega)
    obtain ⟨ini, hini⟩ : ∃ ini, decide (k = 0) = ini := ⟨_, rfl⟩
    rw [hini] at hk0 hp ⊢
    by_cases he : pairE m.nodes f ini (a, b) = 0
    · rw [if_pos he]
      rw [he] at hp
      refine lp_next (s1 := pr2St m f ps k (j + 1) gh) (D_model_checker_pairs_b2_ok ?_) ?_
      · unfold pr2St
        generalize ckG gh m f = g0 at *
        simp only [D_model_checker_pairs_b2, hk0]
        simp [hltI, hx, hp, e2, -List.getElem?_map]
      · rw [← hini]
        exact pairs_loop2 hf hs n (j + 1) (by omega)
    · rw [if_neg he, if_neg he]
      refine lp_ret (D_model_checker_pairs_b2_ok ?_)
      generalize ckG gh m f = g0 at *
      simp only [D_model_checker_pairs_b2, hk0]
      simp [hltI, hx, hp, he, -List.getElem?_map]

end
end Go.Lw
end

/-! Models: pairs that name a state twice, and marks (the program). -/
section
namespace Go.Lw
open Go

/-! ### maps from numbers to yes -/
def mapB (l : List Int) : List (PV × PV) := l.map fun a => (I a, B true)
def insL (l : List Int) (k : Int) : List Int := if k ∈ l then l else l ++ [k]

theorem mset_mapB (l : List Int) (k : Int) : mset 0 (mapB l) (I k) (B true) = some (mapB (insL l k)) := by
  induction l with
  | nil => rfl
  | cons a l ih =>
    by_cases h : k = a
    · simp [mapB, insL, mset, sameKey, h]
    · have ih' : mset 0 (l.map fun a => (I a, B true)) (I k) (B true) = some (mapB (insL l k)) := ih
      by_cases h2 : k ∈ l
      · simp [mapB, insL, mset, sameKey, beq_false_of_ne h, h, h2] at ih' ⊢
        exact ih'
      · simp [mapB, insL, mset, sameKey, beq_false_of_ne h, h, h2] at ih' ⊢
        exact ih'

def insA (l : List Int) (xs : List Int) : List Int := xs.foldl insL l

theorem insL_len (l : List Int) (k : Int) : (insL l k).length = if k ∈ l then l.length else l.length + 1 := by
  unfold insL; split <;> simp

theorem insL_mem {l : List Int} {k a : Int} : a ∈ insL l k ↔ a ∈ l ∨ a = k := by
  unfold insL; split
  · rename_i h
    exact ⟨.inl, fun h2 => h2.elim id fun e => e ▸ h⟩
  · simp

theorem insA_len : ∀ (xs l : List Int), (insA l xs).length ≤ l.length + xs.length ∧ ((insA l xs).length = l.length + xs.length ↔ (xs.Nodup ∧ ∀ a ∈ xs, a ∉ l))
  | [], l => by simp [insA]
  | x :: xs, l => by
    have ih := insA_len xs (insL l x)
    have e : insA l (x :: xs) = insA (insL l x) xs := rfl
    rw [e]
    have hl := insL_len l x
    by_cases h : x ∈ l
    · rw [if_pos h] at hl
      rw [hl] at ih
      refine ⟨by simp; omega, ⟨fun he => by simp at he; omega, fun ⟨_, h2⟩ => absurd h (h2 x (by simp))⟩⟩
    · rw [if_neg h] at hl
      rw [hl] at ih
      refine ⟨by simp; omega, ?_⟩
      have e2 : (x :: xs).length = xs.length + 1 := rfl
      rw [e2, show l.length + (xs.length + 1) = l.length + 1 + xs.length by omega, ih.2]
      simp only [List.nodup_cons, List.mem_cons, insL_mem]
      constructor
      · rintro ⟨h1, h2⟩
        refine ⟨⟨fun hx => (h2 x hx) (.inr rfl), h1⟩, ?_⟩
        rintro a (rfl | ha)
        · exact h
        · exact fun hal => h2 a ha (.inl hal)
      · rintro ⟨⟨h1, h2⟩, h3⟩
        refine ⟨h2, fun a ha => ?_⟩
        rintro (h4 | rfl)
        · exact h3 a (.inr ha) h4
        · exact h1 ha

/-- Do pairs name a state twice? -/
def twice (ps : List (Int × Int)) : Prop := ¬ (ps.map (·.1)).Nodup
instance (ps : List (Int × Int)) : Decidable (twice ps) := by unfold twice; exact inferInstance

theorem twice_len (ps : List (Int × Int)) : ((insA [] (ps.map (·.1))).length < ps.length) ↔ twice ps := by
  have := insA_len (ps.map (·.1)) []
  simp at this
  unfold twice
  rw [← this.2]
  omega

section
variable {m : Md} {gh : List GObj}

theorem pairs_loop4 {ps : List (Int × Int)} {k : Nat} (hs : Sz ps.length) : ∀ n j (acc : List Int), j + n = ps.length →
    runL pg f_model_checker_pairs_l4 ⟨[(9, LP ps), (10, .mp gh.length), (56, twoL m), (57, I 2), (58, I (k : Int)), (63, LP ps), (64, I ps.length), (65, I (j : Int))], [], gh ++ [.map (mapB acc)]⟩ =
      some (.normal, ⟨[(9, LP ps), (10, .mp gh.length), (56, twoL m), (57, I 2), (58, I (k : Int))], [], gh ++ [.map (mapB (insA acc ((ps.drop j).map (·.1))))]⟩)
  | 0, j, acc, h => by
    rw [List.drop_eq_nil_of_le (by omega)]
    have hlt : ¬ (j : Int) < (ps.length : Int) := by omega
    refine (lp_exit (s1 := ?s1) (D_model_checker_pairs_b4_ok ?h1)).trans ?r1
    case h1 => simp only [D_model_checker_pairs_b4, decide_eq_false hlt, br_false]; rfl
    case r1 => simp [keep, stays, insA]
  | n + 1, j, acc, h => by
    have hlt : j < ps.length := by omega
    have hltI : (j : Int) < (ps.length : Int) := by omega
    have e2 : IntKind.i64.wrap ((j : Int) + 1) = ((j + 1 : Nat) : Int) := wrap_nat (by simp only [Sz] at hs ⊢; omega)
    have hx : (ps.map andV)[j]? = some (andV ps[j]) := by simp [List.getElem?_eq_getElem hlt]
    rw [andV_def] at hx
    rw [List.drop_eq_getElem_cons hlt]
    generalize ps[j] = p at *
    obtain ⟨a, b⟩ := p
    simp only [List.map_cons] at hx ⊢
    have hin : insA acc (a :: (ps.drop (j + 1)).map (·.1)) = insA (insL acc a) ((ps.drop (j + 1)).map (·.1)) := rfl
    rw [hin]
    have hm := mset_mapB acc a
    refine lp_next (s1 := ⟨[(9, LP ps), (10, .mp gh.length), (56, twoL m), (57, I 2), (58, I (k : Int)), (63, LP ps), (64, I ps.length), (65, I ((j + 1 : Nat) : Int))], [], gh ++ [GObj.map (mapB (insL acc a))]⟩) (D_model_checker_pairs_b4_ok ?_) (pairs_loop4 (k := k) hs n (j + 1) (insL acc a) (by omega))
    simp [D_model_checker_pairs_b4, hltI, hx, e2, hm, -List.getElem?_map]

theorem pairs_b3 {ps : List (Int × Int)} {k : Nat} (hk : (k = 0 ∧ ps = m.inits) ∨ (k = 1 ∧ ps = m.nexts)) (hs : Sz ps.length) :
    runL pg f_model_checker_pairs_b3 ⟨[(56, twoL m), (57, I 2), (58, I (k : Int))], [], gh⟩ =
      if twice ps then some (.ret, ⟨[(2, I 6)], [], gh ++ [.map (mapB (insA [] (ps.map (·.1))))]⟩)
      else some (.normal, ⟨[(56, twoL m), (57, I 2), (58, I ((k + 1 : Nat) : Int))], [], gh ++ [.map (mapB (insA [] (ps.map (·.1))))]⟩) := by
  have h4 := pairs_loop4 (m := m) (gh := gh) (k := k) hs ps.length 0 [] (by omega)
  rw [List.drop_zero] at h4
  simp only [Int.natCast_zero] at h4
  have hml : ∀ l, (mapB l).length = l.length := fun l => by simp [mapB]
  have hlt : decide (((insA [] (ps.map (·.1))).length : Int) < (ps.length : Int)) = decide (twice ps) := by
    have := twice_len ps
    exact decide_eq_decide.2 (by rw [← this]; omega)
  have hltN : decide ((insA [] (ps.map (·.1))).length < ps.length) = decide (twice ps) := decide_eq_decide.2 (twice_len ps)
  have hmb : mapB [] = [] := rfl
  rw [hmb] at h4
  have e2 : IntKind.i64.wrap ((k : Int) + 1) = ((k + 1 : Nat) : Int) := by rcases hk with ⟨rfl, _⟩ | ⟨rfl, _⟩ <;> decide
  have hix : ([LP m.inits, LP m.nexts] : List PV)[k]? = some (LP ps) := by rcases hk with ⟨rfl, rfl⟩ | ⟨rfl, rfl⟩ <;> rfl
  have hk2 : (k : Int) < 2 := by omega
  generalize hA : insA [] (ps.map (·.1)) = A at *
  have k3 := D_model_checker_pairs_k3_ok (pg := pg) (gh := gh ++ [.map (mapB A)]) (v9 := LP ps) (v10 := .mp gh.length) (v56 := twoL m) (x57 := 2) (x58 := k)
    (e := if twice ps then .ret else .normal) (s := if twice ps then ⟨[(2, I 6)], [], gh ++ [.map (mapB A)]⟩ else ⟨[(56, twoL m), (57, I 2), (58, I (k : Int)), (77, B false)], [], gh ++ [.map (mapB A)]⟩)
    (by
      simp [D_model_checker_pairs_k3, hml, hltN]
      by_cases ht : twice ps <;> simp [ht])
  have k4 := D_model_checker_pairs_k4_ok (pg := pg) (gh := gh ++ [.map (mapB A)]) (v56 := twoL m) (x57 := 2) (x58 := k) (b77 := false) (e := .normal) (s := ⟨[(56, twoL m), (57, I 2), (58, I ((k + 1 : Nat) : Int))], [], gh ++ [.map (mapB A)]⟩) (by simp [D_model_checker_pairs_k4, e2])
  by_cases ht : twice ps
  · rw [if_pos ht] at k3 ⊢
    rw [if_pos ht] at k3
    refine D_model_checker_pairs_b3_ok ?_
    simp [D_model_checker_pairs_b3, hk2, hix, h4, k3]
  · rw [if_neg ht] at k3 ⊢
    rw [if_neg ht] at k3
    refine D_model_checker_pairs_b3_ok ?_
    simp [D_model_checker_pairs_b3, hk2, hix, h4, k3, k4]

end
end Go.Lw
end

/-! Models: all pairs, marks, and the whole check (the program). -/
section
namespace Go.Lw
open Go

/-- What is wrong with the pairs of a model. -/
def pairsAll (m : Md) (f : List Bool) : Int :=
  if pairsE m.nodes f true m.inits ≠ 0 then pairsE m.nodes f true m.inits else if pairsE m.nodes f false m.nexts ≠ 0 then pairsE m.nodes f false m.nexts
  else if twice m.inits ∨ twice m.nexts then 6 else 0

section
variable {m : Md} {gh : List GObj}

theorem pairs_l1 {f : List Bool} (hf : f.length = m.nodes.length) (h1 : Sz m.inits.length) (h2 : Sz m.nexts.length) :
    runL pg f_model_checker_pairs_l1 ⟨[(0, .ptr true gh.length 0), (23, twoL m), (24, I 2), (25, I 0)], [], ckG gh m f⟩ =
      if pairsE m.nodes f true m.inits ≠ 0 then some (.ret, ⟨[(2, I (pairsE m.nodes f true m.inits))], [], ckG gh m f⟩)
      else if pairsE m.nodes f false m.nexts ≠ 0 then some (.ret, ⟨[(2, I (pairsE m.nodes f false m.nexts))], [], ckG gh m f⟩)
      else some (.normal, ⟨[(0, .ptr true gh.length 0)], [], ckG gh m f⟩) := by
  have l1 := pairs_loop2 (gh := gh) (m := m) (ps := m.inits) (k := 0) hf h1 m.inits.length 0 (by omega)
  have l2 := pairs_loop2 (gh := gh) (m := m) (ps := m.nexts) (k := 1) hf h2 m.nexts.length 0 (by omega)
  rw [List.drop_zero] at l1 l2
  unfold pr2St at l1 l2
  simp only [Int.natCast_zero, decide_true] at l1 l2
  rw [show decide (1 = 0) = false from rfl] at l2
  simp only [Int.natCast_one] at l1 l2
  have w1 : IntKind.i64.wrap (0 + 1) = 1 := by decide
  have w2 : IntKind.i64.wrap (1 + 1) = 2 := by decide
  have k1 : ∀ x, runL pg f_model_checker_pairs_k1 ⟨[(0, .ptr true gh.length 0), (23, twoL m), (24, I 2), (25, I x)], [], ckG gh m f⟩ = some (.normal, ⟨[(0, .ptr true gh.length 0), (23, twoL m), (24, I 2), (25, I (IntKind.i64.wrap (x + 1)))], [], ckG gh m f⟩) := fun x => by
    refine D_model_checker_pairs_k1_ok ?_
    simp [D_model_checker_pairs_k1]
  generalize ckG gh m f = g0 at *
  by_cases e1 : pairsE m.nodes f true m.inits = 0
  · rw [if_pos e1] at l1
    rw [if_neg (fun h => h e1)]
    have k10 := k1 0
    rw [w1] at k10
    refine lp_next (s1 := ⟨[(0, .ptr true gh.length 0), (23, twoL m), (24, I 2), (25, I 1)], [], g0⟩) (D_model_checker_pairs_b1_ok (by simp [D_model_checker_pairs_b1, l1, k10])) ?_
    by_cases e2 : pairsE m.nodes f false m.nexts = 0
    · rw [if_pos e2] at l2
      rw [if_neg (fun h => h e2)]
      have k11 := k1 1
      rw [w2] at k11
      refine lp_next (s1 := ⟨[(0, .ptr true gh.length 0), (23, twoL m), (24, I 2), (25, I 2)], [], g0⟩) (D_model_checker_pairs_b1_ok (by simp [D_model_checker_pairs_b1, l2, k11])) ?_
      refine (lp_exit (s1 := ?s1) (D_model_checker_pairs_b1_ok ?h1)).trans ?r1
      case h1 => simp [D_model_checker_pairs_b1]; rfl
      case r1 => simp [keep, stays]
    · rw [if_neg e2] at l2
      rw [if_pos e2]
      refine lp_ret (D_model_checker_pairs_b1_ok ?_)
      simp [D_model_checker_pairs_b1, l2]
  · rw [if_neg e1] at l1
    rw [if_pos e1]
    refine lp_ret (D_model_checker_pairs_b1_ok ?_)
    simp [D_model_checker_pairs_b1, l1]

theorem pairs_l3 (h1 : Sz m.inits.length) (h2 : Sz m.nexts.length) : ∃ g2,
    runL pg f_model_checker_pairs_l3 ⟨[(56, twoL m), (57, I 2), (58, I 0)], [], gh⟩ =
      if twice m.inits ∨ twice m.nexts then some (.ret, ⟨[(2, I 6)], [], gh ++ g2⟩) else some (.normal, ⟨[], [], gh ++ g2⟩) := by
  have b1 := pairs_b3 (gh := gh) (m := m) (ps := m.inits) (k := 0) (.inl ⟨rfl, rfl⟩) h1
  have b2 := fun g => pairs_b3 (gh := g) (m := m) (ps := m.nexts) (k := 1) (.inr ⟨rfl, rfl⟩) h2
  simp only [Int.natCast_zero, Int.natCast_one, Nat.zero_add, show ((1 + 1 : Nat) : Int) = 2 from rfl] at b1 b2
  generalize insA [] (m.inits.map (·.1)) = A at *
  generalize insA [] (m.nexts.map (·.1)) = B at *
  by_cases t1 : twice m.inits
  · rw [if_pos t1] at b1
    exact ⟨_, by rw [if_pos (.inl t1)]; exact lp_ret b1⟩
  · rw [if_neg t1] at b1
    have b2 := b2 (gh ++ [.map (mapB A)])
    by_cases t2 : twice m.nexts
    · rw [if_pos t2] at b2
      refine ⟨[.map (mapB A)] ++ [.map (mapB B)], ?_⟩
      rw [if_pos (.inr t2), ← List.append_assoc]
      exact lp_next b1 (lp_ret b2)
    · rw [if_neg t2] at b2
      refine ⟨[.map (mapB A)] ++ [.map (mapB B)], ?_⟩
      rw [if_neg (by rintro (h | h) <;> contradiction), ← List.append_assoc]
      refine lp_next b1 (lp_next b2 ((lp_exit (s1 := ?s1) (D_model_checker_pairs_b3_ok ?h1)).trans ?r1))
      case h1 => simp [D_model_checker_pairs_b3]; rfl
      case r1 => simp [keep]

theorem pairs_eq {f : List Bool} (hf : f.length = m.nodes.length) (h1 : Sz m.inits.length) (h2 : Sz m.nexts.length) :
    callL pg 79 [.ptr true gh.length 0] (ckG gh m f) = some (I (pairsAll m f), ckG gh m f) := by
  have l1 := pairs_l1 (gh := gh) hf h1 h2
  obtain ⟨g2, l3⟩ := pairs_l3 (m := m) (gh := ckG gh m f) h1 h2
  have hg := ckG_get (gh := gh) (m := m) (f := f)
  unfold pairsAll
  have k5 : ∀ g, runL pg f_model_checker_pairs_k5 ⟨[], [], g⟩ = some (.ret, ⟨[(2, I 0)], [], g⟩) := fun g => D_model_checker_pairs_k5_ok rfl
  have k2 : runL pg f_model_checker_pairs_k2 ⟨[(0, .ptr true gh.length 0)], [], ckG gh m f⟩ = some (.ret, ⟨[(2, I (if twice m.inits ∨ twice m.nexts then 6 else 0))], [], ckG gh m f ++ g2⟩) := by
    refine D_model_checker_pairs_k2_ok ?_
    generalize ckG gh m f = g0 at *
    have k5 := k5 (g0 ++ g2)
    by_cases t : twice m.inits ∨ twice m.nexts
    · rw [if_pos t] at l3
      simp [D_model_checker_pairs_k2, hg, l3, t]
    · rw [if_neg t] at l3
      simp [D_model_checker_pairs_k2, hg, l3, t, k5]
  generalize (if twice m.inits ∨ twice m.nexts then (6 : Int) else 0) = r at *
  generalize ckG gh m f = g0 at *
  by_cases e1 : pairsE m.nodes f true m.inits = 0
  · rw [if_neg (fun h => h e1)] at l1 ⊢
    by_cases e2 : pairsE m.nodes f false m.nexts = 0
    · rw [if_neg (fun h => h e2)] at l1 ⊢
      refine callL_fn (fn := f_model_checker_pairs) (s := ?s1) rfl rfl (D_model_checker_pairs_0_ok ?h1) ?r1
      case h1 => simp [D_model_checker_pairs_0, hg, l1, k2]; rfl
      case r1 => simp [finish, results, f_model_checker_pairs, resOfs, resOf, resOk]
    · rw [if_pos e2] at l1 ⊢
      refine callL_fn (fn := f_model_checker_pairs) (s := ?s2) rfl rfl (D_model_checker_pairs_0_ok ?h2) ?r2
      case h2 => simp [D_model_checker_pairs_0, hg, l1]; rfl
      case r2 => simp [finish, results, f_model_checker_pairs, resOfs, resOf, resOk]
  · rw [if_pos e1] at l1 ⊢
    refine callL_fn (fn := f_model_checker_pairs) (s := ?s3) rfl rfl (D_model_checker_pairs_0_ok ?h3) ?r3
    case h3 => simp [D_model_checker_pairs_0, hg, l1]; rfl
    case r3 => simp [finish, results, f_model_checker_pairs, resOfs, resOf, resOk]

/-! ### marks -/
/-- What is wrong with the marks of a model. -/
def marksE (m : Md) : Int :=
  if m.nexts.length < (kindL m.nodes 3).length then 5 else if (m.bads ++ m.holds).any (fun a => !decide (isNo m.nodes a)) then 5
  else if (m.bads ++ m.holds).any (fun a => !decide (wAt m.nodes a = 1)) then 1 else 0

theorem marks1_eq {f : List Bool} {n : Int} {g : List GObj} {b c : Nat} (hb : g[b]? = some (.cells [LN m.nodes, LP m.inits, LP m.nexts, LI m.bads, LI m.holds, .sl true 1 (f.map B)])) (hc : g[c]? = some (.cells [.ptr true b 0])) :
    callL pg 108 [I n, .ptr true c 0] g = some (B (!decide (isNo m.nodes n)), g) := by
  have i1 := is_eq (n := n) hb
  generalize decide (isNo m.nodes n) = d at *
  refine callL_fn (fn := f_model_checker_marks_1) (s := ?s1) rfl rfl (D_model_checker_marks_1_0_ok ?h1) ?r1
  case h1 => simp [D_model_checker_marks_1_0, hc, i1]; rfl
  case r1 => simp [finish, results, f_model_checker_marks_1, resOfs, resOf, resOk]

theorem marks2_eq {f : List Bool} {n : Int} {g : List GObj} {b c : Nat} (hb : g[b]? = some (.cells [LN m.nodes, LP m.inits, LP m.nexts, LI m.bads, LI m.holds, .sl true 1 (f.map B)])) (hc : g[c]? = some (.cells [.ptr true b 0])) (hn : isNo m.nodes n) :
    callL pg 109 [I n, .ptr true c 0] g = some (B (!decide (wAt m.nodes n = 1)), g) := by
  have n1 := node_at hn
  have h0 := hn.1
  unfold wAt
  generalize m.nodes.getD n.toNat default = d1 at *
  rw [nodeV_def d1] at n1
  refine callL_fn (fn := f_model_checker_marks_2) (s := ?s1) rfl rfl (D_model_checker_marks_2_0_ok ?h1) ?r1
  case h1 => simp [D_model_checker_marks_2_0, hb, hc, h0, n1, -List.getElem?_map]; rfl
  case r1 => simp [finish, results, f_model_checker_marks_2, resOfs, resOf, resOk]

theorem marks_eq {f : List Bool} (hl : m.nodes.length ≤ 1000) (h1 : m.bads.length ≤ 100) (h2 : m.holds.length ≤ 100) :
    callL pg 80 [.ptr true gh.length 0] (ckG gh m f) = some (I (marksE m), ckG gh m f) := by
  have hg := ckG_get (gh := gh) (m := m) (f := f)
  have hlen : (ckG gh m f).length = gh.length + 1 := by simp [ckG]
  generalize ckG gh m f = g0 at *
  obtain ⟨g1, hg1⟩ : ∃ g1, g1 = g0 ++ [GObj.cells [.ptr true gh.length 0]] := ⟨_, rfl⟩
  have htk : g1.take g0.length = g0 := by rw [hg1]; simp
  have hb : g1[gh.length]? = some (.cells [LN m.nodes, LP m.inits, LP m.nexts, LI m.bads, LI m.holds, .sl true 1 (f.map B)]) := by
    rw [hg1, List.getElem?_append_left (by omega)]; exact hg
  have hc : g1[g0.length]? = some (.cells [.ptr true gh.length 0]) := by rw [hg1]; simp
  have ho := Ofk_eq (m := m) (gh := g1) (kind := 3) hl
  rw [modelV_def] at ho
  have hmx : ((m.bads.map I).length + (m.holds.map I).length) * 8 ≤ maxBytes := by
    have : maxBytes = 140737488355328 := rfl
    simp; omega
  have hsz : Sz (m.bads ++ m.holds).length := by simp only [Sz, List.length_append]; omega
  have hcc := Concat_eq (gh := g1) (X := m.bads.map I) (Y := m.holds.map I) (noGs_ints _) (noGs_ints _) hmx
  rw [← List.map_append] at hcc
  have c1 := ContainsFunc_eq (xs := m.bads ++ m.holds) (c := 108) (caps := [.ptr true g0.length 0]) (gh := g1) (fun x _ => marks1_eq (n := x) hb hc) rfl hsz
  have c2 : (∀ a ∈ m.bads ++ m.holds, isNo m.nodes a) → _ := fun hn => ContainsFunc_eq (xs := m.bads ++ m.holds) (c := 109) (caps := [.ptr true g0.length 0]) (gh := g1) (fun x hx => marks2_eq hb hc (hn x hx)) rfl hsz
  have hnb : (m.bads ++ m.holds).any (fun a => !decide (isNo m.nodes a)) = false → ∀ a ∈ m.bads ++ m.holds, isNo m.nodes a := fun h a ha => by
    have := List.any_eq_false.1 h a ha
    simpa using this
  unfold marksE
  generalize (m.bads ++ m.holds).any (fun a => !decide (isNo m.nodes a)) = p1 at *
  generalize (m.bads ++ m.holds).any (fun a => !decide (wAt m.nodes a = 1)) = p2 at *
  generalize hK : kindL m.nodes 3 = K at *
  have hKl : (K.map I).length = K.length := by simp
  have hXl : (m.nexts.map andV).length = m.nexts.length := by simp
  simp only [LI] at *
  generalize (m.bads ++ m.holds).map I = M at *
  generalize m.bads.map I = M1 at *
  generalize m.holds.map I = M2 at *
  generalize K.map I = K' at *
  generalize m.nexts.map andV = X' at *
  by_cases e1 : m.nexts.length < K.length
  · rw [if_pos e1]
    refine callL_fn (fn := f_model_checker_marks) (s := ⟨[(2, I 5)], [], g1⟩) rfl rfl (D_model_checker_marks_0_ok ?h1) ?r1
    case h1 => simp only [D_model_checker_marks_0]; rw [← hg1]; simp [hb, hc, ho, hKl, e1]
    case r1 => simp [finish, results, f_model_checker_marks, resOfs, resOf, resOk, htk]
  · rw [if_neg e1]
    cases p1 with
    | true =>
      rw [if_pos rfl]
      refine callL_fn (fn := f_model_checker_marks) (s := ⟨[(2, I 5)], [], g1⟩) rfl rfl (D_model_checker_marks_0_ok ?h2) ?r2
      case h2 => simp only [D_model_checker_marks_0]; rw [← hg1]; simp [hb, hc, ho, hKl, e1, hcc, c1]
      case r2 => simp [finish, results, f_model_checker_marks, resOfs, resOf, resOk, htk]
    | false =>
      rw [if_neg (by simp)]
      have c2 := c2 (hnb rfl)
      cases p2 with
      | true =>
        rw [if_pos rfl]
        refine callL_fn (fn := f_model_checker_marks) (s := ⟨[(2, I 1)], [], g1⟩) rfl rfl (D_model_checker_marks_0_ok ?h3) ?r3
        case h3 => simp only [D_model_checker_marks_0]; rw [← hg1]; simp [hb, hc, ho, hKl, e1, hcc, c1, c2]
        case r3 => simp [finish, results, f_model_checker_marks, resOfs, resOf, resOk, htk]
      | false =>
        rw [if_neg (by simp)]
        refine callL_fn (fn := f_model_checker_marks) (s := ⟨[(2, I 0)], [], g1⟩) rfl rfl (D_model_checker_marks_0_ok ?h4) ?r4
        case h4 => simp only [D_model_checker_marks_0]; rw [← hg1]; simp [hb, hc, ho, hKl, e1, hcc, c1, c2]
        case r4 => simp [finish, results, f_model_checker_marks, resOfs, resOf, resOk, htk]

/-! ### the whole check -/
/-- What is wrong with the nodes, from number i on. -/
def nodesE (L : List Nd) : Nat → List Nd → Int
  | _, [] => 0
  | i, x :: l => if nodeE L i x = 0 then nodesE L (i + 1) l else nodeE L i x

def checkE (m : Md) : Int :=
  if m.nodes.length > 80 ∨ m.bads.length > 8 ∨ m.holds.length > 8 then 2
  else if nodesE m.nodes 0 m.nodes ≠ 0 then nodesE m.nodes 0 m.nodes
  else if bitsK m.nodes 2 > 6 ∨ bitsK m.nodes 3 > 10 then 2
  else if pairsAll m (hangF [] m.nodes) ≠ 0 then pairsAll m (hangF [] m.nodes) else marksE m

theorem nodesE_zero {L : List Nd} : ∀ {i : Nat} {l : List Nd}, nodesE L i l = 0 → ∀ j x, l[j]? = some x → nodeE L ((i + j : Nat) : Int) x = 0
  | i, y :: l, h, 0, x, hx => by
    rw [nodesE] at h
    simp at hx
    subst hx
    split at h
    · assumption
    · contradiction
  | i, y :: l, h, j + 1, x, hx => by
    rw [nodesE] at h
    split at h
    · have := nodesE_zero h j x (by simpa using hx)
      rw [show i + (j + 1) = i + 1 + j by omega]; exact this
    · contradiction

theorem ahead_of {L : List Nd} (h : nodesE L 0 L = 0) : Ahead L := by
  intro i x hx a ha
  have h0 := nodesE_zero h i x hx
  rw [Nat.zero_add] at h0
  unfold nodeE at h0
  split at h0
  · omega
  rename_i hk
  split at h0
  · omega
  split at h0
  · rename_i hk3
    unfold argsL at ha
    rw [takes_leaf ⟨by omega, hk3⟩] at ha
    simp at ha
  split at h0
  · omega
  rename_i hb
  unfold badArgs badJ at hb
  simp only [not_or] at hb
  obtain ⟨b0, b1, b2⟩ := hb
  unfold argsL at ha
  rcases takes_cases x.k with ht | ht | ht | ht <;> rw [ht] at ha b0 b1 b2 <;> simp at ha b0 b1 b2
  · subst ha; exact ⟨by omega, by omega⟩
  · rcases ha with rfl | rfl <;> exact ⟨by omega, by omega⟩
  · rcases ha with rfl | rfl | rfl <;> exact ⟨by omega, by omega⟩

theorem MCheck_loop (hl : m.nodes.length ≤ 1000) : ∀ k i, i + k = m.nodes.length →
    runL pg f_model_Check_l1 ⟨[(1, .ptr false 0 0), (27, I m.nodes.length), (28, I (i : Int))], [[LN m.nodes, LP m.inits, LP m.nexts, LI m.bads, LI m.holds]], gh⟩ =
      if nodesE m.nodes i (m.nodes.drop i) = 0 then some (.normal, ⟨[(1, .ptr false 0 0)], [[LN m.nodes, LP m.inits, LP m.nexts, LI m.bads, LI m.holds]], gh⟩)
      else some (.ret, ⟨[(2, I (nodesE m.nodes i (m.nodes.drop i)))], [], gh⟩)
  | 0, i, h => by
    rw [List.drop_eq_nil_of_le (by omega), nodesE, if_pos rfl]
    have hlt : ¬ (i : Int) < (m.nodes.length : Int) := by omega
    refine (lp_exit (s1 := ?s1) (D_model_Check_b1_ok ?h1)).trans ?r1
    case h1 => simp only [D_model_Check_b1, decide_eq_false hlt, br_false]; rfl
    case r1 => simp [keep, stays]
  | k + 1, i, h => by
    have hlt : i < m.nodes.length := by omega
    have hltI : (i : Int) < (m.nodes.length : Int) := by omega
    have e2 : IntKind.i64.wrap ((i : Int) + 1) = ((i + 1 : Nat) : Int) := by rw [wrap_id (by omega) (by omega)]; omega
    have hn := node_eq (l := m.nodes) (gh := gh) (idx := i) (List.getElem?_eq_getElem hlt)
    rw [List.drop_eq_getElem_cons hlt, nodesE]
    generalize nodeE m.nodes (i : Int) m.nodes[i] = r at *
    by_cases he : r = 0
    · rw [if_pos he]
      refine lp_next (s1 := ⟨[(1, .ptr false 0 0), (27, I m.nodes.length), (28, I ((i + 1 : Nat) : Int))], [[LN m.nodes, LP m.inits, LP m.nexts, LI m.bads, LI m.holds]], gh⟩) (D_model_Check_b1_ok ?_) (MCheck_loop hl k (i + 1) (by omega))
      simp [D_model_Check_b1, hltI, hn, he, e2]
    · rw [if_neg he, if_neg he]
      refine lp_ret (D_model_Check_b1_ok ?_)
      simp [D_model_Check_b1, hltI, hn, he]

theorem MCheck_eq (h1 : Sz m.inits.length) (h2 : Sz m.nexts.length) : callL pg 38 [modelV m] gh = some (I (checkE m), gh) := by
  unfold checkE
  have hNl : (m.nodes.map nodeV).length = m.nodes.length := by simp
  have hBl : (m.bads.map I).length = m.bads.length := by simp
  have hHl : (m.holds.map I).length = m.holds.length := by simp
  rw [modelV_def]
  by_cases c1 : m.nodes.length > 80 ∨ m.bads.length > 8 ∨ m.holds.length > 8
  · rw [if_pos c1]
    refine callL_fn (fn := f_model_Check) (s := ⟨[(2, I 2)], [], gh⟩) rfl rfl (D_model_Check_0_ok ?h1) ?r1
    case r1 => simp [finish, results, f_model_Check, resOfs, resOf, resOk]
    case h1 =>
      by_cases d1 : (80 : Int) < (m.nodes.length : Int)
      · simp [D_model_Check_0, d1]
      · by_cases d2 : (8 : Int) < (m.bads.length : Int)
        · simp [D_model_Check_0, d1, d2]
        · have d3 : (8 : Int) < (m.holds.length : Int) := by omega
          simp [D_model_Check_0, d1, d2, d3]
  · rw [if_neg c1]
    have d1 : ¬ (80 : Int) < (m.nodes.length : Int) := by omega
    have d2 : ¬ (8 : Int) < (m.bads.length : Int) := by omega
    have d3 : ¬ (8 : Int) < (m.holds.length : Int) := by omega
    have hl := MCheck_loop (m := m) (gh := gh) (by omega) m.nodes.length 0 (by omega)
    rw [List.drop_zero] at hl
    simp only [Int.natCast_zero] at hl
    by_cases hn : nodesE m.nodes 0 m.nodes = 0
    · rw [if_neg (fun h => h hn)]
      rw [if_pos hn] at hl
      have hb := Bits_eq (m := m) (gh := gh) (by omega)
      rw [modelV_def] at hb
      have hlen := lean_eq (m := m) (gh := gh) (ahead_of hn) (by omega)
      have hf : (hangF [] m.nodes).length = m.nodes.length := by simpa using hangF_len [] m.nodes
      have hp := pairs_eq (gh := gh) hf h1 h2
      have hm := marks_eq (m := m) (gh := gh) (f := hangF [] m.nodes) (by omega) (by omega) (by omega)
      have htk : (ckG gh m (hangF [] m.nodes)).take gh.length = gh := by simp [ckG]
      have hck : ckG gh m [] = gh ++ [GObj.cells [LN m.nodes, LP m.inits, LP m.nexts, LI m.bads, LI m.holds, .sl true 1 []]] := rfl
      generalize ckG gh m (hangF [] m.nodes) = g1 at *
      generalize pairsAll m (hangF [] m.nodes) = r at *
      rw [hck] at hlen
      by_cases hbt : bitsK m.nodes 2 > 6 ∨ bitsK m.nodes 3 > 10
      · rw [if_pos hbt]
        have k1 : runL pg f_model_Check_k1 ⟨[(1, .ptr false 0 0)], [[LN m.nodes, LP m.inits, LP m.nexts, LI m.bads, LI m.holds]], gh⟩ = some (.ret, ⟨[(2, I 2)], [], gh⟩) := by
          refine D_model_Check_k1_ok ?_
          by_cases b1 : 6 < bitsK m.nodes 2
          · simp [D_model_Check_k1, hb, b1]
          · have b2 : 10 < bitsK m.nodes 3 := by omega
            simp [D_model_Check_k1, hb, b1, b2]
        refine callL_fn (fn := f_model_Check) (s := ⟨[(2, I 2)], [], gh⟩) rfl rfl (D_model_Check_0_ok ?h2) ?r2
        case r2 => simp [finish, results, f_model_Check, resOfs, resOf, resOk]
        case h2 => simp [D_model_Check_0, d1, d2, d3, hl, k1]
      · rw [if_neg hbt]
        have b1 : ¬ 6 < bitsK m.nodes 2 := by omega
        have b2 : ¬ 10 < bitsK m.nodes 3 := by omega
        by_cases hr : r = 0
        · rw [if_neg (fun h => h hr)]
          have k1 : runL pg f_model_Check_k1 ⟨[(1, .ptr false 0 0)], [[LN m.nodes, LP m.inits, LP m.nexts, LI m.bads, LI m.holds]], gh⟩ = some (.ret, ⟨[(2, I (marksE m))], [], g1⟩) := by
            refine D_model_Check_k1_ok ?_
            simp [D_model_Check_k1, hb, b1, b2, hlen, hp, hr, hm]
          refine callL_fn (fn := f_model_Check) (s := ⟨[(2, I (marksE m))], [], g1⟩) rfl rfl (D_model_Check_0_ok ?h3) ?r3
          case r3 => simp [finish, results, f_model_Check, resOfs, resOf, resOk, htk]
          case h3 => simp [D_model_Check_0, d1, d2, d3, hl, k1]
        · rw [if_pos hr]
          have k1 : runL pg f_model_Check_k1 ⟨[(1, .ptr false 0 0)], [[LN m.nodes, LP m.inits, LP m.nexts, LI m.bads, LI m.holds]], gh⟩ = some (.ret, ⟨[(2, I r)], [], g1⟩) := by
            refine D_model_Check_k1_ok ?_
            simp [D_model_Check_k1, hb, b1, b2, hlen, hp, hr]
          refine callL_fn (fn := f_model_Check) (s := ⟨[(2, I r)], [], g1⟩) rfl rfl (D_model_Check_0_ok ?h4) ?r4
          case r4 => simp [finish, results, f_model_Check, resOfs, resOf, resOk, htk]
          case h4 => simp [D_model_Check_0, d1, d2, d3, hl, k1]
    · rw [if_pos hn]
      rw [if_neg hn] at hl
      generalize nodesE m.nodes 0 m.nodes = r at *
      refine callL_fn (fn := f_model_Check) (s := ⟨[(2, I r)], [], gh⟩) rfl rfl (D_model_Check_0_ok ?h5) ?r5
      case r5 => simp [finish, results, f_model_Check, resOfs, resOf, resOk]
      case h5 => simp [D_model_Check_0, d1, d2, d3, hl]

end
end Go.Lw
end

/-! What the code of function model_of comes to, piece by piece. Written by program (dprint.py). -/
section
set_option maxRecDepth 10000
set_option maxHeartbeats 4000000
namespace Go.Lw
open Go

def an_model_of : Tr := (.node 8 (.ce (.int .i64)) (.node 5 (.ce (.int .i64)) (.node 1 (.ce (.int .i64)) (.node 0 (.agg [.any, .any, .any, .any, .any]) .nil .nil) (.node 4 (.ce (.one)) .nil .nil)) (.node 7 (.agg [.any, .any, .any, .any, .any]) (.node 6 (.ce (.int .i64)) .nil .nil) .nil)) (.node 12 (.agg [.any, .any, .any, .any, .any]) (.node 10 (.ce (.bool)) (.node 9 (.ce (.int .i64)) .nil .nil) (.node 11 (.ce (.int .i64)) .nil .nil)) (.node 14 (.ce (.one)) (.node 13 (.ce (.int .i64)) .nil .nil) .nil)))

noncomputable def D_model_of_0 (pg : Prg) (v0_0 : PV) (v0_1 : PV) (v0_2 : PV) (v0_3 : PV) (v0_4 : PV) (x1 : Int) (gh : List GObj) : Option (IExit × St) := onK (degr1 v0_0) (onK (degr1 v0_1) (onK (degr1 v0_2) (onK (degr1 v0_3) (onK (degr1 v0_4) (onK (degr1 (degr1 (degr1 v0_0))) (onK (degr1 (degr1 (degr1 v0_1))) (onK (degr1 (degr1 (degr1 v0_2))) (onK (degr1 (degr1 (degr1 v0_3))) (onK (degr1 (degr1 (degr1 v0_4))) (
  callR gh true (callL pg 38 [(.agg [(degr1 (degr1 (degr1 v0_0))), (degr1 (degr1 (degr1 v0_1))), (degr1 (degr1 (degr1 v0_2))), (degr1 (degr1 (degr1 v0_3))), (degr1 (degr1 (degr1 v0_4)))])] gh) fun r1 gh2 => unI .i64 r1 fun n3 => 
  br 10 (n3 != 0) (some (.ret, ⟨[(4, (.sl true 1 [])), (5, (.int .i64 n3))], [], gh2⟩)) (onK (degr1 (degr1 (degr1 v0_0))) (onK (degr1 (degr1 (degr1 v0_1))) (onK (degr1 (degr1 (degr1 v0_2))) (onK (degr1 (degr1 (degr1 v0_3))) (onK (degr1 (degr1 (degr1 v0_4))) (
  callR gh2 true (callL pg 101 [(.agg [(degr1 (degr1 (degr1 v0_0))), (degr1 (degr1 (degr1 v0_1))), (degr1 (degr1 (degr1 v0_2))), (degr1 (degr1 (degr1 v0_3))), (degr1 (degr1 (degr1 v0_4)))]), (.int .i64 x1)] gh2) fun r4 gh5 => isC r4 (stK 0 r4 (some (.ret, ⟨[(4, r4), (5, (.int .i64 0))], [], gh5⟩)))))))))))))))))))

theorem D_model_of_0_ok {pg : Prg} {gh : List GObj} {v0_0 : PV} {v0_1 : PV} {v0_2 : PV} {v0_3 : PV} {v0_4 : PV} {x1 : Int} {e : IExit} {s : St} (h : D_model_of_0 pg v0_0 v0_1 v0_2 v0_3 v0_4 x1 gh = some (e, s)) : runL pg f_model_of_0 ⟨[(0, (.agg [v0_0, v0_1, v0_2, v0_3, v0_4])), (1, (.int .i64 x1))], [], gh⟩ = some (e, s) :=
  runX_ok an_model_of (Eq.trans (by kernel_rfl) h)

end Go.Lw
end

/-! What the code of function model_States comes to, piece by piece. Written by program (dprint.py). -/
section
set_option maxRecDepth 10000
set_option maxHeartbeats 4000000
namespace Go.Lw
open Go

def an_model_States : Tr := (.node 4 (.agg [.any, .any, .any, .any, .any]) (.node 2 (.ce (.one)) (.node 0 (.agg [.any, .any, .any, .any, .any]) .nil .nil) (.node 3 (.ce (.int .i64)) .nil .nil)) (.node 6 (.ce (.one)) (.node 5 (.tup 2) .nil .nil) (.node 7 (.ce (.int .i64)) .nil .nil)))

noncomputable def D_model_States_0 (pg : Prg) (v0_0 : PV) (v0_1 : PV) (v0_2 : PV) (v0_3 : PV) (v0_4 : PV) (gh : List GObj) : Option (IExit × St) := onK (degr1 v0_0) (onK (degr1 v0_1) (onK (degr1 v0_2) (onK (degr1 v0_3) (onK (degr1 v0_4) (onK (degr1 (degr1 (degr1 v0_0))) (onK (degr1 (degr1 (degr1 v0_1))) (onK (degr1 (degr1 (degr1 v0_2))) (onK (degr1 (degr1 (degr1 v0_3))) (onK (degr1 (degr1 (degr1 v0_4))) (
  callR gh true (callL pg 71 [(.agg [(degr1 (degr1 (degr1 v0_0))), (degr1 (degr1 (degr1 v0_1))), (degr1 (degr1 (degr1 v0_2))), (degr1 (degr1 (degr1 v0_3))), (degr1 (degr1 (degr1 v0_4)))]), (.int .i64 3)] gh) fun r1 gh2 => unT 2 r1 fun r3 r4 => isC (degr1 r3) (unI .i64 (degr1 r4) fun n5 => stK 0 (degr1 r3) (some (.ret, ⟨[(2, (degr1 r3)), (3, (.int .i64 n5))], [], gh2⟩)))))))))))))

theorem D_model_States_0_ok {pg : Prg} {gh : List GObj} {v0_0 : PV} {v0_1 : PV} {v0_2 : PV} {v0_3 : PV} {v0_4 : PV} {e : IExit} {s : St} (h : D_model_States_0 pg v0_0 v0_1 v0_2 v0_3 v0_4 gh = some (e, s)) : runL pg f_model_States_0 ⟨[(0, (.agg [v0_0, v0_1, v0_2, v0_3, v0_4]))], [], gh⟩ = some (e, s) :=
  runX_ok an_model_States (Eq.trans (by kernel_rfl) h)

end Go.Lw
end

/-! Models: inputs and states (the program), and the document's nodes of a kind, bits, and what hangs. -/
section
namespace Go.Lw
open Go
@[simp] theorem ble11 : Nat.ble 1 1 = true := rfl

section
variable {m : Md} {gh : List GObj}

/-- What Inputs and States answer. -/
def ofL (m : Md) (kind : Int) : List Int := if checkE m = 0 then kindL m.nodes kind else []

theorem of_eq {kind : Int} (h1 : Sz m.inits.length) (h2 : Sz m.nexts.length) : callL pg 71 [modelV m, I kind] gh = some (.tup [LI (ofL m kind), I (checkE m)], gh) := by
  have hc := MCheck_eq (m := m) (gh := gh) h1 h2
  unfold ofL
  by_cases h0 : checkE m = 0
  · have hl : m.nodes.length ≤ 1000 := by
      unfold checkE at h0
      split at h0
      · contradiction
      · omega
    have ho := Ofk_eq (m := m) (gh := gh) (kind := kind) hl
    have hn := noGs_ints (kindL m.nodes kind)
    rw [modelV_def] at *
    rw [if_pos h0]
    generalize checkE m = r at *
    subst h0
    simp only [LI] at *
    generalize (kindL m.nodes kind).map I = K at *
    refine callL_fn (fn := f_model_of) (s := ⟨[(4, .sl false 1 K), (5, I 0)], [], gh⟩) rfl rfl (D_model_of_0_ok ?h1) ?r1
    case h1 => simp [D_model_of_0, hc, ho]
    case r1 => simp [finish, results, f_model_of, resOfs, resOf, resOk, hn]
  · rw [modelV_def] at *
    rw [if_neg h0]
    generalize checkE m = r at *
    refine callL_fn (fn := f_model_of) (s := ⟨[(4, .sl true 1 []), (5, I r)], [], gh⟩) rfl rfl (D_model_of_0_ok ?h2) ?r2
    case h2 => simp [D_model_of_0, hc, h0]
    case r2 => simp [finish, results, f_model_of, resOfs, resOf, resOk]

theorem States_eq (h1 : Sz m.inits.length) (h2 : Sz m.nexts.length) : callL pg 35 [modelV m] gh = some (.tup [LI (ofL m 3), I (checkE m)], gh) := by
  have hc := of_eq (m := m) (gh := gh) (kind := 3) h1 h2
  have hn := noGs_ints (ofL m 3)
  rw [modelV_def] at *
  simp only [LI] at *
  generalize (ofL m 3).map I = K at *
  refine callL_fn (fn := f_model_States) (s := ⟨[(2, .sl false 1 K), (3, I (checkE m))], [], gh⟩) rfl rfl (D_model_States_0_ok ?h1) ?r1
  case h1 => simp [D_model_States_0, hc]
  case r1 => simp [finish, results, f_model_States, resOfs, resOf, resOk, hn]

/-! ### the document -/
end
end Go.Lw
end

/-! Models: what hangs (the document). -/
section
namespace Go.Lw
open Go
section
variable {m : Md} {gh : List GObj}

abbrev mcells (m : Md) : List PV := [LN m.nodes, LP m.inits, LP m.nexts, LI m.bads, LI m.holds]

end
end Go.Lw
end

/-! What the code of function ref_SameInts comes to, piece by piece. Written by program (dprint.py). -/
section
set_option maxRecDepth 10000
set_option maxHeartbeats 4000000
namespace Go.Lw
open Go

def an_ref_SameInts : Tr := (.node 13 (.ce (.int .i64)) (.node 7 (.ce (.int .i64)) (.node 4 (.ce (.bool)) (.node 1 (.ce (.one)) (.node 0 (.ce (.one)) .nil .nil) .nil) (.node 6 (.ce (.one)) (.node 5 (.ce (.int .i64)) .nil .nil) .nil)) (.node 10 (.ce (.bool)) (.node 9 (.ce (.int .i64)) (.node 8 (.ce (.one)) .nil .nil) .nil) (.node 12 (.ce (.one)) (.node 11 (.ce (.int .i64)) .nil .nil) .nil))) (.node 20 (.ce (.int .i64)) (.node 16 (.ce (.int .i64)) (.node 15 (.ce (.int .i64)) (.node 14 (.ce (.bool)) .nil .nil) .nil) (.node 18 (.ce (.int .i64)) (.node 17 (.ce (.one)) .nil .nil) .nil)) (.node 24 (.ce (.int .i64)) (.node 22 (.ce (.int .i64)) (.node 21 (.ce (.one)) .nil .nil) .nil) (.node 25 (.ce (.bool)) .nil .nil))))

noncomputable def D_ref_SameInts_b1 (pg : Prg) (v0 : PV) (v1 : PV) (x5 : Int) (gh : List GObj) : Option (IExit × St) := isC (degr v0) (lenS (degr (degr v0)) fun n1 => stK 0 v0 (stK 0 v1 (
  br 14 (decide (x5 < (n1 : Int))) (isC (degr v0) (
  idX 1 none (degr (degr v0)) x5 fun p2 => 
  ldX [] gh false 1 (degr p2) fun v3 => unI .i64 v3 fun n4 => isC (degr v1) (
  idX 1 none (degr (degr v1)) x5 fun p5 => 
  ldX [] gh false 1 (degr p5) fun v6 => unI .i64 v6 fun n7 => stK 0 v0 (stK 0 v1 (
  br 25 (n4 != n7) (some (.ret, ⟨[(4, (.bool false))], [], gh⟩)) (stK 0 v0 (stK 0 v1 (stK 0 v0 (stK 0 v1 (some (.normal, ⟨[(0, v0), (1, v1), (5, (.int .i64 (IntKind.i64.wrap (x5 + 1))))], [], gh⟩))))))))))) (some ((.exit 0), ⟨[(0, v0), (1, v1), (5, (.int .i64 x5)), (14, (.bool (decide (x5 < (n1 : Int)))))], [], gh⟩)))))

theorem D_ref_SameInts_b1_ok {pg : Prg} {gh : List GObj} {v0 : PV} {v1 : PV} {x5 : Int} {e : IExit} {s : St} (h : D_ref_SameInts_b1 pg v0 v1 x5 gh = some (e, s)) : runL pg f_ref_SameInts_b1 ⟨[(0, v0), (1, v1), (5, (.int .i64 x5))], [], gh⟩ = some (e, s) :=
  runX_ok an_ref_SameInts (Eq.trans (by kernel_rfl) h)

noncomputable def D_ref_SameInts_k1 (pg : Prg)  (gh : List GObj) : Option (IExit × St) := some (.ret, ⟨[(4, (.bool true))], [], gh⟩)

theorem D_ref_SameInts_k1_ok {pg : Prg} {gh : List GObj}  {e : IExit} {s : St} (h : D_ref_SameInts_k1 pg  gh = some (e, s)) : runL pg f_ref_SameInts_k1 ⟨[], [], gh⟩ = some (e, s) :=
  runX_ok an_ref_SameInts (Eq.trans (by kernel_rfl) h)

noncomputable def D_ref_SameInts_0 (pg : Prg) (v0 : PV) (v1 : PV) (gh : List GObj) : Option (IExit × St) := stK 0 v0 (stK 0 v1 (isC (degr v0) (lenS (degr (degr v0)) fun n1 => isC (degr v1) (lenS (degr (degr v1)) fun n2 => stK 0 v0 (stK 0 v1 (
  br 10 ((n1 : Int) != (n2 : Int)) (some (.ret, ⟨[(4, (.bool false))], [], gh⟩)) (stK 0 v0 (stK 0 v1 (
  kR (runL pg f_ref_SameInts_l1 ⟨[(0, v0), (1, v1), (5, (.int .i64 0))], [], gh⟩) (fun e s => nx e s (fun e s => some (e, s)) fun s => kR (runL pg f_ref_SameInts_k1 s) (fun e s => some (e, s))))))))))))

theorem D_ref_SameInts_0_ok {pg : Prg} {gh : List GObj} {v0 : PV} {v1 : PV} {e : IExit} {s : St} (h : D_ref_SameInts_0 pg v0 v1 gh = some (e, s)) : runL pg f_ref_SameInts_0 ⟨[(0, v0), (1, v1)], [], gh⟩ = some (e, s) :=
  runX_ok an_ref_SameInts (Eq.trans (by kernel_rfl) h)

end Go.Lw
end

/-! Clauses: what the document makes and checks. -/
section
namespace Go.Lw
open Go

section
variable {ins : Int} {ands : List (Int × Int)} {gh : List GObj}

/-! the same -/
theorem SameInts_loop {v : List Int} (hs : Sz v.length) : ∀ k i, i + k = v.length →
    runL pg f_ref_SameInts_l1 ⟨[(0, LI v), (1, LI v), (5, I (i : Int))], [], gh⟩ = some (.normal, ⟨[], [], gh⟩)
  | 0, i, h => by
    have hlt : ¬ i < v.length := by omega
    refine (lp_exit (s1 := ?s1) (D_ref_SameInts_b1_ok ?h1)).trans ?r1
    case h1 => simp [D_ref_SameInts_b1, hlt]; rfl
    case r1 => simp [keep]
  | k + 1, i, h => by
    have hlt : i < v.length := by omega
    have e3 : IntKind.i64.wrap ((i : Int) + 1) = ((i + 1 : Nat) : Int) := wrap_nat (by simp only [Sz] at hs ⊢; omega)
    refine lp_next (s1 := ⟨[(0, LI v), (1, LI v), (5, I ((i + 1 : Nat) : Int))], [], gh⟩) (D_ref_SameInts_b1_ok ?h2) (SameInts_loop hs k (i + 1) (by omega))
    case h2 => simp [D_ref_SameInts_b1, hlt, e3]

theorem SameInts_refl {v : List Int} (hs : Sz v.length) : callL pg 46 [LI v, LI v] gh = some (B true, gh) := by
  have h := SameInts_loop (gh := gh) hs v.length 0 (by omega)
  simp only [Int.natCast_zero] at h
  have hk := D_ref_SameInts_k1_ok (pg := pg) (gh := gh) (e := .ret) (s := ⟨[(4, B true)], [], gh⟩) rfl
  refine callL_fn (fn := f_ref_SameInts) (s := ?s1) rfl rfl (D_ref_SameInts_0_ok ?h1) ?r1
  case h1 => simp [D_ref_SameInts_0, h, hk]; rfl
  case r1 => simp [finish, results, f_ref_SameInts, resOfs, resOf, resOk]

end
end Go.Lw
end

/-! What the code of function law_toggle comes to, piece by piece. Written by program (dprint.py). -/
section
set_option maxRecDepth 10000
set_option maxHeartbeats 4000000
namespace Go.Lw
open Go

def an_law_toggle : Tr := (.node 6 (.ce (.one)) (.node 3 (.agg [.int .i64, .int .i64, .int .i64, .int .i64, .int .i64, .int .i64]) (.node 2 (.agg [.int .i64, .int .i64, .int .i64, .int .i64, .int .i64, .int .i64]) (.node 1 (.agg [.int .i64, .int .i64, .int .i64, .int .i64, .int .i64, .int .i64]) .nil .nil) .nil) (.node 5 (.agg [.int .i64, .int .i64]) (.node 4 (.ce (.one)) .nil .nil) .nil)) (.node 9 (.ce (.one)) (.node 8 (.ce (.one)) (.node 7 (.agg [.int .i64, .int .i64]) .nil .nil) .nil) (.node 10 (.agg [.any, .any, .any, .any, .any]) .nil .nil)))

noncomputable def D_law_toggle_0 (pg : Prg)  (gh : List GObj) : Option (IExit × St) := some (.ret, ⟨[(0, (.ptr false 0 0))], [[(.sl true 6 [(.agg [(.int .i64 1), (.int .i64 1), (.int .i64 0), (.int .i64 0), (.int .i64 0), (.int .i64 0)]), (.agg [(.int .i64 3), (.int .i64 1), (.int .i64 0), (.int .i64 0), (.int .i64 0), (.int .i64 0)]), (.agg [(.int .i64 4), (.int .i64 1), (.int .i64 1), (.int .i64 0), (.int .i64 0), (.int .i64 0)])]), (.sl true 2 [(.agg [(.int .i64 1), (.int .i64 0)])]), (.sl true 2 [(.agg [(.int .i64 1), (.int .i64 2)])]), (.sl true 1 [(.int .i64 1)]), (.sl true 1 [])]], gh⟩)

theorem D_law_toggle_0_ok {pg : Prg} {gh : List GObj}  {e : IExit} {s : St} (h : D_law_toggle_0 pg  gh = some (e, s)) : runL pg f_law_toggle_0 ⟨[], [], gh⟩ = some (e, s) :=
  runX_ok an_law_toggle (Eq.trans (by kernel_rfl) h)

end Go.Lw
end

/-! What the code of function law_modelBegun comes to, piece by piece. Written by program (dprint.py). -/
section
set_option maxRecDepth 10000
set_option maxHeartbeats 4000000
namespace Go.Lw
open Go

def an_law_modelBegun : Tr := (.node 12 (.ce (.int .i64)) (.node 6 (.ce (.one)) (.node 3 (.tup 2) (.node 1 (.ce (.one)) (.node 0 (.ce (.bool)) .nil .nil) (.node 2 (.ce (.int .i64)) .nil .nil)) (.node 5 (.tup 2) (.node 4 (.agg [.any, .any, .any, .any, .any]) .nil .nil) .nil)) (.node 9 (.ce (.int .i64)) (.node 8 (.agg [.any, .any, .any, .any, .any]) (.node 7 (.ce (.int .i64)) .nil .nil) .nil) (.node 11 (.ce (.bool)) (.node 10 (.ce (.bool)) .nil .nil) .nil))) (.node 19 (.ce (.bool)) (.node 16 (.ce (.one)) (.node 14 (.ce (.bool)) (.node 13 (.ce (.bool)) .nil .nil) (.node 15 (.ce (.bool)) .nil .nil)) (.node 18 (.ce (.bool)) (.node 17 (.ce (.int .i64)) .nil .nil) .nil)) (.node 23 (.ce (.int .i64)) (.node 21 (.ce (.one)) (.node 20 (.ce (.bool)) .nil .nil) .nil) (.node 25 (.ce (.bool)) (.node 24 (.ce (.bool)) .nil .nil) .nil))))

noncomputable def D_law_modelBegun_0 (pg : Prg)  (gh : List GObj) : Option (IExit × St) := 
  callR gh true (callL pg 75 [] gh) fun r1 gh2 => unA 5 r1 fun c3 c4 c5 c6 c7 => onK (degr1 c3) (onK (degr1 c4) (onK (degr1 c5) (onK (degr1 c6) (onK (degr1 c7) (
  callR gh2 true (callL pg 35 [(.agg [(degr1 c3), (degr1 c4), (degr1 c5), (degr1 c6), (degr1 c7)])] gh2) fun r8 gh9 => unT 2 r8 fun r10 r11 => isC (degr1 (degr1 r10)) (unI .i64 (degr1 (degr1 r11)) fun n12 => stK 0 (degr1 (degr1 r10)) (
  callR gh9 true (callL pg 75 [] gh9) fun r13 gh14 => unA 5 r13 fun c15 c16 c17 c18 c19 => onK (degr1 c15) (onK (degr1 c16) (onK (degr1 c17) (onK (degr1 c18) (onK (degr1 c19) (
  callR gh14 true (callL pg 38 [(.agg [(degr1 c15), (degr1 c16), (degr1 c17), (degr1 c18), (degr1 c19)])] gh14) fun r20 gh21 => unI .i64 r20 fun n22 => 
  br 11 (n22 == 0) (
  br 15 (n12 == 0) (isC (degr (degr1 (degr1 r10))) (lenS (degr (degr (degr1 (degr1 r10)))) fun n23 => 
  br 20 ((n23 : Int) == 1) (isC (degr (degr1 (degr1 r10))) (
  idX 1 none (degr (degr (degr1 (degr1 r10)))) 0 fun p24 => 
  ldX [] gh21 false 1 (degr p24) fun v25 => unI .i64 v25 fun n26 => some (.ret, ⟨[(0, (.bool (n26 == 1)))], [], gh21⟩))) (some (.ret, ⟨[(0, (.bool false))], [], gh21⟩)))) (some (.ret, ⟨[(0, (.bool false))], [], gh21⟩))) (some (.ret, ⟨[(0, (.bool false))], [], gh21⟩))))))))))))))

theorem D_law_modelBegun_0_ok {pg : Prg} {gh : List GObj}  {e : IExit} {s : St} (h : D_law_modelBegun_0 pg  gh = some (e, s)) : runL pg f_law_modelBegun_0 ⟨[], [], gh⟩ = some (e, s) :=
  runX_ok an_law_modelBegun (Eq.trans (by kernel_rfl) h)

end Go.Lw
end

/-! What the code of function model_Cone comes to, piece by piece. Written by program (dprint.py). -/
section
set_option maxRecDepth 10000
set_option maxHeartbeats 4000000
namespace Go.Lw
open Go

def an_model_Cone : Tr := (.node 64 (.ce (.int .i64)) (.node 31 (.ce (.int .i64)) (.node 17 (.agg [.any, .any, .any, .any, .any]) (.node 8 (.ce (.int .i64)) (.node 5 (.ce (.int .i64)) (.node 1 (.ce (.one)) (.node 0 (.agg [.any, .any, .any, .any, .any]) .nil .nil) (.node 4 (.ce (.one)) .nil .nil)) (.node 7 (.ce (.one)) (.node 6 (.ce (.int .i64)) .nil .nil) .nil)) (.node 14 (.ce (.int .i64)) (.node 13 (.ce (.one)) (.node 12 (.ce (.one)) .nil .nil) .nil) (.node 16 (.ce (.int .i64)) (.node 15 (.ce (.one)) .nil .nil) .nil))) (.node 24 (.ce (.int .i64)) (.node 20 (.ce (.bool)) (.node 19 (.ce (.int .i64)) (.node 18 (.ce (.int .i64)) .nil .nil) .nil) (.node 23 (.ce (.one)) (.node 21 (.ce (.int .i64)) .nil .nil) .nil)) (.node 28 (.ce (.int .i64)) (.node 27 (.ce (.one)) (.node 25 (.ce (.one)) .nil .nil) .nil) (.node 30 (.ce (.bool)) (.node 29 (.ce (.int .i64)) .nil .nil) .nil)))) (.node 47 (.ce (.int .i64)) (.node 39 (.ce (.int .i64)) (.node 36 (.agg [.int .i64, .int .i64, .int .i64, .int .i64, .int .i64, .int .i64]) (.node 34 (.ce (.one)) (.node 33 (.agg [.int .i64, .int .i64, .int .i64, .int .i64, .int .i64, .int .i64]) .nil .nil) (.node 35 (.ce (.int .i64)) .nil .nil)) (.node 38 (.ce (.gp)) (.node 37 (.ce (.one)) .nil .nil) .nil)) (.node 44 (.ce (.one)) (.node 43 (.ce (.one)) (.node 41 (.ce (.one)) .nil .nil) .nil) (.node 46 (.ce (.int .i64)) (.node 45 (.ce (.one)) .nil .nil) .nil))) (.node 56 (.ce (.int .i64)) (.node 51 (.ce (.one)) (.node 50 (.agg [.int .i64, .int .i64]) (.node 48 (.ce (.bool)) .nil .nil) .nil) (.node 54 (.ce (.one)) (.node 53 (.ce (.int .i64)) .nil .nil) .nil)) (.node 61 (.ce (.one)) (.node 60 (.ce (.int .i64)) (.node 58 (.ce (.one)) .nil .nil) .nil) (.node 63 (.ce (.gp)) (.node 62 (.ce (.one)) .nil .nil) .nil))))) (.node 91 (.ce (.one)) (.node 78 (.ce (.one)) (.node 71 (.ce (.one)) (.node 68 (.ce (.one)) (.node 66 (.ce (.one)) (.node 65 (.ce (.one)) .nil .nil) (.node 67 (.ce (.one)) .nil .nil)) (.node 70 (.ce (.bool)) (.node 69 (.ce (.int .i64)) .nil .nil) .nil)) (.node 74 (.ce (.int .i64)) (.node 73 (.ce (.int .i64)) (.node 72 (.ce (.one)) .nil .nil) .nil) (.node 77 (.ce (.one)) (.node 76 (.ce (.int .i64)) .nil .nil) .nil))) (.node 84 (.ce (.bool)) (.node 81 (.ce (.one)) (.node 80 (.ce (.int .i64)) (.node 79 (.ce (.int .i64)) .nil .nil) .nil) (.node 83 (.ce (.bool)) (.node 82 (.ce (.int .i64)) .nil .nil) .nil)) (.node 88 (.ce (.int .i64)) (.node 87 (.ce (.one)) (.node 85 (.ce (.int .i64)) .nil .nil) .nil) (.node 90 (.ce (.bool)) (.node 89 (.ce (.bool)) .nil .nil) .nil)))) (.node 106 (.ce (.int .i64)) (.node 98 (.ce (.one)) (.node 95 (.ce (.one)) (.node 93 (.ce (.bool)) (.node 92 (.ce (.int .i64)) .nil .nil) (.node 94 (.ce (.bool)) .nil .nil)) (.node 97 (.ce (.one)) (.node 96 (.ce (.int .i64)) .nil .nil) .nil)) (.node 102 (.ce (.one)) (.node 101 (.ce (.one)) (.node 99 (.ce (.int .i64)) .nil .nil) .nil) (.node 105 (.ce (.int .i64)) (.node 104 (.ce (.one)) .nil .nil) .nil))) (.node 112 (.ce (.one)) (.node 109 (.ce (.one)) (.node 108 (.ce (.int .i64)) (.node 107 (.ce (.bool)) .nil .nil) .nil) (.node 111 (.ce (.bool)) (.node 110 (.ce (.int .i64)) .nil .nil) .nil)) (.node 115 (.ce (.one)) (.node 114 (.ce (.one)) (.node 113 (.ce (.int .i64)) .nil .nil) .nil) (.node 117 (.ce (.one)) (.node 116 (.ce (.int .i64)) .nil .nil) .nil))))))

noncomputable def D_model_Cone_b1 (pg : Prg) (v1 : PV) (v7 : PV) (v27 : PV) (x28 : Int) (x29 : Int) (vc0_0 : PV) (vc0_1 : PV) (vc0_2 : PV) (vc0_3 : PV) (vc0_4 : PV) (gh : List GObj) : Option (IExit × St) := 
  br 30 (decide (x29 < x28)) (
  idX 6 none (degr v27) x29 fun p1 => 
  ldX [[vc0_0, vc0_1, vc0_2, vc0_3, vc0_4]] gh true 6 (degr p1) fun v2 => unA 6 v2 fun c3 c4 c5 c6 c7 c8 => unI .i64 c3 fun n9 => unI .i64 c4 fun n10 => unI .i64 c5 fun n11 => unI .i64 c6 fun n12 => unI .i64 c7 fun n13 => unI .i64 c8 fun n14 => stK 2 v1 (stK 2 v7 (stK 2 v27 (isC (degr v7) (
  callR gh false (callL pg 120 [(.agg [(.int .i64 n9), (.int .i64 n10), (.int .i64 n11), (.int .i64 n12), (.int .i64 n13), (.int .i64 n14)])] gh) fun r15 gh16 => isC r15 (
  idX 1 none (degr (degr v7)) x29 fun p17 => unG p17 fun g18 o19 => arK r15 (isC r15 (
  ob (ghCells gh16 g18) fun cs20 => gb (stOk 1 o19 [r15] cs20) (stK 1 v1 (stK 1 v7 (stK 1 v27 (stK 1 v1 (stK 1 v7 (stK 1 v27 (stK 1 v1 (stK 1 v7 (stK 1 v27 (some (.normal, ⟨[(1, v1), (2, (.ptr false 0 0)), (7, v7), (27, v27), (28, (.int .i64 x28)), (29, (.int .i64 (IntKind.i64.wrap (x29 + 1))))], [[vc0_0, vc0_1, vc0_2, vc0_3, vc0_4]], (List.set gh16 g18 (.cells (spliceAt cs20 o19 [r15])))⟩))))))))))))))))))) (some ((.exit 0), ⟨[(1, v1), (2, (.ptr false 0 0)), (7, v7), (27, v27), (28, (.int .i64 x28)), (29, (.int .i64 x29)), (30, (.bool (decide (x29 < x28))))], [[vc0_0, vc0_1, vc0_2, vc0_3, vc0_4]], gh⟩))

theorem D_model_Cone_b1_ok {pg : Prg} {gh : List GObj} {v1 : PV} {v7 : PV} {v27 : PV} {x28 : Int} {x29 : Int} {vc0_0 : PV} {vc0_1 : PV} {vc0_2 : PV} {vc0_3 : PV} {vc0_4 : PV} {e : IExit} {s : St} (h : D_model_Cone_b1 pg v1 v7 v27 x28 x29 vc0_0 vc0_1 vc0_2 vc0_3 vc0_4 gh = some (e, s)) : runL pg f_model_Cone_b1 ⟨[(1, v1), (2, (.ptr false 0 0)), (7, v7), (27, v27), (28, (.int .i64 x28)), (29, (.int .i64 x29))], [[vc0_0, vc0_1, vc0_2, vc0_3, vc0_4]], gh⟩ = some (e, s) :=
  runX_ok an_model_Cone (Eq.trans (by kernel_rfl) h)

noncomputable def D_model_Cone_b2 (pg : Prg) (v1 : PV) (v7 : PV) (v45 : PV) (x46 : Int) (x47 : Int) (vc0_0 : PV) (vc0_1 : PV) (vc0_2 : PV) (vc0_3 : PV) (vc0_4 : PV) (gh : List GObj) : Option (IExit × St) := 
  br 48 (decide (x47 < x46)) (
  idX 2 none (degr v45) x47 fun p1 => 
  ldX [[vc0_0, vc0_1, vc0_2, vc0_3, vc0_4]] gh true 2 (degr p1) fun v2 => unA 2 v2 fun c3 c4 => unI .i64 c3 fun n5 => unI .i64 c4 fun n6 => stK 2 v1 (stK 2 v7 (stK 2 v45 (isC (degr v7) (isC (degr v7) (
  idX 1 none (degr (degr v7)) n5 fun p7 => 
  ldX [[vc0_0, vc0_1, vc0_2, vc0_3, vc0_4], [(.int .i64 n5), (.int .i64 n6)]] gh false 1 (degr p7) fun v8 => isC v8 (
  akX gh 8 (degr v8) (.sl false 1 [(.int .i64 n6)]) fun gh9 v10 => isC v10 (
  idX 1 none (degr (degr v7)) n5 fun p11 => unG p11 fun g12 o13 => arK v10 (isC v10 (
  ob (ghCells gh9 g12) fun cs14 => gb (stOk 1 o13 [v10] cs14) (stK 1 v1 (stK 1 v7 (stK 1 v45 (stK 1 v1 (stK 1 v7 (stK 1 v45 (stK 1 v1 (stK 1 v7 (stK 1 v45 (some (.normal, ⟨[(1, v1), (2, (.ptr false 0 0)), (7, v7), (45, v45), (46, (.int .i64 x46)), (47, (.int .i64 (IntKind.i64.wrap (x47 + 1))))], [[vc0_0, vc0_1, vc0_2, vc0_3, vc0_4]], (List.set gh9 g12 (.cells (spliceAt cs14 o13 [v10])))⟩))))))))))))))))))))) (some ((.exit 2), ⟨[(1, v1), (2, (.ptr false 0 0)), (7, v7), (45, v45), (46, (.int .i64 x46)), (47, (.int .i64 x47)), (48, (.bool (decide (x47 < x46))))], [[vc0_0, vc0_1, vc0_2, vc0_3, vc0_4]], gh⟩))

theorem D_model_Cone_b2_ok {pg : Prg} {gh : List GObj} {v1 : PV} {v7 : PV} {v45 : PV} {x46 : Int} {x47 : Int} {vc0_0 : PV} {vc0_1 : PV} {vc0_2 : PV} {vc0_3 : PV} {vc0_4 : PV} {e : IExit} {s : St} (h : D_model_Cone_b2 pg v1 v7 v45 x46 x47 vc0_0 vc0_1 vc0_2 vc0_3 vc0_4 gh = some (e, s)) : runL pg f_model_Cone_b2 ⟨[(1, v1), (2, (.ptr false 0 0)), (7, v7), (45, v45), (46, (.int .i64 x46)), (47, (.int .i64 x47))], [[vc0_0, vc0_1, vc0_2, vc0_3, vc0_4]], gh⟩ = some (e, s) :=
  runX_ok an_model_Cone (Eq.trans (by kernel_rfl) h)

noncomputable def D_model_Cone_b3 (pg : Prg) (v7 : PV) (v12 : PV) (v13 : PV) (vc0_0 : PV) (vc0_1 : PV) (vc0_2 : PV) (vc0_3 : PV) (vc0_4 : PV) (gh : List GObj) : Option (IExit × St) := isC (degr v13) (lenS (degr (degr v13)) fun n1 => stK 1 v7 (stK 1 v12 (stK 1 v13 (
  br 70 (decide (0 < (n1 : Int))) (isC (degr v13) (isC (degr v13) (lenS (degr (degr v13)) fun n2 => 
  idX 1 none (degr (degr v13)) (IntKind.i64.wrap ((n2 : Int) - 1)) fun p3 => 
  lkK gh (degr p3) fun v4 => unI .i64 v4 fun n5 => stK 1 v7 (stK 1 v12 (stK 1 v13 (isC (degr v13) (isC (degr v13) (lenS (degr (degr v13)) fun n6 => 
  slX 1 (degr (degr v13)) none (some (IntKind.i64.wrap ((n6 : Int) - 1))) fun v8 => isC v8 (stK 1 v7 (stK 1 v12 (stK 1 v8 (
  br 84 (decide (n5 < 0)) (stK 1 v7 (stK 1 v12 (stK 1 v8 (some (.ret, ⟨[(4, (.sl true 1 [])), (5, (.int .i64 5))], [], gh⟩))))) (isC (degr vc0_0) (lenS (degr (degr vc0_0)) fun n9 => stK 1 v7 (stK 1 v12 (stK 1 v8 (
  br 90 (decide ((n9 : Int) ≤ n5)) (some (.ret, ⟨[(4, (.sl true 1 [])), (5, (.int .i64 5))], [], gh⟩)) (isC (degr v12) (
  lkX gh 0 (degr (degr v12)) (.int .i64 n5) fun r10 => unB (Option.getD r10 (.bool false)) fun b11 => stK 1 v7 (stK 1 v12 (stK 1 v8 (
  br 94 (!b11) (isC (degr v12) (
  muX gh 0 (degr (degr v12)) (.int .i64 n5) (.bool true) fun gh12 => stK 1 v7 (stK 1 v12 (stK 1 v8 (isC (degr v8) (isC (degr v7) (
  idX 1 none (degr (degr v7)) n5 fun p13 => 
  ldX [[vc0_0, vc0_1, vc0_2, vc0_3, vc0_4]] gh12 false 1 (degr p13) fun v14 => isC v14 (
  akX gh12 8 (degr (degr v8)) (degr v14) fun gh15 v16 => isC v16 (stK 1 v7 (stK 1 v12 (stK 1 v16 (stK 1 v7 (stK 1 v12 (stK 1 v16 (stK 1 v7 (stK 1 v12 (stK 1 v16 (some (.normal, ⟨[(2, (.ptr false 0 0)), (7, v7), (12, v12), (13, v16)], [[vc0_0, vc0_1, vc0_2, vc0_3, vc0_4]], gh15⟩))))))))))))))))))) (stK 1 v7 (stK 1 v12 (stK 1 v8 (stK 1 v7 (stK 1 v12 (stK 1 v8 (some (.normal, ⟨[(2, (.ptr false 0 0)), (7, v7), (12, v12), (13, v8)], [[vc0_0, vc0_1, vc0_2, vc0_3, vc0_4]], gh⟩)))))))))))))))))))))))))))))) (some ((.exit 4), ⟨[(2, (.ptr false 0 0)), (7, v7), (12, v12), (13, v13), (70, (.bool (decide (0 < (n1 : Int)))))], [[vc0_0, vc0_1, vc0_2, vc0_3, vc0_4]], gh⟩))))))

theorem D_model_Cone_b3_ok {pg : Prg} {gh : List GObj} {v7 : PV} {v12 : PV} {v13 : PV} {vc0_0 : PV} {vc0_1 : PV} {vc0_2 : PV} {vc0_3 : PV} {vc0_4 : PV} {e : IExit} {s : St} (h : D_model_Cone_b3 pg v7 v12 v13 vc0_0 vc0_1 vc0_2 vc0_3 vc0_4 gh = some (e, s)) : runL pg f_model_Cone_b3 ⟨[(2, (.ptr false 0 0)), (7, v7), (12, v12), (13, v13)], [[vc0_0, vc0_1, vc0_2, vc0_3, vc0_4]], gh⟩ = some (e, s) :=
  runX_ok an_model_Cone (Eq.trans (by kernel_rfl) h)

noncomputable def D_model_Cone_k4 (pg : Prg) (v12 : PV) (v15 : PV) (x105 : Int) (x106 : Int) (gh : List GObj) : Option (IExit × St) := stK 0 v12 (stK 0 v15 (some (.normal, ⟨[(12, v12), (15, v15), (105, (.int .i64 x105)), (106, (.int .i64 (IntKind.i64.wrap (x106 + 1))))], [], gh⟩)))

theorem D_model_Cone_k4_ok {pg : Prg} {gh : List GObj} {v12 : PV} {v15 : PV} {x105 : Int} {x106 : Int} {e : IExit} {s : St} (h : D_model_Cone_k4 pg v12 v15 x105 x106 gh = some (e, s)) : runL pg f_model_Cone_k4 ⟨[(12, v12), (15, v15), (105, (.int .i64 x105)), (106, (.int .i64 x106))], [], gh⟩ = some (e, s) :=
  runX_ok an_model_Cone (Eq.trans (by kernel_rfl) h)

noncomputable def D_model_Cone_b4 (pg : Prg) (v12 : PV) (v15 : PV) (x105 : Int) (x106 : Int) (gh : List GObj) : Option (IExit × St) := 
  br 107 (decide (x106 < x105)) (stK 0 v12 (stK 0 v15 (isC (degr v12) (
  lkX gh 0 (degr (degr v12)) (.int .i64 x106) fun r1 => unB (Option.getD r1 (.bool false)) fun b2 => stK 0 v12 (stK 0 v15 (
  br 111 b2 (
  apX 1 8 v15 (.sl false 1 [(.int .i64 x106)]) fun l3 => stK 0 v12 (stK 0 v12 (
  kR (runL pg f_model_Cone_k4 ⟨[(12, v12), (15, (.sl true 1 l3)), (105, (.int .i64 x105)), (106, (.int .i64 x106))], [], gh⟩) (fun e s => po [12, 15, 105, 106] 0 e s (fun e s => some (e, s)))))) (stK 0 v12 (stK 0 v15 (
  kR (runL pg f_model_Cone_k4 ⟨[(12, v12), (15, v15), (105, (.int .i64 x105)), (106, (.int .i64 x106))], [], gh⟩) (fun e s => po [12, 15, 105, 106] 0 e s (fun e s => some (e, s)))))))))))) (some ((.exit 6), ⟨[(12, v12), (15, v15), (105, (.int .i64 x105)), (106, (.int .i64 x106)), (107, (.bool (decide (x106 < x105))))], [], gh⟩))

theorem D_model_Cone_b4_ok {pg : Prg} {gh : List GObj} {v12 : PV} {v15 : PV} {x105 : Int} {x106 : Int} {e : IExit} {s : St} (h : D_model_Cone_b4 pg v12 v15 x105 x106 gh = some (e, s)) : runL pg f_model_Cone_b4 ⟨[(12, v12), (15, v15), (105, (.int .i64 x105)), (106, (.int .i64 x106))], [], gh⟩ = some (e, s) :=
  runX_ok an_model_Cone (Eq.trans (by kernel_rfl) h)

noncomputable def D_model_Cone_k5 (pg : Prg) (v15 : PV) (gh : List GObj) : Option (IExit × St) := isC (degr v15) (stK 0 (degr v15) (some (.ret, ⟨[(4, (degr v15)), (5, (.int .i64 0))], [], gh⟩)))

theorem D_model_Cone_k5_ok {pg : Prg} {gh : List GObj} {v15 : PV} {e : IExit} {s : St} (h : D_model_Cone_k5 pg v15 gh = some (e, s)) : runL pg f_model_Cone_k5 ⟨[(15, v15)], [], gh⟩ = some (e, s) :=
  runX_ok an_model_Cone (Eq.trans (by kernel_rfl) h)

noncomputable def D_model_Cone_k3 (pg : Prg) (v12 : PV) (vc0_0 : PV) (vc0_1 : PV) (vc0_2 : PV) (vc0_3 : PV) (vc0_4 : PV) (gh : List GObj) : Option (IExit × St) := isC (degr vc0_0) (lenS (degr (degr vc0_0)) fun n1 => stK 0 v12 (
  kR (runL pg f_model_Cone_l4 ⟨[(12, v12), (15, (.sl true 1 [])), (105, (.int .i64 (n1 : Int))), (106, (.int .i64 0))], [], gh⟩) (fun e s => nx e s (fun e s => some (e, s)) fun s => kR (runL pg f_model_Cone_k5 s) (fun e s => some (e, s)))))

theorem D_model_Cone_k3_ok {pg : Prg} {gh : List GObj} {v12 : PV} {vc0_0 : PV} {vc0_1 : PV} {vc0_2 : PV} {vc0_3 : PV} {vc0_4 : PV} {e : IExit} {s : St} (h : D_model_Cone_k3 pg v12 vc0_0 vc0_1 vc0_2 vc0_3 vc0_4 gh = some (e, s)) : runL pg f_model_Cone_k3 ⟨[(2, (.ptr false 0 0)), (12, v12)], [[vc0_0, vc0_1, vc0_2, vc0_3, vc0_4]], gh⟩ = some (e, s) :=
  runX_ok an_model_Cone (Eq.trans (by kernel_rfl) h)

noncomputable def D_model_Cone_k2 (pg : Prg) (v1 : PV) (v7 : PV) (vc0_0 : PV) (vc0_1 : PV) (vc0_2 : PV) (vc0_3 : PV) (vc0_4 : PV) (gh : List GObj) : Option (IExit × St) := stK 1 v1 (stK 1 v7 (isC (degr v1) (arK (degr (degr v1)) (
  callR (gh ++ [.map []]) false (callL pg 121 [(degr (degr v1))] (gh ++ [.map []])) fun r1 gh2 => isC r1 (stK 1 v7 (stK 1 r1 (
  kR (runL pg f_model_Cone_l3 ⟨[(2, (.ptr false 0 0)), (7, v7), (12, (.mp (List.length gh))), (13, r1)], [[vc0_0, vc0_1, vc0_2, vc0_3, vc0_4]], gh2⟩) (fun e s => nx e s (fun e s => some (e, s)) fun s => kR (runL pg f_model_Cone_k3 s) (fun e s => some (e, s))))))))))

theorem D_model_Cone_k2_ok {pg : Prg} {gh : List GObj} {v1 : PV} {v7 : PV} {vc0_0 : PV} {vc0_1 : PV} {vc0_2 : PV} {vc0_3 : PV} {vc0_4 : PV} {e : IExit} {s : St} (h : D_model_Cone_k2 pg v1 v7 vc0_0 vc0_1 vc0_2 vc0_3 vc0_4 gh = some (e, s)) : runL pg f_model_Cone_k2 ⟨[(1, v1), (2, (.ptr false 0 0)), (7, v7)], [[vc0_0, vc0_1, vc0_2, vc0_3, vc0_4]], gh⟩ = some (e, s) :=
  runX_ok an_model_Cone (Eq.trans (by kernel_rfl) h)

noncomputable def D_model_Cone_k1 (pg : Prg) (v1 : PV) (v7 : PV) (vc0_0 : PV) (vc0_1 : PV) (vc0_2 : PV) (vc0_3 : PV) (vc0_4 : PV) (gh : List GObj) : Option (IExit × St) := isC (degr vc0_1) (isC (degr vc0_2) (arK (degr (degr vc0_1)) (lnK 1 (degr (degr vc0_1)) (arK (degr (degr vc0_2)) (lnK 1 (degr (degr vc0_2)) (
  callR gh true (callL pg 82 [(.sl false 1 [(degr (degr vc0_1)), (degr (degr vc0_2))])] gh) fun r1 gh2 => isC r1 (lenS (degr r1) fun n3 => stK 1 v1 (stK 1 v7 (stK 1 r1 (
  kR (runL pg f_model_Cone_l2 ⟨[(1, v1), (2, (.ptr false 0 0)), (7, v7), (45, r1), (46, (.int .i64 (n3 : Int))), (47, (.int .i64 0))], [[vc0_0, vc0_1, vc0_2, vc0_3, vc0_4]], gh2⟩) (fun e s => nx e s (fun e s => some (e, s)) fun s => kR (runL pg f_model_Cone_k2 s) (fun e s => some (e, s)))))))))))))

theorem D_model_Cone_k1_ok {pg : Prg} {gh : List GObj} {v1 : PV} {v7 : PV} {vc0_0 : PV} {vc0_1 : PV} {vc0_2 : PV} {vc0_3 : PV} {vc0_4 : PV} {e : IExit} {s : St} (h : D_model_Cone_k1 pg v1 v7 vc0_0 vc0_1 vc0_2 vc0_3 vc0_4 gh = some (e, s)) : runL pg f_model_Cone_k1 ⟨[(1, v1), (2, (.ptr false 0 0)), (7, v7)], [[vc0_0, vc0_1, vc0_2, vc0_3, vc0_4]], gh⟩ = some (e, s) :=
  runX_ok an_model_Cone (Eq.trans (by kernel_rfl) h)

noncomputable def D_model_Cone_0 (pg : Prg) (v0_0 : PV) (v0_1 : PV) (v0_2 : PV) (v0_3 : PV) (v0_4 : PV) (v1 : PV) (gh : List GObj) : Option (IExit × St) := onK (degr1 v0_0) (onK (degr1 v0_1) (onK (degr1 v0_2) (onK (degr1 v0_3) (onK (degr1 v0_4) (stK 1 v1 (onK (degr1 (degr1 (degr1 v0_0))) (onK (degr1 (degr1 (degr1 v0_1))) (onK (degr1 (degr1 (degr1 v0_2))) (onK (degr1 (degr1 (degr1 v0_3))) (onK (degr1 (degr1 (degr1 v0_4))) (
  callR gh true (callL pg 38 [(.agg [(degr1 (degr1 (degr1 v0_0))), (degr1 (degr1 (degr1 v0_1))), (degr1 (degr1 (degr1 v0_2))), (degr1 (degr1 (degr1 v0_3))), (degr1 (degr1 (degr1 v0_4)))])] gh) fun r1 gh2 => unI .i64 r1 fun n3 => stK 1 v1 (stK 1 v1 (
  br 20 (n3 != 0) (some (.ret, ⟨[(4, (.sl true 1 [])), (5, (.int .i64 n3))], [], gh2⟩)) (isC (degr (degr1 v0_0)) (lenS (degr (degr (degr1 v0_0))) fun n4 => gd (mkOk (n4 : Int) 24 1 (.sl true 1 [])) (stK 1 v1 (isC (degr (degr1 v0_0)) (lenS (degr (degr (degr1 v0_0))) fun n5 => stK 1 v1 (stK 1 (degr (degr1 v0_0)) (
  kR (runL pg f_model_Cone_l1 ⟨[(1, v1), (2, (.ptr false 0 0)), (7, (.bs true (List.length gh2) 0 (Int.toNat (n4 : Int)) 1)), (27, (degr (degr1 v0_0))), (28, (.int .i64 (n5 : Int))), (29, (.int .i64 0))], [[(degr1 v0_0), (degr1 v0_1), (degr1 v0_2), (degr1 v0_3), (degr1 v0_4)]], (gh2 ++ [.cells (List.flatMap PV.cells (List.replicate (Int.toNat (n4 : Int)) (.sl true 1 [])))])⟩) (fun e s => nx e s (fun e s => some (e, s)) fun s => kR (runL pg f_model_Cone_k1 s) (fun e s => some (e, s)))))))))))))))))))))))

theorem D_model_Cone_0_ok {pg : Prg} {gh : List GObj} {v0_0 : PV} {v0_1 : PV} {v0_2 : PV} {v0_3 : PV} {v0_4 : PV} {v1 : PV} {e : IExit} {s : St} (h : D_model_Cone_0 pg v0_0 v0_1 v0_2 v0_3 v0_4 v1 gh = some (e, s)) : runL pg f_model_Cone_0 ⟨[(0, (.agg [v0_0, v0_1, v0_2, v0_3, v0_4])), (1, v1)], [], gh⟩ = some (e, s) :=
  runX_ok an_model_Cone (Eq.trans (by kernel_rfl) h)

end Go.Lw
end

/-! What the code of function model_Args_K comes to, piece by piece. Written by program (dprint.py). -/
section
set_option maxRecDepth 10000
set_option maxHeartbeats 4000000
namespace Go.Lw
open Go

def an_model_Args_K : Tr := (.node 8 (.ce (.int .i64)) (.node 4 (.ce (.int .i64)) (.node 2 (.ce (.one)) (.node 0 (.agg [.int .i64, .int .i64, .int .i64, .int .i64, .int .i64, .int .i64]) .nil .nil) .nil) (.node 6 (.ce (.int .i64)) .nil .nil)) (.node 12 (.ce (.int .i64)) (.node 11 (.ce (.int .i64)) (.node 9 (.ce (.one)) .nil .nil) .nil) (.node 13 (.ce (.one)) .nil .nil)))

noncomputable def D_model_Args_K_0 (pg : Prg) (x0_0 : Int) (x0_1 : Int) (x0_2 : Int) (x0_3 : Int) (x0_4 : Int) (x0_5 : Int) (gh : List GObj) : Option (IExit × St) := gd (List.all [(.int .i64 x0_2), (.int .i64 x0_3), (.int .i64 x0_4)] isFlat) (
  callN [(.int .i64 x0_0)] (callL pg 63 [(.int .i64 x0_0)] []) fun r1 => unI .i64 r1 fun n2 => 
  slX 1 (degr (.stk (List.length gh) 0 3)) none (some n2) fun v3 => isC v3 (stK 0 v3 (some (.ret, ⟨[(2, v3)], [], (gh ++ [.stk 0 [(.int .i64 x0_2), (.int .i64 x0_3), (.int .i64 x0_4)]])⟩))))

theorem D_model_Args_K_0_ok {pg : Prg} {gh : List GObj} {x0_0 : Int} {x0_1 : Int} {x0_2 : Int} {x0_3 : Int} {x0_4 : Int} {x0_5 : Int} {e : IExit} {s : St} (h : D_model_Args_K_0 pg x0_0 x0_1 x0_2 x0_3 x0_4 x0_5 gh = some (e, s)) : runL pg f_model_Args_K_0 ⟨[(0, (.agg [(.int .i64 x0_0), (.int .i64 x0_1), (.int .i64 x0_2), (.int .i64 x0_3), (.int .i64 x0_4), (.int .i64 x0_5)]))], [], gh⟩ = some (e, s) :=
  runX_ok an_model_Args_K (Eq.trans (by kernel_rfl) h)

end Go.Lw
end

/-! What the code of function slices_Concat_Lapi_Pair_api_Pair comes to, piece by piece. Written by program (dprint.py). -/
section
set_option maxRecDepth 10000
set_option maxHeartbeats 4000000
namespace Go.Lw
open Go

def an_slices_Concat_Lapi_Pair_api_Pair : Tr := (.node 19 (.ce (.int .i64)) (.node 10 (.ce (.int .i64)) (.node 5 (.ce (.one)) (.node 2 (.ce (.one)) (.node 0 (.ce (.one)) .nil .nil) (.node 3 (.ce (.int .i64)) .nil .nil)) (.node 8 (.ce (.one)) (.node 6 (.ce (.one)) .nil .nil) (.node 9 (.ce (.one)) .nil .nil))) (.node 15 (.ce (.int .i64)) (.node 12 (.ce (.bool)) (.node 11 (.ce (.int .i64)) .nil .nil) (.node 14 (.ce (.one)) .nil .nil)) (.node 17 (.ce (.int .i64)) (.node 16 (.ce (.one)) .nil .nil) (.node 18 (.ce (.int .i64)) .nil .nil)))) (.node 28 (.ce (.bool)) (.node 24 (.ce (.one)) (.node 22 (.ce (.int .i64)) (.node 20 (.ce (.bool)) .nil .nil) (.node 23 (.ce (.int .i64)) .nil .nil)) (.node 26 (.ce (.int .i64)) (.node 25 (.ce (.one)) .nil .nil) (.node 27 (.ce (.int .i64)) .nil .nil))) (.node 33 (.ce (.one)) (.node 31 (.ce (.one)) (.node 30 (.ce (.one)) .nil .nil) (.node 32 (.ce (.one)) .nil .nil)) (.node 35 (.ce (.one)) (.node 34 (.ce (.int .i64)) .nil .nil) .nil))))

noncomputable def D_slices_Concat_Lapi_Pair_api_Pair_b1 (pg : Prg) (v0 : PV) (x3 : Int) (v9 : PV) (x10 : Int) (x11 : Int) (gh : List GObj) : Option (IExit × St) := 
  br 12 (decide (x11 < x10)) (
  idX 1 none (degr v9) x11 fun p1 => 
  ldX [] gh false 1 (degr p1) fun v2 => isC v2 (stK 0 v0 (stK 0 v2 (stK 0 v9 (isC (degr v2) (lenS (degr (degr v2)) fun n3 => stK 0 v0 (stK 0 v9 (stK 0 v0 (stK 0 v9 (
  br 20 (decide ((IntKind.i64.wrap (x3 + (n3 : Int))) < 0)) (none) (stK 0 v0 (stK 0 v9 (stK 0 v0 (stK 0 v9 (some (.normal, ⟨[(0, v0), (3, (.int .i64 (IntKind.i64.wrap (x3 + (n3 : Int))))), (9, v9), (10, (.int .i64 x10)), (11, (.int .i64 (IntKind.i64.wrap (x11 + 1))))], [], gh⟩)))))))))))))))) (some ((.exit 0), ⟨[(0, v0), (3, (.int .i64 x3)), (9, v9), (10, (.int .i64 x10)), (11, (.int .i64 x11)), (12, (.bool (decide (x11 < x10))))], [], gh⟩))

theorem D_slices_Concat_Lapi_Pair_api_Pair_b1_ok {pg : Prg} {gh : List GObj} {v0 : PV} {x3 : Int} {v9 : PV} {x10 : Int} {x11 : Int} {e : IExit} {s : St} (h : D_slices_Concat_Lapi_Pair_api_Pair_b1 pg v0 x3 v9 x10 x11 gh = some (e, s)) : runL pg f_slices_Concat_Lapi_Pair_api_Pair_b1 ⟨[(0, v0), (3, (.int .i64 x3)), (9, v9), (10, (.int .i64 x10)), (11, (.int .i64 x11))], [], gh⟩ = some (e, s) :=
  runX_ok an_slices_Concat_Lapi_Pair_api_Pair (Eq.trans (by kernel_rfl) h)

noncomputable def D_slices_Concat_Lapi_Pair_api_Pair_b2 (pg : Prg) (v6 : PV) (v25 : PV) (x26 : Int) (x27 : Int) (gh : List GObj) : Option (IExit × St) := 
  br 28 (decide (x27 < x26)) (
  idX 1 none (degr v25) x27 fun p1 => 
  ldX [] gh false 1 (degr p1) fun v2 => isC v2 (stK 0 v6 (stK 0 v2 (stK 0 v25 (isC (degr v2) (
  apX 2 16 v6 (degr (degr v2)) fun l3 => stK 0 v25 (stK 0 v25 (stK 0 v25 (some (.normal, ⟨[(6, (.sl true 2 l3)), (25, v25), (26, (.int .i64 x26)), (27, (.int .i64 (IntKind.i64.wrap (x27 + 1))))], [], gh⟩)))))))))) (some ((.exit 2), ⟨[(6, v6), (25, v25), (26, (.int .i64 x26)), (27, (.int .i64 x27)), (28, (.bool (decide (x27 < x26))))], [], gh⟩))

theorem D_slices_Concat_Lapi_Pair_api_Pair_b2_ok {pg : Prg} {gh : List GObj} {v6 : PV} {v25 : PV} {x26 : Int} {x27 : Int} {e : IExit} {s : St} (h : D_slices_Concat_Lapi_Pair_api_Pair_b2 pg v6 v25 x26 x27 gh = some (e, s)) : runL pg f_slices_Concat_Lapi_Pair_api_Pair_b2 ⟨[(6, v6), (25, v25), (26, (.int .i64 x26)), (27, (.int .i64 x27))], [], gh⟩ = some (e, s) :=
  runX_ok an_slices_Concat_Lapi_Pair_api_Pair (Eq.trans (by kernel_rfl) h)

noncomputable def D_slices_Concat_Lapi_Pair_api_Pair_k2 (pg : Prg) (v6 : PV) (gh : List GObj) : Option (IExit × St) := isC (degr v6) (stK 0 (degr v6) (some (.ret, ⟨[(2, (degr v6))], [], gh⟩)))

theorem D_slices_Concat_Lapi_Pair_api_Pair_k2_ok {pg : Prg} {gh : List GObj} {v6 : PV} {e : IExit} {s : St} (h : D_slices_Concat_Lapi_Pair_api_Pair_k2 pg v6 gh = some (e, s)) : runL pg f_slices_Concat_Lapi_Pair_api_Pair_k2 ⟨[(6, v6)], [], gh⟩ = some (e, s) :=
  runX_ok an_slices_Concat_Lapi_Pair_api_Pair (Eq.trans (by kernel_rfl) h)

noncomputable def D_slices_Concat_Lapi_Pair_api_Pair_k1 (pg : Prg) (v0 : PV) (x3 : Int) (gh : List GObj) : Option (IExit × St) := 
  callR gh true (callL pg 110 [.nils, (.int .i64 x3)] gh) fun r1 gh2 => isC r1 (stK 0 v0 (stK 0 r1 (isC (degr v0) (lenS (degr (degr v0)) fun n3 => stK 0 r1 (stK 0 (degr v0) (
  kR (runL pg f_slices_Concat_Lapi_Pair_api_Pair_l2 ⟨[(6, r1), (25, (degr v0)), (26, (.int .i64 (n3 : Int))), (27, (.int .i64 0))], [], gh2⟩) (fun e s => nx e s (fun e s => some (e, s)) fun s => kR (runL pg f_slices_Concat_Lapi_Pair_api_Pair_k2 s) (fun e s => some (e, s)))))))))

theorem D_slices_Concat_Lapi_Pair_api_Pair_k1_ok {pg : Prg} {gh : List GObj} {v0 : PV} {x3 : Int} {e : IExit} {s : St} (h : D_slices_Concat_Lapi_Pair_api_Pair_k1 pg v0 x3 gh = some (e, s)) : runL pg f_slices_Concat_Lapi_Pair_api_Pair_k1 ⟨[(0, v0), (3, (.int .i64 x3))], [], gh⟩ = some (e, s) :=
  runX_ok an_slices_Concat_Lapi_Pair_api_Pair (Eq.trans (by kernel_rfl) h)

noncomputable def D_slices_Concat_Lapi_Pair_api_Pair_0 (pg : Prg) (v0 : PV) (gh : List GObj) : Option (IExit × St) := stK 0 v0 (isC (degr v0) (lenS (degr (degr v0)) fun n1 => stK 0 v0 (stK 0 (degr v0) (
  kR (runL pg f_slices_Concat_Lapi_Pair_api_Pair_l1 ⟨[(0, v0), (3, (.int .i64 0)), (9, (degr v0)), (10, (.int .i64 (n1 : Int))), (11, (.int .i64 0))], [], gh⟩) (fun e s => nx e s (fun e s => some (e, s)) fun s => kR (runL pg f_slices_Concat_Lapi_Pair_api_Pair_k1 s) (fun e s => some (e, s)))))))

theorem D_slices_Concat_Lapi_Pair_api_Pair_0_ok {pg : Prg} {gh : List GObj} {v0 : PV} {e : IExit} {s : St} (h : D_slices_Concat_Lapi_Pair_api_Pair_0 pg v0 gh = some (e, s)) : runL pg f_slices_Concat_Lapi_Pair_api_Pair_0 ⟨[(0, v0)], [], gh⟩ = some (e, s) :=
  runX_ok an_slices_Concat_Lapi_Pair_api_Pair (Eq.trans (by kernel_rfl) h)

end Go.Lw
end

/-! What the code of function law_ModelAgain comes to, piece by piece. Written by program (dprint.py). -/
section
set_option maxRecDepth 10000
set_option maxHeartbeats 4000000
namespace Go.Lw
open Go

def an_law_ModelAgain : Tr := (.node 33 (.ce (.int .i64)) (.node 17 (.ce (.int .i64)) (.node 9 (.ce (.one)) (.node 5 (.ce (.one)) (.node 1 (.ce (.one)) (.node 0 (.agg [.any, .any, .any, .any, .any]) .nil .nil) (.node 4 (.ce (.bool)) .nil .nil)) (.node 7 (.ce (.int .i64)) (.node 6 (.ce (.int .i64)) .nil .nil) (.node 8 (.ce (.int .i64)) .nil .nil))) (.node 13 (.agg [.any, .any, .any, .any, .any]) (.node 11 (.ce (.bool)) (.node 10 (.ce (.bool)) .nil .nil) (.node 12 (.tup 2) .nil .nil)) (.node 15 (.tup 2) (.node 14 (.ce (.one)) .nil .nil) (.node 16 (.ce (.one)) .nil .nil)))) (.node 25 (.ce (.int .i64)) (.node 21 (.ce (.int .i64)) (.node 19 (.ce (.bool)) (.node 18 (.ce (.int .i64)) .nil .nil) (.node 20 (.ce (.one)) .nil .nil)) (.node 23 (.ce (.int .i64)) (.node 22 (.ce (.bool)) .nil .nil) (.node 24 (.ce (.one)) .nil .nil))) (.node 29 (.ce (.one)) (.node 27 (.ce (.int .i64)) (.node 26 (.ce (.bool)) .nil .nil) (.node 28 (.ce (.int .i64)) .nil .nil)) (.node 31 (.ce (.int .i64)) (.node 30 (.ce (.one)) .nil .nil) .nil)))) (.node 50 (.ce (.int .i64)) (.node 41 (.ce (.int .i64)) (.node 37 (.ce (.one)) (.node 35 (.ce (.bool)) (.node 34 (.ce (.bool)) .nil .nil) (.node 36 (.ce (.int .i64)) .nil .nil)) (.node 39 (.ce (.bool)) (.node 38 (.ce (.int .i64)) .nil .nil) (.node 40 (.ce (.int .i64)) .nil .nil))) (.node 46 (.ce (.one)) (.node 43 (.ce (.int .i64)) (.node 42 (.ce (.one)) .nil .nil) (.node 45 (.ce (.int .i64)) .nil .nil)) (.node 48 (.ce (.int .i64)) (.node 47 (.ce (.int .i64)) .nil .nil) .nil))) (.node 58 (.ce (.int .i64)) (.node 54 (.ce (.one)) (.node 52 (.tup 2) (.node 51 (.ce (.bool)) .nil .nil) (.node 53 (.agg [.any, .any, .any, .any, .any]) .nil .nil)) (.node 56 (.ce (.one)) (.node 55 (.tup 2) .nil .nil) (.node 57 (.ce (.int .i64)) .nil .nil))) (.node 62 (.ce (.one)) (.node 60 (.ce (.bool)) (.node 59 (.ce (.bool)) .nil .nil) (.node 61 (.ce (.one)) .nil .nil)) (.node 64 (.ce (.bool)) (.node 63 (.ce (.bool)) .nil .nil) .nil)))))

noncomputable def D_law_ModelAgain_b1 (pg : Prg) (v1 : PV) (v5 : PV) (x7 : Int) (vc0_0 : PV) (vc0_1 : PV) (vc0_2 : PV) (vc0_3 : PV) (vc0_4 : PV) (gh : List GObj) : Option (IExit × St) := isC (degr v1) (lenS (degr (degr v1)) fun n1 => stK 1 v1 (stK 1 v5 (
  br 26 (decide (x7 < (n1 : Int))) (isC (degr v5) (isC (degr v1) (
  idX 1 none (degr (degr v1)) x7 fun p2 => 
  ldX [[vc0_0, vc0_1, vc0_2, vc0_3, vc0_4]] gh false 1 (degr p2) fun v3 => unI .i64 v3 fun n4 => arK (degr (degr v5)) (
  callR gh true (callL pg 45 [(degr (degr v5)), (.int .i64 n4)] gh) fun r5 gh6 => unB r5 fun b7 => stK 1 v1 (stK 1 v5 (
  br 35 (!b7) (some (.ret, ⟨[(4, (.bool false))], [], gh6⟩)) (stK 1 v1 (stK 1 v5 (stK 1 v1 (stK 1 v5 (some (.normal, ⟨[(1, v1), (2, (.ptr false 0 0)), (5, v5), (7, (.int .i64 (IntKind.i64.wrap (x7 + 1))))], [[vc0_0, vc0_1, vc0_2, vc0_3, vc0_4]], gh6⟩)))))))))))) (some ((.exit 0), ⟨[(1, v1), (2, (.ptr false 0 0)), (5, v5), (7, (.int .i64 x7)), (26, (.bool (decide (x7 < (n1 : Int)))))], [[vc0_0, vc0_1, vc0_2, vc0_3, vc0_4]], gh⟩)))))

theorem D_law_ModelAgain_b1_ok {pg : Prg} {gh : List GObj} {v1 : PV} {v5 : PV} {x7 : Int} {vc0_0 : PV} {vc0_1 : PV} {vc0_2 : PV} {vc0_3 : PV} {vc0_4 : PV} {e : IExit} {s : St} (h : D_law_ModelAgain_b1 pg v1 v5 x7 vc0_0 vc0_1 vc0_2 vc0_3 vc0_4 gh = some (e, s)) : runL pg f_law_ModelAgain_b1 ⟨[(1, v1), (2, (.ptr false 0 0)), (5, v5), (7, (.int .i64 x7))], [[vc0_0, vc0_1, vc0_2, vc0_3, vc0_4]], gh⟩ = some (e, s) :=
  runX_ok an_law_ModelAgain (Eq.trans (by kernel_rfl) h)

noncomputable def D_law_ModelAgain_b2 (pg : Prg) (v5 : PV) (x8 : Int) (vc0_0 : PV) (vc0_1 : PV) (vc0_2 : PV) (vc0_3 : PV) (vc0_4 : PV) (gh : List GObj) : Option (IExit × St) := isC (degr v5) (lenS (degr (degr v5)) fun n1 => stK 1 v5 (
  br 39 (decide (x8 < (n1 : Int))) (isC (degr v5) (
  idX 1 none (degr (degr v5)) x8 fun p2 => 
  ldX [[vc0_0, vc0_1, vc0_2, vc0_3, vc0_4]] gh false 1 (degr p2) fun v3 => unI .i64 v3 fun n4 => isC (degr v5) (
  idX 1 none (degr (degr v5)) (IntKind.i64.wrap (x8 - 1)) fun p5 => 
  ldX [[vc0_0, vc0_1, vc0_2, vc0_3, vc0_4]] gh false 1 (degr p5) fun v6 => unI .i64 v6 fun n7 => stK 1 v5 (
  br 51 (decide (n4 ≤ n7)) (some (.ret, ⟨[(4, (.bool false))], [], gh⟩)) (stK 1 v5 (stK 1 v5 (some (.normal, ⟨[(2, (.ptr false 0 0)), (5, v5), (8, (.int .i64 (IntKind.i64.wrap (x8 + 1))))], [[vc0_0, vc0_1, vc0_2, vc0_3, vc0_4]], gh⟩)))))))) (some ((.exit 2), ⟨[(2, (.ptr false 0 0)), (5, v5), (8, (.int .i64 x8)), (39, (.bool (decide (x8 < (n1 : Int)))))], [[vc0_0, vc0_1, vc0_2, vc0_3, vc0_4]], gh⟩))))

theorem D_law_ModelAgain_b2_ok {pg : Prg} {gh : List GObj} {v5 : PV} {x8 : Int} {vc0_0 : PV} {vc0_1 : PV} {vc0_2 : PV} {vc0_3 : PV} {vc0_4 : PV} {e : IExit} {s : St} (h : D_law_ModelAgain_b2 pg v5 x8 vc0_0 vc0_1 vc0_2 vc0_3 vc0_4 gh = some (e, s)) : runL pg f_law_ModelAgain_b2 ⟨[(2, (.ptr false 0 0)), (5, v5), (8, (.int .i64 x8))], [[vc0_0, vc0_1, vc0_2, vc0_3, vc0_4]], gh⟩ = some (e, s) :=
  runX_ok an_law_ModelAgain (Eq.trans (by kernel_rfl) h)

noncomputable def D_law_ModelAgain_k2 (pg : Prg) (v5 : PV) (vc0_0 : PV) (vc0_1 : PV) (vc0_2 : PV) (vc0_3 : PV) (vc0_4 : PV) (gh : List GObj) : Option (IExit × St) := isC (degr v5) (onK (degr1 (degr1 vc0_0)) (onK (degr1 (degr1 vc0_1)) (onK (degr1 (degr1 vc0_2)) (onK (degr1 (degr1 vc0_3)) (onK (degr1 (degr1 vc0_4)) (arK (degr (degr v5)) (
  callR gh true (callL pg 42 [(.agg [(degr1 (degr1 vc0_0)), (degr1 (degr1 vc0_1)), (degr1 (degr1 vc0_2)), (degr1 (degr1 vc0_3)), (degr1 (degr1 vc0_4))]), (degr (degr v5))] gh) fun r1 gh2 => unT 2 r1 fun r3 r4 => isC (degr1 (degr1 r3)) (unI .i64 (degr1 (degr1 r4)) fun n5 => stK 0 v5 (stK 0 (degr1 (degr1 r3)) (
  br 60 (n5 == 0) (isC (degr (degr1 (degr1 r3))) (isC (degr v5) (arK (degr (degr (degr1 (degr1 r3)))) (arK (degr (degr v5)) (
  callR gh2 true (callL pg 46 [(degr (degr (degr1 (degr1 r3)))), (degr (degr v5))] gh2) fun r6 gh7 => unB r6 fun b8 => some (.ret, ⟨[(4, (.bool b8))], [], gh7⟩)))))) (some (.ret, ⟨[(4, (.bool false))], [], gh2⟩))))))))))))

theorem D_law_ModelAgain_k2_ok {pg : Prg} {gh : List GObj} {v5 : PV} {vc0_0 : PV} {vc0_1 : PV} {vc0_2 : PV} {vc0_3 : PV} {vc0_4 : PV} {e : IExit} {s : St} (h : D_law_ModelAgain_k2 pg v5 vc0_0 vc0_1 vc0_2 vc0_3 vc0_4 gh = some (e, s)) : runL pg f_law_ModelAgain_k2 ⟨[(2, (.ptr false 0 0)), (5, v5)], [[vc0_0, vc0_1, vc0_2, vc0_3, vc0_4]], gh⟩ = some (e, s) :=
  runX_ok an_law_ModelAgain (Eq.trans (by kernel_rfl) h)

noncomputable def D_law_ModelAgain_k1 (pg : Prg) (v5 : PV) (vc0_0 : PV) (vc0_1 : PV) (vc0_2 : PV) (vc0_3 : PV) (vc0_4 : PV) (gh : List GObj) : Option (IExit × St) := stK 1 v5 (
  kR (runL pg f_law_ModelAgain_l2 ⟨[(2, (.ptr false 0 0)), (5, v5), (8, (.int .i64 1))], [[vc0_0, vc0_1, vc0_2, vc0_3, vc0_4]], gh⟩) (fun e s => nx e s (fun e s => some (e, s)) fun s => kR (runL pg f_law_ModelAgain_k2 s) (fun e s => some (e, s))))

theorem D_law_ModelAgain_k1_ok {pg : Prg} {gh : List GObj} {v5 : PV} {vc0_0 : PV} {vc0_1 : PV} {vc0_2 : PV} {vc0_3 : PV} {vc0_4 : PV} {e : IExit} {s : St} (h : D_law_ModelAgain_k1 pg v5 vc0_0 vc0_1 vc0_2 vc0_3 vc0_4 gh = some (e, s)) : runL pg f_law_ModelAgain_k1 ⟨[(2, (.ptr false 0 0)), (5, v5)], [[vc0_0, vc0_1, vc0_2, vc0_3, vc0_4]], gh⟩ = some (e, s) :=
  runX_ok an_law_ModelAgain (Eq.trans (by kernel_rfl) h)

noncomputable def D_law_ModelAgain_0 (pg : Prg) (v0_0 : PV) (v0_1 : PV) (v0_2 : PV) (v0_3 : PV) (v0_4 : PV) (v1 : PV) (gh : List GObj) : Option (IExit × St) := onK (degr1 v0_0) (onK (degr1 v0_1) (onK (degr1 v0_2) (onK (degr1 v0_3) (onK (degr1 v0_4) (stK 1 v1 (
  callR gh true (callL pg 37 [] gh) fun r1 gh2 => unB r1 fun b3 => stK 1 v1 (
  br 11 (!b3) (some (.ret, ⟨[(4, (.bool false))], [], gh2⟩)) (isC (degr v1) (onK (degr1 (degr1 (degr1 v0_0))) (onK (degr1 (degr1 (degr1 v0_1))) (onK (degr1 (degr1 (degr1 v0_2))) (onK (degr1 (degr1 (degr1 v0_3))) (onK (degr1 (degr1 (degr1 v0_4))) (arK (degr (degr v1)) (
  callR gh2 true (callL pg 42 [(.agg [(degr1 (degr1 (degr1 v0_0))), (degr1 (degr1 (degr1 v0_1))), (degr1 (degr1 (degr1 v0_2))), (degr1 (degr1 (degr1 v0_3))), (degr1 (degr1 (degr1 v0_4)))]), (degr (degr v1))] gh2) fun r4 gh5 => unT 2 r4 fun r6 r7 => isC (degr1 (degr1 r6)) (unI .i64 (degr1 (degr1 r7)) fun n8 => stK 1 v1 (stK 1 (degr1 (degr1 r6)) (stK 1 v1 (stK 1 (degr1 (degr1 r6)) (
  br 19 (n8 != 0) (isC (degr (degr1 (degr1 r6))) (lenS (degr (degr (degr1 (degr1 r6)))) fun n9 => some (.ret, ⟨[(4, (.bool ((n9 : Int) == 0)))], [], gh5⟩))) (stK 1 v1 (stK 1 (degr1 (degr1 r6)) (
  kR (runL pg f_law_ModelAgain_l1 ⟨[(1, v1), (2, (.ptr false 0 0)), (5, (degr1 (degr1 r6))), (7, (.int .i64 0))], [[(degr1 v0_0), (degr1 v0_1), (degr1 v0_2), (degr1 v0_3), (degr1 v0_4)]], gh5⟩) (fun e s => nx e s (fun e s => some (e, s)) fun s => kR (runL pg f_law_ModelAgain_k1 s) (fun e s => some (e, s))))))))))))))))))))))))))

theorem D_law_ModelAgain_0_ok {pg : Prg} {gh : List GObj} {v0_0 : PV} {v0_1 : PV} {v0_2 : PV} {v0_3 : PV} {v0_4 : PV} {v1 : PV} {e : IExit} {s : St} (h : D_law_ModelAgain_0 pg v0_0 v0_1 v0_2 v0_3 v0_4 v1 gh = some (e, s)) : runL pg f_law_ModelAgain_0 ⟨[(0, (.agg [v0_0, v0_1, v0_2, v0_3, v0_4])), (1, v1)], [], gh⟩ = some (e, s) :=
  runX_ok an_law_ModelAgain (Eq.trans (by kernel_rfl) h)

end Go.Lw
end

/-! What the code of function ref_Has comes to, piece by piece. Written by program (dprint.py). -/
section
set_option maxRecDepth 10000
set_option maxHeartbeats 4000000
namespace Go.Lw
open Go

def an_ref_Has : Tr := (.node 9 (.ce (.bool)) (.node 5 (.ce (.int .i64)) (.node 1 (.ce (.int .i64)) (.node 0 (.ce (.one)) .nil .nil) (.node 4 (.ce (.bool)) .nil .nil)) (.node 7 (.ce (.one)) (.node 6 (.ce (.int .i64)) .nil .nil) (.node 8 (.ce (.int .i64)) .nil .nil))) (.node 13 (.ce (.int .i64)) (.node 11 (.ce (.int .i64)) (.node 10 (.ce (.int .i64)) .nil .nil) (.node 12 (.ce (.one)) .nil .nil)) (.node 16 (.ce (.int .i64)) (.node 15 (.ce (.int .i64)) .nil .nil) (.node 17 (.ce (.bool)) .nil .nil))))

noncomputable def D_ref_Has_b1 (pg : Prg) (v0 : PV) (x1 : Int) (x5 : Int) (gh : List GObj) : Option (IExit × St) := isC (degr v0) (lenS (degr (degr v0)) fun n1 => stK 0 v0 (
  br 9 (decide (x5 < (n1 : Int))) (isC (degr v0) (
  idX 1 none (degr (degr v0)) x5 fun p2 => 
  ldX [] gh false 1 (degr p2) fun v3 => unI .i64 v3 fun n4 => stK 0 v0 (
  br 17 (n4 == x1) (some (.ret, ⟨[(4, (.bool true))], [], gh⟩)) (stK 0 v0 (stK 0 v0 (some (.normal, ⟨[(0, v0), (1, (.int .i64 x1)), (5, (.int .i64 (IntKind.i64.wrap (x5 + 1))))], [], gh⟩))))))) (some ((.exit 0), ⟨[(0, v0), (1, (.int .i64 x1)), (5, (.int .i64 x5)), (9, (.bool (decide (x5 < (n1 : Int)))))], [], gh⟩))))

theorem D_ref_Has_b1_ok {pg : Prg} {gh : List GObj} {v0 : PV} {x1 : Int} {x5 : Int} {e : IExit} {s : St} (h : D_ref_Has_b1 pg v0 x1 x5 gh = some (e, s)) : runL pg f_ref_Has_b1 ⟨[(0, v0), (1, (.int .i64 x1)), (5, (.int .i64 x5))], [], gh⟩ = some (e, s) :=
  runX_ok an_ref_Has (Eq.trans (by kernel_rfl) h)

noncomputable def D_ref_Has_0 (pg : Prg) (v0 : PV) (x1 : Int) (gh : List GObj) : Option (IExit × St) := stK 0 v0 (stK 0 v0 (
  kR (runL pg f_ref_Has_l1 ⟨[(0, v0), (1, (.int .i64 x1)), (5, (.int .i64 0))], [], gh⟩) (fun e s => nx e s (fun e s => some (e, s)) fun s => kR (runL pg f_ref_Has_k1 s) (fun e s => some (e, s)))))

theorem D_ref_Has_0_ok {pg : Prg} {gh : List GObj} {v0 : PV} {x1 : Int} {e : IExit} {s : St} (h : D_ref_Has_0 pg v0 x1 gh = some (e, s)) : runL pg f_ref_Has_0 ⟨[(0, v0), (1, (.int .i64 x1))], [], gh⟩ = some (e, s) :=
  runX_ok an_ref_Has (Eq.trans (by kernel_rfl) h)

end Go.Lw
end
