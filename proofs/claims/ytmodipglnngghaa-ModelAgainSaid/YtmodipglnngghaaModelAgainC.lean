/-
  The texts that the proof stands on, part 3.
-/
import Derived.Test.YtmodipglnngghaaModelAgainB
set_option linter.unusedVariables false
set_option linter.unusedSimpArgs false
set_option linter.unnecessarySimpa false

/-! Library functions, told as they are. -/
section
namespace Go.Lw
open Go

def libClone (z bytes : Nat) : List PV → List GObj → Option (PV × List GObj)
  | [.sl _ z' xs], gh => if z' = z ∧ xs.length * bytes ≤ maxBytes then some (.sl true z xs, gh) else none
  | _, _ => none

/-- slices.Clone, whose answer is a stack (if there is anything). -/
def libCloneK (bytes : Nat) : List PV → List GObj → Option (PV × List GObj)
  | [.sl o z' xs], gh => if xs = [] then libClone 1 bytes [.sl o z' xs] gh
      else if z' = 1 ∧ xs.length * bytes ≤ maxBytes ∧ xs.all isFlat = true then some (.stk gh.length 1 xs.length, gh ++ [.stk 1 xs]) else none
  | _, _ => none

/-- slices.Grow of no list. -/
def libGrow (z bytes : Nat) : List PV → List GObj → Option (PV × List GObj)
  | [.nils, .int .i64 n], gh => if 0 ≤ n ∧ n.toNat * bytes ≤ maxBytes then some (.sl true z [], gh) else none
  | _, _ => none

end Go.Lw
end

/-! The code of package Law for the small machine. Written by program (gen.py). -/
section
set_option maxRecDepth 10000
namespace Go.Lw
open Go

/- 0: latchwork/latchworklaw.GatesAnds -/
/- 5: latchwork/latchworklaw.gatesBegun -/
/- 8: latchwork/latchworklaw.GatesEvals -/
/- at its head: [2, 7, 8, 9, 10, 11, 12] -/
/- 13: latchwork/latchworklaw.sameBools -/
/- at its head: [0, 1, 5] -/
/- 14: latchwork/latchworklaw.GatesKeep -/
/- at its head: [1, 2, 3, 4, 9, 10, 12, 13] -/
/- 15: latchwork/latchworklaw.CnfOfs -/
/- 18: latchwork/latchworklaw.cnfBegun -/
/- 19: latchwork/latchworklaw.clausesAre -/
/- 20: latchwork/latchworklaw.WordFits -/
/- 21: latchwork/latchworklaw.wordBegun -/
/- 24: latchwork/latchworklaw.WordApplies -/
/- at its head: [0, 1, 3, 7, 9, 11, 12, 13, 14, 15, 16] -/
/- 29: latchwork/latchworklaw.WordTurns -/
/- 30: latchwork/latchworklaw.choose -/
/- 31: latchwork/latchworklaw.CnfTells -/
/- at its head: [1, 2, 3, 4, 9, 11, 12] -/
/- at its head: [3, 4, 9, 11, 13, 14, 16, 17] -/
/- 33: latchwork/latchworklaw.ModelChecks -/
/- 37: latchwork/latchworklaw.modelBegun -/
def f_law_modelBegun_0 : ICode :=
  (.seq (.post (.region [
    ⟨.mv 0 (.c (.bool false)), none⟩] false) [] 0)
  (.seq (.post (.region [
    ⟨.call (some 4) true 75 [], none⟩,
    ⟨.call (some 5) true 35 [(.t 4)], none⟩,
    ⟨.mv 3 (.t 5), none⟩,
    ⟨.extract 6 (.t 3) 0, none⟩,
    ⟨.extract 7 (.t 3) 1, none⟩,
    ⟨.tk 1 6, none⟩,
    ⟨.mv 2 (.t 7), none⟩] false) [1, 2] 0)
  (.seq (.post (.region [
    ⟨.call (some 8) true 75 [], none⟩,
    ⟨.call (some 9) true 38 [(.t 8)], none⟩,
    ⟨.bin 10 .eql (.t 9) (.c (.int .i64 0)), none⟩,
    ⟨.mv 11 (.t 10), none⟩,
    ⟨.mv 12 (.t 2), some (11, true)⟩,
    ⟨.bin 13 .eql (.t 12) (.c (.int .i64 0)), some (11, true)⟩,
    ⟨.pick 14 (.t 11) (.t 13) (.c (.bool false)), none⟩,
    ⟨.mv 15 (.t 14), none⟩,
    ⟨.mv 16 (.t 1), some (15, true)⟩,
    ⟨.len 17 0 (.t 16), some (15, true)⟩,
    ⟨.bin 18 .eql (.t 17) (.c (.int .i64 1)), some (15, true)⟩,
    ⟨.pick 19 (.t 15) (.t 18) (.c (.bool false)), none⟩,
    ⟨.mv 20 (.t 19), none⟩,
    ⟨.mv 21 (.t 1), some (20, true)⟩,
    ⟨.iaddr 22 1 none (.t 21) (.c (.int .i64 0)), some (20, true)⟩,
    ⟨.load 23 false 1 (.t 22), some (20, true)⟩,
    ⟨.bin 24 .eql (.t 23) (.c (.int .i64 1)), some (20, true)⟩,
    ⟨.pick 25 (.t 20) (.t 24) (.c (.bool false)), none⟩,
    ⟨.mv 0 (.t 25), none⟩] false) [0] 0)
  .ret)))
def f_law_modelBegun : IFunc := { np := 0, res := [.t 0], own := false, trunc := true, body := f_law_modelBegun_0 }

/- 40: latchwork/latchworklaw.listIs -/
/- 41: latchwork/latchworklaw.ModelCones -/
/- 44: latchwork/latchworklaw.ModelAgain -/
/- at its head: [1, 2, 5, 7] -/
def f_law_ModelAgain_b1 : ICode :=
  (.post (.seq (.seq (.post (.region [
    ⟨.mv 23 (.t 7), none⟩,
    ⟨.mv 24 (.t 1), none⟩,
    ⟨.len 25 0 (.t 24), none⟩,
    ⟨.bin 26 .lss (.t 23) (.t 25), none⟩] false) [1, 2, 5, 7, 26] 1)
  (.cond (.t 26) .skip
  (.exit 0)))
  (.seq (.block 1 (.seq (.post (.region [
    ⟨.mv 29 (.t 5), none⟩,
    ⟨.mv 30 (.t 1), none⟩,
    ⟨.mv 31 (.t 7), none⟩,
    ⟨.iaddr 32 1 none (.t 30) (.t 31), none⟩,
    ⟨.load 33 false 1 (.t 32), none⟩,
    ⟨.call (some 34) true 45 [(.t 29), (.t 33)], none⟩,
    ⟨.un 35 .not (.t 34), none⟩] false) [1, 2, 5, 7, 35] 1)
  (.cond (.t 35) (.seq (.post (.region [
    ⟨.mv 4 (.c (.bool false)), none⟩] false) [4] 0)
  .ret)
  .skip)))
  (.post (.region [
    ⟨.mv 27 (.t 7), none⟩,
    ⟨.bin 28 .add (.t 27) (.c (.int .i64 1)), none⟩,
    ⟨.mv 7 (.t 28), none⟩] false) [1, 2, 5, 7] 1))) [1, 2, 5, 7] 1)
def f_law_ModelAgain_l1 : ICode :=
  (.post (.block 0 (.loop f_law_ModelAgain_b1)) [2, 5] 1)
/- at its head: [2, 5, 8] -/
def f_law_ModelAgain_b2 : ICode :=
  (.post (.seq (.seq (.post (.region [
    ⟨.mv 36 (.t 8), none⟩,
    ⟨.mv 37 (.t 5), none⟩,
    ⟨.len 38 0 (.t 37), none⟩,
    ⟨.bin 39 .lss (.t 36) (.t 38), none⟩] false) [2, 5, 8, 39] 1)
  (.cond (.t 39) .skip
  (.exit 2)))
  (.seq (.block 3 (.seq (.post (.region [
    ⟨.mv 42 (.t 5), none⟩,
    ⟨.mv 43 (.t 8), none⟩,
    ⟨.iaddr 44 1 none (.t 42) (.t 43), none⟩,
    ⟨.load 45 false 1 (.t 44), none⟩,
    ⟨.mv 46 (.t 5), none⟩,
    ⟨.mv 47 (.t 8), none⟩,
    ⟨.bin 48 .sub (.t 47) (.c (.int .i64 1)), none⟩,
    ⟨.iaddr 49 1 none (.t 46) (.t 48), none⟩,
    ⟨.load 50 false 1 (.t 49), none⟩,
    ⟨.bin 51 .leq (.t 45) (.t 50), none⟩] true) [2, 5, 8, 51] 1)
  (.cond (.t 51) (.seq (.post (.region [
    ⟨.mv 4 (.c (.bool false)), none⟩] false) [4] 0)
  .ret)
  .skip)))
  (.post (.region [
    ⟨.mv 40 (.t 8), none⟩,
    ⟨.bin 41 .add (.t 40) (.c (.int .i64 1)), none⟩,
    ⟨.mv 8 (.t 41), none⟩] false) [2, 5, 8] 1))) [2, 5, 8] 1)
def f_law_ModelAgain_l2 : ICode :=
  (.post (.block 2 (.loop f_law_ModelAgain_b2)) [2, 5] 1)
def f_law_ModelAgain_k2 : ICode :=
  (.seq (.post (.region [
    ⟨.load 53 true 5 (.t 2), none⟩,
    ⟨.mv 54 (.t 5), none⟩,
    ⟨.call (some 55) true 42 [(.t 53), (.t 54)], none⟩,
    ⟨.mv 52 (.t 55), none⟩,
    ⟨.extract 56 (.t 52) 0, none⟩,
    ⟨.extract 57 (.t 52) 1, none⟩,
    ⟨.tk 9 56, none⟩,
    ⟨.mv 6 (.t 57), none⟩] false) [5, 6, 9] 0)
  (.seq (.post (.region [
    ⟨.mv 58 (.t 6), none⟩,
    ⟨.bin 59 .eql (.t 58) (.c (.int .i64 0)), none⟩,
    ⟨.mv 60 (.t 59), none⟩,
    ⟨.mv 61 (.t 9), some (60, true)⟩,
    ⟨.mv 62 (.t 5), some (60, true)⟩,
    ⟨.call (some 63) true 46 [(.t 61), (.t 62)], some (60, true)⟩,
    ⟨.pick 64 (.t 60) (.t 63) (.c (.bool false)), none⟩,
    ⟨.mv 4 (.t 64), none⟩] false) [4] 0)
  .ret))
def f_law_ModelAgain_k1 : ICode :=
  (.seq (.seq (.post (.region [
    ⟨.mv 8 (.c (.int .i64 1)), none⟩] false) [2, 5, 8] 1)
  (.cut f_law_ModelAgain_l2))
  (.cut f_law_ModelAgain_k2))
def f_law_ModelAgain_0 : ICode :=
  (.seq (.post (.region [
    ⟨.box 2 false false (.t 0), none⟩,
    ⟨.mv 4 (.c (.bool false)), none⟩] false) [1, 2] 1)
  (.seq (.seq (.post (.region [
    ⟨.call (some 10) true 37 [], none⟩,
    ⟨.un 11 .not (.t 10), none⟩] false) [1, 2, 11] 1)
  (.cond (.t 11) (.seq (.post (.region [
    ⟨.mv 4 (.c (.bool false)), none⟩] false) [4] 0)
  .ret)
  .skip))
  (.seq (.post (.region [
    ⟨.load 13 true 5 (.t 2), none⟩,
    ⟨.mv 14 (.t 1), none⟩,
    ⟨.call (some 15) true 42 [(.t 13), (.t 14)], none⟩,
    ⟨.mv 12 (.t 15), none⟩,
    ⟨.extract 16 (.t 12) 0, none⟩,
    ⟨.extract 17 (.t 12) 1, none⟩,
    ⟨.tk 5 16, none⟩,
    ⟨.mv 6 (.t 17), none⟩] false) [1, 2, 5, 6] 1)
  (.seq (.seq (.post (.region [
    ⟨.mv 18 (.t 6), none⟩,
    ⟨.bin 19 .neq (.t 18) (.c (.int .i64 0)), none⟩] false) [1, 2, 5, 19] 1)
  (.cond (.t 19) (.seq (.post (.region [
    ⟨.mv 20 (.t 5), none⟩,
    ⟨.len 21 0 (.t 20), none⟩,
    ⟨.bin 22 .eql (.t 21) (.c (.int .i64 0)), none⟩,
    ⟨.mv 4 (.t 22), none⟩] false) [4] 0)
  .ret)
  .skip))
  (.seq (.seq (.post (.region [
    ⟨.mv 7 (.c (.int .i64 0)), none⟩] false) [1, 2, 5, 7] 1)
  (.cut f_law_ModelAgain_l1))
  (.cut f_law_ModelAgain_k1))))))
def f_law_ModelAgain : IFunc := { np := 2, res := [.t 4], own := false, trunc := true, body := f_law_ModelAgain_0 }

/- 75: latchwork/latchworklaw.toggle -/
def f_law_toggle_0 : ICode :=
  (.seq (.region [
    ⟨.alloc 0 false (.agg [.sl true 6 [], .sl true 2 [], .sl true 2 [], .sl true 1 [], .sl true 1 []]), none⟩] false)
  (.seq (.post (.region [
    ⟨.build 1 [.int .i64 0, .int .i64 0, .int .i64 0, .int .i64 0, .int .i64 0, .int .i64 0] [(0, 1, (.c (.int .i64 1))), (1, 1, (.c (.int .i64 1)))], none⟩,
    ⟨.build 2 [.int .i64 0, .int .i64 0, .int .i64 0, .int .i64 0, .int .i64 0, .int .i64 0] [(0, 1, (.c (.int .i64 3))), (1, 1, (.c (.int .i64 1)))], none⟩,
    ⟨.build 3 [.int .i64 0, .int .i64 0, .int .i64 0, .int .i64 0, .int .i64 0, .int .i64 0] [(0, 1, (.c (.int .i64 4))), (1, 1, (.c (.int .i64 1))), (2, 1, (.c (.int .i64 1)))], none⟩,
    ⟨.buildSl 4 6 [(.t 1), (.t 2), (.t 3)], none⟩,
    ⟨.build 5 [.int .i64 0, .int .i64 0] [(0, 1, (.c (.int .i64 1))), (1, 1, (.c (.int .i64 0)))], none⟩,
    ⟨.buildSl 6 2 [(.t 5)], none⟩,
    ⟨.build 7 [.int .i64 0, .int .i64 0] [(0, 1, (.c (.int .i64 1))), (1, 1, (.c (.int .i64 2)))], none⟩,
    ⟨.buildSl 8 2 [(.t 7)], none⟩,
    ⟨.buildSl 9 1 [(.c (.int .i64 1))], none⟩,
    ⟨.buildT 10 [.sl true 6 [], .sl true 2 [], .sl true 2 [], .sl true 1 [], .sl true 1 []] [(0, 1, (.t 4)), (1, 1, (.t 6)), (2, 1, (.t 8)), (3, 1, (.t 9))], none⟩,
    ⟨.store true 5 (.t 0) (.t 10), none⟩] false) [0] 1)
  .ret))
def f_law_toggle : IFunc := { np := 0, res := [.cell 0 true 5], own := false, trunc := true, body := f_law_toggle_0 }

end Go.Lw
end

/-! The code of package Lib for the small machine. Written by program (gen.py). -/
section
set_option maxRecDepth 10000
namespace Go.Lw
open Go

/- 82: slices.Concat[[]latchwork/api.Pair,latchwork/api.Pair] -/
/- at its head: [0, 3, 9, 10, 11] -/
def f_slices_Concat_Lapi_Pair_api_Pair_b1 : ICode :=
  (.post (.seq (.region [
    ⟨.bin 12 .lss (.t 11) (.t 10), none⟩] false)
  (.seq (.cond (.t 12) .skip
  (.exit 0))
  (.seq (.block 1 (.seq (.post (.region [
    ⟨.iaddr 13 1 none (.t 9) (.t 11), none⟩,
    ⟨.load 14 false 1 (.t 13), none⟩,
    ⟨.tk 5 14, none⟩] false) [0, 3, 5, 9, 10, 11] 0)
  (.seq (.post (.region [
    ⟨.mv 15 (.t 3), none⟩,
    ⟨.mv 16 (.t 5), none⟩,
    ⟨.len 17 0 (.t 16), none⟩,
    ⟨.bin 18 .add (.t 15) (.t 17), none⟩,
    ⟨.mv 3 (.t 18), none⟩] false) [0, 3, 9, 10, 11] 0)
  (.seq (.post (.region [
    ⟨.mv 19 (.t 3), none⟩,
    ⟨.bin 20 .lss (.t 19) (.c (.int .i64 0)), none⟩] false) [0, 3, 9, 10, 11, 20] 0)
  (.cond (.t 20) .bad
  .skip)))))
  (.post (.region [
    ⟨.bin 22 .add (.t 11) (.c (.int .i64 1)), none⟩,
    ⟨.mv 11 (.t 22), none⟩] false) [0, 3, 9, 10, 11] 0)))) [0, 3, 9, 10, 11] 0)
def f_slices_Concat_Lapi_Pair_api_Pair_l1 : ICode :=
  (.post (.block 0 (.loop f_slices_Concat_Lapi_Pair_api_Pair_b1)) [0, 3] 0)
/- at its head: [6, 25, 26, 27] -/
def f_slices_Concat_Lapi_Pair_api_Pair_b2 : ICode :=
  (.post (.seq (.region [
    ⟨.bin 28 .lss (.t 27) (.t 26), none⟩] false)
  (.seq (.cond (.t 28) .skip
  (.exit 2))
  (.seq (.block 3 (.seq (.post (.region [
    ⟨.iaddr 29 1 none (.t 25) (.t 27), none⟩,
    ⟨.load 30 false 1 (.t 29), none⟩,
    ⟨.tk 8 30, none⟩] false) [6, 8, 25, 26, 27] 0)
  (.post (.region [
    ⟨.tk 31 6, none⟩,
    ⟨.mv 32 (.t 8), none⟩,
    ⟨.append 33 2 16 (.t 31) (.t 32), none⟩,
    ⟨.tk 6 33, none⟩] false) [6, 25, 26, 27] 0)))
  (.post (.region [
    ⟨.bin 34 .add (.t 27) (.c (.int .i64 1)), none⟩,
    ⟨.mv 27 (.t 34), none⟩] false) [6, 25, 26, 27] 0)))) [6, 25, 26, 27] 0)
def f_slices_Concat_Lapi_Pair_api_Pair_l2 : ICode :=
  (.post (.block 2 (.loop f_slices_Concat_Lapi_Pair_api_Pair_b2)) [6] 0)
def f_slices_Concat_Lapi_Pair_api_Pair_k2 : ICode :=
  (.seq (.post (.region [
    ⟨.mv 35 (.t 6), none⟩,
    ⟨.tk 2 35, none⟩] false) [2] 0)
  .ret)
def f_slices_Concat_Lapi_Pair_api_Pair_k1 : ICode :=
  (.seq (.post (.region [
    ⟨.mv 23 (.t 3), none⟩,
    ⟨.call (some 24) true 110 [(.c .nils), (.t 23)], none⟩,
    ⟨.tk 6 24, none⟩] false) [0, 6] 0)
  (.seq (.seq (.post (.region [
    ⟨.mv 25 (.t 0), none⟩,
    ⟨.len 26 0 (.t 25), none⟩,
    ⟨.mv 27 (.c (.int .i64 0)), none⟩] false) [6, 25, 26, 27] 0)
  (.cut f_slices_Concat_Lapi_Pair_api_Pair_l2))
  (.cut f_slices_Concat_Lapi_Pair_api_Pair_k2)))
def f_slices_Concat_Lapi_Pair_api_Pair_0 : ICode :=
  (.seq (.post (.region [
    ⟨.mv 2 (.c (.sl true 2 [])), none⟩] false) [0] 0)
  (.seq (.region [
    ⟨.mv 3 (.c (.int .i64 0)), none⟩] false)
  (.seq (.seq (.post (.region [
    ⟨.mv 9 (.t 0), none⟩,
    ⟨.len 10 0 (.t 9), none⟩,
    ⟨.mv 11 (.c (.int .i64 0)), none⟩] false) [0, 3, 9, 10, 11] 0)
  (.cut f_slices_Concat_Lapi_Pair_api_Pair_l1))
  (.cut f_slices_Concat_Lapi_Pair_api_Pair_k1))))
def f_slices_Concat_Lapi_Pair_api_Pair : IFunc := { np := 1, res := [.t 2], own := true, trunc := true, body := f_slices_Concat_Lapi_Pair_api_Pair_0 }

/- 86: slices.ContainsFunc[[]int,int] -/
def f_slices_ContainsFunc_Lint_int_0 : ICode :=
  (.seq (.post (.region [
    ⟨.mv 4 (.c (.bool false)), none⟩] false) [0, 1] 0)
  (.seq (.post (.region [
    ⟨.mv 5 (.t 0), none⟩,
    ⟨.mv 6 (.t 1), none⟩,
    ⟨.call (some 7) true 111 [(.t 5), (.t 6)], none⟩,
    ⟨.bin 8 .geq (.t 7) (.c (.int .i64 0)), none⟩,
    ⟨.mv 4 (.t 8), none⟩] false) [4] 0)
  .ret))
def f_slices_ContainsFunc_Lint_int : IFunc := { np := 2, res := [.t 4], own := false, trunc := true, body := f_slices_ContainsFunc_Lint_int_0 }

/- 100: slices.ContainsFunc[[][]int,[]int] -/
/- 107: slices.Concat[[]int,int] -/
/- at its head: [0, 3, 9, 10, 11] -/
def f_slices_Concat_Lint_int_b1 : ICode :=
  (.post (.seq (.region [
    ⟨.bin 12 .lss (.t 11) (.t 10), none⟩] false)
  (.seq (.cond (.t 12) .skip
  (.exit 0))
  (.seq (.block 1 (.seq (.post (.region [
    ⟨.iaddr 13 1 none (.t 9) (.t 11), none⟩,
    ⟨.load 14 false 1 (.t 13), none⟩,
    ⟨.tk 5 14, none⟩] false) [0, 3, 5, 9, 10, 11] 0)
  (.seq (.post (.region [
    ⟨.mv 15 (.t 3), none⟩,
    ⟨.mv 16 (.t 5), none⟩,
    ⟨.len 17 0 (.t 16), none⟩,
    ⟨.bin 18 .add (.t 15) (.t 17), none⟩,
    ⟨.mv 3 (.t 18), none⟩] false) [0, 3, 9, 10, 11] 0)
  (.seq (.post (.region [
    ⟨.mv 19 (.t 3), none⟩,
    ⟨.bin 20 .lss (.t 19) (.c (.int .i64 0)), none⟩] false) [0, 3, 9, 10, 11, 20] 0)
  (.cond (.t 20) .bad
  .skip)))))
  (.post (.region [
    ⟨.bin 22 .add (.t 11) (.c (.int .i64 1)), none⟩,
    ⟨.mv 11 (.t 22), none⟩] false) [0, 3, 9, 10, 11] 0)))) [0, 3, 9, 10, 11] 0)
def f_slices_Concat_Lint_int_l1 : ICode :=
  (.post (.block 0 (.loop f_slices_Concat_Lint_int_b1)) [0, 3] 0)
/- at its head: [6, 25, 26, 27] -/
def f_slices_Concat_Lint_int_b2 : ICode :=
  (.post (.seq (.region [
    ⟨.bin 28 .lss (.t 27) (.t 26), none⟩] false)
  (.seq (.cond (.t 28) .skip
  (.exit 2))
  (.seq (.block 3 (.seq (.post (.region [
    ⟨.iaddr 29 1 none (.t 25) (.t 27), none⟩,
    ⟨.load 30 false 1 (.t 29), none⟩,
    ⟨.tk 8 30, none⟩] false) [6, 8, 25, 26, 27] 0)
  (.post (.region [
    ⟨.tk 31 6, none⟩,
    ⟨.mv 32 (.t 8), none⟩,
    ⟨.append 33 1 8 (.t 31) (.t 32), none⟩,
    ⟨.tk 6 33, none⟩] false) [6, 25, 26, 27] 0)))
  (.post (.region [
    ⟨.bin 34 .add (.t 27) (.c (.int .i64 1)), none⟩,
    ⟨.mv 27 (.t 34), none⟩] false) [6, 25, 26, 27] 0)))) [6, 25, 26, 27] 0)
def f_slices_Concat_Lint_int_l2 : ICode :=
  (.post (.block 2 (.loop f_slices_Concat_Lint_int_b2)) [6] 0)
def f_slices_Concat_Lint_int_k2 : ICode :=
  (.seq (.post (.region [
    ⟨.mv 35 (.t 6), none⟩,
    ⟨.tk 2 35, none⟩] false) [2] 0)
  .ret)
def f_slices_Concat_Lint_int_k1 : ICode :=
  (.seq (.post (.region [
    ⟨.mv 23 (.t 3), none⟩,
    ⟨.call (some 24) true 119 [(.c .nils), (.t 23)], none⟩,
    ⟨.tk 6 24, none⟩] false) [0, 6] 0)
  (.seq (.seq (.post (.region [
    ⟨.mv 25 (.t 0), none⟩,
    ⟨.len 26 0 (.t 25), none⟩,
    ⟨.mv 27 (.c (.int .i64 0)), none⟩] false) [6, 25, 26, 27] 0)
  (.cut f_slices_Concat_Lint_int_l2))
  (.cut f_slices_Concat_Lint_int_k2)))
def f_slices_Concat_Lint_int_0 : ICode :=
  (.seq (.post (.region [
    ⟨.mv 2 (.c (.sl true 1 [])), none⟩] false) [0] 0)
  (.seq (.region [
    ⟨.mv 3 (.c (.int .i64 0)), none⟩] false)
  (.seq (.seq (.post (.region [
    ⟨.mv 9 (.t 0), none⟩,
    ⟨.len 10 0 (.t 9), none⟩,
    ⟨.mv 11 (.c (.int .i64 0)), none⟩] false) [0, 3, 9, 10, 11] 0)
  (.cut f_slices_Concat_Lint_int_l1))
  (.cut f_slices_Concat_Lint_int_k1))))
def f_slices_Concat_Lint_int : IFunc := { np := 1, res := [.t 2], own := true, trunc := true, body := f_slices_Concat_Lint_int_0 }

/- 111: slices.IndexFunc[[]int,int] -/
/- at its head: [0, 1, 7, 8] -/
def f_slices_IndexFunc_Lint_int_b1 : ICode :=
  (.post (.seq (.region [
    ⟨.bin 9 .lss (.t 8) (.t 7), none⟩] false)
  (.seq (.cond (.t 9) .skip
  (.exit 0))
  (.seq (.block 1 (.seq (.post (.region [
    ⟨.mv 10 (.t 8), none⟩,
    ⟨.mv 5 (.t 10), none⟩] false) [0, 1, 5, 7, 8] 0)
  (.seq (.post (.region [
    ⟨.mv 11 (.t 1), none⟩,
    ⟨.mv 12 (.t 0), none⟩,
    ⟨.mv 13 (.t 5), none⟩,
    ⟨.iaddr 14 1 none (.t 12) (.t 13), none⟩,
    ⟨.load 15 false 1 (.t 14), none⟩,
    ⟨.callv (some 16) true (.t 11) [(.t 15)], none⟩] false) [0, 1, 5, 7, 8, 16] 0)
  (.cond (.t 16) (.seq (.post (.region [
    ⟨.mv 17 (.t 5), none⟩,
    ⟨.mv 4 (.t 17), none⟩] false) [4] 0)
  .ret)
  .skip))))
  (.post (.region [
    ⟨.bin 18 .add (.t 8) (.c (.int .i64 1)), none⟩,
    ⟨.mv 8 (.t 18), none⟩] false) [0, 1, 7, 8] 0)))) [0, 1, 7, 8] 0)
def f_slices_IndexFunc_Lint_int_l1 : ICode :=
  (.post (.block 0 (.loop f_slices_IndexFunc_Lint_int_b1)) [] 0)
def f_slices_IndexFunc_Lint_int_k1 : ICode :=
  (.seq (.region [
    ⟨.mv 4 (.c (.int .i64 (-1))), none⟩] false)
  .ret)
def f_slices_IndexFunc_Lint_int_0 : ICode :=
  (.seq (.post (.region [
    ⟨.mv 4 (.c (.int .i64 0)), none⟩] false) [0, 1] 0)
  (.seq (.seq (.post (.region [
    ⟨.mv 6 (.t 0), none⟩,
    ⟨.len 7 0 (.t 6), none⟩,
    ⟨.mv 8 (.c (.int .i64 0)), none⟩] false) [0, 1, 7, 8] 0)
  (.cut f_slices_IndexFunc_Lint_int_l1))
  (.cut f_slices_IndexFunc_Lint_int_k1)))
def f_slices_IndexFunc_Lint_int : IFunc := { np := 2, res := [.t 4], own := false, trunc := true, body := f_slices_IndexFunc_Lint_int_0 }

/- 117: slices.IndexFunc[[][]int,[]int] -/
/- at its head: [0, 1, 7, 8] -/
end Go.Lw
end

/-! The code of package Model for the small machine. Written by program (gen.py). -/
section
set_option maxRecDepth 10000
namespace Go.Lw
open Go

/- 34: latchwork/model.Inputs -/
/- 35: latchwork/model.States -/
def f_model_States_0 : ICode :=
  (.seq (.post (.region [
    ⟨.box 1 false false (.t 0), none⟩,
    ⟨.mv 2 (.c (.sl true 1 [])), none⟩,
    ⟨.mv 3 (.c (.int .i64 0)), none⟩] false) [1] 1)
  (.seq (.post (.region [
    ⟨.load 4 true 5 (.t 1), none⟩,
    ⟨.call (some 5) true 71 [(.t 4), (.c (.int .i64 3))], none⟩,
    ⟨.extract 6 (.t 5) 0, none⟩,
    ⟨.extract 7 (.t 5) 1, none⟩,
    ⟨.tk 2 6, none⟩,
    ⟨.mv 3 (.t 7), none⟩] false) [2, 3] 0)
  .ret))
def f_model_States : IFunc := { np := 1, res := [.t 2, .t 3], own := false, trunc := true, body := f_model_States_0 }

/- 38: latchwork/model.Check -/
/- at its head: [1, 27, 28] -/
def f_model_Check_b1 : ICode :=
  (.post (.seq (.region [
    ⟨.bin 29 .lss (.t 28) (.t 27), none⟩] false)
  (.seq (.cond (.t 29) .skip
  (.exit 0))
  (.seq (.block 1 (.seq (.post (.region [
    ⟨.mv 30 (.t 28), none⟩,
    ⟨.mv 3 (.t 30), none⟩] false) [1, 3, 27, 28] 1)
  (.seq (.post (.region [
    ⟨.faddr 31 (.t 1) 0, none⟩,
    ⟨.load 32 false 1 (.t 31), none⟩,
    ⟨.mv 33 (.t 3), none⟩,
    ⟨.call (some 34) true 76 [(.t 32), (.t 33)], none⟩,
    ⟨.mv 4 (.t 34), none⟩] false) [1, 4, 27, 28] 1)
  (.seq (.post (.region [
    ⟨.mv 35 (.t 4), none⟩,
    ⟨.bin 36 .neq (.t 35) (.c (.int .i64 0)), none⟩] false) [1, 4, 27, 28, 36] 1)
  (.cond (.t 36) (.seq (.post (.region [
    ⟨.mv 37 (.t 4), none⟩,
    ⟨.mv 2 (.t 37), none⟩] false) [2] 0)
  .ret)
  .skip)))))
  (.post (.region [
    ⟨.bin 38 .add (.t 28) (.c (.int .i64 1)), none⟩,
    ⟨.mv 28 (.t 38), none⟩] false) [1, 27, 28] 1)))) [1, 27, 28] 1)
def f_model_Check_l1 : ICode :=
  (.post (.block 0 (.loop f_model_Check_b1)) [1] 1)
def f_model_Check_k1 : ICode :=
  (.seq (.seq (.post (.region [
    ⟨.load 40 true 5 (.t 1), none⟩,
    ⟨.call (some 41) true 77 [(.t 40)], none⟩,
    ⟨.mv 39 (.t 41), none⟩,
    ⟨.extract 42 (.t 39) 0, none⟩,
    ⟨.extract 43 (.t 39) 1, none⟩,
    ⟨.mv 5 (.t 42), none⟩,
    ⟨.mv 6 (.t 43), none⟩] false) [1, 5, 6] 1)
  (.seq (.post (.region [
    ⟨.mv 44 (.t 5), none⟩,
    ⟨.bin 45 .gtr (.t 44) (.c (.int .i64 6)), none⟩,
    ⟨.mv 46 (.t 45), none⟩,
    ⟨.mv 47 (.t 6), some (46, false)⟩,
    ⟨.bin 48 .gtr (.t 47) (.c (.int .i64 10)), some (46, false)⟩,
    ⟨.pick 49 (.t 46) (.c (.bool true)) (.t 48), none⟩] false) [1, 49] 1)
  (.cond (.t 49) (.seq (.post (.region [
    ⟨.mv 2 (.c (.int .i64 2)), none⟩] false) [2] 0)
  .ret)
  .skip)))
  (.seq (.post (.region [
    ⟨.load 50 true 5 (.t 1), none⟩,
    ⟨.buildT 51 [.sl true 6 [], .sl true 2 [], .sl true 2 [], .sl true 1 [], .sl true 1 [], .sl true 1 []] [(0, 5, (.t 50))], none⟩,
    ⟨.box 52 true true (.t 51), none⟩,
    ⟨.mv 7 (.t 52), none⟩] false) [7] 0)
  (.seq (.post (.region [
    ⟨.mv 53 (.t 7), none⟩,
    ⟨.call (some 54) false 78 [(.t 53)], none⟩] false) [7] 0)
  (.seq (.seq (.post (.region [
    ⟨.mv 55 (.t 7), none⟩,
    ⟨.call (some 56) true 79 [(.t 55)], none⟩,
    ⟨.mv 8 (.t 56), none⟩] false) [7, 8] 0)
  (.seq (.post (.region [
    ⟨.mv 57 (.t 8), none⟩,
    ⟨.bin 58 .neq (.t 57) (.c (.int .i64 0)), none⟩] false) [7, 8, 58] 0)
  (.cond (.t 58) (.seq (.post (.region [
    ⟨.mv 59 (.t 8), none⟩,
    ⟨.mv 2 (.t 59), none⟩] false) [2] 0)
  .ret)
  .skip)))
  (.seq (.post (.region [
    ⟨.mv 60 (.t 7), none⟩,
    ⟨.call (some 61) true 80 [(.t 60)], none⟩,
    ⟨.mv 2 (.t 61), none⟩] false) [2] 0)
  .ret)))))
def f_model_Check_0 : ICode :=
  (.seq (.post (.region [
    ⟨.box 1 false false (.t 0), none⟩,
    ⟨.mv 2 (.c (.int .i64 0)), none⟩] false) [1] 1)
  (.seq (.seq (.post (.region [
    ⟨.faddr 9 (.t 1) 0, none⟩,
    ⟨.load 10 false 1 (.t 9), none⟩,
    ⟨.len 11 0 (.t 10), none⟩,
    ⟨.bin 12 .gtr (.t 11) (.c (.int .i64 80)), none⟩,
    ⟨.mv 13 (.t 12), none⟩,
    ⟨.faddr 14 (.t 1) 3, some (13, false)⟩,
    ⟨.load 15 false 1 (.t 14), some (13, false)⟩,
    ⟨.len 16 0 (.t 15), some (13, false)⟩,
    ⟨.bin 17 .gtr (.t 16) (.c (.int .i64 8)), some (13, false)⟩,
    ⟨.pick 18 (.t 13) (.c (.bool true)) (.t 17), none⟩,
    ⟨.mv 19 (.t 18), none⟩,
    ⟨.faddr 20 (.t 1) 4, some (19, false)⟩,
    ⟨.load 21 false 1 (.t 20), some (19, false)⟩,
    ⟨.len 22 0 (.t 21), some (19, false)⟩,
    ⟨.bin 23 .gtr (.t 22) (.c (.int .i64 8)), some (19, false)⟩,
    ⟨.pick 24 (.t 19) (.c (.bool true)) (.t 23), none⟩] false) [1, 24] 1)
  (.cond (.t 24) (.seq (.post (.region [
    ⟨.mv 2 (.c (.int .i64 2)), none⟩] false) [2] 0)
  .ret)
  .skip))
  (.seq (.seq (.post (.region [
    ⟨.faddr 25 (.t 1) 0, none⟩,
    ⟨.load 26 false 1 (.t 25), none⟩,
    ⟨.len 27 0 (.t 26), none⟩,
    ⟨.mv 28 (.c (.int .i64 0)), none⟩] false) [1, 27, 28] 1)
  (.cut f_model_Check_l1))
  (.cut f_model_Check_k1))))
def f_model_Check : IFunc := { np := 1, res := [.t 2], own := false, trunc := true, body := f_model_Check_0 }

/- 42: latchwork/model.Cone -/
/- at its head: [1, 2, 7, 27, 28, 29] -/
def f_model_Cone_b1 : ICode :=
  (.post (.seq (.region [
    ⟨.bin 30 .lss (.t 29) (.t 28), none⟩] false)
  (.seq (.cond (.t 30) .skip
  (.exit 0))
  (.seq (.block 1 (.seq (.post (.region [
    ⟨.mv 31 (.t 29), none⟩,
    ⟨.iaddr 32 6 none (.t 27) (.t 29), none⟩,
    ⟨.load 33 true 6 (.t 32), none⟩,
    ⟨.alloc 9 false (.agg [.int .i64 0, .int .i64 0, .int .i64 0, .int .i64 0, .int .i64 0, .int .i64 0]), none⟩,
    ⟨.mv 8 (.t 31), none⟩,
    ⟨.store false 6 (.t 9) (.t 33), none⟩] false) [1, 2, 7, 8, 9, 27, 28, 29] 2)
  (.post (.region [
    ⟨.mv 34 (.t 7), none⟩,
    ⟨.mv 35 (.t 8), none⟩,
    ⟨.load 36 true 6 (.t 9), none⟩,
    ⟨.call (some 37) false 120 [(.t 36)], none⟩,
    ⟨.iaddr 38 1 none (.t 34) (.t 35), none⟩,
    ⟨.store true 1 (.t 38) (.t 37), none⟩] false) [1, 2, 7, 27, 28, 29] 1)))
  (.post (.region [
    ⟨.bin 39 .add (.t 29) (.c (.int .i64 1)), none⟩,
    ⟨.mv 29 (.t 39), none⟩] false) [1, 2, 7, 27, 28, 29] 1)))) [1, 2, 7, 27, 28, 29] 1)
def f_model_Cone_l1 : ICode :=
  (.post (.block 0 (.loop f_model_Cone_b1)) [1, 2, 7] 1)
/- at its head: [1, 2, 7, 45, 46, 47] -/
def f_model_Cone_b2 : ICode :=
  (.post (.seq (.region [
    ⟨.bin 48 .lss (.t 47) (.t 46), none⟩] false)
  (.seq (.cond (.t 48) .skip
  (.exit 2))
  (.seq (.block 3 (.seq (.post (.region [
    ⟨.iaddr 49 2 none (.t 45) (.t 47), none⟩,
    ⟨.load 50 true 2 (.t 49), none⟩,
    ⟨.alloc 11 false (.agg [.int .i64 0, .int .i64 0]), none⟩,
    ⟨.store false 2 (.t 11) (.t 50), none⟩] false) [1, 2, 7, 11, 45, 46, 47] 2)
  (.post (.region [
    ⟨.mv 51 (.t 7), none⟩,
    ⟨.faddr 52 (.t 11) 0, none⟩,
    ⟨.load 53 false 1 (.t 52), none⟩,
    ⟨.mv 54 (.t 7), none⟩,
    ⟨.faddr 55 (.t 11) 0, none⟩,
    ⟨.load 56 false 1 (.t 55), none⟩,
    ⟨.iaddr 57 1 none (.t 54) (.t 56), none⟩,
    ⟨.load 58 false 1 (.t 57), none⟩,
    ⟨.faddr 59 (.t 11) 1, none⟩,
    ⟨.load 60 false 1 (.t 59), none⟩,
    ⟨.buildSl 61 1 [(.t 60)], none⟩,
    ⟨.appendK 62 8 (.t 58) (.t 61), none⟩,
    ⟨.iaddr 63 1 none (.t 51) (.t 53), none⟩,
    ⟨.store true 1 (.t 63) (.t 62), none⟩] true) [1, 2, 7, 45, 46, 47] 1)))
  (.post (.region [
    ⟨.bin 64 .add (.t 47) (.c (.int .i64 1)), none⟩,
    ⟨.mv 47 (.t 64), none⟩] false) [1, 2, 7, 45, 46, 47] 1)))) [1, 2, 7, 45, 46, 47] 1)
def f_model_Cone_l2 : ICode :=
  (.post (.block 2 (.loop f_model_Cone_b2)) [1, 2, 7] 1)
/- at its head: [2, 7, 12, 13] -/
def f_model_Cone_b3 : ICode :=
  (.post (.seq (.seq (.post (.region [
    ⟨.mv 68 (.t 13), none⟩,
    ⟨.len 69 0 (.t 68), none⟩,
    ⟨.bin 70 .gtr (.t 69) (.c (.int .i64 0)), none⟩] false) [2, 7, 12, 13, 70] 1)
  (.cond (.t 70) .skip
  (.exit 4)))
  (.block 5 (.seq (.post (.region [
    ⟨.mv 71 (.t 13), none⟩,
    ⟨.mv 72 (.t 13), none⟩,
    ⟨.len 73 0 (.t 72), none⟩,
    ⟨.bin 74 .sub (.t 73) (.c (.int .i64 1)), none⟩,
    ⟨.iaddr 75 1 none (.t 71) (.t 74), none⟩,
    ⟨.loadK 76 (.t 75), none⟩,
    ⟨.mv 14 (.t 76), none⟩] false) [2, 7, 12, 13, 14] 1)
  (.seq (.post (.region [
    ⟨.mv 77 (.t 13), none⟩,
    ⟨.mv 78 (.t 13), none⟩,
    ⟨.len 79 0 (.t 78), none⟩,
    ⟨.bin 80 .sub (.t 79) (.c (.int .i64 1)), none⟩,
    ⟨.slice 81 1 (.t 77) none (some (.t 80)), none⟩,
    ⟨.tk 13 81, none⟩] false) [2, 7, 12, 13, 14] 1)
  (.seq (.seq (.post (.region [
    ⟨.mv 82 (.t 14), none⟩,
    ⟨.bin 83 .lss (.t 82) (.c (.int .i64 0)), none⟩,
    ⟨.mv 84 (.t 83), none⟩,
    ⟨.mv 85 (.t 14), some (84, false)⟩,
    ⟨.faddr 86 (.t 2) 0, some (84, false)⟩,
    ⟨.load 87 false 1 (.t 86), some (84, false)⟩,
    ⟨.len 88 0 (.t 87), some (84, false)⟩,
    ⟨.bin 89 .geq (.t 85) (.t 88), some (84, false)⟩,
    ⟨.pick 90 (.t 84) (.c (.bool true)) (.t 89), none⟩] false) [2, 7, 12, 13, 14, 90] 1)
  (.cond (.t 90) (.seq (.post (.region [
    ⟨.mv 4 (.c (.sl true 1 [])), none⟩,
    ⟨.mv 5 (.c (.int .i64 5)), none⟩] false) [4, 5] 0)
  .ret)
  .skip))
  (.seq (.post (.region [
    ⟨.mv 91 (.t 12), none⟩,
    ⟨.mv 92 (.t 14), none⟩,
    ⟨.lookup 93 0 (.t 91) (.t 92) false (.bool false), none⟩,
    ⟨.un 94 .not (.t 93), none⟩] false) [2, 7, 12, 13, 14, 94] 1)
  (.cond (.t 94) (.post (.seq (.post (.region [
    ⟨.mv 95 (.t 12), none⟩,
    ⟨.mv 96 (.t 14), none⟩,
    ⟨.mupd 0 (.t 95) (.t 96) (.c (.bool true)), none⟩] false) [2, 7, 12, 13, 14] 1)
  (.post (.region [
    ⟨.mv 97 (.t 13), none⟩,
    ⟨.mv 98 (.t 7), none⟩,
    ⟨.mv 99 (.t 14), none⟩,
    ⟨.iaddr 100 1 none (.t 98) (.t 99), none⟩,
    ⟨.load 101 false 1 (.t 100), none⟩,
    ⟨.appendK 102 8 (.t 97) (.t 101), none⟩,
    ⟨.tk 13 102, none⟩] false) [2, 7, 12, 13] 1)) [2, 7, 12, 13] 1)
  (.post .skip [2, 7, 12, 13] 1)))))))) [2, 7, 12, 13] 1)
def f_model_Cone_l3 : ICode :=
  (.post (.block 4 (.loop f_model_Cone_b3)) [2, 12] 1)
def f_model_Cone_k4 : ICode :=
  (.post (.region [
    ⟨.bin 116 .add (.t 106) (.c (.int .i64 1)), none⟩,
    ⟨.mv 106 (.t 116), none⟩] false) [12, 15, 105, 106] 0)
/- at its head: [12, 15, 105, 106] -/
def f_model_Cone_b4 : ICode :=
  (.post (.seq (.region [
    ⟨.bin 107 .lss (.t 106) (.t 105), none⟩] false)
  (.seq (.cond (.t 107) .skip
  (.exit 6))
  (.seq (.block 7 (.seq (.post (.region [
    ⟨.mv 108 (.t 106), none⟩,
    ⟨.mv 16 (.t 108), none⟩] false) [12, 15, 16, 105, 106] 0)
  (.seq (.post (.region [
    ⟨.mv 109 (.t 12), none⟩,
    ⟨.mv 110 (.t 16), none⟩,
    ⟨.lookup 111 0 (.t 109) (.t 110) false (.bool false), none⟩] false) [12, 15, 16, 105, 106, 111] 0)
  (.cond (.t 111) (.post (.post (.region [
    ⟨.tk 112 15, none⟩,
    ⟨.mv 113 (.t 16), none⟩,
    ⟨.buildSl 114 1 [(.t 113)], none⟩,
    ⟨.append 115 1 8 (.t 112) (.t 114), none⟩,
    ⟨.tk 15 115, none⟩] false) [12, 15, 105, 106] 0) [12, 15, 105, 106] 0)
  (.post .skip [12, 15, 105, 106] 0)))))
  (.cut f_model_Cone_k4)))) [12, 15, 105, 106] 0)
def f_model_Cone_l4 : ICode :=
  (.post (.block 6 (.loop f_model_Cone_b4)) [15] 0)
def f_model_Cone_k5 : ICode :=
  (.seq (.post (.region [
    ⟨.mv 117 (.t 15), none⟩,
    ⟨.tk 4 117, none⟩,
    ⟨.mv 5 (.c (.int .i64 0)), none⟩] false) [4, 5] 0)
  .ret)
def f_model_Cone_k3 : ICode :=
  (.seq (.region [
    ⟨.mv 15 (.c (.sl true 1 [])), none⟩] false)
  (.seq (.seq (.post (.region [
    ⟨.faddr 103 (.t 2) 0, none⟩,
    ⟨.load 104 false 1 (.t 103), none⟩,
    ⟨.len 105 0 (.t 104), none⟩,
    ⟨.mv 106 (.c (.int .i64 0)), none⟩] false) [12, 15, 105, 106] 0)
  (.cut f_model_Cone_l4))
  (.cut f_model_Cone_k5)))
def f_model_Cone_k2 : ICode :=
  (.seq (.post (.region [
    ⟨.mkmap 65, none⟩,
    ⟨.mv 12 (.t 65), none⟩] false) [1, 2, 7, 12] 1)
  (.seq (.post (.region [
    ⟨.mv 66 (.t 1), none⟩,
    ⟨.call (some 67) false 121 [(.t 66)], none⟩,
    ⟨.tk 13 67, none⟩] false) [2, 7, 12, 13] 1)
  (.seq (.cut f_model_Cone_l3)
  (.cut f_model_Cone_k3))))
def f_model_Cone_k1 : ICode :=
  (.seq (.seq (.post (.region [
    ⟨.faddr 40 (.t 2) 1, none⟩,
    ⟨.load 41 false 1 (.t 40), none⟩,
    ⟨.faddr 42 (.t 2) 2, none⟩,
    ⟨.load 43 false 1 (.t 42), none⟩,
    ⟨.buildSl 44 1 [(.t 41), (.t 43)], none⟩,
    ⟨.call (some 45) true 82 [(.t 44)], none⟩,
    ⟨.len 46 0 (.t 45), none⟩,
    ⟨.mv 47 (.c (.int .i64 0)), none⟩] false) [1, 2, 7, 45, 46, 47] 1)
  (.cut f_model_Cone_l2))
  (.cut f_model_Cone_k2))
def f_model_Cone_0 : ICode :=
  (.seq (.post (.region [
    ⟨.box 2 false false (.t 0), none⟩,
    ⟨.mv 4 (.c (.sl true 1 [])), none⟩,
    ⟨.mv 5 (.c (.int .i64 0)), none⟩] false) [1, 2] 1)
  (.seq (.seq (.post (.region [
    ⟨.load 17 true 5 (.t 2), none⟩,
    ⟨.call (some 18) true 38 [(.t 17)], none⟩,
    ⟨.mv 6 (.t 18), none⟩] false) [1, 2, 6] 1)
  (.seq (.post (.region [
    ⟨.mv 19 (.t 6), none⟩,
    ⟨.bin 20 .neq (.t 19) (.c (.int .i64 0)), none⟩] false) [1, 2, 6, 20] 1)
  (.cond (.t 20) (.seq (.post (.region [
    ⟨.mv 21 (.t 6), none⟩,
    ⟨.mv 4 (.c (.sl true 1 [])), none⟩,
    ⟨.mv 5 (.t 21), none⟩] false) [4, 5] 0)
  .ret)
  .skip)))
  (.seq (.post (.region [
    ⟨.faddr 22 (.t 2) 0, none⟩,
    ⟨.load 23 false 1 (.t 22), none⟩,
    ⟨.len 24 0 (.t 23), none⟩,
    ⟨.mksl 25 true 1 24 (.sl true 1 []) (.t 24), none⟩,
    ⟨.tk 7 25, none⟩] false) [1, 2, 7] 1)
  (.seq (.seq (.post (.region [
    ⟨.faddr 26 (.t 2) 0, none⟩,
    ⟨.load 27 false 1 (.t 26), none⟩,
    ⟨.len 28 0 (.t 27), none⟩,
    ⟨.mv 29 (.c (.int .i64 0)), none⟩] false) [1, 2, 7, 27, 28, 29] 1)
  (.cut f_model_Cone_l1))
  (.cut f_model_Cone_k1)))))
def f_model_Cone : IFunc := { np := 2, res := [.t 4, .t 5], own := false, trunc := true, body := f_model_Cone_0 }

/- 71: latchwork/model.of -/
def f_model_of_0 : ICode :=
  (.seq (.post (.region [
    ⟨.box 2 false false (.t 0), none⟩,
    ⟨.mv 4 (.c (.sl true 1 [])), none⟩,
    ⟨.mv 5 (.c (.int .i64 0)), none⟩] false) [1, 2] 1)
  (.seq (.seq (.post (.region [
    ⟨.load 7 true 5 (.t 2), none⟩,
    ⟨.call (some 8) true 38 [(.t 7)], none⟩,
    ⟨.mv 6 (.t 8), none⟩] false) [1, 2, 6] 1)
  (.seq (.post (.region [
    ⟨.mv 9 (.t 6), none⟩,
    ⟨.bin 10 .neq (.t 9) (.c (.int .i64 0)), none⟩] false) [1, 2, 6, 10] 1)
  (.cond (.t 10) (.seq (.post (.region [
    ⟨.mv 11 (.t 6), none⟩,
    ⟨.mv 4 (.c (.sl true 1 [])), none⟩,
    ⟨.mv 5 (.t 11), none⟩] false) [4, 5] 0)
  .ret)
  .skip)))
  (.seq (.post (.region [
    ⟨.load 12 true 5 (.t 2), none⟩,
    ⟨.mv 13 (.t 1), none⟩,
    ⟨.call (some 14) true 101 [(.t 12), (.t 13)], none⟩,
    ⟨.tk 4 14, none⟩,
    ⟨.mv 5 (.c (.int .i64 0)), none⟩] false) [4, 5] 0)
  .ret)))
def f_model_of : IFunc := { np := 2, res := [.t 4, .t 5], own := false, trunc := true, body := f_model_of_0 }

/- 76: latchwork/model.node -/
def f_model_node_k1 : ICode :=
  (.cond (.t 39) (.seq (.post (.region [
    ⟨.mv 4 (.c (.int .i64 1)), none⟩] false) [4] 0)
  .ret)
  .skip)
def f_model_node_k2 : ICode :=
  (.seq (.post (.region [
    ⟨.mv 4 (.c (.int .i64 0)), none⟩] false) [4] 0)
  .ret)
/- at its head: [0, 1, 5, 67, 68, 69] -/
def f_model_node_b1 : ICode :=
  (.post (.seq (.region [
    ⟨.bin 70 .lss (.t 69) (.t 68), none⟩] false)
  (.seq (.cond (.t 70) .skip
  (.exit 1))
  (.seq (.block 2 (.seq (.post (.region [
    ⟨.mv 71 (.t 69), none⟩,
    ⟨.iaddr 72 1 none (.t 67) (.t 69), none⟩,
    ⟨.load 73 false 1 (.t 72), none⟩,
    ⟨.mv 6 (.t 71), none⟩,
    ⟨.mv 7 (.t 73), none⟩] false) [0, 1, 5, 6, 7, 67, 68, 69] 1)
  (.seq (.post (.region [
    ⟨.mv 74 (.t 6), none⟩,
    ⟨.faddr 75 (.t 5) 0, none⟩,
    ⟨.load 76 false 1 (.t 75), none⟩,
    ⟨.call (some 77) true 63 [(.t 76)], none⟩,
    ⟨.bin 78 .lss (.t 74) (.t 77), none⟩,
    ⟨.mv 79 (.t 78), none⟩,
    ⟨.mv 80 (.t 7), some (79, true)⟩,
    ⟨.bin 81 .lss (.t 80) (.c (.int .i64 0)), some (79, true)⟩,
    ⟨.mv 82 (.t 81), some (79, true)⟩,
    ⟨.mv 83 (.t 7), some (82, false)⟩,
    ⟨.mv 84 (.t 1), some (82, false)⟩,
    ⟨.bin 85 .geq (.t 83) (.t 84), some (82, false)⟩,
    ⟨.pick 86 (.t 82) (.c (.bool true)) (.t 85), some (79, true)⟩,
    ⟨.pick 87 (.t 79) (.t 86) (.c (.bool false)), none⟩,
    ⟨.mv 88 (.t 87), none⟩,
    ⟨.mv 89 (.t 6), some (88, false)⟩,
    ⟨.faddr 90 (.t 5) 0, some (88, false)⟩,
    ⟨.load 91 false 1 (.t 90), some (88, false)⟩,
    ⟨.call (some 92) true 63 [(.t 91)], some (88, false)⟩,
    ⟨.bin 93 .geq (.t 89) (.t 92), some (88, false)⟩,
    ⟨.mv 94 (.t 93), some (88, false)⟩,
    ⟨.mv 95 (.t 7), some (94, true)⟩,
    ⟨.bin 96 .neq (.t 95) (.c (.int .i64 0)), some (94, true)⟩,
    ⟨.pick 97 (.t 94) (.t 96) (.c (.bool false)), some (88, false)⟩,
    ⟨.pick 98 (.t 88) (.c (.bool true)) (.t 97), none⟩] false) [0, 1, 5, 67, 68, 69, 98] 1)
  (.cond (.t 98) (.seq (.post (.region [
    ⟨.mv 4 (.c (.int .i64 4)), none⟩] false) [4] 0)
  .ret)
  .skip))))
  (.post (.region [
    ⟨.bin 99 .add (.t 69) (.c (.int .i64 1)), none⟩,
    ⟨.mv 69 (.t 99), none⟩] false) [0, 1, 5, 67, 68, 69] 1)))) [0, 1, 5, 67, 68, 69] 1)
def f_model_node_l1 : ICode :=
  (.post (.block 1 (.loop f_model_node_b1)) [0, 5] 1)
def f_model_node_k4 : ICode :=
  (.seq (.post (.region [
    ⟨.faddr 100 (.t 5) 0, none⟩,
    ⟨.load 101 false 1 (.t 100), none⟩,
    ⟨.faddr 102 (.t 5) 1, none⟩,
    ⟨.load 103 false 1 (.t 102), none⟩,
    ⟨.faddr 104 (.t 5) 5, none⟩,
    ⟨.load 105 false 1 (.t 104), none⟩,
    ⟨.mv 106 (.t 0), none⟩,
    ⟨.load 107 true 6 (.t 5), none⟩,
    ⟨.call (some 108) true 104 [(.t 106), (.t 107)], none⟩,
    ⟨.call (some 109) true 22 [(.t 101), (.t 103), (.t 105), (.t 108)], none⟩,
    ⟨.mv 4 (.t 109), none⟩] true) [4] 0)
  .ret)
def f_model_node_k3 : ICode :=
  (.seq (.seq (.post (.region [
    ⟨.faddr 61 (.t 5) 2, none⟩,
    ⟨.load 62 false 1 (.t 61), none⟩,
    ⟨.faddr 63 (.t 5) 3, none⟩,
    ⟨.load 64 false 1 (.t 63), none⟩,
    ⟨.faddr 65 (.t 5) 4, none⟩,
    ⟨.load 66 false 1 (.t 65), none⟩,
    ⟨.buildSl 67 1 [(.t 62), (.t 64), (.t 66)], none⟩,
    ⟨.len 68 0 (.t 67), none⟩,
    ⟨.mv 69 (.c (.int .i64 0)), none⟩] false) [0, 1, 5, 67, 68, 69] 1)
  (.cut f_model_node_l1))
  (.cut f_model_node_k4))
def f_model_node_0 : ICode :=
  (.seq (.post (.region [
    ⟨.mv 4 (.c (.int .i64 0)), none⟩] false) [0, 1] 0)
  (.seq (.post (.region [
    ⟨.mv 8 (.t 0), none⟩,
    ⟨.mv 9 (.t 1), none⟩,
    ⟨.iaddr 10 6 none (.t 8) (.t 9), none⟩,
    ⟨.load 11 true 6 (.t 10), none⟩,
    ⟨.alloc 5 false (.agg [.int .i64 0, .int .i64 0, .int .i64 0, .int .i64 0, .int .i64 0, .int .i64 0]), none⟩,
    ⟨.store false 6 (.t 5) (.t 11), none⟩] false) [0, 1, 5] 1)
  (.seq (.seq (.post (.region [
    ⟨.faddr 12 (.t 5) 0, none⟩,
    ⟨.load 13 false 1 (.t 12), none⟩,
    ⟨.bin 14 .lss (.t 13) (.c (.int .i64 1)), none⟩,
    ⟨.mv 15 (.t 14), none⟩,
    ⟨.faddr 16 (.t 5) 0, some (15, false)⟩,
    ⟨.load 17 false 1 (.t 16), some (15, false)⟩,
    ⟨.bin 18 .geq (.t 17) (.c (.int .i64 24)), some (15, false)⟩,
    ⟨.pick 19 (.t 15) (.c (.bool true)) (.t 18), none⟩] false) [0, 1, 5, 19] 1)
  (.cond (.t 19) (.seq (.post (.region [
    ⟨.mv 4 (.c (.int .i64 7)), none⟩] false) [4] 0)
  .ret)
  .skip))
  (.seq (.seq (.post (.region [
    ⟨.faddr 20 (.t 5) 1, none⟩,
    ⟨.load 21 false 1 (.t 20), none⟩,
    ⟨.call (some 22) true 62 [(.t 21)], none⟩,
    ⟨.un 23 .not (.t 22), none⟩] false) [0, 1, 5, 23] 1)
  (.cond (.t 23) (.seq (.post (.region [
    ⟨.mv 4 (.c (.int .i64 3)), none⟩] false) [4] 0)
  .ret)
  .skip))
  (.seq (.seq (.post (.region [
    ⟨.faddr 24 (.t 5) 0, none⟩,
    ⟨.load 25 false 1 (.t 24), none⟩,
    ⟨.call (some 26) true 103 [(.t 25)], none⟩] false) [0, 1, 5, 26] 1)
  (.cond (.t 26) (.seq (.block 0 (.seq (.post (.region [
    ⟨.faddr 28 (.t 5) 0, none⟩,
    ⟨.load 29 false 1 (.t 28), none⟩,
    ⟨.bin 30 .eql (.t 29) (.c (.int .i64 1)), none⟩,
    ⟨.mv 31 (.t 30), none⟩,
    ⟨.faddr 32 (.t 5) 5, some (31, true)⟩,
    ⟨.load 33 false 1 (.t 32), some (31, true)⟩,
    ⟨.faddr 34 (.t 5) 1, some (31, true)⟩,
    ⟨.load 35 false 1 (.t 34), some (31, true)⟩,
    ⟨.call (some 36) true 65 [(.t 33), (.t 35)], some (31, true)⟩,
    ⟨.un 37 .not (.t 36), some (31, true)⟩,
    ⟨.pick 38 (.t 31) (.t 37) (.c (.bool false)), none⟩,
    ⟨.mv 27 (.t 38), none⟩] false) [5, 27] 1)
  (.cond (.t 27) (.seq (.post (.region [
    ⟨.mv 4 (.c (.int .i64 3)), none⟩] false) [4] 0)
  .ret)
  (.seq (.seq (.post (.region [
    ⟨.faddr 40 (.t 5) 0, none⟩,
    ⟨.load 41 false 1 (.t 40), none⟩,
    ⟨.bin 42 .neq (.t 41) (.c (.int .i64 1)), none⟩,
    ⟨.mv 43 (.t 42), none⟩,
    ⟨.faddr 44 (.t 5) 5, some (43, true)⟩,
    ⟨.load 45 false 1 (.t 44), some (43, true)⟩,
    ⟨.bin 46 .neq (.t 45) (.c (.int .i64 0)), some (43, true)⟩,
    ⟨.pick 47 (.t 43) (.t 46) (.c (.bool false)), none⟩,
    ⟨.mv 39 (.t 47), none⟩] false) [5, 39] 1)
  (.cond (.t 39) (.post .skip [39] 0)
  (.post (.post (.region [
    ⟨.faddr 48 (.t 5) 2, none⟩,
    ⟨.load 49 false 1 (.t 48), none⟩,
    ⟨.bin 50 .neq (.t 49) (.c (.int .i64 0)), none⟩,
    ⟨.mv 51 (.t 50), none⟩,
    ⟨.faddr 52 (.t 5) 3, some (51, false)⟩,
    ⟨.load 53 false 1 (.t 52), some (51, false)⟩,
    ⟨.bin 54 .neq (.t 53) (.c (.int .i64 0)), some (51, false)⟩,
    ⟨.pick 55 (.t 51) (.c (.bool true)) (.t 54), none⟩,
    ⟨.mv 56 (.t 55), none⟩,
    ⟨.faddr 57 (.t 5) 4, some (56, false)⟩,
    ⟨.load 58 false 1 (.t 57), some (56, false)⟩,
    ⟨.bin 59 .neq (.t 58) (.c (.int .i64 0)), some (56, false)⟩,
    ⟨.pick 60 (.t 56) (.c (.bool true)) (.t 59), none⟩,
    ⟨.mv 39 (.t 60), none⟩] false) [39] 0) [39] 0)))
  (.cut f_model_node_k1)))))
  (.cut f_model_node_k2))
  .skip))
  (.cut f_model_node_k3))))))
def f_model_node : IFunc := { np := 2, res := [.t 4], own := false, trunc := true, body := f_model_node_0 }

/- 77: latchwork/model.Bits -/
def f_model_Bits_0 : ICode :=
  (.seq (.post (.region [
    ⟨.box 1 false false (.t 0), none⟩,
    ⟨.mv 2 (.c (.int .i64 0)), none⟩,
    ⟨.mv 3 (.c (.int .i64 0)), none⟩] false) [1] 1)
  (.seq (.post (.region [
    ⟨.load 4 true 5 (.t 1), none⟩,
    ⟨.load 5 true 5 (.t 1), none⟩,
    ⟨.call (some 6) true 101 [(.t 5), (.c (.int .i64 2))], none⟩,
    ⟨.call (some 7) true 105 [(.t 4), (.t 6)], none⟩,
    ⟨.load 8 true 5 (.t 1), none⟩,
    ⟨.load 9 true 5 (.t 1), none⟩,
    ⟨.call (some 10) true 101 [(.t 9), (.c (.int .i64 3))], none⟩,
    ⟨.call (some 11) true 105 [(.t 8), (.t 10)], none⟩,
    ⟨.mv 2 (.t 7), none⟩,
    ⟨.mv 3 (.t 11), none⟩] true) [2, 3] 0)
  .ret))
def f_model_Bits : IFunc := { np := 1, res := [.t 2, .t 3], own := false, trunc := true, body := f_model_Bits_0 }

/- 78: (*latchwork/model.checker).lean -/
/- at its head: [0, 4, 11, 12, 13, 26, 27, 28] -/
def f_model_checker_lean_b2 : ICode :=
  (.post (.seq (.region [
    ⟨.bin 29 .lss (.t 28) (.t 27), none⟩] false)
  (.seq (.cond (.t 29) .skip
  (.exit 2))
  (.seq (.block 3 (.seq (.post (.region [
    ⟨.iaddr 30 1 none (.t 26) (.t 28), none⟩,
    ⟨.load 31 false 1 (.t 30), none⟩,
    ⟨.mv 6 (.t 31), none⟩] false) [0, 4, 6, 11, 12, 13, 26, 27, 28] 0)
  (.post (.region [
    ⟨.mv 32 (.t 4), none⟩,
    ⟨.mv 33 (.t 32), none⟩,
    ⟨.mv 34 (.t 0), some (33, false)⟩,
    ⟨.nilc 35 (.t 34), some (33, false)⟩,
    ⟨.faddr 36 (.t 35) 5, some (33, false)⟩,
    ⟨.load 37 false 1 (.t 36), some (33, false)⟩,
    ⟨.mv 38 (.t 6), some (33, false)⟩,
    ⟨.iaddr 39 1 none (.t 37) (.t 38), some (33, false)⟩,
    ⟨.load 40 false 1 (.t 39), some (33, false)⟩,
    ⟨.pick 41 (.t 33) (.c (.bool true)) (.t 40), none⟩,
    ⟨.mv 4 (.t 41), none⟩] false) [0, 4, 11, 12, 13, 26, 27, 28] 0)))
  (.post (.region [
    ⟨.bin 42 .add (.t 28) (.c (.int .i64 1)), none⟩,
    ⟨.mv 28 (.t 42), none⟩] false) [0, 4, 11, 12, 13, 26, 27, 28] 0)))) [0, 4, 11, 12, 13, 26, 27, 28] 0)
def f_model_checker_lean_l2 : ICode :=
  (.post (.block 2 (.loop f_model_checker_lean_b2)) [0, 4, 11, 12, 13] 0)
def f_model_checker_lean_k1 : ICode :=
  (.post (.region [
    ⟨.mv 43 (.t 0), none⟩,
    ⟨.mv 44 (.t 0), none⟩,
    ⟨.nilc 45 (.t 44), none⟩,
    ⟨.faddr 46 (.t 45) 5, none⟩,
    ⟨.loadT 47 (.t 46), none⟩,
    ⟨.mv 48 (.t 4), none⟩,
    ⟨.buildSl 49 1 [(.t 48)], none⟩,
    ⟨.append 50 1 1 (.t 47) (.t 49), none⟩,
    ⟨.nilc 51 (.t 43), none⟩,
    ⟨.faddr 52 (.t 51) 5, none⟩,
    ⟨.store true 1 (.t 52) (.t 50), none⟩] false) [0, 11, 12, 13] 0)
def f_model_checker_lean_k2 : ICode :=
  (.post (.region [
    ⟨.bin 53 .add (.t 13) (.c (.int .i64 1)), none⟩,
    ⟨.mv 13 (.t 53), none⟩] false) [0, 11, 12, 13] 0)
/- at its head: [0, 11, 12, 13] -/
def f_model_checker_lean_b1 : ICode :=
  (.post (.seq (.region [
    ⟨.bin 14 .lss (.t 13) (.t 12), none⟩] false)
  (.seq (.cond (.t 14) .skip
  (.exit 0))
  (.seq (.block 1 (.seq (.post (.region [
    ⟨.iaddr 15 6 none (.t 11) (.t 13), none⟩,
    ⟨.load 16 true 6 (.t 15), none⟩,
    ⟨.alloc 3 false (.agg [.int .i64 0, .int .i64 0, .int .i64 0, .int .i64 0, .int .i64 0, .int .i64 0]), none⟩,
    ⟨.store false 6 (.t 3) (.t 16), none⟩] false) [0, 3, 11, 12, 13] 1)
  (.seq (.post (.region [
    ⟨.faddr 17 (.t 3) 0, none⟩,
    ⟨.load 18 false 1 (.t 17), none⟩,
    ⟨.bin 19 .eql (.t 18) (.c (.int .i64 2)), none⟩,
    ⟨.mv 20 (.t 19), none⟩,
    ⟨.faddr 21 (.t 3) 0, some (20, false)⟩,
    ⟨.load 22 false 1 (.t 21), some (20, false)⟩,
    ⟨.bin 23 .eql (.t 22) (.c (.int .i64 3)), some (20, false)⟩,
    ⟨.pick 24 (.t 20) (.c (.bool true)) (.t 23), none⟩,
    ⟨.mv 4 (.t 24), none⟩] false) [0, 3, 4, 11, 12, 13] 1)
  (.seq (.seq (.post (.region [
    ⟨.load 25 true 6 (.t 3), none⟩,
    ⟨.call (some 26) true 81 [(.t 25)], none⟩,
    ⟨.len 27 0 (.t 26), none⟩,
    ⟨.mv 28 (.c (.int .i64 0)), none⟩] false) [0, 4, 11, 12, 13, 26, 27, 28] 0)
  (.cut f_model_checker_lean_l2))
  (.cut f_model_checker_lean_k1)))))
  (.cut f_model_checker_lean_k2)))) [0, 11, 12, 13] 0)
def f_model_checker_lean_l1 : ICode :=
  (.post (.block 0 (.loop f_model_checker_lean_b1)) [] 0)
def f_model_checker_lean_0 : ICode :=
  (.seq (.post (.region [
    ⟨.mv 7 (.t 0), none⟩,
    ⟨.nilc 8 (.t 7), none⟩,
    ⟨.faddr 9 (.t 8) 0, none⟩,
    ⟨.faddr 10 (.t 9) 0, none⟩,
    ⟨.load 11 false 1 (.t 10), none⟩,
    ⟨.len 12 0 (.t 11), none⟩,
    ⟨.mv 13 (.c (.int .i64 0)), none⟩] false) [0, 11, 12, 13] 0)
  (.cut f_model_checker_lean_l1))
def f_model_checker_lean : IFunc := { np := 1, res := [], own := false, trunc := false, body := f_model_checker_lean_0 }

/- 79: (*latchwork/model.checker).pairs -/
/- at its head: [0, 3, 23, 24, 25, 30, 31, 32] -/
def f_model_checker_pairs_b2 : ICode :=
  (.post (.seq (.region [
    ⟨.bin 33 .lss (.t 32) (.t 31), none⟩] false)
  (.seq (.cond (.t 33) .skip
  (.exit 2))
  (.seq (.block 3 (.seq (.post (.region [
    ⟨.iaddr 34 2 none (.t 30) (.t 32), none⟩,
    ⟨.load 35 true 2 (.t 34), none⟩,
    ⟨.alloc 6 false (.agg [.int .i64 0, .int .i64 0]), none⟩,
    ⟨.store false 2 (.t 6) (.t 35), none⟩] false) [0, 3, 6, 23, 24, 25, 30, 31, 32] 1)
  (.seq (.post (.region [
    ⟨.mv 36 (.t 0), none⟩,
    ⟨.load 37 true 2 (.t 6), none⟩,
    ⟨.mv 38 (.t 3), none⟩,
    ⟨.bin 39 .eql (.t 38) (.c (.int .i64 0)), none⟩,
    ⟨.call (some 40) true 106 [(.t 36), (.t 37), (.t 39)], none⟩,
    ⟨.mv 7 (.t 40), none⟩] false) [0, 3, 7, 23, 24, 25, 30, 31, 32] 0)
  (.seq (.post (.region [
    ⟨.mv 41 (.t 7), none⟩,
    ⟨.bin 42 .neq (.t 41) (.c (.int .i64 0)), none⟩] false) [0, 3, 7, 23, 24, 25, 30, 31, 32, 42] 0)
  (.cond (.t 42) (.seq (.post (.region [
    ⟨.mv 43 (.t 7), none⟩,
    ⟨.mv 2 (.t 43), none⟩] false) [2] 0)
  .ret)
  .skip)))))
  (.post (.region [
    ⟨.bin 44 .add (.t 32) (.c (.int .i64 1)), none⟩,
    ⟨.mv 32 (.t 44), none⟩] false) [0, 3, 23, 24, 25, 30, 31, 32] 0)))) [0, 3, 23, 24, 25, 30, 31, 32] 0)
def f_model_checker_pairs_l2 : ICode :=
  (.post (.block 2 (.loop f_model_checker_pairs_b2)) [0, 23, 24, 25] 0)
def f_model_checker_pairs_k1 : ICode :=
  (.post (.region [
    ⟨.bin 45 .add (.t 25) (.c (.int .i64 1)), none⟩,
    ⟨.mv 25 (.t 45), none⟩] false) [0, 23, 24, 25] 0)
/- at its head: [0, 23, 24, 25] -/
def f_model_checker_pairs_b1 : ICode :=
  (.post (.seq (.region [
    ⟨.bin 26 .lss (.t 25) (.t 24), none⟩] false)
  (.seq (.cond (.t 26) .skip
  (.exit 0))
  (.seq (.block 1 (.seq (.post (.region [
    ⟨.mv 27 (.t 25), none⟩,
    ⟨.iaddr 28 1 none (.t 23) (.t 25), none⟩,
    ⟨.load 29 false 1 (.t 28), none⟩,
    ⟨.mv 3 (.t 27), none⟩,
    ⟨.tk 4 29, none⟩] false) [0, 3, 4, 23, 24, 25] 0)
  (.seq (.post (.region [
    ⟨.mv 30 (.t 4), none⟩,
    ⟨.len 31 0 (.t 30), none⟩,
    ⟨.mv 32 (.c (.int .i64 0)), none⟩] false) [0, 3, 23, 24, 25, 30, 31, 32] 0)
  (.cut f_model_checker_pairs_l2))))
  (.cut f_model_checker_pairs_k1)))) [0, 23, 24, 25] 0)
def f_model_checker_pairs_l1 : ICode :=
  (.post (.block 0 (.loop f_model_checker_pairs_b1)) [0] 0)
/- at its head: [9, 10, 56, 57, 58, 63, 64, 65] -/
def f_model_checker_pairs_b4 : ICode :=
  (.post (.seq (.region [
    ⟨.bin 66 .lss (.t 65) (.t 64), none⟩] false)
  (.seq (.cond (.t 66) .skip
  (.exit 6))
  (.seq (.block 7 (.seq (.post (.region [
    ⟨.iaddr 67 2 none (.t 63) (.t 65), none⟩,
    ⟨.load 68 true 2 (.t 67), none⟩,
    ⟨.alloc 12 false (.agg [.int .i64 0, .int .i64 0]), none⟩,
    ⟨.store false 2 (.t 12) (.t 68), none⟩] false) [9, 10, 12, 56, 57, 58, 63, 64, 65] 1)
  (.post (.region [
    ⟨.mv 69 (.t 10), none⟩,
    ⟨.faddr 70 (.t 12) 0, none⟩,
    ⟨.load 71 false 1 (.t 70), none⟩,
    ⟨.mupd 0 (.t 69) (.t 71) (.c (.bool true)), none⟩] false) [9, 10, 56, 57, 58, 63, 64, 65] 0)))
  (.post (.region [
    ⟨.bin 72 .add (.t 65) (.c (.int .i64 1)), none⟩,
    ⟨.mv 65 (.t 72), none⟩] false) [9, 10, 56, 57, 58, 63, 64, 65] 0)))) [9, 10, 56, 57, 58, 63, 64, 65] 0)
def f_model_checker_pairs_l4 : ICode :=
  (.post (.block 6 (.loop f_model_checker_pairs_b4)) [9, 10, 56, 57, 58] 0)
def f_model_checker_pairs_k3 : ICode :=
  (.seq (.post (.region [
    ⟨.mv 73 (.t 10), none⟩,
    ⟨.len 74 2 (.t 73), none⟩,
    ⟨.mv 75 (.t 9), none⟩,
    ⟨.len 76 0 (.t 75), none⟩,
    ⟨.bin 77 .lss (.t 74) (.t 76), none⟩] false) [56, 57, 58, 77] 0)
  (.cond (.t 77) (.seq (.post (.region [
    ⟨.mv 2 (.c (.int .i64 6)), none⟩] false) [2] 0)
  .ret)
  .skip))
def f_model_checker_pairs_k4 : ICode :=
  (.post (.region [
    ⟨.bin 78 .add (.t 58) (.c (.int .i64 1)), none⟩,
    ⟨.mv 58 (.t 78), none⟩] false) [56, 57, 58] 0)
/- at its head: [56, 57, 58] -/
def f_model_checker_pairs_b3 : ICode :=
  (.post (.seq (.region [
    ⟨.bin 59 .lss (.t 58) (.t 57), none⟩] false)
  (.seq (.cond (.t 59) .skip
  (.exit 4))
  (.seq (.block 5 (.seq (.post (.region [
    ⟨.iaddr 60 1 none (.t 56) (.t 58), none⟩,
    ⟨.load 61 false 1 (.t 60), none⟩,
    ⟨.tk 9 61, none⟩] false) [9, 56, 57, 58] 0)
  (.seq (.post (.region [
    ⟨.mkmap 62, none⟩,
    ⟨.mv 10 (.t 62), none⟩] false) [9, 10, 56, 57, 58] 0)
  (.seq (.seq (.post (.region [
    ⟨.mv 63 (.t 9), none⟩,
    ⟨.len 64 0 (.t 63), none⟩,
    ⟨.mv 65 (.c (.int .i64 0)), none⟩] false) [9, 10, 56, 57, 58, 63, 64, 65] 0)
  (.cut f_model_checker_pairs_l4))
  (.cut f_model_checker_pairs_k3)))))
  (.cut f_model_checker_pairs_k4)))) [56, 57, 58] 0)
def f_model_checker_pairs_l3 : ICode :=
  (.post (.block 4 (.loop f_model_checker_pairs_b3)) [] 0)
def f_model_checker_pairs_k5 : ICode :=
  (.seq (.region [
    ⟨.mv 2 (.c (.int .i64 0)), none⟩] false)
  .ret)
def f_model_checker_pairs_k2 : ICode :=
  (.seq (.seq (.post (.region [
    ⟨.mv 46 (.t 0), none⟩,
    ⟨.nilc 47 (.t 46), none⟩,
    ⟨.faddr 48 (.t 47) 0, none⟩,
    ⟨.faddr 49 (.t 48) 1, none⟩,
    ⟨.load 50 false 1 (.t 49), none⟩,
    ⟨.mv 51 (.t 0), none⟩,
    ⟨.nilc 52 (.t 51), none⟩,
    ⟨.faddr 53 (.t 52) 0, none⟩,
    ⟨.faddr 54 (.t 53) 2, none⟩,
    ⟨.load 55 false 1 (.t 54), none⟩,
    ⟨.buildSl 56 1 [(.t 50), (.t 55)], none⟩,
    ⟨.len 57 0 (.t 56), none⟩,
    ⟨.mv 58 (.c (.int .i64 0)), none⟩] true) [56, 57, 58] 0)
  (.cut f_model_checker_pairs_l3))
  (.cut f_model_checker_pairs_k5))
def f_model_checker_pairs_0 : ICode :=
  (.seq (.post (.region [
    ⟨.mv 2 (.c (.int .i64 0)), none⟩] false) [0] 0)
  (.seq (.seq (.post (.region [
    ⟨.mv 13 (.t 0), none⟩,
    ⟨.nilc 14 (.t 13), none⟩,
    ⟨.faddr 15 (.t 14) 0, none⟩,
    ⟨.faddr 16 (.t 15) 1, none⟩,
    ⟨.load 17 false 1 (.t 16), none⟩,
    ⟨.mv 18 (.t 0), none⟩,
    ⟨.nilc 19 (.t 18), none⟩,
    ⟨.faddr 20 (.t 19) 0, none⟩,
    ⟨.faddr 21 (.t 20) 2, none⟩,
    ⟨.load 22 false 1 (.t 21), none⟩,
    ⟨.buildSl 23 1 [(.t 17), (.t 22)], none⟩,
    ⟨.len 24 0 (.t 23), none⟩,
    ⟨.mv 25 (.c (.int .i64 0)), none⟩] true) [0, 23, 24, 25] 0)
  (.cut f_model_checker_pairs_l1))
  (.cut f_model_checker_pairs_k2)))
def f_model_checker_pairs : IFunc := { np := 1, res := [.t 2], own := false, trunc := true, body := f_model_checker_pairs_0 }

/- 80: (*latchwork/model.checker).marks -/
def f_model_checker_marks_0 : ICode :=
  (.seq (.post (.region [
    ⟨.box 1 true false (.t 0), none⟩,
    ⟨.mv 2 (.c (.int .i64 0)), none⟩] false) [1] 0)
  (.seq (.seq (.post (.region [
    ⟨.load 4 false 1 (.t 1), none⟩,
    ⟨.nilc 5 (.t 4), none⟩,
    ⟨.faddr 6 (.t 5) 0, none⟩,
    ⟨.faddr 7 (.t 6) 2, none⟩,
    ⟨.load 8 false 1 (.t 7), none⟩,
    ⟨.len 9 0 (.t 8), none⟩,
    ⟨.load 10 false 1 (.t 1), none⟩,
    ⟨.nilc 11 (.t 10), none⟩,
    ⟨.faddr 12 (.t 11) 0, none⟩,
    ⟨.load 13 true 5 (.t 12), none⟩,
    ⟨.call (some 14) true 101 [(.t 13), (.c (.int .i64 3))], none⟩,
    ⟨.len 15 0 (.t 14), none⟩,
    ⟨.bin 16 .lss (.t 9) (.t 15), none⟩] true) [1, 16] 0)
  (.cond (.t 16) (.seq (.post (.region [
    ⟨.mv 2 (.c (.int .i64 5)), none⟩] false) [2] 0)
  .ret)
  .skip))
  (.seq (.post (.region [
    ⟨.load 17 false 1 (.t 1), none⟩,
    ⟨.nilc 18 (.t 17), none⟩,
    ⟨.faddr 19 (.t 18) 0, none⟩,
    ⟨.faddr 20 (.t 19) 3, none⟩,
    ⟨.load 21 false 1 (.t 20), none⟩,
    ⟨.load 22 false 1 (.t 1), none⟩,
    ⟨.nilc 23 (.t 22), none⟩,
    ⟨.faddr 24 (.t 23) 0, none⟩,
    ⟨.faddr 25 (.t 24) 4, none⟩,
    ⟨.load 26 false 1 (.t 25), none⟩,
    ⟨.buildSl 27 1 [(.t 21), (.t 26)], none⟩,
    ⟨.call (some 28) true 107 [(.t 27)], none⟩,
    ⟨.tk 3 28, none⟩] true) [1, 3] 0)
  (.seq (.seq (.post (.region [
    ⟨.mv 29 (.t 3), none⟩,
    ⟨.mkfn 30 108 [(.t 1)], none⟩,
    ⟨.call (some 31) true 86 [(.t 29), (.t 30)], none⟩] false) [1, 3, 31] 0)
  (.cond (.t 31) (.seq (.post (.region [
    ⟨.mv 2 (.c (.int .i64 5)), none⟩] false) [2] 0)
  .ret)
  .skip))
  (.seq (.seq (.post (.region [
    ⟨.mv 32 (.t 3), none⟩,
    ⟨.mkfn 33 109 [(.t 1)], none⟩,
    ⟨.call (some 34) true 86 [(.t 32), (.t 33)], none⟩] false) [34] 0)
  (.cond (.t 34) (.seq (.post (.region [
    ⟨.mv 2 (.c (.int .i64 1)), none⟩] false) [2] 0)
  .ret)
  .skip))
  (.seq (.post (.region [
    ⟨.mv 2 (.c (.int .i64 0)), none⟩] false) [2] 0)
  .ret))))))
def f_model_checker_marks : IFunc := { np := 1, res := [.t 2], own := false, trunc := true, body := f_model_checker_marks_0 }

/- 81: latchwork/model.Args -/
def f_model_Args_0 : ICode :=
  (.seq (.post (.region [
    ⟨.box 1 false false (.t 0), none⟩,
    ⟨.mv 2 (.c (.sl true 1 [])), none⟩] false) [1] 1)
  (.seq (.post (.region [
    ⟨.faddr 3 (.t 1) 2, none⟩,
    ⟨.load 4 false 1 (.t 3), none⟩,
    ⟨.faddr 5 (.t 1) 3, none⟩,
    ⟨.load 6 false 1 (.t 5), none⟩,
    ⟨.faddr 7 (.t 1) 4, none⟩,
    ⟨.load 8 false 1 (.t 7), none⟩,
    ⟨.buildSl 9 1 [(.t 4), (.t 6), (.t 8)], none⟩,
    ⟨.faddr 10 (.t 1) 0, none⟩,
    ⟨.load 11 false 1 (.t 10), none⟩,
    ⟨.call (some 12) true 63 [(.t 11)], none⟩,
    ⟨.slice 13 1 (.t 9) none (some (.t 12)), none⟩,
    ⟨.tk 2 13, none⟩] true) [2] 0)
  .ret))
def f_model_Args : IFunc := { np := 1, res := [.t 2], own := true, trunc := true, body := f_model_Args_0 }

/- 101: latchwork/model.Of -/
def f_model_Of_k1 : ICode :=
  (.post (.region [
    ⟨.bin 24 .add (.t 11) (.c (.int .i64 1)), none⟩,
    ⟨.mv 11 (.t 24), none⟩] false) [1, 5, 9, 10, 11] 0)
/- at its head: [1, 5, 9, 10, 11] -/
def f_model_Of_b1 : ICode :=
  (.post (.seq (.region [
    ⟨.bin 12 .lss (.t 11) (.t 10), none⟩] false)
  (.seq (.cond (.t 12) .skip
  (.exit 0))
  (.seq (.block 1 (.seq (.post (.region [
    ⟨.mv 13 (.t 11), none⟩,
    ⟨.iaddr 14 6 none (.t 9) (.t 11), none⟩,
    ⟨.load 15 true 6 (.t 14), none⟩,
    ⟨.alloc 7 false (.agg [.int .i64 0, .int .i64 0, .int .i64 0, .int .i64 0, .int .i64 0, .int .i64 0]), none⟩,
    ⟨.mv 6 (.t 13), none⟩,
    ⟨.store false 6 (.t 7) (.t 15), none⟩] false) [1, 5, 6, 7, 9, 10, 11] 1)
  (.seq (.post (.region [
    ⟨.faddr 16 (.t 7) 0, none⟩,
    ⟨.load 17 false 1 (.t 16), none⟩,
    ⟨.mv 18 (.t 1), none⟩,
    ⟨.bin 19 .eql (.t 17) (.t 18), none⟩] false) [1, 5, 6, 9, 10, 11, 19] 0)
  (.cond (.t 19) (.post (.post (.region [
    ⟨.tk 20 5, none⟩,
    ⟨.mv 21 (.t 6), none⟩,
    ⟨.buildSl 22 1 [(.t 21)], none⟩,
    ⟨.append 23 1 8 (.t 20) (.t 22), none⟩,
    ⟨.tk 5 23, none⟩] false) [1, 5, 9, 10, 11] 0) [1, 5, 9, 10, 11] 0)
  (.post .skip [1, 5, 9, 10, 11] 0)))))
  (.cut f_model_Of_k1)))) [1, 5, 9, 10, 11] 0)
def f_model_Of_l1 : ICode :=
  (.post (.block 0 (.loop f_model_Of_b1)) [5] 0)
def f_model_Of_k2 : ICode :=
  (.seq (.post (.region [
    ⟨.mv 25 (.t 5), none⟩,
    ⟨.tk 4 25, none⟩] false) [4] 0)
  .ret)
def f_model_Of_0 : ICode :=
  (.seq (.post (.region [
    ⟨.box 2 false false (.t 0), none⟩,
    ⟨.mv 4 (.c (.sl true 1 [])), none⟩] false) [1, 2] 1)
  (.seq (.region [
    ⟨.mv 5 (.c (.sl true 1 [])), none⟩] false)
  (.seq (.seq (.post (.region [
    ⟨.faddr 8 (.t 2) 0, none⟩,
    ⟨.load 9 false 1 (.t 8), none⟩,
    ⟨.len 10 0 (.t 9), none⟩,
    ⟨.mv 11 (.c (.int .i64 0)), none⟩] false) [1, 5, 9, 10, 11] 0)
  (.cut f_model_Of_l1))
  (.cut f_model_Of_k2))))
def f_model_Of : IFunc := { np := 2, res := [.t 4], own := false, trunc := true, body := f_model_Of_0 }

/- 103: latchwork/model.leaf -/
def f_model_leaf_0 : ICode :=
  (.seq (.post (.region [
    ⟨.mv 2 (.c (.bool false)), none⟩] false) [0] 0)
  (.seq (.post (.region [
    ⟨.mv 3 (.t 0), none⟩,
    ⟨.bin 4 .geq (.t 3) (.c (.int .i64 1)), none⟩,
    ⟨.mv 5 (.t 4), none⟩,
    ⟨.mv 6 (.t 0), some (5, true)⟩,
    ⟨.bin 7 .leq (.t 6) (.c (.int .i64 3)), some (5, true)⟩,
    ⟨.pick 8 (.t 5) (.t 7) (.c (.bool false)), none⟩,
    ⟨.mv 2 (.t 8), none⟩] false) [2] 0)
  .ret))
def f_model_leaf : IFunc := { np := 1, res := [.t 2], own := false, trunc := true, body := f_model_leaf_0 }

/- 104: latchwork/model.Widths -/
/- at its head: [0, 4, 5, 9, 10, 11] -/
def f_model_Widths_b1 : ICode :=
  (.post (.seq (.region [
    ⟨.bin 12 .lss (.t 11) (.t 10), none⟩] false)
  (.seq (.cond (.t 12) .skip
  (.exit 0))
  (.seq (.block 1 (.seq (.post (.region [
    ⟨.mv 13 (.t 11), none⟩,
    ⟨.iaddr 14 1 none (.t 9) (.t 11), none⟩,
    ⟨.load 15 false 1 (.t 14), none⟩,
    ⟨.mv 6 (.t 13), none⟩,
    ⟨.mv 7 (.t 15), none⟩] false) [0, 4, 5, 6, 7, 9, 10, 11] 3)
  (.post (.region [
    ⟨.mv 16 (.t 6), none⟩,
    ⟨.mv 17 (.t 0), none⟩,
    ⟨.mv 18 (.t 7), none⟩,
    ⟨.iaddr 19 6 none (.t 17) (.t 18), none⟩,
    ⟨.faddr 20 (.t 19) 1, none⟩,
    ⟨.load 21 false 1 (.t 20), none⟩,
    ⟨.iaddr 22 1 (some 3) (.t 5) (.t 16), none⟩,
    ⟨.store false 1 (.t 22) (.t 21), none⟩] false) [0, 4, 5, 9, 10, 11] 3)))
  (.post (.region [
    ⟨.bin 23 .add (.t 11) (.c (.int .i64 1)), none⟩,
    ⟨.mv 11 (.t 23), none⟩] false) [0, 4, 5, 9, 10, 11] 3)))) [0, 4, 5, 9, 10, 11] 3)
def f_model_Widths_l1 : ICode :=
  (.post (.block 0 (.loop f_model_Widths_b1)) [4, 5] 3)
def f_model_Widths_k1 : ICode :=
  (.seq (.post (.region [
    ⟨.load 24 true 3 (.t 5), none⟩,
    ⟨.store false 3 (.t 4) (.t 24), none⟩] false) [4] 2)
  .ret)
def f_model_Widths_0 : ICode :=
  (.seq (.post (.region [
    ⟨.box 3 false false (.t 1), none⟩,
    ⟨.alloc 4 false (.agg [.int .i64 0, .int .i64 0, .int .i64 0]), none⟩] false) [0, 3, 4] 2)
  (.seq (.region [
    ⟨.alloc 5 false (.agg [.int .i64 0, .int .i64 0, .int .i64 0]), none⟩] false)
  (.seq (.seq (.post (.region [
    ⟨.load 8 true 6 (.t 3), none⟩,
    ⟨.call (some 9) true 81 [(.t 8)], none⟩,
    ⟨.len 10 0 (.t 9), none⟩,
    ⟨.mv 11 (.c (.int .i64 0)), none⟩] false) [0, 4, 5, 9, 10, 11] 3)
  (.cut f_model_Widths_l1))
  (.cut f_model_Widths_k1))))
def f_model_Widths : IFunc := { np := 2, res := [.cell 4 true 3], own := false, trunc := true, body := f_model_Widths_0 }

/- 105: latchwork/model.bits -/
/- at its head: [2, 5, 8, 9, 10] -/
def f_model_bits_b1 : ICode :=
  (.post (.seq (.region [
    ⟨.bin 11 .lss (.t 10) (.t 9), none⟩] false)
  (.seq (.cond (.t 11) .skip
  (.exit 0))
  (.seq (.block 1 (.seq (.post (.region [
    ⟨.iaddr 12 1 none (.t 8) (.t 10), none⟩,
    ⟨.load 13 false 1 (.t 12), none⟩,
    ⟨.mv 7 (.t 13), none⟩] false) [2, 5, 7, 8, 9, 10] 1)
  (.post (.region [
    ⟨.mv 14 (.t 5), none⟩,
    ⟨.faddr 15 (.t 2) 0, none⟩,
    ⟨.load 16 false 1 (.t 15), none⟩,
    ⟨.mv 17 (.t 7), none⟩,
    ⟨.iaddr 18 6 none (.t 16) (.t 17), none⟩,
    ⟨.faddr 19 (.t 18) 1, none⟩,
    ⟨.load 20 false 1 (.t 19), none⟩,
    ⟨.bin 21 .add (.t 14) (.t 20), none⟩,
    ⟨.mv 5 (.t 21), none⟩] false) [2, 5, 8, 9, 10] 1)))
  (.post (.region [
    ⟨.bin 22 .add (.t 10) (.c (.int .i64 1)), none⟩,
    ⟨.mv 10 (.t 22), none⟩] false) [2, 5, 8, 9, 10] 1)))) [2, 5, 8, 9, 10] 1)
def f_model_bits_l1 : ICode :=
  (.post (.block 0 (.loop f_model_bits_b1)) [5] 0)
def f_model_bits_k1 : ICode :=
  (.seq (.post (.region [
    ⟨.mv 23 (.t 5), none⟩,
    ⟨.mv 4 (.t 23), none⟩] false) [4] 0)
  .ret)
def f_model_bits_0 : ICode :=
  (.seq (.post (.region [
    ⟨.box 2 false false (.t 0), none⟩,
    ⟨.mv 4 (.c (.int .i64 0)), none⟩] false) [1, 2] 1)
  (.seq (.region [
    ⟨.mv 5 (.c (.int .i64 0)), none⟩] false)
  (.seq (.seq (.post (.region [
    ⟨.mv 8 (.t 1), none⟩,
    ⟨.len 9 0 (.t 8), none⟩,
    ⟨.mv 10 (.c (.int .i64 0)), none⟩] false) [2, 5, 8, 9, 10] 1)
  (.cut f_model_bits_l1))
  (.cut f_model_bits_k1))))
def f_model_bits : IFunc := { np := 2, res := [.t 4], own := false, trunc := true, body := f_model_bits_0 }

/- 106: (*latchwork/model.checker).pair -/
def f_model_checker_pair_0 : ICode :=
  (.seq (.post (.region [
    ⟨.box 4 false false (.t 1), none⟩,
    ⟨.mv 6 (.c (.int .i64 0)), none⟩] false) [0, 2, 4] 1)
  (.seq (.block 0 (.seq (.post (.region [
    ⟨.mv 8 (.t 0), none⟩,
    ⟨.faddr 9 (.t 4) 0, none⟩,
    ⟨.load 10 false 1 (.t 9), none⟩,
    ⟨.call (some 11) true 118 [(.t 8), (.t 10)], none⟩,
    ⟨.un 12 .not (.t 11), none⟩,
    ⟨.mv 13 (.t 12), none⟩,
    ⟨.mv 14 (.t 0), some (13, false)⟩,
    ⟨.faddr 15 (.t 4) 1, some (13, false)⟩,
    ⟨.load 16 false 1 (.t 15), some (13, false)⟩,
    ⟨.call (some 17) true 118 [(.t 14), (.t 16)], some (13, false)⟩,
    ⟨.un 18 .not (.t 17), some (13, false)⟩,
    ⟨.pick 19 (.t 13) (.c (.bool true)) (.t 18), none⟩,
    ⟨.mv 20 (.t 19), none⟩,
    ⟨.mv 21 (.t 0), some (20, false)⟩,
    ⟨.nilc 22 (.t 21), some (20, false)⟩,
    ⟨.faddr 23 (.t 22) 0, some (20, false)⟩,
    ⟨.faddr 24 (.t 23) 0, some (20, false)⟩,
    ⟨.load 25 false 1 (.t 24), some (20, false)⟩,
    ⟨.faddr 26 (.t 4) 0, some (20, false)⟩,
    ⟨.load 27 false 1 (.t 26), some (20, false)⟩,
    ⟨.iaddr 28 6 none (.t 25) (.t 27), some (20, false)⟩,
    ⟨.faddr 29 (.t 28) 0, some (20, false)⟩,
    ⟨.load 30 false 1 (.t 29), some (20, false)⟩,
    ⟨.bin 31 .neq (.t 30) (.c (.int .i64 3)), some (20, false)⟩,
    ⟨.pick 32 (.t 20) (.c (.bool true)) (.t 31), none⟩,
    ⟨.mv 7 (.t 32), none⟩] true) [0, 2, 4, 7] 1)
  (.cond (.t 7) (.seq (.post (.region [
    ⟨.mv 6 (.c (.int .i64 5)), none⟩] false) [6] 0)
  .ret)
  (.seq (.post (.region [
    ⟨.mv 34 (.t 0), none⟩,
    ⟨.nilc 35 (.t 34), none⟩,
    ⟨.faddr 36 (.t 35) 0, none⟩,
    ⟨.faddr 37 (.t 36) 0, none⟩,
    ⟨.load 38 false 1 (.t 37), none⟩,
    ⟨.faddr 39 (.t 4) 0, none⟩,
    ⟨.load 40 false 1 (.t 39), none⟩,
    ⟨.iaddr 41 6 none (.t 38) (.t 40), none⟩,
    ⟨.faddr 42 (.t 41) 1, none⟩,
    ⟨.load 43 false 1 (.t 42), none⟩,
    ⟨.mv 44 (.t 0), none⟩,
    ⟨.nilc 45 (.t 44), none⟩,
    ⟨.faddr 46 (.t 45) 0, none⟩,
    ⟨.faddr 47 (.t 46) 0, none⟩,
    ⟨.load 48 false 1 (.t 47), none⟩,
    ⟨.faddr 49 (.t 4) 1, none⟩,
    ⟨.load 50 false 1 (.t 49), none⟩,
    ⟨.iaddr 51 6 none (.t 48) (.t 50), none⟩,
    ⟨.faddr 52 (.t 51) 1, none⟩,
    ⟨.load 53 false 1 (.t 52), none⟩,
    ⟨.bin 54 .neq (.t 43) (.t 53), none⟩,
    ⟨.mv 33 (.t 54), none⟩] true) [0, 2, 4, 33] 1)
  (.cond (.t 33) (.seq (.post (.region [
    ⟨.mv 6 (.c (.int .i64 1)), none⟩] false) [6] 0)
  .ret)
  (.seq (.post (.region [
    ⟨.mv 56 (.t 2), none⟩,
    ⟨.mv 57 (.t 56), none⟩,
    ⟨.mv 58 (.t 0), some (57, true)⟩,
    ⟨.nilc 59 (.t 58), some (57, true)⟩,
    ⟨.faddr 60 (.t 59) 5, some (57, true)⟩,
    ⟨.load 61 false 1 (.t 60), some (57, true)⟩,
    ⟨.faddr 62 (.t 4) 1, some (57, true)⟩,
    ⟨.load 63 false 1 (.t 62), some (57, true)⟩,
    ⟨.iaddr 64 1 none (.t 61) (.t 63), some (57, true)⟩,
    ⟨.load 65 false 1 (.t 64), some (57, true)⟩,
    ⟨.pick 66 (.t 57) (.t 65) (.c (.bool false)), none⟩,
    ⟨.mv 55 (.t 66), none⟩] true) [55] 0)
  (.cond (.t 55) (.seq (.post (.region [
    ⟨.mv 6 (.c (.int .i64 4)), none⟩] false) [6] 0)
  .ret)
  .skip)))))))
  (.seq (.post (.region [
    ⟨.mv 6 (.c (.int .i64 0)), none⟩] false) [6] 0)
  .ret)))
def f_model_checker_pair : IFunc := { np := 3, res := [.t 6], own := false, trunc := true, body := f_model_checker_pair_0 }

/- 108: (*latchwork/model.checker).marks$1 -/
def f_model_checker_marks_1_0 : ICode :=
  (.seq (.post (.region [
    ⟨.mv 3 (.c (.bool false)), none⟩] false) [0, 1] 0)
  (.seq (.post (.region [
    ⟨.load 4 false 1 (.t 1), none⟩,
    ⟨.mv 5 (.t 0), none⟩,
    ⟨.call (some 6) true 118 [(.t 4), (.t 5)], none⟩,
    ⟨.un 7 .not (.t 6), none⟩,
    ⟨.mv 3 (.t 7), none⟩] false) [3] 0)
  .ret))
def f_model_checker_marks_1 : IFunc := { np := 2, res := [.t 3], own := false, trunc := true, body := f_model_checker_marks_1_0 }

/- 109: (*latchwork/model.checker).marks$2 -/
def f_model_checker_marks_2_0 : ICode :=
  (.seq (.post (.region [
    ⟨.mv 3 (.c (.bool false)), none⟩] false) [0, 1] 0)
  (.seq (.post (.region [
    ⟨.load 4 false 1 (.t 1), none⟩,
    ⟨.nilc 5 (.t 4), none⟩,
    ⟨.faddr 6 (.t 5) 0, none⟩,
    ⟨.faddr 7 (.t 6) 0, none⟩,
    ⟨.load 8 false 1 (.t 7), none⟩,
    ⟨.mv 9 (.t 0), none⟩,
    ⟨.iaddr 10 6 none (.t 8) (.t 9), none⟩,
    ⟨.faddr 11 (.t 10) 1, none⟩,
    ⟨.load 12 false 1 (.t 11), none⟩,
    ⟨.bin 13 .neq (.t 12) (.c (.int .i64 1)), none⟩,
    ⟨.mv 3 (.t 13), none⟩] false) [3] 0)
  .ret))
def f_model_checker_marks_2 : IFunc := { np := 2, res := [.t 3], own := false, trunc := true, body := f_model_checker_marks_2_0 }

/- 118: (*latchwork/model.checker).is -/
def f_model_checker_is_0 : ICode :=
  (.seq (.post (.region [
    ⟨.mv 4 (.c (.bool false)), none⟩] false) [0, 1] 0)
  (.seq (.post (.region [
    ⟨.mv 5 (.t 1), none⟩,
    ⟨.bin 6 .geq (.t 5) (.c (.int .i64 0)), none⟩,
    ⟨.mv 7 (.t 6), none⟩,
    ⟨.mv 8 (.t 1), some (7, true)⟩,
    ⟨.mv 9 (.t 0), some (7, true)⟩,
    ⟨.nilc 10 (.t 9), some (7, true)⟩,
    ⟨.faddr 11 (.t 10) 0, some (7, true)⟩,
    ⟨.faddr 12 (.t 11) 0, some (7, true)⟩,
    ⟨.load 13 false 1 (.t 12), some (7, true)⟩,
    ⟨.len 14 0 (.t 13), some (7, true)⟩,
    ⟨.bin 15 .lss (.t 8) (.t 14), some (7, true)⟩,
    ⟨.pick 16 (.t 7) (.t 15) (.c (.bool false)), none⟩,
    ⟨.mv 4 (.t 16), none⟩] false) [4] 0)
  .ret))
def f_model_checker_is : IFunc := { np := 2, res := [.t 4], own := false, trunc := true, body := f_model_checker_is_0 }

/- 120: latchwork/model.Args#K -/
def f_model_Args_K_0 : ICode :=
  (.seq (.post (.region [
    ⟨.box 1 false false (.t 0), none⟩,
    ⟨.mv 2 (.c (.sl true 1 [])), none⟩] false) [1] 1)
  (.seq (.post (.region [
    ⟨.faddr 3 (.t 1) 2, none⟩,
    ⟨.loadH 4 (.t 3), none⟩,
    ⟨.faddr 5 (.t 1) 3, none⟩,
    ⟨.loadH 6 (.t 5), none⟩,
    ⟨.faddr 7 (.t 1) 4, none⟩,
    ⟨.loadH 8 (.t 7), none⟩,
    ⟨.buildSlK 9 [(.t 4), (.t 6), (.t 8)], none⟩,
    ⟨.faddr 10 (.t 1) 0, none⟩,
    ⟨.loadH 11 (.t 10), none⟩,
    ⟨.callF (some 12) 63 [(.t 11)], none⟩,
    ⟨.slice 13 1 (.t 9) none (some (.t 12)), none⟩,
    ⟨.tk 2 13, none⟩] true) [2] 0)
  .ret))
def f_model_Args_K : IFunc := { np := 1, res := [.t 2], own := false, trunc := false, body := f_model_Args_K_0 }

end Go.Lw
end

/-! The code of package Ref for the small machine. Written by program (gen.py). -/
section
set_option maxRecDepth 10000
namespace Go.Lw
open Go

/- 2: latchwork/latchworkref.CheckGraph -/
/- at its head: [1, 3] -/
/- at its head: [1, 6] -/
/- 3: latchwork/latchworkref.IsLit -/
/- 4: latchwork/latchworkref.AndOf -/
/- 7: latchwork/latchworkref.SameGraph -/
/- at its head: [2, 3, 5] -/
/- 10: latchwork/latchworkref.AreLits -/
/- at its head: [1, 2, 5] -/
/- 11: latchwork/latchworkref.NodesOf -/
/- at its head: [2, 5, 6] -/
/- 12: latchwork/latchworkref.LitOf -/
/- 17: latchwork/latchworkref.ClausesOf -/
/- at its head: [1, 4, 6, 7] -/
/- 23: latchwork/latchworkref.FitOf -/
/- at its head: [0, 1, 2, 7, 9, 10] -/
/- 26: latchwork/latchworkref.Takes -/
/- 27: latchwork/latchworkref.Two -/
/- at its head: [0, 3, 4] -/
/- 28: latchwork/latchworkref.Made -/
/- 36: latchwork/latchworkref.CheckModel -/
/- at its head: [1, 3] -/
/- at its head: [1, 5, 6, 7, 8] -/
/- at its head: [1, 5, 6] -/
/- at its head: [1, 10, 11, 12, 13] -/
/- at its head: [1, 10, 11, 12] -/
/- at its head: [1, 10] -/
/- at its head: [1, 14, 15] -/
/- at its head: [1, 14, 16] -/
/- 39: latchwork/latchworkref.Nodes -/
/- at its head: [1, 2, 5, 6] -/
/- 43: latchwork/latchworkref.ConeOf -/
/- at its head: [1, 2, 6, 7] -/
/- at its head: [2, 6, 8, 9, 10] -/
/- at its head: [2, 6, 8, 9, 12] -/
/- at its head: [2, 6, 8, 9, 13] -/
/- at its head: [2, 6, 8] -/
/- at its head: [6, 14, 15] -/
/- 45: latchwork/latchworkref.Has -/
/- at its head: [0, 1, 5] -/
def f_ref_Has_b1 : ICode :=
  (.post (.seq (.seq (.post (.region [
    ⟨.mv 6 (.t 5), none⟩,
    ⟨.mv 7 (.t 0), none⟩,
    ⟨.len 8 0 (.t 7), none⟩,
    ⟨.bin 9 .lss (.t 6) (.t 8), none⟩] false) [0, 1, 5, 9] 0)
  (.cond (.t 9) .skip
  (.exit 0)))
  (.seq (.block 1 (.seq (.post (.region [
    ⟨.mv 12 (.t 0), none⟩,
    ⟨.mv 13 (.t 5), none⟩,
    ⟨.iaddr 14 1 none (.t 12) (.t 13), none⟩,
    ⟨.load 15 false 1 (.t 14), none⟩,
    ⟨.mv 16 (.t 1), none⟩,
    ⟨.bin 17 .eql (.t 15) (.t 16), none⟩] false) [0, 1, 5, 17] 0)
  (.cond (.t 17) (.seq (.post (.region [
    ⟨.mv 4 (.c (.bool true)), none⟩] false) [4] 0)
  .ret)
  .skip)))
  (.post (.region [
    ⟨.mv 10 (.t 5), none⟩,
    ⟨.bin 11 .add (.t 10) (.c (.int .i64 1)), none⟩,
    ⟨.mv 5 (.t 11), none⟩] false) [0, 1, 5] 0))) [0, 1, 5] 0)
def f_ref_Has_l1 : ICode :=
  (.post (.block 0 (.loop f_ref_Has_b1)) [] 0)
def f_ref_Has_k1 : ICode :=
  (.seq (.region [
    ⟨.mv 4 (.c (.bool false)), none⟩] false)
  .ret)
def f_ref_Has_0 : ICode :=
  (.seq (.post (.region [
    ⟨.mv 4 (.c (.bool false)), none⟩] false) [0, 1] 0)
  (.seq (.seq (.post (.region [
    ⟨.mv 5 (.c (.int .i64 0)), none⟩] false) [0, 1, 5] 0)
  (.cut f_ref_Has_l1))
  (.cut f_ref_Has_k1)))
def f_ref_Has : IFunc := { np := 2, res := [.t 4], own := false, trunc := true, body := f_ref_Has_0 }

/- 46: latchwork/latchworkref.SameInts -/
/- at its head: [0, 1, 5] -/
def f_ref_SameInts_b1 : ICode :=
  (.post (.seq (.seq (.post (.region [
    ⟨.mv 11 (.t 5), none⟩,
    ⟨.mv 12 (.t 0), none⟩,
    ⟨.len 13 0 (.t 12), none⟩,
    ⟨.bin 14 .lss (.t 11) (.t 13), none⟩] false) [0, 1, 5, 14] 0)
  (.cond (.t 14) .skip
  (.exit 0)))
  (.seq (.block 1 (.seq (.post (.region [
    ⟨.mv 17 (.t 0), none⟩,
    ⟨.mv 18 (.t 5), none⟩,
    ⟨.iaddr 19 1 none (.t 17) (.t 18), none⟩,
    ⟨.load 20 false 1 (.t 19), none⟩,
    ⟨.mv 21 (.t 1), none⟩,
    ⟨.mv 22 (.t 5), none⟩,
    ⟨.iaddr 23 1 none (.t 21) (.t 22), none⟩,
    ⟨.load 24 false 1 (.t 23), none⟩,
    ⟨.bin 25 .neq (.t 20) (.t 24), none⟩] true) [0, 1, 5, 25] 0)
  (.cond (.t 25) (.seq (.post (.region [
    ⟨.mv 4 (.c (.bool false)), none⟩] false) [4] 0)
  .ret)
  .skip)))
  (.post (.region [
    ⟨.mv 15 (.t 5), none⟩,
    ⟨.bin 16 .add (.t 15) (.c (.int .i64 1)), none⟩,
    ⟨.mv 5 (.t 16), none⟩] false) [0, 1, 5] 0))) [0, 1, 5] 0)
def f_ref_SameInts_l1 : ICode :=
  (.post (.block 0 (.loop f_ref_SameInts_b1)) [] 0)
def f_ref_SameInts_k1 : ICode :=
  (.seq (.region [
    ⟨.mv 4 (.c (.bool true)), none⟩] false)
  .ret)
def f_ref_SameInts_0 : ICode :=
  (.seq (.post (.region [
    ⟨.mv 4 (.c (.bool false)), none⟩] false) [0, 1] 0)
  (.seq (.seq (.post (.region [
    ⟨.mv 6 (.t 0), none⟩,
    ⟨.len 7 0 (.t 6), none⟩,
    ⟨.mv 8 (.t 1), none⟩,
    ⟨.len 9 0 (.t 8), none⟩,
    ⟨.bin 10 .neq (.t 7) (.t 9), none⟩] false) [0, 1, 10] 0)
  (.cond (.t 10) (.seq (.post (.region [
    ⟨.mv 4 (.c (.bool false)), none⟩] false) [4] 0)
  .ret)
  .skip))
  (.seq (.seq (.post (.region [
    ⟨.mv 5 (.c (.int .i64 0)), none⟩] false) [0, 1, 5] 0)
  (.cut f_ref_SameInts_l1))
  (.cut f_ref_SameInts_k1))))
def f_ref_SameInts : IFunc := { np := 2, res := [.t 4], own := false, trunc := true, body := f_ref_SameInts_0 }

/- 50: latchwork/latchworkref.between -/
/- 51: latchwork/latchworkref.AndAt -/
/- at its head: [1, 3, 5, 7] -/
/- 56: latchwork/latchworkref.AndClauses -/
/- at its head: [1, 2, 5, 6] -/
/- 57: latchwork/latchworkref.MustClauses -/
/- 58: latchwork/latchworkref.DoneClauses -/
/- 60: latchwork/latchworkref.SameClauses -/
/- 67: latchwork/latchworkref.bitwise -/
/- at its head: [0, 1, 2, 7, 9, 10] -/
/- 68: latchwork/latchworkref.yes -/
/- 69: latchwork/latchworkref.Signed -/
/- 72: latchwork/latchworkref.CheckNode -/
/- at its head: [0, 1, 5, 6, 7] -/
/- 73: latchwork/latchworkref.Bits -/
/- at its head: [1, 2, 5, 6] -/
/- 74: latchwork/latchworkref.hangs -/
/- at its head: [1, 3, 4] -/
/- 84: latchwork/latchworkref.ConeOf$1 -/
/- 92: latchwork/latchworkref.Num -/
/- 93: latchwork/latchworkref.CheckClauses -/
/- at its head: [1, 3] -/
/- 95: latchwork/latchworkref.SameLists -/
/- at its head: [0, 1, 5] -/
/- 97: latchwork/latchworkref.Bit -/
/- 102: latchwork/latchworkref.WidthsOf -/
/- 112: latchwork/latchworkref.CheckClause -/
/- at its head: [0, 1, 5] -/
end Go.Lw
end

/-! The code of package Word for the small machine. Written by program (gen.py). -/
section
set_option maxRecDepth 10000
namespace Go.Lw
open Go

/- 22: latchwork/word.Fit -/
/- at its head: [0, 1, 2, 7, 9, 24, 25] -/
def f_word_Fit_b1 : ICode :=
  (.post (.seq (.region [
    ⟨.bin 26 .lss (.t 25) (.c (.int .i64 3)), none⟩] false)
  (.seq (.cond (.t 26) .skip
  (.exit 0))
  (.seq (.block 1 (.seq (.post (.region [
    ⟨.mv 27 (.t 25), none⟩,
    ⟨.index 28 1 3 false (.t 24) (.t 25), none⟩,
    ⟨.mv 11 (.t 27), none⟩,
    ⟨.mv 12 (.t 28), none⟩] false) [0, 1, 2, 7, 9, 11, 12, 24, 25] 1)
  (.seq (.post (.region [
    ⟨.mv 29 (.t 11), none⟩,
    ⟨.mv 30 (.t 0), none⟩,
    ⟨.call (some 31) true 63 [(.t 30)], none⟩,
    ⟨.bin 32 .lss (.t 29) (.t 31), none⟩,
    ⟨.mv 33 (.t 32), none⟩,
    ⟨.mv 34 (.t 12), some (33, true)⟩,
    ⟨.call (some 35) true 62 [(.t 34)], some (33, true)⟩,
    ⟨.un 36 .not (.t 35), some (33, true)⟩,
    ⟨.pick 37 (.t 33) (.t 36) (.c (.bool false)), none⟩,
    ⟨.mv 38 (.t 37), none⟩,
    ⟨.mv 39 (.t 11), some (38, false)⟩,
    ⟨.mv 40 (.t 0), some (38, false)⟩,
    ⟨.call (some 41) true 63 [(.t 40)], some (38, false)⟩,
    ⟨.bin 42 .geq (.t 39) (.t 41), some (38, false)⟩,
    ⟨.mv 43 (.t 42), some (38, false)⟩,
    ⟨.mv 44 (.t 12), some (43, true)⟩,
    ⟨.bin 45 .neq (.t 44) (.c (.int .i64 0)), some (43, true)⟩,
    ⟨.pick 46 (.t 43) (.t 45) (.c (.bool false)), some (38, false)⟩,
    ⟨.pick 47 (.t 38) (.c (.bool true)) (.t 46), none⟩] false) [0, 1, 2, 7, 9, 24, 25, 47] 1)
  (.cond (.t 47) (.seq (.post (.region [
    ⟨.mv 8 (.c (.int .i64 3)), none⟩] false) [8] 0)
  .ret)
  .skip))))
  (.post (.region [
    ⟨.bin 48 .add (.t 25) (.c (.int .i64 1)), none⟩,
    ⟨.mv 25 (.t 48), none⟩] false) [0, 1, 2, 7, 9, 24, 25] 1)))) [0, 1, 2, 7, 9, 24, 25] 1)
def f_word_Fit_l1 : ICode :=
  (.post (.block 0 (.loop f_word_Fit_b1)) [1, 2, 7, 9] 1)
def f_word_Fit_k1 : ICode :=
  (.seq (.seq (.post (.region [
    ⟨.mv 49 (.t 9), none⟩,
    ⟨.mv 50 (.t 1), none⟩,
    ⟨.mv 51 (.t 2), none⟩,
    ⟨.load 52 true 3 (.t 7), none⟩,
    ⟨.call (some 53) true 64 [(.t 49), (.t 50), (.t 51), (.t 52)], none⟩,
    ⟨.un 54 .not (.t 53), none⟩] false) [54] 0)
  (.cond (.t 54) (.seq (.post (.region [
    ⟨.mv 8 (.c (.int .i64 1)), none⟩] false) [8] 0)
  .ret)
  .skip))
  (.seq (.post (.region [
    ⟨.mv 8 (.c (.int .i64 0)), none⟩] false) [8] 0)
  .ret))
def f_word_Fit_0 : ICode :=
  (.seq (.post (.region [
    ⟨.box 7 false false (.t 3), none⟩,
    ⟨.mv 8 (.c (.int .i64 0)), none⟩] false) [0, 1, 2, 7] 1)
  (.seq (.post (.region [
    ⟨.call (some 14) false 61 [], none⟩,
    ⟨.mv 15 (.t 0), none⟩,
    ⟨.lookup 16 0 (.t 14) (.t 15) true (.int .i64 0), none⟩,
    ⟨.mv 13 (.t 16), none⟩,
    ⟨.extract 17 (.t 13) 0, none⟩,
    ⟨.extract 18 (.t 13) 1, none⟩,
    ⟨.mv 9 (.t 17), none⟩,
    ⟨.mv 10 (.t 18), none⟩] false) [0, 1, 2, 7, 9, 10] 1)
  (.seq (.seq (.post (.region [
    ⟨.mv 19 (.t 10), none⟩,
    ⟨.un 20 .not (.t 19), none⟩] false) [0, 1, 2, 7, 9, 20] 1)
  (.cond (.t 20) (.seq (.post (.region [
    ⟨.mv 8 (.c (.int .i64 7)), none⟩] false) [8] 0)
  .ret)
  .skip))
  (.seq (.seq (.post (.region [
    ⟨.mv 21 (.t 1), none⟩,
    ⟨.call (some 22) true 62 [(.t 21)], none⟩,
    ⟨.un 23 .not (.t 22), none⟩] false) [0, 1, 2, 7, 9, 23] 1)
  (.cond (.t 23) (.seq (.post (.region [
    ⟨.mv 8 (.c (.int .i64 3)), none⟩] false) [8] 0)
  .ret)
  .skip))
  (.seq (.seq (.post (.region [
    ⟨.load 24 true 3 (.t 7), none⟩,
    ⟨.mv 25 (.c (.int .i64 0)), none⟩] false) [0, 1, 2, 7, 9, 24, 25] 1)
  (.cut f_word_Fit_l1))
  (.cut f_word_Fit_k1))))))
def f_word_Fit : IFunc := { np := 4, res := [.t 8], own := false, trunc := true, body := f_word_Fit_0 }

/- 25: latchwork/word.Apply -/
/- at its head: [0, 1, 2, 3, 4, 5, 13, 30, 31, 32] -/
/- 61: latchwork/word.shapes -/
def f_word_shapes_0 : ICode :=
  (.seq (.post (.region [
    ⟨.mv 0 (.c (.nilm)), none⟩] false) [] 0)
  (.seq (.post (.region [
    ⟨.mkmap 1, none⟩,
    ⟨.mupd 0 (.t 1) (.c (.int .i64 4)) (.c (.int .i64 1)), none⟩,
    ⟨.mupd 0 (.t 1) (.c (.int .i64 5)) (.c (.int .i64 1)), none⟩,
    ⟨.mupd 0 (.t 1) (.c (.int .i64 6)) (.c (.int .i64 2)), none⟩,
    ⟨.mupd 0 (.t 1) (.c (.int .i64 7)) (.c (.int .i64 2)), none⟩,
    ⟨.mupd 0 (.t 1) (.c (.int .i64 8)) (.c (.int .i64 2)), none⟩,
    ⟨.mupd 0 (.t 1) (.c (.int .i64 9)) (.c (.int .i64 2)), none⟩,
    ⟨.mupd 0 (.t 1) (.c (.int .i64 10)) (.c (.int .i64 2)), none⟩,
    ⟨.mupd 0 (.t 1) (.c (.int .i64 11)) (.c (.int .i64 2)), none⟩,
    ⟨.mupd 0 (.t 1) (.c (.int .i64 12)) (.c (.int .i64 2)), none⟩,
    ⟨.mupd 0 (.t 1) (.c (.int .i64 13)) (.c (.int .i64 2)), none⟩,
    ⟨.mupd 0 (.t 1) (.c (.int .i64 14)) (.c (.int .i64 2)), none⟩,
    ⟨.mupd 0 (.t 1) (.c (.int .i64 15)) (.c (.int .i64 2)), none⟩,
    ⟨.mupd 0 (.t 1) (.c (.int .i64 16)) (.c (.int .i64 3)), none⟩,
    ⟨.mupd 0 (.t 1) (.c (.int .i64 17)) (.c (.int .i64 3)), none⟩,
    ⟨.mupd 0 (.t 1) (.c (.int .i64 18)) (.c (.int .i64 3)), none⟩,
    ⟨.mupd 0 (.t 1) (.c (.int .i64 19)) (.c (.int .i64 4)), none⟩,
    ⟨.mupd 0 (.t 1) (.c (.int .i64 20)) (.c (.int .i64 5)), none⟩,
    ⟨.mupd 0 (.t 1) (.c (.int .i64 21)) (.c (.int .i64 6)), none⟩,
    ⟨.mupd 0 (.t 1) (.c (.int .i64 22)) (.c (.int .i64 7)), none⟩,
    ⟨.mupd 0 (.t 1) (.c (.int .i64 23)) (.c (.int .i64 7)), none⟩,
    ⟨.mv 2 (.t 1), none⟩,
    ⟨.mv 0 (.t 2), none⟩] false) [0] 0)
  .ret))
def f_word_shapes : IFunc := { np := 0, res := [.t 0], own := false, trunc := false, body := f_word_shapes_0 }

/- 62: latchwork/word.IsWidth -/
def f_word_IsWidth_0 : ICode :=
  (.seq (.post (.region [
    ⟨.mv 2 (.c (.bool false)), none⟩] false) [0] 0)
  (.seq (.post (.region [
    ⟨.mv 3 (.t 0), none⟩,
    ⟨.bin 4 .geq (.t 3) (.c (.int .i64 1)), none⟩,
    ⟨.mv 5 (.t 4), none⟩,
    ⟨.mv 6 (.t 0), some (5, true)⟩,
    ⟨.bin 7 .leq (.t 6) (.c (.int .i64 8)), some (5, true)⟩,
    ⟨.pick 8 (.t 5) (.t 7) (.c (.bool false)), none⟩,
    ⟨.mv 2 (.t 8), none⟩] false) [2] 0)
  .ret))
def f_word_IsWidth : IFunc := { np := 1, res := [.t 2], own := false, trunc := true, body := f_word_IsWidth_0 }

/- 63: latchwork/word.Takes -/
def f_word_Takes_k1 : ICode :=
  (.cond (.t 8) (.seq (.post (.region [
    ⟨.mv 2 (.c (.int .i64 1)), none⟩] false) [2] 0)
  .ret)
  (.seq (.post (.region [
    ⟨.bin 13 .eql (.t 5) (.c (.int .i64 4)), none⟩,
    ⟨.mv 12 (.t 13), none⟩] false) [12] 0)
  (.cond (.t 12) (.seq (.post (.region [
    ⟨.mv 2 (.c (.int .i64 3)), none⟩] false) [2] 0)
  .ret)
  .skip)))
def f_word_Takes_k2 : ICode :=
  (.seq (.post (.region [
    ⟨.mv 2 (.c (.int .i64 2)), none⟩] false) [2] 0)
  .ret)
def f_word_Takes_0 : ICode :=
  (.seq (.post (.region [
    ⟨.mv 2 (.c (.int .i64 0)), none⟩] false) [0] 0)
  (.seq (.seq (.post (.region [
    ⟨.call (some 3) false 61 [], none⟩,
    ⟨.mv 4 (.t 0), none⟩,
    ⟨.lookup 5 0 (.t 3) (.t 4) false (.int .i64 0), none⟩] false) [5] 0)
  (.block 0 (.seq (.post (.region [
    ⟨.bin 7 .eql (.t 5) (.c (.int .i64 0)), none⟩,
    ⟨.mv 6 (.t 7), none⟩] false) [5, 6] 0)
  (.cond (.t 6) (.seq (.post (.region [
    ⟨.mv 2 (.c (.int .i64 0)), none⟩] false) [2] 0)
  .ret)
  (.seq (.seq (.post (.region [
    ⟨.bin 9 .eql (.t 5) (.c (.int .i64 1)), none⟩,
    ⟨.mv 8 (.t 9), none⟩] false) [5, 8] 0)
  (.cond (.t 8) (.post .skip [5, 8] 0)
  (.post (.seq (.post (.region [
    ⟨.bin 10 .eql (.t 5) (.c (.int .i64 6)), none⟩,
    ⟨.mv 8 (.t 10), none⟩] false) [5, 8] 0)
  (.cond (.t 8) (.post .skip [5, 8] 0)
  (.post (.post (.region [
    ⟨.bin 11 .eql (.t 5) (.c (.int .i64 7)), none⟩,
    ⟨.mv 8 (.t 11), none⟩] false) [5, 8] 0) [5, 8] 0))) [5, 8] 0)))
  (.cut f_word_Takes_k1))))))
  (.cut f_word_Takes_k2)))
def f_word_Takes : IFunc := { np := 1, res := [.t 2], own := false, trunc := true, body := f_word_Takes_0 }

/- 64: latchwork/word.fits -/
def f_word_fits_0 : ICode :=
  (.seq (.post (.region [
    ⟨.box 7 false false (.t 3), none⟩,
    ⟨.mv 8 (.c (.bool false)), none⟩] false) [0, 1, 2, 7] 1)
  (.seq (.seq (.post (.region [
    ⟨.mv 9 (.t 2), none⟩,
    ⟨.bin 10 .neq (.t 9) (.c (.int .i64 0)), none⟩,
    ⟨.mv 11 (.t 10), none⟩,
    ⟨.mv 12 (.t 0), some (11, true)⟩,
    ⟨.bin 13 .neq (.t 12) (.c (.int .i64 6)), some (11, true)⟩,
    ⟨.pick 14 (.t 11) (.t 13) (.c (.bool false)), none⟩] false) [0, 1, 2, 7, 14] 1)
  (.cond (.t 14) (.seq (.post (.region [
    ⟨.mv 8 (.c (.bool false)), none⟩] false) [8] 0)
  .ret)
  .skip))
  (.seq (.seq (.post (.region [
    ⟨.mv 15 (.t 0), none⟩] false) [1, 2, 7, 15] 1)
  (.block 0 (.seq (.post (.region [
    ⟨.bin 17 .eql (.t 15) (.c (.int .i64 1)), none⟩,
    ⟨.mv 16 (.t 17), none⟩] false) [1, 2, 7, 15, 16] 1)
  (.cond (.t 16) (.seq (.post (.region [
    ⟨.iaddr 18 1 (some 3) (.t 7) (.c (.int .i64 0)), none⟩,
    ⟨.load 19 false 1 (.t 18), none⟩,
    ⟨.mv 20 (.t 1), none⟩,
    ⟨.bin 21 .eql (.t 19) (.t 20), none⟩,
    ⟨.mv 8 (.t 21), none⟩] false) [8] 0)
  .ret)
  (.seq (.post (.region [
    ⟨.bin 23 .eql (.t 15) (.c (.int .i64 2)), none⟩,
    ⟨.mv 22 (.t 23), none⟩] false) [1, 2, 7, 15, 22] 1)
  (.cond (.t 22) (.seq (.post (.region [
    ⟨.iaddr 24 1 (some 3) (.t 7) (.c (.int .i64 0)), none⟩,
    ⟨.load 25 false 1 (.t 24), none⟩,
    ⟨.mv 26 (.t 1), none⟩,
    ⟨.bin 27 .eql (.t 25) (.t 26), none⟩,
    ⟨.mv 28 (.t 27), none⟩,
    ⟨.iaddr 29 1 (some 3) (.t 7) (.c (.int .i64 1)), some (28, true)⟩,
    ⟨.load 30 false 1 (.t 29), some (28, true)⟩,
    ⟨.mv 31 (.t 1), some (28, true)⟩,
    ⟨.bin 32 .eql (.t 30) (.t 31), some (28, true)⟩,
    ⟨.pick 33 (.t 28) (.t 32) (.c (.bool false)), none⟩,
    ⟨.mv 8 (.t 33), none⟩] false) [8] 0)
  .ret)
  (.seq (.post (.region [
    ⟨.bin 35 .eql (.t 15) (.c (.int .i64 3)), none⟩,
    ⟨.mv 34 (.t 35), none⟩] false) [1, 2, 7, 15, 34] 1)
  (.cond (.t 34) (.seq (.post (.region [
    ⟨.iaddr 36 1 (some 3) (.t 7) (.c (.int .i64 0)), none⟩,
    ⟨.load 37 false 1 (.t 36), none⟩,
    ⟨.iaddr 38 1 (some 3) (.t 7) (.c (.int .i64 1)), none⟩,
    ⟨.load 39 false 1 (.t 38), none⟩,
    ⟨.bin 40 .eql (.t 37) (.t 39), none⟩,
    ⟨.mv 41 (.t 40), none⟩,
    ⟨.mv 42 (.t 1), some (41, true)⟩,
    ⟨.bin 43 .eql (.t 42) (.c (.int .i64 1)), some (41, true)⟩,
    ⟨.pick 44 (.t 41) (.t 43) (.c (.bool false)), none⟩,
    ⟨.mv 8 (.t 44), none⟩] false) [8] 0)
  .ret)
  (.seq (.post (.region [
    ⟨.bin 46 .eql (.t 15) (.c (.int .i64 4)), none⟩,
    ⟨.mv 45 (.t 46), none⟩] false) [1, 2, 7, 15, 45] 1)
  (.cond (.t 45) (.seq (.post (.region [
    ⟨.iaddr 47 1 (some 3) (.t 7) (.c (.int .i64 0)), none⟩,
    ⟨.load 48 false 1 (.t 47), none⟩,
    ⟨.bin 49 .eql (.t 48) (.c (.int .i64 1)), none⟩,
    ⟨.mv 50 (.t 49), none⟩,
    ⟨.iaddr 51 1 (some 3) (.t 7) (.c (.int .i64 1)), some (50, true)⟩,
    ⟨.load 52 false 1 (.t 51), some (50, true)⟩,
    ⟨.mv 53 (.t 1), some (50, true)⟩,
    ⟨.bin 54 .eql (.t 52) (.t 53), some (50, true)⟩,
    ⟨.pick 55 (.t 50) (.t 54) (.c (.bool false)), none⟩,
    ⟨.mv 56 (.t 55), none⟩,
    ⟨.iaddr 57 1 (some 3) (.t 7) (.c (.int .i64 2)), some (56, true)⟩,
    ⟨.load 58 false 1 (.t 57), some (56, true)⟩,
    ⟨.mv 59 (.t 1), some (56, true)⟩,
    ⟨.bin 60 .eql (.t 58) (.t 59), some (56, true)⟩,
    ⟨.pick 61 (.t 56) (.t 60) (.c (.bool false)), none⟩,
    ⟨.mv 8 (.t 61), none⟩] false) [8] 0)
  .ret)
  (.seq (.post (.region [
    ⟨.bin 63 .eql (.t 15) (.c (.int .i64 5)), none⟩,
    ⟨.mv 62 (.t 63), none⟩] false) [1, 2, 7, 15, 62] 1)
  (.cond (.t 62) (.seq (.post (.region [
    ⟨.iaddr 64 1 (some 3) (.t 7) (.c (.int .i64 0)), none⟩,
    ⟨.load 65 false 1 (.t 64), none⟩,
    ⟨.iaddr 66 1 (some 3) (.t 7) (.c (.int .i64 1)), none⟩,
    ⟨.load 67 false 1 (.t 66), none⟩,
    ⟨.bin 68 .add (.t 65) (.t 67), none⟩,
    ⟨.mv 69 (.t 1), none⟩,
    ⟨.bin 70 .eql (.t 68) (.t 69), none⟩,
    ⟨.mv 8 (.t 70), none⟩] false) [8] 0)
  .ret)
  (.seq (.post (.region [
    ⟨.bin 72 .eql (.t 15) (.c (.int .i64 6)), none⟩,
    ⟨.mv 71 (.t 72), none⟩] false) [1, 2, 7, 71] 1)
  (.cond (.t 71) (.seq (.post (.region [
    ⟨.mv 73 (.t 2), none⟩,
    ⟨.bin 74 .geq (.t 73) (.c (.int .i64 0)), none⟩,
    ⟨.mv 75 (.t 74), none⟩,
    ⟨.mv 76 (.t 2), some (75, true)⟩,
    ⟨.iaddr 77 1 (some 3) (.t 7) (.c (.int .i64 0)), some (75, true)⟩,
    ⟨.load 78 false 1 (.t 77), some (75, true)⟩,
    ⟨.mv 79 (.t 1), some (75, true)⟩,
    ⟨.bin 80 .sub (.t 78) (.t 79), some (75, true)⟩,
    ⟨.bin 81 .leq (.t 76) (.t 80), some (75, true)⟩,
    ⟨.pick 82 (.t 75) (.t 81) (.c (.bool false)), none⟩,
    ⟨.mv 8 (.t 82), none⟩] false) [8] 0)
  .ret)
  .skip))))))))))))))
  (.seq (.post (.region [
    ⟨.mv 83 (.t 1), none⟩,
    ⟨.iaddr 84 1 (some 3) (.t 7) (.c (.int .i64 0)), none⟩,
    ⟨.load 85 false 1 (.t 84), none⟩,
    ⟨.bin 86 .geq (.t 83) (.t 85), none⟩,
    ⟨.mv 8 (.t 86), none⟩] false) [8] 0)
  .ret))))
def f_word_fits : IFunc := { np := 4, res := [.t 8], own := false, trunc := true, body := f_word_fits_0 }

/- 65: latchwork/word.IsWord -/
def f_word_IsWord_0 : ICode :=
  (.seq (.post (.region [
    ⟨.mv 4 (.c (.bool false)), none⟩] false) [0, 1] 0)
  (.seq (.post (.region [
    ⟨.mv 5 (.t 0), none⟩,
    ⟨.bin 6 .geq (.t 5) (.c (.int .i64 0)), none⟩,
    ⟨.mv 7 (.t 6), none⟩,
    ⟨.mv 8 (.t 0), some (7, true)⟩,
    ⟨.mv 9 (.t 1), some (7, true)⟩,
    ⟨.bin 10 .shl (.c (.int .i64 1)) (.t 9), some (7, true)⟩,
    ⟨.bin 11 .lss (.t 8) (.t 10), some (7, true)⟩,
    ⟨.pick 12 (.t 7) (.t 11) (.c (.bool false)), none⟩,
    ⟨.mv 4 (.t 12), none⟩] false) [4] 0)
  .ret))
def f_word_IsWord : IFunc := { np := 2, res := [.t 4], own := false, trunc := true, body := f_word_IsWord_0 }

/- 66: latchwork/word.Raw -/
/- 96: latchwork/word.do -/
/- 114: latchwork/word.yes -/
/- 115: latchwork/word.signed -/
end Go.Lw
end

/-! All functions by number. Written by program (gen.py). -/
section
namespace Go.Lw
open Go

def pgL : List (Option IDef) := [
  none,
  none,
  none,
  none,
  none,
  none,
  none,
  none,
  none,
  none,
  none,
  none,
  none,
  none,
  none,
  none,
  none,
  none,
  none,
  none,
  none,
  none,
  some (.code f_word_Fit),
  none,
  none,
  none,
  none,
  none,
  none,
  none,
  none,
  none,
  none,
  none,
  none,
  some (.code f_model_States),
  none,
  some (.code f_law_modelBegun),
  some (.code f_model_Check),
  none,
  none,
  none,
  some (.code f_model_Cone),
  none,
  some (.code f_law_ModelAgain),
  some (.code f_ref_Has),
  some (.code f_ref_SameInts),
  none,
  none,
  none,
  none,
  none,
  none,
  none,
  none,
  none,
  none,
  none,
  none,
  none,
  none,
  some (.code f_word_shapes),
  some (.code f_word_IsWidth),
  some (.code f_word_Takes),
  some (.code f_word_fits),
  some (.code f_word_IsWord),
  none,
  none,
  none,
  none,
  none,
  some (.code f_model_of),
  none,
  none,
  none,
  some (.code f_law_toggle),
  some (.code f_model_node),
  some (.code f_model_Bits),
  some (.code f_model_checker_lean),
  some (.code f_model_checker_pairs),
  some (.code f_model_checker_marks),
  some (.code f_model_Args),
  some (.code f_slices_Concat_Lapi_Pair_api_Pair),
  none,
  none,
  none,
  some (.code f_slices_ContainsFunc_Lint_int),
  none,
  none,
  none,
  none,
  none,
  none,
  none,
  none,
  none,
  none,
  none,
  none,
  none,
  none,
  some (.code f_model_Of),
  none,
  some (.code f_model_leaf),
  some (.code f_model_Widths),
  some (.code f_model_bits),
  some (.code f_model_checker_pair),
  some (.code f_slices_Concat_Lint_int),
  some (.code f_model_checker_marks_1),
  some (.code f_model_checker_marks_2),
  some (.lib (libGrow 2 16)),
  some (.code f_slices_IndexFunc_Lint_int),
  none,
  none,
  none,
  none,
  none,
  none,
  some (.code f_model_checker_is),
  some (.lib (libGrow 1 8)),
  some (.code f_model_Args_K),
  some (.lib (libCloneK 8))]

def pg : Prg := fun f => (pgL[f]?).bind id

end Go.Lw
end

/-! The machine's code, read off: what a piece of code comes to, said without slots. No program in sight. -/
section
namespace Go.Lw
open Go

/-- What a cell is known to be. -/
inductive Ce where
  | any
  | one
  | int (k : IntKind)
  | bool
  | str
  | gp
  | ol (z : Nat)
  deriving Inhabited

/-- What a slot is known to hold. -/
inductive Sh where
  | raw
  | ce (c : Ce)
  | agg (l : List Ce)
  | tup (n : Nat)
  deriving Inhabited

section
variable {R : Type} {α : Type}

def ob (x : Option α) (f : α → Option R) : Option R := match x with | some a => f a | none => none
def gd (b : Bool) (x : Option R) : Option R := match b with | true => x | false => none
/-- The same, of what is plain from the code. -/
def gb (b : Bool) (x : Option R) : Option R := match b with | true => x | false => none
def br (_ : Nat) (b : Bool) (x y : Option R) : Option R := match b with | true => x | false => y
def kR (x : Option (IExit × St)) (k : IExit → St → Option R) : Option R := match x with | some (e, s) => k e s | none => none
def nx (e : IExit) (s : St) (k : IExit → St → Option R) (f : St → Option R) : Option R := match e with | .normal => f s | e => k e s

def bk (id : Nat) (e : IExit) (s : St) (k : IExit → St → Option R) : Option R := match e with | .exit i => br 0 (Nat.beq i id) (k .normal s) (k (.exit i) s) | e => k e s

def iAnd (k : IntKind) (a b : Int) : Int := k.wrap (BitVec.ofInt k.bits a &&& BitVec.ofInt k.bits b).toNat
def iOr (k : IntKind) (a b : Int) : Int := k.wrap (BitVec.ofInt k.bits a ||| BitVec.ofInt k.bits b).toNat
def iXor (k : IntKind) (a b : Int) : Int := k.wrap (BitVec.ofInt k.bits a ^^^ BitVec.ofInt k.bits b).toNat
def iShl (k : IntKind) (a b : Int) : Int := k.wrap (a * 2 ^ (min b.toNat k.bits))
def iShr (k : IntKind) (a b : Int) : Int := a.fdiv (2 ^ (min b.toNat k.bits))
def iNot (k : IntKind) (n : Int) : Int := k.wrap (BitVec.ofInt k.bits (if k.signed then -1 else k.max) ^^^ BitVec.ofInt k.bits n).toNat

def kIdx : IntKind → Nat
  | .i8 => 0 | .i16 => 1 | .i32 => 2 | .i64 => 3 | .u8 => 4 | .u16 => 5 | .u32 => 6 | .u64 => 7

def kE (k k' : IntKind) (x : Option R) : Option R := gb (Nat.beq (kIdx k) (kIdx k')) x

def Fn : Nat → Type → Type
  | 0, R => R
  | n + 1, R => PV → Fn n R

def curry : (n : Nat) → (List PV → R) → Fn n R
  | 0, g => g []
  | n + 1, g => fun c => curry n fun l => g (c :: l)

def unN : (n : Nat) → List PV → Fn n (Option R) → Option R
  | 0, [], f => f
  | n + 1, c :: l, f => unN n l (f c)
  | _, _, _ => none

/-- It is one cell. -/
def isC (v : PV) (x : Option R) : Option R := match v with | .agg _ => none | _ => x

/-- It leads to no box that goes. -/
def stK (nl : Nat) (v : PV) (x : Option R) : Option R :=
  match v with
  | .ptr false b _ => gb (Nat.ble (b + 1) nl) x
  | .bs false b _ _ _ => gb (Nat.ble (b + 1) nl) x
  | _ => x

/-- A cell of memory may hold it. -/
def onK (v : PV) (x : Option R) : Option R :=
  match v with
  | .und | .agg _ | .tup _ | .ptr false _ _ | .bs false _ _ _ _ => none
  | _ => x

def arL : List PV → Option R → Option R
  | [], x => x
  | c :: l, x => onK c (arL l x)

/-- It may be handed on. -/
def arK (v : PV) (x : Option R) : Option R :=
  match v with
  | .agg cs => arL cs x
  | .und | .tup _ | .ptr false _ _ | .bs false _ _ _ _ => none
  | _ => x

def allK : List PV → Option R → Option R
  | [], x => x
  | v :: l, x => arK v (allK l x)

def lenB : List PV → Nat → Bool
  | [], 0 => true
  | _ :: l, n + 1 => lenB l n
  | _, _ => false

def geB : List PV → Nat → Bool
  | _, 0 => true
  | _ :: l, n + 1 => geB l n
  | [], _ + 1 => false

def lnK (z : Nat) (v : PV) (x : Option R) : Option R :=
  match v with
  | .agg cs => gb (lenB cs z) x
  | _ => gb (Nat.beq 1 z) x

def slK (z : Nat) : List PV → Option R → Option R
  | [], x => x
  | v :: l, x => arK v (lnK z v (slK z l x))

def isPtr : PV → Bool
  | .ptr _ _ _ | .ep _ _ | .fn _ _ => true
  | _ => false

def unI (k : IntKind) (v : PV) (f : Int → Option R) : Option R := match v with | .int k' n => kE k' k (f n) | _ => none
def anyI (v : PV) (f : Int → Option R) : Option R := match v with | .int _ n => f n | _ => none
def unB (v : PV) (f : Bool → Option R) : Option R := match v with | .bool b => f b | _ => none
def unS (v : PV) (f : ByteArray → Option R) : Option R := match v with | .str b => f b | _ => none
def unG (v : PV) (f : Nat → Nat → Option R) : Option R := match v with | .ptr true b off => f b off | _ => none
def unO (z : Nat) (v : PV) (f : List PV → Option R) : Option R := match v with | .sl true z' xs => gb (Nat.beq z' z) (f xs) | _ => none
def unA (n : Nat) (v : PV) (f : Fn n (Option R)) : Option R := match v with | .agg cs => unN n cs f | _ => none
def unT (n : Nat) (v : PV) (f : Fn n (Option R)) : Option R := match v with | .tup cs => unN n cs f | _ => none
def nilB (v : PV) (f : Bool → Option R) : Option R := match v with | .nilI => f true | .someI => f false | _ => none

def castC (c : Ce) (v : PV) (f : PV → Option R) : Option R :=
  match c with
  | .any => f v
  | .one => isC v (f v)
  | .int k => unI k v fun n => f (.int k n)
  | .bool => unB v fun b => f (.bool b)
  | .str => unS v fun b => f (.str b)
  | .gp => unG v fun b off => f (.ptr true b off)
  | .ol z => unO z v fun xs => f (.sl true z xs)

def castL : List Ce → List PV → (List PV → Option R) → Option R
  | [], [], f => f []
  | c :: cs, v :: vs, f => castC c v fun v => castL cs vs fun vs => f (v :: vs)
  | _, _, _ => none

def cast (h : Sh) (v : PV) (f : PV → Option R) : Option R :=
  match h with
  | .raw => f v
  | .ce c => castC c v f
  | .agg l => unA l.length v (curry l.length fun cs => castL l cs fun cs => f (.agg cs))
  | .tup n => unT n v (curry n fun vs => f (.tup vs))

/-- What slots are known to hold. -/
inductive Tr where
  | nil
  | node (n : Nat) (h : Sh) (l r : Tr)

def shAt : Tr → Nat → Sh
  | .nil, _ => .raw
  | .node n h l r, t => match Nat.beq n t with
    | true => h
    | false => match Nat.ble n t with
      | true => shAt r t
      | false => shAt l t

def shX (an : Tr) : IX → Sh
  | .t n => shAt an n
  | .c _ => .raw
  | .f _ => .raw

def getX : List (Nat × PV) → Nat → Option PV
  | [], _ => none
  | (a, v) :: l, t => match Nat.beq a t with
    | true => some v
    | false => getX l t

def putK : List (Nat × PV) → Nat → PV → (List (Nat × PV) → Option R) → Option R
  | [], t, v, k => k [(t, v)]
  | (a, u) :: l, t, v, k => match Nat.beq a t with
    | true => k ((t, v) :: l)
    | false => putK l t v fun l => k ((a, u) :: l)

def snocK : List α → α → (List α → Option R) → Option R
  | [], v, k => k [v]
  | u :: l, v, k => snocK l v fun l => k (u :: l)

def setK : List α → Nat → α → (List α → Option R) → Option R
  | [], _, _, k => k []
  | _ :: l, 0, v, k => k (v :: l)
  | u :: l, i + 1, v, k => setK l i v fun l => k (u :: l)

def nthX : List α → Nat → Option α
  | [], _ => none
  | u :: _, 0 => some u
  | _ :: l, i + 1 => nthX l i

def takeK : Nat → List α → (List α → Option R) → Option R
  | 0, _, k => k []
  | _, [], k => k []
  | n + 1, u :: l, k => takeK n l fun l => k (u :: l)

def evX (e : List (Nat × PV)) : IX → Option PV
  | .t n => match getX e n with
    | some v => some (degr v)
    | none => none
  | .c v => some (degr v)
  | .f id => some (.fn id [])

def evK (e : List (Nat × PV)) : IX → Option PV
  | .t n => match getX e n with
    | some v => some (degr v)
    | none => none
  | .c v => some v
  | .f id => some (.fn id [])

def evXs (e : List (Nat × PV)) : List IX → (List PV → Option R) → Option R
  | [], k => k []
  | x :: l, k => match evX e x with
    | some v => evXs e l fun vs => k (v :: vs)
    | none => none

/-- A value out of a slot, with its rights. -/
def tkX (e : List (Nat × PV)) (x : IX) (k : PV → List (Nat × PV) → Option R) : Option R :=
  match x with
  | .t n => match getX e n with
    | some v => putK e n (degr v) fun e => k v e
    | none => none
  | .c v => k v e
  | .f id => k (.fn id []) e

def putS (s : St) (d : Nat) (v : PV) (k : St → Option R) : Option R := putK s.env d v fun e => k ⟨e, s.lh, s.gh⟩

/-- Its cells. -/
def cellsX (h : Sh) (v : PV) (f : List PV → Option R) : Option R :=
  match h with
  | .ce _ => isC v (f [v])
  | _ => f v.cells

def setX (an : Tr) (s : St) (d : Nat) (v : PV) (k : St → Option R) : Option R := cast (shAt an d) v fun w => putS s d w k

def ghCells (gh : List GObj) (b : Nat) : Option (List PV) := match gh[b]? with | some (.cells cs) => some cs | _ => none
def ghMap (gh : List GObj) (b : Nat) : Option (List (PV × PV)) := match gh[b]? with | some (.map es) => some es | _ => none

def ldX (lh : List (List PV)) (gh : List GObj) (agg : Bool) (k : Nat) (p : PV) (f : PV → Option R) : Option R :=
  match p with
  | .ptr false b off => match nthX lh b with
    | some cs => ob (grab agg k off cs) fun v => f (degr v)
    | none => none
  | .ptr true b off => ob (ghCells gh b) fun cs => ob (grab agg k off cs) fun v => f (degr v)
  | .ep e off => ob (grab agg k off e.cells) f
  | _ => none

def stOk (k off : Nat) (cs old : List PV) : Bool := lenB cs k && geB old (off + k)

def stoX (s : St) (p : PV) (kk : Nat) (cs : List PV) (k : St → Option R) : Option R :=
  match p with
  | .ptr false b off => match nthX s.lh b with
    | some old => gb (stOk kk off cs old) (setK s.lh b (spliceAt old off cs) fun lh => k ⟨s.env, lh, s.gh⟩)
    | none => none
  | .ptr true b off => ob (ghCells s.gh b) fun old => gb (stOk kk off cs old) (k ⟨s.env, s.lh, s.gh.set b (.cells (spliceAt old off cs))⟩)
  | _ => none

def psX (an : Tr) (e : List (Nat × PV)) : List (Nat × Nat × IX) → List PV → (List PV → Option R) → Option R
  | [], z, f => f z
  | (off, k, x) :: l, z, f => match evX e x with
    | some v => arK v (cellsX (shX an x) v fun cs => gb (stOk k off cs z) (psX an e l (spliceAt z off cs) f))
    | none => none

def psT (an : Tr) : List (Nat × PV) → List (Nat × Nat × IX) → List PV → (List (Nat × PV) → List PV → Option R) → Option R
  | e, [], z, f => f e z
  | e, (off, k, x) :: l, z, f => tkX e x fun v e1 => arK v (cellsX (shX an x) v fun cs => gb (stOk k off cs z) (psT an e1 l (spliceAt z off cs) f))

def mkOk (n : Int) (bytes z : Nat) (zero : PV) : Bool := decide (0 ≤ n ∧ n * bytes ≤ maxBytes ∧ zero.cells.length = z ∧ argOk zero = true)

def boX (e : List (Nat × PV)) (x : Option IX) (f : Option Int → Option R) : Option R :=
  match x with
  | none => f none
  | some x => match evX e x with
    | some v => anyI v fun n => f (some n)
    | none => none

/-- A bound, if it is none below 0. -/
def bd (d : Nat) (x : Option Int) (f : Nat → Option R) : Option R := match x with | none => f d | some i => gd (decide (0 ≤ i)) (f i.toNat)

def slX (z : Nat) (v : PV) (lo hi : Option Int) (f : PV → Option R) : Option R :=
  match v with
  | .sl _ z' xs => bd xs.length hi fun h => bd 0 lo fun l => gd (decide (l ≤ h ∧ h ≤ xs.length ∧ z = z')) (f (.sl false z ((xs.take h).drop l)))
  | .bs g b off n z' => bd n hi fun h => bd 0 lo fun l => gd (decide (l ≤ h ∧ h ≤ n ∧ z = z')) (f (.bs g b (off + l * z) (h - l) z))
  | .stk b gen n => gd lo.isNone (bd n hi fun h => gd (decide (h ≤ n ∧ z = 1)) (f (.stk b gen h)))
  | _ => none

def ssX (v : PV) (lo hi : Option Int) (f : ByteArray → Option R) : Option R :=
  match v with
  | .str b => bd b.size hi fun h => bd 0 lo fun l => gd (decide (l ≤ h ∧ h ≤ b.size)) (f (b.extract l h))
  | _ => none

def faX (p : PV) (off : Nat) (f : PV → Option R) : Option R :=
  match p with
  | .ptr g b o => f (.ptr g b (o + off))
  | .ep e o => f (.ep e (o + off))
  | _ => none

def fdX (v : PV) (agg : Bool) (k off : Nat) (f : PV → Option R) : Option R :=
  match v with
  | .agg cs => ob (grab agg k off cs) f
  | _ => none

def idX (z : Nat) (arr : Option Nat) (v : PV) (i : Int) (f : PV → Option R) : Option R :=
  match arr, v with
  | none, .sl _ z' xs => gd (decide (0 ≤ i ∧ z = z')) (ob xs[i.toNat]? fun e => f (.ep e 0))
  | none, .bs g b off n z' => gd (decide (0 ≤ i ∧ i < n ∧ z = z')) (f (.ptr g b (off + i.toNat * z)))
  | some m, .ptr g b o => gd (decide (0 ≤ i ∧ i < m)) (f (.ptr g b (o + i.toNat * z)))
  | some m, .ep e o => gd (decide (0 ≤ i ∧ i < m)) (f (.ep e (o + i.toNat * z)))
  | none, .stk b gen n => gd (decide (0 ≤ i ∧ i < n ∧ z = 1)) (f (.pstk b gen i.toNat))
  | _, _ => none

def ixX (v : PV) (z arr : Nat) (agg : Bool) (i : Int) (f : PV → Option R) : Option R :=
  match v with
  | .agg cs => gd (decide (0 ≤ i ∧ i < arr)) (ob (grab agg z (i.toNat * z) cs) f)
  | _ => none

def isX (v : PV) (i : Int) (f : Int → Option R) : Option R :=
  match v with
  | .str b => gd (decide (0 ≤ i)) (ob b[i.toNat]? fun u => f u.toNat)
  | _ => none

def lkX (gh : List GObj) (kn : Nat) (m k : PV) (f : Option PV → Option R) : Option R :=
  match m with
  | .mp b => ob (ghMap gh b) fun es => gd (isKey kn k) (ob (mfind kn es k) f)
  | _ => none

def muX (gh : List GObj) (kn : Nat) (m k v : PV) (f : List GObj → Option R) : Option R :=
  match m with
  | .mp b => ob (ghMap gh b) fun es => gd (argOk k && (argOk v && isKey kn k)) (ob (mset kn es k v) fun es' => f (gh.set b (.map es')))
  | _ => none

def lenS (v : PV) (f : Nat → Option R) : Option R := match v with | .sl _ _ xs => f xs.length | .bs _ _ _ n _ => f n | .stk _ _ n => f n | _ => none
def lenM (gh : List GObj) (v : PV) (f : Nat → Option R) : Option R := match v with | .mp b => ob (ghMap gh b) fun es => f es.length | _ => none

def apX (z bytes : Nat) (v w : PV) (f : List PV → Option R) : Option R :=
  match w, v with
  | .sl _ z2 ys, .sl o z1 xs => gd (decide (o = true ∧ z1 = z ∧ z2 = z ∧ (xs.length + ys.length) * bytes ≤ maxBytes)) (f (xs ++ ys))
  | _, _ => none

/-- A stack of a box's number. -/
def ghStk (gh : List GObj) (b : Nat) : Option (Nat × List PV) := match gh[b]? with | some (.stk g xs) => some (g, xs) | _ => none

/-- An append onto a stack. -/
def akX (gh : List GObj) (bytes : Nat) (v w : PV) (f : List GObj → PV → Option R) : Option R :=
  ob (elsOf gh w) fun ys => match v with
    | .stk b gen n => ob (ghStk gh b) fun p => gd (decide (p.1 = gen ∧ n ≤ p.2.length ∧ (n + ys.length) * bytes ≤ maxBytes ∧ apart b w = true ∧ ys.all isFlat = true)) (f (gh.set b (.stk (p.1 + 1) (p.2.take n ++ ys))) (.stk b (p.1 + 1) (n + ys.length)))
    | _ => none

/-- One of a stack. -/
def lkK (gh : List GObj) (v : PV) (f : PV → Option R) : Option R := match v with | .pstk b gen i => ob (stkGet gh b gen i) f | _ => none

def exX (v : PV) (i : Nat) (f : PV → Option R) : Option R := match v with | .tup vs => ob vs[i]? f | _ => none

/-- What a call answered. -/
noncomputable def callR (gh : List GObj) (q : Bool) (x : Option (PV × List GObj)) (f : PV → List GObj → Option R) : Option R :=
  open Classical in
  match x with | some (r, gh') => (match q with | true => (if gh' = gh then f r gh else none) | false => f r gh') | none => none

def callN (vs : List PV) (x : Option (PV × List GObj)) (f : PV → Option R) : Option R :=
  gd (noGs vs) (match x with | some (r, []) => gd r.noG (f r) | _ => none)

/-- What one that only reads sees of what it is handed. -/
def elK (gh : List GObj) (vs : List PV) (k : List PV → Option R) : Option R := match elPs gh vs with | some us => k us | none => none

/-- What a call answered that only reads. -/
def callE (us : List PV) (x : Option (PV × List GObj)) (f : PV → Option R) : Option R :=
  gd (noGs us) (match x with | some (r, []) => gd (isFlat r) (f r) | _ => none)

def fnX (v : PV) (f : Nat → List PV → Option R) : Option R := match v with | .fn i cs => f i cs | _ => none

def newX (s : St) (d : Nat) (g : Bool) (cs : List PV) (k : St → Option R) : Option R :=
  match g with
  | true => putK s.env d (.ptr true s.gh.length 0) fun e => k ⟨e, s.lh, s.gh ++ [.cells cs]⟩
  | false => putK s.env d (.ptr false s.lh.length 0) fun e => snocK s.lh cs fun lh => k ⟨e, lh, s.gh⟩

def binX (op : BinOp) (a b : PV) (f : PV → Option R) : Option R :=
  match a, b with
  | .int k x, .int k' y => match op with
    | .add => kE k k' (f (.int k (k.wrap (x + y))))
    | .sub => kE k k' (f (.int k (k.wrap (x - y))))
    | .mul => kE k k' (f (.int k (k.wrap (x * y))))
    | .quo => kE k k' (gd (decide (y ≠ 0)) (f (.int k (k.wrap (x.tdiv y)))))
    | .rem => kE k k' (gd (decide (y ≠ 0)) (f (.int k (x.tmod y))))
    | .and => kE k k' (f (.int k (iAnd k x y)))
    | .or => kE k k' (f (.int k (iOr k x y)))
    | .xor => kE k k' (f (.int k (iXor k x y)))
    | .eql => kE k k' (f (.bool (x == y)))
    | .neq => kE k k' (f (.bool (x != y)))
    | .lss => kE k k' (f (.bool (decide (x < y))))
    | .leq => kE k k' (f (.bool (decide (x ≤ y))))
    | .gtr => kE k k' (f (.bool (decide (y < x))))
    | .geq => kE k k' (f (.bool (decide (y ≤ x))))
    | .shl => gd (decide (0 ≤ y)) (f (.int k (iShl k x y)))
    | .shr => gd (decide (0 ≤ y)) (f (.int k (iShr k x y)))
    | op => ob (binPV op (.int k x) (.int k' y)) f
  | .str x, .str y => match op with
    | .eql => f (.bool (x.toList == y.toList))
    | .neq => f (.bool (!(x.toList == y.toList)))
    | op => ob (binPV op (.str x) (.str y)) f
  | _, _ => none

def unX (op : UnOp) (a : PV) (f : PV → Option R) : Option R :=
  match op, a with
  | .neg, .int k n => f (.int k (k.wrap (0 - n)))
  | .xor, .int k n => f (.int k (iNot k n))
  | .not, .bool b => f (.bool (!b))
  | _, _ => none

def maxX (vs : List PV) (f : PV → Option R) : Option R :=
  match vs with
  | [.int k a, .int k' b] => kE k k' (f (.int k (if b > a then b else a)))
  | _ => none

def setO (an : Tr) (s : St) (d : Option Nat) (v : PV) (k : St → Option R) : Option R :=
  match d with
  | some d => setX an s d v k
  | none => k s

noncomputable def oX_mv (cf : CallF) (an : Tr) (s : St) (k : St → Option R) (d : Nat) (x : IX) : Option R := match evK s.env x with
    | some v => setX an s d v k
    | none => none

noncomputable def oX_tk (cf : CallF) (an : Tr) (s : St) (k : St → Option R) (d : Nat) (n : Nat) : Option R := match getX s.env n with
    | some v => putK s.env n (degr v) fun e => putK e d v fun e => k ⟨e, s.lh, s.gh⟩
    | none => none

noncomputable def oX_pick (cf : CallF) (an : Tr) (s : St) (k : St → Option R) (d : Nat) (c : IX) (x : IX) (y : IX) : Option R := match evX s.env c, evX s.env x, evX s.env y with
    | some c, some v, some w => unB c fun b => br d b (setX an s d v k) (setX an s d w k)
    | _, _, _ => none

noncomputable def oX_box_true (cf : CallF) (an : Tr) (s : St) (k : St → Option R) (d : Nat) (g : Bool) (x : IX) : Option R := tkX s.env x fun v e => arK v (cellsX (shX an x) v fun cs => newX ⟨e, s.lh, s.gh⟩ d g cs k)

noncomputable def oX_box_false (cf : CallF) (an : Tr) (s : St) (k : St → Option R) (d : Nat) (g : Bool) (x : IX) : Option R := match evX s.env x with
    | some v => arK v (cellsX (shX an x) v fun cs => newX s d g cs k)
    | none => none

noncomputable def oX_alloc (cf : CallF) (an : Tr) (s : St) (k : St → Option R) (d : Nat) (g : Bool) (z : PV) : Option R := arK z (newX s d g z.cells k)

noncomputable def oX_build (cf : CallF) (an : Tr) (s : St) (k : St → Option R) (d : Nat) (z : List PV) (ps : List (Nat × Nat × IX)) : Option R := arL z (psX an s.env ps z fun cs => putS s d (.agg cs) k)

noncomputable def oX_buildT (cf : CallF) (an : Tr) (s : St) (k : St → Option R) (d : Nat) (z : List PV) (ps : List (Nat × Nat × IX)) : Option R := arL z (psT an s.env ps z fun e cs => putK e d (.agg cs) fun e => k ⟨e, s.lh, s.gh⟩)

noncomputable def oX_buildSl (cf : CallF) (an : Tr) (s : St) (k : St → Option R) (d : Nat) (z : Nat) (els : List IX) : Option R := evXs s.env els fun vs => slK z vs (putS s d (.sl true z vs) k)

noncomputable def oX_load (cf : CallF) (an : Tr) (s : St) (k : St → Option R) (d : Nat) (agg : Bool) (kk : Nat) (a : IX) : Option R := match evX s.env a with
    | some p => ldX s.lh s.gh agg kk p fun v => setX an s d v k
    | none => none

noncomputable def oX_loadT (cf : CallF) (an : Tr) (s : St) (k : St → Option R) (d : Nat) (a : IX) : Option R := match evX s.env a with
    | some (.ptr false b off) => match nthX s.lh b with
      | some cs => ob cs[off]? fun v => setK s.lh b (spliceAt cs off [degr1 v]) fun lh => putK s.env d v fun e => k ⟨e, lh, s.gh⟩
      | none => none
    | some (.ptr true b off) => ob (ghCells s.gh b) fun cs => ob cs[off]? fun v => putK s.env d v fun e => k ⟨e, s.lh, s.gh.set b (.cells (spliceAt cs off [degr1 v]))⟩
    | _ => none

noncomputable def oX_loadL (cf : CallF) (an : Tr) (s : St) (k : St → Option R) (d : Nat) (a : IX) : Option R := match evX s.env a with
    | some (.ptr false b off) => match nthX s.lh b with
      | some cs => ob cs[off]? fun v => setK s.lh b (spliceAt cs off [degr1 v]) fun lh => putK s.env d v fun e => k ⟨e, lh, s.gh⟩
      | none => none
    | _ => none

noncomputable def oX_store_true (cf : CallF) (an : Tr) (s : St) (k : St → Option R) (kk : Nat) (a : IX) (x : IX) : Option R := match evX s.env a with
    | some p => tkX s.env x fun v e => arK v (cellsX (shX an x) v fun cs => stoX ⟨e, s.lh, s.gh⟩ p kk cs k)
    | none => none

noncomputable def oX_store_false (cf : CallF) (an : Tr) (s : St) (k : St → Option R) (kk : Nat) (a : IX) (x : IX) : Option R := match evX s.env a, evX s.env x with
    | some p, some v => arK v (cellsX (shX an x) v fun cs => stoX s p kk cs k)
    | _, _ => none

noncomputable def oX_nilc (cf : CallF) (an : Tr) (s : St) (k : St → Option R) (d : Nat) (x : IX) : Option R := match evX s.env x with
    | some p => gd (isPtr p) (setX an s d p k)
    | none => none

noncomputable def oX_bin (cf : CallF) (an : Tr) (s : St) (k : St → Option R) (d : Nat) (op : BinOp) (x : IX) (y : IX) : Option R := match evX s.env x, evX s.env y with
    | some a, some b => binX op a b fun v => setX an s d v k
    | _, _ => none

noncomputable def oX_eqa (cf : CallF) (an : Tr) (s : St) (k : St → Option R) (d : Nat) (neg : Bool) (ks : List Bool) (x : IX) (y : IX) : Option R := match evX s.env x, evX s.env y with
    | some (.agg a), some (.agg b) => ob (flatEq ks a b) fun r => putS s d (.bool (match neg with | true => !r | false => r)) k
    | _, _ => none

noncomputable def oX_eqb (cf : CallF) (an : Tr) (s : St) (k : St → Option R) (d : Nat) (neg : Bool) (x : IX) (y : IX) : Option R := match evX s.env x, evX s.env y with
    | some a, some b => unB a fun a => unB b fun b => putS s d (.bool (match neg with | true => a != b | false => a == b)) k
    | _, _ => none

noncomputable def oX_eqn (cf : CallF) (an : Tr) (s : St) (k : St → Option R) (d : Nat) (neg : Bool) (x : IX) : Option R := match evX s.env x with
    | some v => nilB v fun b => putS s d (.bool (match neg with | true => !b | false => b)) k
    | none => none

noncomputable def oX_un (cf : CallF) (an : Tr) (s : St) (k : St → Option R) (d : Nat) (op : UnOp) (x : IX) : Option R := match evX s.env x with
    | some a => unX op a fun v => setX an s d v k
    | none => none

noncomputable def oX_conv (cf : CallF) (an : Tr) (s : St) (k : St → Option R) (d : Nat) (kd : IntKind) (x : IX) : Option R := match evX s.env x with
    | some v => anyI v fun n => putS s d (.int kd (kd.wrap n)) k
    | none => none

noncomputable def oX_mkfn (cf : CallF) (an : Tr) (s : St) (k : St → Option R) (d : Nat) (f : Nat) (caps : List IX) : Option R := evXs s.env caps fun vs => allK vs (putS s d (.fn f vs) k)

noncomputable def oX_mkmap (cf : CallF) (an : Tr) (s : St) (k : St → Option R) (d : Nat) : Option R := putK s.env d (.mp s.gh.length) fun e => k ⟨e, s.lh, s.gh ++ [.map []]⟩

noncomputable def oX_mksl (cf : CallF) (an : Tr) (s : St) (k : St → Option R) (d : Nat) (g : Bool) (z : Nat) (bytes : Nat) (zero : PV) (l : IX) : Option R := match evX s.env l with
    | some v => anyI v fun n => gd (mkOk n bytes z zero) (match g with
      | true => putK s.env d (.bs true s.gh.length 0 n.toNat z) fun e => k ⟨e, s.lh, s.gh ++ [.cells ((List.replicate n.toNat zero).flatMap PV.cells)]⟩
      | false => putK s.env d (.bs false s.lh.length 0 n.toNat z) fun e => snocK s.lh ((List.replicate n.toNat zero).flatMap PV.cells) fun lh => k ⟨e, lh, s.gh⟩)
    | none => none

noncomputable def oX_slice (cf : CallF) (an : Tr) (s : St) (k : St → Option R) (d : Nat) (z : Nat) (x : IX) (lo : Option IX) (hi : Option IX) : Option R := match evX s.env x with
    | some v => boX s.env lo fun lo => boX s.env hi fun hi => slX z v lo hi fun w => setX an s d w k
    | none => none

noncomputable def oX_sliceS (cf : CallF) (an : Tr) (s : St) (k : St → Option R) (d : Nat) (x : IX) (lo : Option IX) (hi : Option IX) : Option R := match evX s.env x with
    | some v => boX s.env lo fun lo => boX s.env hi fun hi => ssX v lo hi fun w => putS s d (.str w) k
    | none => none

noncomputable def oX_faddr (cf : CallF) (an : Tr) (s : St) (k : St → Option R) (d : Nat) (x : IX) (off : Nat) : Option R := match evX s.env x with
    | some p => faX p off fun p => setX an s d p k
    | none => none

noncomputable def oX_field (cf : CallF) (an : Tr) (s : St) (k : St → Option R) (d : Nat) (agg : Bool) (kk : Nat) (off : Nat) (x : IX) : Option R := match evX s.env x with
    | some v => fdX v agg kk off fun v => setX an s d v k
    | none => none

noncomputable def oX_iaddr (cf : CallF) (an : Tr) (s : St) (k : St → Option R) (d : Nat) (z : Nat) (arr : Option Nat) (x : IX) (i : IX) : Option R := match evX s.env i, evX s.env x with
    | some i, some v => anyI i fun i => idX z arr v i fun p => setX an s d p k
    | _, _ => none

noncomputable def oX_index (cf : CallF) (an : Tr) (s : St) (k : St → Option R) (d : Nat) (z : Nat) (arr : Nat) (agg : Bool) (x : IX) (i : IX) : Option R := match evX s.env i, evX s.env x with
    | some i, some v => anyI i fun i => ixX v z arr agg i fun v => setX an s d v k
    | _, _ => none

noncomputable def oX_indexS (cf : CallF) (an : Tr) (s : St) (k : St → Option R) (d : Nat) (x : IX) (i : IX) : Option R := match evX s.env i, evX s.env x with
    | some i, some v => anyI i fun i => isX v i fun u => putS s d (.int .u8 u) k
    | _, _ => none

noncomputable def oX_lookup (cf : CallF) (an : Tr) (s : St) (k : St → Option R) (d : Nat) (kn : Nat) (m : IX) (kx : IX) (ok : Bool) (zero : PV) : Option R := match evX s.env m, evX s.env kx with
    | some m, some kv => lkX s.gh kn m kv fun r => setX an s d (match ok with | true => .tup [r.getD (degr zero), .bool r.isSome] | false => r.getD (degr zero)) k
    | _, _ => none

noncomputable def oX_mupd (cf : CallF) (an : Tr) (s : St) (k : St → Option R) (kn : Nat) (m : IX) (kx : IX) (x : IX) : Option R := match evX s.env m, evX s.env kx, evX s.env x with
    | some m, some kv, some v => muX s.gh kn m kv v fun gh => k ⟨s.env, s.lh, gh⟩
    | _, _, _ => none

noncomputable def oX_call (cf : CallF) (an : Tr) (s : St) (k : St → Option R) (d : Option Nat) (q : Bool) (f : Nat) (xs : List IX) : Option R := evXs s.env xs fun vs => allK vs (callR s.gh q (cf f vs s.gh) fun r gh => setO an ⟨s.env, s.lh, gh⟩ d r k)

noncomputable def oX_callv (cf : CallF) (an : Tr) (s : St) (k : St → Option R) (d : Option Nat) (q : Bool) (fv : IX) (xs : List IX) : Option R := match evX s.env fv with
    | some fv => evXs s.env xs fun vs => fnX fv fun f caps => allK vs (allK caps (callR s.gh q (cf f (vs ++ caps) s.gh) fun r gh => setO an ⟨s.env, s.lh, gh⟩ d r k))
    | none => none

noncomputable def oX_callF (cf : CallF) (an : Tr) (s : St) (k : St → Option R) (d : Option Nat) (f : Nat) (xs : List IX) : Option R := evXs s.env xs fun vs => allK vs (callN vs (cf f vs []) fun r => setO an s d r k)

noncomputable def oX_callE (cf : CallF) (an : Tr) (s : St) (k : St → Option R) (d : Option Nat) (fv : IX) (xs : List IX) : Option R := match evX s.env fv with
    | some fv => evXs s.env xs fun vs => fnX fv fun f caps => allK vs (allK caps (elK s.gh (vs ++ caps) fun us => allK us (callE us (cf f us []) fun r => setO an s d r k)))
    | none => none

noncomputable def oX_loadN (cf : CallF) (an : Tr) (s : St) (k : St → Option R) (d : Nat) (agg : Bool) (kk : Nat) (a : IX) (n : Nat) : Option R := match evX s.env a, getX s.env n with
    | some (.ptr g b off), some (.ptr g' b' _) => gd (decide (g ≠ g' ∨ b ≠ b')) (ldX s.lh s.gh agg kk (.ptr g b off) fun v => setX an s d v k)
    | _, _ => none

noncomputable def oX_len_0 (cf : CallF) (an : Tr) (s : St) (k : St → Option R) (d : Nat) (x : IX) : Option R := match evX s.env x with
    | some v => lenS v fun n => putS s d (.int .i64 n) k
    | none => none

noncomputable def oX_len_1 (cf : CallF) (an : Tr) (s : St) (k : St → Option R) (d : Nat) (x : IX) : Option R := match evX s.env x with
    | some v => unS v fun b => putS s d (.int .i64 b.size) k
    | none => none

noncomputable def oX_len_2 (cf : CallF) (an : Tr) (s : St) (k : St → Option R) (d : Nat) (x : IX) : Option R := match evX s.env x with
    | some v => lenM s.gh v fun n => putS s d (.int .i64 n) k
    | none => none

noncomputable def oX_append (cf : CallF) (an : Tr) (s : St) (k : St → Option R) (d : Nat) (z : Nat) (bytes : Nat) (sx : IX) (x : IX) : Option R := match evX s.env x with
    | some w => tkX s.env sx fun v e => apX z bytes v w fun ys => putK e d (.sl true z ys) fun e => k ⟨e, s.lh, s.gh⟩
    | none => none

noncomputable def oX_appendK (cf : CallF) (an : Tr) (s : St) (k : St → Option R) (d : Nat) (bytes : Nat) (sx : IX) (x : IX) : Option R := match evX s.env x, evX s.env sx with
    | some w, some v => akX s.gh bytes v w fun gh u => setX an ⟨s.env, s.lh, gh⟩ d u k
    | _, _ => none

noncomputable def oX_loadK (cf : CallF) (an : Tr) (s : St) (k : St → Option R) (d : Nat) (a : IX) : Option R := match evX s.env a with
    | some v => lkK s.gh v fun u => setX an s d u k
    | none => none

noncomputable def oX_loadH (cf : CallF) (an : Tr) (s : St) (k : St → Option R) (d : Nat) (a : IX) : Option R := match evX s.env a with
    | some (.ptr false b off) => (match nthX s.lh b with | some cs => ob cs[off]? fun v => setX an s d (degr v) k | none => none)
    | _ => none

noncomputable def oX_buildSlK (cf : CallF) (an : Tr) (s : St) (k : St → Option R) (d : Nat) (els : List IX) : Option R := evXs s.env els fun vs => gd (vs.all isFlat) (putK s.env d (.stk s.gh.length 0 vs.length) fun e => k ⟨e, s.lh, s.gh ++ [.stk 0 vs]⟩)

noncomputable def oX_maxi (cf : CallF) (an : Tr) (s : St) (k : St → Option R) (d : Nat) (xs : List IX) : Option R := evXs s.env xs fun vs => maxX vs fun v => setX an s d v k

noncomputable def oX_extract (cf : CallF) (an : Tr) (s : St) (k : St → Option R) (d : Nat) (x : IX) (i : Nat) : Option R := match evX s.env x with
    | some v => exX v i fun v => setX an s d v k
    | none => none

noncomputable def opX (cf : CallF) (an : Tr) (s : St) (o : IOp) (k : St → Option R) : Option R :=
  match o with
  | .mv d x => oX_mv cf an s k d x
  | .tk d n => oX_tk cf an s k d n
  | .pick d c x y => oX_pick cf an s k d c x y
  | .box d g true x => oX_box_true cf an s k d g x
  | .box d g false x => oX_box_false cf an s k d g x
  | .alloc d g z => oX_alloc cf an s k d g z
  | .build d z ps => oX_build cf an s k d z ps
  | .buildT d z ps => oX_buildT cf an s k d z ps
  | .buildSl d z els => oX_buildSl cf an s k d z els
  | .load d agg kk a => oX_load cf an s k d agg kk a
  | .loadT d a => oX_loadT cf an s k d a
  | .loadL d a => oX_loadL cf an s k d a
  | .store true kk a x => oX_store_true cf an s k kk a x
  | .store false kk a x => oX_store_false cf an s k kk a x
  | .nilc d x => oX_nilc cf an s k d x
  | .bin d op x y => oX_bin cf an s k d op x y
  | .eqa d neg ks x y => oX_eqa cf an s k d neg ks x y
  | .eqb d neg x y => oX_eqb cf an s k d neg x y
  | .eqn d neg x => oX_eqn cf an s k d neg x
  | .un d op x => oX_un cf an s k d op x
  | .conv d kd x => oX_conv cf an s k d kd x
  | .mkfn d f caps => oX_mkfn cf an s k d f caps
  | .mkmap d => oX_mkmap cf an s k d
  | .mksl d g z bytes zero l => oX_mksl cf an s k d g z bytes zero l
  | .slice d z x lo hi => oX_slice cf an s k d z x lo hi
  | .sliceS d x lo hi => oX_sliceS cf an s k d x lo hi
  | .faddr d x off => oX_faddr cf an s k d x off
  | .field d agg kk off x => oX_field cf an s k d agg kk off x
  | .iaddr d z arr x i => oX_iaddr cf an s k d z arr x i
  | .index d z arr agg x i => oX_index cf an s k d z arr agg x i
  | .indexS d x i => oX_indexS cf an s k d x i
  | .lookup d kn m kx ok zero => oX_lookup cf an s k d kn m kx ok zero
  | .mupd kn m kx x => oX_mupd cf an s k kn m kx x
  | .call d q f xs => oX_call cf an s k d q f xs
  | .callv d q fv xs => oX_callv cf an s k d q fv xs
  | .callF d f xs => oX_callF cf an s k d f xs
  | .callE d fv xs => oX_callE cf an s k d fv xs
  | .loadN d agg kk a n => oX_loadN cf an s k d agg kk a n
  | .len d 0 x => oX_len_0 cf an s k d x
  | .len d 1 x => oX_len_1 cf an s k d x
  | .len d 2 x => oX_len_2 cf an s k d x
  | .len _ _ _ => none
  | .append d z bytes sx x => oX_append cf an s k d z bytes sx x
  | .appendK d bytes sx x => oX_appendK cf an s k d bytes sx x
  | .buildSlK d els => oX_buildSlK cf an s k d els
  | .loadK d a => oX_loadK cf an s k d a
  | .loadH d a => oX_loadH cf an s k d a
  | .maxi d xs => oX_maxi cf an s k d xs
  | .extract d x i => oX_extract cf an s k d x i

def skX (s : St) (o : IOp) (k : St → Option R) : Option R :=
  match opDst o with
  | some d => putS s d .und k
  | none => k s

noncomputable def opsX (cf : CallF) (an : Tr) : List IOpG → St → (St → Option R) → Option R
  | [], s, k => k s
  | ⟨o, none⟩ :: l, s, k => opX cf an s o fun s => opsX cf an l s k
  | ⟨o, some (g, want)⟩ :: l, s, k => match getX s.env g with
    | some (.bool b) => br g b
        (putS s g (.bool true) fun s => match want with
          | true => opX cf an s o fun s => opsX cf an l s k
          | false => skX s o fun s => opsX cf an l s k)
        (putS s g (.bool false) fun s => match want with
          | false => opX cf an s o fun s => opsX cf an l s k
          | true => skX s o fun s => opsX cf an l s k)
    | some .und => skX s o fun s => opsX cf an l s k
    | _ => none

def keepX (nl : Nat) : List Nat → List (Nat × PV) → (List (Nat × PV) → Option R) → Option R
  | [], _, f => f []
  | t :: l, e, f => match getX e t with
    | some v => stK nl v (keepX nl l e fun e' => f ((t, v) :: e'))
    | none => keepX nl l e f

def po (ks : List Nat) (nl : Nat) (e : IExit) (s : St) (k : IExit → St → Option R) : Option R :=
  match e with
  | .normal => keepX nl ks s.env fun e => takeK nl s.lh fun lh => k .normal ⟨e, lh, s.gh⟩
  | e => k e s

def tagX : IX → Nat
  | .t n => n
  | _ => 0

noncomputable def runX (pg : Prg) (an : Tr) : ICode → St → (IExit → St → Option R) → Option R
  | .skip, s, k => k .normal s
  | .region ops _, s, k => opsX (callL pg) an ops s (k .normal)
  | .seq a b, s, k => runX pg an a s fun e s' => nx e s' k fun s' => runX pg an b s' k
  | .cond x a b, s, k => match evX s.env x with
    | some v => unB v fun c => br (tagX x) c (runX pg an a s k) (runX pg an b s k)
    | none => none
  | .block id a, s, k => runX pg an a s fun e s' => bk id e s' k
  | .loop a, s, k => kR (runL pg (.loop a) s) k
  | .exit i, s, k => k (.exit i) s
  | .ret, s, k => k .ret s
  | .post a ks nl, s, k => runX pg an a s fun e s' => po ks nl e s' k
  | .cut a, s, k => kR (runL pg a s) k
  | .bad, _, _ => none

end
end Go.Lw
end
