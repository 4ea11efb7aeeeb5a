/-
  The texts that the proof stands on, part 3.
-/
import Derived.Test.YtmodipglnngghacSearchIsB
set_option linter.unusedVariables false
set_option linter.unusedSimpArgs false
set_option linter.unnecessarySimpa false

/-! Library functions, told as they are. -/
section
namespace Go.Lw
open Go
def libClone (z bytes : Nat) : List PV → List GObj → Option (PV × List GObj)
  | [.sl _ z' xs], gh => if z' = z ∧ xs.length * bytes ≤ maxBytes then some (.sl true z xs, gh) else none
  | _, _ => none
def libCloneK (bytes : Nat) : List PV → List GObj → Option (PV × List GObj)
  | [.sl o z' xs], gh => if xs = [] then libClone 1 bytes [.sl o z' xs] gh
      else if z' = 1 ∧ xs.length * bytes ≤ maxBytes ∧ xs.all isFlat = true then some (.stk gh.length 1 xs.length, gh ++ [.stk 1 xs]) else none
  | [.stk b gen n], gh => match gh[b]? with
    | some (.stk g xs) => if g = gen ∧ n ≤ xs.length ∧ n * bytes ≤ maxBytes ∧ (xs.take n).all isFlat = true then some (.stk gh.length 1 n, gh ++ [.stk 1 (xs.take n)]) else none
    | _ => none
  | _, _ => none
def libGrow (z bytes : Nat) : List PV → List GObj → Option (PV × List GObj)
  | [.nils, .int .i64 n], gh => if 0 ≤ n ∧ n.toNat * bytes ≤ maxBytes then some (.sl true z [], gh) else none
  | _, _ => none
end Go.Lw
end

/-! The code of package Cnf for the small machine. Written by program (gen.py). -/
section
set_option maxRecDepth 10000
namespace Go.Lw
open Go
/- 16: latchwork/cnf.Of -/
/- 32: latchwork/cnf.Holds -/
/- 53: (*latchwork/cnf.Maker).Ands -/
/- 54: (*latchwork/cnf.Maker).Must -/
/- 55: latchwork/cnf.Done -/
/- 59: latchwork/cnf.Check -/
def f_cnf_Check_b1 : ICode :=
  (.post (.seq (.region [
 (oN (.bin 22 .lss (.t 21) (.t 20)))] false)
  (.seq (.cond (.t 22) .skip
  (.exit 0))
  (.seq (.block 1 (.seq (.post (.region [
 (oA 23 19 21),
 (oL 24 23),
 (oN (.tk 4 24))] false) [1, 4, 19, 20, 21] 1)
  (.seq (.post (.region [
 (oF 25 1 0),
 (oL 26 25),
 (oM 27 4),
 (oN (.call (some 28) true 94 [(.t 26), (.t 27)])),
 (oM 5 28)] false) [1, 5, 19, 20, 21] 1)
  (.seq (.post (.region [
 (oM 29 5),
 (oN (.bin 30 .neq (.t 29) (.c (I 0))))] false) [1, 5, 19, 20, 21, 30] 1)
  (.cond (.t 30) (.seq (.post (.region [
 (oM 31 5),
 (oM 2 31)] false) [2] 0)
  .ret)
  .skip)))))
  (.post (.region [
 (oN (.bin 32 .add (.t 21) (.c (I 1)))),
 (oM 21 32)] false) [1, 19, 20, 21] 1)))) [1, 19, 20, 21] 1)
def f_cnf_Check_l1 : ICode :=
  (.post (.block 0 (.loop f_cnf_Check_b1)) [] 0)
def f_cnf_Check_k1 : ICode :=
  (.seq (.region [
 (oN (.mv 2 (.c (I 0))))] false)
  .ret)
def f_cnf_Check_0 : ICode :=
  (.seq (.post (.region [
 (oN (.box 1 false false (.t 0))),
 (oN (.mv 2 (.c (I 0))))] false) [1] 1)
  (.seq (.seq (.post (.region [
 (oF 6 1 0),
 (oL 7 6),
 (oN (.bin 8 .lss (.t 7) (.c (I 0)))),
 (oM 9 8),
    ⟨.faddr 10 (.t 1) 0, some (9, false)⟩,
    ⟨.load 11 false 1 (.t 10), some (9, false)⟩,
    ⟨.bin 12 .gtr (.t 11) (.c (I 200000)), some (9, false)⟩,
 (oN (.pick 13 (.t 9) (.c (.bool true)) (.t 12)))] false) [1, 13] 1)
  (.cond (.t 13) (.seq (.post (.region [
 (oN (.mv 2 (.c (I 3))))] false) [2] 0)
  .ret)
  .skip))
  (.seq (.seq (.post (.region [
 (oF 14 1 1),
 (oL 15 14),
 (oN (.len 16 0 (.t 15))),
 (oN (.bin 17 .gtr (.t 16) (.c (I 800000))))] false) [1, 17] 1)
  (.cond (.t 17) (.seq (.post (.region [
 (oN (.mv 2 (.c (I 2))))] false) [2] 0)
  .ret)
  .skip))
  (.seq (.seq (.post (.region [
 (oF 18 1 1),
 (oL 19 18),
 (oN (.len 20 0 (.t 19))),
 (oN (.mv 21 (.c (I 0))))] false) [1, 19, 20, 21] 1)
  (.cut f_cnf_Check_l1))
  (.cut f_cnf_Check_k1)))))
def f_cnf_Check : IFunc := { np := 1, res := [.t 2], own := false, trunc := true, body := f_cnf_Check_0 }
/- 70: latchwork/cnf.Hold -/
def f_cnf_Hold_0 : ICode :=
  (.seq (.post (.region [
 (oN (.box 2 false false (.t 0))),
 (oN (.box 3 true false (.t 1))),
 (oN (.mv 4 (.c (.bool false))))] false) [2, 3] 1)
  (.seq (.post (.region [
 (oN (.mkfn 6 98 [(.t 3)])),
 (oN (.alloc 5 true (.nilf))),
 (oN (.store false 1 (.t 5) (.t 6)))] false) [2, 5] 1)
  (.seq (.post (.region [
 (oF 7 2 1),
 (oL 8 7),
 (oN (.mkfn 9 99 [(.t 5)])),
 (oN (.call (some 10) true 100 [(.t 8), (.t 9)])),
 (oN (.un 11 .not (.t 10))),
 (oM 4 11)] false) [4] 0)
  .ret)))
def f_cnf_Hold : IFunc := { np := 2, res := [.t 4], own := false, trunc := true, body := f_cnf_Hold_0 }
/- 90: latchwork/cnf.Number -/
/- 91: (*latchwork/cnf.Maker).Add -/
/- 94: latchwork/cnf.one -/
def f_cnf_one_0 : ICode :=
  (.seq (.post (.region [
 (oN (.box 2 true false (.t 0))),
 (oN (.mv 4 (.c (I 0))))] false) [1, 2] 0)
  (.seq (.seq (.post (.region [
 (oM 5 1),
 (oN (.len 6 0 (.t 5))),
 (oN (.bin 7 .gtr (.t 6) (.c (I 200))))] false) [1, 2, 7] 0)
  (.cond (.t 7) (.seq (.post (.region [
 (oN (.mv 4 (.c (I 2))))] false) [4] 0)
  .ret)
  .skip))
  (.seq (.seq (.post (.region [
 (oM 8 1),
 (oN (.mkfn 9 113 [(.t 2)])),
 (oN (.call (some 10) true 86 [(.t 8), (.t 9)]))] false) [10] 0)
  (.cond (.t 10) (.seq (.post (.region [
 (oN (.mv 4 (.c (I 5))))] false) [4] 0)
  .ret)
  .skip))
  (.seq (.post (.region [
 (oN (.mv 4 (.c (I 0))))] false) [4] 0)
  .ret))))
def f_cnf_one : IFunc := { np := 2, res := [.t 4], own := false, trunc := true, body := f_cnf_one_0 }
/- 98: latchwork/cnf.Hold$1 -/
def f_cnf_Hold_1_0 : ICode :=
  (.seq (.post (.region [
 (oN (.mv 3 (.c (.bool false))))] false) [0, 1] 0)
  (.seq (.post (.region [
 (oL 4 1),
 (oM 5 0),
 (oN (.call (some 6) true 116 [(.t 5)])),
 (oN (.bin 7 .sub (.t 6) (.c (I 1)))),
 (oA 8 4 7),
 (oL 9 8),
 (oM 10 0),
 (oN (.bin 11 .gtr (.t 10) (.c (I 0)))),
 (oN (.eqb 12 false (.t 9) (.t 11))),
 (oM 3 12)] true) [3] 0)
  .ret))
def f_cnf_Hold_1 : IFunc := { np := 2, res := [.t 3], own := false, trunc := true, body := f_cnf_Hold_1_0 }
/- 99: latchwork/cnf.Hold$2 -/
def f_cnf_Hold_2_0 : ICode :=
  (.seq (.post (.region [
 (oN (.mv 3 (.c (.bool false))))] false) [0, 1] 0)
  (.seq (.post (.region [
 (oM 4 0),
 (oL 5 1),
 (oN (.call (some 6) true 86 [(.t 4), (.t 5)])),
 (oN (.un 7 .not (.t 6))),
 (oM 3 7)] false) [3] 0)
  .ret))
def f_cnf_Hold_2 : IFunc := { np := 2, res := [.t 3], own := false, trunc := true, body := f_cnf_Hold_2_0 }
/- 113: latchwork/cnf.one$1 -/
def f_cnf_one_1_0 : ICode :=
  (.seq (.post (.region [
 (oN (.mv 3 (.c (.bool false))))] false) [0, 1] 0)
  (.seq (.post (.region [
 (oM 4 0),
 (oN (.bin 5 .eql (.t 4) (.c (I 0)))),
 (oM 6 5),
    ⟨.mv 7 (.t 0), some (6, false)⟩,
    ⟨.load 8 false 1 (.t 1), some (6, false)⟩,
    ⟨.bin 9 .gtr (.t 7) (.t 8), some (6, false)⟩,
 (oN (.pick 10 (.t 6) (.c (.bool true)) (.t 9))),
 (oM 11 10),
    ⟨.mv 12 (.t 0), some (11, false)⟩,
    ⟨.load 13 false 1 (.t 1), some (11, false)⟩,
    ⟨.un 14 .neg (.t 13), some (11, false)⟩,
    ⟨.bin 15 .lss (.t 12) (.t 14), some (11, false)⟩,
 (oN (.pick 16 (.t 11) (.c (.bool true)) (.t 15))),
 (oM 3 16)] false) [3] 0)
  .ret))
def f_cnf_one_1 : IFunc := { np := 2, res := [.t 3], own := false, trunc := true, body := f_cnf_one_1_0 }
/- 116: latchwork/cnf.abs -/
def f_cnf_abs_0 : ICode :=
  (.seq (.post (.region [
 (oN (.mv 2 (.c (I 0))))] false) [0] 0)
  (.seq (.post (.region [
 (oM 3 0),
 (oM 4 0),
 (oN (.un 5 .neg (.t 4))),
 (oN (.maxi 6 [(.t 3), (.t 5)])),
 (oM 2 6)] false) [2] 0)
  .ret))
def f_cnf_abs : IFunc := { np := 1, res := [.t 2], own := false, trunc := true, body := f_cnf_abs_0 }
/- 153: latchwork/cnf.Clause -/
end Go.Lw
end

/-! The code of package Law for the small machine. Written by program (gen.py). -/
section
set_option maxRecDepth 10000
namespace Go.Lw
open Go
/- 0: latchwork/latchworklaw.GatesAnds -/
/- 5: latchwork/latchworklaw.gatesBegun -/
/- 8: latchwork/latchworklaw.GatesEvals -/
/- 13: latchwork/latchworklaw.sameBools -/
/- 14: latchwork/latchworklaw.GatesKeep -/
/- 15: latchwork/latchworklaw.CnfOfs -/
/- 18: latchwork/latchworklaw.cnfBegun -/
/- 19: latchwork/latchworklaw.clausesAre -/
/- 20: latchwork/latchworklaw.WordFits -/
/- 21: latchwork/latchworklaw.wordBegun -/
/- 24: latchwork/latchworklaw.WordApplies -/
/- 29: latchwork/latchworklaw.WordTurns -/
/- 30: latchwork/latchworklaw.choose -/
/- 31: latchwork/latchworklaw.CnfTells -/
/- 33: latchwork/latchworklaw.ModelChecks -/
/- 37: latchwork/latchworklaw.modelBegun -/
/- 40: latchwork/latchworklaw.listIs -/
/- 41: latchwork/latchworklaw.ModelCones -/
/- 44: latchwork/latchworklaw.ModelAgain -/
/- 75: latchwork/latchworklaw.toggle -/
/- 122: latchwork/latchworklaw.EvalBegins -/
/- 126: latchwork/latchworklaw.evalBegun -/
/- 127: latchwork/latchworklaw.EvalValues -/
/- 144: latchwork/latchworklaw.ProofFollows -/
/- 147: latchwork/latchworklaw.proofBegun -/
/- 148: latchwork/latchworklaw.ProofChecks -/
/- 152: latchwork/latchworklaw.ProofSound -/
/- 165: latchwork/latchworklaw.searchBegun -/
def f_law_searchBegun_0 : ICode :=
  (.seq (.post (.region [
 (oN (.mv 0 (.c (.bool false))))] false) [] 0)
  (.seq (.post (.region [
 (oN (.buildSl 6 1 [(.c (I 1)), (.c (I 2))])),
 (oN (.buildSl 7 1 [(.c (I 1)), (.c (I (-2)))])),
 (oN (.buildSl 8 1 [(.c (I (-1))), (.c (I 2))])),
 (oN (.buildSl 9 1 [(.t 6), (.t 7), (.t 8)])),
 (oN (.buildT 10 [I 0, .sl true 1 []] [(0, 1, (.c (I 2))), (1, 1, (.t 9))])),
 (oN (.alloc 1 false (.agg [I 0, .sl true 1 []]))),
 (oN (.store true 2 (.t 1) (.t 10)))] false) [1] 1)
  (.seq (.post (.region [
 (oN (.load 12 true 2 (.t 1))),
 (oN (.call (some 13) false 163 [(.t 12), (.c (I 1000))])),
 (oM 11 13),
 (oN (.extract 14 (.t 11) 0)),
 (oN (.extract 15 (.t 11) 1)),
 (oN (.alloc 2 false (.agg [I 0, .sl true 1 [], .sl true 1 []]))),
 (oN (.store true 3 (.t 2) (.t 14))),
 (oM 3 15)] false) [1, 2, 3] 2)
  (.seq (.post (.region [
 (oN (.load 17 true 2 (.t 1))),
 (oN (.load 18 true 3 (.t 2))),
 (oN (.call (some 19) true 166 [(.t 17), (.t 18)])),
 (oM 16 19),
 (oN (.extract 20 (.t 16) 0)),
 (oN (.extract 21 (.t 16) 1)),
 (oM 4 20),
 (oM 5 21)] false) [2, 3, 4, 5] 2)
  (.seq (.post (.region [
 (oM 22 3),
 (oN (.bin 23 .eql (.t 22) (.c (I 0)))),
 (oM 24 23),
    ⟨.mv 25 (.t 5), some (24, true)⟩,
    ⟨.bin 26 .eql (.t 25) (.c (I 0)), some (24, true)⟩,
 (oN (.pick 27 (.t 24) (.t 26) (.c (.bool false)))),
 (oM 28 27),
    ⟨.mv 29 (.t 4), some (28, true)⟩,
 (oN (.pick 30 (.t 28) (.t 29) (.c (.bool false)))),
 (oM 31 30),
    ⟨.faddr 32 (.t 2) 0, some (31, true)⟩,
    ⟨.load 33 false 1 (.t 32), some (31, true)⟩,
    ⟨.bin 34 .eql (.t 33) (.c (I 1)), some (31, true)⟩,
 (oN (.pick 35 (.t 31) (.t 34) (.c (.bool false)))),
 (oM 36 35),
    ⟨.faddr 37 (.t 2) 1, some (36, true)⟩,
    ⟨.load 38 false 1 (.t 37), some (36, true)⟩,
    ⟨.len 39 0 (.t 38), some (36, true)⟩,
    ⟨.bin 40 .eql (.t 39) (.c (I 2)), some (36, true)⟩,
 (oN (.pick 41 (.t 36) (.t 40) (.c (.bool false)))),
 (oM 42 41),
    ⟨.faddr 43 (.t 2) 1, some (42, true)⟩,
    ⟨.load 44 false 1 (.t 43), some (42, true)⟩,
    ⟨.iaddr 45 1 none (.t 44) (.c (I 0)), some (42, true)⟩,
    ⟨.load 46 false 1 (.t 45), some (42, true)⟩,
 (oN (.pick 47 (.t 42) (.t 46) (.c (.bool false)))),
 (oM 48 47),
    ⟨.faddr 49 (.t 2) 1, some (48, true)⟩,
    ⟨.load 50 false 1 (.t 49), some (48, true)⟩,
    ⟨.iaddr 51 1 none (.t 50) (.c (I 1)), some (48, true)⟩,
    ⟨.load 52 false 1 (.t 51), some (48, true)⟩,
 (oN (.pick 53 (.t 48) (.t 52) (.c (.bool false)))),
 (oM 0 53)] false) [0] 0)
  .ret)))))
def f_law_searchBegun : IFunc := { np := 0, res := [.t 0], own := false, trunc := true, body := f_law_searchBegun_0 }
/- 207: latchwork/latchworklaw.SearchIs -/
def f_law_SearchIs_k1 : ICode :=
  (.seq (.post (.region [
 (oN (.call (some 25) true 165 [])),
 (oM 26 25),
    ⟨.mv 27 (.t 6), some (26, true)⟩,
    ⟨.mv 28 (.t 7), some (26, true)⟩,
    ⟨.bin 29 .eql (.t 27) (.t 28), some (26, true)⟩,
 (oN (.pick 30 (.t 26) (.t 29) (.c (.bool false)))),
 (oM 31 30),
    ⟨.mv 32 (.t 5), some (31, true)⟩,
    ⟨.mv 33 (.t 8), some (31, true)⟩,
    ⟨.eqb 34 false (.t 32) (.t 33), some (31, true)⟩,
 (oN (.pick 35 (.t 31) (.t 34) (.c (.bool false)))),
 (oM 4 35)] false) [4] 0)
  .ret)
def f_law_SearchIs_0 : ICode :=
  (.seq (.post (.region [
 (oN (.box 2 false false (.t 0))),
 (oN (.box 3 false false (.t 1))),
 (oN (.mv 4 (.c (.bool false))))] false) [2, 3] 2)
  (.seq (.post (.region [
 (oN (.load 10 true 2 (.t 2))),
 (oN (.load 11 true 3 (.t 3))),
 (oN (.call (some 12) true 166 [(.t 10), (.t 11)])),
 (oM 9 12),
 (oN (.extract 13 (.t 9) 0)),
 (oN (.extract 14 (.t 9) 1)),
 (oM 5 13),
 (oM 6 14)] false) [2, 3, 5, 6] 2)
  (.seq (.post (.region [
 (oN (.load 15 true 2 (.t 2))),
 (oN (.call (some 16) true 93 [(.t 15)])),
 (oM 7 16),
 (oN (.mv 8 (.c (.bool false))))] false) [2, 3, 5, 6, 7, 8] 2)
  (.seq (.seq (.post (.region [
 (oM 17 7),
 (oN (.bin 18 .eql (.t 17) (.c (I 0))))] false) [2, 3, 5, 6, 7, 8, 18] 2)
  (.cond (.t 18) (.post (.post (.region [
 (oN (.load 20 true 2 (.t 2))),
 (oN (.load 21 true 3 (.t 3))),
 (oN (.call (some 22) true 167 [(.t 20), (.t 21)])),
 (oM 19 22),
 (oN (.extract 23 (.t 19) 0)),
 (oN (.extract 24 (.t 19) 1)),
 (oM 8 23),
 (oM 7 24)] false) [5, 6, 7, 8] 0) [5, 6, 7, 8] 0)
  (.post .skip [5, 6, 7, 8] 0)))
  (.cut f_law_SearchIs_k1)))))
def f_law_SearchIs : IFunc := { np := 2, res := [.t 4], own := false, trunc := true, body := f_law_SearchIs_0 }
/- 210: latchwork/latchworklaw.BlastChecks -/
/- 211: latchwork/latchworklaw.blastBegun -/
/- 239: latchwork/latchworklaw.DecideTrue -/
/- 240: latchwork/latchworklaw.decideBegun -/
/- 241: latchwork/latchworklaw.exploreBegun -/
/- 242: latchwork/latchworklaw.traceBegun -/
/- 318: latchwork/latchworklaw.ExploreAlls -/
/- 320: latchwork/latchworklaw.small -/
/- 325: latchwork/latchworklaw.BlastTells -/
/- 328: latchwork/latchworklaw.UnrollClauses -/
/- 332: latchwork/latchworklaw.unrollBegun -/
/- 333: latchwork/latchworklaw.ProveDifferents -/
/- 335: latchwork/latchworklaw.proveBegun -/
end Go.Lw
end

/-! The code of package Lib for the small machine. Written by program (gen.py). -/
section
set_option maxRecDepth 10000
namespace Go.Lw
open Go
/- 82: slices.Concat[[]latchwork/api.Pair,latchwork/api.Pair] -/
/- 86: slices.ContainsFunc[[]int,int] -/
def f_slices_ContainsFunc_Lint_int_0 : ICode :=
  (.seq (.post (.region [
 (oN (.mv 4 (.c (.bool false))))] false) [0, 1] 0)
  (.seq (.post (.region [
 (oM 5 0),
 (oM 6 1),
 (oN (.call (some 7) true 111 [(.t 5), (.t 6)])),
 (oN (.bin 8 .geq (.t 7) (.c (I 0)))),
 (oM 4 8)] false) [4] 0)
  .ret))
def f_slices_ContainsFunc_Lint_int : IFunc := { np := 2, res := [.t 4], own := false, trunc := true, body := f_slices_ContainsFunc_Lint_int_0 }
/- 100: slices.ContainsFunc[[][]int,[]int] -/
def f_slices_ContainsFunc_LLint_Lint_0 : ICode :=
  (.seq (.post (.region [
 (oN (.mv 4 (.c (.bool false))))] false) [0, 1] 0)
  (.seq (.post (.region [
 (oM 5 0),
 (oM 6 1),
 (oN (.call (some 7) true 117 [(.t 5), (.t 6)])),
 (oN (.bin 8 .geq (.t 7) (.c (I 0)))),
 (oM 4 8)] false) [4] 0)
  .ret))
def f_slices_ContainsFunc_LLint_Lint : IFunc := { np := 2, res := [.t 4], own := false, trunc := true, body := f_slices_ContainsFunc_LLint_Lint_0 }
/- 107: slices.Concat[[]int,int] -/
/- 111: slices.IndexFunc[[]int,int] -/
def f_slices_IndexFunc_Lint_int_b1 : ICode :=
  (.post (.seq (.region [
 (oN (.bin 9 .lss (.t 8) (.t 7)))] false)
  (.seq (.cond (.t 9) .skip
  (.exit 0))
  (.seq (.block 1 (.seq (.post (.region [
 (oM 10 8),
 (oM 5 10)] false) [0, 1, 5, 7, 8] 0)
  (.seq (.post (.region [
 (oM 11 1),
 (oM 12 0),
 (oM 13 5),
 (oA 14 12 13),
 (oL 15 14),
 (oN (.callv (some 16) true (.t 11) [(.t 15)]))] false) [0, 1, 5, 7, 8, 16] 0)
  (.cond (.t 16) (.seq (.post (.region [
 (oM 17 5),
 (oM 4 17)] false) [4] 0)
  .ret)
  .skip))))
  (.post (.region [
 (oN (.bin 18 .add (.t 8) (.c (I 1)))),
 (oM 8 18)] false) [0, 1, 7, 8] 0)))) [0, 1, 7, 8] 0)
def f_slices_IndexFunc_Lint_int_l1 : ICode :=
  (.post (.block 0 (.loop f_slices_IndexFunc_Lint_int_b1)) [] 0)
def f_slices_IndexFunc_Lint_int_k1 : ICode :=
  (.seq (.region [
 (oN (.mv 4 (.c (I (-1)))))] false)
  .ret)
def f_slices_IndexFunc_Lint_int_0 : ICode :=
  (.seq (.post (.region [
 (oN (.mv 4 (.c (I 0))))] false) [0, 1] 0)
  (.seq (.seq (.post (.region [
 (oM 6 0),
 (oN (.len 7 0 (.t 6))),
 (oN (.mv 8 (.c (I 0))))] false) [0, 1, 7, 8] 0)
  (.cut f_slices_IndexFunc_Lint_int_l1))
  (.cut f_slices_IndexFunc_Lint_int_k1)))
def f_slices_IndexFunc_Lint_int : IFunc := { np := 2, res := [.t 4], own := false, trunc := true, body := f_slices_IndexFunc_Lint_int_0 }
/- 117: slices.IndexFunc[[][]int,[]int] -/
def f_slices_IndexFunc_LLint_Lint_b1 : ICode :=
  (.post (.seq (.region [
 (oN (.bin 9 .lss (.t 8) (.t 7)))] false)
  (.seq (.cond (.t 9) .skip
  (.exit 0))
  (.seq (.block 1 (.seq (.post (.region [
 (oM 10 8),
 (oM 5 10)] false) [0, 1, 5, 7, 8] 0)
  (.seq (.post (.region [
 (oM 11 1),
 (oM 12 0),
 (oM 13 5),
 (oA 14 12 13),
 (oL 15 14),
 (oN (.callv (some 16) true (.t 11) [(.t 15)]))] false) [0, 1, 5, 7, 8, 16] 0)
  (.cond (.t 16) (.seq (.post (.region [
 (oM 17 5),
 (oM 4 17)] false) [4] 0)
  .ret)
  .skip))))
  (.post (.region [
 (oN (.bin 18 .add (.t 8) (.c (I 1)))),
 (oM 8 18)] false) [0, 1, 7, 8] 0)))) [0, 1, 7, 8] 0)
def f_slices_IndexFunc_LLint_Lint_l1 : ICode :=
  (.post (.block 0 (.loop f_slices_IndexFunc_LLint_Lint_b1)) [] 0)
def f_slices_IndexFunc_LLint_Lint_k1 : ICode :=
  (.seq (.region [
 (oN (.mv 4 (.c (I (-1)))))] false)
  .ret)
def f_slices_IndexFunc_LLint_Lint_0 : ICode :=
  (.seq (.post (.region [
 (oN (.mv 4 (.c (I 0))))] false) [0, 1] 0)
  (.seq (.seq (.post (.region [
 (oM 6 0),
 (oN (.len 7 0 (.t 6))),
 (oN (.mv 8 (.c (I 0))))] false) [0, 1, 7, 8] 0)
  (.cut f_slices_IndexFunc_LLint_Lint_l1))
  (.cut f_slices_IndexFunc_LLint_Lint_k1)))
def f_slices_IndexFunc_LLint_Lint : IFunc := { np := 2, res := [.t 4], own := false, trunc := true, body := f_slices_IndexFunc_LLint_Lint_0 }
/- 156: slices.Concat[[][]int,[]int] -/
def f_slices_Concat_LLint_Lint_b1 : ICode :=
  (.post (.seq (.region [
 (oN (.bin 12 .lss (.t 11) (.t 10)))] false)
  (.seq (.cond (.t 12) .skip
  (.exit 0))
  (.seq (.block 1 (.seq (.post (.region [
 (oA 13 9 11),
 (oL 14 13),
 (oN (.tk 5 14))] false) [0, 3, 5, 9, 10, 11] 0)
  (.seq (.post (.region [
 (oM 15 3),
 (oM 16 5),
 (oN (.len 17 0 (.t 16))),
 (oN (.bin 18 .add (.t 15) (.t 17))),
 (oM 3 18)] false) [0, 3, 9, 10, 11] 0)
  (.seq (.post (.region [
 (oM 19 3),
 (oN (.bin 20 .lss (.t 19) (.c (I 0))))] false) [0, 3, 9, 10, 11, 20] 0)
  (.cond (.t 20) .bad
  .skip)))))
  (.post (.region [
 (oN (.bin 22 .add (.t 11) (.c (I 1)))),
 (oM 11 22)] false) [0, 3, 9, 10, 11] 0)))) [0, 3, 9, 10, 11] 0)
def f_slices_Concat_LLint_Lint_l1 : ICode :=
  (.post (.block 0 (.loop f_slices_Concat_LLint_Lint_b1)) [0, 3] 0)
def f_slices_Concat_LLint_Lint_b2 : ICode :=
  (.post (.seq (.region [
 (oN (.bin 28 .lss (.t 27) (.t 26)))] false)
  (.seq (.cond (.t 28) .skip
  (.exit 2))
  (.seq (.block 3 (.seq (.post (.region [
 (oA 29 25 27),
 (oL 30 29),
 (oN (.tk 8 30))] false) [6, 8, 25, 26, 27] 0)
  (.post (.region [
 (oN (.tk 31 6)),
 (oM 32 8),
 (oN (.append 33 1 24 (.t 31) (.t 32))),
 (oN (.tk 6 33))] false) [6, 25, 26, 27] 0)))
  (.post (.region [
 (oN (.bin 34 .add (.t 27) (.c (I 1)))),
 (oM 27 34)] false) [6, 25, 26, 27] 0)))) [6, 25, 26, 27] 0)
def f_slices_Concat_LLint_Lint_l2 : ICode :=
  (.post (.block 2 (.loop f_slices_Concat_LLint_Lint_b2)) [6] 0)
def f_slices_Concat_LLint_Lint_k2 : ICode :=
  (.seq (.post (.region [
 (oM 35 6),
 (oN (.tk 2 35))] false) [2] 0)
  .ret)
def f_slices_Concat_LLint_Lint_k1 : ICode :=
  (.seq (.post (.region [
 (oM 23 3),
 (oN (.call (some 24) true 160 [(.c .nils), (.t 23)])),
 (oN (.tk 6 24))] false) [0, 6] 0)
  (.seq (.seq (.post (.region [
 (oM 25 0),
 (oN (.len 26 0 (.t 25))),
 (oN (.mv 27 (.c (I 0))))] false) [6, 25, 26, 27] 0)
  (.cut f_slices_Concat_LLint_Lint_l2))
  (.cut f_slices_Concat_LLint_Lint_k2)))
def f_slices_Concat_LLint_Lint_0 : ICode :=
  (.seq (.post (.region [
 (oN (.mv 2 (.c (.sl true 1 []))))] false) [0] 0)
  (.seq (.region [
 (oN (.mv 3 (.c (I 0))))] false)
  (.seq (.seq (.post (.region [
 (oM 9 0),
 (oN (.len 10 0 (.t 9))),
 (oN (.mv 11 (.c (I 0))))] false) [0, 3, 9, 10, 11] 0)
  (.cut f_slices_Concat_LLint_Lint_l1))
  (.cut f_slices_Concat_LLint_Lint_k1))))
def f_slices_Concat_LLint_Lint : IFunc := { np := 1, res := [.t 2], own := true, trunc := true, body := f_slices_Concat_LLint_Lint_0 }
/- 172: slices.ContainsFunc[[]int,int]#K -/
def f_slices_ContainsFunc_Lint_int_K_0 : ICode :=
  (.seq (.post (.region [
 (oN (.mv 4 (.c (.bool false))))] false) [0, 1] 0)
  (.seq (.post (.region [
 (oM 5 0),
 (oM 6 1),
 (oN (.call (some 7) false 208 [(.t 5), (.t 6)])),
 (oN (.bin 8 .geq (.t 7) (.c (I 0)))),
 (oM 4 8)] false) [4] 0)
  .ret))
def f_slices_ContainsFunc_Lint_int_K : IFunc := { np := 2, res := [.t 4], own := false, trunc := true, body := f_slices_ContainsFunc_Lint_int_K_0 }
/- 181: math/bits.Len -/
def f_math_bits_Len_0 : ICode :=
  (.seq (.post (.region [
 (oN (.mv 2 (.c (I 0))))] false) [0] 0)
  (.seq (.cond (.c (.bool false)) (.seq (.post (.region [
 (oM 3 0),
 (oN (.conv 4 .u32 (.t 3))),
 (oN (.call (some 5) true 182 [(.t 4)])),
 (oM 2 5)] false) [2] 0)
  .ret)
  .skip)
  (.seq (.post (.region [
 (oM 6 0),
 (oN (.call (some 7) true 183 [(.t 6)])),
 (oM 2 7)] false) [2] 0)
  .ret)))
def f_math_bits_Len : IFunc := { np := 1, res := [.t 2], own := false, trunc := true, body := f_math_bits_Len_0 }
/- 182: math/bits.Len32 -/
def f_math_bits_Len32_k2 : ICode :=
  (.seq (.post (.region [
 (oM 13 2),
 (oM 14 0),
 (oN (.conv 15 .u8 (.t 14))),
 (oN (.indexS 16 (.c (.str ⟨#[0, 1, 2, 2, 3, 3, 3, 3, 4, 4, 4, 4, 4, 4, 4, 4, 5, 5, 5, 5, 5, 5, 5, 5, 5, 5, 5, 5, 5, 5, 5, 5, 6, 6, 6, 6, 6, 6, 6, 6, 6, 6, 6, 6, 6, 6, 6, 6, 6, 6, 6, 6, 6, 6, 6, 6, 6, 6, 6, 6, 6, 6, 6, 6, 7, 7, 7, 7, 7, 7, 7, 7, 7, 7, 7, 7, 7, 7, 7, 7, 7, 7, 7, 7, 7, 7, 7, 7, 7, 7, 7, 7, 7, 7, 7, 7, 7, 7, 7, 7, 7, 7, 7, 7, 7, 7, 7, 7, 7, 7, 7, 7, 7, 7, 7, 7, 7, 7, 7, 7, 7, 7, 7, 7, 7, 7, 7, 7, 8, 8, 8, 8, 8, 8, 8, 8, 8, 8, 8, 8, 8, 8, 8, 8, 8, 8, 8, 8, 8, 8, 8, 8, 8, 8, 8, 8, 8, 8, 8, 8, 8, 8, 8, 8, 8, 8, 8, 8, 8, 8, 8, 8, 8, 8, 8, 8, 8, 8, 8, 8, 8, 8, 8, 8, 8, 8, 8, 8, 8, 8, 8, 8, 8, 8, 8, 8, 8, 8, 8, 8, 8, 8, 8, 8, 8, 8, 8, 8, 8, 8, 8, 8, 8, 8, 8, 8, 8, 8, 8, 8, 8, 8, 8, 8, 8, 8, 8, 8, 8, 8, 8, 8, 8, 8, 8, 8, 8, 8, 8, 8, 8, 8, 8, 8, 8, 8, 8, 8, 8, 8, 8, 8, 8, 8, 8, 8]⟩)) (.t 15))),
 (oN (.conv 17 .i64 (.t 16))),
 (oN (.bin 18 .add (.t 13) (.t 17))),
 (oM 2 18)] false) [2] 0)
  .ret)
def f_math_bits_Len32_k1 : ICode :=
  (.seq (.seq (.post (.region [
 (oM 7 0),
 (oN (.bin 8 .geq (.t 7) (.c (.int .u32 256))))] false) [0, 2, 8] 0)
  (.cond (.t 8) (.post (.seq (.post (.region [
 (oM 9 0),
 (oN (.bin 10 .shr (.t 9) (.c (.int .u64 8)))),
 (oM 0 10)] false) [0, 2] 0)
  (.post (.region [
 (oM 11 2),
 (oN (.bin 12 .add (.t 11) (.c (I 8)))),
 (oM 2 12)] false) [0, 2] 0)) [0, 2] 0)
  (.post .skip [0, 2] 0)))
  (.cut f_math_bits_Len32_k2))
def f_math_bits_Len32_0 : ICode :=
  (.seq (.region [
 (oN (.mv 2 (.c (I 0))))] false)
  (.seq (.seq (.post (.region [
 (oM 3 0),
 (oN (.bin 4 .geq (.t 3) (.c (.int .u32 65536))))] false) [0, 2, 4] 0)
  (.cond (.t 4) (.post (.seq (.post (.region [
 (oM 5 0),
 (oN (.bin 6 .shr (.t 5) (.c (.int .u64 16)))),
 (oM 0 6)] false) [0] 0)
  (.region [
 (oN (.mv 2 (.c (I 16))))] false)) [0, 2] 0)
  (.post .skip [0, 2] 0)))
  (.cut f_math_bits_Len32_k1)))
def f_math_bits_Len32 : IFunc := { np := 1, res := [.t 2], own := false, trunc := true, body := f_math_bits_Len32_0 }
/- 183: math/bits.Len64 -/
def f_math_bits_Len64_k3 : ICode :=
  (.seq (.post (.region [
 (oM 19 2),
 (oM 20 0),
 (oN (.conv 21 .u8 (.t 20))),
 (oN (.indexS 22 (.c (.str ⟨#[0, 1, 2, 2, 3, 3, 3, 3, 4, 4, 4, 4, 4, 4, 4, 4, 5, 5, 5, 5, 5, 5, 5, 5, 5, 5, 5, 5, 5, 5, 5, 5, 6, 6, 6, 6, 6, 6, 6, 6, 6, 6, 6, 6, 6, 6, 6, 6, 6, 6, 6, 6, 6, 6, 6, 6, 6, 6, 6, 6, 6, 6, 6, 6, 7, 7, 7, 7, 7, 7, 7, 7, 7, 7, 7, 7, 7, 7, 7, 7, 7, 7, 7, 7, 7, 7, 7, 7, 7, 7, 7, 7, 7, 7, 7, 7, 7, 7, 7, 7, 7, 7, 7, 7, 7, 7, 7, 7, 7, 7, 7, 7, 7, 7, 7, 7, 7, 7, 7, 7, 7, 7, 7, 7, 7, 7, 7, 7, 8, 8, 8, 8, 8, 8, 8, 8, 8, 8, 8, 8, 8, 8, 8, 8, 8, 8, 8, 8, 8, 8, 8, 8, 8, 8, 8, 8, 8, 8, 8, 8, 8, 8, 8, 8, 8, 8, 8, 8, 8, 8, 8, 8, 8, 8, 8, 8, 8, 8, 8, 8, 8, 8, 8, 8, 8, 8, 8, 8, 8, 8, 8, 8, 8, 8, 8, 8, 8, 8, 8, 8, 8, 8, 8, 8, 8, 8, 8, 8, 8, 8, 8, 8, 8, 8, 8, 8, 8, 8, 8, 8, 8, 8, 8, 8, 8, 8, 8, 8, 8, 8, 8, 8, 8, 8, 8, 8, 8, 8, 8, 8, 8, 8, 8, 8, 8, 8, 8, 8, 8, 8, 8, 8, 8, 8, 8, 8]⟩)) (.t 21))),
 (oN (.conv 23 .i64 (.t 22))),
 (oN (.bin 24 .add (.t 19) (.t 23))),
 (oM 2 24)] false) [2] 0)
  .ret)
def f_math_bits_Len64_k2 : ICode :=
  (.seq (.seq (.post (.region [
 (oM 13 0),
 (oN (.bin 14 .geq (.t 13) (.c (.int .u64 256))))] false) [0, 2, 14] 0)
  (.cond (.t 14) (.post (.seq (.post (.region [
 (oM 15 0),
 (oN (.bin 16 .shr (.t 15) (.c (.int .u64 8)))),
 (oM 0 16)] false) [0, 2] 0)
  (.post (.region [
 (oM 17 2),
 (oN (.bin 18 .add (.t 17) (.c (I 8)))),
 (oM 2 18)] false) [0, 2] 0)) [0, 2] 0)
  (.post .skip [0, 2] 0)))
  (.cut f_math_bits_Len64_k3))
def f_math_bits_Len64_k1 : ICode :=
  (.seq (.seq (.post (.region [
 (oM 7 0),
 (oN (.bin 8 .geq (.t 7) (.c (.int .u64 65536))))] false) [0, 2, 8] 0)
  (.cond (.t 8) (.post (.seq (.post (.region [
 (oM 9 0),
 (oN (.bin 10 .shr (.t 9) (.c (.int .u64 16)))),
 (oM 0 10)] false) [0, 2] 0)
  (.post (.region [
 (oM 11 2),
 (oN (.bin 12 .add (.t 11) (.c (I 16)))),
 (oM 2 12)] false) [0, 2] 0)) [0, 2] 0)
  (.post .skip [0, 2] 0)))
  (.cut f_math_bits_Len64_k2))
def f_math_bits_Len64_0 : ICode :=
  (.seq (.region [
 (oN (.mv 2 (.c (I 0))))] false)
  (.seq (.seq (.post (.region [
 (oM 3 0),
 (oN (.bin 4 .geq (.t 3) (.c (.int .u64 4294967296))))] false) [0, 2, 4] 0)
  (.cond (.t 4) (.post (.seq (.post (.region [
 (oM 5 0),
 (oN (.bin 6 .shr (.t 5) (.c (.int .u64 32)))),
 (oM 0 6)] false) [0] 0)
  (.region [
 (oN (.mv 2 (.c (I 32))))] false)) [0, 2] 0)
  (.post .skip [0, 2] 0)))
  (.cut f_math_bits_Len64_k1)))
def f_math_bits_Len64 : IFunc := { np := 1, res := [.t 2], own := false, trunc := true, body := f_math_bits_Len64_0 }
/- 184: slices.Contains[[]int,int]#K -/
def f_slices_Contains_Lint_int_K_0 : ICode :=
  (.seq (.post (.region [
 (oN (.mv 4 (.c (.bool false))))] false) [0, 1] 0)
  (.seq (.post (.region [
 (oM 5 0),
 (oM 6 1),
 (oN (.call (some 7) false 209 [(.t 5), (.t 6)])),
 (oN (.bin 8 .geq (.t 7) (.c (I 0)))),
 (oM 4 8)] false) [4] 0)
  .ret))
def f_slices_Contains_Lint_int_K : IFunc := { np := 2, res := [.t 4], own := false, trunc := true, body := f_slices_Contains_Lint_int_K_0 }
/- 185: slices.Contains[[]int,int] -/
/- 186: slices.Index[[]int,int] -/
/- 190: slices.SortFunc[[]int,int] -/
def f_slices_SortFunc_Lint_int_0 : ICode :=
  (.seq (.post (.region [
 (oM 5 0),
 (oN (.len 6 0 (.t 5))),
 (oM 4 6)] false) [0, 1, 4] 0)
  (.post (.region [
 (oM 7 0),
 (oM 8 4),
 (oM 9 4),
 (oN (.conv 10 .u64 (.t 9))),
 (oN (.call (some 11) true 181 [(.t 10)])),
 (oM 12 1),
 (oN (.call (some 13) true 192 [(.t 7), (.c (I 0)), (.t 8), (.t 11), (.t 12)]))] false) [] 0))
def f_slices_SortFunc_Lint_int : IFunc := { np := 2, res := [], own := false, trunc := true, body := f_slices_SortFunc_Lint_int_0 }
/- 192: slices.pdqsortCmpFunc[int] -/
def f_slices_pdqsortCmpFunc_int_k3 : ICode :=
  (.seq (.seq (.post (.region [
 (oM 81 1),
 (oN (.bin 82 .gtr (.t 81) (.c (I 0)))),
 (oM 83 82),
    ⟨.mv 84 (.t 4), some (83, true)⟩,
    ⟨.mv 85 (.t 0), some (83, true)⟩,
    ⟨.mv 86 (.t 1), some (83, true)⟩,
    ⟨.bin 87 .sub (.t 86) (.c (I 1)), some (83, true)⟩,
    ⟨.iaddr 88 1 none (.t 85) (.t 87), some (83, true)⟩,
    ⟨.load 89 false 1 (.t 88), some (83, true)⟩,
    ⟨.mv 90 (.t 0), some (83, true)⟩,
    ⟨.mv 91 (.t 13), some (83, true)⟩,
    ⟨.iaddr 92 1 none (.t 90) (.t 91), some (83, true)⟩,
    ⟨.load 93 false 1 (.t 92), some (83, true)⟩,
    ⟨.callv (some 94) true (.t 84) [(.t 89), (.t 93)], some (83, true)⟩,
    ⟨.bin 95 .lss (.t 94) (.c (I 0)), some (83, true)⟩,
    ⟨.un 96 .not (.t 95), some (83, true)⟩,
 (oN (.pick 97 (.t 83) (.t 96) (.c (.bool false))))] true) [0, 1, 2, 3, 4, 10, 11, 12, 13, 97] 0)
  (.cond (.t 97) (.seq (.post (.region [
 (oM 98 0),
 (oM 99 1),
 (oM 100 2),
 (oM 101 13),
 (oM 102 4),
 (oN (.call (some 103) true 201 [(.t 98), (.t 99), (.t 100), (.t 101), (.t 102)])),
 (oM 15 103)] false) [0, 2, 3, 4, 10, 11, 15] 0)
  (.seq (.post (.region [
 (oM 104 15),
 (oM 1 104)] false) [0, 1, 2, 3, 4, 10, 11] 0)
  (.exit 1)))
  .skip))
  (.seq (.post (.region [
 (oM 106 0),
 (oM 107 1),
 (oM 108 2),
 (oM 109 13),
 (oM 110 4),
 (oN (.call (some 111) true 202 [(.t 106), (.t 107), (.t 108), (.t 109), (.t 110)])),
 (oM 105 111),
 (oN (.extract 112 (.t 105) 0)),
 (oN (.extract 113 (.t 105) 1)),
 (oM 16 112),
 (oM 17 113)] false) [0, 1, 2, 3, 4, 12, 16, 17] 0)
  (.seq (.post (.region [
 (oM 114 17),
 (oM 11 114)] false) [0, 1, 2, 3, 4, 11, 12, 16] 0)
  (.seq (.post (.region [
 (oM 115 16),
 (oM 116 1),
 (oN (.bin 117 .sub (.t 115) (.t 116))),
 (oM 118 2),
 (oM 119 16),
 (oN (.bin 120 .sub (.t 118) (.t 119))),
 (oM 18 117),
 (oM 19 120)] false) [0, 1, 2, 3, 4, 11, 12, 16, 18, 19] 0)
  (.seq (.post (.region [
 (oM 121 12),
 (oN (.bin 122 .quo (.t 121) (.c (I 8)))),
 (oM 20 122)] false) [0, 1, 2, 3, 4, 11, 16, 18, 19, 20] 0)
  (.seq (.post (.region [
 (oM 123 18),
 (oM 124 19),
 (oN (.bin 125 .lss (.t 123) (.t 124)))] false) [0, 1, 2, 3, 4, 11, 16, 18, 19, 20, 125] 0)
  (.cond (.t 125) (.post (.seq (.post (.region [
 (oM 126 18),
 (oM 127 20),
 (oN (.bin 128 .geq (.t 126) (.t 127))),
 (oM 10 128)] false) [0, 1, 2, 3, 4, 10, 11, 16] 0)
  (.seq (.post (.region [
 (oM 129 0),
 (oM 130 1),
 (oM 131 16),
 (oM 132 3),
 (oM 133 4),
 (oN (.call (some 134) true 192 [(.t 129), (.t 130), (.t 131), (.t 132), (.t 133)]))] false) [0, 2, 3, 4, 10, 11, 16] 0)
  (.post (.region [
 (oM 135 16),
 (oN (.bin 136 .add (.t 135) (.c (I 1)))),
 (oM 1 136)] false) [0, 1, 2, 3, 4, 10, 11] 0))) [0, 1, 2, 3, 4, 10, 11] 0)
  (.post (.seq (.post (.region [
 (oM 137 19),
 (oM 138 20),
 (oN (.bin 139 .geq (.t 137) (.t 138))),
 (oM 10 139)] false) [0, 1, 2, 3, 4, 10, 11, 16] 0)
  (.seq (.post (.region [
 (oM 140 0),
 (oM 141 16),
 (oN (.bin 142 .add (.t 141) (.c (I 1)))),
 (oM 143 2),
 (oM 144 3),
 (oM 145 4),
 (oN (.call (some 146) true 192 [(.t 140), (.t 142), (.t 143), (.t 144), (.t 145)]))] false) [0, 1, 3, 4, 10, 11, 16] 0)
  (.post (.region [
 (oM 147 16),
 (oM 2 147)] false) [0, 1, 2, 3, 4, 10, 11] 0))) [0, 1, 2, 3, 4, 10, 11] 0))))))))
def f_slices_pdqsortCmpFunc_int_k2 : ICode :=
  (.seq (.seq (.post (.region [
 (oM 68 10),
 (oM 69 68),
    ⟨.mv 70 (.t 11), some (69, true)⟩,
 (oN (.pick 71 (.t 69) (.t 70) (.c (.bool false)))),
 (oM 72 71),
    ⟨.mv 73 (.t 14), some (72, true)⟩,
    ⟨.bin 74 .eql (.t 73) (.c (I 1)), some (72, true)⟩,
 (oN (.pick 75 (.t 72) (.t 74) (.c (.bool false))))] false) [0, 1, 2, 3, 4, 10, 11, 12, 13, 75] 0)
  (.cond (.t 75) (.post (.seq (.post (.region [
 (oM 76 0),
 (oM 77 1),
 (oM 78 2),
 (oM 79 4),
 (oN (.call (some 80) true 200 [(.t 76), (.t 77), (.t 78), (.t 79)]))] false) [0, 1, 2, 3, 4, 10, 11, 12, 13, 80] 0)
  (.cond (.t 80) .ret
  .skip)) [0, 1, 2, 3, 4, 10, 11, 12, 13] 0)
  (.post .skip [0, 1, 2, 3, 4, 10, 11, 12, 13] 0)))
  (.cut f_slices_pdqsortCmpFunc_int_k3))
def f_slices_pdqsortCmpFunc_int_k1 : ICode :=
  (.seq (.post (.region [
 (oM 48 0),
 (oM 49 1),
 (oM 50 2),
 (oM 51 4),
 (oN (.call (some 52) true 198 [(.t 48), (.t 49), (.t 50), (.t 51)])),
 (oM 47 52),
 (oN (.extract 53 (.t 47) 0)),
 (oN (.extract 54 (.t 47) 1)),
 (oM 13 53),
 (oM 14 54)] false) [0, 1, 2, 3, 4, 10, 11, 12, 13, 14] 0)
  (.seq (.seq (.post (.region [
 (oM 55 14),
 (oN (.bin 56 .eql (.t 55) (.c (I 2))))] false) [0, 1, 2, 3, 4, 10, 11, 12, 13, 14, 56] 0)
  (.cond (.t 56) (.post (.seq (.post (.region [
 (oM 57 0),
 (oM 58 1),
 (oM 59 2),
 (oM 60 4),
 (oN (.call (some 61) true 199 [(.t 57), (.t 58), (.t 59), (.t 60)]))] false) [0, 1, 2, 3, 4, 10, 11, 12, 13] 0)
  (.seq (.post (.region [
 (oM 62 2),
 (oN (.bin 63 .sub (.t 62) (.c (I 1)))),
 (oM 64 13),
 (oM 65 1),
 (oN (.bin 66 .sub (.t 64) (.t 65))),
 (oN (.bin 67 .sub (.t 63) (.t 66))),
 (oM 13 67)] false) [0, 1, 2, 3, 4, 10, 11, 12, 13] 0)
  (.region [
 (oN (.mv 14 (.c (I 1))))] false))) [0, 1, 2, 3, 4, 10, 11, 12, 13, 14] 0)
  (.post .skip [0, 1, 2, 3, 4, 10, 11, 12, 13, 14] 0)))
  (.cut f_slices_pdqsortCmpFunc_int_k2)))
def f_slices_pdqsortCmpFunc_int_b1 : ICode :=
  (.post (.block 1 (.seq (.post (.region [
 (oM 21 2),
 (oM 22 1),
 (oN (.bin 23 .sub (.t 21) (.t 22))),
 (oM 12 23)] false) [0, 1, 2, 3, 4, 10, 11, 12] 0)
  (.seq (.seq (.post (.region [
 (oM 24 12),
 (oN (.bin 25 .leq (.t 24) (.c (I 12))))] false) [0, 1, 2, 3, 4, 10, 11, 12, 25] 0)
  (.cond (.t 25) (.seq (.post (.region [
 (oM 26 0),
 (oM 27 1),
 (oM 28 2),
 (oM 29 4),
 (oN (.call (some 30) true 195 [(.t 26), (.t 27), (.t 28), (.t 29)]))] false) [] 0)
  .ret)
  .skip))
  (.seq (.seq (.post (.region [
 (oM 31 3),
 (oN (.bin 32 .eql (.t 31) (.c (I 0))))] false) [0, 1, 2, 3, 4, 10, 11, 12, 32] 0)
  (.cond (.t 32) (.seq (.post (.region [
 (oM 33 0),
 (oM 34 1),
 (oM 35 2),
 (oM 36 4),
 (oN (.call (some 37) true 196 [(.t 33), (.t 34), (.t 35), (.t 36)]))] false) [] 0)
  .ret)
  .skip))
  (.seq (.seq (.post (.region [
 (oM 38 10),
 (oN (.un 39 .not (.t 38)))] false) [0, 1, 2, 3, 4, 10, 11, 12, 39] 0)
  (.cond (.t 39) (.post (.seq (.post (.region [
 (oM 40 0),
 (oM 41 1),
 (oM 42 2),
 (oM 43 4),
 (oN (.call (some 44) true 197 [(.t 40), (.t 41), (.t 42), (.t 43)]))] false) [0, 1, 2, 3, 4, 10, 11, 12] 0)
  (.post (.region [
 (oM 45 3),
 (oN (.bin 46 .sub (.t 45) (.c (I 1)))),
 (oM 3 46)] false) [0, 1, 2, 3, 4, 10, 11, 12] 0)) [0, 1, 2, 3, 4, 10, 11, 12] 0)
  (.post .skip [0, 1, 2, 3, 4, 10, 11, 12] 0)))
  (.cut f_slices_pdqsortCmpFunc_int_k1)))))) [0, 1, 2, 3, 4, 10, 11] 0)
def f_slices_pdqsortCmpFunc_int_l1 : ICode :=
  (.post (.block 0 (.loop f_slices_pdqsortCmpFunc_int_b1)) [] 0)
def f_slices_pdqsortCmpFunc_int_0 : ICode :=
  (.seq (.region [
 (oN (.mv 10 (.c (.bool true))))] false)
  (.seq (.post (.region [
 (oN (.mv 11 (.c (.bool true))))] false) [0, 1, 2, 3, 4, 10, 11] 0)
  (.cut f_slices_pdqsortCmpFunc_int_l1)))
def f_slices_pdqsortCmpFunc_int : IFunc := { np := 5, res := [], own := false, trunc := true, body := f_slices_pdqsortCmpFunc_int_0 }
/- 193: slices.nextPowerOfTwo -/
def f_slices_nextPowerOfTwo_0 : ICode :=
  (.seq (.post (.region [
 (oN (.mv 2 (.c (.int .u64 0))))] false) [0] 0)
  (.seq (.post (.region [
 (oM 3 0),
 (oN (.conv 4 .u64 (.t 3))),
 (oN (.call (some 5) true 181 [(.t 4)])),
 (oN (.bin 6 .shl (.c (.int .u64 1)) (.t 5))),
 (oM 2 6)] false) [2] 0)
  .ret))
def f_slices_nextPowerOfTwo : IFunc := { np := 1, res := [.t 2], own := false, trunc := true, body := f_slices_nextPowerOfTwo_0 }
/- 194: (*slices.xorshift).Next -/
def f_slices_xorshift_Next_0 : ICode :=
  (.seq (.post (.region [
 (oN (.mv 2 (.c (.int .u64 0))))] false) [0] 0)
  (.seq (.post (.region [
 (oM 3 0),
 (oC 4 3),
 (oL 5 4),
 (oM 6 0),
 (oC 7 6),
 (oL 8 7),
 (oN (.bin 9 .shl (.t 8) (.c (.int .u64 13)))),
 (oN (.bin 10 .xor (.t 5) (.t 9))),
 (oC 11 3),
 (oN (.store false 1 (.t 11) (.t 10)))] true) [0] 0)
  (.seq (.post (.region [
 (oM 12 0),
 (oC 13 12),
 (oL 14 13),
 (oM 15 0),
 (oC 16 15),
 (oL 17 16),
 (oN (.bin 18 .shr (.t 17) (.c (.int .u64 7)))),
 (oN (.bin 19 .xor (.t 14) (.t 18))),
 (oC 20 12),
 (oN (.store false 1 (.t 20) (.t 19)))] true) [0] 0)
  (.seq (.post (.region [
 (oM 21 0),
 (oC 22 21),
 (oL 23 22),
 (oM 24 0),
 (oC 25 24),
 (oL 26 25),
 (oN (.bin 27 .shl (.t 26) (.c (.int .u64 17)))),
 (oN (.bin 28 .xor (.t 23) (.t 27))),
 (oC 29 21),
 (oN (.store false 1 (.t 29) (.t 28)))] true) [0] 0)
  (.seq (.post (.region [
 (oM 30 0),
 (oC 31 30),
 (oL 32 31),
 (oM 2 32)] false) [2] 0)
  .ret)))))
def f_slices_xorshift_Next : IFunc := { np := 1, res := [.t 2], own := false, trunc := true, body := f_slices_xorshift_Next_0 }
/- 195: slices.insertionSortCmpFunc[int] -/
def f_slices_insertionSortCmpFunc_int_b2 : ICode :=
  (.post (.seq (.seq (.post (.region [
 (oM 18 9),
 (oM 19 1),
 (oN (.bin 20 .gtr (.t 18) (.t 19))),
 (oM 21 20),
    ⟨.mv 22 (.t 3), some (21, true)⟩,
    ⟨.mv 23 (.t 0), some (21, true)⟩,
    ⟨.mv 24 (.t 9), some (21, true)⟩,
    ⟨.iaddr 25 1 none (.t 23) (.t 24), some (21, true)⟩,
    ⟨.load 26 false 1 (.t 25), some (21, true)⟩,
    ⟨.mv 27 (.t 0), some (21, true)⟩,
    ⟨.mv 28 (.t 9), some (21, true)⟩,
    ⟨.bin 29 .sub (.t 28) (.c (I 1)), some (21, true)⟩,
    ⟨.iaddr 30 1 none (.t 27) (.t 29), some (21, true)⟩,
    ⟨.load 31 false 1 (.t 30), some (21, true)⟩,
    ⟨.callv (some 32) true (.t 22) [(.t 26), (.t 31)], some (21, true)⟩,
    ⟨.bin 33 .lss (.t 32) (.c (I 0)), some (21, true)⟩,
 (oN (.pick 34 (.t 21) (.t 33) (.c (.bool false))))] true) [0, 1, 2, 3, 8, 9, 34] 0)
  (.cond (.t 34) .skip
  (.exit 2)))
  (.seq (.block 3 (.post (.region [
 (oM 37 0),
 (oM 38 9),
 (oM 39 0),
 (oM 40 9),
 (oN (.bin 41 .sub (.t 40) (.c (I 1)))),
 (oM 42 0),
 (oM 43 9),
 (oN (.bin 44 .sub (.t 43) (.c (I 1)))),
 (oA 45 42 44),
 (oL 46 45),
 (oM 47 0),
 (oM 48 9),
 (oA 49 47 48),
 (oL 50 49),
 (oA 51 37 38),
 (oN (.store false 1 (.t 51) (.t 46))),
 (oA 52 39 41),
 (oN (.store false 1 (.t 52) (.t 50)))] true) [0, 1, 2, 3, 8, 9] 0))
  (.post (.region [
 (oM 35 9),
 (oN (.bin 36 .sub (.t 35) (.c (I 1)))),
 (oM 9 36)] false) [0, 1, 2, 3, 8, 9] 0))) [0, 1, 2, 3, 8, 9] 0)
def f_slices_insertionSortCmpFunc_int_l2 : ICode :=
  (.post (.block 2 (.loop f_slices_insertionSortCmpFunc_int_b2)) [0, 1, 2, 3, 8] 0)
def f_slices_insertionSortCmpFunc_int_k1 : ICode :=
  (.post (.region [
 (oM 15 8),
 (oN (.bin 16 .add (.t 15) (.c (I 1)))),
 (oM 8 16)] false) [0, 1, 2, 3, 8] 0)
def f_slices_insertionSortCmpFunc_int_b1 : ICode :=
  (.post (.seq (.seq (.post (.region [
 (oM 12 8),
 (oM 13 2),
 (oN (.bin 14 .lss (.t 12) (.t 13)))] false) [0, 1, 2, 3, 8, 14] 0)
  (.cond (.t 14) .skip
  (.exit 0)))
  (.seq (.block 1 (.seq (.post (.region [
 (oM 17 8),
 (oM 9 17)] false) [0, 1, 2, 3, 8, 9] 0)
  (.cut f_slices_insertionSortCmpFunc_int_l2)))
  (.cut f_slices_insertionSortCmpFunc_int_k1))) [0, 1, 2, 3, 8] 0)
def f_slices_insertionSortCmpFunc_int_l1 : ICode :=
  (.post (.block 0 (.loop f_slices_insertionSortCmpFunc_int_b1)) [] 0)
def f_slices_insertionSortCmpFunc_int_0 : ICode :=
  (.seq (.post (.region [
 (oM 10 1),
 (oN (.bin 11 .add (.t 10) (.c (I 1)))),
 (oM 8 11)] false) [0, 1, 2, 3, 8] 0)
  (.cut f_slices_insertionSortCmpFunc_int_l1))
def f_slices_insertionSortCmpFunc_int : IFunc := { np := 4, res := [], own := false, trunc := true, body := f_slices_insertionSortCmpFunc_int_0 }
/- 196: slices.heapSortCmpFunc[int] -/
def f_slices_heapSortCmpFunc_int_b1 : ICode :=
  (.post (.seq (.seq (.post (.region [
 (oM 20 11),
 (oN (.bin 21 .geq (.t 20) (.c (I 0))))] false) [0, 3, 8, 9, 10, 11, 21] 0)
  (.cond (.t 21) .skip
  (.exit 0)))
  (.seq (.block 1 (.post (.region [
 (oM 24 0),
 (oM 25 11),
 (oM 26 10),
 (oM 27 8),
 (oM 28 3),
 (oN (.call (some 29) true 203 [(.t 24), (.t 25), (.t 26), (.t 27), (.t 28)]))] false) [0, 3, 8, 9, 10, 11] 0))
  (.post (.region [
 (oM 22 11),
 (oN (.bin 23 .sub (.t 22) (.c (I 1)))),
 (oM 11 23)] false) [0, 3, 8, 9, 10, 11] 0))) [0, 3, 8, 9, 10, 11] 0)
def f_slices_heapSortCmpFunc_int_l1 : ICode :=
  (.post (.block 0 (.loop f_slices_heapSortCmpFunc_int_b1)) [0, 3, 8, 9, 10] 0)
def f_slices_heapSortCmpFunc_int_b2 : ICode :=
  (.post (.seq (.seq (.post (.region [
 (oM 32 12),
 (oN (.bin 33 .geq (.t 32) (.c (I 0))))] false) [0, 3, 8, 9, 12, 33] 0)
  (.cond (.t 33) .skip
  (.exit 2)))
  (.seq (.block 3 (.seq (.post (.region [
 (oM 36 0),
 (oM 37 8),
 (oM 38 0),
 (oM 39 8),
 (oM 40 12),
 (oN (.bin 41 .add (.t 39) (.t 40))),
 (oM 42 0),
 (oM 43 8),
 (oM 44 12),
 (oN (.bin 45 .add (.t 43) (.t 44))),
 (oA 46 42 45),
 (oL 47 46),
 (oM 48 0),
 (oM 49 8),
 (oA 50 48 49),
 (oL 51 50),
 (oA 52 36 37),
 (oN (.store false 1 (.t 52) (.t 47))),
 (oA 53 38 41),
 (oN (.store false 1 (.t 53) (.t 51)))] true) [0, 3, 8, 9, 12] 0)
  (.post (.region [
 (oM 54 0),
 (oM 55 9),
 (oM 56 12),
 (oM 57 8),
 (oM 58 3),
 (oN (.call (some 59) true 203 [(.t 54), (.t 55), (.t 56), (.t 57), (.t 58)]))] false) [0, 3, 8, 9, 12] 0)))
  (.post (.region [
 (oM 34 12),
 (oN (.bin 35 .sub (.t 34) (.c (I 1)))),
 (oM 12 35)] false) [0, 3, 8, 9, 12] 0))) [0, 3, 8, 9, 12] 0)
def f_slices_heapSortCmpFunc_int_l2 : ICode :=
  (.post (.block 2 (.loop f_slices_heapSortCmpFunc_int_b2)) [] 0)
def f_slices_heapSortCmpFunc_int_k1 : ICode :=
  (.seq (.post (.region [
 (oM 30 10),
 (oN (.bin 31 .sub (.t 30) (.c (I 1)))),
 (oM 12 31)] false) [0, 3, 8, 9, 12] 0)
  (.cut f_slices_heapSortCmpFunc_int_l2))
def f_slices_heapSortCmpFunc_int_0 : ICode :=
  (.seq (.post (.region [
 (oM 13 1),
 (oM 8 13)] false) [0, 1, 2, 3, 8] 0)
  (.seq (.region [
 (oN (.mv 9 (.c (I 0))))] false)
  (.seq (.post (.region [
 (oM 14 2),
 (oM 15 1),
 (oN (.bin 16 .sub (.t 14) (.t 15))),
 (oM 10 16)] false) [0, 3, 8, 9, 10] 0)
  (.seq (.seq (.post (.region [
 (oM 17 10),
 (oN (.bin 18 .sub (.t 17) (.c (I 1)))),
 (oN (.bin 19 .quo (.t 18) (.c (I 2)))),
 (oM 11 19)] false) [0, 3, 8, 9, 10, 11] 0)
  (.cut f_slices_heapSortCmpFunc_int_l1))
  (.cut f_slices_heapSortCmpFunc_int_k1)))))
def f_slices_heapSortCmpFunc_int : IFunc := { np := 4, res := [], own := false, trunc := true, body := f_slices_heapSortCmpFunc_int_0 }
/- 197: slices.breakPatternsCmpFunc[int] -/
def f_slices_breakPatternsCmpFunc_int_k1 : ICode :=
  (.post (.region [
 (oM 49 0),
 (oM 50 11),
 (oM 51 0),
 (oM 52 1),
 (oM 53 12),
 (oN (.bin 54 .add (.t 52) (.t 53))),
 (oM 55 0),
 (oM 56 1),
 (oM 57 12),
 (oN (.bin 58 .add (.t 56) (.t 57))),
 (oA 59 55 58),
 (oL 60 59),
 (oM 61 0),
 (oM 62 11),
 (oA 63 61 62),
 (oL 64 63),
 (oA 65 49 50),
 (oN (.store false 1 (.t 65) (.t 60))),
 (oA 66 51 54),
 (oN (.store false 1 (.t 66) (.t 64)))] true) [0, 1, 8, 9, 10, 11] 0)
def f_slices_breakPatternsCmpFunc_int_k2 : ICode :=
  (.post (.region [
 (oM 36 11),
 (oN (.bin 37 .add (.t 36) (.c (I 1)))),
 (oM 11 37)] false) [0, 1, 8, 9, 10, 11] 0)
def f_slices_breakPatternsCmpFunc_int_b1 : ICode :=
  (.post (.seq (.seq (.post (.region [
 (oM 28 11),
 (oM 29 1),
 (oM 30 8),
 (oN (.bin 31 .quo (.t 30) (.c (I 4)))),
 (oN (.bin 32 .mul (.t 31) (.c (I 2)))),
 (oN (.bin 33 .add (.t 29) (.t 32))),
 (oN (.bin 34 .add (.t 33) (.c (I 1)))),
 (oN (.bin 35 .leq (.t 28) (.t 34)))] false) [0, 1, 8, 9, 10, 11, 35] 0)
  (.cond (.t 35) .skip
  (.exit 0)))
  (.seq (.block 1 (.seq (.post (.region [
 (oN (.call (some 38) true 194 [(.t 9)])),
 (oM 39 10),
 (oN (.bin 40 .sub (.t 39) (.c (.int .u64 1)))),
 (oN (.bin 41 .and (.t 38) (.t 40))),
 (oN (.conv 42 .i64 (.t 41))),
 (oM 12 42)] false) [0, 1, 8, 9, 10, 11, 12] 0)
  (.seq (.seq (.post (.region [
 (oM 43 12),
 (oM 44 8),
 (oN (.bin 45 .geq (.t 43) (.t 44)))] false) [0, 1, 8, 9, 10, 11, 12, 45] 0)
  (.cond (.t 45) (.post (.post (.region [
 (oM 46 12),
 (oM 47 8),
 (oN (.bin 48 .sub (.t 46) (.t 47))),
 (oM 12 48)] false) [0, 1, 8, 9, 10, 11, 12] 0) [0, 1, 8, 9, 10, 11, 12] 0)
  (.post .skip [0, 1, 8, 9, 10, 11, 12] 0)))
  (.cut f_slices_breakPatternsCmpFunc_int_k1))))
  (.cut f_slices_breakPatternsCmpFunc_int_k2))) [0, 1, 8, 9, 10, 11] 0)
def f_slices_breakPatternsCmpFunc_int_l1 : ICode :=
  (.post (.block 0 (.loop f_slices_breakPatternsCmpFunc_int_b1)) [] 0)
def f_slices_breakPatternsCmpFunc_int_0 : ICode :=
  (.seq (.post (.region [
 (oM 13 2),
 (oM 14 1),
 (oN (.bin 15 .sub (.t 13) (.t 14))),
 (oM 8 15)] false) [0, 1, 8] 0)
  (.seq (.post (.region [
 (oM 16 8),
 (oN (.bin 17 .geq (.t 16) (.c (I 8))))] false) [0, 1, 8, 17] 0)
  (.cond (.t 17) (.post (.seq (.post (.region [
 (oM 18 8),
 (oN (.conv 19 .u64 (.t 18))),
 (oN (.alloc 9 true (.int .u64 0))),
 (oN (.store false 1 (.t 9) (.t 19)))] false) [0, 1, 8, 9] 0)
  (.seq (.post (.region [
 (oM 20 8),
 (oN (.call (some 21) true 193 [(.t 20)])),
 (oM 10 21)] false) [0, 1, 8, 9, 10] 0)
  (.seq (.post (.region [
 (oM 22 1),
 (oM 23 8),
 (oN (.bin 24 .quo (.t 23) (.c (I 4)))),
 (oN (.bin 25 .mul (.t 24) (.c (I 2)))),
 (oN (.bin 26 .add (.t 22) (.t 25))),
 (oN (.bin 27 .sub (.t 26) (.c (I 1)))),
 (oM 11 27)] false) [0, 1, 8, 9, 10, 11] 0)
  (.cut f_slices_breakPatternsCmpFunc_int_l1)))) [] 0)
  (.post .skip [] 0))))
def f_slices_breakPatternsCmpFunc_int : IFunc := { np := 4, res := [], own := false, trunc := true, body := f_slices_breakPatternsCmpFunc_int_0 }
/- 198: slices.choosePivotCmpFunc[int] -/
def f_slices_choosePivotCmpFunc_int_k1 : ICode :=
  (.post (.region [
 (oM 49 0),
 (oM 50 12),
 (oM 51 13),
 (oM 52 14),
 (oM 53 3),
 (oN (.call (some 54) true 205 [(.t 49), (.t 50), (.t 51), (.t 52), (.t 11), (.t 53)])),
 (oM 13 54)] false) [11, 13] 0)
def f_slices_choosePivotCmpFunc_int_k2 : ICode :=
  (.seq (.post (.region [
 (oL 55 11)] false) [13, 55] 0)
  (.block 0 (.seq (.post (.region [
 (oN (.bin 58 .eql (.t 55) (.c (I 0)))),
 (oM 57 58)] false) [13, 55, 57] 0)
  (.cond (.t 57) (.seq (.post (.region [
 (oM 59 13),
 (oM 8 59),
 (oN (.mv 9 (.c (I 1))))] false) [8, 9] 0)
  .ret)
  (.seq (.post (.region [
 (oN (.bin 61 .eql (.t 55) (.c (I 12)))),
 (oM 60 61)] false) [13, 60] 0)
  (.cond (.t 60) (.seq (.post (.region [
 (oM 62 13),
 (oM 8 62),
 (oN (.mv 9 (.c (I 2))))] false) [8, 9] 0)
  .ret)
  (.seq (.post (.region [
 (oM 56 13),
 (oM 8 56),
 (oN (.mv 9 (.c (I 0))))] false) [8, 9] 0)
  .ret)))))))
def f_slices_choosePivotCmpFunc_int_0 : ICode :=
  (.seq (.post (.region [
 (oN (.mv 8 (.c (I 0)))),
 (oN (.mv 9 (.c (I 0))))] false) [0, 1, 2, 3] 0)
  (.seq (.post (.region [
 (oM 15 2),
 (oM 16 1),
 (oN (.bin 17 .sub (.t 15) (.t 16))),
 (oM 10 17)] false) [0, 1, 3, 10] 0)
  (.seq (.region [
 (oN (.alloc 11 true (I 0)))] false)
  (.seq (.post (.region [
 (oM 18 1),
 (oM 19 10),
 (oN (.bin 20 .quo (.t 19) (.c (I 4)))),
 (oN (.bin 21 .mul (.t 20) (.c (I 1)))),
 (oN (.bin 22 .add (.t 18) (.t 21))),
 (oM 12 22)] false) [0, 1, 3, 10, 11, 12] 0)
  (.seq (.post (.region [
 (oM 23 1),
 (oM 24 10),
 (oN (.bin 25 .quo (.t 24) (.c (I 4)))),
 (oN (.bin 26 .mul (.t 25) (.c (I 2)))),
 (oN (.bin 27 .add (.t 23) (.t 26))),
 (oM 13 27)] false) [0, 1, 3, 10, 11, 12, 13] 0)
  (.seq (.post (.region [
 (oM 28 1),
 (oM 29 10),
 (oN (.bin 30 .quo (.t 29) (.c (I 4)))),
 (oN (.bin 31 .mul (.t 30) (.c (I 3)))),
 (oN (.bin 32 .add (.t 28) (.t 31))),
 (oM 14 32)] false) [0, 3, 10, 11, 12, 13, 14] 0)
  (.seq (.seq (.post (.region [
 (oM 33 10),
 (oN (.bin 34 .geq (.t 33) (.c (I 8))))] false) [0, 3, 10, 11, 12, 13, 14, 34] 0)
  (.cond (.t 34) (.post (.seq (.seq (.post (.region [
 (oM 35 10),
 (oN (.bin 36 .geq (.t 35) (.c (I 50))))] false) [0, 3, 11, 12, 13, 14, 36] 0)
  (.cond (.t 36) (.post (.seq (.post (.region [
 (oM 37 0),
 (oM 38 12),
 (oM 39 3),
 (oN (.call (some 40) true 204 [(.t 37), (.t 38), (.t 11), (.t 39)])),
 (oM 12 40)] false) [0, 3, 11, 12, 13, 14] 0)
  (.seq (.post (.region [
 (oM 41 0),
 (oM 42 13),
 (oM 43 3),
 (oN (.call (some 44) true 204 [(.t 41), (.t 42), (.t 11), (.t 43)])),
 (oM 13 44)] false) [0, 3, 11, 12, 13, 14] 0)
  (.post (.region [
 (oM 45 0),
 (oM 46 14),
 (oM 47 3),
 (oN (.call (some 48) true 204 [(.t 45), (.t 46), (.t 11), (.t 47)])),
 (oM 14 48)] false) [0, 3, 11, 12, 13, 14] 0))) [0, 3, 11, 12, 13, 14] 0)
  (.post .skip [0, 3, 11, 12, 13, 14] 0)))
  (.cut f_slices_choosePivotCmpFunc_int_k1)) [11, 13] 0)
  (.post .skip [11, 13] 0)))
  (.cut f_slices_choosePivotCmpFunc_int_k2))))))))
def f_slices_choosePivotCmpFunc_int : IFunc := { np := 4, res := [.t 8, .t 9], own := false, trunc := true, body := f_slices_choosePivotCmpFunc_int_0 }
/- 199: slices.reverseRangeCmpFunc[int] -/
def f_slices_reverseRangeCmpFunc_int_b1 : ICode :=
  (.post (.seq (.seq (.post (.region [
 (oM 13 8),
 (oM 14 9),
 (oN (.bin 15 .lss (.t 13) (.t 14)))] false) [0, 8, 9, 15] 0)
  (.cond (.t 15) .skip
  (.exit 0)))
  (.block 1 (.seq (.post (.region [
 (oM 16 0),
 (oM 17 8),
 (oM 18 0),
 (oM 19 9),
 (oM 20 0),
 (oM 21 9),
 (oA 22 20 21),
 (oL 23 22),
 (oM 24 0),
 (oM 25 8),
 (oA 26 24 25),
 (oL 27 26),
 (oA 28 16 17),
 (oN (.store false 1 (.t 28) (.t 23))),
 (oA 29 18 19),
 (oN (.store false 1 (.t 29) (.t 27)))] true) [0, 8, 9] 0)
  (.seq (.post (.region [
 (oM 30 8),
 (oN (.bin 31 .add (.t 30) (.c (I 1)))),
 (oM 8 31)] false) [0, 8, 9] 0)
  (.post (.region [
 (oM 32 9),
 (oN (.bin 33 .sub (.t 32) (.c (I 1)))),
 (oM 9 33)] false) [0, 8, 9] 0))))) [0, 8, 9] 0)
def f_slices_reverseRangeCmpFunc_int_l1 : ICode :=
  (.post (.block 0 (.loop f_slices_reverseRangeCmpFunc_int_b1)) [] 0)
def f_slices_reverseRangeCmpFunc_int_0 : ICode :=
  (.seq (.post (.region [
 (oM 10 1),
 (oM 8 10)] false) [0, 2, 8] 0)
  (.seq (.post (.region [
 (oM 11 2),
 (oN (.bin 12 .sub (.t 11) (.c (I 1)))),
 (oM 9 12)] false) [0, 8, 9] 0)
  (.cut f_slices_reverseRangeCmpFunc_int_l1)))
def f_slices_reverseRangeCmpFunc_int : IFunc := { np := 4, res := [], own := false, trunc := true, body := f_slices_reverseRangeCmpFunc_int_0 }
/- 200: slices.partialInsertionSortCmpFunc[int] -/
def f_slices_partialInsertionSortCmpFunc_int_b2 : ICode :=
  (.post (.seq (.seq (.post (.region [
 (oM 19 9),
 (oM 20 2),
 (oN (.bin 21 .lss (.t 19) (.t 20))),
 (oM 22 21),
    ⟨.mv 23 (.t 3), some (22, true)⟩,
    ⟨.mv 24 (.t 0), some (22, true)⟩,
    ⟨.mv 25 (.t 9), some (22, true)⟩,
    ⟨.iaddr 26 1 none (.t 24) (.t 25), some (22, true)⟩,
    ⟨.load 27 false 1 (.t 26), some (22, true)⟩,
    ⟨.mv 28 (.t 0), some (22, true)⟩,
    ⟨.mv 29 (.t 9), some (22, true)⟩,
    ⟨.bin 30 .sub (.t 29) (.c (I 1)), some (22, true)⟩,
    ⟨.iaddr 31 1 none (.t 28) (.t 30), some (22, true)⟩,
    ⟨.load 32 false 1 (.t 31), some (22, true)⟩,
    ⟨.callv (some 33) true (.t 23) [(.t 27), (.t 32)], some (22, true)⟩,
    ⟨.bin 34 .lss (.t 33) (.c (I 0)), some (22, true)⟩,
    ⟨.un 35 .not (.t 34), some (22, true)⟩,
 (oN (.pick 36 (.t 22) (.t 35) (.c (.bool false))))] true) [0, 1, 2, 3, 9, 10, 36] 0)
  (.cond (.t 36) .skip
  (.exit 2)))
  (.block 3 (.post (.region [
 (oM 37 9),
 (oN (.bin 38 .add (.t 37) (.c (I 1)))),
 (oM 9 38)] false) [0, 1, 2, 3, 9, 10] 0))) [0, 1, 2, 3, 9, 10, 16] 0)
def f_slices_partialInsertionSortCmpFunc_int_l2 : ICode :=
  (.post (.block 2 (.loop f_slices_partialInsertionSortCmpFunc_int_b2)) [0, 1, 2, 3, 9, 10] 0)
def f_slices_partialInsertionSortCmpFunc_int_b3 : ICode :=
  (.post (.seq (.seq (.post (.region [
 (oM 68 11),
 (oN (.bin 69 .geq (.t 68) (.c (I 1))))] false) [0, 1, 2, 3, 9, 10, 11, 69] 0)
  (.cond (.t 69) .skip
  (.exit 4)))
  (.seq (.block 5 (.seq (.seq (.post (.region [
 (oM 72 3),
 (oM 73 0),
 (oM 74 11),
 (oA 75 73 74),
 (oL 76 75),
 (oM 77 0),
 (oM 78 11),
 (oN (.bin 79 .sub (.t 78) (.c (I 1)))),
 (oA 80 77 79),
 (oL 81 80),
 (oN (.callv (some 82) true (.t 72) [(.t 76), (.t 81)])),
 (oN (.bin 83 .lss (.t 82) (.c (I 0)))),
 (oN (.un 84 .not (.t 83)))] true) [0, 1, 2, 3, 9, 10, 11, 84] 0)
  (.cond (.t 84) (.exit 4)
  .skip))
  (.post (.region [
 (oM 85 0),
 (oM 86 11),
 (oM 87 0),
 (oM 88 11),
 (oN (.bin 89 .sub (.t 88) (.c (I 1)))),
 (oM 90 0),
 (oM 91 11),
 (oN (.bin 92 .sub (.t 91) (.c (I 1)))),
 (oA 93 90 92),
 (oL 94 93),
 (oM 95 0),
 (oM 96 11),
 (oA 97 95 96),
 (oL 98 97),
 (oA 99 85 86),
 (oN (.store false 1 (.t 99) (.t 94))),
 (oA 100 87 89),
 (oN (.store false 1 (.t 100) (.t 98)))] true) [0, 1, 2, 3, 9, 10, 11] 0)))
  (.post (.region [
 (oM 70 11),
 (oN (.bin 71 .sub (.t 70) (.c (I 1)))),
 (oM 11 71)] false) [0, 1, 2, 3, 9, 10, 11] 0))) [0, 1, 2, 3, 9, 10, 11] 0)
def f_slices_partialInsertionSortCmpFunc_int_l3 : ICode :=
  (.post (.block 4 (.loop f_slices_partialInsertionSortCmpFunc_int_b3)) [0, 1, 2, 3, 9, 10] 0)
def f_slices_partialInsertionSortCmpFunc_int_b4 : ICode :=
  (.post (.seq (.seq (.post (.region [
 (oM 107 12),
 (oM 108 2),
 (oN (.bin 109 .lss (.t 107) (.t 108)))] false) [0, 1, 2, 3, 9, 10, 12, 109] 0)
  (.cond (.t 109) .skip
  (.exit 6)))
  (.seq (.block 7 (.seq (.seq (.post (.region [
 (oM 112 3),
 (oM 113 0),
 (oM 114 12),
 (oA 115 113 114),
 (oL 116 115),
 (oM 117 0),
 (oM 118 12),
 (oN (.bin 119 .sub (.t 118) (.c (I 1)))),
 (oA 120 117 119),
 (oL 121 120),
 (oN (.callv (some 122) true (.t 112) [(.t 116), (.t 121)])),
 (oN (.bin 123 .lss (.t 122) (.c (I 0)))),
 (oN (.un 124 .not (.t 123)))] true) [0, 1, 2, 3, 9, 10, 12, 124] 0)
  (.cond (.t 124) (.exit 6)
  .skip))
  (.post (.region [
 (oM 125 0),
 (oM 126 12),
 (oM 127 0),
 (oM 128 12),
 (oN (.bin 129 .sub (.t 128) (.c (I 1)))),
 (oM 130 0),
 (oM 131 12),
 (oN (.bin 132 .sub (.t 131) (.c (I 1)))),
 (oA 133 130 132),
 (oL 134 133),
 (oM 135 0),
 (oM 136 12),
 (oA 137 135 136),
 (oL 138 137),
 (oA 139 125 126),
 (oN (.store false 1 (.t 139) (.t 134))),
 (oA 140 127 129),
 (oN (.store false 1 (.t 140) (.t 138)))] true) [0, 1, 2, 3, 9, 10, 12] 0)))
  (.post (.region [
 (oM 110 12),
 (oN (.bin 111 .add (.t 110) (.c (I 1)))),
 (oM 12 111)] false) [0, 1, 2, 3, 9, 10, 12] 0))) [0, 1, 2, 3, 9, 10, 12] 0)
def f_slices_partialInsertionSortCmpFunc_int_l4 : ICode :=
  (.post (.block 6 (.loop f_slices_partialInsertionSortCmpFunc_int_b4)) [0, 1, 2, 3, 9, 10] 0)
def f_slices_partialInsertionSortCmpFunc_int_k2 : ICode :=
  (.seq (.post (.region [
 (oM 101 2),
 (oM 102 9),
 (oN (.bin 103 .sub (.t 101) (.t 102))),
 (oN (.bin 104 .geq (.t 103) (.c (I 2))))] false) [0, 1, 2, 3, 9, 10, 104] 0)
  (.cond (.t 104) (.post (.seq (.post (.region [
 (oM 105 9),
 (oN (.bin 106 .add (.t 105) (.c (I 1)))),
 (oM 12 106)] false) [0, 1, 2, 3, 9, 10, 12] 0)
  (.cut f_slices_partialInsertionSortCmpFunc_int_l4)) [0, 1, 2, 3, 9, 10] 0)
  (.post .skip [0, 1, 2, 3, 9, 10] 0)))
def f_slices_partialInsertionSortCmpFunc_int_k1 : ICode :=
  (.seq (.seq (.post (.region [
 (oM 39 9),
 (oM 40 2),
 (oN (.bin 41 .eql (.t 39) (.t 40)))] false) [0, 1, 2, 3, 9, 10, 41] 0)
  (.cond (.t 41) (.seq (.post (.region [
 (oN (.mv 8 (.c (.bool true))))] false) [8] 0)
  .ret)
  .skip))
  (.seq (.seq (.post (.region [
 (oM 42 2),
 (oM 43 1),
 (oN (.bin 44 .sub (.t 42) (.t 43))),
 (oN (.bin 45 .lss (.t 44) (.c (I 50))))] false) [0, 1, 2, 3, 9, 10, 45] 0)
  (.cond (.t 45) (.seq (.post (.region [
 (oN (.mv 8 (.c (.bool false))))] false) [8] 0)
  .ret)
  .skip))
  (.seq (.post (.region [
 (oM 46 0),
 (oM 47 9),
 (oM 48 0),
 (oM 49 9),
 (oN (.bin 50 .sub (.t 49) (.c (I 1)))),
 (oM 51 0),
 (oM 52 9),
 (oN (.bin 53 .sub (.t 52) (.c (I 1)))),
 (oA 54 51 53),
 (oL 55 54),
 (oM 56 0),
 (oM 57 9),
 (oA 58 56 57),
 (oL 59 58),
 (oA 60 46 47),
 (oN (.store false 1 (.t 60) (.t 55))),
 (oA 61 48 50),
 (oN (.store false 1 (.t 61) (.t 59)))] true) [0, 1, 2, 3, 9, 10] 0)
  (.seq (.seq (.post (.region [
 (oM 62 9),
 (oM 63 1),
 (oN (.bin 64 .sub (.t 62) (.t 63))),
 (oN (.bin 65 .geq (.t 64) (.c (I 2))))] false) [0, 1, 2, 3, 9, 10, 65] 0)
  (.cond (.t 65) (.post (.seq (.post (.region [
 (oM 66 9),
 (oN (.bin 67 .sub (.t 66) (.c (I 1)))),
 (oM 11 67)] false) [0, 1, 2, 3, 9, 10, 11] 0)
  (.cut f_slices_partialInsertionSortCmpFunc_int_l3)) [0, 1, 2, 3, 9, 10] 0)
  (.post .skip [0, 1, 2, 3, 9, 10] 0)))
  (.cut f_slices_partialInsertionSortCmpFunc_int_k2)))))
def f_slices_partialInsertionSortCmpFunc_int_k3 : ICode :=
  (.post (.region [
 (oM 17 10),
 (oN (.bin 18 .add (.t 17) (.c (I 1)))),
 (oM 10 18)] false) [0, 1, 2, 3, 9, 10] 0)
def f_slices_partialInsertionSortCmpFunc_int_b1 : ICode :=
  (.post (.seq (.seq (.post (.region [
 (oM 15 10),
 (oN (.bin 16 .lss (.t 15) (.c (I 5))))] false) [0, 1, 2, 3, 9, 10, 16] 0)
  (.cond (.t 16) .skip
  (.exit 0)))
  (.seq (.block 1 (.seq (.cut f_slices_partialInsertionSortCmpFunc_int_l2)
  (.cut f_slices_partialInsertionSortCmpFunc_int_k1)))
  (.cut f_slices_partialInsertionSortCmpFunc_int_k3))) [0, 1, 2, 3, 9, 10] 0)
def f_slices_partialInsertionSortCmpFunc_int_l1 : ICode :=
  (.post (.block 0 (.loop f_slices_partialInsertionSortCmpFunc_int_b1)) [] 0)
def f_slices_partialInsertionSortCmpFunc_int_k4 : ICode :=
  (.seq (.region [
 (oN (.mv 8 (.c (.bool false))))] false)
  .ret)
def f_slices_partialInsertionSortCmpFunc_int_0 : ICode :=
  (.seq (.post (.region [
 (oN (.mv 8 (.c (.bool false))))] false) [0, 1, 2, 3] 0)
  (.seq (.post (.region [
 (oM 13 1),
 (oN (.bin 14 .add (.t 13) (.c (I 1)))),
 (oM 9 14)] false) [0, 1, 2, 3, 9] 0)
  (.seq (.seq (.post (.region [
 (oN (.mv 10 (.c (I 0))))] false) [0, 1, 2, 3, 9, 10] 0)
  (.cut f_slices_partialInsertionSortCmpFunc_int_l1))
  (.cut f_slices_partialInsertionSortCmpFunc_int_k4))))
def f_slices_partialInsertionSortCmpFunc_int : IFunc := { np := 4, res := [.t 8], own := false, trunc := true, body := f_slices_partialInsertionSortCmpFunc_int_0 }
/- 201: slices.partitionEqualCmpFunc[int] -/
def f_slices_partitionEqualCmpFunc_int_b2 : ICode :=
  (.post (.seq (.seq (.post (.region [
 (oM 31 11),
 (oM 32 12),
 (oN (.bin 33 .leq (.t 31) (.t 32))),
 (oM 34 33),
    ⟨.mv 35 (.t 4), some (34, true)⟩,
    ⟨.mv 36 (.t 0), some (34, true)⟩,
    ⟨.mv 37 (.t 1), some (34, true)⟩,
    ⟨.iaddr 38 1 none (.t 36) (.t 37), some (34, true)⟩,
    ⟨.load 39 false 1 (.t 38), some (34, true)⟩,
    ⟨.mv 40 (.t 0), some (34, true)⟩,
    ⟨.mv 41 (.t 11), some (34, true)⟩,
    ⟨.iaddr 42 1 none (.t 40) (.t 41), some (34, true)⟩,
    ⟨.load 43 false 1 (.t 42), some (34, true)⟩,
    ⟨.callv (some 44) true (.t 35) [(.t 39), (.t 43)], some (34, true)⟩,
    ⟨.bin 45 .lss (.t 44) (.c (I 0)), some (34, true)⟩,
    ⟨.un 46 .not (.t 45), some (34, true)⟩,
 (oN (.pick 47 (.t 34) (.t 46) (.c (.bool false))))] true) [0, 1, 4, 11, 12, 47] 0)
  (.cond (.t 47) .skip
  (.exit 2)))
  (.block 3 (.post (.region [
 (oM 48 11),
 (oN (.bin 49 .add (.t 48) (.c (I 1)))),
 (oM 11 49)] false) [0, 1, 4, 11, 12] 0))) [0, 1, 4, 11, 12] 0)
def f_slices_partitionEqualCmpFunc_int_l2 : ICode :=
  (.post (.block 2 (.loop f_slices_partitionEqualCmpFunc_int_b2)) [0, 1, 4, 11, 12] 0)
def f_slices_partitionEqualCmpFunc_int_b3 : ICode :=
  (.post (.seq (.seq (.post (.region [
 (oM 50 11),
 (oM 51 12),
 (oN (.bin 52 .leq (.t 50) (.t 51))),
 (oM 53 52),
    ⟨.mv 54 (.t 4), some (53, true)⟩,
    ⟨.mv 55 (.t 0), some (53, true)⟩,
    ⟨.mv 56 (.t 1), some (53, true)⟩,
    ⟨.iaddr 57 1 none (.t 55) (.t 56), some (53, true)⟩,
    ⟨.load 58 false 1 (.t 57), some (53, true)⟩,
    ⟨.mv 59 (.t 0), some (53, true)⟩,
    ⟨.mv 60 (.t 12), some (53, true)⟩,
    ⟨.iaddr 61 1 none (.t 59) (.t 60), some (53, true)⟩,
    ⟨.load 62 false 1 (.t 61), some (53, true)⟩,
    ⟨.callv (some 63) true (.t 54) [(.t 58), (.t 62)], some (53, true)⟩,
    ⟨.bin 64 .lss (.t 63) (.c (I 0)), some (53, true)⟩,
 (oN (.pick 65 (.t 53) (.t 64) (.c (.bool false))))] true) [0, 1, 4, 11, 12, 65] 0)
  (.cond (.t 65) .skip
  (.exit 4)))
  (.block 5 (.post (.region [
 (oM 66 12),
 (oN (.bin 67 .sub (.t 66) (.c (I 1)))),
 (oM 12 67)] false) [0, 1, 4, 11, 12] 0))) [0, 1, 4, 11, 12] 0)
def f_slices_partitionEqualCmpFunc_int_l3 : ICode :=
  (.post (.block 4 (.loop f_slices_partitionEqualCmpFunc_int_b3)) [0, 1, 4, 11, 12] 0)
def f_slices_partitionEqualCmpFunc_int_k2 : ICode :=
  (.seq (.seq (.post (.region [
 (oM 68 11),
 (oM 69 12),
 (oN (.bin 70 .gtr (.t 68) (.t 69)))] false) [0, 1, 4, 11, 12, 70] 0)
  (.cond (.t 70) (.exit 0)
  .skip))
  (.seq (.post (.region [
 (oM 71 0),
 (oM 72 11),
 (oM 73 0),
 (oM 74 12),
 (oM 75 0),
 (oM 76 12),
 (oA 77 75 76),
 (oL 78 77),
 (oM 79 0),
 (oM 80 11),
 (oA 81 79 80),
 (oL 82 81),
 (oA 83 71 72),
 (oN (.store false 1 (.t 83) (.t 78))),
 (oA 84 73 74),
 (oN (.store false 1 (.t 84) (.t 82)))] true) [0, 1, 4, 11, 12] 0)
  (.seq (.post (.region [
 (oM 85 11),
 (oN (.bin 86 .add (.t 85) (.c (I 1)))),
 (oM 11 86)] false) [0, 1, 4, 11, 12] 0)
  (.post (.region [
 (oM 87 12),
 (oN (.bin 88 .sub (.t 87) (.c (I 1)))),
 (oM 12 88)] false) [0, 1, 4, 11, 12] 0))))
def f_slices_partitionEqualCmpFunc_int_k1 : ICode :=
  (.seq (.cut f_slices_partitionEqualCmpFunc_int_l3)
  (.cut f_slices_partitionEqualCmpFunc_int_k2))
def f_slices_partitionEqualCmpFunc_int_b1 : ICode :=
  (.post (.block 1 (.seq (.cut f_slices_partitionEqualCmpFunc_int_l2)
  (.cut f_slices_partitionEqualCmpFunc_int_k1))) [0, 1, 4, 11, 12] 0)
def f_slices_partitionEqualCmpFunc_int_l1 : ICode :=
  (.post (.block 0 (.loop f_slices_partitionEqualCmpFunc_int_b1)) [11] 0)
def f_slices_partitionEqualCmpFunc_int_k3 : ICode :=
  (.seq (.post (.region [
 (oM 89 11),
 (oM 10 89)] false) [10] 0)
  .ret)
def f_slices_partitionEqualCmpFunc_int_0 : ICode :=
  (.seq (.post (.region [
 (oN (.mv 10 (.c (I 0))))] false) [0, 1, 2, 3, 4] 0)
  (.seq (.post (.region [
 (oM 13 0),
 (oM 14 1),
 (oM 15 0),
 (oM 16 3),
 (oM 17 0),
 (oM 18 3),
 (oA 19 17 18),
 (oL 20 19),
 (oM 21 0),
 (oM 22 1),
 (oA 23 21 22),
 (oL 24 23),
 (oA 25 13 14),
 (oN (.store false 1 (.t 25) (.t 20))),
 (oA 26 15 16),
 (oN (.store false 1 (.t 26) (.t 24)))] true) [0, 1, 2, 4] 0)
  (.seq (.post (.region [
 (oM 27 1),
 (oN (.bin 28 .add (.t 27) (.c (I 1)))),
 (oM 29 2),
 (oN (.bin 30 .sub (.t 29) (.c (I 1)))),
 (oM 11 28),
 (oM 12 30)] false) [0, 1, 4, 11, 12] 0)
  (.seq (.cut f_slices_partitionEqualCmpFunc_int_l1)
  (.cut f_slices_partitionEqualCmpFunc_int_k3)))))
def f_slices_partitionEqualCmpFunc_int : IFunc := { np := 5, res := [.t 10], own := false, trunc := true, body := f_slices_partitionEqualCmpFunc_int_0 }
/- 202: slices.partitionCmpFunc[int] -/
def f_slices_partitionCmpFunc_int_b1 : ICode :=
  (.post (.seq (.seq (.post (.region [
 (oM 32 12),
 (oM 33 13),
 (oN (.bin 34 .leq (.t 32) (.t 33))),
 (oM 35 34),
    ⟨.mv 36 (.t 4), some (35, true)⟩,
    ⟨.mv 37 (.t 0), some (35, true)⟩,
    ⟨.mv 38 (.t 12), some (35, true)⟩,
    ⟨.iaddr 39 1 none (.t 37) (.t 38), some (35, true)⟩,
    ⟨.load 40 false 1 (.t 39), some (35, true)⟩,
    ⟨.mv 41 (.t 0), some (35, true)⟩,
    ⟨.mv 42 (.t 1), some (35, true)⟩,
    ⟨.iaddr 43 1 none (.t 41) (.t 42), some (35, true)⟩,
    ⟨.load 44 false 1 (.t 43), some (35, true)⟩,
    ⟨.callv (some 45) true (.t 36) [(.t 40), (.t 44)], some (35, true)⟩,
    ⟨.bin 46 .lss (.t 45) (.c (I 0)), some (35, true)⟩,
 (oN (.pick 47 (.t 35) (.t 46) (.c (.bool false))))] true) [0, 1, 4, 12, 13, 47] 0)
  (.cond (.t 47) .skip
  (.exit 0)))
  (.block 1 (.post (.region [
 (oM 48 12),
 (oN (.bin 49 .add (.t 48) (.c (I 1)))),
 (oM 12 49)] false) [0, 1, 4, 12, 13] 0))) [0, 1, 4, 12, 13] 0)
def f_slices_partitionCmpFunc_int_l1 : ICode :=
  (.post (.block 0 (.loop f_slices_partitionCmpFunc_int_b1)) [0, 1, 4, 12, 13] 0)
def f_slices_partitionCmpFunc_int_b2 : ICode :=
  (.post (.seq (.seq (.post (.region [
 (oM 50 12),
 (oM 51 13),
 (oN (.bin 52 .leq (.t 50) (.t 51))),
 (oM 53 52),
    ⟨.mv 54 (.t 4), some (53, true)⟩,
    ⟨.mv 55 (.t 0), some (53, true)⟩,
    ⟨.mv 56 (.t 13), some (53, true)⟩,
    ⟨.iaddr 57 1 none (.t 55) (.t 56), some (53, true)⟩,
    ⟨.load 58 false 1 (.t 57), some (53, true)⟩,
    ⟨.mv 59 (.t 0), some (53, true)⟩,
    ⟨.mv 60 (.t 1), some (53, true)⟩,
    ⟨.iaddr 61 1 none (.t 59) (.t 60), some (53, true)⟩,
    ⟨.load 62 false 1 (.t 61), some (53, true)⟩,
    ⟨.callv (some 63) true (.t 54) [(.t 58), (.t 62)], some (53, true)⟩,
    ⟨.bin 64 .lss (.t 63) (.c (I 0)), some (53, true)⟩,
    ⟨.un 65 .not (.t 64), some (53, true)⟩,
 (oN (.pick 66 (.t 53) (.t 65) (.c (.bool false))))] true) [0, 1, 4, 12, 13, 66] 0)
  (.cond (.t 66) .skip
  (.exit 2)))
  (.block 3 (.post (.region [
 (oM 67 13),
 (oN (.bin 68 .sub (.t 67) (.c (I 1)))),
 (oM 13 68)] false) [0, 1, 4, 12, 13] 0))) [0, 1, 4, 12, 13] 0)
def f_slices_partitionCmpFunc_int_l2 : ICode :=
  (.post (.block 2 (.loop f_slices_partitionCmpFunc_int_b2)) [0, 1, 4, 12, 13] 0)
def f_slices_partitionCmpFunc_int_b4 : ICode :=
  (.post (.seq (.seq (.post (.region [
 (oM 105 12),
 (oM 106 13),
 (oN (.bin 107 .leq (.t 105) (.t 106))),
 (oM 108 107),
    ⟨.mv 109 (.t 4), some (108, true)⟩,
    ⟨.mv 110 (.t 0), some (108, true)⟩,
    ⟨.mv 111 (.t 12), some (108, true)⟩,
    ⟨.iaddr 112 1 none (.t 110) (.t 111), some (108, true)⟩,
    ⟨.load 113 false 1 (.t 112), some (108, true)⟩,
    ⟨.mv 114 (.t 0), some (108, true)⟩,
    ⟨.mv 115 (.t 1), some (108, true)⟩,
    ⟨.iaddr 116 1 none (.t 114) (.t 115), some (108, true)⟩,
    ⟨.load 117 false 1 (.t 116), some (108, true)⟩,
    ⟨.callv (some 118) true (.t 109) [(.t 113), (.t 117)], some (108, true)⟩,
    ⟨.bin 119 .lss (.t 118) (.c (I 0)), some (108, true)⟩,
 (oN (.pick 120 (.t 108) (.t 119) (.c (.bool false))))] true) [0, 1, 4, 12, 13, 120] 0)
  (.cond (.t 120) .skip
  (.exit 6)))
  (.block 7 (.post (.region [
 (oM 121 12),
 (oN (.bin 122 .add (.t 121) (.c (I 1)))),
 (oM 12 122)] false) [0, 1, 4, 12, 13] 0))) [0, 1, 4, 12, 13] 0)
def f_slices_partitionCmpFunc_int_l4 : ICode :=
  (.post (.block 6 (.loop f_slices_partitionCmpFunc_int_b4)) [0, 1, 4, 12, 13] 0)
def f_slices_partitionCmpFunc_int_b5 : ICode :=
  (.post (.seq (.seq (.post (.region [
 (oM 123 12),
 (oM 124 13),
 (oN (.bin 125 .leq (.t 123) (.t 124))),
 (oM 126 125),
    ⟨.mv 127 (.t 4), some (126, true)⟩,
    ⟨.mv 128 (.t 0), some (126, true)⟩,
    ⟨.mv 129 (.t 13), some (126, true)⟩,
    ⟨.iaddr 130 1 none (.t 128) (.t 129), some (126, true)⟩,
    ⟨.load 131 false 1 (.t 130), some (126, true)⟩,
    ⟨.mv 132 (.t 0), some (126, true)⟩,
    ⟨.mv 133 (.t 1), some (126, true)⟩,
    ⟨.iaddr 134 1 none (.t 132) (.t 133), some (126, true)⟩,
    ⟨.load 135 false 1 (.t 134), some (126, true)⟩,
    ⟨.callv (some 136) true (.t 127) [(.t 131), (.t 135)], some (126, true)⟩,
    ⟨.bin 137 .lss (.t 136) (.c (I 0)), some (126, true)⟩,
    ⟨.un 138 .not (.t 137), some (126, true)⟩,
 (oN (.pick 139 (.t 126) (.t 138) (.c (.bool false))))] true) [0, 1, 4, 12, 13, 139] 0)
  (.cond (.t 139) .skip
  (.exit 8)))
  (.block 9 (.post (.region [
 (oM 140 13),
 (oN (.bin 141 .sub (.t 140) (.c (I 1)))),
 (oM 13 141)] false) [0, 1, 4, 12, 13] 0))) [0, 1, 4, 12, 13] 0)
def f_slices_partitionCmpFunc_int_l5 : ICode :=
  (.post (.block 8 (.loop f_slices_partitionCmpFunc_int_b5)) [0, 1, 4, 12, 13] 0)
def f_slices_partitionCmpFunc_int_k4 : ICode :=
  (.seq (.seq (.post (.region [
 (oM 142 12),
 (oM 143 13),
 (oN (.bin 144 .gtr (.t 142) (.t 143)))] false) [0, 1, 4, 12, 13, 144] 0)
  (.cond (.t 144) (.exit 4)
  .skip))
  (.seq (.post (.region [
 (oM 145 0),
 (oM 146 12),
 (oM 147 0),
 (oM 148 13),
 (oM 149 0),
 (oM 150 13),
 (oA 151 149 150),
 (oL 152 151),
 (oM 153 0),
 (oM 154 12),
 (oA 155 153 154),
 (oL 156 155),
 (oA 157 145 146),
 (oN (.store false 1 (.t 157) (.t 152))),
 (oA 158 147 148),
 (oN (.store false 1 (.t 158) (.t 156)))] true) [0, 1, 4, 12, 13] 0)
  (.seq (.post (.region [
 (oM 159 12),
 (oN (.bin 160 .add (.t 159) (.c (I 1)))),
 (oM 12 160)] false) [0, 1, 4, 12, 13] 0)
  (.post (.region [
 (oM 161 13),
 (oN (.bin 162 .sub (.t 161) (.c (I 1)))),
 (oM 13 162)] false) [0, 1, 4, 12, 13] 0))))
def f_slices_partitionCmpFunc_int_k3 : ICode :=
  (.seq (.cut f_slices_partitionCmpFunc_int_l5)
  (.cut f_slices_partitionCmpFunc_int_k4))
def f_slices_partitionCmpFunc_int_b3 : ICode :=
  (.post (.block 5 (.seq (.cut f_slices_partitionCmpFunc_int_l4)
  (.cut f_slices_partitionCmpFunc_int_k3))) [0, 1, 4, 12, 13] 0)
def f_slices_partitionCmpFunc_int_l3 : ICode :=
  (.post (.block 4 (.loop f_slices_partitionCmpFunc_int_b3)) [0, 1, 13] 0)
def f_slices_partitionCmpFunc_int_k5 : ICode :=
  (.seq (.post (.region [
 (oM 163 0),
 (oM 164 13),
 (oM 165 0),
 (oM 166 1),
 (oM 167 0),
 (oM 168 1),
 (oA 169 167 168),
 (oL 170 169),
 (oM 171 0),
 (oM 172 13),
 (oA 173 171 172),
 (oL 174 173),
 (oA 175 163 164),
 (oN (.store false 1 (.t 175) (.t 170))),
 (oA 176 165 166),
 (oN (.store false 1 (.t 176) (.t 174)))] true) [13] 0)
  (.seq (.post (.region [
 (oM 177 13),
 (oM 10 177),
 (oN (.mv 11 (.c (.bool false))))] false) [10, 11] 0)
  .ret))
def f_slices_partitionCmpFunc_int_k2 : ICode :=
  (.seq (.seq (.post (.region [
 (oM 69 12),
 (oM 70 13),
 (oN (.bin 71 .gtr (.t 69) (.t 70)))] false) [0, 1, 4, 12, 13, 71] 0)
  (.cond (.t 71) (.seq (.post (.region [
 (oM 72 0),
 (oM 73 13),
 (oM 74 0),
 (oM 75 1),
 (oM 76 0),
 (oM 77 1),
 (oA 78 76 77),
 (oL 79 78),
 (oM 80 0),
 (oM 81 13),
 (oA 82 80 81),
 (oL 83 82),
 (oA 84 72 73),
 (oN (.store false 1 (.t 84) (.t 79))),
 (oA 85 74 75),
 (oN (.store false 1 (.t 85) (.t 83)))] true) [13] 0)
  (.seq (.post (.region [
 (oM 86 13),
 (oM 10 86),
 (oN (.mv 11 (.c (.bool true))))] false) [10, 11] 0)
  .ret))
  .skip))
  (.seq (.post (.region [
 (oM 87 0),
 (oM 88 12),
 (oM 89 0),
 (oM 90 13),
 (oM 91 0),
 (oM 92 13),
 (oA 93 91 92),
 (oL 94 93),
 (oM 95 0),
 (oM 96 12),
 (oA 97 95 96),
 (oL 98 97),
 (oA 99 87 88),
 (oN (.store false 1 (.t 99) (.t 94))),
 (oA 100 89 90),
 (oN (.store false 1 (.t 100) (.t 98)))] true) [0, 1, 4, 12, 13] 0)
  (.seq (.post (.region [
 (oM 101 12),
 (oN (.bin 102 .add (.t 101) (.c (I 1)))),
 (oM 12 102)] false) [0, 1, 4, 12, 13] 0)
  (.seq (.post (.region [
 (oM 103 13),
 (oN (.bin 104 .sub (.t 103) (.c (I 1)))),
 (oM 13 104)] false) [0, 1, 4, 12, 13] 0)
  (.seq (.cut f_slices_partitionCmpFunc_int_l3)
  (.cut f_slices_partitionCmpFunc_int_k5))))))
def f_slices_partitionCmpFunc_int_k1 : ICode :=
  (.seq (.cut f_slices_partitionCmpFunc_int_l2)
  (.cut f_slices_partitionCmpFunc_int_k2))
def f_slices_partitionCmpFunc_int_0 : ICode :=
  (.seq (.post (.region [
 (oN (.mv 10 (.c (I 0)))),
 (oN (.mv 11 (.c (.bool false))))] false) [0, 1, 2, 3, 4] 0)
  (.seq (.post (.region [
 (oM 14 0),
 (oM 15 1),
 (oM 16 0),
 (oM 17 3),
 (oM 18 0),
 (oM 19 3),
 (oA 20 18 19),
 (oL 21 20),
 (oM 22 0),
 (oM 23 1),
 (oA 24 22 23),
 (oL 25 24),
 (oA 26 14 15),
 (oN (.store false 1 (.t 26) (.t 21))),
 (oA 27 16 17),
 (oN (.store false 1 (.t 27) (.t 25)))] true) [0, 1, 2, 4] 0)
  (.seq (.post (.region [
 (oM 28 1),
 (oN (.bin 29 .add (.t 28) (.c (I 1)))),
 (oM 30 2),
 (oN (.bin 31 .sub (.t 30) (.c (I 1)))),
 (oM 12 29),
 (oM 13 31)] false) [0, 1, 4, 12, 13] 0)
  (.seq (.cut f_slices_partitionCmpFunc_int_l1)
  (.cut f_slices_partitionCmpFunc_int_k1)))))
def f_slices_partitionCmpFunc_int : IFunc := { np := 5, res := [.t 10, .t 11], own := false, trunc := true, body := f_slices_partitionCmpFunc_int_0 }
/- 203: slices.siftDownCmpFunc[int] -/
def f_slices_siftDownCmpFunc_int_k1 : ICode :=
  (.seq (.seq (.post (.region [
 (oM 43 4),
 (oM 44 0),
 (oM 45 3),
 (oM 46 10),
 (oN (.bin 47 .add (.t 45) (.t 46))),
 (oA 48 44 47),
 (oL 49 48),
 (oM 50 0),
 (oM 51 3),
 (oM 52 11),
 (oN (.bin 53 .add (.t 51) (.t 52))),
 (oA 54 50 53),
 (oL 55 54),
 (oN (.callv (some 56) true (.t 43) [(.t 49), (.t 55)])),
 (oN (.bin 57 .lss (.t 56) (.c (I 0)))),
 (oN (.un 58 .not (.t 57)))] true) [0, 2, 3, 4, 10, 11, 58] 0)
  (.cond (.t 58) .ret
  .skip))
  (.seq (.post (.region [
 (oM 59 0),
 (oM 60 3),
 (oM 61 10),
 (oN (.bin 62 .add (.t 60) (.t 61))),
 (oM 63 0),
 (oM 64 3),
 (oM 65 11),
 (oN (.bin 66 .add (.t 64) (.t 65))),
 (oM 67 0),
 (oM 68 3),
 (oM 69 11),
 (oN (.bin 70 .add (.t 68) (.t 69))),
 (oA 71 67 70),
 (oL 72 71),
 (oM 73 0),
 (oM 74 3),
 (oM 75 10),
 (oN (.bin 76 .add (.t 74) (.t 75))),
 (oA 77 73 76),
 (oL 78 77),
 (oA 79 59 62),
 (oN (.store false 1 (.t 79) (.t 72))),
 (oA 80 63 66),
 (oN (.store false 1 (.t 80) (.t 78)))] true) [0, 2, 3, 4, 11] 0)
  (.post (.region [
 (oM 81 11),
 (oM 10 81)] false) [0, 2, 3, 4, 10] 0)))
def f_slices_siftDownCmpFunc_int_b1 : ICode :=
  (.post (.block 1 (.seq (.post (.region [
 (oM 13 10),
 (oN (.bin 14 .mul (.c (I 2)) (.t 13))),
 (oN (.bin 15 .add (.t 14) (.c (I 1)))),
 (oM 11 15)] false) [0, 2, 3, 4, 10, 11] 0)
  (.seq (.seq (.post (.region [
 (oM 16 11),
 (oM 17 2),
 (oN (.bin 18 .geq (.t 16) (.t 17)))] false) [0, 2, 3, 4, 10, 11, 18] 0)
  (.cond (.t 18) (.exit 0)
  .skip))
  (.seq (.seq (.post (.region [
 (oM 19 11),
 (oN (.bin 20 .add (.t 19) (.c (I 1)))),
 (oM 21 2),
 (oN (.bin 22 .lss (.t 20) (.t 21))),
 (oM 23 22),
    ⟨.mv 24 (.t 4), some (23, true)⟩,
    ⟨.mv 25 (.t 0), some (23, true)⟩,
    ⟨.mv 26 (.t 3), some (23, true)⟩,
    ⟨.mv 27 (.t 11), some (23, true)⟩,
    ⟨.bin 28 .add (.t 26) (.t 27), some (23, true)⟩,
    ⟨.iaddr 29 1 none (.t 25) (.t 28), some (23, true)⟩,
    ⟨.load 30 false 1 (.t 29), some (23, true)⟩,
    ⟨.mv 31 (.t 0), some (23, true)⟩,
    ⟨.mv 32 (.t 3), some (23, true)⟩,
    ⟨.mv 33 (.t 11), some (23, true)⟩,
    ⟨.bin 34 .add (.t 32) (.t 33), some (23, true)⟩,
    ⟨.bin 35 .add (.t 34) (.c (I 1)), some (23, true)⟩,
    ⟨.iaddr 36 1 none (.t 31) (.t 35), some (23, true)⟩,
    ⟨.load 37 false 1 (.t 36), some (23, true)⟩,
    ⟨.callv (some 38) true (.t 24) [(.t 30), (.t 37)], some (23, true)⟩,
    ⟨.bin 39 .lss (.t 38) (.c (I 0)), some (23, true)⟩,
 (oN (.pick 40 (.t 23) (.t 39) (.c (.bool false))))] true) [0, 2, 3, 4, 10, 11, 40] 0)
  (.cond (.t 40) (.post (.post (.region [
 (oM 41 11),
 (oN (.bin 42 .add (.t 41) (.c (I 1)))),
 (oM 11 42)] false) [0, 2, 3, 4, 10, 11] 0) [0, 2, 3, 4, 10, 11] 0)
  (.post .skip [0, 2, 3, 4, 10, 11] 0)))
  (.cut f_slices_siftDownCmpFunc_int_k1))))) [0, 2, 3, 4, 10] 0)
def f_slices_siftDownCmpFunc_int_l1 : ICode :=
  (.post (.block 0 (.loop f_slices_siftDownCmpFunc_int_b1)) [] 0)
def f_slices_siftDownCmpFunc_int_0 : ICode :=
  (.seq (.post (.region [
 (oM 12 1),
 (oM 10 12)] false) [0, 2, 3, 4, 10] 0)
  (.cut f_slices_siftDownCmpFunc_int_l1))
def f_slices_siftDownCmpFunc_int : IFunc := { np := 5, res := [], own := false, trunc := true, body := f_slices_siftDownCmpFunc_int_0 }
/- 204: slices.medianAdjacentCmpFunc[int] -/
def f_slices_medianAdjacentCmpFunc_int_0 : ICode :=
  (.seq (.post (.region [
 (oN (.mv 8 (.c (I 0))))] false) [0, 1, 2, 3] 0)
  (.seq (.post (.region [
 (oM 9 0),
 (oM 10 1),
 (oN (.bin 11 .sub (.t 10) (.c (I 1)))),
 (oM 12 1),
 (oM 13 1),
 (oN (.bin 14 .add (.t 13) (.c (I 1)))),
 (oM 15 2),
 (oM 16 3),
 (oN (.call (some 17) true 205 [(.t 9), (.t 11), (.t 12), (.t 14), (.t 15), (.t 16)])),
 (oM 8 17)] false) [8] 0)
  .ret))
def f_slices_medianAdjacentCmpFunc_int : IFunc := { np := 4, res := [.t 8], own := false, trunc := true, body := f_slices_medianAdjacentCmpFunc_int_0 }
/- 205: slices.medianCmpFunc[int] -/
def f_slices_medianCmpFunc_int_0 : ICode :=
  (.seq (.post (.region [
 (oN (.mv 12 (.c (I 0))))] false) [0, 1, 2, 3, 4, 5] 0)
  (.seq (.post (.region [
 (oM 14 0),
 (oM 15 1),
 (oM 16 2),
 (oM 17 4),
 (oM 18 5),
 (oN (.call (some 19) true 206 [(.t 14), (.t 15), (.t 16), (.t 17), (.t 18)])),
 (oM 13 19),
 (oN (.extract 20 (.t 13) 0)),
 (oN (.extract 21 (.t 13) 1)),
 (oM 1 20),
 (oM 2 21)] false) [0, 1, 2, 3, 4, 5] 0)
  (.seq (.post (.region [
 (oM 23 0),
 (oM 24 2),
 (oM 25 3),
 (oM 26 4),
 (oM 27 5),
 (oN (.call (some 28) true 206 [(.t 23), (.t 24), (.t 25), (.t 26), (.t 27)])),
 (oM 22 28),
 (oN (.extract 29 (.t 22) 0)),
 (oN (.extract 30 (.t 22) 1)),
 (oM 2 29),
 (oM 3 30)] false) [0, 1, 2, 4, 5] 0)
  (.seq (.post (.region [
 (oM 32 0),
 (oM 33 1),
 (oM 34 2),
 (oM 35 4),
 (oM 36 5),
 (oN (.call (some 37) true 206 [(.t 32), (.t 33), (.t 34), (.t 35), (.t 36)])),
 (oM 31 37),
 (oN (.extract 38 (.t 31) 0)),
 (oN (.extract 39 (.t 31) 1)),
 (oM 1 38),
 (oM 2 39)] false) [2] 0)
  (.seq (.post (.region [
 (oM 40 2),
 (oM 12 40)] false) [12] 0)
  .ret)))))
def f_slices_medianCmpFunc_int : IFunc := { np := 6, res := [.t 12], own := false, trunc := true, body := f_slices_medianCmpFunc_int_0 }
/- 206: slices.order2CmpFunc[int] -/
def f_slices_order2CmpFunc_int_0 : ICode :=
  (.seq (.post (.region [
 (oN (.mv 10 (.c (I 0)))),
 (oN (.mv 11 (.c (I 0))))] false) [0, 1, 2, 3, 4] 0)
  (.seq (.seq (.post (.region [
 (oM 12 4),
 (oM 13 0),
 (oM 14 2),
 (oA 15 13 14),
 (oL 16 15),
 (oM 17 0),
 (oM 18 1),
 (oA 19 17 18),
 (oL 20 19),
 (oN (.callv (some 21) true (.t 12) [(.t 16), (.t 20)])),
 (oN (.bin 22 .lss (.t 21) (.c (I 0))))] true) [1, 2, 3, 22] 0)
  (.cond (.t 22) (.seq (.post (.region [
 (oM 23 3),
 (oC 24 23),
 (oL 25 24),
 (oN (.bin 26 .add (.t 25) (.c (I 1)))),
 (oC 27 23),
 (oN (.store false 1 (.t 27) (.t 26)))] false) [1, 2] 0)
  (.seq (.post (.region [
 (oM 28 2),
 (oM 29 1),
 (oM 10 28),
 (oM 11 29)] false) [10, 11] 0)
  .ret))
  .skip))
  (.seq (.post (.region [
 (oM 30 1),
 (oM 31 2),
 (oM 10 30),
 (oM 11 31)] false) [10, 11] 0)
  .ret)))
def f_slices_order2CmpFunc_int : IFunc := { np := 5, res := [.t 10, .t 11], own := false, trunc := true, body := f_slices_order2CmpFunc_int_0 }
/- 208: slices.IndexFunc[[]int,int]#K -/
def f_slices_IndexFunc_Lint_int_K_b1 : ICode :=
  (.post (.seq (.region [
 (oN (.bin 9 .lss (.t 8) (.t 7)))] false)
  (.seq (.cond (.t 9) .skip
  (.exit 0))
  (.seq (.block 1 (.seq (.post (.region [
 (oM 10 8),
 (oM 5 10)] false) [0, 1, 5, 7, 8] 0)
  (.seq (.post (.region [
 (oM 11 1),
 (oM 12 0),
 (oM 13 5),
 (oA 14 12 13),
 (oN (.loadK 15 (.t 14))),
 (oN (.callv (some 16) true (.t 11) [(.t 15)]))] false) [0, 1, 5, 7, 8, 16] 0)
  (.cond (.t 16) (.seq (.post (.region [
 (oM 17 5),
 (oM 4 17)] false) [4] 0)
  .ret)
  .skip))))
  (.post (.region [
 (oN (.bin 18 .add (.t 8) (.c (I 1)))),
 (oM 8 18)] false) [0, 1, 7, 8] 0)))) [0, 1, 7, 8] 0)
def f_slices_IndexFunc_Lint_int_K_l1 : ICode :=
  (.post (.block 0 (.loop f_slices_IndexFunc_Lint_int_K_b1)) [] 0)
def f_slices_IndexFunc_Lint_int_K_k1 : ICode :=
  (.seq (.region [
 (oN (.mv 4 (.c (I (-1)))))] false)
  .ret)
def f_slices_IndexFunc_Lint_int_K_0 : ICode :=
  (.seq (.post (.region [
 (oN (.mv 4 (.c (I 0))))] false) [0, 1] 0)
  (.seq (.seq (.post (.region [
 (oM 6 0),
 (oN (.len 7 0 (.t 6))),
 (oN (.mv 8 (.c (I 0))))] false) [0, 1, 7, 8] 0)
  (.cut f_slices_IndexFunc_Lint_int_K_l1))
  (.cut f_slices_IndexFunc_Lint_int_K_k1)))
def f_slices_IndexFunc_Lint_int_K : IFunc := { np := 2, res := [.t 4], own := false, trunc := true, body := f_slices_IndexFunc_Lint_int_K_0 }
/- 209: slices.Index[[]int,int]#K -/
def f_slices_Index_Lint_int_K_b1 : ICode :=
  (.post (.seq (.region [
 (oN (.bin 9 .lss (.t 8) (.t 7)))] false)
  (.seq (.cond (.t 9) .skip
  (.exit 0))
  (.seq (.block 1 (.seq (.post (.region [
 (oM 10 8),
 (oM 5 10)] false) [0, 1, 5, 7, 8] 0)
  (.seq (.post (.region [
 (oM 11 1),
 (oM 12 0),
 (oM 13 5),
 (oA 14 12 13),
 (oN (.loadK 15 (.t 14))),
 (oN (.bin 16 .eql (.t 11) (.t 15)))] false) [0, 1, 5, 7, 8, 16] 0)
  (.cond (.t 16) (.seq (.post (.region [
 (oM 17 5),
 (oM 4 17)] false) [4] 0)
  .ret)
  .skip))))
  (.post (.region [
 (oN (.bin 18 .add (.t 8) (.c (I 1)))),
 (oM 8 18)] false) [0, 1, 7, 8] 0)))) [0, 1, 7, 8] 0)
def f_slices_Index_Lint_int_K_l1 : ICode :=
  (.post (.block 0 (.loop f_slices_Index_Lint_int_K_b1)) [] 0)
def f_slices_Index_Lint_int_K_k1 : ICode :=
  (.seq (.region [
 (oN (.mv 4 (.c (I (-1)))))] false)
  .ret)
def f_slices_Index_Lint_int_K_0 : ICode :=
  (.seq (.post (.region [
 (oN (.mv 4 (.c (I 0))))] false) [0, 1] 0)
  (.seq (.seq (.post (.region [
 (oM 6 0),
 (oN (.len 7 0 (.t 6))),
 (oN (.mv 8 (.c (I 0))))] false) [0, 1, 7, 8] 0)
  (.cut f_slices_Index_Lint_int_K_l1))
  (.cut f_slices_Index_Lint_int_K_k1)))
def f_slices_Index_Lint_int_K : IFunc := { np := 2, res := [.t 4], own := false, trunc := true, body := f_slices_Index_Lint_int_K_0 }
/- 216: slices.DeleteFunc[[]int,int] -/
/- 255: strings.Cut -/
/- 260: strconv.Itoa -/
/- 261: internal/stringslite.Cut -/
/- 262: strings.Split -/
/- 263: strconv.Atoi -/
/- 270: internal/strconv.Itoa -/
/- 282: internal/stringslite.IndexByte -/
/- 283: strings.explode -/
/- 284: strings.Count -/
/- 285: strings.Index -/
/- 289: strconv.baseError -/
/- 290: strconv.bitSizeError -/
/- 294: internal/strconv.small -/
/- 296: internal/strconv.formatBase10 -/
/- 300: internal/bytealg.Cutover -/
/- 301: internal/bytealg.IndexRabinKarp[string] -/
/- 302: internal/bytealg.hashStr[string] -/
/- 304: unicode/utf8.DecodeRuneInString -/
/- 309: internal/strconv.log10Pow2 -/
/- 310: internal/strconv.isPowerOfTwo -/
/- 311: math/bits.TrailingZeros -/
/- 313: internal/strconv.lower -/
/- 314: internal/strconv.underscoreOK -/
/- 315: internal/strconv.bool2[int] -/
end Go.Lw
end

/-! The code of package Proof for the small machine. Written by program (gen.py). -/
section
set_option maxRecDepth 10000
namespace Go.Lw
open Go
/- 145: latchwork/proof.Follows -/
/- 149: latchwork/proof.Check -/
def f_proof_Check_b1 : ICode :=
  (.post (.seq (.region [
 (oN (.bin 35 .lss (.t 34) (.t 33)))] false)
  (.seq (.cond (.t 35) .skip
  (.exit 0))
  (.seq (.block 1 (.seq (.post (.region [
 (oA 36 32 34),
 (oL 37 36),
 (oN (.tk 11 37))] false) [8, 9, 11, 32, 33, 34] 0)
  (.seq (.seq (.post (.region [
 (oM 38 8),
 (oM 39 11),
 (oN (.call (some 40) false 155 [(.t 38), (.t 39)])),
 (oN (.un 41 .not (.t 40)))] false) [8, 9, 11, 32, 33, 34, 41] 0)
  (.cond (.t 41) (.seq (.post (.region [
 (oN (.mv 4 (.c (.bool false)))),
 (oN (.mv 5 (.c (I 0))))] false) [4, 5] 0)
  .ret)
  .skip))
  (.seq (.post (.region [
 (oM 42 8),
 (oM 43 11),
 (oN (.call (some 44) false 157 [(.t 42), (.t 43)]))] false) [8, 9, 11, 32, 33, 34] 0)
  (.post (.region [
 (oM 45 9),
 (oM 46 45),
    ⟨.mv 47 (.t 11), some (46, false)⟩,
    ⟨.len 48 0 (.t 47), some (46, false)⟩,
    ⟨.bin 49 .eql (.t 48) (.c (I 0)), some (46, false)⟩,
 (oN (.pick 50 (.t 46) (.c (.bool true)) (.t 49))),
 (oM 9 50)] false) [8, 9, 32, 33, 34] 0)))))
  (.post (.region [
 (oN (.bin 51 .add (.t 34) (.c (I 1)))),
 (oM 34 51)] false) [8, 9, 32, 33, 34] 0)))) [8, 9, 32, 33, 34] 0)
def f_proof_Check_l1 : ICode :=
  (.post (.block 0 (.loop f_proof_Check_b1)) [9] 0)
def f_proof_Check_k1 : ICode :=
  (.seq (.post (.region [
 (oM 52 9),
 (oM 4 52),
 (oN (.mv 5 (.c (I 0))))] false) [4, 5] 0)
  .ret)
def f_proof_Check_0 : ICode :=
  (.seq (.post (.region [
 (oN (.box 2 false false (.t 0))),
 (oN (.mv 4 (.c (.bool false)))),
 (oN (.mv 5 (.c (I 0))))] false) [1, 2] 1)
  (.seq (.seq (.post (.region [
 (oN (.load 12 true 2 (.t 2))),
 (oN (.call (some 13) true 59 [(.t 12)])),
 (oM 6 13)] false) [1, 2, 6] 1)
  (.seq (.post (.region [
 (oM 14 6),
 (oN (.bin 15 .neq (.t 14) (.c (I 0))))] false) [1, 2, 6, 15] 1)
  (.cond (.t 15) (.seq (.post (.region [
 (oM 16 6),
 (oN (.mv 4 (.c (.bool false)))),
 (oM 5 16)] false) [4, 5] 0)
  .ret)
  .skip)))
  (.seq (.seq (.post (.region [
 (oF 17 2 0),
 (oL 18 17),
 (oF 19 2 1),
 (oL 20 19),
 (oM 21 1),
 (oN (.buildSl 22 1 [(.t 20), (.t 21)])),
 (oN (.call (some 23) true 156 [(.t 22)])),
 (oN (.buildT 24 [I 0, .sl true 1 []] [(0, 1, (.t 18)), (1, 1, (.t 23))])),
 (oN (.call (some 25) true 59 [(.t 24)])),
 (oM 7 25)] true) [1, 2, 7] 1)
  (.seq (.post (.region [
 (oM 26 7),
 (oN (.bin 27 .neq (.t 26) (.c (I 0))))] false) [1, 2, 7, 27] 1)
  (.cond (.t 27) (.seq (.post (.region [
 (oM 28 7),
 (oN (.mv 4 (.c (.bool false)))),
 (oM 5 28)] false) [4, 5] 0)
  .ret)
  .skip)))
  (.seq (.post (.region [
 (oF 29 2 1),
 (oL 30 29),
 (oN (.call (some 31) false 154 [(.t 30)])),
 (oM 8 31)] false) [1, 8] 0)
  (.seq (.region [
 (oN (.mv 9 (.c (.bool false))))] false)
  (.seq (.seq (.post (.region [
 (oM 32 1),
 (oN (.len 33 0 (.t 32))),
 (oN (.mv 34 (.c (I 0))))] false) [8, 9, 32, 33, 34] 0)
  (.cut f_proof_Check_l1))
  (.cut f_proof_Check_k1)))))))
def f_proof_Check : IFunc := { np := 2, res := [.t 4, .t 5], own := false, trunc := true, body := f_proof_Check_0 }
/- 154: latchwork/proof.open -/
def f_proof_open_b1 : ICode :=
  (.post (.seq (.region [
 (oN (.bin 12 .lss (.t 11) (.t 10)))] false)
  (.seq (.cond (.t 12) .skip
  (.exit 0))
  (.seq (.block 1 (.seq (.post (.region [
 (oA 13 9 11),
 (oL 14 13),
 (oN (.tk 5 14))] false) [3, 5, 9, 10, 11] 0)
  (.post (.region [
 (oM 15 3),
 (oM 16 5),
 (oN (.call (some 17) false 157 [(.t 15), (.t 16)]))] false) [3, 9, 10, 11] 0)))
  (.post (.region [
 (oN (.bin 18 .add (.t 11) (.c (I 1)))),
 (oM 11 18)] false) [3, 9, 10, 11] 0)))) [3, 9, 10, 11] 0)
def f_proof_open_l1 : ICode :=
  (.post (.block 0 (.loop f_proof_open_b1)) [3] 0)
def f_proof_open_k1 : ICode :=
  (.seq (.post (.region [
 (oM 19 3),
 (oM 2 19)] false) [2] 0)
  .ret)
def f_proof_open_0 : ICode :=
  (.seq (.post (.region [
 (oN (.mv 2 (.c (.nilp))))] false) [0] 0)
  (.seq (.post (.region [
 (oN (.mkmap 6)),
 (oN (.buildT 7 [.sl true 1 [], .nilm, .nilm, .nils] [(1, 1, (.t 6))])),
 (oN (.box 8 true true (.t 7))),
 (oM 3 8)] false) [0, 3] 0)
  (.seq (.seq (.post (.region [
 (oM 9 0),
 (oN (.len 10 0 (.t 9))),
 (oN (.mv 11 (.c (I 0))))] false) [3, 9, 10, 11] 0)
  (.cut f_proof_open_l1))
  (.cut f_proof_open_k1))))
def f_proof_open : IFunc := { np := 1, res := [.t 2], own := false, trunc := false, body := f_proof_open_0 }
/- 155: (*latchwork/proof.checker).follows -/
def f_proof_checker_follows_b1 : ICode :=
  (.post (.seq (.region [
 (oN (.bin 22 .lss (.t 21) (.t 20)))] false)
  (.seq (.cond (.t 22) .skip
  (.exit 0))
  (.seq (.block 1 (.seq (.post (.region [
 (oA 23 19 21),
 (oL 24 23),
 (oM 6 24)] false) [0, 6, 19, 20, 21] 0)
  (.seq (.post (.region [
 (oM 25 0),
 (oM 26 6),
 (oN (.un 27 .neg (.t 26))),
 (oN (.call (some 28) false 158 [(.t 25), (.t 27)])),
 (oN (.un 29 .not (.t 28)))] false) [0, 19, 20, 21, 29] 0)
  (.cond (.t 29) (.seq (.post (.region [
 (oN (.mv 4 (.c (.bool true))))] false) [4] 0)
  .ret)
  .skip))))
  (.post (.region [
 (oN (.bin 30 .add (.t 21) (.c (I 1)))),
 (oM 21 30)] false) [0, 19, 20, 21] 0)))) [0, 19, 20, 21] 0)
def f_proof_checker_follows_l1 : ICode :=
  (.post (.block 0 (.loop f_proof_checker_follows_b1)) [0] 0)
def f_proof_checker_follows_b2 : ICode :=
  (.post (.seq (.region [
 (oN (.bin 37 .lss (.t 36) (.t 35)))] false)
  (.seq (.cond (.t 37) .skip
  (.exit 2))
  (.seq (.block 3 (.seq (.post (.region [
 (oA 38 34 36),
 (oL 39 38),
 (oN (.tk 8 39))] false) [0, 8, 34, 35, 36] 0)
  (.seq (.post (.region [
 (oM 40 8),
 (oN (.len 41 0 (.t 40))),
 (oN (.bin 42 .lss (.t 41) (.c (I 2)))),
 (oM 43 42),
    ⟨.mv 44 (.t 0), some (43, true)⟩,
    ⟨.mv 45 (.t 8), some (43, true)⟩,
    ⟨.call (some 46) false 159 [(.t 44), (.t 45)], some (43, true)⟩,
    ⟨.un 47 .not (.t 46), some (43, true)⟩,
 (oN (.pick 48 (.t 43) (.t 47) (.c (.bool false))))] false) [0, 34, 35, 36, 48] 0)
  (.cond (.t 48) (.seq (.post (.region [
 (oN (.mv 4 (.c (.bool true))))] false) [4] 0)
  .ret)
  .skip))))
  (.post (.region [
 (oN (.bin 49 .add (.t 36) (.c (I 1)))),
 (oM 36 49)] false) [0, 34, 35, 36] 0)))) [0, 34, 35, 36] 0)
def f_proof_checker_follows_l2 : ICode :=
  (.post (.block 2 (.loop f_proof_checker_follows_b2)) [0] 0)
def f_proof_checker_follows_b4 : ICode :=
  (.post (.seq (.region [
 (oN (.bin 91 .lss (.t 90) (.t 89)))] false)
  (.seq (.cond (.t 91) .skip
  (.exit 6))
  (.seq (.block 7 (.seq (.post (.region [
 (oA 92 88 90),
 (oN (.loadK 93 (.t 92))),
 (oM 11 93)] false) [0, 11, 88, 89, 90] 0)
  (.seq (.post (.region [
 (oM 94 0),
 (oM 95 0),
 (oC 96 95),
 (oF 97 96 0),
 (oL 98 97),
 (oM 99 11),
 (oA 100 98 99),
 (oL 101 100),
 (oN (.call (some 102) false 159 [(.t 94), (.t 101)])),
 (oN (.un 103 .not (.t 102)))] false) [0, 88, 89, 90, 103] 0)
  (.cond (.t 103) (.seq (.post (.region [
 (oN (.mv 4 (.c (.bool true))))] false) [4] 0)
  .ret)
  .skip))))
  (.post (.region [
 (oN (.bin 104 .add (.t 90) (.c (I 1)))),
 (oM 90 104)] false) [0, 88, 89, 90] 0)))) [0, 88, 89, 90] 0)
def f_proof_checker_follows_l4 : ICode :=
  (.post (.block 6 (.loop f_proof_checker_follows_b4)) [0] 0)
def f_proof_checker_follows_b3 : ICode :=
  (.post (.seq (.seq (.post (.region [
 (oM 50 0),
 (oC 51 50),
 (oF 52 51 3),
 (oL 53 52),
 (oN (.len 54 0 (.t 53))),
 (oN (.bin 55 .gtr (.t 54) (.c (I 0))))] false) [0, 55] 0)
  (.cond (.t 55) .skip
  (.exit 4)))
  (.block 5 (.seq (.post (.region [
 (oM 56 0),
 (oC 57 56),
 (oF 58 57 3),
 (oL 59 58),
 (oM 60 0),
 (oC 61 60),
 (oF 62 61 3),
 (oL 63 62),
 (oN (.len 64 0 (.t 63))),
 (oN (.bin 65 .sub (.t 64) (.c (I 1)))),
 (oA 66 59 65),
 (oN (.loadK 67 (.t 66))),
 (oM 9 67)] true) [0, 9] 0)
  (.seq (.post (.region [
 (oM 68 0),
 (oM 69 0),
 (oC 70 69),
 (oF 71 70 3),
 (oL 72 71),
 (oM 73 0),
 (oC 74 73),
 (oF 75 74 3),
 (oL 76 75),
 (oN (.len 77 0 (.t 76))),
 (oN (.bin 78 .sub (.t 77) (.c (I 1)))),
 (oN (.slice 79 1 (.t 72) none (some (.t 78)))),
 (oC 80 68),
 (oF 81 80 3),
 (oN (.store true 1 (.t 81) (.t 79)))] true) [0, 9] 0)
  (.seq (.post (.region [
 (oM 82 0),
 (oC 83 82),
 (oF 84 83 1),
 (oL 85 84),
 (oM 86 9),
 (oN (.un 87 .neg (.t 86))),
 (oN (.lookup 88 0 (.t 85) (.t 87) false (.nils))),
 (oN (.len 89 0 (.t 88))),
 (oN (.mv 90 (.c (I 0))))] false) [0, 88, 89, 90] 0)
  (.cut f_proof_checker_follows_l4)))))) [0] 0)
def f_proof_checker_follows_l3 : ICode :=
  (.post (.block 4 (.loop f_proof_checker_follows_b3)) [] 0)
def f_proof_checker_follows_k3 : ICode :=
  (.seq (.region [
 (oN (.mv 4 (.c (.bool false))))] false)
  .ret)
def f_proof_checker_follows_k2 : ICode :=
  (.seq (.cut f_proof_checker_follows_l3)
  (.cut f_proof_checker_follows_k3))
def f_proof_checker_follows_k1 : ICode :=
  (.seq (.seq (.post (.region [
 (oM 31 0),
 (oC 32 31),
 (oF 33 32 0),
 (oL 34 33),
 (oN (.len 35 0 (.t 34))),
 (oN (.mv 36 (.c (I 0))))] false) [0, 34, 35, 36] 0)
  (.cut f_proof_checker_follows_l2))
  (.cut f_proof_checker_follows_k2))
def f_proof_checker_follows_0 : ICode :=
  (.seq (.post (.region [
 (oN (.mv 4 (.c (.bool false))))] false) [0, 1] 0)
  (.seq (.post (.region [
 (oM 12 0),
 (oM 13 0),
 (oN (.mkmap 14)),
 (oC 15 12),
 (oF 16 15 2),
 (oN (.store false 1 (.t 16) (.t 14))),
 (oC 17 13),
 (oF 18 17 3),
 (oN (.store true 1 (.t 18) (.c (.nils))))] false) [0, 1] 0)
  (.seq (.seq (.post (.region [
 (oM 19 1),
 (oN (.len 20 0 (.t 19))),
 (oN (.mv 21 (.c (I 0))))] false) [0, 19, 20, 21] 0)
  (.cut f_proof_checker_follows_l1))
  (.cut f_proof_checker_follows_k1))))
def f_proof_checker_follows : IFunc := { np := 2, res := [.t 4], own := false, trunc := false, body := f_proof_checker_follows_0 }
/- 157: (*latchwork/proof.checker).add -/
def f_proof_checker_add_b1 : ICode :=
  (.post (.seq (.region [
 (oN (.bin 15 .lss (.t 14) (.t 13)))] false)
  (.seq (.cond (.t 15) .skip
  (.exit 0))
  (.seq (.block 1 (.seq (.post (.region [
 (oA 16 12 14),
 (oN (.loadK 17 (.t 16))),
 (oM 5 17)] false) [0, 1, 5, 12, 13, 14] 0)
  (.post (.region [
 (oM 18 0),
 (oC 19 18),
 (oF 20 19 1),
 (oL 21 20),
 (oM 22 5),
 (oM 23 0),
 (oC 24 23),
 (oF 25 24 1),
 (oL 26 25),
 (oM 27 5),
 (oN (.lookup 28 0 (.t 26) (.t 27) false (.nils))),
 (oM 29 0),
 (oC 30 29),
 (oF 31 30 0),
 (oL 32 31),
 (oN (.len 33 0 (.t 32))),
 (oN (.buildSl 34 1 [(.t 33)])),
 (oN (.appendN 35 8 (.t 28) (.t 34))),
 (oN (.mupd 0 (.t 21) (.t 22) (.t 35)))] true) [0, 1, 12, 13, 14] 0)))
  (.post (.region [
 (oN (.bin 36 .add (.t 14) (.c (I 1)))),
 (oM 14 36)] false) [0, 1, 12, 13, 14] 0)))) [0, 1, 12, 13, 14] 0)
def f_proof_checker_add_l1 : ICode :=
  (.post (.block 0 (.loop f_proof_checker_add_b1)) [0, 1] 0)
def f_proof_checker_add_k1 : ICode :=
  (.post (.region [
 (oM 37 0),
 (oM 38 0),
 (oC 39 38),
 (oF 40 39 0),
 (oN (.loadT 41 (.t 40))),
 (oM 42 1),
 (oN (.buildSl 43 1 [(.t 42)])),
 (oN (.append 44 1 24 (.t 41) (.t 43))),
 (oC 45 37),
 (oF 46 45 0),
 (oN (.store true 1 (.t 46) (.t 44)))] false) [] 0)
def f_proof_checker_add_0 : ICode :=
  (.seq (.post (.region [
 (oM 6 1),
 (oN (.call (some 7) false 121 [(.t 6)])),
 (oN (.tk 1 7))] false) [0, 1] 0)
  (.seq (.post (.region [
 (oM 8 1),
 (oN (.call (some 9) false 161 [(.t 8)]))] false) [0, 1] 0)
  (.seq (.post (.region [
 (oM 10 1),
 (oN (.call (some 11) false 162 [(.t 10)])),
 (oN (.tk 1 11))] false) [0, 1] 0)
  (.seq (.seq (.post (.region [
 (oM 12 1),
 (oN (.len 13 0 (.t 12))),
 (oN (.mv 14 (.c (I 0))))] false) [0, 1, 12, 13, 14] 0)
  (.cut f_proof_checker_add_l1))
  (.cut f_proof_checker_add_k1)))))
def f_proof_checker_add : IFunc := { np := 2, res := [], own := false, trunc := false, body := f_proof_checker_add_0 }
/- 158: (*latchwork/proof.checker).put -/
def f_proof_checker_put_k1 : ICode :=
  (.seq (.region [
 (oN (.mv 4 (.c (.bool true))))] false)
  .ret)
def f_proof_checker_put_0 : ICode :=
  (.seq (.post (.region [
 (oN (.mv 4 (.c (.bool false))))] false) [0, 1] 0)
  (.seq (.seq (.post (.region [
 (oM 5 0),
 (oC 6 5),
 (oF 7 6 2),
 (oL 8 7),
 (oM 9 1),
 (oN (.un 10 .neg (.t 9))),
 (oN (.lookup 11 0 (.t 8) (.t 10) false (.bool false)))] false) [0, 1, 11] 0)
  (.cond (.t 11) (.seq (.post (.region [
 (oN (.mv 4 (.c (.bool false))))] false) [4] 0)
  .ret)
  .skip))
  (.seq (.seq (.post (.region [
 (oM 12 0),
 (oC 13 12),
 (oF 14 13 2),
 (oL 15 14),
 (oM 16 1),
 (oN (.lookup 17 0 (.t 15) (.t 16) false (.bool false))),
 (oN (.un 18 .not (.t 17)))] false) [0, 1, 18] 0)
  (.cond (.t 18) (.post (.seq (.post (.region [
 (oM 19 0),
 (oC 20 19),
 (oF 21 20 2),
 (oL 22 21),
 (oM 23 1),
 (oN (.mupd 0 (.t 22) (.t 23) (.c (.bool true))))] false) [0, 1] 0)
  (.post (.region [
 (oM 24 0),
 (oM 25 0),
 (oC 26 25),
 (oF 27 26 3),
 (oL 28 27),
 (oM 29 1),
 (oN (.buildSl 30 1 [(.t 29)])),
 (oN (.appendN 31 8 (.t 28) (.t 30))),
 (oC 32 24),
 (oF 33 32 3),
 (oN (.store true 1 (.t 33) (.t 31)))] false) [] 0)) [] 0)
  (.post .skip [] 0)))
  (.cut f_proof_checker_put_k1))))
def f_proof_checker_put : IFunc := { np := 2, res := [.t 4], own := false, trunc := false, body := f_proof_checker_put_0 }
/- 159: (*latchwork/proof.checker).must -/
def f_proof_checker_must_k1 : ICode :=
  (.post (.region [
 (oN (.bin 34 .add (.t 11) (.c (I 1)))),
 (oM 11 34)] false) [0, 5, 6, 9, 10, 11] 0)
def f_proof_checker_must_b1 : ICode :=
  (.post (.seq (.region [
 (oN (.bin 12 .lss (.t 11) (.t 10)))] false)
  (.seq (.cond (.t 12) .skip
  (.exit 0))
  (.seq (.block 1 (.seq (.post (.region [
 (oA 13 9 11),
 (oN (.loadK 14 (.t 13))),
 (oM 8 14)] false) [0, 5, 6, 8, 9, 10, 11] 0)
  (.block 2 (.seq (.post (.region [
 (oM 16 0),
 (oC 17 16),
 (oF 18 17 2),
 (oL 19 18),
 (oM 20 8),
 (oN (.lookup 21 0 (.t 19) (.t 20) false (.bool false))),
 (oM 15 21)] false) [0, 5, 6, 8, 9, 10, 11, 15] 0)
  (.cond (.t 15) (.seq (.post (.region [
 (oN (.mv 4 (.c (.bool true))))] false) [4] 0)
  .ret)
  (.seq (.post (.region [
 (oM 23 0),
 (oC 24 23),
 (oF 25 24 2),
 (oL 26 25),
 (oM 27 8),
 (oN (.un 28 .neg (.t 27))),
 (oN (.lookup 29 0 (.t 26) (.t 28) false (.bool false))),
 (oN (.un 30 .not (.t 29))),
 (oM 22 30)] false) [0, 5, 6, 8, 9, 10, 11, 22] 0)
  (.cond (.t 22) (.post (.seq (.post (.region [
 (oM 31 8),
 (oM 5 31)] false) [0, 5, 6, 9, 10, 11] 0)
  (.post (.region [
 (oM 32 6),
 (oN (.bin 33 .add (.t 32) (.c (I 1)))),
 (oM 6 33)] false) [0, 5, 6, 9, 10, 11] 0)) [0, 5, 6, 9, 10, 11] 0)
  (.post .skip [0, 5, 6, 9, 10, 11] 0))))))))
  (.cut f_proof_checker_must_k1)))) [0, 5, 6, 9, 10, 11] 0)
def f_proof_checker_must_l1 : ICode :=
  (.post (.block 0 (.loop f_proof_checker_must_b1)) [0, 5, 6] 0)
def f_proof_checker_must_k2 : ICode :=
  (.seq (.seq (.post (.region [
 (oM 35 6)] false) [0, 5, 35] 0)
  (.block 3 (.seq (.post (.region [
 (oN (.bin 37 .eql (.t 35) (.c (I 0)))),
 (oM 36 37)] false) [0, 5, 35, 36] 0)
  (.cond (.t 36) (.seq (.post (.region [
 (oN (.mv 4 (.c (.bool false))))] false) [4] 0)
  .ret)
  (.seq (.post (.region [
 (oN (.bin 39 .eql (.t 35) (.c (I 1)))),
 (oM 38 39)] false) [0, 5, 38] 0)
  (.cond (.t 38) (.seq (.post (.region [
 (oM 40 0),
 (oM 41 5),
 (oN (.call (some 42) false 158 [(.t 40), (.t 41)])),
 (oM 4 42)] false) [4] 0)
  .ret)
  .skip))))))
  (.seq (.post (.region [
 (oN (.mv 4 (.c (.bool true))))] false) [4] 0)
  .ret))
def f_proof_checker_must_0 : ICode :=
  (.seq (.post (.region [
 (oN (.mv 4 (.c (.bool false))))] false) [0, 1] 0)
  (.seq (.region [
 (oN (.mv 5 (.c (I 0)))),
 (oN (.mv 6 (.c (I 0))))] false)
  (.seq (.seq (.post (.region [
 (oM 9 1),
 (oN (.len 10 0 (.t 9))),
 (oN (.mv 11 (.c (I 0))))] false) [0, 5, 6, 9, 10, 11] 0)
  (.cut f_proof_checker_must_l1))
  (.cut f_proof_checker_must_k2))))
def f_proof_checker_must : IFunc := { np := 2, res := [.t 4], own := false, trunc := false, body := f_proof_checker_must_0 }
end Go.Lw
end

/-! The code of package Ref for the small machine. Written by program (gen.py). -/
section
set_option maxRecDepth 10000
namespace Go.Lw
open Go
/- 2: latchwork/latchworkref.CheckGraph -/
/- 3: latchwork/latchworkref.IsLit -/
/- 4: latchwork/latchworkref.AndOf -/
/- 7: latchwork/latchworkref.SameGraph -/
/- 10: latchwork/latchworkref.AreLits -/
/- 11: latchwork/latchworkref.NodesOf -/
/- 12: latchwork/latchworkref.LitOf -/
/- 17: latchwork/latchworkref.ClausesOf -/
/- 23: latchwork/latchworkref.FitOf -/
/- 26: latchwork/latchworkref.Takes -/
/- 27: latchwork/latchworkref.Two -/
/- 28: latchwork/latchworkref.Made -/
/- 36: latchwork/latchworkref.CheckModel -/
/- 39: latchwork/latchworkref.Nodes -/
/- 43: latchwork/latchworkref.ConeOf -/
/- 45: latchwork/latchworkref.Has -/
def f_ref_Has_b1 : ICode :=
  (.post (.seq (.seq (.post (.region [
 (oM 6 5),
 (oM 7 0),
 (oN (.len 8 0 (.t 7))),
 (oN (.bin 9 .lss (.t 6) (.t 8)))] false) [0, 1, 5, 9] 0)
  (.cond (.t 9) .skip
  (.exit 0)))
  (.seq (.block 1 (.seq (.post (.region [
 (oM 12 0),
 (oM 13 5),
 (oA 14 12 13),
 (oL 15 14),
 (oM 16 1),
 (oN (.bin 17 .eql (.t 15) (.t 16)))] false) [0, 1, 5, 17] 0)
  (.cond (.t 17) (.seq (.post (.region [
 (oN (.mv 4 (.c (.bool true))))] false) [4] 0)
  .ret)
  .skip)))
  (.post (.region [
 (oM 10 5),
 (oN (.bin 11 .add (.t 10) (.c (I 1)))),
 (oM 5 11)] false) [0, 1, 5] 0))) [0, 1, 5] 0)
def f_ref_Has_l1 : ICode :=
  (.post (.block 0 (.loop f_ref_Has_b1)) [] 0)
def f_ref_Has_k1 : ICode :=
  (.seq (.region [
 (oN (.mv 4 (.c (.bool false))))] false)
  .ret)
def f_ref_Has_0 : ICode :=
  (.seq (.post (.region [
 (oN (.mv 4 (.c (.bool false))))] false) [0, 1] 0)
  (.seq (.seq (.post (.region [
 (oN (.mv 5 (.c (I 0))))] false) [0, 1, 5] 0)
  (.cut f_ref_Has_l1))
  (.cut f_ref_Has_k1)))
def f_ref_Has : IFunc := { np := 2, res := [.t 4], own := false, trunc := true, body := f_ref_Has_0 }
/- 46: latchwork/latchworkref.SameInts -/
/- 50: latchwork/latchworkref.between -/
def f_ref_between_0 : ICode :=
  (.seq (.post (.region [
 (oN (.mv 6 (.c (.bool false))))] false) [0, 1, 2] 0)
  (.seq (.post (.region [
 (oM 7 0),
 (oM 8 1),
 (oN (.bin 9 .geq (.t 7) (.t 8))),
 (oM 10 9),
    ⟨.mv 11 (.t 0), some (10, true)⟩,
    ⟨.mv 12 (.t 2), some (10, true)⟩,
    ⟨.bin 13 .leq (.t 11) (.t 12), some (10, true)⟩,
 (oN (.pick 14 (.t 10) (.t 13) (.c (.bool false)))),
 (oM 6 14)] false) [6] 0)
  .ret))
def f_ref_between : IFunc := { np := 3, res := [.t 6], own := false, trunc := true, body := f_ref_between_0 }
/- 51: latchwork/latchworkref.AndAt -/
/- 56: latchwork/latchworkref.AndClauses -/
/- 57: latchwork/latchworkref.MustClauses -/
/- 58: latchwork/latchworkref.DoneClauses -/
/- 60: latchwork/latchworkref.SameClauses -/
/- 67: latchwork/latchworkref.bitwise -/
/- 68: latchwork/latchworkref.yes -/
/- 69: latchwork/latchworkref.Signed -/
/- 72: latchwork/latchworkref.CheckNode -/
/- 73: latchwork/latchworkref.Bits -/
/- 74: latchwork/latchworkref.hangs -/
/- 84: latchwork/latchworkref.ConeOf$1 -/
/- 92: latchwork/latchworkref.Num -/
/- 93: latchwork/latchworkref.CheckClauses -/
def f_ref_CheckClauses_b1 : ICode :=
  (.post (.seq (.seq (.post (.region [
 (oM 13 3),
 (oF 14 1 1),
 (oL 15 14),
 (oN (.len 16 0 (.t 15))),
 (oN (.bin 17 .lss (.t 13) (.t 16)))] false) [1, 3, 17] 1)
  (.cond (.t 17) .skip
  (.exit 0)))
  (.seq (.block 1 (.seq (.post (.region [
 (oF 20 1 0),
 (oL 21 20),
 (oF 22 1 1),
 (oL 23 22),
 (oM 24 3),
 (oA 25 23 24),
 (oL 26 25),
 (oN (.call (some 27) true 112 [(.t 21), (.t 26)])),
 (oM 4 27)] true) [1, 3, 4] 1)
  (.seq (.post (.region [
 (oM 28 4),
 (oN (.bin 29 .neq (.t 28) (.c (I 0))))] false) [1, 3, 4, 29] 1)
  (.cond (.t 29) (.seq (.post (.region [
 (oM 30 4),
 (oM 2 30)] false) [2] 0)
  .ret)
  .skip))))
  (.post (.region [
 (oM 18 3),
 (oN (.bin 19 .add (.t 18) (.c (I 1)))),
 (oM 3 19)] false) [1, 3] 1))) [1, 3] 1)
def f_ref_CheckClauses_l1 : ICode :=
  (.post (.block 0 (.loop f_ref_CheckClauses_b1)) [] 0)
def f_ref_CheckClauses_k1 : ICode :=
  (.seq (.region [
 (oN (.mv 2 (.c (I 0))))] false)
  .ret)
def f_ref_CheckClauses_0 : ICode :=
  (.seq (.post (.region [
 (oN (.box 1 false false (.t 0))),
 (oN (.mv 2 (.c (I 0))))] false) [1] 1)
  (.seq (.seq (.post (.region [
 (oF 5 1 0),
 (oL 6 5),
 (oN (.call (some 7) true 50 [(.t 6), (.c (I 0)), (.c (I 200000))])),
 (oN (.un 8 .not (.t 7)))] false) [1, 8] 1)
  (.cond (.t 8) (.seq (.post (.region [
 (oN (.mv 2 (.c (I 3))))] false) [2] 0)
  .ret)
  .skip))
  (.seq (.seq (.post (.region [
 (oF 9 1 1),
 (oL 10 9),
 (oN (.len 11 0 (.t 10))),
 (oN (.bin 12 .gtr (.t 11) (.c (I 800000))))] false) [1, 12] 1)
  (.cond (.t 12) (.seq (.post (.region [
 (oN (.mv 2 (.c (I 2))))] false) [2] 0)
  .ret)
  .skip))
  (.seq (.seq (.post (.region [
 (oN (.mv 3 (.c (I 0))))] false) [1, 3] 1)
  (.cut f_ref_CheckClauses_l1))
  (.cut f_ref_CheckClauses_k1)))))
def f_ref_CheckClauses : IFunc := { np := 1, res := [.t 2], own := false, trunc := true, body := f_ref_CheckClauses_0 }
/- 95: latchwork/latchworkref.SameLists -/
/- 97: latchwork/latchworkref.Bit -/
/- 102: latchwork/latchworkref.WidthsOf -/
/- 112: latchwork/latchworkref.CheckClause -/
def f_ref_CheckClause_b1 : ICode :=
  (.post (.seq (.seq (.post (.region [
 (oM 9 5),
 (oM 10 1),
 (oN (.len 11 0 (.t 10))),
 (oN (.bin 12 .lss (.t 9) (.t 11)))] false) [0, 1, 5, 12] 0)
  (.cond (.t 12) .skip
  (.exit 0)))
  (.seq (.block 1 (.seq (.post (.region [
 (oM 15 1),
 (oM 16 5),
 (oA 17 15 16),
 (oL 18 17),
 (oN (.bin 19 .eql (.t 18) (.c (I 0)))),
 (oM 20 19),
    ⟨.mv 21 (.t 1), some (20, false)⟩,
    ⟨.mv 22 (.t 5), some (20, false)⟩,
    ⟨.iaddr 23 1 none (.t 21) (.t 22), some (20, false)⟩,
    ⟨.load 24 false 1 (.t 23), some (20, false)⟩,
    ⟨.mv 25 (.t 0), some (20, false)⟩,
    ⟨.bin 26 .gtr (.t 24) (.t 25), some (20, false)⟩,
 (oN (.pick 27 (.t 20) (.c (.bool true)) (.t 26))),
 (oM 28 27),
    ⟨.mv 29 (.t 1), some (28, false)⟩,
    ⟨.mv 30 (.t 5), some (28, false)⟩,
    ⟨.iaddr 31 1 none (.t 29) (.t 30), some (28, false)⟩,
    ⟨.load 32 false 1 (.t 31), some (28, false)⟩,
    ⟨.mv 33 (.t 0), some (28, false)⟩,
    ⟨.un 34 .neg (.t 33), some (28, false)⟩,
    ⟨.bin 35 .lss (.t 32) (.t 34), some (28, false)⟩,
 (oN (.pick 36 (.t 28) (.c (.bool true)) (.t 35)))] false) [0, 1, 5, 36] 0)
  (.cond (.t 36) (.seq (.post (.region [
 (oN (.mv 4 (.c (I 5))))] false) [4] 0)
  .ret)
  .skip)))
  (.post (.region [
 (oM 13 5),
 (oN (.bin 14 .add (.t 13) (.c (I 1)))),
 (oM 5 14)] false) [0, 1, 5] 0))) [0, 1, 5] 0)
def f_ref_CheckClause_l1 : ICode :=
  (.post (.block 0 (.loop f_ref_CheckClause_b1)) [] 0)
def f_ref_CheckClause_k1 : ICode :=
  (.seq (.region [
 (oN (.mv 4 (.c (I 0))))] false)
  .ret)
def f_ref_CheckClause_0 : ICode :=
  (.seq (.post (.region [
 (oN (.mv 4 (.c (I 0))))] false) [0, 1] 0)
  (.seq (.seq (.post (.region [
 (oM 6 1),
 (oN (.len 7 0 (.t 6))),
 (oN (.bin 8 .gtr (.t 7) (.c (I 200))))] false) [0, 1, 8] 0)
  (.cond (.t 8) (.seq (.post (.region [
 (oN (.mv 4 (.c (I 2))))] false) [4] 0)
  .ret)
  .skip))
  (.seq (.seq (.post (.region [
 (oN (.mv 5 (.c (I 0))))] false) [0, 1, 5] 0)
  (.cut f_ref_CheckClause_l1))
  (.cut f_ref_CheckClause_k1))))
def f_ref_CheckClause : IFunc := { np := 2, res := [.t 4], own := false, trunc := true, body := f_ref_CheckClause_0 }
/- 124: latchwork/latchworkref.CheckWords -/
/- 125: latchwork/latchworkref.BeginOf -/
/- 131: latchwork/latchworkref.Ready -/
/- 132: latchwork/latchworkref.ValuesOf -/
/- 133: latchwork/latchworkref.NextOf -/
/- 134: latchwork/latchworkref.MarksOf -/
/- 137: latchwork/latchworkref.PairOf -/
/- 146: latchwork/latchworkref.FollowsOf -/
def f_ref_FollowsOf_b1 : ICode :=
  (.post (.seq (.seq (.post (.region [
 (oM 14 6),
 (oM 15 1),
 (oN (.len 16 0 (.t 15))),
 (oN (.bin 17 .lss (.t 14) (.t 16)))] false) [0, 1, 5, 6, 17] 0)
  (.cond (.t 17) .skip
  (.exit 0)))
  (.seq (.block 1 (.seq (.seq (.post (.region [
 (oM 20 5),
 (oM 21 1),
 (oM 22 6),
 (oA 23 21 22),
 (oL 24 23),
 (oN (.call (some 25) true 45 [(.t 20), (.t 24)]))] false) [0, 1, 5, 6, 25] 0)
  (.cond (.t 25) (.seq (.post (.region [
 (oN (.mv 4 (.c (.bool true))))] false) [4] 0)
  .ret)
  .skip))
  (.post (.region [
 (oN (.tk 26 5)),
 (oM 27 1),
 (oM 28 6),
 (oA 29 27 28),
 (oL 30 29),
 (oN (.un 31 .neg (.t 30))),
 (oN (.buildSl 32 1 [(.t 31)])),
 (oN (.append 33 1 8 (.t 26) (.t 32))),
 (oN (.tk 5 33))] false) [0, 1, 5, 6] 0)))
  (.post (.region [
 (oM 18 6),
 (oN (.bin 19 .add (.t 18) (.c (I 1)))),
 (oM 6 19)] false) [0, 1, 5, 6] 0))) [0, 1, 5, 6] 0)
def f_ref_FollowsOf_l1 : ICode :=
  (.post (.block 0 (.loop f_ref_FollowsOf_b1)) [0, 5] 0)
def f_ref_FollowsOf_k2 : ICode :=
  (.seq (.post (.region [
 (oM 60 5),
 (oM 61 13),
 (oN (.call (some 62) true 45 [(.t 60), (.t 61)])),
 (oN (.un 63 .not (.t 62))),
 (oM 64 63),
    ⟨.mv 65 (.t 5), some (64, true)⟩,
    ⟨.mv 66 (.t 13), some (64, true)⟩,
    ⟨.un 67 .neg (.t 66), some (64, true)⟩,
    ⟨.call (some 68) true 45 [(.t 65), (.t 67)], some (64, true)⟩,
    ⟨.un 69 .not (.t 68), some (64, true)⟩,
 (oN (.pick 70 (.t 64) (.t 69) (.c (.bool false)))),
 (oM 71 70),
    ⟨.mv 72 (.t 13), some (71, true)⟩,
    ⟨.mv 73 (.t 9), some (71, true)⟩,
    ⟨.bin 74 .neq (.t 72) (.t 73), some (71, true)⟩,
 (oN (.pick 75 (.t 71) (.t 74) (.c (.bool false))))] false) [0, 5, 7, 8, 9, 10, 11, 12, 13, 75] 0)
  (.cond (.t 75) (.post (.seq (.post (.region [
 (oM 76 13),
 (oM 9 76)] false) [0, 5, 7, 8, 9, 10, 11, 12] 0)
  (.post (.region [
 (oM 77 10),
 (oN (.bin 78 .add (.t 77) (.c (I 1)))),
 (oM 10 78)] false) [0, 5, 7, 8, 9, 10, 11, 12] 0)) [0, 5, 7, 8, 9, 10, 11, 12] 0)
  (.post .skip [0, 5, 7, 8, 9, 10, 11, 12] 0)))
def f_ref_FollowsOf_k3 : ICode :=
  (.post (.region [
 (oM 48 12),
 (oN (.bin 49 .add (.t 48) (.c (I 1)))),
 (oM 12 49)] false) [0, 5, 7, 8, 9, 10, 11, 12] 0)
def f_ref_FollowsOf_b4 : ICode :=
  (.post (.seq (.seq (.post (.region [
 (oM 41 12),
 (oM 42 0),
 (oM 43 8),
 (oA 44 42 43),
 (oL 45 44),
 (oN (.len 46 0 (.t 45))),
 (oN (.bin 47 .lss (.t 41) (.t 46)))] false) [0, 5, 7, 8, 9, 10, 11, 12, 47] 0)
  (.cond (.t 47) .skip
  (.exit 6)))
  (.seq (.block 7 (.seq (.post (.region [
 (oM 50 0),
 (oM 51 8),
 (oA 52 50 51),
 (oL 53 52),
 (oM 54 12),
 (oA 55 53 54),
 (oL 56 55),
 (oM 13 56)] false) [0, 5, 7, 8, 9, 10, 11, 12, 13] 0)
  (.seq (.seq (.post (.region [
 (oM 57 5),
 (oM 58 13),
 (oN (.call (some 59) true 45 [(.t 57), (.t 58)]))] false) [0, 5, 7, 8, 9, 10, 11, 12, 13, 59] 0)
  (.cond (.t 59) (.post (.post (.region [
 (oN (.mv 11 (.c (.bool true))))] false) [0, 5, 7, 8, 9, 10, 11, 12, 13] 0) [0, 5, 7, 8, 9, 10, 11, 12, 13] 0)
  (.post .skip [0, 5, 7, 8, 9, 10, 11, 12, 13] 0)))
  (.cut f_ref_FollowsOf_k2))))
  (.cut f_ref_FollowsOf_k3))) [0, 5, 7, 8, 9, 10, 11, 12] 0)
def f_ref_FollowsOf_l4 : ICode :=
  (.post (.block 6 (.loop f_ref_FollowsOf_b4)) [0, 5, 7, 8, 9, 10, 11] 0)
def f_ref_FollowsOf_k4 : ICode :=
  (.seq (.seq (.post (.region [
 (oM 79 11)] false) [0, 5, 7, 8, 9, 10, 79] 0)
  (.cond (.t 79) (.exit 5)
  .skip))
  (.seq (.seq (.post (.region [
 (oM 80 10),
 (oN (.bin 81 .eql (.t 80) (.c (I 0))))] false) [0, 5, 7, 8, 9, 10, 81] 0)
  (.cond (.t 81) (.seq (.post (.region [
 (oN (.mv 4 (.c (.bool true))))] false) [4] 0)
  .ret)
  .skip))
  (.seq (.post (.region [
 (oM 82 10),
 (oN (.bin 83 .eql (.t 82) (.c (I 1))))] false) [0, 5, 7, 8, 9, 83] 0)
  (.cond (.t 83) (.post (.seq (.post (.region [
 (oN (.tk 84 5)),
 (oM 85 9),
 (oN (.buildSl 86 1 [(.t 85)])),
 (oN (.append 87 1 8 (.t 84) (.t 86))),
 (oN (.tk 5 87))] false) [0, 5, 8] 0)
  (.region [
 (oN (.mv 7 (.c (.bool true))))] false)) [0, 5, 7, 8] 0)
  (.post .skip [0, 5, 7, 8] 0)))))
def f_ref_FollowsOf_k5 : ICode :=
  (.post (.region [
 (oM 39 8),
 (oN (.bin 40 .add (.t 39) (.c (I 1)))),
 (oM 8 40)] false) [0, 5, 7, 8] 0)
def f_ref_FollowsOf_b3 : ICode :=
  (.post (.seq (.seq (.post (.region [
 (oM 35 8),
 (oM 36 0),
 (oN (.len 37 0 (.t 36))),
 (oN (.bin 38 .lss (.t 35) (.t 37)))] false) [0, 5, 7, 8, 38] 0)
  (.cond (.t 38) .skip
  (.exit 4)))
  (.seq (.post (.block 5 (.seq (.post (.region [
 (oN (.mv 9 (.c (I 0)))),
 (oN (.mv 10 (.c (I 0)))),
 (oN (.mv 11 (.c (.bool false))))] false) [0, 5, 7, 8, 9, 10, 11] 0)
  (.seq (.seq (.post (.region [
 (oN (.mv 12 (.c (I 0))))] false) [0, 5, 7, 8, 9, 10, 11, 12] 0)
  (.cut f_ref_FollowsOf_l4))
  (.cut f_ref_FollowsOf_k4)))) [0, 5, 7, 8] 0)
  (.cut f_ref_FollowsOf_k5))) [0, 5, 7, 8] 0)
def f_ref_FollowsOf_l3 : ICode :=
  (.post (.block 4 (.loop f_ref_FollowsOf_b3)) [0, 5, 7] 0)
def f_ref_FollowsOf_b2 : ICode :=
  (.post (.seq (.seq (.post (.region [
 (oM 34 7)] false) [0, 5, 34] 0)
  (.cond (.t 34) .skip
  (.exit 2)))
  (.block 3 (.seq (.post (.region [
 (oN (.mv 7 (.c (.bool false))))] false) [0, 5, 7] 0)
  (.seq (.post (.region [
 (oN (.mv 8 (.c (I 0))))] false) [0, 5, 7, 8] 0)
  (.cut f_ref_FollowsOf_l3))))) [0, 5, 7] 0)
def f_ref_FollowsOf_l2 : ICode :=
  (.post (.block 2 (.loop f_ref_FollowsOf_b2)) [] 0)
def f_ref_FollowsOf_k6 : ICode :=
  (.seq (.region [
 (oN (.mv 4 (.c (.bool false))))] false)
  .ret)
def f_ref_FollowsOf_k1 : ICode :=
  (.seq (.seq (.post (.region [
 (oN (.mv 7 (.c (.bool true))))] false) [0, 5, 7] 0)
  (.cut f_ref_FollowsOf_l2))
  (.cut f_ref_FollowsOf_k6))
def f_ref_FollowsOf_0 : ICode :=
  (.seq (.post (.region [
 (oN (.mv 4 (.c (.bool false))))] false) [0, 1] 0)
  (.seq (.region [
 (oN (.mv 5 (.c (.sl true 1 []))))] false)
  (.seq (.seq (.post (.region [
 (oN (.mv 6 (.c (I 0))))] false) [0, 1, 5, 6] 0)
  (.cut f_ref_FollowsOf_l1))
  (.cut f_ref_FollowsOf_k1))))
def f_ref_FollowsOf : IFunc := { np := 2, res := [.t 4], own := false, trunc := true, body := f_ref_FollowsOf_0 }
/- 150: latchwork/latchworkref.CheckProof -/
def f_ref_CheckProof_k1 : ICode :=
  (.seq (.post (.region [
 (oM 20 5),
 (oM 4 20)] false) [4] 0)
  .ret)
def f_ref_CheckProof_0 : ICode :=
  (.seq (.post (.region [
 (oN (.box 2 false false (.t 0))),
 (oN (.mv 4 (.c (I 0))))] false) [1, 2] 1)
  (.seq (.post (.region [
 (oN (.load 6 true 2 (.t 2))),
 (oN (.call (some 7) true 93 [(.t 6)])),
 (oM 5 7)] false) [1, 2, 5] 1)
  (.seq (.seq (.post (.region [
 (oM 8 5),
 (oN (.bin 9 .eql (.t 8) (.c (I 0))))] false) [1, 2, 5, 9] 1)
  (.cond (.t 9) (.post (.post (.region [
 (oF 10 2 0),
 (oL 11 10),
 (oN (.buildSl 12 1 [])),
 (oF 13 2 1),
 (oL 14 13),
 (oN (.append 15 1 24 (.t 12) (.t 14))),
 (oM 16 1),
 (oN (.append 17 1 24 (.t 15) (.t 16))),
 (oN (.buildT 18 [I 0, .sl true 1 []] [(0, 1, (.t 11)), (1, 1, (.t 17))])),
 (oN (.call (some 19) true 93 [(.t 18)])),
 (oM 5 19)] true) [5] 0) [5] 0)
  (.post .skip [5] 0)))
  (.cut f_ref_CheckProof_k1))))
def f_ref_CheckProof : IFunc := { np := 2, res := [.t 4], own := false, trunc := true, body := f_ref_CheckProof_0 }
/- 151: latchwork/latchworkref.ProofOf -/
def f_ref_ProofOf_b1 : ICode :=
  (.post (.seq (.seq (.post (.region [
 (oM 12 7),
 (oM 13 1),
 (oN (.len 14 0 (.t 13))),
 (oN (.bin 15 .lss (.t 12) (.t 14)))] false) [1, 5, 6, 7, 15] 0)
  (.cond (.t 15) .skip
  (.exit 0)))
  (.seq (.block 1 (.seq (.seq (.post (.region [
 (oM 18 5),
 (oM 19 1),
 (oM 20 7),
 (oA 21 19 20),
 (oL 22 21),
 (oN (.call (some 23) true 146 [(.t 18), (.t 22)])),
 (oN (.un 24 .not (.t 23)))] false) [1, 5, 6, 7, 24] 0)
  (.cond (.t 24) (.seq (.post (.region [
 (oN (.mv 4 (.c (.bool false))))] false) [4] 0)
  .ret)
  .skip))
  (.seq (.post (.region [
 (oN (.tk 25 5)),
 (oM 26 1),
 (oM 27 7),
 (oA 28 26 27),
 (oL 29 28),
 (oN (.buildSl 30 1 [(.t 29)])),
 (oN (.append 31 1 24 (.t 25) (.t 30))),
 (oN (.tk 5 31))] false) [1, 5, 6, 7] 0)
  (.post (.region [
 (oM 32 6),
 (oM 33 32),
    ⟨.mv 34 (.t 1), some (33, false)⟩,
    ⟨.mv 35 (.t 7), some (33, false)⟩,
    ⟨.iaddr 36 1 none (.t 34) (.t 35), some (33, false)⟩,
    ⟨.load 37 false 1 (.t 36), some (33, false)⟩,
    ⟨.len 38 0 (.t 37), some (33, false)⟩,
    ⟨.bin 39 .eql (.t 38) (.c (I 0)), some (33, false)⟩,
 (oN (.pick 40 (.t 33) (.c (.bool true)) (.t 39))),
 (oM 6 40)] false) [1, 5, 6, 7] 0))))
  (.post (.region [
 (oM 16 7),
 (oN (.bin 17 .add (.t 16) (.c (I 1)))),
 (oM 7 17)] false) [1, 5, 6, 7] 0))) [1, 5, 6, 7] 0)
def f_ref_ProofOf_l1 : ICode :=
  (.post (.block 0 (.loop f_ref_ProofOf_b1)) [6] 0)
def f_ref_ProofOf_k1 : ICode :=
  (.seq (.post (.region [
 (oM 41 6),
 (oM 4 41)] false) [4] 0)
  .ret)
def f_ref_ProofOf_0 : ICode :=
  (.seq (.post (.region [
 (oN (.box 2 false false (.t 0))),
 (oN (.mv 4 (.c (.bool false))))] false) [1, 2] 1)
  (.seq (.post (.region [
 (oN (.buildSl 8 1 [])),
 (oF 9 2 1),
 (oL 10 9),
 (oN (.append 11 1 24 (.t 8) (.t 10))),
 (oN (.tk 5 11))] false) [1, 5] 0)
  (.seq (.region [
 (oN (.mv 6 (.c (.bool false))))] false)
  (.seq (.seq (.post (.region [
 (oN (.mv 7 (.c (I 0))))] false) [1, 5, 6, 7] 0)
  (.cut f_ref_ProofOf_l1))
  (.cut f_ref_ProofOf_k1)))))
def f_ref_ProofOf : IFunc := { np := 2, res := [.t 4], own := false, trunc := true, body := f_ref_ProofOf_0 }
/- 167: latchwork/latchworkref.AnswerIs -/
def f_ref_AnswerIs_0 : ICode :=
  (.seq (.post (.region [
 (oN (.box 2 false false (.t 0))),
 (oN (.box 3 false false (.t 1))),
 (oN (.mv 4 (.c (.bool false)))),
 (oN (.mv 5 (.c (I 0))))] false) [2, 3] 2)
  (.seq (.seq (.post (.region [
 (oF 6 3 0),
 (oL 7 6)] false) [2, 3, 7] 2)
  (.block 0 (.seq (.post (.region [
 (oN (.bin 9 .eql (.t 7) (.c (I 1)))),
 (oM 8 9)] false) [2, 3, 7, 8] 2)
  (.cond (.t 8) (.seq (.post (.region [
 (oF 10 3 2),
 (oL 11 10),
 (oN (.len 12 0 (.t 11))),
 (oN (.bin 13 .eql (.t 12) (.c (I 0)))),
 (oM 14 13),
    ⟨.faddr 15 (.t 3) 1, some (14, true)⟩,
    ⟨.load 16 false 1 (.t 15), some (14, true)⟩,
    ⟨.len 17 0 (.t 16), some (14, true)⟩,
    ⟨.faddr 18 (.t 2) 0, some (14, true)⟩,
    ⟨.load 19 false 1 (.t 18), some (14, true)⟩,
    ⟨.bin 20 .eql (.t 17) (.t 19), some (14, true)⟩,
 (oN (.pick 21 (.t 14) (.t 20) (.c (.bool false)))),
 (oM 22 21),
    ⟨.load 23 true 2 (.t 2), some (22, true)⟩,
    ⟨.faddr 24 (.t 3) 1, some (22, true)⟩,
    ⟨.load 25 false 1 (.t 24), some (22, true)⟩,
    ⟨.call (some 26) true 168 [(.t 23), (.t 25)], some (22, true)⟩,
 (oN (.pick 27 (.t 22) (.t 26) (.c (.bool false)))),
 (oM 4 27),
 (oN (.mv 5 (.c (I 0))))] false) [4, 5] 0)
  .ret)
  (.seq (.post (.region [
 (oN (.bin 29 .eql (.t 7) (.c (I 2)))),
 (oM 28 29)] false) [2, 3, 7, 28] 2)
  (.cond (.t 28) (.seq (.post (.region [
 (oF 30 3 1),
 (oL 31 30),
 (oN (.len 32 0 (.t 31))),
 (oN (.bin 33 .eql (.t 32) (.c (I 0)))),
 (oM 34 33),
    ⟨.load 35 true 2 (.t 2), some (34, true)⟩,
    ⟨.faddr 36 (.t 3) 2, some (34, true)⟩,
    ⟨.load 37 false 1 (.t 36), some (34, true)⟩,
    ⟨.call (some 38) true 150 [(.t 35), (.t 37)], some (34, true)⟩,
    ⟨.bin 39 .eql (.t 38) (.c (I 0)), some (34, true)⟩,
 (oN (.pick 40 (.t 34) (.t 39) (.c (.bool false)))),
 (oM 41 40),
    ⟨.load 42 true 2 (.t 2), some (41, true)⟩,
    ⟨.faddr 43 (.t 3) 2, some (41, true)⟩,
    ⟨.load 44 false 1 (.t 43), some (41, true)⟩,
    ⟨.call (some 45) true 151 [(.t 42), (.t 44)], some (41, true)⟩,
 (oN (.pick 46 (.t 41) (.t 45) (.c (.bool false)))),
 (oM 4 46),
 (oN (.mv 5 (.c (I 0))))] false) [4, 5] 0)
  .ret)
  (.seq (.post (.region [
 (oN (.bin 48 .eql (.t 7) (.c (I 3)))),
 (oM 47 48)] false) [3, 47] 2)
  (.cond (.t 47) (.seq (.post (.region [
 (oF 49 3 1),
 (oL 50 49),
 (oN (.len 51 0 (.t 50))),
 (oN (.bin 52 .eql (.t 51) (.c (I 0)))),
 (oM 53 52),
    ⟨.faddr 54 (.t 3) 2, some (53, true)⟩,
    ⟨.load 55 false 1 (.t 54), some (53, true)⟩,
    ⟨.len 56 0 (.t 55), some (53, true)⟩,
    ⟨.bin 57 .eql (.t 56) (.c (I 0)), some (53, true)⟩,
 (oN (.pick 58 (.t 53) (.t 57) (.c (.bool false)))),
 (oM 4 58),
 (oN (.mv 5 (.c (I 0))))] false) [4, 5] 0)
  .ret)
  .skip))))))))
  (.seq (.post (.region [
 (oN (.mv 4 (.c (.bool false)))),
 (oN (.mv 5 (.c (I 7))))] false) [4, 5] 0)
  .ret)))
def f_ref_AnswerIs : IFunc := { np := 2, res := [.t 4, .t 5], own := false, trunc := true, body := f_ref_AnswerIs_0 }
/- 168: latchwork/latchworkref.HoldsOf -/
def f_ref_HoldsOf_k1 : ICode :=
  (.post (.region [
 (oM 24 7),
 (oN (.bin 25 .add (.t 24) (.c (I 1)))),
 (oM 7 25)] false) [1, 2, 5, 6, 7] 1)
def f_ref_HoldsOf_b2 : ICode :=
  (.post (.seq (.seq (.post (.region [
 (oM 16 7),
 (oF 17 2 1),
 (oL 18 17),
 (oM 19 5),
 (oA 20 18 19),
 (oL 21 20),
 (oN (.len 22 0 (.t 21))),
 (oN (.bin 23 .lss (.t 16) (.t 22)))] false) [1, 2, 5, 6, 7, 23] 1)
  (.cond (.t 23) .skip
  (.exit 2)))
  (.seq (.block 3 (.seq (.post (.region [
 (oF 26 2 1),
 (oL 27 26),
 (oM 28 5),
 (oA 29 27 28),
 (oL 30 29),
 (oM 31 7),
 (oA 32 30 31),
 (oL 33 32),
 (oM 8 33)] false) [1, 2, 5, 6, 7, 8] 1)
  (.seq (.post (.region [
 (oM 34 8),
 (oN (.bin 35 .gtr (.t 34) (.c (I 0))))] false) [1, 2, 5, 6, 7, 8, 35] 1)
  (.cond (.t 35) (.post (.post (.region [
 (oM 36 6),
 (oM 37 36),
    ⟨.mv 38 (.t 1), some (37, false)⟩,
    ⟨.mv 39 (.t 8), some (37, false)⟩,
    ⟨.bin 40 .sub (.t 39) (.c (I 1)), some (37, false)⟩,
    ⟨.iaddr 41 1 none (.t 38) (.t 40), some (37, false)⟩,
    ⟨.load 42 false 1 (.t 41), some (37, false)⟩,
 (oN (.pick 43 (.t 37) (.c (.bool true)) (.t 42))),
 (oM 6 43)] false) [1, 2, 5, 6, 7] 1) [1, 2, 5, 6, 7] 1)
  (.post (.post (.region [
 (oM 44 6),
 (oM 45 44),
    ⟨.mv 46 (.t 1), some (45, false)⟩,
    ⟨.mv 47 (.t 8), some (45, false)⟩,
    ⟨.un 48 .neg (.t 47), some (45, false)⟩,
    ⟨.bin 49 .sub (.t 48) (.c (I 1)), some (45, false)⟩,
    ⟨.iaddr 50 1 none (.t 46) (.t 49), some (45, false)⟩,
    ⟨.load 51 false 1 (.t 50), some (45, false)⟩,
    ⟨.un 52 .not (.t 51), some (45, false)⟩,
 (oN (.pick 53 (.t 45) (.c (.bool true)) (.t 52))),
 (oM 6 53)] false) [1, 2, 5, 6, 7] 1) [1, 2, 5, 6, 7] 1)))))
  (.cut f_ref_HoldsOf_k1))) [1, 2, 5, 6, 7] 1)
def f_ref_HoldsOf_l2 : ICode :=
  (.post (.block 2 (.loop f_ref_HoldsOf_b2)) [1, 2, 5, 6] 1)
def f_ref_HoldsOf_k2 : ICode :=
  (.seq (.post (.region [
 (oM 54 6),
 (oN (.un 55 .not (.t 54)))] false) [1, 2, 5, 55] 1)
  (.cond (.t 55) (.seq (.post (.region [
 (oN (.mv 4 (.c (.bool false))))] false) [4] 0)
  .ret)
  .skip))
def f_ref_HoldsOf_k3 : ICode :=
  (.post (.region [
 (oM 14 5),
 (oN (.bin 15 .add (.t 14) (.c (I 1)))),
 (oM 5 15)] false) [1, 2, 5] 1)
def f_ref_HoldsOf_b1 : ICode :=
  (.post (.seq (.seq (.post (.region [
 (oM 9 5),
 (oF 10 2 1),
 (oL 11 10),
 (oN (.len 12 0 (.t 11))),
 (oN (.bin 13 .lss (.t 9) (.t 12)))] false) [1, 2, 5, 13] 1)
  (.cond (.t 13) .skip
  (.exit 0)))
  (.seq (.block 1 (.seq (.post (.region [
 (oN (.mv 6 (.c (.bool false))))] false) [1, 2, 5, 6] 1)
  (.seq (.seq (.post (.region [
 (oN (.mv 7 (.c (I 0))))] false) [1, 2, 5, 6, 7] 1)
  (.cut f_ref_HoldsOf_l2))
  (.cut f_ref_HoldsOf_k2))))
  (.cut f_ref_HoldsOf_k3))) [1, 2, 5] 1)
def f_ref_HoldsOf_l1 : ICode :=
  (.post (.block 0 (.loop f_ref_HoldsOf_b1)) [] 0)
def f_ref_HoldsOf_k4 : ICode :=
  (.seq (.region [
 (oN (.mv 4 (.c (.bool true))))] false)
  .ret)
def f_ref_HoldsOf_0 : ICode :=
  (.seq (.post (.region [
 (oN (.box 2 false false (.t 0))),
 (oN (.mv 4 (.c (.bool false))))] false) [1, 2] 1)
  (.seq (.seq (.post (.region [
 (oN (.mv 5 (.c (I 0))))] false) [1, 2, 5] 1)
  (.cut f_ref_HoldsOf_l1))
  (.cut f_ref_HoldsOf_k4)))
def f_ref_HoldsOf : IFunc := { np := 2, res := [.t 4], own := false, trunc := true, body := f_ref_HoldsOf_0 }
/- 213: latchwork/latchworkref.CheckCircuit -/
/- 321: latchwork/latchworkref.WaysOf -/
/- 322: latchwork/latchworkref.Layers -/
/- 323: latchwork/latchworkref.NumberOf -/
/- 324: latchwork/latchworkref.ExploreOf -/
/- 326: latchwork/latchworkref.WordsOf -/
/- 327: latchwork/latchworkref.BitsOf -/
/- 330: latchwork/latchworkref.CheckSteps -/
/- 331: latchwork/latchworkref.StepClauses -/
/- 338: latchwork/latchworkref.StepClauses$1 -/
/- 339: latchwork/latchworkref.StepClauses$2 -/
end Go.Lw
end

/-! The code of package Search for the small machine. Written by program (gen.py). -/
section
set_option maxRecDepth 10000
namespace Go.Lw
open Go
/- 163: latchwork/search.Solve -/
def f_search_Solve_k1 : ICode :=
  (.seq (.post (.region [
 (oN (.load 33 true 3 (.t 7))),
 (oN (.store true 3 (.t 4) (.t 33))),
 (oN (.mv 5 (.c (I 0))))] false) [4, 5] 2)
  .ret)
def f_search_Solve_0 : ICode :=
  (.seq (.post (.region [
 (oN (.box 2 false false (.t 0))),
 (oN (.alloc 4 false (.agg [I 0, .sl true 1 [], .sl true 1 []]))),
 (oN (.mv 5 (.c (I 0))))] false) [1, 2, 4] 2)
  (.seq (.seq (.post (.region [
 (oN (.load 8 true 2 (.t 2))),
 (oN (.call (some 9) true 59 [(.t 8)])),
 (oM 6 9)] false) [1, 2, 4, 6] 2)
  (.seq (.post (.region [
 (oM 10 6),
 (oN (.bin 11 .neq (.t 10) (.c (I 0))))] false) [1, 2, 4, 6, 11] 2)
  (.cond (.t 11) (.seq (.post (.region [
 (oN (.build 12 [I 0, .sl true 1 [], .sl true 1 []] [])),
 (oM 13 6),
 (oN (.store true 3 (.t 4) (.t 12))),
 (oM 5 13)] false) [4, 5] 2)
  .ret)
  .skip)))
  (.seq (.seq (.post (.region [
 (oM 14 1),
 (oN (.bin 15 .lss (.t 14) (.c (I 0)))),
 (oM 16 15),
    ⟨.mv 17 (.t 1), some (16, false)⟩,
    ⟨.bin 18 .gtr (.t 17) (.c (I 1000000)), some (16, false)⟩,
 (oN (.pick 19 (.t 16) (.c (.bool true)) (.t 18)))] false) [1, 2, 4, 19] 2)
  (.cond (.t 19) (.seq (.post (.region [
 (oN (.build 20 [I 0, .sl true 1 [], .sl true 1 []] [])),
 (oN (.store true 3 (.t 4) (.t 20))),
 (oN (.mv 5 (.c (I 3))))] false) [4, 5] 2)
  .ret)
  .skip))
  (.seq (.post (.region [
 (oN (.load 21 true 2 (.t 2))),
 (oM 22 1),
 (oN (.call (some 23) false 164 [(.t 21), (.t 22)])),
 (oN (.alloc 7 false (.agg [I 0, .sl true 1 [], .sl true 1 []]))),
 (oN (.store true 3 (.t 7) (.t 23)))] false) [2, 4, 7] 3)
  (.seq (.seq (.post (.region [
 (oF 24 2 1),
 (oL 25 24),
 (oN (.len 26 0 (.t 25))),
 (oF 27 7 2),
 (oL 28 27),
 (oN (.len 29 0 (.t 28))),
 (oN (.bin 30 .add (.t 26) (.t 29))),
 (oN (.bin 31 .gtr (.t 30) (.c (I 800000))))] false) [4, 7, 31] 3)
  (.cond (.t 31) (.post (.post (.region [
 (oN (.buildT 32 [I 0, .sl true 1 [], .sl true 1 []] [(0, 1, (.c (I 3)))])),
 (oN (.store true 3 (.t 7) (.t 32)))] false) [4, 7] 3) [4, 7] 3)
  (.post .skip [4, 7] 3)))
  (.cut f_search_Solve_k1))))))
def f_search_Solve : IFunc := { np := 2, res := [.cell 4 true 3, .t 5], own := false, trunc := false, body := f_search_Solve_0 }
/- 164: latchwork/search.Raw -/
def f_search_Raw_0 : ICode :=
  (.seq (.post (.region [
 (oN (.box 2 false false (.t 0))),
 (oN (.alloc 4 false (.agg [I 0, .sl true 1 [], .sl true 1 []])))] false) [1, 2, 4] 2)
  (.seq (.post (.region [
 (oN (.load 5 true 2 (.t 2))),
 (oM 6 1),
 (oN (.call (some 7) false 169 [(.t 5), (.t 6)])),
 (oN (.call (some 8) false 170 [(.t 7)])),
 (oN (.store true 3 (.t 4) (.t 8)))] false) [4] 2)
  .ret))
def f_search_Raw : IFunc := { np := 2, res := [.cell 4 true 3], own := false, trunc := false, body := f_search_Raw_0 }
/- 166: latchwork/search.Is -/
def f_search_Is_0 : ICode :=
  (.seq (.post (.region [
 (oN (.box 2 false false (.t 0))),
 (oN (.box 3 false false (.t 1))),
 (oN (.mv 4 (.c (.bool false)))),
 (oN (.mv 5 (.c (I 0))))] false) [2, 3] 2)
  (.seq (.seq (.post (.region [
 (oN (.load 9 true 2 (.t 2))),
 (oN (.call (some 10) true 59 [(.t 9)])),
 (oM 6 10)] false) [2, 3, 6] 2)
  (.seq (.post (.region [
 (oM 11 6),
 (oN (.bin 12 .neq (.t 11) (.c (I 0))))] false) [2, 3, 6, 12] 2)
  (.cond (.t 12) (.seq (.post (.region [
 (oM 13 6),
 (oN (.mv 4 (.c (.bool false)))),
 (oM 5 13)] false) [4, 5] 0)
  .ret)
  .skip)))
  (.seq (.seq (.post (.region [
 (oF 14 3 0),
 (oL 15 14)] false) [2, 3, 15] 2)
  (.block 0 (.seq (.post (.region [
 (oN (.bin 17 .eql (.t 15) (.c (I 1)))),
 (oM 16 17)] false) [2, 3, 15, 16] 2)
  (.cond (.t 16) (.seq (.post (.region [
 (oF 18 3 2),
 (oL 19 18),
 (oN (.len 20 0 (.t 19))),
 (oN (.bin 21 .eql (.t 20) (.c (I 0)))),
 (oM 22 21),
    ⟨.faddr 23 (.t 3) 1, some (22, true)⟩,
    ⟨.load 24 false 1 (.t 23), some (22, true)⟩,
    ⟨.len 25 0 (.t 24), some (22, true)⟩,
    ⟨.faddr 26 (.t 2) 0, some (22, true)⟩,
    ⟨.load 27 false 1 (.t 26), some (22, true)⟩,
    ⟨.bin 28 .eql (.t 25) (.t 27), some (22, true)⟩,
 (oN (.pick 29 (.t 22) (.t 28) (.c (.bool false)))),
 (oM 30 29),
    ⟨.load 31 true 2 (.t 2), some (30, true)⟩,
    ⟨.faddr 32 (.t 3) 1, some (30, true)⟩,
    ⟨.load 33 false 1 (.t 32), some (30, true)⟩,
    ⟨.call (some 34) true 70 [(.t 31), (.t 33)], some (30, true)⟩,
 (oN (.pick 35 (.t 30) (.t 34) (.c (.bool false)))),
 (oM 4 35),
 (oN (.mv 5 (.c (I 0))))] false) [4, 5] 0)
  .ret)
  (.seq (.post (.region [
 (oN (.bin 37 .eql (.t 15) (.c (I 2)))),
 (oM 36 37)] false) [2, 3, 15, 36] 2)
  (.cond (.t 36) (.seq (.post (.region [
 (oN (.load 39 true 2 (.t 2))),
 (oF 40 3 2),
 (oL 41 40),
 (oN (.call (some 42) true 149 [(.t 39), (.t 41)])),
 (oM 38 42),
 (oN (.extract 43 (.t 38) 0)),
 (oN (.extract 44 (.t 38) 1)),
 (oM 7 43),
 (oM 8 44)] false) [3, 7, 8] 2)
  (.seq (.post (.region [
 (oF 45 3 1),
 (oL 46 45),
 (oN (.len 47 0 (.t 46))),
 (oN (.bin 48 .eql (.t 47) (.c (I 0)))),
 (oM 49 48),
    ⟨.mv 50 (.t 7), some (49, true)⟩,
 (oN (.pick 51 (.t 49) (.t 50) (.c (.bool false)))),
 (oM 52 51),
    ⟨.mv 53 (.t 8), some (52, true)⟩,
    ⟨.bin 54 .eql (.t 53) (.c (I 0)), some (52, true)⟩,
 (oN (.pick 55 (.t 52) (.t 54) (.c (.bool false)))),
 (oM 4 55),
 (oN (.mv 5 (.c (I 0))))] false) [4, 5] 0)
  .ret))
  (.seq (.post (.region [
 (oN (.bin 57 .eql (.t 15) (.c (I 3)))),
 (oM 56 57)] false) [3, 56] 2)
  (.cond (.t 56) (.seq (.post (.region [
 (oF 58 3 1),
 (oL 59 58),
 (oN (.len 60 0 (.t 59))),
 (oF 61 3 2),
 (oL 62 61),
 (oN (.len 63 0 (.t 62))),
 (oN (.bin 64 .add (.t 60) (.t 63))),
 (oN (.bin 65 .eql (.t 64) (.c (I 0)))),
 (oM 4 65),
 (oN (.mv 5 (.c (I 0))))] false) [4, 5] 0)
  .ret)
  .skip))))))))
  (.seq (.post (.region [
 (oN (.mv 4 (.c (.bool false)))),
 (oN (.mv 5 (.c (I 7))))] false) [4, 5] 0)
  .ret))))
def f_search_Is : IFunc := { np := 2, res := [.t 4, .t 5], own := false, trunc := true, body := f_search_Is_0 }
/- 169: latchwork/search.begin -/
def f_search_begin_k1 : ICode :=
  (.post (.region [
 (oN (.bin 82 .add (.t 28) (.c (I 1)))),
 (oM 28 82)] false) [6, 26, 27, 28] 0)
def f_search_begin_b1 : ICode :=
  (.post (.seq (.region [
 (oN (.bin 29 .lss (.t 28) (.t 27)))] false)
  (.seq (.cond (.t 29) .skip
  (.exit 0))
  (.seq (.post (.block 1 (.seq (.post (.region [
 (oA 30 26 28),
 (oL 31 30),
 (oN (.alloc 8 true (.nils))),
 (oN (.store true 1 (.t 8) (.t 31)))] false) [6, 8, 26, 27, 28] 0)
  (.seq (.post (.region [
 (oL 32 8),
 (oN (.call (some 33) false 121 [(.t 32)])),
 (oN (.store true 1 (.t 8) (.t 33)))] false) [6, 8, 26, 27, 28] 0)
  (.seq (.post (.region [
 (oL 34 8),
 (oN (.call (some 35) false 161 [(.t 34)]))] false) [6, 8, 26, 27, 28] 0)
  (.seq (.post (.region [
 (oL 36 8),
 (oN (.call (some 37) false 162 [(.t 36)])),
 (oN (.store true 1 (.t 8) (.t 37)))] false) [6, 8, 26, 27, 28] 0)
  (.seq (.seq (.post (.region [
 (oL 38 8),
 (oN (.mkfn 39 171 [(.t 8)])),
 (oN (.call (some 40) false 172 [(.t 38), (.t 39)]))] false) [6, 8, 26, 27, 28, 40] 0)
  (.cond (.t 40) (.exit 1)
  .skip))
  (.seq (.post (.region [
 (oM 41 6),
 (oL 42 8),
 (oN (.call (some 43) false 173 [(.t 41), (.t 42)])),
 (oM 9 43)] false) [6, 8, 9, 26, 27, 28] 0)
  (.block 2 (.seq (.post (.region [
 (oL 45 8),
 (oN (.len 46 0 (.t 45))),
 (oN (.bin 47 .eql (.t 46) (.c (I 0)))),
 (oM 48 47),
    ⟨.load 49 false 1 (.t 8), some (48, false)⟩,
    ⟨.len 50 0 (.t 49), some (48, false)⟩,
    ⟨.bin 51 .eql (.t 50) (.c (I 1)), some (48, false)⟩,
    ⟨.mv 52 (.t 51), some (48, false)⟩,
    ⟨.mv 53 (.t 6), some (52, true)⟩,
    ⟨.load 54 false 1 (.t 8), some (52, true)⟩,
    ⟨.iaddr 55 1 none (.t 54) (.c (I 0)), some (52, true)⟩,
    ⟨.loadK 56 (.t 55), some (52, true)⟩,
    ⟨.call (some 57) true 174 [(.t 53), (.t 56)], some (52, true)⟩,
    ⟨.bin 58 .lss (.t 57) (.c (I 0)), some (52, true)⟩,
    ⟨.pick 59 (.t 52) (.t 58) (.c (.bool false)), some (48, false)⟩,
 (oN (.pick 60 (.t 48) (.c (.bool true)) (.t 59))),
 (oM 44 60)] false) [6, 8, 9, 26, 27, 28, 44] 0)
  (.cond (.t 44) (.post (.post (.region [
 (oM 61 6),
 (oC 62 61),
 (oF 63 62 12),
 (oN (.store false 1 (.t 63) (.c (.bool true))))] false) [6, 26, 27, 28] 0) [6, 26, 27, 28] 0)
  (.post (.seq (.post (.region [
 (oL 65 8),
 (oN (.len 66 0 (.t 65))),
 (oN (.bin 67 .eql (.t 66) (.c (I 1)))),
 (oM 68 67),
    ⟨.mv 69 (.t 6), some (68, true)⟩,
    ⟨.load 70 false 1 (.t 8), some (68, true)⟩,
    ⟨.iaddr 71 1 none (.t 70) (.c (I 0)), some (68, true)⟩,
    ⟨.loadK 72 (.t 71), some (68, true)⟩,
    ⟨.call (some 73) true 174 [(.t 69), (.t 72)], some (68, true)⟩,
    ⟨.bin 74 .eql (.t 73) (.c (I 0)), some (68, true)⟩,
 (oN (.pick 75 (.t 68) (.t 74) (.c (.bool false)))),
 (oM 64 75)] false) [6, 8, 9, 26, 27, 28, 64] 0)
  (.cond (.t 64) (.post (.post (.region [
 (oM 76 6),
 (oL 77 8),
 (oN (.iaddr 78 1 none (.t 77) (.c (I 0)))),
 (oN (.loadK 79 (.t 78))),
 (oM 80 9),
 (oN (.call (some 81) false 175 [(.t 76), (.t 79), (.t 80)]))] false) [6, 26, 27, 28] 0) [6, 26, 27, 28] 0)
  (.post .skip [6, 26, 27, 28] 0))) [6, 26, 27, 28] 0))))))))))) [6, 26, 27, 28] 0)
  (.cut f_search_begin_k1)))) [6, 26, 27, 28] 0)
def f_search_begin_l1 : ICode :=
  (.post (.block 0 (.loop f_search_begin_b1)) [6] 0)
def f_search_begin_k2 : ICode :=
  (.seq (.post (.region [
 (oM 83 6),
 (oM 4 83)] false) [4] 0)
  .ret)
def f_search_begin_0 : ICode :=
  (.seq (.post (.region [
 (oN (.box 2 false false (.t 0))),
 (oN (.mv 4 (.c (.nilp))))] false) [1, 2] 1)
  (.seq (.post (.region [
 (oF 10 2 0),
 (oL 11 10),
 (oN (.bin 12 .add (.t 11) (.c (I 1)))),
 (oM 5 12)] false) [1, 2, 5] 1)
  (.seq (.post (.region [
 (oF 13 2 0),
 (oL 14 13),
 (oN (.mkmap 15)),
 (oM 16 5),
 (oN (.mkarr 17 1 8 (I 0) (.t 16))),
 (oM 18 5),
 (oN (.mkarr 19 1 8 (I 0) (.t 18))),
 (oM 20 5),
 (oN (.mkarr 21 1 8 (I 0) (.t 20))),
 (oM 22 1),
 (oN (.buildA 23 [I 0, .sl true 1 [], .nilm, .nils, .nils, .nils, .nils, .nils, I 0, I 0, I 0, .sl true 1 [], .bool false] [(0, 1, (.t 14)), (2, 1, (.t 15)), (3, 1, (.t 17)), (4, 1, (.t 19)), (5, 1, (.t 21)), (10, 1, (.t 22))])),
 (oN (.box 24 true true (.t 23))),
 (oM 6 24)] true) [2, 6] 1)
  (.seq (.seq (.post (.region [
 (oF 25 2 1),
 (oL 26 25),
 (oN (.len 27 0 (.t 26))),
 (oN (.mv 28 (.c (I 0))))] false) [6, 26, 27, 28] 0)
  (.cut f_search_begin_l1))
  (.cut f_search_begin_k2)))))
def f_search_begin : IFunc := { np := 2, res := [.t 4], own := false, trunc := false, body := f_search_begin_0 }
/- 170: (*latchwork/search.searcher).run -/
def f_search_searcher_run_b2 : ICode :=
  (.post (.seq (.region [
 (oN (.bin 28 .lss (.t 27) (.t 26)))] false)
  (.seq (.cond (.t 28) .skip
  (.exit 2))
  (.seq (.block 3 (.seq (.post (.region [
 (oM 29 27),
 (oM 5 29)] false) [0, 2, 4, 5, 26, 27] 1)
  (.post (.region [
 (oM 30 4),
 (oM 31 5),
 (oM 32 0),
 (oC 33 32),
 (oF 34 33 3),
 (oL 35 34),
 (oM 36 5),
 (oN (.bin 37 .add (.t 36) (.c (I 1)))),
 (oA 38 35 37),
 (oL 39 38),
 (oN (.bin 40 .gtr (.t 39) (.c (I 0)))),
 (oA 41 30 31),
 (oN (.store false 1 (.t 41) (.t 40)))] false) [0, 2, 4, 26, 27] 1)))
  (.post (.region [
 (oN (.bin 42 .add (.t 27) (.c (I 1)))),
 (oM 27 42)] false) [0, 2, 4, 26, 27] 1)))) [0, 2, 4, 26, 27] 1)
def f_search_searcher_run_l2 : ICode :=
  (.post (.block 2 (.loop f_search_searcher_run_b2)) [2, 4] 1)
def f_search_searcher_run_k1 : ICode :=
  (.seq (.post (.region [
 (oM 43 4),
 (oN (.buildT 44 [I 0, .sl true 1 [], .sl true 1 []] [(0, 1, (.c (I 1))), (1, 1, (.t 43))])),
 (oN (.store true 3 (.t 2) (.t 44)))] false) [2] 1)
  .ret)
def f_search_searcher_run_k2 : ICode :=
  (.seq (.seq (.post (.region [
 (oM 45 0),
 (oC 46 45),
 (oF 47 46 7),
 (oL 48 47),
 (oN (.len 49 0 (.t 48))),
 (oN (.bin 50 .eql (.t 49) (.c (I 0))))] false) [0, 2, 3, 50] 1)
  (.cond (.t 50) (.seq (.post (.region [
 (oM 51 0),
 (oN (.call (some 52) false 176 [(.t 51)])),
 (oN (.store true 3 (.t 2) (.t 52)))] false) [2] 1)
  .ret)
  .skip))
  (.seq (.seq (.post (.region [
 (oM 53 0),
 (oC 54 53),
 (oF 55 54 10),
 (oL 56 55),
 (oN (.bin 57 .sub (.t 56) (.c (I 1)))),
 (oC 58 53),
 (oF 59 58 10),
 (oN (.store false 1 (.t 59) (.t 57)))] false) [0, 2, 3] 1)
  (.seq (.post (.region [
 (oM 60 0),
 (oC 61 60),
 (oF 62 61 10),
 (oL 63 62),
 (oN (.bin 64 .lss (.t 63) (.c (I 0))))] false) [0, 2, 3, 64] 1)
  (.cond (.t 64) (.seq (.post (.region [
 (oN (.buildT 65 [I 0, .sl true 1 [], .sl true 1 []] [(0, 1, (.c (I 3)))])),
 (oN (.store true 3 (.t 2) (.t 65)))] false) [2] 1)
  .ret)
  .skip)))
  (.seq (.post (.region [
 (oM 67 0),
 (oM 68 3),
 (oN (.call (some 69) false 179 [(.t 67), (.t 68)])),
 (oM 66 69),
 (oN (.extract 70 (.t 66) 0)),
 (oN (.extract 71 (.t 66) 1)),
 (oN (.tk 6 70)),
 (oM 7 71)] false) [0, 2, 6, 7] 1)
  (.seq (.seq (.post (.region [
 (oM 72 6),
 (oN (.len 73 0 (.t 72))),
 (oN (.bin 74 .gtr (.t 73) (.c (I 200)))),
 (oM 75 74),
    ⟨.mv 76 (.t 0), some (75, false)⟩,
    ⟨.nilc 77 (.t 76), some (75, false)⟩,
    ⟨.faddr 78 (.t 77) 11, some (75, false)⟩,
    ⟨.load 79 false 1 (.t 78), some (75, false)⟩,
    ⟨.len 80 0 (.t 79), some (75, false)⟩,
    ⟨.bin 81 .gtr (.t 80) (.c (I 400000)), some (75, false)⟩,
 (oN (.pick 82 (.t 75) (.c (.bool true)) (.t 81)))] false) [0, 2, 6, 7, 82] 1)
  (.cond (.t 82) (.seq (.post (.region [
 (oN (.buildT 83 [I 0, .sl true 1 [], .sl true 1 []] [(0, 1, (.c (I 3)))])),
 (oN (.store true 3 (.t 2) (.t 83)))] false) [2] 1)
  .ret)
  .skip))
  (.seq (.post (.region [
 (oM 84 0),
 (oM 85 0),
 (oC 86 85),
 (oF 87 86 11),
 (oN (.loadTB 88 (.t 87) 0 11)),
 (oM 89 6),
 (oN (.callR (some 90) 121 [(.t 89)] 0 11)),
 (oN (.buildSl 91 1 [(.t 90)])),
 (oN (.append 92 1 24 (.t 88) (.t 91))),
 (oC 93 84),
 (oF 94 93 11),
 (oN (.store true 1 (.t 94) (.t 92)))] true) [0, 2, 6, 7] 1)
  (.seq (.post (.region [
 (oM 95 0),
 (oM 96 7),
 (oN (.call (some 97) false 180 [(.t 95), (.t 96)]))] false) [0, 2, 6] 1)
  (.post (.region [
 (oM 98 0),
 (oM 99 6),
 (oN (.iaddr 100 1 none (.t 99) (.c (I 0)))),
 (oN (.loadKB 101 (.t 100) 6)),
 (oM 102 0),
 (oM 103 6),
 (oN (.callP (some 104) 173 [(.t 102), (.t 103)] [6])),
 (oN (.call (some 105) false 175 [(.t 98), (.t 101), (.t 104)]))] true) [0, 2] 1)))))))
def f_search_searcher_run_b1 : ICode :=
  (.post (.block 1 (.seq (.post (.region [
 (oM 14 0),
 (oN (.call (some 15) false 177 [(.t 14)])),
 (oM 3 15)] false) [0, 2, 3] 1)
  (.seq (.seq (.post (.region [
 (oM 16 3),
 (oN (.bin 17 .lss (.t 16) (.c (I 0))))] false) [0, 2, 3, 17] 1)
  (.cond (.t 17) (.seq (.seq (.post (.region [
 (oM 18 0),
 (oN (.call (some 19) false 178 [(.t 18)]))] false) [0, 2, 19] 1)
  (.cond (.t 19) (.exit 1)
  .skip))
  (.seq (.post (.region [
 (oM 20 0),
 (oC 21 20),
 (oF 22 21 0),
 (oL 23 22),
 (oN (.mksl 24 true 1 1 (.bool false) (.t 23))),
 (oN (.tk 4 24))] false) [0, 2, 4] 1)
  (.seq (.seq (.post (.region [
 (oM 25 4),
 (oN (.len 26 0 (.t 25))),
 (oN (.mv 27 (.c (I 0))))] false) [0, 2, 4, 26, 27] 1)
  (.cut f_search_searcher_run_l2))
  (.cut f_search_searcher_run_k1))))
  .skip))
  (.cut f_search_searcher_run_k2)))) [0, 2, 11] 1)
def f_search_searcher_run_l1 : ICode :=
  (.post (.block 0 (.loop f_search_searcher_run_b1)) [2] 1)
def f_search_searcher_run_0 : ICode :=
  (.seq (.region [
 (oN (.alloc 2 false (.agg [I 0, .sl true 1 [], .sl true 1 []])))] false)
  (.seq (.seq (.post (.region [
 (oM 8 0),
 (oC 9 8),
 (oF 10 9 12),
 (oL 11 10)] false) [0, 2, 11] 1)
  (.cond (.t 11) (.seq (.post (.region [
 (oM 12 0),
 (oN (.call (some 13) false 176 [(.t 12)])),
 (oN (.store true 3 (.t 2) (.t 13)))] false) [2] 1)
  .ret)
  .skip))
  (.cut f_search_searcher_run_l1)))
def f_search_searcher_run : IFunc := { np := 1, res := [.cell 2 true 3], own := false, trunc := false, body := f_search_searcher_run_0 }
/- 171: latchwork/search.begin$1 -/
def f_search_begin_1_0 : ICode :=
  (.seq (.post (.region [
 (oN (.mv 3 (.c (.bool false))))] false) [0, 1] 0)
  (.seq (.post (.region [
 (oL 4 1),
 (oM 5 0),
 (oN (.un 6 .neg (.t 5))),
 (oN (.call (some 7) false 184 [(.t 4), (.t 6)])),
 (oM 3 7)] false) [3] 0)
  .ret))
def f_search_begin_1 : IFunc := { np := 2, res := [.t 3], own := false, trunc := false, body := f_search_begin_1_0 }
/- 173: (*latchwork/search.searcher).add -/
def f_search_searcher_add_k1 : ICode :=
  (.seq (.post (.region [
 (oM 60 5),
 (oM 4 60)] false) [4] 0)
  .ret)
def f_search_searcher_add_0 : ICode :=
  (.seq (.post (.region [
 (oN (.mv 4 (.c (I 0))))] false) [0, 1] 0)
  (.seq (.post (.region [
 (oM 6 0),
 (oC 7 6),
 (oF 8 7 1),
 (oL 9 8),
 (oN (.len 10 0 (.t 9))),
 (oM 5 10)] false) [0, 1, 5] 0)
  (.seq (.post (.region [
 (oM 11 0),
 (oM 12 0),
 (oC 13 12),
 (oF 14 13 1),
 (oN (.loadT 15 (.t 14))),
 (oM 16 1),
 (oN (.buildSl 17 1 [(.t 16)])),
 (oN (.append 18 1 24 (.t 15) (.t 17))),
 (oC 19 11),
 (oF 20 19 1),
 (oN (.store true 1 (.t 20) (.t 18)))] false) [0, 1, 5] 0)
  (.seq (.seq (.post (.region [
 (oM 21 1),
 (oN (.len 22 0 (.t 21))),
 (oN (.bin 23 .gtr (.t 22) (.c (I 1))))] false) [0, 1, 5, 23] 0)
  (.cond (.t 23) (.post (.seq (.post (.region [
 (oM 24 0),
 (oC 25 24),
 (oF 26 25 2),
 (oL 27 26),
 (oM 28 1),
 (oN (.iaddr 29 1 none (.t 28) (.c (I 0)))),
 (oN (.loadKB 30 (.t 29) 1)),
 (oM 31 0),
 (oC 32 31),
 (oF 33 32 2),
 (oL 34 33),
 (oM 35 1),
 (oN (.iaddr 36 1 none (.t 35) (.c (I 0)))),
 (oN (.loadK 37 (.t 36))),
 (oN (.lookup 38 0 (.t 34) (.t 37) false (.nils))),
 (oM 39 5),
 (oN (.buildSl 40 1 [(.t 39)])),
 (oN (.appendP 41 8 (.t 38) (.t 40) [1])),
 (oN (.mupd 0 (.t 27) (.t 30) (.t 41)))] true) [0, 1, 5] 0)
  (.post (.region [
 (oM 42 0),
 (oC 43 42),
 (oF 44 43 2),
 (oL 45 44),
 (oM 46 1),
 (oN (.iaddr 47 1 none (.t 46) (.c (I 1)))),
 (oN (.loadKB 48 (.t 47) 1)),
 (oM 49 0),
 (oC 50 49),
 (oF 51 50 2),
 (oL 52 51),
 (oM 53 1),
 (oN (.iaddr 54 1 none (.t 53) (.c (I 1)))),
 (oN (.loadK 55 (.t 54))),
 (oN (.lookup 56 0 (.t 52) (.t 55) false (.nils))),
 (oM 57 5),
 (oN (.buildSl 58 1 [(.t 57)])),
 (oN (.appendP 59 8 (.t 56) (.t 58) [1])),
 (oN (.mupd 0 (.t 45) (.t 48) (.t 59)))] true) [5] 0)) [5] 0)
  (.post .skip [5] 0)))
  (.cut f_search_searcher_add_k1)))))
def f_search_searcher_add : IFunc := { np := 2, res := [.t 4], own := false, trunc := false, body := f_search_searcher_add_0 }
/- 174: (*latchwork/search.searcher).is -/
def f_search_searcher_is_0 : ICode :=
  (.seq (.post (.region [
 (oN (.mv 4 (.c (I 0))))] false) [0, 1] 0)
  (.seq (.seq (.post (.region [
 (oM 5 1),
 (oN (.bin 6 .lss (.t 5) (.c (I 0))))] false) [0, 1, 6] 0)
  (.cond (.t 6) (.seq (.post (.region [
 (oM 7 0),
 (oC 8 7),
 (oF 9 8 3),
 (oL 10 9),
 (oM 11 1),
 (oN (.un 12 .neg (.t 11))),
 (oA 13 10 12),
 (oL 14 13),
 (oN (.un 15 .neg (.t 14))),
 (oM 4 15)] false) [4] 0)
  .ret)
  .skip))
  (.seq (.post (.region [
 (oM 16 0),
 (oC 17 16),
 (oF 18 17 3),
 (oL 19 18),
 (oM 20 1),
 (oA 21 19 20),
 (oL 22 21),
 (oM 4 22)] false) [4] 0)
  .ret)))
def f_search_searcher_is : IFunc := { np := 2, res := [.t 4], own := false, trunc := true, body := f_search_searcher_is_0 }
/- 175: (*latchwork/search.searcher).put -/
def f_search_searcher_put_k1 : ICode :=
  (.seq (.post (.region [
 (oM 23 0),
 (oC 24 23),
 (oF 25 24 4),
 (oL 26 25),
 (oM 27 6),
 (oM 28 0),
 (oC 29 28),
 (oF 30 29 5),
 (oL 31 30),
 (oM 32 6),
 (oM 33 2),
 (oM 34 0),
 (oC 35 34),
 (oF 36 35 7),
 (oL 37 36),
 (oN (.len 38 0 (.t 37))),
 (oA 39 26 27),
 (oN (.store false 1 (.t 39) (.t 33))),
 (oA 40 31 32),
 (oN (.store false 1 (.t 40) (.t 38)))] true) [0, 1] 0)
  (.post (.region [
 (oM 41 0),
 (oM 42 0),
 (oC 43 42),
 (oF 44 43 6),
 (oL 45 44),
 (oM 46 1),
 (oN (.buildSl 47 1 [(.t 46)])),
 (oN (.appendN 48 8 (.t 45) (.t 47))),
 (oC 49 41),
 (oF 50 49 6),
 (oN (.store true 1 (.t 50) (.t 48)))] false) [] 0))
def f_search_searcher_put_0 : ICode :=
  (.seq (.post (.region [
 (oM 7 1),
 (oN (.call (some 8) true 187 [(.t 7)])),
 (oM 6 8)] false) [0, 1, 2, 6] 0)
  (.seq (.post (.region [
 (oM 9 0),
 (oC 10 9),
 (oF 11 10 3),
 (oL 12 11),
 (oM 13 6),
 (oA 14 12 13),
 (oN (.store false 1 (.t 14) (.c (I 1))))] false) [0, 1, 2, 6] 0)
  (.seq (.seq (.post (.region [
 (oM 15 1),
 (oN (.bin 16 .lss (.t 15) (.c (I 0))))] false) [0, 1, 2, 6, 16] 0)
  (.cond (.t 16) (.post (.post (.region [
 (oM 17 0),
 (oC 18 17),
 (oF 19 18 3),
 (oL 20 19),
 (oM 21 6),
 (oA 22 20 21),
 (oN (.store false 1 (.t 22) (.c (I (-1)))))] false) [0, 1, 2, 6] 0) [0, 1, 2, 6] 0)
  (.post .skip [0, 1, 2, 6] 0)))
  (.cut f_search_searcher_put_k1))))
def f_search_searcher_put : IFunc := { np := 3, res := [], own := false, trunc := false, body := f_search_searcher_put_0 }
/- 176: (*latchwork/search.searcher).no -/
def f_search_searcher_no_0 : ICode :=
  (.seq (.region [
 (oN (.alloc 2 false (.agg [I 0, .sl true 1 [], .sl true 1 []])))] false)
  (.seq (.post (.region [
 (oM 3 0),
 (oC 4 3),
 (oF 5 4 11),
 (oN (.loadT 6 (.t 5))),
 (oN (.buildSl 7 1 [(.c (.nils))])),
 (oN (.append 8 1 24 (.t 6) (.t 7))),
 (oN (.buildT 9 [I 0, .sl true 1 [], .sl true 1 []] [(0, 1, (.c (I 2))), (2, 1, (.t 8))])),
 (oN (.store true 3 (.t 2) (.t 9)))] false) [2] 1)
  .ret))
def f_search_searcher_no : IFunc := { np := 1, res := [.cell 2 true 3], own := false, trunc := false, body := f_search_searcher_no_0 }
/- 177: (*latchwork/search.searcher).spread -/
def f_search_searcher_spread_b1 : ICode :=
  (.post (.seq (.seq (.post (.region [
 (oM 5 0),
 (oC 6 5),
 (oF 7 6 8),
 (oL 8 7),
 (oM 9 0),
 (oC 10 9),
 (oF 11 10 6),
 (oL 12 11),
 (oN (.len 13 0 (.t 12))),
 (oN (.bin 14 .lss (.t 8) (.t 13)))] true) [0, 14] 0)
  (.cond (.t 14) .skip
  (.exit 0)))
  (.block 1 (.seq (.post (.region [
 (oM 15 0),
 (oC 16 15),
 (oF 17 16 6),
 (oL 18 17),
 (oM 19 0),
 (oC 20 19),
 (oF 21 20 8),
 (oL 22 21),
 (oA 23 18 22),
 (oN (.loadK 24 (.t 23))),
 (oM 3 24)] true) [0, 3] 0)
  (.seq (.post (.region [
 (oM 25 0),
 (oC 26 25),
 (oF 27 26 8),
 (oL 28 27),
 (oN (.bin 29 .add (.t 28) (.c (I 1)))),
 (oC 30 25),
 (oF 31 30 8),
 (oN (.store false 1 (.t 31) (.t 29)))] false) [0, 3] 0)
  (.seq (.post (.region [
 (oM 32 0),
 (oM 33 3),
 (oN (.un 34 .neg (.t 33))),
 (oN (.call (some 35) false 188 [(.t 32), (.t 34)])),
 (oM 4 35)] false) [0, 4] 0)
  (.seq (.post (.region [
 (oM 36 4),
 (oN (.bin 37 .geq (.t 36) (.c (I 0))))] false) [0, 4, 37] 0)
  (.cond (.t 37) (.seq (.post (.region [
 (oM 38 4),
 (oM 2 38)] false) [2] 0)
  .ret)
  .skip))))))) [0] 0)
def f_search_searcher_spread_l1 : ICode :=
  (.post (.block 0 (.loop f_search_searcher_spread_b1)) [] 0)
def f_search_searcher_spread_k1 : ICode :=
  (.seq (.region [
 (oN (.mv 2 (.c (I (-1)))))] false)
  .ret)
def f_search_searcher_spread_0 : ICode :=
  (.seq (.post (.region [
 (oN (.mv 2 (.c (I 0))))] false) [0] 0)
  (.seq (.cut f_search_searcher_spread_l1)
  (.cut f_search_searcher_spread_k1)))
def f_search_searcher_spread : IFunc := { np := 1, res := [.t 2], own := false, trunc := false, body := f_search_searcher_spread_0 }
/- 178: (*latchwork/search.searcher).choose -/
def f_search_searcher_choose_b1 : ICode :=
  (.post (.seq (.seq (.post (.region [
 (oM 9 3),
 (oM 10 0),
 (oC 11 10),
 (oF 12 11 0),
 (oL 13 12),
 (oN (.bin 14 .leq (.t 9) (.t 13)))] false) [0, 3, 14] 0)
  (.cond (.t 14) .skip
  (.exit 0)))
  (.seq (.block 1 (.seq (.post (.region [
 (oM 17 0),
 (oC 18 17),
 (oF 19 18 3),
 (oL 20 19),
 (oM 21 3),
 (oA 22 20 21),
 (oL 23 22),
 (oN (.bin 24 .eql (.t 23) (.c (I 0))))] false) [0, 3, 24] 0)
  (.cond (.t 24) (.seq (.post (.region [
 (oM 25 0),
 (oM 26 3),
 (oC 27 25),
 (oF 28 27 9),
 (oN (.store false 1 (.t 28) (.t 26)))] false) [0, 3] 0)
  (.seq (.post (.region [
 (oM 29 0),
 (oM 30 0),
 (oC 31 30),
 (oF 32 31 7),
 (oL 33 32),
 (oM 34 0),
 (oC 35 34),
 (oF 36 35 6),
 (oL 37 36),
 (oN (.len 38 0 (.t 37))),
 (oN (.buildSl 39 1 [(.t 38)])),
 (oN (.appendN 40 8 (.t 33) (.t 39))),
 (oC 41 29),
 (oF 42 41 7),
 (oN (.store true 1 (.t 42) (.t 40)))] true) [0, 3] 0)
  (.seq (.post (.region [
 (oM 43 0),
 (oM 44 3),
 (oN (.un 45 .neg (.t 44))),
 (oN (.call (some 46) false 175 [(.t 43), (.t 45), (.c (I (-1)))]))] false) [] 0)
  (.seq (.region [
 (oN (.mv 2 (.c (.bool true))))] false)
  .ret))))
  .skip)))
  (.post (.region [
 (oM 15 3),
 (oN (.bin 16 .add (.t 15) (.c (I 1)))),
 (oM 3 16)] false) [0, 3] 0))) [0, 3] 0)
def f_search_searcher_choose_l1 : ICode :=
  (.post (.block 0 (.loop f_search_searcher_choose_b1)) [] 0)
def f_search_searcher_choose_k1 : ICode :=
  (.seq (.region [
 (oN (.mv 2 (.c (.bool false))))] false)
  .ret)
def f_search_searcher_choose_0 : ICode :=
  (.seq (.post (.region [
 (oN (.mv 2 (.c (.bool false))))] false) [0] 0)
  (.seq (.seq (.post (.region [
 (oM 4 0),
 (oC 5 4),
 (oF 6 5 9),
 (oL 7 6),
 (oN (.maxi 8 [(.t 7), (.c (I 1))])),
 (oM 3 8)] false) [0, 3] 0)
  (.cut f_search_searcher_choose_l1))
  (.cut f_search_searcher_choose_k1)))
def f_search_searcher_choose : IFunc := { np := 1, res := [.t 2], own := false, trunc := false, body := f_search_searcher_choose_0 }
/- 179: (*latchwork/search.searcher).learn -/
def f_search_searcher_learn_k1 : ICode :=
  (.post (.region [
 (oN (.bin 75 .add (.t 30) (.c (I 1)))),
 (oM 30 75)] false) [2, 6, 7, 8, 9, 10, 28, 29, 30] 0)
def f_search_searcher_learn_b2 : ICode :=
  (.post (.seq (.region [
 (oN (.bin 31 .lss (.t 30) (.t 29)))] false)
  (.seq (.cond (.t 31) .skip
  (.exit 2))
  (.seq (.post (.block 3 (.seq (.post (.region [
 (oA 32 28 30),
 (oN (.loadK 33 (.t 32))),
 (oM 12 33)] false) [2, 6, 7, 8, 9, 10, 12, 28, 29, 30] 0)
  (.seq (.post (.region [
 (oM 34 12),
 (oN (.call (some 35) true 187 [(.t 34)])),
 (oM 13 35)] false) [2, 6, 7, 8, 9, 10, 12, 13, 28, 29, 30] 0)
  (.seq (.seq (.post (.region [
 (oM 36 12),
 (oM 37 10),
 (oN (.bin 38 .eql (.t 36) (.t 37))),
 (oM 39 38),
    ⟨.mv 40 (.t 6), some (39, false)⟩,
    ⟨.mv 41 (.t 13), some (39, false)⟩,
    ⟨.lookup 42 0 (.t 40) (.t 41) false (.bool false), some (39, false)⟩,
 (oN (.pick 43 (.t 39) (.c (.bool true)) (.t 42))),
 (oM 44 43),
    ⟨.load 45 false 1 (.t 2), some (44, false)⟩,
    ⟨.nilc 46 (.t 45), some (44, false)⟩,
    ⟨.faddr 47 (.t 46) 5, some (44, false)⟩,
    ⟨.load 48 false 1 (.t 47), some (44, false)⟩,
    ⟨.mv 49 (.t 13), some (44, false)⟩,
    ⟨.iaddr 50 1 none (.t 48) (.t 49), some (44, false)⟩,
    ⟨.load 51 false 1 (.t 50), some (44, false)⟩,
    ⟨.bin 52 .eql (.t 51) (.c (I 0)), some (44, false)⟩,
 (oN (.pick 53 (.t 44) (.c (.bool true)) (.t 52)))] false) [2, 6, 7, 8, 9, 10, 12, 13, 28, 29, 30, 53] 0)
  (.cond (.t 53) (.exit 3)
  .skip))
  (.seq (.post (.region [
 (oM 54 6),
 (oM 55 13),
 (oN (.mupd 0 (.t 54) (.t 55) (.c (.bool true))))] false) [2, 6, 7, 8, 9, 10, 12, 13, 28, 29, 30] 0)
  (.seq (.post (.region [
 (oL 56 2),
 (oC 57 56),
 (oF 58 57 5),
 (oL 59 58),
 (oM 60 13),
 (oA 61 59 60),
 (oL 62 61),
 (oL 63 2),
 (oC 64 63),
 (oF 65 64 7),
 (oL 66 65),
 (oN (.len 67 0 (.t 66))),
 (oN (.bin 68 .eql (.t 62) (.t 67)))] true) [2, 6, 7, 8, 9, 10, 12, 28, 29, 30, 68] 0)
  (.cond (.t 68) (.post (.post (.region [
 (oM 69 8),
 (oN (.bin 70 .add (.t 69) (.c (I 1)))),
 (oM 8 70)] false) [2, 6, 7, 8, 9, 10, 28, 29, 30] 0) [2, 6, 7, 8, 9, 10, 28, 29, 30] 0)
  (.post (.post (.region [
 (oM 71 7),
 (oM 72 12),
 (oN (.buildSl 73 1 [(.t 72)])),
 (oN (.appendN 74 8 (.t 71) (.t 73))),
 (oN (.tk 7 74))] false) [2, 6, 7, 8, 9, 10, 28, 29, 30] 0) [2, 6, 7, 8, 9, 10, 28, 29, 30] 0)))))))) [2, 6, 7, 8, 9, 10, 28, 29, 30] 0)
  (.cut f_search_searcher_learn_k1)))) [2, 6, 7, 8, 9, 10, 28, 29, 30] 0)
def f_search_searcher_learn_l2 : ICode :=
  (.post (.block 2 (.loop f_search_searcher_learn_b2)) [2, 6, 7, 8, 9] 0)
def f_search_searcher_learn_b3 : ICode :=
  (.post (.seq (.seq (.post (.region [
 (oM 76 6),
 (oL 77 2),
 (oC 78 77),
 (oF 79 78 6),
 (oL 80 79),
 (oM 81 9),
 (oA 82 80 81),
 (oN (.loadK 83 (.t 82))),
 (oN (.call (some 84) true 187 [(.t 83)])),
 (oN (.lookup 85 0 (.t 76) (.t 84) false (.bool false))),
 (oN (.un 86 .not (.t 85)))] false) [2, 6, 7, 8, 9, 86] 0)
  (.cond (.t 86) .skip
  (.exit 4)))
  (.block 5 (.post (.region [
 (oM 87 9),
 (oN (.bin 88 .sub (.t 87) (.c (I 1)))),
 (oM 9 88)] false) [2, 6, 7, 8, 9] 0))) [2, 6, 7, 8, 9] 0)
def f_search_searcher_learn_l3 : ICode :=
  (.post (.block 4 (.loop f_search_searcher_learn_b3)) [2, 6, 7, 8, 9] 0)
def f_search_searcher_learn_k3 : ICode :=
  (.seq (.post (.region [
 (oL 89 2),
 (oC 90 89),
 (oF 91 90 6),
 (oL 92 91),
 (oM 93 9),
 (oA 94 92 93),
 (oN (.loadK 95 (.t 94))),
 (oM 10 95)] false) [2, 6, 7, 8, 9, 10] 0)
  (.seq (.post (.region [
 (oM 96 9),
 (oN (.bin 97 .sub (.t 96) (.c (I 1)))),
 (oM 9 97)] false) [2, 6, 7, 8, 9, 10] 0)
  (.seq (.post (.region [
 (oM 98 8),
 (oN (.bin 99 .sub (.t 98) (.c (I 1)))),
 (oM 8 99)] false) [2, 6, 7, 8, 9, 10] 0)
  (.seq (.seq (.post (.region [
 (oM 100 8),
 (oN (.bin 101 .eql (.t 100) (.c (I 0))))] false) [2, 6, 7, 8, 9, 10, 101] 0)
  (.cond (.t 101) (.exit 0)
  .skip))
  (.post (.region [
 (oL 102 2),
 (oC 103 102),
 (oF 104 103 4),
 (oL 105 104),
 (oM 106 10),
 (oN (.call (some 107) true 187 [(.t 106)])),
 (oA 108 105 107),
 (oL 109 108),
 (oM 1 109)] true) [1, 2, 6, 7, 8, 9, 10] 0)))))
def f_search_searcher_learn_k2 : ICode :=
  (.seq (.cut f_search_searcher_learn_l3)
  (.cut f_search_searcher_learn_k3))
def f_search_searcher_learn_b1 : ICode :=
  (.post (.block 1 (.seq (.seq (.post (.region [
 (oL 22 2),
 (oC 23 22),
 (oF 24 23 1),
 (oL 25 24),
 (oM 26 1),
 (oA 27 25 26),
 (oL 28 27),
 (oN (.len 29 0 (.t 28))),
 (oN (.mv 30 (.c (I 0))))] false) [2, 6, 7, 8, 9, 10, 28, 29, 30] 0)
  (.cut f_search_searcher_learn_l2))
  (.cut f_search_searcher_learn_k2))) [1, 2, 6, 7, 8, 9, 10] 0)
def f_search_searcher_learn_l1 : ICode :=
  (.post (.block 0 (.loop f_search_searcher_learn_b1)) [2, 7, 10] 0)
def f_search_searcher_learn_k5 : ICode :=
  (.seq (.post (.region [
 (oM 126 10),
 (oN (.un 127 .neg (.t 126))),
 (oN (.buildSlK 128 [(.t 127)])),
 (oM 129 7),
 (oN (.appendN 130 8 (.t 128) (.t 129))),
 (oM 131 14),
 (oN (.tk 4 130)),
 (oM 5 131)] false) [4, 5] 0)
  .ret)
def f_search_searcher_learn_k4 : ICode :=
  (.seq (.post (.region [
 (oM 110 7),
 (oN (.mkfn 111 189 [(.t 2)])),
 (oN (.call (some 112) true 190 [(.t 110), (.t 111)]))] false) [2, 7, 10] 0)
  (.seq (.region [
 (oN (.mv 14 (.c (I 0))))] false)
  (.seq (.seq (.post (.region [
 (oM 113 7),
 (oN (.len 114 0 (.t 113))),
 (oN (.bin 115 .gtr (.t 114) (.c (I 0))))] false) [2, 7, 10, 14, 115] 0)
  (.cond (.t 115) (.post (.post (.region [
 (oL 116 2),
 (oC 117 116),
 (oF 118 117 5),
 (oL 119 118),
 (oM 120 7),
 (oN (.iaddr 121 1 none (.t 120) (.c (I 0)))),
 (oN (.loadK 122 (.t 121))),
 (oN (.call (some 123) true 187 [(.t 122)])),
 (oA 124 119 123),
 (oL 125 124),
 (oM 14 125)] true) [7, 10, 14] 0) [7, 10, 14] 0)
  (.post .skip [7, 10, 14] 0)))
  (.cut f_search_searcher_learn_k5))))
def f_search_searcher_learn_0 : ICode :=
  (.seq (.post (.region [
 (oN (.box 2 true false (.t 0))),
 (oN (.mv 4 (.c (.nils)))),
 (oN (.mv 5 (.c (I 0))))] false) [1, 2] 0)
  (.seq (.post (.region [
 (oN (.mkmap 15)),
 (oM 6 15)] false) [1, 2, 6] 0)
  (.seq (.region [
 (oN (.mv 7 (.c (.nils))))] false)
  (.seq (.post (.region [
 (oL 16 2),
 (oC 17 16),
 (oF 18 17 6),
 (oL 19 18),
 (oN (.len 20 0 (.t 19))),
 (oN (.bin 21 .sub (.t 20) (.c (I 1)))),
 (oN (.mv 8 (.c (I 0)))),
 (oM 9 21)] true) [1, 2, 6, 7, 8, 9] 0)
  (.seq (.post (.region [
 (oN (.mv 10 (.c (I 0))))] false) [1, 2, 6, 7, 8, 9, 10] 0)
  (.seq (.cut f_search_searcher_learn_l1)
  (.cut f_search_searcher_learn_k4)))))))
def f_search_searcher_learn : IFunc := { np := 2, res := [.t 4, .t 5], own := false, trunc := false, body := f_search_searcher_learn_0 }
/- 180: (*latchwork/search.searcher).back -/
def f_search_searcher_back_b1 : ICode :=
  (.post (.seq (.region [
 (oN (.bin 27 .lss (.t 26) (.t 25)))] false)
  (.seq (.cond (.t 27) .skip
  (.exit 0))
  (.seq (.block 1 (.seq (.post (.region [
 (oA 28 24 26),
 (oN (.loadK 29 (.t 28))),
 (oM 5 29)] false) [0, 1, 5, 24, 25, 26] 0)
  (.post (.region [
 (oM 30 0),
 (oC 31 30),
 (oF 32 31 3),
 (oL 33 32),
 (oM 34 5),
 (oN (.call (some 35) true 187 [(.t 34)])),
 (oA 36 33 35),
 (oN (.store false 1 (.t 36) (.c (I 0))))] true) [0, 1, 24, 25, 26] 0)))
  (.post (.region [
 (oN (.bin 37 .add (.t 26) (.c (I 1)))),
 (oM 26 37)] false) [0, 1, 24, 25, 26] 0)))) [0, 1, 24, 25, 26] 0)
def f_search_searcher_back_l1 : ICode :=
  (.post (.block 0 (.loop f_search_searcher_back_b1)) [0, 1] 0)
def f_search_searcher_back_k1 : ICode :=
  (.seq (.post (.region [
 (oM 38 0),
 (oM 39 0),
 (oC 40 39),
 (oF 41 40 6),
 (oL 42 41),
 (oM 43 0),
 (oC 44 43),
 (oF 45 44 7),
 (oL 46 45),
 (oM 47 1),
 (oA 48 46 47),
 (oN (.loadK 49 (.t 48))),
 (oN (.slice 50 1 (.t 42) none (some (.t 49)))),
 (oC 51 38),
 (oF 52 51 6),
 (oN (.store true 1 (.t 52) (.t 50)))] true) [0, 1] 0)
  (.seq (.post (.region [
 (oM 53 0),
 (oM 54 0),
 (oC 55 54),
 (oF 56 55 7),
 (oL 57 56),
 (oM 58 1),
 (oN (.slice 59 1 (.t 57) none (some (.t 58)))),
 (oC 60 53),
 (oF 61 60 7),
 (oN (.store true 1 (.t 61) (.t 59)))] false) [0] 0)
  (.seq (.post (.region [
 (oM 62 0),
 (oM 63 0),
 (oC 64 63),
 (oF 65 64 6),
 (oL 66 65),
 (oN (.len 67 0 (.t 66))),
 (oC 68 62),
 (oF 69 68 8),
 (oN (.store false 1 (.t 69) (.t 67)))] false) [0] 0)
  (.post (.region [
 (oM 70 0),
 (oC 71 70),
 (oF 72 71 9),
 (oN (.store false 1 (.t 72) (.c (I 1))))] false) [] 0))))
def f_search_searcher_back_0 : ICode :=
  (.seq (.seq (.post (.region [
 (oM 6 1),
 (oM 7 0),
 (oC 8 7),
 (oF 9 8 7),
 (oL 10 9),
 (oN (.len 11 0 (.t 10))),
 (oN (.bin 12 .geq (.t 6) (.t 11)))] false) [0, 1, 12] 0)
  (.cond (.t 12) .ret
  .skip))
  (.seq (.seq (.post (.region [
 (oM 13 0),
 (oC 14 13),
 (oF 15 14 6),
 (oL 16 15),
 (oM 17 0),
 (oC 18 17),
 (oF 19 18 7),
 (oL 20 19),
 (oM 21 1),
 (oA 22 20 21),
 (oN (.loadK 23 (.t 22))),
 (oN (.slice 24 1 (.t 16) (some (.t 23)) none)),
 (oN (.len 25 0 (.t 24))),
 (oN (.mv 26 (.c (I 0))))] true) [0, 1, 24, 25, 26] 0)
  (.cut f_search_searcher_back_l1))
  (.cut f_search_searcher_back_k1)))
def f_search_searcher_back : IFunc := { np := 2, res := [], own := false, trunc := false, body := f_search_searcher_back_0 }
/- 187: latchwork/search.abs -/
def f_search_abs_0 : ICode :=
  (.seq (.post (.region [
 (oN (.mv 2 (.c (I 0))))] false) [0] 0)
  (.seq (.post (.region [
 (oM 3 0),
 (oM 4 0),
 (oN (.un 5 .neg (.t 4))),
 (oN (.maxi 6 [(.t 3), (.t 5)])),
 (oM 2 6)] false) [2] 0)
  .ret))
def f_search_abs : IFunc := { np := 1, res := [.t 2], own := false, trunc := true, body := f_search_abs_0 }
/- 188: (*latchwork/search.searcher).visit -/
def f_search_searcher_visit_k1 : ICode :=
  (.seq (.seq (.post (.region [
 (oM 45 0),
 (oM 46 9),
 (oN (.iaddr 47 1 none (.t 46) (.c (I 0)))),
 (oN (.loadK 48 (.t 47))),
 (oN (.call (some 49) true 174 [(.t 45), (.t 48)])),
 (oN (.bin 50 .gtr (.t 49) (.c (I 0))))] false) [0, 1, 5, 6, 7, 8, 9, 16, 17, 18, 50] 0)
  (.cond (.t 50) (.seq (.post (.region [
 (oM 51 5),
 (oM 52 8),
 (oN (.buildSl 53 1 [(.t 52)])),
 (oN (.appendN 54 8 (.t 51) (.t 53))),
 (oN (.tk 5 54))] false) [0, 1, 5, 6, 16, 17, 18] 0)
  (.exit 1))
  .skip))
  (.seq (.seq (.post (.region [
 (oM 55 0),
 (oM 56 8),
 (oN (.call (some 57) false 191 [(.t 55), (.t 56)]))] false) [0, 1, 5, 6, 7, 8, 9, 16, 17, 18, 57] 0)
  (.cond (.t 57) (.exit 1)
  .skip))
  (.seq (.post (.region [
 (oM 58 5),
 (oM 59 8),
 (oN (.buildSl 60 1 [(.t 59)])),
 (oN (.appendN 61 8 (.t 58) (.t 60))),
 (oN (.tk 5 61))] false) [0, 1, 5, 6, 7, 8, 9, 16, 17, 18] 0)
  (.seq (.seq (.post (.region [
 (oM 62 0),
 (oM 63 9),
 (oN (.iaddr 64 1 none (.t 63) (.c (I 0)))),
 (oN (.loadK 65 (.t 64))),
 (oN (.call (some 66) true 174 [(.t 62), (.t 65)])),
 (oN (.bin 67 .lss (.t 66) (.c (I 0))))] false) [0, 1, 5, 6, 7, 8, 9, 16, 17, 18, 67] 0)
  (.cond (.t 67) (.seq (.post (.region [
 (oM 68 0),
 (oC 69 68),
 (oF 70 69 2),
 (oL 71 70),
 (oM 72 1),
 (oM 73 5),
 (oM 74 6),
 (oM 75 7),
 (oN (.bin 76 .add (.t 75) (.c (I 1)))),
 (oN (.slice 77 1 (.t 74) (some (.t 76)) none)),
 (oN (.appendN 78 8 (.t 73) (.t 77))),
 (oN (.mupd 0 (.t 71) (.t 72) (.t 78)))] true) [8] 0)
  (.seq (.post (.region [
 (oM 79 8),
 (oM 4 79)] false) [4] 0)
  .ret))
  .skip))
  (.post (.region [
 (oM 80 0),
 (oM 81 9),
 (oN (.iaddr 82 1 none (.t 81) (.c (I 0)))),
 (oN (.loadK 83 (.t 82))),
 (oM 84 8),
 (oN (.call (some 85) false 175 [(.t 80), (.t 83), (.t 84)]))] false) [0, 1, 5, 6, 16, 17, 18] 0)))))
def f_search_searcher_visit_k2 : ICode :=
  (.post (.region [
 (oN (.bin 86 .add (.t 18) (.c (I 1)))),
 (oM 18 86)] false) [0, 1, 5, 6, 16, 17, 18] 0)
def f_search_searcher_visit_b1 : ICode :=
  (.post (.seq (.region [
 (oN (.bin 19 .lss (.t 18) (.t 17)))] false)
  (.seq (.cond (.t 19) .skip
  (.exit 0))
  (.seq (.post (.block 1 (.seq (.post (.region [
 (oM 20 18),
 (oA 21 16 18),
 (oN (.loadK 22 (.t 21))),
 (oM 7 20),
 (oM 8 22)] false) [0, 1, 5, 6, 7, 8, 16, 17, 18] 0)
  (.seq (.post (.region [
 (oM 23 0),
 (oC 24 23),
 (oF 25 24 1),
 (oL 26 25),
 (oM 27 8),
 (oA 28 26 27),
 (oL 29 28),
 (oN (.tk 9 29))] false) [0, 1, 5, 6, 7, 8, 9, 16, 17, 18] 0)
  (.seq (.seq (.post (.region [
 (oM 30 9),
 (oN (.iaddr 31 1 none (.t 30) (.c (I 0)))),
 (oN (.loadK 32 (.t 31))),
 (oM 33 1),
 (oN (.bin 34 .eql (.t 32) (.t 33)))] false) [0, 1, 5, 6, 7, 8, 9, 16, 17, 18, 34] 0)
  (.cond (.t 34) (.post (.post (.region [
 (oM 35 9),
 (oM 36 9),
 (oM 37 9),
 (oN (.iaddr 38 1 none (.t 37) (.c (I 1)))),
 (oN (.loadK 39 (.t 38))),
 (oM 40 9),
 (oN (.iaddr 41 1 none (.t 40) (.c (I 0)))),
 (oN (.loadK 42 (.t 41))),
 (oN (.iaddr 43 1 none (.t 35) (.c (I 0)))),
 (oN (.storeK (.t 43) (.t 39))),
 (oN (.iaddr 44 1 none (.t 36) (.c (I 1)))),
 (oN (.storeK (.t 44) (.t 42)))] true) [0, 1, 5, 6, 7, 8, 9, 16, 17, 18] 0) [0, 1, 5, 6, 7, 8, 9, 16, 17, 18] 0)
  (.post .skip [0, 1, 5, 6, 7, 8, 9, 16, 17, 18] 0)))
  (.cut f_search_searcher_visit_k1))))) [0, 1, 5, 6, 16, 17, 18] 0)
  (.cut f_search_searcher_visit_k2)))) [0, 1, 5, 6, 16, 17, 18] 0)
def f_search_searcher_visit_l1 : ICode :=
  (.post (.block 0 (.loop f_search_searcher_visit_b1)) [0, 1, 5] 0)
def f_search_searcher_visit_k3 : ICode :=
  (.seq (.post (.region [
 (oM 87 0),
 (oC 88 87),
 (oF 89 88 2),
 (oL 90 89),
 (oM 91 1),
 (oM 92 5),
 (oN (.mupd 0 (.t 90) (.t 91) (.t 92)))] false) [] 0)
  (.seq (.region [
 (oN (.mv 4 (.c (I (-1)))))] false)
  .ret))
def f_search_searcher_visit_0 : ICode :=
  (.seq (.post (.region [
 (oN (.mv 4 (.c (I 0))))] false) [0, 1] 0)
  (.seq (.region [
 (oN (.mv 5 (.c (.nils))))] false)
  (.seq (.post (.region [
 (oM 10 0),
 (oC 11 10),
 (oF 12 11 2),
 (oL 13 12),
 (oM 14 1),
 (oN (.lookup 15 0 (.t 13) (.t 14) false (.nils))),
 (oN (.tk 6 15))] false) [0, 1, 5, 6] 0)
  (.seq (.seq (.post (.region [
 (oM 16 6),
 (oN (.len 17 0 (.t 16))),
 (oN (.mv 18 (.c (I 0))))] false) [0, 1, 5, 6, 16, 17, 18] 0)
  (.cut f_search_searcher_visit_l1))
  (.cut f_search_searcher_visit_k3)))))
def f_search_searcher_visit : IFunc := { np := 2, res := [.t 4], own := false, trunc := false, body := f_search_searcher_visit_0 }
/- 189: (*latchwork/search.searcher).learn$1 -/
def f_search_searcher_learn_1_0 : ICode :=
  (.seq (.post (.region [
 (oN (.mv 5 (.c (I 0))))] false) [0, 1, 2] 0)
  (.seq (.post (.region [
 (oL 6 2),
 (oC 7 6),
 (oF 8 7 5),
 (oL 9 8),
 (oM 10 1),
 (oN (.call (some 11) true 187 [(.t 10)])),
 (oA 12 9 11),
 (oL 13 12),
 (oL 14 2),
 (oC 15 14),
 (oF 16 15 5),
 (oL 17 16),
 (oM 18 0),
 (oN (.call (some 19) true 187 [(.t 18)])),
 (oA 20 17 19),
 (oL 21 20),
 (oN (.bin 22 .sub (.t 13) (.t 21))),
 (oM 5 22)] true) [5] 0)
  .ret))
def f_search_searcher_learn_1 : IFunc := { np := 3, res := [.t 5], own := false, trunc := false, body := f_search_searcher_learn_1_0 }
/- 191: (*latchwork/search.searcher).other -/
def f_search_searcher_other_b1 : ICode :=
  (.post (.seq (.seq (.post (.region [
 (oM 14 6),
 (oM 15 5),
 (oN (.len 16 0 (.t 15))),
 (oN (.bin 17 .lss (.t 14) (.t 16)))] false) [0, 1, 5, 6, 17] 0)
  (.cond (.t 17) .skip
  (.exit 0)))
  (.seq (.block 1 (.seq (.post (.region [
 (oM 20 0),
 (oM 21 5),
 (oM 22 6),
 (oA 23 21 22),
 (oN (.loadK 24 (.t 23))),
 (oN (.call (some 25) true 174 [(.t 20), (.t 24)])),
 (oN (.bin 26 .geq (.t 25) (.c (I 0))))] false) [0, 1, 5, 6, 26] 0)
  (.cond (.t 26) (.seq (.post (.region [
 (oM 27 5),
 (oM 28 5),
 (oM 29 6),
 (oM 30 5),
 (oM 31 6),
 (oA 32 30 31),
 (oN (.loadK 33 (.t 32))),
 (oM 34 5),
 (oN (.iaddr 35 1 none (.t 34) (.c (I 1)))),
 (oN (.loadK 36 (.t 35))),
 (oN (.iaddr 37 1 none (.t 27) (.c (I 1)))),
 (oN (.storeK (.t 37) (.t 33))),
 (oA 38 28 29),
 (oN (.storeK (.t 38) (.t 36)))] true) [0, 1, 5] 0)
  (.seq (.post (.region [
 (oM 39 0),
 (oC 40 39),
 (oF 41 40 2),
 (oL 42 41),
 (oM 43 5),
 (oN (.iaddr 44 1 none (.t 43) (.c (I 1)))),
 (oN (.loadKB 45 (.t 44) 5)),
 (oM 46 0),
 (oC 47 46),
 (oF 48 47 2),
 (oL 49 48),
 (oM 50 5),
 (oN (.iaddr 51 1 none (.t 50) (.c (I 1)))),
 (oN (.loadK 52 (.t 51))),
 (oN (.lookup 53 0 (.t 49) (.t 52) false (.nils))),
 (oM 54 1),
 (oN (.buildSl 55 1 [(.t 54)])),
 (oN (.appendP 56 8 (.t 53) (.t 55) [5])),
 (oN (.mupd 0 (.t 42) (.t 45) (.t 56)))] true) [] 0)
  (.seq (.region [
 (oN (.mv 4 (.c (.bool true))))] false)
  .ret)))
  .skip)))
  (.post (.region [
 (oM 18 6),
 (oN (.bin 19 .add (.t 18) (.c (I 1)))),
 (oM 6 19)] false) [0, 1, 5, 6] 0))) [0, 1, 5, 6] 0)
def f_search_searcher_other_l1 : ICode :=
  (.post (.block 0 (.loop f_search_searcher_other_b1)) [] 0)
def f_search_searcher_other_k1 : ICode :=
  (.seq (.region [
 (oN (.mv 4 (.c (.bool false))))] false)
  .ret)
def f_search_searcher_other_0 : ICode :=
  (.seq (.post (.region [
 (oN (.mv 4 (.c (.bool false))))] false) [0, 1] 0)
  (.seq (.post (.region [
 (oM 7 0),
 (oC 8 7),
 (oF 9 8 1),
 (oL 10 9),
 (oM 11 1),
 (oA 12 10 11),
 (oL 13 12),
 (oN (.tk 5 13))] false) [0, 1, 5] 0)
  (.seq (.seq (.post (.region [
 (oN (.mv 6 (.c (I 2))))] false) [0, 1, 5, 6] 0)
  (.cut f_search_searcher_other_l1))
  (.cut f_search_searcher_other_k1))))
def f_search_searcher_other : IFunc := { np := 2, res := [.t 4], own := false, trunc := false, body := f_search_searcher_other_0 }
end Go.Lw
end

/-! The machine's code, read off: what a piece of code comes to, said without slots. No program in sight. -/
section
namespace Go.Lw
open Go
inductive Ce where
  | any
  | one
  | int (k : IntKind)
  | bool
  | str
  | gp
  | ol (z : Nat)
  deriving Inhabited
inductive Sh where
  | raw
  | ce (c : Ce)
  | agg (l : List Ce)
  | tup (n : Nat)
  deriving Inhabited
section
variable {R : Type} {α : Type}
def ob (x : Option α) (f : α → Option R) : Option R := match x with | some a => f a | none => none
def gd (b : Bool) (x : Option R) : Option R := match b with | true => x | false => none
def gb (b : Bool) (x : Option R) : Option R := match b with | true => x | false => none
def br (_ : Nat) (b : Bool) (x y : Option R) : Option R := match b with | true => x | false => y
def kR (x : Option (IExit × St)) (k : IExit → St → Option R) : Option R := match x with | some (e, s) => k e s | none => none
def nx (e : IExit) (s : St) (k : IExit → St → Option R) (f : St → Option R) : Option R := match e with | .normal => f s | e => k e s
def bk (id : Nat) (e : IExit) (s : St) (k : IExit → St → Option R) : Option R := match e with | .exit i => br 0 (Nat.beq i id) (k .normal s) (k (.exit i) s) | e => k e s
def iAnd (k : IntKind) (a b : Int) : Int := k.wrap (BitVec.ofInt k.bits a &&& BitVec.ofInt k.bits b).toNat
def iOr (k : IntKind) (a b : Int) : Int := k.wrap (BitVec.ofInt k.bits a ||| BitVec.ofInt k.bits b).toNat
def iXor (k : IntKind) (a b : Int) : Int := k.wrap (BitVec.ofInt k.bits a ^^^ BitVec.ofInt k.bits b).toNat
def iShl (k : IntKind) (a b : Int) : Int := k.wrap (a * 2 ^ (min b.toNat k.bits))
def iShr (k : IntKind) (a b : Int) : Int := a.fdiv (2 ^ (min b.toNat k.bits))
def iNot (k : IntKind) (n : Int) : Int := k.wrap (BitVec.ofInt k.bits (if k.signed then -1 else k.max) ^^^ BitVec.ofInt k.bits n).toNat
def kIdx : IntKind → Nat
  | .i8 => 0 | .i16 => 1 | .i32 => 2 | .i64 => 3 | .u8 => 4 | .u16 => 5 | .u32 => 6 | .u64 => 7
def kE (k k' : IntKind) (x : Option R) : Option R := gb (Nat.beq (kIdx k) (kIdx k')) x
def Fn : Nat → Type → Type
  | 0, R => R
  | n + 1, R => PV → Fn n R
def curry : (n : Nat) → (List PV → R) → Fn n R
  | 0, g => g []
  | n + 1, g => fun c => curry n fun l => g (c :: l)
def unN : (n : Nat) → List PV → Fn n (Option R) → Option R
  | 0, [], f => f
  | n + 1, c :: l, f => unN n l (f c)
  | _, _, _ => none
def isC (v : PV) (x : Option R) : Option R := match v with | .agg _ => none | _ => x
def stK (nl : Nat) (v : PV) (x : Option R) : Option R :=
  match v with
  | .ptr false b _ => gb (Nat.ble (b + 1) nl) x
  | .bs false b _ _ _ => gb (Nat.ble (b + 1) nl) x
  | _ => x
def onK (v : PV) (x : Option R) : Option R :=
  match v with
  | .und | .agg _ | .tup _ | .ptr false _ _ | .bs false _ _ _ _ | .arr _ _ | .junk => none
  | _ => x
def arL : List PV → Option R → Option R
  | [], x => x
  | c :: l, x => onK c (arL l x)
def arK (v : PV) (x : Option R) : Option R :=
  match v with
  | .agg cs => arL cs x
  | .und | .tup _ | .ptr false _ _ | .bs false _ _ _ _ | .arr _ _ | .junk => none
  | _ => x
def allK : List PV → Option R → Option R
  | [], x => x
  | v :: l, x => arK v (allK l x)
def lenB : List PV → Nat → Bool
  | [], 0 => true
  | _ :: l, n + 1 => lenB l n
  | _, _ => false
def geB : List PV → Nat → Bool
  | _, 0 => true
  | _ :: l, n + 1 => geB l n
  | [], _ + 1 => false
def lnK (z : Nat) (v : PV) (x : Option R) : Option R :=
  match v with
  | .agg cs => gb (lenB cs z) x
  | _ => gb (Nat.beq 1 z) x
def slK (z : Nat) : List PV → Option R → Option R
  | [], x => x
  | v :: l, x => arK v (lnK z v (slK z l x))
def isPtr : PV → Bool
  | .ptr _ _ _ | .ep _ _ | .fn _ _ => true
  | _ => false
def unI (k : IntKind) (v : PV) (f : Int → Option R) : Option R := match v with | .int k' n => kE k' k (f n) | _ => none
def anyI (v : PV) (f : Int → Option R) : Option R := match v with | .int _ n => f n | _ => none
def unB (v : PV) (f : Bool → Option R) : Option R := match v with | .bool b => f b | _ => none
def unS (v : PV) (f : ByteArray → Option R) : Option R := match v with | .str b => f b | _ => none
def unG (v : PV) (f : Nat → Nat → Option R) : Option R := match v with | .ptr true b off => f b off | _ => none
def unO (z : Nat) (v : PV) (f : List PV → Option R) : Option R := match v with | .sl true z' xs => gb (Nat.beq z' z) (f xs) | _ => none
def unA (n : Nat) (v : PV) (f : Fn n (Option R)) : Option R := match v with | .agg cs => unN n cs f | _ => none
def unT (n : Nat) (v : PV) (f : Fn n (Option R)) : Option R := match v with | .tup cs => unN n cs f | _ => none
def nilB (v : PV) (f : Bool → Option R) : Option R := match v with | .nilI => f true | .someI => f false | _ => none
def castC (c : Ce) (v : PV) (f : PV → Option R) : Option R :=
  match c with
  | .any => f v
  | .one => isC v (f v)
  | .int k => unI k v fun n => f (.int k n)
  | .bool => unB v fun b => f (.bool b)
  | .str => unS v fun b => f (.str b)
  | .gp => unG v fun b off => f (.ptr true b off)
  | .ol z => unO z v fun xs => f (.sl true z xs)
def castL : List Ce → List PV → (List PV → Option R) → Option R
  | [], [], f => f []
  | c :: cs, v :: vs, f => castC c v fun v => castL cs vs fun vs => f (v :: vs)
  | _, _, _ => none
def cast (h : Sh) (v : PV) (f : PV → Option R) : Option R :=
  match h with
  | .raw => f v
  | .ce c => castC c v f
  | .agg l => unA l.length v (curry l.length fun cs => castL l cs fun cs => f (.agg cs))
  | .tup n => unT n v (curry n fun vs => f (.tup vs))
inductive Tr where
  | nil
  | node (n : Nat) (h : Sh) (l r : Tr)
def shAt : Tr → Nat → Sh
  | .nil, _ => .raw
  | .node n h l r, t => match Nat.beq n t with
    | true => h
    | false => match Nat.ble n t with
      | true => shAt r t
      | false => shAt l t
def shX (an : Tr) : IX → Sh
  | .t n => shAt an n
  | .c _ => .raw
  | .f _ => .raw
def getX : List (Nat × PV) → Nat → Option PV
  | [], _ => none
  | (a, v) :: l, t => match Nat.beq a t with
    | true => some v
    | false => getX l t
def putK : List (Nat × PV) → Nat → PV → (List (Nat × PV) → Option R) → Option R
  | [], t, v, k => k [(t, v)]
  | (a, u) :: l, t, v, k => match Nat.beq a t with
    | true => k ((t, v) :: l)
    | false => putK l t v fun l => k ((a, u) :: l)
def snocK : List α → α → (List α → Option R) → Option R
  | [], v, k => k [v]
  | u :: l, v, k => snocK l v fun l => k (u :: l)
def setK : List α → Nat → α → (List α → Option R) → Option R
  | [], _, _, k => k []
  | _ :: l, 0, v, k => k (v :: l)
  | u :: l, i + 1, v, k => setK l i v fun l => k (u :: l)
def nthX : List α → Nat → Option α
  | [], _ => none
  | u :: _, 0 => some u
  | _ :: l, i + 1 => nthX l i
def takeK : Nat → List α → (List α → Option R) → Option R
  | 0, _, k => k []
  | _, [], k => k []
  | n + 1, u :: l, k => takeK n l fun l => k (u :: l)
def evX (e : List (Nat × PV)) : IX → Option PV
  | .t n => match getX e n with
    | some v => some (degr v)
    | none => none
  | .c v => some (degr v)
  | .f id => some (.fn id [])
def evK (e : List (Nat × PV)) : IX → Option PV
  | .t n => match getX e n with
    | some v => some (degr v)
    | none => none
  | .c v => some v
  | .f id => some (.fn id [])
def evXs (e : List (Nat × PV)) : List IX → (List PV → Option R) → Option R
  | [], k => k []
  | x :: l, k => match evX e x with
    | some v => evXs e l fun vs => k (v :: vs)
    | none => none
def tkX (e : List (Nat × PV)) (x : IX) (k : PV → List (Nat × PV) → Option R) : Option R :=
  match x with
  | .t n => match getX e n with
    | some v => putK e n (degr v) fun e => k v e
    | none => none
  | .c v => k v e
  | .f id => k (.fn id []) e
def putS (s : St) (d : Nat) (v : PV) (k : St → Option R) : Option R := putK s.env d v fun e => k ⟨e, s.lh, s.gh⟩
def cellsX (h : Sh) (v : PV) (f : List PV → Option R) : Option R :=
  match h with
  | .ce _ => isC v (f [v])
  | _ => f v.cells
def setX (an : Tr) (s : St) (d : Nat) (v : PV) (k : St → Option R) : Option R := cast (shAt an d) v fun w => putS s d w k
def ghCells (gh : List GObj) (b : Nat) : Option (List PV) := match gh[b]? with | some (.cells cs) => some cs | _ => none
def ghMap (gh : List GObj) (b : Nat) : Option (List (PV × PV)) := match gh[b]? with | some (.map es) => some es | _ => none
def ldX (lh : List (List PV)) (gh : List GObj) (agg : Bool) (k : Nat) (p : PV) (f : PV → Option R) : Option R :=
  match p with
  | .ptr false b off => match nthX lh b with
    | some cs => ob (grab agg k off cs) fun v => f (degr v)
    | none => none
  | .ptr true b off => ob (ghCells gh b) fun cs => ob (grab agg k off cs) fun v => f (degr v)
  | .ep e off => ob (grab agg k off e.cells) f
  | _ => none
def stOk (k off : Nat) (cs old : List PV) : Bool := lenB cs k && geB old (off + k)
def stoX (s : St) (p : PV) (kk : Nat) (cs : List PV) (k : St → Option R) : Option R :=
  match p with
  | .ptr false b off => match nthX s.lh b with
    | some old => gb (stOk kk off cs old) (setK s.lh b (spliceAt old off cs) fun lh => k ⟨s.env, lh, s.gh⟩)
    | none => none
  | .ptr true b off => ob (ghCells s.gh b) fun old => gb (stOk kk off cs old) (k ⟨s.env, s.lh, s.gh.set b (.cells (spliceAt old off cs))⟩)
  | _ => none
def psX (an : Tr) (e : List (Nat × PV)) : List (Nat × Nat × IX) → List PV → (List PV → Option R) → Option R
  | [], z, f => f z
  | (off, k, x) :: l, z, f => match evX e x with
    | some v => arK v (cellsX (shX an x) v fun cs => gb (stOk k off cs z) (psX an e l (spliceAt z off cs) f))
    | none => none
def psT (an : Tr) : List (Nat × PV) → List (Nat × Nat × IX) → List PV → (List (Nat × PV) → List PV → Option R) → Option R
  | e, [], z, f => f e z
  | e, (off, k, x) :: l, z, f => tkX e x fun v e1 => arK v (cellsX (shX an x) v fun cs => gb (stOk k off cs z) (psT an e1 l (spliceAt z off cs) f))
def mkOk (n : Int) (bytes z : Nat) (zero : PV) : Bool := decide (0 ≤ n ∧ n * bytes ≤ maxBytes ∧ zero.cells.length = z ∧ argOk zero = true)
def boX (e : List (Nat × PV)) (x : Option IX) (f : Option Int → Option R) : Option R :=
  match x with
  | none => f none
  | some x => match evX e x with
    | some v => anyI v fun n => f (some n)
    | none => none
def bd (d : Nat) (x : Option Int) (f : Nat → Option R) : Option R := match x with | none => f d | some i => gd (decide (0 ≤ i)) (f i.toNat)
def slX (z : Nat) (v : PV) (lo hi : Option Int) (f : PV → Option R) : Option R :=
  match v with
  | .sl _ z' xs => bd xs.length hi fun h => bd 0 lo fun l => gd (decide (l ≤ h ∧ h ≤ xs.length ∧ z = z')) (f (.sl false z ((xs.take h).drop l)))
  | .bs g b off n z' => bd n hi fun h => bd 0 lo fun l => gd (decide (l ≤ h ∧ h ≤ n ∧ z = z')) (f (.bs g b (off + l * z) (h - l) z))
  | .stk b gen n => gd lo.isNone (bd n hi fun h => gd (decide (h ≤ n ∧ z = 1)) (f (.stk b gen h)))
  | _ => none
def ssX (v : PV) (lo hi : Option Int) (f : ByteArray → Option R) : Option R :=
  match v with
  | .str b => bd b.size hi fun h => bd 0 lo fun l => gd (decide (l ≤ h ∧ h ≤ b.size)) (f (b.extract l h))
  | _ => none
def faX (p : PV) (off : Nat) (f : PV → Option R) : Option R :=
  match p with
  | .ptr g b o => f (.ptr g b (o + off))
  | .ep e o => f (.ep e (o + off))
  | _ => none
def fdX (v : PV) (agg : Bool) (k off : Nat) (f : PV → Option R) : Option R :=
  match v with
  | .agg cs => ob (grab agg k off cs) f
  | _ => none
def idX (z : Nat) (arr : Option Nat) (v : PV) (i : Int) (f : PV → Option R) : Option R :=
  match arr, v with
  | none, .sl _ z' xs => gd (decide (0 ≤ i ∧ z = z')) (ob xs[i.toNat]? fun e => f (.ep e 0))
  | none, .bs g b off n z' => gd (decide (0 ≤ i ∧ i < n ∧ z = z')) (f (.ptr g b (off + i.toNat * z)))
  | some m, .ptr g b o => gd (decide (0 ≤ i ∧ i < m)) (f (.ptr g b (o + i.toNat * z)))
  | some m, .ep e o => gd (decide (0 ≤ i ∧ i < m)) (f (.ep e (o + i.toNat * z)))
  | none, .stk b gen n => gd (decide (0 ≤ i ∧ i < n ∧ z = 1)) (f (.pstk b gen i.toNat))
  | _, _ => none
def ixX (v : PV) (z arr : Nat) (agg : Bool) (i : Int) (f : PV → Option R) : Option R :=
  match v with
  | .agg cs => gd (decide (0 ≤ i ∧ i < arr)) (ob (grab agg z (i.toNat * z) cs) f)
  | _ => none
def isX (v : PV) (i : Int) (f : Int → Option R) : Option R :=
  match v with
  | .str b => gd (decide (0 ≤ i)) (ob b[i.toNat]? fun u => f u.toNat)
  | _ => none
def lkX (gh : List GObj) (kn : Nat) (m k : PV) (f : Option PV → Option R) : Option R :=
  match m with
  | .mp b => ob (ghMap gh b) fun es => gd (isKey kn k) (ob (mfind kn es k) f)
  | _ => none
def muX (gh : List GObj) (kn : Nat) (m k v : PV) (f : List GObj → Option R) : Option R :=
  match m with
  | .mp b => ob (ghMap gh b) fun es => gd (argOk k && (argOk v && isKey kn k)) (ob (mset kn es k v) fun es' => f (gh.set b (.map es')))
  | _ => none
def lenS (v : PV) (f : Nat → Option R) : Option R := match v with | .sl _ _ xs => f xs.length | .bs _ _ _ n _ => f n | .stk _ _ n => f n | .nils => f 0 | _ => none
def lenM (gh : List GObj) (v : PV) (f : Nat → Option R) : Option R := match v with | .mp b => ob (ghMap gh b) fun es => f es.length | _ => none
def apX (z bytes : Nat) (v w : PV) (f : List PV → Option R) : Option R :=
  match w, v with
  | .sl _ z2 ys, .sl o z1 xs => gd (decide (o = true ∧ z1 = z ∧ z2 = z ∧ (xs.length + ys.length) * bytes ≤ maxBytes)) (f (xs ++ ys))
  | _, _ => none
def ghStk (gh : List GObj) (b : Nat) : Option (Nat × List PV) := match gh[b]? with | some (.stk g xs) => some (g, xs) | _ => none
def akX (gh : List GObj) (bytes : Nat) (v w : PV) (f : List GObj → PV → Option R) : Option R :=
  ob (elsOf gh w) fun ys => match v with
    | .stk b gen n => ob (ghStk gh b) fun p => gd (decide (p.1 = gen ∧ n ≤ p.2.length ∧ (n + ys.length) * bytes ≤ maxBytes ∧ apart b w = true ∧ ys.all isFlat = true)) (f (gh.set b (.stk (p.1 + 1) (p.2.take n ++ ys))) (.stk b (p.1 + 1) (n + ys.length)))
    | _ => none
def anX (gh : List GObj) (bytes : Nat) (v w : PV) (f : List GObj → PV → Option R) : Option R :=
  match v with
  | .nils => ob (elsOf gh w) fun ys => gd (decide (ys ≠ [] ∧ ys.length * bytes ≤ maxBytes ∧ ys.all isFlat = true)) (f (gh ++ [.stk 0 ys]) (.stk gh.length 0 ys.length))
  | v => akX gh bytes v w f
def lkK (gh : List GObj) (v : PV) (f : PV → Option R) : Option R := match v with | .pstk b gen i => ob (stkGet gh b gen i) f | _ => none
def exX (v : PV) (i : Nat) (f : PV → Option R) : Option R := match v with | .tup vs => ob vs[i]? f | _ => none
noncomputable def callR (gh : List GObj) (q : Bool) (x : Option (PV × List GObj)) (f : PV → List GObj → Option R) : Option R :=
  open Classical in
  match x with | some (r, gh') => (match q with | true => (if gh' = gh then f r gh else none) | false => f r gh') | none => none
def callN (vs : List PV) (x : Option (PV × List GObj)) (f : PV → Option R) : Option R :=
  gd (noGs vs) (match x with | some (r, []) => gd r.noG (f r) | _ => none)
def elK (gh : List GObj) (vs : List PV) (k : List PV → Option R) : Option R := match elPs gh vs with | some us => k us | none => none
def callE (us : List PV) (x : Option (PV × List GObj)) (f : PV → Option R) : Option R :=
  gd (noGs us) (match x with | some (r, []) => gd (isFlat r) (f r) | _ => none)
def fnX (v : PV) (f : Nat → List PV → Option R) : Option R := match v with | .fn i cs => f i cs | _ => none
def newX (s : St) (d : Nat) (g : Bool) (cs : List PV) (k : St → Option R) : Option R :=
  match g with
  | true => putK s.env d (.ptr true s.gh.length 0) fun e => k ⟨e, s.lh, s.gh ++ [.cells cs]⟩
  | false => putK s.env d (.ptr false s.lh.length 0) fun e => snocK s.lh cs fun lh => k ⟨e, lh, s.gh⟩
def binX (op : BinOp) (a b : PV) (f : PV → Option R) : Option R :=
  match a, b with
  | .int k x, .int k' y => match op with
    | .add => kE k k' (f (.int k (k.wrap (x + y))))
    | .sub => kE k k' (f (.int k (k.wrap (x - y))))
    | .mul => kE k k' (f (.int k (k.wrap (x * y))))
    | .quo => kE k k' (gd (decide (y ≠ 0)) (f (.int k (k.wrap (x.tdiv y)))))
    | .rem => kE k k' (gd (decide (y ≠ 0)) (f (.int k (x.tmod y))))
    | .and => kE k k' (f (.int k (iAnd k x y)))
    | .or => kE k k' (f (.int k (iOr k x y)))
    | .xor => kE k k' (f (.int k (iXor k x y)))
    | .eql => kE k k' (f (.bool (x == y)))
    | .neq => kE k k' (f (.bool (x != y)))
    | .lss => kE k k' (f (.bool (decide (x < y))))
    | .leq => kE k k' (f (.bool (decide (x ≤ y))))
    | .gtr => kE k k' (f (.bool (decide (y < x))))
    | .geq => kE k k' (f (.bool (decide (y ≤ x))))
    | .shl => gd (decide (0 ≤ y)) (f (.int k (iShl k x y)))
    | .shr => gd (decide (0 ≤ y)) (f (.int k (iShr k x y)))
    | op => ob (binPV op (.int k x) (.int k' y)) f
  | .str x, .str y => match op with
    | .eql => f (.bool (x.toList == y.toList))
    | .neq => f (.bool (!(x.toList == y.toList)))
    | op => ob (binPV op (.str x) (.str y)) f
  | _, _ => none
def unX (op : UnOp) (a : PV) (f : PV → Option R) : Option R :=
  match op, a with
  | .neg, .int k n => f (.int k (k.wrap (0 - n)))
  | .xor, .int k n => f (.int k (iNot k n))
  | .not, .bool b => f (.bool (!b))
  | _, _ => none
def maxX (vs : List PV) (f : PV → Option R) : Option R :=
  match vs with
  | [.int k a, .int k' b] => kE k k' (f (.int k (if b > a then b else a)))
  | _ => none
def setO (an : Tr) (s : St) (d : Option Nat) (v : PV) (k : St → Option R) : Option R :=
  match d with
  | some d => setX an s d v k
  | none => k s
noncomputable def oX_mv (cf : CallF) (an : Tr) (s : St) (k : St → Option R) (d : Nat) (x : IX) : Option R := match evK s.env x with
    | some v => setX an s d v k
    | none => none
noncomputable def oX_tk (cf : CallF) (an : Tr) (s : St) (k : St → Option R) (d : Nat) (n : Nat) : Option R := match getX s.env n with
    | some v => putK s.env n (degr v) fun e => putK e d v fun e => k ⟨e, s.lh, s.gh⟩
    | none => none
noncomputable def oX_pick (cf : CallF) (an : Tr) (s : St) (k : St → Option R) (d : Nat) (c : IX) (x : IX) (y : IX) : Option R := match evX s.env c, evX s.env x, evX s.env y with
    | some c, some v, some w => unB c fun b => br d b (setX an s d v k) (setX an s d w k)
    | _, _, _ => none
noncomputable def oX_box_true (cf : CallF) (an : Tr) (s : St) (k : St → Option R) (d : Nat) (g : Bool) (x : IX) : Option R := tkX s.env x fun v e => arK v (cellsX (shX an x) v fun cs => newX ⟨e, s.lh, s.gh⟩ d g cs k)
noncomputable def oX_box_false (cf : CallF) (an : Tr) (s : St) (k : St → Option R) (d : Nat) (g : Bool) (x : IX) : Option R := match evX s.env x with
    | some v => arK v (cellsX (shX an x) v fun cs => newX s d g cs k)
    | none => none
noncomputable def oX_alloc (cf : CallF) (an : Tr) (s : St) (k : St → Option R) (d : Nat) (g : Bool) (z : PV) : Option R := arK z (newX s d g z.cells k)
noncomputable def oX_build (cf : CallF) (an : Tr) (s : St) (k : St → Option R) (d : Nat) (z : List PV) (ps : List (Nat × Nat × IX)) : Option R := arL z (psX an s.env ps z fun cs => putS s d (.agg cs) k)
noncomputable def oX_buildT (cf : CallF) (an : Tr) (s : St) (k : St → Option R) (d : Nat) (z : List PV) (ps : List (Nat × Nat × IX)) : Option R := arL z (psT an s.env ps z fun e cs => putK e d (.agg cs) fun e => k ⟨e, s.lh, s.gh⟩)
noncomputable def oX_buildSl (cf : CallF) (an : Tr) (s : St) (k : St → Option R) (d : Nat) (z : Nat) (els : List IX) : Option R := evXs s.env els fun vs => slK z vs (putS s d (.sl true z vs) k)
noncomputable def oX_load (cf : CallF) (an : Tr) (s : St) (k : St → Option R) (d : Nat) (agg : Bool) (kk : Nat) (a : IX) : Option R := match evX s.env a with
    | some p => ldX s.lh s.gh agg kk p fun v => setX an s d v k
    | none => none
noncomputable def oX_loadT (cf : CallF) (an : Tr) (s : St) (k : St → Option R) (d : Nat) (a : IX) : Option R := match evX s.env a with
    | some (.ptr false b off) => match nthX s.lh b with
      | some cs => ob cs[off]? fun v => setK s.lh b (spliceAt cs off [degr1 v]) fun lh => putK s.env d v fun e => k ⟨e, lh, s.gh⟩
      | none => none
    | some (.ptr true b off) => ob (ghCells s.gh b) fun cs => ob cs[off]? fun v => putK s.env d v fun e => k ⟨e, s.lh, s.gh.set b (.cells (spliceAt cs off [degr1 v]))⟩
    | _ => none
noncomputable def oX_loadL (cf : CallF) (an : Tr) (s : St) (k : St → Option R) (d : Nat) (a : IX) : Option R := match evX s.env a with
    | some (.ptr false b off) => match nthX s.lh b with
      | some cs => ob cs[off]? fun v => setK s.lh b (spliceAt cs off [degr1 v]) fun lh => putK s.env d v fun e => k ⟨e, lh, s.gh⟩
      | none => none
    | _ => none
noncomputable def oX_store_true (cf : CallF) (an : Tr) (s : St) (k : St → Option R) (kk : Nat) (a : IX) (x : IX) : Option R := match evX s.env a with
    | some p => tkX s.env x fun v e => arK v (cellsX (shX an x) v fun cs => stoX ⟨e, s.lh, s.gh⟩ p kk cs k)
    | none => none
noncomputable def oX_store_false (cf : CallF) (an : Tr) (s : St) (k : St → Option R) (kk : Nat) (a : IX) (x : IX) : Option R := match evX s.env a, evX s.env x with
    | some p, some v => arK v (cellsX (shX an x) v fun cs => stoX s p kk cs k)
    | _, _ => none
noncomputable def oX_nilc (cf : CallF) (an : Tr) (s : St) (k : St → Option R) (d : Nat) (x : IX) : Option R := match evX s.env x with
    | some p => gd (isPtr p) (setX an s d p k)
    | none => none
noncomputable def oX_bin (cf : CallF) (an : Tr) (s : St) (k : St → Option R) (d : Nat) (op : BinOp) (x : IX) (y : IX) : Option R := match evX s.env x, evX s.env y with
    | some a, some b => binX op a b fun v => setX an s d v k
    | _, _ => none
noncomputable def oX_eqa (cf : CallF) (an : Tr) (s : St) (k : St → Option R) (d : Nat) (neg : Bool) (ks : List Bool) (x : IX) (y : IX) : Option R := match evX s.env x, evX s.env y with
    | some (.agg a), some (.agg b) => ob (flatEq ks a b) fun r => putS s d (.bool (match neg with | true => !r | false => r)) k
    | _, _ => none
noncomputable def oX_eqb (cf : CallF) (an : Tr) (s : St) (k : St → Option R) (d : Nat) (neg : Bool) (x : IX) (y : IX) : Option R := match evX s.env x, evX s.env y with
    | some a, some b => unB a fun a => unB b fun b => putS s d (.bool (match neg with | true => a != b | false => a == b)) k
    | _, _ => none
noncomputable def oX_eqn (cf : CallF) (an : Tr) (s : St) (k : St → Option R) (d : Nat) (neg : Bool) (x : IX) : Option R := match evX s.env x with
    | some v => nilB v fun b => putS s d (.bool (match neg with | true => !b | false => b)) k
    | none => none
noncomputable def oX_un (cf : CallF) (an : Tr) (s : St) (k : St → Option R) (d : Nat) (op : UnOp) (x : IX) : Option R := match evX s.env x with
    | some a => unX op a fun v => setX an s d v k
    | none => none
noncomputable def oX_conv (cf : CallF) (an : Tr) (s : St) (k : St → Option R) (d : Nat) (kd : IntKind) (x : IX) : Option R := match evX s.env x with
    | some v => anyI v fun n => putS s d (.int kd (kd.wrap n)) k
    | none => none
noncomputable def oX_mkfn (cf : CallF) (an : Tr) (s : St) (k : St → Option R) (d : Nat) (f : Nat) (caps : List IX) : Option R := evXs s.env caps fun vs => allK vs (putS s d (.fn f vs) k)
noncomputable def oX_mkmap (cf : CallF) (an : Tr) (s : St) (k : St → Option R) (d : Nat) : Option R := putK s.env d (.mp s.gh.length) fun e => k ⟨e, s.lh, s.gh ++ [.map []]⟩
noncomputable def oX_mksl (cf : CallF) (an : Tr) (s : St) (k : St → Option R) (d : Nat) (g : Bool) (z : Nat) (bytes : Nat) (zero : PV) (l : IX) : Option R := match evX s.env l with
    | some v => anyI v fun n => gd (mkOk n bytes z zero) (match g with
      | true => putK s.env d (.bs true s.gh.length 0 n.toNat z) fun e => k ⟨e, s.lh, s.gh ++ [.cells ((List.replicate n.toNat zero).flatMap PV.cells)]⟩
      | false => gd (isFlat zero) (putK s.env d (.sl true z (List.replicate n.toNat zero)) fun e => k ⟨e, s.lh, s.gh⟩))
    | none => none
noncomputable def oX_slice (cf : CallF) (an : Tr) (s : St) (k : St → Option R) (d : Nat) (z : Nat) (x : IX) (lo : Option IX) (hi : Option IX) : Option R := match evX s.env x with
    | some v => boX s.env lo fun lo => boX s.env hi fun hi => slX z v lo hi fun w => setX an s d w k
    | none => none
noncomputable def oX_sliceS (cf : CallF) (an : Tr) (s : St) (k : St → Option R) (d : Nat) (x : IX) (lo : Option IX) (hi : Option IX) : Option R := match evX s.env x with
    | some v => boX s.env lo fun lo => boX s.env hi fun hi => ssX v lo hi fun w => putS s d (.str w) k
    | none => none
noncomputable def oX_faddr (cf : CallF) (an : Tr) (s : St) (k : St → Option R) (d : Nat) (x : IX) (off : Nat) : Option R := match evX s.env x with
    | some p => faX p off fun p => setX an s d p k
    | none => none
noncomputable def oX_field (cf : CallF) (an : Tr) (s : St) (k : St → Option R) (d : Nat) (agg : Bool) (kk : Nat) (off : Nat) (x : IX) : Option R := match evX s.env x with
    | some v => fdX v agg kk off fun v => setX an s d v k
    | none => none
noncomputable def oX_iaddr (cf : CallF) (an : Tr) (s : St) (k : St → Option R) (d : Nat) (z : Nat) (arr : Option Nat) (x : IX) (i : IX) : Option R := match evX s.env i, evX s.env x with
    | some i, some v => anyI i fun i => idX z arr v i fun p => setX an s d p k
    | _, _ => none
noncomputable def oX_index (cf : CallF) (an : Tr) (s : St) (k : St → Option R) (d : Nat) (z : Nat) (arr : Nat) (agg : Bool) (x : IX) (i : IX) : Option R := match evX s.env i, evX s.env x with
    | some i, some v => anyI i fun i => ixX v z arr agg i fun v => setX an s d v k
    | _, _ => none
noncomputable def oX_indexS (cf : CallF) (an : Tr) (s : St) (k : St → Option R) (d : Nat) (x : IX) (i : IX) : Option R := match evX s.env i, evX s.env x with
    | some i, some v => anyI i fun i => isX v i fun u => putS s d (.int .u8 u) k
    | _, _ => none
noncomputable def oX_lookup (cf : CallF) (an : Tr) (s : St) (k : St → Option R) (d : Nat) (kn : Nat) (m : IX) (kx : IX) (ok : Bool) (zero : PV) : Option R := match evX s.env m, evX s.env kx with
    | some m, some kv => lkX s.gh kn m kv fun r => setX an s d (match ok with | true => .tup [r.getD (degr zero), .bool r.isSome] | false => r.getD (degr zero)) k
    | _, _ => none
noncomputable def oX_mupd (cf : CallF) (an : Tr) (s : St) (k : St → Option R) (kn : Nat) (m : IX) (kx : IX) (x : IX) : Option R := match evX s.env m, evX s.env kx, evX s.env x with
    | some m, some kv, some v => muX s.gh kn m kv v fun gh => k ⟨s.env, s.lh, gh⟩
    | _, _, _ => none
noncomputable def oX_call (cf : CallF) (an : Tr) (s : St) (k : St → Option R) (d : Option Nat) (q : Bool) (f : Nat) (xs : List IX) : Option R := evXs s.env xs fun vs => allK vs (callR s.gh q (cf f vs s.gh) fun r gh => setO an ⟨s.env, s.lh, gh⟩ d r k)
noncomputable def oX_callv (cf : CallF) (an : Tr) (s : St) (k : St → Option R) (d : Option Nat) (q : Bool) (fv : IX) (xs : List IX) : Option R := match evX s.env fv with
    | some fv => evXs s.env xs fun vs => fnX fv fun f caps => allK vs (allK caps (callR s.gh q (cf f (vs ++ caps) s.gh) fun r gh => setO an ⟨s.env, s.lh, gh⟩ d r k))
    | none => none
noncomputable def oX_callF (cf : CallF) (an : Tr) (s : St) (k : St → Option R) (d : Option Nat) (f : Nat) (xs : List IX) : Option R := evXs s.env xs fun vs => allK vs (callN vs (cf f vs []) fun r => setO an s d r k)
noncomputable def oX_callE (cf : CallF) (an : Tr) (s : St) (k : St → Option R) (d : Option Nat) (fv : IX) (xs : List IX) : Option R := match evX s.env fv with
    | some fv => evXs s.env xs fun vs => fnX fv fun f caps => allK vs (allK caps (elK s.gh (vs ++ caps) fun us => allK us (callE us (cf f us []) fun r => setO an s d r k)))
    | none => none
noncomputable def oX_loadN (cf : CallF) (an : Tr) (s : St) (k : St → Option R) (d : Nat) (agg : Bool) (kk : Nat) (a : IX) (n : Nat) : Option R := match evX s.env a, getX s.env n with
    | some (.ptr g b off), some (.ptr g' b' _) => gd (decide (g ≠ g' ∨ b ≠ b')) (ldX s.lh s.gh agg kk (.ptr g b off) fun v => setX an s d v k)
    | _, _ => none
noncomputable def oX_len_0 (cf : CallF) (an : Tr) (s : St) (k : St → Option R) (d : Nat) (x : IX) : Option R := match evX s.env x with
    | some v => lenS v fun n => putS s d (.int .i64 n) k
    | none => none
noncomputable def oX_len_1 (cf : CallF) (an : Tr) (s : St) (k : St → Option R) (d : Nat) (x : IX) : Option R := match evX s.env x with
    | some v => unS v fun b => putS s d (.int .i64 b.size) k
    | none => none
noncomputable def oX_len_2 (cf : CallF) (an : Tr) (s : St) (k : St → Option R) (d : Nat) (x : IX) : Option R := match evX s.env x with
    | some v => lenM s.gh v fun n => putS s d (.int .i64 n) k
    | none => none
noncomputable def oX_append (cf : CallF) (an : Tr) (s : St) (k : St → Option R) (d : Nat) (z : Nat) (bytes : Nat) (sx : IX) (x : IX) : Option R := match evX s.env x with
    | some w => tkX s.env sx fun v e => apX z bytes v w fun ys => putK e d (.sl true z ys) fun e => k ⟨e, s.lh, s.gh⟩
    | none => none
noncomputable def oX_appendK (cf : CallF) (an : Tr) (s : St) (k : St → Option R) (d : Nat) (bytes : Nat) (sx : IX) (x : IX) : Option R := match evX s.env x, evX s.env sx with
    | some w, some v => akX s.gh bytes v w fun gh u => setX an ⟨s.env, s.lh, gh⟩ d u k
    | _, _ => none
noncomputable def oX_appendN (cf : CallF) (an : Tr) (s : St) (k : St → Option R) (d : Nat) (bytes : Nat) (sx : IX) (x : IX) : Option R := match evX s.env x, evX s.env sx with
    | some w, some v => anX s.gh bytes v w fun gh u => setX an ⟨s.env, s.lh, gh⟩ d u k
    | _, _ => none
noncomputable def oX_loadK (cf : CallF) (an : Tr) (s : St) (k : St → Option R) (d : Nat) (a : IX) : Option R := match evX s.env a with
    | some v => lkK s.gh v fun u => setX an s d u k
    | none => none
noncomputable def oX_loadH (cf : CallF) (an : Tr) (s : St) (k : St → Option R) (d : Nat) (a : IX) : Option R := match evX s.env a with
    | some (.ptr false b off) => (match nthX s.lh b with | some cs => ob cs[off]? fun v => setX an s d (degr v) k | none => none)
    | _ => none
noncomputable def oX_buildSlK (cf : CallF) (an : Tr) (s : St) (k : St → Option R) (d : Nat) (els : List IX) : Option R := evXs s.env els fun vs => gd (vs.all isFlat) (putK s.env d (.stk s.gh.length 0 vs.length) fun e => k ⟨e, s.lh, s.gh ++ [.stk 0 vs]⟩)
noncomputable def oX_maxi (cf : CallF) (an : Tr) (s : St) (k : St → Option R) (d : Nat) (xs : List IX) : Option R := evXs s.env xs fun vs => maxX vs fun v => setX an s d v k
noncomputable def oX_extract (cf : CallF) (an : Tr) (s : St) (k : St → Option R) (d : Nat) (x : IX) (i : Nat) : Option R := match evX s.env x with
    | some v => exX v i fun v => setX an s d v k
    | none => none
noncomputable def opX (cf : CallF) (an : Tr) (s : St) (o : IOp) (k : St → Option R) : Option R :=
  match o with
  | .mv d x => oX_mv cf an s k d x
  | .tk d n => oX_tk cf an s k d n
  | .pick d c x y => oX_pick cf an s k d c x y
  | .box d g true x => oX_box_true cf an s k d g x
  | .box d g false x => oX_box_false cf an s k d g x
  | .alloc d g z => oX_alloc cf an s k d g z
  | .build d z ps => oX_build cf an s k d z ps
  | .buildT d z ps => oX_buildT cf an s k d z ps
  | .buildSl d z els => oX_buildSl cf an s k d z els
  | .load d agg kk a => oX_load cf an s k d agg kk a
  | .loadT d a => oX_loadT cf an s k d a
  | .loadL d a => oX_loadL cf an s k d a
  | .store true kk a x => oX_store_true cf an s k kk a x
  | .store false kk a x => oX_store_false cf an s k kk a x
  | .nilc d x => oX_nilc cf an s k d x
  | .bin d op x y => oX_bin cf an s k d op x y
  | .eqa d neg ks x y => oX_eqa cf an s k d neg ks x y
  | .eqb d neg x y => oX_eqb cf an s k d neg x y
  | .eqn d neg x => oX_eqn cf an s k d neg x
  | .un d op x => oX_un cf an s k d op x
  | .conv d kd x => oX_conv cf an s k d kd x
  | .mkfn d f caps => oX_mkfn cf an s k d f caps
  | .mkmap d => oX_mkmap cf an s k d
  | .mksl d g z bytes zero l => oX_mksl cf an s k d g z bytes zero l
  | .slice d z x lo hi => oX_slice cf an s k d z x lo hi
  | .sliceS d x lo hi => oX_sliceS cf an s k d x lo hi
  | .faddr d x off => oX_faddr cf an s k d x off
  | .field d agg kk off x => oX_field cf an s k d agg kk off x
  | .iaddr d z arr x i => oX_iaddr cf an s k d z arr x i
  | .index d z arr agg x i => oX_index cf an s k d z arr agg x i
  | .indexS d x i => oX_indexS cf an s k d x i
  | .lookup d kn m kx ok zero => oX_lookup cf an s k d kn m kx ok zero
  | .mupd kn m kx x => oX_mupd cf an s k kn m kx x
  | .call d q f xs => oX_call cf an s k d q f xs
  | .callv d q fv xs => oX_callv cf an s k d q fv xs
  | .callF d f xs => oX_callF cf an s k d f xs
  | .callE d fv xs => oX_callE cf an s k d fv xs
  | .loadN d agg kk a n => oX_loadN cf an s k d agg kk a n
  | .len d 0 x => oX_len_0 cf an s k d x
  | .len d 1 x => oX_len_1 cf an s k d x
  | .len d 2 x => oX_len_2 cf an s k d x
  | .len _ _ _ => none
  | .append d z bytes sx x => oX_append cf an s k d z bytes sx x
  | .appendK d bytes sx x => oX_appendK cf an s k d bytes sx x
  | .appendN d bytes sx x => oX_appendN cf an s k d bytes sx x
  | .storeK _ _ | .clearK _ | .mkbf _ _ _ => none
  | .buildSlK d els => oX_buildSlK cf an s k d els
  | .loadK d a => oX_loadK cf an s k d a
  | .loadH d a => oX_loadH cf an s k d a
  | .maxi d xs => oX_maxi cf an s k d xs
  | .extract d x i => oX_extract cf an s k d x i
  | .callP _ _ _ _ | .callR _ _ _ _ _ | .loadKB _ _ _ | .loadTB _ _ _ _ | .loadB _ _ _ _ _ | .loadJ _ _ _ _ | .appendP _ _ _ _ _ | .mkarr _ _ _ _ _ | .buildA _ _ _ => none
def skX (s : St) (o : IOp) (k : St → Option R) : Option R :=
  match opDst o with
  | some d => putS s d .und k
  | none => k s
noncomputable def opsX (cf : CallF) (an : Tr) : List IOpG → St → (St → Option R) → Option R
  | [], s, k => k s
  | ⟨o, none⟩ :: l, s, k => opX cf an s o fun s => opsX cf an l s k
  | ⟨o, some (g, want)⟩ :: l, s, k => match getX s.env g with
    | some (.bool b) => br g b
        (putS s g (.bool true) fun s => match want with
          | true => opX cf an s o fun s => opsX cf an l s k
          | false => skX s o fun s => opsX cf an l s k)
        (putS s g (.bool false) fun s => match want with
          | false => opX cf an s o fun s => opsX cf an l s k
          | true => skX s o fun s => opsX cf an l s k)
    | some .und => skX s o fun s => opsX cf an l s k
    | _ => none
def keepX (nl : Nat) : List Nat → List (Nat × PV) → (List (Nat × PV) → Option R) → Option R
  | [], _, f => f []
  | t :: l, e, f => match getX e t with
    | some v => stK nl v (keepX nl l e fun e' => f ((t, v) :: e'))
    | none => keepX nl l e f
def po (ks : List Nat) (nl : Nat) (e : IExit) (s : St) (k : IExit → St → Option R) : Option R :=
  match e with
  | .normal => keepX nl ks s.env fun e => takeK nl s.lh fun lh => k .normal ⟨e, lh, s.gh⟩
  | e => k e s
def tagX : IX → Nat
  | .t n => n
  | _ => 0
noncomputable def runX (pg : Prg) (an : Tr) : ICode → St → (IExit → St → Option R) → Option R
  | .skip, s, k => k .normal s
  | .region ops _, s, k => opsX (callL pg) an ops s (k .normal)
  | .seq a b, s, k => runX pg an a s fun e s' => nx e s' k fun s' => runX pg an b s' k
  | .cond x a b, s, k => match evX s.env x with
    | some v => unB v fun c => br (tagX x) c (runX pg an a s k) (runX pg an b s k)
    | none => none
  | .block id a, s, k => runX pg an a s fun e s' => bk id e s' k
  | .loop a, s, k => kR (runL pg (.loop a) s) k
  | .exit i, s, k => k (.exit i) s
  | .ret, s, k => k .ret s
  | .post a ks nl, s, k => runX pg an a s fun e s' => po ks nl e s' k
  | .cut a, s, k => kR (runL pg a s) k
  | .bad, _, _ => none
end
abbrev DR := Option (IExit × St)
abbrev tI (k : Nat) (l r : Tr) : Tr := .node k (.ce (.int .i64)) l r
abbrev tB (k : Nat) (l r : Tr) : Tr := .node k (.ce (.bool)) l r
abbrev tO (k : Nat) (l r : Tr) : Tr := .node k (.ce (.one)) l r
abbrev tG (k : Nat) (l r : Tr) : Tr := .node k (.ce (.gp)) l r
abbrev uI (k : Nat) : Tr := .node k (.ce (.int .i64)) .nil .nil
abbrev uB (k : Nat) : Tr := .node k (.ce (.bool)) .nil .nil
abbrev uO (k : Nat) : Tr := .node k (.ce (.one)) .nil .nil
abbrev uG (k : Nat) : Tr := .node k (.ce (.gp)) .nil .nil
end Go.Lw
end
