/-
  The texts that the proof stands on, part 3.
-/
import Derived.Test.YtmodipglnngghacGreatDoorTraceParsesB
set_option linter.unusedVariables false
set_option linter.unusedSimpArgs false
set_option linter.unnecessarySimpa false

/-! Library functions, told as they are. -/
section
namespace Go.Lw
open Go
def libGrow (z bytes : Nat) : List PV → List GObj → Option (PV × List GObj)
  | [.nils, .int .i64 n], gh => if 0 ≤ n ∧ n.toNat * bytes ≤ maxBytes then some (.sl true z [], gh) else none
  | _, _ => none
end Go.Lw
end

/-! The code of package Eval for the small machine. Written by program (gen.py). -/
section
set_option maxRecDepth 10000
namespace Go.Lw
open Go
/- 123: latchwork/eval.Begin -/
/- 128: latchwork/eval.Values -/
/- 129: latchwork/eval.Step -/
/- 130: latchwork/eval.Look -/
/- 135: latchwork/eval.Words -/
def f_eval_Words_b1 : ICode :=
  (.post (.seq (.region [
 (oN (.bin 17 .lss (.t 16) (.t 15)))] false)
  (.seq (.cond (.t 17) .skip
  (.exit 0))
  (.seq (.block 1 (.seq (.post (.region [
 (oM 18 16),
 (oA 19 14 16),
 (oL 20 19),
 (oM 7 18),
 (oM 8 20)] false) [2, 3, 7, 8, 14, 15, 16] 1)
  (.seq (.post (.region [
 (oM 21 2),
 (oM 22 7),
 (oA 23 21 22),
 (oL 24 23),
 (oF 25 3 0),
 (oL 26 25),
 (oM 27 8),
 (oN (.iaddr 28 6 none (.t 26) (.t 27))),
 (oF 29 28 1),
 (oL 30 29),
 (oN (.call (some 31) true 65 [(.t 24), (.t 30)])),
 (oN (.un 32 .not (.t 31)))] true) [2, 3, 14, 15, 16, 32] 1)
  (.cond (.t 32) (.seq (.post (.region [
 (oN (.mv 6 (.c (I 3))))] false) [6] 0)
  .ret)
  .skip))))
  (.post (.region [
 (oN (.bin 33 .add (.t 16) (.c (I 1)))),
 (oM 16 33)] false) [2, 3, 14, 15, 16] 1)))) [2, 3, 14, 15, 16] 1)
def f_eval_Words_l1 : ICode :=
  (.post (.block 0 (.loop f_eval_Words_b1)) [] 0)
def f_eval_Words_k1 : ICode :=
  (.seq (.region [
 (oN (.mv 6 (.c (I 0))))] false)
  .ret)
def f_eval_Words_0 : ICode :=
  (.seq (.post (.region [
 (oN (.box 3 false false (.t 0))),
 (oN (.mv 6 (.c (I 0))))] false) [1, 2, 3] 1)
  (.seq (.seq (.post (.region [
 (oM 9 2),
 (oN (.len 10 0 (.t 9))),
 (oM 11 1),
 (oN (.len 12 0 (.t 11))),
 (oN (.bin 13 .neq (.t 10) (.t 12)))] false) [1, 2, 3, 13] 1)
  (.cond (.t 13) (.seq (.post (.region [
 (oN (.mv 6 (.c (I 2))))] false) [6] 0)
  .ret)
  .skip))
  (.seq (.seq (.post (.region [
 (oM 14 1),
 (oN (.len 15 0 (.t 14))),
 (oN (.mv 16 (.c (I 0))))] false) [2, 3, 14, 15, 16] 1)
  (.cut f_eval_Words_l1))
  (.cut f_eval_Words_k1))))
def f_eval_Words : IFunc := { np := 3, res := [.t 6], own := false, trunc := true, body := f_eval_Words_0 }
/- 136: latchwork/eval.First -/
def f_eval_First_b1 : ICode :=
  (.post (.seq (.region [
 (oN (.bin 29 .lss (.t 28) (.t 27)))] false)
  (.seq (.cond (.t 29) .skip
  (.exit 0))
  (.seq (.block 1 (.seq (.post (.region [
 (oN (.iaddr 30 2 none (.t 26) (.t 28))),
 (oN (.load 31 true 2 (.t 30))),
 (oN (.alloc 9 false (.agg [I 0, I 0]))),
 (oN (.store false 2 (.t 9) (.t 31)))] false) [1, 5, 6, 7, 9, 26, 27, 28] 1)
  (.post (.region [
 (oM 32 7),
 (oF 33 9 0),
 (oL 34 33),
 (oM 35 6),
 (oF 36 9 1),
 (oL 37 36),
 (oA 38 35 37),
 (oL 39 38),
 (oN (.mupd 0 (.t 32) (.t 34) (.t 39)))] true) [1, 5, 6, 7, 26, 27, 28] 0)))
  (.post (.region [
 (oN (.bin 40 .add (.t 28) (.c (I 1)))),
 (oM 28 40)] false) [1, 5, 6, 7, 26, 27, 28] 0)))) [1, 5, 6, 7, 26, 27, 28] 0)
def f_eval_First_l1 : ICode :=
  (.post (.block 0 (.loop f_eval_First_b1)) [1, 5, 7] 0)
def f_eval_First_k2 : ICode :=
  (.post (.region [
 (oN (.tk 60 10)),
 (oM 61 13),
 (oN (.buildSl 62 1 [(.t 61)])),
 (oN (.append 63 1 8 (.t 60) (.t 62))),
 (oN (.tk 10 63))] false) [1, 7, 10, 41, 42, 43] 0)
def f_eval_First_k3 : ICode :=
  (.post (.region [
 (oN (.bin 64 .add (.t 43) (.c (I 1)))),
 (oM 43 64)] false) [1, 7, 10, 41, 42, 43] 0)
def f_eval_First_b2 : ICode :=
  (.post (.seq (.region [
 (oN (.bin 44 .lss (.t 43) (.t 42)))] false)
  (.seq (.cond (.t 44) .skip
  (.exit 2))
  (.seq (.block 3 (.seq (.post (.region [
 (oM 45 43),
 (oA 46 41 43),
 (oL 47 46),
 (oM 11 45),
 (oM 12 47)] false) [1, 7, 10, 11, 12, 41, 42, 43] 0)
  (.seq (.post (.region [
 (oM 49 7),
 (oM 50 12),
 (oN (.lookup 51 0 (.t 49) (.t 50) true (I 0))),
 (oM 48 51),
 (oN (.extract 52 (.t 48) 0)),
 (oN (.extract 53 (.t 48) 1)),
 (oM 13 52),
 (oM 14 53)] false) [1, 7, 10, 11, 13, 14, 41, 42, 43] 0)
  (.seq (.seq (.post (.region [
 (oM 54 14),
 (oN (.un 55 .not (.t 54)))] false) [1, 7, 10, 11, 13, 41, 42, 43, 55] 0)
  (.cond (.t 55) (.post (.post (.region [
 (oM 56 1),
 (oM 57 11),
 (oA 58 56 57),
 (oL 59 58),
 (oM 13 59)] false) [1, 7, 10, 13, 41, 42, 43] 0) [1, 7, 10, 13, 41, 42, 43] 0)
  (.post .skip [1, 7, 10, 13, 41, 42, 43] 0)))
  (.cut f_eval_First_k2)))))
  (.cut f_eval_First_k3)))) [1, 7, 10, 41, 42, 43] 0)
def f_eval_First_l2 : ICode :=
  (.post (.block 2 (.loop f_eval_First_b2)) [10] 0)
def f_eval_First_k4 : ICode :=
  (.seq (.post (.region [
 (oM 65 10),
 (oN (.tk 4 65))] false) [4] 0)
  .ret)
def f_eval_First_k1 : ICode :=
  (.seq (.region [
 (oN (.mv 10 (.c (.sl true 1 []))))] false)
  (.seq (.seq (.post (.region [
 (oM 41 5),
 (oN (.len 42 0 (.t 41))),
 (oN (.mv 43 (.c (I 0))))] false) [1, 7, 10, 41, 42, 43] 0)
  (.cut f_eval_First_l2))
  (.cut f_eval_First_k4)))
def f_eval_First_0 : ICode :=
  (.seq (.post (.region [
 (oN (.box 2 false false (.t 0))),
 (oN (.mv 4 (.c (.sl true 1 []))))] false) [1, 2] 1)
  (.seq (.post (.region [
 (oN (.load 15 true 5 (.t 2))),
 (oN (.call (some 16) true 101 [(.t 15), (.c (I 3))])),
 (oN (.tk 5 16))] false) [1, 2, 5] 1)
  (.seq (.post (.region [
 (oN (.load 17 true 5 (.t 2))),
 (oM 18 5),
 (oN (.call (some 19) true 142 [(.t 18)])),
 (oN (.load 20 true 5 (.t 2))),
 (oN (.call (some 21) true 101 [(.t 20), (.c (I 2))])),
 (oN (.call (some 22) true 142 [(.t 21)])),
 (oN (.call (some 23) true 139 [(.t 17), (.t 19), (.t 22)])),
 (oN (.tk 6 23))] true) [1, 2, 5, 6] 1)
  (.seq (.post (.region [
 (oN (.mkmap 24)),
 (oM 7 24)] false) [1, 2, 5, 6, 7] 1)
  (.seq (.seq (.post (.region [
 (oF 25 2 1),
 (oL 26 25),
 (oN (.len 27 0 (.t 26))),
 (oN (.mv 28 (.c (I 0))))] false) [1, 5, 6, 7, 26, 27, 28] 0)
  (.cut f_eval_First_l1))
  (.cut f_eval_First_k1))))))
def f_eval_First : IFunc := { np := 2, res := [.t 4], own := false, trunc := true, body := f_eval_First_0 }
/- 138: latchwork/eval.ready -/
/- 139: latchwork/eval.Raw -/
def f_eval_Raw_k1 : ICode :=
  (.post (.region [
 (oN (.bin 79 .add (.t 19) (.c (I 1)))),
 (oM 19 79)] false) [1, 2, 3, 7, 8, 17, 18, 19] 1)
def f_eval_Raw_b1 : ICode :=
  (.post (.seq (.region [
 (oN (.bin 20 .lss (.t 19) (.t 18)))] false)
  (.seq (.cond (.t 20) .skip
  (.exit 0))
  (.seq (.block 1 (.seq (.post (.region [
 (oM 21 19),
 (oN (.iaddr 22 6 none (.t 17) (.t 19))),
 (oN (.load 23 true 6 (.t 22))),
 (oN (.alloc 10 false (.agg [I 0, I 0, I 0, I 0, I 0, I 0]))),
 (oM 9 21),
 (oN (.store false 6 (.t 10) (.t 23)))] false) [1, 2, 3, 7, 8, 9, 10, 17, 18, 19] 2)
  (.seq (.post (.region [
 (oF 24 10 0),
 (oL 25 24)] false) [1, 2, 3, 7, 8, 9, 10, 17, 18, 19, 25] 2)
  (.block 2 (.seq (.post (.region [
 (oN (.bin 53 .eql (.t 25) (.c (I 1)))),
 (oM 52 53)] false) [1, 2, 3, 7, 8, 9, 10, 17, 18, 19, 25, 52] 2)
  (.cond (.t 52) (.post (.post (.region [
 (oL 54 7),
 (oM 55 9),
 (oF 56 10 5),
 (oL 57 56),
 (oA 58 54 55),
 (oN (.store false 1 (.t 58) (.t 57)))] false) [1, 2, 3, 7, 8, 17, 18, 19] 1) [1, 2, 3, 7, 8, 17, 18, 19] 1)
  (.post (.seq (.post (.region [
 (oN (.bin 60 .eql (.t 25) (.c (I 3)))),
 (oM 59 60)] false) [1, 2, 3, 7, 8, 9, 10, 17, 18, 19, 25, 59] 2)
  (.cond (.t 59) (.post (.post (.region [
 (oL 61 7),
 (oM 62 9),
 (oM 63 1),
 (oN (.iaddr 64 1 none (.t 63) (.c (I 0)))),
 (oL 65 64),
 (oM 66 1),
 (oN (.slice 67 1 (.t 66) (some (.c (I 1))) none)),
 (oA 68 61 62),
 (oN (.store false 1 (.t 68) (.t 65))),
 (oN (.tk 1 67))] true) [1, 2, 3, 7, 8, 17, 18, 19] 1) [1, 2, 3, 7, 8, 17, 18, 19] 1)
  (.post (.seq (.post (.region [
 (oN (.bin 70 .eql (.t 25) (.c (I 2)))),
 (oM 69 70)] false) [1, 2, 3, 7, 8, 9, 10, 17, 18, 19, 69] 2)
  (.cond (.t 69) (.post (.post (.region [
 (oL 71 7),
 (oM 72 9),
 (oM 73 2),
 (oN (.iaddr 74 1 none (.t 73) (.c (I 0)))),
 (oL 75 74),
 (oM 76 2),
 (oN (.slice 77 1 (.t 76) (some (.c (I 1))) none)),
 (oA 78 71 72),
 (oN (.store false 1 (.t 78) (.t 75))),
 (oN (.tk 2 77))] true) [1, 2, 3, 7, 8, 17, 18, 19] 1) [1, 2, 3, 7, 8, 17, 18, 19] 1)
  (.post (.post (.region [
 (oL 26 7),
 (oM 27 9),
 (oF 28 10 0),
 (oL 29 28),
 (oF 30 10 1),
 (oL 31 30),
 (oM 32 8),
 (oF 33 10 2),
 (oL 34 33),
 (oN (.callv (some 35) true (.t 32) [(.t 34)])),
 (oM 36 8),
 (oF 37 10 3),
 (oL 38 37),
 (oN (.callv (some 39) true (.t 36) [(.t 38)])),
 (oM 40 8),
 (oF 41 10 4),
 (oL 42 41),
 (oN (.callv (some 43) true (.t 40) [(.t 42)])),
 (oF 44 10 5),
 (oL 45 44),
 (oF 46 3 0),
 (oL 47 46),
 (oN (.load 48 true 6 (.t 10))),
 (oN (.call (some 49) true 104 [(.t 47), (.t 48)])),
 (oN (.call (some 50) true 66 [(.t 29), (.t 31), (.t 35), (.t 39), (.t 43), (.t 45), (.t 49)])),
 (oA 51 26 27),
 (oN (.store false 1 (.t 51) (.t 50)))] true) [1, 2, 3, 7, 8, 17, 18, 19] 1) [1, 2, 3, 7, 8, 17, 18, 19] 1))) [1, 2, 3, 7, 8, 17, 18, 19] 1))) [1, 2, 3, 7, 8, 17, 18, 19] 1)))))))
  (.cut f_eval_Raw_k1)))) [1, 2, 3, 7, 8, 17, 18, 19] 1)
def f_eval_Raw_l1 : ICode :=
  (.post (.block 0 (.loop f_eval_Raw_b1)) [7] 0)
def f_eval_Raw_k2 : ICode :=
  (.seq (.post (.region [
 (oL 80 7),
 (oN (.tk 6 80))] false) [6] 0)
  .ret)
def f_eval_Raw_0 : ICode :=
  (.seq (.post (.region [
 (oN (.box 3 false false (.t 0))),
 (oN (.mv 6 (.c (.sl true 1 []))))] false) [1, 2, 3] 1)
  (.seq (.post (.region [
 (oF 11 3 0),
 (oL 12 11),
 (oN (.len 13 0 (.t 12))),
 (oN (.mksl 14 true 1 8 (I 0) (.t 13))),
 (oN (.alloc 7 true (.sl true 1 []))),
 (oN (.store true 1 (.t 7) (.t 14)))] false) [1, 2, 3, 7] 1)
  (.seq (.post (.region [
 (oN (.mkfn 15 143 [(.t 7)])),
 (oM 8 15)] false) [1, 2, 3, 7, 8] 1)
  (.seq (.seq (.post (.region [
 (oF 16 3 0),
 (oL 17 16),
 (oN (.len 18 0 (.t 17))),
 (oN (.mv 19 (.c (I 0))))] false) [1, 2, 3, 7, 8, 17, 18, 19] 1)
  (.cut f_eval_Raw_l1))
  (.cut f_eval_Raw_k2)))))
def f_eval_Raw : IFunc := { np := 3, res := [.t 6], own := false, trunc := true, body := f_eval_Raw_0 }
/- 140: latchwork/eval.Next -/
def f_eval_Next_b1 : ICode :=
  (.post (.seq (.region [
 (oN (.bin 16 .lss (.t 15) (.t 14)))] false)
  (.seq (.cond (.t 16) .skip
  (.exit 0))
  (.seq (.block 1 (.seq (.post (.region [
 (oN (.iaddr 17 2 none (.t 13) (.t 15))),
 (oN (.load 18 true 2 (.t 17))),
 (oN (.alloc 7 false (.agg [I 0, I 0]))),
 (oN (.store false 2 (.t 7) (.t 18)))] false) [1, 2, 5, 7, 13, 14, 15] 2)
  (.post (.region [
 (oM 19 5),
 (oF 20 7 0),
 (oL 21 20),
 (oM 22 1),
 (oF 23 7 1),
 (oL 24 23),
 (oA 25 22 24),
 (oL 26 25),
 (oN (.mupd 0 (.t 19) (.t 21) (.t 26)))] true) [1, 2, 5, 13, 14, 15] 1)))
  (.post (.region [
 (oN (.bin 27 .add (.t 15) (.c (I 1)))),
 (oM 15 27)] false) [1, 2, 5, 13, 14, 15] 1)))) [1, 2, 5, 13, 14, 15] 1)
def f_eval_Next_l1 : ICode :=
  (.post (.block 0 (.loop f_eval_Next_b1)) [2, 5] 1)
def f_eval_Next_b2 : ICode :=
  (.post (.seq (.region [
 (oN (.bin 32 .lss (.t 31) (.t 30)))] false)
  (.seq (.cond (.t 32) .skip
  (.exit 2))
  (.seq (.block 3 (.seq (.post (.region [
 (oA 33 29 31),
 (oL 34 33),
 (oM 10 34)] false) [5, 8, 10, 29, 30, 31] 0)
  (.post (.region [
 (oN (.tk 35 8)),
 (oM 36 5),
 (oM 37 10),
 (oN (.lookup 38 0 (.t 36) (.t 37) false (I 0))),
 (oN (.buildSl 39 1 [(.t 38)])),
 (oN (.append 40 1 8 (.t 35) (.t 39))),
 (oN (.tk 8 40))] false) [5, 8, 29, 30, 31] 0)))
  (.post (.region [
 (oN (.bin 41 .add (.t 31) (.c (I 1)))),
 (oM 31 41)] false) [5, 8, 29, 30, 31] 0)))) [5, 8, 29, 30, 31] 0)
def f_eval_Next_l2 : ICode :=
  (.post (.block 2 (.loop f_eval_Next_b2)) [8] 0)
def f_eval_Next_k2 : ICode :=
  (.seq (.post (.region [
 (oM 42 8),
 (oN (.tk 4 42))] false) [4] 0)
  .ret)
def f_eval_Next_k1 : ICode :=
  (.seq (.region [
 (oN (.mv 8 (.c (.sl true 1 []))))] false)
  (.seq (.seq (.post (.region [
 (oN (.load 28 true 5 (.t 2))),
 (oN (.call (some 29) true 101 [(.t 28), (.c (I 3))])),
 (oN (.len 30 0 (.t 29))),
 (oN (.mv 31 (.c (I 0))))] false) [5, 8, 29, 30, 31] 0)
  (.cut f_eval_Next_l2))
  (.cut f_eval_Next_k2)))
def f_eval_Next_0 : ICode :=
  (.seq (.post (.region [
 (oN (.box 2 false false (.t 0))),
 (oN (.mv 4 (.c (.sl true 1 []))))] false) [1, 2] 1)
  (.seq (.post (.region [
 (oN (.mkmap 11)),
 (oM 5 11)] false) [1, 2, 5] 1)
  (.seq (.seq (.post (.region [
 (oF 12 2 2),
 (oL 13 12),
 (oN (.len 14 0 (.t 13))),
 (oN (.mv 15 (.c (I 0))))] false) [1, 2, 5, 13, 14, 15] 1)
  (.cut f_eval_Next_l1))
  (.cut f_eval_Next_k1))))
def f_eval_Next : IFunc := { np := 2, res := [.t 4], own := false, trunc := true, body := f_eval_Next_0 }
/- 141: latchwork/eval.Marks -/
def f_eval_Marks_b1 : ICode :=
  (.post (.seq (.region [
 (oN (.bin 16 .lss (.t 15) (.t 14)))] false)
  (.seq (.cond (.t 16) .skip
  (.exit 0))
  (.seq (.block 1 (.seq (.post (.region [
 (oA 17 13 15),
 (oL 18 17),
 (oM 9 18)] false) [1, 2, 6, 7, 9, 13, 14, 15] 1)
  (.post (.region [
 (oM 19 6),
 (oM 20 19),
    ⟨.mv 21 (.t 1), some (20, true)⟩,
    ⟨.mv 22 (.t 9), some (20, true)⟩,
    ⟨.iaddr 23 1 none (.t 21) (.t 22), some (20, true)⟩,
    ⟨.load 24 false 1 (.t 23), some (20, true)⟩,
    ⟨.bin 25 .eql (.t 24) (.c (I 1)), some (20, true)⟩,
 (oN (.pick 26 (.t 20) (.t 25) (.c (.bool false)))),
 (oM 6 26)] false) [1, 2, 6, 7, 13, 14, 15] 1)))
  (.post (.region [
 (oN (.bin 27 .add (.t 15) (.c (I 1)))),
 (oM 15 27)] false) [1, 2, 6, 7, 13, 14, 15] 1)))) [1, 2, 6, 7, 13, 14, 15] 1)
def f_eval_Marks_l1 : ICode :=
  (.post (.block 0 (.loop f_eval_Marks_b1)) [1, 2, 6, 7] 1)
def f_eval_Marks_b2 : ICode :=
  (.post (.seq (.region [
 (oN (.bin 32 .lss (.t 31) (.t 30)))] false)
  (.seq (.cond (.t 32) .skip
  (.exit 2))
  (.seq (.block 3 (.seq (.post (.region [
 (oA 33 29 31),
 (oL 34 33),
 (oM 11 34)] false) [1, 6, 7, 11, 29, 30, 31] 0)
  (.post (.region [
 (oM 35 7),
 (oM 36 35),
    ⟨.mv 37 (.t 1), some (36, false)⟩,
    ⟨.mv 38 (.t 11), some (36, false)⟩,
    ⟨.iaddr 39 1 none (.t 37) (.t 38), some (36, false)⟩,
    ⟨.load 40 false 1 (.t 39), some (36, false)⟩,
    ⟨.bin 41 .eql (.t 40) (.c (I 1)), some (36, false)⟩,
 (oN (.pick 42 (.t 36) (.c (.bool true)) (.t 41))),
 (oM 7 42)] false) [1, 6, 7, 29, 30, 31] 0)))
  (.post (.region [
 (oN (.bin 43 .add (.t 31) (.c (I 1)))),
 (oM 31 43)] false) [1, 6, 7, 29, 30, 31] 0)))) [1, 6, 7, 29, 30, 31] 0)
def f_eval_Marks_l2 : ICode :=
  (.post (.block 2 (.loop f_eval_Marks_b2)) [6, 7] 0)
def f_eval_Marks_k2 : ICode :=
  (.seq (.post (.region [
 (oM 44 6),
 (oM 45 7),
 (oM 4 44),
 (oM 5 45)] false) [4, 5] 0)
  .ret)
def f_eval_Marks_k1 : ICode :=
  (.seq (.seq (.post (.region [
 (oF 28 2 3),
 (oL 29 28),
 (oN (.len 30 0 (.t 29))),
 (oN (.mv 31 (.c (I 0))))] false) [1, 6, 7, 29, 30, 31] 0)
  (.cut f_eval_Marks_l2))
  (.cut f_eval_Marks_k2))
def f_eval_Marks_0 : ICode :=
  (.seq (.post (.region [
 (oN (.box 2 false false (.t 0))),
 (oN (.mv 4 (.c (.bool false)))),
 (oN (.mv 5 (.c (.bool false))))] false) [1, 2] 1)
  (.seq (.region [
 (oN (.mv 6 (.c (.bool true)))),
 (oN (.mv 7 (.c (.bool false))))] false)
  (.seq (.seq (.post (.region [
 (oF 12 2 4),
 (oL 13 12),
 (oN (.len 14 0 (.t 13))),
 (oN (.mv 15 (.c (I 0))))] false) [1, 2, 6, 7, 13, 14, 15] 1)
  (.cut f_eval_Marks_l1))
  (.cut f_eval_Marks_k1))))
def f_eval_Marks : IFunc := { np := 2, res := [.t 4, .t 5], own := false, trunc := true, body := f_eval_Marks_0 }
/- 142: latchwork/eval.zeros -/
def f_eval_zeros_0 : ICode :=
  (.seq (.post (.region [
 (oN (.mv 2 (.c (.sl true 1 []))))] false) [0] 0)
  (.seq (.post (.region [
 (oM 3 0),
 (oN (.len 4 0 (.t 3))),
 (oN (.mksl 5 false 1 8 (I 0) (.t 4))),
 (oN (.tk 2 5))] false) [2] 0)
  .ret))
def f_eval_zeros : IFunc := { np := 1, res := [.t 2], own := false, trunc := true, body := f_eval_zeros_0 }
/- 143: latchwork/eval.Raw$1 -/
def f_eval_Raw_1_0 : ICode :=
  (.seq (.post (.region [
 (oN (.mv 3 (.c (I 0))))] false) [0, 1] 0)
  (.seq (.post (.region [
 (oL 4 1),
 (oM 5 0),
 (oA 6 4 5),
 (oL 7 6),
 (oM 3 7)] false) [3] 0)
  .ret))
def f_eval_Raw_1 : IFunc := { np := 2, res := [.t 3], own := false, trunc := true, body := f_eval_Raw_1_0 }
end Go.Lw
end

/-! The code of package Law for the small machine. Written by program (gen.py). -/
section
set_option maxRecDepth 10000
namespace Go.Lw
open Go
/- 0: latchwork/latchworklaw.GatesAnds -/
/- 5: latchwork/latchworklaw.gatesBegun -/
/- 8: latchwork/latchworklaw.GatesEvals -/
/- 13: latchwork/latchworklaw.sameBools -/
/- 14: latchwork/latchworklaw.GatesKeep -/
/- 15: latchwork/latchworklaw.CnfOfs -/
/- 18: latchwork/latchworklaw.cnfBegun -/
/- 19: latchwork/latchworklaw.clausesAre -/
/- 20: latchwork/latchworklaw.WordFits -/
/- 21: latchwork/latchworklaw.wordBegun -/
/- 24: latchwork/latchworklaw.WordApplies -/
/- 29: latchwork/latchworklaw.WordTurns -/
/- 30: latchwork/latchworklaw.choose -/
/- 31: latchwork/latchworklaw.CnfTells -/
/- 33: latchwork/latchworklaw.ModelChecks -/
/- 37: latchwork/latchworklaw.modelBegun -/
/- 40: latchwork/latchworklaw.listIs -/
/- 41: latchwork/latchworklaw.ModelCones -/
/- 44: latchwork/latchworklaw.ModelAgain -/
/- 75: latchwork/latchworklaw.toggle -/
def f_law_toggle_0 : ICode :=
  (.seq (.region [
 (oN (.alloc 0 false (.agg [.sl true 6 [], .sl true 2 [], .sl true 2 [], .sl true 1 [], .sl true 1 []])))] false)
  (.seq (.post (.region [
 (oN (.build 1 [I 0, I 0, I 0, I 0, I 0, I 0] [(0, 1, (.c (I 1))), (1, 1, (.c (I 1)))])),
 (oN (.build 2 [I 0, I 0, I 0, I 0, I 0, I 0] [(0, 1, (.c (I 3))), (1, 1, (.c (I 1)))])),
 (oN (.build 3 [I 0, I 0, I 0, I 0, I 0, I 0] [(0, 1, (.c (I 4))), (1, 1, (.c (I 1))), (2, 1, (.c (I 1)))])),
 (oN (.buildSl 4 6 [(.t 1), (.t 2), (.t 3)])),
 (oN (.build 5 [I 0, I 0] [(0, 1, (.c (I 1))), (1, 1, (.c (I 0)))])),
 (oN (.buildSl 6 2 [(.t 5)])),
 (oN (.build 7 [I 0, I 0] [(0, 1, (.c (I 1))), (1, 1, (.c (I 2)))])),
 (oN (.buildSl 8 2 [(.t 7)])),
 (oN (.buildSl 9 1 [(.c (I 1))])),
 (oN (.buildT 10 [.sl true 6 [], .sl true 2 [], .sl true 2 [], .sl true 1 [], .sl true 1 []] [(0, 1, (.t 4)), (1, 1, (.t 6)), (2, 1, (.t 8)), (3, 1, (.t 9))])),
 (oN (.store true 5 (.t 0) (.t 10)))] false) [0] 1)
  .ret))
def f_law_toggle : IFunc := { np := 0, res := [.cell 0 true 5], own := false, trunc := true, body := f_law_toggle_0 }
/- 122: latchwork/latchworklaw.EvalBegins -/
/- 126: latchwork/latchworklaw.evalBegun -/
/- 127: latchwork/latchworklaw.EvalValues -/
/- 144: latchwork/latchworklaw.ProofFollows -/
/- 147: latchwork/latchworklaw.proofBegun -/
/- 148: latchwork/latchworklaw.ProofChecks -/
/- 152: latchwork/latchworklaw.ProofSound -/
/- 165: latchwork/latchworklaw.searchBegun -/
/- 207: latchwork/latchworklaw.SearchIs -/
/- 210: latchwork/latchworklaw.BlastChecks -/
/- 211: latchwork/latchworklaw.blastBegun -/
/- 239: latchwork/latchworklaw.DecideTrue -/
/- 240: latchwork/latchworklaw.decideBegun -/
/- 241: latchwork/latchworklaw.exploreBegun -/
/- 242: latchwork/latchworklaw.traceBegun -/
def f_law_traceBegun_0 : ICode :=
  (.seq (.post (.region [
 (oN (.mv 0 (.c (.bool false))))] false) [] 0)
  (.seq (.post (.region [
 (oN (.buildSl 8 1 [(.c (I 0))])),
 (oN (.buildSl 9 1 [(.c (.sl true 1 [])), (.c (.sl true 1 []))])),
 (oN (.buildT 10 [.sl true 1 [], .sl true 1 []] [(0, 1, (.t 8)), (1, 1, (.t 9))])),
 (oN (.alloc 1 false (.agg [.sl true 1 [], .sl true 1 []]))),
 (oN (.store true 2 (.t 1) (.t 10)))] false) [1] 1)
  (.seq (.post (.region [
 (oN (.call (some 12) true 75 [])),
 (oN (.load 13 true 2 (.t 1))),
 (oN (.call (some 14) true 245 [(.t 12), (.t 13)])),
 (oM 11 14),
 (oN (.extract 15 (.t 11) 0)),
 (oN (.extract 16 (.t 11) 1)),
 (oM 2 15),
 (oM 3 16)] true) [1, 2, 3] 1)
  (.seq (.post (.region [
 (oN (.load 18 true 2 (.t 1))),
 (oN (.call (some 19) true 246 [(.t 18)])),
 (oM 17 19),
 (oN (.extract 20 (.t 17) 0)),
 (oN (.extract 21 (.t 17) 1)),
 (oM 4 20),
 (oM 5 21)] false) [1, 2, 3, 4, 5] 1)
  (.seq (.post (.region [
 (oM 23 4),
 (oN (.call (some 24) true 247 [(.t 23)])),
 (oM 22 24),
 (oN (.extract 25 (.t 22) 0)),
 (oN (.extract 26 (.t 22) 1)),
 (oN (.alloc 6 false (.agg [.sl true 1 [], .sl true 1 []]))),
 (oN (.store true 2 (.t 6) (.t 25))),
 (oM 7 26)] false) [1, 2, 3, 4, 5, 6, 7] 2)
  (.seq (.post (.region [
 (oM 27 3),
 (oN (.bin 28 .eql (.t 27) (.c (I 0)))),
 (oM 29 28),
    ⟨.mv 30 (.t 5), some (29, true)⟩,
    ⟨.bin 31 .eql (.t 30) (.c (I 0)), some (29, true)⟩,
 (oN (.pick 32 (.t 29) (.t 31) (.c (.bool false)))),
 (oM 33 32),
    ⟨.mv 34 (.t 7), some (33, true)⟩,
    ⟨.bin 35 .eql (.t 34) (.c (I 0)), some (33, true)⟩,
 (oN (.pick 36 (.t 33) (.t 35) (.c (.bool false)))),
 (oM 37 36),
    ⟨.mv 38 (.t 2), some (37, true)⟩,
 (oN (.pick 39 (.t 37) (.t 38) (.c (.bool false)))),
 (oM 40 39),
    ⟨.mv 41 (.t 4), some (40, true)⟩,
    ⟨.bin 42 .eql (.t 41) (.c (.str ⟨#[115, 116, 97, 114, 116, 32, 48, 10, 105, 110, 10, 105, 110, 10]⟩)), some (40, true)⟩,
 (oN (.pick 43 (.t 40) (.t 42) (.c (.bool false)))),
 (oM 44 43),
    ⟨.faddr 45 (.t 6) 1, some (44, true)⟩,
    ⟨.load 46 false 1 (.t 45), some (44, true)⟩,
    ⟨.len 47 0 (.t 46), some (44, true)⟩,
    ⟨.bin 48 .eql (.t 47) (.c (I 2)), some (44, true)⟩,
 (oN (.pick 49 (.t 44) (.t 48) (.c (.bool false)))),
 (oM 50 49),
    ⟨.call (some 51) true 75 [], some (50, true)⟩,
    ⟨.load 52 true 2 (.t 1), some (50, true)⟩,
    ⟨.call (some 53) true 248 [(.t 51), (.t 52)], some (50, true)⟩,
    ⟨.bin 54 .eql (.t 53) (.c (I 0)), some (50, true)⟩,
 (oN (.pick 55 (.t 50) (.t 54) (.c (.bool false)))),
 (oM 0 55)] true) [0] 0)
  .ret))))))
def f_law_traceBegun : IFunc := { np := 0, res := [.t 0], own := false, trunc := true, body := f_law_traceBegun_0 }
/- 318: latchwork/latchworklaw.ExploreAlls -/
/- 320: latchwork/latchworklaw.small -/
/- 325: latchwork/latchworklaw.BlastTells -/
/- 328: latchwork/latchworklaw.UnrollClauses -/
/- 332: latchwork/latchworklaw.unrollBegun -/
/- 333: latchwork/latchworklaw.ProveDifferents -/
/- 335: latchwork/latchworklaw.proveBegun -/
/- 345: latchwork/latchworklaw.TextBack -/
/- 346: latchwork/latchworklaw.textBegun -/
/- 350: latchwork/latchworklaw.TracePrints -/
/- 367: latchwork/latchworklaw.TextPrints -/
/- 369: latchwork/latchworklaw.TextParses -/
/- 371: latchwork/latchworklaw.TraceParses -/
def f_law_TraceParses_0 : ICode :=
  (.seq (.post (.region [
 (oN (.box 3 false false (.t 1))),
 (oN (.mv 4 (.c (.bool false))))] false) [0, 3] 1)
  (.seq (.post (.region [
 (oM 12 0),
 (oN (.call (some 13) true 247 [(.t 12)])),
 (oM 11 13),
 (oN (.extract 14 (.t 11) 0)),
 (oN (.extract 15 (.t 11) 1)),
 (oN (.alloc 5 false (.agg [.sl true 1 [], .sl true 1 []]))),
 (oN (.store true 2 (.t 5) (.t 14))),
 (oM 6 15)] false) [0, 3, 5, 6] 2)
  (.seq (.post (.region [
 (oM 17 0),
 (oN (.call (some 18) true 372 [(.t 17)])),
 (oM 16 18),
 (oN (.extract 19 (.t 16) 0)),
 (oN (.extract 20 (.t 16) 1)),
 (oN (.alloc 7 false (.agg [.sl true 1 [], .sl true 1 []]))),
 (oN (.store true 2 (.t 7) (.t 19))),
 (oM 8 20)] false) [3, 5, 6, 7, 8] 3)
  (.seq (.seq (.post (.region [
 (oN (.call (some 21) true 242 [])),
 (oN (.un 22 .not (.t 21))),
 (oM 23 22),
    ⟨.mv 24 (.t 6), some (23, false)⟩,
    ⟨.mv 25 (.t 8), some (23, false)⟩,
    ⟨.bin 26 .neq (.t 24) (.t 25), some (23, false)⟩,
 (oN (.pick 27 (.t 23) (.c (.bool true)) (.t 26))),
 (oM 28 27),
    ⟨.load 29 true 2 (.t 5), some (28, false)⟩,
    ⟨.load 30 true 2 (.t 7), some (28, false)⟩,
    ⟨.call (some 31) true 373 [(.t 29), (.t 30)], some (28, false)⟩,
    ⟨.un 32 .not (.t 31), some (28, false)⟩,
 (oN (.pick 33 (.t 28) (.c (.bool true)) (.t 32)))] false) [3, 33] 1)
  (.cond (.t 33) (.seq (.post (.region [
 (oN (.mv 4 (.c (.bool false))))] false) [4] 0)
  .ret)
  .skip))
  (.seq (.post (.region [
 (oN (.load 35 true 2 (.t 3))),
 (oN (.call (some 36) true 246 [(.t 35)])),
 (oM 34 36),
 (oN (.extract 37 (.t 34) 0)),
 (oN (.extract 38 (.t 34) 1)),
 (oM 9 37),
 (oM 6 38)] false) [3, 6, 9] 1)
  (.seq (.seq (.post (.region [
 (oM 39 6),
 (oN (.bin 40 .neq (.t 39) (.c (I 0))))] false) [3, 9, 40] 1)
  (.cond (.t 40) (.seq (.post (.region [
 (oN (.mv 4 (.c (.bool true))))] false) [4] 0)
  .ret)
  .skip))
  (.seq (.post (.region [
 (oM 42 9),
 (oN (.call (some 43) true 247 [(.t 42)])),
 (oM 41 43),
 (oN (.extract 44 (.t 41) 0)),
 (oN (.extract 45 (.t 41) 1)),
 (oN (.alloc 10 false (.agg [.sl true 1 [], .sl true 1 []]))),
 (oN (.store true 2 (.t 10) (.t 44))),
 (oM 6 45)] false) [3, 6, 10] 2)
  (.seq (.post (.region [
 (oM 46 6),
 (oN (.bin 47 .eql (.t 46) (.c (I 0)))),
 (oM 48 47),
    ⟨.load 49 true 2 (.t 10), some (48, true)⟩,
    ⟨.load 50 true 2 (.t 3), some (48, true)⟩,
    ⟨.call (some 51) true 373 [(.t 49), (.t 50)], some (48, true)⟩,
 (oN (.pick 52 (.t 48) (.t 51) (.c (.bool false)))),
 (oM 4 52)] false) [4] 0)
  .ret))))))))
def f_law_TraceParses : IFunc := { np := 2, res := [.t 4], own := false, trunc := true, body := f_law_TraceParses_0 }
/- 374: latchwork/latchworklaw.TracePlays -/
/- 378: latchwork/latchworklaw.ExploreFinds -/
/- 383: latchwork/latchworklaw.CnfHolds -/
end Go.Lw
end

/-! The code of package Lib for the small machine. Written by program (gen.py). -/
section
set_option maxRecDepth 10000
namespace Go.Lw
open Go
/- 82: slices.Concat[[]latchwork/api.Pair,latchwork/api.Pair] -/
/- 86: slices.ContainsFunc[[]int,int] -/
def f_slices_ContainsFunc_Lint_int_0 : ICode :=
  (.seq (.post (.region [
 (oN (.mv 4 (.c (.bool false))))] false) [0, 1] 0)
  (.seq (.post (.region [
 (oM 5 0),
 (oM 6 1),
 (oN (.call (some 7) true 111 [(.t 5), (.t 6)])),
 (oN (.bin 8 .geq (.t 7) (.c (I 0)))),
 (oM 4 8)] false) [4] 0)
  .ret))
def f_slices_ContainsFunc_Lint_int : IFunc := { np := 2, res := [.t 4], own := false, trunc := true, body := f_slices_ContainsFunc_Lint_int_0 }
/- 100: slices.ContainsFunc[[][]int,[]int] -/
/- 107: slices.Concat[[]int,int] -/
def f_slices_Concat_Lint_int_b1 : ICode :=
  (.post (.seq (.region [
 (oN (.bin 12 .lss (.t 11) (.t 10)))] false)
  (.seq (.cond (.t 12) .skip
  (.exit 0))
  (.seq (.block 1 (.seq (.post (.region [
 (oA 13 9 11),
 (oL 14 13),
 (oN (.tk 5 14))] false) [0, 3, 5, 9, 10, 11] 0)
  (.seq (.post (.region [
 (oM 15 3),
 (oM 16 5),
 (oN (.len 17 0 (.t 16))),
 (oN (.bin 18 .add (.t 15) (.t 17))),
 (oM 3 18)] false) [0, 3, 9, 10, 11] 0)
  (.seq (.post (.region [
 (oM 19 3),
 (oN (.bin 20 .lss (.t 19) (.c (I 0))))] false) [0, 3, 9, 10, 11, 20] 0)
  (.cond (.t 20) .bad
  .skip)))))
  (.post (.region [
 (oN (.bin 22 .add (.t 11) (.c (I 1)))),
 (oM 11 22)] false) [0, 3, 9, 10, 11] 0)))) [0, 3, 9, 10, 11] 0)
def f_slices_Concat_Lint_int_l1 : ICode :=
  (.post (.block 0 (.loop f_slices_Concat_Lint_int_b1)) [0, 3] 0)
def f_slices_Concat_Lint_int_b2 : ICode :=
  (.post (.seq (.region [
 (oN (.bin 28 .lss (.t 27) (.t 26)))] false)
  (.seq (.cond (.t 28) .skip
  (.exit 2))
  (.seq (.block 3 (.seq (.post (.region [
 (oA 29 25 27),
 (oL 30 29),
 (oN (.tk 8 30))] false) [6, 8, 25, 26, 27] 0)
  (.post (.region [
 (oN (.tk 31 6)),
 (oM 32 8),
 (oN (.append 33 1 8 (.t 31) (.t 32))),
 (oN (.tk 6 33))] false) [6, 25, 26, 27] 0)))
  (.post (.region [
 (oN (.bin 34 .add (.t 27) (.c (I 1)))),
 (oM 27 34)] false) [6, 25, 26, 27] 0)))) [6, 25, 26, 27] 0)
def f_slices_Concat_Lint_int_l2 : ICode :=
  (.post (.block 2 (.loop f_slices_Concat_Lint_int_b2)) [6] 0)
def f_slices_Concat_Lint_int_k2 : ICode :=
  (.seq (.post (.region [
 (oM 35 6),
 (oN (.tk 2 35))] false) [2] 0)
  .ret)
def f_slices_Concat_Lint_int_k1 : ICode :=
  (.seq (.post (.region [
 (oM 23 3),
 (oN (.call (some 24) true 119 [(.c .nils), (.t 23)])),
 (oN (.tk 6 24))] false) [0, 6] 0)
  (.seq (.seq (.post (.region [
 (oM 25 0),
 (oN (.len 26 0 (.t 25))),
 (oN (.mv 27 (.c (I 0))))] false) [6, 25, 26, 27] 0)
  (.cut f_slices_Concat_Lint_int_l2))
  (.cut f_slices_Concat_Lint_int_k2)))
def f_slices_Concat_Lint_int_0 : ICode :=
  (.seq (.post (.region [
 (oN (.mv 2 (.c (.sl true 1 []))))] false) [0] 0)
  (.seq (.region [
 (oN (.mv 3 (.c (I 0))))] false)
  (.seq (.seq (.post (.region [
 (oM 9 0),
 (oN (.len 10 0 (.t 9))),
 (oN (.mv 11 (.c (I 0))))] false) [0, 3, 9, 10, 11] 0)
  (.cut f_slices_Concat_Lint_int_l1))
  (.cut f_slices_Concat_Lint_int_k1))))
def f_slices_Concat_Lint_int : IFunc := { np := 1, res := [.t 2], own := true, trunc := true, body := f_slices_Concat_Lint_int_0 }
/- 111: slices.IndexFunc[[]int,int] -/
def f_slices_IndexFunc_Lint_int_b1 : ICode :=
  (.post (.seq (.region [
 (oN (.bin 9 .lss (.t 8) (.t 7)))] false)
  (.seq (.cond (.t 9) .skip
  (.exit 0))
  (.seq (.block 1 (.seq (.post (.region [
 (oM 10 8),
 (oM 5 10)] false) [0, 1, 5, 7, 8] 0)
  (.seq (.post (.region [
 (oM 11 1),
 (oM 12 0),
 (oM 13 5),
 (oA 14 12 13),
 (oL 15 14),
 (oN (.callv (some 16) true (.t 11) [(.t 15)]))] false) [0, 1, 5, 7, 8, 16] 0)
  (.cond (.t 16) (.seq (.post (.region [
 (oM 17 5),
 (oM 4 17)] false) [4] 0)
  .ret)
  .skip))))
  (.post (.region [
 (oN (.bin 18 .add (.t 8) (.c (I 1)))),
 (oM 8 18)] false) [0, 1, 7, 8] 0)))) [0, 1, 7, 8] 0)
def f_slices_IndexFunc_Lint_int_l1 : ICode :=
  (.post (.block 0 (.loop f_slices_IndexFunc_Lint_int_b1)) [] 0)
def f_slices_IndexFunc_Lint_int_k1 : ICode :=
  (.seq (.region [
 (oN (.mv 4 (.c (I (-1)))))] false)
  .ret)
def f_slices_IndexFunc_Lint_int_0 : ICode :=
  (.seq (.post (.region [
 (oN (.mv 4 (.c (I 0))))] false) [0, 1] 0)
  (.seq (.seq (.post (.region [
 (oM 6 0),
 (oN (.len 7 0 (.t 6))),
 (oN (.mv 8 (.c (I 0))))] false) [0, 1, 7, 8] 0)
  (.cut f_slices_IndexFunc_Lint_int_l1))
  (.cut f_slices_IndexFunc_Lint_int_k1)))
def f_slices_IndexFunc_Lint_int : IFunc := { np := 2, res := [.t 4], own := false, trunc := true, body := f_slices_IndexFunc_Lint_int_0 }
/- 117: slices.IndexFunc[[][]int,[]int] -/
/- 156: slices.Concat[[][]int,[]int] -/
/- 172: slices.ContainsFunc[[]int,int]#K -/
/- 181: math/bits.Len -/
/- 182: math/bits.Len32 -/
/- 183: math/bits.Len64 -/
/- 184: slices.Contains[[]int,int]#K -/
/- 185: slices.Contains[[]int,int] -/
/- 186: slices.Index[[]int,int] -/
/- 190: slices.SortFunc[[]int,int] -/
/- 192: slices.pdqsortCmpFunc[int] -/
/- 193: slices.nextPowerOfTwo -/
/- 194: (*slices.xorshift).Next -/
/- 195: slices.insertionSortCmpFunc[int] -/
/- 196: slices.heapSortCmpFunc[int] -/
/- 197: slices.breakPatternsCmpFunc[int] -/
/- 198: slices.choosePivotCmpFunc[int] -/
/- 199: slices.reverseRangeCmpFunc[int] -/
/- 200: slices.partialInsertionSortCmpFunc[int] -/
/- 201: slices.partitionEqualCmpFunc[int] -/
/- 202: slices.partitionCmpFunc[int] -/
/- 203: slices.siftDownCmpFunc[int] -/
/- 204: slices.medianAdjacentCmpFunc[int] -/
/- 205: slices.medianCmpFunc[int] -/
/- 206: slices.order2CmpFunc[int] -/
/- 208: slices.IndexFunc[[]int,int]#K -/
/- 209: slices.Index[[]int,int]#K -/
/- 216: slices.DeleteFunc[[]int,int] -/
/- 261: internal/stringslite.Cut -/
/- 270: internal/strconv.Itoa -/
/- 282: internal/stringslite.IndexByte -/
/- 283: strings.explode -/
/- 284: strings.Count -/
/- 285: strings.Index -/
/- 289: strconv.baseError -/
/- 290: strconv.bitSizeError -/
/- 294: internal/strconv.small -/
/- 296: internal/strconv.formatBase10 -/
/- 300: internal/bytealg.Cutover -/
/- 301: internal/bytealg.IndexRabinKarp[string] -/
/- 302: internal/bytealg.hashStr[string] -/
/- 304: unicode/utf8.DecodeRuneInString -/
/- 309: internal/strconv.log10Pow2 -/
/- 310: internal/strconv.isPowerOfTwo -/
/- 311: math/bits.TrailingZeros -/
/- 313: internal/strconv.lower -/
/- 314: internal/strconv.underscoreOK -/
/- 315: internal/strconv.bool2[int] -/
/- 343: slices.DeleteFunc[[]int,int]#K -/
/- 344: slices.Concat[[]int,int]#K -/
/- 358: (*strings.Builder).WriteByte -/
/- 360: slices.Index[[]string,string] -/
end Go.Lw
end

/-! The code of package Model for the small machine. Written by program (gen.py). -/
section
set_option maxRecDepth 10000
namespace Go.Lw
open Go
/- 34: latchwork/model.Inputs -/
/- 35: latchwork/model.States -/
/- 38: latchwork/model.Check -/
def f_model_Check_b1 : ICode :=
  (.post (.seq (.region [
 (oN (.bin 29 .lss (.t 28) (.t 27)))] false)
  (.seq (.cond (.t 29) .skip
  (.exit 0))
  (.seq (.block 1 (.seq (.post (.region [
 (oM 30 28),
 (oM 3 30)] false) [1, 3, 27, 28] 1)
  (.seq (.post (.region [
 (oF 31 1 0),
 (oL 32 31),
 (oM 33 3),
 (oN (.call (some 34) true 76 [(.t 32), (.t 33)])),
 (oM 4 34)] false) [1, 4, 27, 28] 1)
  (.seq (.post (.region [
 (oM 35 4),
 (oN (.bin 36 .neq (.t 35) (.c (I 0))))] false) [1, 4, 27, 28, 36] 1)
  (.cond (.t 36) (.seq (.post (.region [
 (oM 37 4),
 (oM 2 37)] false) [2] 0)
  .ret)
  .skip)))))
  (.post (.region [
 (oN (.bin 38 .add (.t 28) (.c (I 1)))),
 (oM 28 38)] false) [1, 27, 28] 1)))) [1, 27, 28] 1)
def f_model_Check_l1 : ICode :=
  (.post (.block 0 (.loop f_model_Check_b1)) [1] 1)
def f_model_Check_k1 : ICode :=
  (.seq (.seq (.post (.region [
 (oN (.load 40 true 5 (.t 1))),
 (oN (.call (some 41) true 77 [(.t 40)])),
 (oM 39 41),
 (oN (.extract 42 (.t 39) 0)),
 (oN (.extract 43 (.t 39) 1)),
 (oM 5 42),
 (oM 6 43)] false) [1, 5, 6] 1)
  (.seq (.post (.region [
 (oM 44 5),
 (oN (.bin 45 .gtr (.t 44) (.c (I 6)))),
 (oM 46 45),
    ⟨.mv 47 (.t 6), some (46, false)⟩,
    ⟨.bin 48 .gtr (.t 47) (.c (I 10)), some (46, false)⟩,
 (oN (.pick 49 (.t 46) (.c (.bool true)) (.t 48)))] false) [1, 49] 1)
  (.cond (.t 49) (.seq (.post (.region [
 (oN (.mv 2 (.c (I 2))))] false) [2] 0)
  .ret)
  .skip)))
  (.seq (.post (.region [
 (oN (.load 50 true 5 (.t 1))),
 (oN (.buildT 51 [.sl true 6 [], .sl true 2 [], .sl true 2 [], .sl true 1 [], .sl true 1 [], .sl true 1 []] [(0, 5, (.t 50))])),
 (oN (.box 52 true true (.t 51))),
 (oM 7 52)] false) [7] 0)
  (.seq (.post (.region [
 (oM 53 7),
 (oN (.call (some 54) false 78 [(.t 53)]))] false) [7] 0)
  (.seq (.seq (.post (.region [
 (oM 55 7),
 (oN (.call (some 56) true 79 [(.t 55)])),
 (oM 8 56)] false) [7, 8] 0)
  (.seq (.post (.region [
 (oM 57 8),
 (oN (.bin 58 .neq (.t 57) (.c (I 0))))] false) [7, 8, 58] 0)
  (.cond (.t 58) (.seq (.post (.region [
 (oM 59 8),
 (oM 2 59)] false) [2] 0)
  .ret)
  .skip)))
  (.seq (.post (.region [
 (oM 60 7),
 (oN (.call (some 61) true 80 [(.t 60)])),
 (oM 2 61)] false) [2] 0)
  .ret)))))
def f_model_Check_0 : ICode :=
  (.seq (.post (.region [
 (oN (.box 1 false false (.t 0))),
 (oN (.mv 2 (.c (I 0))))] false) [1] 1)
  (.seq (.seq (.post (.region [
 (oF 9 1 0),
 (oL 10 9),
 (oN (.len 11 0 (.t 10))),
 (oN (.bin 12 .gtr (.t 11) (.c (I 80)))),
 (oM 13 12),
    ⟨.faddr 14 (.t 1) 3, some (13, false)⟩,
    ⟨.load 15 false 1 (.t 14), some (13, false)⟩,
    ⟨.len 16 0 (.t 15), some (13, false)⟩,
    ⟨.bin 17 .gtr (.t 16) (.c (I 8)), some (13, false)⟩,
 (oN (.pick 18 (.t 13) (.c (.bool true)) (.t 17))),
 (oM 19 18),
    ⟨.faddr 20 (.t 1) 4, some (19, false)⟩,
    ⟨.load 21 false 1 (.t 20), some (19, false)⟩,
    ⟨.len 22 0 (.t 21), some (19, false)⟩,
    ⟨.bin 23 .gtr (.t 22) (.c (I 8)), some (19, false)⟩,
 (oN (.pick 24 (.t 19) (.c (.bool true)) (.t 23)))] false) [1, 24] 1)
  (.cond (.t 24) (.seq (.post (.region [
 (oN (.mv 2 (.c (I 2))))] false) [2] 0)
  .ret)
  .skip))
  (.seq (.seq (.post (.region [
 (oF 25 1 0),
 (oL 26 25),
 (oN (.len 27 0 (.t 26))),
 (oN (.mv 28 (.c (I 0))))] false) [1, 27, 28] 1)
  (.cut f_model_Check_l1))
  (.cut f_model_Check_k1))))
def f_model_Check : IFunc := { np := 1, res := [.t 2], own := false, trunc := true, body := f_model_Check_0 }
/- 42: latchwork/model.Cone -/
/- 71: latchwork/model.of -/
/- 76: latchwork/model.node -/
def f_model_node_k1 : ICode :=
  (.cond (.t 39) (.seq (.post (.region [
 (oN (.mv 4 (.c (I 1))))] false) [4] 0)
  .ret)
  .skip)
def f_model_node_k2 : ICode :=
  (.seq (.post (.region [
 (oN (.mv 4 (.c (I 0))))] false) [4] 0)
  .ret)
def f_model_node_b1 : ICode :=
  (.post (.seq (.region [
 (oN (.bin 70 .lss (.t 69) (.t 68)))] false)
  (.seq (.cond (.t 70) .skip
  (.exit 1))
  (.seq (.block 2 (.seq (.post (.region [
 (oM 71 69),
 (oA 72 67 69),
 (oL 73 72),
 (oM 6 71),
 (oM 7 73)] false) [0, 1, 5, 6, 7, 67, 68, 69] 1)
  (.seq (.post (.region [
 (oM 74 6),
 (oF 75 5 0),
 (oL 76 75),
 (oN (.call (some 77) true 63 [(.t 76)])),
 (oN (.bin 78 .lss (.t 74) (.t 77))),
 (oM 79 78),
    ⟨.mv 80 (.t 7), some (79, true)⟩,
    ⟨.bin 81 .lss (.t 80) (.c (I 0)), some (79, true)⟩,
    ⟨.mv 82 (.t 81), some (79, true)⟩,
    ⟨.mv 83 (.t 7), some (82, false)⟩,
    ⟨.mv 84 (.t 1), some (82, false)⟩,
    ⟨.bin 85 .geq (.t 83) (.t 84), some (82, false)⟩,
    ⟨.pick 86 (.t 82) (.c (.bool true)) (.t 85), some (79, true)⟩,
 (oN (.pick 87 (.t 79) (.t 86) (.c (.bool false)))),
 (oM 88 87),
    ⟨.mv 89 (.t 6), some (88, false)⟩,
    ⟨.faddr 90 (.t 5) 0, some (88, false)⟩,
    ⟨.load 91 false 1 (.t 90), some (88, false)⟩,
    ⟨.call (some 92) true 63 [(.t 91)], some (88, false)⟩,
    ⟨.bin 93 .geq (.t 89) (.t 92), some (88, false)⟩,
    ⟨.mv 94 (.t 93), some (88, false)⟩,
    ⟨.mv 95 (.t 7), some (94, true)⟩,
    ⟨.bin 96 .neq (.t 95) (.c (I 0)), some (94, true)⟩,
    ⟨.pick 97 (.t 94) (.t 96) (.c (.bool false)), some (88, false)⟩,
 (oN (.pick 98 (.t 88) (.c (.bool true)) (.t 97)))] false) [0, 1, 5, 67, 68, 69, 98] 1)
  (.cond (.t 98) (.seq (.post (.region [
 (oN (.mv 4 (.c (I 4))))] false) [4] 0)
  .ret)
  .skip))))
  (.post (.region [
 (oN (.bin 99 .add (.t 69) (.c (I 1)))),
 (oM 69 99)] false) [0, 1, 5, 67, 68, 69] 1)))) [0, 1, 5, 67, 68, 69] 1)
def f_model_node_l1 : ICode :=
  (.post (.block 1 (.loop f_model_node_b1)) [0, 5] 1)
def f_model_node_k4 : ICode :=
  (.seq (.post (.region [
 (oF 100 5 0),
 (oL 101 100),
 (oF 102 5 1),
 (oL 103 102),
 (oF 104 5 5),
 (oL 105 104),
 (oM 106 0),
 (oN (.load 107 true 6 (.t 5))),
 (oN (.call (some 108) true 104 [(.t 106), (.t 107)])),
 (oN (.call (some 109) true 22 [(.t 101), (.t 103), (.t 105), (.t 108)])),
 (oM 4 109)] true) [4] 0)
  .ret)
def f_model_node_k3 : ICode :=
  (.seq (.seq (.post (.region [
 (oF 61 5 2),
 (oL 62 61),
 (oF 63 5 3),
 (oL 64 63),
 (oF 65 5 4),
 (oL 66 65),
 (oN (.buildSl 67 1 [(.t 62), (.t 64), (.t 66)])),
 (oN (.len 68 0 (.t 67))),
 (oN (.mv 69 (.c (I 0))))] false) [0, 1, 5, 67, 68, 69] 1)
  (.cut f_model_node_l1))
  (.cut f_model_node_k4))
def f_model_node_0 : ICode :=
  (.seq (.post (.region [
 (oN (.mv 4 (.c (I 0))))] false) [0, 1] 0)
  (.seq (.post (.region [
 (oM 8 0),
 (oM 9 1),
 (oN (.iaddr 10 6 none (.t 8) (.t 9))),
 (oN (.load 11 true 6 (.t 10))),
 (oN (.alloc 5 false (.agg [I 0, I 0, I 0, I 0, I 0, I 0]))),
 (oN (.store false 6 (.t 5) (.t 11)))] false) [0, 1, 5] 1)
  (.seq (.seq (.post (.region [
 (oF 12 5 0),
 (oL 13 12),
 (oN (.bin 14 .lss (.t 13) (.c (I 1)))),
 (oM 15 14),
    ⟨.faddr 16 (.t 5) 0, some (15, false)⟩,
    ⟨.load 17 false 1 (.t 16), some (15, false)⟩,
    ⟨.bin 18 .geq (.t 17) (.c (I 24)), some (15, false)⟩,
 (oN (.pick 19 (.t 15) (.c (.bool true)) (.t 18)))] false) [0, 1, 5, 19] 1)
  (.cond (.t 19) (.seq (.post (.region [
 (oN (.mv 4 (.c (I 7))))] false) [4] 0)
  .ret)
  .skip))
  (.seq (.seq (.post (.region [
 (oF 20 5 1),
 (oL 21 20),
 (oN (.call (some 22) true 62 [(.t 21)])),
 (oN (.un 23 .not (.t 22)))] false) [0, 1, 5, 23] 1)
  (.cond (.t 23) (.seq (.post (.region [
 (oN (.mv 4 (.c (I 3))))] false) [4] 0)
  .ret)
  .skip))
  (.seq (.seq (.post (.region [
 (oF 24 5 0),
 (oL 25 24),
 (oN (.call (some 26) true 103 [(.t 25)]))] false) [0, 1, 5, 26] 1)
  (.cond (.t 26) (.seq (.block 0 (.seq (.post (.region [
 (oF 28 5 0),
 (oL 29 28),
 (oN (.bin 30 .eql (.t 29) (.c (I 1)))),
 (oM 31 30),
    ⟨.faddr 32 (.t 5) 5, some (31, true)⟩,
    ⟨.load 33 false 1 (.t 32), some (31, true)⟩,
    ⟨.faddr 34 (.t 5) 1, some (31, true)⟩,
    ⟨.load 35 false 1 (.t 34), some (31, true)⟩,
    ⟨.call (some 36) true 65 [(.t 33), (.t 35)], some (31, true)⟩,
    ⟨.un 37 .not (.t 36), some (31, true)⟩,
 (oN (.pick 38 (.t 31) (.t 37) (.c (.bool false)))),
 (oM 27 38)] false) [5, 27] 1)
  (.cond (.t 27) (.seq (.post (.region [
 (oN (.mv 4 (.c (I 3))))] false) [4] 0)
  .ret)
  (.seq (.seq (.post (.region [
 (oF 40 5 0),
 (oL 41 40),
 (oN (.bin 42 .neq (.t 41) (.c (I 1)))),
 (oM 43 42),
    ⟨.faddr 44 (.t 5) 5, some (43, true)⟩,
    ⟨.load 45 false 1 (.t 44), some (43, true)⟩,
    ⟨.bin 46 .neq (.t 45) (.c (I 0)), some (43, true)⟩,
 (oN (.pick 47 (.t 43) (.t 46) (.c (.bool false)))),
 (oM 39 47)] false) [5, 39] 1)
  (.cond (.t 39) (.post .skip [39] 0)
  (.post (.post (.region [
 (oF 48 5 2),
 (oL 49 48),
 (oN (.bin 50 .neq (.t 49) (.c (I 0)))),
 (oM 51 50),
    ⟨.faddr 52 (.t 5) 3, some (51, false)⟩,
    ⟨.load 53 false 1 (.t 52), some (51, false)⟩,
    ⟨.bin 54 .neq (.t 53) (.c (I 0)), some (51, false)⟩,
 (oN (.pick 55 (.t 51) (.c (.bool true)) (.t 54))),
 (oM 56 55),
    ⟨.faddr 57 (.t 5) 4, some (56, false)⟩,
    ⟨.load 58 false 1 (.t 57), some (56, false)⟩,
    ⟨.bin 59 .neq (.t 58) (.c (I 0)), some (56, false)⟩,
 (oN (.pick 60 (.t 56) (.c (.bool true)) (.t 59))),
 (oM 39 60)] false) [39] 0) [39] 0)))
  (.cut f_model_node_k1)))))
  (.cut f_model_node_k2))
  .skip))
  (.cut f_model_node_k3))))))
def f_model_node : IFunc := { np := 2, res := [.t 4], own := false, trunc := true, body := f_model_node_0 }
/- 77: latchwork/model.Bits -/
def f_model_Bits_0 : ICode :=
  (.seq (.post (.region [
 (oN (.box 1 false false (.t 0))),
 (oN (.mv 2 (.c (I 0)))),
 (oN (.mv 3 (.c (I 0))))] false) [1] 1)
  (.seq (.post (.region [
 (oN (.load 4 true 5 (.t 1))),
 (oN (.load 5 true 5 (.t 1))),
 (oN (.call (some 6) true 101 [(.t 5), (.c (I 2))])),
 (oN (.call (some 7) true 105 [(.t 4), (.t 6)])),
 (oN (.load 8 true 5 (.t 1))),
 (oN (.load 9 true 5 (.t 1))),
 (oN (.call (some 10) true 101 [(.t 9), (.c (I 3))])),
 (oN (.call (some 11) true 105 [(.t 8), (.t 10)])),
 (oM 2 7),
 (oM 3 11)] true) [2, 3] 0)
  .ret))
def f_model_Bits : IFunc := { np := 1, res := [.t 2, .t 3], own := false, trunc := true, body := f_model_Bits_0 }
/- 78: (*latchwork/model.checker).lean -/
def f_model_checker_lean_b2 : ICode :=
  (.post (.seq (.region [
 (oN (.bin 29 .lss (.t 28) (.t 27)))] false)
  (.seq (.cond (.t 29) .skip
  (.exit 2))
  (.seq (.block 3 (.seq (.post (.region [
 (oA 30 26 28),
 (oL 31 30),
 (oM 6 31)] false) [0, 4, 6, 11, 12, 13, 26, 27, 28] 0)
  (.post (.region [
 (oM 32 4),
 (oM 33 32),
    ⟨.mv 34 (.t 0), some (33, false)⟩,
    ⟨.nilc 35 (.t 34), some (33, false)⟩,
    ⟨.faddr 36 (.t 35) 5, some (33, false)⟩,
    ⟨.load 37 false 1 (.t 36), some (33, false)⟩,
    ⟨.mv 38 (.t 6), some (33, false)⟩,
    ⟨.iaddr 39 1 none (.t 37) (.t 38), some (33, false)⟩,
    ⟨.load 40 false 1 (.t 39), some (33, false)⟩,
 (oN (.pick 41 (.t 33) (.c (.bool true)) (.t 40))),
 (oM 4 41)] false) [0, 4, 11, 12, 13, 26, 27, 28] 0)))
  (.post (.region [
 (oN (.bin 42 .add (.t 28) (.c (I 1)))),
 (oM 28 42)] false) [0, 4, 11, 12, 13, 26, 27, 28] 0)))) [0, 4, 11, 12, 13, 26, 27, 28] 0)
def f_model_checker_lean_l2 : ICode :=
  (.post (.block 2 (.loop f_model_checker_lean_b2)) [0, 4, 11, 12, 13] 0)
def f_model_checker_lean_k1 : ICode :=
  (.post (.region [
 (oM 43 0),
 (oM 44 0),
 (oC 45 44),
 (oF 46 45 5),
 (oN (.loadT 47 (.t 46))),
 (oM 48 4),
 (oN (.buildSl 49 1 [(.t 48)])),
 (oN (.append 50 1 1 (.t 47) (.t 49))),
 (oC 51 43),
 (oF 52 51 5),
 (oN (.store true 1 (.t 52) (.t 50)))] false) [0, 11, 12, 13] 0)
def f_model_checker_lean_k2 : ICode :=
  (.post (.region [
 (oN (.bin 53 .add (.t 13) (.c (I 1)))),
 (oM 13 53)] false) [0, 11, 12, 13] 0)
def f_model_checker_lean_b1 : ICode :=
  (.post (.seq (.region [
 (oN (.bin 14 .lss (.t 13) (.t 12)))] false)
  (.seq (.cond (.t 14) .skip
  (.exit 0))
  (.seq (.block 1 (.seq (.post (.region [
 (oN (.iaddr 15 6 none (.t 11) (.t 13))),
 (oN (.load 16 true 6 (.t 15))),
 (oN (.alloc 3 false (.agg [I 0, I 0, I 0, I 0, I 0, I 0]))),
 (oN (.store false 6 (.t 3) (.t 16)))] false) [0, 3, 11, 12, 13] 1)
  (.seq (.post (.region [
 (oF 17 3 0),
 (oL 18 17),
 (oN (.bin 19 .eql (.t 18) (.c (I 2)))),
 (oM 20 19),
    ⟨.faddr 21 (.t 3) 0, some (20, false)⟩,
    ⟨.load 22 false 1 (.t 21), some (20, false)⟩,
    ⟨.bin 23 .eql (.t 22) (.c (I 3)), some (20, false)⟩,
 (oN (.pick 24 (.t 20) (.c (.bool true)) (.t 23))),
 (oM 4 24)] false) [0, 3, 4, 11, 12, 13] 1)
  (.seq (.seq (.post (.region [
 (oN (.load 25 true 6 (.t 3))),
 (oN (.call (some 26) true 81 [(.t 25)])),
 (oN (.len 27 0 (.t 26))),
 (oN (.mv 28 (.c (I 0))))] false) [0, 4, 11, 12, 13, 26, 27, 28] 0)
  (.cut f_model_checker_lean_l2))
  (.cut f_model_checker_lean_k1)))))
  (.cut f_model_checker_lean_k2)))) [0, 11, 12, 13] 0)
def f_model_checker_lean_l1 : ICode :=
  (.post (.block 0 (.loop f_model_checker_lean_b1)) [] 0)
def f_model_checker_lean_0 : ICode :=
  (.seq (.post (.region [
 (oM 7 0),
 (oC 8 7),
 (oF 9 8 0),
 (oF 10 9 0),
 (oL 11 10),
 (oN (.len 12 0 (.t 11))),
 (oN (.mv 13 (.c (I 0))))] false) [0, 11, 12, 13] 0)
  (.cut f_model_checker_lean_l1))
def f_model_checker_lean : IFunc := { np := 1, res := [], own := false, trunc := false, body := f_model_checker_lean_0 }
/- 79: (*latchwork/model.checker).pairs -/
def f_model_checker_pairs_b2 : ICode :=
  (.post (.seq (.region [
 (oN (.bin 33 .lss (.t 32) (.t 31)))] false)
  (.seq (.cond (.t 33) .skip
  (.exit 2))
  (.seq (.block 3 (.seq (.post (.region [
 (oN (.iaddr 34 2 none (.t 30) (.t 32))),
 (oN (.load 35 true 2 (.t 34))),
 (oN (.alloc 6 false (.agg [I 0, I 0]))),
 (oN (.store false 2 (.t 6) (.t 35)))] false) [0, 3, 6, 23, 24, 25, 30, 31, 32] 1)
  (.seq (.post (.region [
 (oM 36 0),
 (oN (.load 37 true 2 (.t 6))),
 (oM 38 3),
 (oN (.bin 39 .eql (.t 38) (.c (I 0)))),
 (oN (.call (some 40) true 106 [(.t 36), (.t 37), (.t 39)])),
 (oM 7 40)] false) [0, 3, 7, 23, 24, 25, 30, 31, 32] 0)
  (.seq (.post (.region [
 (oM 41 7),
 (oN (.bin 42 .neq (.t 41) (.c (I 0))))] false) [0, 3, 7, 23, 24, 25, 30, 31, 32, 42] 0)
  (.cond (.t 42) (.seq (.post (.region [
 (oM 43 7),
 (oM 2 43)] false) [2] 0)
  .ret)
  .skip)))))
  (.post (.region [
 (oN (.bin 44 .add (.t 32) (.c (I 1)))),
 (oM 32 44)] false) [0, 3, 23, 24, 25, 30, 31, 32] 0)))) [0, 3, 23, 24, 25, 30, 31, 32] 0)
def f_model_checker_pairs_l2 : ICode :=
  (.post (.block 2 (.loop f_model_checker_pairs_b2)) [0, 23, 24, 25] 0)
def f_model_checker_pairs_k1 : ICode :=
  (.post (.region [
 (oN (.bin 45 .add (.t 25) (.c (I 1)))),
 (oM 25 45)] false) [0, 23, 24, 25] 0)
def f_model_checker_pairs_b1 : ICode :=
  (.post (.seq (.region [
 (oN (.bin 26 .lss (.t 25) (.t 24)))] false)
  (.seq (.cond (.t 26) .skip
  (.exit 0))
  (.seq (.block 1 (.seq (.post (.region [
 (oM 27 25),
 (oA 28 23 25),
 (oL 29 28),
 (oM 3 27),
 (oN (.tk 4 29))] false) [0, 3, 4, 23, 24, 25] 0)
  (.seq (.post (.region [
 (oM 30 4),
 (oN (.len 31 0 (.t 30))),
 (oN (.mv 32 (.c (I 0))))] false) [0, 3, 23, 24, 25, 30, 31, 32] 0)
  (.cut f_model_checker_pairs_l2))))
  (.cut f_model_checker_pairs_k1)))) [0, 23, 24, 25] 0)
def f_model_checker_pairs_l1 : ICode :=
  (.post (.block 0 (.loop f_model_checker_pairs_b1)) [0] 0)
def f_model_checker_pairs_b4 : ICode :=
  (.post (.seq (.region [
 (oN (.bin 66 .lss (.t 65) (.t 64)))] false)
  (.seq (.cond (.t 66) .skip
  (.exit 6))
  (.seq (.block 7 (.seq (.post (.region [
 (oN (.iaddr 67 2 none (.t 63) (.t 65))),
 (oN (.load 68 true 2 (.t 67))),
 (oN (.alloc 12 false (.agg [I 0, I 0]))),
 (oN (.store false 2 (.t 12) (.t 68)))] false) [9, 10, 12, 56, 57, 58, 63, 64, 65] 1)
  (.post (.region [
 (oM 69 10),
 (oF 70 12 0),
 (oL 71 70),
 (oN (.mupd 0 (.t 69) (.t 71) (.c (.bool true))))] false) [9, 10, 56, 57, 58, 63, 64, 65] 0)))
  (.post (.region [
 (oN (.bin 72 .add (.t 65) (.c (I 1)))),
 (oM 65 72)] false) [9, 10, 56, 57, 58, 63, 64, 65] 0)))) [9, 10, 56, 57, 58, 63, 64, 65] 0)
def f_model_checker_pairs_l4 : ICode :=
  (.post (.block 6 (.loop f_model_checker_pairs_b4)) [9, 10, 56, 57, 58] 0)
def f_model_checker_pairs_k3 : ICode :=
  (.seq (.post (.region [
 (oM 73 10),
 (oN (.len 74 2 (.t 73))),
 (oM 75 9),
 (oN (.len 76 0 (.t 75))),
 (oN (.bin 77 .lss (.t 74) (.t 76)))] false) [56, 57, 58, 77] 0)
  (.cond (.t 77) (.seq (.post (.region [
 (oN (.mv 2 (.c (I 6))))] false) [2] 0)
  .ret)
  .skip))
def f_model_checker_pairs_k4 : ICode :=
  (.post (.region [
 (oN (.bin 78 .add (.t 58) (.c (I 1)))),
 (oM 58 78)] false) [56, 57, 58] 0)
def f_model_checker_pairs_b3 : ICode :=
  (.post (.seq (.region [
 (oN (.bin 59 .lss (.t 58) (.t 57)))] false)
  (.seq (.cond (.t 59) .skip
  (.exit 4))
  (.seq (.block 5 (.seq (.post (.region [
 (oA 60 56 58),
 (oL 61 60),
 (oN (.tk 9 61))] false) [9, 56, 57, 58] 0)
  (.seq (.post (.region [
 (oN (.mkmap 62)),
 (oM 10 62)] false) [9, 10, 56, 57, 58] 0)
  (.seq (.seq (.post (.region [
 (oM 63 9),
 (oN (.len 64 0 (.t 63))),
 (oN (.mv 65 (.c (I 0))))] false) [9, 10, 56, 57, 58, 63, 64, 65] 0)
  (.cut f_model_checker_pairs_l4))
  (.cut f_model_checker_pairs_k3)))))
  (.cut f_model_checker_pairs_k4)))) [56, 57, 58] 0)
def f_model_checker_pairs_l3 : ICode :=
  (.post (.block 4 (.loop f_model_checker_pairs_b3)) [] 0)
def f_model_checker_pairs_k5 : ICode :=
  (.seq (.region [
 (oN (.mv 2 (.c (I 0))))] false)
  .ret)
def f_model_checker_pairs_k2 : ICode :=
  (.seq (.seq (.post (.region [
 (oM 46 0),
 (oC 47 46),
 (oF 48 47 0),
 (oF 49 48 1),
 (oL 50 49),
 (oM 51 0),
 (oC 52 51),
 (oF 53 52 0),
 (oF 54 53 2),
 (oL 55 54),
 (oN (.buildSl 56 1 [(.t 50), (.t 55)])),
 (oN (.len 57 0 (.t 56))),
 (oN (.mv 58 (.c (I 0))))] true) [56, 57, 58] 0)
  (.cut f_model_checker_pairs_l3))
  (.cut f_model_checker_pairs_k5))
def f_model_checker_pairs_0 : ICode :=
  (.seq (.post (.region [
 (oN (.mv 2 (.c (I 0))))] false) [0] 0)
  (.seq (.seq (.post (.region [
 (oM 13 0),
 (oC 14 13),
 (oF 15 14 0),
 (oF 16 15 1),
 (oL 17 16),
 (oM 18 0),
 (oC 19 18),
 (oF 20 19 0),
 (oF 21 20 2),
 (oL 22 21),
 (oN (.buildSl 23 1 [(.t 17), (.t 22)])),
 (oN (.len 24 0 (.t 23))),
 (oN (.mv 25 (.c (I 0))))] true) [0, 23, 24, 25] 0)
  (.cut f_model_checker_pairs_l1))
  (.cut f_model_checker_pairs_k2)))
def f_model_checker_pairs : IFunc := { np := 1, res := [.t 2], own := false, trunc := true, body := f_model_checker_pairs_0 }
/- 80: (*latchwork/model.checker).marks -/
def f_model_checker_marks_0 : ICode :=
  (.seq (.post (.region [
 (oN (.box 1 true false (.t 0))),
 (oN (.mv 2 (.c (I 0))))] false) [1] 0)
  (.seq (.seq (.post (.region [
 (oL 4 1),
 (oC 5 4),
 (oF 6 5 0),
 (oF 7 6 2),
 (oL 8 7),
 (oN (.len 9 0 (.t 8))),
 (oL 10 1),
 (oC 11 10),
 (oF 12 11 0),
 (oN (.load 13 true 5 (.t 12))),
 (oN (.call (some 14) true 101 [(.t 13), (.c (I 3))])),
 (oN (.len 15 0 (.t 14))),
 (oN (.bin 16 .lss (.t 9) (.t 15)))] true) [1, 16] 0)
  (.cond (.t 16) (.seq (.post (.region [
 (oN (.mv 2 (.c (I 5))))] false) [2] 0)
  .ret)
  .skip))
  (.seq (.post (.region [
 (oL 17 1),
 (oC 18 17),
 (oF 19 18 0),
 (oF 20 19 3),
 (oL 21 20),
 (oL 22 1),
 (oC 23 22),
 (oF 24 23 0),
 (oF 25 24 4),
 (oL 26 25),
 (oN (.buildSl 27 1 [(.t 21), (.t 26)])),
 (oN (.call (some 28) true 107 [(.t 27)])),
 (oN (.tk 3 28))] true) [1, 3] 0)
  (.seq (.seq (.post (.region [
 (oM 29 3),
 (oN (.mkfn 30 108 [(.t 1)])),
 (oN (.call (some 31) true 86 [(.t 29), (.t 30)]))] false) [1, 3, 31] 0)
  (.cond (.t 31) (.seq (.post (.region [
 (oN (.mv 2 (.c (I 5))))] false) [2] 0)
  .ret)
  .skip))
  (.seq (.seq (.post (.region [
 (oM 32 3),
 (oN (.mkfn 33 109 [(.t 1)])),
 (oN (.call (some 34) true 86 [(.t 32), (.t 33)]))] false) [34] 0)
  (.cond (.t 34) (.seq (.post (.region [
 (oN (.mv 2 (.c (I 1))))] false) [2] 0)
  .ret)
  .skip))
  (.seq (.post (.region [
 (oN (.mv 2 (.c (I 0))))] false) [2] 0)
  .ret))))))
def f_model_checker_marks : IFunc := { np := 1, res := [.t 2], own := false, trunc := true, body := f_model_checker_marks_0 }
/- 81: latchwork/model.Args -/
def f_model_Args_0 : ICode :=
  (.seq (.post (.region [
 (oN (.box 1 false false (.t 0))),
 (oN (.mv 2 (.c (.sl true 1 []))))] false) [1] 1)
  (.seq (.post (.region [
 (oF 3 1 2),
 (oL 4 3),
 (oF 5 1 3),
 (oL 6 5),
 (oF 7 1 4),
 (oL 8 7),
 (oN (.buildSl 9 1 [(.t 4), (.t 6), (.t 8)])),
 (oF 10 1 0),
 (oL 11 10),
 (oN (.call (some 12) true 63 [(.t 11)])),
 (oN (.slice 13 1 (.t 9) none (some (.t 12)))),
 (oN (.tk 2 13))] true) [2] 0)
  .ret))
def f_model_Args : IFunc := { np := 1, res := [.t 2], own := true, trunc := true, body := f_model_Args_0 }
/- 101: latchwork/model.Of -/
def f_model_Of_k1 : ICode :=
  (.post (.region [
 (oN (.bin 24 .add (.t 11) (.c (I 1)))),
 (oM 11 24)] false) [1, 5, 9, 10, 11] 0)
def f_model_Of_b1 : ICode :=
  (.post (.seq (.region [
 (oN (.bin 12 .lss (.t 11) (.t 10)))] false)
  (.seq (.cond (.t 12) .skip
  (.exit 0))
  (.seq (.block 1 (.seq (.post (.region [
 (oM 13 11),
 (oN (.iaddr 14 6 none (.t 9) (.t 11))),
 (oN (.load 15 true 6 (.t 14))),
 (oN (.alloc 7 false (.agg [I 0, I 0, I 0, I 0, I 0, I 0]))),
 (oM 6 13),
 (oN (.store false 6 (.t 7) (.t 15)))] false) [1, 5, 6, 7, 9, 10, 11] 1)
  (.seq (.post (.region [
 (oF 16 7 0),
 (oL 17 16),
 (oM 18 1),
 (oN (.bin 19 .eql (.t 17) (.t 18)))] false) [1, 5, 6, 9, 10, 11, 19] 0)
  (.cond (.t 19) (.post (.post (.region [
 (oN (.tk 20 5)),
 (oM 21 6),
 (oN (.buildSl 22 1 [(.t 21)])),
 (oN (.append 23 1 8 (.t 20) (.t 22))),
 (oN (.tk 5 23))] false) [1, 5, 9, 10, 11] 0) [1, 5, 9, 10, 11] 0)
  (.post .skip [1, 5, 9, 10, 11] 0)))))
  (.cut f_model_Of_k1)))) [1, 5, 9, 10, 11] 0)
def f_model_Of_l1 : ICode :=
  (.post (.block 0 (.loop f_model_Of_b1)) [5] 0)
def f_model_Of_k2 : ICode :=
  (.seq (.post (.region [
 (oM 25 5),
 (oN (.tk 4 25))] false) [4] 0)
  .ret)
def f_model_Of_0 : ICode :=
  (.seq (.post (.region [
 (oN (.box 2 false false (.t 0))),
 (oN (.mv 4 (.c (.sl true 1 []))))] false) [1, 2] 1)
  (.seq (.region [
 (oN (.mv 5 (.c (.sl true 1 []))))] false)
  (.seq (.seq (.post (.region [
 (oF 8 2 0),
 (oL 9 8),
 (oN (.len 10 0 (.t 9))),
 (oN (.mv 11 (.c (I 0))))] false) [1, 5, 9, 10, 11] 0)
  (.cut f_model_Of_l1))
  (.cut f_model_Of_k2))))
def f_model_Of : IFunc := { np := 2, res := [.t 4], own := false, trunc := true, body := f_model_Of_0 }
/- 103: latchwork/model.leaf -/
def f_model_leaf_0 : ICode :=
  (.seq (.post (.region [
 (oN (.mv 2 (.c (.bool false))))] false) [0] 0)
  (.seq (.post (.region [
 (oM 3 0),
 (oN (.bin 4 .geq (.t 3) (.c (I 1)))),
 (oM 5 4),
    ⟨.mv 6 (.t 0), some (5, true)⟩,
    ⟨.bin 7 .leq (.t 6) (.c (I 3)), some (5, true)⟩,
 (oN (.pick 8 (.t 5) (.t 7) (.c (.bool false)))),
 (oM 2 8)] false) [2] 0)
  .ret))
def f_model_leaf : IFunc := { np := 1, res := [.t 2], own := false, trunc := true, body := f_model_leaf_0 }
/- 104: latchwork/model.Widths -/
def f_model_Widths_b1 : ICode :=
  (.post (.seq (.region [
 (oN (.bin 12 .lss (.t 11) (.t 10)))] false)
  (.seq (.cond (.t 12) .skip
  (.exit 0))
  (.seq (.block 1 (.seq (.post (.region [
 (oM 13 11),
 (oA 14 9 11),
 (oL 15 14),
 (oM 6 13),
 (oM 7 15)] false) [0, 4, 5, 6, 7, 9, 10, 11] 3)
  (.post (.region [
 (oM 16 6),
 (oM 17 0),
 (oM 18 7),
 (oN (.iaddr 19 6 none (.t 17) (.t 18))),
 (oF 20 19 1),
 (oL 21 20),
 (oN (.iaddr 22 1 (some 3) (.t 5) (.t 16))),
 (oN (.store false 1 (.t 22) (.t 21)))] false) [0, 4, 5, 9, 10, 11] 3)))
  (.post (.region [
 (oN (.bin 23 .add (.t 11) (.c (I 1)))),
 (oM 11 23)] false) [0, 4, 5, 9, 10, 11] 3)))) [0, 4, 5, 9, 10, 11] 3)
def f_model_Widths_l1 : ICode :=
  (.post (.block 0 (.loop f_model_Widths_b1)) [4, 5] 3)
def f_model_Widths_k1 : ICode :=
  (.seq (.post (.region [
 (oN (.load 24 true 3 (.t 5))),
 (oN (.store false 3 (.t 4) (.t 24)))] false) [4] 2)
  .ret)
def f_model_Widths_0 : ICode :=
  (.seq (.post (.region [
 (oN (.box 3 false false (.t 1))),
 (oN (.alloc 4 false (.agg [I 0, I 0, I 0])))] false) [0, 3, 4] 2)
  (.seq (.region [
 (oN (.alloc 5 false (.agg [I 0, I 0, I 0])))] false)
  (.seq (.seq (.post (.region [
 (oN (.load 8 true 6 (.t 3))),
 (oN (.call (some 9) true 81 [(.t 8)])),
 (oN (.len 10 0 (.t 9))),
 (oN (.mv 11 (.c (I 0))))] false) [0, 4, 5, 9, 10, 11] 3)
  (.cut f_model_Widths_l1))
  (.cut f_model_Widths_k1))))
def f_model_Widths : IFunc := { np := 2, res := [.cell 4 true 3], own := false, trunc := true, body := f_model_Widths_0 }
/- 105: latchwork/model.bits -/
def f_model_bits_b1 : ICode :=
  (.post (.seq (.region [
 (oN (.bin 11 .lss (.t 10) (.t 9)))] false)
  (.seq (.cond (.t 11) .skip
  (.exit 0))
  (.seq (.block 1 (.seq (.post (.region [
 (oA 12 8 10),
 (oL 13 12),
 (oM 7 13)] false) [2, 5, 7, 8, 9, 10] 1)
  (.post (.region [
 (oM 14 5),
 (oF 15 2 0),
 (oL 16 15),
 (oM 17 7),
 (oN (.iaddr 18 6 none (.t 16) (.t 17))),
 (oF 19 18 1),
 (oL 20 19),
 (oN (.bin 21 .add (.t 14) (.t 20))),
 (oM 5 21)] false) [2, 5, 8, 9, 10] 1)))
  (.post (.region [
 (oN (.bin 22 .add (.t 10) (.c (I 1)))),
 (oM 10 22)] false) [2, 5, 8, 9, 10] 1)))) [2, 5, 8, 9, 10] 1)
def f_model_bits_l1 : ICode :=
  (.post (.block 0 (.loop f_model_bits_b1)) [5] 0)
def f_model_bits_k1 : ICode :=
  (.seq (.post (.region [
 (oM 23 5),
 (oM 4 23)] false) [4] 0)
  .ret)
def f_model_bits_0 : ICode :=
  (.seq (.post (.region [
 (oN (.box 2 false false (.t 0))),
 (oN (.mv 4 (.c (I 0))))] false) [1, 2] 1)
  (.seq (.region [
 (oN (.mv 5 (.c (I 0))))] false)
  (.seq (.seq (.post (.region [
 (oM 8 1),
 (oN (.len 9 0 (.t 8))),
 (oN (.mv 10 (.c (I 0))))] false) [2, 5, 8, 9, 10] 1)
  (.cut f_model_bits_l1))
  (.cut f_model_bits_k1))))
def f_model_bits : IFunc := { np := 2, res := [.t 4], own := false, trunc := true, body := f_model_bits_0 }
/- 106: (*latchwork/model.checker).pair -/
def f_model_checker_pair_0 : ICode :=
  (.seq (.post (.region [
 (oN (.box 4 false false (.t 1))),
 (oN (.mv 6 (.c (I 0))))] false) [0, 2, 4] 1)
  (.seq (.block 0 (.seq (.post (.region [
 (oM 8 0),
 (oF 9 4 0),
 (oL 10 9),
 (oN (.call (some 11) true 118 [(.t 8), (.t 10)])),
 (oN (.un 12 .not (.t 11))),
 (oM 13 12),
    ⟨.mv 14 (.t 0), some (13, false)⟩,
    ⟨.faddr 15 (.t 4) 1, some (13, false)⟩,
    ⟨.load 16 false 1 (.t 15), some (13, false)⟩,
    ⟨.call (some 17) true 118 [(.t 14), (.t 16)], some (13, false)⟩,
    ⟨.un 18 .not (.t 17), some (13, false)⟩,
 (oN (.pick 19 (.t 13) (.c (.bool true)) (.t 18))),
 (oM 20 19),
    ⟨.mv 21 (.t 0), some (20, false)⟩,
    ⟨.nilc 22 (.t 21), some (20, false)⟩,
    ⟨.faddr 23 (.t 22) 0, some (20, false)⟩,
    ⟨.faddr 24 (.t 23) 0, some (20, false)⟩,
    ⟨.load 25 false 1 (.t 24), some (20, false)⟩,
    ⟨.faddr 26 (.t 4) 0, some (20, false)⟩,
    ⟨.load 27 false 1 (.t 26), some (20, false)⟩,
    ⟨.iaddr 28 6 none (.t 25) (.t 27), some (20, false)⟩,
    ⟨.faddr 29 (.t 28) 0, some (20, false)⟩,
    ⟨.load 30 false 1 (.t 29), some (20, false)⟩,
    ⟨.bin 31 .neq (.t 30) (.c (I 3)), some (20, false)⟩,
 (oN (.pick 32 (.t 20) (.c (.bool true)) (.t 31))),
 (oM 7 32)] true) [0, 2, 4, 7] 1)
  (.cond (.t 7) (.seq (.post (.region [
 (oN (.mv 6 (.c (I 5))))] false) [6] 0)
  .ret)
  (.seq (.post (.region [
 (oM 34 0),
 (oC 35 34),
 (oF 36 35 0),
 (oF 37 36 0),
 (oL 38 37),
 (oF 39 4 0),
 (oL 40 39),
 (oN (.iaddr 41 6 none (.t 38) (.t 40))),
 (oF 42 41 1),
 (oL 43 42),
 (oM 44 0),
 (oC 45 44),
 (oF 46 45 0),
 (oF 47 46 0),
 (oL 48 47),
 (oF 49 4 1),
 (oL 50 49),
 (oN (.iaddr 51 6 none (.t 48) (.t 50))),
 (oF 52 51 1),
 (oL 53 52),
 (oN (.bin 54 .neq (.t 43) (.t 53))),
 (oM 33 54)] true) [0, 2, 4, 33] 1)
  (.cond (.t 33) (.seq (.post (.region [
 (oN (.mv 6 (.c (I 1))))] false) [6] 0)
  .ret)
  (.seq (.post (.region [
 (oM 56 2),
 (oM 57 56),
    ⟨.mv 58 (.t 0), some (57, true)⟩,
    ⟨.nilc 59 (.t 58), some (57, true)⟩,
    ⟨.faddr 60 (.t 59) 5, some (57, true)⟩,
    ⟨.load 61 false 1 (.t 60), some (57, true)⟩,
    ⟨.faddr 62 (.t 4) 1, some (57, true)⟩,
    ⟨.load 63 false 1 (.t 62), some (57, true)⟩,
    ⟨.iaddr 64 1 none (.t 61) (.t 63), some (57, true)⟩,
    ⟨.load 65 false 1 (.t 64), some (57, true)⟩,
 (oN (.pick 66 (.t 57) (.t 65) (.c (.bool false)))),
 (oM 55 66)] true) [55] 0)
  (.cond (.t 55) (.seq (.post (.region [
 (oN (.mv 6 (.c (I 4))))] false) [6] 0)
  .ret)
  .skip)))))))
  (.seq (.post (.region [
 (oN (.mv 6 (.c (I 0))))] false) [6] 0)
  .ret)))
def f_model_checker_pair : IFunc := { np := 3, res := [.t 6], own := false, trunc := true, body := f_model_checker_pair_0 }
/- 108: (*latchwork/model.checker).marks$1 -/
def f_model_checker_marks_1_0 : ICode :=
  (.seq (.post (.region [
 (oN (.mv 3 (.c (.bool false))))] false) [0, 1] 0)
  (.seq (.post (.region [
 (oL 4 1),
 (oM 5 0),
 (oN (.call (some 6) true 118 [(.t 4), (.t 5)])),
 (oN (.un 7 .not (.t 6))),
 (oM 3 7)] false) [3] 0)
  .ret))
def f_model_checker_marks_1 : IFunc := { np := 2, res := [.t 3], own := false, trunc := true, body := f_model_checker_marks_1_0 }
/- 109: (*latchwork/model.checker).marks$2 -/
def f_model_checker_marks_2_0 : ICode :=
  (.seq (.post (.region [
 (oN (.mv 3 (.c (.bool false))))] false) [0, 1] 0)
  (.seq (.post (.region [
 (oL 4 1),
 (oC 5 4),
 (oF 6 5 0),
 (oF 7 6 0),
 (oL 8 7),
 (oM 9 0),
 (oN (.iaddr 10 6 none (.t 8) (.t 9))),
 (oF 11 10 1),
 (oL 12 11),
 (oN (.bin 13 .neq (.t 12) (.c (I 1)))),
 (oM 3 13)] false) [3] 0)
  .ret))
def f_model_checker_marks_2 : IFunc := { np := 2, res := [.t 3], own := false, trunc := true, body := f_model_checker_marks_2_0 }
/- 118: (*latchwork/model.checker).is -/
def f_model_checker_is_0 : ICode :=
  (.seq (.post (.region [
 (oN (.mv 4 (.c (.bool false))))] false) [0, 1] 0)
  (.seq (.post (.region [
 (oM 5 1),
 (oN (.bin 6 .geq (.t 5) (.c (I 0)))),
 (oM 7 6),
    ⟨.mv 8 (.t 1), some (7, true)⟩,
    ⟨.mv 9 (.t 0), some (7, true)⟩,
    ⟨.nilc 10 (.t 9), some (7, true)⟩,
    ⟨.faddr 11 (.t 10) 0, some (7, true)⟩,
    ⟨.faddr 12 (.t 11) 0, some (7, true)⟩,
    ⟨.load 13 false 1 (.t 12), some (7, true)⟩,
    ⟨.len 14 0 (.t 13), some (7, true)⟩,
    ⟨.bin 15 .lss (.t 8) (.t 14), some (7, true)⟩,
 (oN (.pick 16 (.t 7) (.t 15) (.c (.bool false)))),
 (oM 4 16)] false) [4] 0)
  .ret))
def f_model_checker_is : IFunc := { np := 2, res := [.t 4], own := false, trunc := true, body := f_model_checker_is_0 }
/- 120: latchwork/model.Args#K -/
end Go.Lw
end

/-! The code of package Ref for the small machine. Written by program (gen.py). -/
section
set_option maxRecDepth 10000
namespace Go.Lw
open Go
/- 2: latchwork/latchworkref.CheckGraph -/
/- 3: latchwork/latchworkref.IsLit -/
/- 4: latchwork/latchworkref.AndOf -/
/- 7: latchwork/latchworkref.SameGraph -/
/- 10: latchwork/latchworkref.AreLits -/
/- 11: latchwork/latchworkref.NodesOf -/
/- 12: latchwork/latchworkref.LitOf -/
/- 17: latchwork/latchworkref.ClausesOf -/
/- 23: latchwork/latchworkref.FitOf -/
/- 26: latchwork/latchworkref.Takes -/
/- 27: latchwork/latchworkref.Two -/
/- 28: latchwork/latchworkref.Made -/
/- 36: latchwork/latchworkref.CheckModel -/
/- 39: latchwork/latchworkref.Nodes -/
/- 43: latchwork/latchworkref.ConeOf -/
/- 45: latchwork/latchworkref.Has -/
/- 46: latchwork/latchworkref.SameInts -/
def f_ref_SameInts_b1 : ICode :=
  (.post (.seq (.seq (.post (.region [
 (oM 11 5),
 (oM 12 0),
 (oN (.len 13 0 (.t 12))),
 (oN (.bin 14 .lss (.t 11) (.t 13)))] false) [0, 1, 5, 14] 0)
  (.cond (.t 14) .skip
  (.exit 0)))
  (.seq (.block 1 (.seq (.post (.region [
 (oM 17 0),
 (oM 18 5),
 (oA 19 17 18),
 (oL 20 19),
 (oM 21 1),
 (oM 22 5),
 (oA 23 21 22),
 (oL 24 23),
 (oN (.bin 25 .neq (.t 20) (.t 24)))] true) [0, 1, 5, 25] 0)
  (.cond (.t 25) (.seq (.post (.region [
 (oN (.mv 4 (.c (.bool false))))] false) [4] 0)
  .ret)
  .skip)))
  (.post (.region [
 (oM 15 5),
 (oN (.bin 16 .add (.t 15) (.c (I 1)))),
 (oM 5 16)] false) [0, 1, 5] 0))) [0, 1, 5] 0)
def f_ref_SameInts_l1 : ICode :=
  (.post (.block 0 (.loop f_ref_SameInts_b1)) [] 0)
def f_ref_SameInts_k1 : ICode :=
  (.seq (.region [
 (oN (.mv 4 (.c (.bool true))))] false)
  .ret)
def f_ref_SameInts_0 : ICode :=
  (.seq (.post (.region [
 (oN (.mv 4 (.c (.bool false))))] false) [0, 1] 0)
  (.seq (.seq (.post (.region [
 (oM 6 0),
 (oN (.len 7 0 (.t 6))),
 (oM 8 1),
 (oN (.len 9 0 (.t 8))),
 (oN (.bin 10 .neq (.t 7) (.t 9)))] false) [0, 1, 10] 0)
  (.cond (.t 10) (.seq (.post (.region [
 (oN (.mv 4 (.c (.bool false))))] false) [4] 0)
  .ret)
  .skip))
  (.seq (.seq (.post (.region [
 (oN (.mv 5 (.c (I 0))))] false) [0, 1, 5] 0)
  (.cut f_ref_SameInts_l1))
  (.cut f_ref_SameInts_k1))))
def f_ref_SameInts : IFunc := { np := 2, res := [.t 4], own := false, trunc := true, body := f_ref_SameInts_0 }
/- 50: latchwork/latchworkref.between -/
def f_ref_between_0 : ICode :=
  (.seq (.post (.region [
 (oN (.mv 6 (.c (.bool false))))] false) [0, 1, 2] 0)
  (.seq (.post (.region [
 (oM 7 0),
 (oM 8 1),
 (oN (.bin 9 .geq (.t 7) (.t 8))),
 (oM 10 9),
    ⟨.mv 11 (.t 0), some (10, true)⟩,
    ⟨.mv 12 (.t 2), some (10, true)⟩,
    ⟨.bin 13 .leq (.t 11) (.t 12), some (10, true)⟩,
 (oN (.pick 14 (.t 10) (.t 13) (.c (.bool false)))),
 (oM 6 14)] false) [6] 0)
  .ret))
def f_ref_between : IFunc := { np := 3, res := [.t 6], own := false, trunc := true, body := f_ref_between_0 }
/- 51: latchwork/latchworkref.AndAt -/
/- 56: latchwork/latchworkref.AndClauses -/
/- 57: latchwork/latchworkref.MustClauses -/
/- 58: latchwork/latchworkref.DoneClauses -/
/- 60: latchwork/latchworkref.SameClauses -/
/- 67: latchwork/latchworkref.bitwise -/
/- 68: latchwork/latchworkref.yes -/
/- 69: latchwork/latchworkref.Signed -/
/- 72: latchwork/latchworkref.CheckNode -/
/- 73: latchwork/latchworkref.Bits -/
/- 74: latchwork/latchworkref.hangs -/
/- 84: latchwork/latchworkref.ConeOf$1 -/
/- 92: latchwork/latchworkref.Num -/
/- 93: latchwork/latchworkref.CheckClauses -/
/- 95: latchwork/latchworkref.SameLists -/
def f_ref_SameLists_b1 : ICode :=
  (.post (.seq (.seq (.post (.region [
 (oM 11 5),
 (oM 12 0),
 (oN (.len 13 0 (.t 12))),
 (oN (.bin 14 .lss (.t 11) (.t 13)))] false) [0, 1, 5, 14] 0)
  (.cond (.t 14) .skip
  (.exit 0)))
  (.seq (.block 1 (.seq (.post (.region [
 (oM 17 0),
 (oM 18 5),
 (oA 19 17 18),
 (oL 20 19),
 (oM 21 1),
 (oM 22 5),
 (oA 23 21 22),
 (oL 24 23),
 (oN (.call (some 25) true 46 [(.t 20), (.t 24)])),
 (oN (.un 26 .not (.t 25)))] true) [0, 1, 5, 26] 0)
  (.cond (.t 26) (.seq (.post (.region [
 (oN (.mv 4 (.c (.bool false))))] false) [4] 0)
  .ret)
  .skip)))
  (.post (.region [
 (oM 15 5),
 (oN (.bin 16 .add (.t 15) (.c (I 1)))),
 (oM 5 16)] false) [0, 1, 5] 0))) [0, 1, 5] 0)
def f_ref_SameLists_l1 : ICode :=
  (.post (.block 0 (.loop f_ref_SameLists_b1)) [] 0)
def f_ref_SameLists_k1 : ICode :=
  (.seq (.region [
 (oN (.mv 4 (.c (.bool true))))] false)
  .ret)
def f_ref_SameLists_0 : ICode :=
  (.seq (.post (.region [
 (oN (.mv 4 (.c (.bool false))))] false) [0, 1] 0)
  (.seq (.seq (.post (.region [
 (oM 6 0),
 (oN (.len 7 0 (.t 6))),
 (oM 8 1),
 (oN (.len 9 0 (.t 8))),
 (oN (.bin 10 .neq (.t 7) (.t 9)))] false) [0, 1, 10] 0)
  (.cond (.t 10) (.seq (.post (.region [
 (oN (.mv 4 (.c (.bool false))))] false) [4] 0)
  .ret)
  .skip))
  (.seq (.seq (.post (.region [
 (oN (.mv 5 (.c (I 0))))] false) [0, 1, 5] 0)
  (.cut f_ref_SameLists_l1))
  (.cut f_ref_SameLists_k1))))
def f_ref_SameLists : IFunc := { np := 2, res := [.t 4], own := false, trunc := true, body := f_ref_SameLists_0 }
/- 97: latchwork/latchworkref.Bit -/
/- 102: latchwork/latchworkref.WidthsOf -/
/- 112: latchwork/latchworkref.CheckClause -/
/- 124: latchwork/latchworkref.CheckWords -/
/- 125: latchwork/latchworkref.BeginOf -/
/- 131: latchwork/latchworkref.Ready -/
/- 132: latchwork/latchworkref.ValuesOf -/
/- 133: latchwork/latchworkref.NextOf -/
/- 134: latchwork/latchworkref.MarksOf -/
/- 137: latchwork/latchworkref.PairOf -/
/- 146: latchwork/latchworkref.FollowsOf -/
/- 150: latchwork/latchworkref.CheckProof -/
/- 151: latchwork/latchworkref.ProofOf -/
/- 167: latchwork/latchworkref.AnswerIs -/
/- 168: latchwork/latchworkref.HoldsOf -/
/- 213: latchwork/latchworkref.CheckCircuit -/
/- 321: latchwork/latchworkref.WaysOf -/
/- 322: latchwork/latchworkref.Layers -/
/- 323: latchwork/latchworkref.NumberOf -/
/- 324: latchwork/latchworkref.ExploreOf -/
/- 326: latchwork/latchworkref.WordsOf -/
/- 327: latchwork/latchworkref.BitsOf -/
/- 330: latchwork/latchworkref.CheckSteps -/
/- 331: latchwork/latchworkref.StepClauses -/
/- 338: latchwork/latchworkref.StepClauses$1 -/
/- 339: latchwork/latchworkref.StepClauses$2 -/
/- 349: latchwork/latchworkref.SameModel -/
/- 351: latchwork/latchworkref.PrintTrace -/
def f_ref_PrintTrace_b2 : ICode :=
  (.post (.seq (.seq (.post (.region [
 (oM 38 9),
 (oM 39 4),
 (oM 40 8),
 (oA 41 39 40),
 (oL 42 41),
 (oN (.len 43 0 (.t 42))),
 (oN (.bin 44 .lss (.t 38) (.t 43)))] false) [4, 5, 6, 7, 8, 9, 44] 0)
  (.cond (.t 44) .skip
  (.exit 2)))
  (.seq (.block 3 (.post (.region [
 (oM 47 6),
 (oM 48 47),
    ⟨.mv 49 (.t 4), some (48, false)⟩,
    ⟨.mv 50 (.t 8), some (48, false)⟩,
    ⟨.iaddr 51 1 none (.t 49) (.t 50), some (48, false)⟩,
    ⟨.load 52 false 1 (.t 51), some (48, false)⟩,
    ⟨.mv 53 (.t 9), some (48, false)⟩,
    ⟨.iaddr 54 1 none (.t 52) (.t 53), some (48, false)⟩,
    ⟨.load 55 false 1 (.t 54), some (48, false)⟩,
    ⟨.call (some 56) true 50 [(.t 55), (.c (I 0)), (.c (I 255))], some (48, false)⟩,
    ⟨.un 57 .not (.t 56), some (48, false)⟩,
 (oN (.pick 58 (.t 48) (.c (.bool true)) (.t 57))),
 (oM 6 58)] false) [4, 5, 6, 7, 8, 9] 0))
  (.post (.region [
 (oM 45 9),
 (oN (.bin 46 .add (.t 45) (.c (I 1)))),
 (oM 9 46)] false) [4, 5, 6, 7, 8, 9] 0))) [4, 5, 6, 7, 8, 9] 0)
def f_ref_PrintTrace_l2 : ICode :=
  (.post (.block 2 (.loop f_ref_PrintTrace_b2)) [4, 5, 6, 7, 8] 0)
def f_ref_PrintTrace_k1 : ICode :=
  (.seq (.post (.region [
 (oM 59 8),
 (oN (.bin 60 .eql (.t 59) (.c (I 0))))] false) [4, 5, 6, 7, 8, 60] 0)
  (.cond (.t 60) (.post (.post (.region [
 (oM 61 7),
 (oM 62 4),
 (oM 63 8),
 (oA 64 62 63),
 (oL 65 64),
 (oN (.call (some 66) true 355 [(.c (.str ⟨#[115, 116, 97, 114, 116]⟩)), (.t 65)])),
 (oN (.bin 67 .add (.t 61) (.t 66))),
 (oM 7 67)] false) [4, 5, 6, 7, 8] 0) [4, 5, 6, 7, 8] 0)
  (.post (.post (.region [
 (oM 68 7),
 (oM 69 4),
 (oM 70 8),
 (oA 71 69 70),
 (oL 72 71),
 (oN (.call (some 73) true 355 [(.c (.str ⟨#[105, 110]⟩)), (.t 72)])),
 (oN (.bin 74 .add (.t 68) (.t 73))),
 (oM 7 74)] false) [4, 5, 6, 7, 8] 0) [4, 5, 6, 7, 8] 0)))
def f_ref_PrintTrace_k2 : ICode :=
  (.post (.region [
 (oM 27 8),
 (oN (.bin 28 .add (.t 27) (.c (I 1)))),
 (oM 8 28)] false) [4, 5, 6, 7, 8] 0)
def f_ref_PrintTrace_b1 : ICode :=
  (.post (.seq (.seq (.post (.region [
 (oM 19 8),
 (oM 20 4),
 (oN (.len 21 0 (.t 20))),
 (oN (.bin 22 .lss (.t 19) (.t 21))),
 (oM 23 22),
    ⟨.mv 24 (.t 5), some (23, true)⟩,
    ⟨.un 25 .not (.t 24), some (23, true)⟩,
 (oN (.pick 26 (.t 23) (.t 25) (.c (.bool false))))] false) [4, 5, 6, 7, 8, 26] 0)
  (.cond (.t 26) .skip
  (.exit 0)))
  (.seq (.block 1 (.seq (.post (.region [
 (oM 29 5),
 (oM 30 29),
    ⟨.mv 31 (.t 4), some (30, false)⟩,
    ⟨.mv 32 (.t 8), some (30, false)⟩,
    ⟨.iaddr 33 1 none (.t 31) (.t 32), some (30, false)⟩,
    ⟨.load 34 false 1 (.t 33), some (30, false)⟩,
    ⟨.len 35 0 (.t 34), some (30, false)⟩,
    ⟨.bin 36 .gtr (.t 35) (.c (I 20)), some (30, false)⟩,
 (oN (.pick 37 (.t 30) (.c (.bool true)) (.t 36))),
 (oM 5 37)] false) [4, 5, 6, 7, 8] 0)
  (.seq (.seq (.post (.region [
 (oN (.mv 9 (.c (I 0))))] false) [4, 5, 6, 7, 8, 9] 0)
  (.cut f_ref_PrintTrace_l2))
  (.cut f_ref_PrintTrace_k1))))
  (.cut f_ref_PrintTrace_k2))) [4, 5, 6, 7, 8] 0)
def f_ref_PrintTrace_l1 : ICode :=
  (.post (.block 0 (.loop f_ref_PrintTrace_b1)) [5, 6, 7] 0)
def f_ref_PrintTrace_k3 : ICode :=
  (.seq (.seq (.post (.region [
 (oM 75 5)] false) [6, 7, 75] 0)
  (.cond (.t 75) (.seq (.post (.region [
 (oN (.mv 2 (.c (.str ByteArray.empty)))),
 (oN (.mv 3 (.c (I 2))))] false) [2, 3] 0)
  .ret)
  .skip))
  (.seq (.seq (.post (.region [
 (oM 76 6)] false) [7, 76] 0)
  (.cond (.t 76) (.seq (.post (.region [
 (oN (.mv 2 (.c (.str ByteArray.empty)))),
 (oN (.mv 3 (.c (I 3))))] false) [2, 3] 0)
  .ret)
  .skip))
  (.seq (.post (.region [
 (oM 77 7),
 (oM 2 77),
 (oN (.mv 3 (.c (I 0))))] false) [2, 3] 0)
  .ret)))
def f_ref_PrintTrace_0 : ICode :=
  (.seq (.post (.region [
 (oN (.box 1 false false (.t 0))),
 (oN (.mv 2 (.c (.str ByteArray.empty)))),
 (oN (.mv 3 (.c (I 0))))] false) [1] 1)
  (.seq (.post (.region [
 (oF 10 1 0),
 (oL 11 10),
 (oN (.buildSl 12 1 [(.t 11)])),
 (oF 13 1 1),
 (oL 14 13),
 (oN (.append 15 1 24 (.t 12) (.t 14))),
 (oN (.tk 4 15))] false) [4] 0)
  (.seq (.post (.region [
 (oM 16 4),
 (oN (.len 17 0 (.t 16))),
 (oN (.bin 18 .gtr (.t 17) (.c (I 42)))),
 (oM 5 18)] false) [4, 5] 0)
  (.seq (.region [
 (oN (.mv 6 (.c (.bool false))))] false)
  (.seq (.region [
 (oN (.mv 7 (.c (.str ByteArray.empty))))] false)
  (.seq (.seq (.post (.region [
 (oN (.mv 8 (.c (I 0))))] false) [4, 5, 6, 7, 8] 0)
  (.cut f_ref_PrintTrace_l1))
  (.cut f_ref_PrintTrace_k3)))))))
def f_ref_PrintTrace : IFunc := { np := 1, res := [.t 2, .t 3], own := false, trunc := true, body := f_ref_PrintTrace_0 }
/- 354: latchwork/latchworkref.samePairs -/
/- 355: latchwork/latchworkref.line -/
def f_ref_line_b1 : ICode :=
  (.post (.seq (.seq (.post (.region [
 (oM 6 5),
 (oM 7 1),
 (oN (.len 8 0 (.t 7))),
 (oN (.bin 9 .lss (.t 6) (.t 8)))] false) [0, 1, 5, 9] 0)
  (.cond (.t 9) .skip
  (.exit 0)))
  (.seq (.block 1 (.post (.region [
 (oM 12 0),
 (oM 13 1),
 (oM 14 5),
 (oA 15 13 14),
 (oL 16 15),
 (oN (.call (some 17) true 363 [(.t 16)])),
 (oN (.bin 18 .add (.c (.str ⟨#[32]⟩)) (.t 17))),
 (oN (.bin 19 .add (.t 12) (.t 18))),
 (oM 0 19)] false) [0, 1, 5] 0))
  (.post (.region [
 (oM 10 5),
 (oN (.bin 11 .add (.t 10) (.c (I 1)))),
 (oM 5 11)] false) [0, 1, 5] 0))) [0, 1, 5] 0)
def f_ref_line_l1 : ICode :=
  (.post (.block 0 (.loop f_ref_line_b1)) [0] 0)
def f_ref_line_k1 : ICode :=
  (.seq (.post (.region [
 (oM 20 0),
 (oN (.bin 21 .add (.t 20) (.c (.str ⟨#[10]⟩)))),
 (oM 4 21)] false) [4] 0)
  .ret)
def f_ref_line_0 : ICode :=
  (.seq (.post (.region [
 (oN (.mv 4 (.c (.str ByteArray.empty))))] false) [0, 1] 0)
  (.seq (.seq (.post (.region [
 (oN (.mv 5 (.c (I 0))))] false) [0, 1, 5] 0)
  (.cut f_ref_line_l1))
  (.cut f_ref_line_k1)))
def f_ref_line : IFunc := { np := 2, res := [.t 4], own := false, trunc := true, body := f_ref_line_0 }
/- 368: latchwork/latchworkref.PrintModel -/
/- 370: latchwork/latchworkref.ParseModel -/
/- 372: latchwork/latchworkref.ParseTrace -/
def f_ref_ParseTrace_b2 : ICode :=
  (.post (.seq (.seq (.post (.region [
 (oM 38 10),
 (oM 39 8),
 (oN (.len 40 0 (.t 39))),
 (oN (.bin 41 .lss (.t 38) (.t 40)))] false) [2, 4, 5, 6, 7, 8, 9, 10, 41] 2)
  (.cond (.t 41) .skip
  (.exit 2)))
  (.seq (.block 3 (.post (.region [
 (oN (.tk 44 9)),
 (oM 45 8),
 (oM 46 10),
 (oA 47 45 46),
 (oL 48 47),
 (oN (.call (some 49) true 381 [(.t 48)])),
 (oN (.buildSl 50 1 [(.t 49)])),
 (oN (.append 51 1 8 (.t 44) (.t 50))),
 (oN (.tk 9 51))] false) [2, 4, 5, 6, 7, 8, 9, 10] 2))
  (.post (.region [
 (oM 42 10),
 (oN (.bin 43 .add (.t 42) (.c (I 1)))),
 (oM 10 43)] false) [2, 4, 5, 6, 7, 8, 9, 10] 2))) [2, 4, 5, 6, 7, 8, 9, 10] 2)
def f_ref_ParseTrace_l2 : ICode :=
  (.post (.block 2 (.loop f_ref_ParseTrace_b2)) [2, 4, 5, 6, 7, 8, 9] 2)
def f_ref_ParseTrace_k1 : ICode :=
  (.seq (.post (.region [
 (oM 52 7),
 (oN (.bin 53 .eql (.t 52) (.c (I 0)))),
 (oM 54 53),
    ⟨.mv 55 (.t 8), some (54, true)⟩,
    ⟨.iaddr 56 1 none (.t 55) (.c (I 0)), some (54, true)⟩,
    ⟨.load 57 false 1 (.t 56), some (54, true)⟩,
    ⟨.bin 58 .eql (.t 57) (.c (.str ⟨#[115, 116, 97, 114, 116]⟩)), some (54, true)⟩,
 (oN (.pick 59 (.t 54) (.t 58) (.c (.bool false))))] false) [2, 4, 5, 6, 7, 8, 9, 59] 2)
  (.cond (.t 59) (.post (.post (.region [
 (oM 60 9),
 (oF 61 6 0),
 (oN (.store true 1 (.t 61) (.t 60)))] false) [2, 4, 5, 6, 7] 2) [2, 4, 5, 6, 7] 2)
  (.post (.seq (.post (.region [
 (oM 62 7),
 (oN (.bin 63 .gtr (.t 62) (.c (I 0)))),
 (oM 64 63),
    ⟨.mv 65 (.t 8), some (64, true)⟩,
    ⟨.iaddr 66 1 none (.t 65) (.c (I 0)), some (64, true)⟩,
    ⟨.load 67 false 1 (.t 66), some (64, true)⟩,
    ⟨.bin 68 .eql (.t 67) (.c (.str ⟨#[105, 110]⟩)), some (64, true)⟩,
 (oN (.pick 69 (.t 64) (.t 68) (.c (.bool false))))] false) [2, 4, 5, 6, 7, 9, 69] 2)
  (.cond (.t 69) (.post (.region [
 (oF 70 6 1),
 (oN (.loadT 71 (.t 70))),
 (oM 72 9),
 (oN (.buildSl 73 1 [(.t 72)])),
 (oN (.append 74 1 24 (.t 71) (.t 73))),
 (oF 75 6 1),
 (oN (.store true 1 (.t 75) (.t 74)))] false) [2, 4, 5, 6, 7] 2)
  (.seq (.post (.region [
 (oN (.build 76 [.sl true 1 [], .sl true 1 []] [])),
 (oN (.store true 2 (.t 2) (.t 76))),
 (oN (.mv 3 (.c (I 1))))] false) [2, 3] 1)
  .ret))) [2, 4, 5, 6, 7] 2)))
def f_ref_ParseTrace_k2 : ICode :=
  (.post (.region [
 (oM 31 7),
 (oN (.bin 32 .add (.t 31) (.c (I 1)))),
 (oM 7 32)] false) [2, 4, 5, 6, 7] 2)
def f_ref_ParseTrace_b1 : ICode :=
  (.post (.seq (.seq (.post (.region [
 (oM 28 7),
 (oM 29 5),
 (oN (.bin 30 .lss (.t 28) (.t 29)))] false) [2, 4, 5, 6, 7, 30] 2)
  (.cond (.t 30) .skip
  (.exit 0)))
  (.seq (.block 1 (.seq (.post (.region [
 (oM 33 4),
 (oM 34 7),
 (oA 35 33 34),
 (oL 36 35),
 (oN (.call (some 37) true 380 [(.t 36), (.c (.int .u8 32))])),
 (oN (.tk 8 37))] false) [2, 4, 5, 6, 7, 8] 2)
  (.seq (.region [
 (oN (.mv 9 (.c (.sl true 1 []))))] false)
  (.seq (.seq (.post (.region [
 (oN (.mv 10 (.c (I 1))))] false) [2, 4, 5, 6, 7, 8, 9, 10] 2)
  (.cut f_ref_ParseTrace_l2))
  (.cut f_ref_ParseTrace_k1)))))
  (.cut f_ref_ParseTrace_k2))) [2, 4, 5, 6, 7] 2)
def f_ref_ParseTrace_l1 : ICode :=
  (.post (.block 0 (.loop f_ref_ParseTrace_b1)) [2, 6] 2)
def f_ref_ParseTrace_k3 : ICode :=
  (.seq (.post (.region [
 (oN (.load 78 true 2 (.t 6))),
 (oN (.call (some 79) true 351 [(.t 78)])),
 (oM 77 79),
 (oN (.extract 80 (.t 77) 0)),
 (oN (.extract 81 (.t 77) 1)),
 (oM 11 80),
 (oM 12 81)] false) [2, 6, 12] 2)
  (.seq (.seq (.post (.region [
 (oM 82 12),
 (oN (.bin 83 .neq (.t 82) (.c (I 0))))] false) [2, 6, 83] 2)
  (.cond (.t 83) (.seq (.post (.region [
 (oN (.build 84 [.sl true 1 [], .sl true 1 []] [])),
 (oN (.store true 2 (.t 2) (.t 84))),
 (oN (.mv 3 (.c (I 1))))] false) [2, 3] 1)
  .ret)
  .skip))
  (.seq (.post (.region [
 (oN (.load 85 true 2 (.t 6))),
 (oN (.store true 2 (.t 2) (.t 85))),
 (oN (.mv 3 (.c (I 0))))] false) [2, 3] 1)
  .ret)))
def f_ref_ParseTrace_0 : ICode :=
  (.seq (.post (.region [
 (oN (.alloc 2 false (.agg [.sl true 1 [], .sl true 1 []]))),
 (oN (.mv 3 (.c (I 0))))] false) [0, 2] 1)
  (.seq (.post (.region [
 (oM 13 0),
 (oN (.call (some 14) true 380 [(.t 13), (.c (.int .u8 10))])),
 (oN (.tk 4 14))] false) [2, 4] 1)
  (.seq (.post (.region [
 (oM 15 4),
 (oN (.len 16 0 (.t 15))),
 (oN (.bin 17 .sub (.t 16) (.c (I 1)))),
 (oM 5 17)] false) [2, 4, 5] 1)
  (.seq (.seq (.post (.region [
 (oM 18 5),
 (oN (.bin 19 .lss (.t 18) (.c (I 1)))),
 (oM 20 19),
    ⟨.mv 21 (.t 4), some (20, false)⟩,
    ⟨.mv 22 (.t 5), some (20, false)⟩,
    ⟨.iaddr 23 1 none (.t 21) (.t 22), some (20, false)⟩,
    ⟨.load 24 false 1 (.t 23), some (20, false)⟩,
    ⟨.bin 25 .neq (.t 24) (.c (.str ByteArray.empty)), some (20, false)⟩,
 (oN (.pick 26 (.t 20) (.c (.bool true)) (.t 25)))] false) [2, 4, 5, 26] 1)
  (.cond (.t 26) (.seq (.post (.region [
 (oN (.build 27 [.sl true 1 [], .sl true 1 []] [])),
 (oN (.store true 2 (.t 2) (.t 27))),
 (oN (.mv 3 (.c (I 1))))] false) [2, 3] 1)
  .ret)
  .skip))
  (.seq (.post (.region [
 (oN (.alloc 6 false (.agg [.sl true 1 [], .sl true 1 []])))] false) [2, 4, 5, 6] 2)
  (.seq (.seq (.post (.region [
 (oN (.mv 7 (.c (I 0))))] false) [2, 4, 5, 6, 7] 2)
  (.cut f_ref_ParseTrace_l1))
  (.cut f_ref_ParseTrace_k3)))))))
def f_ref_ParseTrace : IFunc := { np := 1, res := [.cell 2 true 2, .t 3], own := false, trunc := true, body := f_ref_ParseTrace_0 }
/- 373: latchwork/latchworkref.SameTrace -/
def f_ref_SameTrace_0 : ICode :=
  (.seq (.post (.region [
 (oN (.box 2 false false (.t 0))),
 (oN (.box 3 false false (.t 1))),
 (oN (.mv 4 (.c (.bool false))))] false) [2, 3] 2)
  (.seq (.post (.region [
 (oF 5 2 0),
 (oL 6 5),
 (oF 7 3 0),
 (oL 8 7),
 (oN (.call (some 9) true 46 [(.t 6), (.t 8)])),
 (oM 10 9),
    ⟨.faddr 11 (.t 2) 1, some (10, true)⟩,
    ⟨.load 12 false 1 (.t 11), some (10, true)⟩,
    ⟨.faddr 13 (.t 3) 1, some (10, true)⟩,
    ⟨.load 14 false 1 (.t 13), some (10, true)⟩,
    ⟨.call (some 15) true 95 [(.t 12), (.t 14)], some (10, true)⟩,
 (oN (.pick 16 (.t 10) (.t 15) (.c (.bool false)))),
 (oM 4 16)] false) [4] 0)
  .ret))
def f_ref_SameTrace : IFunc := { np := 2, res := [.t 4], own := false, trunc := true, body := f_ref_SameTrace_0 }
/- 376: latchwork/latchworkref.CheckTrace -/
/- 377: latchwork/latchworkref.PlayOf -/
/- 379: latchwork/latchworkref.kindWord -/
/- 380: latchwork/latchworkref.Cut -/
def f_ref_Cut_k1 : ICode :=
  (.post (.region [
 (oM 12 7),
 (oN (.bin 13 .add (.t 12) (.c (I 1)))),
 (oM 7 13)] false) [0, 1, 5, 6, 7] 0)
def f_ref_Cut_b1 : ICode :=
  (.post (.seq (.seq (.post (.region [
 (oM 8 7),
 (oM 9 0),
 (oN (.len 10 1 (.t 9))),
 (oN (.bin 11 .lss (.t 8) (.t 10)))] false) [0, 1, 5, 6, 7, 11] 0)
  (.cond (.t 11) .skip
  (.exit 0)))
  (.seq (.block 1 (.seq (.post (.region [
 (oM 14 0),
 (oM 15 7),
 (oN (.indexS 16 (.t 14) (.t 15))),
 (oM 17 1),
 (oN (.bin 18 .eql (.t 16) (.t 17)))] false) [0, 1, 5, 6, 7, 18] 0)
  (.cond (.t 18) (.post (.seq (.post (.region [
 (oN (.tk 19 5)),
 (oM 20 0),
 (oM 21 6),
 (oM 22 7),
 (oN (.sliceS 23 (.t 20) (some (.t 21)) (some (.t 22)))),
 (oN (.buildSl 24 1 [(.t 23)])),
 (oN (.append 25 1 16 (.t 19) (.t 24))),
 (oN (.tk 5 25))] false) [0, 1, 5, 7] 0)
  (.post (.region [
 (oM 26 7),
 (oN (.bin 27 .add (.t 26) (.c (I 1)))),
 (oM 6 27)] false) [0, 1, 5, 6, 7] 0)) [0, 1, 5, 6, 7] 0)
  (.post .skip [0, 1, 5, 6, 7] 0))))
  (.cut f_ref_Cut_k1))) [0, 1, 5, 6, 7] 0)
def f_ref_Cut_l1 : ICode :=
  (.post (.block 0 (.loop f_ref_Cut_b1)) [0, 5, 6] 0)
def f_ref_Cut_k2 : ICode :=
  (.seq (.post (.region [
 (oN (.tk 28 5)),
 (oM 29 0),
 (oM 30 6),
 (oN (.sliceS 31 (.t 29) (some (.t 30)) none)),
 (oN (.buildSl 32 1 [(.t 31)])),
 (oN (.append 33 1 16 (.t 28) (.t 32))),
 (oN (.tk 4 33))] false) [4] 0)
  .ret)
def f_ref_Cut_0 : ICode :=
  (.seq (.post (.region [
 (oN (.mv 4 (.c (.sl true 1 []))))] false) [0, 1] 0)
  (.seq (.region [
 (oN (.mv 5 (.c (.sl true 1 []))))] false)
  (.seq (.region [
 (oN (.mv 6 (.c (I 0))))] false)
  (.seq (.seq (.post (.region [
 (oN (.mv 7 (.c (I 0))))] false) [0, 1, 5, 6, 7] 0)
  (.cut f_ref_Cut_l1))
  (.cut f_ref_Cut_k2)))))
def f_ref_Cut : IFunc := { np := 2, res := [.t 4], own := false, trunc := true, body := f_ref_Cut_0 }
/- 381: latchwork/latchworkref.Undigit -/
def f_ref_Undigit_b1 : ICode :=
  (.post (.seq (.seq (.post (.region [
 (oM 22 4),
 (oM 23 0),
 (oN (.len 24 1 (.t 23))),
 (oN (.bin 25 .lss (.t 22) (.t 24)))] false) [0, 3, 4, 25] 0)
  (.cond (.t 25) .skip
  (.exit 0)))
  (.seq (.block 1 (.seq (.seq (.post (.region [
 (oM 28 0),
 (oM 29 4),
 (oN (.indexS 30 (.t 28) (.t 29))),
 (oN (.bin 31 .lss (.t 30) (.c (.int .u8 48)))),
 (oM 32 31),
    ⟨.mv 33 (.t 0), some (32, false)⟩,
    ⟨.mv 34 (.t 4), some (32, false)⟩,
    ⟨.indexS 35 (.t 33) (.t 34), some (32, false)⟩,
    ⟨.bin 36 .gtr (.t 35) (.c (.int .u8 57)), some (32, false)⟩,
 (oN (.pick 37 (.t 32) (.c (.bool true)) (.t 36)))] false) [0, 3, 4, 37] 0)
  (.cond (.t 37) (.seq (.post (.region [
 (oN (.mv 2 (.c (I (-1)))))] false) [2] 0)
  .ret)
  .skip))
  (.post (.region [
 (oM 38 3),
 (oN (.bin 39 .mul (.c (I 10)) (.t 38))),
 (oM 40 0),
 (oM 41 4),
 (oN (.indexS 42 (.t 40) (.t 41))),
 (oN (.conv 43 .i64 (.t 42))),
 (oN (.bin 44 .add (.t 39) (.t 43))),
 (oN (.bin 45 .sub (.t 44) (.c (I 48)))),
 (oM 3 45)] false) [0, 3, 4] 0)))
  (.post (.region [
 (oM 26 4),
 (oN (.bin 27 .add (.t 26) (.c (I 1)))),
 (oM 4 27)] false) [0, 3, 4] 0))) [0, 3, 4] 0)
def f_ref_Undigit_l1 : ICode :=
  (.post (.block 0 (.loop f_ref_Undigit_b1)) [3] 0)
def f_ref_Undigit_k1 : ICode :=
  (.seq (.post (.region [
 (oM 46 3),
 (oM 2 46)] false) [2] 0)
  .ret)
def f_ref_Undigit_0 : ICode :=
  (.seq (.post (.region [
 (oN (.mv 2 (.c (I 0))))] false) [0] 0)
  (.seq (.seq (.post (.region [
 (oM 5 0),
 (oN (.bin 6 .eql (.t 5) (.c (.str ByteArray.empty)))),
 (oM 7 6),
    ⟨.mv 8 (.t 0), some (7, false)⟩,
    ⟨.len 9 1 (.t 8), some (7, false)⟩,
    ⟨.bin 10 .gtr (.t 9) (.c (I 9)), some (7, false)⟩,
 (oN (.pick 11 (.t 7) (.c (.bool true)) (.t 10))),
 (oM 12 11),
    ⟨.mv 13 (.t 0), some (12, false)⟩,
    ⟨.len 14 1 (.t 13), some (12, false)⟩,
    ⟨.bin 15 .gtr (.t 14) (.c (I 1)), some (12, false)⟩,
    ⟨.mv 16 (.t 15), some (12, false)⟩,
    ⟨.mv 17 (.t 0), some (16, true)⟩,
    ⟨.indexS 18 (.t 17) (.c (I 0)), some (16, true)⟩,
    ⟨.bin 19 .eql (.t 18) (.c (.int .u8 48)), some (16, true)⟩,
    ⟨.pick 20 (.t 16) (.t 19) (.c (.bool false)), some (12, false)⟩,
 (oN (.pick 21 (.t 12) (.c (.bool true)) (.t 20)))] false) [0, 21] 0)
  (.cond (.t 21) (.seq (.post (.region [
 (oN (.mv 2 (.c (I (-1)))))] false) [2] 0)
  .ret)
  .skip))
  (.seq (.post (.region [
 (oN (.mv 3 (.c (I 0))))] false) [0, 3] 0)
  (.seq (.seq (.post (.region [
 (oN (.mv 4 (.c (I 0))))] false) [0, 3, 4] 0)
  (.cut f_ref_Undigit_l1))
  (.cut f_ref_Undigit_k1)))))
def f_ref_Undigit : IFunc := { np := 1, res := [.t 2], own := false, trunc := true, body := f_ref_Undigit_0 }
/- 385: latchwork/latchworkref.PrintClauses -/
end Go.Lw
end

/-! The code of package Trace for the small machine. Written by program (gen.py). -/
section
set_option maxRecDepth 10000
namespace Go.Lw
open Go
/- 245: latchwork/trace.Bad -/
def f_trace_Bad_0 : ICode :=
  (.seq (.post (.region [
 (oN (.box 2 true false (.t 0))),
 (oN (.box 3 false false (.t 1))),
 (oN (.mv 4 (.c (.bool false)))),
 (oN (.mv 5 (.c (I 0))))] false) [2, 3] 1)
  (.seq (.seq (.post (.region [
 (oN (.load 9 true 5 (.t 2))),
 (oN (.load 10 true 2 (.t 3))),
 (oN (.call (some 11) true 248 [(.t 9), (.t 10)])),
 (oM 6 11)] false) [2, 3, 6] 1)
  (.seq (.post (.region [
 (oM 12 6),
 (oN (.bin 13 .neq (.t 12) (.c (I 0))))] false) [2, 3, 6, 13] 1)
  (.cond (.t 13) (.seq (.post (.region [
 (oM 14 6),
 (oN (.mv 4 (.c (.bool false)))),
 (oM 5 14)] false) [4, 5] 0)
  .ret)
  .skip)))
  (.seq (.post (.region [
 (oN (.alloc 7 true (.bool false))),
 (oN (.alloc 8 true (.bool false))),
 (oN (.store false 1 (.t 7) (.c (.bool true)))),
 (oN (.store false 1 (.t 8) (.c (.bool false))))] false) [2, 3, 7, 8] 1)
  (.seq (.post (.region [
 (oN (.load 15 true 5 (.t 2))),
 (oN (.load 16 true 2 (.t 3))),
 (oN (.mkfn 17 252 [(.t 2), (.t 7), (.t 8)])),
 (oN (.call (some 18) false 253 [(.t 15), (.t 16), (.t 17)]))] false) [7, 8] 0)
  (.seq (.post (.region [
 (oL 19 7),
 (oM 20 19),
    ⟨.load 21 false 1 (.t 8), some (20, true)⟩,
 (oN (.pick 22 (.t 20) (.t 21) (.c (.bool false)))),
 (oM 4 22),
 (oN (.mv 5 (.c (I 0))))] false) [4, 5] 0)
  .ret)))))
def f_trace_Bad : IFunc := { np := 2, res := [.t 4, .t 5], own := false, trunc := true, body := f_trace_Bad_0 }
/- 246: latchwork/trace.Print -/
def f_trace_Print_b1 : ICode :=
  (.post (.seq (.region [
 (oN (.bin 26 .lss (.t 25) (.t 24)))] false)
  (.seq (.cond (.t 26) .skip
  (.exit 0))
  (.seq (.block 1 (.seq (.post (.region [
 (oA 27 23 25),
 (oL 28 27),
 (oN (.tk 5 28))] false) [1, 5, 23, 24, 25] 1)
  (.seq (.post (.region [
 (oM 29 5),
 (oN (.len 30 0 (.t 29))),
 (oN (.bin 31 .gtr (.t 30) (.c (I 20))))] false) [1, 23, 24, 25, 31] 1)
  (.cond (.t 31) (.seq (.post (.region [
 (oN (.mv 2 (.c (.str ByteArray.empty)))),
 (oN (.mv 3 (.c (I 2))))] false) [2, 3] 0)
  .ret)
  .skip))))
  (.post (.region [
 (oN (.bin 32 .add (.t 25) (.c (I 1)))),
 (oM 25 32)] false) [1, 23, 24, 25] 1)))) [1, 23, 24, 25] 1)
def f_trace_Print_l1 : ICode :=
  (.post (.block 0 (.loop f_trace_Print_b1)) [1] 1)
def f_trace_Print_b2 : ICode :=
  (.post (.seq (.region [
 (oN (.bin 43 .lss (.t 42) (.t 41)))] false)
  (.seq (.cond (.t 43) .skip
  (.exit 2))
  (.seq (.block 3 (.seq (.post (.region [
 (oA 44 40 42),
 (oL 45 44),
 (oN (.tk 9 45))] false) [6, 7, 9, 40, 41, 42] 0)
  (.seq (.post (.region [
 (oM 47 9),
 (oN (.call (some 48) true 254 [(.c (.str ⟨#[105, 110]⟩)), (.t 47)])),
 (oM 46 48),
 (oN (.extract 49 (.t 46) 0)),
 (oN (.extract 50 (.t 46) 1)),
 (oM 10 49),
 (oM 11 50)] false) [6, 7, 10, 11, 40, 41, 42] 0)
  (.seq (.post (.region [
 (oM 51 6),
 (oM 52 10),
 (oN (.bin 53 .add (.t 51) (.t 52))),
 (oM 6 53)] false) [6, 7, 11, 40, 41, 42] 0)
  (.post (.region [
 (oM 54 7),
 (oM 55 54),
    ⟨.mv 56 (.t 11), some (55, true)⟩,
 (oN (.pick 57 (.t 55) (.t 56) (.c (.bool false)))),
 (oM 7 57)] false) [6, 7, 40, 41, 42] 0)))))
  (.post (.region [
 (oN (.bin 58 .add (.t 42) (.c (I 1)))),
 (oM 42 58)] false) [6, 7, 40, 41, 42] 0)))) [6, 7, 40, 41, 42] 0)
def f_trace_Print_l2 : ICode :=
  (.post (.block 2 (.loop f_trace_Print_b2)) [6, 7] 0)
def f_trace_Print_k2 : ICode :=
  (.seq (.seq (.post (.region [
 (oM 59 7),
 (oN (.un 60 .not (.t 59)))] false) [6, 60] 0)
  (.cond (.t 60) (.seq (.post (.region [
 (oN (.mv 2 (.c (.str ByteArray.empty)))),
 (oN (.mv 3 (.c (I 3))))] false) [2, 3] 0)
  .ret)
  .skip))
  (.seq (.post (.region [
 (oM 61 6),
 (oM 2 61),
 (oN (.mv 3 (.c (I 0))))] false) [2, 3] 0)
  .ret))
def f_trace_Print_k1 : ICode :=
  (.seq (.post (.region [
 (oF 34 1 0),
 (oL 35 34),
 (oN (.call (some 36) true 254 [(.c (.str ⟨#[115, 116, 97, 114, 116]⟩)), (.t 35)])),
 (oM 33 36),
 (oN (.extract 37 (.t 33) 0)),
 (oN (.extract 38 (.t 33) 1)),
 (oM 6 37),
 (oM 7 38)] false) [1, 6, 7] 1)
  (.seq (.seq (.post (.region [
 (oF 39 1 1),
 (oL 40 39),
 (oN (.len 41 0 (.t 40))),
 (oN (.mv 42 (.c (I 0))))] false) [6, 7, 40, 41, 42] 0)
  (.cut f_trace_Print_l2))
  (.cut f_trace_Print_k2)))
def f_trace_Print_0 : ICode :=
  (.seq (.post (.region [
 (oN (.box 1 false false (.t 0))),
 (oN (.mv 2 (.c (.str ByteArray.empty)))),
 (oN (.mv 3 (.c (I 0))))] false) [1] 1)
  (.seq (.seq (.post (.region [
 (oF 12 1 1),
 (oL 13 12),
 (oN (.len 14 0 (.t 13))),
 (oN (.bin 15 .gtr (.t 14) (.c (I 41)))),
 (oM 16 15),
    ⟨.faddr 17 (.t 1) 0, some (16, false)⟩,
    ⟨.load 18 false 1 (.t 17), some (16, false)⟩,
    ⟨.len 19 0 (.t 18), some (16, false)⟩,
    ⟨.bin 20 .gtr (.t 19) (.c (I 20)), some (16, false)⟩,
 (oN (.pick 21 (.t 16) (.c (.bool true)) (.t 20)))] false) [1, 21] 1)
  (.cond (.t 21) (.seq (.post (.region [
 (oN (.mv 2 (.c (.str ByteArray.empty)))),
 (oN (.mv 3 (.c (I 2))))] false) [2, 3] 0)
  .ret)
  .skip))
  (.seq (.seq (.post (.region [
 (oF 22 1 1),
 (oL 23 22),
 (oN (.len 24 0 (.t 23))),
 (oN (.mv 25 (.c (I 0))))] false) [1, 23, 24, 25] 1)
  (.cut f_trace_Print_l1))
  (.cut f_trace_Print_k1))))
def f_trace_Print : IFunc := { np := 1, res := [.t 2, .t 3], own := false, trunc := true, body := f_trace_Print_0 }
/- 247: latchwork/trace.Parse -/
def f_trace_Parse_k2 : ICode :=
  (.post (.region [
 (oM 53 7),
 (oM 0 53)] false) [0, 2, 4, 5] 2)
def f_trace_Parse_k1 : ICode :=
  (.seq (.post (.region [
 (oM 31 6),
 (oM 32 9),
 (oN (.call (some 33) true 256 [(.t 31), (.t 32)])),
 (oM 30 33),
 (oN (.extract 34 (.t 30) 0)),
 (oN (.extract 35 (.t 30) 1)),
 (oN (.tk 10 34)),
 (oM 11 35)] false) [2, 4, 5, 7, 8, 10, 11] 2)
  (.seq (.seq (.post (.region [
 (oM 36 8),
 (oN (.un 37 .not (.t 36))),
 (oM 38 37),
    ⟨.mv 39 (.t 11), some (38, false)⟩,
    ⟨.un 40 .not (.t 39), some (38, false)⟩,
 (oN (.pick 41 (.t 38) (.c (.bool true)) (.t 40)))] false) [2, 4, 5, 7, 10, 41] 2)
  (.cond (.t 41) (.seq (.post (.region [
 (oN (.build 42 [.sl true 1 [], .sl true 1 []] [])),
 (oN (.store true 2 (.t 2) (.t 42))),
 (oN (.mv 3 (.c (I 1))))] false) [2, 3] 1)
  .ret)
  .skip))
  (.seq (.seq (.post (.region [
 (oM 43 5),
 (oN (.bin 44 .eql (.t 43) (.c (I 0))))] false) [2, 4, 5, 7, 10, 44] 2)
  (.cond (.t 44) (.post (.post (.region [
 (oM 45 10),
 (oF 46 4 0),
 (oN (.store true 1 (.t 46) (.t 45)))] false) [2, 4, 5, 7] 2) [2, 4, 5, 7] 2)
  (.post (.post (.region [
 (oF 47 4 1),
 (oN (.loadT 48 (.t 47))),
 (oM 49 10),
 (oN (.buildSl 50 1 [(.t 49)])),
 (oN (.append 51 1 24 (.t 48) (.t 50))),
 (oF 52 4 1),
 (oN (.store true 1 (.t 52) (.t 51)))] false) [2, 4, 5, 7] 2) [2, 4, 5, 7] 2)))
  (.cut f_trace_Parse_k2))))
def f_trace_Parse_k3 : ICode :=
  (.post (.region [
 (oM 20 5),
 (oN (.bin 21 .add (.t 20) (.c (I 1)))),
 (oM 5 21)] false) [0, 2, 4, 5] 2)
def f_trace_Parse_b1 : ICode :=
  (.post (.seq (.seq (.post (.region [
 (oM 14 0),
 (oN (.bin 15 .neq (.t 14) (.c (.str ByteArray.empty)))),
 (oM 16 15),
    ⟨.mv 17 (.t 5), some (16, false)⟩,
    ⟨.bin 18 .eql (.t 17) (.c (I 0)), some (16, false)⟩,
 (oN (.pick 19 (.t 16) (.c (.bool true)) (.t 18)))] false) [0, 2, 4, 5, 19] 2)
  (.cond (.t 19) .skip
  (.exit 0)))
  (.seq (.block 1 (.seq (.post (.region [
 (oM 23 0),
 (oN (.call (some 24) true 255 [(.t 23), (.c (.str ⟨#[10]⟩))])),
 (oM 22 24),
 (oN (.extract 25 (.t 22) 0)),
 (oN (.extract 26 (.t 22) 1)),
 (oN (.extract 27 (.t 22) 2)),
 (oM 6 25),
 (oM 7 26),
 (oM 8 27)] false) [2, 4, 5, 6, 7, 8] 2)
  (.seq (.region [
 (oN (.mv 9 (.c (.str ⟨#[105, 110]⟩))))] false)
  (.seq (.seq (.post (.region [
 (oM 28 5),
 (oN (.bin 29 .eql (.t 28) (.c (I 0))))] false) [2, 4, 5, 6, 7, 8, 9, 29] 2)
  (.cond (.t 29) (.post (.post (.region [
 (oN (.mv 9 (.c (.str ⟨#[115, 116, 97, 114, 116]⟩))))] false) [2, 4, 5, 6, 7, 8, 9] 2) [2, 4, 5, 6, 7, 8, 9] 2)
  (.post .skip [2, 4, 5, 6, 7, 8, 9] 2)))
  (.cut f_trace_Parse_k1)))))
  (.cut f_trace_Parse_k3))) [0, 2, 4, 5] 2)
def f_trace_Parse_l1 : ICode :=
  (.post (.block 0 (.loop f_trace_Parse_b1)) [2, 4] 2)
def f_trace_Parse_k4 : ICode :=
  (.seq (.seq (.post (.region [
 (oN (.load 55 true 2 (.t 4))),
 (oN (.call (some 56) true 246 [(.t 55)])),
 (oM 54 56),
 (oN (.extract 57 (.t 54) 0)),
 (oN (.extract 58 (.t 54) 1)),
 (oM 12 57),
 (oM 13 58)] false) [2, 4, 13] 2)
  (.seq (.post (.region [
 (oM 59 13),
 (oN (.bin 60 .neq (.t 59) (.c (I 0))))] false) [2, 4, 60] 2)
  (.cond (.t 60) (.seq (.post (.region [
 (oN (.build 61 [.sl true 1 [], .sl true 1 []] [])),
 (oN (.store true 2 (.t 2) (.t 61))),
 (oN (.mv 3 (.c (I 1))))] false) [2, 3] 1)
  .ret)
  .skip)))
  (.seq (.post (.region [
 (oN (.load 62 true 2 (.t 4))),
 (oN (.store true 2 (.t 2) (.t 62))),
 (oN (.mv 3 (.c (I 0))))] false) [2, 3] 1)
  .ret))
def f_trace_Parse_0 : ICode :=
  (.seq (.post (.region [
 (oN (.alloc 2 false (.agg [.sl true 1 [], .sl true 1 []]))),
 (oN (.mv 3 (.c (I 0))))] false) [0, 2] 1)
  (.seq (.region [
 (oN (.alloc 4 false (.agg [.sl true 1 [], .sl true 1 []])))] false)
  (.seq (.seq (.post (.region [
 (oN (.mv 5 (.c (I 0))))] false) [0, 2, 4, 5] 2)
  (.cut f_trace_Parse_l1))
  (.cut f_trace_Parse_k4))))
def f_trace_Parse : IFunc := { np := 1, res := [.cell 2 true 2, .t 3], own := false, trunc := true, body := f_trace_Parse_0 }
/- 248: latchwork/trace.Check -/
def f_trace_Check_b1 : ICode :=
  (.post (.seq (.region [
 (oN (.bin 38 .lss (.t 37) (.t 36)))] false)
  (.seq (.cond (.t 38) .skip
  (.exit 0))
  (.seq (.block 1 (.seq (.post (.region [
 (oA 39 35 37),
 (oL 40 39),
 (oN (.tk 8 40))] false) [2, 8, 35, 36, 37] 1)
  (.seq (.post (.region [
 (oN (.load 41 true 5 (.t 2))),
 (oN (.load 42 true 5 (.t 2))),
 (oN (.call (some 43) true 101 [(.t 42), (.c (I 2))])),
 (oM 44 8),
 (oN (.call (some 45) true 135 [(.t 41), (.t 43), (.t 44)])),
 (oM 9 45)] true) [2, 9, 35, 36, 37] 1)
  (.seq (.post (.region [
 (oM 46 9),
 (oN (.bin 47 .neq (.t 46) (.c (I 0))))] false) [2, 9, 35, 36, 37, 47] 1)
  (.cond (.t 47) (.seq (.post (.region [
 (oM 48 9),
 (oM 4 48)] false) [4] 0)
  .ret)
  .skip)))))
  (.post (.region [
 (oN (.bin 49 .add (.t 37) (.c (I 1)))),
 (oM 37 49)] false) [2, 35, 36, 37] 1)))) [2, 35, 36, 37] 1)
def f_trace_Check_l1 : ICode :=
  (.post (.block 0 (.loop f_trace_Check_b1)) [] 0)
def f_trace_Check_k1 : ICode :=
  (.seq (.region [
 (oN (.mv 4 (.c (I 0))))] false)
  .ret)
def f_trace_Check_0 : ICode :=
  (.seq (.post (.region [
 (oN (.box 2 false false (.t 0))),
 (oN (.box 3 false false (.t 1))),
 (oN (.mv 4 (.c (I 0))))] false) [2, 3] 2)
  (.seq (.seq (.post (.region [
 (oN (.load 10 true 5 (.t 2))),
 (oN (.call (some 11) true 38 [(.t 10)])),
 (oM 5 11)] false) [2, 3, 5] 2)
  (.seq (.post (.region [
 (oM 12 5),
 (oN (.bin 13 .neq (.t 12) (.c (I 0))))] false) [2, 3, 5, 13] 2)
  (.cond (.t 13) (.seq (.post (.region [
 (oM 14 5),
 (oM 4 14)] false) [4] 0)
  .ret)
  .skip)))
  (.seq (.seq (.post (.region [
 (oF 15 3 1),
 (oL 16 15),
 (oN (.len 17 0 (.t 16))),
 (oN (.bin 18 .lss (.t 17) (.c (I 1)))),
 (oM 19 18),
    ⟨.faddr 20 (.t 3) 1, some (19, false)⟩,
    ⟨.load 21 false 1 (.t 20), some (19, false)⟩,
    ⟨.len 22 0 (.t 21), some (19, false)⟩,
    ⟨.bin 23 .gtr (.t 22) (.c (I 41)), some (19, false)⟩,
 (oN (.pick 24 (.t 19) (.c (.bool true)) (.t 23)))] false) [2, 3, 24] 2)
  (.cond (.t 24) (.seq (.post (.region [
 (oN (.mv 4 (.c (I 2))))] false) [4] 0)
  .ret)
  .skip))
  (.seq (.seq (.post (.region [
 (oN (.load 25 true 5 (.t 2))),
 (oN (.load 26 true 5 (.t 2))),
 (oN (.call (some 27) true 101 [(.t 26), (.c (I 3))])),
 (oF 28 3 0),
 (oL 29 28),
 (oN (.call (some 30) true 135 [(.t 25), (.t 27), (.t 29)])),
 (oM 6 30)] true) [2, 3, 6] 2)
  (.seq (.post (.region [
 (oM 31 6),
 (oN (.bin 32 .neq (.t 31) (.c (I 0))))] false) [2, 3, 6, 32] 2)
  (.cond (.t 32) (.seq (.post (.region [
 (oM 33 6),
 (oM 4 33)] false) [4] 0)
  .ret)
  .skip)))
  (.seq (.seq (.post (.region [
 (oF 34 3 1),
 (oL 35 34),
 (oN (.len 36 0 (.t 35))),
 (oN (.mv 37 (.c (I 0))))] false) [2, 35, 36, 37] 1)
  (.cut f_trace_Check_l1))
  (.cut f_trace_Check_k1))))))
def f_trace_Check : IFunc := { np := 2, res := [.t 4], own := false, trunc := true, body := f_trace_Check_0 }
/- 252: latchwork/trace.Bad$1 -/
def f_trace_Bad_1_0 : ICode :=
  (.seq (.post (.region [
 (oN (.load 10 true 5 (.t 2))),
 (oM 11 1),
 (oN (.call (some 12) true 141 [(.t 10), (.t 11)])),
 (oM 9 12),
 (oN (.extract 13 (.t 9) 0)),
 (oN (.extract 14 (.t 9) 1)),
 (oM 7 13),
 (oM 8 14)] false) [3, 4, 7, 8] 0)
  (.post (.region [
 (oL 15 3),
 (oM 16 15),
    ⟨.mv 17 (.t 7), some (16, true)⟩,
 (oN (.pick 18 (.t 16) (.t 17) (.c (.bool false)))),
 (oM 19 8),
 (oN (.store false 1 (.t 3) (.t 18))),
 (oN (.store false 1 (.t 4) (.t 19)))] false) [] 0))
def f_trace_Bad_1 : IFunc := { np := 5, res := [], own := false, trunc := false, body := f_trace_Bad_1_0 }
/- 253: latchwork/trace.player -/
def f_trace_player_b1 : ICode :=
  (.post (.seq (.region [
 (oN (.bin 18 .lss (.t 17) (.t 16)))] false)
  (.seq (.cond (.t 18) .skip
  (.exit 0))
  (.seq (.block 1 (.seq (.post (.region [
 (oA 19 15 17),
 (oL 20 19),
 (oN (.tk 8 20))] false) [2, 3, 6, 8, 15, 16, 17] 1)
  (.seq (.post (.region [
 (oN (.load 21 true 5 (.t 3))),
 (oM 22 6),
 (oM 23 8),
 (oN (.call (some 24) true 139 [(.t 21), (.t 22), (.t 23)])),
 (oN (.tk 9 24))] false) [2, 3, 6, 9, 15, 16, 17] 1)
  (.seq (.post (.region [
 (oM 25 2),
 (oM 26 6),
 (oM 27 9),
 (oN (.callv (some 28) false (.t 25) [(.t 26), (.t 27)]))] false) [2, 3, 9, 15, 16, 17] 1)
  (.post (.region [
 (oN (.load 29 true 5 (.t 3))),
 (oM 30 9),
 (oN (.call (some 31) true 140 [(.t 29), (.t 30)])),
 (oN (.tk 6 31))] false) [2, 3, 6, 15, 16, 17] 1)))))
  (.post (.region [
 (oN (.bin 32 .add (.t 17) (.c (I 1)))),
 (oM 17 32)] false) [2, 3, 6, 15, 16, 17] 1)))) [2, 3, 6, 15, 16, 17] 1)
def f_trace_player_l1 : ICode :=
  (.post (.block 0 (.loop f_trace_player_b1)) [] 0)
def f_trace_player_0 : ICode :=
  (.seq (.post (.region [
 (oN (.box 3 false false (.t 0))),
 (oN (.box 4 false false (.t 1)))] false) [2, 3, 4] 2)
  (.seq (.post (.region [
 (oN (.load 10 true 5 (.t 3))),
 (oF 11 4 0),
 (oL 12 11),
 (oN (.call (some 13) true 136 [(.t 10), (.t 12)])),
 (oN (.tk 6 13))] false) [2, 3, 4, 6] 2)
  (.seq (.post (.region [
 (oF 14 4 1),
 (oL 15 14),
 (oN (.len 16 0 (.t 15))),
 (oN (.mv 17 (.c (I 0))))] false) [2, 3, 6, 15, 16, 17] 1)
  (.cut f_trace_player_l1))))
def f_trace_player : IFunc := { np := 3, res := [], own := false, trunc := false, body := f_trace_player_0 }
/- 254: latchwork/trace.line -/
def f_trace_line_b1 : ICode :=
  (.post (.seq (.region [
 (oN (.bin 14 .lss (.t 13) (.t 12)))] false)
  (.seq (.cond (.t 14) .skip
  (.exit 0))
  (.seq (.block 1 (.seq (.post (.region [
 (oA 15 11 13),
 (oL 16 15),
 (oM 9 16)] false) [6, 7, 9, 11, 12, 13] 0)
  (.seq (.post (.region [
 (oM 17 6),
 (oM 18 9),
 (oN (.call (some 19) true 260 [(.t 18)])),
 (oN (.bin 20 .add (.c (.str ⟨#[32]⟩)) (.t 19))),
 (oN (.bin 21 .add (.t 17) (.t 20))),
 (oM 6 21)] false) [6, 7, 9, 11, 12, 13] 0)
  (.post (.region [
 (oM 22 7),
 (oM 23 22),
    ⟨.mv 24 (.t 9), some (23, true)⟩,
    ⟨.bin 25 .geq (.t 24) (.c (I 0)), some (23, true)⟩,
 (oN (.pick 26 (.t 23) (.t 25) (.c (.bool false)))),
 (oM 27 26),
    ⟨.mv 28 (.t 9), some (27, true)⟩,
    ⟨.bin 29 .leq (.t 28) (.c (I 255)), some (27, true)⟩,
 (oN (.pick 30 (.t 27) (.t 29) (.c (.bool false)))),
 (oM 7 30)] false) [6, 7, 11, 12, 13] 0))))
  (.post (.region [
 (oN (.bin 31 .add (.t 13) (.c (I 1)))),
 (oM 13 31)] false) [6, 7, 11, 12, 13] 0)))) [6, 7, 11, 12, 13] 0)
def f_trace_line_l1 : ICode :=
  (.post (.block 0 (.loop f_trace_line_b1)) [6, 7] 0)
def f_trace_line_k1 : ICode :=
  (.seq (.post (.region [
 (oM 32 6),
 (oN (.bin 33 .add (.t 32) (.c (.str ⟨#[10]⟩)))),
 (oM 34 7),
 (oM 4 33),
 (oM 5 34)] false) [4, 5] 0)
  .ret)
def f_trace_line_0 : ICode :=
  (.seq (.post (.region [
 (oN (.mv 4 (.c (.str ByteArray.empty)))),
 (oN (.mv 5 (.c (.bool false))))] false) [0, 1] 0)
  (.seq (.post (.region [
 (oM 10 0),
 (oM 6 10)] false) [1, 6] 0)
  (.seq (.region [
 (oN (.mv 7 (.c (.bool true))))] false)
  (.seq (.seq (.post (.region [
 (oM 11 1),
 (oN (.len 12 0 (.t 11))),
 (oN (.mv 13 (.c (I 0))))] false) [6, 7, 11, 12, 13] 0)
  (.cut f_trace_line_l1))
  (.cut f_trace_line_k1)))))
def f_trace_line : IFunc := { np := 2, res := [.t 4, .t 5], own := false, trunc := true, body := f_trace_line_0 }
/- 256: latchwork/trace.read -/
def f_trace_read_b1 : ICode :=
  (.post (.seq (.region [
 (oN (.bin 23 .lss (.t 22) (.t 21)))] false)
  (.seq (.cond (.t 23) .skip
  (.exit 0))
  (.seq (.block 1 (.seq (.post (.region [
 (oA 24 20 22),
 (oL 25 24),
 (oM 9 25)] false) [7, 9, 20, 21, 22] 0)
  (.seq (.post (.region [
 (oM 27 9),
 (oN (.call (some 28) true 263 [(.t 27)])),
 (oM 26 28),
 (oN (.extract 29 (.t 26) 0)),
 (oN (.extract 30 (.t 26) 1)),
 (oM 10 29),
 (oM 11 30)] false) [7, 9, 10, 11, 20, 21, 22] 0)
  (.seq (.seq (.post (.region [
 (oM 31 11),
 (oN (.eqn 32 true (.t 31))),
 (oM 33 32),
    ⟨.mv 34 (.t 10), some (33, false)⟩,
    ⟨.call (some 35) true 260 [(.t 34)], some (33, false)⟩,
    ⟨.mv 36 (.t 9), some (33, false)⟩,
    ⟨.bin 37 .neq (.t 35) (.t 36), some (33, false)⟩,
 (oN (.pick 38 (.t 33) (.c (.bool true)) (.t 37)))] false) [7, 10, 20, 21, 22, 38] 0)
  (.cond (.t 38) (.seq (.post (.region [
 (oN (.mv 4 (.c (.sl true 1 [])))),
 (oN (.mv 5 (.c (.bool false))))] false) [4, 5] 0)
  .ret)
  .skip))
  (.post (.region [
 (oN (.tk 39 7)),
 (oM 40 10),
 (oN (.buildSl 41 1 [(.t 40)])),
 (oN (.append 42 1 8 (.t 39) (.t 41))),
 (oN (.tk 7 42))] false) [7, 20, 21, 22] 0)))))
  (.post (.region [
 (oN (.bin 43 .add (.t 22) (.c (I 1)))),
 (oM 22 43)] false) [7, 20, 21, 22] 0)))) [7, 20, 21, 22] 0)
def f_trace_read_l1 : ICode :=
  (.post (.block 0 (.loop f_trace_read_b1)) [7] 0)
def f_trace_read_k1 : ICode :=
  (.seq (.post (.region [
 (oM 44 7),
 (oN (.tk 4 44)),
 (oN (.mv 5 (.c (.bool true))))] false) [4, 5] 0)
  .ret)
def f_trace_read_0 : ICode :=
  (.seq (.post (.region [
 (oN (.mv 4 (.c (.sl true 1 [])))),
 (oN (.mv 5 (.c (.bool false))))] false) [0, 1] 0)
  (.seq (.post (.region [
 (oM 12 0),
 (oN (.call (some 13) true 262 [(.t 12), (.c (.str ⟨#[32]⟩))])),
 (oN (.tk 6 13))] false) [1, 6] 0)
  (.seq (.seq (.post (.region [
 (oM 14 6),
 (oN (.iaddr 15 1 none (.t 14) (.c (I 0)))),
 (oL 16 15),
 (oM 17 1),
 (oN (.bin 18 .neq (.t 16) (.t 17)))] false) [6, 18] 0)
  (.cond (.t 18) (.seq (.post (.region [
 (oN (.mv 4 (.c (.sl true 1 [])))),
 (oN (.mv 5 (.c (.bool false))))] false) [4, 5] 0)
  .ret)
  .skip))
  (.seq (.post (.region [
 (oN (.mv 7 (.c (.sl true 1 []))))] false) [6, 7] 0)
  (.seq (.seq (.post (.region [
 (oM 19 6),
 (oN (.slice 20 1 (.t 19) (some (.c (I 1))) none)),
 (oN (.len 21 0 (.t 20))),
 (oN (.mv 22 (.c (I 0))))] false) [7, 20, 21, 22] 0)
  (.cut f_trace_read_l1))
  (.cut f_trace_read_k1))))))
def f_trace_read : IFunc := { np := 2, res := [.t 4, .t 5], own := false, trunc := true, body := f_trace_read_0 }
/- 375: latchwork/trace.Play -/
/- 382: latchwork/trace.Play$1 -/
end Go.Lw
end

/-! The code of package Word for the small machine. Written by program (gen.py). -/
section
set_option maxRecDepth 10000
namespace Go.Lw
open Go
/- 22: latchwork/word.Fit -/
def f_word_Fit_b1 : ICode :=
  (.post (.seq (.region [
 (oN (.bin 26 .lss (.t 25) (.c (I 3))))] false)
  (.seq (.cond (.t 26) .skip
  (.exit 0))
  (.seq (.block 1 (.seq (.post (.region [
 (oM 27 25),
 (oN (.index 28 1 3 false (.t 24) (.t 25))),
 (oM 11 27),
 (oM 12 28)] false) [0, 1, 2, 7, 9, 11, 12, 24, 25] 1)
  (.seq (.post (.region [
 (oM 29 11),
 (oM 30 0),
 (oN (.call (some 31) true 63 [(.t 30)])),
 (oN (.bin 32 .lss (.t 29) (.t 31))),
 (oM 33 32),
    ⟨.mv 34 (.t 12), some (33, true)⟩,
    ⟨.call (some 35) true 62 [(.t 34)], some (33, true)⟩,
    ⟨.un 36 .not (.t 35), some (33, true)⟩,
 (oN (.pick 37 (.t 33) (.t 36) (.c (.bool false)))),
 (oM 38 37),
    ⟨.mv 39 (.t 11), some (38, false)⟩,
    ⟨.mv 40 (.t 0), some (38, false)⟩,
    ⟨.call (some 41) true 63 [(.t 40)], some (38, false)⟩,
    ⟨.bin 42 .geq (.t 39) (.t 41), some (38, false)⟩,
    ⟨.mv 43 (.t 42), some (38, false)⟩,
    ⟨.mv 44 (.t 12), some (43, true)⟩,
    ⟨.bin 45 .neq (.t 44) (.c (I 0)), some (43, true)⟩,
    ⟨.pick 46 (.t 43) (.t 45) (.c (.bool false)), some (38, false)⟩,
 (oN (.pick 47 (.t 38) (.c (.bool true)) (.t 46)))] false) [0, 1, 2, 7, 9, 24, 25, 47] 1)
  (.cond (.t 47) (.seq (.post (.region [
 (oN (.mv 8 (.c (I 3))))] false) [8] 0)
  .ret)
  .skip))))
  (.post (.region [
 (oN (.bin 48 .add (.t 25) (.c (I 1)))),
 (oM 25 48)] false) [0, 1, 2, 7, 9, 24, 25] 1)))) [0, 1, 2, 7, 9, 24, 25] 1)
def f_word_Fit_l1 : ICode :=
  (.post (.block 0 (.loop f_word_Fit_b1)) [1, 2, 7, 9] 1)
def f_word_Fit_k1 : ICode :=
  (.seq (.seq (.post (.region [
 (oM 49 9),
 (oM 50 1),
 (oM 51 2),
 (oN (.load 52 true 3 (.t 7))),
 (oN (.call (some 53) true 64 [(.t 49), (.t 50), (.t 51), (.t 52)])),
 (oN (.un 54 .not (.t 53)))] false) [54] 0)
  (.cond (.t 54) (.seq (.post (.region [
 (oN (.mv 8 (.c (I 1))))] false) [8] 0)
  .ret)
  .skip))
  (.seq (.post (.region [
 (oN (.mv 8 (.c (I 0))))] false) [8] 0)
  .ret))
def f_word_Fit_0 : ICode :=
  (.seq (.post (.region [
 (oN (.box 7 false false (.t 3))),
 (oN (.mv 8 (.c (I 0))))] false) [0, 1, 2, 7] 1)
  (.seq (.post (.region [
 (oN (.call (some 14) false 61 [])),
 (oM 15 0),
 (oN (.lookup 16 0 (.t 14) (.t 15) true (I 0))),
 (oM 13 16),
 (oN (.extract 17 (.t 13) 0)),
 (oN (.extract 18 (.t 13) 1)),
 (oM 9 17),
 (oM 10 18)] false) [0, 1, 2, 7, 9, 10] 1)
  (.seq (.seq (.post (.region [
 (oM 19 10),
 (oN (.un 20 .not (.t 19)))] false) [0, 1, 2, 7, 9, 20] 1)
  (.cond (.t 20) (.seq (.post (.region [
 (oN (.mv 8 (.c (I 7))))] false) [8] 0)
  .ret)
  .skip))
  (.seq (.seq (.post (.region [
 (oM 21 1),
 (oN (.call (some 22) true 62 [(.t 21)])),
 (oN (.un 23 .not (.t 22)))] false) [0, 1, 2, 7, 9, 23] 1)
  (.cond (.t 23) (.seq (.post (.region [
 (oN (.mv 8 (.c (I 3))))] false) [8] 0)
  .ret)
  .skip))
  (.seq (.seq (.post (.region [
 (oN (.load 24 true 3 (.t 7))),
 (oN (.mv 25 (.c (I 0))))] false) [0, 1, 2, 7, 9, 24, 25] 1)
  (.cut f_word_Fit_l1))
  (.cut f_word_Fit_k1))))))
def f_word_Fit : IFunc := { np := 4, res := [.t 8], own := false, trunc := true, body := f_word_Fit_0 }
/- 25: latchwork/word.Apply -/
/- 61: latchwork/word.shapes -/
def f_word_shapes_0 : ICode :=
  (.seq (.post (.region [
 (oN (.mv 0 (.c (.nilm))))] false) [] 0)
  (.seq (.post (.region [
 (oN (.mkmap 1)),
 (oN (.mupd 0 (.t 1) (.c (I 4)) (.c (I 1)))),
 (oN (.mupd 0 (.t 1) (.c (I 5)) (.c (I 1)))),
 (oN (.mupd 0 (.t 1) (.c (I 6)) (.c (I 2)))),
 (oN (.mupd 0 (.t 1) (.c (I 7)) (.c (I 2)))),
 (oN (.mupd 0 (.t 1) (.c (I 8)) (.c (I 2)))),
 (oN (.mupd 0 (.t 1) (.c (I 9)) (.c (I 2)))),
 (oN (.mupd 0 (.t 1) (.c (I 10)) (.c (I 2)))),
 (oN (.mupd 0 (.t 1) (.c (I 11)) (.c (I 2)))),
 (oN (.mupd 0 (.t 1) (.c (I 12)) (.c (I 2)))),
 (oN (.mupd 0 (.t 1) (.c (I 13)) (.c (I 2)))),
 (oN (.mupd 0 (.t 1) (.c (I 14)) (.c (I 2)))),
 (oN (.mupd 0 (.t 1) (.c (I 15)) (.c (I 2)))),
 (oN (.mupd 0 (.t 1) (.c (I 16)) (.c (I 3)))),
 (oN (.mupd 0 (.t 1) (.c (I 17)) (.c (I 3)))),
 (oN (.mupd 0 (.t 1) (.c (I 18)) (.c (I 3)))),
 (oN (.mupd 0 (.t 1) (.c (I 19)) (.c (I 4)))),
 (oN (.mupd 0 (.t 1) (.c (I 20)) (.c (I 5)))),
 (oN (.mupd 0 (.t 1) (.c (I 21)) (.c (I 6)))),
 (oN (.mupd 0 (.t 1) (.c (I 22)) (.c (I 7)))),
 (oN (.mupd 0 (.t 1) (.c (I 23)) (.c (I 7)))),
 (oM 2 1),
 (oM 0 2)] false) [0] 0)
  .ret))
def f_word_shapes : IFunc := { np := 0, res := [.t 0], own := false, trunc := false, body := f_word_shapes_0 }
/- 62: latchwork/word.IsWidth -/
def f_word_IsWidth_0 : ICode :=
  (.seq (.post (.region [
 (oN (.mv 2 (.c (.bool false))))] false) [0] 0)
  (.seq (.post (.region [
 (oM 3 0),
 (oN (.bin 4 .geq (.t 3) (.c (I 1)))),
 (oM 5 4),
    ⟨.mv 6 (.t 0), some (5, true)⟩,
    ⟨.bin 7 .leq (.t 6) (.c (I 8)), some (5, true)⟩,
 (oN (.pick 8 (.t 5) (.t 7) (.c (.bool false)))),
 (oM 2 8)] false) [2] 0)
  .ret))
def f_word_IsWidth : IFunc := { np := 1, res := [.t 2], own := false, trunc := true, body := f_word_IsWidth_0 }
/- 63: latchwork/word.Takes -/
def f_word_Takes_k1 : ICode :=
  (.cond (.t 8) (.seq (.post (.region [
 (oN (.mv 2 (.c (I 1))))] false) [2] 0)
  .ret)
  (.seq (.post (.region [
 (oN (.bin 13 .eql (.t 5) (.c (I 4)))),
 (oM 12 13)] false) [12] 0)
  (.cond (.t 12) (.seq (.post (.region [
 (oN (.mv 2 (.c (I 3))))] false) [2] 0)
  .ret)
  .skip)))
def f_word_Takes_k2 : ICode :=
  (.seq (.post (.region [
 (oN (.mv 2 (.c (I 2))))] false) [2] 0)
  .ret)
def f_word_Takes_0 : ICode :=
  (.seq (.post (.region [
 (oN (.mv 2 (.c (I 0))))] false) [0] 0)
  (.seq (.seq (.post (.region [
 (oN (.call (some 3) false 61 [])),
 (oM 4 0),
 (oN (.lookup 5 0 (.t 3) (.t 4) false (I 0)))] false) [5] 0)
  (.block 0 (.seq (.post (.region [
 (oN (.bin 7 .eql (.t 5) (.c (I 0)))),
 (oM 6 7)] false) [5, 6] 0)
  (.cond (.t 6) (.seq (.post (.region [
 (oN (.mv 2 (.c (I 0))))] false) [2] 0)
  .ret)
  (.seq (.seq (.post (.region [
 (oN (.bin 9 .eql (.t 5) (.c (I 1)))),
 (oM 8 9)] false) [5, 8] 0)
  (.cond (.t 8) (.post .skip [5, 8] 0)
  (.post (.seq (.post (.region [
 (oN (.bin 10 .eql (.t 5) (.c (I 6)))),
 (oM 8 10)] false) [5, 8] 0)
  (.cond (.t 8) (.post .skip [5, 8] 0)
  (.post (.post (.region [
 (oN (.bin 11 .eql (.t 5) (.c (I 7)))),
 (oM 8 11)] false) [5, 8] 0) [5, 8] 0))) [5, 8] 0)))
  (.cut f_word_Takes_k1))))))
  (.cut f_word_Takes_k2)))
def f_word_Takes : IFunc := { np := 1, res := [.t 2], own := false, trunc := true, body := f_word_Takes_0 }
/- 64: latchwork/word.fits -/
def f_word_fits_0 : ICode :=
  (.seq (.post (.region [
 (oN (.box 7 false false (.t 3))),
 (oN (.mv 8 (.c (.bool false))))] false) [0, 1, 2, 7] 1)
  (.seq (.seq (.post (.region [
 (oM 9 2),
 (oN (.bin 10 .neq (.t 9) (.c (I 0)))),
 (oM 11 10),
    ⟨.mv 12 (.t 0), some (11, true)⟩,
    ⟨.bin 13 .neq (.t 12) (.c (I 6)), some (11, true)⟩,
 (oN (.pick 14 (.t 11) (.t 13) (.c (.bool false))))] false) [0, 1, 2, 7, 14] 1)
  (.cond (.t 14) (.seq (.post (.region [
 (oN (.mv 8 (.c (.bool false))))] false) [8] 0)
  .ret)
  .skip))
  (.seq (.seq (.post (.region [
 (oM 15 0)] false) [1, 2, 7, 15] 1)
  (.block 0 (.seq (.post (.region [
 (oN (.bin 17 .eql (.t 15) (.c (I 1)))),
 (oM 16 17)] false) [1, 2, 7, 15, 16] 1)
  (.cond (.t 16) (.seq (.post (.region [
 (oN (.iaddr 18 1 (some 3) (.t 7) (.c (I 0)))),
 (oL 19 18),
 (oM 20 1),
 (oN (.bin 21 .eql (.t 19) (.t 20))),
 (oM 8 21)] false) [8] 0)
  .ret)
  (.seq (.post (.region [
 (oN (.bin 23 .eql (.t 15) (.c (I 2)))),
 (oM 22 23)] false) [1, 2, 7, 15, 22] 1)
  (.cond (.t 22) (.seq (.post (.region [
 (oN (.iaddr 24 1 (some 3) (.t 7) (.c (I 0)))),
 (oL 25 24),
 (oM 26 1),
 (oN (.bin 27 .eql (.t 25) (.t 26))),
 (oM 28 27),
    ⟨.iaddr 29 1 (some 3) (.t 7) (.c (I 1)), some (28, true)⟩,
    ⟨.load 30 false 1 (.t 29), some (28, true)⟩,
    ⟨.mv 31 (.t 1), some (28, true)⟩,
    ⟨.bin 32 .eql (.t 30) (.t 31), some (28, true)⟩,
 (oN (.pick 33 (.t 28) (.t 32) (.c (.bool false)))),
 (oM 8 33)] false) [8] 0)
  .ret)
  (.seq (.post (.region [
 (oN (.bin 35 .eql (.t 15) (.c (I 3)))),
 (oM 34 35)] false) [1, 2, 7, 15, 34] 1)
  (.cond (.t 34) (.seq (.post (.region [
 (oN (.iaddr 36 1 (some 3) (.t 7) (.c (I 0)))),
 (oL 37 36),
 (oN (.iaddr 38 1 (some 3) (.t 7) (.c (I 1)))),
 (oL 39 38),
 (oN (.bin 40 .eql (.t 37) (.t 39))),
 (oM 41 40),
    ⟨.mv 42 (.t 1), some (41, true)⟩,
    ⟨.bin 43 .eql (.t 42) (.c (I 1)), some (41, true)⟩,
 (oN (.pick 44 (.t 41) (.t 43) (.c (.bool false)))),
 (oM 8 44)] false) [8] 0)
  .ret)
  (.seq (.post (.region [
 (oN (.bin 46 .eql (.t 15) (.c (I 4)))),
 (oM 45 46)] false) [1, 2, 7, 15, 45] 1)
  (.cond (.t 45) (.seq (.post (.region [
 (oN (.iaddr 47 1 (some 3) (.t 7) (.c (I 0)))),
 (oL 48 47),
 (oN (.bin 49 .eql (.t 48) (.c (I 1)))),
 (oM 50 49),
    ⟨.iaddr 51 1 (some 3) (.t 7) (.c (I 1)), some (50, true)⟩,
    ⟨.load 52 false 1 (.t 51), some (50, true)⟩,
    ⟨.mv 53 (.t 1), some (50, true)⟩,
    ⟨.bin 54 .eql (.t 52) (.t 53), some (50, true)⟩,
 (oN (.pick 55 (.t 50) (.t 54) (.c (.bool false)))),
 (oM 56 55),
    ⟨.iaddr 57 1 (some 3) (.t 7) (.c (I 2)), some (56, true)⟩,
    ⟨.load 58 false 1 (.t 57), some (56, true)⟩,
    ⟨.mv 59 (.t 1), some (56, true)⟩,
    ⟨.bin 60 .eql (.t 58) (.t 59), some (56, true)⟩,
 (oN (.pick 61 (.t 56) (.t 60) (.c (.bool false)))),
 (oM 8 61)] false) [8] 0)
  .ret)
  (.seq (.post (.region [
 (oN (.bin 63 .eql (.t 15) (.c (I 5)))),
 (oM 62 63)] false) [1, 2, 7, 15, 62] 1)
  (.cond (.t 62) (.seq (.post (.region [
 (oN (.iaddr 64 1 (some 3) (.t 7) (.c (I 0)))),
 (oL 65 64),
 (oN (.iaddr 66 1 (some 3) (.t 7) (.c (I 1)))),
 (oL 67 66),
 (oN (.bin 68 .add (.t 65) (.t 67))),
 (oM 69 1),
 (oN (.bin 70 .eql (.t 68) (.t 69))),
 (oM 8 70)] false) [8] 0)
  .ret)
  (.seq (.post (.region [
 (oN (.bin 72 .eql (.t 15) (.c (I 6)))),
 (oM 71 72)] false) [1, 2, 7, 71] 1)
  (.cond (.t 71) (.seq (.post (.region [
 (oM 73 2),
 (oN (.bin 74 .geq (.t 73) (.c (I 0)))),
 (oM 75 74),
    ⟨.mv 76 (.t 2), some (75, true)⟩,
    ⟨.iaddr 77 1 (some 3) (.t 7) (.c (I 0)), some (75, true)⟩,
    ⟨.load 78 false 1 (.t 77), some (75, true)⟩,
    ⟨.mv 79 (.t 1), some (75, true)⟩,
    ⟨.bin 80 .sub (.t 78) (.t 79), some (75, true)⟩,
    ⟨.bin 81 .leq (.t 76) (.t 80), some (75, true)⟩,
 (oN (.pick 82 (.t 75) (.t 81) (.c (.bool false)))),
 (oM 8 82)] false) [8] 0)
  .ret)
  .skip))))))))))))))
  (.seq (.post (.region [
 (oM 83 1),
 (oN (.iaddr 84 1 (some 3) (.t 7) (.c (I 0)))),
 (oL 85 84),
 (oN (.bin 86 .geq (.t 83) (.t 85))),
 (oM 8 86)] false) [8] 0)
  .ret))))
def f_word_fits : IFunc := { np := 4, res := [.t 8], own := false, trunc := true, body := f_word_fits_0 }
/- 65: latchwork/word.IsWord -/
def f_word_IsWord_0 : ICode :=
  (.seq (.post (.region [
 (oN (.mv 4 (.c (.bool false))))] false) [0, 1] 0)
  (.seq (.post (.region [
 (oM 5 0),
 (oN (.bin 6 .geq (.t 5) (.c (I 0)))),
 (oM 7 6),
    ⟨.mv 8 (.t 0), some (7, true)⟩,
    ⟨.mv 9 (.t 1), some (7, true)⟩,
    ⟨.bin 10 .shl (.c (I 1)) (.t 9), some (7, true)⟩,
    ⟨.bin 11 .lss (.t 8) (.t 10), some (7, true)⟩,
 (oN (.pick 12 (.t 7) (.t 11) (.c (.bool false)))),
 (oM 4 12)] false) [4] 0)
  .ret))
def f_word_IsWord : IFunc := { np := 2, res := [.t 4], own := false, trunc := true, body := f_word_IsWord_0 }
/- 66: latchwork/word.Raw -/
def f_word_Raw_0 : ICode :=
  (.seq (.post (.region [
 (oN (.box 13 false false (.t 6))),
 (oN (.mv 14 (.c (I 0))))] false) [0, 1, 2, 3, 4, 5, 13] 1)
  (.seq (.post (.region [
 (oM 15 0),
 (oM 16 1),
 (oM 17 2),
 (oM 18 3),
 (oM 19 4),
 (oM 20 5),
 (oN (.load 21 true 3 (.t 13))),
 (oN (.call (some 22) true 96 [(.t 15), (.t 16), (.t 17), (.t 18), (.t 19), (.t 20), (.t 21)])),
 (oM 23 1),
 (oN (.bin 24 .shl (.c (I 1)) (.t 23))),
 (oN (.bin 25 .sub (.t 24) (.c (I 1)))),
 (oN (.bin 26 .and (.t 22) (.t 25))),
 (oM 14 26)] true) [14] 0)
  .ret))
def f_word_Raw : IFunc := { np := 7, res := [.t 14], own := false, trunc := true, body := f_word_Raw_0 }
/- 96: latchwork/word.do -/
def f_word_do_0 : ICode :=
  (.seq (.post (.region [
 (oN (.box 13 false false (.t 6))),
 (oN (.mv 14 (.c (I 0))))] false) [0, 2, 3, 4, 5, 13] 1)
  (.seq (.seq (.post (.region [
 (oM 15 0)] false) [2, 3, 4, 5, 13, 15] 1)
  (.block 0 (.seq (.post (.region [
 (oN (.bin 17 .eql (.t 15) (.c (I 4)))),
 (oM 16 17)] false) [2, 3, 4, 5, 13, 15, 16] 1)
  (.cond (.t 16) (.seq (.post (.region [
 (oM 18 2),
 (oN (.un 19 .xor (.t 18))),
 (oM 14 19)] false) [14] 0)
  .ret)
  (.seq (.post (.region [
 (oN (.bin 21 .eql (.t 15) (.c (I 5)))),
 (oM 20 21)] false) [2, 3, 4, 5, 13, 15, 20] 1)
  (.cond (.t 20) (.seq (.post (.region [
 (oM 22 2),
 (oN (.un 23 .neg (.t 22))),
 (oM 14 23)] false) [14] 0)
  .ret)
  (.seq (.post (.region [
 (oN (.bin 25 .eql (.t 15) (.c (I 6)))),
 (oM 24 25)] false) [2, 3, 4, 5, 13, 15, 24] 1)
  (.cond (.t 24) (.seq (.post (.region [
 (oM 26 2),
 (oM 27 3),
 (oN (.bin 28 .and (.t 26) (.t 27))),
 (oM 14 28)] false) [14] 0)
  .ret)
  (.seq (.post (.region [
 (oN (.bin 30 .eql (.t 15) (.c (I 7)))),
 (oM 29 30)] false) [2, 3, 4, 5, 13, 15, 29] 1)
  (.cond (.t 29) (.seq (.post (.region [
 (oM 31 2),
 (oM 32 3),
 (oN (.bin 33 .or (.t 31) (.t 32))),
 (oM 14 33)] false) [14] 0)
  .ret)
  (.seq (.post (.region [
 (oN (.bin 35 .eql (.t 15) (.c (I 8)))),
 (oM 34 35)] false) [2, 3, 4, 5, 13, 15, 34] 1)
  (.cond (.t 34) (.seq (.post (.region [
 (oM 36 2),
 (oM 37 3),
 (oN (.bin 38 .xor (.t 36) (.t 37))),
 (oM 14 38)] false) [14] 0)
  .ret)
  (.seq (.post (.region [
 (oN (.bin 40 .eql (.t 15) (.c (I 9)))),
 (oM 39 40)] false) [2, 3, 4, 5, 13, 15, 39] 1)
  (.cond (.t 39) (.seq (.post (.region [
 (oM 41 2),
 (oM 42 3),
 (oN (.bin 43 .add (.t 41) (.t 42))),
 (oM 14 43)] false) [14] 0)
  .ret)
  (.seq (.post (.region [
 (oN (.bin 45 .eql (.t 15) (.c (I 10)))),
 (oM 44 45)] false) [2, 3, 4, 5, 13, 15, 44] 1)
  (.cond (.t 44) (.seq (.post (.region [
 (oM 46 2),
 (oM 47 3),
 (oN (.bin 48 .sub (.t 46) (.t 47))),
 (oM 14 48)] false) [14] 0)
  .ret)
  (.seq (.post (.region [
 (oN (.bin 50 .eql (.t 15) (.c (I 11)))),
 (oM 49 50)] false) [2, 3, 4, 5, 13, 15, 49] 1)
  (.cond (.t 49) (.seq (.post (.region [
 (oM 51 2),
 (oM 52 3),
 (oN (.bin 53 .mul (.t 51) (.t 52))),
 (oM 14 53)] false) [14] 0)
  .ret)
  (.seq (.post (.region [
 (oN (.bin 55 .eql (.t 15) (.c (I 14)))),
 (oM 54 55)] false) [2, 3, 4, 5, 13, 15, 54] 1)
  (.cond (.t 54) (.seq (.post (.region [
 (oM 56 2),
 (oM 57 3),
 (oN (.bin 58 .shl (.t 56) (.t 57))),
 (oM 14 58)] false) [14] 0)
  .ret)
  (.seq (.post (.region [
 (oN (.bin 60 .eql (.t 15) (.c (I 15)))),
 (oM 59 60)] false) [2, 3, 4, 5, 13, 15, 59] 1)
  (.cond (.t 59) (.seq (.post (.region [
 (oM 61 2),
 (oM 62 3),
 (oN (.bin 63 .shr (.t 61) (.t 62))),
 (oM 14 63)] false) [14] 0)
  .ret)
  (.seq (.post (.region [
 (oN (.bin 65 .eql (.t 15) (.c (I 16)))),
 (oM 64 65)] false) [2, 3, 4, 5, 13, 15, 64] 1)
  (.cond (.t 64) (.seq (.post (.region [
 (oM 66 2),
 (oM 67 3),
 (oN (.bin 68 .eql (.t 66) (.t 67))),
 (oN (.call (some 69) true 114 [(.t 68)])),
 (oM 14 69)] false) [14] 0)
  .ret)
  (.seq (.post (.region [
 (oN (.bin 71 .eql (.t 15) (.c (I 17)))),
 (oM 70 71)] false) [2, 3, 4, 5, 13, 15, 70] 1)
  (.cond (.t 70) (.seq (.post (.region [
 (oM 72 2),
 (oM 73 3),
 (oN (.bin 74 .lss (.t 72) (.t 73))),
 (oN (.call (some 75) true 114 [(.t 74)])),
 (oM 14 75)] false) [14] 0)
  .ret)
  (.seq (.post (.region [
 (oN (.bin 77 .eql (.t 15) (.c (I 18)))),
 (oM 76 77)] false) [2, 3, 4, 5, 13, 15, 76] 1)
  (.cond (.t 76) (.seq (.post (.region [
 (oM 78 2),
 (oN (.iaddr 79 1 (some 3) (.t 13) (.c (I 0)))),
 (oL 80 79),
 (oN (.call (some 81) true 115 [(.t 78), (.t 80)])),
 (oM 82 3),
 (oN (.iaddr 83 1 (some 3) (.t 13) (.c (I 1)))),
 (oL 84 83),
 (oN (.call (some 85) true 115 [(.t 82), (.t 84)])),
 (oN (.bin 86 .lss (.t 81) (.t 85))),
 (oN (.call (some 87) true 114 [(.t 86)])),
 (oM 14 87)] true) [14] 0)
  .ret)
  (.seq (.post (.region [
 (oN (.bin 89 .eql (.t 15) (.c (I 20)))),
 (oM 88 89)] false) [2, 3, 4, 5, 13, 15, 88] 1)
  (.cond (.t 88) (.seq (.post (.region [
 (oM 90 2),
 (oN (.iaddr 91 1 (some 3) (.t 13) (.c (I 1)))),
 (oL 92 91),
 (oN (.bin 93 .shl (.t 90) (.t 92))),
 (oM 94 3),
 (oN (.bin 95 .or (.t 93) (.t 94))),
 (oM 14 95)] false) [14] 0)
  .ret)
  (.seq (.post (.region [
 (oN (.bin 97 .eql (.t 15) (.c (I 21)))),
 (oM 96 97)] false) [2, 3, 4, 5, 13, 15, 96] 1)
  (.cond (.t 96) (.seq (.post (.region [
 (oM 98 2),
 (oM 99 5),
 (oN (.bin 100 .shr (.t 98) (.t 99))),
 (oM 14 100)] false) [14] 0)
  .ret)
  (.seq (.post (.region [
 (oN (.bin 102 .eql (.t 15) (.c (I 23)))),
 (oM 101 102)] false) [2, 3, 4, 13, 15, 101] 1)
  (.cond (.t 101) (.seq (.post (.region [
 (oM 103 2),
 (oN (.iaddr 104 1 (some 3) (.t 13) (.c (I 0)))),
 (oL 105 104),
 (oN (.call (some 106) true 115 [(.t 103), (.t 105)])),
 (oM 14 106)] false) [14] 0)
  .ret)
  (.seq (.post (.region [
 (oN (.bin 108 .eql (.t 15) (.c (I 19)))),
 (oM 107 108)] false) [2, 3, 4, 15, 107] 0)
  (.cond (.t 107) (.seq (.seq (.post (.region [
 (oM 109 2),
 (oN (.bin 110 .eql (.t 109) (.c (I 1))))] false) [3, 4, 110] 0)
  (.cond (.t 110) (.seq (.post (.region [
 (oM 111 3),
 (oM 14 111)] false) [14] 0)
  .ret)
  .skip))
  (.seq (.post (.region [
 (oM 112 4),
 (oM 14 112)] false) [14] 0)
  .ret))
  (.seq (.post (.region [
 (oN (.bin 114 .eql (.t 15) (.c (I 12)))),
 (oM 113 114)] false) [2, 3, 15, 113] 0)
  (.cond (.t 113) (.seq (.seq (.post (.region [
 (oM 115 3),
 (oN (.bin 116 .eql (.t 115) (.c (I 0))))] false) [2, 3, 116] 0)
  (.cond (.t 116) (.seq (.post (.region [
 (oN (.mv 14 (.c (I (-1)))))] false) [14] 0)
  .ret)
  .skip))
  (.seq (.post (.region [
 (oM 117 2),
 (oM 118 3),
 (oN (.bin 119 .quo (.t 117) (.t 118))),
 (oM 14 119)] false) [14] 0)
  .ret))
  (.seq (.post (.region [
 (oN (.bin 121 .eql (.t 15) (.c (I 13)))),
 (oM 120 121)] false) [2, 3, 120] 0)
  (.cond (.t 120) (.seq (.seq (.post (.region [
 (oM 122 3),
 (oN (.bin 123 .eql (.t 122) (.c (I 0))))] false) [2, 3, 123] 0)
  (.cond (.t 123) (.seq (.post (.region [
 (oM 124 2),
 (oM 14 124)] false) [14] 0)
  .ret)
  .skip))
  (.seq (.post (.region [
 (oM 125 2),
 (oM 126 3),
 (oN (.bin 127 .rem (.t 125) (.t 126))),
 (oM 14 127)] false) [14] 0)
  .ret))
  .skip))))))))))))))))))))))))))))))))))))))))
  (.seq (.post (.region [
 (oM 128 2),
 (oM 14 128)] false) [14] 0)
  .ret)))
def f_word_do : IFunc := { np := 7, res := [.t 14], own := false, trunc := true, body := f_word_do_0 }
/- 114: latchwork/word.yes -/
def f_word_yes_0 : ICode :=
  (.seq (.post (.region [
 (oN (.mv 2 (.c (I 0))))] false) [0] 0)
  (.seq (.seq (.post (.region [
 (oM 3 0)] false) [3] 0)
  (.cond (.t 3) (.seq (.post (.region [
 (oN (.mv 2 (.c (I 1))))] false) [2] 0)
  .ret)
  .skip))
  (.seq (.post (.region [
 (oN (.mv 2 (.c (I 0))))] false) [2] 0)
  .ret)))
def f_word_yes : IFunc := { np := 1, res := [.t 2], own := false, trunc := true, body := f_word_yes_0 }
/- 115: latchwork/word.signed -/
def f_word_signed_0 : ICode :=
  (.seq (.post (.region [
 (oN (.mv 4 (.c (I 0))))] false) [0, 1] 0)
  (.seq (.seq (.post (.region [
 (oM 5 0),
 (oM 6 1),
 (oN (.bin 7 .sub (.t 6) (.c (I 1)))),
 (oN (.bin 8 .shl (.c (I 1)) (.t 7))),
 (oN (.bin 9 .geq (.t 5) (.t 8)))] false) [0, 1, 9] 0)
  (.cond (.t 9) (.seq (.post (.region [
 (oM 10 0),
 (oM 11 1),
 (oN (.bin 12 .shl (.c (I 1)) (.t 11))),
 (oN (.bin 13 .sub (.t 10) (.t 12))),
 (oM 4 13)] false) [4] 0)
  .ret)
  .skip))
  (.seq (.post (.region [
 (oM 14 0),
 (oM 4 14)] false) [4] 0)
  .ret)))
def f_word_signed : IFunc := { np := 2, res := [.t 4], own := false, trunc := true, body := f_word_signed_0 }
end Go.Lw
end

/-! The machine's code, read off: what a piece of code comes to, said without slots. No program in sight. -/
section
namespace Go.Lw
open Go
inductive Ce where
  | any
  | one
  | int (k : IntKind)
  | bool
  | str
  | gp
  | ol (z : Nat)
  deriving Inhabited
inductive Sh where
  | raw
  | ce (c : Ce)
  | agg (l : List Ce)
  | tup (n : Nat)
  deriving Inhabited
/- What the kernel is to undo first (the height of a definition). -/
def hz0 : Nat := 0
def hz1 : Nat := hz0
def hz2 : Nat := hz1
def hz3 : Nat := hz2
def hz4 : Nat := hz3
def hz5 : Nat := hz4
def hz6 : Nat := hz5
def hz7 : Nat := hz6
def hz8 : Nat := hz7
def hz9 : Nat := hz8
def hz10 : Nat := hz9
def hz11 : Nat := hz10
def hz12 : Nat := hz11
def hz13 : Nat := hz12
def hz14 : Nat := hz13
def hz15 : Nat := hz14
def hz16 : Nat := hz15
def hz17 : Nat := hz16
def hz18 : Nat := hz17
def hz19 : Nat := hz18
def hz20 : Nat := hz19
def hz21 : Nat := hz20
def hz22 : Nat := hz21
def hz23 : Nat := hz22
def hz24 : Nat := hz23
def hz25 : Nat := hz24
def hz26 : Nat := hz25
def hz27 : Nat := hz26
def hz28 : Nat := hz27
def hz29 : Nat := hz28
def hz30 : Nat := hz29
def hz31 : Nat := hz30
def hz32 : Nat := hz31
def hz33 : Nat := hz32
def hz34 : Nat := hz33
def hz35 : Nat := hz34
def hz36 : Nat := hz35
def hz37 : Nat := hz36
def hz38 : Nat := hz37
def hz39 : Nat := hz38
def hz40 : Nat := hz39
def hz41 : Nat := hz40
def hz42 : Nat := hz41
def hz43 : Nat := hz42
def hz44 : Nat := hz43
def hz45 : Nat := hz44
def hz46 : Nat := hz45
def hz47 : Nat := hz46
def hz48 : Nat := hz47
def hz49 : Nat := hz48
def hz50 : Nat := hz49
def hz51 : Nat := hz50
def hz52 : Nat := hz51
def hz53 : Nat := hz52
def hz54 : Nat := hz53
def hz55 : Nat := hz54
def hz56 : Nat := hz55
def hz57 : Nat := hz56
def hz58 : Nat := hz57
def hz59 : Nat := hz58
def hz60 : Nat := hz59
def hz61 : Nat := hz60
def hz62 : Nat := hz61
def hz63 : Nat := hz62
def hz64 : Nat := hz63
def hz65 : Nat := hz64
def hz66 : Nat := hz65
def hz67 : Nat := hz66
def hz68 : Nat := hz67
def hz69 : Nat := hz68
def hz70 : Nat := hz69
def hz71 : Nat := hz70
def hz72 : Nat := hz71
def hz73 : Nat := hz72
def hz74 : Nat := hz73
def hz75 : Nat := hz74
def hz76 : Nat := hz75
def hz77 : Nat := hz76
def hz78 : Nat := hz77
def hz79 : Nat := hz78
def hz80 : Nat := hz79
def hz81 : Nat := hz80
def hz82 : Nat := hz81
def hz83 : Nat := hz82
def hz84 : Nat := hz83
def hz85 : Nat := hz84
def hz86 : Nat := hz85
def hz87 : Nat := hz86
def hz88 : Nat := hz87
def hz89 : Nat := hz88
def hz90 : Nat := hz89
def hz91 : Nat := hz90
def hz92 : Nat := hz91
def hz93 : Nat := hz92
def hz94 : Nat := hz93
def hz95 : Nat := hz94
def hz96 : Nat := hz95
def hz97 : Nat := hz96
def hz98 : Nat := hz97
def hz99 : Nat := hz98
def hz100 : Nat := hz99
def hz101 : Nat := hz100
def hz102 : Nat := hz101
def hz103 : Nat := hz102
def hz104 : Nat := hz103
def hz105 : Nat := hz104
def hz106 : Nat := hz105
def hz107 : Nat := hz106
def hz108 : Nat := hz107
def hz109 : Nat := hz108
def hz110 : Nat := hz109
def hz111 : Nat := hz110
def hz112 : Nat := hz111
def hz113 : Nat := hz112
def hz114 : Nat := hz113
def hz115 : Nat := hz114
def hz116 : Nat := hz115
def hz117 : Nat := hz116
def hz118 : Nat := hz117
def hz119 : Nat := hz118
def hz120 : Nat := hz119
def hz121 : Nat := hz120
def hz122 : Nat := hz121
def hz123 : Nat := hz122
def hz124 : Nat := hz123
def hz125 : Nat := hz124
def hz126 : Nat := hz125
def hz127 : Nat := hz126
def hz128 : Nat := hz127
def hz129 : Nat := hz128
def hz130 : Nat := hz129
def hz131 : Nat := hz130
def hz132 : Nat := hz131
def hz133 : Nat := hz132
def hz134 : Nat := hz133
def hz135 : Nat := hz134
def hz136 : Nat := hz135
def hz137 : Nat := hz136
def hz138 : Nat := hz137
def hz139 : Nat := hz138
def hz140 : Nat := hz139
def hz141 : Nat := hz140
def hz142 : Nat := hz141
def hz143 : Nat := hz142
def hz144 : Nat := hz143
def hz145 : Nat := hz144
def hz146 : Nat := hz145
def hz147 : Nat := hz146
def hz148 : Nat := hz147
def hz149 : Nat := hz148
def hz150 : Nat := hz149
def hz151 : Nat := hz150
def hz152 : Nat := hz151
def hz153 : Nat := hz152
def hz154 : Nat := hz153
def hz155 : Nat := hz154
def hz156 : Nat := hz155
def hz157 : Nat := hz156
def hz158 : Nat := hz157
def hz159 : Nat := hz158
def hz160 : Nat := hz159
def hz161 : Nat := hz160
def hz162 : Nat := hz161
def hz163 : Nat := hz162
def hz164 : Nat := hz163
def hz165 : Nat := hz164
def hz166 : Nat := hz165
def hz167 : Nat := hz166
def hz168 : Nat := hz167
def hz169 : Nat := hz168
def hz170 : Nat := hz169
def hz171 : Nat := hz170
def hz172 : Nat := hz171
def hz173 : Nat := hz172
def hz174 : Nat := hz173
def hz175 : Nat := hz174
def hz176 : Nat := hz175
def hz177 : Nat := hz176
def hz178 : Nat := hz177
def hz179 : Nat := hz178
def hz180 : Nat := hz179
def hz181 : Nat := hz180
def hz182 : Nat := hz181
def hz183 : Nat := hz182
def hz184 : Nat := hz183
def hz185 : Nat := hz184
def hz186 : Nat := hz185
def hz187 : Nat := hz186
def hz188 : Nat := hz187
def hz189 : Nat := hz188
def hz190 : Nat := hz189
def hz191 : Nat := hz190
def hz192 : Nat := hz191
def hz193 : Nat := hz192
def hz194 : Nat := hz193
def hz195 : Nat := hz194
def hz196 : Nat := hz195
def hz197 : Nat := hz196
def hz198 : Nat := hz197
def hz199 : Nat := hz198
def hz200 : Nat := hz199
def hz201 : Nat := hz200
def hz202 : Nat := hz201
def hz203 : Nat := hz202
def hz204 : Nat := hz203
def hz205 : Nat := hz204
def hz206 : Nat := hz205
def hz207 : Nat := hz206
def hz208 : Nat := hz207
def hz209 : Nat := hz208
def hz210 : Nat := hz209
def hz211 : Nat := hz210
def hz212 : Nat := hz211
def hz213 : Nat := hz212
def hz214 : Nat := hz213
def hz215 : Nat := hz214
def hz216 : Nat := hz215
def hz217 : Nat := hz216
def hz218 : Nat := hz217
def hz219 : Nat := hz218
def hz220 : Nat := hz219
def hz221 : Nat := hz220
def hz222 : Nat := hz221
def hz223 : Nat := hz222
def hz224 : Nat := hz223
def hz225 : Nat := hz224
def hz226 : Nat := hz225
def hz227 : Nat := hz226
def hz228 : Nat := hz227
def hz229 : Nat := hz228
def hz230 : Nat := hz229
def hz231 : Nat := hz230
def hz232 : Nat := hz231
def hz233 : Nat := hz232
def hz234 : Nat := hz233
def hz235 : Nat := hz234
def hz236 : Nat := hz235
def hz237 : Nat := hz236
def hz238 : Nat := hz237
def hz239 : Nat := hz238
def hz240 : Nat := hz239
section
variable {R : Type} {α : Type}
def ob0 (x : Option α) (f : α → Option R) : Option R := match x with | some a => f a | none => none
def gd0 (b : Bool) (x : Option R) : Option R := match b with | true => x | false => none
def ob (x : Option α) (f : α → Option R) : Option R := (fun _ : Nat =>
  match x with | some a => f a | none => none) hz120
def gd (b : Bool) (x : Option R) : Option R := (fun _ : Nat =>
  match b with | true => x | false => none) hz120
def gb (b : Bool) (x : Option R) : Option R := (fun _ : Nat =>
  match b with | true => x | false => none) hz120
def br (_ : Nat) (b : Bool) (x y : Option R) : Option R := (fun _ : Nat =>
  match b with | true => x | false => y) hz120
def kR (x : Option (IExit × St)) (k : IExit → St → Option R) : Option R := match x with | some (e, s) => k e s | none => none
def nx (e : IExit) (s : St) (k : IExit → St → Option R) (f : St → Option R) : Option R := (fun _ : Nat =>
  match e with | .normal => f s | e => k e s) hz240
def bk (id : Nat) (e : IExit) (s : St) (k : IExit → St → Option R) : Option R := match e with | .exit i => br 0 (Nat.beq i id) (k .normal s) (k (.exit i) s) | e => k e s
def iAnd (k : IntKind) (a b : Int) : Int := k.wrap (BitVec.ofInt k.bits a &&& BitVec.ofInt k.bits b).toNat
def iOr (k : IntKind) (a b : Int) : Int := k.wrap (BitVec.ofInt k.bits a ||| BitVec.ofInt k.bits b).toNat
def iXor (k : IntKind) (a b : Int) : Int := k.wrap (BitVec.ofInt k.bits a ^^^ BitVec.ofInt k.bits b).toNat
def iShl (k : IntKind) (a b : Int) : Int := k.wrap (a * 2 ^ (min b.toNat k.bits))
def iShr (k : IntKind) (a b : Int) : Int := a.fdiv (2 ^ (min b.toNat k.bits))
def iNot (k : IntKind) (n : Int) : Int := k.wrap (BitVec.ofInt k.bits (if k.signed then -1 else k.max) ^^^ BitVec.ofInt k.bits n).toNat
def kIdx : IntKind → Nat
  | .i8 => 0 | .i16 => 1 | .i32 => 2 | .i64 => 3 | .u8 => 4 | .u16 => 5 | .u32 => 6 | .u64 => 7
def kE (k k' : IntKind) (x : Option R) : Option R := gb (Nat.beq (kIdx k) (kIdx k')) x
def Fn : Nat → Type → Type
  | 0, R => R
  | n + 1, R => PV → Fn n R
def curry : (n : Nat) → (List PV → R) → Fn n R
  | 0, g => g []
  | n + 1, g => fun c => curry n fun l => g (c :: l)
def unN : (n : Nat) → List PV → Fn n (Option R) → Option R
  | 0, [], f => f
  | n + 1, c :: l, f => unN n l (f c)
  | _, _, _ => none
def isC (v : PV) (x : Option R) : Option R := (fun _ : Nat =>
  match v with | .agg _ => none | _ => x) hz120
def stK (nl : Nat) (v : PV) (x : Option R) : Option R := (fun _ : Nat =>
  match v with
    | .ptr false b _ => gb (Nat.ble (b + 1) nl) x
    | .bs false b _ _ _ => gb (Nat.ble (b + 1) nl) x
    | _ => x) hz120
def onK (v : PV) (x : Option R) : Option R := (fun _ : Nat =>
  match v with
    | .und | .agg _ | .tup _ | .ptr false _ _ | .bs false _ _ _ _ | .arr _ _ | .junk => none
    | _ => x) hz120
def arL : List PV → Option R → Option R
  | [], x => x
  | c :: l, x => onK c (arL l x)
def arK (v : PV) (x : Option R) : Option R := (fun _ : Nat =>
  match v with
    | .agg cs => arL cs x
    | .und | .tup _ | .ptr false _ _ | .bs false _ _ _ _ | .arr _ _ | .junk => none
    | _ => x) hz120
def allK : List PV → Option R → Option R
  | [], x => x
  | v :: l, x => arK v (allK l x)
def lenB : List PV → Nat → Bool
  | [], 0 => true
  | _ :: l, n + 1 => lenB l n
  | _, _ => false
def geB : List PV → Nat → Bool
  | _, 0 => true
  | _ :: l, n + 1 => geB l n
  | [], _ + 1 => false
def lnK (z : Nat) (v : PV) (x : Option R) : Option R := (fun _ : Nat =>
  match v with
    | .agg cs => gb (lenB cs z) x
    | _ => gb (Nat.beq 1 z) x) hz120
def slK (z : Nat) : List PV → Option R → Option R
  | [], x => x
  | v :: l, x => arK v (lnK z v (slK z l x))
def isPtr : PV → Bool
  | .ptr _ _ _ | .ep _ _ | .fn _ _ => true
  | _ => false
def unI (k : IntKind) (v : PV) (f : Int → Option R) : Option R := (fun _ : Nat =>
  match v with | .int k' n => kE k' k (f n) | _ => none) hz120
def anyI (v : PV) (f : Int → Option R) : Option R := (fun _ : Nat =>
  match v with | .int _ n => f n | _ => none) hz120
def unB (v : PV) (f : Bool → Option R) : Option R := (fun _ : Nat =>
  match v with | .bool b => f b | _ => none) hz120
def unS (v : PV) (f : ByteArray → Option R) : Option R := (fun _ : Nat =>
  match v with | .str b => f b | _ => none) hz120
def unG (v : PV) (f : Nat → Nat → Option R) : Option R := (fun _ : Nat =>
  match v with | .ptr true b off => f b off | _ => none) hz120
def unO (z : Nat) (v : PV) (f : List PV → Option R) : Option R := match v with | .sl true z' xs => gb (Nat.beq z' z) (f xs) | _ => none
def unA (n : Nat) (v : PV) (f : Fn n (Option R)) : Option R := match v with | .agg cs => unN n cs f | _ => none
def unT (n : Nat) (v : PV) (f : Fn n (Option R)) : Option R := match v with | .tup cs => unN n cs f | _ => none
def nilB (v : PV) (f : Bool → Option R) : Option R := match v with | .nilI => f true | .someI => f false | _ => none
def castC (c : Ce) (v : PV) (f : PV → Option R) : Option R :=
  match c with
  | .any => f v
  | .one => isC v (f v)
  | .int k => unI k v fun n => f (.int k n)
  | .bool => unB v fun b => f (.bool b)
  | .str => unS v fun b => f (.str b)
  | .gp => unG v fun b off => f (.ptr true b off)
  | .ol z => unO z v fun xs => f (.sl true z xs)
def castL : List Ce → List PV → (List PV → Option R) → Option R
  | [], [], f => f []
  | c :: cs, v :: vs, f => castC c v fun v => castL cs vs fun vs => f (v :: vs)
  | _, _, _ => none
def cast (h : Sh) (v : PV) (f : PV → Option R) : Option R :=
  match h with
  | .raw => f v
  | .ce c => castC c v f
  | .agg l => unA l.length v (curry l.length fun cs => castL l cs fun cs => f (.agg cs))
  | .tup n => unT n v (curry n fun vs => f (.tup vs))
inductive Tr where
  | nil
  | node (n : Nat) (h : Sh) (l r : Tr)
def shAt : Tr → Nat → Sh
  | .nil, _ => .raw
  | .node n h l r, t => match Nat.beq n t with
    | true => h
    | false => match Nat.ble n t with
      | true => shAt r t
      | false => shAt l t
def shX (an : Tr) : IX → Sh
  | .t n => shAt an n
  | .c _ => .raw
  | .f _ => .raw
def getX : List (Nat × PV) → Nat → Option PV
  | [], _ => none
  | (a, v) :: l, t => match Nat.beq a t with
    | true => some v
    | false => getX l t
def putK : List (Nat × PV) → Nat → PV → (List (Nat × PV) → Option R) → Option R
  | [], t, v, k => (fun _ : Nat => k [(t, v)]) hz240
  | (a, u) :: l, t, v, k => match Nat.beq a t with
    | true => k ((t, v) :: l)
    | false => putK l t v fun l => k ((a, u) :: l)
def snocK : List α → α → (List α → Option R) → Option R
  | [], v, k => (fun _ : Nat => k [v]) hz240
  | u :: l, v, k => snocK l v fun l => k (u :: l)
def setK : List α → Nat → α → (List α → Option R) → Option R
  | [], _, _, k => (fun _ : Nat => k []) hz240
  | _ :: l, 0, v, k => k (v :: l)
  | u :: l, i + 1, v, k => setK l i v fun l => k (u :: l)
def nthX : List α → Nat → Option α
  | [], _ => none
  | u :: _, 0 => some u
  | _ :: l, i + 1 => nthX l i
def takeK : Nat → List α → (List α → Option R) → Option R
  | 0, _, k => (fun _ : Nat => k []) hz240
  | _, [], k => k []
  | n + 1, u :: l, k => takeK n l fun l => k (u :: l)
def evX (e : List (Nat × PV)) : IX → Option PV
  | .t n => match getX e n with
    | some v => some (degr v)
    | none => none
  | .c v => some (degr v)
  | .f id => some (.fn id [])
def evK (e : List (Nat × PV)) : IX → Option PV
  | .t n => match getX e n with
    | some v => some (degr v)
    | none => none
  | .c v => some v
  | .f id => some (.fn id [])
def evXs (e : List (Nat × PV)) : List IX → (List PV → Option R) → Option R
  | [], k => (fun _ : Nat => k []) hz240
  | x :: l, k => match evX e x with
    | some v => evXs e l fun vs => k (v :: vs)
    | none => none
def tkX (e : List (Nat × PV)) (x : IX) (k : PV → List (Nat × PV) → Option R) : Option R :=
  match x with
  | .t n => match getX e n with
    | some v => putK e n (degr v) fun e => k v e
    | none => none
  | .c v => k v e
  | .f id => k (.fn id []) e
def putS (s : St) (d : Nat) (v : PV) (k : St → Option R) : Option R := putK s.env d v fun e => k ⟨e, s.lh, s.gh⟩
def cellsX (h : Sh) (v : PV) (f : List PV → Option R) : Option R :=
  match h with
  | .ce _ => isC v (f [v])
  | _ => f v.cells
def setX (an : Tr) (s : St) (d : Nat) (v : PV) (k : St → Option R) : Option R := cast (shAt an d) v fun w => putS s d w k
def ghCells (gh : List GObj) (b : Nat) : Option (List PV) := match gh[b]? with | some (.cells cs) => some cs | _ => none
def ghMap (gh : List GObj) (b : Nat) : Option (List (PV × PV)) := match gh[b]? with | some (.map es) => some es | _ => none
def ldX (lh : List (List PV)) (gh : List GObj) (agg : Bool) (k : Nat) (p : PV) (f : PV → Option R) : Option R :=
  (fun _ : Nat =>
  match p with
  | .ptr false b off => match nthX lh b with
    | some cs => (match grab agg k off cs with | some v => f (degr v) | none => none)
    | none => none
  | .ptr true b off => ob0 (ghCells gh b) fun cs => ob0 (grab agg k off cs) fun v => f (degr v)
  | .ep e off => ob0 (grab agg k off e.cells) f
  | _ => none) hz40
def stOk (k off : Nat) (cs old : List PV) : Bool := lenB cs k && geB old (off + k)
def stoX (s : St) (p : PV) (kk : Nat) (cs : List PV) (k : St → Option R) : Option R :=
  match p with
  | .ptr false b off => match nthX s.lh b with
    | some old => gb (stOk kk off cs old) (setK s.lh b (spliceAt old off cs) fun lh => k ⟨s.env, lh, s.gh⟩)
    | none => none
  | .ptr true b off => ob (ghCells s.gh b) fun old => gb (stOk kk off cs old) (k ⟨s.env, s.lh, s.gh.set b (.cells (spliceAt old off cs))⟩)
  | _ => none
def psX (an : Tr) (e : List (Nat × PV)) : List (Nat × Nat × IX) → List PV → (List PV → Option R) → Option R
  | [], z, f => f z
  | (off, k, x) :: l, z, f => match evX e x with
    | some v => arK v (cellsX (shX an x) v fun cs => gb (stOk k off cs z) (psX an e l (spliceAt z off cs) f))
    | none => none
def psT (an : Tr) : List (Nat × PV) → List (Nat × Nat × IX) → List PV → (List (Nat × PV) → List PV → Option R) → Option R
  | e, [], z, f => f e z
  | e, (off, k, x) :: l, z, f => tkX e x fun v e1 => arK v (cellsX (shX an x) v fun cs => gb (stOk k off cs z) (psT an e1 l (spliceAt z off cs) f))
def mkOk (n : Int) (bytes z : Nat) (zero : PV) : Bool := decide (0 ≤ n ∧ n * bytes ≤ maxBytes ∧ zero.cells.length = z ∧ argOk zero = true)
def boX (e : List (Nat × PV)) (x : Option IX) (f : Option Int → Option R) : Option R :=
  match x with
  | none => f none
  | some x => match evX e x with
    | some v => anyI v fun n => f (some n)
    | none => none
def bd (d : Nat) (x : Option Int) (f : Nat → Option R) : Option R := match x with | none => f d | some i => gd0 (decide (0 ≤ i)) (f i.toNat)
def slX (z : Nat) (v : PV) (lo hi : Option Int) (f : PV → Option R) : Option R :=
  match v with
  | .sl _ z' xs => bd xs.length hi fun h => bd 0 lo fun l => gd0 (decide (l ≤ h ∧ h ≤ xs.length ∧ z = z')) (f (.sl false z ((xs.take h).drop l)))
  | .bs g b off n z' => bd n hi fun h => bd 0 lo fun l => gd0 (decide (l ≤ h ∧ h ≤ n ∧ z = z')) (f (.bs g b (off + l * z) (h - l) z))
  | .stk b gen n => match lo with
    | none => bd n hi fun h => gd0 (decide (h ≤ n ∧ z = 1)) (f (.stk b gen h))
    | some lo => bd n hi fun h => bd 0 (some lo) fun l => gd0 (decide (l ≤ h ∧ h ≤ n ∧ z = 1)) (f (.sub b gen l (h - l)))
  | .sub b gen off n => bd n hi fun h => bd 0 lo fun l => gd0 (decide (l ≤ h ∧ h ≤ n ∧ z = 1)) (f (.sub b gen (off + l) (h - l)))
  | _ => none
def ssX (v : PV) (lo hi : Option Int) (f : ByteArray → Option R) : Option R :=
  match v with
  | .str b => bd b.size hi fun h => bd 0 lo fun l => gd (decide (l ≤ h ∧ h ≤ b.size)) (f (b.extract l h))
  | _ => none
def faX (p : PV) (off : Nat) (f : PV → Option R) : Option R :=
  (fun _ : Nat =>
  match p with
  | .ptr g b o => f (.ptr g b (o + off))
  | .ep e o => f (.ep e (o + off))
  | _ => none) hz60
def fdX (v : PV) (agg : Bool) (k off : Nat) (f : PV → Option R) : Option R :=
  match v with
  | .agg cs => ob (grab agg k off cs) f
  | _ => none
def idX (z : Nat) (arr : Option Nat) (v : PV) (i : Int) (f : PV → Option R) : Option R :=
  match arr, v with
  | none, .sl _ z' xs => gd0 (decide (0 ≤ i ∧ z = z')) (ob0 xs[i.toNat]? fun e => f (.ep e 0))
  | none, .bs g b off n z' => gd0 (decide (0 ≤ i ∧ i < n ∧ z = z')) (f (.ptr g b (off + i.toNat * z)))
  | some m, .ptr g b o => gd0 (decide (0 ≤ i ∧ i < m)) (f (.ptr g b (o + i.toNat * z)))
  | some m, .ep e o => gd0 (decide (0 ≤ i ∧ i < m)) (f (.ep e (o + i.toNat * z)))
  | none, .stk b gen n => gd0 (decide (0 ≤ i ∧ i < n ∧ z = 1)) (f (.pstk b gen i.toNat))
  | none, .sub b gen off n => gd0 (decide (0 ≤ i ∧ i < n ∧ z = 1)) (f (.pstk b gen (off + i.toNat)))
  | _, _ => none
def ixX (v : PV) (z arr : Nat) (agg : Bool) (i : Int) (f : PV → Option R) : Option R :=
  match v with
  | .agg cs => gd (decide (0 ≤ i ∧ i < arr)) (ob (grab agg z (i.toNat * z) cs) f)
  | _ => none
def isX (v : PV) (i : Int) (f : Int → Option R) : Option R :=
  match v with
  | .str b => gd (decide (0 ≤ i)) (ob b[i.toNat]? fun u => f u.toNat)
  | _ => none
def lkX (gh : List GObj) (kn : Nat) (m k : PV) (f : Option PV → Option R) : Option R :=
  match m with
  | .mp b => ob (ghMap gh b) fun es => gd (isKey kn k) (ob (mfind kn es k) f)
  | _ => none
def muX (gh : List GObj) (kn : Nat) (m k v : PV) (f : List GObj → Option R) : Option R :=
  match m with
  | .mp b => ob (ghMap gh b) fun es => gd (argOk k && (argOk v && isKey kn k)) (ob (mset kn es k v) fun es' => f (gh.set b (.map es')))
  | _ => none
def lenS (v : PV) (f : Nat → Option R) : Option R := match v with | .sl _ _ xs => f xs.length | .bs _ _ _ n _ => f n | .stk _ _ n => f n | .sub _ _ _ n => f n | .nils => f 0 | _ => none
def lenM (gh : List GObj) (v : PV) (f : Nat → Option R) : Option R := match v with | .mp b => ob (ghMap gh b) fun es => f es.length | _ => none
def apX (z bytes : Nat) (v w : PV) (f : List PV → Option R) : Option R :=
  match w, v with
  | .sl _ z2 ys, .sl o z1 xs => gd (decide (o = true ∧ z1 = z ∧ z2 = z ∧ (xs.length + ys.length) * bytes ≤ maxBytes)) (f (xs ++ ys))
  | _, _ => none
def ghStk (gh : List GObj) (b : Nat) : Option (Nat × List PV) := match gh[b]? with | some (.stk g xs) => some (g, xs) | _ => none
def akX (gh : List GObj) (bytes : Nat) (v w : PV) (f : List GObj → PV → Option R) : Option R :=
  ob (elsOf gh w) fun ys => match v with
    | .stk b gen n => ob (ghStk gh b) fun p => gd (decide (p.1 = gen ∧ n ≤ p.2.length ∧ (n + ys.length) * bytes ≤ maxBytes ∧ apart b w = true ∧ ys.all isFlat = true)) (f (gh.set b (.stk (p.1 + 1) (p.2.take n ++ ys))) (.stk b (p.1 + 1) (n + ys.length)))
    | _ => none
def anX (gh : List GObj) (bytes : Nat) (v w : PV) (f : List GObj → PV → Option R) : Option R :=
  match v with
  | .nils => ob (elsOf gh w) fun ys => gd (decide (ys ≠ [] ∧ ys.length * bytes ≤ maxBytes ∧ ys.all isFlat = true)) (f (gh ++ [.stk 0 ys]) (.stk gh.length 0 ys.length))
  | v => akX gh bytes v w f
def lkK (gh : List GObj) (v : PV) (f : PV → Option R) : Option R := match v with | .pstk b gen i => ob (stkGet gh b gen i) f | _ => none
def exX (v : PV) (i : Nat) (f : PV → Option R) : Option R := match v with | .tup vs => ob vs[i]? f | _ => none
noncomputable def callR (gh : List GObj) (q : Bool) (x : Option (PV × List GObj)) (f : PV → List GObj → Option R) : Option R :=
  open Classical in
  match x with | some (r, gh') => (match q with | true => (if gh' = gh then f r gh else none) | false => f r gh') | none => none
def callN (vs : List PV) (x : Option (PV × List GObj)) (f : PV → Option R) : Option R :=
  gd (noGs vs) (match x with | some (r, []) => gd r.noG (f r) | _ => none)
def elK (gh : List GObj) (vs : List PV) (k : List PV → Option R) : Option R := match elPs gh vs with | some us => k us | none => none
def callE (us : List PV) (x : Option (PV × List GObj)) (f : PV → Option R) : Option R :=
  gd (noGs us) (match x with | some (r, []) => gd (isFlat r) (f r) | _ => none)
def fnX (v : PV) (f : Nat → List PV → Option R) : Option R := match v with | .fn i cs => f i cs | _ => none
def newX (s : St) (d : Nat) (g : Bool) (cs : List PV) (k : St → Option R) : Option R :=
  match g with
  | true => putK s.env d (.ptr true s.gh.length 0) fun e => k ⟨e, s.lh, s.gh ++ [.cells cs]⟩
  | false => putK s.env d (.ptr false s.lh.length 0) fun e => snocK s.lh cs fun lh => k ⟨e, lh, s.gh⟩
def binX (op : BinOp) (a b : PV) (f : PV → Option R) : Option R :=
  match a, b with
  | .int k x, .int k' y => match op with
    | .add => kE k k' (f (.int k (k.wrap (x + y))))
    | .sub => kE k k' (f (.int k (k.wrap (x - y))))
    | .mul => kE k k' (f (.int k (k.wrap (x * y))))
    | .quo => kE k k' (gd (decide (y ≠ 0)) (f (.int k (k.wrap (x.tdiv y)))))
    | .rem => kE k k' (gd (decide (y ≠ 0)) (f (.int k (x.tmod y))))
    | .and => kE k k' (f (.int k (iAnd k x y)))
    | .or => kE k k' (f (.int k (iOr k x y)))
    | .xor => kE k k' (f (.int k (iXor k x y)))
    | .eql => kE k k' (f (.bool (x == y)))
    | .neq => kE k k' (f (.bool (x != y)))
    | .lss => kE k k' (f (.bool (decide (x < y))))
    | .leq => kE k k' (f (.bool (decide (x ≤ y))))
    | .gtr => kE k k' (f (.bool (decide (y < x))))
    | .geq => kE k k' (f (.bool (decide (y ≤ x))))
    | .shl => gd (decide (0 ≤ y)) (f (.int k (iShl k x y)))
    | .shr => gd (decide (0 ≤ y)) (f (.int k (iShr k x y)))
    | op => ob (binPV op (.int k x) (.int k' y)) f
  | .str x, .str y => match op with
    | .eql => f (.bool (x.toList == y.toList))
    | .neq => f (.bool (!(x.toList == y.toList)))
    | op => ob (binPV op (.str x) (.str y)) f
  | _, _ => none
def unX (op : UnOp) (a : PV) (f : PV → Option R) : Option R :=
  match op, a with
  | .neg, .int k n => f (.int k (k.wrap (0 - n)))
  | .xor, .int k n => f (.int k (iNot k n))
  | .not, .bool b => f (.bool (!b))
  | _, _ => none
def maxX (vs : List PV) (f : PV → Option R) : Option R :=
  match vs with
  | [.int k a, .int k' b] => kE k k' (f (.int k (if b > a then b else a)))
  | _ => none
def setO (an : Tr) (s : St) (d : Option Nat) (v : PV) (k : St → Option R) : Option R :=
  match d with
  | some d => setX an s d v k
  | none => k s
noncomputable def oX_mv (cf : CallF) (an : Tr) (s : St) (k : St → Option R) (d : Nat) (x : IX) : Option R := match evK s.env x with
    | some v => setX an s d v k
    | none => none
noncomputable def oX_tk (cf : CallF) (an : Tr) (s : St) (k : St → Option R) (d : Nat) (n : Nat) : Option R := match getX s.env n with
    | some v => putK s.env n (degr v) fun e => putK e d v fun e => k ⟨e, s.lh, s.gh⟩
    | none => none
noncomputable def oX_pick (cf : CallF) (an : Tr) (s : St) (k : St → Option R) (d : Nat) (c : IX) (x : IX) (y : IX) : Option R := match evX s.env c, evX s.env x, evX s.env y with
    | some c, some v, some w => unB c fun b => br d b (setX an s d v k) (setX an s d w k)
    | _, _, _ => none
noncomputable def oX_box_true (cf : CallF) (an : Tr) (s : St) (k : St → Option R) (d : Nat) (g : Bool) (x : IX) : Option R := tkX s.env x fun v e => arK v (cellsX (shX an x) v fun cs => newX ⟨e, s.lh, s.gh⟩ d g cs k)
noncomputable def oX_box_false (cf : CallF) (an : Tr) (s : St) (k : St → Option R) (d : Nat) (g : Bool) (x : IX) : Option R := match evX s.env x with
    | some v => arK v (cellsX (shX an x) v fun cs => newX s d g cs k)
    | none => none
noncomputable def oX_alloc (cf : CallF) (an : Tr) (s : St) (k : St → Option R) (d : Nat) (g : Bool) (z : PV) : Option R := arK z (newX s d g z.cells k)
noncomputable def oX_build (cf : CallF) (an : Tr) (s : St) (k : St → Option R) (d : Nat) (z : List PV) (ps : List (Nat × Nat × IX)) : Option R := arL z (psX an s.env ps z fun cs => putS s d (.agg cs) k)
noncomputable def oX_buildT (cf : CallF) (an : Tr) (s : St) (k : St → Option R) (d : Nat) (z : List PV) (ps : List (Nat × Nat × IX)) : Option R := arL z (psT an s.env ps z fun e cs => putK e d (.agg cs) fun e => k ⟨e, s.lh, s.gh⟩)
noncomputable def oX_buildSl (cf : CallF) (an : Tr) (s : St) (k : St → Option R) (d : Nat) (z : Nat) (els : List IX) : Option R := evXs s.env els fun vs => slK z vs (putS s d (.sl true z vs) k)
noncomputable def oX_load (cf : CallF) (an : Tr) (s : St) (k : St → Option R) (d : Nat) (agg : Bool) (kk : Nat) (a : IX) : Option R := match evX s.env a with
    | some p => ldX s.lh s.gh agg kk p fun v => setX an s d v k
    | none => none
noncomputable def oX_loadT (cf : CallF) (an : Tr) (s : St) (k : St → Option R) (d : Nat) (a : IX) : Option R := match evX s.env a with
    | some (.ptr false b off) => match nthX s.lh b with
      | some cs => ob cs[off]? fun v => setK s.lh b (spliceAt cs off [degr1 v]) fun lh => putK s.env d v fun e => k ⟨e, lh, s.gh⟩
      | none => none
    | some (.ptr true b off) => ob (ghCells s.gh b) fun cs => ob cs[off]? fun v => putK s.env d v fun e => k ⟨e, s.lh, s.gh.set b (.cells (spliceAt cs off [degr1 v]))⟩
    | _ => none
noncomputable def oX_loadL (cf : CallF) (an : Tr) (s : St) (k : St → Option R) (d : Nat) (a : IX) : Option R := match evX s.env a with
    | some (.ptr false b off) => match nthX s.lh b with
      | some cs => ob cs[off]? fun v => setK s.lh b (spliceAt cs off [degr1 v]) fun lh => putK s.env d v fun e => k ⟨e, lh, s.gh⟩
      | none => none
    | _ => none
noncomputable def oX_store_true (cf : CallF) (an : Tr) (s : St) (k : St → Option R) (kk : Nat) (a : IX) (x : IX) : Option R := match evX s.env a with
    | some p => tkX s.env x fun v e => arK v (cellsX (shX an x) v fun cs => stoX ⟨e, s.lh, s.gh⟩ p kk cs k)
    | none => none
noncomputable def oX_store_false (cf : CallF) (an : Tr) (s : St) (k : St → Option R) (kk : Nat) (a : IX) (x : IX) : Option R := match evX s.env a, evX s.env x with
    | some p, some v => arK v (cellsX (shX an x) v fun cs => stoX s p kk cs k)
    | _, _ => none
noncomputable def oX_nilc (cf : CallF) (an : Tr) (s : St) (k : St → Option R) (d : Nat) (x : IX) : Option R := match evX s.env x with
    | some p => gd (isPtr p) (setX an s d p k)
    | none => none
noncomputable def oX_bin (cf : CallF) (an : Tr) (s : St) (k : St → Option R) (d : Nat) (op : BinOp) (x : IX) (y : IX) : Option R := match evX s.env x, evX s.env y with
    | some a, some b => binX op a b fun v => setX an s d v k
    | _, _ => none
noncomputable def oX_eqa (cf : CallF) (an : Tr) (s : St) (k : St → Option R) (d : Nat) (neg : Bool) (ks : List Bool) (x : IX) (y : IX) : Option R := match evX s.env x, evX s.env y with
    | some (.agg a), some (.agg b) => ob (flatEq ks a b) fun r => putS s d (.bool (match neg with | true => !r | false => r)) k
    | _, _ => none
noncomputable def oX_eqb (cf : CallF) (an : Tr) (s : St) (k : St → Option R) (d : Nat) (neg : Bool) (x : IX) (y : IX) : Option R := match evX s.env x, evX s.env y with
    | some a, some b => unB a fun a => unB b fun b => putS s d (.bool (match neg with | true => a != b | false => a == b)) k
    | _, _ => none
noncomputable def oX_eqn (cf : CallF) (an : Tr) (s : St) (k : St → Option R) (d : Nat) (neg : Bool) (x : IX) : Option R := match evX s.env x with
    | some v => nilB v fun b => putS s d (.bool (match neg with | true => !b | false => b)) k
    | none => none
noncomputable def oX_un (cf : CallF) (an : Tr) (s : St) (k : St → Option R) (d : Nat) (op : UnOp) (x : IX) : Option R := match evX s.env x with
    | some a => unX op a fun v => setX an s d v k
    | none => none
noncomputable def oX_conv (cf : CallF) (an : Tr) (s : St) (k : St → Option R) (d : Nat) (kd : IntKind) (x : IX) : Option R := match evX s.env x with
    | some v => anyI v fun n => putS s d (.int kd (kd.wrap n)) k
    | none => none
noncomputable def oX_mkfn (cf : CallF) (an : Tr) (s : St) (k : St → Option R) (d : Nat) (f : Nat) (caps : List IX) : Option R := evXs s.env caps fun vs => allK vs (putS s d (.fn f vs) k)
noncomputable def oX_mkmap (cf : CallF) (an : Tr) (s : St) (k : St → Option R) (d : Nat) : Option R := putK s.env d (.mp s.gh.length) fun e => k ⟨e, s.lh, s.gh ++ [.map []]⟩
noncomputable def oX_mksl (cf : CallF) (an : Tr) (s : St) (k : St → Option R) (d : Nat) (g : Bool) (z : Nat) (bytes : Nat) (zero : PV) (l : IX) : Option R := match evX s.env l with
    | some v => anyI v fun n => gd (mkOk n bytes z zero) (match g with
      | true => putK s.env d (.bs true s.gh.length 0 n.toNat z) fun e => k ⟨e, s.lh, s.gh ++ [.cells ((List.replicate n.toNat zero).flatMap PV.cells)]⟩
      | false => gd (isFlat zero) (putK s.env d (.sl true z (List.replicate n.toNat zero)) fun e => k ⟨e, s.lh, s.gh⟩))
    | none => none
noncomputable def oX_slice (cf : CallF) (an : Tr) (s : St) (k : St → Option R) (d : Nat) (z : Nat) (x : IX) (lo : Option IX) (hi : Option IX) : Option R := match evX s.env x with
    | some v => boX s.env lo fun lo => boX s.env hi fun hi => slX z v lo hi fun w => setX an s d w k
    | none => none
noncomputable def oX_sliceS (cf : CallF) (an : Tr) (s : St) (k : St → Option R) (d : Nat) (x : IX) (lo : Option IX) (hi : Option IX) : Option R := match evX s.env x with
    | some v => boX s.env lo fun lo => boX s.env hi fun hi => ssX v lo hi fun w => putS s d (.str w) k
    | none => none
noncomputable def oX_faddr (cf : CallF) (an : Tr) (s : St) (k : St → Option R) (d : Nat) (x : IX) (off : Nat) : Option R := match evX s.env x with
    | some p => faX p off fun p => setX an s d p k
    | none => none
noncomputable def oX_field (cf : CallF) (an : Tr) (s : St) (k : St → Option R) (d : Nat) (agg : Bool) (kk : Nat) (off : Nat) (x : IX) : Option R := match evX s.env x with
    | some v => fdX v agg kk off fun v => setX an s d v k
    | none => none
noncomputable def oX_iaddr (cf : CallF) (an : Tr) (s : St) (k : St → Option R) (d : Nat) (z : Nat) (arr : Option Nat) (x : IX) (i : IX) : Option R := match evX s.env i, evX s.env x with
    | some i, some v => anyI i fun i => idX z arr v i fun p => setX an s d p k
    | _, _ => none
noncomputable def oX_index (cf : CallF) (an : Tr) (s : St) (k : St → Option R) (d : Nat) (z : Nat) (arr : Nat) (agg : Bool) (x : IX) (i : IX) : Option R := match evX s.env i, evX s.env x with
    | some i, some v => anyI i fun i => ixX v z arr agg i fun v => setX an s d v k
    | _, _ => none
noncomputable def oX_indexS (cf : CallF) (an : Tr) (s : St) (k : St → Option R) (d : Nat) (x : IX) (i : IX) : Option R := match evX s.env i, evX s.env x with
    | some i, some v => anyI i fun i => isX v i fun u => putS s d (.int .u8 u) k
    | _, _ => none
noncomputable def oX_lookup (cf : CallF) (an : Tr) (s : St) (k : St → Option R) (d : Nat) (kn : Nat) (m : IX) (kx : IX) (ok : Bool) (zero : PV) : Option R := match evX s.env m, evX s.env kx with
    | some m, some kv => lkX s.gh kn m kv fun r => setX an s d (match ok with | true => .tup [r.getD (degr zero), .bool r.isSome] | false => r.getD (degr zero)) k
    | _, _ => none
noncomputable def oX_mupd (cf : CallF) (an : Tr) (s : St) (k : St → Option R) (kn : Nat) (m : IX) (kx : IX) (x : IX) : Option R := match evX s.env m, evX s.env kx, evX s.env x with
    | some m, some kv, some v => muX s.gh kn m kv v fun gh => k ⟨s.env, s.lh, gh⟩
    | _, _, _ => none
noncomputable def oX_call (cf : CallF) (an : Tr) (s : St) (k : St → Option R) (d : Option Nat) (q : Bool) (f : Nat) (xs : List IX) : Option R := evXs s.env xs fun vs => allK vs (callR s.gh q (cf f vs s.gh) fun r gh => setO an ⟨s.env, s.lh, gh⟩ d r k)
noncomputable def oX_callv (cf : CallF) (an : Tr) (s : St) (k : St → Option R) (d : Option Nat) (q : Bool) (fv : IX) (xs : List IX) : Option R := match evX s.env fv with
    | some fv => evXs s.env xs fun vs => fnX fv fun f caps => allK vs (allK caps (callR s.gh q (cf f (vs ++ caps) s.gh) fun r gh => setO an ⟨s.env, s.lh, gh⟩ d r k))
    | none => none
noncomputable def oX_callF (cf : CallF) (an : Tr) (s : St) (k : St → Option R) (d : Option Nat) (f : Nat) (xs : List IX) : Option R := evXs s.env xs fun vs => allK vs (callN vs (cf f vs []) fun r => setO an s d r k)
noncomputable def oX_callE (cf : CallF) (an : Tr) (s : St) (k : St → Option R) (d : Option Nat) (fv : IX) (xs : List IX) : Option R := match evX s.env fv with
    | some fv => evXs s.env xs fun vs => fnX fv fun f caps => allK vs (allK caps (elK s.gh (vs ++ caps) fun us => allK us (callE us (cf f us []) fun r => setO an s d r k)))
    | none => none
noncomputable def oX_loadN (cf : CallF) (an : Tr) (s : St) (k : St → Option R) (d : Nat) (agg : Bool) (kk : Nat) (a : IX) (n : Nat) : Option R := match evX s.env a, getX s.env n with
    | some (.ptr g b off), some (.ptr g' b' _) => gd (decide (g ≠ g' ∨ b ≠ b')) (ldX s.lh s.gh agg kk (.ptr g b off) fun v => setX an s d v k)
    | _, _ => none
noncomputable def oX_len_0 (cf : CallF) (an : Tr) (s : St) (k : St → Option R) (d : Nat) (x : IX) : Option R := match evX s.env x with
    | some v => lenS v fun n => putS s d (.int .i64 n) k
    | none => none
noncomputable def oX_len_1 (cf : CallF) (an : Tr) (s : St) (k : St → Option R) (d : Nat) (x : IX) : Option R := match evX s.env x with
    | some v => unS v fun b => putS s d (.int .i64 b.size) k
    | none => none
noncomputable def oX_len_2 (cf : CallF) (an : Tr) (s : St) (k : St → Option R) (d : Nat) (x : IX) : Option R := match evX s.env x with
    | some v => lenM s.gh v fun n => putS s d (.int .i64 n) k
    | none => none
noncomputable def oX_append (cf : CallF) (an : Tr) (s : St) (k : St → Option R) (d : Nat) (z : Nat) (bytes : Nat) (sx : IX) (x : IX) : Option R := match evX s.env x with
    | some w => tkX s.env sx fun v e => apX z bytes v w fun ys => putK e d (.sl true z ys) fun e => k ⟨e, s.lh, s.gh⟩
    | none => none
noncomputable def oX_appendK (cf : CallF) (an : Tr) (s : St) (k : St → Option R) (d : Nat) (bytes : Nat) (sx : IX) (x : IX) : Option R := match evX s.env x, evX s.env sx with
    | some w, some v => akX s.gh bytes v w fun gh u => setX an ⟨s.env, s.lh, gh⟩ d u k
    | _, _ => none
noncomputable def oX_appendN (cf : CallF) (an : Tr) (s : St) (k : St → Option R) (d : Nat) (bytes : Nat) (sx : IX) (x : IX) : Option R := match evX s.env x, evX s.env sx with
    | some w, some v => anX s.gh bytes v w fun gh u => setX an ⟨s.env, s.lh, gh⟩ d u k
    | _, _ => none
noncomputable def oX_loadK (cf : CallF) (an : Tr) (s : St) (k : St → Option R) (d : Nat) (a : IX) : Option R := match evX s.env a with
    | some v => lkK s.gh v fun u => setX an s d u k
    | none => none
noncomputable def oX_loadH (cf : CallF) (an : Tr) (s : St) (k : St → Option R) (d : Nat) (a : IX) : Option R := match evX s.env a with
    | some (.ptr false b off) => (match nthX s.lh b with | some cs => ob cs[off]? fun v => setX an s d (degr v) k | none => none)
    | _ => none
noncomputable def oX_buildSlK (cf : CallF) (an : Tr) (s : St) (k : St → Option R) (d : Nat) (els : List IX) : Option R := evXs s.env els fun vs => gd (vs.all isFlat) (putK s.env d (.stk s.gh.length 0 vs.length) fun e => k ⟨e, s.lh, s.gh ++ [.stk 0 vs]⟩)
noncomputable def oX_maxi (cf : CallF) (an : Tr) (s : St) (k : St → Option R) (d : Nat) (xs : List IX) : Option R := evXs s.env xs fun vs => maxX vs fun v => setX an s d v k
noncomputable def oX_extract (cf : CallF) (an : Tr) (s : St) (k : St → Option R) (d : Nat) (x : IX) (i : Nat) : Option R := match evX s.env x with
    | some v => exX v i fun v => setX an s d v k
    | none => none
def skK (gh : List GObj) (v w : PV) (f : List GObj → Option R) : Option R :=
  match v with
  | .pstk b gen i => ob (ghStk gh b) fun p => gd (decide (p.1 = gen ∧ i < p.2.length ∧ isFlat w = true)) (f (gh.set b (.stk p.1 (p.2.set i w))))
  | _ => none
def ckK (gh : List GObj) (v : PV) (f : List GObj → Option R) : Option R :=
  match v with
  | .sub b gen off n => ob (ghStk gh b) fun p => gd (decide (p.1 = gen ∧ off + n ≤ p.2.length)) (f (gh.set b (.stk p.1 (p.2.take off ++ List.replicate n (.int .i64 0) ++ p.2.drop (off + n)))))
  | _ => none
def aeX (gh : List GObj) (bytes : Nat) (v w : PV) (f : List PV → Option R) : Option R :=
  match v with
  | .sl o z1 xs => ob (elsOf gh w) fun ys => gd (decide (o = true ∧ z1 = 1 ∧ ys.all isFlat = true ∧ (xs.length + ys.length) * bytes ≤ maxBytes)) (f (xs ++ ys))
  | _ => none
noncomputable def kbX (gh gh' : List GObj) (v : PV) (x : Option R) : Option R :=
  open Classical in
  match v with
  | .ptr true b _ => if b < gh.length ∧ gh'[b]? = gh[b]? then x else none
  | .pstk b _ _ => if b < gh.length ∧ gh'[b]? = gh[b]? then x else none
  | .stk b _ _ => if b < gh.length ∧ gh'[b]? = gh[b]? then x else none
  | _ => none
noncomputable def kpX (e : List (Nat × PV)) (gh gh' : List GObj) : List Nat → Option R → Option R
  | [], x => x
  | n :: l, x => match getX e n with
    | some v => kbX gh gh' v (kpX e gh gh' l x)
    | none => none
def lbX (gh : List GObj) (agg : Bool) (k : Nat) (p q : PV) (f : PV → Option R) : Option R :=
  match p, q with
  | .ptr true b off, .ptr true b' _ => gd (decide (b = b')) (ob (ghCells gh b) fun cs => ob (grab agg k off cs) fun v => f (degr v))
  | _, _ => none
def lkbX (gh : List GObj) (p q : PV) (f : PV → Option R) : Option R :=
  match p, q with
  | .pstk b gen i, .stk b' _ _ => gd (decide (b = b')) (ob (stkGet gh b gen i) f)
  | _, _ => none
def ltbX (gh : List GObj) (p q : PV) (o2 : Nat) (f : PV → List GObj → Option R) : Option R :=
  match p, q with
  | .ptr true b off, .ptr true b' o => gd (decide (b = b' ∧ off = o + o2)) (ob (ghCells gh b) fun cs => ob cs[off]? fun v => f v (gh.set b (.cells (spliceAt cs off [degr1 v]))))
  | _, _ => none
def rtP (c : List GObj → Option (PV × List GObj)) (gh : List GObj) (b off : Nat) : Prop :=
  ∃ g1 g2 r1 r2, setRt gh b off true = some g1 ∧ setRt gh b off false = some g2 ∧ c g1 = some r1 ∧ c g2 = some r2 ∧ r1.1 = r2.1 ∧ r1.2[b]? = g1[b]? ∧ r2.2[b]? = g2[b]? ∧ setRt r1.2 b off false = some r2.2 ∧ setRt r2.2 b off true = some r1.2
noncomputable def rtK (c : List GObj → Option (PV × List GObj)) (gh : List GObj) (v : PV) (off : Nat) (x : Option R) : Option R :=
  open Classical in
  match v with
  | .ptr true b o => if rtP c gh b (o + off) then x else none
  | _ => none
def mkaOk (n : Int) (bytes z : Nat) (zero : PV) : Bool := decide (0 ≤ n ∧ n * bytes ≤ maxBytes ∧ z = 1 ∧ isFlat zero = true)
noncomputable def oX_storeK (cf : CallF) (an : Tr) (s : St) (k : St → Option R) (a : IX) (x : IX) : Option R := match evX s.env a, evX s.env x with
    | some v, some w => skK s.gh v w fun gh => k ⟨s.env, s.lh, gh⟩
    | _, _ => none
noncomputable def oX_clearK (cf : CallF) (an : Tr) (s : St) (k : St → Option R) (x : IX) : Option R := match evX s.env x with
    | some v => ckK s.gh v fun gh => k ⟨s.env, s.lh, gh⟩
    | none => none
noncomputable def oX_mkbf (cf : CallF) (an : Tr) (s : St) (k : St → Option R) (d f : Nat) (fs : List IX) : Option R := evXs s.env fs fun vs => allK vs (putS s d (.bfn f vs) k)
noncomputable def oX_callP (cf : CallF) (an : Tr) (s : St) (k : St → Option R) (d : Option Nat) (f : Nat) (xs : List IX) (ns : List Nat) : Option R := evXs s.env xs fun vs => allK vs (callR s.gh false (cf f vs s.gh) fun r gh => kpX s.env s.gh gh ns (setO an ⟨s.env, s.lh, gh⟩ d r k))
noncomputable def oX_callR (cf : CallF) (an : Tr) (s : St) (k : St → Option R) (d : Option Nat) (f : Nat) (xs : List IX) (n off : Nat) : Option R := evXs s.env xs fun vs => match getX s.env n with
    | some v => allK vs (callR s.gh false (cf f vs s.gh) fun r gh => rtK (cf f vs) s.gh v off (setO an ⟨s.env, s.lh, gh⟩ d r k))
    | none => none
noncomputable def oX_appendE (cf : CallF) (an : Tr) (s : St) (k : St → Option R) (d : Nat) (bytes : Nat) (sx : IX) (x : IX) : Option R := match evX s.env x with
    | some w => tkX s.env sx fun v e => aeX s.gh bytes v w fun ys => putK e d (.sl true 1 ys) fun e => k ⟨e, s.lh, s.gh⟩
    | none => none
noncomputable def oX_loadKB (cf : CallF) (an : Tr) (s : St) (k : St → Option R) (d : Nat) (a : IX) (n : Nat) : Option R := match evX s.env a, getX s.env n with
    | some p, some q => lkbX s.gh p q fun v => setX an s d v k
    | _, _ => none
noncomputable def oX_loadTB (cf : CallF) (an : Tr) (s : St) (k : St → Option R) (d : Nat) (a : IX) (n o2 : Nat) : Option R := match evX s.env a, getX s.env n with
    | some p, some q => ltbX s.gh p q o2 fun v gh => putK s.env d v fun e => k ⟨e, s.lh, gh⟩
    | _, _ => none
noncomputable def oX_loadB (cf : CallF) (an : Tr) (s : St) (k : St → Option R) (d : Nat) (agg : Bool) (kk : Nat) (a : IX) (n : Nat) : Option R := match evX s.env a, getX s.env n with
    | some p, some q => lbX s.gh agg kk p q fun v => setX an s d v k
    | _, _ => none
noncomputable def oX_loadJ (cf : CallF) (an : Tr) (s : St) (k : St → Option R) (d : Nat) (agg : Bool) (kk : Nat) (a : IX) : Option R := match evX s.env a with
    | some (.ptr false b off) => (match nthX s.lh b with | some cs => ob (grab agg kk off cs) fun v => setX an s d (degr v) k | none => none)
    | _ => none
noncomputable def oX_appendP (cf : CallF) (an : Tr) (s : St) (k : St → Option R) (d : Nat) (bytes : Nat) (sx : IX) (x : IX) (ns : List Nat) : Option R := match evX s.env x, evX s.env sx with
    | some w, some v => anX s.gh bytes v w fun gh u => kpX s.env s.gh gh ns (setX an ⟨s.env, s.lh, gh⟩ d u k)
    | _, _ => none
noncomputable def oX_mkarr (cf : CallF) (an : Tr) (s : St) (k : St → Option R) (d z bytes : Nat) (zero : PV) (l : IX) : Option R := match evX s.env l with
    | some v => anyI v fun n => gd (mkaOk n bytes z zero) (putS s d (.arr zero n.toNat) k)
    | none => none
noncomputable def opX (cf : CallF) (an : Tr) (s : St) (o : IOp) (k : St → Option R) : Option R :=
  match o with
  | .mv d x => oX_mv cf an s k d x
  | .tk d n => oX_tk cf an s k d n
  | .pick d c x y => oX_pick cf an s k d c x y
  | .box d g true x => oX_box_true cf an s k d g x
  | .box d g false x => oX_box_false cf an s k d g x
  | .alloc d g z => oX_alloc cf an s k d g z
  | .build d z ps => oX_build cf an s k d z ps
  | .buildT d z ps => oX_buildT cf an s k d z ps
  | .buildSl d z els => oX_buildSl cf an s k d z els
  | .load d agg kk a => oX_load cf an s k d agg kk a
  | .loadT d a => oX_loadT cf an s k d a
  | .loadL d a => oX_loadL cf an s k d a
  | .store true kk a x => oX_store_true cf an s k kk a x
  | .store false kk a x => oX_store_false cf an s k kk a x
  | .nilc d x => oX_nilc cf an s k d x
  | .bin d op x y => oX_bin cf an s k d op x y
  | .eqa d neg ks x y => oX_eqa cf an s k d neg ks x y
  | .eqb d neg x y => oX_eqb cf an s k d neg x y
  | .eqn d neg x => oX_eqn cf an s k d neg x
  | .un d op x => oX_un cf an s k d op x
  | .conv d kd x => oX_conv cf an s k d kd x
  | .mkfn d f caps => oX_mkfn cf an s k d f caps
  | .mkmap d => oX_mkmap cf an s k d
  | .mksl d g z bytes zero l => oX_mksl cf an s k d g z bytes zero l
  | .slice d z x lo hi => oX_slice cf an s k d z x lo hi
  | .sliceS d x lo hi => oX_sliceS cf an s k d x lo hi
  | .faddr d x off => oX_faddr cf an s k d x off
  | .field d agg kk off x => oX_field cf an s k d agg kk off x
  | .iaddr d z arr x i => oX_iaddr cf an s k d z arr x i
  | .index d z arr agg x i => oX_index cf an s k d z arr agg x i
  | .indexS d x i => oX_indexS cf an s k d x i
  | .lookup d kn m kx ok zero => oX_lookup cf an s k d kn m kx ok zero
  | .mupd kn m kx x => oX_mupd cf an s k kn m kx x
  | .call d q f xs => oX_call cf an s k d q f xs
  | .callv d q fv xs => oX_callv cf an s k d q fv xs
  | .callF d f xs => oX_callF cf an s k d f xs
  | .callE d fv xs => oX_callE cf an s k d fv xs
  | .loadN d agg kk a n => oX_loadN cf an s k d agg kk a n
  | .len d 0 x => oX_len_0 cf an s k d x
  | .len d 1 x => oX_len_1 cf an s k d x
  | .len d 2 x => oX_len_2 cf an s k d x
  | .len _ _ _ => none
  | .append d z bytes sx x => oX_append cf an s k d z bytes sx x
  | .appendK d bytes sx x => oX_appendK cf an s k d bytes sx x
  | .appendN d bytes sx x => oX_appendN cf an s k d bytes sx x
  | .storeK a x => oX_storeK cf an s k a x
  | .clearK x => oX_clearK cf an s k x
  | .mkbf d f fs => oX_mkbf cf an s k d f fs
  | .buildSlK d els => oX_buildSlK cf an s k d els
  | .loadK d a => oX_loadK cf an s k d a
  | .loadH d a => oX_loadH cf an s k d a
  | .maxi d xs => oX_maxi cf an s k d xs
  | .extract d x i => oX_extract cf an s k d x i
  | .callP d f xs ns => oX_callP cf an s k d f xs ns
  | .callR d f xs n off => oX_callR cf an s k d f xs n off
  | .appendE d bytes sx x => oX_appendE cf an s k d bytes sx x
  | .loadKB d a n => oX_loadKB cf an s k d a n
  | .loadTB d a n o2 => oX_loadTB cf an s k d a n o2
  | .loadB d agg kk a n => oX_loadB cf an s k d agg kk a n
  | .loadJ d agg kk a => oX_loadJ cf an s k d agg kk a
  | .appendP d bytes sx x ns => oX_appendP cf an s k d bytes sx x ns
  | .mkarr d z bytes zero l => oX_mkarr cf an s k d z bytes zero l
  | .buildA _ _ _ => none
def skX (s : St) (o : IOp) (k : St → Option R) : Option R :=
  match opDst o with
  | some d => putS s d .und k
  | none => k s
noncomputable def opsX (cf : CallF) (an : Tr) : List IOpG → St → (St → Option R) → Option R
  | [], s, k => k s
  | ⟨o, none⟩ :: l, s, k => opX cf an s o fun s => opsX cf an l s k
  | ⟨o, some (g, want)⟩ :: l, s, k => match getX s.env g with
    | some (.bool b) => br g b
        (putS s g (.bool true) fun s => match want with
          | true => opX cf an s o fun s => opsX cf an l s k
          | false => skX s o fun s => opsX cf an l s k)
        (putS s g (.bool false) fun s => match want with
          | false => opX cf an s o fun s => opsX cf an l s k
          | true => skX s o fun s => opsX cf an l s k)
    | some .und => skX s o fun s => opsX cf an l s k
    | _ => none
def keepX (nl : Nat) : List Nat → List (Nat × PV) → (List (Nat × PV) → Option R) → Option R
  | [], _, f => f []
  | t :: l, e, f => match getX e t with
    | some v => stK nl v (keepX nl l e fun e' => f ((t, v) :: e'))
    | none => keepX nl l e f
def po (ks : List Nat) (nl : Nat) (e : IExit) (s : St) (k : IExit → St → Option R) : Option R :=
  match e with
  | .normal => keepX nl ks s.env fun e => takeK nl s.lh fun lh => k .normal ⟨e, lh, s.gh⟩
  | e => k e s
def tagX : IX → Nat
  | .t n => n
  | _ => 0
noncomputable def runX (pg : Prg) (an : Tr) : ICode → St → (IExit → St → Option R) → Option R
  | .skip, s, k => k .normal s
  | .region ops _, s, k => opsX (callL pg) an ops s (k .normal)
  | .seq a b, s, k => runX pg an a s fun e s' => nx e s' k fun s' => runX pg an b s' k
  | .cond x a b, s, k => match evX s.env x with
    | some v => unB v fun c => br (tagX x) c (runX pg an a s k) (runX pg an b s k)
    | none => none
  | .block id a, s, k => runX pg an a s fun e s' => bk id e s' k
  | .loop a, s, k => kR (runL pg (.loop a) s) k
  | .exit i, s, k => k (.exit i) s
  | .ret, s, k => k .ret s
  | .post a ks nl, s, k => runX pg an a s fun e s' => po ks nl e s' k
  | .cut a, s, k => kR (runL pg a s) k
  | .bad, _, _ => none
end
abbrev DR := Option (IExit × St)
abbrev tI (k : Nat) (l r : Tr) : Tr := .node k (.ce (.int .i64)) l r
abbrev tB (k : Nat) (l r : Tr) : Tr := .node k (.ce (.bool)) l r
abbrev tO (k : Nat) (l r : Tr) : Tr := .node k (.ce (.one)) l r
abbrev tG (k : Nat) (l r : Tr) : Tr := .node k (.ce (.gp)) l r
abbrev uI (k : Nat) : Tr := .node k (.ce (.int .i64)) .nil .nil
abbrev uB (k : Nat) : Tr := .node k (.ce (.bool)) .nil .nil
abbrev uO (k : Nat) : Tr := .node k (.ce (.one)) .nil .nil
abbrev uG (k : Nat) : Tr := .node k (.ce (.gp)) .nil .nil
end Go.Lw
end
