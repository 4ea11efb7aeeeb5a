/-
  The texts that the proof stands on, part 3.
-/
import Derived.Test.YtmodipglnngghacGreatDoorTracePlaysB
set_option linter.unusedVariables false
set_option linter.unusedSimpArgs false
set_option linter.unnecessarySimpa false

/-! Library functions, told as they are. -/
section
namespace Go.Lw
open Go
def libGrow (z bytes : Nat) : List PV → List GObj → Option (PV × List GObj)
 | [.nils, .int .i64 n], gh => if 0 ≤ n ∧ n.toNat * bytes ≤ maxBytes then some (.sl true z [], gh) else none
 | _, _ => none
end Go.Lw
end

/-! The code of package Eval for the small machine. Written by program (gen.py). -/
section
set_option maxRecDepth 10000
namespace Go.Lw
open Go
/- 123: latchwork/eval.Begin -/
/- 128: latchwork/eval.Values -/
/- 129: latchwork/eval.Step -/
/- 130: latchwork/eval.Look -/
/- 135: latchwork/eval.Words -/
def q9s : ICode :=
 (.post (.seq (.region [
 (oN (.bin 17 .lss (.t 16) (.t 15)))] false)
  (.seq (.cond (.t 17) .skip
  (.exit 0))
  (.seq (.block 1 (.seq (.post (.region [
 (oM 18 16),
 (oA 19 14 16),
 (oL 20 19),
 (oM 7 18),
 (oM 8 20)] false) [2, 3, 7, 8, 14, 15, 16] 1)
  (.seq (.post (.region [
 (oM 21 2),
 (oM 22 7),
 (oA 23 21 22),
 (oL 24 23),
 (oF 25 3 0),
 (oL 26 25),
 (oM 27 8),
 (oN (.iaddr 28 6 none (.t 26) (.t 27))),
 (oF 29 28 1),
 (oL 30 29),
 (oN (.call (some 31) true 65 [(.t 24), (.t 30)])),
 (oN (.un 32 .not (.t 31)))] true) [2, 3, 14, 15, 16, 32] 1)
  (.cond (.t 32) (.seq (.post (.region [
 (oN (.mv 6 (.c (I 3))))] false) [6] 0)
  .ret)
  .skip))))
  (.post (.region [
 (oN (.bin 33 .add (.t 16) (.c (I 1)))),
 (oM 16 33)] false) [2, 3, 14, 15, 16] 1)))) [2, 3, 14, 15, 16] 1)
def q5j : ICode :=
 (.post (.block 0 (.loop q9s)) [] 0)
def q5k : ICode :=
 (.seq (.region [
 (oN (.mv 6 (.c (I 0))))] false)
  .ret)
def q9t : ICode :=
 (.seq (.post (.region [
 (oN (.box 3 false false (.t 0))),
 (oN (.mv 6 (.c (I 0))))] false) [1, 2, 3] 1)
  (.seq (.seq (.post (.region [
 (oM 9 2),
 (oN (.len 10 0 (.t 9))),
 (oM 11 1),
 (oN (.len 12 0 (.t 11))),
 (oN (.bin 13 .neq (.t 10) (.t 12)))] false) [1, 2, 3, 13] 1)
  (.cond (.t 13) (.seq (.post (.region [
 (oN (.mv 6 (.c (I 2))))] false) [6] 0)
  .ret)
  .skip))
  (.seq (.seq (.post (.region [
 (oM 14 1),
 (oN (.len 15 0 (.t 14))),
 (oN (.mv 16 (.c (I 0))))] false) [2, 3, 14, 15, 16] 1)
  (.cut q5j))
  (.cut q5k))))
def q13 : IFunc := { np := 3, res := [.t 6], own := false, trunc := true, body := q9t }
/- 136: latchwork/eval.First -/
def q9u : ICode :=
 (.post (.seq (.region [
 (oN (.bin 29 .lss (.t 28) (.t 27)))] false)
  (.seq (.cond (.t 29) .skip
  (.exit 0))
  (.seq (.block 1 (.seq (.post (.region [
 (oN (.iaddr 30 2 none (.t 26) (.t 28))),
 (oN (.load 31 true 2 (.t 30))),
 (oN (.alloc 9 false (.agg [I 0, I 0]))),
 (oN (.store false 2 (.t 9) (.t 31)))] false) [1, 5, 6, 7, 9, 26, 27, 28] 1)
  (.post (.region [
 (oM 32 7),
 (oF 33 9 0),
 (oL 34 33),
 (oM 35 6),
 (oF 36 9 1),
 (oL 37 36),
 (oA 38 35 37),
 (oL 39 38),
 (oN (.mupd 0 (.t 32) (.t 34) (.t 39)))] true) [1, 5, 6, 7, 26, 27, 28] 0)))
  (.post (.region [
 (oN (.bin 40 .add (.t 28) (.c (I 1)))),
 (oM 28 40)] false) [1, 5, 6, 7, 26, 27, 28] 0)))) [1, 5, 6, 7, 26, 27, 28] 0)
def q3c : ICode :=
 (.post (.block 0 (.loop q9u)) [1, 5, 7] 0)
def q1v : ICode :=
 (.post (.region [
 (oN (.tk 60 10)),
 (oM 61 13),
 (oN (.buildSl 62 1 [(.t 61)])),
 (oN (.append 63 1 8 (.t 60) (.t 62))),
 (oN (.tk 10 63))] false) [1, 7, 10, 41, 42, 43] 0)
def q1w : ICode :=
 (.post (.region [
 (oN (.bin 64 .add (.t 43) (.c (I 1)))),
 (oM 43 64)] false) [1, 7, 10, 41, 42, 43] 0)
def q9v : ICode :=
 (.post (.seq (.region [
 (oN (.bin 44 .lss (.t 43) (.t 42)))] false)
  (.seq (.cond (.t 44) .skip
  (.exit 2))
  (.seq (.block 3 (.seq (.post (.region [
 (oM 45 43),
 (oA 46 41 43),
 (oL 47 46),
 (oM 11 45),
 (oM 12 47)] false) [1, 7, 10, 11, 12, 41, 42, 43] 0)
  (.seq (.post (.region [
 (oM 49 7),
 (oM 50 12),
 (oN (.lookup 51 0 (.t 49) (.t 50) true (I 0))),
 (oM 48 51),
 (oN (.extract 52 (.t 48) 0)),
 (oN (.extract 53 (.t 48) 1)),
 (oM 13 52),
 (oM 14 53)] false) [1, 7, 10, 11, 13, 14, 41, 42, 43] 0)
  (.seq (.seq (.post (.region [
 (oM 54 14),
 (oN (.un 55 .not (.t 54)))] false) [1, 7, 10, 11, 13, 41, 42, 43, 55] 0)
  (.cond (.t 55) (.post (.post (.region [
 (oM 56 1),
 (oM 57 11),
 (oA 58 56 57),
 (oL 59 58),
 (oM 13 59)] false) [1, 7, 10, 13, 41, 42, 43] 0) [1, 7, 10, 13, 41, 42, 43] 0)
  (.post .skip [1, 7, 10, 13, 41, 42, 43] 0)))
  (.cut q1v)))))
  (.cut q1w)))) [1, 7, 10, 41, 42, 43] 0)
def q3d : ICode :=
 (.post (.block 2 (.loop q9v)) [10] 0)
def q3e : ICode :=
 (.seq (.post (.region [
 (oM 65 10),
 (oN (.tk 4 65))] false) [4] 0)
  .ret)
def q3f : ICode :=
 (.seq (.region [
 (oN (.mv 10 (.c (.sl true 1 []))))] false)
  (.seq (.seq (.post (.region [
 (oM 41 5),
 (oN (.len 42 0 (.t 41))),
 (oN (.mv 43 (.c (I 0))))] false) [1, 7, 10, 41, 42, 43] 0)
  (.cut q3d))
  (.cut q3e)))
def q9w : ICode :=
 (.seq (.post (.region [
 (oN (.box 2 false false (.t 0))),
 (oN (.mv 4 (.c (.sl true 1 []))))] false) [1, 2] 1)
  (.seq (.post (.region [
 (oN (.load 15 true 5 (.t 2))),
 (oN (.call (some 16) true 101 [(.t 15), (.c (I 3))])),
 (oN (.tk 5 16))] false) [1, 2, 5] 1)
  (.seq (.post (.region [
 (oN (.load 17 true 5 (.t 2))),
 (oM 18 5),
 (oN (.call (some 19) true 142 [(.t 18)])),
 (oN (.load 20 true 5 (.t 2))),
 (oN (.call (some 21) true 101 [(.t 20), (.c (I 2))])),
 (oN (.call (some 22) true 142 [(.t 21)])),
 (oN (.call (some 23) true 139 [(.t 17), (.t 19), (.t 22)])),
 (oN (.tk 6 23))] true) [1, 2, 5, 6] 1)
  (.seq (.post (.region [
 (oN (.mkmap 24)),
 (oM 7 24)] false) [1, 2, 5, 6, 7] 1)
  (.seq (.seq (.post (.region [
 (oF 25 2 1),
 (oL 26 25),
 (oN (.len 27 0 (.t 26))),
 (oN (.mv 28 (.c (I 0))))] false) [1, 5, 6, 7, 26, 27, 28] 0)
  (.cut q3c))
  (.cut q3f))))))
def q5l : IFunc := { np := 2, res := [.t 4], own := false, trunc := true, body := q9w }
/- 138: latchwork/eval.ready -/
/- 139: latchwork/eval.Raw -/
def q14 : ICode :=
 (.post (.region [
 (oN (.bin 79 .add (.t 19) (.c (I 1)))),
 (oM 19 79)] false) [1, 2, 3, 7, 8, 17, 18, 19] 1)
def q9x : ICode :=
 (.post (.seq (.region [
 (oN (.bin 20 .lss (.t 19) (.t 18)))] false)
  (.seq (.cond (.t 20) .skip
  (.exit 0))
  (.seq (.block 1 (.seq (.post (.region [
 (oM 21 19),
 (oN (.iaddr 22 6 none (.t 17) (.t 19))),
 (oN (.load 23 true 6 (.t 22))),
 (oN (.alloc 10 false (.agg [I 0, I 0, I 0, I 0, I 0, I 0]))),
 (oM 9 21),
 (oN (.store false 6 (.t 10) (.t 23)))] false) [1, 2, 3, 7, 8, 9, 10, 17, 18, 19] 2)
  (.seq (.post (.region [
 (oF 24 10 0),
 (oL 25 24)] false) [1, 2, 3, 7, 8, 9, 10, 17, 18, 19, 25] 2)
  (.block 2 (.seq (.post (.region [
 (oN (.bin 53 .eql (.t 25) (.c (I 1)))),
 (oM 52 53)] false) [1, 2, 3, 7, 8, 9, 10, 17, 18, 19, 25, 52] 2)
  (.cond (.t 52) (.post (.post (.region [
 (oL 54 7),
 (oM 55 9),
 (oF 56 10 5),
 (oL 57 56),
 (oA 58 54 55),
 (oN (.store false 1 (.t 58) (.t 57)))] false) [1, 2, 3, 7, 8, 17, 18, 19] 1) [1, 2, 3, 7, 8, 17, 18, 19] 1)
  (.post (.seq (.post (.region [
 (oN (.bin 60 .eql (.t 25) (.c (I 3)))),
 (oM 59 60)] false) [1, 2, 3, 7, 8, 9, 10, 17, 18, 19, 25, 59] 2)
  (.cond (.t 59) (.post (.post (.region [
 (oL 61 7),
 (oM 62 9),
 (oM 63 1),
 (oN (.iaddr 64 1 none (.t 63) (.c (I 0)))),
 (oL 65 64),
 (oM 66 1),
 (oN (.slice 67 1 (.t 66) (some (.c (I 1))) none)),
 (oA 68 61 62),
 (oN (.store false 1 (.t 68) (.t 65))),
 (oN (.tk 1 67))] true) [1, 2, 3, 7, 8, 17, 18, 19] 1) [1, 2, 3, 7, 8, 17, 18, 19] 1)
  (.post (.seq (.post (.region [
 (oN (.bin 70 .eql (.t 25) (.c (I 2)))),
 (oM 69 70)] false) [1, 2, 3, 7, 8, 9, 10, 17, 18, 19, 69] 2)
  (.cond (.t 69) (.post (.post (.region [
 (oL 71 7),
 (oM 72 9),
 (oM 73 2),
 (oN (.iaddr 74 1 none (.t 73) (.c (I 0)))),
 (oL 75 74),
 (oM 76 2),
 (oN (.slice 77 1 (.t 76) (some (.c (I 1))) none)),
 (oA 78 71 72),
 (oN (.store false 1 (.t 78) (.t 75))),
 (oN (.tk 2 77))] true) [1, 2, 3, 7, 8, 17, 18, 19] 1) [1, 2, 3, 7, 8, 17, 18, 19] 1)
  (.post (.post (.region [
 (oL 26 7),
 (oM 27 9),
 (oF 28 10 0),
 (oL 29 28),
 (oF 30 10 1),
 (oL 31 30),
 (oM 32 8),
 (oF 33 10 2),
 (oL 34 33),
 (oN (.callv (some 35) true (.t 32) [(.t 34)])),
 (oM 36 8),
 (oF 37 10 3),
 (oL 38 37),
 (oN (.callv (some 39) true (.t 36) [(.t 38)])),
 (oM 40 8),
 (oF 41 10 4),
 (oL 42 41),
 (oN (.callv (some 43) true (.t 40) [(.t 42)])),
 (oF 44 10 5),
 (oL 45 44),
 (oF 46 3 0),
 (oL 47 46),
 (oN (.load 48 true 6 (.t 10))),
 (oN (.call (some 49) true 104 [(.t 47), (.t 48)])),
 (oN (.call (some 50) true 66 [(.t 29), (.t 31), (.t 35), (.t 39), (.t 43), (.t 45), (.t 49)])),
 (oA 51 26 27),
 (oN (.store false 1 (.t 51) (.t 50)))] true) [1, 2, 3, 7, 8, 17, 18, 19] 1) [1, 2, 3, 7, 8, 17, 18, 19] 1))) [1, 2, 3, 7, 8, 17, 18, 19] 1))) [1, 2, 3, 7, 8, 17, 18, 19] 1)))))))
  (.cut q14)))) [1, 2, 3, 7, 8, 17, 18, 19] 1)
def q3g : ICode :=
 (.post (.block 0 (.loop q9x)) [7] 0)
def q3h : ICode :=
 (.seq (.post (.region [
 (oL 80 7),
 (oN (.tk 6 80))] false) [6] 0)
  .ret)
def q9y : ICode :=
 (.seq (.post (.region [
 (oN (.box 3 false false (.t 0))),
 (oN (.mv 6 (.c (.sl true 1 []))))] false) [1, 2, 3] 1)
  (.seq (.post (.region [
 (oF 11 3 0),
 (oL 12 11),
 (oN (.len 13 0 (.t 12))),
 (oN (.mksl 14 true 1 8 (I 0) (.t 13))),
 (oN (.alloc 7 true (.sl true 1 []))),
 (oN (.store true 1 (.t 7) (.t 14)))] false) [1, 2, 3, 7] 1)
  (.seq (.post (.region [
 (oN (.mkfn 15 143 [(.t 7)])),
 (oM 8 15)] false) [1, 2, 3, 7, 8] 1)
  (.seq (.seq (.post (.region [
 (oF 16 3 0),
 (oL 17 16),
 (oN (.len 18 0 (.t 17))),
 (oN (.mv 19 (.c (I 0))))] false) [1, 2, 3, 7, 8, 17, 18, 19] 1)
  (.cut q3g))
  (.cut q3h)))))
def q5m : IFunc := { np := 3, res := [.t 6], own := false, trunc := true, body := q9y }
/- 140: latchwork/eval.Next -/
def q9z : ICode :=
 (.post (.seq (.region [
 (oN (.bin 16 .lss (.t 15) (.t 14)))] false)
  (.seq (.cond (.t 16) .skip
  (.exit 0))
  (.seq (.block 1 (.seq (.post (.region [
 (oN (.iaddr 17 2 none (.t 13) (.t 15))),
 (oN (.load 18 true 2 (.t 17))),
 (oN (.alloc 7 false (.agg [I 0, I 0]))),
 (oN (.store false 2 (.t 7) (.t 18)))] false) [1, 2, 5, 7, 13, 14, 15] 2)
  (.post (.region [
 (oM 19 5),
 (oF 20 7 0),
 (oL 21 20),
 (oM 22 1),
 (oF 23 7 1),
 (oL 24 23),
 (oA 25 22 24),
 (oL 26 25),
 (oN (.mupd 0 (.t 19) (.t 21) (.t 26)))] true) [1, 2, 5, 13, 14, 15] 1)))
  (.post (.region [
 (oN (.bin 27 .add (.t 15) (.c (I 1)))),
 (oM 15 27)] false) [1, 2, 5, 13, 14, 15] 1)))) [1, 2, 5, 13, 14, 15] 1)
def q3i : ICode :=
 (.post (.block 0 (.loop q9z)) [2, 5] 1)
def qa0 : ICode :=
 (.post (.seq (.region [
 (oN (.bin 32 .lss (.t 31) (.t 30)))] false)
  (.seq (.cond (.t 32) .skip
  (.exit 2))
  (.seq (.block 3 (.seq (.post (.region [
 (oA 33 29 31),
 (oL 34 33),
 (oM 10 34)] false) [5, 8, 10, 29, 30, 31] 0)
  (.post (.region [
 (oN (.tk 35 8)),
 (oM 36 5),
 (oM 37 10),
 (oN (.lookup 38 0 (.t 36) (.t 37) false (I 0))),
 (oN (.buildSl 39 1 [(.t 38)])),
 (oN (.append 40 1 8 (.t 35) (.t 39))),
 (oN (.tk 8 40))] false) [5, 8, 29, 30, 31] 0)))
  (.post (.region [
 (oN (.bin 41 .add (.t 31) (.c (I 1)))),
 (oM 31 41)] false) [5, 8, 29, 30, 31] 0)))) [5, 8, 29, 30, 31] 0)
def q3j : ICode :=
 (.post (.block 2 (.loop qa0)) [8] 0)
def q3k : ICode :=
 (.seq (.post (.region [
 (oM 42 8),
 (oN (.tk 4 42))] false) [4] 0)
  .ret)
def q3l : ICode :=
 (.seq (.region [
 (oN (.mv 8 (.c (.sl true 1 []))))] false)
  (.seq (.seq (.post (.region [
 (oN (.load 28 true 5 (.t 2))),
 (oN (.call (some 29) true 101 [(.t 28), (.c (I 3))])),
 (oN (.len 30 0 (.t 29))),
 (oN (.mv 31 (.c (I 0))))] false) [5, 8, 29, 30, 31] 0)
  (.cut q3j))
  (.cut q3k)))
def qa1 : ICode :=
 (.seq (.post (.region [
 (oN (.box 2 false false (.t 0))),
 (oN (.mv 4 (.c (.sl true 1 []))))] false) [1, 2] 1)
  (.seq (.post (.region [
 (oN (.mkmap 11)),
 (oM 5 11)] false) [1, 2, 5] 1)
  (.seq (.seq (.post (.region [
 (oF 12 2 2),
 (oL 13 12),
 (oN (.len 14 0 (.t 13))),
 (oN (.mv 15 (.c (I 0))))] false) [1, 2, 5, 13, 14, 15] 1)
  (.cut q3i))
  (.cut q3l))))
def q5n : IFunc := { np := 2, res := [.t 4], own := false, trunc := true, body := qa1 }
/- 141: latchwork/eval.Marks -/
def qa2 : ICode :=
 (.post (.seq (.region [
 (oN (.bin 16 .lss (.t 15) (.t 14)))] false)
  (.seq (.cond (.t 16) .skip
  (.exit 0))
  (.seq (.block 1 (.seq (.post (.region [
 (oA 17 13 15),
 (oL 18 17),
 (oM 9 18)] false) [1, 2, 6, 7, 9, 13, 14, 15] 1)
  (.post (.region [
 (oM 19 6),
 (oM 20 19),
  ⟨.mv 21 (.t 1), some (20, true)⟩,
  ⟨.mv 22 (.t 9), some (20, true)⟩,
  ⟨.iaddr 23 1 none (.t 21) (.t 22), some (20, true)⟩,
  ⟨.load 24 false 1 (.t 23), some (20, true)⟩,
  ⟨.bin 25 .eql (.t 24) (.c (I 1)), some (20, true)⟩,
 (oN (.pick 26 (.t 20) (.t 25) (.c (.bool false)))),
 (oM 6 26)] false) [1, 2, 6, 7, 13, 14, 15] 1)))
  (.post (.region [
 (oN (.bin 27 .add (.t 15) (.c (I 1)))),
 (oM 15 27)] false) [1, 2, 6, 7, 13, 14, 15] 1)))) [1, 2, 6, 7, 13, 14, 15] 1)
def q3m : ICode :=
 (.post (.block 0 (.loop qa2)) [1, 2, 6, 7] 1)
def qa3 : ICode :=
 (.post (.seq (.region [
 (oN (.bin 32 .lss (.t 31) (.t 30)))] false)
  (.seq (.cond (.t 32) .skip
  (.exit 2))
  (.seq (.block 3 (.seq (.post (.region [
 (oA 33 29 31),
 (oL 34 33),
 (oM 11 34)] false) [1, 6, 7, 11, 29, 30, 31] 0)
  (.post (.region [
 (oM 35 7),
 (oM 36 35),
  ⟨.mv 37 (.t 1), some (36, false)⟩,
  ⟨.mv 38 (.t 11), some (36, false)⟩,
  ⟨.iaddr 39 1 none (.t 37) (.t 38), some (36, false)⟩,
  ⟨.load 40 false 1 (.t 39), some (36, false)⟩,
  ⟨.bin 41 .eql (.t 40) (.c (I 1)), some (36, false)⟩,
 (oN (.pick 42 (.t 36) (.c (.bool true)) (.t 41))),
 (oM 7 42)] false) [1, 6, 7, 29, 30, 31] 0)))
  (.post (.region [
 (oN (.bin 43 .add (.t 31) (.c (I 1)))),
 (oM 31 43)] false) [1, 6, 7, 29, 30, 31] 0)))) [1, 6, 7, 29, 30, 31] 0)
def q3n : ICode :=
 (.post (.block 2 (.loop qa3)) [6, 7] 0)
def q5o : ICode :=
 (.seq (.post (.region [
 (oM 44 6),
 (oM 45 7),
 (oM 4 44),
 (oM 5 45)] false) [4, 5] 0)
  .ret)
def q3o : ICode :=
 (.seq (.seq (.post (.region [
 (oF 28 2 3),
 (oL 29 28),
 (oN (.len 30 0 (.t 29))),
 (oN (.mv 31 (.c (I 0))))] false) [1, 6, 7, 29, 30, 31] 0)
  (.cut q3n))
  (.cut q5o))
def qa4 : ICode :=
 (.seq (.post (.region [
 (oN (.box 2 false false (.t 0))),
 (oN (.mv 4 (.c (.bool false)))),
 (oN (.mv 5 (.c (.bool false))))] false) [1, 2] 1)
  (.seq (.region [
 (oN (.mv 6 (.c (.bool true)))),
 (oN (.mv 7 (.c (.bool false))))] false)
  (.seq (.seq (.post (.region [
 (oF 12 2 4),
 (oL 13 12),
 (oN (.len 14 0 (.t 13))),
 (oN (.mv 15 (.c (I 0))))] false) [1, 2, 6, 7, 13, 14, 15] 1)
  (.cut q3m))
  (.cut q3o))))
def q5p : IFunc := { np := 2, res := [.t 4, .t 5], own := false, trunc := true, body := qa4 }
/- 142: latchwork/eval.zeros -/
def qa5 : ICode :=
 (.seq (.post (.region [
 (oN (.mv 2 (.c (.sl true 1 []))))] false) [0] 0)
  (.seq (.post (.region [
 (oM 3 0),
 (oN (.len 4 0 (.t 3))),
 (oN (.mksl 5 false 1 8 (I 0) (.t 4))),
 (oN (.tk 2 5))] false) [2] 0)
  .ret))
def q5q : IFunc := { np := 1, res := [.t 2], own := false, trunc := true, body := qa5 }
/- 143: latchwork/eval.Raw$1 -/
def qa6 : ICode :=
 (.seq (.post (.region [
 (oN (.mv 3 (.c (I 0))))] false) [0, 1] 0)
  (.seq (.post (.region [
 (oL 4 1),
 (oM 5 0),
 (oA 6 4 5),
 (oL 7 6),
 (oM 3 7)] false) [3] 0)
  .ret))
def q5r : IFunc := { np := 2, res := [.t 3], own := false, trunc := true, body := qa6 }
end Go.Lw
end

/-! The code of package Law for the small machine. Written by program (gen.py). -/
section
set_option maxRecDepth 10000
namespace Go.Lw
open Go
/- 0: latchwork/latchworklaw.GatesAnds -/
/- 5: latchwork/latchworklaw.gatesBegun -/
/- 8: latchwork/latchworklaw.GatesEvals -/
/- 13: latchwork/latchworklaw.sameBools -/
/- 14: latchwork/latchworklaw.GatesKeep -/
/- 15: latchwork/latchworklaw.CnfOfs -/
/- 18: latchwork/latchworklaw.cnfBegun -/
/- 19: latchwork/latchworklaw.clausesAre -/
/- 20: latchwork/latchworklaw.WordFits -/
/- 21: latchwork/latchworklaw.wordBegun -/
/- 24: latchwork/latchworklaw.WordApplies -/
/- 29: latchwork/latchworklaw.WordTurns -/
/- 30: latchwork/latchworklaw.choose -/
/- 31: latchwork/latchworklaw.CnfTells -/
/- 33: latchwork/latchworklaw.ModelChecks -/
/- 37: latchwork/latchworklaw.modelBegun -/
/- 40: latchwork/latchworklaw.listIs -/
/- 41: latchwork/latchworklaw.ModelCones -/
/- 44: latchwork/latchworklaw.ModelAgain -/
/- 75: latchwork/latchworklaw.toggle -/
def qfv : ICode :=
 (.seq (.region [
 (oN (.alloc 0 false (.agg [.sl true 6 [], .sl true 2 [], .sl true 2 [], .sl true 1 [], .sl true 1 []])))] false)
  (.seq (.post (.region [
 (oN (.build 1 [I 0, I 0, I 0, I 0, I 0, I 0] [(0, 1, (.c (I 1))), (1, 1, (.c (I 1)))])),
 (oN (.build 2 [I 0, I 0, I 0, I 0, I 0, I 0] [(0, 1, (.c (I 3))), (1, 1, (.c (I 1)))])),
 (oN (.build 3 [I 0, I 0, I 0, I 0, I 0, I 0] [(0, 1, (.c (I 4))), (1, 1, (.c (I 1))), (2, 1, (.c (I 1)))])),
 (oN (.buildSl 4 6 [(.t 1), (.t 2), (.t 3)])),
 (oN (.build 5 [I 0, I 0] [(0, 1, (.c (I 1))), (1, 1, (.c (I 0)))])),
 (oN (.buildSl 6 2 [(.t 5)])),
 (oN (.build 7 [I 0, I 0] [(0, 1, (.c (I 1))), (1, 1, (.c (I 2)))])),
 (oN (.buildSl 8 2 [(.t 7)])),
 (oN (.buildSl 9 1 [(.c (I 1))])),
 (oN (.buildT 10 [.sl true 6 [], .sl true 2 [], .sl true 2 [], .sl true 1 [], .sl true 1 []] [(0, 1, (.t 4)), (1, 1, (.t 6)), (2, 1, (.t 8)), (3, 1, (.t 9))])),
 (oN (.store true 5 (.t 0) (.t 10)))] false) [0] 1)
  .ret))
def qfw : IFunc := { np := 0, res := [.cell 0 true 5], own := false, trunc := true, body := qfv }
/- 122: latchwork/latchworklaw.EvalBegins -/
/- 126: latchwork/latchworklaw.evalBegun -/
/- 127: latchwork/latchworklaw.EvalValues -/
/- 144: latchwork/latchworklaw.ProofFollows -/
/- 147: latchwork/latchworklaw.proofBegun -/
/- 148: latchwork/latchworklaw.ProofChecks -/
/- 152: latchwork/latchworklaw.ProofSound -/
/- 165: latchwork/latchworklaw.searchBegun -/
/- 207: latchwork/latchworklaw.SearchIs -/
/- 210: latchwork/latchworklaw.BlastChecks -/
/- 211: latchwork/latchworklaw.blastBegun -/
/- 239: latchwork/latchworklaw.DecideTrue -/
/- 240: latchwork/latchworklaw.decideBegun -/
/- 241: latchwork/latchworklaw.exploreBegun -/
/- 242: latchwork/latchworklaw.traceBegun -/
def qfx : ICode :=
 (.seq (.post (.region [
 (oN (.mv 0 (.c (.bool false))))] false) [] 0)
  (.seq (.post (.region [
 (oN (.buildSl 8 1 [(.c (I 0))])),
 (oN (.buildSl 9 1 [(.c (.sl true 1 [])), (.c (.sl true 1 []))])),
 (oN (.buildT 10 [.sl true 1 [], .sl true 1 []] [(0, 1, (.t 8)), (1, 1, (.t 9))])),
 (oN (.alloc 1 false (.agg [.sl true 1 [], .sl true 1 []]))),
 (oN (.store true 2 (.t 1) (.t 10)))] false) [1] 1)
  (.seq (.post (.region [
 (oN (.call (some 12) true 75 [])),
 (oN (.load 13 true 2 (.t 1))),
 (oN (.call (some 14) true 245 [(.t 12), (.t 13)])),
 (oM 11 14),
 (oN (.extract 15 (.t 11) 0)),
 (oN (.extract 16 (.t 11) 1)),
 (oM 2 15),
 (oM 3 16)] true) [1, 2, 3] 1)
  (.seq (.post (.region [
 (oN (.load 18 true 2 (.t 1))),
 (oN (.call (some 19) true 246 [(.t 18)])),
 (oM 17 19),
 (oN (.extract 20 (.t 17) 0)),
 (oN (.extract 21 (.t 17) 1)),
 (oM 4 20),
 (oM 5 21)] false) [1, 2, 3, 4, 5] 1)
  (.seq (.post (.region [
 (oM 23 4),
 (oN (.call (some 24) true 247 [(.t 23)])),
 (oM 22 24),
 (oN (.extract 25 (.t 22) 0)),
 (oN (.extract 26 (.t 22) 1)),
 (oN (.alloc 6 false (.agg [.sl true 1 [], .sl true 1 []]))),
 (oN (.store true 2 (.t 6) (.t 25))),
 (oM 7 26)] false) [1, 2, 3, 4, 5, 6, 7] 2)
  (.seq (.post (.region [
 (oM 27 3),
 (oN (.bin 28 .eql (.t 27) (.c (I 0)))),
 (oM 29 28),
  ⟨.mv 30 (.t 5), some (29, true)⟩,
  ⟨.bin 31 .eql (.t 30) (.c (I 0)), some (29, true)⟩,
 (oN (.pick 32 (.t 29) (.t 31) (.c (.bool false)))),
 (oM 33 32),
  ⟨.mv 34 (.t 7), some (33, true)⟩,
  ⟨.bin 35 .eql (.t 34) (.c (I 0)), some (33, true)⟩,
 (oN (.pick 36 (.t 33) (.t 35) (.c (.bool false)))),
 (oM 37 36),
  ⟨.mv 38 (.t 2), some (37, true)⟩,
 (oN (.pick 39 (.t 37) (.t 38) (.c (.bool false)))),
 (oM 40 39),
  ⟨.mv 41 (.t 4), some (40, true)⟩,
  ⟨.bin 42 .eql (.t 41) (.c (.str ⟨#[115, 116, 97, 114, 116, 32, 48, 10, 105, 110, 10, 105, 110, 10]⟩)), some (40, true)⟩,
 (oN (.pick 43 (.t 40) (.t 42) (.c (.bool false)))),
 (oM 44 43),
  ⟨.faddr 45 (.t 6) 1, some (44, true)⟩,
  ⟨.load 46 false 1 (.t 45), some (44, true)⟩,
  ⟨.len 47 0 (.t 46), some (44, true)⟩,
  ⟨.bin 48 .eql (.t 47) (.c (I 2)), some (44, true)⟩,
 (oN (.pick 49 (.t 44) (.t 48) (.c (.bool false)))),
 (oM 50 49),
  ⟨.call (some 51) true 75 [], some (50, true)⟩,
  ⟨.load 52 true 2 (.t 1), some (50, true)⟩,
  ⟨.call (some 53) true 248 [(.t 51), (.t 52)], some (50, true)⟩,
  ⟨.bin 54 .eql (.t 53) (.c (I 0)), some (50, true)⟩,
 (oN (.pick 55 (.t 50) (.t 54) (.c (.bool false)))),
 (oM 0 55)] true) [0] 0)
  .ret))))))
def qfy : IFunc := { np := 0, res := [.t 0], own := false, trunc := true, body := qfx }
/- 318: latchwork/latchworklaw.ExploreAlls -/
/- 320: latchwork/latchworklaw.small -/
/- 325: latchwork/latchworklaw.BlastTells -/
/- 328: latchwork/latchworklaw.UnrollClauses -/
/- 332: latchwork/latchworklaw.unrollBegun -/
/- 333: latchwork/latchworklaw.ProveDifferents -/
/- 335: latchwork/latchworklaw.proveBegun -/
/- 345: latchwork/latchworklaw.TextBack -/
/- 346: latchwork/latchworklaw.textBegun -/
/- 350: latchwork/latchworklaw.TracePrints -/
/- 367: latchwork/latchworklaw.TextPrints -/
/- 369: latchwork/latchworklaw.TextParses -/
/- 371: latchwork/latchworklaw.TraceParses -/
/- 374: latchwork/latchworklaw.TracePlays -/
def q1i : ICode :=
 (.seq (.post (.region [
 (oN (.call (some 35) true 242 [])),
 (oM 36 35),
  ⟨.load 37 true 5 (.t 2), some (36, true)⟩,
  ⟨.load 38 true 2 (.t 3), some (36, true)⟩,
  ⟨.call (some 39) true 248 [(.t 37), (.t 38)], some (36, true)⟩,
  ⟨.mv 40 (.t 9), some (36, true)⟩,
  ⟨.bin 41 .eql (.t 39) (.t 40), some (36, true)⟩,
 (oN (.pick 42 (.t 36) (.t 41) (.c (.bool false)))),
 (oM 43 42),
  ⟨.mv 44 (.t 6), some (43, true)⟩,
  ⟨.mv 45 (.t 9), some (43, true)⟩,
  ⟨.bin 46 .eql (.t 44) (.t 45), some (43, true)⟩,
 (oN (.pick 47 (.t 43) (.t 46) (.c (.bool false)))),
 (oM 48 47),
  ⟨.mv 49 (.t 5), some (48, true)⟩,
  ⟨.mv 50 (.t 10), some (48, true)⟩,
  ⟨.call (some 51) true 95 [(.t 49), (.t 50)], some (48, true)⟩,
 (oN (.pick 52 (.t 48) (.t 51) (.c (.bool false)))),
 (oM 53 52),
  ⟨.mv 54 (.t 8), some (53, true)⟩,
  ⟨.mv 55 (.t 9), some (53, true)⟩,
  ⟨.bin 56 .eql (.t 54) (.t 55), some (53, true)⟩,
 (oN (.pick 57 (.t 53) (.t 56) (.c (.bool false)))),
 (oM 58 57),
  ⟨.mv 59 (.t 7), some (58, true)⟩,
  ⟨.mv 60 (.t 11), some (58, true)⟩,
  ⟨.eqb 61 false (.t 59) (.t 60), some (58, true)⟩,
 (oN (.pick 62 (.t 58) (.t 61) (.c (.bool false)))),
 (oM 4 62)] false) [4] 0)
  .ret)
def qa7 : ICode :=
 (.seq (.post (.region [
 (oN (.box 2 false false (.t 0))),
 (oN (.box 3 false false (.t 1))),
 (oN (.mv 4 (.c (.bool false))))] false) [2, 3] 2)
  (.seq (.post (.region [
 (oN (.load 13 true 5 (.t 2))),
 (oN (.load 14 true 2 (.t 3))),
 (oN (.call (some 15) true 375 [(.t 13), (.t 14)])),
 (oM 12 15),
 (oN (.extract 16 (.t 12) 0)),
 (oN (.extract 17 (.t 12) 1)),
 (oN (.tk 5 16)),
 (oM 6 17)] false) [2, 3, 5, 6] 2)
  (.seq (.post (.region [
 (oN (.load 19 true 5 (.t 2))),
 (oN (.load 20 true 2 (.t 3))),
 (oN (.call (some 21) true 245 [(.t 19), (.t 20)])),
 (oM 18 21),
 (oN (.extract 22 (.t 18) 0)),
 (oN (.extract 23 (.t 18) 1)),
 (oM 7 22),
 (oM 8 23)] false) [2, 3, 5, 6, 7, 8] 2)
  (.seq (.post (.region [
 (oN (.load 24 true 5 (.t 2))),
 (oN (.load 25 true 2 (.t 3))),
 (oN (.call (some 26) true 376 [(.t 24), (.t 25)])),
 (oM 9 26)] false) [2, 3, 5, 6, 7, 8, 9] 2)
  (.seq (.region [
 (oN (.mv 10 (.c (.sl true 1 []))))] false)
  (.seq (.region [
 (oN (.mv 11 (.c (.bool false))))] false)
  (.seq (.seq (.post (.region [
 (oM 27 9),
 (oN (.bin 28 .eql (.t 27) (.c (I 0))))] false) [2, 3, 5, 6, 7, 8, 9, 10, 11, 28] 2)
  (.cond (.t 28) (.post (.post (.region [
 (oN (.load 30 true 5 (.t 2))),
 (oN (.load 31 true 2 (.t 3))),
 (oN (.call (some 32) true 377 [(.t 30), (.t 31)])),
 (oM 29 32),
 (oN (.extract 33 (.t 29) 0)),
 (oN (.extract 34 (.t 29) 1)),
 (oN (.tk 10 33)),
 (oM 11 34)] false) [2, 3, 5, 6, 7, 8, 9, 10, 11] 2) [2, 3, 5, 6, 7, 8, 9, 10, 11] 2)
  (.post .skip [2, 3, 5, 6, 7, 8, 9, 10, 11] 2)))
  (.cut q1i))))))))
def q1x : IFunc := { np := 2, res := [.t 4], own := false, trunc := true, body := qa7 }
/- 378: latchwork/latchworklaw.ExploreFinds -/
/- 383: latchwork/latchworklaw.CnfHolds -/
end Go.Lw
end

/-! The code of package Lib for the small machine. Written by program (gen.py). -/
section
set_option maxRecDepth 10000
namespace Go.Lw
open Go
/- 82: slices.Concat[[]latchwork/api.Pair,latchwork/api.Pair] -/
/- 86: slices.ContainsFunc[[]int,int] -/
def qa8 : ICode :=
 (.seq (.post (.region [
 (oN (.mv 4 (.c (.bool false))))] false) [0, 1] 0)
  (.seq (.post (.region [
 (oM 5 0),
 (oM 6 1),
 (oN (.call (some 7) true 111 [(.t 5), (.t 6)])),
 (oN (.bin 8 .geq (.t 7) (.c (I 0)))),
 (oM 4 8)] false) [4] 0)
  .ret))
def q5s : IFunc := { np := 2, res := [.t 4], own := false, trunc := true, body := qa8 }
/- 100: slices.ContainsFunc[[][]int,[]int] -/
/- 107: slices.Concat[[]int,int] -/
def qa9 : ICode :=
 (.post (.seq (.region [
 (oN (.bin 12 .lss (.t 11) (.t 10)))] false)
  (.seq (.cond (.t 12) .skip
  (.exit 0))
  (.seq (.block 1 (.seq (.post (.region [
 (oA 13 9 11),
 (oL 14 13),
 (oN (.tk 5 14))] false) [0, 3, 5, 9, 10, 11] 0)
  (.seq (.post (.region [
 (oM 15 3),
 (oM 16 5),
 (oN (.len 17 0 (.t 16))),
 (oN (.bin 18 .add (.t 15) (.t 17))),
 (oM 3 18)] false) [0, 3, 9, 10, 11] 0)
  (.seq (.post (.region [
 (oM 19 3),
 (oN (.bin 20 .lss (.t 19) (.c (I 0))))] false) [0, 3, 9, 10, 11, 20] 0)
  (.cond (.t 20) .bad
  .skip)))))
  (.post (.region [
 (oN (.bin 22 .add (.t 11) (.c (I 1)))),
 (oM 11 22)] false) [0, 3, 9, 10, 11] 0)))) [0, 3, 9, 10, 11] 0)
def q5t : ICode :=
 (.post (.block 0 (.loop qa9)) [0, 3] 0)
def qaa : ICode :=
 (.post (.seq (.region [
 (oN (.bin 28 .lss (.t 27) (.t 26)))] false)
  (.seq (.cond (.t 28) .skip
  (.exit 2))
  (.seq (.block 3 (.seq (.post (.region [
 (oA 29 25 27),
 (oL 30 29),
 (oN (.tk 8 30))] false) [6, 8, 25, 26, 27] 0)
  (.post (.region [
 (oN (.tk 31 6)),
 (oM 32 8),
 (oN (.append 33 1 8 (.t 31) (.t 32))),
 (oN (.tk 6 33))] false) [6, 25, 26, 27] 0)))
  (.post (.region [
 (oN (.bin 34 .add (.t 27) (.c (I 1)))),
 (oM 27 34)] false) [6, 25, 26, 27] 0)))) [6, 25, 26, 27] 0)
def q5u : ICode :=
 (.post (.block 2 (.loop qaa)) [6] 0)
def q5v : ICode :=
 (.seq (.post (.region [
 (oM 35 6),
 (oN (.tk 2 35))] false) [2] 0)
  .ret)
def q5w : ICode :=
 (.seq (.post (.region [
 (oM 23 3),
 (oN (.call (some 24) true 119 [(.c .nils), (.t 23)])),
 (oN (.tk 6 24))] false) [0, 6] 0)
  (.seq (.seq (.post (.region [
 (oM 25 0),
 (oN (.len 26 0 (.t 25))),
 (oN (.mv 27 (.c (I 0))))] false) [6, 25, 26, 27] 0)
  (.cut q5u))
  (.cut q5v)))
def qab : ICode :=
 (.seq (.post (.region [
 (oN (.mv 2 (.c (.sl true 1 []))))] false) [0] 0)
  (.seq (.region [
 (oN (.mv 3 (.c (I 0))))] false)
  (.seq (.seq (.post (.region [
 (oM 9 0),
 (oN (.len 10 0 (.t 9))),
 (oN (.mv 11 (.c (I 0))))] false) [0, 3, 9, 10, 11] 0)
  (.cut q5t))
  (.cut q5w))))
def q5x : IFunc := { np := 1, res := [.t 2], own := true, trunc := true, body := qab }
/- 111: slices.IndexFunc[[]int,int] -/
def qac : ICode :=
 (.post (.seq (.region [
 (oN (.bin 9 .lss (.t 8) (.t 7)))] false)
  (.seq (.cond (.t 9) .skip
  (.exit 0))
  (.seq (.block 1 (.seq (.post (.region [
 (oM 10 8),
 (oM 5 10)] false) [0, 1, 5, 7, 8] 0)
  (.seq (.post (.region [
 (oM 11 1),
 (oM 12 0),
 (oM 13 5),
 (oA 14 12 13),
 (oL 15 14),
 (oN (.callv (some 16) true (.t 11) [(.t 15)]))] false) [0, 1, 5, 7, 8, 16] 0)
  (.cond (.t 16) (.seq (.post (.region [
 (oM 17 5),
 (oM 4 17)] false) [4] 0)
  .ret)
  .skip))))
  (.post (.region [
 (oN (.bin 18 .add (.t 8) (.c (I 1)))),
 (oM 8 18)] false) [0, 1, 7, 8] 0)))) [0, 1, 7, 8] 0)
def q5y : ICode :=
 (.post (.block 0 (.loop qac)) [] 0)
def q5z : ICode :=
 (.seq (.region [
 (oN (.mv 4 (.c (I (-1)))))] false)
  .ret)
def qad : ICode :=
 (.seq (.post (.region [
 (oN (.mv 4 (.c (I 0))))] false) [0, 1] 0)
  (.seq (.seq (.post (.region [
 (oM 6 0),
 (oN (.len 7 0 (.t 6))),
 (oN (.mv 8 (.c (I 0))))] false) [0, 1, 7, 8] 0)
  (.cut q5y))
  (.cut q5z)))
def q1y : IFunc := { np := 2, res := [.t 4], own := false, trunc := true, body := qad }
/- 117: slices.IndexFunc[[][]int,[]int] -/
/- 156: slices.Concat[[][]int,[]int] -/
/- 172: slices.ContainsFunc[[]int,int]#K -/
/- 181: math/bits.Len -/
/- 182: math/bits.Len32 -/
/- 183: math/bits.Len64 -/
/- 184: slices.Contains[[]int,int]#K -/
/- 185: slices.Contains[[]int,int] -/
/- 186: slices.Index[[]int,int] -/
/- 190: slices.SortFunc[[]int,int] -/
/- 192: slices.pdqsortCmpFunc[int] -/
/- 193: slices.nextPowerOfTwo -/
/- 194: (*slices.xorshift).Next -/
/- 195: slices.insertionSortCmpFunc[int] -/
/- 196: slices.heapSortCmpFunc[int] -/
/- 197: slices.breakPatternsCmpFunc[int] -/
/- 198: slices.choosePivotCmpFunc[int] -/
/- 199: slices.reverseRangeCmpFunc[int] -/
/- 200: slices.partialInsertionSortCmpFunc[int] -/
/- 201: slices.partitionEqualCmpFunc[int] -/
/- 202: slices.partitionCmpFunc[int] -/
/- 203: slices.siftDownCmpFunc[int] -/
/- 204: slices.medianAdjacentCmpFunc[int] -/
/- 205: slices.medianCmpFunc[int] -/
/- 206: slices.order2CmpFunc[int] -/
/- 208: slices.IndexFunc[[]int,int]#K -/
/- 209: slices.Index[[]int,int]#K -/
/- 216: slices.DeleteFunc[[]int,int] -/
/- 261: internal/stringslite.Cut -/
/- 270: internal/strconv.Itoa -/
/- 282: internal/stringslite.IndexByte -/
/- 283: strings.explode -/
/- 284: strings.Count -/
/- 285: strings.Index -/
/- 289: strconv.baseError -/
/- 290: strconv.bitSizeError -/
/- 294: internal/strconv.small -/
/- 296: internal/strconv.formatBase10 -/
/- 300: internal/bytealg.Cutover -/
/- 301: internal/bytealg.IndexRabinKarp[string] -/
/- 302: internal/bytealg.hashStr[string] -/
/- 304: unicode/utf8.DecodeRuneInString -/
/- 309: internal/strconv.log10Pow2 -/
/- 310: internal/strconv.isPowerOfTwo -/
/- 311: math/bits.TrailingZeros -/
/- 313: internal/strconv.lower -/
/- 314: internal/strconv.underscoreOK -/
/- 315: internal/strconv.bool2[int] -/
/- 343: slices.DeleteFunc[[]int,int]#K -/
/- 344: slices.Concat[[]int,int]#K -/
/- 358: (*strings.Builder).WriteByte -/
/- 360: slices.Index[[]string,string] -/
end Go.Lw
end

/-! The code of package Model for the small machine. Written by program (gen.py). -/
section
set_option maxRecDepth 10000
namespace Go.Lw
open Go
/- 34: latchwork/model.Inputs -/
/- 35: latchwork/model.States -/
/- 38: latchwork/model.Check -/
def qae : ICode :=
 (.post (.seq (.region [
 (oN (.bin 29 .lss (.t 28) (.t 27)))] false)
  (.seq (.cond (.t 29) .skip
  (.exit 0))
  (.seq (.block 1 (.seq (.post (.region [
 (oM 30 28),
 (oM 3 30)] false) [1, 3, 27, 28] 1)
  (.seq (.post (.region [
 (oF 31 1 0),
 (oL 32 31),
 (oM 33 3),
 (oN (.call (some 34) true 76 [(.t 32), (.t 33)])),
 (oM 4 34)] false) [1, 4, 27, 28] 1)
  (.seq (.post (.region [
 (oM 35 4),
 (oN (.bin 36 .neq (.t 35) (.c (I 0))))] false) [1, 4, 27, 28, 36] 1)
  (.cond (.t 36) (.seq (.post (.region [
 (oM 37 4),
 (oM 2 37)] false) [2] 0)
  .ret)
  .skip)))))
  (.post (.region [
 (oN (.bin 38 .add (.t 28) (.c (I 1)))),
 (oM 28 38)] false) [1, 27, 28] 1)))) [1, 27, 28] 1)
def q60 : ICode :=
 (.post (.block 0 (.loop qae)) [1] 1)
def q1j : ICode :=
 (.seq (.seq (.post (.region [
 (oN (.load 40 true 5 (.t 1))),
 (oN (.call (some 41) true 77 [(.t 40)])),
 (oM 39 41),
 (oN (.extract 42 (.t 39) 0)),
 (oN (.extract 43 (.t 39) 1)),
 (oM 5 42),
 (oM 6 43)] false) [1, 5, 6] 1)
  (.seq (.post (.region [
 (oM 44 5),
 (oN (.bin 45 .gtr (.t 44) (.c (I 6)))),
 (oM 46 45),
  ⟨.mv 47 (.t 6), some (46, false)⟩,
  ⟨.bin 48 .gtr (.t 47) (.c (I 10)), some (46, false)⟩,
 (oN (.pick 49 (.t 46) (.c (.bool true)) (.t 48)))] false) [1, 49] 1)
  (.cond (.t 49) (.seq (.post (.region [
 (oN (.mv 2 (.c (I 2))))] false) [2] 0)
  .ret)
  .skip)))
  (.seq (.post (.region [
 (oN (.load 50 true 5 (.t 1))),
 (oN (.buildT 51 [.sl true 6 [], .sl true 2 [], .sl true 2 [], .sl true 1 [], .sl true 1 [], .sl true 1 []] [(0, 5, (.t 50))])),
 (oN (.box 52 true true (.t 51))),
 (oM 7 52)] false) [7] 0)
  (.seq (.post (.region [
 (oM 53 7),
 (oN (.call (some 54) false 78 [(.t 53)]))] false) [7] 0)
  (.seq (.seq (.post (.region [
 (oM 55 7),
 (oN (.call (some 56) true 79 [(.t 55)])),
 (oM 8 56)] false) [7, 8] 0)
  (.seq (.post (.region [
 (oM 57 8),
 (oN (.bin 58 .neq (.t 57) (.c (I 0))))] false) [7, 8, 58] 0)
  (.cond (.t 58) (.seq (.post (.region [
 (oM 59 8),
 (oM 2 59)] false) [2] 0)
  .ret)
  .skip)))
  (.seq (.post (.region [
 (oM 60 7),
 (oN (.call (some 61) true 80 [(.t 60)])),
 (oM 2 61)] false) [2] 0)
  .ret)))))
def qaf : ICode :=
 (.seq (.post (.region [
 (oN (.box 1 false false (.t 0))),
 (oN (.mv 2 (.c (I 0))))] false) [1] 1)
  (.seq (.seq (.post (.region [
 (oF 9 1 0),
 (oL 10 9),
 (oN (.len 11 0 (.t 10))),
 (oN (.bin 12 .gtr (.t 11) (.c (I 80)))),
 (oM 13 12),
  ⟨.faddr 14 (.t 1) 3, some (13, false)⟩,
  ⟨.load 15 false 1 (.t 14), some (13, false)⟩,
  ⟨.len 16 0 (.t 15), some (13, false)⟩,
  ⟨.bin 17 .gtr (.t 16) (.c (I 8)), some (13, false)⟩,
 (oN (.pick 18 (.t 13) (.c (.bool true)) (.t 17))),
 (oM 19 18),
  ⟨.faddr 20 (.t 1) 4, some (19, false)⟩,
  ⟨.load 21 false 1 (.t 20), some (19, false)⟩,
  ⟨.len 22 0 (.t 21), some (19, false)⟩,
  ⟨.bin 23 .gtr (.t 22) (.c (I 8)), some (19, false)⟩,
 (oN (.pick 24 (.t 19) (.c (.bool true)) (.t 23)))] false) [1, 24] 1)
  (.cond (.t 24) (.seq (.post (.region [
 (oN (.mv 2 (.c (I 2))))] false) [2] 0)
  .ret)
  .skip))
  (.seq (.seq (.post (.region [
 (oF 25 1 0),
 (oL 26 25),
 (oN (.len 27 0 (.t 26))),
 (oN (.mv 28 (.c (I 0))))] false) [1, 27, 28] 1)
  (.cut q60))
  (.cut q1j))))
def qf : IFunc := { np := 1, res := [.t 2], own := false, trunc := true, body := qaf }
/- 42: latchwork/model.Cone -/
/- 71: latchwork/model.of -/
/- 76: latchwork/model.node -/
def q8 : ICode :=
 (.cond (.t 39) (.seq (.post (.region [
 (oN (.mv 4 (.c (I 1))))] false) [4] 0)
  .ret)
  .skip)
def q9 : ICode :=
 (.seq (.post (.region [
 (oN (.mv 4 (.c (I 0))))] false) [4] 0)
  .ret)
def qag : ICode :=
 (.post (.seq (.region [
 (oN (.bin 70 .lss (.t 69) (.t 68)))] false)
  (.seq (.cond (.t 70) .skip
  (.exit 1))
  (.seq (.block 2 (.seq (.post (.region [
 (oM 71 69),
 (oA 72 67 69),
 (oL 73 72),
 (oM 6 71),
 (oM 7 73)] false) [0, 1, 5, 6, 7, 67, 68, 69] 1)
  (.seq (.post (.region [
 (oM 74 6),
 (oF 75 5 0),
 (oL 76 75),
 (oN (.call (some 77) true 63 [(.t 76)])),
 (oN (.bin 78 .lss (.t 74) (.t 77))),
 (oM 79 78),
  ⟨.mv 80 (.t 7), some (79, true)⟩,
  ⟨.bin 81 .lss (.t 80) (.c (I 0)), some (79, true)⟩,
  ⟨.mv 82 (.t 81), some (79, true)⟩,
  ⟨.mv 83 (.t 7), some (82, false)⟩,
  ⟨.mv 84 (.t 1), some (82, false)⟩,
  ⟨.bin 85 .geq (.t 83) (.t 84), some (82, false)⟩,
  ⟨.pick 86 (.t 82) (.c (.bool true)) (.t 85), some (79, true)⟩,
 (oN (.pick 87 (.t 79) (.t 86) (.c (.bool false)))),
 (oM 88 87),
  ⟨.mv 89 (.t 6), some (88, false)⟩,
  ⟨.faddr 90 (.t 5) 0, some (88, false)⟩,
  ⟨.load 91 false 1 (.t 90), some (88, false)⟩,
  ⟨.call (some 92) true 63 [(.t 91)], some (88, false)⟩,
  ⟨.bin 93 .geq (.t 89) (.t 92), some (88, false)⟩,
  ⟨.mv 94 (.t 93), some (88, false)⟩,
  ⟨.mv 95 (.t 7), some (94, true)⟩,
  ⟨.bin 96 .neq (.t 95) (.c (I 0)), some (94, true)⟩,
  ⟨.pick 97 (.t 94) (.t 96) (.c (.bool false)), some (88, false)⟩,
 (oN (.pick 98 (.t 88) (.c (.bool true)) (.t 97)))] false) [0, 1, 5, 67, 68, 69, 98] 1)
  (.cond (.t 98) (.seq (.post (.region [
 (oN (.mv 4 (.c (I 4))))] false) [4] 0)
  .ret)
  .skip))))
  (.post (.region [
 (oN (.bin 99 .add (.t 69) (.c (I 1)))),
 (oM 69 99)] false) [0, 1, 5, 67, 68, 69] 1)))) [0, 1, 5, 67, 68, 69] 1)
def q61 : ICode :=
 (.post (.block 1 (.loop qag)) [0, 5] 1)
def q62 : ICode :=
 (.seq (.post (.region [
 (oF 100 5 0),
 (oL 101 100),
 (oF 102 5 1),
 (oL 103 102),
 (oF 104 5 5),
 (oL 105 104),
 (oM 106 0),
 (oN (.load 107 true 6 (.t 5))),
 (oN (.call (some 108) true 104 [(.t 106), (.t 107)])),
 (oN (.call (some 109) true 22 [(.t 101), (.t 103), (.t 105), (.t 108)])),
 (oM 4 109)] true) [4] 0)
  .ret)
def q5 : ICode :=
 (.seq (.seq (.post (.region [
 (oF 61 5 2),
 (oL 62 61),
 (oF 63 5 3),
 (oL 64 63),
 (oF 65 5 4),
 (oL 66 65),
 (oN (.buildSl 67 1 [(.t 62), (.t 64), (.t 66)])),
 (oN (.len 68 0 (.t 67))),
 (oN (.mv 69 (.c (I 0))))] false) [0, 1, 5, 67, 68, 69] 1)
  (.cut q61))
  (.cut q62))
def qah : ICode :=
 (.seq (.post (.region [
 (oN (.mv 4 (.c (I 0))))] false) [0, 1] 0)
  (.seq (.post (.region [
 (oM 8 0),
 (oM 9 1),
 (oN (.iaddr 10 6 none (.t 8) (.t 9))),
 (oN (.load 11 true 6 (.t 10))),
 (oN (.alloc 5 false (.agg [I 0, I 0, I 0, I 0, I 0, I 0]))),
 (oN (.store false 6 (.t 5) (.t 11)))] false) [0, 1, 5] 1)
  (.seq (.seq (.post (.region [
 (oF 12 5 0),
 (oL 13 12),
 (oN (.bin 14 .lss (.t 13) (.c (I 1)))),
 (oM 15 14),
  ⟨.faddr 16 (.t 5) 0, some (15, false)⟩,
  ⟨.load 17 false 1 (.t 16), some (15, false)⟩,
  ⟨.bin 18 .geq (.t 17) (.c (I 24)), some (15, false)⟩,
 (oN (.pick 19 (.t 15) (.c (.bool true)) (.t 18)))] false) [0, 1, 5, 19] 1)
  (.cond (.t 19) (.seq (.post (.region [
 (oN (.mv 4 (.c (I 7))))] false) [4] 0)
  .ret)
  .skip))
  (.seq (.seq (.post (.region [
 (oF 20 5 1),
 (oL 21 20),
 (oN (.call (some 22) true 62 [(.t 21)])),
 (oN (.un 23 .not (.t 22)))] false) [0, 1, 5, 23] 1)
  (.cond (.t 23) (.seq (.post (.region [
 (oN (.mv 4 (.c (I 3))))] false) [4] 0)
  .ret)
  .skip))
  (.seq (.seq (.post (.region [
 (oF 24 5 0),
 (oL 25 24),
 (oN (.call (some 26) true 103 [(.t 25)]))] false) [0, 1, 5, 26] 1)
  (.cond (.t 26) (.seq (.block 0 (.seq (.post (.region [
 (oF 28 5 0),
 (oL 29 28),
 (oN (.bin 30 .eql (.t 29) (.c (I 1)))),
 (oM 31 30),
  ⟨.faddr 32 (.t 5) 5, some (31, true)⟩,
  ⟨.load 33 false 1 (.t 32), some (31, true)⟩,
  ⟨.faddr 34 (.t 5) 1, some (31, true)⟩,
  ⟨.load 35 false 1 (.t 34), some (31, true)⟩,
  ⟨.call (some 36) true 65 [(.t 33), (.t 35)], some (31, true)⟩,
  ⟨.un 37 .not (.t 36), some (31, true)⟩,
 (oN (.pick 38 (.t 31) (.t 37) (.c (.bool false)))),
 (oM 27 38)] false) [5, 27] 1)
  (.cond (.t 27) (.seq (.post (.region [
 (oN (.mv 4 (.c (I 3))))] false) [4] 0)
  .ret)
  (.seq (.seq (.post (.region [
 (oF 40 5 0),
 (oL 41 40),
 (oN (.bin 42 .neq (.t 41) (.c (I 1)))),
 (oM 43 42),
  ⟨.faddr 44 (.t 5) 5, some (43, true)⟩,
  ⟨.load 45 false 1 (.t 44), some (43, true)⟩,
  ⟨.bin 46 .neq (.t 45) (.c (I 0)), some (43, true)⟩,
 (oN (.pick 47 (.t 43) (.t 46) (.c (.bool false)))),
 (oM 39 47)] false) [5, 39] 1)
  (.cond (.t 39) (.post .skip [39] 0)
  (.post (.post (.region [
 (oF 48 5 2),
 (oL 49 48),
 (oN (.bin 50 .neq (.t 49) (.c (I 0)))),
 (oM 51 50),
  ⟨.faddr 52 (.t 5) 3, some (51, false)⟩,
  ⟨.load 53 false 1 (.t 52), some (51, false)⟩,
  ⟨.bin 54 .neq (.t 53) (.c (I 0)), some (51, false)⟩,
 (oN (.pick 55 (.t 51) (.c (.bool true)) (.t 54))),
 (oM 56 55),
  ⟨.faddr 57 (.t 5) 4, some (56, false)⟩,
  ⟨.load 58 false 1 (.t 57), some (56, false)⟩,
  ⟨.bin 59 .neq (.t 58) (.c (I 0)), some (56, false)⟩,
 (oN (.pick 60 (.t 56) (.c (.bool true)) (.t 59))),
 (oM 39 60)] false) [39] 0) [39] 0)))
  (.cut q8)))))
  (.cut q9))
  .skip))
  (.cut q5))))))
def q63 : IFunc := { np := 2, res := [.t 4], own := false, trunc := true, body := qah }
/- 77: latchwork/model.Bits -/
def qai : ICode :=
 (.seq (.post (.region [
 (oN (.box 1 false false (.t 0))),
 (oN (.mv 2 (.c (I 0)))),
 (oN (.mv 3 (.c (I 0))))] false) [1] 1)
  (.seq (.post (.region [
 (oN (.load 4 true 5 (.t 1))),
 (oN (.load 5 true 5 (.t 1))),
 (oN (.call (some 6) true 101 [(.t 5), (.c (I 2))])),
 (oN (.call (some 7) true 105 [(.t 4), (.t 6)])),
 (oN (.load 8 true 5 (.t 1))),
 (oN (.load 9 true 5 (.t 1))),
 (oN (.call (some 10) true 101 [(.t 9), (.c (I 3))])),
 (oN (.call (some 11) true 105 [(.t 8), (.t 10)])),
 (oM 2 7),
 (oM 3 11)] true) [2, 3] 0)
  .ret))
def q64 : IFunc := { np := 1, res := [.t 2, .t 3], own := false, trunc := true, body := qai }
/- 78: (*latchwork/model.checker).lean -/
def qaj : ICode :=
 (.post (.seq (.region [
 (oN (.bin 29 .lss (.t 28) (.t 27)))] false)
  (.seq (.cond (.t 29) .skip
  (.exit 2))
  (.seq (.block 3 (.seq (.post (.region [
 (oA 30 26 28),
 (oL 31 30),
 (oM 6 31)] false) [0, 4, 6, 11, 12, 13, 26, 27, 28] 0)
  (.post (.region [
 (oM 32 4),
 (oM 33 32),
  ⟨.mv 34 (.t 0), some (33, false)⟩,
  ⟨.nilc 35 (.t 34), some (33, false)⟩,
  ⟨.faddr 36 (.t 35) 5, some (33, false)⟩,
  ⟨.load 37 false 1 (.t 36), some (33, false)⟩,
  ⟨.mv 38 (.t 6), some (33, false)⟩,
  ⟨.iaddr 39 1 none (.t 37) (.t 38), some (33, false)⟩,
  ⟨.load 40 false 1 (.t 39), some (33, false)⟩,
 (oN (.pick 41 (.t 33) (.c (.bool true)) (.t 40))),
 (oM 4 41)] false) [0, 4, 11, 12, 13, 26, 27, 28] 0)))
  (.post (.region [
 (oN (.bin 42 .add (.t 28) (.c (I 1)))),
 (oM 28 42)] false) [0, 4, 11, 12, 13, 26, 27, 28] 0)))) [0, 4, 11, 12, 13, 26, 27, 28] 0)
def q1z : ICode :=
 (.post (.block 2 (.loop qaj)) [0, 4, 11, 12, 13] 0)
def q22 : ICode :=
 (.post (.region [
 (oM 43 0),
 (oM 44 0),
 (oC 45 44),
 (oF 46 45 5),
 (oN (.loadT 47 (.t 46))),
 (oM 48 4),
 (oN (.buildSl 49 1 [(.t 48)])),
 (oN (.append 50 1 1 (.t 47) (.t 49))),
 (oC 51 43),
 (oF 52 51 5),
 (oN (.store true 1 (.t 52) (.t 50)))] false) [0, 11, 12, 13] 0)
def q15 : ICode :=
 (.post (.region [
 (oN (.bin 53 .add (.t 13) (.c (I 1)))),
 (oM 13 53)] false) [0, 11, 12, 13] 0)
def qak : ICode :=
 (.post (.seq (.region [
 (oN (.bin 14 .lss (.t 13) (.t 12)))] false)
  (.seq (.cond (.t 14) .skip
  (.exit 0))
  (.seq (.block 1 (.seq (.post (.region [
 (oN (.iaddr 15 6 none (.t 11) (.t 13))),
 (oN (.load 16 true 6 (.t 15))),
 (oN (.alloc 3 false (.agg [I 0, I 0, I 0, I 0, I 0, I 0]))),
 (oN (.store false 6 (.t 3) (.t 16)))] false) [0, 3, 11, 12, 13] 1)
  (.seq (.post (.region [
 (oF 17 3 0),
 (oL 18 17),
 (oN (.bin 19 .eql (.t 18) (.c (I 2)))),
 (oM 20 19),
  ⟨.faddr 21 (.t 3) 0, some (20, false)⟩,
  ⟨.load 22 false 1 (.t 21), some (20, false)⟩,
  ⟨.bin 23 .eql (.t 22) (.c (I 3)), some (20, false)⟩,
 (oN (.pick 24 (.t 20) (.c (.bool true)) (.t 23))),
 (oM 4 24)] false) [0, 3, 4, 11, 12, 13] 1)
  (.seq (.seq (.post (.region [
 (oN (.load 25 true 6 (.t 3))),
 (oN (.call (some 26) true 81 [(.t 25)])),
 (oN (.len 27 0 (.t 26))),
 (oN (.mv 28 (.c (I 0))))] false) [0, 4, 11, 12, 13, 26, 27, 28] 0)
  (.cut q1z))
  (.cut q22)))))
  (.cut q15)))) [0, 11, 12, 13] 0)
def q65 : ICode :=
 (.post (.block 0 (.loop qak)) [] 0)
def qal : ICode :=
 (.seq (.post (.region [
 (oM 7 0),
 (oC 8 7),
 (oF 9 8 0),
 (oF 10 9 0),
 (oL 11 10),
 (oN (.len 12 0 (.t 11))),
 (oN (.mv 13 (.c (I 0))))] false) [0, 11, 12, 13] 0)
  (.cut q65))
def q66 : IFunc := { np := 1, res := [], own := false, trunc := false, body := qal }
/- 79: (*latchwork/model.checker).pairs -/
def qam : ICode :=
 (.post (.seq (.region [
 (oN (.bin 33 .lss (.t 32) (.t 31)))] false)
  (.seq (.cond (.t 33) .skip
  (.exit 2))
  (.seq (.block 3 (.seq (.post (.region [
 (oN (.iaddr 34 2 none (.t 30) (.t 32))),
 (oN (.load 35 true 2 (.t 34))),
 (oN (.alloc 6 false (.agg [I 0, I 0]))),
 (oN (.store false 2 (.t 6) (.t 35)))] false) [0, 3, 6, 23, 24, 25, 30, 31, 32] 1)
  (.seq (.post (.region [
 (oM 36 0),
 (oN (.load 37 true 2 (.t 6))),
 (oM 38 3),
 (oN (.bin 39 .eql (.t 38) (.c (I 0)))),
 (oN (.call (some 40) true 106 [(.t 36), (.t 37), (.t 39)])),
 (oM 7 40)] false) [0, 3, 7, 23, 24, 25, 30, 31, 32] 0)
  (.seq (.post (.region [
 (oM 41 7),
 (oN (.bin 42 .neq (.t 41) (.c (I 0))))] false) [0, 3, 7, 23, 24, 25, 30, 31, 32, 42] 0)
  (.cond (.t 42) (.seq (.post (.region [
 (oM 43 7),
 (oM 2 43)] false) [2] 0)
  .ret)
  .skip)))))
  (.post (.region [
 (oN (.bin 44 .add (.t 32) (.c (I 1)))),
 (oM 32 44)] false) [0, 3, 23, 24, 25, 30, 31, 32] 0)))) [0, 3, 23, 24, 25, 30, 31, 32] 0)
def q67 : ICode :=
 (.post (.block 2 (.loop qam)) [0, 23, 24, 25] 0)
def q3p : ICode :=
 (.post (.region [
 (oN (.bin 45 .add (.t 25) (.c (I 1)))),
 (oM 25 45)] false) [0, 23, 24, 25] 0)
def qan : ICode :=
 (.post (.seq (.region [
 (oN (.bin 26 .lss (.t 25) (.t 24)))] false)
  (.seq (.cond (.t 26) .skip
  (.exit 0))
  (.seq (.block 1 (.seq (.post (.region [
 (oM 27 25),
 (oA 28 23 25),
 (oL 29 28),
 (oM 3 27),
 (oN (.tk 4 29))] false) [0, 3, 4, 23, 24, 25] 0)
  (.seq (.post (.region [
 (oM 30 4),
 (oN (.len 31 0 (.t 30))),
 (oN (.mv 32 (.c (I 0))))] false) [0, 3, 23, 24, 25, 30, 31, 32] 0)
  (.cut q67))))
  (.cut q3p)))) [0, 23, 24, 25] 0)
def q68 : ICode :=
 (.post (.block 0 (.loop qan)) [0] 0)
def qao : ICode :=
 (.post (.seq (.region [
 (oN (.bin 66 .lss (.t 65) (.t 64)))] false)
  (.seq (.cond (.t 66) .skip
  (.exit 6))
  (.seq (.block 7 (.seq (.post (.region [
 (oN (.iaddr 67 2 none (.t 63) (.t 65))),
 (oN (.load 68 true 2 (.t 67))),
 (oN (.alloc 12 false (.agg [I 0, I 0]))),
 (oN (.store false 2 (.t 12) (.t 68)))] false) [9, 10, 12, 56, 57, 58, 63, 64, 65] 1)
  (.post (.region [
 (oM 69 10),
 (oF 70 12 0),
 (oL 71 70),
 (oN (.mupd 0 (.t 69) (.t 71) (.c (.bool true))))] false) [9, 10, 56, 57, 58, 63, 64, 65] 0)))
  (.post (.region [
 (oN (.bin 72 .add (.t 65) (.c (I 1)))),
 (oM 65 72)] false) [9, 10, 56, 57, 58, 63, 64, 65] 0)))) [9, 10, 56, 57, 58, 63, 64, 65] 0)
def q69 : ICode :=
 (.post (.block 6 (.loop qao)) [9, 10, 56, 57, 58] 0)
def q6a : ICode :=
 (.seq (.post (.region [
 (oM 73 10),
 (oN (.len 74 2 (.t 73))),
 (oM 75 9),
 (oN (.len 76 0 (.t 75))),
 (oN (.bin 77 .lss (.t 74) (.t 76)))] false) [56, 57, 58, 77] 0)
  (.cond (.t 77) (.seq (.post (.region [
 (oN (.mv 2 (.c (I 6))))] false) [2] 0)
  .ret)
  .skip))
def q3q : ICode :=
 (.post (.region [
 (oN (.bin 78 .add (.t 58) (.c (I 1)))),
 (oM 58 78)] false) [56, 57, 58] 0)
def q6b : ICode :=
 (.post (.seq (.region [
 (oN (.bin 59 .lss (.t 58) (.t 57)))] false)
  (.seq (.cond (.t 59) .skip
  (.exit 4))
  (.seq (.block 5 (.seq (.post (.region [
 (oA 60 56 58),
 (oL 61 60),
 (oN (.tk 9 61))] false) [9, 56, 57, 58] 0)
  (.seq (.post (.region [
 (oN (.mkmap 62)),
 (oM 10 62)] false) [9, 10, 56, 57, 58] 0)
  (.seq (.seq (.post (.region [
 (oM 63 9),
 (oN (.len 64 0 (.t 63))),
 (oN (.mv 65 (.c (I 0))))] false) [9, 10, 56, 57, 58, 63, 64, 65] 0)
  (.cut q69))
  (.cut q6a)))))
  (.cut q3q)))) [56, 57, 58] 0)
def q6c : ICode :=
 (.post (.block 4 (.loop q6b)) [] 0)
def q3r : ICode :=
 (.seq (.region [
 (oN (.mv 2 (.c (I 0))))] false)
  .ret)
def q3s : ICode :=
 (.seq (.seq (.post (.region [
 (oM 46 0),
 (oC 47 46),
 (oF 48 47 0),
 (oF 49 48 1),
 (oL 50 49),
 (oM 51 0),
 (oC 52 51),
 (oF 53 52 0),
 (oF 54 53 2),
 (oL 55 54),
 (oN (.buildSl 56 1 [(.t 50), (.t 55)])),
 (oN (.len 57 0 (.t 56))),
 (oN (.mv 58 (.c (I 0))))] true) [56, 57, 58] 0)
  (.cut q6c))
  (.cut q3r))
def qap : ICode :=
 (.seq (.post (.region [
 (oN (.mv 2 (.c (I 0))))] false) [0] 0)
  (.seq (.seq (.post (.region [
 (oM 13 0),
 (oC 14 13),
 (oF 15 14 0),
 (oF 16 15 1),
 (oL 17 16),
 (oM 18 0),
 (oC 19 18),
 (oF 20 19 0),
 (oF 21 20 2),
 (oL 22 21),
 (oN (.buildSl 23 1 [(.t 17), (.t 22)])),
 (oN (.len 24 0 (.t 23))),
 (oN (.mv 25 (.c (I 0))))] true) [0, 23, 24, 25] 0)
  (.cut q68))
  (.cut q3s)))
def q16 : IFunc := { np := 1, res := [.t 2], own := false, trunc := true, body := qap }
/- 80: (*latchwork/model.checker).marks -/
def qaq : ICode :=
 (.seq (.post (.region [
 (oN (.box 1 true false (.t 0))),
 (oN (.mv 2 (.c (I 0))))] false) [1] 0)
  (.seq (.seq (.post (.region [
 (oL 4 1),
 (oC 5 4),
 (oF 6 5 0),
 (oF 7 6 2),
 (oL 8 7),
 (oN (.len 9 0 (.t 8))),
 (oL 10 1),
 (oC 11 10),
 (oF 12 11 0),
 (oN (.load 13 true 5 (.t 12))),
 (oN (.call (some 14) true 101 [(.t 13), (.c (I 3))])),
 (oN (.len 15 0 (.t 14))),
 (oN (.bin 16 .lss (.t 9) (.t 15)))] true) [1, 16] 0)
  (.cond (.t 16) (.seq (.post (.region [
 (oN (.mv 2 (.c (I 5))))] false) [2] 0)
  .ret)
  .skip))
  (.seq (.post (.region [
 (oL 17 1),
 (oC 18 17),
 (oF 19 18 0),
 (oF 20 19 3),
 (oL 21 20),
 (oL 22 1),
 (oC 23 22),
 (oF 24 23 0),
 (oF 25 24 4),
 (oL 26 25),
 (oN (.buildSl 27 1 [(.t 21), (.t 26)])),
 (oN (.call (some 28) true 107 [(.t 27)])),
 (oN (.tk 3 28))] true) [1, 3] 0)
  (.seq (.seq (.post (.region [
 (oM 29 3),
 (oN (.mkfn 30 108 [(.t 1)])),
 (oN (.call (some 31) true 86 [(.t 29), (.t 30)]))] false) [1, 3, 31] 0)
  (.cond (.t 31) (.seq (.post (.region [
 (oN (.mv 2 (.c (I 5))))] false) [2] 0)
  .ret)
  .skip))
  (.seq (.seq (.post (.region [
 (oM 32 3),
 (oN (.mkfn 33 109 [(.t 1)])),
 (oN (.call (some 34) true 86 [(.t 32), (.t 33)]))] false) [34] 0)
  (.cond (.t 34) (.seq (.post (.region [
 (oN (.mv 2 (.c (I 1))))] false) [2] 0)
  .ret)
  .skip))
  (.seq (.post (.region [
 (oN (.mv 2 (.c (I 0))))] false) [2] 0)
  .ret))))))
def qn : IFunc := { np := 1, res := [.t 2], own := false, trunc := true, body := qaq }
/- 81: latchwork/model.Args -/
def qar : ICode :=
 (.seq (.post (.region [
 (oN (.box 1 false false (.t 0))),
 (oN (.mv 2 (.c (.sl true 1 []))))] false) [1] 1)
  (.seq (.post (.region [
 (oF 3 1 2),
 (oL 4 3),
 (oF 5 1 3),
 (oL 6 5),
 (oF 7 1 4),
 (oL 8 7),
 (oN (.buildSl 9 1 [(.t 4), (.t 6), (.t 8)])),
 (oF 10 1 0),
 (oL 11 10),
 (oN (.call (some 12) true 63 [(.t 11)])),
 (oN (.slice 13 1 (.t 9) none (some (.t 12)))),
 (oN (.tk 2 13))] true) [2] 0)
  .ret))
def qo : IFunc := { np := 1, res := [.t 2], own := true, trunc := true, body := qar }
/- 101: latchwork/model.Of -/
def q23 : ICode :=
 (.post (.region [
 (oN (.bin 24 .add (.t 11) (.c (I 1)))),
 (oM 11 24)] false) [1, 5, 9, 10, 11] 0)
def qas : ICode :=
 (.post (.seq (.region [
 (oN (.bin 12 .lss (.t 11) (.t 10)))] false)
  (.seq (.cond (.t 12) .skip
  (.exit 0))
  (.seq (.block 1 (.seq (.post (.region [
 (oM 13 11),
 (oN (.iaddr 14 6 none (.t 9) (.t 11))),
 (oN (.load 15 true 6 (.t 14))),
 (oN (.alloc 7 false (.agg [I 0, I 0, I 0, I 0, I 0, I 0]))),
 (oM 6 13),
 (oN (.store false 6 (.t 7) (.t 15)))] false) [1, 5, 6, 7, 9, 10, 11] 1)
  (.seq (.post (.region [
 (oF 16 7 0),
 (oL 17 16),
 (oM 18 1),
 (oN (.bin 19 .eql (.t 17) (.t 18)))] false) [1, 5, 6, 9, 10, 11, 19] 0)
  (.cond (.t 19) (.post (.post (.region [
 (oN (.tk 20 5)),
 (oM 21 6),
 (oN (.buildSl 22 1 [(.t 21)])),
 (oN (.append 23 1 8 (.t 20) (.t 22))),
 (oN (.tk 5 23))] false) [1, 5, 9, 10, 11] 0) [1, 5, 9, 10, 11] 0)
  (.post .skip [1, 5, 9, 10, 11] 0)))))
  (.cut q23)))) [1, 5, 9, 10, 11] 0)
def q6d : ICode :=
 (.post (.block 0 (.loop qas)) [5] 0)
def q6e : ICode :=
 (.seq (.post (.region [
 (oM 25 5),
 (oN (.tk 4 25))] false) [4] 0)
  .ret)
def qat : ICode :=
 (.seq (.post (.region [
 (oN (.box 2 false false (.t 0))),
 (oN (.mv 4 (.c (.sl true 1 []))))] false) [1, 2] 1)
  (.seq (.region [
 (oN (.mv 5 (.c (.sl true 1 []))))] false)
  (.seq (.seq (.post (.region [
 (oF 8 2 0),
 (oL 9 8),
 (oN (.len 10 0 (.t 9))),
 (oN (.mv 11 (.c (I 0))))] false) [1, 5, 9, 10, 11] 0)
  (.cut q6d))
  (.cut q6e))))
def q6f : IFunc := { np := 2, res := [.t 4], own := false, trunc := true, body := qat }
/- 103: latchwork/model.leaf -/
def qau : ICode :=
 (.seq (.post (.region [
 (oN (.mv 2 (.c (.bool false))))] false) [0] 0)
  (.seq (.post (.region [
 (oM 3 0),
 (oN (.bin 4 .geq (.t 3) (.c (I 1)))),
 (oM 5 4),
  ⟨.mv 6 (.t 0), some (5, true)⟩,
  ⟨.bin 7 .leq (.t 6) (.c (I 3)), some (5, true)⟩,
 (oN (.pick 8 (.t 5) (.t 7) (.c (.bool false)))),
 (oM 2 8)] false) [2] 0)
  .ret))
def q24 : IFunc := { np := 1, res := [.t 2], own := false, trunc := true, body := qau }
/- 104: latchwork/model.Widths -/
def qav : ICode :=
 (.post (.seq (.region [
 (oN (.bin 12 .lss (.t 11) (.t 10)))] false)
  (.seq (.cond (.t 12) .skip
  (.exit 0))
  (.seq (.block 1 (.seq (.post (.region [
 (oM 13 11),
 (oA 14 9 11),
 (oL 15 14),
 (oM 6 13),
 (oM 7 15)] false) [0, 4, 5, 6, 7, 9, 10, 11] 3)
  (.post (.region [
 (oM 16 6),
 (oM 17 0),
 (oM 18 7),
 (oN (.iaddr 19 6 none (.t 17) (.t 18))),
 (oF 20 19 1),
 (oL 21 20),
 (oN (.iaddr 22 1 (some 3) (.t 5) (.t 16))),
 (oN (.store false 1 (.t 22) (.t 21)))] false) [0, 4, 5, 9, 10, 11] 3)))
  (.post (.region [
 (oN (.bin 23 .add (.t 11) (.c (I 1)))),
 (oM 11 23)] false) [0, 4, 5, 9, 10, 11] 3)))) [0, 4, 5, 9, 10, 11] 3)
def q3t : ICode :=
 (.post (.block 0 (.loop qav)) [4, 5] 3)
def q6g : ICode :=
 (.seq (.post (.region [
 (oN (.load 24 true 3 (.t 5))),
 (oN (.store false 3 (.t 4) (.t 24)))] false) [4] 2)
  .ret)
def qaw : ICode :=
 (.seq (.post (.region [
 (oN (.box 3 false false (.t 1))),
 (oN (.alloc 4 false (.agg [I 0, I 0, I 0])))] false) [0, 3, 4] 2)
  (.seq (.region [
 (oN (.alloc 5 false (.agg [I 0, I 0, I 0])))] false)
  (.seq (.seq (.post (.region [
 (oN (.load 8 true 6 (.t 3))),
 (oN (.call (some 9) true 81 [(.t 8)])),
 (oN (.len 10 0 (.t 9))),
 (oN (.mv 11 (.c (I 0))))] false) [0, 4, 5, 9, 10, 11] 3)
  (.cut q3t))
  (.cut q6g))))
def q6h : IFunc := { np := 2, res := [.cell 4 true 3], own := false, trunc := true, body := qaw }
/- 105: latchwork/model.bits -/
def qax : ICode :=
 (.post (.seq (.region [
 (oN (.bin 11 .lss (.t 10) (.t 9)))] false)
  (.seq (.cond (.t 11) .skip
  (.exit 0))
  (.seq (.block 1 (.seq (.post (.region [
 (oA 12 8 10),
 (oL 13 12),
 (oM 7 13)] false) [2, 5, 7, 8, 9, 10] 1)
  (.post (.region [
 (oM 14 5),
 (oF 15 2 0),
 (oL 16 15),
 (oM 17 7),
 (oN (.iaddr 18 6 none (.t 16) (.t 17))),
 (oF 19 18 1),
 (oL 20 19),
 (oN (.bin 21 .add (.t 14) (.t 20))),
 (oM 5 21)] false) [2, 5, 8, 9, 10] 1)))
  (.post (.region [
 (oN (.bin 22 .add (.t 10) (.c (I 1)))),
 (oM 10 22)] false) [2, 5, 8, 9, 10] 1)))) [2, 5, 8, 9, 10] 1)
def q6i : ICode :=
 (.post (.block 0 (.loop qax)) [5] 0)
def q6j : ICode :=
 (.seq (.post (.region [
 (oM 23 5),
 (oM 4 23)] false) [4] 0)
  .ret)
def qay : ICode :=
 (.seq (.post (.region [
 (oN (.box 2 false false (.t 0))),
 (oN (.mv 4 (.c (I 0))))] false) [1, 2] 1)
  (.seq (.region [
 (oN (.mv 5 (.c (I 0))))] false)
  (.seq (.seq (.post (.region [
 (oM 8 1),
 (oN (.len 9 0 (.t 8))),
 (oN (.mv 10 (.c (I 0))))] false) [2, 5, 8, 9, 10] 1)
  (.cut q6i))
  (.cut q6j))))
def q6k : IFunc := { np := 2, res := [.t 4], own := false, trunc := true, body := qay }
/- 106: (*latchwork/model.checker).pair -/
def qaz : ICode :=
 (.seq (.post (.region [
 (oN (.box 4 false false (.t 1))),
 (oN (.mv 6 (.c (I 0))))] false) [0, 2, 4] 1)
  (.seq (.block 0 (.seq (.post (.region [
 (oM 8 0),
 (oF 9 4 0),
 (oL 10 9),
 (oN (.call (some 11) true 118 [(.t 8), (.t 10)])),
 (oN (.un 12 .not (.t 11))),
 (oM 13 12),
  ⟨.mv 14 (.t 0), some (13, false)⟩,
  ⟨.faddr 15 (.t 4) 1, some (13, false)⟩,
  ⟨.load 16 false 1 (.t 15), some (13, false)⟩,
  ⟨.call (some 17) true 118 [(.t 14), (.t 16)], some (13, false)⟩,
  ⟨.un 18 .not (.t 17), some (13, false)⟩,
 (oN (.pick 19 (.t 13) (.c (.bool true)) (.t 18))),
 (oM 20 19),
  ⟨.mv 21 (.t 0), some (20, false)⟩,
  ⟨.nilc 22 (.t 21), some (20, false)⟩,
  ⟨.faddr 23 (.t 22) 0, some (20, false)⟩,
  ⟨.faddr 24 (.t 23) 0, some (20, false)⟩,
  ⟨.load 25 false 1 (.t 24), some (20, false)⟩,
  ⟨.faddr 26 (.t 4) 0, some (20, false)⟩,
  ⟨.load 27 false 1 (.t 26), some (20, false)⟩,
  ⟨.iaddr 28 6 none (.t 25) (.t 27), some (20, false)⟩,
  ⟨.faddr 29 (.t 28) 0, some (20, false)⟩,
  ⟨.load 30 false 1 (.t 29), some (20, false)⟩,
  ⟨.bin 31 .neq (.t 30) (.c (I 3)), some (20, false)⟩,
 (oN (.pick 32 (.t 20) (.c (.bool true)) (.t 31))),
 (oM 7 32)] true) [0, 2, 4, 7] 1)
  (.cond (.t 7) (.seq (.post (.region [
 (oN (.mv 6 (.c (I 5))))] false) [6] 0)
  .ret)
  (.seq (.post (.region [
 (oM 34 0),
 (oC 35 34),
 (oF 36 35 0),
 (oF 37 36 0),
 (oL 38 37),
 (oF 39 4 0),
 (oL 40 39),
 (oN (.iaddr 41 6 none (.t 38) (.t 40))),
 (oF 42 41 1),
 (oL 43 42),
 (oM 44 0),
 (oC 45 44),
 (oF 46 45 0),
 (oF 47 46 0),
 (oL 48 47),
 (oF 49 4 1),
 (oL 50 49),
 (oN (.iaddr 51 6 none (.t 48) (.t 50))),
 (oF 52 51 1),
 (oL 53 52),
 (oN (.bin 54 .neq (.t 43) (.t 53))),
 (oM 33 54)] true) [0, 2, 4, 33] 1)
  (.cond (.t 33) (.seq (.post (.region [
 (oN (.mv 6 (.c (I 1))))] false) [6] 0)
  .ret)
  (.seq (.post (.region [
 (oM 56 2),
 (oM 57 56),
  ⟨.mv 58 (.t 0), some (57, true)⟩,
  ⟨.nilc 59 (.t 58), some (57, true)⟩,
  ⟨.faddr 60 (.t 59) 5, some (57, true)⟩,
  ⟨.load 61 false 1 (.t 60), some (57, true)⟩,
  ⟨.faddr 62 (.t 4) 1, some (57, true)⟩,
  ⟨.load 63 false 1 (.t 62), some (57, true)⟩,
  ⟨.iaddr 64 1 none (.t 61) (.t 63), some (57, true)⟩,
  ⟨.load 65 false 1 (.t 64), some (57, true)⟩,
 (oN (.pick 66 (.t 57) (.t 65) (.c (.bool false)))),
 (oM 55 66)] true) [55] 0)
  (.cond (.t 55) (.seq (.post (.region [
 (oN (.mv 6 (.c (I 4))))] false) [6] 0)
  .ret)
  .skip)))))))
  (.seq (.post (.region [
 (oN (.mv 6 (.c (I 0))))] false) [6] 0)
  .ret)))
def q6l : IFunc := { np := 3, res := [.t 6], own := false, trunc := true, body := qaz }
/- 108: (*latchwork/model.checker).marks$1 -/
def qb0 : ICode :=
 (.seq (.post (.region [
 (oN (.mv 3 (.c (.bool false))))] false) [0, 1] 0)
  (.seq (.post (.region [
 (oL 4 1),
 (oM 5 0),
 (oN (.call (some 6) true 118 [(.t 4), (.t 5)])),
 (oN (.un 7 .not (.t 6))),
 (oM 3 7)] false) [3] 0)
  .ret))
def q6m : IFunc := { np := 2, res := [.t 3], own := false, trunc := true, body := qb0 }
/- 109: (*latchwork/model.checker).marks$2 -/
def qb1 : ICode :=
 (.seq (.post (.region [
 (oN (.mv 3 (.c (.bool false))))] false) [0, 1] 0)
  (.seq (.post (.region [
 (oL 4 1),
 (oC 5 4),
 (oF 6 5 0),
 (oF 7 6 0),
 (oL 8 7),
 (oM 9 0),
 (oN (.iaddr 10 6 none (.t 8) (.t 9))),
 (oF 11 10 1),
 (oL 12 11),
 (oN (.bin 13 .neq (.t 12) (.c (I 1)))),
 (oM 3 13)] false) [3] 0)
  .ret))
def q6n : IFunc := { np := 2, res := [.t 3], own := false, trunc := true, body := qb1 }
/- 118: (*latchwork/model.checker).is -/
def qb2 : ICode :=
 (.seq (.post (.region [
 (oN (.mv 4 (.c (.bool false))))] false) [0, 1] 0)
  (.seq (.post (.region [
 (oM 5 1),
 (oN (.bin 6 .geq (.t 5) (.c (I 0)))),
 (oM 7 6),
  ⟨.mv 8 (.t 1), some (7, true)⟩,
  ⟨.mv 9 (.t 0), some (7, true)⟩,
  ⟨.nilc 10 (.t 9), some (7, true)⟩,
  ⟨.faddr 11 (.t 10) 0, some (7, true)⟩,
  ⟨.faddr 12 (.t 11) 0, some (7, true)⟩,
  ⟨.load 13 false 1 (.t 12), some (7, true)⟩,
  ⟨.len 14 0 (.t 13), some (7, true)⟩,
  ⟨.bin 15 .lss (.t 8) (.t 14), some (7, true)⟩,
 (oN (.pick 16 (.t 7) (.t 15) (.c (.bool false)))),
 (oM 4 16)] false) [4] 0)
  .ret))
def q25 : IFunc := { np := 2, res := [.t 4], own := false, trunc := true, body := qb2 }
/- 120: latchwork/model.Args#K -/
end Go.Lw
end

/-! The code of package Ref for the small machine. Written by program (gen.py). -/
section
set_option maxRecDepth 10000
namespace Go.Lw
open Go
/- 2: latchwork/latchworkref.CheckGraph -/
/- 3: latchwork/latchworkref.IsLit -/
/- 4: latchwork/latchworkref.AndOf -/
/- 7: latchwork/latchworkref.SameGraph -/
/- 10: latchwork/latchworkref.AreLits -/
/- 11: latchwork/latchworkref.NodesOf -/
/- 12: latchwork/latchworkref.LitOf -/
/- 17: latchwork/latchworkref.ClausesOf -/
/- 23: latchwork/latchworkref.FitOf -/
def qb3 : ICode :=
 (.post (.seq (.seq (.post (.region [
 (oM 19 10),
 (oN (.bin 20 .lss (.t 19) (.c (I 3))))] false) [0, 1, 2, 7, 9, 10, 20] 1)
  (.cond (.t 20) .skip
  (.exit 0)))
  (.seq (.block 1 (.seq (.post (.region [
 (oM 23 10),
 (oM 24 9),
 (oN (.bin 25 .lss (.t 23) (.t 24))),
 (oM 26 25),
  ⟨.mv 27 (.t 10), some (26, true)⟩,
  ⟨.iaddr 28 1 (some 3) (.t 7) (.t 27), some (26, true)⟩,
  ⟨.load 29 false 1 (.t 28), some (26, true)⟩,
  ⟨.call (some 30) true 50 [(.t 29), (.c (I 1)), (.c (I 8))], some (26, true)⟩,
  ⟨.un 31 .not (.t 30), some (26, true)⟩,
 (oN (.pick 32 (.t 26) (.t 31) (.c (.bool false)))),
 (oM 33 32),
  ⟨.mv 34 (.t 10), some (33, false)⟩,
  ⟨.mv 35 (.t 9), some (33, false)⟩,
  ⟨.bin 36 .geq (.t 34) (.t 35), some (33, false)⟩,
  ⟨.mv 37 (.t 36), some (33, false)⟩,
  ⟨.mv 38 (.t 10), some (37, true)⟩,
  ⟨.iaddr 39 1 (some 3) (.t 7) (.t 38), some (37, true)⟩,
  ⟨.load 40 false 1 (.t 39), some (37, true)⟩,
  ⟨.bin 41 .neq (.t 40) (.c (I 0)), some (37, true)⟩,
  ⟨.pick 42 (.t 37) (.t 41) (.c (.bool false)), some (33, false)⟩,
 (oN (.pick 43 (.t 33) (.c (.bool true)) (.t 42)))] false) [0, 1, 2, 7, 9, 10, 43] 1)
  (.cond (.t 43) (.seq (.post (.region [
 (oN (.mv 8 (.c (I 3))))] false) [8] 0)
  .ret)
  .skip)))
  (.post (.region [
 (oM 21 10),
 (oN (.bin 22 .add (.t 21) (.c (I 1)))),
 (oM 10 22)] false) [0, 1, 2, 7, 9, 10] 1))) [0, 1, 2, 7, 9, 10] 1)
def q6o : ICode :=
 (.post (.block 0 (.loop qb3)) [0, 1, 2, 7] 1)
def qa : ICode :=
 (.seq (.seq (.post (.region [
 (oM 129 11),
 (oN (.un 130 .not (.t 129))),
 (oM 131 130),
  ⟨.mv 132 (.t 0), some (131, false)⟩,
  ⟨.bin 133 .neq (.t 132) (.c (I 21)), some (131, false)⟩,
  ⟨.mv 134 (.t 133), some (131, false)⟩,
  ⟨.mv 135 (.t 2), some (134, true)⟩,
  ⟨.bin 136 .neq (.t 135) (.c (I 0)), some (134, true)⟩,
  ⟨.pick 137 (.t 134) (.t 136) (.c (.bool false)), some (131, false)⟩,
 (oN (.pick 138 (.t 131) (.c (.bool true)) (.t 137)))] false) [138] 0)
  (.cond (.t 138) (.seq (.post (.region [
 (oN (.mv 8 (.c (I 1))))] false) [8] 0)
  .ret)
  .skip))
  (.seq (.post (.region [
 (oN (.mv 8 (.c (I 0))))] false) [8] 0)
  .ret))
def q3u : ICode :=
 (.seq (.post (.region [
 (oN (.mv 11 (.c (.bool false))))] false) [0, 1, 2, 7] 1)
  (.seq (.block 2 (.seq (.post (.region [
 (oM 49 0),
 (oN (.bin 50 .eql (.t 49) (.c (I 4)))),
 (oM 51 50),
  ⟨.mv 52 (.t 0), some (51, false)⟩,
  ⟨.bin 53 .eql (.t 52) (.c (I 5)), some (51, false)⟩,
 (oN (.pick 54 (.t 51) (.c (.bool true)) (.t 53))),
 (oM 48 54)] false) [0, 1, 2, 7, 48] 1)
  (.cond (.t 48) (.post (.post (.region [
 (oN (.iaddr 55 1 (some 3) (.t 7) (.c (I 0)))),
 (oL 56 55),
 (oM 57 1),
 (oN (.bin 58 .eql (.t 56) (.t 57))),
 (oM 11 58)] false) [0, 2, 11] 0) [0, 2, 11] 0)
  (.post (.seq (.post (.region [
 (oM 60 0),
 (oN (.call (some 61) true 50 [(.t 60), (.c (I 6)), (.c (I 15))])),
 (oM 59 61)] false) [0, 1, 2, 7, 59] 1)
  (.cond (.t 59) (.post (.post (.region [
 (oN (.iaddr 62 1 (some 3) (.t 7) (.c (I 0)))),
 (oL 63 62),
 (oM 64 1),
 (oN (.bin 65 .eql (.t 63) (.t 64))),
 (oM 66 65),
  ⟨.iaddr 67 1 (some 3) (.t 7) (.c (I 1)), some (66, true)⟩,
  ⟨.load 68 false 1 (.t 67), some (66, true)⟩,
  ⟨.mv 69 (.t 1), some (66, true)⟩,
  ⟨.bin 70 .eql (.t 68) (.t 69), some (66, true)⟩,
 (oN (.pick 71 (.t 66) (.t 70) (.c (.bool false)))),
 (oM 11 71)] false) [0, 2, 11] 0) [0, 2, 11] 0)
  (.post (.seq (.post (.region [
 (oM 73 0),
 (oN (.call (some 74) true 50 [(.t 73), (.c (I 16)), (.c (I 18))])),
 (oM 72 74)] false) [0, 1, 2, 7, 72] 1)
  (.cond (.t 72) (.post (.post (.region [
 (oN (.iaddr 75 1 (some 3) (.t 7) (.c (I 0)))),
 (oL 76 75),
 (oN (.iaddr 77 1 (some 3) (.t 7) (.c (I 1)))),
 (oL 78 77),
 (oN (.bin 79 .eql (.t 76) (.t 78))),
 (oM 80 79),
  ⟨.mv 81 (.t 1), some (80, true)⟩,
  ⟨.bin 82 .eql (.t 81) (.c (I 1)), some (80, true)⟩,
 (oN (.pick 83 (.t 80) (.t 82) (.c (.bool false)))),
 (oM 11 83)] false) [0, 2, 11] 0) [0, 2, 11] 0)
  (.post (.seq (.post (.region [
 (oM 85 0),
 (oN (.bin 86 .eql (.t 85) (.c (I 19)))),
 (oM 84 86)] false) [0, 1, 2, 7, 84] 1)
  (.cond (.t 84) (.post (.post (.region [
 (oN (.iaddr 87 1 (some 3) (.t 7) (.c (I 0)))),
 (oL 88 87),
 (oN (.bin 89 .eql (.t 88) (.c (I 1)))),
 (oM 90 89),
  ⟨.iaddr 91 1 (some 3) (.t 7) (.c (I 1)), some (90, true)⟩,
  ⟨.load 92 false 1 (.t 91), some (90, true)⟩,
  ⟨.mv 93 (.t 1), some (90, true)⟩,
  ⟨.bin 94 .eql (.t 92) (.t 93), some (90, true)⟩,
 (oN (.pick 95 (.t 90) (.t 94) (.c (.bool false)))),
 (oM 96 95),
  ⟨.iaddr 97 1 (some 3) (.t 7) (.c (I 2)), some (96, true)⟩,
  ⟨.load 98 false 1 (.t 97), some (96, true)⟩,
  ⟨.mv 99 (.t 1), some (96, true)⟩,
  ⟨.bin 100 .eql (.t 98) (.t 99), some (96, true)⟩,
 (oN (.pick 101 (.t 96) (.t 100) (.c (.bool false)))),
 (oM 11 101)] false) [0, 2, 11] 0) [0, 2, 11] 0)
  (.post (.seq (.post (.region [
 (oM 103 0),
 (oN (.bin 104 .eql (.t 103) (.c (I 20)))),
 (oM 102 104)] false) [0, 1, 2, 7, 102] 1)
  (.cond (.t 102) (.post (.post (.region [
 (oN (.iaddr 105 1 (some 3) (.t 7) (.c (I 0)))),
 (oL 106 105),
 (oN (.iaddr 107 1 (some 3) (.t 7) (.c (I 1)))),
 (oL 108 107),
 (oN (.bin 109 .add (.t 106) (.t 108))),
 (oM 110 1),
 (oN (.bin 111 .eql (.t 109) (.t 110))),
 (oM 11 111)] false) [0, 2, 11] 0) [0, 2, 11] 0)
  (.post (.seq (.post (.region [
 (oM 113 0),
 (oN (.bin 114 .eql (.t 113) (.c (I 21)))),
 (oM 112 114)] false) [0, 1, 2, 7, 112] 1)
  (.cond (.t 112) (.post (.post (.region [
 (oM 115 2),
 (oN (.bin 116 .geq (.t 115) (.c (I 0)))),
 (oM 117 116),
  ⟨.mv 118 (.t 2), some (117, true)⟩,
  ⟨.bin 119 .leq (.t 118) (.c (I 8)), some (117, true)⟩,
 (oN (.pick 120 (.t 117) (.t 119) (.c (.bool false)))),
 (oM 121 120),
  ⟨.mv 122 (.t 2), some (121, true)⟩,
  ⟨.mv 123 (.t 1), some (121, true)⟩,
  ⟨.bin 124 .add (.t 122) (.t 123), some (121, true)⟩,
  ⟨.iaddr 125 1 (some 3) (.t 7) (.c (I 0)), some (121, true)⟩,
  ⟨.load 126 false 1 (.t 125), some (121, true)⟩,
  ⟨.bin 127 .leq (.t 124) (.t 126), some (121, true)⟩,
 (oN (.pick 128 (.t 121) (.t 127) (.c (.bool false)))),
 (oM 11 128)] false) [0, 2, 11] 0) [0, 2, 11] 0)
  (.post (.post (.region [
 (oM 44 1),
 (oN (.iaddr 45 1 (some 3) (.t 7) (.c (I 0)))),
 (oL 46 45),
 (oN (.bin 47 .geq (.t 44) (.t 46))),
 (oM 11 47)] false) [0, 2, 11] 0) [0, 2, 11] 0))) [0, 2, 11] 0))) [0, 2, 11] 0))) [0, 2, 11] 0))) [0, 2, 11] 0))) [0, 2, 11] 0))))
  (.cut qa)))
def qb4 : ICode :=
 (.seq (.post (.region [
 (oN (.box 7 false false (.t 3))),
 (oN (.mv 8 (.c (I 0))))] false) [0, 1, 2, 7] 1)
  (.seq (.post (.region [
 (oM 12 0),
 (oN (.call (some 13) true 26 [(.t 12)])),
 (oM 9 13)] false) [0, 1, 2, 7, 9] 1)
  (.seq (.seq (.post (.region [
 (oM 14 9),
 (oN (.bin 15 .eql (.t 14) (.c (I 0))))] false) [0, 1, 2, 7, 9, 15] 1)
  (.cond (.t 15) (.seq (.post (.region [
 (oN (.mv 8 (.c (I 7))))] false) [8] 0)
  .ret)
  .skip))
  (.seq (.seq (.post (.region [
 (oM 16 1),
 (oN (.call (some 17) true 50 [(.t 16), (.c (I 1)), (.c (I 8))])),
 (oN (.un 18 .not (.t 17)))] false) [0, 1, 2, 7, 9, 18] 1)
  (.cond (.t 18) (.seq (.post (.region [
 (oN (.mv 8 (.c (I 3))))] false) [8] 0)
  .ret)
  .skip))
  (.seq (.seq (.post (.region [
 (oN (.mv 10 (.c (I 0))))] false) [0, 1, 2, 7, 9, 10] 1)
  (.cut q6o))
  (.cut q3u))))))
def qp : IFunc := { np := 4, res := [.t 8], own := false, trunc := true, body := qb4 }
/- 26: latchwork/latchworkref.Takes -/
def q17 : ICode :=
 (.cond (.t 4) (.seq (.post (.region [
 (oN (.mv 2 (.c (I 1))))] false) [2] 0)
  .ret)
  (.seq (.post (.region [
 (oN (.bin 11 .eql (.t 3) (.c (I 19)))),
 (oM 10 11)] false) [0, 10] 0)
  (.cond (.t 10) (.seq (.post (.region [
 (oN (.mv 2 (.c (I 3))))] false) [2] 0)
  .ret)
  .skip)))
def q18 : ICode :=
 (.seq (.seq (.post (.region [
 (oM 12 0),
 (oN (.call (some 13) true 50 [(.t 12), (.c (I 6)), (.c (I 20))]))] false) [13] 0)
  (.cond (.t 13) (.seq (.post (.region [
 (oN (.mv 2 (.c (I 2))))] false) [2] 0)
  .ret)
  .skip))
  (.seq (.post (.region [
 (oN (.mv 2 (.c (I 0))))] false) [2] 0)
  .ret))
def qb5 : ICode :=
 (.seq (.post (.region [
 (oN (.mv 2 (.c (I 0))))] false) [0] 0)
  (.seq (.seq (.region [
 (oM 3 0)] false)
  (.block 0 (.seq (.seq (.post (.region [
 (oN (.bin 5 .eql (.t 3) (.c (I 4)))),
 (oM 4 5)] false) [0, 3, 4] 0)
  (.cond (.t 4) (.post .skip [0, 3, 4] 0)
  (.post (.seq (.post (.region [
 (oN (.bin 6 .eql (.t 3) (.c (I 5)))),
 (oM 4 6)] false) [0, 3, 4] 0)
  (.cond (.t 4) (.post .skip [0, 3, 4] 0)
  (.post (.seq (.post (.region [
 (oN (.bin 7 .eql (.t 3) (.c (I 21)))),
 (oM 4 7)] false) [0, 3, 4] 0)
  (.cond (.t 4) (.post .skip [0, 3, 4] 0)
  (.post (.seq (.post (.region [
 (oN (.bin 8 .eql (.t 3) (.c (I 22)))),
 (oM 4 8)] false) [0, 3, 4] 0)
  (.cond (.t 4) (.post .skip [0, 3, 4] 0)
  (.post (.post (.region [
 (oN (.bin 9 .eql (.t 3) (.c (I 23)))),
 (oM 4 9)] false) [0, 3, 4] 0) [0, 3, 4] 0))) [0, 3, 4] 0))) [0, 3, 4] 0))) [0, 3, 4] 0)))
  (.cut q17))))
  (.cut q18)))
def qq : IFunc := { np := 1, res := [.t 2], own := false, trunc := true, body := qb5 }
/- 27: latchwork/latchworkref.Two -/
def qb6 : ICode :=
 (.post (.seq (.seq (.post (.region [
 (oM 5 4),
 (oM 6 0),
 (oN (.bin 7 .lss (.t 5) (.t 6)))] false) [0, 3, 4, 7] 0)
  (.cond (.t 7) .skip
  (.exit 0)))
  (.seq (.block 1 (.post (.region [
 (oM 10 3),
 (oN (.bin 11 .mul (.c (I 2)) (.t 10))),
 (oM 3 11)] false) [0, 3, 4] 0))
  (.post (.region [
 (oM 8 4),
 (oN (.bin 9 .add (.t 8) (.c (I 1)))),
 (oM 4 9)] false) [0, 3, 4] 0))) [0, 3, 4] 0)
def q3v : ICode :=
 (.post (.block 0 (.loop qb6)) [3] 0)
def q6p : ICode :=
 (.seq (.post (.region [
 (oM 12 3),
 (oM 2 12)] false) [2] 0)
  .ret)
def qb7 : ICode :=
 (.seq (.post (.region [
 (oN (.mv 2 (.c (I 0))))] false) [0] 0)
  (.seq (.region [
 (oN (.mv 3 (.c (I 1))))] false)
  (.seq (.seq (.post (.region [
 (oN (.mv 4 (.c (I 0))))] false) [0, 3, 4] 0)
  (.cut q3v))
  (.cut q6p))))
def q6q : IFunc := { np := 1, res := [.t 2], own := false, trunc := true, body := qb7 }
/- 28: latchwork/latchworkref.Made -/
def qb8 : ICode :=
 (.seq (.post (.region [
 (oN (.box 13 false false (.t 6))),
 (oN (.mv 14 (.c (I 0))))] false) [0, 1, 2, 3, 4, 5, 13] 1)
  (.seq (.post (.region [
 (oM 16 1),
 (oN (.call (some 17) true 27 [(.t 16)])),
 (oM 15 17)] false) [0, 1, 2, 3, 4, 5, 13, 15] 1)
  (.seq (.seq (.post (.region [
 (oM 18 0)] false) [1, 2, 3, 4, 5, 13, 15, 18] 1)
  (.block 0 (.seq (.post (.region [
 (oN (.bin 20 .eql (.t 18) (.c (I 4)))),
 (oM 19 20)] false) [1, 2, 3, 4, 5, 13, 15, 18, 19] 1)
  (.cond (.t 19) (.seq (.post (.region [
 (oM 21 15),
 (oN (.bin 22 .sub (.t 21) (.c (I 1)))),
 (oM 23 2),
 (oN (.bin 24 .sub (.t 22) (.t 23))),
 (oM 14 24)] false) [14] 0)
  .ret)
  (.seq (.post (.region [
 (oN (.bin 26 .eql (.t 18) (.c (I 5)))),
 (oM 25 26)] false) [1, 2, 3, 4, 5, 13, 15, 18, 25] 1)
  (.cond (.t 25) (.seq (.post (.region [
 (oM 27 15),
 (oM 28 2),
 (oN (.bin 29 .sub (.t 27) (.t 28))),
 (oM 30 15),
 (oN (.bin 31 .rem (.t 29) (.t 30))),
 (oM 14 31)] false) [14] 0)
  .ret)
  (.seq (.post (.region [
 (oN (.bin 33 .eql (.t 18) (.c (I 6)))),
 (oM 32 33)] false) [1, 2, 3, 4, 5, 13, 15, 18, 32] 1)
  (.cond (.t 32) (.seq (.post (.region [
 (oM 34 2),
 (oM 35 3),
 (oM 36 1),
 (oN (.build 37 [I 0, I 0, I 0, I 0] [(0, 1, (.c (I 0))), (1, 1, (.c (I 0))), (2, 1, (.c (I 0))), (3, 1, (.c (I 1)))])),
 (oN (.call (some 38) true 67 [(.t 34), (.t 35), (.t 36), (.t 37)])),
 (oM 14 38)] false) [14] 0)
  .ret)
  (.seq (.post (.region [
 (oN (.bin 40 .eql (.t 18) (.c (I 7)))),
 (oM 39 40)] false) [1, 2, 3, 4, 5, 13, 15, 18, 39] 1)
  (.cond (.t 39) (.seq (.post (.region [
 (oM 41 2),
 (oM 42 3),
 (oM 43 1),
 (oN (.build 44 [I 0, I 0, I 0, I 0] [(0, 1, (.c (I 0))), (1, 1, (.c (I 1))), (2, 1, (.c (I 1))), (3, 1, (.c (I 1)))])),
 (oN (.call (some 45) true 67 [(.t 41), (.t 42), (.t 43), (.t 44)])),
 (oM 14 45)] false) [14] 0)
  .ret)
  (.seq (.post (.region [
 (oN (.bin 47 .eql (.t 18) (.c (I 8)))),
 (oM 46 47)] false) [1, 2, 3, 4, 5, 13, 15, 18, 46] 1)
  (.cond (.t 46) (.seq (.post (.region [
 (oM 48 2),
 (oM 49 3),
 (oM 50 1),
 (oN (.build 51 [I 0, I 0, I 0, I 0] [(0, 1, (.c (I 0))), (1, 1, (.c (I 1))), (2, 1, (.c (I 1))), (3, 1, (.c (I 0)))])),
 (oN (.call (some 52) true 67 [(.t 48), (.t 49), (.t 50), (.t 51)])),
 (oM 14 52)] false) [14] 0)
  .ret)
  (.seq (.post (.region [
 (oN (.bin 54 .eql (.t 18) (.c (I 9)))),
 (oM 53 54)] false) [1, 2, 3, 4, 5, 13, 15, 18, 53] 1)
  (.cond (.t 53) (.seq (.post (.region [
 (oM 55 2),
 (oM 56 3),
 (oN (.bin 57 .add (.t 55) (.t 56))),
 (oM 58 15),
 (oN (.bin 59 .rem (.t 57) (.t 58))),
 (oM 14 59)] false) [14] 0)
  .ret)
  (.seq (.post (.region [
 (oN (.bin 61 .eql (.t 18) (.c (I 10)))),
 (oM 60 61)] false) [1, 2, 3, 4, 5, 13, 15, 18, 60] 1)
  (.cond (.t 60) (.seq (.post (.region [
 (oM 62 2),
 (oM 63 15),
 (oN (.bin 64 .add (.t 62) (.t 63))),
 (oM 65 3),
 (oN (.bin 66 .sub (.t 64) (.t 65))),
 (oM 67 15),
 (oN (.bin 68 .rem (.t 66) (.t 67))),
 (oM 14 68)] false) [14] 0)
  .ret)
  (.seq (.post (.region [
 (oN (.bin 70 .eql (.t 18) (.c (I 11)))),
 (oM 69 70)] false) [1, 2, 3, 4, 5, 13, 15, 18, 69] 1)
  (.cond (.t 69) (.seq (.post (.region [
 (oM 71 2),
 (oM 72 3),
 (oN (.bin 73 .mul (.t 71) (.t 72))),
 (oM 74 15),
 (oN (.bin 75 .rem (.t 73) (.t 74))),
 (oM 14 75)] false) [14] 0)
  .ret)
  (.seq (.post (.region [
 (oN (.bin 77 .eql (.t 18) (.c (I 12)))),
 (oM 76 77)] false) [1, 2, 3, 4, 5, 13, 15, 18, 76] 1)
  (.cond (.t 76) (.seq (.seq (.post (.region [
 (oM 78 3),
 (oN (.bin 79 .eql (.t 78) (.c (I 0))))] false) [2, 3, 15, 79] 0)
  (.cond (.t 79) (.seq (.post (.region [
 (oM 80 15),
 (oN (.bin 81 .sub (.t 80) (.c (I 1)))),
 (oM 14 81)] false) [14] 0)
  .ret)
  .skip))
  (.seq (.post (.region [
 (oM 82 2),
 (oM 83 3),
 (oN (.bin 84 .quo (.t 82) (.t 83))),
 (oM 14 84)] false) [14] 0)
  .ret))
  (.seq (.post (.region [
 (oN (.bin 86 .eql (.t 18) (.c (I 13)))),
 (oM 85 86)] false) [1, 2, 3, 4, 5, 13, 15, 18, 85] 1)
  (.cond (.t 85) (.seq (.seq (.post (.region [
 (oM 87 3),
 (oN (.bin 88 .eql (.t 87) (.c (I 0))))] false) [2, 3, 88] 0)
  (.cond (.t 88) (.seq (.post (.region [
 (oM 89 2),
 (oM 14 89)] false) [14] 0)
  .ret)
  .skip))
  (.seq (.post (.region [
 (oM 90 2),
 (oM 91 3),
 (oN (.bin 92 .rem (.t 90) (.t 91))),
 (oM 14 92)] false) [14] 0)
  .ret))
  (.seq (.post (.region [
 (oN (.bin 94 .eql (.t 18) (.c (I 14)))),
 (oM 93 94)] false) [1, 2, 3, 4, 5, 13, 15, 18, 93] 1)
  (.cond (.t 93) (.seq (.seq (.post (.region [
 (oM 95 3),
 (oM 96 1),
 (oN (.bin 97 .geq (.t 95) (.t 96)))] false) [2, 3, 15, 97] 0)
  (.cond (.t 97) (.seq (.post (.region [
 (oN (.mv 14 (.c (I 0))))] false) [14] 0)
  .ret)
  .skip))
  (.seq (.post (.region [
 (oM 98 2),
 (oM 99 3),
 (oN (.call (some 100) true 27 [(.t 99)])),
 (oN (.bin 101 .mul (.t 98) (.t 100))),
 (oM 102 15),
 (oN (.bin 103 .rem (.t 101) (.t 102))),
 (oM 14 103)] false) [14] 0)
  .ret))
  (.seq (.post (.region [
 (oN (.bin 105 .eql (.t 18) (.c (I 15)))),
 (oM 104 105)] false) [1, 2, 3, 4, 5, 13, 15, 18, 104] 1)
  (.cond (.t 104) (.seq (.seq (.post (.region [
 (oM 106 3),
 (oM 107 1),
 (oN (.bin 108 .geq (.t 106) (.t 107)))] false) [2, 3, 108] 0)
  (.cond (.t 108) (.seq (.post (.region [
 (oN (.mv 14 (.c (I 0))))] false) [14] 0)
  .ret)
  .skip))
  (.seq (.post (.region [
 (oM 109 2),
 (oM 110 3),
 (oN (.call (some 111) true 27 [(.t 110)])),
 (oN (.bin 112 .quo (.t 109) (.t 111))),
 (oM 14 112)] false) [14] 0)
  .ret))
  (.seq (.post (.region [
 (oN (.bin 114 .eql (.t 18) (.c (I 16)))),
 (oM 113 114)] false) [2, 3, 4, 5, 13, 15, 18, 113] 1)
  (.cond (.t 113) (.seq (.post (.region [
 (oM 115 2),
 (oM 116 3),
 (oN (.bin 117 .eql (.t 115) (.t 116))),
 (oN (.call (some 118) true 68 [(.t 117)])),
 (oM 14 118)] false) [14] 0)
  .ret)
  (.seq (.post (.region [
 (oN (.bin 120 .eql (.t 18) (.c (I 17)))),
 (oM 119 120)] false) [2, 3, 4, 5, 13, 15, 18, 119] 1)
  (.cond (.t 119) (.seq (.post (.region [
 (oM 121 2),
 (oM 122 3),
 (oN (.bin 123 .lss (.t 121) (.t 122))),
 (oN (.call (some 124) true 68 [(.t 123)])),
 (oM 14 124)] false) [14] 0)
  .ret)
  (.seq (.post (.region [
 (oN (.bin 126 .eql (.t 18) (.c (I 18)))),
 (oM 125 126)] false) [2, 3, 4, 5, 13, 15, 18, 125] 1)
  (.cond (.t 125) (.seq (.post (.region [
 (oM 127 2),
 (oN (.iaddr 128 1 (some 3) (.t 13) (.c (I 0)))),
 (oL 129 128),
 (oN (.call (some 130) true 69 [(.t 127), (.t 129)])),
 (oM 131 3),
 (oN (.iaddr 132 1 (some 3) (.t 13) (.c (I 1)))),
 (oL 133 132),
 (oN (.call (some 134) true 69 [(.t 131), (.t 133)])),
 (oN (.bin 135 .lss (.t 130) (.t 134))),
 (oN (.call (some 136) true 68 [(.t 135)])),
 (oM 14 136)] true) [14] 0)
  .ret)
  (.seq (.post (.region [
 (oN (.bin 138 .eql (.t 18) (.c (I 19)))),
 (oM 137 138)] false) [2, 3, 4, 5, 13, 15, 18, 137] 1)
  (.cond (.t 137) (.seq (.seq (.post (.region [
 (oM 139 2),
 (oN (.bin 140 .eql (.t 139) (.c (I 1))))] false) [3, 4, 140] 0)
  (.cond (.t 140) (.seq (.post (.region [
 (oM 141 3),
 (oM 14 141)] false) [14] 0)
  .ret)
  .skip))
  (.seq (.post (.region [
 (oM 142 4),
 (oM 14 142)] false) [14] 0)
  .ret))
  (.seq (.post (.region [
 (oN (.bin 144 .eql (.t 18) (.c (I 20)))),
 (oM 143 144)] false) [2, 3, 5, 13, 15, 18, 143] 1)
  (.cond (.t 143) (.seq (.post (.region [
 (oM 145 2),
 (oN (.iaddr 146 1 (some 3) (.t 13) (.c (I 1)))),
 (oL 147 146),
 (oN (.call (some 148) true 27 [(.t 147)])),
 (oN (.bin 149 .mul (.t 145) (.t 148))),
 (oM 150 3),
 (oN (.bin 151 .add (.t 149) (.t 150))),
 (oM 14 151)] false) [14] 0)
  .ret)
  (.seq (.post (.region [
 (oN (.bin 153 .eql (.t 18) (.c (I 21)))),
 (oM 152 153)] false) [2, 5, 13, 15, 18, 152] 1)
  (.cond (.t 152) (.seq (.post (.region [
 (oM 154 2),
 (oM 155 5),
 (oN (.call (some 156) true 27 [(.t 155)])),
 (oN (.bin 157 .quo (.t 154) (.t 156))),
 (oM 158 15),
 (oN (.bin 159 .rem (.t 157) (.t 158))),
 (oM 14 159)] false) [14] 0)
  .ret)
  (.seq (.post (.region [
 (oN (.bin 161 .eql (.t 18) (.c (I 23)))),
 (oM 160 161)] false) [2, 13, 15, 160] 1)
  (.cond (.t 160) (.seq (.post (.region [
 (oM 162 2),
 (oN (.iaddr 163 1 (some 3) (.t 13) (.c (I 0)))),
 (oL 164 163),
 (oN (.call (some 165) true 69 [(.t 162), (.t 164)])),
 (oM 166 15),
 (oN (.bin 167 .add (.t 165) (.t 166))),
 (oM 168 15),
 (oN (.bin 169 .rem (.t 167) (.t 168))),
 (oM 14 169)] false) [14] 0)
  .ret)
  .skip))))))))))))))))))))))))))))))))))))))))
  (.seq (.post (.region [
 (oM 170 2),
 (oM 14 170)] false) [14] 0)
  .ret))))
def q6r : IFunc := { np := 7, res := [.t 14], own := false, trunc := true, body := qb8 }
/- 36: latchwork/latchworkref.CheckModel -/
def qb9 : ICode :=
 (.post (.seq (.seq (.post (.region [
 (oM 33 3),
 (oF 34 1 0),
 (oL 35 34),
 (oN (.len 36 0 (.t 35))),
 (oN (.bin 37 .lss (.t 33) (.t 36)))] false) [1, 3, 37] 1)
  (.cond (.t 37) .skip
  (.exit 0)))
  (.seq (.block 1 (.seq (.post (.region [
 (oF 40 1 0),
 (oL 41 40),
 (oM 42 3),
 (oN (.call (some 43) true 72 [(.t 41), (.t 42)])),
 (oM 4 43)] false) [1, 3, 4] 1)
  (.seq (.post (.region [
 (oM 44 4),
 (oN (.bin 45 .neq (.t 44) (.c (I 0))))] false) [1, 3, 4, 45] 1)
  (.cond (.t 45) (.seq (.post (.region [
 (oM 46 4),
 (oM 2 46)] false) [2] 0)
  .ret)
  .skip))))
  (.post (.region [
 (oM 38 3),
 (oN (.bin 39 .add (.t 38) (.c (I 1)))),
 (oM 3 39)] false) [1, 3] 1))) [1, 3] 1)
def q6s : ICode :=
 (.post (.block 0 (.loop qb9)) [1] 1)
def qba : ICode :=
 (.post (.seq (.seq (.post (.region [
 (oM 67 8),
 (oM 68 7),
 (oN (.len 69 0 (.t 68))),
 (oN (.bin 70 .lss (.t 67) (.t 69)))] false) [1, 5, 6, 7, 8, 70] 1)
  (.cond (.t 70) .skip
  (.exit 4)))
  (.seq (.block 5 (.seq (.post (.region [
 (oM 73 7),
 (oM 74 8),
 (oN (.iaddr 75 2 none (.t 73) (.t 74))),
 (oN (.load 76 true 2 (.t 75))),
 (oN (.alloc 9 false (.agg [I 0, I 0]))),
 (oN (.store false 2 (.t 9) (.t 76)))] false) [1, 5, 6, 7, 8, 9] 2)
  (.seq (.seq (.post (.region [
 (oF 77 9 0),
 (oL 78 77),
 (oF 79 1 0),
 (oL 80 79),
 (oN (.len 81 0 (.t 80))),
 (oN (.bin 82 .sub (.t 81) (.c (I 1)))),
 (oN (.call (some 83) true 50 [(.t 78), (.c (I 0)), (.t 82)])),
 (oN (.un 84 .not (.t 83))),
 (oM 85 84),
  ⟨.faddr 86 (.t 9) 1, some (85, false)⟩,
  ⟨.load 87 false 1 (.t 86), some (85, false)⟩,
  ⟨.faddr 88 (.t 1) 0, some (85, false)⟩,
  ⟨.load 89 false 1 (.t 88), some (85, false)⟩,
  ⟨.len 90 0 (.t 89), some (85, false)⟩,
  ⟨.bin 91 .sub (.t 90) (.c (I 1)), some (85, false)⟩,
  ⟨.call (some 92) true 50 [(.t 87), (.c (I 0)), (.t 91)], some (85, false)⟩,
  ⟨.un 93 .not (.t 92), some (85, false)⟩,
 (oN (.pick 94 (.t 85) (.c (.bool true)) (.t 93))),
 (oM 95 94),
  ⟨.faddr 96 (.t 1) 0, some (95, false)⟩,
  ⟨.load 97 false 1 (.t 96), some (95, false)⟩,
  ⟨.faddr 98 (.t 9) 0, some (95, false)⟩,
  ⟨.load 99 false 1 (.t 98), some (95, false)⟩,
  ⟨.iaddr 100 6 none (.t 97) (.t 99), some (95, false)⟩,
  ⟨.faddr 101 (.t 100) 0, some (95, false)⟩,
  ⟨.load 102 false 1 (.t 101), some (95, false)⟩,
  ⟨.bin 103 .neq (.t 102) (.c (I 3)), some (95, false)⟩,
 (oN (.pick 104 (.t 95) (.c (.bool true)) (.t 103)))] false) [1, 5, 6, 7, 8, 9, 104] 2)
  (.cond (.t 104) (.seq (.post (.region [
 (oN (.mv 2 (.c (I 5))))] false) [2] 0)
  .ret)
  .skip))
  (.seq (.seq (.post (.region [
 (oF 105 1 0),
 (oL 106 105),
 (oF 107 9 0),
 (oL 108 107),
 (oN (.iaddr 109 6 none (.t 106) (.t 108))),
 (oF 110 109 1),
 (oL 111 110),
 (oF 112 1 0),
 (oL 113 112),
 (oF 114 9 1),
 (oL 115 114),
 (oN (.iaddr 116 6 none (.t 113) (.t 115))),
 (oF 117 116 1),
 (oL 118 117),
 (oN (.bin 119 .neq (.t 111) (.t 118)))] true) [1, 5, 6, 7, 8, 9, 119] 2)
  (.cond (.t 119) (.seq (.post (.region [
 (oN (.mv 2 (.c (I 1))))] false) [2] 0)
  .ret)
  .skip))
  (.seq (.post (.region [
 (oM 120 6),
 (oN (.bin 121 .eql (.t 120) (.c (I 0)))),
 (oM 122 121),
  ⟨.mv 123 (.t 5), some (122, true)⟩,
  ⟨.faddr 124 (.t 9) 1, some (122, true)⟩,
  ⟨.load 125 false 1 (.t 124), some (122, true)⟩,
  ⟨.iaddr 126 1 none (.t 123) (.t 125), some (122, true)⟩,
  ⟨.load 127 false 1 (.t 126), some (122, true)⟩,
 (oN (.pick 128 (.t 122) (.t 127) (.c (.bool false))))] false) [1, 5, 6, 7, 8, 128] 1)
  (.cond (.t 128) (.seq (.post (.region [
 (oN (.mv 2 (.c (I 4))))] false) [2] 0)
  .ret)
  .skip))))))
  (.post (.region [
 (oM 71 8),
 (oN (.bin 72 .add (.t 71) (.c (I 1)))),
 (oM 8 72)] false) [1, 5, 6, 7, 8] 1))) [1, 5, 6, 7, 8] 1)
def q26 : ICode :=
 (.post (.block 4 (.loop qba)) [1, 5, 6] 1)
def q27 : ICode :=
 (.seq (.post (.region [
 (oN (.mv 8 (.c (I 0))))] false) [1, 5, 6, 7, 8] 1)
  (.cut q26))
def q28 : ICode :=
 (.post (.region [
 (oM 59 6),
 (oN (.bin 60 .add (.t 59) (.c (I 1)))),
 (oM 6 60)] false) [1, 5, 6] 1)
def qbb : ICode :=
 (.post (.seq (.seq (.post (.region [
 (oM 57 6),
 (oN (.bin 58 .lss (.t 57) (.c (I 2))))] false) [1, 5, 6, 58] 1)
  (.cond (.t 58) .skip
  (.exit 2)))
  (.seq (.block 3 (.seq (.post (.region [
 (oF 61 1 1),
 (oL 62 61),
 (oN (.tk 7 62))] false) [1, 5, 6, 7] 1)
  (.seq (.seq (.post (.region [
 (oM 63 6),
 (oN (.bin 64 .eql (.t 63) (.c (I 1))))] false) [1, 5, 6, 7, 64] 1)
  (.cond (.t 64) (.post (.post (.region [
 (oF 65 1 2),
 (oL 66 65),
 (oN (.tk 7 66))] false) [1, 5, 6, 7] 1) [1, 5, 6, 7] 1)
  (.post .skip [1, 5, 6, 7] 1)))
  (.cut q27))))
  (.cut q28))) [1, 5, 6] 1)
def q6t : ICode :=
 (.post (.block 2 (.loop qbb)) [1] 1)
def qbc : ICode :=
 (.post (.seq (.seq (.post (.region [
 (oM 145 13),
 (oM 146 12),
 (oN (.bin 147 .lss (.t 145) (.t 146)))] false) [1, 10, 11, 12, 13, 147] 1)
  (.cond (.t 147) .skip
  (.exit 10)))
  (.seq (.block 11 (.seq (.post (.region [
 (oM 150 11),
 (oM 151 12),
 (oN (.iaddr 152 2 none (.t 150) (.t 151))),
 (oF 153 152 0),
 (oL 154 153),
 (oM 155 11),
 (oM 156 13),
 (oN (.iaddr 157 2 none (.t 155) (.t 156))),
 (oF 158 157 0),
 (oL 159 158),
 (oN (.bin 160 .eql (.t 154) (.t 159)))] true) [1, 10, 11, 12, 13, 160] 1)
  (.cond (.t 160) (.seq (.post (.region [
 (oN (.mv 2 (.c (I 6))))] false) [2] 0)
  .ret)
  .skip)))
  (.post (.region [
 (oM 148 13),
 (oN (.bin 149 .add (.t 148) (.c (I 1)))),
 (oM 13 149)] false) [1, 10, 11, 12, 13] 1))) [1, 10, 11, 12, 13] 1)
def q6u : ICode :=
 (.post (.block 10 (.loop qbc)) [1, 10, 11, 12] 1)
def q3w : ICode :=
 (.post (.region [
 (oM 143 12),
 (oN (.bin 144 .add (.t 143) (.c (I 1)))),
 (oM 12 144)] false) [1, 10, 11, 12] 1)
def qbd : ICode :=
 (.post (.seq (.seq (.post (.region [
 (oM 139 12),
 (oM 140 11),
 (oN (.len 141 0 (.t 140))),
 (oN (.bin 142 .lss (.t 139) (.t 141)))] false) [1, 10, 11, 12, 142] 1)
  (.cond (.t 142) .skip
  (.exit 8)))
  (.seq (.block 9 (.seq (.post (.region [
 (oN (.mv 13 (.c (I 0))))] false) [1, 10, 11, 12, 13] 1)
  (.cut q6u)))
  (.cut q3w))) [1, 10, 11, 12] 1)
def q3x : ICode :=
 (.post (.block 8 (.loop qbd)) [1, 10] 1)
def q29 : ICode :=
 (.seq (.post (.region [
 (oN (.mv 12 (.c (I 0))))] false) [1, 10, 11, 12] 1)
  (.cut q3x))
def q2a : ICode :=
 (.post (.region [
 (oM 131 10),
 (oN (.bin 132 .add (.t 131) (.c (I 1)))),
 (oM 10 132)] false) [1, 10] 1)
def qbe : ICode :=
 (.post (.seq (.seq (.post (.region [
 (oM 129 10),
 (oN (.bin 130 .lss (.t 129) (.c (I 2))))] false) [1, 10, 130] 1)
  (.cond (.t 130) .skip
  (.exit 6)))
  (.seq (.block 7 (.seq (.post (.region [
 (oF 133 1 1),
 (oL 134 133),
 (oN (.tk 11 134))] false) [1, 10, 11] 1)
  (.seq (.seq (.post (.region [
 (oM 135 10),
 (oN (.bin 136 .eql (.t 135) (.c (I 1))))] false) [1, 10, 11, 136] 1)
  (.cond (.t 136) (.post (.post (.region [
 (oF 137 1 2),
 (oL 138 137),
 (oN (.tk 11 138))] false) [1, 10, 11] 1) [1, 10, 11] 1)
  (.post .skip [1, 10, 11] 1)))
  (.cut q29))))
  (.cut q2a))) [1, 10] 1)
def q6v : ICode :=
 (.post (.block 6 (.loop qbe)) [1] 1)
def qbf : ICode :=
 (.post (.seq (.seq (.post (.region [
 (oM 175 15),
 (oM 176 14),
 (oN (.len 177 0 (.t 176))),
 (oN (.bin 178 .lss (.t 175) (.t 177)))] false) [1, 14, 15, 178] 1)
  (.cond (.t 178) .skip
  (.exit 12)))
  (.seq (.block 13 (.seq (.post (.region [
 (oM 181 14),
 (oM 182 15),
 (oA 183 181 182),
 (oL 184 183),
 (oF 185 1 0),
 (oL 186 185),
 (oN (.len 187 0 (.t 186))),
 (oN (.bin 188 .sub (.t 187) (.c (I 1)))),
 (oN (.call (some 189) true 50 [(.t 184), (.c (I 0)), (.t 188)])),
 (oN (.un 190 .not (.t 189)))] true) [1, 14, 15, 190] 1)
  (.cond (.t 190) (.seq (.post (.region [
 (oN (.mv 2 (.c (I 5))))] false) [2] 0)
  .ret)
  .skip)))
  (.post (.region [
 (oM 179 15),
 (oN (.bin 180 .add (.t 179) (.c (I 1)))),
 (oM 15 180)] false) [1, 14, 15] 1))) [1, 14, 15] 1)
def q6w : ICode :=
 (.post (.block 12 (.loop qbf)) [1, 14] 1)
def qbg : ICode :=
 (.post (.seq (.seq (.post (.region [
 (oM 191 16),
 (oM 192 14),
 (oN (.len 193 0 (.t 192))),
 (oN (.bin 194 .lss (.t 191) (.t 193)))] false) [1, 14, 16, 194] 1)
  (.cond (.t 194) .skip
  (.exit 14)))
  (.seq (.block 15 (.seq (.post (.region [
 (oF 197 1 0),
 (oL 198 197),
 (oM 199 14),
 (oM 200 16),
 (oA 201 199 200),
 (oL 202 201),
 (oN (.iaddr 203 6 none (.t 198) (.t 202))),
 (oF 204 203 1),
 (oL 205 204),
 (oN (.bin 206 .neq (.t 205) (.c (I 1))))] true) [1, 14, 16, 206] 1)
  (.cond (.t 206) (.seq (.post (.region [
 (oN (.mv 2 (.c (I 1))))] false) [2] 0)
  .ret)
  .skip)))
  (.post (.region [
 (oM 195 16),
 (oN (.bin 196 .add (.t 195) (.c (I 1)))),
 (oM 16 196)] false) [1, 14, 16] 1))) [1, 14, 16] 1)
def q2b : ICode :=
 (.post (.block 14 (.loop qbg)) [] 0)
def q6x : ICode :=
 (.seq (.region [
 (oN (.mv 2 (.c (I 0))))] false)
  .ret)
def q2c : ICode :=
 (.seq (.seq (.post (.region [
 (oN (.mv 16 (.c (I 0))))] false) [1, 14, 16] 1)
  (.cut q2b))
  (.cut q6x))
def q3y : ICode :=
 (.seq (.seq (.post (.region [
 (oF 161 1 2),
 (oL 162 161),
 (oN (.len 163 0 (.t 162))),
 (oN (.load 164 true 5 (.t 1))),
 (oN (.call (some 165) true 39 [(.t 164), (.c (I 3))])),
 (oN (.len 166 0 (.t 165))),
 (oN (.bin 167 .neq (.t 163) (.t 166)))] true) [1, 167] 1)
  (.cond (.t 167) (.seq (.post (.region [
 (oN (.mv 2 (.c (I 5))))] false) [2] 0)
  .ret)
  .skip))
  (.seq (.post (.region [
 (oN (.buildSl 168 1 [])),
 (oF 169 1 3),
 (oL 170 169),
 (oN (.append 171 1 8 (.t 168) (.t 170))),
 (oF 172 1 4),
 (oL 173 172),
 (oN (.append 174 1 8 (.t 171) (.t 173))),
 (oN (.tk 14 174))] true) [1, 14] 1)
  (.seq (.seq (.post (.region [
 (oN (.mv 15 (.c (I 0))))] false) [1, 14, 15] 1)
  (.cut q6w))
  (.cut q2c))))
def q2d : ICode :=
 (.seq (.seq (.post (.region [
 (oN (.mv 10 (.c (I 0))))] false) [1, 10] 1)
  (.cut q6v))
  (.cut q3y))
def q2e : ICode :=
 (.seq (.seq (.post (.region [
 (oN (.load 47 true 5 (.t 1))),
 (oN (.call (some 48) true 73 [(.t 47), (.c (I 2))])),
 (oN (.bin 49 .gtr (.t 48) (.c (I 6)))),
 (oM 50 49),
  ⟨.load 51 true 5 (.t 1), some (50, false)⟩,
  ⟨.call (some 52) true 73 [(.t 51), (.c (I 3))], some (50, false)⟩,
  ⟨.bin 53 .gtr (.t 52) (.c (I 10)), some (50, false)⟩,
 (oN (.pick 54 (.t 50) (.c (.bool true)) (.t 53)))] false) [1, 54] 1)
  (.cond (.t 54) (.seq (.post (.region [
 (oN (.mv 2 (.c (I 2))))] false) [2] 0)
  .ret)
  .skip))
  (.seq (.post (.region [
 (oN (.load 55 true 5 (.t 1))),
 (oN (.call (some 56) true 74 [(.t 55)])),
 (oN (.tk 5 56))] false) [1, 5] 1)
  (.seq (.seq (.post (.region [
 (oN (.mv 6 (.c (I 0))))] false) [1, 5, 6] 1)
  (.cut q6t))
  (.cut q2d))))
def qbh : ICode :=
 (.seq (.post (.region [
 (oN (.box 1 false false (.t 0))),
 (oN (.mv 2 (.c (I 0))))] false) [1] 1)
  (.seq (.seq (.post (.region [
 (oF 17 1 0),
 (oL 18 17),
 (oN (.len 19 0 (.t 18))),
 (oN (.bin 20 .gtr (.t 19) (.c (I 80)))),
 (oM 21 20),
  ⟨.faddr 22 (.t 1) 3, some (21, false)⟩,
  ⟨.load 23 false 1 (.t 22), some (21, false)⟩,
  ⟨.len 24 0 (.t 23), some (21, false)⟩,
  ⟨.bin 25 .gtr (.t 24) (.c (I 8)), some (21, false)⟩,
 (oN (.pick 26 (.t 21) (.c (.bool true)) (.t 25))),
 (oM 27 26),
  ⟨.faddr 28 (.t 1) 4, some (27, false)⟩,
  ⟨.load 29 false 1 (.t 28), some (27, false)⟩,
  ⟨.len 30 0 (.t 29), some (27, false)⟩,
  ⟨.bin 31 .gtr (.t 30) (.c (I 8)), some (27, false)⟩,
 (oN (.pick 32 (.t 27) (.c (.bool true)) (.t 31)))] false) [1, 32] 1)
  (.cond (.t 32) (.seq (.post (.region [
 (oN (.mv 2 (.c (I 2))))] false) [2] 0)
  .ret)
  .skip))
  (.seq (.seq (.post (.region [
 (oN (.mv 3 (.c (I 0))))] false) [1, 3] 1)
  (.cut q6s))
  (.cut q2e))))
def qr : IFunc := { np := 1, res := [.t 2], own := false, trunc := true, body := qbh }
/- 39: latchwork/latchworkref.Nodes -/
def q2f : ICode :=
 (.post (.region [
 (oM 12 6),
 (oN (.bin 13 .add (.t 12) (.c (I 1)))),
 (oM 6 13)] false) [1, 2, 5, 6] 1)
def qbi : ICode :=
 (.post (.seq (.seq (.post (.region [
 (oM 7 6),
 (oF 8 2 0),
 (oL 9 8),
 (oN (.len 10 0 (.t 9))),
 (oN (.bin 11 .lss (.t 7) (.t 10)))] false) [1, 2, 5, 6, 11] 1)
  (.cond (.t 11) .skip
  (.exit 0)))
  (.seq (.block 1 (.seq (.post (.region [
 (oF 14 2 0),
 (oL 15 14),
 (oM 16 6),
 (oN (.iaddr 17 6 none (.t 15) (.t 16))),
 (oF 18 17 0),
 (oL 19 18),
 (oM 20 1),
 (oN (.bin 21 .eql (.t 19) (.t 20)))] false) [1, 2, 5, 6, 21] 1)
  (.cond (.t 21) (.post (.post (.region [
 (oN (.tk 22 5)),
 (oM 23 6),
 (oN (.buildSl 24 1 [(.t 23)])),
 (oN (.append 25 1 8 (.t 22) (.t 24))),
 (oN (.tk 5 25))] false) [1, 2, 5, 6] 1) [1, 2, 5, 6] 1)
  (.post .skip [1, 2, 5, 6] 1))))
  (.cut q2f))) [1, 2, 5, 6] 1)
def q6y : ICode :=
 (.post (.block 0 (.loop qbi)) [5] 0)
def q6z : ICode :=
 (.seq (.post (.region [
 (oM 26 5),
 (oN (.tk 4 26))] false) [4] 0)
  .ret)
def qbj : ICode :=
 (.seq (.post (.region [
 (oN (.box 2 false false (.t 0))),
 (oN (.mv 4 (.c (.sl true 1 []))))] false) [1, 2] 1)
  (.seq (.region [
 (oN (.mv 5 (.c (.sl true 1 []))))] false)
  (.seq (.seq (.post (.region [
 (oN (.mv 6 (.c (I 0))))] false) [1, 2, 5, 6] 1)
  (.cut q6y))
  (.cut q6z))))
def q70 : IFunc := { np := 2, res := [.t 4], own := false, trunc := true, body := qbj }
/- 43: latchwork/latchworkref.ConeOf -/
/- 45: latchwork/latchworkref.Has -/
/- 46: latchwork/latchworkref.SameInts -/
def qbk : ICode :=
 (.post (.seq (.seq (.post (.region [
 (oM 11 5),
 (oM 12 0),
 (oN (.len 13 0 (.t 12))),
 (oN (.bin 14 .lss (.t 11) (.t 13)))] false) [0, 1, 5, 14] 0)
  (.cond (.t 14) .skip
  (.exit 0)))
  (.seq (.block 1 (.seq (.post (.region [
 (oM 17 0),
 (oM 18 5),
 (oA 19 17 18),
 (oL 20 19),
 (oM 21 1),
 (oM 22 5),
 (oA 23 21 22),
 (oL 24 23),
 (oN (.bin 25 .neq (.t 20) (.t 24)))] true) [0, 1, 5, 25] 0)
  (.cond (.t 25) (.seq (.post (.region [
 (oN (.mv 4 (.c (.bool false))))] false) [4] 0)
  .ret)
  .skip)))
  (.post (.region [
 (oM 15 5),
 (oN (.bin 16 .add (.t 15) (.c (I 1)))),
 (oM 5 16)] false) [0, 1, 5] 0))) [0, 1, 5] 0)
def q71 : ICode :=
 (.post (.block 0 (.loop qbk)) [] 0)
def q72 : ICode :=
 (.seq (.region [
 (oN (.mv 4 (.c (.bool true))))] false)
  .ret)
def qbl : ICode :=
 (.seq (.post (.region [
 (oN (.mv 4 (.c (.bool false))))] false) [0, 1] 0)
  (.seq (.seq (.post (.region [
 (oM 6 0),
 (oN (.len 7 0 (.t 6))),
 (oM 8 1),
 (oN (.len 9 0 (.t 8))),
 (oN (.bin 10 .neq (.t 7) (.t 9)))] false) [0, 1, 10] 0)
  (.cond (.t 10) (.seq (.post (.region [
 (oN (.mv 4 (.c (.bool false))))] false) [4] 0)
  .ret)
  .skip))
  (.seq (.seq (.post (.region [
 (oN (.mv 5 (.c (I 0))))] false) [0, 1, 5] 0)
  (.cut q71))
  (.cut q72))))
def q73 : IFunc := { np := 2, res := [.t 4], own := false, trunc := true, body := qbl }
/- 50: latchwork/latchworkref.between -/
def qbm : ICode :=
 (.seq (.post (.region [
 (oN (.mv 6 (.c (.bool false))))] false) [0, 1, 2] 0)
  (.seq (.post (.region [
 (oM 7 0),
 (oM 8 1),
 (oN (.bin 9 .geq (.t 7) (.t 8))),
 (oM 10 9),
  ⟨.mv 11 (.t 0), some (10, true)⟩,
  ⟨.mv 12 (.t 2), some (10, true)⟩,
  ⟨.bin 13 .leq (.t 11) (.t 12), some (10, true)⟩,
 (oN (.pick 14 (.t 10) (.t 13) (.c (.bool false)))),
 (oM 6 14)] false) [6] 0)
  .ret))
def q2g : IFunc := { np := 3, res := [.t 6], own := false, trunc := true, body := qbm }
/- 51: latchwork/latchworkref.AndAt -/
/- 56: latchwork/latchworkref.AndClauses -/
/- 57: latchwork/latchworkref.MustClauses -/
/- 58: latchwork/latchworkref.DoneClauses -/
/- 60: latchwork/latchworkref.SameClauses -/
/- 67: latchwork/latchworkref.bitwise -/
def qbn : ICode :=
 (.post (.seq (.seq (.post (.region [
 (oM 11 10),
 (oM 12 2),
 (oN (.bin 13 .lss (.t 11) (.t 12)))] false) [0, 1, 2, 7, 9, 10, 13] 1)
  (.cond (.t 13) .skip
  (.exit 0)))
  (.seq (.block 1 (.post (.region [
 (oM 16 9),
 (oM 17 0),
 (oM 18 10),
 (oN (.call (some 19) true 97 [(.t 17), (.t 18)])),
 (oN (.bin 20 .mul (.c (I 2)) (.t 19))),
 (oM 21 1),
 (oM 22 10),
 (oN (.call (some 23) true 97 [(.t 21), (.t 22)])),
 (oN (.bin 24 .add (.t 20) (.t 23))),
 (oN (.iaddr 25 1 (some 4) (.t 7) (.t 24))),
 (oL 26 25),
 (oM 27 10),
 (oN (.call (some 28) true 27 [(.t 27)])),
 (oN (.bin 29 .mul (.t 26) (.t 28))),
 (oN (.bin 30 .add (.t 16) (.t 29))),
 (oM 9 30)] true) [0, 1, 2, 7, 9, 10] 1))
  (.post (.region [
 (oM 14 10),
 (oN (.bin 15 .add (.t 14) (.c (I 1)))),
 (oM 10 15)] false) [0, 1, 2, 7, 9, 10] 1))) [0, 1, 2, 7, 9, 10] 1)
def q74 : ICode :=
 (.post (.block 0 (.loop qbn)) [9] 0)
def q75 : ICode :=
 (.seq (.post (.region [
 (oM 31 9),
 (oM 8 31)] false) [8] 0)
  .ret)
def qbo : ICode :=
 (.seq (.post (.region [
 (oN (.box 7 false false (.t 3))),
 (oN (.mv 8 (.c (I 0))))] false) [0, 1, 2, 7] 1)
  (.seq (.region [
 (oN (.mv 9 (.c (I 0))))] false)
  (.seq (.seq (.post (.region [
 (oN (.mv 10 (.c (I 0))))] false) [0, 1, 2, 7, 9, 10] 1)
  (.cut q74))
  (.cut q75))))
def q76 : IFunc := { np := 4, res := [.t 8], own := false, trunc := true, body := qbo }
/- 68: latchwork/latchworkref.yes -/
def qbp : ICode :=
 (.seq (.post (.region [
 (oN (.mv 2 (.c (I 0))))] false) [0] 0)
  (.seq (.seq (.post (.region [
 (oM 3 0)] false) [3] 0)
  (.cond (.t 3) (.seq (.post (.region [
 (oN (.mv 2 (.c (I 1))))] false) [2] 0)
  .ret)
  .skip))
  (.seq (.post (.region [
 (oN (.mv 2 (.c (I 0))))] false) [2] 0)
  .ret)))
def q2h : IFunc := { np := 1, res := [.t 2], own := false, trunc := true, body := qbp }
/- 69: latchwork/latchworkref.Signed -/
def qbq : ICode :=
 (.seq (.post (.region [
 (oN (.mv 4 (.c (I 0))))] false) [0, 1] 0)
  (.seq (.seq (.post (.region [
 (oM 5 0),
 (oM 6 1),
 (oN (.bin 7 .sub (.t 6) (.c (I 1)))),
 (oN (.call (some 8) true 97 [(.t 5), (.t 7)])),
 (oN (.bin 9 .eql (.t 8) (.c (I 1))))] false) [0, 1, 9] 0)
  (.cond (.t 9) (.seq (.post (.region [
 (oM 10 0),
 (oM 11 1),
 (oN (.call (some 12) true 27 [(.t 11)])),
 (oN (.bin 13 .sub (.t 10) (.t 12))),
 (oM 4 13)] false) [4] 0)
  .ret)
  .skip))
  (.seq (.post (.region [
 (oM 14 0),
 (oM 4 14)] false) [4] 0)
  .ret)))
def q2i : IFunc := { np := 2, res := [.t 4], own := false, trunc := true, body := qbq }
/- 72: latchwork/latchworkref.CheckNode -/
def qbr : ICode :=
 (.post (.seq (.seq (.post (.region [
 (oM 76 7),
 (oN (.bin 77 .lss (.t 76) (.c (I 3))))] false) [0, 1, 5, 6, 7, 77] 1)
  (.cond (.t 77) .skip
  (.exit 1)))
  (.seq (.block 2 (.seq (.post (.region [
 (oM 80 7),
 (oF 81 5 0),
 (oL 82 81),
 (oN (.call (some 83) true 26 [(.t 82)])),
 (oN (.bin 84 .lss (.t 80) (.t 83))),
 (oM 85 84),
  ⟨.mv 86 (.t 6), some (85, true)⟩,
  ⟨.mv 87 (.t 7), some (85, true)⟩,
  ⟨.iaddr 88 1 none (.t 86) (.t 87), some (85, true)⟩,
  ⟨.load 89 false 1 (.t 88), some (85, true)⟩,
  ⟨.mv 90 (.t 1), some (85, true)⟩,
  ⟨.bin 91 .sub (.t 90) (.c (I 1)), some (85, true)⟩,
  ⟨.call (some 92) true 50 [(.t 89), (.c (I 0)), (.t 91)], some (85, true)⟩,
  ⟨.un 93 .not (.t 92), some (85, true)⟩,
 (oN (.pick 94 (.t 85) (.t 93) (.c (.bool false)))),
 (oM 95 94),
  ⟨.mv 96 (.t 7), some (95, false)⟩,
  ⟨.faddr 97 (.t 5) 0, some (95, false)⟩,
  ⟨.load 98 false 1 (.t 97), some (95, false)⟩,
  ⟨.call (some 99) true 26 [(.t 98)], some (95, false)⟩,
  ⟨.bin 100 .geq (.t 96) (.t 99), some (95, false)⟩,
  ⟨.mv 101 (.t 100), some (95, false)⟩,
  ⟨.mv 102 (.t 6), some (101, true)⟩,
  ⟨.mv 103 (.t 7), some (101, true)⟩,
  ⟨.iaddr 104 1 none (.t 102) (.t 103), some (101, true)⟩,
  ⟨.load 105 false 1 (.t 104), some (101, true)⟩,
  ⟨.bin 106 .neq (.t 105) (.c (I 0)), some (101, true)⟩,
  ⟨.pick 107 (.t 101) (.t 106) (.c (.bool false)), some (95, false)⟩,
 (oN (.pick 108 (.t 95) (.c (.bool true)) (.t 107)))] false) [0, 1, 5, 6, 7, 108] 1)
  (.cond (.t 108) (.seq (.post (.region [
 (oN (.mv 4 (.c (I 4))))] false) [4] 0)
  .ret)
  .skip)))
  (.post (.region [
 (oM 78 7),
 (oN (.bin 79 .add (.t 78) (.c (I 1)))),
 (oM 7 79)] false) [0, 1, 5, 6, 7] 1))) [0, 1, 5, 6, 7] 1)
def qv : ICode :=
 (.post (.block 1 (.loop qbr)) [0, 5] 1)
def qt : ICode :=
 (.seq (.post (.region [
 (oF 109 5 0),
 (oL 110 109),
 (oF 111 5 1),
 (oL 112 111),
 (oF 113 5 5),
 (oL 114 113),
 (oM 115 0),
 (oN (.load 116 true 6 (.t 5))),
 (oN (.call (some 117) true 102 [(.t 115), (.t 116)])),
 (oN (.call (some 118) true 23 [(.t 110), (.t 112), (.t 114), (.t 117)])),
 (oM 4 118)] true) [4] 0)
  .ret)
def qbs : ICode :=
 (.seq (.post (.region [
 (oN (.mv 4 (.c (I 0))))] false) [0, 1] 0)
  (.seq (.post (.region [
 (oM 8 0),
 (oM 9 1),
 (oN (.iaddr 10 6 none (.t 8) (.t 9))),
 (oN (.load 11 true 6 (.t 10))),
 (oN (.alloc 5 false (.agg [I 0, I 0, I 0, I 0, I 0, I 0]))),
 (oN (.store false 6 (.t 5) (.t 11)))] false) [0, 1, 5] 1)
  (.seq (.block 0 (.seq (.post (.region [
 (oF 13 5 0),
 (oL 14 13),
 (oN (.call (some 15) true 50 [(.t 14), (.c (I 1)), (.c (I 23))])),
 (oN (.un 16 .not (.t 15))),
 (oM 12 16)] false) [0, 1, 5, 12] 1)
  (.cond (.t 12) (.seq (.post (.region [
 (oN (.mv 4 (.c (I 7))))] false) [4] 0)
  .ret)
  (.seq (.post (.region [
 (oF 18 5 1),
 (oL 19 18),
 (oN (.call (some 20) true 50 [(.t 19), (.c (I 1)), (.c (I 8))])),
 (oN (.un 21 .not (.t 20))),
 (oM 17 21)] false) [0, 1, 5, 17] 1)
  (.cond (.t 17) (.seq (.post (.region [
 (oN (.mv 4 (.c (I 3))))] false) [4] 0)
  .ret)
  (.seq (.post (.region [
 (oF 23 5 0),
 (oL 24 23),
 (oN (.bin 25 .eql (.t 24) (.c (I 1)))),
 (oM 26 25),
  ⟨.faddr 27 (.t 5) 5, some (26, true)⟩,
  ⟨.load 28 false 1 (.t 27), some (26, true)⟩,
  ⟨.faddr 29 (.t 5) 1, some (26, true)⟩,
  ⟨.load 30 false 1 (.t 29), some (26, true)⟩,
  ⟨.call (some 31) true 27 [(.t 30)], some (26, true)⟩,
  ⟨.bin 32 .sub (.t 31) (.c (I 1)), some (26, true)⟩,
  ⟨.call (some 33) true 50 [(.t 28), (.c (I 0)), (.t 32)], some (26, true)⟩,
  ⟨.un 34 .not (.t 33), some (26, true)⟩,
 (oN (.pick 35 (.t 26) (.t 34) (.c (.bool false)))),
 (oM 22 35)] true) [0, 1, 5, 22] 1)
  (.cond (.t 22) (.seq (.post (.region [
 (oN (.mv 4 (.c (I 3))))] false) [4] 0)
  .ret)
  (.seq (.post (.region [
 (oF 37 5 0),
 (oL 38 37),
 (oN (.bin 39 .leq (.t 38) (.c (I 3)))),
 (oM 40 39),
  ⟨.faddr 41 (.t 5) 0, some (40, true)⟩,
  ⟨.load 42 false 1 (.t 41), some (40, true)⟩,
  ⟨.bin 43 .gtr (.t 42) (.c (I 1)), some (40, true)⟩,
  ⟨.mv 44 (.t 43), some (40, true)⟩,
  ⟨.faddr 45 (.t 5) 5, some (44, true)⟩,
  ⟨.load 46 false 1 (.t 45), some (44, true)⟩,
  ⟨.bin 47 .neq (.t 46) (.c (I 0)), some (44, true)⟩,
  ⟨.pick 48 (.t 44) (.t 47) (.c (.bool false)), some (40, true)⟩,
  ⟨.mv 49 (.t 48), some (40, true)⟩,
  ⟨.faddr 50 (.t 5) 2, some (49, false)⟩,
  ⟨.load 51 false 1 (.t 50), some (49, false)⟩,
  ⟨.bin 52 .neq (.t 51) (.c (I 0)), some (49, false)⟩,
  ⟨.pick 53 (.t 49) (.c (.bool true)) (.t 52), some (40, true)⟩,
  ⟨.mv 54 (.t 53), some (40, true)⟩,
  ⟨.faddr 55 (.t 5) 3, some (54, false)⟩,
  ⟨.load 56 false 1 (.t 55), some (54, false)⟩,
  ⟨.bin 57 .neq (.t 56) (.c (I 0)), some (54, false)⟩,
  ⟨.pick 58 (.t 54) (.c (.bool true)) (.t 57), some (40, true)⟩,
  ⟨.mv 59 (.t 58), some (40, true)⟩,
  ⟨.faddr 60 (.t 5) 4, some (59, false)⟩,
  ⟨.load 61 false 1 (.t 60), some (59, false)⟩,
  ⟨.bin 62 .neq (.t 61) (.c (I 0)), some (59, false)⟩,
  ⟨.pick 63 (.t 59) (.c (.bool true)) (.t 62), some (40, true)⟩,
 (oN (.pick 64 (.t 40) (.t 63) (.c (.bool false)))),
 (oM 36 64)] false) [0, 1, 5, 36] 1)
  (.cond (.t 36) (.seq (.post (.region [
 (oN (.mv 4 (.c (I 1))))] false) [4] 0)
  .ret)
  (.seq (.post (.region [
 (oF 66 5 0),
 (oL 67 66),
 (oN (.bin 68 .leq (.t 67) (.c (I 3)))),
 (oM 65 68)] false) [0, 1, 5, 65] 1)
  (.cond (.t 65) (.seq (.post (.region [
 (oN (.mv 4 (.c (I 0))))] false) [4] 0)
  .ret)
  .skip)))))))))))
  (.seq (.post (.region [
 (oF 69 5 2),
 (oL 70 69),
 (oF 71 5 3),
 (oL 72 71),
 (oF 73 5 4),
 (oL 74 73),
 (oN (.buildSl 75 1 [(.t 70), (.t 72), (.t 74)])),
 (oN (.tk 6 75))] false) [0, 1, 5, 6] 1)
  (.seq (.seq (.post (.region [
 (oN (.mv 7 (.c (I 0))))] false) [0, 1, 5, 6, 7] 1)
  (.cut qv))
  (.cut qt))))))
def q77 : IFunc := { np := 2, res := [.t 4], own := false, trunc := true, body := qbs }
/- 73: latchwork/latchworkref.Bits -/
def q2j : ICode :=
 (.post (.region [
 (oM 12 6),
 (oN (.bin 13 .add (.t 12) (.c (I 1)))),
 (oM 6 13)] false) [1, 2, 5, 6] 1)
def qbt : ICode :=
 (.post (.seq (.seq (.post (.region [
 (oM 7 6),
 (oF 8 2 0),
 (oL 9 8),
 (oN (.len 10 0 (.t 9))),
 (oN (.bin 11 .lss (.t 7) (.t 10)))] false) [1, 2, 5, 6, 11] 1)
  (.cond (.t 11) .skip
  (.exit 0)))
  (.seq (.block 1 (.seq (.post (.region [
 (oF 14 2 0),
 (oL 15 14),
 (oM 16 6),
 (oN (.iaddr 17 6 none (.t 15) (.t 16))),
 (oF 18 17 0),
 (oL 19 18),
 (oM 20 1),
 (oN (.bin 21 .eql (.t 19) (.t 20)))] false) [1, 2, 5, 6, 21] 1)
  (.cond (.t 21) (.post (.post (.region [
 (oM 22 5),
 (oF 23 2 0),
 (oL 24 23),
 (oM 25 6),
 (oN (.iaddr 26 6 none (.t 24) (.t 25))),
 (oF 27 26 1),
 (oL 28 27),
 (oN (.bin 29 .add (.t 22) (.t 28))),
 (oM 5 29)] false) [1, 2, 5, 6] 1) [1, 2, 5, 6] 1)
  (.post .skip [1, 2, 5, 6] 1))))
  (.cut q2j))) [1, 2, 5, 6] 1)
def q78 : ICode :=
 (.post (.block 0 (.loop qbt)) [5] 0)
def q79 : ICode :=
 (.seq (.post (.region [
 (oM 30 5),
 (oM 4 30)] false) [4] 0)
  .ret)
def qbu : ICode :=
 (.seq (.post (.region [
 (oN (.box 2 false false (.t 0))),
 (oN (.mv 4 (.c (I 0))))] false) [1, 2] 1)
  (.seq (.region [
 (oN (.mv 5 (.c (I 0))))] false)
  (.seq (.seq (.post (.region [
 (oN (.mv 6 (.c (I 0))))] false) [1, 2, 5, 6] 1)
  (.cut q78))
  (.cut q79))))
def q7a : IFunc := { np := 2, res := [.t 4], own := false, trunc := true, body := qbu }
/- 74: latchwork/latchworkref.hangs -/
def q1k : ICode :=
 (.post (.region [
 (oN (.tk 63 3)),
 (oM 64 6),
 (oN (.buildSl 65 1 [(.t 64)])),
 (oN (.append 66 1 1 (.t 63) (.t 65))),
 (oN (.tk 3 66))] false) [1, 3, 4] 1)
def q1l : ICode :=
 (.seq (.seq (.post (.region [
 (oF 51 5 0),
 (oL 52 51),
 (oN (.call (some 53) true 26 [(.t 52)])),
 (oN (.bin 54 .gtr (.t 53) (.c (I 2))))] false) [1, 3, 4, 5, 6, 54] 2)
  (.cond (.t 54) (.post (.post (.region [
 (oM 55 6),
 (oM 56 55),
  ⟨.mv 57 (.t 3), some (56, false)⟩,
  ⟨.faddr 58 (.t 5) 4, some (56, false)⟩,
  ⟨.load 59 false 1 (.t 58), some (56, false)⟩,
  ⟨.iaddr 60 1 none (.t 57) (.t 59), some (56, false)⟩,
  ⟨.load 61 false 1 (.t 60), some (56, false)⟩,
 (oN (.pick 62 (.t 56) (.c (.bool true)) (.t 61))),
 (oM 6 62)] false) [1, 3, 4, 6] 1) [1, 3, 4, 6] 1)
  (.post .skip [1, 3, 4, 6] 1)))
  (.cut q1k))
def qw : ICode :=
 (.seq (.seq (.post (.region [
 (oF 39 5 0),
 (oL 40 39),
 (oN (.call (some 41) true 26 [(.t 40)])),
 (oN (.bin 42 .gtr (.t 41) (.c (I 1))))] false) [1, 3, 4, 5, 6, 42] 2)
  (.cond (.t 42) (.post (.post (.region [
 (oM 43 6),
 (oM 44 43),
  ⟨.mv 45 (.t 3), some (44, false)⟩,
  ⟨.faddr 46 (.t 5) 3, some (44, false)⟩,
  ⟨.load 47 false 1 (.t 46), some (44, false)⟩,
  ⟨.iaddr 48 1 none (.t 45) (.t 47), some (44, false)⟩,
  ⟨.load 49 false 1 (.t 48), some (44, false)⟩,
 (oN (.pick 50 (.t 44) (.c (.bool true)) (.t 49))),
 (oM 6 50)] false) [1, 3, 4, 5, 6] 2) [1, 3, 4, 5, 6] 2)
  (.post .skip [1, 3, 4, 5, 6] 2)))
  (.cut q1l))
def qx : ICode :=
 (.post (.region [
 (oM 12 4),
 (oN (.bin 13 .add (.t 12) (.c (I 1)))),
 (oM 4 13)] false) [1, 3, 4] 1)
def qbv : ICode :=
 (.post (.seq (.seq (.post (.region [
 (oM 7 4),
 (oF 8 1 0),
 (oL 9 8),
 (oN (.len 10 0 (.t 9))),
 (oN (.bin 11 .lss (.t 7) (.t 10)))] false) [1, 3, 4, 11] 1)
  (.cond (.t 11) .skip
  (.exit 0)))
  (.seq (.block 1 (.seq (.post (.region [
 (oF 14 1 0),
 (oL 15 14),
 (oM 16 4),
 (oN (.iaddr 17 6 none (.t 15) (.t 16))),
 (oN (.load 18 true 6 (.t 17))),
 (oN (.alloc 5 false (.agg [I 0, I 0, I 0, I 0, I 0, I 0]))),
 (oN (.store false 6 (.t 5) (.t 18)))] false) [1, 3, 4, 5] 2)
  (.seq (.post (.region [
 (oF 19 5 0),
 (oL 20 19),
 (oN (.bin 21 .eql (.t 20) (.c (I 2)))),
 (oM 22 21),
  ⟨.faddr 23 (.t 5) 0, some (22, false)⟩,
  ⟨.load 24 false 1 (.t 23), some (22, false)⟩,
  ⟨.bin 25 .eql (.t 24) (.c (I 3)), some (22, false)⟩,
 (oN (.pick 26 (.t 22) (.c (.bool true)) (.t 25))),
 (oM 6 26)] false) [1, 3, 4, 5, 6] 2)
  (.seq (.seq (.post (.region [
 (oF 27 5 0),
 (oL 28 27),
 (oN (.call (some 29) true 26 [(.t 28)])),
 (oN (.bin 30 .gtr (.t 29) (.c (I 0))))] false) [1, 3, 4, 5, 6, 30] 2)
  (.cond (.t 30) (.post (.post (.region [
 (oM 31 6),
 (oM 32 31),
  ⟨.mv 33 (.t 3), some (32, false)⟩,
  ⟨.faddr 34 (.t 5) 2, some (32, false)⟩,
  ⟨.load 35 false 1 (.t 34), some (32, false)⟩,
  ⟨.iaddr 36 1 none (.t 33) (.t 35), some (32, false)⟩,
  ⟨.load 37 false 1 (.t 36), some (32, false)⟩,
 (oN (.pick 38 (.t 32) (.c (.bool true)) (.t 37))),
 (oM 6 38)] false) [1, 3, 4, 5, 6] 2) [1, 3, 4, 5, 6] 2)
  (.post .skip [1, 3, 4, 5, 6] 2)))
  (.cut qw)))))
  (.cut qx))) [1, 3, 4] 1)
def q7b : ICode :=
 (.post (.block 0 (.loop qbv)) [3] 0)
def q7c : ICode :=
 (.seq (.post (.region [
 (oM 67 3),
 (oN (.tk 2 67))] false) [2] 0)
  .ret)
def qbw : ICode :=
 (.seq (.post (.region [
 (oN (.box 1 false false (.t 0))),
 (oN (.mv 2 (.c (.sl true 1 []))))] false) [1] 1)
  (.seq (.region [
 (oN (.mv 3 (.c (.sl true 1 []))))] false)
  (.seq (.seq (.post (.region [
 (oN (.mv 4 (.c (I 0))))] false) [1, 3, 4] 1)
  (.cut q7b))
  (.cut q7c))))
def q7d : IFunc := { np := 1, res := [.t 2], own := false, trunc := true, body := qbw }
/- 84: latchwork/latchworkref.ConeOf$1 -/
/- 92: latchwork/latchworkref.Num -/
/- 93: latchwork/latchworkref.CheckClauses -/
/- 95: latchwork/latchworkref.SameLists -/
def qbx : ICode :=
 (.post (.seq (.seq (.post (.region [
 (oM 11 5),
 (oM 12 0),
 (oN (.len 13 0 (.t 12))),
 (oN (.bin 14 .lss (.t 11) (.t 13)))] false) [0, 1, 5, 14] 0)
  (.cond (.t 14) .skip
  (.exit 0)))
  (.seq (.block 1 (.seq (.post (.region [
 (oM 17 0),
 (oM 18 5),
 (oA 19 17 18),
 (oL 20 19),
 (oM 21 1),
 (oM 22 5),
 (oA 23 21 22),
 (oL 24 23),
 (oN (.call (some 25) true 46 [(.t 20), (.t 24)])),
 (oN (.un 26 .not (.t 25)))] true) [0, 1, 5, 26] 0)
  (.cond (.t 26) (.seq (.post (.region [
 (oN (.mv 4 (.c (.bool false))))] false) [4] 0)
  .ret)
  .skip)))
  (.post (.region [
 (oM 15 5),
 (oN (.bin 16 .add (.t 15) (.c (I 1)))),
 (oM 5 16)] false) [0, 1, 5] 0))) [0, 1, 5] 0)
def q7e : ICode :=
 (.post (.block 0 (.loop qbx)) [] 0)
def q7f : ICode :=
 (.seq (.region [
 (oN (.mv 4 (.c (.bool true))))] false)
  .ret)
def qby : ICode :=
 (.seq (.post (.region [
 (oN (.mv 4 (.c (.bool false))))] false) [0, 1] 0)
  (.seq (.seq (.post (.region [
 (oM 6 0),
 (oN (.len 7 0 (.t 6))),
 (oM 8 1),
 (oN (.len 9 0 (.t 8))),
 (oN (.bin 10 .neq (.t 7) (.t 9)))] false) [0, 1, 10] 0)
  (.cond (.t 10) (.seq (.post (.region [
 (oN (.mv 4 (.c (.bool false))))] false) [4] 0)
  .ret)
  .skip))
  (.seq (.seq (.post (.region [
 (oN (.mv 5 (.c (I 0))))] false) [0, 1, 5] 0)
  (.cut q7e))
  (.cut q7f))))
def q7g : IFunc := { np := 2, res := [.t 4], own := false, trunc := true, body := qby }
/- 97: latchwork/latchworkref.Bit -/
def qbz : ICode :=
 (.seq (.post (.region [
 (oN (.mv 4 (.c (I 0))))] false) [0, 1] 0)
  (.seq (.post (.region [
 (oM 5 0),
 (oM 6 1),
 (oN (.call (some 7) true 27 [(.t 6)])),
 (oN (.bin 8 .quo (.t 5) (.t 7))),
 (oN (.bin 9 .rem (.t 8) (.c (I 2)))),
 (oM 4 9)] false) [4] 0)
  .ret))
def q7h : IFunc := { np := 2, res := [.t 4], own := false, trunc := true, body := qbz }
/- 102: latchwork/latchworkref.WidthsOf -/
def q2k : ICode :=
 (.seq (.post (.region [
 (oN (.load 37 true 3 (.t 5))),
 (oN (.store false 3 (.t 4) (.t 37)))] false) [4] 2)
  .ret)
def q2l : ICode :=
 (.seq (.seq (.post (.region [
 (oM 28 6),
 (oN (.bin 29 .gtr (.t 28) (.c (I 2))))] false) [0, 3, 4, 5, 29] 3)
  (.cond (.t 29) (.post (.post (.region [
 (oM 30 0),
 (oF 31 3 4),
 (oL 32 31),
 (oN (.iaddr 33 6 none (.t 30) (.t 32))),
 (oF 34 33 1),
 (oL 35 34),
 (oN (.iaddr 36 1 (some 3) (.t 5) (.c (I 2)))),
 (oN (.store false 1 (.t 36) (.t 35)))] false) [4, 5] 3) [4, 5] 3)
  (.post .skip [4, 5] 3)))
  (.cut q2k))
def q2m : ICode :=
 (.seq (.seq (.post (.region [
 (oM 19 6),
 (oN (.bin 20 .gtr (.t 19) (.c (I 1))))] false) [0, 3, 4, 5, 6, 20] 3)
  (.cond (.t 20) (.post (.post (.region [
 (oM 21 0),
 (oF 22 3 3),
 (oL 23 22),
 (oN (.iaddr 24 6 none (.t 21) (.t 23))),
 (oF 25 24 1),
 (oL 26 25),
 (oN (.iaddr 27 1 (some 3) (.t 5) (.c (I 1)))),
 (oN (.store false 1 (.t 27) (.t 26)))] false) [0, 3, 4, 5, 6] 3) [0, 3, 4, 5, 6] 3)
  (.post .skip [0, 3, 4, 5, 6] 3)))
  (.cut q2l))
def qc0 : ICode :=
 (.seq (.post (.region [
 (oN (.box 3 false false (.t 1))),
 (oN (.alloc 4 false (.agg [I 0, I 0, I 0])))] false) [0, 3, 4] 2)
  (.seq (.region [
 (oN (.alloc 5 false (.agg [I 0, I 0, I 0])))] false)
  (.seq (.post (.region [
 (oF 7 3 0),
 (oL 8 7),
 (oN (.call (some 9) true 26 [(.t 8)])),
 (oM 6 9)] false) [0, 3, 4, 5, 6] 3)
  (.seq (.seq (.post (.region [
 (oM 10 6),
 (oN (.bin 11 .gtr (.t 10) (.c (I 0))))] false) [0, 3, 4, 5, 6, 11] 3)
  (.cond (.t 11) (.post (.post (.region [
 (oM 12 0),
 (oF 13 3 2),
 (oL 14 13),
 (oN (.iaddr 15 6 none (.t 12) (.t 14))),
 (oF 16 15 1),
 (oL 17 16),
 (oN (.iaddr 18 1 (some 3) (.t 5) (.c (I 0)))),
 (oN (.store false 1 (.t 18) (.t 17)))] false) [0, 3, 4, 5, 6] 3) [0, 3, 4, 5, 6] 3)
  (.post .skip [0, 3, 4, 5, 6] 3)))
  (.cut q2m)))))
def q7i : IFunc := { np := 2, res := [.cell 4 true 3], own := false, trunc := true, body := qc0 }
/- 112: latchwork/latchworkref.CheckClause -/
/- 124: latchwork/latchworkref.CheckWords -/
def qc1 : ICode :=
 (.post (.seq (.seq (.post (.region [
 (oM 17 8),
 (oM 18 2),
 (oN (.len 19 0 (.t 18))),
 (oN (.bin 20 .lss (.t 17) (.t 19)))] false) [2, 3, 7, 8, 20] 1)
  (.cond (.t 20) .skip
  (.exit 0)))
  (.seq (.block 1 (.seq (.post (.region [
 (oM 23 2),
 (oM 24 8),
 (oA 25 23 24),
 (oL 26 25),
 (oF 27 3 0),
 (oL 28 27),
 (oM 29 7),
 (oM 30 8),
 (oA 31 29 30),
 (oL 32 31),
 (oN (.iaddr 33 6 none (.t 28) (.t 32))),
 (oF 34 33 1),
 (oL 35 34),
 (oN (.call (some 36) true 27 [(.t 35)])),
 (oN (.bin 37 .sub (.t 36) (.c (I 1)))),
 (oN (.call (some 38) true 50 [(.t 26), (.c (I 0)), (.t 37)])),
 (oN (.un 39 .not (.t 38)))] true) [2, 3, 7, 8, 39] 1)
  (.cond (.t 39) (.seq (.post (.region [
 (oN (.mv 6 (.c (I 3))))] false) [6] 0)
  .ret)
  .skip)))
  (.post (.region [
 (oM 21 8),
 (oN (.bin 22 .add (.t 21) (.c (I 1)))),
 (oM 8 22)] false) [2, 3, 7, 8] 1))) [2, 3, 7, 8] 1)
def q7j : ICode :=
 (.post (.block 0 (.loop qc1)) [] 0)
def q7k : ICode :=
 (.seq (.region [
 (oN (.mv 6 (.c (I 0))))] false)
  .ret)
def qc2 : ICode :=
 (.seq (.post (.region [
 (oN (.box 3 false false (.t 0))),
 (oN (.mv 6 (.c (I 0))))] false) [1, 2, 3] 1)
  (.seq (.post (.region [
 (oN (.load 9 true 5 (.t 3))),
 (oM 10 1),
 (oN (.call (some 11) true 39 [(.t 9), (.t 10)])),
 (oN (.tk 7 11))] false) [2, 3, 7] 1)
  (.seq (.seq (.post (.region [
 (oM 12 2),
 (oN (.len 13 0 (.t 12))),
 (oM 14 7),
 (oN (.len 15 0 (.t 14))),
 (oN (.bin 16 .neq (.t 13) (.t 15)))] false) [2, 3, 7, 16] 1)
  (.cond (.t 16) (.seq (.post (.region [
 (oN (.mv 6 (.c (I 2))))] false) [6] 0)
  .ret)
  .skip))
  (.seq (.seq (.post (.region [
 (oN (.mv 8 (.c (I 0))))] false) [2, 3, 7, 8] 1)
  (.cut q7j))
  (.cut q7k)))))
def q19 : IFunc := { np := 3, res := [.t 6], own := false, trunc := true, body := qc2 }
/- 125: latchwork/latchworkref.BeginOf -/
def q2n : ICode :=
 (.post (.region [
 (oM 25 8),
 (oN (.bin 26 .add (.t 25) (.c (I 1)))),
 (oM 8 26)] false) [1, 2, 5, 6, 7, 8] 1)
def qc3 : ICode :=
 (.post (.seq (.seq (.post (.region [
 (oM 21 8),
 (oM 22 5),
 (oN (.len 23 0 (.t 22))),
 (oN (.bin 24 .lss (.t 21) (.t 23)))] false) [1, 2, 5, 6, 7, 8, 24] 1)
  (.cond (.t 24) .skip
  (.exit 0)))
  (.seq (.block 1 (.seq (.post (.region [
 (oF 27 2 1),
 (oL 28 27),
 (oM 29 5),
 (oM 30 8),
 (oA 31 29 30),
 (oL 32 31),
 (oN (.call (some 33) true 137 [(.t 28), (.t 32)])),
 (oM 9 33)] true) [1, 2, 5, 6, 7, 8, 9] 1)
  (.seq (.post (.region [
 (oM 34 9),
 (oN (.bin 35 .geq (.t 34) (.c (I 0))))] false) [1, 2, 5, 6, 7, 8, 9, 35] 1)
  (.cond (.t 35) (.post (.post (.region [
 (oN (.tk 36 7)),
 (oM 37 6),
 (oM 38 9),
 (oA 39 37 38),
 (oL 40 39),
 (oN (.buildSl 41 1 [(.t 40)])),
 (oN (.append 42 1 8 (.t 36) (.t 41))),
 (oN (.tk 7 42))] false) [1, 2, 5, 6, 7, 8] 1) [1, 2, 5, 6, 7, 8] 1)
  (.post (.post (.region [
 (oN (.tk 43 7)),
 (oM 44 1),
 (oM 45 8),
 (oA 46 44 45),
 (oL 47 46),
 (oN (.buildSl 48 1 [(.t 47)])),
 (oN (.append 49 1 8 (.t 43) (.t 48))),
 (oN (.tk 7 49))] false) [1, 2, 5, 6, 7, 8] 1) [1, 2, 5, 6, 7, 8] 1)))))
  (.cut q2n))) [1, 2, 5, 6, 7, 8] 1)
def q3z : ICode :=
 (.post (.block 0 (.loop qc3)) [7] 0)
def q7l : ICode :=
 (.seq (.post (.region [
 (oM 50 7),
 (oN (.tk 4 50))] false) [4] 0)
  .ret)
def qc4 : ICode :=
 (.seq (.post (.region [
 (oN (.box 2 false false (.t 0))),
 (oN (.mv 4 (.c (.sl true 1 []))))] false) [1, 2] 1)
  (.seq (.post (.region [
 (oN (.load 10 true 5 (.t 2))),
 (oN (.call (some 11) true 39 [(.t 10), (.c (I 3))])),
 (oN (.tk 5 11))] false) [1, 2, 5] 1)
  (.seq (.post (.region [
 (oN (.load 12 true 5 (.t 2))),
 (oM 13 5),
 (oN (.len 14 0 (.t 13))),
 (oN (.mksl 15 false 1 8 (I 0) (.t 14))),
 (oN (.load 16 true 5 (.t 2))),
 (oN (.call (some 17) true 39 [(.t 16), (.c (I 2))])),
 (oN (.len 18 0 (.t 17))),
 (oN (.mksl 19 false 1 8 (I 0) (.t 18))),
 (oN (.call (some 20) true 132 [(.t 12), (.t 15), (.t 19)])),
 (oN (.tk 6 20))] true) [1, 2, 5, 6] 1)
  (.seq (.region [
 (oN (.mv 7 (.c (.sl true 1 []))))] false)
  (.seq (.seq (.post (.region [
 (oN (.mv 8 (.c (I 0))))] false) [1, 2, 5, 6, 7, 8] 1)
  (.cut q3z))
  (.cut q7l))))))
def q7m : IFunc := { np := 2, res := [.t 4], own := false, trunc := true, body := qc4 }
/- 131: latchwork/latchworkref.Ready -/
/- 132: latchwork/latchworkref.ValuesOf -/
def ql : ICode :=
 (.post (.region [
 (oM 21 10),
 (oN (.bin 22 .add (.t 21) (.c (I 1)))),
 (oM 10 22)] false) [1, 2, 3, 7, 8, 9, 10] 1)
def qc5 : ICode :=
 (.post (.seq (.seq (.post (.region [
 (oM 16 10),
 (oF 17 3 0),
 (oL 18 17),
 (oN (.len 19 0 (.t 18))),
 (oN (.bin 20 .lss (.t 16) (.t 19)))] false) [1, 2, 3, 7, 8, 9, 10, 20] 1)
  (.cond (.t 20) .skip
  (.exit 0)))
  (.seq (.block 1 (.seq (.post (.region [
 (oF 23 3 0),
 (oL 24 23),
 (oM 25 10),
 (oN (.iaddr 26 6 none (.t 24) (.t 25))),
 (oN (.load 27 true 6 (.t 26))),
 (oN (.alloc 11 false (.agg [I 0, I 0, I 0, I 0, I 0, I 0]))),
 (oN (.store false 6 (.t 11) (.t 27)))] false) [1, 2, 3, 7, 8, 9, 10, 11] 2)
  (.seq (.post (.region [
 (oF 28 11 0),
 (oL 29 28)] false) [1, 2, 3, 7, 8, 9, 10, 11, 29] 2)
  (.block 2 (.seq (.post (.region [
 (oN (.bin 60 .eql (.t 29) (.c (I 1)))),
 (oM 59 60)] false) [1, 2, 3, 7, 8, 9, 10, 11, 29, 59] 2)
  (.cond (.t 59) (.post (.post (.region [
 (oM 61 7),
 (oM 62 10),
 (oF 63 11 5),
 (oL 64 63),
 (oA 65 61 62),
 (oN (.store false 1 (.t 65) (.t 64)))] false) [1, 2, 3, 7, 8, 9, 10] 1) [1, 2, 3, 7, 8, 9, 10] 1)
  (.post (.seq (.post (.region [
 (oN (.bin 67 .eql (.t 29) (.c (I 2)))),
 (oM 66 67)] false) [1, 2, 3, 7, 8, 9, 10, 11, 29, 66] 2)
  (.cond (.t 66) (.post (.seq (.post (.region [
 (oM 68 7),
 (oM 69 10),
 (oM 70 2),
 (oM 71 9),
 (oA 72 70 71),
 (oL 73 72),
 (oA 74 68 69),
 (oN (.store false 1 (.t 74) (.t 73)))] false) [1, 2, 3, 7, 8, 9, 10] 1)
  (.post (.region [
 (oM 75 9),
 (oN (.bin 76 .add (.t 75) (.c (I 1)))),
 (oM 9 76)] false) [1, 2, 3, 7, 8, 9, 10] 1)) [1, 2, 3, 7, 8, 9, 10] 1)
  (.post (.seq (.post (.region [
 (oN (.bin 78 .eql (.t 29) (.c (I 3)))),
 (oM 77 78)] false) [1, 2, 3, 7, 8, 9, 10, 11, 77] 2)
  (.cond (.t 77) (.post (.seq (.post (.region [
 (oM 79 7),
 (oM 80 10),
 (oM 81 1),
 (oM 82 8),
 (oA 83 81 82),
 (oL 84 83),
 (oA 85 79 80),
 (oN (.store false 1 (.t 85) (.t 84)))] false) [1, 2, 3, 7, 8, 9, 10] 1)
  (.post (.region [
 (oM 86 8),
 (oN (.bin 87 .add (.t 86) (.c (I 1)))),
 (oM 8 87)] false) [1, 2, 3, 7, 8, 9, 10] 1)) [1, 2, 3, 7, 8, 9, 10] 1)
  (.post (.post (.region [
 (oM 30 7),
 (oM 31 10),
 (oF 32 11 0),
 (oL 33 32),
 (oF 34 11 1),
 (oL 35 34),
 (oM 36 7),
 (oF 37 11 2),
 (oL 38 37),
 (oA 39 36 38),
 (oL 40 39),
 (oM 41 7),
 (oF 42 11 3),
 (oL 43 42),
 (oA 44 41 43),
 (oL 45 44),
 (oM 46 7),
 (oF 47 11 4),
 (oL 48 47),
 (oA 49 46 48),
 (oL 50 49),
 (oF 51 11 5),
 (oL 52 51),
 (oF 53 3 0),
 (oL 54 53),
 (oN (.load 55 true 6 (.t 11))),
 (oN (.call (some 56) true 102 [(.t 54), (.t 55)])),
 (oN (.call (some 57) true 28 [(.t 33), (.t 35), (.t 40), (.t 45), (.t 50), (.t 52), (.t 56)])),
 (oA 58 30 31),
 (oN (.store false 1 (.t 58) (.t 57)))] true) [1, 2, 3, 7, 8, 9, 10] 1) [1, 2, 3, 7, 8, 9, 10] 1))) [1, 2, 3, 7, 8, 9, 10] 1))) [1, 2, 3, 7, 8, 9, 10] 1)))))))
  (.cut ql))) [1, 2, 3, 7, 8, 9, 10] 1)
def q40 : ICode :=
 (.post (.block 0 (.loop qc5)) [7] 0)
def q7n : ICode :=
 (.seq (.post (.region [
 (oM 88 7),
 (oN (.tk 6 88))] false) [6] 0)
  .ret)
def qc6 : ICode :=
 (.seq (.post (.region [
 (oN (.box 3 false false (.t 0))),
 (oN (.mv 6 (.c (.sl true 1 []))))] false) [1, 2, 3] 1)
  (.seq (.post (.region [
 (oF 12 3 0),
 (oL 13 12),
 (oN (.len 14 0 (.t 13))),
 (oN (.mksl 15 true 1 8 (I 0) (.t 14))),
 (oN (.tk 7 15))] false) [1, 2, 3, 7] 1)
  (.seq (.region [
 (oN (.mv 8 (.c (I 0)))),
 (oN (.mv 9 (.c (I 0))))] false)
  (.seq (.seq (.post (.region [
 (oN (.mv 10 (.c (I 0))))] false) [1, 2, 3, 7, 8, 9, 10] 1)
  (.cut q40))
  (.cut q7n)))))
def q7o : IFunc := { np := 3, res := [.t 6], own := false, trunc := true, body := qc6 }
/- 133: latchwork/latchworkref.NextOf -/
def qc7 : ICode :=
 (.post (.seq (.seq (.post (.region [
 (oM 10 7),
 (oM 11 5),
 (oN (.len 12 0 (.t 11))),
 (oN (.bin 13 .lss (.t 10) (.t 12)))] false) [1, 2, 5, 6, 7, 13] 1)
  (.cond (.t 13) .skip
  (.exit 0)))
  (.seq (.block 1 (.post (.region [
 (oN (.tk 16 6)),
 (oM 17 1),
 (oF 18 2 2),
 (oL 19 18),
 (oM 20 5),
 (oM 21 7),
 (oA 22 20 21),
 (oL 23 22),
 (oN (.call (some 24) true 137 [(.t 19), (.t 23)])),
 (oA 25 17 24),
 (oL 26 25),
 (oN (.buildSl 27 1 [(.t 26)])),
 (oN (.append 28 1 8 (.t 16) (.t 27))),
 (oN (.tk 6 28))] true) [1, 2, 5, 6, 7] 1))
  (.post (.region [
 (oM 14 7),
 (oN (.bin 15 .add (.t 14) (.c (I 1)))),
 (oM 7 15)] false) [1, 2, 5, 6, 7] 1))) [1, 2, 5, 6, 7] 1)
def q41 : ICode :=
 (.post (.block 0 (.loop qc7)) [6] 0)
def q7p : ICode :=
 (.seq (.post (.region [
 (oM 29 6),
 (oN (.tk 4 29))] false) [4] 0)
  .ret)
def qc8 : ICode :=
 (.seq (.post (.region [
 (oN (.box 2 false false (.t 0))),
 (oN (.mv 4 (.c (.sl true 1 []))))] false) [1, 2] 1)
  (.seq (.post (.region [
 (oN (.load 8 true 5 (.t 2))),
 (oN (.call (some 9) true 39 [(.t 8), (.c (I 3))])),
 (oN (.tk 5 9))] false) [1, 2, 5] 1)
  (.seq (.region [
 (oN (.mv 6 (.c (.sl true 1 []))))] false)
  (.seq (.seq (.post (.region [
 (oN (.mv 7 (.c (I 0))))] false) [1, 2, 5, 6, 7] 1)
  (.cut q41))
  (.cut q7p)))))
def q7q : IFunc := { np := 2, res := [.t 4], own := false, trunc := true, body := qc8 }
/- 134: latchwork/latchworkref.MarksOf -/
def qc9 : ICode :=
 (.post (.seq (.seq (.post (.region [
 (oM 10 8),
 (oF 11 2 4),
 (oL 12 11),
 (oN (.len 13 0 (.t 12))),
 (oN (.bin 14 .lss (.t 10) (.t 13)))] false) [1, 2, 6, 7, 8, 14] 1)
  (.cond (.t 14) .skip
  (.exit 0)))
  (.seq (.block 1 (.post (.region [
 (oM 17 6),
 (oM 18 17),
  ⟨.mv 19 (.t 1), some (18, true)⟩,
  ⟨.faddr 20 (.t 2) 4, some (18, true)⟩,
  ⟨.load 21 false 1 (.t 20), some (18, true)⟩,
  ⟨.mv 22 (.t 8), some (18, true)⟩,
  ⟨.iaddr 23 1 none (.t 21) (.t 22), some (18, true)⟩,
  ⟨.load 24 false 1 (.t 23), some (18, true)⟩,
  ⟨.iaddr 25 1 none (.t 19) (.t 24), some (18, true)⟩,
  ⟨.load 26 false 1 (.t 25), some (18, true)⟩,
  ⟨.bin 27 .eql (.t 26) (.c (I 1)), some (18, true)⟩,
 (oN (.pick 28 (.t 18) (.t 27) (.c (.bool false)))),
 (oM 6 28)] false) [1, 2, 6, 7, 8] 1))
  (.post (.region [
 (oM 15 8),
 (oN (.bin 16 .add (.t 15) (.c (I 1)))),
 (oM 8 16)] false) [1, 2, 6, 7, 8] 1))) [1, 2, 6, 7, 8] 1)
def q42 : ICode :=
 (.post (.block 0 (.loop qc9)) [1, 2, 6, 7] 1)
def qca : ICode :=
 (.post (.seq (.seq (.post (.region [
 (oM 29 9),
 (oF 30 2 3),
 (oL 31 30),
 (oN (.len 32 0 (.t 31))),
 (oN (.bin 33 .lss (.t 29) (.t 32)))] false) [1, 2, 6, 7, 9, 33] 1)
  (.cond (.t 33) .skip
  (.exit 2)))
  (.seq (.block 3 (.post (.region [
 (oM 36 7),
 (oM 37 36),
  ⟨.mv 38 (.t 1), some (37, false)⟩,
  ⟨.faddr 39 (.t 2) 3, some (37, false)⟩,
  ⟨.load 40 false 1 (.t 39), some (37, false)⟩,
  ⟨.mv 41 (.t 9), some (37, false)⟩,
  ⟨.iaddr 42 1 none (.t 40) (.t 41), some (37, false)⟩,
  ⟨.load 43 false 1 (.t 42), some (37, false)⟩,
  ⟨.iaddr 44 1 none (.t 38) (.t 43), some (37, false)⟩,
  ⟨.load 45 false 1 (.t 44), some (37, false)⟩,
  ⟨.bin 46 .eql (.t 45) (.c (I 1)), some (37, false)⟩,
 (oN (.pick 47 (.t 37) (.c (.bool true)) (.t 46))),
 (oM 7 47)] false) [1, 2, 6, 7, 9] 1))
  (.post (.region [
 (oM 34 9),
 (oN (.bin 35 .add (.t 34) (.c (I 1)))),
 (oM 9 35)] false) [1, 2, 6, 7, 9] 1))) [1, 2, 6, 7, 9] 1)
def q43 : ICode :=
 (.post (.block 2 (.loop qca)) [6, 7] 0)
def q7r : ICode :=
 (.seq (.post (.region [
 (oM 48 6),
 (oM 49 7),
 (oM 4 48),
 (oM 5 49)] false) [4, 5] 0)
  .ret)
def q44 : ICode :=
 (.seq (.seq (.post (.region [
 (oN (.mv 9 (.c (I 0))))] false) [1, 2, 6, 7, 9] 1)
  (.cut q43))
  (.cut q7r))
def qcb : ICode :=
 (.seq (.post (.region [
 (oN (.box 2 false false (.t 0))),
 (oN (.mv 4 (.c (.bool false)))),
 (oN (.mv 5 (.c (.bool false))))] false) [1, 2] 1)
  (.seq (.region [
 (oN (.mv 6 (.c (.bool true)))),
 (oN (.mv 7 (.c (.bool false))))] false)
  (.seq (.seq (.post (.region [
 (oN (.mv 8 (.c (I 0))))] false) [1, 2, 6, 7, 8] 1)
  (.cut q42))
  (.cut q44))))
def q7s : IFunc := { np := 2, res := [.t 4, .t 5], own := false, trunc := true, body := qcb }
/- 137: latchwork/latchworkref.PairOf -/
def qcc : ICode :=
 (.post (.seq (.seq (.post (.region [
 (oM 6 5),
 (oM 7 0),
 (oN (.len 8 0 (.t 7))),
 (oN (.bin 9 .lss (.t 6) (.t 8)))] false) [0, 1, 5, 9] 0)
  (.cond (.t 9) .skip
  (.exit 0)))
  (.seq (.block 1 (.seq (.post (.region [
 (oM 12 0),
 (oM 13 5),
 (oN (.iaddr 14 2 none (.t 12) (.t 13))),
 (oF 15 14 0),
 (oL 16 15),
 (oM 17 1),
 (oN (.bin 18 .eql (.t 16) (.t 17)))] false) [0, 1, 5, 18] 0)
  (.cond (.t 18) (.seq (.post (.region [
 (oM 19 0),
 (oM 20 5),
 (oN (.iaddr 21 2 none (.t 19) (.t 20))),
 (oF 22 21 1),
 (oL 23 22),
 (oM 4 23)] false) [4] 0)
  .ret)
  .skip)))
  (.post (.region [
 (oM 10 5),
 (oN (.bin 11 .add (.t 10) (.c (I 1)))),
 (oM 5 11)] false) [0, 1, 5] 0))) [0, 1, 5] 0)
def q7t : ICode :=
 (.post (.block 0 (.loop qcc)) [] 0)
def q7u : ICode :=
 (.seq (.region [
 (oN (.mv 4 (.c (I (-1)))))] false)
  .ret)
def qcd : ICode :=
 (.seq (.post (.region [
 (oN (.mv 4 (.c (I 0))))] false) [0, 1] 0)
  (.seq (.seq (.post (.region [
 (oN (.mv 5 (.c (I 0))))] false) [0, 1, 5] 0)
  (.cut q7t))
  (.cut q7u)))
def q2o : IFunc := { np := 2, res := [.t 4], own := false, trunc := true, body := qcd }
/- 146: latchwork/latchworkref.FollowsOf -/
/- 150: latchwork/latchworkref.CheckProof -/
/- 151: latchwork/latchworkref.ProofOf -/
/- 167: latchwork/latchworkref.AnswerIs -/
/- 168: latchwork/latchworkref.HoldsOf -/
/- 213: latchwork/latchworkref.CheckCircuit -/
/- 321: latchwork/latchworkref.WaysOf -/
/- 322: latchwork/latchworkref.Layers -/
/- 323: latchwork/latchworkref.NumberOf -/
/- 324: latchwork/latchworkref.ExploreOf -/
/- 326: latchwork/latchworkref.WordsOf -/
/- 327: latchwork/latchworkref.BitsOf -/
/- 330: latchwork/latchworkref.CheckSteps -/
/- 331: latchwork/latchworkref.StepClauses -/
/- 338: latchwork/latchworkref.StepClauses$1 -/
/- 339: latchwork/latchworkref.StepClauses$2 -/
/- 349: latchwork/latchworkref.SameModel -/
/- 351: latchwork/latchworkref.PrintTrace -/
/- 354: latchwork/latchworkref.samePairs -/
/- 355: latchwork/latchworkref.line -/
/- 368: latchwork/latchworkref.PrintModel -/
/- 370: latchwork/latchworkref.ParseModel -/
/- 372: latchwork/latchworkref.ParseTrace -/
/- 373: latchwork/latchworkref.SameTrace -/
/- 376: latchwork/latchworkref.CheckTrace -/
def qce : ICode :=
 (.post (.seq (.seq (.post (.region [
 (oM 24 6),
 (oF 25 3 1),
 (oL 26 25),
 (oN (.len 27 0 (.t 26))),
 (oN (.bin 28 .lss (.t 24) (.t 27))),
 (oM 29 28),
  ⟨.mv 30 (.t 5), some (29, true)⟩,
  ⟨.bin 31 .eql (.t 30) (.c (I 0)), some (29, true)⟩,
 (oN (.pick 32 (.t 29) (.t 31) (.c (.bool false))))] false) [2, 3, 5, 6, 32] 2)
  (.cond (.t 32) .skip
  (.exit 0)))
  (.seq (.block 1 (.post (.region [
 (oN (.load 35 true 5 (.t 2))),
 (oF 36 3 1),
 (oL 37 36),
 (oM 38 6),
 (oA 39 37 38),
 (oL 40 39),
 (oN (.call (some 41) true 124 [(.t 35), (.c (I 2)), (.t 40)])),
 (oM 5 41)] true) [2, 3, 5, 6] 2))
  (.post (.region [
 (oM 33 6),
 (oN (.bin 34 .add (.t 33) (.c (I 1)))),
 (oM 6 34)] false) [2, 3, 5, 6] 2))) [2, 3, 5, 6] 2)
def q2p : ICode :=
 (.post (.block 0 (.loop qce)) [5] 0)
def q45 : ICode :=
 (.seq (.post (.region [
 (oM 42 5),
 (oM 4 42)] false) [4] 0)
  .ret)
def q2q : ICode :=
 (.seq (.seq (.post (.region [
 (oN (.mv 6 (.c (I 0))))] false) [2, 3, 5, 6] 2)
  (.cut q2p))
  (.cut q45))
def q1m : ICode :=
 (.seq (.seq (.post (.region [
 (oM 18 5),
 (oN (.bin 19 .eql (.t 18) (.c (I 0))))] false) [2, 3, 5, 19] 2)
  (.cond (.t 19) (.post (.post (.region [
 (oN (.load 20 true 5 (.t 2))),
 (oF 21 3 0),
 (oL 22 21),
 (oN (.call (some 23) true 124 [(.t 20), (.c (I 3)), (.t 22)])),
 (oM 5 23)] false) [2, 3, 5] 2) [2, 3, 5] 2)
  (.post .skip [2, 3, 5] 2)))
  (.cut q2q))
def qcf : ICode :=
 (.seq (.post (.region [
 (oN (.box 2 false false (.t 0))),
 (oN (.box 3 false false (.t 1))),
 (oN (.mv 4 (.c (I 0))))] false) [2, 3] 2)
  (.seq (.post (.region [
 (oN (.load 7 true 5 (.t 2))),
 (oN (.call (some 8) true 36 [(.t 7)])),
 (oM 5 8)] false) [2, 3, 5] 2)
  (.seq (.seq (.post (.region [
 (oM 9 5),
 (oN (.bin 10 .eql (.t 9) (.c (I 0)))),
 (oM 11 10),
  ⟨.faddr 12 (.t 3) 1, some (11, true)⟩,
  ⟨.load 13 false 1 (.t 12), some (11, true)⟩,
  ⟨.len 14 0 (.t 13), some (11, true)⟩,
  ⟨.call (some 15) true 50 [(.t 14), (.c (I 1)), (.c (I 41))], some (11, true)⟩,
  ⟨.un 16 .not (.t 15), some (11, true)⟩,
 (oN (.pick 17 (.t 11) (.t 16) (.c (.bool false))))] false) [2, 3, 5, 17] 2)
  (.cond (.t 17) (.post (.post (.region [
 (oN (.mv 5 (.c (I 2))))] false) [2, 3, 5] 2) [2, 3, 5] 2)
  (.post .skip [2, 3, 5] 2)))
  (.cut q1m))))
def q1a : IFunc := { np := 2, res := [.t 4], own := false, trunc := true, body := qcf }
/- 377: latchwork/latchworkref.PlayOf -/
def qcg : ICode :=
 (.post (.seq (.seq (.post (.region [
 (oM 18 10),
 (oF 19 3 1),
 (oL 20 19),
 (oN (.len 21 0 (.t 20))),
 (oN (.bin 22 .lss (.t 18) (.t 21)))] false) [2, 3, 6, 7, 8, 9, 10, 22] 2)
  (.cond (.t 22) .skip
  (.exit 0)))
  (.seq (.block 1 (.seq (.post (.region [
 (oN (.tk 25 6)),
 (oM 26 7),
 (oN (.buildSl 27 1 [(.t 26)])),
 (oN (.append 28 1 24 (.t 25) (.t 27))),
 (oN (.tk 6 28))] false) [2, 3, 6, 7, 8, 10] 2)
  (.seq (.post (.region [
 (oN (.load 29 true 5 (.t 2))),
 (oM 30 7),
 (oF 31 3 1),
 (oL 32 31),
 (oM 33 10),
 (oA 34 32 33),
 (oL 35 34),
 (oN (.call (some 36) true 132 [(.t 29), (.t 30), (.t 35)])),
 (oN (.tk 11 36))] true) [2, 3, 6, 8, 10, 11] 2)
  (.seq (.post (.region [
 (oN (.load 38 true 5 (.t 2))),
 (oM 39 11),
 (oN (.call (some 40) true 134 [(.t 38), (.t 39)])),
 (oM 37 40),
 (oN (.extract 41 (.t 37) 0)),
 (oN (.extract 42 (.t 37) 1)),
 (oM 12 41),
 (oM 13 42)] false) [2, 3, 6, 8, 10, 11, 12, 13] 2)
  (.seq (.post (.region [
 (oM 43 8),
 (oM 44 43),
  ⟨.mv 45 (.t 12), some (44, true)⟩,
 (oN (.pick 46 (.t 44) (.t 45) (.c (.bool false)))),
 (oM 47 13),
 (oM 8 46),
 (oM 9 47)] false) [2, 3, 6, 8, 9, 10, 11] 2)
  (.post (.region [
 (oN (.load 48 true 5 (.t 2))),
 (oM 49 11),
 (oN (.call (some 50) true 133 [(.t 48), (.t 49)])),
 (oN (.tk 7 50))] false) [2, 3, 6, 7, 8, 9, 10] 2))))))
  (.post (.region [
 (oM 23 10),
 (oN (.bin 24 .add (.t 23) (.c (I 1)))),
 (oM 10 24)] false) [2, 3, 6, 7, 8, 9, 10] 2))) [2, 3, 6, 7, 8, 9, 10] 2)
def q46 : ICode :=
 (.post (.block 0 (.loop qcg)) [6, 8, 9] 0)
def q47 : ICode :=
 (.seq (.post (.region [
 (oM 51 6),
 (oM 52 8),
 (oM 53 52),
  ⟨.mv 54 (.t 9), some (53, true)⟩,
 (oN (.pick 55 (.t 53) (.t 54) (.c (.bool false)))),
 (oN (.tk 4 51)),
 (oM 5 55)] false) [4, 5] 0)
  .ret)
def qch : ICode :=
 (.seq (.post (.region [
 (oN (.box 2 false false (.t 0))),
 (oN (.box 3 false false (.t 1))),
 (oN (.mv 4 (.c (.sl true 1 [])))),
 (oN (.mv 5 (.c (.bool false))))] false) [2, 3] 2)
  (.seq (.region [
 (oN (.mv 6 (.c (.sl true 1 []))))] false)
  (.seq (.post (.region [
 (oN (.load 14 true 5 (.t 2))),
 (oF 15 3 0),
 (oL 16 15),
 (oN (.call (some 17) true 125 [(.t 14), (.t 16)])),
 (oN (.tk 7 17))] false) [2, 3, 6, 7] 2)
  (.seq (.region [
 (oN (.mv 8 (.c (.bool true)))),
 (oN (.mv 9 (.c (.bool false))))] false)
  (.seq (.seq (.post (.region [
 (oN (.mv 10 (.c (I 0))))] false) [2, 3, 6, 7, 8, 9, 10] 2)
  (.cut q46))
  (.cut q47))))))
def q7v : IFunc := { np := 2, res := [.t 4, .t 5], own := false, trunc := true, body := qch }
/- 379: latchwork/latchworkref.kindWord -/
/- 380: latchwork/latchworkref.Cut -/
/- 381: latchwork/latchworkref.Undigit -/
/- 385: latchwork/latchworkref.PrintClauses -/
end Go.Lw
end

/-! The code of package Trace for the small machine. Written by program (gen.py). -/
section
set_option maxRecDepth 10000
namespace Go.Lw
open Go
/- 245: latchwork/trace.Bad -/
def qci : ICode :=
 (.seq (.post (.region [
 (oN (.box 2 true false (.t 0))),
 (oN (.box 3 false false (.t 1))),
 (oN (.mv 4 (.c (.bool false)))),
 (oN (.mv 5 (.c (I 0))))] false) [2, 3] 1)
  (.seq (.seq (.post (.region [
 (oN (.load 9 true 5 (.t 2))),
 (oN (.load 10 true 2 (.t 3))),
 (oN (.call (some 11) true 248 [(.t 9), (.t 10)])),
 (oM 6 11)] false) [2, 3, 6] 1)
  (.seq (.post (.region [
 (oM 12 6),
 (oN (.bin 13 .neq (.t 12) (.c (I 0))))] false) [2, 3, 6, 13] 1)
  (.cond (.t 13) (.seq (.post (.region [
 (oM 14 6),
 (oN (.mv 4 (.c (.bool false)))),
 (oM 5 14)] false) [4, 5] 0)
  .ret)
  .skip)))
  (.seq (.post (.region [
 (oN (.alloc 7 true (.bool false))),
 (oN (.alloc 8 true (.bool false))),
 (oN (.store false 1 (.t 7) (.c (.bool true)))),
 (oN (.store false 1 (.t 8) (.c (.bool false))))] false) [2, 3, 7, 8] 1)
  (.seq (.post (.region [
 (oN (.load 15 true 5 (.t 2))),
 (oN (.load 16 true 2 (.t 3))),
 (oN (.mkfn 17 252 [(.t 2), (.t 7), (.t 8)])),
 (oN (.call (some 18) false 253 [(.t 15), (.t 16), (.t 17)]))] false) [7, 8] 0)
  (.seq (.post (.region [
 (oL 19 7),
 (oM 20 19),
  ⟨.load 21 false 1 (.t 8), some (20, true)⟩,
 (oN (.pick 22 (.t 20) (.t 21) (.c (.bool false)))),
 (oM 4 22),
 (oN (.mv 5 (.c (I 0))))] false) [4, 5] 0)
  .ret)))))
def q2r : IFunc := { np := 2, res := [.t 4, .t 5], own := false, trunc := true, body := qci }
/- 246: latchwork/trace.Print -/
def qfz : ICode :=
 (.post (.seq (.region [
 (oN (.bin 26 .lss (.t 25) (.t 24)))] false)
  (.seq (.cond (.t 26) .skip
  (.exit 0))
  (.seq (.block 1 (.seq (.post (.region [
 (oA 27 23 25),
 (oL 28 27),
 (oN (.tk 5 28))] false) [1, 5, 23, 24, 25] 1)
  (.seq (.post (.region [
 (oM 29 5),
 (oN (.len 30 0 (.t 29))),
 (oN (.bin 31 .gtr (.t 30) (.c (I 20))))] false) [1, 23, 24, 25, 31] 1)
  (.cond (.t 31) (.seq (.post (.region [
 (oN (.mv 2 (.c (.str ByteArray.empty)))),
 (oN (.mv 3 (.c (I 2))))] false) [2, 3] 0)
  .ret)
  .skip))))
  (.post (.region [
 (oN (.bin 32 .add (.t 25) (.c (I 1)))),
 (oM 25 32)] false) [1, 23, 24, 25] 1)))) [1, 23, 24, 25] 1)
def qg0 : ICode :=
 (.post (.block 0 (.loop qfz)) [1] 1)
def qg1 : ICode :=
 (.post (.seq (.region [
 (oN (.bin 43 .lss (.t 42) (.t 41)))] false)
  (.seq (.cond (.t 43) .skip
  (.exit 2))
  (.seq (.block 3 (.seq (.post (.region [
 (oA 44 40 42),
 (oL 45 44),
 (oN (.tk 9 45))] false) [6, 7, 9, 40, 41, 42] 0)
  (.seq (.post (.region [
 (oM 47 9),
 (oN (.call (some 48) true 254 [(.c (.str ⟨#[105, 110]⟩)), (.t 47)])),
 (oM 46 48),
 (oN (.extract 49 (.t 46) 0)),
 (oN (.extract 50 (.t 46) 1)),
 (oM 10 49),
 (oM 11 50)] false) [6, 7, 10, 11, 40, 41, 42] 0)
  (.seq (.post (.region [
 (oM 51 6),
 (oM 52 10),
 (oN (.bin 53 .add (.t 51) (.t 52))),
 (oM 6 53)] false) [6, 7, 11, 40, 41, 42] 0)
  (.post (.region [
 (oM 54 7),
 (oM 55 54),
  ⟨.mv 56 (.t 11), some (55, true)⟩,
 (oN (.pick 57 (.t 55) (.t 56) (.c (.bool false)))),
 (oM 7 57)] false) [6, 7, 40, 41, 42] 0)))))
  (.post (.region [
 (oN (.bin 58 .add (.t 42) (.c (I 1)))),
 (oM 42 58)] false) [6, 7, 40, 41, 42] 0)))) [6, 7, 40, 41, 42] 0)
def qg2 : ICode :=
 (.post (.block 2 (.loop qg1)) [6, 7] 0)
def qg3 : ICode :=
 (.seq (.seq (.post (.region [
 (oM 59 7),
 (oN (.un 60 .not (.t 59)))] false) [6, 60] 0)
  (.cond (.t 60) (.seq (.post (.region [
 (oN (.mv 2 (.c (.str ByteArray.empty)))),
 (oN (.mv 3 (.c (I 3))))] false) [2, 3] 0)
  .ret)
  .skip))
  (.seq (.post (.region [
 (oM 61 6),
 (oM 2 61),
 (oN (.mv 3 (.c (I 0))))] false) [2, 3] 0)
  .ret))
def qg4 : ICode :=
 (.seq (.post (.region [
 (oF 34 1 0),
 (oL 35 34),
 (oN (.call (some 36) true 254 [(.c (.str ⟨#[115, 116, 97, 114, 116]⟩)), (.t 35)])),
 (oM 33 36),
 (oN (.extract 37 (.t 33) 0)),
 (oN (.extract 38 (.t 33) 1)),
 (oM 6 37),
 (oM 7 38)] false) [1, 6, 7] 1)
  (.seq (.seq (.post (.region [
 (oF 39 1 1),
 (oL 40 39),
 (oN (.len 41 0 (.t 40))),
 (oN (.mv 42 (.c (I 0))))] false) [6, 7, 40, 41, 42] 0)
  (.cut qg2))
  (.cut qg3)))
def qg5 : ICode :=
 (.seq (.post (.region [
 (oN (.box 1 false false (.t 0))),
 (oN (.mv 2 (.c (.str ByteArray.empty)))),
 (oN (.mv 3 (.c (I 0))))] false) [1] 1)
  (.seq (.seq (.post (.region [
 (oF 12 1 1),
 (oL 13 12),
 (oN (.len 14 0 (.t 13))),
 (oN (.bin 15 .gtr (.t 14) (.c (I 41)))),
 (oM 16 15),
  ⟨.faddr 17 (.t 1) 0, some (16, false)⟩,
  ⟨.load 18 false 1 (.t 17), some (16, false)⟩,
  ⟨.len 19 0 (.t 18), some (16, false)⟩,
  ⟨.bin 20 .gtr (.t 19) (.c (I 20)), some (16, false)⟩,
 (oN (.pick 21 (.t 16) (.c (.bool true)) (.t 20)))] false) [1, 21] 1)
  (.cond (.t 21) (.seq (.post (.region [
 (oN (.mv 2 (.c (.str ByteArray.empty)))),
 (oN (.mv 3 (.c (I 2))))] false) [2, 3] 0)
  .ret)
  .skip))
  (.seq (.seq (.post (.region [
 (oF 22 1 1),
 (oL 23 22),
 (oN (.len 24 0 (.t 23))),
 (oN (.mv 25 (.c (I 0))))] false) [1, 23, 24, 25] 1)
  (.cut qg0))
  (.cut qg4))))
def qg6 : IFunc := { np := 1, res := [.t 2, .t 3], own := false, trunc := true, body := qg5 }
/- 247: latchwork/trace.Parse -/
def qg7 : ICode :=
 (.post (.region [
 (oM 53 7),
 (oM 0 53)] false) [0, 2, 4, 5] 2)
def qg8 : ICode :=
 (.seq (.post (.region [
 (oM 31 6),
 (oM 32 9),
 (oN (.call (some 33) true 256 [(.t 31), (.t 32)])),
 (oM 30 33),
 (oN (.extract 34 (.t 30) 0)),
 (oN (.extract 35 (.t 30) 1)),
 (oN (.tk 10 34)),
 (oM 11 35)] false) [2, 4, 5, 7, 8, 10, 11] 2)
  (.seq (.seq (.post (.region [
 (oM 36 8),
 (oN (.un 37 .not (.t 36))),
 (oM 38 37),
  ⟨.mv 39 (.t 11), some (38, false)⟩,
  ⟨.un 40 .not (.t 39), some (38, false)⟩,
 (oN (.pick 41 (.t 38) (.c (.bool true)) (.t 40)))] false) [2, 4, 5, 7, 10, 41] 2)
  (.cond (.t 41) (.seq (.post (.region [
 (oN (.build 42 [.sl true 1 [], .sl true 1 []] [])),
 (oN (.store true 2 (.t 2) (.t 42))),
 (oN (.mv 3 (.c (I 1))))] false) [2, 3] 1)
  .ret)
  .skip))
  (.seq (.seq (.post (.region [
 (oM 43 5),
 (oN (.bin 44 .eql (.t 43) (.c (I 0))))] false) [2, 4, 5, 7, 10, 44] 2)
  (.cond (.t 44) (.post (.post (.region [
 (oM 45 10),
 (oF 46 4 0),
 (oN (.store true 1 (.t 46) (.t 45)))] false) [2, 4, 5, 7] 2) [2, 4, 5, 7] 2)
  (.post (.post (.region [
 (oF 47 4 1),
 (oN (.loadT 48 (.t 47))),
 (oM 49 10),
 (oN (.buildSl 50 1 [(.t 49)])),
 (oN (.append 51 1 24 (.t 48) (.t 50))),
 (oF 52 4 1),
 (oN (.store true 1 (.t 52) (.t 51)))] false) [2, 4, 5, 7] 2) [2, 4, 5, 7] 2)))
  (.cut qg7))))
def qg9 : ICode :=
 (.post (.region [
 (oM 20 5),
 (oN (.bin 21 .add (.t 20) (.c (I 1)))),
 (oM 5 21)] false) [0, 2, 4, 5] 2)
def qga : ICode :=
 (.post (.seq (.seq (.post (.region [
 (oM 14 0),
 (oN (.bin 15 .neq (.t 14) (.c (.str ByteArray.empty)))),
 (oM 16 15),
  ⟨.mv 17 (.t 5), some (16, false)⟩,
  ⟨.bin 18 .eql (.t 17) (.c (I 0)), some (16, false)⟩,
 (oN (.pick 19 (.t 16) (.c (.bool true)) (.t 18)))] false) [0, 2, 4, 5, 19] 2)
  (.cond (.t 19) .skip
  (.exit 0)))
  (.seq (.block 1 (.seq (.post (.region [
 (oM 23 0),
 (oN (.call (some 24) true 255 [(.t 23), (.c (.str ⟨#[10]⟩))])),
 (oM 22 24),
 (oN (.extract 25 (.t 22) 0)),
 (oN (.extract 26 (.t 22) 1)),
 (oN (.extract 27 (.t 22) 2)),
 (oM 6 25),
 (oM 7 26),
 (oM 8 27)] false) [2, 4, 5, 6, 7, 8] 2)
  (.seq (.region [
 (oN (.mv 9 (.c (.str ⟨#[105, 110]⟩))))] false)
  (.seq (.seq (.post (.region [
 (oM 28 5),
 (oN (.bin 29 .eql (.t 28) (.c (I 0))))] false) [2, 4, 5, 6, 7, 8, 9, 29] 2)
  (.cond (.t 29) (.post (.post (.region [
 (oN (.mv 9 (.c (.str ⟨#[115, 116, 97, 114, 116]⟩))))] false) [2, 4, 5, 6, 7, 8, 9] 2) [2, 4, 5, 6, 7, 8, 9] 2)
  (.post .skip [2, 4, 5, 6, 7, 8, 9] 2)))
  (.cut qg8)))))
  (.cut qg9))) [0, 2, 4, 5] 2)
def qgb : ICode :=
 (.post (.block 0 (.loop qga)) [2, 4] 2)
def qgc : ICode :=
 (.seq (.seq (.post (.region [
 (oN (.load 55 true 2 (.t 4))),
 (oN (.call (some 56) true 246 [(.t 55)])),
 (oM 54 56),
 (oN (.extract 57 (.t 54) 0)),
 (oN (.extract 58 (.t 54) 1)),
 (oM 12 57),
 (oM 13 58)] false) [2, 4, 13] 2)
  (.seq (.post (.region [
 (oM 59 13),
 (oN (.bin 60 .neq (.t 59) (.c (I 0))))] false) [2, 4, 60] 2)
  (.cond (.t 60) (.seq (.post (.region [
 (oN (.build 61 [.sl true 1 [], .sl true 1 []] [])),
 (oN (.store true 2 (.t 2) (.t 61))),
 (oN (.mv 3 (.c (I 1))))] false) [2, 3] 1)
  .ret)
  .skip)))
  (.seq (.post (.region [
 (oN (.load 62 true 2 (.t 4))),
 (oN (.store true 2 (.t 2) (.t 62))),
 (oN (.mv 3 (.c (I 0))))] false) [2, 3] 1)
  .ret))
def qgd : ICode :=
 (.seq (.post (.region [
 (oN (.alloc 2 false (.agg [.sl true 1 [], .sl true 1 []]))),
 (oN (.mv 3 (.c (I 0))))] false) [0, 2] 1)
  (.seq (.region [
 (oN (.alloc 4 false (.agg [.sl true 1 [], .sl true 1 []])))] false)
  (.seq (.seq (.post (.region [
 (oN (.mv 5 (.c (I 0))))] false) [0, 2, 4, 5] 2)
  (.cut qgb))
  (.cut qgc))))
def qge : IFunc := { np := 1, res := [.cell 2 true 2, .t 3], own := false, trunc := true, body := qgd }
/- 248: latchwork/trace.Check -/
def qcj : ICode :=
 (.post (.seq (.region [
 (oN (.bin 38 .lss (.t 37) (.t 36)))] false)
  (.seq (.cond (.t 38) .skip
  (.exit 0))
  (.seq (.block 1 (.seq (.post (.region [
 (oA 39 35 37),
 (oL 40 39),
 (oN (.tk 8 40))] false) [2, 8, 35, 36, 37] 1)
  (.seq (.post (.region [
 (oN (.load 41 true 5 (.t 2))),
 (oN (.load 42 true 5 (.t 2))),
 (oN (.call (some 43) true 101 [(.t 42), (.c (I 2))])),
 (oM 44 8),
 (oN (.call (some 45) true 135 [(.t 41), (.t 43), (.t 44)])),
 (oM 9 45)] true) [2, 9, 35, 36, 37] 1)
  (.seq (.post (.region [
 (oM 46 9),
 (oN (.bin 47 .neq (.t 46) (.c (I 0))))] false) [2, 9, 35, 36, 37, 47] 1)
  (.cond (.t 47) (.seq (.post (.region [
 (oM 48 9),
 (oM 4 48)] false) [4] 0)
  .ret)
  .skip)))))
  (.post (.region [
 (oN (.bin 49 .add (.t 37) (.c (I 1)))),
 (oM 37 49)] false) [2, 35, 36, 37] 1)))) [2, 35, 36, 37] 1)
def q7w : ICode :=
 (.post (.block 0 (.loop qcj)) [] 0)
def q48 : ICode :=
 (.seq (.region [
 (oN (.mv 4 (.c (I 0))))] false)
  .ret)
def qck : ICode :=
 (.seq (.post (.region [
 (oN (.box 2 false false (.t 0))),
 (oN (.box 3 false false (.t 1))),
 (oN (.mv 4 (.c (I 0))))] false) [2, 3] 2)
  (.seq (.seq (.post (.region [
 (oN (.load 10 true 5 (.t 2))),
 (oN (.call (some 11) true 38 [(.t 10)])),
 (oM 5 11)] false) [2, 3, 5] 2)
  (.seq (.post (.region [
 (oM 12 5),
 (oN (.bin 13 .neq (.t 12) (.c (I 0))))] false) [2, 3, 5, 13] 2)
  (.cond (.t 13) (.seq (.post (.region [
 (oM 14 5),
 (oM 4 14)] false) [4] 0)
  .ret)
  .skip)))
  (.seq (.seq (.post (.region [
 (oF 15 3 1),
 (oL 16 15),
 (oN (.len 17 0 (.t 16))),
 (oN (.bin 18 .lss (.t 17) (.c (I 1)))),
 (oM 19 18),
  ⟨.faddr 20 (.t 3) 1, some (19, false)⟩,
  ⟨.load 21 false 1 (.t 20), some (19, false)⟩,
  ⟨.len 22 0 (.t 21), some (19, false)⟩,
  ⟨.bin 23 .gtr (.t 22) (.c (I 41)), some (19, false)⟩,
 (oN (.pick 24 (.t 19) (.c (.bool true)) (.t 23)))] false) [2, 3, 24] 2)
  (.cond (.t 24) (.seq (.post (.region [
 (oN (.mv 4 (.c (I 2))))] false) [4] 0)
  .ret)
  .skip))
  (.seq (.seq (.post (.region [
 (oN (.load 25 true 5 (.t 2))),
 (oN (.load 26 true 5 (.t 2))),
 (oN (.call (some 27) true 101 [(.t 26), (.c (I 3))])),
 (oF 28 3 0),
 (oL 29 28),
 (oN (.call (some 30) true 135 [(.t 25), (.t 27), (.t 29)])),
 (oM 6 30)] true) [2, 3, 6] 2)
  (.seq (.post (.region [
 (oM 31 6),
 (oN (.bin 32 .neq (.t 31) (.c (I 0))))] false) [2, 3, 6, 32] 2)
  (.cond (.t 32) (.seq (.post (.region [
 (oM 33 6),
 (oM 4 33)] false) [4] 0)
  .ret)
  .skip)))
  (.seq (.seq (.post (.region [
 (oF 34 3 1),
 (oL 35 34),
 (oN (.len 36 0 (.t 35))),
 (oN (.mv 37 (.c (I 0))))] false) [2, 35, 36, 37] 1)
  (.cut q7w))
  (.cut q48))))))
def qd : IFunc := { np := 2, res := [.t 4], own := false, trunc := true, body := qck }
/- 252: latchwork/trace.Bad$1 -/
def qcl : ICode :=
 (.seq (.post (.region [
 (oN (.load 10 true 5 (.t 2))),
 (oM 11 1),
 (oN (.call (some 12) true 141 [(.t 10), (.t 11)])),
 (oM 9 12),
 (oN (.extract 13 (.t 9) 0)),
 (oN (.extract 14 (.t 9) 1)),
 (oM 7 13),
 (oM 8 14)] false) [3, 4, 7, 8] 0)
  (.post (.region [
 (oL 15 3),
 (oM 16 15),
  ⟨.mv 17 (.t 7), some (16, true)⟩,
 (oN (.pick 18 (.t 16) (.t 17) (.c (.bool false)))),
 (oM 19 8),
 (oN (.store false 1 (.t 3) (.t 18))),
 (oN (.store false 1 (.t 4) (.t 19)))] false) [] 0))
def q7x : IFunc := { np := 5, res := [], own := false, trunc := false, body := qcl }
/- 253: latchwork/trace.player -/
def qcm : ICode :=
 (.post (.seq (.region [
 (oN (.bin 18 .lss (.t 17) (.t 16)))] false)
  (.seq (.cond (.t 18) .skip
  (.exit 0))
  (.seq (.block 1 (.seq (.post (.region [
 (oA 19 15 17),
 (oL 20 19),
 (oN (.tk 8 20))] false) [2, 3, 6, 8, 15, 16, 17] 1)
  (.seq (.post (.region [
 (oN (.load 21 true 5 (.t 3))),
 (oM 22 6),
 (oM 23 8),
 (oN (.call (some 24) true 139 [(.t 21), (.t 22), (.t 23)])),
 (oN (.tk 9 24))] false) [2, 3, 6, 9, 15, 16, 17] 1)
  (.seq (.post (.region [
 (oM 25 2),
 (oM 26 6),
 (oM 27 9),
 (oN (.callv (some 28) false (.t 25) [(.t 26), (.t 27)]))] false) [2, 3, 9, 15, 16, 17] 1)
  (.post (.region [
 (oN (.load 29 true 5 (.t 3))),
 (oM 30 9),
 (oN (.call (some 31) true 140 [(.t 29), (.t 30)])),
 (oN (.tk 6 31))] false) [2, 3, 6, 15, 16, 17] 1)))))
  (.post (.region [
 (oN (.bin 32 .add (.t 17) (.c (I 1)))),
 (oM 17 32)] false) [2, 3, 6, 15, 16, 17] 1)))) [2, 3, 6, 15, 16, 17] 1)
def q7y : ICode :=
 (.post (.block 0 (.loop qcm)) [] 0)
def qcn : ICode :=
 (.seq (.post (.region [
 (oN (.box 3 false false (.t 0))),
 (oN (.box 4 false false (.t 1)))] false) [2, 3, 4] 2)
  (.seq (.post (.region [
 (oN (.load 10 true 5 (.t 3))),
 (oF 11 4 0),
 (oL 12 11),
 (oN (.call (some 13) true 136 [(.t 10), (.t 12)])),
 (oN (.tk 6 13))] false) [2, 3, 4, 6] 2)
  (.seq (.post (.region [
 (oF 14 4 1),
 (oL 15 14),
 (oN (.len 16 0 (.t 15))),
 (oN (.mv 17 (.c (I 0))))] false) [2, 3, 6, 15, 16, 17] 1)
  (.cut q7y))))
def q7z : IFunc := { np := 3, res := [], own := false, trunc := false, body := qcn }
/- 254: latchwork/trace.line -/
def qgf : ICode :=
 (.post (.seq (.region [
 (oN (.bin 14 .lss (.t 13) (.t 12)))] false)
  (.seq (.cond (.t 14) .skip
  (.exit 0))
  (.seq (.block 1 (.seq (.post (.region [
 (oA 15 11 13),
 (oL 16 15),
 (oM 9 16)] false) [6, 7, 9, 11, 12, 13] 0)
  (.seq (.post (.region [
 (oM 17 6),
 (oM 18 9),
 (oN (.call (some 19) true 260 [(.t 18)])),
 (oN (.bin 20 .add (.c (.str ⟨#[32]⟩)) (.t 19))),
 (oN (.bin 21 .add (.t 17) (.t 20))),
 (oM 6 21)] false) [6, 7, 9, 11, 12, 13] 0)
  (.post (.region [
 (oM 22 7),
 (oM 23 22),
  ⟨.mv 24 (.t 9), some (23, true)⟩,
  ⟨.bin 25 .geq (.t 24) (.c (I 0)), some (23, true)⟩,
 (oN (.pick 26 (.t 23) (.t 25) (.c (.bool false)))),
 (oM 27 26),
  ⟨.mv 28 (.t 9), some (27, true)⟩,
  ⟨.bin 29 .leq (.t 28) (.c (I 255)), some (27, true)⟩,
 (oN (.pick 30 (.t 27) (.t 29) (.c (.bool false)))),
 (oM 7 30)] false) [6, 7, 11, 12, 13] 0))))
  (.post (.region [
 (oN (.bin 31 .add (.t 13) (.c (I 1)))),
 (oM 13 31)] false) [6, 7, 11, 12, 13] 0)))) [6, 7, 11, 12, 13] 0)
def qgg : ICode :=
 (.post (.block 0 (.loop qgf)) [6, 7] 0)
def qgh : ICode :=
 (.seq (.post (.region [
 (oM 32 6),
 (oN (.bin 33 .add (.t 32) (.c (.str ⟨#[10]⟩)))),
 (oM 34 7),
 (oM 4 33),
 (oM 5 34)] false) [4, 5] 0)
  .ret)
def qgi : ICode :=
 (.seq (.post (.region [
 (oN (.mv 4 (.c (.str ByteArray.empty)))),
 (oN (.mv 5 (.c (.bool false))))] false) [0, 1] 0)
  (.seq (.post (.region [
 (oM 10 0),
 (oM 6 10)] false) [1, 6] 0)
  (.seq (.region [
 (oN (.mv 7 (.c (.bool true))))] false)
  (.seq (.seq (.post (.region [
 (oM 11 1),
 (oN (.len 12 0 (.t 11))),
 (oN (.mv 13 (.c (I 0))))] false) [6, 7, 11, 12, 13] 0)
  (.cut qgg))
  (.cut qgh)))))
def qgj : IFunc := { np := 2, res := [.t 4, .t 5], own := false, trunc := true, body := qgi }
/- 256: latchwork/trace.read -/
def qgk : ICode :=
 (.post (.seq (.region [
 (oN (.bin 23 .lss (.t 22) (.t 21)))] false)
  (.seq (.cond (.t 23) .skip
  (.exit 0))
  (.seq (.block 1 (.seq (.post (.region [
 (oA 24 20 22),
 (oL 25 24),
 (oM 9 25)] false) [7, 9, 20, 21, 22] 0)
  (.seq (.post (.region [
 (oM 27 9),
 (oN (.call (some 28) true 263 [(.t 27)])),
 (oM 26 28),
 (oN (.extract 29 (.t 26) 0)),
 (oN (.extract 30 (.t 26) 1)),
 (oM 10 29),
 (oM 11 30)] false) [7, 9, 10, 11, 20, 21, 22] 0)
  (.seq (.seq (.post (.region [
 (oM 31 11),
 (oN (.eqn 32 true (.t 31))),
 (oM 33 32),
  ⟨.mv 34 (.t 10), some (33, false)⟩,
  ⟨.call (some 35) true 260 [(.t 34)], some (33, false)⟩,
  ⟨.mv 36 (.t 9), some (33, false)⟩,
  ⟨.bin 37 .neq (.t 35) (.t 36), some (33, false)⟩,
 (oN (.pick 38 (.t 33) (.c (.bool true)) (.t 37)))] false) [7, 10, 20, 21, 22, 38] 0)
  (.cond (.t 38) (.seq (.post (.region [
 (oN (.mv 4 (.c (.sl true 1 [])))),
 (oN (.mv 5 (.c (.bool false))))] false) [4, 5] 0)
  .ret)
  .skip))
  (.post (.region [
 (oN (.tk 39 7)),
 (oM 40 10),
 (oN (.buildSl 41 1 [(.t 40)])),
 (oN (.append 42 1 8 (.t 39) (.t 41))),
 (oN (.tk 7 42))] false) [7, 20, 21, 22] 0)))))
  (.post (.region [
 (oN (.bin 43 .add (.t 22) (.c (I 1)))),
 (oM 22 43)] false) [7, 20, 21, 22] 0)))) [7, 20, 21, 22] 0)
def qgl : ICode :=
 (.post (.block 0 (.loop qgk)) [7] 0)
def qgm : ICode :=
 (.seq (.post (.region [
 (oM 44 7),
 (oN (.tk 4 44)),
 (oN (.mv 5 (.c (.bool true))))] false) [4, 5] 0)
  .ret)
def qgn : ICode :=
 (.seq (.post (.region [
 (oN (.mv 4 (.c (.sl true 1 [])))),
 (oN (.mv 5 (.c (.bool false))))] false) [0, 1] 0)
  (.seq (.post (.region [
 (oM 12 0),
 (oN (.call (some 13) true 262 [(.t 12), (.c (.str ⟨#[32]⟩))])),
 (oN (.tk 6 13))] false) [1, 6] 0)
  (.seq (.seq (.post (.region [
 (oM 14 6),
 (oN (.iaddr 15 1 none (.t 14) (.c (I 0)))),
 (oL 16 15),
 (oM 17 1),
 (oN (.bin 18 .neq (.t 16) (.t 17)))] false) [6, 18] 0)
  (.cond (.t 18) (.seq (.post (.region [
 (oN (.mv 4 (.c (.sl true 1 [])))),
 (oN (.mv 5 (.c (.bool false))))] false) [4, 5] 0)
  .ret)
  .skip))
  (.seq (.post (.region [
 (oN (.mv 7 (.c (.sl true 1 []))))] false) [6, 7] 0)
  (.seq (.seq (.post (.region [
 (oM 19 6),
 (oN (.slice 20 1 (.t 19) (some (.c (I 1))) none)),
 (oN (.len 21 0 (.t 20))),
 (oN (.mv 22 (.c (I 0))))] false) [7, 20, 21, 22] 0)
  (.cut qgl))
  (.cut qgm))))))
def qgo : IFunc := { np := 2, res := [.t 4, .t 5], own := false, trunc := true, body := qgn }
/- 375: latchwork/trace.Play -/
def qco : ICode :=
 (.seq (.post (.region [
 (oN (.box 2 false false (.t 0))),
 (oN (.box 3 false false (.t 1))),
 (oN (.mv 4 (.c (.sl true 1 [])))),
 (oN (.mv 5 (.c (I 0))))] false) [2, 3] 2)
  (.seq (.seq (.post (.region [
 (oN (.load 8 true 5 (.t 2))),
 (oN (.load 9 true 2 (.t 3))),
 (oN (.call (some 10) true 248 [(.t 8), (.t 9)])),
 (oM 6 10)] false) [2, 3, 6] 2)
  (.seq (.post (.region [
 (oM 11 6),
 (oN (.bin 12 .neq (.t 11) (.c (I 0))))] false) [2, 3, 6, 12] 2)
  (.cond (.t 12) (.seq (.post (.region [
 (oM 13 6),
 (oN (.mv 4 (.c (.sl true 1 [])))),
 (oM 5 13)] false) [4, 5] 0)
  .ret)
  .skip)))
  (.seq (.post (.region [
 (oN (.alloc 7 true (.sl true 1 [])))] false) [2, 3, 7] 2)
  (.seq (.post (.region [
 (oN (.load 14 true 5 (.t 2))),
 (oN (.load 15 true 2 (.t 3))),
 (oN (.mkfn 16 382 [(.t 7)])),
 (oN (.call (some 17) false 253 [(.t 14), (.t 15), (.t 16)]))] false) [7] 0)
  (.seq (.post (.region [
 (oL 18 7),
 (oN (.tk 4 18)),
 (oN (.mv 5 (.c (I 0))))] false) [4, 5] 0)
  .ret)))))
def q2s : IFunc := { np := 2, res := [.t 4, .t 5], own := false, trunc := true, body := qco }
/- 382: latchwork/trace.Play$1 -/
def qcp : ICode :=
 (.post (.region [
 (oN (.loadT 5 (.t 2))),
 (oM 6 0),
 (oN (.buildSl 7 1 [(.t 6)])),
 (oN (.append 8 1 24 (.t 5) (.t 7))),
 (oN (.store true 1 (.t 2) (.t 8)))] false) [] 0)
def q80 : IFunc := { np := 3, res := [], own := false, trunc := false, body := qcp }
end Go.Lw
end

/-! The code of package Word for the small machine. Written by program (gen.py). -/
section
set_option maxRecDepth 10000
namespace Go.Lw
open Go
/- 22: latchwork/word.Fit -/
def qcq : ICode :=
 (.post (.seq (.region [
 (oN (.bin 26 .lss (.t 25) (.c (I 3))))] false)
  (.seq (.cond (.t 26) .skip
  (.exit 0))
  (.seq (.block 1 (.seq (.post (.region [
 (oM 27 25),
 (oN (.index 28 1 3 false (.t 24) (.t 25))),
 (oM 11 27),
 (oM 12 28)] false) [0, 1, 2, 7, 9, 11, 12, 24, 25] 1)
  (.seq (.post (.region [
 (oM 29 11),
 (oM 30 0),
 (oN (.call (some 31) true 63 [(.t 30)])),
 (oN (.bin 32 .lss (.t 29) (.t 31))),
 (oM 33 32),
  ⟨.mv 34 (.t 12), some (33, true)⟩,
  ⟨.call (some 35) true 62 [(.t 34)], some (33, true)⟩,
  ⟨.un 36 .not (.t 35), some (33, true)⟩,
 (oN (.pick 37 (.t 33) (.t 36) (.c (.bool false)))),
 (oM 38 37),
  ⟨.mv 39 (.t 11), some (38, false)⟩,
  ⟨.mv 40 (.t 0), some (38, false)⟩,
  ⟨.call (some 41) true 63 [(.t 40)], some (38, false)⟩,
  ⟨.bin 42 .geq (.t 39) (.t 41), some (38, false)⟩,
  ⟨.mv 43 (.t 42), some (38, false)⟩,
  ⟨.mv 44 (.t 12), some (43, true)⟩,
  ⟨.bin 45 .neq (.t 44) (.c (I 0)), some (43, true)⟩,
  ⟨.pick 46 (.t 43) (.t 45) (.c (.bool false)), some (38, false)⟩,
 (oN (.pick 47 (.t 38) (.c (.bool true)) (.t 46)))] false) [0, 1, 2, 7, 9, 24, 25, 47] 1)
  (.cond (.t 47) (.seq (.post (.region [
 (oN (.mv 8 (.c (I 3))))] false) [8] 0)
  .ret)
  .skip))))
  (.post (.region [
 (oN (.bin 48 .add (.t 25) (.c (I 1)))),
 (oM 25 48)] false) [0, 1, 2, 7, 9, 24, 25] 1)))) [0, 1, 2, 7, 9, 24, 25] 1)
def q81 : ICode :=
 (.post (.block 0 (.loop qcq)) [1, 2, 7, 9] 1)
def q82 : ICode :=
 (.seq (.seq (.post (.region [
 (oM 49 9),
 (oM 50 1),
 (oM 51 2),
 (oN (.load 52 true 3 (.t 7))),
 (oN (.call (some 53) true 64 [(.t 49), (.t 50), (.t 51), (.t 52)])),
 (oN (.un 54 .not (.t 53)))] false) [54] 0)
  (.cond (.t 54) (.seq (.post (.region [
 (oN (.mv 8 (.c (I 1))))] false) [8] 0)
  .ret)
  .skip))
  (.seq (.post (.region [
 (oN (.mv 8 (.c (I 0))))] false) [8] 0)
  .ret))
def qcr : ICode :=
 (.seq (.post (.region [
 (oN (.box 7 false false (.t 3))),
 (oN (.mv 8 (.c (I 0))))] false) [0, 1, 2, 7] 1)
  (.seq (.post (.region [
 (oN (.call (some 14) false 61 [])),
 (oM 15 0),
 (oN (.lookup 16 0 (.t 14) (.t 15) true (I 0))),
 (oM 13 16),
 (oN (.extract 17 (.t 13) 0)),
 (oN (.extract 18 (.t 13) 1)),
 (oM 9 17),
 (oM 10 18)] false) [0, 1, 2, 7, 9, 10] 1)
  (.seq (.seq (.post (.region [
 (oM 19 10),
 (oN (.un 20 .not (.t 19)))] false) [0, 1, 2, 7, 9, 20] 1)
  (.cond (.t 20) (.seq (.post (.region [
 (oN (.mv 8 (.c (I 7))))] false) [8] 0)
  .ret)
  .skip))
  (.seq (.seq (.post (.region [
 (oM 21 1),
 (oN (.call (some 22) true 62 [(.t 21)])),
 (oN (.un 23 .not (.t 22)))] false) [0, 1, 2, 7, 9, 23] 1)
  (.cond (.t 23) (.seq (.post (.region [
 (oN (.mv 8 (.c (I 3))))] false) [8] 0)
  .ret)
  .skip))
  (.seq (.seq (.post (.region [
 (oN (.load 24 true 3 (.t 7))),
 (oN (.mv 25 (.c (I 0))))] false) [0, 1, 2, 7, 9, 24, 25] 1)
  (.cut q81))
  (.cut q82))))))
def qg : IFunc := { np := 4, res := [.t 8], own := false, trunc := true, body := qcr }
/- 25: latchwork/word.Apply -/
/- 61: latchwork/word.shapes -/
def qcs : ICode :=
 (.seq (.post (.region [
 (oN (.mv 0 (.c (.nilm))))] false) [] 0)
  (.seq (.post (.region [
 (oN (.mkmap 1)),
 (oN (.mupd 0 (.t 1) (.c (I 4)) (.c (I 1)))),
 (oN (.mupd 0 (.t 1) (.c (I 5)) (.c (I 1)))),
 (oN (.mupd 0 (.t 1) (.c (I 6)) (.c (I 2)))),
 (oN (.mupd 0 (.t 1) (.c (I 7)) (.c (I 2)))),
 (oN (.mupd 0 (.t 1) (.c (I 8)) (.c (I 2)))),
 (oN (.mupd 0 (.t 1) (.c (I 9)) (.c (I 2)))),
 (oN (.mupd 0 (.t 1) (.c (I 10)) (.c (I 2)))),
 (oN (.mupd 0 (.t 1) (.c (I 11)) (.c (I 2)))),
 (oN (.mupd 0 (.t 1) (.c (I 12)) (.c (I 2)))),
 (oN (.mupd 0 (.t 1) (.c (I 13)) (.c (I 2)))),
 (oN (.mupd 0 (.t 1) (.c (I 14)) (.c (I 2)))),
 (oN (.mupd 0 (.t 1) (.c (I 15)) (.c (I 2)))),
 (oN (.mupd 0 (.t 1) (.c (I 16)) (.c (I 3)))),
 (oN (.mupd 0 (.t 1) (.c (I 17)) (.c (I 3)))),
 (oN (.mupd 0 (.t 1) (.c (I 18)) (.c (I 3)))),
 (oN (.mupd 0 (.t 1) (.c (I 19)) (.c (I 4)))),
 (oN (.mupd 0 (.t 1) (.c (I 20)) (.c (I 5)))),
 (oN (.mupd 0 (.t 1) (.c (I 21)) (.c (I 6)))),
 (oN (.mupd 0 (.t 1) (.c (I 22)) (.c (I 7)))),
 (oN (.mupd 0 (.t 1) (.c (I 23)) (.c (I 7)))),
 (oM 2 1),
 (oM 0 2)] false) [0] 0)
  .ret))
def q83 : IFunc := { np := 0, res := [.t 0], own := false, trunc := false, body := qcs }
/- 62: latchwork/word.IsWidth -/
def qct : ICode :=
 (.seq (.post (.region [
 (oN (.mv 2 (.c (.bool false))))] false) [0] 0)
  (.seq (.post (.region [
 (oM 3 0),
 (oN (.bin 4 .geq (.t 3) (.c (I 1)))),
 (oM 5 4),
  ⟨.mv 6 (.t 0), some (5, true)⟩,
  ⟨.bin 7 .leq (.t 6) (.c (I 8)), some (5, true)⟩,
 (oN (.pick 8 (.t 5) (.t 7) (.c (.bool false)))),
 (oM 2 8)] false) [2] 0)
  .ret))
def q2t : IFunc := { np := 1, res := [.t 2], own := false, trunc := true, body := qct }
/- 63: latchwork/word.Takes -/
def q2u : ICode :=
 (.cond (.t 8) (.seq (.post (.region [
 (oN (.mv 2 (.c (I 1))))] false) [2] 0)
  .ret)
  (.seq (.post (.region [
 (oN (.bin 13 .eql (.t 5) (.c (I 4)))),
 (oM 12 13)] false) [12] 0)
  (.cond (.t 12) (.seq (.post (.region [
 (oN (.mv 2 (.c (I 3))))] false) [2] 0)
  .ret)
  .skip)))
def q2v : ICode :=
 (.seq (.post (.region [
 (oN (.mv 2 (.c (I 2))))] false) [2] 0)
  .ret)
def qcu : ICode :=
 (.seq (.post (.region [
 (oN (.mv 2 (.c (I 0))))] false) [0] 0)
  (.seq (.seq (.post (.region [
 (oN (.call (some 3) false 61 [])),
 (oM 4 0),
 (oN (.lookup 5 0 (.t 3) (.t 4) false (I 0)))] false) [5] 0)
  (.block 0 (.seq (.post (.region [
 (oN (.bin 7 .eql (.t 5) (.c (I 0)))),
 (oM 6 7)] false) [5, 6] 0)
  (.cond (.t 6) (.seq (.post (.region [
 (oN (.mv 2 (.c (I 0))))] false) [2] 0)
  .ret)
  (.seq (.seq (.post (.region [
 (oN (.bin 9 .eql (.t 5) (.c (I 1)))),
 (oM 8 9)] false) [5, 8] 0)
  (.cond (.t 8) (.post .skip [5, 8] 0)
  (.post (.seq (.post (.region [
 (oN (.bin 10 .eql (.t 5) (.c (I 6)))),
 (oM 8 10)] false) [5, 8] 0)
  (.cond (.t 8) (.post .skip [5, 8] 0)
  (.post (.post (.region [
 (oN (.bin 11 .eql (.t 5) (.c (I 7)))),
 (oM 8 11)] false) [5, 8] 0) [5, 8] 0))) [5, 8] 0)))
  (.cut q2u))))))
  (.cut q2v)))
def qh : IFunc := { np := 1, res := [.t 2], own := false, trunc := true, body := qcu }
/- 64: latchwork/word.fits -/
def qcv : ICode :=
 (.seq (.post (.region [
 (oN (.box 7 false false (.t 3))),
 (oN (.mv 8 (.c (.bool false))))] false) [0, 1, 2, 7] 1)
  (.seq (.seq (.post (.region [
 (oM 9 2),
 (oN (.bin 10 .neq (.t 9) (.c (I 0)))),
 (oM 11 10),
  ⟨.mv 12 (.t 0), some (11, true)⟩,
  ⟨.bin 13 .neq (.t 12) (.c (I 6)), some (11, true)⟩,
 (oN (.pick 14 (.t 11) (.t 13) (.c (.bool false))))] false) [0, 1, 2, 7, 14] 1)
  (.cond (.t 14) (.seq (.post (.region [
 (oN (.mv 8 (.c (.bool false))))] false) [8] 0)
  .ret)
  .skip))
  (.seq (.seq (.post (.region [
 (oM 15 0)] false) [1, 2, 7, 15] 1)
  (.block 0 (.seq (.post (.region [
 (oN (.bin 17 .eql (.t 15) (.c (I 1)))),
 (oM 16 17)] false) [1, 2, 7, 15, 16] 1)
  (.cond (.t 16) (.seq (.post (.region [
 (oN (.iaddr 18 1 (some 3) (.t 7) (.c (I 0)))),
 (oL 19 18),
 (oM 20 1),
 (oN (.bin 21 .eql (.t 19) (.t 20))),
 (oM 8 21)] false) [8] 0)
  .ret)
  (.seq (.post (.region [
 (oN (.bin 23 .eql (.t 15) (.c (I 2)))),
 (oM 22 23)] false) [1, 2, 7, 15, 22] 1)
  (.cond (.t 22) (.seq (.post (.region [
 (oN (.iaddr 24 1 (some 3) (.t 7) (.c (I 0)))),
 (oL 25 24),
 (oM 26 1),
 (oN (.bin 27 .eql (.t 25) (.t 26))),
 (oM 28 27),
  ⟨.iaddr 29 1 (some 3) (.t 7) (.c (I 1)), some (28, true)⟩,
  ⟨.load 30 false 1 (.t 29), some (28, true)⟩,
  ⟨.mv 31 (.t 1), some (28, true)⟩,
  ⟨.bin 32 .eql (.t 30) (.t 31), some (28, true)⟩,
 (oN (.pick 33 (.t 28) (.t 32) (.c (.bool false)))),
 (oM 8 33)] false) [8] 0)
  .ret)
  (.seq (.post (.region [
 (oN (.bin 35 .eql (.t 15) (.c (I 3)))),
 (oM 34 35)] false) [1, 2, 7, 15, 34] 1)
  (.cond (.t 34) (.seq (.post (.region [
 (oN (.iaddr 36 1 (some 3) (.t 7) (.c (I 0)))),
 (oL 37 36),
 (oN (.iaddr 38 1 (some 3) (.t 7) (.c (I 1)))),
 (oL 39 38),
 (oN (.bin 40 .eql (.t 37) (.t 39))),
 (oM 41 40),
  ⟨.mv 42 (.t 1), some (41, true)⟩,
  ⟨.bin 43 .eql (.t 42) (.c (I 1)), some (41, true)⟩,
 (oN (.pick 44 (.t 41) (.t 43) (.c (.bool false)))),
 (oM 8 44)] false) [8] 0)
  .ret)
  (.seq (.post (.region [
 (oN (.bin 46 .eql (.t 15) (.c (I 4)))),
 (oM 45 46)] false) [1, 2, 7, 15, 45] 1)
  (.cond (.t 45) (.seq (.post (.region [
 (oN (.iaddr 47 1 (some 3) (.t 7) (.c (I 0)))),
 (oL 48 47),
 (oN (.bin 49 .eql (.t 48) (.c (I 1)))),
 (oM 50 49),
  ⟨.iaddr 51 1 (some 3) (.t 7) (.c (I 1)), some (50, true)⟩,
  ⟨.load 52 false 1 (.t 51), some (50, true)⟩,
  ⟨.mv 53 (.t 1), some (50, true)⟩,
  ⟨.bin 54 .eql (.t 52) (.t 53), some (50, true)⟩,
 (oN (.pick 55 (.t 50) (.t 54) (.c (.bool false)))),
 (oM 56 55),
  ⟨.iaddr 57 1 (some 3) (.t 7) (.c (I 2)), some (56, true)⟩,
  ⟨.load 58 false 1 (.t 57), some (56, true)⟩,
  ⟨.mv 59 (.t 1), some (56, true)⟩,
  ⟨.bin 60 .eql (.t 58) (.t 59), some (56, true)⟩,
 (oN (.pick 61 (.t 56) (.t 60) (.c (.bool false)))),
 (oM 8 61)] false) [8] 0)
  .ret)
  (.seq (.post (.region [
 (oN (.bin 63 .eql (.t 15) (.c (I 5)))),
 (oM 62 63)] false) [1, 2, 7, 15, 62] 1)
  (.cond (.t 62) (.seq (.post (.region [
 (oN (.iaddr 64 1 (some 3) (.t 7) (.c (I 0)))),
 (oL 65 64),
 (oN (.iaddr 66 1 (some 3) (.t 7) (.c (I 1)))),
 (oL 67 66),
 (oN (.bin 68 .add (.t 65) (.t 67))),
 (oM 69 1),
 (oN (.bin 70 .eql (.t 68) (.t 69))),
 (oM 8 70)] false) [8] 0)
  .ret)
  (.seq (.post (.region [
 (oN (.bin 72 .eql (.t 15) (.c (I 6)))),
 (oM 71 72)] false) [1, 2, 7, 71] 1)
  (.cond (.t 71) (.seq (.post (.region [
 (oM 73 2),
 (oN (.bin 74 .geq (.t 73) (.c (I 0)))),
 (oM 75 74),
  ⟨.mv 76 (.t 2), some (75, true)⟩,
  ⟨.iaddr 77 1 (some 3) (.t 7) (.c (I 0)), some (75, true)⟩,
  ⟨.load 78 false 1 (.t 77), some (75, true)⟩,
  ⟨.mv 79 (.t 1), some (75, true)⟩,
  ⟨.bin 80 .sub (.t 78) (.t 79), some (75, true)⟩,
  ⟨.bin 81 .leq (.t 76) (.t 80), some (75, true)⟩,
 (oN (.pick 82 (.t 75) (.t 81) (.c (.bool false)))),
 (oM 8 82)] false) [8] 0)
  .ret)
  .skip))))))))))))))
  (.seq (.post (.region [
 (oM 83 1),
 (oN (.iaddr 84 1 (some 3) (.t 7) (.c (I 0)))),
 (oL 85 84),
 (oN (.bin 86 .geq (.t 83) (.t 85))),
 (oM 8 86)] false) [8] 0)
  .ret))))
def q84 : IFunc := { np := 4, res := [.t 8], own := false, trunc := true, body := qcv }
/- 65: latchwork/word.IsWord -/
def qcw : ICode :=
 (.seq (.post (.region [
 (oN (.mv 4 (.c (.bool false))))] false) [0, 1] 0)
  (.seq (.post (.region [
 (oM 5 0),
 (oN (.bin 6 .geq (.t 5) (.c (I 0)))),
 (oM 7 6),
  ⟨.mv 8 (.t 0), some (7, true)⟩,
  ⟨.mv 9 (.t 1), some (7, true)⟩,
  ⟨.bin 10 .shl (.c (I 1)) (.t 9), some (7, true)⟩,
  ⟨.bin 11 .lss (.t 8) (.t 10), some (7, true)⟩,
 (oN (.pick 12 (.t 7) (.t 11) (.c (.bool false)))),
 (oM 4 12)] false) [4] 0)
  .ret))
def q2w : IFunc := { np := 2, res := [.t 4], own := false, trunc := true, body := qcw }
/- 66: latchwork/word.Raw -/
def qcx : ICode :=
 (.seq (.post (.region [
 (oN (.box 13 false false (.t 6))),
 (oN (.mv 14 (.c (I 0))))] false) [0, 1, 2, 3, 4, 5, 13] 1)
  (.seq (.post (.region [
 (oM 15 0),
 (oM 16 1),
 (oM 17 2),
 (oM 18 3),
 (oM 19 4),
 (oM 20 5),
 (oN (.load 21 true 3 (.t 13))),
 (oN (.call (some 22) true 96 [(.t 15), (.t 16), (.t 17), (.t 18), (.t 19), (.t 20), (.t 21)])),
 (oM 23 1),
 (oN (.bin 24 .shl (.c (I 1)) (.t 23))),
 (oN (.bin 25 .sub (.t 24) (.c (I 1)))),
 (oN (.bin 26 .and (.t 22) (.t 25))),
 (oM 14 26)] true) [14] 0)
  .ret))
def q85 : IFunc := { np := 7, res := [.t 14], own := false, trunc := true, body := qcx }
/- 96: latchwork/word.do -/
def qcy : ICode :=
 (.seq (.post (.region [
 (oN (.box 13 false false (.t 6))),
 (oN (.mv 14 (.c (I 0))))] false) [0, 2, 3, 4, 5, 13] 1)
  (.seq (.seq (.post (.region [
 (oM 15 0)] false) [2, 3, 4, 5, 13, 15] 1)
  (.block 0 (.seq (.post (.region [
 (oN (.bin 17 .eql (.t 15) (.c (I 4)))),
 (oM 16 17)] false) [2, 3, 4, 5, 13, 15, 16] 1)
  (.cond (.t 16) (.seq (.post (.region [
 (oM 18 2),
 (oN (.un 19 .xor (.t 18))),
 (oM 14 19)] false) [14] 0)
  .ret)
  (.seq (.post (.region [
 (oN (.bin 21 .eql (.t 15) (.c (I 5)))),
 (oM 20 21)] false) [2, 3, 4, 5, 13, 15, 20] 1)
  (.cond (.t 20) (.seq (.post (.region [
 (oM 22 2),
 (oN (.un 23 .neg (.t 22))),
 (oM 14 23)] false) [14] 0)
  .ret)
  (.seq (.post (.region [
 (oN (.bin 25 .eql (.t 15) (.c (I 6)))),
 (oM 24 25)] false) [2, 3, 4, 5, 13, 15, 24] 1)
  (.cond (.t 24) (.seq (.post (.region [
 (oM 26 2),
 (oM 27 3),
 (oN (.bin 28 .and (.t 26) (.t 27))),
 (oM 14 28)] false) [14] 0)
  .ret)
  (.seq (.post (.region [
 (oN (.bin 30 .eql (.t 15) (.c (I 7)))),
 (oM 29 30)] false) [2, 3, 4, 5, 13, 15, 29] 1)
  (.cond (.t 29) (.seq (.post (.region [
 (oM 31 2),
 (oM 32 3),
 (oN (.bin 33 .or (.t 31) (.t 32))),
 (oM 14 33)] false) [14] 0)
  .ret)
  (.seq (.post (.region [
 (oN (.bin 35 .eql (.t 15) (.c (I 8)))),
 (oM 34 35)] false) [2, 3, 4, 5, 13, 15, 34] 1)
  (.cond (.t 34) (.seq (.post (.region [
 (oM 36 2),
 (oM 37 3),
 (oN (.bin 38 .xor (.t 36) (.t 37))),
 (oM 14 38)] false) [14] 0)
  .ret)
  (.seq (.post (.region [
 (oN (.bin 40 .eql (.t 15) (.c (I 9)))),
 (oM 39 40)] false) [2, 3, 4, 5, 13, 15, 39] 1)
  (.cond (.t 39) (.seq (.post (.region [
 (oM 41 2),
 (oM 42 3),
 (oN (.bin 43 .add (.t 41) (.t 42))),
 (oM 14 43)] false) [14] 0)
  .ret)
  (.seq (.post (.region [
 (oN (.bin 45 .eql (.t 15) (.c (I 10)))),
 (oM 44 45)] false) [2, 3, 4, 5, 13, 15, 44] 1)
  (.cond (.t 44) (.seq (.post (.region [
 (oM 46 2),
 (oM 47 3),
 (oN (.bin 48 .sub (.t 46) (.t 47))),
 (oM 14 48)] false) [14] 0)
  .ret)
  (.seq (.post (.region [
 (oN (.bin 50 .eql (.t 15) (.c (I 11)))),
 (oM 49 50)] false) [2, 3, 4, 5, 13, 15, 49] 1)
  (.cond (.t 49) (.seq (.post (.region [
 (oM 51 2),
 (oM 52 3),
 (oN (.bin 53 .mul (.t 51) (.t 52))),
 (oM 14 53)] false) [14] 0)
  .ret)
  (.seq (.post (.region [
 (oN (.bin 55 .eql (.t 15) (.c (I 14)))),
 (oM 54 55)] false) [2, 3, 4, 5, 13, 15, 54] 1)
  (.cond (.t 54) (.seq (.post (.region [
 (oM 56 2),
 (oM 57 3),
 (oN (.bin 58 .shl (.t 56) (.t 57))),
 (oM 14 58)] false) [14] 0)
  .ret)
  (.seq (.post (.region [
 (oN (.bin 60 .eql (.t 15) (.c (I 15)))),
 (oM 59 60)] false) [2, 3, 4, 5, 13, 15, 59] 1)
  (.cond (.t 59) (.seq (.post (.region [
 (oM 61 2),
 (oM 62 3),
 (oN (.bin 63 .shr (.t 61) (.t 62))),
 (oM 14 63)] false) [14] 0)
  .ret)
  (.seq (.post (.region [
 (oN (.bin 65 .eql (.t 15) (.c (I 16)))),
 (oM 64 65)] false) [2, 3, 4, 5, 13, 15, 64] 1)
  (.cond (.t 64) (.seq (.post (.region [
 (oM 66 2),
 (oM 67 3),
 (oN (.bin 68 .eql (.t 66) (.t 67))),
 (oN (.call (some 69) true 114 [(.t 68)])),
 (oM 14 69)] false) [14] 0)
  .ret)
  (.seq (.post (.region [
 (oN (.bin 71 .eql (.t 15) (.c (I 17)))),
 (oM 70 71)] false) [2, 3, 4, 5, 13, 15, 70] 1)
  (.cond (.t 70) (.seq (.post (.region [
 (oM 72 2),
 (oM 73 3),
 (oN (.bin 74 .lss (.t 72) (.t 73))),
 (oN (.call (some 75) true 114 [(.t 74)])),
 (oM 14 75)] false) [14] 0)
  .ret)
  (.seq (.post (.region [
 (oN (.bin 77 .eql (.t 15) (.c (I 18)))),
 (oM 76 77)] false) [2, 3, 4, 5, 13, 15, 76] 1)
  (.cond (.t 76) (.seq (.post (.region [
 (oM 78 2),
 (oN (.iaddr 79 1 (some 3) (.t 13) (.c (I 0)))),
 (oL 80 79),
 (oN (.call (some 81) true 115 [(.t 78), (.t 80)])),
 (oM 82 3),
 (oN (.iaddr 83 1 (some 3) (.t 13) (.c (I 1)))),
 (oL 84 83),
 (oN (.call (some 85) true 115 [(.t 82), (.t 84)])),
 (oN (.bin 86 .lss (.t 81) (.t 85))),
 (oN (.call (some 87) true 114 [(.t 86)])),
 (oM 14 87)] true) [14] 0)
  .ret)
  (.seq (.post (.region [
 (oN (.bin 89 .eql (.t 15) (.c (I 20)))),
 (oM 88 89)] false) [2, 3, 4, 5, 13, 15, 88] 1)
  (.cond (.t 88) (.seq (.post (.region [
 (oM 90 2),
 (oN (.iaddr 91 1 (some 3) (.t 13) (.c (I 1)))),
 (oL 92 91),
 (oN (.bin 93 .shl (.t 90) (.t 92))),
 (oM 94 3),
 (oN (.bin 95 .or (.t 93) (.t 94))),
 (oM 14 95)] false) [14] 0)
  .ret)
  (.seq (.post (.region [
 (oN (.bin 97 .eql (.t 15) (.c (I 21)))),
 (oM 96 97)] false) [2, 3, 4, 5, 13, 15, 96] 1)
  (.cond (.t 96) (.seq (.post (.region [
 (oM 98 2),
 (oM 99 5),
 (oN (.bin 100 .shr (.t 98) (.t 99))),
 (oM 14 100)] false) [14] 0)
  .ret)
  (.seq (.post (.region [
 (oN (.bin 102 .eql (.t 15) (.c (I 23)))),
 (oM 101 102)] false) [2, 3, 4, 13, 15, 101] 1)
  (.cond (.t 101) (.seq (.post (.region [
 (oM 103 2),
 (oN (.iaddr 104 1 (some 3) (.t 13) (.c (I 0)))),
 (oL 105 104),
 (oN (.call (some 106) true 115 [(.t 103), (.t 105)])),
 (oM 14 106)] false) [14] 0)
  .ret)
  (.seq (.post (.region [
 (oN (.bin 108 .eql (.t 15) (.c (I 19)))),
 (oM 107 108)] false) [2, 3, 4, 15, 107] 0)
  (.cond (.t 107) (.seq (.seq (.post (.region [
 (oM 109 2),
 (oN (.bin 110 .eql (.t 109) (.c (I 1))))] false) [3, 4, 110] 0)
  (.cond (.t 110) (.seq (.post (.region [
 (oM 111 3),
 (oM 14 111)] false) [14] 0)
  .ret)
  .skip))
  (.seq (.post (.region [
 (oM 112 4),
 (oM 14 112)] false) [14] 0)
  .ret))
  (.seq (.post (.region [
 (oN (.bin 114 .eql (.t 15) (.c (I 12)))),
 (oM 113 114)] false) [2, 3, 15, 113] 0)
  (.cond (.t 113) (.seq (.seq (.post (.region [
 (oM 115 3),
 (oN (.bin 116 .eql (.t 115) (.c (I 0))))] false) [2, 3, 116] 0)
  (.cond (.t 116) (.seq (.post (.region [
 (oN (.mv 14 (.c (I (-1)))))] false) [14] 0)
  .ret)
  .skip))
  (.seq (.post (.region [
 (oM 117 2),
 (oM 118 3),
 (oN (.bin 119 .quo (.t 117) (.t 118))),
 (oM 14 119)] false) [14] 0)
  .ret))
  (.seq (.post (.region [
 (oN (.bin 121 .eql (.t 15) (.c (I 13)))),
 (oM 120 121)] false) [2, 3, 120] 0)
  (.cond (.t 120) (.seq (.seq (.post (.region [
 (oM 122 3),
 (oN (.bin 123 .eql (.t 122) (.c (I 0))))] false) [2, 3, 123] 0)
  (.cond (.t 123) (.seq (.post (.region [
 (oM 124 2),
 (oM 14 124)] false) [14] 0)
  .ret)
  .skip))
  (.seq (.post (.region [
 (oM 125 2),
 (oM 126 3),
 (oN (.bin 127 .rem (.t 125) (.t 126))),
 (oM 14 127)] false) [14] 0)
  .ret))
  .skip))))))))))))))))))))))))))))))))))))))))
  (.seq (.post (.region [
 (oM 128 2),
 (oM 14 128)] false) [14] 0)
  .ret)))
def q86 : IFunc := { np := 7, res := [.t 14], own := false, trunc := true, body := qcy }
/- 114: latchwork/word.yes -/
def qcz : ICode :=
 (.seq (.post (.region [
 (oN (.mv 2 (.c (I 0))))] false) [0] 0)
  (.seq (.seq (.post (.region [
 (oM 3 0)] false) [3] 0)
  (.cond (.t 3) (.seq (.post (.region [
 (oN (.mv 2 (.c (I 1))))] false) [2] 0)
  .ret)
  .skip))
  (.seq (.post (.region [
 (oN (.mv 2 (.c (I 0))))] false) [2] 0)
  .ret)))
def q2x : IFunc := { np := 1, res := [.t 2], own := false, trunc := true, body := qcz }
/- 115: latchwork/word.signed -/
def qd0 : ICode :=
 (.seq (.post (.region [
 (oN (.mv 4 (.c (I 0))))] false) [0, 1] 0)
  (.seq (.seq (.post (.region [
 (oM 5 0),
 (oM 6 1),
 (oN (.bin 7 .sub (.t 6) (.c (I 1)))),
 (oN (.bin 8 .shl (.c (I 1)) (.t 7))),
 (oN (.bin 9 .geq (.t 5) (.t 8)))] false) [0, 1, 9] 0)
  (.cond (.t 9) (.seq (.post (.region [
 (oM 10 0),
 (oM 11 1),
 (oN (.bin 12 .shl (.c (I 1)) (.t 11))),
 (oN (.bin 13 .sub (.t 10) (.t 12))),
 (oM 4 13)] false) [4] 0)
  .ret)
  .skip))
  (.seq (.post (.region [
 (oM 14 0),
 (oM 4 14)] false) [4] 0)
  .ret)))
def q2y : IFunc := { np := 2, res := [.t 4], own := false, trunc := true, body := qd0 }
end Go.Lw
end

/-! The machine's code, read off: what a piece of code comes to, said without slots. No program in sight. -/
section
namespace Go.Lw
open Go
inductive Ce where
 | any
 | one
 | int (k : IntKind)
 | bool
 | str
 | gp
 | ol (z : Nat)
 deriving Inhabited
inductive Sh where
 | raw
 | ce (c : Ce)
 | agg (l : List Ce)
 | tup (n : Nat)
 deriving Inhabited
/- What the kernel is to undo first (the height of a definition). -/
def hz0 : Nat := 0
def hz1 : Nat := hz0
def hz2 : Nat := hz1
def hz3 : Nat := hz2
def hz4 : Nat := hz3
def hz5 : Nat := hz4
def hz6 : Nat := hz5
def hz7 : Nat := hz6
def hz8 : Nat := hz7
def hz9 : Nat := hz8
def hz10 : Nat := hz9
def hz11 : Nat := hz10
def hz12 : Nat := hz11
def hz13 : Nat := hz12
def hz14 : Nat := hz13
def hz15 : Nat := hz14
def hz16 : Nat := hz15
def hz17 : Nat := hz16
def hz18 : Nat := hz17
def hz19 : Nat := hz18
def hz20 : Nat := hz19
def hz21 : Nat := hz20
def hz22 : Nat := hz21
def hz23 : Nat := hz22
def hz24 : Nat := hz23
def hz25 : Nat := hz24
def hz26 : Nat := hz25
def hz27 : Nat := hz26
def hz28 : Nat := hz27
def hz29 : Nat := hz28
def hz30 : Nat := hz29
def hz31 : Nat := hz30
def hz32 : Nat := hz31
def hz33 : Nat := hz32
def hz34 : Nat := hz33
def hz35 : Nat := hz34
def hz36 : Nat := hz35
def hz37 : Nat := hz36
def hz38 : Nat := hz37
def hz39 : Nat := hz38
def hz40 : Nat := hz39
def hz41 : Nat := hz40
def hz42 : Nat := hz41
def hz43 : Nat := hz42
def hz44 : Nat := hz43
def hz45 : Nat := hz44
def hz46 : Nat := hz45
def hz47 : Nat := hz46
def hz48 : Nat := hz47
def hz49 : Nat := hz48
def hz50 : Nat := hz49
def hz51 : Nat := hz50
def hz52 : Nat := hz51
def hz53 : Nat := hz52
def hz54 : Nat := hz53
def hz55 : Nat := hz54
def hz56 : Nat := hz55
def hz57 : Nat := hz56
def hz58 : Nat := hz57
def hz59 : Nat := hz58
def hz60 : Nat := hz59
def hz61 : Nat := hz60
def hz62 : Nat := hz61
def hz63 : Nat := hz62
def hz64 : Nat := hz63
def hz65 : Nat := hz64
def hz66 : Nat := hz65
def hz67 : Nat := hz66
def hz68 : Nat := hz67
def hz69 : Nat := hz68
def hz70 : Nat := hz69
section
variable {R : Type} {α : Type}
def ob0 (x : Option α) (f : α → Option R) : Option R := match x with | some a => f a | none => none
def gd0 (b : Bool) (x : Option R) : Option R := match b with | true => x | false => none
def ob (x : Option α) (f : α → Option R) : Option R := (fun _ : Nat =>
 match x with | some a => f a | none => none) hz45
def gd (b : Bool) (x : Option R) : Option R := (fun _ : Nat =>
 match b with | true => x | false => none) hz45
def gb (b : Bool) (x : Option R) : Option R := (fun _ : Nat =>
 match b with | true => x | false => none) hz45
def br (_ : Nat) (b : Bool) (x y : Option R) : Option R := (fun _ : Nat =>
 match b with | true => x | false => y) hz45
def kR (x : Option (IExit × St)) (k : IExit → St → Option R) : Option R := match x with | some (e, s) => k e s | none => none
def nx (e : IExit) (s : St) (k : IExit → St → Option R) (f : St → Option R) : Option R := (fun _ : Nat =>
 match e with | .normal => f s | e => k e s) hz70
def bk (id : Nat) (e : IExit) (s : St) (k : IExit → St → Option R) : Option R := match e with | .exit i => br 0 (Nat.beq i id) (k .normal s) (k (.exit i) s) | e => k e s
def iAnd (k : IntKind) (a b : Int) : Int := k.wrap (BitVec.ofInt k.bits a &&& BitVec.ofInt k.bits b).toNat
def iOr (k : IntKind) (a b : Int) : Int := k.wrap (BitVec.ofInt k.bits a ||| BitVec.ofInt k.bits b).toNat
def iXor (k : IntKind) (a b : Int) : Int := k.wrap (BitVec.ofInt k.bits a ^^^ BitVec.ofInt k.bits b).toNat
def iShl (k : IntKind) (a b : Int) : Int := k.wrap (a * 2 ^ (min b.toNat k.bits))
def iShr (k : IntKind) (a b : Int) : Int := a.fdiv (2 ^ (min b.toNat k.bits))
def iNot (k : IntKind) (n : Int) : Int := k.wrap (BitVec.ofInt k.bits (if k.signed then -1 else k.max) ^^^ BitVec.ofInt k.bits n).toNat
def kIdx : IntKind → Nat
 | .i8 => 0 | .i16 => 1 | .i32 => 2 | .i64 => 3 | .u8 => 4 | .u16 => 5 | .u32 => 6 | .u64 => 7
def kE (k k' : IntKind) (x : Option R) : Option R := gb (Nat.beq (kIdx k) (kIdx k')) x
def Fn : Nat → Type → Type
 | 0, R => R
 | n + 1, R => PV → Fn n R
def curry : (n : Nat) → (List PV → R) → Fn n R
 | 0, g => g []
 | n + 1, g => fun c => curry n fun l => g (c :: l)
def unN : (n : Nat) → List PV → Fn n (Option R) → Option R
 | 0, [], f => f
 | n + 1, c :: l, f => unN n l (f c)
 | _, _, _ => none
def isC (v : PV) (x : Option R) : Option R := (fun _ : Nat =>
 match v with | .agg _ => none | _ => x) hz45
def stK (nl : Nat) (v : PV) (x : Option R) : Option R := (fun _ : Nat =>
 match v with
  | .ptr false b _ => gb (Nat.ble (b + 1) nl) x
  | .bs false b _ _ _ => gb (Nat.ble (b + 1) nl) x
  | _ => x) hz45
def onK (v : PV) (x : Option R) : Option R := (fun _ : Nat =>
 match v with
  | .und | .agg _ | .tup _ | .ptr false _ _ | .bs false _ _ _ _ | .arr _ _ | .junk => none
  | _ => x) hz45
def arL : List PV → Option R → Option R
 | [], x => x
 | c :: l, x => onK c (arL l x)
def arK (v : PV) (x : Option R) : Option R := (fun _ : Nat =>
 match v with
  | .agg cs => arL cs x
  | .und | .tup _ | .ptr false _ _ | .bs false _ _ _ _ | .arr _ _ | .junk => none
  | _ => x) hz45
def allK : List PV → Option R → Option R
 | [], x => x
 | v :: l, x => arK v (allK l x)
def lenB : List PV → Nat → Bool
 | [], 0 => true
 | _ :: l, n + 1 => lenB l n
 | _, _ => false
def geB : List PV → Nat → Bool
 | _, 0 => true
 | _ :: l, n + 1 => geB l n
 | [], _ + 1 => false
def lnK (z : Nat) (v : PV) (x : Option R) : Option R := (fun _ : Nat =>
 match v with
  | .agg cs => gb (lenB cs z) x
  | _ => gb (Nat.beq 1 z) x) hz45
def slK (z : Nat) : List PV → Option R → Option R
 | [], x => x
 | v :: l, x => arK v (lnK z v (slK z l x))
def isPtr : PV → Bool
 | .ptr _ _ _ | .ep _ _ | .fn _ _ => true
 | _ => false
def unI (k : IntKind) (v : PV) (f : Int → Option R) : Option R := (fun _ : Nat =>
 match v with | .int k' n => kE k' k (f n) | _ => none) hz45
def anyI (v : PV) (f : Int → Option R) : Option R := (fun _ : Nat =>
 match v with | .int _ n => f n | _ => none) hz45
def unB (v : PV) (f : Bool → Option R) : Option R := (fun _ : Nat =>
 match v with | .bool b => f b | _ => none) hz45
def unS (v : PV) (f : ByteArray → Option R) : Option R := (fun _ : Nat =>
 match v with | .str b => f b | _ => none) hz45
def unG (v : PV) (f : Nat → Nat → Option R) : Option R := (fun _ : Nat =>
 match v with | .ptr true b off => f b off | _ => none) hz45
def unO (z : Nat) (v : PV) (f : List PV → Option R) : Option R := match v with | .sl true z' xs => gb (Nat.beq z' z) (f xs) | _ => none
def unA (n : Nat) (v : PV) (f : Fn n (Option R)) : Option R := match v with | .agg cs => unN n cs f | _ => none
def unT (n : Nat) (v : PV) (f : Fn n (Option R)) : Option R := match v with | .tup cs => unN n cs f | _ => none
def nilB (v : PV) (f : Bool → Option R) : Option R := match v with | .nilI => f true | .someI => f false | _ => none
def castC (c : Ce) (v : PV) (f : PV → Option R) : Option R :=
 match c with
 | .any => f v
 | .one => isC v (f v)
 | .int k => unI k v fun n => f (.int k n)
 | .bool => unB v fun b => f (.bool b)
 | .str => unS v fun b => f (.str b)
 | .gp => unG v fun b off => f (.ptr true b off)
 | .ol z => unO z v fun xs => f (.sl true z xs)
def castL : List Ce → List PV → (List PV → Option R) → Option R
 | [], [], f => f []
 | c :: cs, v :: vs, f => castC c v fun v => castL cs vs fun vs => f (v :: vs)
 | _, _, _ => none
def cast (h : Sh) (v : PV) (f : PV → Option R) : Option R :=
 match h with
 | .raw => f v
 | .ce c => castC c v f
 | .agg l => unA l.length v (curry l.length fun cs => castL l cs fun cs => f (.agg cs))
 | .tup n => unT n v (curry n fun vs => f (.tup vs))
inductive Tr where
 | nil
 | node (n : Nat) (h : Sh) (l r : Tr)
def shAt : Tr → Nat → Sh
 | .nil, _ => .raw
 | .node n h l r, t => match Nat.beq n t with
  | true => h
  | false => match Nat.ble n t with
   | true => shAt r t
   | false => shAt l t
def shX (an : Tr) : IX → Sh
 | .t n => shAt an n
 | .c _ => .raw
 | .f _ => .raw
def getX : List (Nat × PV) → Nat → Option PV
 | [], _ => none
 | (a, v) :: l, t => match Nat.beq a t with
  | true => some v
  | false => getX l t
def putK : List (Nat × PV) → Nat → PV → (List (Nat × PV) → Option R) → Option R
 | [], t, v, k => (fun _ : Nat => k [(t, v)]) hz70
 | (a, u) :: l, t, v, k => match Nat.beq a t with
  | true => k ((t, v) :: l)
  | false => putK l t v fun l => k ((a, u) :: l)
def snocK : List α → α → (List α → Option R) → Option R
 | [], v, k => (fun _ : Nat => k [v]) hz70
 | u :: l, v, k => snocK l v fun l => k (u :: l)
def setK : List α → Nat → α → (List α → Option R) → Option R
 | [], _, _, k => (fun _ : Nat => k []) hz70
 | _ :: l, 0, v, k => k (v :: l)
 | u :: l, i + 1, v, k => setK l i v fun l => k (u :: l)
def nthX : List α → Nat → Option α
 | [], _ => none
 | u :: _, 0 => some u
 | _ :: l, i + 1 => nthX l i
def takeK : Nat → List α → (List α → Option R) → Option R
 | 0, _, k => (fun _ : Nat => k []) hz70
 | _, [], k => k []
 | n + 1, u :: l, k => takeK n l fun l => k (u :: l)
def evX (e : List (Nat × PV)) : IX → Option PV
 | .t n => match getX e n with
  | some v => some (degr v)
  | none => none
 | .c v => some (degr v)
 | .f id => some (.fn id [])
def evK (e : List (Nat × PV)) : IX → Option PV
 | .t n => match getX e n with
  | some v => some (degr v)
  | none => none
 | .c v => some v
 | .f id => some (.fn id [])
def evXs (e : List (Nat × PV)) : List IX → (List PV → Option R) → Option R
 | [], k => (fun _ : Nat => k []) hz70
 | x :: l, k => match evX e x with
  | some v => evXs e l fun vs => k (v :: vs)
  | none => none
def tkX (e : List (Nat × PV)) (x : IX) (k : PV → List (Nat × PV) → Option R) : Option R :=
 match x with
 | .t n => match getX e n with
  | some v => putK e n (degr v) fun e => k v e
  | none => none
 | .c v => k v e
 | .f id => k (.fn id []) e
def putS (s : St) (d : Nat) (v : PV) (k : St → Option R) : Option R := putK s.env d v fun e => k ⟨e, s.lh, s.gh⟩
def cellsX (h : Sh) (v : PV) (f : List PV → Option R) : Option R :=
 match h with
 | .ce _ => isC v (f [v])
 | _ => f v.cells
def setX (an : Tr) (s : St) (d : Nat) (v : PV) (k : St → Option R) : Option R := cast (shAt an d) v fun w => putS s d w k
def ghCells (gh : List GObj) (b : Nat) : Option (List PV) := match gh[b]? with | some (.cells cs) => some cs | _ => none
def ghMap (gh : List GObj) (b : Nat) : Option (List (PV × PV)) := match gh[b]? with | some (.map es) => some es | _ => none
def ldX (lh : List (List PV)) (gh : List GObj) (agg : Bool) (k : Nat) (p : PV) (f : PV → Option R) : Option R :=
 (fun _ : Nat =>
 match p with
 | .ptr false b off => match nthX lh b with
  | some cs => (match grab agg k off cs with | some v => f (degr v) | none => none)
  | none => none
 | .ptr true b off => ob0 (ghCells gh b) fun cs => ob0 (grab agg k off cs) fun v => f (degr v)
 | .ep e off => ob0 (grab agg k off e.cells) f
 | _ => none) hz20
def stOk (k off : Nat) (cs old : List PV) : Bool := lenB cs k && geB old (off + k)
def stoX (s : St) (p : PV) (kk : Nat) (cs : List PV) (k : St → Option R) : Option R :=
 match p with
 | .ptr false b off => match nthX s.lh b with
  | some old => gb (stOk kk off cs old) (setK s.lh b (spliceAt old off cs) fun lh => k ⟨s.env, lh, s.gh⟩)
  | none => none
 | .ptr true b off => ob (ghCells s.gh b) fun old => gb (stOk kk off cs old) (k ⟨s.env, s.lh, s.gh.set b (.cells (spliceAt old off cs))⟩)
 | _ => none
def psX (an : Tr) (e : List (Nat × PV)) : List (Nat × Nat × IX) → List PV → (List PV → Option R) → Option R
 | [], z, f => f z
 | (off, k, x) :: l, z, f => match evX e x with
  | some v => arK v (cellsX (shX an x) v fun cs => gb (stOk k off cs z) (psX an e l (spliceAt z off cs) f))
  | none => none
def psT (an : Tr) : List (Nat × PV) → List (Nat × Nat × IX) → List PV → (List (Nat × PV) → List PV → Option R) → Option R
 | e, [], z, f => f e z
 | e, (off, k, x) :: l, z, f => tkX e x fun v e1 => arK v (cellsX (shX an x) v fun cs => gb (stOk k off cs z) (psT an e1 l (spliceAt z off cs) f))
def mkOk (n : Int) (bytes z : Nat) (zero : PV) : Bool := decide (0 ≤ n ∧ n * bytes ≤ maxBytes ∧ zero.cells.length = z ∧ argOk zero = true)
def boX (e : List (Nat × PV)) (x : Option IX) (f : Option Int → Option R) : Option R :=
 match x with
 | none => f none
 | some x => match evX e x with
  | some v => anyI v fun n => f (some n)
  | none => none
def bd (d : Nat) (x : Option Int) (f : Nat → Option R) : Option R := match x with | none => f d | some i => gd0 (decide (0 ≤ i)) (f i.toNat)
def slX (z : Nat) (v : PV) (lo hi : Option Int) (f : PV → Option R) : Option R :=
 match v with
 | .sl _ z' xs => bd xs.length hi fun h => bd 0 lo fun l => gd0 (decide (l ≤ h ∧ h ≤ xs.length ∧ z = z')) (f (.sl false z ((xs.take h).drop l)))
 | .bs g b off n z' => bd n hi fun h => bd 0 lo fun l => gd0 (decide (l ≤ h ∧ h ≤ n ∧ z = z')) (f (.bs g b (off + l * z) (h - l) z))
 | .stk b gen n => match lo with
  | none => bd n hi fun h => gd0 (decide (h ≤ n ∧ z = 1)) (f (.stk b gen h))
  | some lo => bd n hi fun h => bd 0 (some lo) fun l => gd0 (decide (l ≤ h ∧ h ≤ n ∧ z = 1)) (f (.sub b gen l (h - l)))
 | .sub b gen off n => bd n hi fun h => bd 0 lo fun l => gd0 (decide (l ≤ h ∧ h ≤ n ∧ z = 1)) (f (.sub b gen (off + l) (h - l)))
 | _ => none
def ssX (v : PV) (lo hi : Option Int) (f : ByteArray → Option R) : Option R :=
 match v with
 | .str b => bd b.size hi fun h => bd 0 lo fun l => gd (decide (l ≤ h ∧ h ≤ b.size)) (f (b.extract l h))
 | _ => none
def faX (p : PV) (off : Nat) (f : PV → Option R) : Option R :=
 (fun _ : Nat =>
 match p with
 | .ptr g b o => f (.ptr g b (o + off))
 | .ep e o => f (.ep e (o + off))
 | _ => none) hz30
def fdX (v : PV) (agg : Bool) (k off : Nat) (f : PV → Option R) : Option R :=
 match v with
 | .agg cs => ob (grab agg k off cs) f
 | _ => none
def idX (z : Nat) (arr : Option Nat) (v : PV) (i : Int) (f : PV → Option R) : Option R :=
 match arr, v with
 | none, .sl _ z' xs => gd0 (decide (0 ≤ i ∧ z = z')) (ob0 xs[i.toNat]? fun e => f (.ep e 0))
 | none, .bs g b off n z' => gd0 (decide (0 ≤ i ∧ i < n ∧ z = z')) (f (.ptr g b (off + i.toNat * z)))
 | some m, .ptr g b o => gd0 (decide (0 ≤ i ∧ i < m)) (f (.ptr g b (o + i.toNat * z)))
 | some m, .ep e o => gd0 (decide (0 ≤ i ∧ i < m)) (f (.ep e (o + i.toNat * z)))
 | none, .stk b gen n => gd0 (decide (0 ≤ i ∧ i < n ∧ z = 1)) (f (.pstk b gen i.toNat))
 | none, .sub b gen off n => gd0 (decide (0 ≤ i ∧ i < n ∧ z = 1)) (f (.pstk b gen (off + i.toNat)))
 | _, _ => none
def ixX (v : PV) (z arr : Nat) (agg : Bool) (i : Int) (f : PV → Option R) : Option R :=
 match v with
 | .agg cs => gd (decide (0 ≤ i ∧ i < arr)) (ob (grab agg z (i.toNat * z) cs) f)
 | _ => none
def isX (v : PV) (i : Int) (f : Int → Option R) : Option R :=
 match v with
 | .str b => gd (decide (0 ≤ i)) (ob b[i.toNat]? fun u => f u.toNat)
 | _ => none
def lkX (gh : List GObj) (kn : Nat) (m k : PV) (f : Option PV → Option R) : Option R :=
 match m with
 | .mp b => ob (ghMap gh b) fun es => gd (isKey kn k) (ob (mfind kn es k) f)
 | _ => none
def muX (gh : List GObj) (kn : Nat) (m k v : PV) (f : List GObj → Option R) : Option R :=
 match m with
 | .mp b => ob (ghMap gh b) fun es => gd (argOk k && (argOk v && isKey kn k)) (ob (mset kn es k v) fun es' => f (gh.set b (.map es')))
 | _ => none
def lenS (v : PV) (f : Nat → Option R) : Option R := match v with | .sl _ _ xs => f xs.length | .bs _ _ _ n _ => f n | .stk _ _ n => f n | .sub _ _ _ n => f n | .nils => f 0 | _ => none
def lenM (gh : List GObj) (v : PV) (f : Nat → Option R) : Option R := match v with | .mp b => ob (ghMap gh b) fun es => f es.length | _ => none
def apX (z bytes : Nat) (v w : PV) (f : List PV → Option R) : Option R :=
 match w, v with
 | .sl _ z2 ys, .sl o z1 xs => gd (decide (o = true ∧ z1 = z ∧ z2 = z ∧ (xs.length + ys.length) * bytes ≤ maxBytes)) (f (xs ++ ys))
 | _, _ => none
def ghStk (gh : List GObj) (b : Nat) : Option (Nat × List PV) := match gh[b]? with | some (.stk g xs) => some (g, xs) | _ => none
def akX (gh : List GObj) (bytes : Nat) (v w : PV) (f : List GObj → PV → Option R) : Option R :=
 ob (elsOf gh w) fun ys => match v with
  | .stk b gen n => ob (ghStk gh b) fun p => gd (decide (p.1 = gen ∧ n ≤ p.2.length ∧ (n + ys.length) * bytes ≤ maxBytes ∧ apart b w = true ∧ ys.all isFlat = true)) (f (gh.set b (.stk (p.1 + 1) (p.2.take n ++ ys))) (.stk b (p.1 + 1) (n + ys.length)))
  | _ => none
def anX (gh : List GObj) (bytes : Nat) (v w : PV) (f : List GObj → PV → Option R) : Option R :=
 match v with
 | .nils => ob (elsOf gh w) fun ys => gd (decide (ys ≠ [] ∧ ys.length * bytes ≤ maxBytes ∧ ys.all isFlat = true)) (f (gh ++ [.stk 0 ys]) (.stk gh.length 0 ys.length))
 | v => akX gh bytes v w f
def lkK (gh : List GObj) (v : PV) (f : PV → Option R) : Option R := match v with | .pstk b gen i => ob (stkGet gh b gen i) f | _ => none
def exX (v : PV) (i : Nat) (f : PV → Option R) : Option R := match v with | .tup vs => ob vs[i]? f | _ => none
noncomputable def callR (gh : List GObj) (q : Bool) (x : Option (PV × List GObj)) (f : PV → List GObj → Option R) : Option R :=
 open Classical in
 match x with | some (r, gh') => (match q with | true => (if gh' = gh then f r gh else none) | false => f r gh') | none => none
def callN (vs : List PV) (x : Option (PV × List GObj)) (f : PV → Option R) : Option R :=
 gd (noGs vs) (match x with | some (r, []) => gd r.noG (f r) | _ => none)
def elK (gh : List GObj) (vs : List PV) (k : List PV → Option R) : Option R := match elPs gh vs with | some us => k us | none => none
def callE (us : List PV) (x : Option (PV × List GObj)) (f : PV → Option R) : Option R :=
 gd (noGs us) (match x with | some (r, []) => gd (isFlat r) (f r) | _ => none)
def fnX (v : PV) (f : Nat → List PV → Option R) : Option R := match v with | .fn i cs => f i cs | _ => none
def newX (s : St) (d : Nat) (g : Bool) (cs : List PV) (k : St → Option R) : Option R :=
 match g with
 | true => putK s.env d (.ptr true s.gh.length 0) fun e => k ⟨e, s.lh, s.gh ++ [.cells cs]⟩
 | false => putK s.env d (.ptr false s.lh.length 0) fun e => snocK s.lh cs fun lh => k ⟨e, lh, s.gh⟩
def binX (op : BinOp) (a b : PV) (f : PV → Option R) : Option R :=
 match a, b with
 | .int k x, .int k' y => match op with
  | .add => kE k k' (f (.int k (k.wrap (x + y))))
  | .sub => kE k k' (f (.int k (k.wrap (x - y))))
  | .mul => kE k k' (f (.int k (k.wrap (x * y))))
  | .quo => kE k k' (gd (decide (y ≠ 0)) (f (.int k (k.wrap (x.tdiv y)))))
  | .rem => kE k k' (gd (decide (y ≠ 0)) (f (.int k (x.tmod y))))
  | .and => kE k k' (f (.int k (iAnd k x y)))
  | .or => kE k k' (f (.int k (iOr k x y)))
  | .xor => kE k k' (f (.int k (iXor k x y)))
  | .eql => kE k k' (f (.bool (x == y)))
  | .neq => kE k k' (f (.bool (x != y)))
  | .lss => kE k k' (f (.bool (decide (x < y))))
  | .leq => kE k k' (f (.bool (decide (x ≤ y))))
  | .gtr => kE k k' (f (.bool (decide (y < x))))
  | .geq => kE k k' (f (.bool (decide (y ≤ x))))
  | .shl => gd (decide (0 ≤ y)) (f (.int k (iShl k x y)))
  | .shr => gd (decide (0 ≤ y)) (f (.int k (iShr k x y)))
  | op => ob (binPV op (.int k x) (.int k' y)) f
 | .str x, .str y => match op with
  | .eql => f (.bool (x.toList == y.toList))
  | .neq => f (.bool (!(x.toList == y.toList)))
  | op => ob (binPV op (.str x) (.str y)) f
 | _, _ => none
def unX (op : UnOp) (a : PV) (f : PV → Option R) : Option R :=
 match op, a with
 | .neg, .int k n => f (.int k (k.wrap (0 - n)))
 | .xor, .int k n => f (.int k (iNot k n))
 | .not, .bool b => f (.bool (!b))
 | _, _ => none
def setO (an : Tr) (s : St) (d : Option Nat) (v : PV) (k : St → Option R) : Option R :=
 match d with
 | some d => setX an s d v k
 | none => k s
noncomputable def qd1 (cf : CallF) (an : Tr) (s : St) (k : St → Option R) (d : Nat) (x : IX) : Option R := match evK s.env x with
  | some v => setX an s d v k
  | none => none
noncomputable def qd2 (cf : CallF) (an : Tr) (s : St) (k : St → Option R) (d : Nat) (n : Nat) : Option R := match getX s.env n with
  | some v => putK s.env n (degr v) fun e => putK e d v fun e => k ⟨e, s.lh, s.gh⟩
  | none => none
noncomputable def qd3 (cf : CallF) (an : Tr) (s : St) (k : St → Option R) (d : Nat) (c : IX) (x : IX) (y : IX) : Option R := match evX s.env c, evX s.env x, evX s.env y with
  | some c, some v, some w => unB c fun b => br d b (setX an s d v k) (setX an s d w k)
  | _, _, _ => none
noncomputable def q87 (cf : CallF) (an : Tr) (s : St) (k : St → Option R) (d : Nat) (g : Bool) (x : IX) : Option R := tkX s.env x fun v e => arK v (cellsX (shX an x) v fun cs => newX ⟨e, s.lh, s.gh⟩ d g cs k)
noncomputable def q88 (cf : CallF) (an : Tr) (s : St) (k : St → Option R) (d : Nat) (g : Bool) (x : IX) : Option R := match evX s.env x with
  | some v => arK v (cellsX (shX an x) v fun cs => newX s d g cs k)
  | none => none
noncomputable def qd4 (cf : CallF) (an : Tr) (s : St) (k : St → Option R) (d : Nat) (g : Bool) (z : PV) : Option R := arK z (newX s d g z.cells k)
noncomputable def qd5 (cf : CallF) (an : Tr) (s : St) (k : St → Option R) (d : Nat) (z : List PV) (ps : List (Nat × Nat × IX)) : Option R := arL z (psX an s.env ps z fun cs => putS s d (.agg cs) k)
noncomputable def qd6 (cf : CallF) (an : Tr) (s : St) (k : St → Option R) (d : Nat) (z : List PV) (ps : List (Nat × Nat × IX)) : Option R := arL z (psT an s.env ps z fun e cs => putK e d (.agg cs) fun e => k ⟨e, s.lh, s.gh⟩)
noncomputable def qd7 (cf : CallF) (an : Tr) (s : St) (k : St → Option R) (d : Nat) (z : Nat) (els : List IX) : Option R := evXs s.env els fun vs => slK z vs (putS s d (.sl true z vs) k)
noncomputable def qd8 (cf : CallF) (an : Tr) (s : St) (k : St → Option R) (d : Nat) (agg : Bool) (kk : Nat) (a : IX) : Option R := match evX s.env a with
  | some p => ldX s.lh s.gh agg kk p fun v => setX an s d v k
  | none => none
noncomputable def qd9 (cf : CallF) (an : Tr) (s : St) (k : St → Option R) (d : Nat) (a : IX) : Option R := match evX s.env a with
  | some (.ptr false b off) => match nthX s.lh b with
   | some cs => ob cs[off]? fun v => setK s.lh b (spliceAt cs off [degr1 v]) fun lh => putK s.env d v fun e => k ⟨e, lh, s.gh⟩
   | none => none
  | some (.ptr true b off) => ob (ghCells s.gh b) fun cs => ob cs[off]? fun v => putK s.env d v fun e => k ⟨e, s.lh, s.gh.set b (.cells (spliceAt cs off [degr1 v]))⟩
  | _ => none
noncomputable def q89 (cf : CallF) (an : Tr) (s : St) (k : St → Option R) (kk : Nat) (a : IX) (x : IX) : Option R := match evX s.env a with
  | some p => tkX s.env x fun v e => arK v (cellsX (shX an x) v fun cs => stoX ⟨e, s.lh, s.gh⟩ p kk cs k)
  | none => none
noncomputable def q8a (cf : CallF) (an : Tr) (s : St) (k : St → Option R) (kk : Nat) (a : IX) (x : IX) : Option R := match evX s.env a, evX s.env x with
  | some p, some v => arK v (cellsX (shX an x) v fun cs => stoX s p kk cs k)
  | _, _ => none
noncomputable def qda (cf : CallF) (an : Tr) (s : St) (k : St → Option R) (d : Nat) (x : IX) : Option R := match evX s.env x with
  | some p => gd (isPtr p) (setX an s d p k)
  | none => none
noncomputable def qdb (cf : CallF) (an : Tr) (s : St) (k : St → Option R) (d : Nat) (op : BinOp) (x : IX) (y : IX) : Option R := match evX s.env x, evX s.env y with
  | some a, some b => binX op a b fun v => setX an s d v k
  | _, _ => none
noncomputable def qdc (cf : CallF) (an : Tr) (s : St) (k : St → Option R) (d : Nat) (neg : Bool) (x : IX) (y : IX) : Option R := match evX s.env x, evX s.env y with
  | some a, some b => unB a fun a => unB b fun b => putS s d (.bool (match neg with | true => a != b | false => a == b)) k
  | _, _ => none
noncomputable def qdd (cf : CallF) (an : Tr) (s : St) (k : St → Option R) (d : Nat) (neg : Bool) (x : IX) : Option R := match evX s.env x with
  | some v => nilB v fun b => putS s d (.bool (match neg with | true => !b | false => b)) k
  | none => none
noncomputable def qde (cf : CallF) (an : Tr) (s : St) (k : St → Option R) (d : Nat) (op : UnOp) (x : IX) : Option R := match evX s.env x with
  | some a => unX op a fun v => setX an s d v k
  | none => none
noncomputable def qdf (cf : CallF) (an : Tr) (s : St) (k : St → Option R) (d : Nat) (f : Nat) (caps : List IX) : Option R := evXs s.env caps fun vs => allK vs (putS s d (.fn f vs) k)
noncomputable def qdg (cf : CallF) (an : Tr) (s : St) (k : St → Option R) (d : Nat) : Option R := putK s.env d (.mp s.gh.length) fun e => k ⟨e, s.lh, s.gh ++ [.map []]⟩
noncomputable def qdh (cf : CallF) (an : Tr) (s : St) (k : St → Option R) (d : Nat) (g : Bool) (z : Nat) (bytes : Nat) (zero : PV) (l : IX) : Option R := match evX s.env l with
  | some v => anyI v fun n => gd (mkOk n bytes z zero) (match g with
   | true => putK s.env d (.bs true s.gh.length 0 n.toNat z) fun e => k ⟨e, s.lh, s.gh ++ [.cells ((List.replicate n.toNat zero).flatMap PV.cells)]⟩
   | false => gd (isFlat zero) (putK s.env d (.sl true z (List.replicate n.toNat zero)) fun e => k ⟨e, s.lh, s.gh⟩))
  | none => none
noncomputable def qdi (cf : CallF) (an : Tr) (s : St) (k : St → Option R) (d : Nat) (z : Nat) (x : IX) (lo : Option IX) (hi : Option IX) : Option R := match evX s.env x with
  | some v => boX s.env lo fun lo => boX s.env hi fun hi => slX z v lo hi fun w => setX an s d w k
  | none => none
noncomputable def qdj (cf : CallF) (an : Tr) (s : St) (k : St → Option R) (d : Nat) (x : IX) (off : Nat) : Option R := match evX s.env x with
  | some p => faX p off fun p => setX an s d p k
  | none => none
noncomputable def qdk (cf : CallF) (an : Tr) (s : St) (k : St → Option R) (d : Nat) (z : Nat) (arr : Option Nat) (x : IX) (i : IX) : Option R := match evX s.env i, evX s.env x with
  | some i, some v => anyI i fun i => idX z arr v i fun p => setX an s d p k
  | _, _ => none
noncomputable def qdl (cf : CallF) (an : Tr) (s : St) (k : St → Option R) (d : Nat) (z : Nat) (arr : Nat) (agg : Bool) (x : IX) (i : IX) : Option R := match evX s.env i, evX s.env x with
  | some i, some v => anyI i fun i => ixX v z arr agg i fun v => setX an s d v k
  | _, _ => none
noncomputable def qdm (cf : CallF) (an : Tr) (s : St) (k : St → Option R) (d : Nat) (kn : Nat) (m : IX) (kx : IX) (ok : Bool) (zero : PV) : Option R := match evX s.env m, evX s.env kx with
  | some m, some kv => lkX s.gh kn m kv fun r => setX an s d (match ok with | true => .tup [r.getD (degr zero), .bool r.isSome] | false => r.getD (degr zero)) k
  | _, _ => none
noncomputable def qdn (cf : CallF) (an : Tr) (s : St) (k : St → Option R) (kn : Nat) (m : IX) (kx : IX) (x : IX) : Option R := match evX s.env m, evX s.env kx, evX s.env x with
  | some m, some kv, some v => muX s.gh kn m kv v fun gh => k ⟨s.env, s.lh, gh⟩
  | _, _, _ => none
noncomputable def qdo (cf : CallF) (an : Tr) (s : St) (k : St → Option R) (d : Option Nat) (q : Bool) (f : Nat) (xs : List IX) : Option R := evXs s.env xs fun vs => allK vs (callR s.gh q (cf f vs s.gh) fun r gh => setO an ⟨s.env, s.lh, gh⟩ d r k)
noncomputable def qdp (cf : CallF) (an : Tr) (s : St) (k : St → Option R) (d : Option Nat) (q : Bool) (fv : IX) (xs : List IX) : Option R := match evX s.env fv with
  | some fv => evXs s.env xs fun vs => fnX fv fun f caps => allK vs (allK caps (callR s.gh q (cf f (vs ++ caps) s.gh) fun r gh => setO an ⟨s.env, s.lh, gh⟩ d r k))
  | none => none
noncomputable def q49 (cf : CallF) (an : Tr) (s : St) (k : St → Option R) (d : Nat) (x : IX) : Option R := match evX s.env x with
  | some v => lenS v fun n => putS s d (.int .i64 n) k
  | none => none
noncomputable def q4a (cf : CallF) (an : Tr) (s : St) (k : St → Option R) (d : Nat) (x : IX) : Option R := match evX s.env x with
  | some v => unS v fun b => putS s d (.int .i64 b.size) k
  | none => none
noncomputable def q4b (cf : CallF) (an : Tr) (s : St) (k : St → Option R) (d : Nat) (x : IX) : Option R := match evX s.env x with
  | some v => lenM s.gh v fun n => putS s d (.int .i64 n) k
  | none => none
noncomputable def qdq (cf : CallF) (an : Tr) (s : St) (k : St → Option R) (d : Nat) (z : Nat) (bytes : Nat) (sx : IX) (x : IX) : Option R := match evX s.env x with
  | some w => tkX s.env sx fun v e => apX z bytes v w fun ys => putK e d (.sl true z ys) fun e => k ⟨e, s.lh, s.gh⟩
  | none => none
noncomputable def qdr (cf : CallF) (an : Tr) (s : St) (k : St → Option R) (d : Nat) (x : IX) (i : Nat) : Option R := match evX s.env x with
  | some v => exX v i fun v => setX an s d v k
  | none => none
def skK (gh : List GObj) (v w : PV) (f : List GObj → Option R) : Option R :=
 match v with
 | .pstk b gen i => ob (ghStk gh b) fun p => gd (decide (p.1 = gen ∧ i < p.2.length ∧ isFlat w = true)) (f (gh.set b (.stk p.1 (p.2.set i w))))
 | _ => none
def ckK (gh : List GObj) (v : PV) (f : List GObj → Option R) : Option R :=
 match v with
 | .sub b gen off n => ob (ghStk gh b) fun p => gd (decide (p.1 = gen ∧ off + n ≤ p.2.length)) (f (gh.set b (.stk p.1 (p.2.take off ++ List.replicate n (.int .i64 0) ++ p.2.drop (off + n)))))
 | _ => none
def aeX (gh : List GObj) (bytes : Nat) (v w : PV) (f : List PV → Option R) : Option R :=
 match v with
 | .sl o z1 xs => ob (elsOf gh w) fun ys => gd (decide (o = true ∧ z1 = 1 ∧ ys.all isFlat = true ∧ (xs.length + ys.length) * bytes ≤ maxBytes)) (f (xs ++ ys))
 | _ => none
noncomputable def kbX (gh gh' : List GObj) (v : PV) (x : Option R) : Option R :=
 open Classical in
 match v with
 | .ptr true b _ => if b < gh.length ∧ gh'[b]? = gh[b]? then x else none
 | .pstk b _ _ => if b < gh.length ∧ gh'[b]? = gh[b]? then x else none
 | .stk b _ _ => if b < gh.length ∧ gh'[b]? = gh[b]? then x else none
 | _ => none
noncomputable def kpX (e : List (Nat × PV)) (gh gh' : List GObj) : List Nat → Option R → Option R
 | [], x => x
 | n :: l, x => match getX e n with
  | some v => kbX gh gh' v (kpX e gh gh' l x)
  | none => none
def lbX (gh : List GObj) (agg : Bool) (k : Nat) (p q : PV) (f : PV → Option R) : Option R :=
 match p, q with
 | .ptr true b off, .ptr true b' _ => gd (decide (b = b')) (ob (ghCells gh b) fun cs => ob (grab agg k off cs) fun v => f (degr v))
 | _, _ => none
def lkbX (gh : List GObj) (p q : PV) (f : PV → Option R) : Option R :=
 match p, q with
 | .pstk b gen i, .stk b' _ _ => gd (decide (b = b')) (ob (stkGet gh b gen i) f)
 | _, _ => none
def ltbX (gh : List GObj) (p q : PV) (o2 : Nat) (f : PV → List GObj → Option R) : Option R :=
 match p, q with
 | .ptr true b off, .ptr true b' o => gd (decide (b = b' ∧ off = o + o2)) (ob (ghCells gh b) fun cs => ob cs[off]? fun v => f v (gh.set b (.cells (spliceAt cs off [degr1 v]))))
 | _, _ => none
def rtP (c : List GObj → Option (PV × List GObj)) (gh : List GObj) (b off : Nat) : Prop :=
 ∃ g1 g2 r1 r2, setRt gh b off true = some g1 ∧ setRt gh b off false = some g2 ∧ c g1 = some r1 ∧ c g2 = some r2 ∧ r1.1 = r2.1 ∧ r1.2[b]? = g1[b]? ∧ r2.2[b]? = g2[b]? ∧ setRt r1.2 b off false = some r2.2 ∧ setRt r2.2 b off true = some r1.2
noncomputable def rtK (c : List GObj → Option (PV × List GObj)) (gh : List GObj) (v : PV) (off : Nat) (x : Option R) : Option R :=
 open Classical in
 match v with
 | .ptr true b o => if rtP c gh b (o + off) then x else none
 | _ => none
noncomputable def opX (cf : CallF) (an : Tr) (s : St) (o : IOp) (k : St → Option R) : Option R :=
 match o with
 | .mv d x => qd1 cf an s k d x
 | .tk d n => qd2 cf an s k d n
 | .pick d c x y => qd3 cf an s k d c x y
 | .box d g true x => q87 cf an s k d g x
 | .box d g false x => q88 cf an s k d g x
 | .alloc d g z => qd4 cf an s k d g z
 | .build d z ps => qd5 cf an s k d z ps
 | .buildT d z ps => qd6 cf an s k d z ps
 | .buildSl d z els => qd7 cf an s k d z els
 | .load d agg kk a => qd8 cf an s k d agg kk a
 | .loadT d a => qd9 cf an s k d a
 | .store true kk a x => q89 cf an s k kk a x
 | .store false kk a x => q8a cf an s k kk a x
 | .nilc d x => qda cf an s k d x
 | .bin d op x y => qdb cf an s k d op x y
 | .eqb d neg x y => qdc cf an s k d neg x y
 | .eqn d neg x => qdd cf an s k d neg x
 | .un d op x => qde cf an s k d op x
 | .mkfn d f caps => qdf cf an s k d f caps
 | .mkmap d => qdg cf an s k d
 | .mksl d g z bytes zero l => qdh cf an s k d g z bytes zero l
 | .slice d z x lo hi => qdi cf an s k d z x lo hi
 | .faddr d x off => qdj cf an s k d x off
 | .iaddr d z arr x i => qdk cf an s k d z arr x i
 | .index d z arr agg x i => qdl cf an s k d z arr agg x i
 | .lookup d kn m kx ok zero => qdm cf an s k d kn m kx ok zero
 | .mupd kn m kx x => qdn cf an s k kn m kx x
 | .call d q f xs => qdo cf an s k d q f xs
 | .callv d q fv xs => qdp cf an s k d q fv xs
 | .len d 0 x => q49 cf an s k d x
 | .len d 1 x => q4a cf an s k d x
 | .len d 2 x => q4b cf an s k d x
 | .len _ _ _ => none
 | .append d z bytes sx x => qdq cf an s k d z bytes sx x
 | .extract d x i => qdr cf an s k d x i
 | _ => none
def skX (s : St) (o : IOp) (k : St → Option R) : Option R :=
 match opDst o with
 | some d => putS s d .und k
 | none => k s
noncomputable def opsX (cf : CallF) (an : Tr) : List IOpG → St → (St → Option R) → Option R
 | [], s, k => k s
 | ⟨o, none⟩ :: l, s, k => opX cf an s o fun s => opsX cf an l s k
 | ⟨o, some (g, want)⟩ :: l, s, k => match getX s.env g with
  | some (.bool b) => br g b
    (putS s g (.bool true) fun s => match want with
     | true => opX cf an s o fun s => opsX cf an l s k
     | false => skX s o fun s => opsX cf an l s k)
    (putS s g (.bool false) fun s => match want with
     | false => opX cf an s o fun s => opsX cf an l s k
     | true => skX s o fun s => opsX cf an l s k)
  | some .und => skX s o fun s => opsX cf an l s k
  | _ => none
def keepX (nl : Nat) : List Nat → List (Nat × PV) → (List (Nat × PV) → Option R) → Option R
 | [], _, f => f []
 | t :: l, e, f => match getX e t with
  | some v => stK nl v (keepX nl l e fun e' => f ((t, v) :: e'))
  | none => keepX nl l e f
def po (ks : List Nat) (nl : Nat) (e : IExit) (s : St) (k : IExit → St → Option R) : Option R :=
 match e with
 | .normal => keepX nl ks s.env fun e => takeK nl s.lh fun lh => k .normal ⟨e, lh, s.gh⟩
 | e => k e s
def tagX : IX → Nat
 | .t n => n
 | _ => 0
noncomputable def runX (pg : Prg) (an : Tr) : ICode → St → (IExit → St → Option R) → Option R
 | .skip, s, k => k .normal s
 | .region ops _, s, k => opsX (callL pg) an ops s (k .normal)
 | .seq a b, s, k => runX pg an a s fun e s' => nx e s' k fun s' => runX pg an b s' k
 | .cond x a b, s, k => match evX s.env x with
  | some v => unB v fun c => br (tagX x) c (runX pg an a s k) (runX pg an b s k)
  | none => none
 | .block id a, s, k => runX pg an a s fun e s' => bk id e s' k
 | .loop a, s, k => kR (runL pg (.loop a) s) k
 | .exit i, s, k => k (.exit i) s
 | .ret, s, k => k .ret s
 | .post a ks nl, s, k => runX pg an a s fun e s' => po ks nl e s' k
 | .cut a, s, k => kR (runL pg a s) k
 | .bad, _, _ => none
end
abbrev DR := Option (IExit × St)
abbrev tI (k : Nat) (l r : Tr) : Tr := .node k (.ce (.int .i64)) l r
abbrev tB (k : Nat) (l r : Tr) : Tr := .node k (.ce (.bool)) l r
abbrev tO (k : Nat) (l r : Tr) : Tr := .node k (.ce (.one)) l r
abbrev tG (k : Nat) (l r : Tr) : Tr := .node k (.ce (.gp)) l r
abbrev uI (k : Nat) : Tr := .node k (.ce (.int .i64)) .nil .nil
abbrev uB (k : Nat) : Tr := .node k (.ce (.bool)) .nil .nil
abbrev uO (k : Nat) : Tr := .node k (.ce (.one)) .nil .nil
abbrev uG (k : Nat) : Tr := .node k (.ce (.gp)) .nil .nil
end Go.Lw
end
