/-
  The texts that the proof stands on, part 3.
-/
import Derived.Test.YtmodipglnngghabDoorCnfHoldsB
set_option linter.unusedVariables false
set_option linter.unusedSimpArgs false
set_option linter.unnecessarySimpa false

/-! Library functions, told as they are. -/
section
namespace Go.Lw
open Go
end Go.Lw
end

/-! The code of package Cnf for the small machine. Written by program (gen.py). -/
section
set_option maxRecDepth 10000
namespace Go.Lw
open Go
/- 16: latchwork/cnf.Of -/
def q3r:ICode:=
 (.post (.seq (.region [oW 36 35 34] false)
 (.seq (.cond 36 .skip
 (.exit 0))
 (.seq (.block 1 (sR [oA 37 33 35,oL 38 37,oM 9 38] [4,7,9,33,34,35] 2
 (pR [oM 39 7,oM 40 9,oX 41 54 [39,40,(.c (I 0))]] [4,7,33,34,35] 2)))
 (pR [oP 42 35 1,oM 35 42] [4,7,33,34,35] 2)))) [4,7,33,34,35] 2)
def q21:ICode:=
 (.post (.block 0 (.loop q3r)) [4,7] 2)
def q22:ICode:=
 (sR [oM 43 7,oC 44 43,oF 45 44 0,oN (.load 46 true 2 45),oY 47 55 [46],oG 48 47 0,oG 49 47 1,oN (.store true 2 4 48),oM 5 49] [4,5] 2
 .ret)
def q3s:ICode:=
 (sR [oB 2 0,oN (.alloc 4 false (.agg [I 0,.sl true 1 []])),oK 5 0] [1,2,4] 2
 (.seq (sR [oN (.load 10 true 2 2),oY 11 6 [10],oM 6 11] [1,2,4,6] 2
 (sR [oM 12 6,oN (.bin 13 .neq 12 (.c (I 0)))] [1,2,4,6,13] 2
 (.cond 13 (sR [oN (.build 14 [I 0,.sl true 1 []] []),oM 15 6,oN (.store true 2 4 14),oM 5 15] [4,5] 2
 .ret)
 .skip)))
 (.seq (sR [oN (.load 16 true 2 2),oM 17 1,oY 18 47 [16,17],oN (.un 19 .not 18)] [1,2,4,19] 2
 (.cond 19 (sR [oN (.build 20 [I 0,.sl true 1 []] []),oN (.store true 2 4 20),oK 5 5] [4,5] 2
 .ret)
 .skip))
 (sR [oF 21 2 0,oL 22 21,oF 23 2 1,oL 24 23,oD 25 24,oN (.bin 26 .add 22 25),oN (.buildT 27 [I 0,.sl true 1 []] [(0,1,26)]),oN (.buildT 28 [I 0,.sl true 1 []] [(0,2,27)]),
 oN (.box 29 true true 28),oM 7 29] [1,2,4,7] 2
 (sR [oM 30 7,oN (.load 31 true 2 2),oX 32 53 [30,31,(.c (I 0))]] [1,4,7] 2
 (.seq (sR [oM 33 1,oD 34 33,oK 35 0] [4,7,33,34,35] 2
 (.cut q21))
 (.cut q22)))))))
def qf:IFunc:={np:=2,res:=[.cell 4 true 2,.t 5],own:=false,trunc:=true,body:=q3s }
/- 32: latchwork/cnf.Holds -/
def q3t:ICode:=
 (sR [oB 2 0,oN (.mv 4 (.c (.bool false))),oK 5 0] [1,2] 1
 (.seq (sR [oN (.load 7 true 2 2),oY 8 59 [7],oM 6 8] [1,2,6] 1
 (sR [oM 9 6,oN (.bin 10 .neq 9 (.c (I 0)))] [1,2,6,10] 1
 (.cond 10 (sR [oM 11 6,oN (.mv 4 (.c (.bool false))),oM 5 11] [4,5] 0
 .ret)
 .skip)))
 (.seq (sR [oM 12 1,oD 13 12,oF 14 2 0,oL 15 14,oN (.bin 16 .neq 13 15)] [1,2,16] 1
 (.cond 16 (sR [oN (.mv 4 (.c (.bool false))),oK 5 1] [4,5] 0
 .ret)
 .skip))
 (sR [oN (.load 17 true 2 2),oM 18 1,oY 19 70 [17,18],oM 4 19,oK 5 0] [4,5] 0
 .ret))))
def qg:IFunc:={np:=2,res:=[.t 4,.t 5],own:=false,trunc:=true,body:=q3t }
/- 53: (*latchwork/cnf.Maker).Ands -/
def q3u:ICode:=
 (.post (.seq (.region [oW 15 14 13] false)
 (.seq (.cond 15 .skip
 (.exit 0))
 (.seq (.block 1 (sR [oM 16 14,oN (.iaddr 17 2 none 12 14),oN (.load 18 true 2 17),oN (.alloc 7 false (.agg [I 0,I 0])),oM 6 16,oN (.store false 2 7 18)] [0,2,4,6,7,12,13,14] 2
 (sR [oF 19 4 0,oL 20 19,oN (.bin 21 .add (.c (I 1)) 20),oM 22 6,oN (.bin 23 .add 21 22),oM 24 2,oN (.bin 25 .add 23 24),oM 8 25] [0,2,4,7,8,12,13,14] 2
 (sQ [oN (.iaddr 26 1 (some 2) 7 (.c (I 0))),oL 27 26,oM 28 2,oY 29 90 [27,28],oN (.iaddr 30 1 (some 2) 7 (.c (I 1))),oL 31 30,oM 32 2,oY 33 90 [31,32],oM 9 29,oM 10 33] [0,2,4,8,9,10,12,13,14] 1
 (sR [oM 34 0,oM 35 8,oN (.un 36 .neg 35),oM 37 9,oN (.buildSl 38 1 [36,37]),oX 39 91 [34,38]] [0,2,4,8,9,10,12,13,14] 1
 (sR [oM 40 0,oM 41 8,oN (.un 42 .neg 41),oM 43 10,oN (.buildSl 44 1 [42,43]),oX 45 91 [40,44]] [0,2,4,8,9,10,12,13,14] 1
 (pR [oM 46 0,oM 47 8,oM 48 9,oN (.un 49 .neg 48),oM 50 10,oN (.un 51 .neg 50),oN (.buildSl 52 1 [47,49,51]),oX 53 91 [46,52]] [0,2,4,12,13,14] 1)))))))
 (pR [oP 54 14 1,oM 14 54] [0,2,4,12,13,14] 1)))) [0,2,4,12,13,14] 1)
def q23:ICode:=
 (.post (.block 0 (.loop q3u)) [] 0)
def q3v:ICode:=
 (sR [oB 4 1] [0,2,4] 1
 (sR [oF 11 4 1,oL 12 11,oD 13 12,oK 14 0] [0,2,4,12,13,14] 1
 (.cut q23)))
def q24:IFunc:={np:=3,res:=[],own:=false,trunc:=false,body:=q3v }
/- 54: (*latchwork/cnf.Maker).Must -/
def q25:ICode:=
 (.seq (.region [oM 6 1] false)
 (.block 0 (sR [oE 14 6 1,oM 13 14] [0,1,2,6,13] 0
 (.cond 13 (.post .skip [] 0)
 (.post (sR [oE 16 6 0,oM 15 16] [0,1,2,15] 0
 (.cond 15 (.post (pR [oM 17 0,oN (.call (some 18) false 91 [17,(.c (.sl true 1 []))])] [] 0) [] 0)
 (.post (pR [oM 7 0,oM 8 1,oM 9 2,oY 10 90 [8,9],oN (.buildSl 11 1 [10]),oX 12 91 [7,11]] [] 0) [] 0))) [] 0)))))
def q26:IFunc:={np:=3,res:=[],own:=false,trunc:=false,body:=q25 }
/- 55: latchwork/cnf.Done -/
def q3w:ICode:=
 (sR [oB 1 0,oN (.alloc 2 false (.agg [I 0,.sl true 1 []])),oK 3 0] [1,2] 2
 (.seq (sR [oN (.load 5 true 2 1),oY 6 59 [5],oM 4 6] [1,2,4] 2
 (sR [oM 7 4,oN (.bin 8 .neq 7 (.c (I 0)))] [1,2,4,8] 2
 (.cond 8 (sR [oN (.build 9 [I 0,.sl true 1 []] []),oM 10 4,oN (.store true 2 2 9),oM 3 10] [2,3] 2
 .ret)
 .skip)))
 (sR [oN (.load 11 true 2 1),oN (.store true 2 2 11),oK 3 0] [2,3] 2
 .ret)))
def qr:IFunc:={np:=1,res:=[.cell 2 true 2,.t 3],own:=false,trunc:=true,body:=q3w }
/- 59: latchwork/cnf.Check -/
def q3x:ICode:=
 (.post (.seq (.region [oW 22 21 20] false)
 (.seq (.cond 22 .skip
 (.exit 0))
 (.seq (.block 1 (sR [oA 23 19 21,oL 24 23,oT 4 24] [1,4,19,20,21] 1
 (sR [oF 25 1 0,oL 26 25,oM 27 4,oY 28 94 [26,27],oM 5 28] [1,5,19,20,21] 1
 (sR [oM 29 5,oN (.bin 30 .neq 29 (.c (I 0)))] [1,5,19,20,21,30] 1
 (.cond 30 (sR [oM 31 5,oM 2 31] [2] 0
 .ret)
 .skip)))))
 (pR [oP 32 21 1,oM 21 32] [1,19,20,21] 1)))) [1,19,20,21] 1)
def q27:ICode:=
 (.post (.block 0 (.loop q3x)) [] 0)
def q28:ICode:=
 (.seq (.region [oK 2 0] false)
 .ret)
def q3y:ICode:=
 (sR [oB 1 0,oK 2 0] [1] 1
 (.seq (sR [
 oF 6 1 0,
 oL 7 6,
 oN (.bin 8 .lss 7 (.c (I 0))),
 oM 9 8,
  ⟨.faddr 10 1 0,some (9,false)⟩,
  ⟨.load 11 false 1 10,some (9,false)⟩,
  ⟨.bin 12 .gtr 11 (.c (I 200000)),some (9,false)⟩,
 oN (.pick 13 9 (.c (.bool true)) 12)] [1,13] 1
 (.cond 13 (sR [oK 2 3] [2] 0
 .ret)
 .skip))
 (.seq (sR [oF 14 1 1,oL 15 14,oD 16 15,oN (.bin 17 .gtr 16 (.c (I 800000)))] [1,17] 1
 (.cond 17 (sR [oK 2 2] [2] 0
 .ret)
 .skip))
 (.seq (sR [oF 18 1 1,oL 19 18,oD 20 19,oK 21 0] [1,19,20,21] 1
 (.cut q27))
 (.cut q28)))))
def qa:IFunc:={np:=1,res:=[.t 2],own:=false,trunc:=true,body:=q3y }
/- 70: latchwork/cnf.Hold -/
def q3z:ICode:=
 (sR [oB 2 0,oN (.box 3 true false 1),oN (.mv 4 (.c (.bool false)))] [2,3] 1
 (sR [oN (.mkfn 6 98 [3]),oN (.alloc 5 true (.nilf)),oN (.store false 1 5 6)] [2,5] 1
 (sR [oF 7 2 1,oL 8 7,oN (.mkfn 9 99 [5]),oY 10 100 [8,9],oN (.un 11 .not 10),oM 4 11] [4] 0
 .ret)))
def q29:IFunc:={np:=2,res:=[.t 4],own:=false,trunc:=true,body:=q3z }
/- 90: latchwork/cnf.Number -/
def q40:ICode:=
 (sR [oK 4 0] [0,1] 0
 (.seq (sR [oM 5 0,oN (.bin 6 .rem 5 (.c (I 2))),oE 7 6 1] [0,1,7] 0
 (.cond 7 (sR [oM 8 0,oN (.bin 9 .quo 8 (.c (I 2))),oM 10 1,oN (.bin 11 .add 9 10),oN (.un 12 .neg 11),oM 4 12] [4] 0
 .ret)
 .skip))
 (sR [oM 13 0,oN (.bin 14 .quo 13 (.c (I 2))),oM 15 1,oN (.bin 16 .add 14 15),oM 4 16] [4] 0
 .ret)))
def qt:IFunc:={np:=2,res:=[.t 4],own:=false,trunc:=true,body:=q40 }
/- 91: (*latchwork/cnf.Maker).Add -/
def q41:ICode:=
 (pR [oM 4 0,oM 5 0,oC 6 5,oF 7 6 0,oF 8 7 1,oN (.loadT 9 8),oM 10 1,oN (.buildSl 11 1 [10]),oN (.append 12 1 24 9 11),oC 13 4,oF 14 13 0,oF 15 14 1,oN (.store true 1 15 12)] [] 0)
def q2a:IFunc:={np:=2,res:=[],own:=false,trunc:=false,body:=q41 }
/- 94: latchwork/cnf.one -/
def q42:ICode:=
 (sR [oN (.box 2 true false 0),oK 4 0] [1,2] 0
 (.seq (sR [oM 5 1,oD 6 5,oN (.bin 7 .gtr 6 (.c (I 200)))] [1,2,7] 0
 (.cond 7 (sR [oK 4 2] [4] 0
 .ret)
 .skip))
 (.seq (sR [oM 8 1,oN (.mkfn 9 113 [2]),oY 10 86 [8,9]] [10] 0
 (.cond 10 (sR [oK 4 5] [4] 0
 .ret)
 .skip))
 (sR [oK 4 0] [4] 0
 .ret))))
def qh:IFunc:={np:=2,res:=[.t 4],own:=false,trunc:=true,body:=q42 }
/- 98: latchwork/cnf.Hold$1 -/
def q43:ICode:=
 (sR [oN (.mv 3 (.c (.bool false)))] [0,1] 0
 (sQ [oL 4 1,oM 5 0,oY 6 116 [5],oS 7 6 1,oA 8 4 7,oL 9 8,oM 10 0,oN (.bin 11 .gtr 10 (.c (I 0))),oN (.eqb 12 false 9 11),oM 3 12] [3] 0
 .ret))
def q2b:IFunc:={np:=2,res:=[.t 3],own:=false,trunc:=true,body:=q43 }
/- 99: latchwork/cnf.Hold$2 -/
def q44:ICode:=
 (sR [oN (.mv 3 (.c (.bool false)))] [0,1] 0
 (sR [oM 4 0,oL 5 1,oY 6 86 [4,5],oN (.un 7 .not 6),oM 3 7] [3] 0
 .ret))
def q2c:IFunc:={np:=2,res:=[.t 3],own:=false,trunc:=true,body:=q44 }
/- 113: latchwork/cnf.one$1 -/
def q45:ICode:=
 (sR [oN (.mv 3 (.c (.bool false)))] [0,1] 0
 (sR [
 oM 4 0,
 oE 5 4 0,
 oM 6 5,
  ⟨.mv 7 0,some (6,false)⟩,
  ⟨.load 8 false 1 1,some (6,false)⟩,
  ⟨.bin 9 .gtr 7 8,some (6,false)⟩,
 oN (.pick 10 6 (.c (.bool true)) 9),
 oM 11 10,
  ⟨.mv 12 0,some (11,false)⟩,
  ⟨.load 13 false 1 1,some (11,false)⟩,
  ⟨.un 14 .neg 13,some (11,false)⟩,
  ⟨.bin 15 .lss 12 14,some (11,false)⟩,
 oN (.pick 16 11 (.c (.bool true)) 15),
 oM 3 16] [3] 0
 .ret))
def qi:IFunc:={np:=2,res:=[.t 3],own:=false,trunc:=true,body:=q45 }
/- 116: latchwork/cnf.abs -/
def q46:ICode:=
 (sR [oK 2 0] [0] 0
 (sR [oM 3 0,oM 4 0,oN (.un 5 .neg 4),oN (.maxi 6 [3,5]),oM 2 6] [2] 0
 .ret))
def q2d:IFunc:={np:=1,res:=[.t 2],own:=false,trunc:=true,body:=q46 }
/- 153: latchwork/cnf.Clause -/
/- 384: latchwork/cnf.Print -/
def q47:ICode:=
 (.post (.seq (.region [oW 37 36 35] false)
 (.seq (.cond 37 .skip
 (.exit 2))
 (.seq (.block 3 (sR [oA 38 34 36,oL 39 38,oM 9 39] [5,9,28,29,30,34,35,36] 0
 (pR [oM 40 9,oY 41 260 [40],oN (.bin 42 .add 41 (.c (.str ⟨#[32]⟩))),oX 43 357 [5,42]] [5,28,29,30,34,35,36] 0)))
 (pR [oP 44 36 1,oM 36 44] [5,28,29,30,34,35,36] 0)))) [5,28,29,30,34,35,36] 0)
def q2e:ICode:=
 (.post (.block 2 (.loop q47)) [5,28,29,30] 0)
def q1b:ICode:=
 (pR [oN (.call (some 45) false 357 [5,(.c (.str ⟨#[48,10]⟩))])] [5,28,29,30] 0)
def qu:ICode:=
 (pR [oP 46 30 1,oM 30 46] [5,28,29,30] 0)
def q48:ICode:=
 (.post (.seq (.region [oW 31 30 29] false)
 (.seq (.cond 31 .skip
 (.exit 0))
 (.seq (.block 1 (sR [oA 32 28 30,oL 33 32,oT 7 33] [5,7,28,29,30] 0
 (.seq (sR [oM 34 7,oD 35 34,oK 36 0] [5,28,29,30,34,35,36] 0
 (.cut q2e))
 (.cut q1b))))
 (.cut qu)))) [5,28,29,30] 0)
def q2f:ICode:=
 (.post (.block 0 (.loop q48)) [5] 0)
def q1c:ICode:=
 (sR [oX 47 359 [5],oM 2 47,oK 3 0] [2,3] 0
 .ret)
def q49:ICode:=
 (sR [oB 1 0,oN (.mv 2 (.c (.str ByteArray.empty))),oK 3 0] [1] 1
 (.seq (sR [oN (.load 10 true 2 1),oY 11 59 [10],oM 4 11] [1,4] 1
 (sR [oM 12 4,oN (.bin 13 .neq 12 (.c (I 0)))] [1,4,13] 1
 (.cond 13 (sR [oM 14 4,oN (.mv 2 (.c (.str ByteArray.empty))),oM 3 14] [2,3] 0
 .ret)
 .skip)))
 (sR [oN (.mkbld 5)] [1,5] 1
 (sQ [oF 15 1 0,oL 16 15,oY 17 260 [16],oN (.bin 18 .add (.c (.str ⟨#[112,32,99,110,102,32]⟩)) 17),oN (.bin 19 .add 18 (.c (.str ⟨#[32]⟩))),oF 20 1 1,oL 21 20,oD 22 21,
 oY 23 260 [22],oN (.bin 24 .add 19 23),oN (.bin 25 .add 24 (.c (.str ⟨#[10]⟩))),oX 26 357 [5,25]] [1,5] 1
 (.seq (sR [oF 27 1 1,oL 28 27,oD 29 28,oK 30 0] [5,28,29,30] 0
 (.cut q2f))
 (.cut q1c))))))
def qv:IFunc:={np:=1,res:=[.t 2,.t 3],own:=false,trunc:=true,body:=q49 }
end Go.Lw
end

/-! The code of package Gates for the small machine. Written by program (gen.py). -/
section
set_option maxRecDepth 10000
namespace Go.Lw
open Go
/- 1: latchwork/gates.And -/
/- 6: latchwork/gates.Check -/
def q4a:ICode:=
 (.post (.seq (.region [oW 23 22 21] false)
 (.seq (.cond 23 .skip
 (.exit 0))
 (.seq (.block 1 (sR [oM 24 22,oN (.iaddr 25 2 none 20 22),oN (.load 26 true 2 25),oN (.alloc 5 false (.agg [I 0,I 0])),oM 4 24,oN (.store false 2 5 26)] [1,3,4,5,20,21,22] 2
 (.seq (sR [
 oN (.iaddr 27 1 (some 2) 5 (.c (I 0))),
 oL 28 27,
 oN (.iaddr 29 1 (some 2) 5 (.c (I 1))),
 oL 30 29,
 oN (.bin 31 .geq 28 30),
 oM 32 31,
  ⟨.iaddr 33 1 (some 2) 5 (.c (I 0)),some (32,false)⟩,
  ⟨.load 34 false 1 33,some (32,false)⟩,
  ⟨.bin 35 .lss 34 (.c (I 2)),some (32,false)⟩,
 oN (.pick 36 32 (.c (.bool true)) 35),
 oM 37 36,
  ⟨.iaddr 38 1 (some 2) 5 (.c (I 1)),some (37,false)⟩,
  ⟨.load 39 false 1 38,some (37,false)⟩,
  ⟨.bin 40 .quo 39 (.c (I 2)),some (37,false)⟩,
  ⟨.faddr 41 1 0,some (37,false)⟩,
  ⟨.load 42 false 1 41,some (37,false)⟩,
  ⟨.bin 43 .add (.c (I 1)) 42,some (37,false)⟩,
  ⟨.mv 44 4,some (37,false)⟩,
  ⟨.bin 45 .add 43 44,some (37,false)⟩,
  ⟨.bin 46 .geq 40 45,some (37,false)⟩,
 oN (.pick 47 37 (.c (.bool true)) 46),
 oM 48 47,
  ⟨.iaddr 49 1 (some 2) 5 (.c (I 0)),some (48,false)⟩,
  ⟨.load 50 false 1 49,some (48,false)⟩,
  ⟨.bin 51 .quo 50 (.c (I 2)),some (48,false)⟩,
  ⟨.iaddr 52 1 (some 2) 5 (.c (I 1)),some (48,false)⟩,
  ⟨.load 53 false 1 52,some (48,false)⟩,
  ⟨.bin 54 .quo 53 (.c (I 2)),some (48,false)⟩,
  ⟨.bin 55 .eql 51 54,some (48,false)⟩,
 oN (.pick 56 48 (.c (.bool true)) 55)] [1,3,5,20,21,22,56] 2
 (.cond 56 (sR [oK 2 4] [2] 0
 .ret)
 .skip))
 (pR [oM 57 3,oN (.load 58 true 2 5),oN (.mupd 2 57 58 (.c (.bool true)))] [1,3,20,21,22] 1))))
 (pR [oP 59 22 1,oM 22 59] [1,3,20,21,22] 1)))) [1,3,20,21,22] 1)
def q1d:ICode:=
 (.post (.block 0 (.loop q4a)) [1,3] 1)
def q2g:ICode:=
 (.seq (sR [oM 60 3,oN (.len 61 2 60),oF 62 1 1,oL 63 62,oD 64 63,oW 65 61 64] [65] 0
 (.cond 65 (sR [oK 2 6] [2] 0
 .ret)
 .skip))
 (sR [oK 2 0] [2] 0
 .ret))
def q4b:ICode:=
 (sR [oB 1 0,oK 2 0] [1] 1
 (.seq (sR [
 oF 6 1 0,
 oL 7 6,
 oN (.bin 8 .lss 7 (.c (I 0))),
 oM 9 8,
  ⟨.faddr 10 1 0,some (9,false)⟩,
  ⟨.load 11 false 1 10,some (9,false)⟩,
  ⟨.bin 12 .gtr 11 (.c (I 1000)),some (9,false)⟩,
 oN (.pick 13 9 (.c (.bool true)) 12)] [1,13] 1
 (.cond 13 (sR [oK 2 3] [2] 0
 .ret)
 .skip))
 (.seq (sR [oF 14 1 1,oL 15 14,oD 16 15,oN (.bin 17 .gtr 16 (.c (I 1000000)))] [1,17] 1
 (.cond 17 (sR [oK 2 2] [2] 0
 .ret)
 .skip))
 (sR [oN (.mkmap 18),oM 3 18] [1,3] 1
 (.seq (sR [oF 19 1 1,oL 20 19,oD 21 20,oK 22 0] [1,3,20,21,22] 1
 (.cut q1d))
 (.cut q2g))))))
def q4:IFunc:={np:=1,res:=[.t 2],own:=false,trunc:=true,body:=q4b }
/- 9: latchwork/gates.Eval -/
/- 47: latchwork/gates.Is -/
def q4c:ICode:=
 (sR [oN (.box 2 true false 0),oN (.mv 4 (.c (.bool false)))] [1,2] 0
 (sR [oM 5 1,oN (.mkfn 6 85 [2]),oY 7 86 [5,6],oN (.un 8 .not 7),oM 4 8] [4] 0
 .ret))
def q2h:IFunc:={np:=2,res:=[.t 4],own:=false,trunc:=true,body:=q4c }
/- 48: latchwork/gates.New -/
/- 49: (*latchwork/gates.Maker).And -/
/- 52: latchwork/gates.All -/
/- 85: latchwork/gates.Is$1 -/
def q4d:ICode:=
 (sR [oN (.mv 3 (.c (.bool false)))] [0,1] 0
 (sR [
 oM 4 0,
 oN (.bin 5 .lss 4 (.c (I 0))),
 oM 6 5,
  ⟨.mv 7 0,some (6,false)⟩,
  ⟨.load 8 true 2 1,some (6,false)⟩,
  ⟨.call (some 9) true 88 [8],some (6,false)⟩,
  ⟨.bin 10 .mul (.c (I 2)) 9,some (6,false)⟩,
  ⟨.bin 11 .geq 7 10,some (6,false)⟩,
 oN (.pick 12 6 (.c (.bool true)) 11),
 oM 3 12] [3] 0
 .ret))
def qw:IFunc:={np:=2,res:=[.t 3],own:=false,trunc:=true,body:=q4d }
/- 88: latchwork/gates.Nodes -/
def q4e:ICode:=
 (sR [oB 1 0,oK 2 0] [1] 1
 (sR [oF 3 1 0,oL 4 3,oN (.bin 5 .add (.c (I 1)) 4),oF 6 1 1,oL 7 6,oD 8 7,oN (.bin 9 .add 5 8),oM 2 9] [2] 0
 .ret))
def q2i:IFunc:={np:=1,res:=[.t 2],own:=false,trunc:=true,body:=q4e }
/- 89: latchwork/gates.All$1 -/
end Go.Lw
end

/-! The code of package Law for the small machine. Written by program (gen.py). -/
section
set_option maxRecDepth 10000
namespace Go.Lw
open Go
/- 0: latchwork/latchworklaw.GatesAnds -/
/- 5: latchwork/latchworklaw.gatesBegun -/
/- 8: latchwork/latchworklaw.GatesEvals -/
/- 13: latchwork/latchworklaw.sameBools -/
/- 14: latchwork/latchworklaw.GatesKeep -/
/- 15: latchwork/latchworklaw.CnfOfs -/
/- 18: latchwork/latchworklaw.cnfBegun -/
def q4f:ICode:=
 (sR [oN (.mv 0 (.c (.bool false)))] [] 0
 (sR [oN (.build 6 [I 0,I 0] [(0,1,(.c (I 2))),(1,1,(.c (I 4)))]),oN (.buildSl 7 2 [6]),oN (.buildT 8 [I 0,.sl true 2 []] [(0,1,(.c (I 2))),(1,1,7)]),
 oN (.buildSl 9 1 [(.c (I 6))]),oY 10 16 [8,9],oM 5 10,oG 11 5 0,oG 12 5 1,oN (.alloc 1 false (.agg [I 0,.sl true 1 []])),oN (.store true 2 1 11),oM 2 12] [1,2] 1
 (sR [oN (.load 14 true 2 1),oN (.buildSl 15 1 [(.c (.bool true)),(.c (.bool true)),(.c (.bool true))]),oY 16 32 [14,15],oM 13 16,oG 17 13 0,oG 18 13 1,oM 3 17,oM 4 18] [1,2,3,4] 1
 (sR [
 oM 19 2,
 oE 20 19 0,
 oM 21 20,
  ⟨.mv 22 4,some (21,true)⟩,
  ⟨.bin 23 .eql 22 (.c (I 0)),some (21,true)⟩,
 oN (.pick 24 21 23 (.c (.bool false))),
 oM 25 24,
  ⟨.mv 26 3,some (25,true)⟩,
 oN (.pick 27 25 26 (.c (.bool false))),
 oM 28 27,
  ⟨.faddr 29 1 0,some (28,true)⟩,
  ⟨.load 30 false 1 29,some (28,true)⟩,
  ⟨.bin 31 .eql 30 (.c (I 3)),some (28,true)⟩,
 oN (.pick 32 28 31 (.c (.bool false))),
 oM 33 32,
  ⟨.faddr 34 1 1,some (33,true)⟩,
  ⟨.load 35 false 1 34,some (33,true)⟩,
  ⟨.len 36 0 35,some (33,true)⟩,
  ⟨.bin 37 .eql 36 (.c (I 4)),some (33,true)⟩,
 oN (.pick 38 33 37 (.c (.bool false))),
 oM 39 38,
  ⟨.load 40 true 2 1,some (39,true)⟩,
  ⟨.call (some 41) true 59 [40],some (39,true)⟩,
  ⟨.bin 42 .eql 41 (.c (I 0)),some (39,true)⟩,
 oN (.pick 43 39 42 (.c (.bool false))),
 oM 0 43] [0] 0
 .ret))))
def q2j:IFunc:={np:=0,res:=[.t 0],own:=false,trunc:=true,body:=q4f }
/- 19: latchwork/latchworklaw.clausesAre -/
/- 20: latchwork/latchworklaw.WordFits -/
/- 21: latchwork/latchworklaw.wordBegun -/
/- 24: latchwork/latchworklaw.WordApplies -/
/- 29: latchwork/latchworklaw.WordTurns -/
/- 30: latchwork/latchworklaw.choose -/
/- 31: latchwork/latchworklaw.CnfTells -/
/- 33: latchwork/latchworklaw.ModelChecks -/
/- 37: latchwork/latchworklaw.modelBegun -/
/- 40: latchwork/latchworklaw.listIs -/
/- 41: latchwork/latchworklaw.ModelCones -/
/- 44: latchwork/latchworklaw.ModelAgain -/
/- 75: latchwork/latchworklaw.toggle -/
/- 122: latchwork/latchworklaw.EvalBegins -/
/- 126: latchwork/latchworklaw.evalBegun -/
/- 127: latchwork/latchworklaw.EvalValues -/
/- 144: latchwork/latchworklaw.ProofFollows -/
/- 147: latchwork/latchworklaw.proofBegun -/
/- 148: latchwork/latchworklaw.ProofChecks -/
/- 152: latchwork/latchworklaw.ProofSound -/
/- 165: latchwork/latchworklaw.searchBegun -/
/- 207: latchwork/latchworklaw.SearchIs -/
/- 210: latchwork/latchworklaw.BlastChecks -/
/- 211: latchwork/latchworklaw.blastBegun -/
/- 239: latchwork/latchworklaw.DecideTrue -/
/- 240: latchwork/latchworklaw.decideBegun -/
/- 241: latchwork/latchworklaw.exploreBegun -/
/- 242: latchwork/latchworklaw.traceBegun -/
/- 318: latchwork/latchworklaw.ExploreAlls -/
/- 320: latchwork/latchworklaw.small -/
/- 325: latchwork/latchworklaw.BlastTells -/
/- 328: latchwork/latchworklaw.UnrollClauses -/
/- 332: latchwork/latchworklaw.unrollBegun -/
/- 333: latchwork/latchworklaw.ProveDifferents -/
/- 335: latchwork/latchworklaw.proveBegun -/
/- 345: latchwork/latchworklaw.TextBack -/
/- 346: latchwork/latchworklaw.textBegun -/
/- 350: latchwork/latchworklaw.TracePrints -/
/- 367: latchwork/latchworklaw.TextPrints -/
/- 369: latchwork/latchworklaw.TextParses -/
/- 371: latchwork/latchworklaw.TraceParses -/
/- 374: latchwork/latchworklaw.TracePlays -/
/- 378: latchwork/latchworklaw.ExploreFinds -/
/- 383: latchwork/latchworklaw.CnfHolds -/
def qx:ICode:=
 (sR [
 oY 45 18 [],
 oM 46 45,
  ⟨.load 47 true 2 2,some (46,true)⟩,
  ⟨.call (some 48) true 59 [47],some (46,true)⟩,
  ⟨.mv 49 9,some (46,true)⟩,
  ⟨.bin 50 .eql 48 49,some (46,true)⟩,
 oN (.pick 51 46 50 (.c (.bool false))),
 oM 52 51,
  ⟨.mv 53 6,some (52,true)⟩,
  ⟨.mv 54 10,some (52,true)⟩,
  ⟨.bin 55 .eql 53 54,some (52,true)⟩,
 oN (.pick 56 52 55 (.c (.bool false))),
 oM 57 56,
  ⟨.mv 58 5,some (57,true)⟩,
  ⟨.mv 59 12,some (57,true)⟩,
  ⟨.eqb 60 false 58 59,some (57,true)⟩,
 oN (.pick 61 57 60 (.c (.bool false))),
 oM 62 61,
  ⟨.mv 63 8,some (62,true)⟩,
  ⟨.mv 64 9,some (62,true)⟩,
  ⟨.bin 65 .eql 63 64,some (62,true)⟩,
 oN (.pick 66 62 65 (.c (.bool false))),
 oM 67 66,
  ⟨.mv 68 7,some (67,true)⟩,
  ⟨.mv 69 11,some (67,true)⟩,
  ⟨.bin 70 .eql 68 69,some (67,true)⟩,
 oN (.pick 71 67 70 (.c (.bool false))),
 oM 4 71] [4] 0
 .ret)
def qc:ICode:=
 (.seq (sR [oM 40 10,oE 41 40 0] [1,2,5,6,7,8,9,10,11,12,41] 1
 (.cond 41 (.post (pR [oN (.load 42 true 2 2),oM 43 1,oY 44 168 [42,43],oM 12 44] [2,5,6,7,8,9,10,11,12] 1) [2,5,6,7,8,9,10,11,12] 1)
 (.post .skip [2,5,6,7,8,9,10,11,12] 1)))
 (.cut qx))
def qj:ICode:=
 (.seq (sR [
 oM 31 10,
 oE 32 31 0,
 oM 33 32,
  ⟨.mv 34 1,some (33,true)⟩,
  ⟨.len 35 0 34,some (33,true)⟩,
  ⟨.faddr 36 2 0,some (33,true)⟩,
  ⟨.load 37 false 1 36,some (33,true)⟩,
  ⟨.bin 38 .neq 35 37,some (33,true)⟩,
 oN (.pick 39 33 38 (.c (.bool false)))] [1,2,5,6,7,8,9,10,11,12,39] 1
 (.cond 39 (.post (pR [oK 10 1] [1,2,5,6,7,8,9,10,11,12] 1) [1,2,5,6,7,8,9,10,11,12] 1)
 (.post .skip [1,2,5,6,7,8,9,10,11,12] 1)))
 (.cut qc))
def q2k:ICode:=
 (sR [oB 2 0,oN (.mv 4 (.c (.bool false)))] [1,2] 1
 (sR [oN (.load 14 true 2 2),oM 15 1,oY 16 32 [14,15],oM 13 16,oG 17 13 0,oG 18 13 1,oM 5 17,oM 6 18] [1,2,5,6] 1
 (sR [oN (.load 20 true 2 2),oY 21 384 [20],oM 19 21,oG 22 19 0,oG 23 19 1,oM 7 22,oM 8 23] [1,2,5,6,7,8] 1
 (sR [oN (.load 24 true 2 2),oY 25 93 [24],oM 9 25] [1,2,5,6,7,8,9] 1
 (sR [oM 26 9,oM 10 26,oN (.mv 11 (.c (.str ByteArray.empty))),oN (.mv 12 (.c (.bool false)))] [1,2,5,6,7,8,9,10,11,12] 1
 (.seq (sR [oM 27 9,oE 28 27 0] [1,2,5,6,7,8,9,10,11,12,28] 1
 (.cond 28 (.post (pR [oN (.load 29 true 2 2),oY 30 385 [29],oM 11 30] [1,2,5,6,7,8,9,10,11,12] 1) [1,2,5,6,7,8,9,10,11,12] 1)
 (.post .skip [1,2,5,6,7,8,9,10,11,12] 1)))
 (.cut qj)))))))
def q2l:IFunc:={np:=2,res:=[.t 4],own:=false,trunc:=true,body:=q2k }
end Go.Lw
end

/-! The code of package Lib for the small machine. Written by program (gen.py). -/
section
set_option maxRecDepth 10000
namespace Go.Lw
open Go
/- 82: slices.Concat[[]latchwork/api.Pair,latchwork/api.Pair] -/
/- 86: slices.ContainsFunc[[]int,int] -/
def q4g:ICode:=
 (sR [oN (.mv 4 (.c (.bool false)))] [0,1] 0
 (sR [oM 5 0,oM 6 1,oY 7 111 [5,6],oN (.bin 8 .geq 7 (.c (I 0))),oM 4 8] [4] 0
 .ret))
def q2m:IFunc:={np:=2,res:=[.t 4],own:=false,trunc:=true,body:=q4g }
/- 100: slices.ContainsFunc[[][]int,[]int] -/
def q4h:ICode:=
 (sR [oN (.mv 4 (.c (.bool false)))] [0,1] 0
 (sR [oM 5 0,oM 6 1,oY 7 117 [5,6],oN (.bin 8 .geq 7 (.c (I 0))),oM 4 8] [4] 0
 .ret))
def q2n:IFunc:={np:=2,res:=[.t 4],own:=false,trunc:=true,body:=q4h }
/- 107: slices.Concat[[]int,int] -/
/- 111: slices.IndexFunc[[]int,int] -/
def q4i:ICode:=
 (.post (.seq (.region [oW 9 8 7] false)
 (.seq (.cond 9 .skip
 (.exit 0))
 (.seq (.block 1 (sR [oM 10 8,oM 5 10] [0,1,5,7,8] 0
 (sR [oM 11 1,oM 12 0,oM 13 5,oA 14 12 13,oL 15 14,oN (.callv (some 16) true 11 [15])] [0,1,5,7,8,16] 0
 (.cond 16 (sR [oM 17 5,oM 4 17] [4] 0
 .ret)
 .skip))))
 (pR [oP 18 8 1,oM 8 18] [0,1,7,8] 0)))) [0,1,7,8] 0)
def q2o:ICode:=
 (.post (.block 0 (.loop q4i)) [] 0)
def q2p:ICode:=
 (.seq (.region [oN (.mv 4 (.c (I (-1))))] false)
 .ret)
def q4j:ICode:=
 (sR [oK 4 0] [0,1] 0
 (.seq (sR [oM 6 0,oD 7 6,oK 8 0] [0,1,7,8] 0
 (.cut q2o))
 (.cut q2p)))
def qy:IFunc:={np:=2,res:=[.t 4],own:=false,trunc:=true,body:=q4j }
/- 117: slices.IndexFunc[[][]int,[]int] -/
def q4k:ICode:=
 (.post (.seq (.region [oW 9 8 7] false)
 (.seq (.cond 9 .skip
 (.exit 0))
 (.seq (.block 1 (sR [oM 10 8,oM 5 10] [0,1,5,7,8] 0
 (sR [oM 11 1,oM 12 0,oM 13 5,oA 14 12 13,oL 15 14,oN (.callv (some 16) true 11 [15])] [0,1,5,7,8,16] 0
 (.cond 16 (sR [oM 17 5,oM 4 17] [4] 0
 .ret)
 .skip))))
 (pR [oP 18 8 1,oM 8 18] [0,1,7,8] 0)))) [0,1,7,8] 0)
def q2q:ICode:=
 (.post (.block 0 (.loop q4k)) [] 0)
def q2r:ICode:=
 (.seq (.region [oN (.mv 4 (.c (I (-1))))] false)
 .ret)
def q4l:ICode:=
 (sR [oK 4 0] [0,1] 0
 (.seq (sR [oM 6 0,oD 7 6,oK 8 0] [0,1,7,8] 0
 (.cut q2q))
 (.cut q2r)))
def qz:IFunc:={np:=2,res:=[.t 4],own:=false,trunc:=true,body:=q4l }
/- 156: slices.Concat[[][]int,[]int] -/
/- 172: slices.ContainsFunc[[]int,int]#K -/
/- 181: math/bits.Len -/
/- 182: math/bits.Len32 -/
/- 183: math/bits.Len64 -/
/- 184: slices.Contains[[]int,int]#K -/
/- 185: slices.Contains[[]int,int] -/
/- 186: slices.Index[[]int,int] -/
/- 190: slices.SortFunc[[]int,int] -/
/- 192: slices.pdqsortCmpFunc[int] -/
/- 193: slices.nextPowerOfTwo -/
/- 194: (*slices.xorshift).Next -/
/- 195: slices.insertionSortCmpFunc[int] -/
/- 196: slices.heapSortCmpFunc[int] -/
/- 197: slices.breakPatternsCmpFunc[int] -/
/- 198: slices.choosePivotCmpFunc[int] -/
/- 199: slices.reverseRangeCmpFunc[int] -/
/- 200: slices.partialInsertionSortCmpFunc[int] -/
/- 201: slices.partitionEqualCmpFunc[int] -/
/- 202: slices.partitionCmpFunc[int] -/
/- 203: slices.siftDownCmpFunc[int] -/
/- 204: slices.medianAdjacentCmpFunc[int] -/
/- 205: slices.medianCmpFunc[int] -/
/- 206: slices.order2CmpFunc[int] -/
/- 208: slices.IndexFunc[[]int,int]#K -/
/- 209: slices.Index[[]int,int]#K -/
/- 216: slices.DeleteFunc[[]int,int] -/
/- 261: internal/stringslite.Cut -/
/- 270: internal/strconv.Itoa -/
/- 282: internal/stringslite.IndexByte -/
/- 283: strings.explode -/
/- 284: strings.Count -/
/- 285: strings.Index -/
/- 289: strconv.baseError -/
/- 290: strconv.bitSizeError -/
/- 294: internal/strconv.small -/
/- 296: internal/strconv.formatBase10 -/
/- 300: internal/bytealg.Cutover -/
/- 301: internal/bytealg.IndexRabinKarp[string] -/
/- 302: internal/bytealg.hashStr[string] -/
/- 304: unicode/utf8.DecodeRuneInString -/
/- 309: internal/strconv.log10Pow2 -/
/- 310: internal/strconv.isPowerOfTwo -/
/- 311: math/bits.TrailingZeros -/
/- 313: internal/strconv.lower -/
/- 314: internal/strconv.underscoreOK -/
/- 315: internal/strconv.bool2[int] -/
/- 343: slices.DeleteFunc[[]int,int]#K -/
/- 344: slices.Concat[[]int,int]#K -/
/- 358: (*strings.Builder).WriteByte -/
/- 360: slices.Index[[]string,string] -/
end Go.Lw
end

/-! The code of package Ref for the small machine. Written by program (gen.py). -/
section
set_option maxRecDepth 10000
namespace Go.Lw
open Go
/- 2: latchwork/latchworkref.CheckGraph -/
/- 3: latchwork/latchworkref.IsLit -/
/- 4: latchwork/latchworkref.AndOf -/
/- 7: latchwork/latchworkref.SameGraph -/
/- 10: latchwork/latchworkref.AreLits -/
/- 11: latchwork/latchworkref.NodesOf -/
/- 12: latchwork/latchworkref.LitOf -/
/- 17: latchwork/latchworkref.ClausesOf -/
/- 23: latchwork/latchworkref.FitOf -/
/- 26: latchwork/latchworkref.Takes -/
/- 27: latchwork/latchworkref.Two -/
/- 28: latchwork/latchworkref.Made -/
/- 36: latchwork/latchworkref.CheckModel -/
/- 39: latchwork/latchworkref.Nodes -/
/- 43: latchwork/latchworkref.ConeOf -/
/- 45: latchwork/latchworkref.Has -/
/- 46: latchwork/latchworkref.SameInts -/
/- 50: latchwork/latchworkref.between -/
def q4m:ICode:=
 (sR [oN (.mv 6 (.c (.bool false)))] [0,1,2] 0
 (sR [
 oM 7 0,
 oM 8 1,
 oN (.bin 9 .geq 7 8),
 oM 10 9,
  ⟨.mv 11 0,some (10,true)⟩,
  ⟨.mv 12 2,some (10,true)⟩,
  ⟨.bin 13 .leq 11 12,some (10,true)⟩,
 oN (.pick 14 10 13 (.c (.bool false))),
 oM 6 14] [6] 0
 .ret))
def q16:IFunc:={np:=3,res:=[.t 6],own:=false,trunc:=true,body:=q4m }
/- 51: latchwork/latchworkref.AndAt -/
/- 56: latchwork/latchworkref.AndClauses -/
/- 57: latchwork/latchworkref.MustClauses -/
/- 58: latchwork/latchworkref.DoneClauses -/
/- 60: latchwork/latchworkref.SameClauses -/
/- 67: latchwork/latchworkref.bitwise -/
/- 68: latchwork/latchworkref.yes -/
/- 69: latchwork/latchworkref.Signed -/
/- 72: latchwork/latchworkref.CheckNode -/
/- 73: latchwork/latchworkref.Bits -/
/- 74: latchwork/latchworkref.hangs -/
/- 84: latchwork/latchworkref.ConeOf$1 -/
/- 92: latchwork/latchworkref.Num -/
/- 93: latchwork/latchworkref.CheckClauses -/
def q4n:ICode:=
 (.post (.seq (sR [oM 13 3,oF 14 1 1,oL 15 14,oD 16 15,oW 17 13 16] [1,3,17] 1
 (.cond 17 .skip
 (.exit 0)))
 (.seq (.block 1 (sQ [oF 20 1 0,oL 21 20,oF 22 1 1,oL 23 22,oM 24 3,oA 25 23 24,oL 26 25,oY 27 112 [21,26],oM 4 27] [1,3,4] 1
 (sR [oM 28 4,oN (.bin 29 .neq 28 (.c (I 0)))] [1,3,4,29] 1
 (.cond 29 (sR [oM 30 4,oM 2 30] [2] 0
 .ret)
 .skip))))
 (pR [oM 18 3,oP 19 18 1,oM 3 19] [1,3] 1))) [1,3] 1)
def q2s:ICode:=
 (.post (.block 0 (.loop q4n)) [] 0)
def q2t:ICode:=
 (.seq (.region [oK 2 0] false)
 .ret)
def q4o:ICode:=
 (sR [oB 1 0,oK 2 0] [1] 1
 (.seq (sR [oF 5 1 0,oL 6 5,oY 7 50 [6,(.c (I 0)),(.c (I 200000))],oN (.un 8 .not 7)] [1,8] 1
 (.cond 8 (sR [oK 2 3] [2] 0
 .ret)
 .skip))
 (.seq (sR [oF 9 1 1,oL 10 9,oD 11 10,oN (.bin 12 .gtr 11 (.c (I 800000)))] [1,12] 1
 (.cond 12 (sR [oK 2 2] [2] 0
 .ret)
 .skip))
 (.seq (sR [oK 3 0] [1,3] 1
 (.cut q2s))
 (.cut q2t)))))
def qb:IFunc:={np:=1,res:=[.t 2],own:=false,trunc:=true,body:=q4o }
/- 95: latchwork/latchworkref.SameLists -/
/- 97: latchwork/latchworkref.Bit -/
/- 102: latchwork/latchworkref.WidthsOf -/
/- 112: latchwork/latchworkref.CheckClause -/
def q4p:ICode:=
 (.post (.seq (sR [oM 9 5,oM 10 1,oD 11 10,oW 12 9 11] [0,1,5,12] 0
 (.cond 12 .skip
 (.exit 0)))
 (.seq (.block 1 (sR [
 oM 15 1,
 oM 16 5,
 oA 17 15 16,
 oL 18 17,
 oE 19 18 0,
 oM 20 19,
  ⟨.mv 21 1,some (20,false)⟩,
  ⟨.mv 22 5,some (20,false)⟩,
  ⟨.iaddr 23 1 none 21 22,some (20,false)⟩,
  ⟨.load 24 false 1 23,some (20,false)⟩,
  ⟨.mv 25 0,some (20,false)⟩,
  ⟨.bin 26 .gtr 24 25,some (20,false)⟩,
 oN (.pick 27 20 (.c (.bool true)) 26),
 oM 28 27,
  ⟨.mv 29 1,some (28,false)⟩,
  ⟨.mv 30 5,some (28,false)⟩,
  ⟨.iaddr 31 1 none 29 30,some (28,false)⟩,
  ⟨.load 32 false 1 31,some (28,false)⟩,
  ⟨.mv 33 0,some (28,false)⟩,
  ⟨.un 34 .neg 33,some (28,false)⟩,
  ⟨.bin 35 .lss 32 34,some (28,false)⟩,
 oN (.pick 36 28 (.c (.bool true)) 35)] [0,1,5,36] 0
 (.cond 36 (sR [oK 4 5] [4] 0
 .ret)
 .skip)))
 (pR [oM 13 5,oP 14 13 1,oM 5 14] [0,1,5] 0))) [0,1,5] 0)
def q2u:ICode:=
 (.post (.block 0 (.loop q4p)) [] 0)
def q2v:ICode:=
 (.seq (.region [oK 4 0] false)
 .ret)
def q4q:ICode:=
 (sR [oK 4 0] [0,1] 0
 (.seq (sR [oM 6 1,oD 7 6,oN (.bin 8 .gtr 7 (.c (I 200)))] [0,1,8] 0
 (.cond 8 (sR [oK 4 2] [4] 0
 .ret)
 .skip))
 (.seq (sR [oK 5 0] [0,1,5] 0
 (.cut q2u))
 (.cut q2v))))
def qk:IFunc:={np:=2,res:=[.t 4],own:=false,trunc:=true,body:=q4q }
/- 124: latchwork/latchworkref.CheckWords -/
/- 125: latchwork/latchworkref.BeginOf -/
/- 131: latchwork/latchworkref.Ready -/
/- 132: latchwork/latchworkref.ValuesOf -/
/- 133: latchwork/latchworkref.NextOf -/
/- 134: latchwork/latchworkref.MarksOf -/
/- 137: latchwork/latchworkref.PairOf -/
/- 146: latchwork/latchworkref.FollowsOf -/
/- 150: latchwork/latchworkref.CheckProof -/
/- 151: latchwork/latchworkref.ProofOf -/
/- 167: latchwork/latchworkref.AnswerIs -/
/- 168: latchwork/latchworkref.HoldsOf -/
def qd:ICode:=
 (pR [oM 24 7,oP 25 24 1,oM 7 25] [1,2,5,6,7] 1)
def q4r:ICode:=
 (.post (.seq (sR [oM 16 7,oF 17 2 1,oL 18 17,oM 19 5,oA 20 18 19,oL 21 20,oD 22 21,oW 23 16 22] [1,2,5,6,7,23] 1
 (.cond 23 .skip
 (.exit 2)))
 (.seq (.block 3 (sR [oF 26 2 1,oL 27 26,oM 28 5,oA 29 27 28,oL 30 29,oM 31 7,oA 32 30 31,oL 33 32,oM 8 33] [1,2,5,6,7,8] 1
 (sR [oM 34 8,oN (.bin 35 .gtr 34 (.c (I 0)))] [1,2,5,6,7,8,35] 1
 (.cond 35 (.post (pR [
 oM 36 6,
 oM 37 36,
  ⟨.mv 38 1,some (37,false)⟩,
  ⟨.mv 39 8,some (37,false)⟩,
  ⟨.bin 40 .sub 39 (.c (I 1)),some (37,false)⟩,
  ⟨.iaddr 41 1 none 38 40,some (37,false)⟩,
  ⟨.load 42 false 1 41,some (37,false)⟩,
 oN (.pick 43 37 (.c (.bool true)) 42),
 oM 6 43] [1,2,5,6,7] 1) [1,2,5,6,7] 1)
 (.post (pR [
 oM 44 6,
 oM 45 44,
  ⟨.mv 46 1,some (45,false)⟩,
  ⟨.mv 47 8,some (45,false)⟩,
  ⟨.un 48 .neg 47,some (45,false)⟩,
  ⟨.bin 49 .sub 48 (.c (I 1)),some (45,false)⟩,
  ⟨.iaddr 50 1 none 46 49,some (45,false)⟩,
  ⟨.load 51 false 1 50,some (45,false)⟩,
  ⟨.un 52 .not 51,some (45,false)⟩,
 oN (.pick 53 45 (.c (.bool true)) 52),
 oM 6 53] [1,2,5,6,7] 1) [1,2,5,6,7] 1)))))
 (.cut qd))) [1,2,5,6,7] 1)
def q2w:ICode:=
 (.post (.block 2 (.loop q4r)) [1,2,5,6] 1)
def q17:ICode:=
 (sR [oM 54 6,oN (.un 55 .not 54)] [1,2,5,55] 1
 (.cond 55 (sR [oN (.mv 4 (.c (.bool false)))] [4] 0
 .ret)
 .skip))
def q18:ICode:=
 (pR [oM 14 5,oP 15 14 1,oM 5 15] [1,2,5] 1)
def q4s:ICode:=
 (.post (.seq (sR [oM 9 5,oF 10 2 1,oL 11 10,oD 12 11,oW 13 9 12] [1,2,5,13] 1
 (.cond 13 .skip
 (.exit 0)))
 (.seq (.block 1 (sR [oN (.mv 6 (.c (.bool false)))] [1,2,5,6] 1
 (.seq (sR [oK 7 0] [1,2,5,6,7] 1
 (.cut q2w))
 (.cut q17))))
 (.cut q18))) [1,2,5] 1)
def q2x:ICode:=
 (.post (.block 0 (.loop q4s)) [] 0)
def q1e:ICode:=
 (.seq (.region [oN (.mv 4 (.c (.bool true)))] false)
 .ret)
def q4t:ICode:=
 (sR [oB 2 0,oN (.mv 4 (.c (.bool false)))] [1,2] 1
 (.seq (sR [oK 5 0] [1,2,5] 1
 (.cut q2x))
 (.cut q1e)))
def q2y:IFunc:={np:=2,res:=[.t 4],own:=false,trunc:=true,body:=q4t }
/- 213: latchwork/latchworkref.CheckCircuit -/
/- 321: latchwork/latchworkref.WaysOf -/
/- 322: latchwork/latchworkref.Layers -/
/- 323: latchwork/latchworkref.NumberOf -/
/- 324: latchwork/latchworkref.ExploreOf -/
/- 326: latchwork/latchworkref.WordsOf -/
/- 327: latchwork/latchworkref.BitsOf -/
/- 330: latchwork/latchworkref.CheckSteps -/
/- 331: latchwork/latchworkref.StepClauses -/
/- 338: latchwork/latchworkref.StepClauses$1 -/
/- 339: latchwork/latchworkref.StepClauses$2 -/
/- 349: latchwork/latchworkref.SameModel -/
/- 351: latchwork/latchworkref.PrintTrace -/
/- 354: latchwork/latchworkref.samePairs -/
/- 355: latchwork/latchworkref.line -/
/- 368: latchwork/latchworkref.PrintModel -/
/- 370: latchwork/latchworkref.ParseModel -/
/- 372: latchwork/latchworkref.ParseTrace -/
/- 373: latchwork/latchworkref.SameTrace -/
/- 376: latchwork/latchworkref.CheckTrace -/
/- 377: latchwork/latchworkref.PlayOf -/
/- 379: latchwork/latchworkref.kindWord -/
/- 380: latchwork/latchworkref.Cut -/
/- 381: latchwork/latchworkref.Undigit -/
/- 385: latchwork/latchworkref.PrintClauses -/
def q4u:ICode:=
 (.post (.seq (sR [oM 24 5,oF 25 1 1,oL 26 25,oM 27 4,oA 28 26 27,oL 29 28,oD 30 29,oW 31 24 30] [1,3,4,5,31] 1
 (.cond 31 .skip
 (.exit 2)))
 (.seq (.block 3 (pR [oM 34 3,oF 35 1 1,oL 36 35,oM 37 4,oA 38 36 37,oL 39 38,oM 40 5,oA 41 39 40,oL 42 41,oY 43 363 [42],oN (.bin 44 .add 43 (.c (.str ⟨#[32]⟩))),oN (.bin 45 .add 34 44),oM 3 45] [1,3,4,5] 1))
 (pR [oM 32 5,oP 33 32 1,oM 5 33] [1,3,4,5] 1))) [1,3,4,5] 1)
def q2z:ICode:=
 (.post (.block 2 (.loop q4u)) [1,3,4] 1)
def q1f:ICode:=
 (pR [oM 46 3,oN (.bin 47 .add 46 (.c (.str ⟨#[48,10]⟩))),oM 3 47] [1,3,4] 1)
def q19:ICode:=
 (pR [oM 22 4,oP 23 22 1,oM 4 23] [1,3,4] 1)
def q4v:ICode:=
 (.post (.seq (sR [oM 17 4,oF 18 1 1,oL 19 18,oD 20 19,oW 21 17 20] [1,3,4,21] 1
 (.cond 21 .skip
 (.exit 0)))
 (.seq (.block 1 (.seq (sR [oK 5 0] [1,3,4,5] 1
 (.cut q2z))
 (.cut q1f)))
 (.cut q19))) [1,3,4] 1)
def q30:ICode:=
 (.post (.block 0 (.loop q4v)) [3] 0)
def q1g:ICode:=
 (sR [oM 48 3,oM 2 48] [2] 0
 .ret)
def q4w:ICode:=
 (sR [oB 1 0,oN (.mv 2 (.c (.str ByteArray.empty)))] [1] 1
 (sQ [oF 6 1 0,oL 7 6,oY 8 363 [7],oN (.bin 9 .add (.c (.str ⟨#[112,32,99,110,102,32]⟩)) 8),oN (.bin 10 .add 9 (.c (.str ⟨#[32]⟩))),oF 11 1 1,oL 12 11,oD 13 12,oY 14 363 [13],
 oN (.bin 15 .add 10 14),oN (.bin 16 .add 15 (.c (.str ⟨#[10]⟩))),oM 3 16] [1,3] 1
 (.seq (sR [oK 4 0] [1,3,4] 1
 (.cut q30))
 (.cut q1g))))
def q31:IFunc:={np:=1,res:=[.t 2],own:=false,trunc:=true,body:=q4w }
end Go.Lw
end

/-! The machine's code, read off: what a piece of code comes to, said without slots. No program in sight. -/
section
namespace Go.Lw
open Go
inductive Ce where
 |any
 |one
 |int (k:IntKind)
 |bool
 |str
 |gp
 |ol (z:Nat)
 deriving Inhabited
inductive Sh where
 |raw
 |ce (c:Ce)
 |agg (l:List Ce)
 |tup (n:Nat)
 deriving Inhabited
/- What the kernel is to undo first (the height of a definition). -/
def hz0:Nat:=0
def hz1:Nat:=hz0
def hz2:Nat:=hz1
def hz3:Nat:=hz2
def hz4:Nat:=hz3
def hz5:Nat:=hz4
def hz6:Nat:=hz5
def hz7:Nat:=hz6
def hz8:Nat:=hz7
def hz9:Nat:=hz8
def hz10:Nat:=hz9
def hz11:Nat:=hz10
def hz12:Nat:=hz11
def hz13:Nat:=hz12
def hz14:Nat:=hz13
def hz15:Nat:=hz14
def hz16:Nat:=hz15
def hz17:Nat:=hz16
def hz18:Nat:=hz17
def hz19:Nat:=hz18
def hz20:Nat:=hz19
def hz21:Nat:=hz20
def hz22:Nat:=hz21
def hz23:Nat:=hz22
def hz24:Nat:=hz23
def hz25:Nat:=hz24
def hz26:Nat:=hz25
def hz27:Nat:=hz26
def hz28:Nat:=hz27
def hz29:Nat:=hz28
def hz30:Nat:=hz29
def hz31:Nat:=hz30
def hz32:Nat:=hz31
def hz33:Nat:=hz32
def hz34:Nat:=hz33
def hz35:Nat:=hz34
def hz36:Nat:=hz35
def hz37:Nat:=hz36
def hz38:Nat:=hz37
def hz39:Nat:=hz38
def hz40:Nat:=hz39
def hz41:Nat:=hz40
def hz42:Nat:=hz41
def hz43:Nat:=hz42
def hz44:Nat:=hz43
def hz45:Nat:=hz44
def hz46:Nat:=hz45
def hz47:Nat:=hz46
def hz48:Nat:=hz47
def hz49:Nat:=hz48
def hz50:Nat:=hz49
def hz51:Nat:=hz50
def hz52:Nat:=hz51
def hz53:Nat:=hz52
def hz54:Nat:=hz53
def hz55:Nat:=hz54
def hz56:Nat:=hz55
def hz57:Nat:=hz56
def hz58:Nat:=hz57
def hz59:Nat:=hz58
def hz60:Nat:=hz59
def hz61:Nat:=hz60
def hz62:Nat:=hz61
def hz63:Nat:=hz62
def hz64:Nat:=hz63
def hz65:Nat:=hz64
def hz66:Nat:=hz65
def hz67:Nat:=hz66
def hz68:Nat:=hz67
def hz69:Nat:=hz68
def hz70:Nat:=hz69
section
variable {R:Type} {α:Type}
def ob0 (x:Option α) (f:α→Option R):Option R:=match x with|some a=>f a|none=>none
def gd0 (b:Bool) (x:Option R):Option R:=match b with|true=>x|false=>none
def ob (x:Option α) (f:α→Option R):Option R:=(fun _:Nat=>
 match x with|some a=>f a|none=>none) hz45
def gd (b:Bool) (x:Option R):Option R:=(fun _:Nat=>
 match b with|true=>x|false=>none) hz45
def gb (b:Bool) (x:Option R):Option R:=(fun _:Nat=>
 match b with|true=>x|false=>none) hz45
def br (_:Nat) (b:Bool) (x y:Option R):Option R:=(fun _:Nat=>
 match b with|true=>x|false=>y) hz45
def kR (x:Option (IExit×St)) (k:IExit→St→Option R):Option R:=match x with|some (e,s)=>k e s|none=>none
def nx (e:IExit) (s:St) (k:IExit→St→Option R) (f:St→Option R):Option R:=(fun _:Nat=>
 match e with| .normal=>f s|e=>k e s) hz70
def bk (id:Nat) (e:IExit) (s:St) (k:IExit→St→Option R):Option R:=match e with| .exit i=>br 0 (Nat.beq i id) (k .normal s) (k (.exit i) s)|e=>k e s
def iAnd (k:IntKind) (a b:Int):Int:=k.wrap (BitVec.ofInt k.bits a &&&BitVec.ofInt k.bits b).toNat
def iOr (k:IntKind) (a b:Int):Int:=k.wrap (BitVec.ofInt k.bits a |||BitVec.ofInt k.bits b).toNat
def iXor (k:IntKind) (a b:Int):Int:=k.wrap (BitVec.ofInt k.bits a ^^^BitVec.ofInt k.bits b).toNat
def iShl (k:IntKind) (a b:Int):Int:=k.wrap (a*2^(min b.toNat k.bits))
def iShr (k:IntKind) (a b:Int):Int:=a.fdiv (2^(min b.toNat k.bits))
def iNot (k:IntKind) (n:Int):Int:=k.wrap (BitVec.ofInt k.bits (if k.signed then -1 else k.max) ^^^BitVec.ofInt k.bits n).toNat
def kIdx:IntKind→Nat
 | .i8=>0| .i16=>1| .i32=>2| .i64=>3| .u8=>4| .u16=>5| .u32=>6| .u64=>7
def kE (k k':IntKind) (x:Option R):Option R:=gb (Nat.beq (kIdx k) (kIdx k')) x
def Fn:Nat→Type→Type
 |0,R=>R
 |n+1,R=>PV→Fn n R
def curry:(n:Nat)→(List PV→R)→Fn n R
 |0,g=>g []
 |n+1,g=>fun c=>curry n fun l=>g (c::l)
def unN:(n:Nat)→List PV→Fn n (Option R)→Option R
 |0,[],f=>f
 |n+1,c::l,f=>unN n l (f c)
 |_,_,_=>none
def isC (v:PV) (x:Option R):Option R:=(fun _:Nat=>
 match v with| .agg _=>none|_=>x) hz45
def stK (nl:Nat) (v:PV) (x:Option R):Option R:=(fun _:Nat=>
 match v with
  | .ptr false b _=>gb (Nat.ble (b+1) nl) x
  | .bs false b _ _ _=>gb (Nat.ble (b+1) nl) x
  |_=>x) hz45
def onK (v:PV) (x:Option R):Option R:=(fun _:Nat=>
 match v with
  | .und| .agg _| .tup _| .ptr false _ _| .bs false _ _ _ _| .arr _ _| .junk=>none
  |_=>x) hz45
def arL:List PV→Option R→Option R
 |[],x=>x
 |c::l,x=>onK c (arL l x)
def arK (v:PV) (x:Option R):Option R:=(fun _:Nat=>
 match v with
  | .agg cs=>arL cs x
  | .und| .tup _| .ptr false _ _| .bs false _ _ _ _| .arr _ _| .junk=>none
  |_=>x) hz45
def allK:List PV→Option R→Option R
 |[],x=>x
 |v::l,x=>arK v (allK l x)
def lenB:List PV→Nat→Bool
 |[],0=>true
 |_::l,n+1=>lenB l n
 |_,_=>false
def geB:List PV→Nat→Bool
 |_,0=>true
 |_::l,n+1=>geB l n
 |[],_+1=>false
def lnK (z:Nat) (v:PV) (x:Option R):Option R:=(fun _:Nat=>
 match v with
  | .agg cs=>gb (lenB cs z) x
  |_=>gb (Nat.beq 1 z) x) hz45
def slK (z:Nat):List PV→Option R→Option R
 |[],x=>x
 |v::l,x=>arK v (lnK z v (slK z l x))
def isPtr:PV→Bool
 | .ptr _ _ _| .ep _ _| .fn _ _=>true
 |_=>false
def unI (k:IntKind) (v:PV) (f:Int→Option R):Option R:=(fun _:Nat=>
 match v with| .int k' n=>kE k' k (f n)|_=>none) hz45
def anyI (v:PV) (f:Int→Option R):Option R:=(fun _:Nat=>
 match v with| .int _ n=>f n|_=>none) hz45
def unB (v:PV) (f:Bool→Option R):Option R:=(fun _:Nat=>
 match v with| .bool b=>f b|_=>none) hz45
def unS (v:PV) (f:ByteArray→Option R):Option R:=(fun _:Nat=>
 match v with| .str b=>f b|_=>none) hz45
def unG (v:PV) (f:Nat→Nat→Option R):Option R:=(fun _:Nat=>
 match v with| .ptr true b off=>f b off|_=>none) hz45
def unO (z:Nat) (v:PV) (f:List PV→Option R):Option R:=match v with| .sl true z' xs=>gb (Nat.beq z' z) (f xs)|_=>none
def unA (n:Nat) (v:PV) (f:Fn n (Option R)):Option R:=match v with| .agg cs=>unN n cs f|_=>none
def unT (n:Nat) (v:PV) (f:Fn n (Option R)):Option R:=match v with| .tup cs=>unN n cs f|_=>none
def nilB (v:PV) (f:Bool→Option R):Option R:=match v with| .nilI=>f true| .someI=>f false|_=>none
def castC (c:Ce) (v:PV) (f:PV→Option R):Option R:=
 match c with
 | .any=>f v
 | .one=>isC v (f v)
 | .int k=>unI k v fun n=>f (.int k n)
 | .bool=>unB v fun b=>f (.bool b)
 | .str=>unS v fun b=>f (.str b)
 | .gp=>unG v fun b off=>f (.ptr true b off)
 | .ol z=>unO z v fun xs=>f (.sl true z xs)
def castL:List Ce→List PV→(List PV→Option R)→Option R
 |[],[],f=>f []
 |c::cs,v::vs,f=>castC c v fun v=>castL cs vs fun vs=>f (v::vs)
 |_,_,_=>none
def cast (h:Sh) (v:PV) (f:PV→Option R):Option R:=
 match h with
 | .raw=>f v
 | .ce c=>castC c v f
 | .agg l=>unA l.length v (curry l.length fun cs=>castL l cs fun cs=>f (.agg cs))
 | .tup n=>unT n v (curry n fun vs=>f (.tup vs))
inductive Tr where
 |nil
 |node (n:Nat) (h:Sh) (l r:Tr)
def shAt:Tr→Nat→Sh
 | .nil,_=> .raw
 | .node n h l r,t=>match Nat.beq n t with
  |true=>h
  |false=>match Nat.ble n t with
   |true=>shAt r t
   |false=>shAt l t
def shX (an:Tr):IX→Sh
 | .t n=>shAt an n
 | .c _=> .raw
 | .f _=> .raw
def getX:List (Nat×PV)→Nat→Option PV
 |[],_=>none
 |(a,v)::l,t=>match Nat.beq a t with
  |true=>some v
  |false=>getX l t
def putK:List (Nat×PV)→Nat→PV→(List (Nat×PV)→Option R)→Option R
 |[],t,v,k=>(fun _:Nat=>k [(t,v)]) hz70
 |(a,u)::l,t,v,k=>match Nat.beq a t with
  |true=>k ((t,v)::l)
  |false=>putK l t v fun l=>k ((a,u)::l)
def snocK:List α→α→(List α→Option R)→Option R
 |[],v,k=>(fun _:Nat=>k [v]) hz70
 |u::l,v,k=>snocK l v fun l=>k (u::l)
def setK:List α→Nat→α→(List α→Option R)→Option R
 |[],_,_,k=>(fun _:Nat=>k []) hz70
 |_::l,0,v,k=>k (v::l)
 |u::l,i+1,v,k=>setK l i v fun l=>k (u::l)
def nthX:List α→Nat→Option α
 |[],_=>none
 |u::_,0=>some u
 |_::l,i+1=>nthX l i
def takeK:Nat→List α→(List α→Option R)→Option R
 |0,_,k=>(fun _:Nat=>k []) hz70
 |_,[],k=>k []
 |n+1,u::l,k=>takeK n l fun l=>k (u::l)
def evX (e:List (Nat×PV)):IX→Option PV
 | .t n=>match getX e n with
  |some v=>some (degr v)
  |none=>none
 | .c v=>some (degr v)
 | .f id=>some (.fn id [])
def evK (e:List (Nat×PV)):IX→Option PV
 | .t n=>match getX e n with
  |some v=>some (degr v)
  |none=>none
 | .c v=>some v
 | .f id=>some (.fn id [])
def evXs (e:List (Nat×PV)):List IX→(List PV→Option R)→Option R
 |[],k=>(fun _:Nat=>k []) hz70
 |x::l,k=>match evX e x with
  |some v=>evXs e l fun vs=>k (v::vs)
  |none=>none
def tkX (e:List (Nat×PV)) (x:IX) (k:PV→List (Nat×PV)→Option R):Option R:=
 match x with
 | .t n=>match getX e n with
  |some v=>putK e n (degr v) fun e=>k v e
  |none=>none
 | .c v=>k v e
 | .f id=>k (.fn id []) e
def putS (s:St) (d:Nat) (v:PV) (k:St→Option R):Option R:=putK s.env d v fun e=>k ⟨e,s.lh,s.gh⟩
def cellsX (h:Sh) (v:PV) (f:List PV→Option R):Option R:=
 match h with
 | .ce _=>isC v (f [v])
 |_=>f v.cells
def setX (an:Tr) (s:St) (d:Nat) (v:PV) (k:St→Option R):Option R:=cast (shAt an d) v fun w=>putS s d w k
def ghCells (gh:List GObj) (b:Nat):Option (List PV):=match gh[b]? with|some (.cells cs)=>some cs|_=>none
def ghMap (gh:List GObj) (b:Nat):Option (List (PV×PV)):=match gh[b]? with|some (.map es)=>some es|_=>none
def ldX (lh:List (List PV)) (gh:List GObj) (agg:Bool) (k:Nat) (p:PV) (f:PV→Option R):Option R:=
 (fun _:Nat=>
 match p with
 | .ptr false b off=>match nthX lh b with
  |some cs=>(match grab agg k off cs with|some v=>f (degr v)|none=>none)
  |none=>none
 | .ptr true b off=>ob0 (ghCells gh b) fun cs=>ob0 (grab agg k off cs) fun v=>f (degr v)
 | .ep e off=>ob0 (grab agg k off e.cells) f
 |_=>none) hz20
def stOk (k off:Nat) (cs old:List PV):Bool:=lenB cs k&&geB old (off+k)
def stoX (s:St) (p:PV) (kk:Nat) (cs:List PV) (k:St→Option R):Option R:=
 match p with
 | .ptr false b off=>match nthX s.lh b with
  |some old=>gb (stOk kk off cs old) (setK s.lh b (spliceAt old off cs) fun lh=>k ⟨s.env,lh,s.gh⟩)
  |none=>none
 | .ptr true b off=>ob (ghCells s.gh b) fun old=>gb (stOk kk off cs old) (k ⟨s.env,s.lh,s.gh.set b (.cells (spliceAt old off cs))⟩)
 |_=>none
def psX (an:Tr) (e:List (Nat×PV)):List (Nat×Nat×IX)→List PV→(List PV→Option R)→Option R
 |[],z,f=>f z
 |(off,k,x)::l,z,f=>match evX e x with
  |some v=>arK v (cellsX (shX an x) v fun cs=>gb (stOk k off cs z) (psX an e l (spliceAt z off cs) f))
  |none=>none
def psT (an:Tr):List (Nat×PV)→List (Nat×Nat×IX)→List PV→(List (Nat×PV)→List PV→Option R)→Option R
 |e,[],z,f=>f e z
 |e,(off,k,x)::l,z,f=>tkX e x fun v e1=>arK v (cellsX (shX an x) v fun cs=>gb (stOk k off cs z) (psT an e1 l (spliceAt z off cs) f))
def boX (e:List (Nat×PV)) (x:Option IX) (f:Option Int→Option R):Option R:=
 match x with
 |none=>f none
 |some x=>match evX e x with
  |some v=>anyI v fun n=>f (some n)
  |none=>none
def bd (d:Nat) (x:Option Int) (f:Nat→Option R):Option R:=match x with|none=>f d|some i=>gd0 (decide (0≤i)) (f i.toNat)
def slX (z:Nat) (v:PV) (lo hi:Option Int) (f:PV→Option R):Option R:=
 match v with
 | .sl _ z' xs=>bd xs.length hi fun h=>bd 0 lo fun l=>gd0 (decide (l≤h∧h≤xs.length∧z=z')) (f (.sl false z ((xs.take h).drop l)))
 | .bs g b off n z'=>bd n hi fun h=>bd 0 lo fun l=>gd0 (decide (l≤h∧h≤n∧z=z')) (f (.bs g b (off+l*z) (h-l) z))
 | .stk b gen n=>match lo with
  |none=>bd n hi fun h=>gd0 (decide (h≤n∧z=1)) (f (.stk b gen h))
  |some lo=>bd n hi fun h=>bd 0 (some lo) fun l=>gd0 (decide (l≤h∧h≤n∧z=1)) (f (.sub b gen l (h-l)))
 | .sub b gen off n=>bd n hi fun h=>bd 0 lo fun l=>gd0 (decide (l≤h∧h≤n∧z=1)) (f (.sub b gen (off+l) (h-l)))
 |_=>none
def ssX (v:PV) (lo hi:Option Int) (f:ByteArray→Option R):Option R:=
 match v with
 | .str b=>bd b.size hi fun h=>bd 0 lo fun l=>gd (decide (l≤h∧h≤b.size)) (f (b.extract l h))
 |_=>none
def faX (p:PV) (off:Nat) (f:PV→Option R):Option R:=
 (fun _:Nat=>
 match p with
 | .ptr g b o=>f (.ptr g b (o+off))
 | .ep e o=>f (.ep e (o+off))
 |_=>none) hz30
def fdX (v:PV) (agg:Bool) (k off:Nat) (f:PV→Option R):Option R:=
 match v with
 | .agg cs=>ob (grab agg k off cs) f
 |_=>none
def idX (z:Nat) (arr:Option Nat) (v:PV) (i:Int) (f:PV→Option R):Option R:=
 match arr,v with
 |none,.sl _ z' xs=>gd0 (decide (0≤i∧z=z')) (ob0 xs[i.toNat]? fun e=>f (.ep e 0))
 |none,.bs g b off n z'=>gd0 (decide (0≤i∧i<n∧z=z')) (f (.ptr g b (off+i.toNat*z)))
 |some m,.ptr g b o=>gd0 (decide (0≤i∧i<m)) (f (.ptr g b (o+i.toNat*z)))
 |some m,.ep e o=>gd0 (decide (0≤i∧i<m)) (f (.ep e (o+i.toNat*z)))
 |none,.stk b gen n=>gd0 (decide (0≤i∧i<n∧z=1)) (f (.pstk b gen i.toNat))
 |none,.sub b gen off n=>gd0 (decide (0≤i∧i<n∧z=1)) (f (.pstk b gen (off+i.toNat)))
 |_,_=>none
def ixX (v:PV) (z arr:Nat) (agg:Bool) (i:Int) (f:PV→Option R):Option R:=
 match v with
 | .agg cs=>gd (decide (0≤i∧i<arr)) (ob (grab agg z (i.toNat*z) cs) f)
 |_=>none
def isX (v:PV) (i:Int) (f:Int→Option R):Option R:=
 match v with
 | .str b=>gd (decide (0≤i)) (ob b[i.toNat]? fun u=>f u.toNat)
 |_=>none
def lkX (gh:List GObj) (kn:Nat) (m k:PV) (f:Option PV→Option R):Option R:=
 match m with
 | .mp b=>ob (ghMap gh b) fun es=>gd (isKey kn k) (ob (mfind kn es k) f)
 |_=>none
def muX (gh:List GObj) (kn:Nat) (m k v:PV) (f:List GObj→Option R):Option R:=
 match m with
 | .mp b=>ob (ghMap gh b) fun es=>gd (argOk k&&(argOk v&&isKey kn k)) (ob (mset kn es k v) fun es'=>f (gh.set b (.map es')))
 |_=>none
def lenS (v:PV) (f:Nat→Option R):Option R:=match v with| .sl _ _ xs=>f xs.length| .bs _ _ _ n _=>f n| .stk _ _ n=>f n| .sub _ _ _ n=>f n| .nils=>f 0|_=>none
def lenM (gh:List GObj) (v:PV) (f:Nat→Option R):Option R:=match v with| .mp b=>ob (ghMap gh b) fun es=>f es.length|_=>none
def apX (z bytes:Nat) (v w:PV) (f:List PV→Option R):Option R:=
 match w,v with
 | .sl _ z2 ys,.sl o z1 xs=>gd (decide (o=true∧z1=z∧z2=z∧(xs.length+ys.length)*bytes≤maxBytes)) (f (xs++ys))
 |_,_=>none
def ghStk (gh:List GObj) (b:Nat):Option (Nat×List PV):=match gh[b]? with|some (.stk g xs)=>some (g,xs)|_=>none
def akX (gh:List GObj) (bytes:Nat) (v w:PV) (f:List GObj→PV→Option R):Option R:=
 ob (elsOf gh w) fun ys=>match v with
  | .stk b gen n=>ob (ghStk gh b) fun p=>gd (decide (p.1=gen∧n≤p.2.length∧(n+ys.length)*bytes≤maxBytes∧apart b w=true∧ys.all isFlat=true)) (f (gh.set b (.stk (p.1+1) (p.2.take n++ys))) (.stk b (p.1+1) (n+ys.length)))
  |_=>none
def anX (gh:List GObj) (bytes:Nat) (v w:PV) (f:List GObj→PV→Option R):Option R:=
 match v with
 | .nils=>ob (elsOf gh w) fun ys=>gd (decide (ys≠[]∧ys.length*bytes≤maxBytes∧ys.all isFlat=true)) (f (gh++[.stk 0 ys]) (.stk gh.length 0 ys.length))
 |v=>akX gh bytes v w f
def lkK (gh:List GObj) (v:PV) (f:PV→Option R):Option R:=match v with| .pstk b gen i=>ob (stkGet gh b gen i) f|_=>none
def exX (v:PV) (i:Nat) (f:PV→Option R):Option R:=match v with| .tup vs=>ob vs[i]? f|_=>none
noncomputable def callR (gh:List GObj) (q:Bool) (x:Option (PV×List GObj)) (f:PV→List GObj→Option R):Option R:=
 open Classical in
 match x with|some (r,gh')=>(match q with|true=>(if gh'=gh then f r gh else none)|false=>f r gh')|none=>none
def callN (vs:List PV) (x:Option (PV×List GObj)) (f:PV→Option R):Option R:=
 gd (noGs vs) (match x with|some (r,[])=>gd r.noG (f r)|_=>none)
def elK (gh:List GObj) (vs:List PV) (k:List PV→Option R):Option R:=match elPs gh vs with|some us=>k us|none=>none
def callE (us:List PV) (x:Option (PV×List GObj)) (f:PV→Option R):Option R:=
 gd (noGs us) (match x with|some (r,[])=>gd (isFlat r) (f r)|_=>none)
def fnX (v:PV) (f:Nat→List PV→Option R):Option R:=match v with| .fn i cs=>f i cs|_=>none
def newX (s:St) (d:Nat) (g:Bool) (cs:List PV) (k:St→Option R):Option R:=
 match g with
 |true=>putK s.env d (.ptr true s.gh.length 0) fun e=>k ⟨e,s.lh,s.gh++[.cells cs]⟩
 |false=>putK s.env d (.ptr false s.lh.length 0) fun e=>snocK s.lh cs fun lh=>k ⟨e,lh,s.gh⟩
def binX (op:BinOp) (a b:PV) (f:PV→Option R):Option R:=
 match a,b with
 | .int k x,.int k' y=>match op with
  | .add=>kE k k' (f (.int k (k.wrap (x+y))))
  | .sub=>kE k k' (f (.int k (k.wrap (x-y))))
  | .mul=>kE k k' (f (.int k (k.wrap (x*y))))
  | .quo=>kE k k' (gd (decide (y≠0)) (f (.int k (k.wrap (x.tdiv y)))))
  | .rem=>kE k k' (gd (decide (y≠0)) (f (.int k (x.tmod y))))
  | .and=>kE k k' (f (.int k (iAnd k x y)))
  | .or=>kE k k' (f (.int k (iOr k x y)))
  | .xor=>kE k k' (f (.int k (iXor k x y)))
  | .eql=>kE k k' (f (.bool (x==y)))
  | .neq=>kE k k' (f (.bool (x !=y)))
  | .lss=>kE k k' (f (.bool (decide (x<y))))
  | .leq=>kE k k' (f (.bool (decide (x≤y))))
  | .gtr=>kE k k' (f (.bool (decide (y<x))))
  | .geq=>kE k k' (f (.bool (decide (y≤x))))
  | .shl=>gd (decide (0≤y)) (f (.int k (iShl k x y)))
  | .shr=>gd (decide (0≤y)) (f (.int k (iShr k x y)))
  |op=>ob (binPV op (.int k x) (.int k' y)) f
 | .str x,.str y=>match op with
  | .eql=>f (.bool (x.toList==y.toList))
  | .neq=>f (.bool (!(x.toList==y.toList)))
  |op=>ob (binPV op (.str x) (.str y)) f
 |_,_=>none
def unX (op:UnOp) (a:PV) (f:PV→Option R):Option R:=
 match op,a with
 | .neg,.int k n=>f (.int k (k.wrap (0-n)))
 | .xor,.int k n=>f (.int k (iNot k n))
 | .not,.bool b=>f (.bool (!b))
 |_,_=>none
def maxX (vs:List PV) (f:PV→Option R):Option R:=
 match vs with
 |[.int k a,.int k' b]=>kE k k' (f (.int k (if b>a then b else a)))
 |_=>none
def setO (an:Tr) (s:St) (d:Option Nat) (v:PV) (k:St→Option R):Option R:=
 match d with
 |some d=>setX an s d v k
 |none=>k s
noncomputable def q4x (cf:CallF) (an:Tr) (s:St) (k:St→Option R) (d:Nat) (x:IX):Option R:=match evK s.env x with
  |some v=>setX an s d v k
  |none=>none
noncomputable def q4y (cf:CallF) (an:Tr) (s:St) (k:St→Option R) (d:Nat) (n:Nat):Option R:=match getX s.env n with
  |some v=>putK s.env n (degr v) fun e=>putK e d v fun e=>k ⟨e,s.lh,s.gh⟩
  |none=>none
noncomputable def q4z (cf:CallF) (an:Tr) (s:St) (k:St→Option R) (d:Nat) (c:IX) (x:IX) (y:IX):Option R:=match evX s.env c,evX s.env x,evX s.env y with
  |some c,some v,some w=>unB c fun b=>br d b (setX an s d v k) (setX an s d w k)
  |_,_,_=>none
noncomputable def q32 (cf:CallF) (an:Tr) (s:St) (k:St→Option R) (d:Nat) (g:Bool) (x:IX):Option R:=tkX s.env x fun v e=>arK v (cellsX (shX an x) v fun cs=>newX ⟨e,s.lh,s.gh⟩ d g cs k)
noncomputable def q33 (cf:CallF) (an:Tr) (s:St) (k:St→Option R) (d:Nat) (g:Bool) (x:IX):Option R:=match evX s.env x with
  |some v=>arK v (cellsX (shX an x) v fun cs=>newX s d g cs k)
  |none=>none
noncomputable def q50 (cf:CallF) (an:Tr) (s:St) (k:St→Option R) (d:Nat) (g:Bool) (z:PV):Option R:=arK z (newX s d g z.cells k)
noncomputable def q51 (cf:CallF) (an:Tr) (s:St) (k:St→Option R) (d:Nat) (z:List PV) (ps:List (Nat×Nat×IX)):Option R:=arL z (psX an s.env ps z fun cs=>putS s d (.agg cs) k)
noncomputable def q52 (cf:CallF) (an:Tr) (s:St) (k:St→Option R) (d:Nat) (z:List PV) (ps:List (Nat×Nat×IX)):Option R:=arL z (psT an s.env ps z fun e cs=>putK e d (.agg cs) fun e=>k ⟨e,s.lh,s.gh⟩)
noncomputable def q53 (cf:CallF) (an:Tr) (s:St) (k:St→Option R) (d:Nat) (z:Nat) (els:List IX):Option R:=evXs s.env els fun vs=>slK z vs (putS s d (.sl true z vs) k)
noncomputable def q54 (cf:CallF) (an:Tr) (s:St) (k:St→Option R) (d:Nat) (agg:Bool) (kk:Nat) (a:IX):Option R:=match evX s.env a with
  |some p=>ldX s.lh s.gh agg kk p fun v=>setX an s d v k
  |none=>none
noncomputable def q55 (cf:CallF) (an:Tr) (s:St) (k:St→Option R) (d:Nat) (a:IX):Option R:=match evX s.env a with
  |some (.ptr false b off)=>match nthX s.lh b with
   |some cs=>ob cs[off]? fun v=>setK s.lh b (spliceAt cs off [degr1 v]) fun lh=>putK s.env d v fun e=>k ⟨e,lh,s.gh⟩
   |none=>none
  |some (.ptr true b off)=>ob (ghCells s.gh b) fun cs=>ob cs[off]? fun v=>putK s.env d v fun e=>k ⟨e,s.lh,s.gh.set b (.cells (spliceAt cs off [degr1 v]))⟩
  |_=>none
noncomputable def q34 (cf:CallF) (an:Tr) (s:St) (k:St→Option R) (kk:Nat) (a:IX) (x:IX):Option R:=match evX s.env a with
  |some p=>tkX s.env x fun v e=>arK v (cellsX (shX an x) v fun cs=>stoX ⟨e,s.lh,s.gh⟩ p kk cs k)
  |none=>none
noncomputable def q35 (cf:CallF) (an:Tr) (s:St) (k:St→Option R) (kk:Nat) (a:IX) (x:IX):Option R:=match evX s.env a,evX s.env x with
  |some p,some v=>arK v (cellsX (shX an x) v fun cs=>stoX s p kk cs k)
  |_,_=>none
noncomputable def q56 (cf:CallF) (an:Tr) (s:St) (k:St→Option R) (d:Nat) (x:IX):Option R:=match evX s.env x with
  |some p=>gd (isPtr p) (setX an s d p k)
  |none=>none
noncomputable def q57 (cf:CallF) (an:Tr) (s:St) (k:St→Option R) (d:Nat) (op:BinOp) (x:IX) (y:IX):Option R:=match evX s.env x,evX s.env y with
  |some a,some b=>binX op a b fun v=>setX an s d v k
  |_,_=>none
noncomputable def q58 (cf:CallF) (an:Tr) (s:St) (k:St→Option R) (d:Nat) (neg:Bool) (x:IX) (y:IX):Option R:=match evX s.env x,evX s.env y with
  |some a,some b=>unB a fun a=>unB b fun b=>putS s d (.bool (match neg with|true=>a !=b|false=>a==b)) k
  |_,_=>none
noncomputable def q59 (cf:CallF) (an:Tr) (s:St) (k:St→Option R) (d:Nat) (op:UnOp) (x:IX):Option R:=match evX s.env x with
  |some a=>unX op a fun v=>setX an s d v k
  |none=>none
noncomputable def q5a (cf:CallF) (an:Tr) (s:St) (k:St→Option R) (d:Nat) (f:Nat) (caps:List IX):Option R:=evXs s.env caps fun vs=>allK vs (putS s d (.fn f vs) k)
noncomputable def q5b (cf:CallF) (an:Tr) (s:St) (k:St→Option R) (d:Nat):Option R:=putK s.env d (.ptr true s.gh.length 0) fun e=>k ⟨e,s.lh,s.gh++[.bld .empty]⟩
noncomputable def q5c (cf:CallF) (an:Tr) (s:St) (k:St→Option R) (d:Nat):Option R:=putK s.env d (.mp s.gh.length) fun e=>k ⟨e,s.lh,s.gh++[.map []]⟩
noncomputable def q5d (cf:CallF) (an:Tr) (s:St) (k:St→Option R) (d:Nat) (z:Nat) (x:IX) (lo:Option IX) (hi:Option IX):Option R:=match evX s.env x with
  |some v=>boX s.env lo fun lo=>boX s.env hi fun hi=>slX z v lo hi fun w=>setX an s d w k
  |none=>none
noncomputable def q5e (cf:CallF) (an:Tr) (s:St) (k:St→Option R) (d:Nat) (x:IX) (off:Nat):Option R:=match evX s.env x with
  |some p=>faX p off fun p=>setX an s d p k
  |none=>none
noncomputable def q5f (cf:CallF) (an:Tr) (s:St) (k:St→Option R) (d:Nat) (z:Nat) (arr:Option Nat) (x:IX) (i:IX):Option R:=match evX s.env i,evX s.env x with
  |some i,some v=>anyI i fun i=>idX z arr v i fun p=>setX an s d p k
  |_,_=>none
noncomputable def q5g (cf:CallF) (an:Tr) (s:St) (k:St→Option R) (kn:Nat) (m:IX) (kx:IX) (x:IX):Option R:=match evX s.env m,evX s.env kx,evX s.env x with
  |some m,some kv,some v=>muX s.gh kn m kv v fun gh=>k ⟨s.env,s.lh,gh⟩
  |_,_,_=>none
noncomputable def q5h (cf:CallF) (an:Tr) (s:St) (k:St→Option R) (d:Option Nat) (q:Bool) (f:Nat) (xs:List IX):Option R:=evXs s.env xs fun vs=>allK vs (callR s.gh q (cf f vs s.gh) fun r gh=>setO an ⟨s.env,s.lh,gh⟩ d r k)
noncomputable def q5i (cf:CallF) (an:Tr) (s:St) (k:St→Option R) (d:Option Nat) (q:Bool) (fv:IX) (xs:List IX):Option R:=match evX s.env fv with
  |some fv=>evXs s.env xs fun vs=>fnX fv fun f caps=>allK vs (allK caps (callR s.gh q (cf f (vs++caps) s.gh) fun r gh=>setO an ⟨s.env,s.lh,gh⟩ d r k))
  |none=>none
noncomputable def q1h (cf:CallF) (an:Tr) (s:St) (k:St→Option R) (d:Nat) (x:IX):Option R:=match evX s.env x with
  |some v=>lenS v fun n=>putS s d (.int .i64 n) k
  |none=>none
noncomputable def q1i (cf:CallF) (an:Tr) (s:St) (k:St→Option R) (d:Nat) (x:IX):Option R:=match evX s.env x with
  |some v=>unS v fun b=>putS s d (.int .i64 b.size) k
  |none=>none
noncomputable def q1j (cf:CallF) (an:Tr) (s:St) (k:St→Option R) (d:Nat) (x:IX):Option R:=match evX s.env x with
  |some v=>lenM s.gh v fun n=>putS s d (.int .i64 n) k
  |none=>none
noncomputable def q5j (cf:CallF) (an:Tr) (s:St) (k:St→Option R) (d:Nat) (z:Nat) (bytes:Nat) (sx:IX) (x:IX):Option R:=match evX s.env x with
  |some w=>tkX s.env sx fun v e=>apX z bytes v w fun ys=>putK e d (.sl true z ys) fun e=>k ⟨e,s.lh,s.gh⟩
  |none=>none
noncomputable def q5k (cf:CallF) (an:Tr) (s:St) (k:St→Option R) (d:Nat) (xs:List IX):Option R:=evXs s.env xs fun vs=>maxX vs fun v=>setX an s d v k
noncomputable def q5l (cf:CallF) (an:Tr) (s:St) (k:St→Option R) (d:Nat) (x:IX) (i:Nat):Option R:=match evX s.env x with
  |some v=>exX v i fun v=>setX an s d v k
  |none=>none
def skK (gh:List GObj) (v w:PV) (f:List GObj→Option R):Option R:=
 match v with
 | .pstk b gen i=>ob (ghStk gh b) fun p=>gd (decide (p.1=gen∧i<p.2.length∧isFlat w=true)) (f (gh.set b (.stk p.1 (p.2.set i w))))
 |_=>none
def ckK (gh:List GObj) (v:PV) (f:List GObj→Option R):Option R:=
 match v with
 | .sub b gen off n=>ob (ghStk gh b) fun p=>gd (decide (p.1=gen∧off+n≤p.2.length)) (f (gh.set b (.stk p.1 (p.2.take off++List.replicate n (.int .i64 0)++p.2.drop (off+n)))))
 |_=>none
def aeX (gh:List GObj) (bytes:Nat) (v w:PV) (f:List PV→Option R):Option R:=
 match v with
 | .sl o z1 xs=>ob (elsOf gh w) fun ys=>gd (decide (o=true∧z1=1∧ys.all isFlat=true∧(xs.length+ys.length)*bytes≤maxBytes)) (f (xs++ys))
 |_=>none
noncomputable def kbX (gh gh':List GObj) (v:PV) (x:Option R):Option R:=
 open Classical in
 match v with
 | .ptr true b _=>if b<gh.length∧gh'[b]?=gh[b]? then x else none
 | .pstk b _ _=>if b<gh.length∧gh'[b]?=gh[b]? then x else none
 | .stk b _ _=>if b<gh.length∧gh'[b]?=gh[b]? then x else none
 |_=>none
noncomputable def kpX (e:List (Nat×PV)) (gh gh':List GObj):List Nat→Option R→Option R
 |[],x=>x
 |n::l,x=>match getX e n with
  |some v=>kbX gh gh' v (kpX e gh gh' l x)
  |none=>none
def lbX (gh:List GObj) (agg:Bool) (k:Nat) (p q:PV) (f:PV→Option R):Option R:=
 match p,q with
 | .ptr true b off,.ptr true b' _=>gd (decide (b=b')) (ob (ghCells gh b) fun cs=>ob (grab agg k off cs) fun v=>f (degr v))
 |_,_=>none
def lkbX (gh:List GObj) (p q:PV) (f:PV→Option R):Option R:=
 match p,q with
 | .pstk b gen i,.stk b' _ _=>gd (decide (b=b')) (ob (stkGet gh b gen i) f)
 |_,_=>none
def ltbX (gh:List GObj) (p q:PV) (o2:Nat) (f:PV→List GObj→Option R):Option R:=
 match p,q with
 | .ptr true b off,.ptr true b' o=>gd (decide (b=b'∧off=o+o2)) (ob (ghCells gh b) fun cs=>ob cs[off]? fun v=>f v (gh.set b (.cells (spliceAt cs off [degr1 v]))))
 |_,_=>none
def rtP (c:List GObj→Option (PV×List GObj)) (gh:List GObj) (b off:Nat):Prop:=
 ∃g1 g2 r1 r2,setRt gh b off true=some g1∧setRt gh b off false=some g2∧c g1=some r1∧c g2=some r2∧r1.1=r2.1∧r1.2[b]?=g1[b]?∧r2.2[b]?=g2[b]?∧setRt r1.2 b off false=some r2.2∧setRt r2.2 b off true=some r1.2
noncomputable def rtK (c:List GObj→Option (PV×List GObj)) (gh:List GObj) (v:PV) (off:Nat) (x:Option R):Option R:=
 open Classical in
 match v with
 | .ptr true b o=>if rtP c gh b (o+off) then x else none
 |_=>none
noncomputable def opX (cf:CallF) (an:Tr) (s:St) (o:IOp) (k:St→Option R):Option R:=
 match o with
 | .mv d x=>q4x cf an s k d x
 | .tk d n=>q4y cf an s k d n
 | .pick d c x y=>q4z cf an s k d c x y
 | .box d g true x=>q32 cf an s k d g x
 | .box d g false x=>q33 cf an s k d g x
 | .alloc d g z=>q50 cf an s k d g z
 | .build d z ps=>q51 cf an s k d z ps
 | .buildT d z ps=>q52 cf an s k d z ps
 | .buildSl d z els=>q53 cf an s k d z els
 | .load d agg kk a=>q54 cf an s k d agg kk a
 | .loadT d a=>q55 cf an s k d a
 | .store true kk a x=>q34 cf an s k kk a x
 | .store false kk a x=>q35 cf an s k kk a x
 | .nilc d x=>q56 cf an s k d x
 | .bin d op x y=>q57 cf an s k d op x y
 | .eqb d neg x y=>q58 cf an s k d neg x y
 | .un d op x=>q59 cf an s k d op x
 | .mkfn d f caps=>q5a cf an s k d f caps
 | .mkmap d=>q5c cf an s k d
 | .slice d z x lo hi=>q5d cf an s k d z x lo hi
 | .faddr d x off=>q5e cf an s k d x off
 | .iaddr d z arr x i=>q5f cf an s k d z arr x i
 | .mupd kn m kx x=>q5g cf an s k kn m kx x
 | .call d q f xs=>q5h cf an s k d q f xs
 | .callv d q fv xs=>q5i cf an s k d q fv xs
 | .len d 0 x=>q1h cf an s k d x
 | .len d 1 x=>q1i cf an s k d x
 | .len d 2 x=>q1j cf an s k d x
 | .len _ _ _=>none
 | .append d z bytes sx x=>q5j cf an s k d z bytes sx x
 | .maxi d xs=>q5k cf an s k d xs
 | .extract d x i=>q5l cf an s k d x i
 | .mkbld d=>q5b cf an s k d
 |_=>none
def skX (s:St) (o:IOp) (k:St→Option R):Option R:=
 match opDst o with
 |some d=>putS s d .und k
 |none=>k s
noncomputable def opsX (cf:CallF) (an:Tr):List IOpG→St→(St→Option R)→Option R
 |[],s,k=>k s
 |⟨o,none⟩::l,s,k=>opX cf an s o fun s=>opsX cf an l s k
 | ⟨o,some (g,want)⟩::l,s,k=>match getX s.env g with
  | some (.bool b)=>br g b
    (putS s g (.bool true) fun s=>match want with
     |true=>opX cf an s o fun s=>opsX cf an l s k
     |false=>skX s o fun s=>opsX cf an l s k)
    (putS s g (.bool false) fun s=>match want with
     |false=>opX cf an s o fun s=>opsX cf an l s k
     |true=>skX s o fun s=>opsX cf an l s k)
  |some .und=>skX s o fun s=>opsX cf an l s k
  |_=>none
def keepX (nl:Nat):List Nat→List (Nat×PV)→(List (Nat×PV)→Option R)→Option R
 |[],_,f=>f []
 |t::l,e,f=>match getX e t with
  |some v=>stK nl v (keepX nl l e fun e'=>f ((t,v)::e'))
  |none=>keepX nl l e f
def po (ks:List Nat) (nl:Nat) (e:IExit) (s:St) (k:IExit→St→Option R):Option R:=
 match e with
 | .normal=>keepX nl ks s.env fun e=>takeK nl s.lh fun lh=>k .normal ⟨e,lh,s.gh⟩
 |e=>k e s
def tagX:IX→Nat
 | .t n=>n
 |_=>0
noncomputable def runX (pg:Prg) (an:Tr):ICode→St→(IExit→St→Option R)→Option R
 | .skip,s,k=>k .normal s
 | .region ops _,s,k=>opsX (callL pg) an ops s (k .normal)
 | .seq a b,s,k=>runX pg an a s fun e s'=>nx e s' k fun s'=>runX pg an b s' k
 | .cond x a b,s,k=>match evX s.env x with
  |some v=>unB v fun c=>br (tagX x) c (runX pg an a s k) (runX pg an b s k)
  |none=>none
 | .block id a,s,k=>runX pg an a s fun e s'=>bk id e s' k
 | .loop a,s,k=>kR (runL pg (.loop a) s) k
 | .exit i,s,k=>k (.exit i) s
 | .ret,s,k=>k .ret s
 | .post a ks nl,s,k=>runX pg an a s fun e s'=>po ks nl e s' k
 | .cut a,s,k=>kR (runL pg a s) k
 | .bad,_,_=>none
end
abbrev DR:=Option (IExit×St)
abbrev tI (k:Nat) (l r:Tr):Tr:= .node k (.ce (.int .i64)) l r
abbrev tB (k:Nat) (l r:Tr):Tr:= .node k (.ce (.bool)) l r
abbrev tO (k:Nat) (l r:Tr):Tr:= .node k (.ce (.one)) l r
abbrev tG (k:Nat) (l r:Tr):Tr:= .node k (.ce (.gp)) l r
abbrev uI (k:Nat):Tr:= .node k (.ce (.int .i64)) .nil .nil
abbrev uB (k:Nat):Tr:= .node k (.ce (.bool)) .nil .nil
abbrev uO (k:Nat):Tr:= .node k (.ce (.one)) .nil .nil
abbrev uG (k:Nat):Tr:= .node k (.ce (.gp)) .nil .nil
end Go.Lw
end
