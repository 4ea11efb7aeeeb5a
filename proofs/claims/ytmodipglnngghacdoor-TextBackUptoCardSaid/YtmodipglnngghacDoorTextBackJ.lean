/-
  The texts that the proof stands on, part 10.
-/
import Derived.Test.YtmodipglnngghacDoorTextBackI
import Derived.Lib.AtoiAll
set_option linter.unusedVariables false
set_option linter.unusedSimpArgs false
set_option linter.unnecessarySimpa false

/-! Library functions of strings and numerals, as the machine has them. -/
section
namespace Go.Lw
open Go
abbrev bA (l:List UInt8):ByteArray:=⟨l.toArray⟩
def digK:Nat→Nat→List UInt8
 |0,_=>[]
 |k+1,u=>if u<10 then [UInt8.ofNat (48+u)] else digK k (u/10)++[UInt8.ofNat (48+u%10)]
def itoaK (n:Int):List UInt8:=if n<0 then 45::digK 20 n.natAbs else digK 20 n.toNat
def cutK (c:UInt8):List UInt8→List UInt8×List UInt8×Bool
 |[]=>([],[],false)
 |b::r=>if b=c then ([],r,true) else (b::(cutK c r).1,(cutK c r).2.1,(cutK c r).2.2)
def splitK (c:UInt8):List UInt8→List (List UInt8)
 |[]=>[[]]
 |b::r=>if b=c then []::splitK c r else match splitK c r with
  |[]=>[[b]]
  |x::l=>(b::x)::l
def libItoa:List PV→List GObj→Option (PV×List GObj)
 |[.int .i64 n],gh=>if -9223372036854775808≤n∧n≤9223372036854775807 then some (.str (bA (itoaK n)),gh) else none
 |_,_=>none
def libAtoi:List PV→List GObj→Option (PV×List GObj)
 |[.str s],gh=>if s.size≤281474976710656 then match Lib.atoiAll s.data.toList with
  | .ok v=>some (.tup [.int .i64 v,.nilI],gh)
  | .range=>some (.tup [.int .i64 (Lib.atoiSat s.data.toList),.someI],gh)
  | _ =>some (.tup [.int .i64 0,.someI],gh)
  else none
 |_,_=>none
def libCut:List PV→List GObj→Option (PV×List GObj)
 |[.str s,.str sep],gh=>match sep.data.toList with
  |[c]=>if s.size<4294967281 then some (.tup [.str (bA (cutK c s.data.toList).1),.str (bA (cutK c s.data.toList).2.1),.bool (cutK c s.data.toList).2.2],gh) else none
  |_=>none
 |_,_=>none
def libSplit:List PV→List GObj→Option (PV×List GObj)
 |[.str s,.str sep],gh=>match sep.data.toList with
  |[c]=>if s.size<4294967281 then some (.sl false 1 ((splitK c s.data.toList).map fun x=> .str (bA x)),gh) else none
  |_=>none
 |_,_=>none
def libWS:List PV→List GObj→Option (PV×List GObj)
 |[.ptr true b 0,.str s],gh=>match gh[b]? with
  |some (.bld t)=>if s.size≠0∧t.size+s.size≤140737488355328 then some (.tup [.int .i64 s.size,.nilI],gh.set b (.bld (t++s))) else none
  |_=>none
 |_,_=>none
def libWB:List PV→List GObj→Option (PV×List GObj)
 |[.ptr true b 0,.int .u8 c],gh=>match gh[b]? with
  |some (.bld t)=>if 0≤c∧c<256∧t.size+1≤140737488355328 then some (.nilI,gh.set b (.bld (t++bA [UInt8.ofNat c.toNat]))) else none
  |_=>none
 |_,_=>none
def libBS:List PV→List GObj→Option (PV×List GObj)
 |[.ptr true b 0],gh=>match gh[b]? with
  |some (.bld t)=>some (.str t,gh.set b (.cells [if t.size=0 then .nilp else .ptr true b 0,.sl false 1 (t.data.toList.map fun c=> .int .u8 c.toNat)]))
  |_=>none
 |_,_=>none
def wordsL:List (List UInt8):=[[],[99,111,110,115,116],[105,110,112,117,116],[115,116,97,116,101],[110,111,116],[110,101,103],[97,110,100],[111,114],[120,111,114],[97,100,100],[115,117,98],[109,117,108],[100,105,118],[114,101,109],[115,104,108],[115,104,114],[101,113],[108,101,115,115],[115,105,103,110,101,100],[105,102],[106,111,105,110],[99,117,116],[119,105,100,101],[115,112,114,101,97,100]]
def textWords:List ByteArray:=wordsL.map bA
end Go.Lw
end

/-! The code of package Text for the small machine. Written by program (gen.py). -/
section
set_option maxRecDepth 10000
namespace Go.Lw
open Go
/- 347: latchwork/text.Print -/
def q1l:ICode:=
 (pQ [oM 46 5,oM 47 6,oY 48 260 [47],oN (.bin 49 .add 48 (.c (.str ⟨#[32]⟩))),oN (.loadG 50 textWords),oF 51 7 0,oL 52 51,oA 53 50 52,oL 54 53,oN (.bin 55 .add 49 54),oM 56 8,
 oX 57 356 [46,55,56]] [1,5,25,26,27] 1)
def q1m:ICode:=
 (pR [oP 58 27 1,oM 27 58] [1,5,25,26,27] 1)
def q75:ICode:=
 (.post (.seq (.region [oW 28 27 26] false)
 (.seq (.cond 28 .skip
 (.exit 0))
 (.seq (.block 1 (sR [oM 29 27,oN (.iaddr 30 6 none 25 27),oN (.load 31 true 6 30),oN (.alloc 7 false (.agg [I 0,I 0,I 0,I 0,I 0,I 0])),oM 6 29,oN (.store false 6 7 31)] [1,5,6,7,25,26,27] 2
 (sQ [oF 32 7 1,oL 33 32,oN (.buildSl 34 1 [33]),oN (.load 35 true 6 7),oY 36 81 [35],oN (.append 37 1 8 34 36),oT 8 37] [1,5,6,7,8,25,26,27] 2
 (.seq (sR [oF 38 7 0,oL 39 38,oY 40 352 [39]] [1,5,6,7,8,25,26,27,40] 2
 (.cond 40 (.post (pR [oT 41 8,oF 42 7 5,oL 43 42,oN (.buildSl 44 1 [43]),oN (.append 45 1 8 41 44),oT 8 45] [1,5,6,7,8,25,26,27] 2) [1,5,6,7,8,25,26,27] 2)
 (.post .skip [1,5,6,7,8,25,26,27] 2)))
 (.cut q1l)))))
 (.cut q1m)))) [1,5,25,26,27] 1)
def q4e:ICode:=
 (.post (.block 0 (.loop q75)) [1,5] 1)
def q76:ICode:=
 (.post (.seq (.region [oW 63 62 61] false)
 (.seq (.cond 63 .skip
 (.exit 2))
 (.seq (.block 3 (sR [oN (.iaddr 64 2 none 60 62),oN (.load 65 true 2 64),oN (.alloc 10 false (.agg [I 0,I 0])),oN (.store false 2 10 65)] [1,5,10,60,61,62] 2
 (pR [oM 66 5,oF 67 10 0,oL 68 67,oF 69 10 1,oL 70 69,oN (.buildSl 71 1 [68,70]),oN (.call (some 72) false 356 [66,(.c (.str ⟨#[105,110,105,116]⟩)),71])] [1,5,60,61,62] 1)))
 (pR [oP 73 62 1,oM 62 73] [1,5,60,61,62] 1)))) [1,5,60,61,62] 1)
def q4f:ICode:=
 (.post (.block 2 (.loop q76)) [1,5] 1)
def q77:ICode:=
 (.post (.seq (.region [oW 78 77 76] false)
 (.seq (.cond 78 .skip
 (.exit 4))
 (.seq (.block 5 (sR [oN (.iaddr 79 2 none 75 77),oN (.load 80 true 2 79),oN (.alloc 12 false (.agg [I 0,I 0])),oN (.store false 2 12 80)] [1,5,12,75,76,77] 2
 (pR [oM 81 5,oF 82 12 0,oL 83 82,oF 84 12 1,oL 85 84,oN (.buildSl 86 1 [83,85]),oN (.call (some 87) false 356 [81,(.c (.str ⟨#[110,101,120,116]⟩)),86])] [1,5,75,76,77] 1)))
 (pR [oP 88 77 1,oM 77 88] [1,5,75,76,77] 1)))) [1,5,75,76,77] 1)
def q4g:ICode:=
 (.post (.block 4 (.loop q77)) [1,5] 1)
def q78:ICode:=
 (.post (.seq (.region [oW 93 92 91] false)
 (.seq (.cond 93 .skip
 (.exit 6))
 (.seq (.block 7 (sR [oA 94 90 92,oL 95 94,oM 14 95] [1,5,14,90,91,92] 1
 (pR [oM 96 5,oM 97 14,oN (.buildSl 98 1 [97]),oN (.call (some 99) false 356 [96,(.c (.str ⟨#[98,97,100]⟩)),98])] [1,5,90,91,92] 1)))
 (pR [oP 100 92 1,oM 92 100] [1,5,90,91,92] 1)))) [1,5,90,91,92] 1)
def q4h:ICode:=
 (.post (.block 6 (.loop q78)) [1,5] 1)
def q79:ICode:=
 (.post (.seq (.region [oW 105 104 103] false)
 (.seq (.cond 105 .skip
 (.exit 8))
 (.seq (.block 9 (sR [oA 106 102 104,oL 107 106,oM 16 107] [5,16,102,103,104] 0
 (pR [oM 108 5,oM 109 16,oN (.buildSl 110 1 [109]),oN (.call (some 111) false 356 [108,(.c (.str ⟨#[104,111,108,100]⟩)),110])] [5,102,103,104] 0)))
 (pR [oP 112 104 1,oM 104 112] [5,102,103,104] 0)))) [5,102,103,104] 0)
def q4i:ICode:=
 (.post (.block 8 (.loop q79)) [5] 0)
def q2e:ICode:=
 (sR [oM 113 5,oC 114 113,oF 115 114 0,oX 116 359 [115],oM 2 116,oK 3 0] [2,3] 0
 .ret)
def q2f:ICode:=
 (.seq (sR [oF 101 1 4,oL 102 101,oD 103 102,oK 104 0] [5,102,103,104] 0
 (.cut q4i))
 (.cut q2e))
def q2g:ICode:=
 (.seq (sR [oF 89 1 3,oL 90 89,oD 91 90,oK 92 0] [1,5,90,91,92] 1
 (.cut q4h))
 (.cut q2f))
def q2h:ICode:=
 (.seq (sR [oF 74 1 2,oL 75 74,oD 76 75,oK 77 0] [1,5,75,76,77] 1
 (.cut q4g))
 (.cut q2g))
def q2i:ICode:=
 (.seq (sR [oF 59 1 1,oL 60 59,oD 61 60,oK 62 0] [1,5,60,61,62] 1
 (.cut q4f))
 (.cut q2h))
def q7a:ICode:=
 (sR [oB 1 0,oN (.mv 2 (.c (.str ByteArray.empty))),oK 3 0] [1] 1
 (.seq (sR [oN (.load 17 true 5 1),oY 18 38 [17],oM 4 18] [1,4] 1
 (sR [oM 19 4,oN (.bin 20 .neq 19 (.c (I 0)))] [1,4,20] 1
 (.cond 20 (sR [oM 21 4,oN (.mv 2 (.c (.str ByteArray.empty))),oM 3 21] [2,3] 0
 .ret)
 .skip)))
 (sR [oN (.build 22 [.nilp,.nils] []),oN (.boxB 23 22),oM 5 23] [1,5] 1
 (.seq (sR [oF 24 1 0,oL 25 24,oD 26 25,oK 27 0] [1,5,25,26,27] 1
 (.cut q4e))
 (.cut q2i)))))
def q1n:IFunc:={np:=1,res:=[.t 2,.t 3],own:=false,trunc:=true,body:=q7a }
/- 348: latchwork/text.Parse -/
def q7b:ICode:=
 (.post (.seq (sR [oM 17 0,oN (.bin 18 .neq 17 (.c (.str ByteArray.empty)))] [0,2,5,6,18] 1
 (.cond 18 .skip
 (.exit 0)))
 (.seq (.block 1 (sR [oM 22 0,oN (.call (some 23) true 255 [22,(.c (.str ⟨#[10]⟩))]),oM 21 23,oG 24 21 0,oG 25 21 1,oG 26 21 2,oM 7 24,oM 8 25,oM 9 26] [2,5,6,7,8,9] 1
 (.seq (sR [
 oM 27 9,
 oN (.un 28 .not 27),
 oM 29 28,
  ⟨.mv 30 5,some (29,false)⟩,
  ⟨.mv 31 7,some (29,false)⟩,
  ⟨.call (some 32) false 353 [30,31],some (29,false)⟩,
  ⟨.un 33 .not 32,some (29,false)⟩,
 oN (.pick 34 29 (.c (.bool true)) 33)] [2,5,6,8,34] 1
 (.cond 34 (sR [oN (.build 35 [.sl true 6 [],.sl true 2 [],.sl true 2 [],.sl true 1 [],.sl true 1 []] []),oM 36 6,oN (.store true 5 2 35),oM 3 36,oK 4 1] [2,3,4] 1
 .ret)
 .skip))
 (pR [oM 37 8,oM 0 37] [0,2,5,6] 1))))
 (pR [oM 19 6,oP 20 19 1,oM 6 20] [0,2,5,6] 1))) [0,2,5,6] 1)
def q4j:ICode:=
 (.post (.block 0 (.loop q7b)) [2,5] 1)
def q1o:ICode:=
 (.seq (sR [oM 38 5,oC 39 38,oF 40 39 0,oN (.load 41 true 5 40),oY 42 38 [41],oM 10 42] [2,5,10] 1
 (sR [oM 43 10,oN (.bin 44 .neq 43 (.c (I 0)))] [2,5,10,44] 1
 (.cond 44 (sR [oN (.build 45 [.sl true 6 [],.sl true 2 [],.sl true 2 [],.sl true 1 [],.sl true 1 []] []),oM 46 10,oN (.store true 5 2 45),oK 3 0,oM 4 46] [2,3,4] 1
 .ret)
 .skip)))
 (sR [oM 47 5,oC 48 47,oF 49 48 0,oN (.load 50 true 5 49),oN (.store true 5 2 50),oK 3 0,oK 4 0] [2,3,4] 1
 .ret))
def q7c:ICode:=
 (sR [oN (.alloc 2 false (.agg [.sl true 6 [],.sl true 2 [],.sl true 2 [],.sl true 1 [],.sl true 1 []])),oK 3 0,oK 4 0] [0,2] 1
 (.seq (sR [oM 11 0,oN (.len 12 1 11),oN (.bin 13 .gtr 12 (.c (I 10000)))] [0,2,13] 1
 (.cond 13 (sR [oN (.build 14 [.sl true 6 [],.sl true 2 [],.sl true 2 [],.sl true 1 [],.sl true 1 []] []),oN (.store true 5 2 14),oK 3 0,oK 4 2] [2,3,4] 1
 .ret)
 .skip))
 (sR [oN (.build 15 [.sl true 6 [],.sl true 2 [],.sl true 2 [],.sl true 1 [],.sl true 1 [],I 0] []),oN (.box 16 true true 15),oM 5 16] [0,2,5] 1
 (.seq (sR [oK 6 1] [0,2,5,6] 1
 (.cut q4j))
 (.cut q1o)))))
def qm:IFunc:={np:=1,res:=[.cell 2 true 5,.t 3,.t 4],own:=false,trunc:=true,body:=q7c }
/- 352: latchwork/text.has -/
def q7d:ICode:=
 (sR [oN (.mv 2 (.c (.bool false)))] [0] 0
 (sR [
 oM 3 0,
 oE 4 3 1,
 oM 5 4,
  ⟨.mv 6 0,some (5,false)⟩,
  ⟨.bin 7 .eql 6 (.c (I 21)),some (5,false)⟩,
 oN (.pick 8 5 (.c (.bool true)) 7),
 oM 2 8] [2] 0
 .ret))
def q1p:IFunc:={np:=1,res:=[.t 2],own:=false,trunc:=true,body:=q7d }
/- 353: (*latchwork/text.reader).line -/
def qn:ICode:=
 (.seq (.region [oN (.mv 4 (.c (.bool true)))] false)
 .ret)
def q16:ICode:=
 (sR [oM 25 5,oN (.slice 26 1 25 (some (.c (I 1))) none),oM 27 7,oY 28 362 [26,27],oM 24 28,oG 29 24 0,oG 30 24 1,oT 8 29,oM 9 30] [0,6,8,9] 0
 (.seq (sR [
 oM 31 9,
 oN (.un 32 .not 31),
 oM 33 32,
  ⟨.mv 34 6,some (33,false)⟩,
  ⟨.mv 35 0,some (33,false)⟩,
  ⟨.nilc 36 35,some (33,false)⟩,
  ⟨.faddr 37 36 5,some (33,false)⟩,
  ⟨.load 38 false 1 37,some (33,false)⟩,
  ⟨.bin 39 .lss 34 38,some (33,false)⟩,
 oN (.pick 40 33 (.c (.bool true)) 39)] [0,6,8,40] 0
 (.cond 40 (sR [oN (.mv 4 (.c (.bool false)))] [4] 0
 .ret)
 .skip))
 (sR [oM 41 0,oM 42 6,oC 43 41,oF 44 43 5,oN (.store false 1 44 42)] [0,6,8] 0
 (.seq (sR [oM 45 6] [0,8,45] 0
 (.block 0 (sR [oE 47 45 1,oM 46 47] [0,8,45,46] 0
 (.cond 46 (.post (pQ [oM 48 0,oM 49 0,oC 50 49,oF 51 50 0,oF 52 51 1,oN (.loadT 53 52),oM 54 8,oN (.iaddr 55 1 none 54 (.c (I 0))),oL 56 55,oM 57 8,oN (.iaddr 58 1 none 57 (.c (I 1))),oL 59 58,
 oN (.build 60 [I 0,I 0] [(0,1,56),(1,1,59)]),oN (.buildSl 61 2 [60]),oN (.append 62 2 16 53 61),oC 63 48,oF 64 63 0,oF 65 64 1,oN (.store true 1 65 62)] [] 0) [] 0)
 (.post (sR [oE 67 45 2,oM 66 67] [0,8,45,66] 0
 (.cond 66 (.post (pQ [oM 68 0,oM 69 0,oC 70 69,oF 71 70 0,oF 72 71 2,oN (.loadT 73 72),oM 74 8,oN (.iaddr 75 1 none 74 (.c (I 0))),oL 76 75,oM 77 8,oN (.iaddr 78 1 none 77 (.c (I 1))),oL 79 78,
 oN (.build 80 [I 0,I 0] [(0,1,76),(1,1,79)]),oN (.buildSl 81 2 [80]),oN (.append 82 2 16 73 81),oC 83 68,oF 84 83 0,oF 85 84 2,oN (.store true 1 85 82)] [] 0) [] 0)
 (.post (sR [oE 87 45 3,oM 86 87] [0,8,45,86] 0
 (.cond 86 (.post (pQ [oM 88 0,oM 89 0,oC 90 89,oF 91 90 0,oF 92 91 3,oN (.loadT 93 92),oM 94 8,oN (.iaddr 95 1 none 94 (.c (I 0))),oL 96 95,oN (.buildSl 97 1 [96]),oN (.append 98 1 8 93 97),oC 99 88,
 oF 100 99 0,oF 101 100 3,oN (.store true 1 101 98)] [] 0) [] 0)
 (.post (sR [oE 103 45 4,oM 102 103] [0,8,102] 0
 (.cond 102 (.post (pQ [oM 104 0,oM 105 0,oC 106 105,oF 107 106 0,oF 108 107 4,oN (.loadT 109 108),oM 110 8,oN (.iaddr 111 1 none 110 (.c (I 0))),oL 112 111,oN (.buildSl 113 1 [112]),
 oN (.append 114 1 8 109 113),oC 115 104,oF 116 115 0,oF 117 116 4,oN (.store true 1 117 114)] [] 0) [] 0)
 (.post .skip [] 0))) [] 0))) [] 0))) [] 0)))))
 (.cut qn)))))
def q4k:ICode:=
 (sR [oN (.mv 4 (.c (.bool false)))] [0,1] 0
 (sR [oM 10 1,oN (.call (some 11) true 262 [10,(.c (.str ⟨#[32]⟩))]),oT 5 11] [0,5] 0
 (sR [oN (.buildSl 12 1 [(.c (.str ByteArray.empty)),(.c (.str ⟨#[105,110,105,116]⟩)),(.c (.str ⟨#[110,101,120,116]⟩)),(.c (.str ⟨#[98,97,100]⟩)),(.c (.str ⟨#[104,111,108,100]⟩))]),
 oM 13 5,oN (.iaddr 14 1 none 13 (.c (I 0))),oL 15 14,oY 16 360 [12,15],oM 6 16] [0,5,6] 0
 (.seq (sR [oM 17 6,oN (.bin 18 .lss 17 (.c (I 1)))] [0,5,6,18] 0
 (.cond 18 (sR [oM 19 0,oM 20 5,oX 21 361 [19,20],oM 4 21] [4] 0
 .ret)
 .skip))
 (sR [oK 7 2] [0,5,6,7] 0
 (.seq (sR [oM 22 6,oN (.bin 23 .gtr 22 (.c (I 2)))] [0,5,6,7,23] 0
 (.cond 23 (.post (pR [oK 7 1] [0,5,6,7] 0) [0,5,6,7] 0)
 (.post .skip [0,5,6,7] 0)))
 (.cut q16)))))))
def q4l:IFunc:={np:=2,res:=[.t 4],own:=false,trunc:=false,body:=q4k }
/- 356: (*latchwork/text.writer).line -/
def q7e:ICode:=
 (.post (.seq (.region [oW 16 15 14] false)
 (.seq (.cond 16 .skip
 (.exit 0))
 (.seq (.block 1 (sR [oA 17 13 15,oL 18 17,oM 7 18] [0,7,13,14,15] 0
 (pQ [oM 19 0,oC 20 19,oF 21 20 0,oM 22 7,oY 23 260 [22],oN (.bin 24 .add (.c (.str ⟨#[32]⟩)) 23),oX 25 357 [21,24]] [0,13,14,15] 0)))
 (pR [oP 26 15 1,oM 15 26] [0,13,14,15] 0)))) [0,13,14,15] 0)
def q4m:ICode:=
 (.post (.block 0 (.loop q7e)) [0] 0)
def q2j:ICode:=
 (pR [oM 27 0,oC 28 27,oF 29 28 0,oX 30 358 [29,(.c (.int .u8 10))]] [] 0)
def q7f:ICode:=
 (sR [oM 8 0,oC 9 8,oF 10 9 0,oM 11 1,oX 12 357 [10,11]] [0,2] 0
 (.seq (sR [oM 13 2,oD 14 13,oK 15 0] [0,13,14,15] 0
 (.cut q4m))
 (.cut q2j)))
def q4n:IFunc:={np:=3,res:=[],own:=false,trunc:=false,body:=q7f }
/- 361: (*latchwork/text.reader).node -/
def q7g:ICode:=
 (.post (.seq (.region [oW 81 80 79] false)
 (.seq (.cond 81 .skip
 (.exit 0))
 (.seq (.block 1 (sR [oM 82 80,oM 12 82] [0,7,8,9,10,11,12,79,80] 0
 (pQ [oM 83 11,oM 84 12,oA 85 83 84,oL 86 85,oM 87 9,oM 88 12,oN (.bin 89 .add (.c (I 1)) 88),oA 90 87 89,oL 91 90,oC 92 86,oN (.store false 1 92 91)] [0,7,8,9,10,11,79,80] 0)))
 (pR [oP 93 80 1,oM 80 93] [0,7,8,9,10,11,79,80] 0)))) [0,7,8,9,10,11,79,80] 0)
def q17:ICode:=
 (.post (.block 0 (.loop q7g)) [0,7,8,9,10] 0)
def q1q:ICode:=
 (sQ [oM 102 0,oM 103 0,oC 104 103,oF 105 104 0,oF 106 105 0,oN (.loadT 107 106),oN (.load 108 true 6 10),oN (.buildSl 109 6 [108]),oN (.append 110 6 48 107 109),oC 111 102,oF 112 111 0,
 oF 113 112 0,oN (.store true 1 113 110)] [] 0
 (.seq (.region [oN (.mv 4 (.c (.bool true)))] false)
 .ret))
def q2k:ICode:=
 (.seq (sR [oM 94 7,oY 95 352 [94]] [0,8,9,10,95] 0
 (.cond 95 (.post (pR [oM 96 9,oM 97 8,oS 98 97 1,oA 99 96 98,oL 100 99,oF 101 10 5,oN (.store false 1 101 100)] [0,10] 0) [0,10] 0)
 (.post .skip [0,10] 0)))
 (.cut q1q))
def q18:ICode:=
 (sR [oM 61 1,oN (.slice 62 1 61 (some (.c (I 2))) none),oM 63 8,oY 64 362 [62,63],oM 60 64,oG 65 60 0,oG 66 60 1,oT 9 65,oM 6 66] [0,6,7,8,9] 0
 (.seq (sR [oM 67 6,oN (.un 68 .not 67)] [0,7,8,9,68] 0
 (.cond 68 (sR [oN (.mv 4 (.c (.bool false)))] [4] 0
 .ret)
 .skip))
 (sR [oM 69 7,oM 70 9,oN (.iaddr 71 1 none 70 (.c (I 0))),oL 72 71,oN (.build 73 [I 0,I 0,I 0,I 0,I 0,I 0] [(0,1,69),(1,1,72)]),
 oN (.alloc 10 true (.agg [I 0,I 0,I 0,I 0,I 0,I 0])),oN (.store false 6 10 73)] [0,7,8,9,10] 0
 (sR [oF 74 10 2,oF 75 10 3,oF 76 10 4,oN (.buildSl 77 1 [74,75,76]),oT 11 77] [0,7,8,9,10,11] 0
 (.seq (sR [oM 78 7,oY 79 63 [78],oK 80 0] [0,7,8,9,10,11,79,80] 0
 (.cut q17))
 (.cut q2k))))))
def q4o:ICode:=
 (sR [oN (.mv 4 (.c (.bool false)))] [0,1] 0
 (sR [oM 14 1,oN (.iaddr 15 1 none 14 (.c (I 0))),oL 16 15,oY 17 365 [16],oM 13 17,oG 18 13 0,oG 19 13 1,oM 5 18,oM 6 19] [0,1,5,6] 0
 (.seq (sR [
 oM 20 6,
 oN (.un 21 .not 20),
 oM 22 21,
  ⟨.mv 23 5,some (22,false)⟩,
  ⟨.mv 24 0,some (22,false)⟩,
  ⟨.nilc 25 24,some (22,false)⟩,
  ⟨.faddr 26 25 0,some (22,false)⟩,
  ⟨.faddr 27 26 0,some (22,false)⟩,
  ⟨.load 28 false 1 27,some (22,false)⟩,
  ⟨.len 29 0 28,some (22,false)⟩,
  ⟨.bin 30 .neq 23 29,some (22,false)⟩,
 oN (.pick 31 22 (.c (.bool true)) 30),
 oM 32 31,
  ⟨.mv 33 1,some (32,false)⟩,
  ⟨.len 34 0 33,some (32,false)⟩,
  ⟨.bin 35 .lss 34 (.c (I 2)),some (32,false)⟩,
 oN (.pick 36 32 (.c (.bool true)) 35),
 oM 37 36,
  ⟨.mv 38 0,some (37,false)⟩,
  ⟨.nilc 39 38,some (37,false)⟩,
  ⟨.faddr 40 39 5,some (37,false)⟩,
  ⟨.load 41 false 1 40,some (37,false)⟩,
  ⟨.bin 42 .gtr 41 (.c (I 0)),some (37,false)⟩,
 oN (.pick 43 37 (.c (.bool true)) 42)] [0,1,43] 0
 (.cond 43 (sR [oN (.mv 4 (.c (.bool false)))] [4] 0
 .ret)
 .skip))
 (sQ [oN (.loadG 44 textWords),oN (.slice 45 1 44 (some (.c (I 1))) none),oM 46 1,oN (.iaddr 47 1 none 46 (.c (I 1))),oL 48 47,oY 49 360 [45,48],oP 50 49 1,oM 7 50] [0,1,7] 0
 (.seq (sR [oM 51 7,oE 52 51 0] [0,1,7,52] 0
 (.cond 52 (sR [oN (.mv 4 (.c (.bool false)))] [4] 0
 .ret)
 .skip))
 (sR [oM 53 7,oY 54 63 [53],oN (.bin 55 .add (.c (I 1)) 54),oM 8 55] [0,1,7,8] 0
 (.seq (sR [oM 56 7,oY 57 352 [56]] [0,1,7,8,57] 0
 (.cond 57 (.post (pR [oM 58 8,oP 59 58 1,oM 8 59] [0,1,7,8] 0) [0,1,7,8] 0)
 (.post .skip [0,1,7,8] 0)))
 (.cut q18))))))))
def q4p:IFunc:={np:=2,res:=[.t 4],own:=false,trunc:=false,body:=q4o }
/- 362: latchwork/text.numbers -/
def q7h:ICode:=
 (.post (.seq (.region [oW 14 13 12] false)
 (.seq (.cond 14 .skip
 (.exit 0))
 (.seq (.block 1 (sR [oA 15 11 13,oL 16 15,oM 8 16] [1,6,8,11,12,13] 0
 (sR [oM 18 8,oY 19 365 [18],oM 17 19,oG 20 17 0,oG 21 17 1,oM 9 20,oM 10 21] [1,6,9,10,11,12,13] 0
 (.seq (sR [oM 22 10,oN (.un 23 .not 22)] [1,6,9,11,12,13,23] 0
 (.cond 23 (sR [oN (.mv 4 (.c (.sl true 1 []))),oN (.mv 5 (.c (.bool false)))] [4,5] 0
 .ret)
 .skip))
 (pR [oT 24 6,oM 25 9,oN (.buildSl 26 1 [25]),oN (.append 27 1 8 24 26),oT 6 27] [1,6,11,12,13] 0)))))
 (pR [oP 28 13 1,oM 13 28] [1,6,11,12,13] 0)))) [1,6,11,12,13] 0)
def q4q:ICode:=
 (.post (.block 0 (.loop q7h)) [1,6] 0)
def q2l:ICode:=
 (sR [oM 29 6,oM 30 6,oD 31 30,oM 32 1,oN (.bin 33 .eql 31 32),oT 4 29,oM 5 33] [4,5] 0
 .ret)
def q7i:ICode:=
 (sR [oN (.mv 4 (.c (.sl true 1 []))),oN (.mv 5 (.c (.bool false)))] [0,1] 0
 (.seq (.region [oN (.mv 6 (.c (.sl true 1 [])))] false)
 (.seq (sR [oM 11 0,oD 12 11,oK 13 0] [1,6,11,12,13] 0
 (.cut q4q))
 (.cut q2l))))
def q1r:IFunc:={np:=2,res:=[.t 4,.t 5],own:=false,trunc:=true,body:=q7i }
/- 365: latchwork/text.number -/
def q7j:ICode:=
 (sR [oK 2 0,oN (.mv 3 (.c (.bool false)))] [0] 0
 (sR [oM 7 0,oY 8 263 [7],oM 6 8,oG 9 6 0,oG 10 6 1,oM 4 9,oM 5 10] [0,4,5] 0
 (sR [
 oM 11 4,
 oM 12 5,
 oN (.eqn 13 false 12),
 oM 14 13,
  ⟨.mv 15 4,some (14,true)⟩,
  ⟨.bin 16 .geq 15 (.c (I 0)),some (14,true)⟩,
 oN (.pick 17 14 16 (.c (.bool false))),
 oM 18 17,
  ⟨.mv 19 0,some (18,true)⟩,
  ⟨.len 20 1 19,some (18,true)⟩,
  ⟨.bin 21 .leq 20 (.c (I 9)),some (18,true)⟩,
 oN (.pick 22 18 21 (.c (.bool false))),
 oM 23 22,
  ⟨.mv 24 4,some (23,true)⟩,
  ⟨.call (some 25) true 260 [24],some (23,true)⟩,
  ⟨.mv 26 0,some (23,true)⟩,
  ⟨.bin 27 .eql 25 26,some (23,true)⟩,
 oN (.pick 28 23 27 (.c (.bool false))),
 oM 2 11,
 oM 3 28] [2,3] 0
 .ret)))
def qw:IFunc:={np:=1,res:=[.t 2,.t 3],own:=false,trunc:=true,body:=q7j }
end Go.Lw
end
