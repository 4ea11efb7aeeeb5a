/-
  The texts that the proof stands on, part 3.
-/
import Derived.Test.YtmodipglnngghacGreatDoorTextParsesB
set_option linter.unusedVariables false
set_option linter.unusedSimpArgs false
set_option linter.unnecessarySimpa false

/-! Library functions, told as they are. -/
section
namespace Go.Lw
open Go
def libGrow (z bytes:Nat):List PV→List GObj→Option (PV×List GObj)
 |[.nils,.int .i64 n],gh=>if 0≤n∧n.toNat*bytes≤maxBytes then some (.sl true z [],gh) else none
 |_,_=>none
end Go.Lw
end

/-! The code of package Law for the small machine. Written by program (gen.py). -/
section
set_option maxRecDepth 10000
namespace Go.Lw
open Go
/- 0: latchwork/latchworklaw.GatesAnds -/
/- 5: latchwork/latchworklaw.gatesBegun -/
/- 8: latchwork/latchworklaw.GatesEvals -/
/- 13: latchwork/latchworklaw.sameBools -/
/- 14: latchwork/latchworklaw.GatesKeep -/
/- 15: latchwork/latchworklaw.CnfOfs -/
/- 18: latchwork/latchworklaw.cnfBegun -/
/- 19: latchwork/latchworklaw.clausesAre -/
/- 20: latchwork/latchworklaw.WordFits -/
/- 21: latchwork/latchworklaw.wordBegun -/
/- 24: latchwork/latchworklaw.WordApplies -/
/- 29: latchwork/latchworklaw.WordTurns -/
/- 30: latchwork/latchworklaw.choose -/
/- 31: latchwork/latchworklaw.CnfTells -/
/- 33: latchwork/latchworklaw.ModelChecks -/
/- 37: latchwork/latchworklaw.modelBegun -/
/- 40: latchwork/latchworklaw.listIs -/
/- 41: latchwork/latchworklaw.ModelCones -/
/- 44: latchwork/latchworklaw.ModelAgain -/
/- 75: latchwork/latchworklaw.toggle -/
def qdu:ICode:=
 (.seq (.region [oN (.alloc 0 false (.agg [.sl true 6 [],.sl true 2 [],.sl true 2 [],.sl true 1 [],.sl true 1 []]))] false)
 (sR [oN (.build 1 [I 0,I 0,I 0,I 0,I 0,I 0] [(0,1,(.c (I 1))),(1,1,(.c (I 1)))]),oN (.build 2 [I 0,I 0,I 0,I 0,I 0,I 0] [(0,1,(.c (I 3))),(1,1,(.c (I 1)))]),
 oN (.build 3 [I 0,I 0,I 0,I 0,I 0,I 0] [(0,1,(.c (I 4))),(1,1,(.c (I 1))),(2,1,(.c (I 1)))]),oN (.buildSl 4 6 [1,2,3]),
 oN (.build 5 [I 0,I 0] [(0,1,(.c (I 1))),(1,1,(.c (I 0)))]),oN (.buildSl 6 2 [5]),oN (.build 7 [I 0,I 0] [(0,1,(.c (I 1))),(1,1,(.c (I 2)))]),oN (.buildSl 8 2 [7]),
 oN (.buildSl 9 1 [(.c (I 1))]),oN (.buildT 10 [.sl true 6 [],.sl true 2 [],.sl true 2 [],.sl true 1 [],.sl true 1 []] [(0,1,4),(1,1,6),(2,1,8),(3,1,9)]),
 oN (.store true 5 0 10)] [0] 1
 .ret))
def qdv:IFunc:={np:=0,res:=[.cell 0 true 5],own:=false,trunc:=true,body:=qdu }
/- 122: latchwork/latchworklaw.EvalBegins -/
/- 126: latchwork/latchworklaw.evalBegun -/
/- 127: latchwork/latchworklaw.EvalValues -/
/- 144: latchwork/latchworklaw.ProofFollows -/
/- 147: latchwork/latchworklaw.proofBegun -/
/- 148: latchwork/latchworklaw.ProofChecks -/
/- 152: latchwork/latchworklaw.ProofSound -/
/- 165: latchwork/latchworklaw.searchBegun -/
/- 207: latchwork/latchworklaw.SearchIs -/
/- 210: latchwork/latchworklaw.BlastChecks -/
/- 211: latchwork/latchworklaw.blastBegun -/
/- 239: latchwork/latchworklaw.DecideTrue -/
/- 240: latchwork/latchworklaw.decideBegun -/
/- 241: latchwork/latchworklaw.exploreBegun -/
/- 242: latchwork/latchworklaw.traceBegun -/
/- 318: latchwork/latchworklaw.ExploreAlls -/
/- 320: latchwork/latchworklaw.small -/
/- 325: latchwork/latchworklaw.BlastTells -/
/- 328: latchwork/latchworklaw.UnrollClauses -/
/- 332: latchwork/latchworklaw.unrollBegun -/
/- 333: latchwork/latchworklaw.ProveDifferents -/
/- 335: latchwork/latchworklaw.proveBegun -/
/- 345: latchwork/latchworklaw.TextBack -/
/- 346: latchwork/latchworklaw.textBegun -/
def qdw:ICode:=
 (sR [oN (.mv 0 (.c (.bool false)))] [] 0
 (sR [oY 7 75 [],oY 8 347 [7],oM 6 8,oG 9 6 0,oG 10 6 1,oM 1 9,oM 2 10] [1,2] 0
 (sR [oM 12 1,oY 13 348 [12],oM 11 13,oG 14 11 0,oG 15 11 1,oG 16 11 2,oN (.alloc 3 false (.agg [.sl true 6 [],.sl true 2 [],.sl true 2 [],.sl true 1 [],.sl true 1 []])),
 oN (.store true 5 3 14),oM 4 15,oM 5 16] [1,2,3,5] 1
 (sQ [
 oM 17 2,
 oE 18 17 0,
 oM 19 18,
  ⟨.mv 20 5,some (19,true)⟩,
  ⟨.bin 21 .eql 20 (.c (I 0)),some (19,true)⟩,
 oN (.pick 22 19 21 (.c (.bool false))),
 oM 23 22,
  ⟨.load 24 true 5 3,some (23,true)⟩,
  ⟨.call (some 25) true 75 [],some (23,true)⟩,
  ⟨.call (some 26) true 349 [24,25],some (23,true)⟩,
 oN (.pick 27 23 26 (.c (.bool false))),
 oM 28 27,
  ⟨.mv 29 1,some (28,true)⟩,
  ⟨.bin 30 .eql 29 (.c (.str ⟨#[48,32,99,111,110,115,116,32,49,32,48,10,49,32,115,116,97,116,101,32,49,10,50,32,110,111,116,32,49,32,49,10,105,110,105,116,32,49,32,48,10,110,101,120,116,32,49,32,50,10,98,97,100,32,49,10]⟩)),some (28,true)⟩,
 oN (.pick 31 28 30 (.c (.bool false))),
 oM 0 31] [0] 0
 .ret))))
def qdx:IFunc:={np:=0,res:=[.t 0],own:=false,trunc:=true,body:=qdw }
/- 350: latchwork/latchworklaw.TracePrints -/
/- 367: latchwork/latchworklaw.TextPrints -/
/- 369: latchwork/latchworklaw.TextParses -/
def q93:ICode:=
 (sR [oN (.mv 2 (.c (.bool false)))] [0] 0
 (sR [oM 10 0,oY 11 348 [10],oM 9 11,oG 12 9 0,oG 13 9 1,oG 14 9 2,oN (.alloc 3 false (.agg [.sl true 6 [],.sl true 2 [],.sl true 2 [],.sl true 1 [],.sl true 1 []])),
 oN (.store true 5 3 12),oM 4 13,oM 5 14] [0,3,4,5] 1
 (sR [oM 16 0,oY 17 370 [16],oM 15 17,oG 18 15 0,oG 19 15 1,oG 20 15 2,oN (.alloc 6 false (.agg [.sl true 6 [],.sl true 2 [],.sl true 2 [],.sl true 1 [],.sl true 1 []])),
 oN (.store true 5 6 18),oM 7 19,oM 8 20] [3,4,5,6,7,8] 2
 (sR [
 oY 21 346 [],
 oM 22 21,
  ⟨.mv 23 5,some (22,true)⟩,
  ⟨.mv 24 8,some (22,true)⟩,
  ⟨.bin 25 .eql 23 24,some (22,true)⟩,
 oN (.pick 26 22 25 (.c (.bool false))),
 oM 27 26,
  ⟨.mv 28 4,some (27,true)⟩,
  ⟨.mv 29 7,some (27,true)⟩,
  ⟨.bin 30 .eql 28 29,some (27,true)⟩,
 oN (.pick 31 27 30 (.c (.bool false))),
 oM 32 31,
  ⟨.load 33 true 5 3,some (32,true)⟩,
  ⟨.load 34 true 5 6,some (32,true)⟩,
  ⟨.call (some 35) true 349 [33,34],some (32,true)⟩,
 oN (.pick 36 32 35 (.c (.bool false))),
 oM 2 36] [2] 0
 .ret))))
def q5l:IFunc:={np:=1,res:=[.t 2],own:=false,trunc:=true,body:=q93 }
/- 371: latchwork/latchworklaw.TraceParses -/
/- 374: latchwork/latchworklaw.TracePlays -/
/- 378: latchwork/latchworklaw.ExploreFinds -/
/- 383: latchwork/latchworklaw.CnfHolds -/
/- 386: latchwork/latchworklaw.RestSearches -/
/- 387: latchwork/latchworklaw.copiedLists -/
/- 388: latchwork/latchworklaw.spoilLists -/
/- 389: latchwork/latchworklaw.spoil -/
/- 391: latchwork/latchworklaw.toggle#K -/
end Go.Lw
end

/-! The code of package Lib for the small machine. Written by program (gen.py). -/
section
set_option maxRecDepth 10000
namespace Go.Lw
open Go
/- 82: slices.Concat[[]latchwork/api.Pair,latchwork/api.Pair] -/
/- 86: slices.ContainsFunc[[]int,int] -/
def q94:ICode:=
 (sR [oN (.mv 4 (.c (.bool false)))] [0,1] 0
 (sR [oM 5 0,oM 6 1,oY 7 111 [5,6],oN (.bin 8 .geq 7 (.c (I 0))),oM 4 8] [4] 0
 .ret))
def q5m:IFunc:={np:=2,res:=[.t 4],own:=false,trunc:=true,body:=q94 }
/- 100: slices.ContainsFunc[[][]int,[]int] -/
/- 107: slices.Concat[[]int,int] -/
def q95:ICode:=
 (.post (.seq (.region [oW 12 11 10] false)
 (.seq (.cond 12 .skip
 (.exit 0))
 (.seq (.block 1 (sR [oA 13 9 11,oL 14 13,oT 5 14] [0,3,5,9,10,11] 0
 (sR [oM 15 3,oM 16 5,oD 17 16,oN (.bin 18 .add 15 17),oM 3 18] [0,3,9,10,11] 0
 (sR [oM 19 3,oN (.bin 20 .lss 19 (.c (I 0)))] [0,3,9,10,11,20] 0
 (.cond 20 .bad
 .skip)))))
 (pR [oP 22 11 1,oM 11 22] [0,3,9,10,11] 0)))) [0,3,9,10,11] 0)
def q5n:ICode:=
 (.post (.block 0 (.loop q95)) [0,3] 0)
def q96:ICode:=
 (.post (.seq (.region [oW 28 27 26] false)
 (.seq (.cond 28 .skip
 (.exit 2))
 (.seq (.block 3 (sR [oA 29 25 27,oL 30 29,oT 8 30] [6,8,25,26,27] 0
 (pR [oT 31 6,oM 32 8,oN (.append 33 1 8 31 32),oT 6 33] [6,25,26,27] 0)))
 (pR [oP 34 27 1,oM 27 34] [6,25,26,27] 0)))) [6,25,26,27] 0)
def q5o:ICode:=
 (.post (.block 2 (.loop q96)) [6] 0)
def q5p:ICode:=
 (sR [oM 35 6,oT 2 35] [2] 0
 .ret)
def q5q:ICode:=
 (sR [oM 23 3,oY 24 119 [(.c .nils),23],oT 6 24] [0,6] 0
 (.seq (sR [oM 25 0,oD 26 25,oK 27 0] [6,25,26,27] 0
 (.cut q5o))
 (.cut q5p)))
def q97:ICode:=
 (sR [oN (.mv 2 (.c (.sl true 1 [])))] [0] 0
 (.seq (.region [oK 3 0] false)
 (.seq (sR [oM 9 0,oD 10 9,oK 11 0] [0,3,9,10,11] 0
 (.cut q5n))
 (.cut q5q))))
def q5r:IFunc:={np:=1,res:=[.t 2],own:=true,trunc:=true,body:=q97 }
/- 111: slices.IndexFunc[[]int,int] -/
def q98:ICode:=
 (.post (.seq (.region [oW 9 8 7] false)
 (.seq (.cond 9 .skip
 (.exit 0))
 (.seq (.block 1 (sR [oM 10 8,oM 5 10] [0,1,5,7,8] 0
 (sR [oM 11 1,oM 12 0,oM 13 5,oA 14 12 13,oL 15 14,oN (.callv (some 16) true 11 [15])] [0,1,5,7,8,16] 0
 (.cond 16 (sR [oM 17 5,oM 4 17] [4] 0
 .ret)
 .skip))))
 (pR [oP 18 8 1,oM 8 18] [0,1,7,8] 0)))) [0,1,7,8] 0)
def q5s:ICode:=
 (.post (.block 0 (.loop q98)) [] 0)
def q5t:ICode:=
 (.seq (.region [oN (.mv 4 (.c (I (-1))))] false)
 .ret)
def q99:ICode:=
 (sR [oK 4 0] [0,1] 0
 (.seq (sR [oM 6 0,oD 7 6,oK 8 0] [0,1,7,8] 0
 (.cut q5s))
 (.cut q5t)))
def q2g:IFunc:={np:=2,res:=[.t 4],own:=false,trunc:=true,body:=q99 }
/- 117: slices.IndexFunc[[][]int,[]int] -/
/- 156: slices.Concat[[][]int,[]int] -/
/- 172: slices.ContainsFunc[[]int,int]#K -/
/- 181: math/bits.Len -/
/- 182: math/bits.Len32 -/
/- 183: math/bits.Len64 -/
/- 184: slices.Contains[[]int,int]#K -/
/- 185: slices.Contains[[]int,int] -/
/- 186: slices.Index[[]int,int] -/
/- 190: slices.SortFunc[[]int,int] -/
/- 192: slices.pdqsortCmpFunc[int] -/
/- 193: slices.nextPowerOfTwo -/
/- 194: (*slices.xorshift).Next -/
/- 195: slices.insertionSortCmpFunc[int] -/
/- 196: slices.heapSortCmpFunc[int] -/
/- 197: slices.breakPatternsCmpFunc[int] -/
/- 198: slices.choosePivotCmpFunc[int] -/
/- 199: slices.reverseRangeCmpFunc[int] -/
/- 200: slices.partialInsertionSortCmpFunc[int] -/
/- 201: slices.partitionEqualCmpFunc[int] -/
/- 202: slices.partitionCmpFunc[int] -/
/- 203: slices.siftDownCmpFunc[int] -/
/- 204: slices.medianAdjacentCmpFunc[int] -/
/- 205: slices.medianCmpFunc[int] -/
/- 206: slices.order2CmpFunc[int] -/
/- 208: slices.IndexFunc[[]int,int]#K -/
/- 209: slices.Index[[]int,int]#K -/
/- 216: slices.DeleteFunc[[]int,int] -/
/- 261: internal/stringslite.Cut -/
/- 270: internal/strconv.Itoa -/
/- 282: internal/stringslite.IndexByte -/
/- 283: strings.explode -/
/- 284: strings.Count -/
/- 285: strings.Index -/
/- 289: strconv.baseError -/
/- 290: strconv.bitSizeError -/
/- 294: internal/strconv.small -/
/- 296: internal/strconv.formatBase10 -/
/- 300: internal/bytealg.Cutover -/
/- 301: internal/bytealg.IndexRabinKarp[string] -/
/- 302: internal/bytealg.hashStr[string] -/
/- 304: unicode/utf8.DecodeRuneInString -/
/- 309: internal/strconv.log10Pow2 -/
/- 310: internal/strconv.isPowerOfTwo -/
/- 311: math/bits.TrailingZeros -/
/- 313: internal/strconv.lower -/
/- 314: internal/strconv.underscoreOK -/
/- 315: internal/strconv.bool2[int] -/
/- 343: slices.DeleteFunc[[]int,int]#K -/
/- 344: slices.Concat[[]int,int]#K -/
/- 360: slices.Index[[]string,string] -/
def q9a:ICode:=
 (.post (.seq (.region [oW 9 8 7] false)
 (.seq (.cond 9 .skip
 (.exit 0))
 (.seq (.block 1 (sR [oM 10 8,oM 5 10] [0,1,5,7,8] 0
 (sR [oM 11 1,oM 12 0,oM 13 5,oA 14 12 13,oL 15 14,oN (.bin 16 .eql 11 15)] [0,1,5,7,8,16] 0
 (.cond 16 (sR [oM 17 5,oM 4 17] [4] 0
 .ret)
 .skip))))
 (pR [oP 18 8 1,oM 8 18] [0,1,7,8] 0)))) [0,1,7,8] 0)
def q5u:ICode:=
 (.post (.block 0 (.loop q9a)) [] 0)
def q3x:ICode:=
 (.seq (.region [oN (.mv 4 (.c (I (-1))))] false)
 .ret)
def q9b:ICode:=
 (sR [oK 4 0] [0,1] 0
 (.seq (sR [oM 6 0,oD 7 6,oK 8 0] [0,1,7,8] 0
 (.cut q5u))
 (.cut q3x)))
def q2h:IFunc:={np:=2,res:=[.t 4],own:=false,trunc:=true,body:=q9b }
end Go.Lw
end

/-! The code of package Model for the small machine. Written by program (gen.py). -/
section
set_option maxRecDepth 10000
namespace Go.Lw
open Go
/- 34: latchwork/model.Inputs -/
/- 35: latchwork/model.States -/
/- 38: latchwork/model.Check -/
def q9c:ICode:=
 (.post (.seq (.region [oW 29 28 27] false)
 (.seq (.cond 29 .skip
 (.exit 0))
 (.seq (.block 1 (sR [oM 30 28,oM 3 30] [1,3,27,28] 1
 (sR [oF 31 1 0,oL 32 31,oM 33 3,oY 34 76 [32,33],oM 4 34] [1,4,27,28] 1
 (sR [oM 35 4,oN (.bin 36 .neq 35 (.c (I 0)))] [1,4,27,28,36] 1
 (.cond 36 (sR [oM 37 4,oM 2 37] [2] 0
 .ret)
 .skip)))))
 (pR [oP 38 28 1,oM 28 38] [1,27,28] 1)))) [1,27,28] 1)
def q5v:ICode:=
 (.post (.block 0 (.loop q9c)) [1] 1)
def q1v:ICode:=
 (.seq (sR [oN (.load 40 true 5 1),oY 41 77 [40],oM 39 41,oG 42 39 0,oG 43 39 1,oM 5 42,oM 6 43] [1,5,6] 1
 (sR [
 oM 44 5,
 oN (.bin 45 .gtr 44 (.c (I 6))),
 oM 46 45,
  ⟨.mv 47 6,some (46,false)⟩,
  ⟨.bin 48 .gtr 47 (.c (I 10)),some (46,false)⟩,
 oN (.pick 49 46 (.c (.bool true)) 48)] [1,49] 1
 (.cond 49 (sR [oK 2 2] [2] 0
 .ret)
 .skip)))
 (sR [oN (.load 50 true 5 1),oN (.buildT 51 [.sl true 6 [],.sl true 2 [],.sl true 2 [],.sl true 1 [],.sl true 1 [],.sl true 1 []] [(0,5,50)]),oN (.box 52 true true 51),oM 7 52] [7] 0
 (sR [oM 53 7,oX 54 78 [53]] [7] 0
 (.seq (sR [oM 55 7,oY 56 79 [55],oM 8 56] [7,8] 0
 (sR [oM 57 8,oN (.bin 58 .neq 57 (.c (I 0)))] [7,8,58] 0
 (.cond 58 (sR [oM 59 8,oM 2 59] [2] 0
 .ret)
 .skip)))
 (sR [oM 60 7,oY 61 80 [60],oM 2 61] [2] 0
 .ret)))))
def q9d:ICode:=
 (sR [oB 1 0,oK 2 0] [1] 1
 (.seq (sR [
 oF 9 1 0,
 oL 10 9,
 oD 11 10,
 oN (.bin 12 .gtr 11 (.c (I 80))),
 oM 13 12,
  ⟨.faddr 14 1 3,some (13,false)⟩,
  ⟨.load 15 false 1 14,some (13,false)⟩,
  ⟨.len 16 0 15,some (13,false)⟩,
  ⟨.bin 17 .gtr 16 (.c (I 8)),some (13,false)⟩,
 oN (.pick 18 13 (.c (.bool true)) 17),
 oM 19 18,
  ⟨.faddr 20 1 4,some (19,false)⟩,
  ⟨.load 21 false 1 20,some (19,false)⟩,
  ⟨.len 22 0 21,some (19,false)⟩,
  ⟨.bin 23 .gtr 22 (.c (I 8)),some (19,false)⟩,
 oN (.pick 24 19 (.c (.bool true)) 23)] [1,24] 1
 (.cond 24 (sR [oK 2 2] [2] 0
 .ret)
 .skip))
 (.seq (sR [oF 25 1 0,oL 26 25,oD 27 26,oK 28 0] [1,27,28] 1
 (.cut q5v))
 (.cut q1v))))
def ql:IFunc:={np:=1,res:=[.t 2],own:=false,trunc:=true,body:=q9d }
/- 42: latchwork/model.Cone -/
/- 71: latchwork/model.of -/
/- 76: latchwork/model.node -/
def qc:ICode:=
 (.cond 39 (sR [oK 4 1] [4] 0
 .ret)
 .skip)
def qe:ICode:=
 (sR [oK 4 0] [4] 0
 .ret)
def q9e:ICode:=
 (.post (.seq (.region [oW 70 69 68] false)
 (.seq (.cond 70 .skip
 (.exit 1))
 (.seq (.block 2 (sR [oM 71 69,oA 72 67 69,oL 73 72,oM 6 71,oM 7 73] [0,1,5,6,7,67,68,69] 1
 (sR [
 oM 74 6,
 oF 75 5 0,
 oL 76 75,
 oY 77 63 [76],
 oW 78 74 77,
 oM 79 78,
  ⟨.mv 80 7,some (79,true)⟩,
  ⟨.bin 81 .lss 80 (.c (I 0)),some (79,true)⟩,
  ⟨.mv 82 81,some (79,true)⟩,
  ⟨.mv 83 7,some (82,false)⟩,
  ⟨.mv 84 1,some (82,false)⟩,
  ⟨.bin 85 .geq 83 84,some (82,false)⟩,
  ⟨.pick 86 82 (.c (.bool true)) 85,some (79,true)⟩,
 oN (.pick 87 79 86 (.c (.bool false))),
 oM 88 87,
  ⟨.mv 89 6,some (88,false)⟩,
  ⟨.faddr 90 5 0,some (88,false)⟩,
  ⟨.load 91 false 1 90,some (88,false)⟩,
  ⟨.call (some 92) true 63 [91],some (88,false)⟩,
  ⟨.bin 93 .geq 89 92,some (88,false)⟩,
  ⟨.mv 94 93,some (88,false)⟩,
  ⟨.mv 95 7,some (94,true)⟩,
  ⟨.bin 96 .neq 95 (.c (I 0)),some (94,true)⟩,
  ⟨.pick 97 94 96 (.c (.bool false)),some (88,false)⟩,
 oN (.pick 98 88 (.c (.bool true)) 97)] [0,1,5,67,68,69,98] 1
 (.cond 98 (sR [oK 4 4] [4] 0
 .ret)
 .skip))))
 (pR [oP 99 69 1,oM 69 99] [0,1,5,67,68,69] 1)))) [0,1,5,67,68,69] 1)
def q5w:ICode:=
 (.post (.block 1 (.loop q9e)) [0,5] 1)
def q5x:ICode:=
 (sQ [oF 100 5 0,oL 101 100,oF 102 5 1,oL 103 102,oF 104 5 5,oL 105 104,oM 106 0,oN (.load 107 true 6 5),oY 108 104 [106,107],oY 109 22 [101,103,105,108],oM 4 109] [4] 0
 .ret)
def qa:ICode:=
 (.seq (sR [oF 61 5 2,oL 62 61,oF 63 5 3,oL 64 63,oF 65 5 4,oL 66 65,oN (.buildSl 67 1 [62,64,66]),oD 68 67,oK 69 0] [0,1,5,67,68,69] 1
 (.cut q5w))
 (.cut q5x))
def q9f:ICode:=
 (sR [oK 4 0] [0,1] 0
 (sR [oM 8 0,oM 9 1,oN (.iaddr 10 6 none 8 9),oN (.load 11 true 6 10),oN (.alloc 5 false (.agg [I 0,I 0,I 0,I 0,I 0,I 0])),oN (.store false 6 5 11)] [0,1,5] 1
 (.seq (sR [
 oF 12 5 0,
 oL 13 12,
 oN (.bin 14 .lss 13 (.c (I 1))),
 oM 15 14,
  ⟨.faddr 16 5 0,some (15,false)⟩,
  ⟨.load 17 false 1 16,some (15,false)⟩,
  ⟨.bin 18 .geq 17 (.c (I 24)),some (15,false)⟩,
 oN (.pick 19 15 (.c (.bool true)) 18)] [0,1,5,19] 1
 (.cond 19 (sR [oK 4 7] [4] 0
 .ret)
 .skip))
 (.seq (sR [oF 20 5 1,oL 21 20,oY 22 62 [21],oN (.un 23 .not 22)] [0,1,5,23] 1
 (.cond 23 (sR [oK 4 3] [4] 0
 .ret)
 .skip))
 (.seq (sR [oF 24 5 0,oL 25 24,oY 26 103 [25]] [0,1,5,26] 1
 (.cond 26 (.seq (.block 0 (sR [
 oF 28 5 0,
 oL 29 28,
 oE 30 29 1,
 oM 31 30,
  ⟨.faddr 32 5 5,some (31,true)⟩,
  ⟨.load 33 false 1 32,some (31,true)⟩,
  ⟨.faddr 34 5 1,some (31,true)⟩,
  ⟨.load 35 false 1 34,some (31,true)⟩,
  ⟨.call (some 36) true 65 [33,35],some (31,true)⟩,
  ⟨.un 37 .not 36,some (31,true)⟩,
 oN (.pick 38 31 37 (.c (.bool false))),
 oM 27 38] [5,27] 1
 (.cond 27 (sR [oK 4 3] [4] 0
 .ret)
 (.seq (sR [
 oF 40 5 0,
 oL 41 40,
 oN (.bin 42 .neq 41 (.c (I 1))),
 oM 43 42,
  ⟨.faddr 44 5 5,some (43,true)⟩,
  ⟨.load 45 false 1 44,some (43,true)⟩,
  ⟨.bin 46 .neq 45 (.c (I 0)),some (43,true)⟩,
 oN (.pick 47 43 46 (.c (.bool false))),
 oM 39 47] [5,39] 1
 (.cond 39 (.post .skip [39] 0)
 (.post (pR [
 oF 48 5 2,
 oL 49 48,
 oN (.bin 50 .neq 49 (.c (I 0))),
 oM 51 50,
  ⟨.faddr 52 5 3,some (51,false)⟩,
  ⟨.load 53 false 1 52,some (51,false)⟩,
  ⟨.bin 54 .neq 53 (.c (I 0)),some (51,false)⟩,
 oN (.pick 55 51 (.c (.bool true)) 54),
 oM 56 55,
  ⟨.faddr 57 5 4,some (56,false)⟩,
  ⟨.load 58 false 1 57,some (56,false)⟩,
  ⟨.bin 59 .neq 58 (.c (I 0)),some (56,false)⟩,
 oN (.pick 60 56 (.c (.bool true)) 59),
 oM 39 60] [39] 0) [39] 0)))
 (.cut qc)))))
 (.cut qe))
 .skip))
 (.cut qa))))))
def q5y:IFunc:={np:=2,res:=[.t 4],own:=false,trunc:=true,body:=q9f }
/- 77: latchwork/model.Bits -/
def q9g:ICode:=
 (sR [oB 1 0,oK 2 0,oK 3 0] [1] 1
 (sQ [oN (.load 4 true 5 1),oN (.load 5 true 5 1),oY 6 101 [5,(.c (I 2))],oY 7 105 [4,6],oN (.load 8 true 5 1),oN (.load 9 true 5 1),oY 10 101 [9,(.c (I 3))],oY 11 105 [8,10],oM 2 7,
 oM 3 11] [2,3] 0
 .ret))
def q5z:IFunc:={np:=1,res:=[.t 2,.t 3],own:=false,trunc:=true,body:=q9g }
/- 78: (*latchwork/model.checker).lean -/
def q9h:ICode:=
 (.post (.seq (.region [oW 29 28 27] false)
 (.seq (.cond 29 .skip
 (.exit 2))
 (.seq (.block 3 (sR [oA 30 26 28,oL 31 30,oM 6 31] [0,4,6,11,12,13,26,27,28] 0
 (pR [
 oM 32 4,
 oM 33 32,
  ⟨.mv 34 0,some (33,false)⟩,
  ⟨.nilc 35 34,some (33,false)⟩,
  ⟨.faddr 36 35 5,some (33,false)⟩,
  ⟨.load 37 false 1 36,some (33,false)⟩,
  ⟨.mv 38 6,some (33,false)⟩,
  ⟨.iaddr 39 1 none 37 38,some (33,false)⟩,
  ⟨.load 40 false 1 39,some (33,false)⟩,
 oN (.pick 41 33 (.c (.bool true)) 40),
 oM 4 41] [0,4,11,12,13,26,27,28] 0)))
 (pR [oP 42 28 1,oM 28 42] [0,4,11,12,13,26,27,28] 0)))) [0,4,11,12,13,26,27,28] 0)
def q2i:ICode:=
 (.post (.block 2 (.loop q9h)) [0,4,11,12,13] 0)
def q2j:ICode:=
 (pR [oM 43 0,oM 44 0,oC 45 44,oF 46 45 5,oN (.loadT 47 46),oM 48 4,oN (.buildSl 49 1 [48]),oN (.append 50 1 1 47 49),oC 51 43,oF 52 51 5,oN (.store true 1 52 50)] [0,11,12,13] 0)
def q1j:ICode:=
 (pR [oP 53 13 1,oM 13 53] [0,11,12,13] 0)
def q9i:ICode:=
 (.post (.seq (.region [oW 14 13 12] false)
 (.seq (.cond 14 .skip
 (.exit 0))
 (.seq (.block 1 (sR [oN (.iaddr 15 6 none 11 13),oN (.load 16 true 6 15),oN (.alloc 3 false (.agg [I 0,I 0,I 0,I 0,I 0,I 0])),oN (.store false 6 3 16)] [0,3,11,12,13] 1
 (sR [
 oF 17 3 0,
 oL 18 17,
 oE 19 18 2,
 oM 20 19,
  ⟨.faddr 21 3 0,some (20,false)⟩,
  ⟨.load 22 false 1 21,some (20,false)⟩,
  ⟨.bin 23 .eql 22 (.c (I 3)),some (20,false)⟩,
 oN (.pick 24 20 (.c (.bool true)) 23),
 oM 4 24] [0,3,4,11,12,13] 1
 (.seq (sR [oN (.load 25 true 6 3),oY 26 81 [25],oD 27 26,oK 28 0] [0,4,11,12,13,26,27,28] 0
 (.cut q2i))
 (.cut q2j)))))
 (.cut q1j)))) [0,11,12,13] 0)
def q60:ICode:=
 (.post (.block 0 (.loop q9i)) [] 0)
def q9j:ICode:=
 (sR [oM 7 0,oC 8 7,oF 9 8 0,oF 10 9 0,oL 11 10,oD 12 11,oK 13 0] [0,11,12,13] 0
 (.cut q60))
def q61:IFunc:={np:=1,res:=[],own:=false,trunc:=false,body:=q9j }
/- 79: (*latchwork/model.checker).pairs -/
def q9k:ICode:=
 (.post (.seq (.region [oW 33 32 31] false)
 (.seq (.cond 33 .skip
 (.exit 2))
 (.seq (.block 3 (sR [oN (.iaddr 34 2 none 30 32),oN (.load 35 true 2 34),oN (.alloc 6 false (.agg [I 0,I 0])),oN (.store false 2 6 35)] [0,3,6,23,24,25,30,31,32] 1
 (sR [oM 36 0,oN (.load 37 true 2 6),oM 38 3,oE 39 38 0,oY 40 106 [36,37,39],oM 7 40] [0,3,7,23,24,25,30,31,32] 0
 (sR [oM 41 7,oN (.bin 42 .neq 41 (.c (I 0)))] [0,3,7,23,24,25,30,31,32,42] 0
 (.cond 42 (sR [oM 43 7,oM 2 43] [2] 0
 .ret)
 .skip)))))
 (pR [oP 44 32 1,oM 32 44] [0,3,23,24,25,30,31,32] 0)))) [0,3,23,24,25,30,31,32] 0)
def q62:ICode:=
 (.post (.block 2 (.loop q9k)) [0,23,24,25] 0)
def q3y:ICode:=
 (pR [oP 45 25 1,oM 25 45] [0,23,24,25] 0)
def q9l:ICode:=
 (.post (.seq (.region [oW 26 25 24] false)
 (.seq (.cond 26 .skip
 (.exit 0))
 (.seq (.block 1 (sR [oM 27 25,oA 28 23 25,oL 29 28,oM 3 27,oT 4 29] [0,3,4,23,24,25] 0
 (sR [oM 30 4,oD 31 30,oK 32 0] [0,3,23,24,25,30,31,32] 0
 (.cut q62))))
 (.cut q3y)))) [0,23,24,25] 0)
def q63:ICode:=
 (.post (.block 0 (.loop q9l)) [0] 0)
def q9m:ICode:=
 (.post (.seq (.region [oW 66 65 64] false)
 (.seq (.cond 66 .skip
 (.exit 6))
 (.seq (.block 7 (sR [oN (.iaddr 67 2 none 63 65),oN (.load 68 true 2 67),oN (.alloc 12 false (.agg [I 0,I 0])),oN (.store false 2 12 68)] [9,10,12,56,57,58,63,64,65] 1
 (pR [oM 69 10,oF 70 12 0,oL 71 70,oN (.mupd 0 69 71 (.c (.bool true)))] [9,10,56,57,58,63,64,65] 0)))
 (pR [oP 72 65 1,oM 65 72] [9,10,56,57,58,63,64,65] 0)))) [9,10,56,57,58,63,64,65] 0)
def q64:ICode:=
 (.post (.block 6 (.loop q9m)) [9,10,56,57,58] 0)
def q65:ICode:=
 (sR [oM 73 10,oN (.len 74 2 73),oM 75 9,oD 76 75,oW 77 74 76] [56,57,58,77] 0
 (.cond 77 (sR [oK 2 6] [2] 0
 .ret)
 .skip))
def q3z:ICode:=
 (pR [oP 78 58 1,oM 58 78] [56,57,58] 0)
def q66:ICode:=
 (.post (.seq (.region [oW 59 58 57] false)
 (.seq (.cond 59 .skip
 (.exit 4))
 (.seq (.block 5 (sR [oA 60 56 58,oL 61 60,oT 9 61] [9,56,57,58] 0
 (sR [oN (.mkmap 62),oM 10 62] [9,10,56,57,58] 0
 (.seq (sR [oM 63 9,oD 64 63,oK 65 0] [9,10,56,57,58,63,64,65] 0
 (.cut q64))
 (.cut q65)))))
 (.cut q3z)))) [56,57,58] 0)
def q67:ICode:=
 (.post (.block 4 (.loop q66)) [] 0)
def q40:ICode:=
 (.seq (.region [oK 2 0] false)
 .ret)
def q41:ICode:=
 (.seq (sQ [oM 46 0,oC 47 46,oF 48 47 0,oF 49 48 1,oL 50 49,oM 51 0,oC 52 51,oF 53 52 0,oF 54 53 2,oL 55 54,oN (.buildSl 56 1 [50,55]),oD 57 56,oK 58 0] [56,57,58] 0
 (.cut q67))
 (.cut q40))
def q9n:ICode:=
 (sR [oK 2 0] [0] 0
 (.seq (sQ [oM 13 0,oC 14 13,oF 15 14 0,oF 16 15 1,oL 17 16,oM 18 0,oC 19 18,oF 20 19 0,oF 21 20 2,oL 22 21,oN (.buildSl 23 1 [17,22]),oD 24 23,oK 25 0] [0,23,24,25] 0
 (.cut q63))
 (.cut q41)))
def q1k:IFunc:={np:=1,res:=[.t 2],own:=false,trunc:=true,body:=q9n }
/- 80: (*latchwork/model.checker).marks -/
def q9o:ICode:=
 (sR [oN (.box 1 true false 0),oK 2 0] [1] 0
 (.seq (sQ [oL 4 1,oC 5 4,oF 6 5 0,oF 7 6 2,oL 8 7,oD 9 8,oL 10 1,oC 11 10,oF 12 11 0,oN (.load 13 true 5 12),oY 14 101 [13,(.c (I 3))],oD 15 14,oW 16 9 15] [1,16] 0
 (.cond 16 (sR [oK 2 5] [2] 0
 .ret)
 .skip))
 (sQ [oL 17 1,oC 18 17,oF 19 18 0,oF 20 19 3,oL 21 20,oL 22 1,oC 23 22,oF 24 23 0,oF 25 24 4,oL 26 25,oN (.buildSl 27 1 [21,26]),oY 28 107 [27],oT 3 28] [1,3] 0
 (.seq (sR [oM 29 3,oN (.mkfn 30 108 [1]),oY 31 86 [29,30]] [1,3,31] 0
 (.cond 31 (sR [oK 2 5] [2] 0
 .ret)
 .skip))
 (.seq (sR [oM 32 3,oN (.mkfn 33 109 [1]),oY 34 86 [32,33]] [34] 0
 (.cond 34 (sR [oK 2 1] [2] 0
 .ret)
 .skip))
 (sR [oK 2 0] [2] 0
 .ret))))))
def qt:IFunc:={np:=1,res:=[.t 2],own:=false,trunc:=true,body:=q9o }
/- 81: latchwork/model.Args -/
def q9p:ICode:=
 (sR [oB 1 0,oN (.mv 2 (.c (.sl true 1 [])))] [1] 1
 (sQ [oF 3 1 2,oL 4 3,oF 5 1 3,oL 6 5,oF 7 1 4,oL 8 7,oN (.buildSl 9 1 [4,6,8]),oF 10 1 0,oL 11 10,oY 12 63 [11],oN (.slice 13 1 9 none (some 12)),oT 2 13] [2] 0
 .ret))
def qu:IFunc:={np:=1,res:=[.t 2],own:=true,trunc:=true,body:=q9p }
/- 101: latchwork/model.Of -/
def q2k:ICode:=
 (pR [oP 24 11 1,oM 11 24] [1,5,9,10,11] 0)
def q9q:ICode:=
 (.post (.seq (.region [oW 12 11 10] false)
 (.seq (.cond 12 .skip
 (.exit 0))
 (.seq (.block 1 (sR [oM 13 11,oN (.iaddr 14 6 none 9 11),oN (.load 15 true 6 14),oN (.alloc 7 false (.agg [I 0,I 0,I 0,I 0,I 0,I 0])),oM 6 13,oN (.store false 6 7 15)] [1,5,6,7,9,10,11] 1
 (sR [oF 16 7 0,oL 17 16,oM 18 1,oN (.bin 19 .eql 17 18)] [1,5,6,9,10,11,19] 0
 (.cond 19 (.post (pR [oT 20 5,oM 21 6,oN (.buildSl 22 1 [21]),oN (.append 23 1 8 20 22),oT 5 23] [1,5,9,10,11] 0) [1,5,9,10,11] 0)
 (.post .skip [1,5,9,10,11] 0)))))
 (.cut q2k)))) [1,5,9,10,11] 0)
def q68:ICode:=
 (.post (.block 0 (.loop q9q)) [5] 0)
def q69:ICode:=
 (sR [oM 25 5,oT 4 25] [4] 0
 .ret)
def q9r:ICode:=
 (sR [oB 2 0,oN (.mv 4 (.c (.sl true 1 [])))] [1,2] 1
 (.seq (.region [oN (.mv 5 (.c (.sl true 1 [])))] false)
 (.seq (sR [oF 8 2 0,oL 9 8,oD 10 9,oK 11 0] [1,5,9,10,11] 0
 (.cut q68))
 (.cut q69))))
def q6a:IFunc:={np:=2,res:=[.t 4],own:=false,trunc:=true,body:=q9r }
/- 103: latchwork/model.leaf -/
def q9s:ICode:=
 (sR [oN (.mv 2 (.c (.bool false)))] [0] 0
 (sR [
 oM 3 0,
 oN (.bin 4 .geq 3 (.c (I 1))),
 oM 5 4,
  ⟨.mv 6 0,some (5,true)⟩,
  ⟨.bin 7 .leq 6 (.c (I 3)),some (5,true)⟩,
 oN (.pick 8 5 7 (.c (.bool false))),
 oM 2 8] [2] 0
 .ret))
def q2l:IFunc:={np:=1,res:=[.t 2],own:=false,trunc:=true,body:=q9s }
/- 104: latchwork/model.Widths -/
def q9t:ICode:=
 (.post (.seq (.region [oW 12 11 10] false)
 (.seq (.cond 12 .skip
 (.exit 0))
 (.seq (.block 1 (sR [oM 13 11,oA 14 9 11,oL 15 14,oM 6 13,oM 7 15] [0,4,5,6,7,9,10,11] 3
 (pR [oM 16 6,oM 17 0,oM 18 7,oN (.iaddr 19 6 none 17 18),oF 20 19 1,oL 21 20,oN (.iaddr 22 1 (some 3) 5 16),oN (.store false 1 22 21)] [0,4,5,9,10,11] 3)))
 (pR [oP 23 11 1,oM 11 23] [0,4,5,9,10,11] 3)))) [0,4,5,9,10,11] 3)
def q42:ICode:=
 (.post (.block 0 (.loop q9t)) [4,5] 3)
def q6b:ICode:=
 (sR [oN (.load 24 true 3 5),oN (.store false 3 4 24)] [4] 2
 .ret)
def q9u:ICode:=
 (sR [oB 3 1,oN (.alloc 4 false (.agg [I 0,I 0,I 0]))] [0,3,4] 2
 (.seq (.region [oN (.alloc 5 false (.agg [I 0,I 0,I 0]))] false)
 (.seq (sR [oN (.load 8 true 6 3),oY 9 81 [8],oD 10 9,oK 11 0] [0,4,5,9,10,11] 3
 (.cut q42))
 (.cut q6b))))
def q6c:IFunc:={np:=2,res:=[.cell 4 true 3],own:=false,trunc:=true,body:=q9u }
/- 105: latchwork/model.bits -/
def q9v:ICode:=
 (.post (.seq (.region [oW 11 10 9] false)
 (.seq (.cond 11 .skip
 (.exit 0))
 (.seq (.block 1 (sR [oA 12 8 10,oL 13 12,oM 7 13] [2,5,7,8,9,10] 1
 (pR [oM 14 5,oF 15 2 0,oL 16 15,oM 17 7,oN (.iaddr 18 6 none 16 17),oF 19 18 1,oL 20 19,oN (.bin 21 .add 14 20),oM 5 21] [2,5,8,9,10] 1)))
 (pR [oP 22 10 1,oM 10 22] [2,5,8,9,10] 1)))) [2,5,8,9,10] 1)
def q6d:ICode:=
 (.post (.block 0 (.loop q9v)) [5] 0)
def q6e:ICode:=
 (sR [oM 23 5,oM 4 23] [4] 0
 .ret)
def q9w:ICode:=
 (sR [oB 2 0,oK 4 0] [1,2] 1
 (.seq (.region [oK 5 0] false)
 (.seq (sR [oM 8 1,oD 9 8,oK 10 0] [2,5,8,9,10] 1
 (.cut q6d))
 (.cut q6e))))
def q6f:IFunc:={np:=2,res:=[.t 4],own:=false,trunc:=true,body:=q9w }
/- 106: (*latchwork/model.checker).pair -/
def q9x:ICode:=
 (sR [oB 4 1,oK 6 0] [0,2,4] 1
 (.seq (.block 0 (sQ [
 oM 8 0,
 oF 9 4 0,
 oL 10 9,
 oY 11 118 [8,10],
 oN (.un 12 .not 11),
 oM 13 12,
  ⟨.mv 14 0,some (13,false)⟩,
  ⟨.faddr 15 4 1,some (13,false)⟩,
  ⟨.load 16 false 1 15,some (13,false)⟩,
  ⟨.call (some 17) true 118 [14,16],some (13,false)⟩,
  ⟨.un 18 .not 17,some (13,false)⟩,
 oN (.pick 19 13 (.c (.bool true)) 18),
 oM 20 19,
  ⟨.mv 21 0,some (20,false)⟩,
  ⟨.nilc 22 21,some (20,false)⟩,
  ⟨.faddr 23 22 0,some (20,false)⟩,
  ⟨.faddr 24 23 0,some (20,false)⟩,
  ⟨.load 25 false 1 24,some (20,false)⟩,
  ⟨.faddr 26 4 0,some (20,false)⟩,
  ⟨.load 27 false 1 26,some (20,false)⟩,
  ⟨.iaddr 28 6 none 25 27,some (20,false)⟩,
  ⟨.faddr 29 28 0,some (20,false)⟩,
  ⟨.load 30 false 1 29,some (20,false)⟩,
  ⟨.bin 31 .neq 30 (.c (I 3)),some (20,false)⟩,
 oN (.pick 32 20 (.c (.bool true)) 31),
 oM 7 32] [0,2,4,7] 1
 (.cond 7 (sR [oK 6 5] [6] 0
 .ret)
 (sQ [oM 34 0,oC 35 34,oF 36 35 0,oF 37 36 0,oL 38 37,oF 39 4 0,oL 40 39,oN (.iaddr 41 6 none 38 40),oF 42 41 1,oL 43 42,oM 44 0,oC 45 44,oF 46 45 0,oF 47 46 0,oL 48 47,oF 49 4 1,
 oL 50 49,oN (.iaddr 51 6 none 48 50),oF 52 51 1,oL 53 52,oN (.bin 54 .neq 43 53),oM 33 54] [0,2,4,33] 1
 (.cond 33 (sR [oK 6 1] [6] 0
 .ret)
 (sQ [
 oM 56 2,
 oM 57 56,
  ⟨.mv 58 0,some (57,true)⟩,
  ⟨.nilc 59 58,some (57,true)⟩,
  ⟨.faddr 60 59 5,some (57,true)⟩,
  ⟨.load 61 false 1 60,some (57,true)⟩,
  ⟨.faddr 62 4 1,some (57,true)⟩,
  ⟨.load 63 false 1 62,some (57,true)⟩,
  ⟨.iaddr 64 1 none 61 63,some (57,true)⟩,
  ⟨.load 65 false 1 64,some (57,true)⟩,
 oN (.pick 66 57 65 (.c (.bool false))),
 oM 55 66] [55] 0
 (.cond 55 (sR [oK 6 4] [6] 0
 .ret)
 .skip)))))))
 (sR [oK 6 0] [6] 0
 .ret)))
def q6g:IFunc:={np:=3,res:=[.t 6],own:=false,trunc:=true,body:=q9x }
/- 108: (*latchwork/model.checker).marks$1 -/
def q9y:ICode:=
 (sR [oN (.mv 3 (.c (.bool false)))] [0,1] 0
 (sR [oL 4 1,oM 5 0,oY 6 118 [4,5],oN (.un 7 .not 6),oM 3 7] [3] 0
 .ret))
def q6h:IFunc:={np:=2,res:=[.t 3],own:=false,trunc:=true,body:=q9y }
/- 109: (*latchwork/model.checker).marks$2 -/
def q9z:ICode:=
 (sR [oN (.mv 3 (.c (.bool false)))] [0,1] 0
 (sR [oL 4 1,oC 5 4,oF 6 5 0,oF 7 6 0,oL 8 7,oM 9 0,oN (.iaddr 10 6 none 8 9),oF 11 10 1,oL 12 11,oN (.bin 13 .neq 12 (.c (I 1))),oM 3 13] [3] 0
 .ret))
def q6i:IFunc:={np:=2,res:=[.t 3],own:=false,trunc:=true,body:=q9z }
/- 118: (*latchwork/model.checker).is -/
def qa0:ICode:=
 (sR [oN (.mv 4 (.c (.bool false)))] [0,1] 0
 (sR [
 oM 5 1,
 oN (.bin 6 .geq 5 (.c (I 0))),
 oM 7 6,
  ⟨.mv 8 1,some (7,true)⟩,
  ⟨.mv 9 0,some (7,true)⟩,
  ⟨.nilc 10 9,some (7,true)⟩,
  ⟨.faddr 11 10 0,some (7,true)⟩,
  ⟨.faddr 12 11 0,some (7,true)⟩,
  ⟨.load 13 false 1 12,some (7,true)⟩,
  ⟨.len 14 0 13,some (7,true)⟩,
  ⟨.bin 15 .lss 8 14,some (7,true)⟩,
 oN (.pick 16 7 15 (.c (.bool false))),
 oM 4 16] [4] 0
 .ret))
def q2m:IFunc:={np:=2,res:=[.t 4],own:=false,trunc:=true,body:=qa0 }
/- 120: latchwork/model.Args#K -/
end Go.Lw
end

/-! The code of package Ref for the small machine. Written by program (gen.py). -/
section
set_option maxRecDepth 10000
namespace Go.Lw
open Go
/- 2: latchwork/latchworkref.CheckGraph -/
/- 3: latchwork/latchworkref.IsLit -/
/- 4: latchwork/latchworkref.AndOf -/
/- 7: latchwork/latchworkref.SameGraph -/
/- 10: latchwork/latchworkref.AreLits -/
/- 11: latchwork/latchworkref.NodesOf -/
/- 12: latchwork/latchworkref.LitOf -/
/- 17: latchwork/latchworkref.ClausesOf -/
/- 23: latchwork/latchworkref.FitOf -/
def qa1:ICode:=
 (.post (.seq (sR [oM 19 10,oN (.bin 20 .lss 19 (.c (I 3)))] [0,1,2,7,9,10,20] 1
 (.cond 20 .skip
 (.exit 0)))
 (.seq (.block 1 (sR [
 oM 23 10,
 oM 24 9,
 oW 25 23 24,
 oM 26 25,
  ⟨.mv 27 10,some (26,true)⟩,
  ⟨.iaddr 28 1 (some 3) 7 27,some (26,true)⟩,
  ⟨.load 29 false 1 28,some (26,true)⟩,
  ⟨.call (some 30) true 50 [29,(.c (I 1)),(.c (I 8))],some (26,true)⟩,
  ⟨.un 31 .not 30,some (26,true)⟩,
 oN (.pick 32 26 31 (.c (.bool false))),
 oM 33 32,
  ⟨.mv 34 10,some (33,false)⟩,
  ⟨.mv 35 9,some (33,false)⟩,
  ⟨.bin 36 .geq 34 35,some (33,false)⟩,
  ⟨.mv 37 36,some (33,false)⟩,
  ⟨.mv 38 10,some (37,true)⟩,
  ⟨.iaddr 39 1 (some 3) 7 38,some (37,true)⟩,
  ⟨.load 40 false 1 39,some (37,true)⟩,
  ⟨.bin 41 .neq 40 (.c (I 0)),some (37,true)⟩,
  ⟨.pick 42 37 41 (.c (.bool false)),some (33,false)⟩,
 oN (.pick 43 33 (.c (.bool true)) 42)] [0,1,2,7,9,10,43] 1
 (.cond 43 (sR [oK 8 3] [8] 0
 .ret)
 .skip)))
 (pR [oM 21 10,oP 22 21 1,oM 10 22] [0,1,2,7,9,10] 1))) [0,1,2,7,9,10] 1)
def q6j:ICode:=
 (.post (.block 0 (.loop qa1)) [0,1,2,7] 1)
def qf:ICode:=
 (.seq (sR [
 oM 129 11,
 oN (.un 130 .not 129),
 oM 131 130,
  ⟨.mv 132 0,some (131,false)⟩,
  ⟨.bin 133 .neq 132 (.c (I 21)),some (131,false)⟩,
  ⟨.mv 134 133,some (131,false)⟩,
  ⟨.mv 135 2,some (134,true)⟩,
  ⟨.bin 136 .neq 135 (.c (I 0)),some (134,true)⟩,
  ⟨.pick 137 134 136 (.c (.bool false)),some (131,false)⟩,
 oN (.pick 138 131 (.c (.bool true)) 137)] [138] 0
 (.cond 138 (sR [oK 8 1] [8] 0
 .ret)
 .skip))
 (sR [oK 8 0] [8] 0
 .ret))
def q43:ICode:=
 (sR [oN (.mv 11 (.c (.bool false)))] [0,1,2,7] 1
 (.seq (.block 2 (sR [
 oM 49 0,
 oE 50 49 4,
 oM 51 50,
  ⟨.mv 52 0,some (51,false)⟩,
  ⟨.bin 53 .eql 52 (.c (I 5)),some (51,false)⟩,
 oN (.pick 54 51 (.c (.bool true)) 53),
 oM 48 54] [0,1,2,7,48] 1
 (.cond 48 (.post (pR [oN (.iaddr 55 1 (some 3) 7 (.c (I 0))),oL 56 55,oM 57 1,oN (.bin 58 .eql 56 57),oM 11 58] [0,2,11] 0) [0,2,11] 0)
 (.post (sR [oM 60 0,oY 61 50 [60,(.c (I 6)),(.c (I 15))],oM 59 61] [0,1,2,7,59] 1
 (.cond 59 (.post (pR [
 oN (.iaddr 62 1 (some 3) 7 (.c (I 0))),
 oL 63 62,
 oM 64 1,
 oN (.bin 65 .eql 63 64),
 oM 66 65,
  ⟨.iaddr 67 1 (some 3) 7 (.c (I 1)),some (66,true)⟩,
  ⟨.load 68 false 1 67,some (66,true)⟩,
  ⟨.mv 69 1,some (66,true)⟩,
  ⟨.bin 70 .eql 68 69,some (66,true)⟩,
 oN (.pick 71 66 70 (.c (.bool false))),
 oM 11 71] [0,2,11] 0) [0,2,11] 0)
 (.post (sR [oM 73 0,oY 74 50 [73,(.c (I 16)),(.c (I 18))],oM 72 74] [0,1,2,7,72] 1
 (.cond 72 (.post (pR [
 oN (.iaddr 75 1 (some 3) 7 (.c (I 0))),
 oL 76 75,
 oN (.iaddr 77 1 (some 3) 7 (.c (I 1))),
 oL 78 77,
 oN (.bin 79 .eql 76 78),
 oM 80 79,
  ⟨.mv 81 1,some (80,true)⟩,
  ⟨.bin 82 .eql 81 (.c (I 1)),some (80,true)⟩,
 oN (.pick 83 80 82 (.c (.bool false))),
 oM 11 83] [0,2,11] 0) [0,2,11] 0)
 (.post (sR [oM 85 0,oE 86 85 19,oM 84 86] [0,1,2,7,84] 1
 (.cond 84 (.post (pR [
 oN (.iaddr 87 1 (some 3) 7 (.c (I 0))),
 oL 88 87,
 oE 89 88 1,
 oM 90 89,
  ⟨.iaddr 91 1 (some 3) 7 (.c (I 1)),some (90,true)⟩,
  ⟨.load 92 false 1 91,some (90,true)⟩,
  ⟨.mv 93 1,some (90,true)⟩,
  ⟨.bin 94 .eql 92 93,some (90,true)⟩,
 oN (.pick 95 90 94 (.c (.bool false))),
 oM 96 95,
  ⟨.iaddr 97 1 (some 3) 7 (.c (I 2)),some (96,true)⟩,
  ⟨.load 98 false 1 97,some (96,true)⟩,
  ⟨.mv 99 1,some (96,true)⟩,
  ⟨.bin 100 .eql 98 99,some (96,true)⟩,
 oN (.pick 101 96 100 (.c (.bool false))),
 oM 11 101] [0,2,11] 0) [0,2,11] 0)
 (.post (sR [oM 103 0,oE 104 103 20,oM 102 104] [0,1,2,7,102] 1
 (.cond 102 (.post (pR [oN (.iaddr 105 1 (some 3) 7 (.c (I 0))),oL 106 105,oN (.iaddr 107 1 (some 3) 7 (.c (I 1))),oL 108 107,oN (.bin 109 .add 106 108),oM 110 1,oN (.bin 111 .eql 109 110),oM 11 111] [0,2,11] 0) [0,2,11] 0)
 (.post (sR [oM 113 0,oE 114 113 21,oM 112 114] [0,1,2,7,112] 1
 (.cond 112 (.post (pR [
 oM 115 2,
 oN (.bin 116 .geq 115 (.c (I 0))),
 oM 117 116,
  ⟨.mv 118 2,some (117,true)⟩,
  ⟨.bin 119 .leq 118 (.c (I 8)),some (117,true)⟩,
 oN (.pick 120 117 119 (.c (.bool false))),
 oM 121 120,
  ⟨.mv 122 2,some (121,true)⟩,
  ⟨.mv 123 1,some (121,true)⟩,
  ⟨.bin 124 .add 122 123,some (121,true)⟩,
  ⟨.iaddr 125 1 (some 3) 7 (.c (I 0)),some (121,true)⟩,
  ⟨.load 126 false 1 125,some (121,true)⟩,
  ⟨.bin 127 .leq 124 126,some (121,true)⟩,
 oN (.pick 128 121 127 (.c (.bool false))),
 oM 11 128] [0,2,11] 0) [0,2,11] 0)
 (.post (pR [oM 44 1,oN (.iaddr 45 1 (some 3) 7 (.c (I 0))),oL 46 45,oN (.bin 47 .geq 44 46),oM 11 47] [0,2,11] 0) [0,2,11] 0))) [0,2,11] 0))) [0,2,11] 0))) [0,2,11] 0))) [0,2,11] 0))) [0,2,11] 0))))
 (.cut qf)))
def qa2:ICode:=
 (sR [oB 7 3,oK 8 0] [0,1,2,7] 1
 (sR [oM 12 0,oY 13 26 [12],oM 9 13] [0,1,2,7,9] 1
 (.seq (sR [oM 14 9,oE 15 14 0] [0,1,2,7,9,15] 1
 (.cond 15 (sR [oK 8 7] [8] 0
 .ret)
 .skip))
 (.seq (sR [oM 16 1,oY 17 50 [16,(.c (I 1)),(.c (I 8))],oN (.un 18 .not 17)] [0,1,2,7,9,18] 1
 (.cond 18 (sR [oK 8 3] [8] 0
 .ret)
 .skip))
 (.seq (sR [oK 10 0] [0,1,2,7,9,10] 1
 (.cut q6j))
 (.cut q43))))))
def qv:IFunc:={np:=4,res:=[.t 8],own:=false,trunc:=true,body:=qa2 }
/- 26: latchwork/latchworkref.Takes -/
def q1l:ICode:=
 (.cond 4 (sR [oK 2 1] [2] 0
 .ret)
 (sR [oE 11 3 19,oM 10 11] [0,10] 0
 (.cond 10 (sR [oK 2 3] [2] 0
 .ret)
 .skip)))
def q1m:ICode:=
 (.seq (sR [oM 12 0,oY 13 50 [12,(.c (I 6)),(.c (I 20))]] [13] 0
 (.cond 13 (sR [oK 2 2] [2] 0
 .ret)
 .skip))
 (sR [oK 2 0] [2] 0
 .ret))
def qa3:ICode:=
 (sR [oK 2 0] [0] 0
 (.seq (.seq (.region [oM 3 0] false)
 (.block 0 (.seq (sR [oE 5 3 4,oM 4 5] [0,3,4] 0
 (.cond 4 (.post .skip [0,3,4] 0)
 (.post (sR [oE 6 3 5,oM 4 6] [0,3,4] 0
 (.cond 4 (.post .skip [0,3,4] 0)
 (.post (sR [oE 7 3 21,oM 4 7] [0,3,4] 0
 (.cond 4 (.post .skip [0,3,4] 0)
 (.post (sR [oE 8 3 22,oM 4 8] [0,3,4] 0
 (.cond 4 (.post .skip [0,3,4] 0)
 (.post (pR [oE 9 3 23,oM 4 9] [0,3,4] 0) [0,3,4] 0))) [0,3,4] 0))) [0,3,4] 0))) [0,3,4] 0)))
 (.cut q1l))))
 (.cut q1m)))
def qw:IFunc:={np:=1,res:=[.t 2],own:=false,trunc:=true,body:=qa3 }
/- 27: latchwork/latchworkref.Two -/
def qa4:ICode:=
 (.post (.seq (sR [oM 5 4,oM 6 0,oW 7 5 6] [0,3,4,7] 0
 (.cond 7 .skip
 (.exit 0)))
 (.seq (.block 1 (pR [oM 10 3,oN (.bin 11 .mul (.c (I 2)) 10),oM 3 11] [0,3,4] 0))
 (pR [oM 8 4,oP 9 8 1,oM 4 9] [0,3,4] 0))) [0,3,4] 0)
def q44:ICode:=
 (.post (.block 0 (.loop qa4)) [3] 0)
def q6k:ICode:=
 (sR [oM 12 3,oM 2 12] [2] 0
 .ret)
def qa5:ICode:=
 (sR [oK 2 0] [0] 0
 (.seq (.region [oK 3 1] false)
 (.seq (sR [oK 4 0] [0,3,4] 0
 (.cut q44))
 (.cut q6k))))
def q6l:IFunc:={np:=1,res:=[.t 2],own:=false,trunc:=true,body:=qa5 }
/- 28: latchwork/latchworkref.Made -/
/- 36: latchwork/latchworkref.CheckModel -/
def qa6:ICode:=
 (.post (.seq (sR [oM 33 3,oF 34 1 0,oL 35 34,oD 36 35,oW 37 33 36] [1,3,37] 1
 (.cond 37 .skip
 (.exit 0)))
 (.seq (.block 1 (sR [oF 40 1 0,oL 41 40,oM 42 3,oY 43 72 [41,42],oM 4 43] [1,3,4] 1
 (sR [oM 44 4,oN (.bin 45 .neq 44 (.c (I 0)))] [1,3,4,45] 1
 (.cond 45 (sR [oM 46 4,oM 2 46] [2] 0
 .ret)
 .skip))))
 (pR [oM 38 3,oP 39 38 1,oM 3 39] [1,3] 1))) [1,3] 1)
def q6m:ICode:=
 (.post (.block 0 (.loop qa6)) [1] 1)
def qa7:ICode:=
 (.post (.seq (sR [oM 67 8,oM 68 7,oD 69 68,oW 70 67 69] [1,5,6,7,8,70] 1
 (.cond 70 .skip
 (.exit 4)))
 (.seq (.block 5 (sR [oM 73 7,oM 74 8,oN (.iaddr 75 2 none 73 74),oN (.load 76 true 2 75),oN (.alloc 9 false (.agg [I 0,I 0])),oN (.store false 2 9 76)] [1,5,6,7,8,9] 2
 (.seq (sR [
 oF 77 9 0,
 oL 78 77,
 oF 79 1 0,
 oL 80 79,
 oD 81 80,
 oS 82 81 1,
 oY 83 50 [78,(.c (I 0)),82],
 oN (.un 84 .not 83),
 oM 85 84,
  ⟨.faddr 86 9 1,some (85,false)⟩,
  ⟨.load 87 false 1 86,some (85,false)⟩,
  ⟨.faddr 88 1 0,some (85,false)⟩,
  ⟨.load 89 false 1 88,some (85,false)⟩,
  ⟨.len 90 0 89,some (85,false)⟩,
  ⟨.bin 91 .sub 90 (.c (I 1)),some (85,false)⟩,
  ⟨.call (some 92) true 50 [87,(.c (I 0)),91],some (85,false)⟩,
  ⟨.un 93 .not 92,some (85,false)⟩,
 oN (.pick 94 85 (.c (.bool true)) 93),
 oM 95 94,
  ⟨.faddr 96 1 0,some (95,false)⟩,
  ⟨.load 97 false 1 96,some (95,false)⟩,
  ⟨.faddr 98 9 0,some (95,false)⟩,
  ⟨.load 99 false 1 98,some (95,false)⟩,
  ⟨.iaddr 100 6 none 97 99,some (95,false)⟩,
  ⟨.faddr 101 100 0,some (95,false)⟩,
  ⟨.load 102 false 1 101,some (95,false)⟩,
  ⟨.bin 103 .neq 102 (.c (I 3)),some (95,false)⟩,
 oN (.pick 104 95 (.c (.bool true)) 103)] [1,5,6,7,8,9,104] 2
 (.cond 104 (sR [oK 2 5] [2] 0
 .ret)
 .skip))
 (.seq (sQ [oF 105 1 0,oL 106 105,oF 107 9 0,oL 108 107,oN (.iaddr 109 6 none 106 108),oF 110 109 1,oL 111 110,oF 112 1 0,oL 113 112,oF 114 9 1,oL 115 114,oN (.iaddr 116 6 none 113 115),
 oF 117 116 1,oL 118 117,oN (.bin 119 .neq 111 118)] [1,5,6,7,8,9,119] 2
 (.cond 119 (sR [oK 2 1] [2] 0
 .ret)
 .skip))
 (sR [
 oM 120 6,
 oE 121 120 0,
 oM 122 121,
  ⟨.mv 123 5,some (122,true)⟩,
  ⟨.faddr 124 9 1,some (122,true)⟩,
  ⟨.load 125 false 1 124,some (122,true)⟩,
  ⟨.iaddr 126 1 none 123 125,some (122,true)⟩,
  ⟨.load 127 false 1 126,some (122,true)⟩,
 oN (.pick 128 122 127 (.c (.bool false)))] [1,5,6,7,8,128] 1
 (.cond 128 (sR [oK 2 4] [2] 0
 .ret)
 .skip))))))
 (pR [oM 71 8,oP 72 71 1,oM 8 72] [1,5,6,7,8] 1))) [1,5,6,7,8] 1)
def q2n:ICode:=
 (.post (.block 4 (.loop qa7)) [1,5,6] 1)
def q2o:ICode:=
 (sR [oK 8 0] [1,5,6,7,8] 1
 (.cut q2n))
def q2p:ICode:=
 (pR [oM 59 6,oP 60 59 1,oM 6 60] [1,5,6] 1)
def qa8:ICode:=
 (.post (.seq (sR [oM 57 6,oN (.bin 58 .lss 57 (.c (I 2)))] [1,5,6,58] 1
 (.cond 58 .skip
 (.exit 2)))
 (.seq (.block 3 (sR [oF 61 1 1,oL 62 61,oT 7 62] [1,5,6,7] 1
 (.seq (sR [oM 63 6,oE 64 63 1] [1,5,6,7,64] 1
 (.cond 64 (.post (pR [oF 65 1 2,oL 66 65,oT 7 66] [1,5,6,7] 1) [1,5,6,7] 1)
 (.post .skip [1,5,6,7] 1)))
 (.cut q2o))))
 (.cut q2p))) [1,5,6] 1)
def q6n:ICode:=
 (.post (.block 2 (.loop qa8)) [1] 1)
def qa9:ICode:=
 (.post (.seq (sR [oM 145 13,oM 146 12,oW 147 145 146] [1,10,11,12,13,147] 1
 (.cond 147 .skip
 (.exit 10)))
 (.seq (.block 11 (sQ [oM 150 11,oM 151 12,oN (.iaddr 152 2 none 150 151),oF 153 152 0,oL 154 153,oM 155 11,oM 156 13,oN (.iaddr 157 2 none 155 156),oF 158 157 0,oL 159 158,oN (.bin 160 .eql 154 159)] [1,10,11,12,13,160] 1
 (.cond 160 (sR [oK 2 6] [2] 0
 .ret)
 .skip)))
 (pR [oM 148 13,oP 149 148 1,oM 13 149] [1,10,11,12,13] 1))) [1,10,11,12,13] 1)
def q6o:ICode:=
 (.post (.block 10 (.loop qa9)) [1,10,11,12] 1)
def q45:ICode:=
 (pR [oM 143 12,oP 144 143 1,oM 12 144] [1,10,11,12] 1)
def qaa:ICode:=
 (.post (.seq (sR [oM 139 12,oM 140 11,oD 141 140,oW 142 139 141] [1,10,11,12,142] 1
 (.cond 142 .skip
 (.exit 8)))
 (.seq (.block 9 (sR [oK 13 0] [1,10,11,12,13] 1
 (.cut q6o)))
 (.cut q45))) [1,10,11,12] 1)
def q46:ICode:=
 (.post (.block 8 (.loop qaa)) [1,10] 1)
def q2q:ICode:=
 (sR [oK 12 0] [1,10,11,12] 1
 (.cut q46))
def q2r:ICode:=
 (pR [oM 131 10,oP 132 131 1,oM 10 132] [1,10] 1)
def qab:ICode:=
 (.post (.seq (sR [oM 129 10,oN (.bin 130 .lss 129 (.c (I 2)))] [1,10,130] 1
 (.cond 130 .skip
 (.exit 6)))
 (.seq (.block 7 (sR [oF 133 1 1,oL 134 133,oT 11 134] [1,10,11] 1
 (.seq (sR [oM 135 10,oE 136 135 1] [1,10,11,136] 1
 (.cond 136 (.post (pR [oF 137 1 2,oL 138 137,oT 11 138] [1,10,11] 1) [1,10,11] 1)
 (.post .skip [1,10,11] 1)))
 (.cut q2q))))
 (.cut q2r))) [1,10] 1)
def q6p:ICode:=
 (.post (.block 6 (.loop qab)) [1] 1)
def qac:ICode:=
 (.post (.seq (sR [oM 175 15,oM 176 14,oD 177 176,oW 178 175 177] [1,14,15,178] 1
 (.cond 178 .skip
 (.exit 12)))
 (.seq (.block 13 (sQ [oM 181 14,oM 182 15,oA 183 181 182,oL 184 183,oF 185 1 0,oL 186 185,oD 187 186,oS 188 187 1,oY 189 50 [184,(.c (I 0)),188],oN (.un 190 .not 189)] [1,14,15,190] 1
 (.cond 190 (sR [oK 2 5] [2] 0
 .ret)
 .skip)))
 (pR [oM 179 15,oP 180 179 1,oM 15 180] [1,14,15] 1))) [1,14,15] 1)
def q6q:ICode:=
 (.post (.block 12 (.loop qac)) [1,14] 1)
def qad:ICode:=
 (.post (.seq (sR [oM 191 16,oM 192 14,oD 193 192,oW 194 191 193] [1,14,16,194] 1
 (.cond 194 .skip
 (.exit 14)))
 (.seq (.block 15 (sQ [oF 197 1 0,oL 198 197,oM 199 14,oM 200 16,oA 201 199 200,oL 202 201,oN (.iaddr 203 6 none 198 202),oF 204 203 1,oL 205 204,oN (.bin 206 .neq 205 (.c (I 1)))] [1,14,16,206] 1
 (.cond 206 (sR [oK 2 1] [2] 0
 .ret)
 .skip)))
 (pR [oM 195 16,oP 196 195 1,oM 16 196] [1,14,16] 1))) [1,14,16] 1)
def q2s:ICode:=
 (.post (.block 14 (.loop qad)) [] 0)
def q6r:ICode:=
 (.seq (.region [oK 2 0] false)
 .ret)
def q2t:ICode:=
 (.seq (sR [oK 16 0] [1,14,16] 1
 (.cut q2s))
 (.cut q6r))
def q47:ICode:=
 (.seq (sQ [oF 161 1 2,oL 162 161,oD 163 162,oN (.load 164 true 5 1),oY 165 39 [164,(.c (I 3))],oD 166 165,oN (.bin 167 .neq 163 166)] [1,167] 1
 (.cond 167 (sR [oK 2 5] [2] 0
 .ret)
 .skip))
 (sQ [oN (.buildSl 168 1 []),oF 169 1 3,oL 170 169,oN (.append 171 1 8 168 170),oF 172 1 4,oL 173 172,oN (.append 174 1 8 171 173),oT 14 174] [1,14] 1
 (.seq (sR [oK 15 0] [1,14,15] 1
 (.cut q6q))
 (.cut q2t))))
def q2u:ICode:=
 (.seq (sR [oK 10 0] [1,10] 1
 (.cut q6p))
 (.cut q47))
def q2v:ICode:=
 (.seq (sR [
 oN (.load 47 true 5 1),
 oY 48 73 [47,(.c (I 2))],
 oN (.bin 49 .gtr 48 (.c (I 6))),
 oM 50 49,
  ⟨.load 51 true 5 1,some (50,false)⟩,
  ⟨.call (some 52) true 73 [51,(.c (I 3))],some (50,false)⟩,
  ⟨.bin 53 .gtr 52 (.c (I 10)),some (50,false)⟩,
 oN (.pick 54 50 (.c (.bool true)) 53)] [1,54] 1
 (.cond 54 (sR [oK 2 2] [2] 0
 .ret)
 .skip))
 (sR [oN (.load 55 true 5 1),oY 56 74 [55],oT 5 56] [1,5] 1
 (.seq (sR [oK 6 0] [1,5,6] 1
 (.cut q6n))
 (.cut q2u))))
def qae:ICode:=
 (sR [oB 1 0,oK 2 0] [1] 1
 (.seq (sR [
 oF 17 1 0,
 oL 18 17,
 oD 19 18,
 oN (.bin 20 .gtr 19 (.c (I 80))),
 oM 21 20,
  ⟨.faddr 22 1 3,some (21,false)⟩,
  ⟨.load 23 false 1 22,some (21,false)⟩,
  ⟨.len 24 0 23,some (21,false)⟩,
  ⟨.bin 25 .gtr 24 (.c (I 8)),some (21,false)⟩,
 oN (.pick 26 21 (.c (.bool true)) 25),
 oM 27 26,
  ⟨.faddr 28 1 4,some (27,false)⟩,
  ⟨.load 29 false 1 28,some (27,false)⟩,
  ⟨.len 30 0 29,some (27,false)⟩,
  ⟨.bin 31 .gtr 30 (.c (I 8)),some (27,false)⟩,
 oN (.pick 32 27 (.c (.bool true)) 31)] [1,32] 1
 (.cond 32 (sR [oK 2 2] [2] 0
 .ret)
 .skip))
 (.seq (sR [oK 3 0] [1,3] 1
 (.cut q6m))
 (.cut q2v))))
def qx:IFunc:={np:=1,res:=[.t 2],own:=false,trunc:=true,body:=qae }
/- 39: latchwork/latchworkref.Nodes -/
def q2w:ICode:=
 (pR [oM 12 6,oP 13 12 1,oM 6 13] [1,2,5,6] 1)
def qaf:ICode:=
 (.post (.seq (sR [oM 7 6,oF 8 2 0,oL 9 8,oD 10 9,oW 11 7 10] [1,2,5,6,11] 1
 (.cond 11 .skip
 (.exit 0)))
 (.seq (.block 1 (sR [oF 14 2 0,oL 15 14,oM 16 6,oN (.iaddr 17 6 none 15 16),oF 18 17 0,oL 19 18,oM 20 1,oN (.bin 21 .eql 19 20)] [1,2,5,6,21] 1
 (.cond 21 (.post (pR [oT 22 5,oM 23 6,oN (.buildSl 24 1 [23]),oN (.append 25 1 8 22 24),oT 5 25] [1,2,5,6] 1) [1,2,5,6] 1)
 (.post .skip [1,2,5,6] 1))))
 (.cut q2w))) [1,2,5,6] 1)
def q6s:ICode:=
 (.post (.block 0 (.loop qaf)) [5] 0)
def q6t:ICode:=
 (sR [oM 26 5,oT 4 26] [4] 0
 .ret)
def qag:ICode:=
 (sR [oB 2 0,oN (.mv 4 (.c (.sl true 1 [])))] [1,2] 1
 (.seq (.region [oN (.mv 5 (.c (.sl true 1 [])))] false)
 (.seq (sR [oK 6 0] [1,2,5,6] 1
 (.cut q6s))
 (.cut q6t))))
def q6u:IFunc:={np:=2,res:=[.t 4],own:=false,trunc:=true,body:=qag }
/- 43: latchwork/latchworkref.ConeOf -/
/- 45: latchwork/latchworkref.Has -/
/- 46: latchwork/latchworkref.SameInts -/
def qah:ICode:=
 (.post (.seq (sR [oM 11 5,oM 12 0,oD 13 12,oW 14 11 13] [0,1,5,14] 0
 (.cond 14 .skip
 (.exit 0)))
 (.seq (.block 1 (sQ [oM 17 0,oM 18 5,oA 19 17 18,oL 20 19,oM 21 1,oM 22 5,oA 23 21 22,oL 24 23,oN (.bin 25 .neq 20 24)] [0,1,5,25] 0
 (.cond 25 (sR [oN (.mv 4 (.c (.bool false)))] [4] 0
 .ret)
 .skip)))
 (pR [oM 15 5,oP 16 15 1,oM 5 16] [0,1,5] 0))) [0,1,5] 0)
def q6v:ICode:=
 (.post (.block 0 (.loop qah)) [] 0)
def q6w:ICode:=
 (.seq (.region [oN (.mv 4 (.c (.bool true)))] false)
 .ret)
def qai:ICode:=
 (sR [oN (.mv 4 (.c (.bool false)))] [0,1] 0
 (.seq (sR [oM 6 0,oD 7 6,oM 8 1,oD 9 8,oN (.bin 10 .neq 7 9)] [0,1,10] 0
 (.cond 10 (sR [oN (.mv 4 (.c (.bool false)))] [4] 0
 .ret)
 .skip))
 (.seq (sR [oK 5 0] [0,1,5] 0
 (.cut q6v))
 (.cut q6w))))
def q6x:IFunc:={np:=2,res:=[.t 4],own:=false,trunc:=true,body:=qai }
/- 50: latchwork/latchworkref.between -/
def qaj:ICode:=
 (sR [oN (.mv 6 (.c (.bool false)))] [0,1,2] 0
 (sR [
 oM 7 0,
 oM 8 1,
 oN (.bin 9 .geq 7 8),
 oM 10 9,
  ⟨.mv 11 0,some (10,true)⟩,
  ⟨.mv 12 2,some (10,true)⟩,
  ⟨.bin 13 .leq 11 12,some (10,true)⟩,
 oN (.pick 14 10 13 (.c (.bool false))),
 oM 6 14] [6] 0
 .ret))
def q2x:IFunc:={np:=3,res:=[.t 6],own:=false,trunc:=true,body:=qaj }
/- 51: latchwork/latchworkref.AndAt -/
/- 56: latchwork/latchworkref.AndClauses -/
/- 57: latchwork/latchworkref.MustClauses -/
/- 58: latchwork/latchworkref.DoneClauses -/
/- 60: latchwork/latchworkref.SameClauses -/
/- 67: latchwork/latchworkref.bitwise -/
/- 68: latchwork/latchworkref.yes -/
/- 69: latchwork/latchworkref.Signed -/
/- 72: latchwork/latchworkref.CheckNode -/
def qak:ICode:=
 (.post (.seq (sR [oM 76 7,oN (.bin 77 .lss 76 (.c (I 3)))] [0,1,5,6,7,77] 1
 (.cond 77 .skip
 (.exit 1)))
 (.seq (.block 2 (sR [
 oM 80 7,
 oF 81 5 0,
 oL 82 81,
 oY 83 26 [82],
 oW 84 80 83,
 oM 85 84,
  ⟨.mv 86 6,some (85,true)⟩,
  ⟨.mv 87 7,some (85,true)⟩,
  ⟨.iaddr 88 1 none 86 87,some (85,true)⟩,
  ⟨.load 89 false 1 88,some (85,true)⟩,
  ⟨.mv 90 1,some (85,true)⟩,
  ⟨.bin 91 .sub 90 (.c (I 1)),some (85,true)⟩,
  ⟨.call (some 92) true 50 [89,(.c (I 0)),91],some (85,true)⟩,
  ⟨.un 93 .not 92,some (85,true)⟩,
 oN (.pick 94 85 93 (.c (.bool false))),
 oM 95 94,
  ⟨.mv 96 7,some (95,false)⟩,
  ⟨.faddr 97 5 0,some (95,false)⟩,
  ⟨.load 98 false 1 97,some (95,false)⟩,
  ⟨.call (some 99) true 26 [98],some (95,false)⟩,
  ⟨.bin 100 .geq 96 99,some (95,false)⟩,
  ⟨.mv 101 100,some (95,false)⟩,
  ⟨.mv 102 6,some (101,true)⟩,
  ⟨.mv 103 7,some (101,true)⟩,
  ⟨.iaddr 104 1 none 102 103,some (101,true)⟩,
  ⟨.load 105 false 1 104,some (101,true)⟩,
  ⟨.bin 106 .neq 105 (.c (I 0)),some (101,true)⟩,
  ⟨.pick 107 101 106 (.c (.bool false)),some (95,false)⟩,
 oN (.pick 108 95 (.c (.bool true)) 107)] [0,1,5,6,7,108] 1
 (.cond 108 (sR [oK 4 4] [4] 0
 .ret)
 .skip)))
 (pR [oM 78 7,oP 79 78 1,oM 7 79] [0,1,5,6,7] 1))) [0,1,5,6,7] 1)
def q17:ICode:=
 (.post (.block 1 (.loop qak)) [0,5] 1)
def qy:ICode:=
 (sQ [oF 109 5 0,oL 110 109,oF 111 5 1,oL 112 111,oF 113 5 5,oL 114 113,oM 115 0,oN (.load 116 true 6 5),oY 117 102 [115,116],oY 118 23 [110,112,114,117],oM 4 118] [4] 0
 .ret)
def qal:ICode:=
 (sR [oK 4 0] [0,1] 0
 (sR [oM 8 0,oM 9 1,oN (.iaddr 10 6 none 8 9),oN (.load 11 true 6 10),oN (.alloc 5 false (.agg [I 0,I 0,I 0,I 0,I 0,I 0])),oN (.store false 6 5 11)] [0,1,5] 1
 (.seq (.block 0 (sR [oF 13 5 0,oL 14 13,oY 15 50 [14,(.c (I 1)),(.c (I 23))],oN (.un 16 .not 15),oM 12 16] [0,1,5,12] 1
 (.cond 12 (sR [oK 4 7] [4] 0
 .ret)
 (sR [oF 18 5 1,oL 19 18,oY 20 50 [19,(.c (I 1)),(.c (I 8))],oN (.un 21 .not 20),oM 17 21] [0,1,5,17] 1
 (.cond 17 (sR [oK 4 3] [4] 0
 .ret)
 (sQ [
 oF 23 5 0,
 oL 24 23,
 oE 25 24 1,
 oM 26 25,
  ⟨.faddr 27 5 5,some (26,true)⟩,
  ⟨.load 28 false 1 27,some (26,true)⟩,
  ⟨.faddr 29 5 1,some (26,true)⟩,
  ⟨.load 30 false 1 29,some (26,true)⟩,
  ⟨.call (some 31) true 27 [30],some (26,true)⟩,
  ⟨.bin 32 .sub 31 (.c (I 1)),some (26,true)⟩,
  ⟨.call (some 33) true 50 [28,(.c (I 0)),32],some (26,true)⟩,
  ⟨.un 34 .not 33,some (26,true)⟩,
 oN (.pick 35 26 34 (.c (.bool false))),
 oM 22 35] [0,1,5,22] 1
 (.cond 22 (sR [oK 4 3] [4] 0
 .ret)
 (sR [
 oF 37 5 0,
 oL 38 37,
 oN (.bin 39 .leq 38 (.c (I 3))),
 oM 40 39,
  ⟨.faddr 41 5 0,some (40,true)⟩,
  ⟨.load 42 false 1 41,some (40,true)⟩,
  ⟨.bin 43 .gtr 42 (.c (I 1)),some (40,true)⟩,
  ⟨.mv 44 43,some (40,true)⟩,
  ⟨.faddr 45 5 5,some (44,true)⟩,
  ⟨.load 46 false 1 45,some (44,true)⟩,
  ⟨.bin 47 .neq 46 (.c (I 0)),some (44,true)⟩,
  ⟨.pick 48 44 47 (.c (.bool false)),some (40,true)⟩,
  ⟨.mv 49 48,some (40,true)⟩,
  ⟨.faddr 50 5 2,some (49,false)⟩,
  ⟨.load 51 false 1 50,some (49,false)⟩,
  ⟨.bin 52 .neq 51 (.c (I 0)),some (49,false)⟩,
  ⟨.pick 53 49 (.c (.bool true)) 52,some (40,true)⟩,
  ⟨.mv 54 53,some (40,true)⟩,
  ⟨.faddr 55 5 3,some (54,false)⟩,
  ⟨.load 56 false 1 55,some (54,false)⟩,
  ⟨.bin 57 .neq 56 (.c (I 0)),some (54,false)⟩,
  ⟨.pick 58 54 (.c (.bool true)) 57,some (40,true)⟩,
  ⟨.mv 59 58,some (40,true)⟩,
  ⟨.faddr 60 5 4,some (59,false)⟩,
  ⟨.load 61 false 1 60,some (59,false)⟩,
  ⟨.bin 62 .neq 61 (.c (I 0)),some (59,false)⟩,
  ⟨.pick 63 59 (.c (.bool true)) 62,some (40,true)⟩,
 oN (.pick 64 40 63 (.c (.bool false))),
 oM 36 64] [0,1,5,36] 1
 (.cond 36 (sR [oK 4 1] [4] 0
 .ret)
 (sR [oF 66 5 0,oL 67 66,oN (.bin 68 .leq 67 (.c (I 3))),oM 65 68] [0,1,5,65] 1
 (.cond 65 (sR [oK 4 0] [4] 0
 .ret)
 .skip)))))))))))
 (sR [oF 69 5 2,oL 70 69,oF 71 5 3,oL 72 71,oF 73 5 4,oL 74 73,oN (.buildSl 75 1 [70,72,74]),oT 6 75] [0,1,5,6] 1
 (.seq (sR [oK 7 0] [0,1,5,6,7] 1
 (.cut q17))
 (.cut qy))))))
def q6y:IFunc:={np:=2,res:=[.t 4],own:=false,trunc:=true,body:=qal }
/- 73: latchwork/latchworkref.Bits -/
def q2y:ICode:=
 (pR [oM 12 6,oP 13 12 1,oM 6 13] [1,2,5,6] 1)
def qam:ICode:=
 (.post (.seq (sR [oM 7 6,oF 8 2 0,oL 9 8,oD 10 9,oW 11 7 10] [1,2,5,6,11] 1
 (.cond 11 .skip
 (.exit 0)))
 (.seq (.block 1 (sR [oF 14 2 0,oL 15 14,oM 16 6,oN (.iaddr 17 6 none 15 16),oF 18 17 0,oL 19 18,oM 20 1,oN (.bin 21 .eql 19 20)] [1,2,5,6,21] 1
 (.cond 21 (.post (pR [oM 22 5,oF 23 2 0,oL 24 23,oM 25 6,oN (.iaddr 26 6 none 24 25),oF 27 26 1,oL 28 27,oN (.bin 29 .add 22 28),oM 5 29] [1,2,5,6] 1) [1,2,5,6] 1)
 (.post .skip [1,2,5,6] 1))))
 (.cut q2y))) [1,2,5,6] 1)
def q6z:ICode:=
 (.post (.block 0 (.loop qam)) [5] 0)
def q70:ICode:=
 (sR [oM 30 5,oM 4 30] [4] 0
 .ret)
def qan:ICode:=
 (sR [oB 2 0,oK 4 0] [1,2] 1
 (.seq (.region [oK 5 0] false)
 (.seq (sR [oK 6 0] [1,2,5,6] 1
 (.cut q6z))
 (.cut q70))))
def q71:IFunc:={np:=2,res:=[.t 4],own:=false,trunc:=true,body:=qan }
/- 74: latchwork/latchworkref.hangs -/
def q1w:ICode:=
 (pR [oT 63 3,oM 64 6,oN (.buildSl 65 1 [64]),oN (.append 66 1 1 63 65),oT 3 66] [1,3,4] 1)
def q1x:ICode:=
 (.seq (sR [oF 51 5 0,oL 52 51,oY 53 26 [52],oN (.bin 54 .gtr 53 (.c (I 2)))] [1,3,4,5,6,54] 2
 (.cond 54 (.post (pR [
 oM 55 6,
 oM 56 55,
  ⟨.mv 57 3,some (56,false)⟩,
  ⟨.faddr 58 5 4,some (56,false)⟩,
  ⟨.load 59 false 1 58,some (56,false)⟩,
  ⟨.iaddr 60 1 none 57 59,some (56,false)⟩,
  ⟨.load 61 false 1 60,some (56,false)⟩,
 oN (.pick 62 56 (.c (.bool true)) 61),
 oM 6 62] [1,3,4,6] 1) [1,3,4,6] 1)
 (.post .skip [1,3,4,6] 1)))
 (.cut q1w))
def q18:ICode:=
 (.seq (sR [oF 39 5 0,oL 40 39,oY 41 26 [40],oN (.bin 42 .gtr 41 (.c (I 1)))] [1,3,4,5,6,42] 2
 (.cond 42 (.post (pR [
 oM 43 6,
 oM 44 43,
  ⟨.mv 45 3,some (44,false)⟩,
  ⟨.faddr 46 5 3,some (44,false)⟩,
  ⟨.load 47 false 1 46,some (44,false)⟩,
  ⟨.iaddr 48 1 none 45 47,some (44,false)⟩,
  ⟨.load 49 false 1 48,some (44,false)⟩,
 oN (.pick 50 44 (.c (.bool true)) 49),
 oM 6 50] [1,3,4,5,6] 2) [1,3,4,5,6] 2)
 (.post .skip [1,3,4,5,6] 2)))
 (.cut q1x))
def q19:ICode:=
 (pR [oM 12 4,oP 13 12 1,oM 4 13] [1,3,4] 1)
def qao:ICode:=
 (.post (.seq (sR [oM 7 4,oF 8 1 0,oL 9 8,oD 10 9,oW 11 7 10] [1,3,4,11] 1
 (.cond 11 .skip
 (.exit 0)))
 (.seq (.block 1 (sR [oF 14 1 0,oL 15 14,oM 16 4,oN (.iaddr 17 6 none 15 16),oN (.load 18 true 6 17),oN (.alloc 5 false (.agg [I 0,I 0,I 0,I 0,I 0,I 0])),oN (.store false 6 5 18)] [1,3,4,5] 2
 (sR [
 oF 19 5 0,
 oL 20 19,
 oE 21 20 2,
 oM 22 21,
  ⟨.faddr 23 5 0,some (22,false)⟩,
  ⟨.load 24 false 1 23,some (22,false)⟩,
  ⟨.bin 25 .eql 24 (.c (I 3)),some (22,false)⟩,
 oN (.pick 26 22 (.c (.bool true)) 25),
 oM 6 26] [1,3,4,5,6] 2
 (.seq (sR [oF 27 5 0,oL 28 27,oY 29 26 [28],oN (.bin 30 .gtr 29 (.c (I 0)))] [1,3,4,5,6,30] 2
 (.cond 30 (.post (pR [
 oM 31 6,
 oM 32 31,
  ⟨.mv 33 3,some (32,false)⟩,
  ⟨.faddr 34 5 2,some (32,false)⟩,
  ⟨.load 35 false 1 34,some (32,false)⟩,
  ⟨.iaddr 36 1 none 33 35,some (32,false)⟩,
  ⟨.load 37 false 1 36,some (32,false)⟩,
 oN (.pick 38 32 (.c (.bool true)) 37),
 oM 6 38] [1,3,4,5,6] 2) [1,3,4,5,6] 2)
 (.post .skip [1,3,4,5,6] 2)))
 (.cut q18)))))
 (.cut q19))) [1,3,4] 1)
def q72:ICode:=
 (.post (.block 0 (.loop qao)) [3] 0)
def q73:ICode:=
 (sR [oM 67 3,oT 2 67] [2] 0
 .ret)
def qap:ICode:=
 (sR [oB 1 0,oN (.mv 2 (.c (.sl true 1 [])))] [1] 1
 (.seq (.region [oN (.mv 3 (.c (.sl true 1 [])))] false)
 (.seq (sR [oK 4 0] [1,3,4] 1
 (.cut q72))
 (.cut q73))))
def q74:IFunc:={np:=1,res:=[.t 2],own:=false,trunc:=true,body:=qap }
/- 84: latchwork/latchworkref.ConeOf$1 -/
/- 92: latchwork/latchworkref.Num -/
/- 93: latchwork/latchworkref.CheckClauses -/
/- 95: latchwork/latchworkref.SameLists -/
/- 97: latchwork/latchworkref.Bit -/
/- 102: latchwork/latchworkref.WidthsOf -/
def q2z:ICode:=
 (sR [oN (.load 37 true 3 5),oN (.store false 3 4 37)] [4] 2
 .ret)
def q30:ICode:=
 (.seq (sR [oM 28 6,oN (.bin 29 .gtr 28 (.c (I 2)))] [0,3,4,5,29] 3
 (.cond 29 (.post (pR [oM 30 0,oF 31 3 4,oL 32 31,oN (.iaddr 33 6 none 30 32),oF 34 33 1,oL 35 34,oN (.iaddr 36 1 (some 3) 5 (.c (I 2))),oN (.store false 1 36 35)] [4,5] 3) [4,5] 3)
 (.post .skip [4,5] 3)))
 (.cut q2z))
def q31:ICode:=
 (.seq (sR [oM 19 6,oN (.bin 20 .gtr 19 (.c (I 1)))] [0,3,4,5,6,20] 3
 (.cond 20 (.post (pR [oM 21 0,oF 22 3 3,oL 23 22,oN (.iaddr 24 6 none 21 23),oF 25 24 1,oL 26 25,oN (.iaddr 27 1 (some 3) 5 (.c (I 1))),oN (.store false 1 27 26)] [0,3,4,5,6] 3) [0,3,4,5,6] 3)
 (.post .skip [0,3,4,5,6] 3)))
 (.cut q30))
def qaq:ICode:=
 (sR [oB 3 1,oN (.alloc 4 false (.agg [I 0,I 0,I 0]))] [0,3,4] 2
 (.seq (.region [oN (.alloc 5 false (.agg [I 0,I 0,I 0]))] false)
 (sR [oF 7 3 0,oL 8 7,oY 9 26 [8],oM 6 9] [0,3,4,5,6] 3
 (.seq (sR [oM 10 6,oN (.bin 11 .gtr 10 (.c (I 0)))] [0,3,4,5,6,11] 3
 (.cond 11 (.post (pR [oM 12 0,oF 13 3 2,oL 14 13,oN (.iaddr 15 6 none 12 14),oF 16 15 1,oL 17 16,oN (.iaddr 18 1 (some 3) 5 (.c (I 0))),oN (.store false 1 18 17)] [0,3,4,5,6] 3) [0,3,4,5,6] 3)
 (.post .skip [0,3,4,5,6] 3)))
 (.cut q31)))))
def q75:IFunc:={np:=2,res:=[.cell 4 true 3],own:=false,trunc:=true,body:=qaq }
/- 112: latchwork/latchworkref.CheckClause -/
/- 124: latchwork/latchworkref.CheckWords -/
/- 125: latchwork/latchworkref.BeginOf -/
/- 131: latchwork/latchworkref.Ready -/
/- 132: latchwork/latchworkref.ValuesOf -/
/- 133: latchwork/latchworkref.NextOf -/
/- 134: latchwork/latchworkref.MarksOf -/
/- 137: latchwork/latchworkref.PairOf -/
/- 146: latchwork/latchworkref.FollowsOf -/
/- 150: latchwork/latchworkref.CheckProof -/
/- 151: latchwork/latchworkref.ProofOf -/
/- 167: latchwork/latchworkref.AnswerIs -/
/- 168: latchwork/latchworkref.HoldsOf -/
/- 213: latchwork/latchworkref.CheckCircuit -/
/- 321: latchwork/latchworkref.WaysOf -/
/- 322: latchwork/latchworkref.Layers -/
/- 323: latchwork/latchworkref.NumberOf -/
/- 324: latchwork/latchworkref.ExploreOf -/
/- 326: latchwork/latchworkref.WordsOf -/
/- 327: latchwork/latchworkref.BitsOf -/
/- 330: latchwork/latchworkref.CheckSteps -/
/- 331: latchwork/latchworkref.StepClauses -/
/- 338: latchwork/latchworkref.StepClauses$1 -/
/- 339: latchwork/latchworkref.StepClauses$2 -/
/- 349: latchwork/latchworkref.SameModel -/
def qar:ICode:=
 (.post (.seq (sR [oM 45 5,oF 46 2 0,oL 47 46,oD 48 47,oW 49 45 48] [2,3,5,49] 2
 (.cond 49 .skip
 (.exit 0)))
 (.seq (.block 1 (sQ [oF 52 2 0,oL 53 52,oM 54 5,oN (.iaddr 55 6 none 53 54),oN (.load 56 true 6 55),oF 57 3 0,oL 58 57,oM 59 5,oN (.iaddr 60 6 none 58 59),oN (.load 61 true 6 60),
 oN (.eqa 62 true [false,false,false,false,false,false] 56 61)] [2,3,5,62] 2
 (.cond 62 (sR [oN (.mv 4 (.c (.bool false)))] [4] 0
 .ret)
 .skip)))
 (pR [oM 50 5,oP 51 50 1,oM 5 51] [2,3,5] 2))) [2,3,5] 2)
def q76:ICode:=
 (.post (.block 0 (.loop qar)) [] 0)
def q48:ICode:=
 (.seq (.region [oN (.mv 4 (.c (.bool true)))] false)
 .ret)
def qas:ICode:=
 (sR [oB 2 0,oB 3 1,oN (.mv 4 (.c (.bool false)))] [2,3] 2
 (.seq (sR [
 oF 6 2 0,
 oL 7 6,
 oD 8 7,
 oF 9 3 0,
 oL 10 9,
 oD 11 10,
 oN (.bin 12 .neq 8 11),
 oM 13 12,
  ⟨.faddr 14 2 1,some (13,false)⟩,
  ⟨.load 15 false 1 14,some (13,false)⟩,
  ⟨.faddr 16 3 1,some (13,false)⟩,
  ⟨.load 17 false 1 16,some (13,false)⟩,
  ⟨.call (some 18) true 354 [15,17],some (13,false)⟩,
  ⟨.un 19 .not 18,some (13,false)⟩,
 oN (.pick 20 13 (.c (.bool true)) 19),
 oM 21 20,
  ⟨.faddr 22 2 2,some (21,false)⟩,
  ⟨.load 23 false 1 22,some (21,false)⟩,
  ⟨.faddr 24 3 2,some (21,false)⟩,
  ⟨.load 25 false 1 24,some (21,false)⟩,
  ⟨.call (some 26) true 354 [23,25],some (21,false)⟩,
  ⟨.un 27 .not 26,some (21,false)⟩,
 oN (.pick 28 21 (.c (.bool true)) 27),
 oM 29 28,
  ⟨.faddr 30 2 3,some (29,false)⟩,
  ⟨.load 31 false 1 30,some (29,false)⟩,
  ⟨.faddr 32 3 3,some (29,false)⟩,
  ⟨.load 33 false 1 32,some (29,false)⟩,
  ⟨.call (some 34) true 46 [31,33],some (29,false)⟩,
  ⟨.un 35 .not 34,some (29,false)⟩,
 oN (.pick 36 29 (.c (.bool true)) 35),
 oM 37 36,
  ⟨.faddr 38 2 4,some (37,false)⟩,
  ⟨.load 39 false 1 38,some (37,false)⟩,
  ⟨.faddr 40 3 4,some (37,false)⟩,
  ⟨.load 41 false 1 40,some (37,false)⟩,
  ⟨.call (some 42) true 46 [39,41],some (37,false)⟩,
  ⟨.un 43 .not 42,some (37,false)⟩,
 oN (.pick 44 37 (.c (.bool true)) 43)] [2,3,44] 2
 (.cond 44 (sR [oN (.mv 4 (.c (.bool false)))] [4] 0
 .ret)
 .skip))
 (.seq (sR [oK 5 0] [2,3,5] 2
 (.cut q76))
 (.cut q48))))
def q77:IFunc:={np:=2,res:=[.t 4],own:=false,trunc:=true,body:=qas }
/- 351: latchwork/latchworkref.PrintTrace -/
/- 354: latchwork/latchworkref.samePairs -/
def qat:ICode:=
 (.post (.seq (sR [oM 11 5,oM 12 0,oD 13 12,oW 14 11 13] [0,1,5,14] 0
 (.cond 14 .skip
 (.exit 0)))
 (.seq (.block 1 (sQ [oM 17 0,oM 18 5,oN (.iaddr 19 2 none 17 18),oN (.load 20 true 2 19),oM 21 1,oM 22 5,oN (.iaddr 23 2 none 21 22),oN (.load 24 true 2 23),oN (.eqa 25 true [false,false] 20 24)] [0,1,5,25] 0
 (.cond 25 (sR [oN (.mv 4 (.c (.bool false)))] [4] 0
 .ret)
 .skip)))
 (pR [oM 15 5,oP 16 15 1,oM 5 16] [0,1,5] 0))) [0,1,5] 0)
def q78:ICode:=
 (.post (.block 0 (.loop qat)) [] 0)
def q49:ICode:=
 (.seq (.region [oN (.mv 4 (.c (.bool true)))] false)
 .ret)
def qau:ICode:=
 (sR [oN (.mv 4 (.c (.bool false)))] [0,1] 0
 (.seq (sR [oM 6 0,oD 7 6,oM 8 1,oD 9 8,oN (.bin 10 .neq 7 9)] [0,1,10] 0
 (.cond 10 (sR [oN (.mv 4 (.c (.bool false)))] [4] 0
 .ret)
 .skip))
 (.seq (sR [oK 5 0] [0,1,5] 0
 (.cut q78))
 (.cut q49))))
def q79:IFunc:={np:=2,res:=[.t 4],own:=false,trunc:=true,body:=qau }
/- 355: latchwork/latchworkref.line -/
/- 368: latchwork/latchworkref.PrintModel -/
/- 370: latchwork/latchworkref.ParseModel -/
def q32:ICode:=
 (pR [oM 44 11,oP 45 44 1,oM 11 45] [2,5,6,7,8,9,10,11] 2)
def qav:ICode:=
 (.post (.seq (sR [
 oM 37 11,
 oN (.bin 38 .leq 37 (.c (I 23))),
 oM 39 38,
  ⟨.mv 40 9,some (39,true)⟩,
  ⟨.len 41 0 40,some (39,true)⟩,
  ⟨.bin 42 .gtr 41 (.c (I 1)),some (39,true)⟩,
 oN (.pick 43 39 42 (.c (.bool false)))] [2,5,6,7,8,9,10,11,43] 2
 (.cond 43 .skip
 (.exit 2)))
 (.seq (.block 3 (sQ [oM 46 11,oY 47 379 [46],oM 48 9,oN (.iaddr 49 1 none 48 (.c (I 1))),oL 50 49,oN (.bin 51 .eql 47 50)] [2,5,6,7,8,9,10,11,51] 2
 (.cond 51 (.post (pR [oM 52 11,oM 10 52] [2,5,6,7,8,9,10,11] 2) [2,5,6,7,8,9,10,11] 2)
 (.post .skip [2,5,6,7,8,9,10,11] 2))))
 (.cut q32))) [2,5,6,7,8,9,10,11] 2)
def q33:ICode:=
 (.post (.block 2 (.loop qav)) [2,5,6,7,8,9,10] 2)
def qg:ICode:=
 (pR [oM 57 14,oP 58 57 1,oM 14 58] [2,5,6,7,8,9,10,12,13,14] 2)
def qaw:ICode:=
 (.post (.seq (sR [oM 53 14,oM 54 9,oD 55 54,oW 56 53 55] [2,5,6,7,8,9,10,12,13,14,56] 2
 (.cond 56 .skip
 (.exit 4)))
 (.seq (.block 5 (sR [
 oM 59 14,
 oN (.bin 60 .gtr 59 (.c (I 1))),
 oM 61 60,
  ⟨.mv 62 9,some (61,false)⟩,
  ⟨.iaddr 63 1 none 62 (.c (I 0)),some (61,false)⟩,
  ⟨.load 64 false 1 63,some (61,false)⟩,
  ⟨.bin 65 .eql 64 (.c (.str ⟨#[105,110,105,116]⟩)),some (61,false)⟩,
 oN (.pick 66 61 (.c (.bool true)) 65),
 oM 67 66,
  ⟨.mv 68 9,some (67,false)⟩,
  ⟨.iaddr 69 1 none 68 (.c (I 0)),some (67,false)⟩,
  ⟨.load 70 false 1 69,some (67,false)⟩,
  ⟨.bin 71 .eql 70 (.c (.str ⟨#[110,101,120,116]⟩)),some (67,false)⟩,
 oN (.pick 72 67 (.c (.bool true)) 71),
 oM 73 72,
  ⟨.mv 74 9,some (73,false)⟩,
  ⟨.iaddr 75 1 none 74 (.c (I 0)),some (73,false)⟩,
  ⟨.load 76 false 1 75,some (73,false)⟩,
  ⟨.bin 77 .eql 76 (.c (.str ⟨#[98,97,100]⟩)),some (73,false)⟩,
 oN (.pick 78 73 (.c (.bool true)) 77),
 oM 79 78,
  ⟨.mv 80 9,some (79,false)⟩,
  ⟨.iaddr 81 1 none 80 (.c (I 0)),some (79,false)⟩,
  ⟨.load 82 false 1 81,some (79,false)⟩,
  ⟨.bin 83 .eql 82 (.c (.str ⟨#[104,111,108,100]⟩)),some (79,false)⟩,
 oN (.pick 84 79 (.c (.bool true)) 83)] [2,5,6,7,8,9,10,12,13,14,84] 2
 (.cond 84 (.post (sR [oT 85 12,oM 86 9,oM 87 14,oA 88 86 87,oL 89 88,oY 90 381 [89],oN (.buildSl 91 1 [90]),oN (.append 92 1 8 85 91),oT 12 92] [2,5,6,7,8,9,10,12,13,14] 2
 (pR [
 oM 93 13,
 oM 94 93,
  ⟨.mv 95 9,some (94,true)⟩,
  ⟨.mv 96 14,some (94,true)⟩,
  ⟨.iaddr 97 1 none 95 96,some (94,true)⟩,
  ⟨.load 98 false 1 97,some (94,true)⟩,
  ⟨.call (some 99) true 381 [98],some (94,true)⟩,
  ⟨.bin 100 .geq 99 (.c (I 0)),some (94,true)⟩,
 oN (.pick 101 94 100 (.c (.bool false))),
 oM 13 101] [2,5,6,7,8,9,10,12,13,14] 2)) [2,5,6,7,8,9,10,12,13,14] 2)
 (.post .skip [2,5,6,7,8,9,10,12,13,14] 2))))
 (.cut qg))) [2,5,6,7,8,9,10,12,13,14] 2)
def q34:ICode:=
 (.post (.block 4 (.loop qaw)) [2,5,6,7,8,9,10,12,13] 2)
def q1y:ICode:=
 (pQ [
 oM 128 13,
 oM 129 128,
  ⟨.mv 130 9,some (129,true)⟩,
  ⟨.iaddr 131 1 none 130 (.c (I 0)),some (129,true)⟩,
  ⟨.load 132 false 1 131,some (129,true)⟩,
  ⟨.call (some 133) true 381 [132],some (129,true)⟩,
  ⟨.faddr 134 6 0,some (129,true)⟩,
  ⟨.load 135 false 1 134,some (129,true)⟩,
  ⟨.len 136 0 135,some (129,true)⟩,
  ⟨.bin 137 .eql 133 136,some (129,true)⟩,
 oN (.pick 138 129 137 (.c (.bool false))),
 oM 139 138,
  ⟨.mv 140 10,some (139,true)⟩,
  ⟨.bin 141 .gtr 140 (.c (I 0)),some (139,true)⟩,
 oN (.pick 142 139 141 (.c (.bool false))),
 oM 13 142] [2,5,6,7,8,10,12,13,15,16] 2)
def q1z:ICode:=
 (pR [oF 201 6 0,oN (.loadT 202 201),oN (.load 203 true 6 17),oN (.buildSl 204 6 [203]),oN (.append 205 6 48 202 204),oF 206 6 0,oN (.store true 1 206 205)] [2,5,6,7,8] 2)
def q35:ICode:=
 (.seq (sR [
 oM 189 10,
 oE 190 189 1,
 oM 191 190,
  ⟨.mv 192 10,some (191,false)⟩,
  ⟨.bin 193 .eql 192 (.c (I 21)),some (191,false)⟩,
 oN (.pick 194 191 (.c (.bool true)) 193)] [2,5,6,7,8,12,16,17,194] 3
 (.cond 194 (.post (pR [oM 195 12,oM 196 16,oS 197 196 1,oA 198 195 197,oL 199 198,oF 200 17 5,oN (.store false 1 200 199)] [2,5,6,7,8,17] 3) [2,5,6,7,8,17] 3)
 (.post .skip [2,5,6,7,8,17] 3)))
 (.cut q1z))
def q36:ICode:=
 (.seq (sR [oM 182 10,oY 183 26 [182],oN (.bin 184 .gtr 183 (.c (I 2)))] [2,5,6,7,8,10,12,16,17,184] 3
 (.cond 184 (.post (pR [oM 185 12,oN (.iaddr 186 1 none 185 (.c (I 3))),oL 187 186,oF 188 17 4,oN (.store false 1 188 187)] [2,5,6,7,8,10,12,16,17] 3) [2,5,6,7,8,10,12,16,17] 3)
 (.post .skip [2,5,6,7,8,10,12,16,17] 3)))
 (.cut q35))
def q37:ICode:=
 (.seq (sR [oM 175 10,oY 176 26 [175],oN (.bin 177 .gtr 176 (.c (I 1)))] [2,5,6,7,8,10,12,16,17,177] 3
 (.cond 177 (.post (pR [oM 178 12,oN (.iaddr 179 1 none 178 (.c (I 2))),oL 180 179,oF 181 17 3,oN (.store false 1 181 180)] [2,5,6,7,8,10,12,16,17] 3) [2,5,6,7,8,10,12,16,17] 3)
 (.post .skip [2,5,6,7,8,10,12,16,17] 3)))
 (.cut q36))
def q1n:ICode:=
 (.seq (sR [
 oM 143 13,
 oN (.un 144 .not 143),
 oM 145 144,
  ⟨.mv 146 12,some (145,false)⟩,
  ⟨.len 147 0 146,some (145,false)⟩,
  ⟨.mv 148 16,some (145,false)⟩,
  ⟨.bin 149 .neq 147 148,some (145,false)⟩,
 oN (.pick 150 145 (.c (.bool true)) 149),
 oM 151 150,
  ⟨.mv 152 15,some (151,false)⟩,
  ⟨.mv 153 7,some (151,false)⟩,
  ⟨.bin 154 .lss 152 153,some (151,false)⟩,
 oN (.pick 155 151 (.c (.bool true)) 154)] [2,5,6,8,10,12,15,16,155] 2
 (.cond 155 (sR [oN (.build 156 [.sl true 6 [],.sl true 2 [],.sl true 2 [],.sl true 1 [],.sl true 1 []] []),oM 157 8,oP 158 157 1,oN (.store true 5 2 156),oM 3 158,oK 4 1] [2,3,4] 1
 .ret)
 .skip))
 (sR [oM 159 15,oM 7 159] [2,5,6,7,8,10,12,15,16] 2
 (sR [oM 160 15] [2,5,6,7,8,10,12,16,160] 2
 (.block 7 (sR [oE 162 160 0,oM 161 162] [2,5,6,7,8,10,12,16,160,161] 2
 (.cond 161 (.post (sR [oM 163 10,oM 164 12,oN (.iaddr 165 1 none 164 (.c (I 0))),oL 166 165,oN (.build 167 [I 0,I 0,I 0,I 0,I 0,I 0] [(0,1,163),(1,1,166)]),
 oN (.alloc 17 false (.agg [I 0,I 0,I 0,I 0,I 0,I 0])),oN (.store false 6 17 167)] [2,5,6,7,8,10,12,16,17] 3
 (.seq (sR [oM 168 10,oY 169 26 [168],oN (.bin 170 .gtr 169 (.c (I 0)))] [2,5,6,7,8,10,12,16,17,170] 3
 (.cond 170 (.post (pR [oM 171 12,oN (.iaddr 172 1 none 171 (.c (I 1))),oL 173 172,oF 174 17 2,oN (.store false 1 174 173)] [2,5,6,7,8,10,12,16,17] 3) [2,5,6,7,8,10,12,16,17] 3)
 (.post .skip [2,5,6,7,8,10,12,16,17] 3)))
 (.cut q37))) [2,5,6,7,8] 2)
 (.post (sR [oE 208 160 1,oM 207 208] [2,5,6,7,8,12,160,207] 2
 (.cond 207 (.post (pQ [oF 209 6 1,oN (.loadL 210 209),oM 211 12,oN (.iaddr 212 1 none 211 (.c (I 0))),oL 213 212,oM 214 12,oN (.iaddr 215 1 none 214 (.c (I 1))),oL 216 215,
 oN (.build 217 [I 0,I 0] [(0,1,213),(1,1,216)]),oN (.buildSl 218 2 [217]),oN (.append 219 2 16 210 218),oF 220 6 1,oN (.store true 1 220 219)] [2,5,6,7,8] 2) [2,5,6,7,8] 2)
 (.post (sR [oE 222 160 2,oM 221 222] [2,5,6,7,8,12,160,221] 2
 (.cond 221 (.post (pQ [oF 223 6 2,oN (.loadL 224 223),oM 225 12,oN (.iaddr 226 1 none 225 (.c (I 0))),oL 227 226,oM 228 12,oN (.iaddr 229 1 none 228 (.c (I 1))),oL 230 229,
 oN (.build 231 [I 0,I 0] [(0,1,227),(1,1,230)]),oN (.buildSl 232 2 [231]),oN (.append 233 2 16 224 232),oF 234 6 2,oN (.store true 1 234 233)] [2,5,6,7,8] 2) [2,5,6,7,8] 2)
 (.post (sR [oE 236 160 3,oM 235 236] [2,5,6,7,8,12,160,235] 2
 (.cond 235 (.post (pQ [oF 237 6 3,oN (.loadL 238 237),oM 239 12,oN (.iaddr 240 1 none 239 (.c (I 0))),oL 241 240,oN (.buildSl 242 1 [241]),oN (.append 243 1 8 238 242),oF 244 6 3,
 oN (.store true 1 244 243)] [2,5,6,7,8] 2) [2,5,6,7,8] 2)
 (.post (sR [oE 246 160 4,oM 245 246] [2,5,6,7,8,12,245] 2
 (.cond 245 (.post (pQ [oF 247 6 4,oN (.loadL 248 247),oM 249 12,oN (.iaddr 250 1 none 249 (.c (I 0))),oL 251 250,oN (.buildSl 252 1 [251]),oN (.append 253 1 8 248 252),oF 254 6 4,
 oN (.store true 1 254 253)] [2,5,6,7,8] 2) [2,5,6,7,8] 2)
 (.post .skip [2,5,6,7,8] 2))) [2,5,6,7,8] 2))) [2,5,6,7,8] 2))) [2,5,6,7,8] 2))) [2,5,6,7,8] 2)))))))
def q38:ICode:=
 (.seq (sR [oM 115 15,oE 116 115 0] [2,5,6,7,8,9,10,12,13,15,16,116] 2
 (.cond 116 (.post (sR [oM 117 10,oY 118 26 [117],oN (.bin 119 .add (.c (I 1)) 118),oM 16 119] [2,5,6,7,8,9,10,12,13,15,16] 2
 (.seq (sR [
 oM 120 10,
 oE 121 120 1,
 oM 122 121,
  ⟨.mv 123 10,some (122,false)⟩,
  ⟨.bin 124 .eql 123 (.c (I 21)),some (122,false)⟩,
 oN (.pick 125 122 (.c (.bool true)) 124)] [2,5,6,7,8,9,10,12,13,15,16,125] 2
 (.cond 125 (.post (pR [oM 126 16,oP 127 126 1,oM 16 127] [2,5,6,7,8,9,10,12,13,15,16] 2) [2,5,6,7,8,9,10,12,13,15,16] 2)
 (.post .skip [2,5,6,7,8,9,10,12,13,15,16] 2)))
 (.cut q1y))) [2,5,6,7,8,10,12,13,15,16] 2)
 (.post .skip [2,5,6,7,8,10,12,13,15,16] 2)))
 (.cut q1n))
def q1a:ICode:=
 (.seq (.region [oK 16 2] false)
 (.seq (sR [oM 113 15,oN (.bin 114 .gtr 113 (.c (I 2)))] [2,5,6,7,8,9,10,12,13,15,16,114] 2
 (.cond 114 (.post (pR [oK 16 1] [2,5,6,7,8,9,10,12,13,15,16] 2) [2,5,6,7,8,9,10,12,13,15,16] 2)
 (.post .skip [2,5,6,7,8,9,10,12,13,15,16] 2)))
 (.cut q38)))
def q4a:ICode:=
 (.seq (.region [oK 15 0] false)
 (.seq (sR [oM 102 9,oN (.iaddr 103 1 none 102 (.c (I 0))),oL 104 103] [2,5,6,7,8,9,10,12,13,15,104] 2
 (.block 6 (sR [oN (.bin 106 .eql 104 (.c (.str ⟨#[105,110,105,116]⟩))),oM 105 106] [2,5,6,7,8,9,10,12,13,15,104,105] 2
 (.cond 105 (.post (pR [oK 15 1] [2,5,6,7,8,9,10,12,13,15] 2) [2,5,6,7,8,9,10,12,13,15] 2)
 (.post (sR [oN (.bin 108 .eql 104 (.c (.str ⟨#[110,101,120,116]⟩))),oM 107 108] [2,5,6,7,8,9,10,12,13,15,104,107] 2
 (.cond 107 (.post (pR [oK 15 2] [2,5,6,7,8,9,10,12,13,15] 2) [2,5,6,7,8,9,10,12,13,15] 2)
 (.post (sR [oN (.bin 110 .eql 104 (.c (.str ⟨#[98,97,100]⟩))),oM 109 110] [2,5,6,7,8,9,10,12,13,15,104,109] 2
 (.cond 109 (.post (pR [oK 15 3] [2,5,6,7,8,9,10,12,13,15] 2) [2,5,6,7,8,9,10,12,13,15] 2)
 (.post (sR [oN (.bin 112 .eql 104 (.c (.str ⟨#[104,111,108,100]⟩))),oM 111 112] [2,5,6,7,8,9,10,12,13,15,111] 2
 (.cond 111 (.post (pR [oK 15 4] [2,5,6,7,8,9,10,12,13,15] 2) [2,5,6,7,8,9,10,12,13,15] 2)
 (.post .skip [2,5,6,7,8,9,10,12,13,15] 2))) [2,5,6,7,8,9,10,12,13,15] 2))) [2,5,6,7,8,9,10,12,13,15] 2))) [2,5,6,7,8,9,10,12,13,15] 2)))))
 (.cut q1a)))
def q4b:ICode:=
 (.seq (.region [oN (.mv 12 (.c (.sl true 1 [])))] false)
 (.seq (.region [oN (.mv 13 (.c (.bool true)))] false)
 (.seq (sR [oK 14 1] [2,5,6,7,8,9,10,12,13,14] 2
 (.cut q34))
 (.cut q4a))))
def q39:ICode:=
 (pR [oM 30 8,oP 31 30 1,oM 8 31] [2,5,6,7,8] 2)
def q7a:ICode:=
 (.post (.seq (sR [oM 25 8,oM 26 5,oD 27 26,oS 28 27 1,oW 29 25 28] [2,5,6,7,8,29] 2
 (.cond 29 .skip
 (.exit 0)))
 (.seq (.block 1 (sR [oM 32 5,oM 33 8,oA 34 32 33,oL 35 34,oY 36 380 [35,(.c (.int .u8 32))],oT 9 36] [2,5,6,7,8,9] 2
 (.seq (.region [oK 10 0] false)
 (.seq (sR [oK 11 1] [2,5,6,7,8,9,10,11] 2
 (.cut q33))
 (.cut q4b)))))
 (.cut q39))) [2,5,6,7,8] 2)
def q4c:ICode:=
 (.post (.block 0 (.loop q7a)) [2,5,6] 2)
def q22:ICode:=
 (.seq (sR [oM 255 5,oM 256 5,oD 257 256,oS 258 257 1,oA 259 255 258,oL 260 259,oN (.bin 261 .neq 260 (.c (.str ByteArray.empty)))] [2,5,6,261] 2
 (.cond 261 (sR [oN (.build 262 [.sl true 6 [],.sl true 2 [],.sl true 2 [],.sl true 1 [],.sl true 1 []] []),oM 263 5,oD 264 263,oN (.store true 5 2 262),oM 3 264,oK 4 1] [2,3,4] 1
 .ret)
 .skip))
 (sR [oN (.load 265 true 5 6),oY 266 36 [265],oM 18 266] [2,6,18] 2
 (.seq (sR [oM 267 18,oN (.bin 268 .neq 267 (.c (I 0)))] [2,6,18,268] 2
 (.cond 268 (sR [oN (.build 269 [.sl true 6 [],.sl true 2 [],.sl true 2 [],.sl true 1 [],.sl true 1 []] []),oM 270 18,oN (.store true 5 2 269),oK 3 0,oM 4 270] [2,3,4] 1
 .ret)
 .skip))
 (sR [oN (.load 271 true 5 6),oN (.store true 5 2 271),oK 3 0,oK 4 0] [2,3,4] 1
 .ret))))
def qax:ICode:=
 (sR [oN (.alloc 2 false (.agg [.sl true 6 [],.sl true 2 [],.sl true 2 [],.sl true 1 [],.sl true 1 []])),oK 3 0,oK 4 0] [0,2] 1
 (.seq (sR [oM 19 0,oN (.len 20 1 19),oN (.bin 21 .gtr 20 (.c (I 10000)))] [0,2,21] 1
 (.cond 21 (sR [oN (.build 22 [.sl true 6 [],.sl true 2 [],.sl true 2 [],.sl true 1 [],.sl true 1 []] []),oN (.store true 5 2 22),oK 3 0,oK 4 2] [2,3,4] 1
 .ret)
 .skip))
 (sR [oM 23 0,oY 24 380 [23,(.c (.int .u8 10))],oT 5 24] [2,5] 1
 (.seq (.region [oN (.alloc 6 false (.agg [.sl true 6 [],.sl true 2 [],.sl true 2 [],.sl true 1 [],.sl true 1 []]))] false)
 (.seq (.region [oK 7 0] false)
 (.seq (sR [oK 8 0] [2,5,6,7,8] 2
 (.cut q4c))
 (.cut q22)))))))
def qm:IFunc:={np:=1,res:=[.cell 2 true 5,.t 3,.t 4],own:=false,trunc:=true,body:=qax }
/- 372: latchwork/latchworkref.ParseTrace -/
/- 373: latchwork/latchworkref.SameTrace -/
/- 376: latchwork/latchworkref.CheckTrace -/
/- 377: latchwork/latchworkref.PlayOf -/
/- 379: latchwork/latchworkref.kindWord -/
def qay:ICode:=
 (sR [oN (.mv 2 (.c (.str ByteArray.empty)))] [0] 0
 (sR [oN (.buildSl 4 1 [(.c (.str ⟨#[99,111,110,115,116]⟩)),(.c (.str ⟨#[105,110,112,117,116]⟩)),(.c (.str ⟨#[115,116,97,116,101]⟩)),(.c (.str ⟨#[110,111,116]⟩)),(.c (.str ⟨#[110,101,103]⟩)),(.c (.str ⟨#[97,110,100]⟩)),(.c (.str ⟨#[111,114]⟩)),(.c (.str ⟨#[120,111,114]⟩)),(.c (.str ⟨#[97,100,100]⟩)),(.c (.str ⟨#[115,117,98]⟩)),(.c (.str ⟨#[109,117,108]⟩)),(.c (.str ⟨#[100,105,118]⟩)),(.c (.str ⟨#[114,101,109]⟩)),(.c (.str ⟨#[115,104,108]⟩)),(.c (.str ⟨#[115,104,114]⟩)),(.c (.str ⟨#[101,113]⟩)),(.c (.str ⟨#[108,101,115,115]⟩)),(.c (.str ⟨#[115,105,103,110,101,100]⟩)),(.c (.str ⟨#[105,102]⟩)),(.c (.str ⟨#[106,111,105,110]⟩)),(.c (.str ⟨#[99,117,116]⟩)),(.c (.str ⟨#[119,105,100,101]⟩)),(.c (.str ⟨#[115,112,114,101,97,100]⟩))]),
 oT 3 4] [0,3] 0
 (sR [oM 5 3,oM 6 0,oS 7 6 1,oA 8 5 7,oL 9 8,oM 2 9] [2] 0
 .ret)))
def q7b:IFunc:={np:=1,res:=[.t 2],own:=false,trunc:=true,body:=qay }
/- 380: latchwork/latchworkref.Cut -/
def q3a:ICode:=
 (pR [oM 12 7,oP 13 12 1,oM 7 13] [0,1,5,6,7] 0)
def qaz:ICode:=
 (.post (.seq (sR [oM 8 7,oM 9 0,oN (.len 10 1 9),oW 11 8 10] [0,1,5,6,7,11] 0
 (.cond 11 .skip
 (.exit 0)))
 (.seq (.block 1 (sR [oM 14 0,oM 15 7,oN (.indexS 16 14 15),oM 17 1,oN (.bin 18 .eql 16 17)] [0,1,5,6,7,18] 0
 (.cond 18 (.post (sR [oT 19 5,oM 20 0,oM 21 6,oM 22 7,oN (.sliceS 23 20 (some 21) (some 22)),oN (.buildSl 24 1 [23]),oN (.append 25 1 16 19 24),oT 5 25] [0,1,5,7] 0
 (pR [oM 26 7,oP 27 26 1,oM 6 27] [0,1,5,6,7] 0)) [0,1,5,6,7] 0)
 (.post .skip [0,1,5,6,7] 0))))
 (.cut q3a))) [0,1,5,6,7] 0)
def q7c:ICode:=
 (.post (.block 0 (.loop qaz)) [0,5,6] 0)
def q4d:ICode:=
 (sR [oT 28 5,oM 29 0,oM 30 6,oN (.sliceS 31 29 (some 30) none),oN (.buildSl 32 1 [31]),oN (.append 33 1 16 28 32),oT 4 33] [4] 0
 .ret)
def qb0:ICode:=
 (sR [oN (.mv 4 (.c (.sl true 1 [])))] [0,1] 0
 (.seq (.region [oN (.mv 5 (.c (.sl true 1 [])))] false)
 (.seq (.region [oK 6 0] false)
 (.seq (sR [oK 7 0] [0,1,5,6,7] 0
 (.cut q7c))
 (.cut q4d)))))
def q7d:IFunc:={np:=2,res:=[.t 4],own:=false,trunc:=true,body:=qb0 }
/- 381: latchwork/latchworkref.Undigit -/
def qb1:ICode:=
 (.post (.seq (sR [oM 22 4,oM 23 0,oN (.len 24 1 23),oW 25 22 24] [0,3,4,25] 0
 (.cond 25 .skip
 (.exit 0)))
 (.seq (.block 1 (.seq (sR [
 oM 28 0,
 oM 29 4,
 oN (.indexS 30 28 29),
 oN (.bin 31 .lss 30 (.c (.int .u8 48))),
 oM 32 31,
  ⟨.mv 33 0,some (32,false)⟩,
  ⟨.mv 34 4,some (32,false)⟩,
  ⟨.indexS 35 33 34,some (32,false)⟩,
  ⟨.bin 36 .gtr 35 (.c (.int .u8 57)),some (32,false)⟩,
 oN (.pick 37 32 (.c (.bool true)) 36)] [0,3,4,37] 0
 (.cond 37 (sR [oN (.mv 2 (.c (I (-1))))] [2] 0
 .ret)
 .skip))
 (pR [oM 38 3,oN (.bin 39 .mul (.c (I 10)) 38),oM 40 0,oM 41 4,oN (.indexS 42 40 41),oN (.conv 43 .i64 42),oN (.bin 44 .add 39 43),oS 45 44 48,oM 3 45] [0,3,4] 0)))
 (pR [oM 26 4,oP 27 26 1,oM 4 27] [0,3,4] 0))) [0,3,4] 0)
def q4e:ICode:=
 (.post (.block 0 (.loop qb1)) [3] 0)
def q23:ICode:=
 (sR [oM 46 3,oM 2 46] [2] 0
 .ret)
def qb2:ICode:=
 (sR [oK 2 0] [0] 0
 (.seq (sR [
 oM 5 0,
 oN (.bin 6 .eql 5 (.c (.str ByteArray.empty))),
 oM 7 6,
  ⟨.mv 8 0,some (7,false)⟩,
  ⟨.len 9 1 8,some (7,false)⟩,
  ⟨.bin 10 .gtr 9 (.c (I 9)),some (7,false)⟩,
 oN (.pick 11 7 (.c (.bool true)) 10),
 oM 12 11,
  ⟨.mv 13 0,some (12,false)⟩,
  ⟨.len 14 1 13,some (12,false)⟩,
  ⟨.bin 15 .gtr 14 (.c (I 1)),some (12,false)⟩,
  ⟨.mv 16 15,some (12,false)⟩,
  ⟨.mv 17 0,some (16,true)⟩,
  ⟨.indexS 18 17 (.c (I 0)),some (16,true)⟩,
  ⟨.bin 19 .eql 18 (.c (.int .u8 48)),some (16,true)⟩,
  ⟨.pick 20 16 19 (.c (.bool false)),some (12,false)⟩,
 oN (.pick 21 12 (.c (.bool true)) 20)] [0,21] 0
 (.cond 21 (sR [oN (.mv 2 (.c (I (-1))))] [2] 0
 .ret)
 .skip))
 (sR [oK 3 0] [0,3] 0
 (.seq (sR [oK 4 0] [0,3,4] 0
 (.cut q4e))
 (.cut q23)))))
def qh:IFunc:={np:=1,res:=[.t 2],own:=false,trunc:=true,body:=qb2 }
/- 385: latchwork/latchworkref.PrintClauses -/
end Go.Lw
end

/-! The code of package Word for the small machine. Written by program (gen.py). -/
section
set_option maxRecDepth 10000
namespace Go.Lw
open Go
/- 22: latchwork/word.Fit -/
def qba:ICode:=
 (.post (.seq (.region [oN (.bin 26 .lss 25 (.c (I 3)))] false)
 (.seq (.cond 26 .skip
 (.exit 0))
 (.seq (.block 1 (sR [oM 27 25,oN (.index 28 1 3 false 24 25),oM 11 27,oM 12 28] [0,1,2,7,9,11,12,24,25] 1
 (sR [
 oM 29 11,
 oM 30 0,
 oY 31 63 [30],
 oW 32 29 31,
 oM 33 32,
  ⟨.mv 34 12,some (33,true)⟩,
  ⟨.call (some 35) true 62 [34],some (33,true)⟩,
  ⟨.un 36 .not 35,some (33,true)⟩,
 oN (.pick 37 33 36 (.c (.bool false))),
 oM 38 37,
  ⟨.mv 39 11,some (38,false)⟩,
  ⟨.mv 40 0,some (38,false)⟩,
  ⟨.call (some 41) true 63 [40],some (38,false)⟩,
  ⟨.bin 42 .geq 39 41,some (38,false)⟩,
  ⟨.mv 43 42,some (38,false)⟩,
  ⟨.mv 44 12,some (43,true)⟩,
  ⟨.bin 45 .neq 44 (.c (I 0)),some (43,true)⟩,
  ⟨.pick 46 43 45 (.c (.bool false)),some (38,false)⟩,
 oN (.pick 47 38 (.c (.bool true)) 46)] [0,1,2,7,9,24,25,47] 1
 (.cond 47 (sR [oK 8 3] [8] 0
 .ret)
 .skip))))
 (pR [oP 48 25 1,oM 25 48] [0,1,2,7,9,24,25] 1)))) [0,1,2,7,9,24,25] 1)
def q7k:ICode:=
 (.post (.block 0 (.loop qba)) [1,2,7,9] 1)
def q7l:ICode:=
 (.seq (sR [oM 49 9,oM 50 1,oM 51 2,oN (.load 52 true 3 7),oY 53 64 [49,50,51,52],oN (.un 54 .not 53)] [54] 0
 (.cond 54 (sR [oK 8 1] [8] 0
 .ret)
 .skip))
 (sR [oK 8 0] [8] 0
 .ret))
def qbb:ICode:=
 (sR [oB 7 3,oK 8 0] [0,1,2,7] 1
 (sR [oX 14 61 [],oM 15 0,oN (.lookup 16 0 14 15 true (I 0)),oM 13 16,oG 17 13 0,oG 18 13 1,oM 9 17,oM 10 18] [0,1,2,7,9,10] 1
 (.seq (sR [oM 19 10,oN (.un 20 .not 19)] [0,1,2,7,9,20] 1
 (.cond 20 (sR [oK 8 7] [8] 0
 .ret)
 .skip))
 (.seq (sR [oM 21 1,oY 22 62 [21],oN (.un 23 .not 22)] [0,1,2,7,9,23] 1
 (.cond 23 (sR [oK 8 3] [8] 0
 .ret)
 .skip))
 (.seq (sR [oN (.load 24 true 3 7),oK 25 0] [0,1,2,7,9,24,25] 1
 (.cut q7k))
 (.cut q7l))))))
def qn:IFunc:={np:=4,res:=[.t 8],own:=false,trunc:=true,body:=qbb }
/- 25: latchwork/word.Apply -/
/- 61: latchwork/word.shapes -/
def qbc:ICode:=
 (sR [oN (.mv 0 (.c (.nilm)))] [] 0
 (sR [oN (.mkmap 1),oN (.mupd 0 1 (.c (I 4)) (.c (I 1))),oN (.mupd 0 1 (.c (I 5)) (.c (I 1))),oN (.mupd 0 1 (.c (I 6)) (.c (I 2))),oN (.mupd 0 1 (.c (I 7)) (.c (I 2))),
 oN (.mupd 0 1 (.c (I 8)) (.c (I 2))),oN (.mupd 0 1 (.c (I 9)) (.c (I 2))),oN (.mupd 0 1 (.c (I 10)) (.c (I 2))),oN (.mupd 0 1 (.c (I 11)) (.c (I 2))),
 oN (.mupd 0 1 (.c (I 12)) (.c (I 2))),oN (.mupd 0 1 (.c (I 13)) (.c (I 2))),oN (.mupd 0 1 (.c (I 14)) (.c (I 2))),oN (.mupd 0 1 (.c (I 15)) (.c (I 2))),
 oN (.mupd 0 1 (.c (I 16)) (.c (I 3))),oN (.mupd 0 1 (.c (I 17)) (.c (I 3))),oN (.mupd 0 1 (.c (I 18)) (.c (I 3))),oN (.mupd 0 1 (.c (I 19)) (.c (I 4))),
 oN (.mupd 0 1 (.c (I 20)) (.c (I 5))),oN (.mupd 0 1 (.c (I 21)) (.c (I 6))),oN (.mupd 0 1 (.c (I 22)) (.c (I 7))),oN (.mupd 0 1 (.c (I 23)) (.c (I 7))),oM 2 1,oM 0 2] [0] 0
 .ret))
def q7m:IFunc:={np:=0,res:=[.t 0],own:=false,trunc:=false,body:=qbc }
/- 62: latchwork/word.IsWidth -/
def qbd:ICode:=
 (sR [oN (.mv 2 (.c (.bool false)))] [0] 0
 (sR [
 oM 3 0,
 oN (.bin 4 .geq 3 (.c (I 1))),
 oM 5 4,
  ⟨.mv 6 0,some (5,true)⟩,
  ⟨.bin 7 .leq 6 (.c (I 8)),some (5,true)⟩,
 oN (.pick 8 5 7 (.c (.bool false))),
 oM 2 8] [2] 0
 .ret))
def q3f:IFunc:={np:=1,res:=[.t 2],own:=false,trunc:=true,body:=qbd }
/- 63: latchwork/word.Takes -/
def q3g:ICode:=
 (.cond 8 (sR [oK 2 1] [2] 0
 .ret)
 (sR [oE 13 5 4,oM 12 13] [12] 0
 (.cond 12 (sR [oK 2 3] [2] 0
 .ret)
 .skip)))
def q3h:ICode:=
 (sR [oK 2 2] [2] 0
 .ret)
def qbe:ICode:=
 (sR [oK 2 0] [0] 0
 (.seq (sR [oX 3 61 [],oM 4 0,oN (.lookup 5 0 3 4 false (I 0))] [5] 0
 (.block 0 (sR [oE 7 5 0,oM 6 7] [5,6] 0
 (.cond 6 (sR [oK 2 0] [2] 0
 .ret)
 (.seq (sR [oE 9 5 1,oM 8 9] [5,8] 0
 (.cond 8 (.post .skip [5,8] 0)
 (.post (sR [oE 10 5 6,oM 8 10] [5,8] 0
 (.cond 8 (.post .skip [5,8] 0)
 (.post (pR [oE 11 5 7,oM 8 11] [5,8] 0) [5,8] 0))) [5,8] 0)))
 (.cut q3g))))))
 (.cut q3h)))
def qo:IFunc:={np:=1,res:=[.t 2],own:=false,trunc:=true,body:=qbe }
/- 64: latchwork/word.fits -/
def qbf:ICode:=
 (sR [oB 7 3,oN (.mv 8 (.c (.bool false)))] [0,1,2,7] 1
 (.seq (sR [
 oM 9 2,
 oN (.bin 10 .neq 9 (.c (I 0))),
 oM 11 10,
  ⟨.mv 12 0,some (11,true)⟩,
  ⟨.bin 13 .neq 12 (.c (I 6)),some (11,true)⟩,
 oN (.pick 14 11 13 (.c (.bool false)))] [0,1,2,7,14] 1
 (.cond 14 (sR [oN (.mv 8 (.c (.bool false)))] [8] 0
 .ret)
 .skip))
 (.seq (sR [oM 15 0] [1,2,7,15] 1
 (.block 0 (sR [oE 17 15 1,oM 16 17] [1,2,7,15,16] 1
 (.cond 16 (sR [oN (.iaddr 18 1 (some 3) 7 (.c (I 0))),oL 19 18,oM 20 1,oN (.bin 21 .eql 19 20),oM 8 21] [8] 0
 .ret)
 (sR [oE 23 15 2,oM 22 23] [1,2,7,15,22] 1
 (.cond 22 (sR [
 oN (.iaddr 24 1 (some 3) 7 (.c (I 0))),
 oL 25 24,
 oM 26 1,
 oN (.bin 27 .eql 25 26),
 oM 28 27,
  ⟨.iaddr 29 1 (some 3) 7 (.c (I 1)),some (28,true)⟩,
  ⟨.load 30 false 1 29,some (28,true)⟩,
  ⟨.mv 31 1,some (28,true)⟩,
  ⟨.bin 32 .eql 30 31,some (28,true)⟩,
 oN (.pick 33 28 32 (.c (.bool false))),
 oM 8 33] [8] 0
 .ret)
 (sR [oE 35 15 3,oM 34 35] [1,2,7,15,34] 1
 (.cond 34 (sR [
 oN (.iaddr 36 1 (some 3) 7 (.c (I 0))),
 oL 37 36,
 oN (.iaddr 38 1 (some 3) 7 (.c (I 1))),
 oL 39 38,
 oN (.bin 40 .eql 37 39),
 oM 41 40,
  ⟨.mv 42 1,some (41,true)⟩,
  ⟨.bin 43 .eql 42 (.c (I 1)),some (41,true)⟩,
 oN (.pick 44 41 43 (.c (.bool false))),
 oM 8 44] [8] 0
 .ret)
 (sR [oE 46 15 4,oM 45 46] [1,2,7,15,45] 1
 (.cond 45 (sR [
 oN (.iaddr 47 1 (some 3) 7 (.c (I 0))),
 oL 48 47,
 oE 49 48 1,
 oM 50 49,
  ⟨.iaddr 51 1 (some 3) 7 (.c (I 1)),some (50,true)⟩,
  ⟨.load 52 false 1 51,some (50,true)⟩,
  ⟨.mv 53 1,some (50,true)⟩,
  ⟨.bin 54 .eql 52 53,some (50,true)⟩,
 oN (.pick 55 50 54 (.c (.bool false))),
 oM 56 55,
  ⟨.iaddr 57 1 (some 3) 7 (.c (I 2)),some (56,true)⟩,
  ⟨.load 58 false 1 57,some (56,true)⟩,
  ⟨.mv 59 1,some (56,true)⟩,
  ⟨.bin 60 .eql 58 59,some (56,true)⟩,
 oN (.pick 61 56 60 (.c (.bool false))),
 oM 8 61] [8] 0
 .ret)
 (sR [oE 63 15 5,oM 62 63] [1,2,7,15,62] 1
 (.cond 62 (sR [oN (.iaddr 64 1 (some 3) 7 (.c (I 0))),oL 65 64,oN (.iaddr 66 1 (some 3) 7 (.c (I 1))),oL 67 66,oN (.bin 68 .add 65 67),oM 69 1,oN (.bin 70 .eql 68 69),oM 8 70] [8] 0
 .ret)
 (sR [oE 72 15 6,oM 71 72] [1,2,7,71] 1
 (.cond 71 (sR [
 oM 73 2,
 oN (.bin 74 .geq 73 (.c (I 0))),
 oM 75 74,
  ⟨.mv 76 2,some (75,true)⟩,
  ⟨.iaddr 77 1 (some 3) 7 (.c (I 0)),some (75,true)⟩,
  ⟨.load 78 false 1 77,some (75,true)⟩,
  ⟨.mv 79 1,some (75,true)⟩,
  ⟨.bin 80 .sub 78 79,some (75,true)⟩,
  ⟨.bin 81 .leq 76 80,some (75,true)⟩,
 oN (.pick 82 75 81 (.c (.bool false))),
 oM 8 82] [8] 0
 .ret)
 .skip))))))))))))))
 (sR [oM 83 1,oN (.iaddr 84 1 (some 3) 7 (.c (I 0))),oL 85 84,oN (.bin 86 .geq 83 85),oM 8 86] [8] 0
 .ret))))
def q7n:IFunc:={np:=4,res:=[.t 8],own:=false,trunc:=true,body:=qbf }
/- 65: latchwork/word.IsWord -/
def qbg:ICode:=
 (sR [oN (.mv 4 (.c (.bool false)))] [0,1] 0
 (sR [
 oM 5 0,
 oN (.bin 6 .geq 5 (.c (I 0))),
 oM 7 6,
  ⟨.mv 8 0,some (7,true)⟩,
  ⟨.mv 9 1,some (7,true)⟩,
  ⟨.bin 10 .shl (.c (I 1)) 9,some (7,true)⟩,
  ⟨.bin 11 .lss 8 10,some (7,true)⟩,
 oN (.pick 12 7 11 (.c (.bool false))),
 oM 4 12] [4] 0
 .ret))
def q3i:IFunc:={np:=2,res:=[.t 4],own:=false,trunc:=true,body:=qbg }
/- 66: latchwork/word.Raw -/
/- 96: latchwork/word.do -/
/- 114: latchwork/word.yes -/
/- 115: latchwork/word.signed -/
end Go.Lw
end

/-! The machine's code, read off: what a piece of code comes to, said without slots. No program in sight. -/
section
namespace Go.Lw
open Go
inductive Ce where
 |any
 |one
 |int (k:IntKind)
 |bool
 |str
 |gp
 |ol (z:Nat)
 deriving Inhabited
inductive Sh where
 |raw
 |ce (c:Ce)
 |agg (l:List Ce)
 |tup (n:Nat)
 deriving Inhabited
/- What the kernel is to undo first (the height of a definition). -/
def hz0:Nat:=0
def hz1:Nat:=hz0
def hz2:Nat:=hz1
def hz3:Nat:=hz2
def hz4:Nat:=hz3
def hz5:Nat:=hz4
def hz6:Nat:=hz5
def hz7:Nat:=hz6
def hz8:Nat:=hz7
def hz9:Nat:=hz8
def hz10:Nat:=hz9
def hz11:Nat:=hz10
def hz12:Nat:=hz11
def hz13:Nat:=hz12
def hz14:Nat:=hz13
def hz15:Nat:=hz14
def hz16:Nat:=hz15
def hz17:Nat:=hz16
def hz18:Nat:=hz17
def hz19:Nat:=hz18
def hz20:Nat:=hz19
def hz21:Nat:=hz20
def hz22:Nat:=hz21
def hz23:Nat:=hz22
def hz24:Nat:=hz23
def hz25:Nat:=hz24
def hz26:Nat:=hz25
def hz27:Nat:=hz26
def hz28:Nat:=hz27
def hz29:Nat:=hz28
def hz30:Nat:=hz29
def hz31:Nat:=hz30
def hz32:Nat:=hz31
def hz33:Nat:=hz32
def hz34:Nat:=hz33
def hz35:Nat:=hz34
def hz36:Nat:=hz35
def hz37:Nat:=hz36
def hz38:Nat:=hz37
def hz39:Nat:=hz38
def hz40:Nat:=hz39
def hz41:Nat:=hz40
def hz42:Nat:=hz41
def hz43:Nat:=hz42
def hz44:Nat:=hz43
def hz45:Nat:=hz44
def hz46:Nat:=hz45
def hz47:Nat:=hz46
def hz48:Nat:=hz47
def hz49:Nat:=hz48
def hz50:Nat:=hz49
def hz51:Nat:=hz50
def hz52:Nat:=hz51
def hz53:Nat:=hz52
def hz54:Nat:=hz53
def hz55:Nat:=hz54
def hz56:Nat:=hz55
def hz57:Nat:=hz56
def hz58:Nat:=hz57
def hz59:Nat:=hz58
def hz60:Nat:=hz59
def hz61:Nat:=hz60
def hz62:Nat:=hz61
def hz63:Nat:=hz62
def hz64:Nat:=hz63
def hz65:Nat:=hz64
def hz66:Nat:=hz65
def hz67:Nat:=hz66
def hz68:Nat:=hz67
def hz69:Nat:=hz68
def hz70:Nat:=hz69
section
variable {R:Type} {α:Type}
def ob0 (x:Option α) (f:α→Option R):Option R:=match x with|some a=>f a|none=>none
def gd0 (b:Bool) (x:Option R):Option R:=match b with|true=>x|false=>none
def ob (x:Option α) (f:α→Option R):Option R:=(fun _:Nat=>
 match x with|some a=>f a|none=>none) hz45
def gd (b:Bool) (x:Option R):Option R:=(fun _:Nat=>
 match b with|true=>x|false=>none) hz45
def gb (b:Bool) (x:Option R):Option R:=(fun _:Nat=>
 match b with|true=>x|false=>none) hz45
def br (_:Nat) (b:Bool) (x y:Option R):Option R:=(fun _:Nat=>
 match b with|true=>x|false=>y) hz45
def kR (x:Option (IExit×St)) (k:IExit→St→Option R):Option R:=match x with|some (e,s)=>k e s|none=>none
def nx (e:IExit) (s:St) (k:IExit→St→Option R) (f:St→Option R):Option R:=(fun _:Nat=>
 match e with| .normal=>f s|e=>k e s) hz70
def bk (id:Nat) (e:IExit) (s:St) (k:IExit→St→Option R):Option R:=match e with| .exit i=>br 0 (Nat.beq i id) (k .normal s) (k (.exit i) s)|e=>k e s
def iAnd (k:IntKind) (a b:Int):Int:=k.wrap (BitVec.ofInt k.bits a &&&BitVec.ofInt k.bits b).toNat
def iOr (k:IntKind) (a b:Int):Int:=k.wrap (BitVec.ofInt k.bits a |||BitVec.ofInt k.bits b).toNat
def iXor (k:IntKind) (a b:Int):Int:=k.wrap (BitVec.ofInt k.bits a ^^^BitVec.ofInt k.bits b).toNat
def iShl (k:IntKind) (a b:Int):Int:=k.wrap (a*2^(min b.toNat k.bits))
def iShr (k:IntKind) (a b:Int):Int:=a.fdiv (2^(min b.toNat k.bits))
def iNot (k:IntKind) (n:Int):Int:=k.wrap (BitVec.ofInt k.bits (if k.signed then -1 else k.max) ^^^BitVec.ofInt k.bits n).toNat
def kIdx:IntKind→Nat
 | .i8=>0| .i16=>1| .i32=>2| .i64=>3| .u8=>4| .u16=>5| .u32=>6| .u64=>7
def kE (k k':IntKind) (x:Option R):Option R:=gb (Nat.beq (kIdx k) (kIdx k')) x
def Fn:Nat→Type→Type
 |0,R=>R
 |n+1,R=>PV→Fn n R
def curry:(n:Nat)→(List PV→R)→Fn n R
 |0,g=>g []
 |n+1,g=>fun c=>curry n fun l=>g (c::l)
def unN:(n:Nat)→List PV→Fn n (Option R)→Option R
 |0,[],f=>f
 |n+1,c::l,f=>unN n l (f c)
 |_,_,_=>none
def isC (v:PV) (x:Option R):Option R:=(fun _:Nat=>
 match v with| .agg _=>none|_=>x) hz45
def stK (nl:Nat) (v:PV) (x:Option R):Option R:=(fun _:Nat=>
 match v with
  | .ptr false b _=>gb (Nat.ble (b+1) nl) x
  | .bs false b _ _ _=>gb (Nat.ble (b+1) nl) x
  |_=>x) hz45
def onK (v:PV) (x:Option R):Option R:=(fun _:Nat=>
 match v with
  | .und| .agg _| .tup _| .ptr false _ _| .bs false _ _ _ _| .arr _ _| .junk=>none
  |_=>x) hz45
def arL:List PV→Option R→Option R
 |[],x=>x
 |c::l,x=>onK c (arL l x)
def arK (v:PV) (x:Option R):Option R:=(fun _:Nat=>
 match v with
  | .agg cs=>arL cs x
  | .und| .tup _| .ptr false _ _| .bs false _ _ _ _| .arr _ _| .junk=>none
  |_=>x) hz45
def allK:List PV→Option R→Option R
 |[],x=>x
 |v::l,x=>arK v (allK l x)
def lenB:List PV→Nat→Bool
 |[],0=>true
 |_::l,n+1=>lenB l n
 |_,_=>false
def geB:List PV→Nat→Bool
 |_,0=>true
 |_::l,n+1=>geB l n
 |[],_+1=>false
def lnK (z:Nat) (v:PV) (x:Option R):Option R:=(fun _:Nat=>
 match v with
  | .agg cs=>gb (lenB cs z) x
  |_=>gb (Nat.beq 1 z) x) hz45
def slK (z:Nat):List PV→Option R→Option R
 |[],x=>x
 |v::l,x=>arK v (lnK z v (slK z l x))
def isPtr:PV→Bool
 | .ptr _ _ _| .ep _ _| .fn _ _=>true
 |_=>false
def unI (k:IntKind) (v:PV) (f:Int→Option R):Option R:=(fun _:Nat=>
 match v with| .int k' n=>kE k' k (f n)|_=>none) hz45
def anyI (v:PV) (f:Int→Option R):Option R:=(fun _:Nat=>
 match v with| .int _ n=>f n|_=>none) hz45
def unB (v:PV) (f:Bool→Option R):Option R:=(fun _:Nat=>
 match v with| .bool b=>f b|_=>none) hz45
def unS (v:PV) (f:ByteArray→Option R):Option R:=(fun _:Nat=>
 match v with| .str b=>f b|_=>none) hz45
def unG (v:PV) (f:Nat→Nat→Option R):Option R:=(fun _:Nat=>
 match v with| .ptr true b off=>f b off|_=>none) hz45
def unO (z:Nat) (v:PV) (f:List PV→Option R):Option R:=match v with| .sl true z' xs=>gb (Nat.beq z' z) (f xs)|_=>none
def unA (n:Nat) (v:PV) (f:Fn n (Option R)):Option R:=match v with| .agg cs=>unN n cs f|_=>none
def unT (n:Nat) (v:PV) (f:Fn n (Option R)):Option R:=match v with| .tup cs=>unN n cs f|_=>none
def nilB (v:PV) (f:Bool→Option R):Option R:=match v with| .nilI=>f true| .someI=>f false|_=>none
def castC (c:Ce) (v:PV) (f:PV→Option R):Option R:=
 match c with
 | .any=>f v
 | .one=>isC v (f v)
 | .int k=>unI k v fun n=>f (.int k n)
 | .bool=>unB v fun b=>f (.bool b)
 | .str=>unS v fun b=>f (.str b)
 | .gp=>unG v fun b off=>f (.ptr true b off)
 | .ol z=>unO z v fun xs=>f (.sl true z xs)
def castL:List Ce→List PV→(List PV→Option R)→Option R
 |[],[],f=>f []
 |c::cs,v::vs,f=>castC c v fun v=>castL cs vs fun vs=>f (v::vs)
 |_,_,_=>none
def cast (h:Sh) (v:PV) (f:PV→Option R):Option R:=
 match h with
 | .raw=>f v
 | .ce c=>castC c v f
 | .agg l=>unA l.length v (curry l.length fun cs=>castL l cs fun cs=>f (.agg cs))
 | .tup n=>unT n v (curry n fun vs=>f (.tup vs))
inductive Tr where
 |nil
 |node (n:Nat) (h:Sh) (l r:Tr)
def shAt:Tr→Nat→Sh
 | .nil,_=> .raw
 | .node n h l r,t=>match Nat.beq n t with
  |true=>h
  |false=>match Nat.ble n t with
   |true=>shAt r t
   |false=>shAt l t
def shX (an:Tr):IX→Sh
 | .t n=>shAt an n
 | .c _=> .raw
 | .f _=> .raw
def getX:List (Nat×PV)→Nat→Option PV
 |[],_=>none
 |(a,v)::l,t=>match Nat.beq a t with
  |true=>some v
  |false=>getX l t
def putK:List (Nat×PV)→Nat→PV→(List (Nat×PV)→Option R)→Option R
 |[],t,v,k=>(fun _:Nat=>k [(t,v)]) hz70
 |(a,u)::l,t,v,k=>match Nat.beq a t with
  |true=>k ((t,v)::l)
  |false=>putK l t v fun l=>k ((a,u)::l)
def snocK:List α→α→(List α→Option R)→Option R
 |[],v,k=>(fun _:Nat=>k [v]) hz70
 |u::l,v,k=>snocK l v fun l=>k (u::l)
def setK:List α→Nat→α→(List α→Option R)→Option R
 |[],_,_,k=>(fun _:Nat=>k []) hz70
 |_::l,0,v,k=>k (v::l)
 |u::l,i+1,v,k=>setK l i v fun l=>k (u::l)
def nthX:List α→Nat→Option α
 |[],_=>none
 |u::_,0=>some u
 |_::l,i+1=>nthX l i
def takeK:Nat→List α→(List α→Option R)→Option R
 |0,_,k=>(fun _:Nat=>k []) hz70
 |_,[],k=>k []
 |n+1,u::l,k=>takeK n l fun l=>k (u::l)
def evX (e:List (Nat×PV)):IX→Option PV
 | .t n=>match getX e n with
  |some v=>some (degr v)
  |none=>none
 | .c v=>some (degr v)
 | .f id=>some (.fn id [])
def evK (e:List (Nat×PV)):IX→Option PV
 | .t n=>match getX e n with
  |some v=>some (degr v)
  |none=>none
 | .c v=>some v
 | .f id=>some (.fn id [])
def evXs (e:List (Nat×PV)):List IX→(List PV→Option R)→Option R
 |[],k=>(fun _:Nat=>k []) hz70
 |x::l,k=>match evX e x with
  |some v=>evXs e l fun vs=>k (v::vs)
  |none=>none
def tkX (e:List (Nat×PV)) (x:IX) (k:PV→List (Nat×PV)→Option R):Option R:=
 match x with
 | .t n=>match getX e n with
  |some v=>putK e n (degr v) fun e=>k v e
  |none=>none
 | .c v=>k v e
 | .f id=>k (.fn id []) e
def putS (s:St) (d:Nat) (v:PV) (k:St→Option R):Option R:=putK s.env d v fun e=>k ⟨e,s.lh,s.gh⟩
def cellsX (h:Sh) (v:PV) (f:List PV→Option R):Option R:=
 match h with
 | .ce _=>isC v (f [v])
 |_=>f v.cells
def setX (an:Tr) (s:St) (d:Nat) (v:PV) (k:St→Option R):Option R:=cast (shAt an d) v fun w=>putS s d w k
def ghCells (gh:List GObj) (b:Nat):Option (List PV):=match gh[b]? with|some (.cells cs)=>some cs|_=>none
def ghMap (gh:List GObj) (b:Nat):Option (List (PV×PV)):=match gh[b]? with|some (.map es)=>some es|_=>none
def ldX (lh:List (List PV)) (gh:List GObj) (agg:Bool) (k:Nat) (p:PV) (f:PV→Option R):Option R:=
 (fun _:Nat=>
 match p with
 | .ptr false b off=>match nthX lh b with
  |some cs=>(match grab agg k off cs with|some v=>f (degr v)|none=>none)
  |none=>none
 | .ptr true b off=>ob0 (ghCells gh b) fun cs=>ob0 (grab agg k off cs) fun v=>f (degr v)
 | .ep e off=>ob0 (grab agg k off e.cells) f
 |_=>none) hz20
def stOk (k off:Nat) (cs old:List PV):Bool:=lenB cs k&&geB old (off+k)
def stoX (s:St) (p:PV) (kk:Nat) (cs:List PV) (k:St→Option R):Option R:=
 match p with
 | .ptr false b off=>match nthX s.lh b with
  |some old=>gb (stOk kk off cs old) (setK s.lh b (spliceAt old off cs) fun lh=>k ⟨s.env,lh,s.gh⟩)
  |none=>none
 | .ptr true b off=>ob (ghCells s.gh b) fun old=>gb (stOk kk off cs old) (k ⟨s.env,s.lh,s.gh.set b (.cells (spliceAt old off cs))⟩)
 |_=>none
def psX (an:Tr) (e:List (Nat×PV)):List (Nat×Nat×IX)→List PV→(List PV→Option R)→Option R
 |[],z,f=>f z
 |(off,k,x)::l,z,f=>match evX e x with
  |some v=>arK v (cellsX (shX an x) v fun cs=>gb (stOk k off cs z) (psX an e l (spliceAt z off cs) f))
  |none=>none
def psT (an:Tr):List (Nat×PV)→List (Nat×Nat×IX)→List PV→(List (Nat×PV)→List PV→Option R)→Option R
 |e,[],z,f=>f e z
 |e,(off,k,x)::l,z,f=>tkX e x fun v e1=>arK v (cellsX (shX an x) v fun cs=>gb (stOk k off cs z) (psT an e1 l (spliceAt z off cs) f))
def boX (e:List (Nat×PV)) (x:Option IX) (f:Option Int→Option R):Option R:=
 match x with
 |none=>f none
 |some x=>match evX e x with
  |some v=>anyI v fun n=>f (some n)
  |none=>none
def bd (d:Nat) (x:Option Int) (f:Nat→Option R):Option R:=match x with|none=>f d|some i=>gd0 (decide (0≤i)) (f i.toNat)
def slX (z:Nat) (v:PV) (lo hi:Option Int) (f:PV→Option R):Option R:=
 match v with
 | .sl _ z' xs=>bd xs.length hi fun h=>bd 0 lo fun l=>gd0 (decide (l≤h∧h≤xs.length∧z=z')) (f (.sl false z ((xs.take h).drop l)))
 | .bs g b off n z'=>bd n hi fun h=>bd 0 lo fun l=>gd0 (decide (l≤h∧h≤n∧z=z')) (f (.bs g b (off+l*z) (h-l) z))
 | .stk b gen n=>match lo with
  |none=>bd n hi fun h=>gd0 (decide (h≤n∧z=1)) (f (.stk b gen h))
  |some lo=>bd n hi fun h=>bd 0 (some lo) fun l=>gd0 (decide (l≤h∧h≤n∧z=1)) (f (.sub b gen l (h-l)))
 | .sub b gen off n=>bd n hi fun h=>bd 0 lo fun l=>gd0 (decide (l≤h∧h≤n∧z=1)) (f (.sub b gen (off+l) (h-l)))
 |_=>none
def ssX (v:PV) (lo hi:Option Int) (f:ByteArray→Option R):Option R:=
 match v with
 | .str b=>bd b.size hi fun h=>bd 0 lo fun l=>gd (decide (l≤h∧h≤b.size)) (f (b.extract l h))
 |_=>none
def faX (p:PV) (off:Nat) (f:PV→Option R):Option R:=
 (fun _:Nat=>
 match p with
 | .ptr g b o=>f (.ptr g b (o+off))
 | .ep e o=>f (.ep e (o+off))
 |_=>none) hz30
def fdX (v:PV) (agg:Bool) (k off:Nat) (f:PV→Option R):Option R:=
 match v with
 | .agg cs=>ob (grab agg k off cs) f
 |_=>none
def idX (z:Nat) (arr:Option Nat) (v:PV) (i:Int) (f:PV→Option R):Option R:=
 match arr,v with
 |none,.sl _ z' xs=>gd0 (decide (0≤i∧z=z')) (ob0 xs[i.toNat]? fun e=>f (.ep e 0))
 |none,.bs g b off n z'=>gd0 (decide (0≤i∧i<n∧z=z')) (f (.ptr g b (off+i.toNat*z)))
 |some m,.ptr g b o=>gd0 (decide (0≤i∧i<m)) (f (.ptr g b (o+i.toNat*z)))
 |some m,.ep e o=>gd0 (decide (0≤i∧i<m)) (f (.ep e (o+i.toNat*z)))
 |none,.stk b gen n=>gd0 (decide (0≤i∧i<n∧z=1)) (f (.pstk b gen i.toNat))
 |none,.sub b gen off n=>gd0 (decide (0≤i∧i<n∧z=1)) (f (.pstk b gen (off+i.toNat)))
 |_,_=>none
def ixX (v:PV) (z arr:Nat) (agg:Bool) (i:Int) (f:PV→Option R):Option R:=
 match v with
 | .agg cs=>gd (decide (0≤i∧i<arr)) (ob (grab agg z (i.toNat*z) cs) f)
 |_=>none
def isX (v:PV) (i:Int) (f:Int→Option R):Option R:=
 match v with
 | .str b=>gd (decide (0≤i)) (ob b[i.toNat]? fun u=>f u.toNat)
 |_=>none
def lkX (gh:List GObj) (kn:Nat) (m k:PV) (f:Option PV→Option R):Option R:=
 match m with
 | .mp b=>ob (ghMap gh b) fun es=>gd (isKey kn k) (ob (mfind kn es k) f)
 |_=>none
def muX (gh:List GObj) (kn:Nat) (m k v:PV) (f:List GObj→Option R):Option R:=
 match m with
 | .mp b=>ob (ghMap gh b) fun es=>gd (argOk k&&(argOk v&&isKey kn k)) (ob (mset kn es k v) fun es'=>f (gh.set b (.map es')))
 |_=>none
def lenS (v:PV) (f:Nat→Option R):Option R:=match v with| .sl _ _ xs=>f xs.length| .bs _ _ _ n _=>f n| .stk _ _ n=>f n| .sub _ _ _ n=>f n| .nils=>f 0|_=>none
def lenM (gh:List GObj) (v:PV) (f:Nat→Option R):Option R:=match v with| .mp b=>ob (ghMap gh b) fun es=>f es.length|_=>none
def apX (z bytes:Nat) (v w:PV) (f:List PV→Option R):Option R:=
 match w,v with
 | .sl _ z2 ys,.sl o z1 xs=>gd (decide (o=true∧z1=z∧z2=z∧(xs.length+ys.length)*bytes≤maxBytes)) (f (xs++ys))
 |_,_=>none
def ghStk (gh:List GObj) (b:Nat):Option (Nat×List PV):=match gh[b]? with|some (.stk g xs)=>some (g,xs)|_=>none
def akX (gh:List GObj) (bytes:Nat) (v w:PV) (f:List GObj→PV→Option R):Option R:=
 ob (elsOf gh w) fun ys=>match v with
  | .stk b gen n=>ob (ghStk gh b) fun p=>gd (decide (p.1=gen∧n≤p.2.length∧(n+ys.length)*bytes≤maxBytes∧apart b w=true∧ys.all isFlat=true)) (f (gh.set b (.stk (p.1+1) (p.2.take n++ys))) (.stk b (p.1+1) (n+ys.length)))
  |_=>none
def anX (gh:List GObj) (bytes:Nat) (v w:PV) (f:List GObj→PV→Option R):Option R:=
 match v with
 | .nils=>ob (elsOf gh w) fun ys=>gd (decide (ys≠[]∧ys.length*bytes≤maxBytes∧ys.all isFlat=true)) (f (gh++[.stk 0 ys]) (.stk gh.length 0 ys.length))
 |v=>akX gh bytes v w f
def lkK (gh:List GObj) (v:PV) (f:PV→Option R):Option R:=match v with| .pstk b gen i=>ob (stkGet gh b gen i) f|_=>none
def exX (v:PV) (i:Nat) (f:PV→Option R):Option R:=match v with| .tup vs=>ob vs[i]? f|_=>none
noncomputable def callR (gh:List GObj) (q:Bool) (x:Option (PV×List GObj)) (f:PV→List GObj→Option R):Option R:=
 open Classical in
 match x with|some (r,gh')=>(match q with|true=>(if gh'=gh then f r gh else none)|false=>f r gh')|none=>none
def callN (vs:List PV) (x:Option (PV×List GObj)) (f:PV→Option R):Option R:=
 gd (noGs vs) (match x with|some (r,[])=>gd r.noG (f r)|_=>none)
def elK (gh:List GObj) (vs:List PV) (k:List PV→Option R):Option R:=match elPs gh vs with|some us=>k us|none=>none
def callE (us:List PV) (x:Option (PV×List GObj)) (f:PV→Option R):Option R:=
 gd (noGs us) (match x with|some (r,[])=>gd (isFlat r) (f r)|_=>none)
def fnX (v:PV) (f:Nat→List PV→Option R):Option R:=match v with| .fn i cs=>f i cs|_=>none
def newX (s:St) (d:Nat) (g:Bool) (cs:List PV) (k:St→Option R):Option R:=
 match g with
 |true=>putK s.env d (.ptr true s.gh.length 0) fun e=>k ⟨e,s.lh,s.gh++[.cells cs]⟩
 |false=>putK s.env d (.ptr false s.lh.length 0) fun e=>snocK s.lh cs fun lh=>k ⟨e,lh,s.gh⟩
def binX (op:BinOp) (a b:PV) (f:PV→Option R):Option R:=
 match a,b with
 | .int k x,.int k' y=>match op with
  | .add=>kE k k' (f (.int k (k.wrap (x+y))))
  | .sub=>kE k k' (f (.int k (k.wrap (x-y))))
  | .mul=>kE k k' (f (.int k (k.wrap (x*y))))
  | .quo=>kE k k' (gd (decide (y≠0)) (f (.int k (k.wrap (x.tdiv y)))))
  | .rem=>kE k k' (gd (decide (y≠0)) (f (.int k (x.tmod y))))
  | .and=>kE k k' (f (.int k (iAnd k x y)))
  | .or=>kE k k' (f (.int k (iOr k x y)))
  | .xor=>kE k k' (f (.int k (iXor k x y)))
  | .eql=>kE k k' (f (.bool (x==y)))
  | .neq=>kE k k' (f (.bool (x !=y)))
  | .lss=>kE k k' (f (.bool (decide (x<y))))
  | .leq=>kE k k' (f (.bool (decide (x≤y))))
  | .gtr=>kE k k' (f (.bool (decide (y<x))))
  | .geq=>kE k k' (f (.bool (decide (y≤x))))
  | .shl=>gd (decide (0≤y)) (f (.int k (iShl k x y)))
  | .shr=>gd (decide (0≤y)) (f (.int k (iShr k x y)))
  |op=>ob (binPV op (.int k x) (.int k' y)) f
 | .str x,.str y=>match op with
  | .eql=>f (.bool (x.toList==y.toList))
  | .neq=>f (.bool (!(x.toList==y.toList)))
  |op=>ob (binPV op (.str x) (.str y)) f
 |_,_=>none
def unX (op:UnOp) (a:PV) (f:PV→Option R):Option R:=
 match op,a with
 | .neg,.int k n=>f (.int k (k.wrap (0-n)))
 | .xor,.int k n=>f (.int k (iNot k n))
 | .not,.bool b=>f (.bool (!b))
 |_,_=>none
def setO (an:Tr) (s:St) (d:Option Nat) (v:PV) (k:St→Option R):Option R:=
 match d with
 |some d=>setX an s d v k
 |none=>k s
noncomputable def qbh (cf:CallF) (an:Tr) (s:St) (k:St→Option R) (d:Nat) (x:IX):Option R:=match evK s.env x with
  |some v=>setX an s d v k
  |none=>none
noncomputable def qbi (cf:CallF) (an:Tr) (s:St) (k:St→Option R) (d:Nat) (n:Nat):Option R:=match getX s.env n with
  |some v=>putK s.env n (degr v) fun e=>putK e d v fun e=>k ⟨e,s.lh,s.gh⟩
  |none=>none
noncomputable def qbj (cf:CallF) (an:Tr) (s:St) (k:St→Option R) (d:Nat) (c:IX) (x:IX) (y:IX):Option R:=match evX s.env c,evX s.env x,evX s.env y with
  |some c,some v,some w=>unB c fun b=>br d b (setX an s d v k) (setX an s d w k)
  |_,_,_=>none
noncomputable def q7o (cf:CallF) (an:Tr) (s:St) (k:St→Option R) (d:Nat) (g:Bool) (x:IX):Option R:=tkX s.env x fun v e=>arK v (cellsX (shX an x) v fun cs=>newX ⟨e,s.lh,s.gh⟩ d g cs k)
noncomputable def q7p (cf:CallF) (an:Tr) (s:St) (k:St→Option R) (d:Nat) (g:Bool) (x:IX):Option R:=match evX s.env x with
  |some v=>arK v (cellsX (shX an x) v fun cs=>newX s d g cs k)
  |none=>none
noncomputable def qbk (cf:CallF) (an:Tr) (s:St) (k:St→Option R) (d:Nat) (g:Bool) (z:PV):Option R:=arK z (newX s d g z.cells k)
noncomputable def qbl (cf:CallF) (an:Tr) (s:St) (k:St→Option R) (d:Nat) (z:List PV) (ps:List (Nat×Nat×IX)):Option R:=arL z (psX an s.env ps z fun cs=>putS s d (.agg cs) k)
noncomputable def qbm (cf:CallF) (an:Tr) (s:St) (k:St→Option R) (d:Nat) (z:List PV) (ps:List (Nat×Nat×IX)):Option R:=arL z (psT an s.env ps z fun e cs=>putK e d (.agg cs) fun e=>k ⟨e,s.lh,s.gh⟩)
noncomputable def qbn (cf:CallF) (an:Tr) (s:St) (k:St→Option R) (d:Nat) (z:Nat) (els:List IX):Option R:=evXs s.env els fun vs=>slK z vs (putS s d (.sl true z vs) k)
noncomputable def qbo (cf:CallF) (an:Tr) (s:St) (k:St→Option R) (d:Nat) (agg:Bool) (kk:Nat) (a:IX):Option R:=match evX s.env a with
  |some p=>ldX s.lh s.gh agg kk p fun v=>setX an s d v k
  |none=>none
noncomputable def qbp (cf:CallF) (an:Tr) (s:St) (k:St→Option R) (d:Nat) (a:IX):Option R:=match evX s.env a with
  |some (.ptr false b off)=>match nthX s.lh b with
   |some cs=>ob cs[off]? fun v=>setK s.lh b (spliceAt cs off [degr1 v]) fun lh=>putK s.env d v fun e=>k ⟨e,lh,s.gh⟩
   |none=>none
  |some (.ptr true b off)=>ob (ghCells s.gh b) fun cs=>ob cs[off]? fun v=>putK s.env d v fun e=>k ⟨e,s.lh,s.gh.set b (.cells (spliceAt cs off [degr1 v]))⟩
  |_=>none
noncomputable def qbq (cf:CallF) (an:Tr) (s:St) (k:St→Option R) (d:Nat) (a:IX):Option R:=match evX s.env a with
  |some (.ptr false b off)=>match nthX s.lh b with
   |some cs=>ob cs[off]? fun v=>setK s.lh b (spliceAt cs off [degr1 v]) fun lh=>putK s.env d v fun e=>k ⟨e,lh,s.gh⟩
   |none=>none
  |_=>none
noncomputable def q7q (cf:CallF) (an:Tr) (s:St) (k:St→Option R) (kk:Nat) (a:IX) (x:IX):Option R:=match evX s.env a with
  |some p=>tkX s.env x fun v e=>arK v (cellsX (shX an x) v fun cs=>stoX ⟨e,s.lh,s.gh⟩ p kk cs k)
  |none=>none
noncomputable def q7r (cf:CallF) (an:Tr) (s:St) (k:St→Option R) (kk:Nat) (a:IX) (x:IX):Option R:=match evX s.env a,evX s.env x with
  |some p,some v=>arK v (cellsX (shX an x) v fun cs=>stoX s p kk cs k)
  |_,_=>none
noncomputable def qbr (cf:CallF) (an:Tr) (s:St) (k:St→Option R) (d:Nat) (x:IX):Option R:=match evX s.env x with
  |some p=>gd (isPtr p) (setX an s d p k)
  |none=>none
noncomputable def qbs (cf:CallF) (an:Tr) (s:St) (k:St→Option R) (d:Nat) (op:BinOp) (x:IX) (y:IX):Option R:=match evX s.env x,evX s.env y with
  |some a,some b=>binX op a b fun v=>setX an s d v k
  |_,_=>none
noncomputable def qbt (cf:CallF) (an:Tr) (s:St) (k:St→Option R) (d:Nat) (neg:Bool) (ks:List Bool) (x:IX) (y:IX):Option R:=match evX s.env x,evX s.env y with
  |some (.agg a),some (.agg b)=>ob (flatEq ks a b) fun r=>putS s d (.bool (match neg with|true=> !r|false=>r)) k
  |_,_=>none
noncomputable def qbu (cf:CallF) (an:Tr) (s:St) (k:St→Option R) (d:Nat) (neg:Bool) (x:IX):Option R:=match evX s.env x with
  |some v=>nilB v fun b=>putS s d (.bool (match neg with|true=> !b|false=>b)) k
  |none=>none
noncomputable def qbv (cf:CallF) (an:Tr) (s:St) (k:St→Option R) (d:Nat) (op:UnOp) (x:IX):Option R:=match evX s.env x with
  |some a=>unX op a fun v=>setX an s d v k
  |none=>none
noncomputable def qbw (cf:CallF) (an:Tr) (s:St) (k:St→Option R) (d:Nat) (kd:IntKind) (x:IX):Option R:=match evX s.env x with
  |some v=>anyI v fun n=>putS s d (.int kd (kd.wrap n)) k
  |none=>none
noncomputable def qbx (cf:CallF) (an:Tr) (s:St) (k:St→Option R) (d:Nat) (f:Nat) (caps:List IX):Option R:=evXs s.env caps fun vs=>allK vs (putS s d (.fn f vs) k)
noncomputable def qby (cf:CallF) (an:Tr) (s:St) (k:St→Option R) (d:Nat) (ss:List ByteArray):Option R:=putK s.env d (.sl false 1 (ss.map PV.str)) fun e=>k ⟨e,s.lh,s.gh⟩
noncomputable def qbz (cf:CallF) (an:Tr) (s:St) (k:St→Option R) (d:Nat) (x:IX):Option R:=match evX s.env x with
  |some (.agg [.nilp,.nils])=>putK s.env d (.ptr true s.gh.length 0) fun e=>k ⟨e,s.lh,s.gh++[.bld .empty]⟩
  |_=>none
noncomputable def qc0 (cf:CallF) (an:Tr) (s:St) (k:St→Option R) (d:Nat):Option R:=putK s.env d (.mp s.gh.length) fun e=>k ⟨e,s.lh,s.gh++[.map []]⟩
noncomputable def qc1 (cf:CallF) (an:Tr) (s:St) (k:St→Option R) (d:Nat) (z:Nat) (x:IX) (lo:Option IX) (hi:Option IX):Option R:=match evX s.env x with
  |some v=>boX s.env lo fun lo=>boX s.env hi fun hi=>slX z v lo hi fun w=>setX an s d w k
  |none=>none
noncomputable def qc2 (cf:CallF) (an:Tr) (s:St) (k:St→Option R) (d:Nat) (x:IX) (lo:Option IX) (hi:Option IX):Option R:=match evX s.env x with
  |some v=>boX s.env lo fun lo=>boX s.env hi fun hi=>ssX v lo hi fun w=>putS s d (.str w) k
  |none=>none
noncomputable def qc3 (cf:CallF) (an:Tr) (s:St) (k:St→Option R) (d:Nat) (x:IX) (off:Nat):Option R:=match evX s.env x with
  |some p=>faX p off fun p=>setX an s d p k
  |none=>none
noncomputable def qc4 (cf:CallF) (an:Tr) (s:St) (k:St→Option R) (d:Nat) (z:Nat) (arr:Option Nat) (x:IX) (i:IX):Option R:=match evX s.env i,evX s.env x with
  |some i,some v=>anyI i fun i=>idX z arr v i fun p=>setX an s d p k
  |_,_=>none
noncomputable def qc5 (cf:CallF) (an:Tr) (s:St) (k:St→Option R) (d:Nat) (z:Nat) (arr:Nat) (agg:Bool) (x:IX) (i:IX):Option R:=match evX s.env i,evX s.env x with
  |some i,some v=>anyI i fun i=>ixX v z arr agg i fun v=>setX an s d v k
  |_,_=>none
noncomputable def qc6 (cf:CallF) (an:Tr) (s:St) (k:St→Option R) (d:Nat) (x:IX) (i:IX):Option R:=match evX s.env i,evX s.env x with
  |some i,some v=>anyI i fun i=>isX v i fun u=>putS s d (.int .u8 u) k
  |_,_=>none
noncomputable def qc7 (cf:CallF) (an:Tr) (s:St) (k:St→Option R) (d:Nat) (kn:Nat) (m:IX) (kx:IX) (ok:Bool) (zero:PV):Option R:=match evX s.env m,evX s.env kx with
  |some m,some kv=>lkX s.gh kn m kv fun r=>setX an s d (match ok with|true=> .tup [r.getD (degr zero),.bool r.isSome]|false=>r.getD (degr zero)) k
  |_,_=>none
noncomputable def qc8 (cf:CallF) (an:Tr) (s:St) (k:St→Option R) (kn:Nat) (m:IX) (kx:IX) (x:IX):Option R:=match evX s.env m,evX s.env kx,evX s.env x with
  |some m,some kv,some v=>muX s.gh kn m kv v fun gh=>k ⟨s.env,s.lh,gh⟩
  |_,_,_=>none
noncomputable def qc9 (cf:CallF) (an:Tr) (s:St) (k:St→Option R) (d:Option Nat) (q:Bool) (f:Nat) (xs:List IX):Option R:=evXs s.env xs fun vs=>allK vs (callR s.gh q (cf f vs s.gh) fun r gh=>setO an ⟨s.env,s.lh,gh⟩ d r k)
noncomputable def qca (cf:CallF) (an:Tr) (s:St) (k:St→Option R) (d:Option Nat) (q:Bool) (fv:IX) (xs:List IX):Option R:=match evX s.env fv with
  |some fv=>evXs s.env xs fun vs=>fnX fv fun f caps=>allK vs (allK caps (callR s.gh q (cf f (vs++caps) s.gh) fun r gh=>setO an ⟨s.env,s.lh,gh⟩ d r k))
  |none=>none
noncomputable def q4h (cf:CallF) (an:Tr) (s:St) (k:St→Option R) (d:Nat) (x:IX):Option R:=match evX s.env x with
  |some v=>lenS v fun n=>putS s d (.int .i64 n) k
  |none=>none
noncomputable def q4i (cf:CallF) (an:Tr) (s:St) (k:St→Option R) (d:Nat) (x:IX):Option R:=match evX s.env x with
  |some v=>unS v fun b=>putS s d (.int .i64 b.size) k
  |none=>none
noncomputable def q4j (cf:CallF) (an:Tr) (s:St) (k:St→Option R) (d:Nat) (x:IX):Option R:=match evX s.env x with
  |some v=>lenM s.gh v fun n=>putS s d (.int .i64 n) k
  |none=>none
noncomputable def qcb (cf:CallF) (an:Tr) (s:St) (k:St→Option R) (d:Nat) (z:Nat) (bytes:Nat) (sx:IX) (x:IX):Option R:=match evX s.env x with
  |some w=>tkX s.env sx fun v e=>apX z bytes v w fun ys=>putK e d (.sl true z ys) fun e=>k ⟨e,s.lh,s.gh⟩
  |none=>none
noncomputable def qcc (cf:CallF) (an:Tr) (s:St) (k:St→Option R) (d:Nat) (x:IX) (i:Nat):Option R:=match evX s.env x with
  |some v=>exX v i fun v=>setX an s d v k
  |none=>none
def skK (gh:List GObj) (v w:PV) (f:List GObj→Option R):Option R:=
 match v with
 | .pstk b gen i=>ob (ghStk gh b) fun p=>gd (decide (p.1=gen∧i<p.2.length∧isFlat w=true)) (f (gh.set b (.stk p.1 (p.2.set i w))))
 |_=>none
def ckK (gh:List GObj) (v:PV) (f:List GObj→Option R):Option R:=
 match v with
 | .sub b gen off n=>ob (ghStk gh b) fun p=>gd (decide (p.1=gen∧off+n≤p.2.length)) (f (gh.set b (.stk p.1 (p.2.take off++List.replicate n (.int .i64 0)++p.2.drop (off+n)))))
 |_=>none
def aeX (gh:List GObj) (bytes:Nat) (v w:PV) (f:List PV→Option R):Option R:=
 match v with
 | .sl o z1 xs=>ob (elsOf gh w) fun ys=>gd (decide (o=true∧z1=1∧ys.all isFlat=true∧(xs.length+ys.length)*bytes≤maxBytes)) (f (xs++ys))
 |_=>none
noncomputable def kbX (gh gh':List GObj) (v:PV) (x:Option R):Option R:=
 open Classical in
 match v with
 | .ptr true b _=>if b<gh.length∧gh'[b]?=gh[b]? then x else none
 | .pstk b _ _=>if b<gh.length∧gh'[b]?=gh[b]? then x else none
 | .stk b _ _=>if b<gh.length∧gh'[b]?=gh[b]? then x else none
 |_=>none
noncomputable def kpX (e:List (Nat×PV)) (gh gh':List GObj):List Nat→Option R→Option R
 |[],x=>x
 |n::l,x=>match getX e n with
  |some v=>kbX gh gh' v (kpX e gh gh' l x)
  |none=>none
def lbX (gh:List GObj) (agg:Bool) (k:Nat) (p q:PV) (f:PV→Option R):Option R:=
 match p,q with
 | .ptr true b off,.ptr true b' _=>gd (decide (b=b')) (ob (ghCells gh b) fun cs=>ob (grab agg k off cs) fun v=>f (degr v))
 |_,_=>none
def lkbX (gh:List GObj) (p q:PV) (f:PV→Option R):Option R:=
 match p,q with
 | .pstk b gen i,.stk b' _ _=>gd (decide (b=b')) (ob (stkGet gh b gen i) f)
 |_,_=>none
def ltbX (gh:List GObj) (p q:PV) (o2:Nat) (f:PV→List GObj→Option R):Option R:=
 match p,q with
 | .ptr true b off,.ptr true b' o=>gd (decide (b=b'∧off=o+o2)) (ob (ghCells gh b) fun cs=>ob cs[off]? fun v=>f v (gh.set b (.cells (spliceAt cs off [degr1 v]))))
 |_,_=>none
def rtP (c:List GObj→Option (PV×List GObj)) (gh:List GObj) (b off:Nat):Prop:=
 ∃g1 g2 r1 r2,setRt gh b off true=some g1∧setRt gh b off false=some g2∧c g1=some r1∧c g2=some r2∧r1.1=r2.1∧r1.2[b]?=g1[b]?∧r2.2[b]?=g2[b]?∧setRt r1.2 b off false=some r2.2∧setRt r2.2 b off true=some r1.2
noncomputable def rtK (c:List GObj→Option (PV×List GObj)) (gh:List GObj) (v:PV) (off:Nat) (x:Option R):Option R:=
 open Classical in
 match v with
 | .ptr true b o=>if rtP c gh b (o+off) then x else none
 |_=>none
noncomputable def opX (cf:CallF) (an:Tr) (s:St) (o:IOp) (k:St→Option R):Option R:=
 match o with
 | .mv d x=>qbh cf an s k d x
 | .tk d n=>qbi cf an s k d n
 | .pick d c x y=>qbj cf an s k d c x y
 | .box d g true x=>q7o cf an s k d g x
 | .box d g false x=>q7p cf an s k d g x
 | .alloc d g z=>qbk cf an s k d g z
 | .build d z ps=>qbl cf an s k d z ps
 | .buildT d z ps=>qbm cf an s k d z ps
 | .buildSl d z els=>qbn cf an s k d z els
 | .load d agg kk a=>qbo cf an s k d agg kk a
 | .loadT d a=>qbp cf an s k d a
 | .loadL d a=>qbq cf an s k d a
 | .store true kk a x=>q7q cf an s k kk a x
 | .store false kk a x=>q7r cf an s k kk a x
 | .nilc d x=>qbr cf an s k d x
 | .bin d op x y=>qbs cf an s k d op x y
 | .eqa d neg ks x y=>qbt cf an s k d neg ks x y
 | .eqn d neg x=>qbu cf an s k d neg x
 | .un d op x=>qbv cf an s k d op x
 | .conv d kd x=>qbw cf an s k d kd x
 | .mkfn d f caps=>qbx cf an s k d f caps
 | .mkmap d=>qc0 cf an s k d
 | .slice d z x lo hi=>qc1 cf an s k d z x lo hi
 | .sliceS d x lo hi=>qc2 cf an s k d x lo hi
 | .faddr d x off=>qc3 cf an s k d x off
 | .iaddr d z arr x i=>qc4 cf an s k d z arr x i
 | .index d z arr agg x i=>qc5 cf an s k d z arr agg x i
 | .indexS d x i=>qc6 cf an s k d x i
 | .lookup d kn m kx ok zero=>qc7 cf an s k d kn m kx ok zero
 | .mupd kn m kx x=>qc8 cf an s k kn m kx x
 | .call d q f xs=>qc9 cf an s k d q f xs
 | .callv d q fv xs=>qca cf an s k d q fv xs
 | .len d 0 x=>q4h cf an s k d x
 | .len d 1 x=>q4i cf an s k d x
 | .len d 2 x=>q4j cf an s k d x
 | .len _ _ _=>none
 | .append d z bytes sx x=>qcb cf an s k d z bytes sx x
 | .extract d x i=>qcc cf an s k d x i
 | .boxB d x=>qbz cf an s k d x
 | .loadG d ss=>qby cf an s k d ss
 |_=>none
def skX (s:St) (o:IOp) (k:St→Option R):Option R:=
 match opDst o with
 |some d=>putS s d .und k
 |none=>k s
noncomputable def opsX (cf:CallF) (an:Tr):List IOpG→St→(St→Option R)→Option R
 |[],s,k=>k s
 |⟨o,none⟩::l,s,k=>opX cf an s o fun s=>opsX cf an l s k
 | ⟨o,some (g,want)⟩::l,s,k=>match getX s.env g with
  | some (.bool b)=>br g b
    (putS s g (.bool true) fun s=>match want with
     |true=>opX cf an s o fun s=>opsX cf an l s k
     |false=>skX s o fun s=>opsX cf an l s k)
    (putS s g (.bool false) fun s=>match want with
     |false=>opX cf an s o fun s=>opsX cf an l s k
     |true=>skX s o fun s=>opsX cf an l s k)
  |some .und=>skX s o fun s=>opsX cf an l s k
  |_=>none
def keepX (nl:Nat):List Nat→List (Nat×PV)→(List (Nat×PV)→Option R)→Option R
 |[],_,f=>f []
 |t::l,e,f=>match getX e t with
  |some v=>stK nl v (keepX nl l e fun e'=>f ((t,v)::e'))
  |none=>keepX nl l e f
def po (ks:List Nat) (nl:Nat) (e:IExit) (s:St) (k:IExit→St→Option R):Option R:=
 match e with
 | .normal=>keepX nl ks s.env fun e=>takeK nl s.lh fun lh=>k .normal ⟨e,lh,s.gh⟩
 |e=>k e s
def tagX:IX→Nat
 | .t n=>n
 |_=>0
noncomputable def runX (pg:Prg) (an:Tr):ICode→St→(IExit→St→Option R)→Option R
 | .skip,s,k=>k .normal s
 | .region ops _,s,k=>opsX (callL pg) an ops s (k .normal)
 | .seq a b,s,k=>runX pg an a s fun e s'=>nx e s' k fun s'=>runX pg an b s' k
 | .cond x a b,s,k=>match evX s.env x with
  |some v=>unB v fun c=>br (tagX x) c (runX pg an a s k) (runX pg an b s k)
  |none=>none
 | .block id a,s,k=>runX pg an a s fun e s'=>bk id e s' k
 | .loop a,s,k=>kR (runL pg (.loop a) s) k
 | .exit i,s,k=>k (.exit i) s
 | .ret,s,k=>k .ret s
 | .post a ks nl,s,k=>runX pg an a s fun e s'=>po ks nl e s' k
 | .cut a,s,k=>kR (runL pg a s) k
 | .bad,_,_=>none
end
abbrev DR:=Option (IExit×St)
abbrev tI (k:Nat) (l r:Tr):Tr:= .node k (.ce (.int .i64)) l r
abbrev tB (k:Nat) (l r:Tr):Tr:= .node k (.ce (.bool)) l r
abbrev tO (k:Nat) (l r:Tr):Tr:= .node k (.ce (.one)) l r
abbrev tG (k:Nat) (l r:Tr):Tr:= .node k (.ce (.gp)) l r
abbrev uI (k:Nat):Tr:= .node k (.ce (.int .i64)) .nil .nil
abbrev uB (k:Nat):Tr:= .node k (.ce (.bool)) .nil .nil
abbrev uO (k:Nat):Tr:= .node k (.ce (.one)) .nil .nil
abbrev uG (k:Nat):Tr:= .node k (.ce (.gp)) .nil .nil
end Go.Lw
end
