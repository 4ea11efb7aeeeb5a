/-
  The texts that the proof stands on, part 3.
-/
import Derived.Test.YtmodipglnngghacDoorTextBackB
set_option linter.unusedVariables false
set_option linter.unusedSimpArgs false
set_option linter.unnecessarySimpa false

/-! Library functions, told as they are. -/
section
namespace Go.Lw
open Go
def libGrow (z bytes:Nat):List PV→List GObj→Option (PV×List GObj)
 |[.nils,.int .i64 n],gh=>if 0≤n∧n.toNat*bytes≤maxBytes then some (.sl true z [],gh) else none
 |_,_=>none
end Go.Lw
end

/-! The code of package Law for the small machine. Written by program (gen.py). -/
section
set_option maxRecDepth 10000
namespace Go.Lw
open Go
/- 0: latchwork/latchworklaw.GatesAnds -/
/- 5: latchwork/latchworklaw.gatesBegun -/
/- 8: latchwork/latchworklaw.GatesEvals -/
/- 13: latchwork/latchworklaw.sameBools -/
/- 14: latchwork/latchworklaw.GatesKeep -/
/- 15: latchwork/latchworklaw.CnfOfs -/
/- 18: latchwork/latchworklaw.cnfBegun -/
/- 19: latchwork/latchworklaw.clausesAre -/
/- 20: latchwork/latchworklaw.WordFits -/
/- 21: latchwork/latchworklaw.wordBegun -/
/- 24: latchwork/latchworklaw.WordApplies -/
/- 29: latchwork/latchworklaw.WordTurns -/
/- 30: latchwork/latchworklaw.choose -/
/- 31: latchwork/latchworklaw.CnfTells -/
/- 33: latchwork/latchworklaw.ModelChecks -/
/- 37: latchwork/latchworklaw.modelBegun -/
/- 40: latchwork/latchworklaw.listIs -/
/- 41: latchwork/latchworklaw.ModelCones -/
/- 44: latchwork/latchworklaw.ModelAgain -/
/- 75: latchwork/latchworklaw.toggle -/
def q9j:ICode:=
 (.seq (.region [oN (.alloc 0 false (.agg [.sl true 6 [],.sl true 2 [],.sl true 2 [],.sl true 1 [],.sl true 1 []]))] false)
 (sR [oN (.build 1 [I 0,I 0,I 0,I 0,I 0,I 0] [(0,1,(.c (I 1))),(1,1,(.c (I 1)))]),oN (.build 2 [I 0,I 0,I 0,I 0,I 0,I 0] [(0,1,(.c (I 3))),(1,1,(.c (I 1)))]),
 oN (.build 3 [I 0,I 0,I 0,I 0,I 0,I 0] [(0,1,(.c (I 4))),(1,1,(.c (I 1))),(2,1,(.c (I 1)))]),oN (.buildSl 4 6 [1,2,3]),
 oN (.build 5 [I 0,I 0] [(0,1,(.c (I 1))),(1,1,(.c (I 0)))]),oN (.buildSl 6 2 [5]),oN (.build 7 [I 0,I 0] [(0,1,(.c (I 1))),(1,1,(.c (I 2)))]),oN (.buildSl 8 2 [7]),
 oN (.buildSl 9 1 [(.c (I 1))]),oN (.buildT 10 [.sl true 6 [],.sl true 2 [],.sl true 2 [],.sl true 1 [],.sl true 1 []] [(0,1,4),(1,1,6),(2,1,8),(3,1,9)]),
 oN (.store true 5 0 10)] [0] 1
 .ret))
def q9k:IFunc:={np:=0,res:=[.cell 0 true 5],own:=false,trunc:=true,body:=q9j }
/- 122: latchwork/latchworklaw.EvalBegins -/
/- 126: latchwork/latchworklaw.evalBegun -/
/- 127: latchwork/latchworklaw.EvalValues -/
/- 144: latchwork/latchworklaw.ProofFollows -/
/- 147: latchwork/latchworklaw.proofBegun -/
/- 148: latchwork/latchworklaw.ProofChecks -/
/- 152: latchwork/latchworklaw.ProofSound -/
/- 165: latchwork/latchworklaw.searchBegun -/
/- 207: latchwork/latchworklaw.SearchIs -/
/- 210: latchwork/latchworklaw.BlastChecks -/
/- 211: latchwork/latchworklaw.blastBegun -/
/- 239: latchwork/latchworklaw.DecideTrue -/
/- 240: latchwork/latchworklaw.decideBegun -/
/- 241: latchwork/latchworklaw.exploreBegun -/
/- 242: latchwork/latchworklaw.traceBegun -/
/- 318: latchwork/latchworklaw.ExploreAlls -/
/- 320: latchwork/latchworklaw.small -/
/- 325: latchwork/latchworklaw.BlastTells -/
/- 328: latchwork/latchworklaw.UnrollClauses -/
/- 332: latchwork/latchworklaw.unrollBegun -/
/- 333: latchwork/latchworklaw.ProveDifferents -/
/- 335: latchwork/latchworklaw.proveBegun -/
/- 345: latchwork/latchworklaw.TextBack -/
def qy:ICode:=
 (sR [oM 43 1,oY 44 348 [43],oM 42 44,oG 45 42 0,oG 46 42 1,oG 47 42 2,oN (.alloc 10 false (.agg [.sl true 6 [],.sl true 2 [],.sl true 2 [],.sl true 1 [],.sl true 1 []])),
 oN (.store true 5 10 45),oM 11 46,oM 12 47] [1,10,12] 1
 (.seq (sR [oM 48 12,oN (.bin 49 .neq 48 (.c (I 0)))] [1,10,49] 1
 (.cond 49 (sR [oN (.mv 4 (.c (.bool true)))] [4] 0
 .ret)
 .skip))
 (sR [oN (.load 51 true 5 10),oY 52 347 [51],oM 50 52,oG 53 50 0,oG 54 50 1,oM 13 53,oM 12 54] [1,12,13] 0
 (sR [
 oM 55 12,
 oE 56 55 0,
 oM 57 56,
  ⟨.mv 58 13,some (57,true)⟩,
  ⟨.mv 59 1,some (57,true)⟩,
  ⟨.bin 60 .eql 58 59,some (57,true)⟩,
 oN (.pick 61 57 60 (.c (.bool false))),
 oM 4 61] [4] 0
 .ret))))
def q38:ICode:=
 (sR [oB 2 0,oN (.mv 4 (.c (.bool false)))] [1,2] 1
 (.seq (sR [oY 14 346 [],oN (.un 15 .not 14)] [1,2,15] 1
 (.cond 15 (sR [oN (.mv 4 (.c (.bool false)))] [4] 0
 .ret)
 .skip))
 (.seq (sR [oN (.load 17 true 5 2),oY 18 347 [17],oM 16 18,oG 19 16 0,oG 20 16 1,oM 5 19,oM 6 20] [1,2,5,6] 1
 (sR [
 oM 21 6,
 oE 22 21 0,
 oM 23 22,
  ⟨.mv 24 5,some (23,true)⟩,
  ⟨.len 25 1 24,some (23,true)⟩,
  ⟨.bin 26 .leq 25 (.c (I 10000)),some (23,true)⟩,
 oN (.pick 27 23 26 (.c (.bool false)))] [1,2,5,27] 1
 (.cond 27 (.post (sR [oM 29 5,oY 30 348 [29],oM 28 30,oG 31 28 0,oG 32 28 1,oG 33 28 2,oN (.alloc 7 false (.agg [.sl true 6 [],.sl true 2 [],.sl true 2 [],.sl true 1 [],.sl true 1 []])),
 oN (.store true 5 7 31),oM 8 32,oM 9 33] [1,2,7,9] 2
 (sR [
 oM 34 9,
 oN (.bin 35 .neq 34 (.c (I 0))),
 oM 36 35,
  ⟨.load 37 true 5 7,some (36,false)⟩,
  ⟨.load 38 true 5 2,some (36,false)⟩,
  ⟨.call (some 39) true 349 [37,38],some (36,false)⟩,
  ⟨.un 40 .not 39,some (36,false)⟩,
 oN (.pick 41 36 (.c (.bool true)) 40)] [1,41] 0
 (.cond 41 (sR [oN (.mv 4 (.c (.bool false)))] [4] 0
 .ret)
 .skip))) [1] 0)
 (.post .skip [1] 0))))
 (.cut qy))))
def q39:IFunc:={np:=2,res:=[.t 4],own:=false,trunc:=true,body:=q38 }
/- 346: latchwork/latchworklaw.textBegun -/
def q9l:ICode:=
 (sR [oN (.mv 0 (.c (.bool false)))] [] 0
 (sR [oY 7 75 [],oY 8 347 [7],oM 6 8,oG 9 6 0,oG 10 6 1,oM 1 9,oM 2 10] [1,2] 0
 (sR [oM 12 1,oY 13 348 [12],oM 11 13,oG 14 11 0,oG 15 11 1,oG 16 11 2,oN (.alloc 3 false (.agg [.sl true 6 [],.sl true 2 [],.sl true 2 [],.sl true 1 [],.sl true 1 []])),
 oN (.store true 5 3 14),oM 4 15,oM 5 16] [1,2,3,5] 1
 (sQ [
 oM 17 2,
 oE 18 17 0,
 oM 19 18,
  ⟨.mv 20 5,some (19,true)⟩,
  ⟨.bin 21 .eql 20 (.c (I 0)),some (19,true)⟩,
 oN (.pick 22 19 21 (.c (.bool false))),
 oM 23 22,
  ⟨.load 24 true 5 3,some (23,true)⟩,
  ⟨.call (some 25) true 75 [],some (23,true)⟩,
  ⟨.call (some 26) true 349 [24,25],some (23,true)⟩,
 oN (.pick 27 23 26 (.c (.bool false))),
 oM 28 27,
  ⟨.mv 29 1,some (28,true)⟩,
  ⟨.bin 30 .eql 29 (.c (.str ⟨#[48,32,99,111,110,115,116,32,49,32,48,10,49,32,115,116,97,116,101,32,49,10,50,32,110,111,116,32,49,32,49,10,105,110,105,116,32,49,32,48,10,110,101,120,116,32,49,32,50,10,98,97,100,32,49,10]⟩)),some (28,true)⟩,
 oN (.pick 31 28 30 (.c (.bool false))),
 oM 0 31] [0] 0
 .ret))))
def q9m:IFunc:={np:=0,res:=[.t 0],own:=false,trunc:=true,body:=q9l }
/- 350: latchwork/latchworklaw.TracePrints -/
/- 367: latchwork/latchworklaw.TextPrints -/
/- 369: latchwork/latchworklaw.TextParses -/
/- 371: latchwork/latchworklaw.TraceParses -/
/- 374: latchwork/latchworklaw.TracePlays -/
/- 378: latchwork/latchworklaw.ExploreFinds -/
/- 383: latchwork/latchworklaw.CnfHolds -/
/- 386: latchwork/latchworklaw.RestSearches -/
/- 387: latchwork/latchworklaw.copiedLists -/
/- 388: latchwork/latchworklaw.spoilLists -/
/- 389: latchwork/latchworklaw.spoil -/
/- 391: latchwork/latchworklaw.toggle#K -/
end Go.Lw
end

/-! The code of package Lib for the small machine. Written by program (gen.py). -/
section
set_option maxRecDepth 10000
namespace Go.Lw
open Go
/- 82: slices.Concat[[]latchwork/api.Pair,latchwork/api.Pair] -/
/- 86: slices.ContainsFunc[[]int,int] -/
def q62:ICode:=
 (sR [oN (.mv 4 (.c (.bool false)))] [0,1] 0
 (sR [oM 5 0,oM 6 1,oY 7 111 [5,6],oN (.bin 8 .geq 7 (.c (I 0))),oM 4 8] [4] 0
 .ret))
def q3a:IFunc:={np:=2,res:=[.t 4],own:=false,trunc:=true,body:=q62 }
/- 100: slices.ContainsFunc[[][]int,[]int] -/
/- 107: slices.Concat[[]int,int] -/
def q63:ICode:=
 (.post (.seq (.region [oW 12 11 10] false)
 (.seq (.cond 12 .skip
 (.exit 0))
 (.seq (.block 1 (sR [oA 13 9 11,oL 14 13,oT 5 14] [0,3,5,9,10,11] 0
 (sR [oM 15 3,oM 16 5,oD 17 16,oN (.bin 18 .add 15 17),oM 3 18] [0,3,9,10,11] 0
 (sR [oM 19 3,oN (.bin 20 .lss 19 (.c (I 0)))] [0,3,9,10,11,20] 0
 (.cond 20 .bad
 .skip)))))
 (pR [oP 22 11 1,oM 11 22] [0,3,9,10,11] 0)))) [0,3,9,10,11] 0)
def q3b:ICode:=
 (.post (.block 0 (.loop q63)) [0,3] 0)
def q64:ICode:=
 (.post (.seq (.region [oW 28 27 26] false)
 (.seq (.cond 28 .skip
 (.exit 2))
 (.seq (.block 3 (sR [oA 29 25 27,oL 30 29,oT 8 30] [6,8,25,26,27] 0
 (pR [oT 31 6,oM 32 8,oN (.append 33 1 8 31 32),oT 6 33] [6,25,26,27] 0)))
 (pR [oP 34 27 1,oM 27 34] [6,25,26,27] 0)))) [6,25,26,27] 0)
def q3c:ICode:=
 (.post (.block 2 (.loop q64)) [6] 0)
def q3d:ICode:=
 (sR [oM 35 6,oT 2 35] [2] 0
 .ret)
def q3e:ICode:=
 (sR [oM 23 3,oY 24 119 [(.c .nils),23],oT 6 24] [0,6] 0
 (.seq (sR [oM 25 0,oD 26 25,oK 27 0] [6,25,26,27] 0
 (.cut q3c))
 (.cut q3d)))
def q65:ICode:=
 (sR [oN (.mv 2 (.c (.sl true 1 [])))] [0] 0
 (.seq (.region [oK 3 0] false)
 (.seq (sR [oM 9 0,oD 10 9,oK 11 0] [0,3,9,10,11] 0
 (.cut q3b))
 (.cut q3e))))
def q3f:IFunc:={np:=1,res:=[.t 2],own:=true,trunc:=true,body:=q65 }
/- 111: slices.IndexFunc[[]int,int] -/
def q66:ICode:=
 (.post (.seq (.region [oW 9 8 7] false)
 (.seq (.cond 9 .skip
 (.exit 0))
 (.seq (.block 1 (sR [oM 10 8,oM 5 10] [0,1,5,7,8] 0
 (sR [oM 11 1,oM 12 0,oM 13 5,oA 14 12 13,oL 15 14,oN (.callv (some 16) true 11 [15])] [0,1,5,7,8,16] 0
 (.cond 16 (sR [oM 17 5,oM 4 17] [4] 0
 .ret)
 .skip))))
 (pR [oP 18 8 1,oM 8 18] [0,1,7,8] 0)))) [0,1,7,8] 0)
def q3g:ICode:=
 (.post (.block 0 (.loop q66)) [] 0)
def q3h:ICode:=
 (.seq (.region [oN (.mv 4 (.c (I (-1))))] false)
 .ret)
def q67:ICode:=
 (sR [oK 4 0] [0,1] 0
 (.seq (sR [oM 6 0,oD 7 6,oK 8 0] [0,1,7,8] 0
 (.cut q3g))
 (.cut q3h)))
def q1e:IFunc:={np:=2,res:=[.t 4],own:=false,trunc:=true,body:=q67 }
/- 117: slices.IndexFunc[[][]int,[]int] -/
/- 156: slices.Concat[[][]int,[]int] -/
/- 172: slices.ContainsFunc[[]int,int]#K -/
/- 181: math/bits.Len -/
/- 182: math/bits.Len32 -/
/- 183: math/bits.Len64 -/
/- 184: slices.Contains[[]int,int]#K -/
/- 185: slices.Contains[[]int,int] -/
/- 186: slices.Index[[]int,int] -/
/- 190: slices.SortFunc[[]int,int] -/
/- 192: slices.pdqsortCmpFunc[int] -/
/- 193: slices.nextPowerOfTwo -/
/- 194: (*slices.xorshift).Next -/
/- 195: slices.insertionSortCmpFunc[int] -/
/- 196: slices.heapSortCmpFunc[int] -/
/- 197: slices.breakPatternsCmpFunc[int] -/
/- 198: slices.choosePivotCmpFunc[int] -/
/- 199: slices.reverseRangeCmpFunc[int] -/
/- 200: slices.partialInsertionSortCmpFunc[int] -/
/- 201: slices.partitionEqualCmpFunc[int] -/
/- 202: slices.partitionCmpFunc[int] -/
/- 203: slices.siftDownCmpFunc[int] -/
/- 204: slices.medianAdjacentCmpFunc[int] -/
/- 205: slices.medianCmpFunc[int] -/
/- 206: slices.order2CmpFunc[int] -/
/- 208: slices.IndexFunc[[]int,int]#K -/
/- 209: slices.Index[[]int,int]#K -/
/- 216: slices.DeleteFunc[[]int,int] -/
/- 261: internal/stringslite.Cut -/
/- 270: internal/strconv.Itoa -/
/- 282: internal/stringslite.IndexByte -/
/- 283: strings.explode -/
/- 284: strings.Count -/
/- 285: strings.Index -/
/- 289: strconv.baseError -/
/- 290: strconv.bitSizeError -/
/- 294: internal/strconv.small -/
/- 296: internal/strconv.formatBase10 -/
/- 300: internal/bytealg.Cutover -/
/- 301: internal/bytealg.IndexRabinKarp[string] -/
/- 302: internal/bytealg.hashStr[string] -/
/- 304: unicode/utf8.DecodeRuneInString -/
/- 309: internal/strconv.log10Pow2 -/
/- 310: internal/strconv.isPowerOfTwo -/
/- 311: math/bits.TrailingZeros -/
/- 313: internal/strconv.lower -/
/- 314: internal/strconv.underscoreOK -/
/- 315: internal/strconv.bool2[int] -/
/- 343: slices.DeleteFunc[[]int,int]#K -/
/- 344: slices.Concat[[]int,int]#K -/
/- 360: slices.Index[[]string,string] -/
def q68:ICode:=
 (.post (.seq (.region [oW 9 8 7] false)
 (.seq (.cond 9 .skip
 (.exit 0))
 (.seq (.block 1 (sR [oM 10 8,oM 5 10] [0,1,5,7,8] 0
 (sR [oM 11 1,oM 12 0,oM 13 5,oA 14 12 13,oL 15 14,oN (.bin 16 .eql 11 15)] [0,1,5,7,8,16] 0
 (.cond 16 (sR [oM 17 5,oM 4 17] [4] 0
 .ret)
 .skip))))
 (pR [oP 18 8 1,oM 8 18] [0,1,7,8] 0)))) [0,1,7,8] 0)
def q3i:ICode:=
 (.post (.block 0 (.loop q68)) [] 0)
def q26:ICode:=
 (.seq (.region [oN (.mv 4 (.c (I (-1))))] false)
 .ret)
def q69:ICode:=
 (sR [oK 4 0] [0,1] 0
 (.seq (sR [oM 6 0,oD 7 6,oK 8 0] [0,1,7,8] 0
 (.cut q3i))
 (.cut q26)))
def q1f:IFunc:={np:=2,res:=[.t 4],own:=false,trunc:=true,body:=q69 }
end Go.Lw
end

/-! The code of package Model for the small machine. Written by program (gen.py). -/
section
set_option maxRecDepth 10000
namespace Go.Lw
open Go
/- 34: latchwork/model.Inputs -/
/- 35: latchwork/model.States -/
/- 38: latchwork/model.Check -/
def q6a:ICode:=
 (.post (.seq (.region [oW 29 28 27] false)
 (.seq (.cond 29 .skip
 (.exit 0))
 (.seq (.block 1 (sR [oM 30 28,oM 3 30] [1,3,27,28] 1
 (sR [oF 31 1 0,oL 32 31,oM 33 3,oY 34 76 [32,33],oM 4 34] [1,4,27,28] 1
 (sR [oM 35 4,oN (.bin 36 .neq 35 (.c (I 0)))] [1,4,27,28,36] 1
 (.cond 36 (sR [oM 37 4,oM 2 37] [2] 0
 .ret)
 .skip)))))
 (pR [oP 38 28 1,oM 28 38] [1,27,28] 1)))) [1,27,28] 1)
def q3j:ICode:=
 (.post (.block 0 (.loop q6a)) [1] 1)
def qz:ICode:=
 (.seq (sR [oN (.load 40 true 5 1),oY 41 77 [40],oM 39 41,oG 42 39 0,oG 43 39 1,oM 5 42,oM 6 43] [1,5,6] 1
 (sR [
 oM 44 5,
 oN (.bin 45 .gtr 44 (.c (I 6))),
 oM 46 45,
  ⟨.mv 47 6,some (46,false)⟩,
  ⟨.bin 48 .gtr 47 (.c (I 10)),some (46,false)⟩,
 oN (.pick 49 46 (.c (.bool true)) 48)] [1,49] 1
 (.cond 49 (sR [oK 2 2] [2] 0
 .ret)
 .skip)))
 (sR [oN (.load 50 true 5 1),oN (.buildT 51 [.sl true 6 [],.sl true 2 [],.sl true 2 [],.sl true 1 [],.sl true 1 [],.sl true 1 []] [(0,5,50)]),oN (.box 52 true true 51),oM 7 52] [7] 0
 (sR [oM 53 7,oX 54 78 [53]] [7] 0
 (.seq (sR [oM 55 7,oY 56 79 [55],oM 8 56] [7,8] 0
 (sR [oM 57 8,oN (.bin 58 .neq 57 (.c (I 0)))] [7,8,58] 0
 (.cond 58 (sR [oM 59 8,oM 2 59] [2] 0
 .ret)
 .skip)))
 (sR [oM 60 7,oY 61 80 [60],oM 2 61] [2] 0
 .ret)))))
def q6b:ICode:=
 (sR [oB 1 0,oK 2 0] [1] 1
 (.seq (sR [
 oF 9 1 0,
 oL 10 9,
 oD 11 10,
 oN (.bin 12 .gtr 11 (.c (I 80))),
 oM 13 12,
  ⟨.faddr 14 1 3,some (13,false)⟩,
  ⟨.load 15 false 1 14,some (13,false)⟩,
  ⟨.len 16 0 15,some (13,false)⟩,
  ⟨.bin 17 .gtr 16 (.c (I 8)),some (13,false)⟩,
 oN (.pick 18 13 (.c (.bool true)) 17),
 oM 19 18,
  ⟨.faddr 20 1 4,some (19,false)⟩,
  ⟨.load 21 false 1 20,some (19,false)⟩,
  ⟨.len 22 0 21,some (19,false)⟩,
  ⟨.bin 23 .gtr 22 (.c (I 8)),some (19,false)⟩,
 oN (.pick 24 19 (.c (.bool true)) 23)] [1,24] 1
 (.cond 24 (sR [oK 2 2] [2] 0
 .ret)
 .skip))
 (.seq (sR [oF 25 1 0,oL 26 25,oD 27 26,oK 28 0] [1,27,28] 1
 (.cut q3j))
 (.cut qz))))
def qf:IFunc:={np:=1,res:=[.t 2],own:=false,trunc:=true,body:=q6b }
/- 42: latchwork/model.Cone -/
/- 71: latchwork/model.of -/
/- 76: latchwork/model.node -/
def qb:ICode:=
 (.cond 39 (sR [oK 4 1] [4] 0
 .ret)
 .skip)
def qc:ICode:=
 (sR [oK 4 0] [4] 0
 .ret)
def q6c:ICode:=
 (.post (.seq (.region [oW 70 69 68] false)
 (.seq (.cond 70 .skip
 (.exit 1))
 (.seq (.block 2 (sR [oM 71 69,oA 72 67 69,oL 73 72,oM 6 71,oM 7 73] [0,1,5,6,7,67,68,69] 1
 (sR [
 oM 74 6,
 oF 75 5 0,
 oL 76 75,
 oY 77 63 [76],
 oW 78 74 77,
 oM 79 78,
  ⟨.mv 80 7,some (79,true)⟩,
  ⟨.bin 81 .lss 80 (.c (I 0)),some (79,true)⟩,
  ⟨.mv 82 81,some (79,true)⟩,
  ⟨.mv 83 7,some (82,false)⟩,
  ⟨.mv 84 1,some (82,false)⟩,
  ⟨.bin 85 .geq 83 84,some (82,false)⟩,
  ⟨.pick 86 82 (.c (.bool true)) 85,some (79,true)⟩,
 oN (.pick 87 79 86 (.c (.bool false))),
 oM 88 87,
  ⟨.mv 89 6,some (88,false)⟩,
  ⟨.faddr 90 5 0,some (88,false)⟩,
  ⟨.load 91 false 1 90,some (88,false)⟩,
  ⟨.call (some 92) true 63 [91],some (88,false)⟩,
  ⟨.bin 93 .geq 89 92,some (88,false)⟩,
  ⟨.mv 94 93,some (88,false)⟩,
  ⟨.mv 95 7,some (94,true)⟩,
  ⟨.bin 96 .neq 95 (.c (I 0)),some (94,true)⟩,
  ⟨.pick 97 94 96 (.c (.bool false)),some (88,false)⟩,
 oN (.pick 98 88 (.c (.bool true)) 97)] [0,1,5,67,68,69,98] 1
 (.cond 98 (sR [oK 4 4] [4] 0
 .ret)
 .skip))))
 (pR [oP 99 69 1,oM 69 99] [0,1,5,67,68,69] 1)))) [0,1,5,67,68,69] 1)
def q3k:ICode:=
 (.post (.block 1 (.loop q6c)) [0,5] 1)
def q3l:ICode:=
 (sQ [oF 100 5 0,oL 101 100,oF 102 5 1,oL 103 102,oF 104 5 5,oL 105 104,oM 106 0,oN (.load 107 true 6 5),oY 108 104 [106,107],oY 109 22 [101,103,105,108],oM 4 109] [4] 0
 .ret)
def qa:ICode:=
 (.seq (sR [oF 61 5 2,oL 62 61,oF 63 5 3,oL 64 63,oF 65 5 4,oL 66 65,oN (.buildSl 67 1 [62,64,66]),oD 68 67,oK 69 0] [0,1,5,67,68,69] 1
 (.cut q3k))
 (.cut q3l))
def q6d:ICode:=
 (sR [oK 4 0] [0,1] 0
 (sR [oM 8 0,oM 9 1,oN (.iaddr 10 6 none 8 9),oN (.load 11 true 6 10),oN (.alloc 5 false (.agg [I 0,I 0,I 0,I 0,I 0,I 0])),oN (.store false 6 5 11)] [0,1,5] 1
 (.seq (sR [
 oF 12 5 0,
 oL 13 12,
 oN (.bin 14 .lss 13 (.c (I 1))),
 oM 15 14,
  ⟨.faddr 16 5 0,some (15,false)⟩,
  ⟨.load 17 false 1 16,some (15,false)⟩,
  ⟨.bin 18 .geq 17 (.c (I 24)),some (15,false)⟩,
 oN (.pick 19 15 (.c (.bool true)) 18)] [0,1,5,19] 1
 (.cond 19 (sR [oK 4 7] [4] 0
 .ret)
 .skip))
 (.seq (sR [oF 20 5 1,oL 21 20,oY 22 62 [21],oN (.un 23 .not 22)] [0,1,5,23] 1
 (.cond 23 (sR [oK 4 3] [4] 0
 .ret)
 .skip))
 (.seq (sR [oF 24 5 0,oL 25 24,oY 26 103 [25]] [0,1,5,26] 1
 (.cond 26 (.seq (.block 0 (sR [
 oF 28 5 0,
 oL 29 28,
 oE 30 29 1,
 oM 31 30,
  ⟨.faddr 32 5 5,some (31,true)⟩,
  ⟨.load 33 false 1 32,some (31,true)⟩,
  ⟨.faddr 34 5 1,some (31,true)⟩,
  ⟨.load 35 false 1 34,some (31,true)⟩,
  ⟨.call (some 36) true 65 [33,35],some (31,true)⟩,
  ⟨.un 37 .not 36,some (31,true)⟩,
 oN (.pick 38 31 37 (.c (.bool false))),
 oM 27 38] [5,27] 1
 (.cond 27 (sR [oK 4 3] [4] 0
 .ret)
 (.seq (sR [
 oF 40 5 0,
 oL 41 40,
 oN (.bin 42 .neq 41 (.c (I 1))),
 oM 43 42,
  ⟨.faddr 44 5 5,some (43,true)⟩,
  ⟨.load 45 false 1 44,some (43,true)⟩,
  ⟨.bin 46 .neq 45 (.c (I 0)),some (43,true)⟩,
 oN (.pick 47 43 46 (.c (.bool false))),
 oM 39 47] [5,39] 1
 (.cond 39 (.post .skip [39] 0)
 (.post (pR [
 oF 48 5 2,
 oL 49 48,
 oN (.bin 50 .neq 49 (.c (I 0))),
 oM 51 50,
  ⟨.faddr 52 5 3,some (51,false)⟩,
  ⟨.load 53 false 1 52,some (51,false)⟩,
  ⟨.bin 54 .neq 53 (.c (I 0)),some (51,false)⟩,
 oN (.pick 55 51 (.c (.bool true)) 54),
 oM 56 55,
  ⟨.faddr 57 5 4,some (56,false)⟩,
  ⟨.load 58 false 1 57,some (56,false)⟩,
  ⟨.bin 59 .neq 58 (.c (I 0)),some (56,false)⟩,
 oN (.pick 60 56 (.c (.bool true)) 59),
 oM 39 60] [39] 0) [39] 0)))
 (.cut qb)))))
 (.cut qc))
 .skip))
 (.cut qa))))))
def q3m:IFunc:={np:=2,res:=[.t 4],own:=false,trunc:=true,body:=q6d }
/- 77: latchwork/model.Bits -/
def q6e:ICode:=
 (sR [oB 1 0,oK 2 0,oK 3 0] [1] 1
 (sQ [oN (.load 4 true 5 1),oN (.load 5 true 5 1),oY 6 101 [5,(.c (I 2))],oY 7 105 [4,6],oN (.load 8 true 5 1),oN (.load 9 true 5 1),oY 10 101 [9,(.c (I 3))],oY 11 105 [8,10],oM 2 7,
 oM 3 11] [2,3] 0
 .ret))
def q3n:IFunc:={np:=1,res:=[.t 2,.t 3],own:=false,trunc:=true,body:=q6e }
/- 78: (*latchwork/model.checker).lean -/
def q6f:ICode:=
 (.post (.seq (.region [oW 29 28 27] false)
 (.seq (.cond 29 .skip
 (.exit 2))
 (.seq (.block 3 (sR [oA 30 26 28,oL 31 30,oM 6 31] [0,4,6,11,12,13,26,27,28] 0
 (pR [
 oM 32 4,
 oM 33 32,
  ⟨.mv 34 0,some (33,false)⟩,
  ⟨.nilc 35 34,some (33,false)⟩,
  ⟨.faddr 36 35 5,some (33,false)⟩,
  ⟨.load 37 false 1 36,some (33,false)⟩,
  ⟨.mv 38 6,some (33,false)⟩,
  ⟨.iaddr 39 1 none 37 38,some (33,false)⟩,
  ⟨.load 40 false 1 39,some (33,false)⟩,
 oN (.pick 41 33 (.c (.bool true)) 40),
 oM 4 41] [0,4,11,12,13,26,27,28] 0)))
 (pR [oP 42 28 1,oM 28 42] [0,4,11,12,13,26,27,28] 0)))) [0,4,11,12,13,26,27,28] 0)
def q1g:ICode:=
 (.post (.block 2 (.loop q6f)) [0,4,11,12,13] 0)
def q1h:ICode:=
 (pR [oM 43 0,oM 44 0,oC 45 44,oF 46 45 5,oN (.loadT 47 46),oM 48 4,oN (.buildSl 49 1 [48]),oN (.append 50 1 1 47 49),oC 51 43,oF 52 51 5,oN (.store true 1 52 50)] [0,11,12,13] 0)
def qu:ICode:=
 (pR [oP 53 13 1,oM 13 53] [0,11,12,13] 0)
def q6g:ICode:=
 (.post (.seq (.region [oW 14 13 12] false)
 (.seq (.cond 14 .skip
 (.exit 0))
 (.seq (.block 1 (sR [oN (.iaddr 15 6 none 11 13),oN (.load 16 true 6 15),oN (.alloc 3 false (.agg [I 0,I 0,I 0,I 0,I 0,I 0])),oN (.store false 6 3 16)] [0,3,11,12,13] 1
 (sR [
 oF 17 3 0,
 oL 18 17,
 oE 19 18 2,
 oM 20 19,
  ⟨.faddr 21 3 0,some (20,false)⟩,
  ⟨.load 22 false 1 21,some (20,false)⟩,
  ⟨.bin 23 .eql 22 (.c (I 3)),some (20,false)⟩,
 oN (.pick 24 20 (.c (.bool true)) 23),
 oM 4 24] [0,3,4,11,12,13] 1
 (.seq (sR [oN (.load 25 true 6 3),oY 26 81 [25],oD 27 26,oK 28 0] [0,4,11,12,13,26,27,28] 0
 (.cut q1g))
 (.cut q1h)))))
 (.cut qu)))) [0,11,12,13] 0)
def q3o:ICode:=
 (.post (.block 0 (.loop q6g)) [] 0)
def q6h:ICode:=
 (sR [oM 7 0,oC 8 7,oF 9 8 0,oF 10 9 0,oL 11 10,oD 12 11,oK 13 0] [0,11,12,13] 0
 (.cut q3o))
def q3p:IFunc:={np:=1,res:=[],own:=false,trunc:=false,body:=q6h }
/- 79: (*latchwork/model.checker).pairs -/
def q6i:ICode:=
 (.post (.seq (.region [oW 33 32 31] false)
 (.seq (.cond 33 .skip
 (.exit 2))
 (.seq (.block 3 (sR [oN (.iaddr 34 2 none 30 32),oN (.load 35 true 2 34),oN (.alloc 6 false (.agg [I 0,I 0])),oN (.store false 2 6 35)] [0,3,6,23,24,25,30,31,32] 1
 (sR [oM 36 0,oN (.load 37 true 2 6),oM 38 3,oE 39 38 0,oY 40 106 [36,37,39],oM 7 40] [0,3,7,23,24,25,30,31,32] 0
 (sR [oM 41 7,oN (.bin 42 .neq 41 (.c (I 0)))] [0,3,7,23,24,25,30,31,32,42] 0
 (.cond 42 (sR [oM 43 7,oM 2 43] [2] 0
 .ret)
 .skip)))))
 (pR [oP 44 32 1,oM 32 44] [0,3,23,24,25,30,31,32] 0)))) [0,3,23,24,25,30,31,32] 0)
def q3q:ICode:=
 (.post (.block 2 (.loop q6i)) [0,23,24,25] 0)
def q27:ICode:=
 (pR [oP 45 25 1,oM 25 45] [0,23,24,25] 0)
def q6j:ICode:=
 (.post (.seq (.region [oW 26 25 24] false)
 (.seq (.cond 26 .skip
 (.exit 0))
 (.seq (.block 1 (sR [oM 27 25,oA 28 23 25,oL 29 28,oM 3 27,oT 4 29] [0,3,4,23,24,25] 0
 (sR [oM 30 4,oD 31 30,oK 32 0] [0,3,23,24,25,30,31,32] 0
 (.cut q3q))))
 (.cut q27)))) [0,23,24,25] 0)
def q3r:ICode:=
 (.post (.block 0 (.loop q6j)) [0] 0)
def q6k:ICode:=
 (.post (.seq (.region [oW 66 65 64] false)
 (.seq (.cond 66 .skip
 (.exit 6))
 (.seq (.block 7 (sR [oN (.iaddr 67 2 none 63 65),oN (.load 68 true 2 67),oN (.alloc 12 false (.agg [I 0,I 0])),oN (.store false 2 12 68)] [9,10,12,56,57,58,63,64,65] 1
 (pR [oM 69 10,oF 70 12 0,oL 71 70,oN (.mupd 0 69 71 (.c (.bool true)))] [9,10,56,57,58,63,64,65] 0)))
 (pR [oP 72 65 1,oM 65 72] [9,10,56,57,58,63,64,65] 0)))) [9,10,56,57,58,63,64,65] 0)
def q3s:ICode:=
 (.post (.block 6 (.loop q6k)) [9,10,56,57,58] 0)
def q3t:ICode:=
 (sR [oM 73 10,oN (.len 74 2 73),oM 75 9,oD 76 75,oW 77 74 76] [56,57,58,77] 0
 (.cond 77 (sR [oK 2 6] [2] 0
 .ret)
 .skip))
def q28:ICode:=
 (pR [oP 78 58 1,oM 58 78] [56,57,58] 0)
def q3u:ICode:=
 (.post (.seq (.region [oW 59 58 57] false)
 (.seq (.cond 59 .skip
 (.exit 4))
 (.seq (.block 5 (sR [oA 60 56 58,oL 61 60,oT 9 61] [9,56,57,58] 0
 (sR [oN (.mkmap 62),oM 10 62] [9,10,56,57,58] 0
 (.seq (sR [oM 63 9,oD 64 63,oK 65 0] [9,10,56,57,58,63,64,65] 0
 (.cut q3s))
 (.cut q3t)))))
 (.cut q28)))) [56,57,58] 0)
def q3v:ICode:=
 (.post (.block 4 (.loop q3u)) [] 0)
def q29:ICode:=
 (.seq (.region [oK 2 0] false)
 .ret)
def q2a:ICode:=
 (.seq (sQ [oM 46 0,oC 47 46,oF 48 47 0,oF 49 48 1,oL 50 49,oM 51 0,oC 52 51,oF 53 52 0,oF 54 53 2,oL 55 54,oN (.buildSl 56 1 [50,55]),oD 57 56,oK 58 0] [56,57,58] 0
 (.cut q3v))
 (.cut q29))
def q6l:ICode:=
 (sR [oK 2 0] [0] 0
 (.seq (sQ [oM 13 0,oC 14 13,oF 15 14 0,oF 16 15 1,oL 17 16,oM 18 0,oC 19 18,oF 20 19 0,oF 21 20 2,oL 22 21,oN (.buildSl 23 1 [17,22]),oD 24 23,oK 25 0] [0,23,24,25] 0
 (.cut q3r))
 (.cut q2a)))
def qv:IFunc:={np:=1,res:=[.t 2],own:=false,trunc:=true,body:=q6l }
/- 80: (*latchwork/model.checker).marks -/
def q6m:ICode:=
 (sR [oN (.box 1 true false 0),oK 2 0] [1] 0
 (.seq (sQ [oL 4 1,oC 5 4,oF 6 5 0,oF 7 6 2,oL 8 7,oD 9 8,oL 10 1,oC 11 10,oF 12 11 0,oN (.load 13 true 5 12),oY 14 101 [13,(.c (I 3))],oD 15 14,oW 16 9 15] [1,16] 0
 (.cond 16 (sR [oK 2 5] [2] 0
 .ret)
 .skip))
 (sQ [oL 17 1,oC 18 17,oF 19 18 0,oF 20 19 3,oL 21 20,oL 22 1,oC 23 22,oF 24 23 0,oF 25 24 4,oL 26 25,oN (.buildSl 27 1 [21,26]),oY 28 107 [27],oT 3 28] [1,3] 0
 (.seq (sR [oM 29 3,oN (.mkfn 30 108 [1]),oY 31 86 [29,30]] [1,3,31] 0
 (.cond 31 (sR [oK 2 5] [2] 0
 .ret)
 .skip))
 (.seq (sR [oM 32 3,oN (.mkfn 33 109 [1]),oY 34 86 [32,33]] [34] 0
 (.cond 34 (sR [oK 2 1] [2] 0
 .ret)
 .skip))
 (sR [oK 2 0] [2] 0
 .ret))))))
def qk:IFunc:={np:=1,res:=[.t 2],own:=false,trunc:=true,body:=q6m }
/- 81: latchwork/model.Args -/
def q6n:ICode:=
 (sR [oB 1 0,oN (.mv 2 (.c (.sl true 1 [])))] [1] 1
 (sQ [oF 3 1 2,oL 4 3,oF 5 1 3,oL 6 5,oF 7 1 4,oL 8 7,oN (.buildSl 9 1 [4,6,8]),oF 10 1 0,oL 11 10,oY 12 63 [11],oN (.slice 13 1 9 none (some 12)),oT 2 13] [2] 0
 .ret))
def ql:IFunc:={np:=1,res:=[.t 2],own:=true,trunc:=true,body:=q6n }
/- 101: latchwork/model.Of -/
def q1i:ICode:=
 (pR [oP 24 11 1,oM 11 24] [1,5,9,10,11] 0)
def q6o:ICode:=
 (.post (.seq (.region [oW 12 11 10] false)
 (.seq (.cond 12 .skip
 (.exit 0))
 (.seq (.block 1 (sR [oM 13 11,oN (.iaddr 14 6 none 9 11),oN (.load 15 true 6 14),oN (.alloc 7 false (.agg [I 0,I 0,I 0,I 0,I 0,I 0])),oM 6 13,oN (.store false 6 7 15)] [1,5,6,7,9,10,11] 1
 (sR [oF 16 7 0,oL 17 16,oM 18 1,oN (.bin 19 .eql 17 18)] [1,5,6,9,10,11,19] 0
 (.cond 19 (.post (pR [oT 20 5,oM 21 6,oN (.buildSl 22 1 [21]),oN (.append 23 1 8 20 22),oT 5 23] [1,5,9,10,11] 0) [1,5,9,10,11] 0)
 (.post .skip [1,5,9,10,11] 0)))))
 (.cut q1i)))) [1,5,9,10,11] 0)
def q3w:ICode:=
 (.post (.block 0 (.loop q6o)) [5] 0)
def q3x:ICode:=
 (sR [oM 25 5,oT 4 25] [4] 0
 .ret)
def q6p:ICode:=
 (sR [oB 2 0,oN (.mv 4 (.c (.sl true 1 [])))] [1,2] 1
 (.seq (.region [oN (.mv 5 (.c (.sl true 1 [])))] false)
 (.seq (sR [oF 8 2 0,oL 9 8,oD 10 9,oK 11 0] [1,5,9,10,11] 0
 (.cut q3w))
 (.cut q3x))))
def q3y:IFunc:={np:=2,res:=[.t 4],own:=false,trunc:=true,body:=q6p }
/- 103: latchwork/model.leaf -/
def q6q:ICode:=
 (sR [oN (.mv 2 (.c (.bool false)))] [0] 0
 (sR [
 oM 3 0,
 oN (.bin 4 .geq 3 (.c (I 1))),
 oM 5 4,
  ⟨.mv 6 0,some (5,true)⟩,
  ⟨.bin 7 .leq 6 (.c (I 3)),some (5,true)⟩,
 oN (.pick 8 5 7 (.c (.bool false))),
 oM 2 8] [2] 0
 .ret))
def q1j:IFunc:={np:=1,res:=[.t 2],own:=false,trunc:=true,body:=q6q }
/- 104: latchwork/model.Widths -/
def q6r:ICode:=
 (.post (.seq (.region [oW 12 11 10] false)
 (.seq (.cond 12 .skip
 (.exit 0))
 (.seq (.block 1 (sR [oM 13 11,oA 14 9 11,oL 15 14,oM 6 13,oM 7 15] [0,4,5,6,7,9,10,11] 3
 (pR [oM 16 6,oM 17 0,oM 18 7,oN (.iaddr 19 6 none 17 18),oF 20 19 1,oL 21 20,oN (.iaddr 22 1 (some 3) 5 16),oN (.store false 1 22 21)] [0,4,5,9,10,11] 3)))
 (pR [oP 23 11 1,oM 11 23] [0,4,5,9,10,11] 3)))) [0,4,5,9,10,11] 3)
def q2b:ICode:=
 (.post (.block 0 (.loop q6r)) [4,5] 3)
def q3z:ICode:=
 (sR [oN (.load 24 true 3 5),oN (.store false 3 4 24)] [4] 2
 .ret)
def q6s:ICode:=
 (sR [oB 3 1,oN (.alloc 4 false (.agg [I 0,I 0,I 0]))] [0,3,4] 2
 (.seq (.region [oN (.alloc 5 false (.agg [I 0,I 0,I 0]))] false)
 (.seq (sR [oN (.load 8 true 6 3),oY 9 81 [8],oD 10 9,oK 11 0] [0,4,5,9,10,11] 3
 (.cut q2b))
 (.cut q3z))))
def q40:IFunc:={np:=2,res:=[.cell 4 true 3],own:=false,trunc:=true,body:=q6s }
/- 105: latchwork/model.bits -/
def q6t:ICode:=
 (.post (.seq (.region [oW 11 10 9] false)
 (.seq (.cond 11 .skip
 (.exit 0))
 (.seq (.block 1 (sR [oA 12 8 10,oL 13 12,oM 7 13] [2,5,7,8,9,10] 1
 (pR [oM 14 5,oF 15 2 0,oL 16 15,oM 17 7,oN (.iaddr 18 6 none 16 17),oF 19 18 1,oL 20 19,oN (.bin 21 .add 14 20),oM 5 21] [2,5,8,9,10] 1)))
 (pR [oP 22 10 1,oM 10 22] [2,5,8,9,10] 1)))) [2,5,8,9,10] 1)
def q41:ICode:=
 (.post (.block 0 (.loop q6t)) [5] 0)
def q42:ICode:=
 (sR [oM 23 5,oM 4 23] [4] 0
 .ret)
def q6u:ICode:=
 (sR [oB 2 0,oK 4 0] [1,2] 1
 (.seq (.region [oK 5 0] false)
 (.seq (sR [oM 8 1,oD 9 8,oK 10 0] [2,5,8,9,10] 1
 (.cut q41))
 (.cut q42))))
def q43:IFunc:={np:=2,res:=[.t 4],own:=false,trunc:=true,body:=q6u }
/- 106: (*latchwork/model.checker).pair -/
def q6v:ICode:=
 (sR [oB 4 1,oK 6 0] [0,2,4] 1
 (.seq (.block 0 (sQ [
 oM 8 0,
 oF 9 4 0,
 oL 10 9,
 oY 11 118 [8,10],
 oN (.un 12 .not 11),
 oM 13 12,
  ⟨.mv 14 0,some (13,false)⟩,
  ⟨.faddr 15 4 1,some (13,false)⟩,
  ⟨.load 16 false 1 15,some (13,false)⟩,
  ⟨.call (some 17) true 118 [14,16],some (13,false)⟩,
  ⟨.un 18 .not 17,some (13,false)⟩,
 oN (.pick 19 13 (.c (.bool true)) 18),
 oM 20 19,
  ⟨.mv 21 0,some (20,false)⟩,
  ⟨.nilc 22 21,some (20,false)⟩,
  ⟨.faddr 23 22 0,some (20,false)⟩,
  ⟨.faddr 24 23 0,some (20,false)⟩,
  ⟨.load 25 false 1 24,some (20,false)⟩,
  ⟨.faddr 26 4 0,some (20,false)⟩,
  ⟨.load 27 false 1 26,some (20,false)⟩,
  ⟨.iaddr 28 6 none 25 27,some (20,false)⟩,
  ⟨.faddr 29 28 0,some (20,false)⟩,
  ⟨.load 30 false 1 29,some (20,false)⟩,
  ⟨.bin 31 .neq 30 (.c (I 3)),some (20,false)⟩,
 oN (.pick 32 20 (.c (.bool true)) 31),
 oM 7 32] [0,2,4,7] 1
 (.cond 7 (sR [oK 6 5] [6] 0
 .ret)
 (sQ [oM 34 0,oC 35 34,oF 36 35 0,oF 37 36 0,oL 38 37,oF 39 4 0,oL 40 39,oN (.iaddr 41 6 none 38 40),oF 42 41 1,oL 43 42,oM 44 0,oC 45 44,oF 46 45 0,oF 47 46 0,oL 48 47,oF 49 4 1,
 oL 50 49,oN (.iaddr 51 6 none 48 50),oF 52 51 1,oL 53 52,oN (.bin 54 .neq 43 53),oM 33 54] [0,2,4,33] 1
 (.cond 33 (sR [oK 6 1] [6] 0
 .ret)
 (sQ [
 oM 56 2,
 oM 57 56,
  ⟨.mv 58 0,some (57,true)⟩,
  ⟨.nilc 59 58,some (57,true)⟩,
  ⟨.faddr 60 59 5,some (57,true)⟩,
  ⟨.load 61 false 1 60,some (57,true)⟩,
  ⟨.faddr 62 4 1,some (57,true)⟩,
  ⟨.load 63 false 1 62,some (57,true)⟩,
  ⟨.iaddr 64 1 none 61 63,some (57,true)⟩,
  ⟨.load 65 false 1 64,some (57,true)⟩,
 oN (.pick 66 57 65 (.c (.bool false))),
 oM 55 66] [55] 0
 (.cond 55 (sR [oK 6 4] [6] 0
 .ret)
 .skip)))))))
 (sR [oK 6 0] [6] 0
 .ret)))
def q44:IFunc:={np:=3,res:=[.t 6],own:=false,trunc:=true,body:=q6v }
/- 108: (*latchwork/model.checker).marks$1 -/
def q6w:ICode:=
 (sR [oN (.mv 3 (.c (.bool false)))] [0,1] 0
 (sR [oL 4 1,oM 5 0,oY 6 118 [4,5],oN (.un 7 .not 6),oM 3 7] [3] 0
 .ret))
def q45:IFunc:={np:=2,res:=[.t 3],own:=false,trunc:=true,body:=q6w }
/- 109: (*latchwork/model.checker).marks$2 -/
def q6x:ICode:=
 (sR [oN (.mv 3 (.c (.bool false)))] [0,1] 0
 (sR [oL 4 1,oC 5 4,oF 6 5 0,oF 7 6 0,oL 8 7,oM 9 0,oN (.iaddr 10 6 none 8 9),oF 11 10 1,oL 12 11,oN (.bin 13 .neq 12 (.c (I 1))),oM 3 13] [3] 0
 .ret))
def q46:IFunc:={np:=2,res:=[.t 3],own:=false,trunc:=true,body:=q6x }
/- 118: (*latchwork/model.checker).is -/
def q6y:ICode:=
 (sR [oN (.mv 4 (.c (.bool false)))] [0,1] 0
 (sR [
 oM 5 1,
 oN (.bin 6 .geq 5 (.c (I 0))),
 oM 7 6,
  ⟨.mv 8 1,some (7,true)⟩,
  ⟨.mv 9 0,some (7,true)⟩,
  ⟨.nilc 10 9,some (7,true)⟩,
  ⟨.faddr 11 10 0,some (7,true)⟩,
  ⟨.faddr 12 11 0,some (7,true)⟩,
  ⟨.load 13 false 1 12,some (7,true)⟩,
  ⟨.len 14 0 13,some (7,true)⟩,
  ⟨.bin 15 .lss 8 14,some (7,true)⟩,
 oN (.pick 16 7 15 (.c (.bool false))),
 oM 4 16] [4] 0
 .ret))
def q1k:IFunc:={np:=2,res:=[.t 4],own:=false,trunc:=true,body:=q6y }
/- 120: latchwork/model.Args#K -/
end Go.Lw
end

/-! The code of package Ref for the small machine. Written by program (gen.py). -/
section
set_option maxRecDepth 10000
namespace Go.Lw
open Go
/- 2: latchwork/latchworkref.CheckGraph -/
/- 3: latchwork/latchworkref.IsLit -/
/- 4: latchwork/latchworkref.AndOf -/
/- 7: latchwork/latchworkref.SameGraph -/
/- 10: latchwork/latchworkref.AreLits -/
/- 11: latchwork/latchworkref.NodesOf -/
/- 12: latchwork/latchworkref.LitOf -/
/- 17: latchwork/latchworkref.ClausesOf -/
/- 23: latchwork/latchworkref.FitOf -/
/- 26: latchwork/latchworkref.Takes -/
/- 27: latchwork/latchworkref.Two -/
/- 28: latchwork/latchworkref.Made -/
/- 36: latchwork/latchworkref.CheckModel -/
/- 39: latchwork/latchworkref.Nodes -/
/- 43: latchwork/latchworkref.ConeOf -/
/- 45: latchwork/latchworkref.Has -/
/- 46: latchwork/latchworkref.SameInts -/
def q6z:ICode:=
 (.post (.seq (sR [oM 11 5,oM 12 0,oD 13 12,oW 14 11 13] [0,1,5,14] 0
 (.cond 14 .skip
 (.exit 0)))
 (.seq (.block 1 (sQ [oM 17 0,oM 18 5,oA 19 17 18,oL 20 19,oM 21 1,oM 22 5,oA 23 21 22,oL 24 23,oN (.bin 25 .neq 20 24)] [0,1,5,25] 0
 (.cond 25 (sR [oN (.mv 4 (.c (.bool false)))] [4] 0
 .ret)
 .skip)))
 (pR [oM 15 5,oP 16 15 1,oM 5 16] [0,1,5] 0))) [0,1,5] 0)
def q47:ICode:=
 (.post (.block 0 (.loop q6z)) [] 0)
def q48:ICode:=
 (.seq (.region [oN (.mv 4 (.c (.bool true)))] false)
 .ret)
def q70:ICode:=
 (sR [oN (.mv 4 (.c (.bool false)))] [0,1] 0
 (.seq (sR [oM 6 0,oD 7 6,oM 8 1,oD 9 8,oN (.bin 10 .neq 7 9)] [0,1,10] 0
 (.cond 10 (sR [oN (.mv 4 (.c (.bool false)))] [4] 0
 .ret)
 .skip))
 (.seq (sR [oK 5 0] [0,1,5] 0
 (.cut q47))
 (.cut q48))))
def q49:IFunc:={np:=2,res:=[.t 4],own:=false,trunc:=true,body:=q70 }
/- 50: latchwork/latchworkref.between -/
/- 51: latchwork/latchworkref.AndAt -/
/- 56: latchwork/latchworkref.AndClauses -/
/- 57: latchwork/latchworkref.MustClauses -/
/- 58: latchwork/latchworkref.DoneClauses -/
/- 60: latchwork/latchworkref.SameClauses -/
/- 67: latchwork/latchworkref.bitwise -/
/- 68: latchwork/latchworkref.yes -/
/- 69: latchwork/latchworkref.Signed -/
/- 72: latchwork/latchworkref.CheckNode -/
/- 73: latchwork/latchworkref.Bits -/
/- 74: latchwork/latchworkref.hangs -/
/- 84: latchwork/latchworkref.ConeOf$1 -/
/- 92: latchwork/latchworkref.Num -/
/- 93: latchwork/latchworkref.CheckClauses -/
/- 95: latchwork/latchworkref.SameLists -/
/- 97: latchwork/latchworkref.Bit -/
/- 102: latchwork/latchworkref.WidthsOf -/
/- 112: latchwork/latchworkref.CheckClause -/
/- 124: latchwork/latchworkref.CheckWords -/
/- 125: latchwork/latchworkref.BeginOf -/
/- 131: latchwork/latchworkref.Ready -/
/- 132: latchwork/latchworkref.ValuesOf -/
/- 133: latchwork/latchworkref.NextOf -/
/- 134: latchwork/latchworkref.MarksOf -/
/- 137: latchwork/latchworkref.PairOf -/
/- 146: latchwork/latchworkref.FollowsOf -/
/- 150: latchwork/latchworkref.CheckProof -/
/- 151: latchwork/latchworkref.ProofOf -/
/- 167: latchwork/latchworkref.AnswerIs -/
/- 168: latchwork/latchworkref.HoldsOf -/
/- 213: latchwork/latchworkref.CheckCircuit -/
/- 321: latchwork/latchworkref.WaysOf -/
/- 322: latchwork/latchworkref.Layers -/
/- 323: latchwork/latchworkref.NumberOf -/
/- 324: latchwork/latchworkref.ExploreOf -/
/- 326: latchwork/latchworkref.WordsOf -/
/- 327: latchwork/latchworkref.BitsOf -/
/- 330: latchwork/latchworkref.CheckSteps -/
/- 331: latchwork/latchworkref.StepClauses -/
/- 338: latchwork/latchworkref.StepClauses$1 -/
/- 339: latchwork/latchworkref.StepClauses$2 -/
/- 349: latchwork/latchworkref.SameModel -/
def q71:ICode:=
 (.post (.seq (sR [oM 45 5,oF 46 2 0,oL 47 46,oD 48 47,oW 49 45 48] [2,3,5,49] 2
 (.cond 49 .skip
 (.exit 0)))
 (.seq (.block 1 (sQ [oF 52 2 0,oL 53 52,oM 54 5,oN (.iaddr 55 6 none 53 54),oN (.load 56 true 6 55),oF 57 3 0,oL 58 57,oM 59 5,oN (.iaddr 60 6 none 58 59),oN (.load 61 true 6 60),
 oN (.eqa 62 true [false,false,false,false,false,false] 56 61)] [2,3,5,62] 2
 (.cond 62 (sR [oN (.mv 4 (.c (.bool false)))] [4] 0
 .ret)
 .skip)))
 (pR [oM 50 5,oP 51 50 1,oM 5 51] [2,3,5] 2))) [2,3,5] 2)
def q4a:ICode:=
 (.post (.block 0 (.loop q71)) [] 0)
def q2c:ICode:=
 (.seq (.region [oN (.mv 4 (.c (.bool true)))] false)
 .ret)
def q72:ICode:=
 (sR [oB 2 0,oB 3 1,oN (.mv 4 (.c (.bool false)))] [2,3] 2
 (.seq (sR [
 oF 6 2 0,
 oL 7 6,
 oD 8 7,
 oF 9 3 0,
 oL 10 9,
 oD 11 10,
 oN (.bin 12 .neq 8 11),
 oM 13 12,
  ⟨.faddr 14 2 1,some (13,false)⟩,
  ⟨.load 15 false 1 14,some (13,false)⟩,
  ⟨.faddr 16 3 1,some (13,false)⟩,
  ⟨.load 17 false 1 16,some (13,false)⟩,
  ⟨.call (some 18) true 354 [15,17],some (13,false)⟩,
  ⟨.un 19 .not 18,some (13,false)⟩,
 oN (.pick 20 13 (.c (.bool true)) 19),
 oM 21 20,
  ⟨.faddr 22 2 2,some (21,false)⟩,
  ⟨.load 23 false 1 22,some (21,false)⟩,
  ⟨.faddr 24 3 2,some (21,false)⟩,
  ⟨.load 25 false 1 24,some (21,false)⟩,
  ⟨.call (some 26) true 354 [23,25],some (21,false)⟩,
  ⟨.un 27 .not 26,some (21,false)⟩,
 oN (.pick 28 21 (.c (.bool true)) 27),
 oM 29 28,
  ⟨.faddr 30 2 3,some (29,false)⟩,
  ⟨.load 31 false 1 30,some (29,false)⟩,
  ⟨.faddr 32 3 3,some (29,false)⟩,
  ⟨.load 33 false 1 32,some (29,false)⟩,
  ⟨.call (some 34) true 46 [31,33],some (29,false)⟩,
  ⟨.un 35 .not 34,some (29,false)⟩,
 oN (.pick 36 29 (.c (.bool true)) 35),
 oM 37 36,
  ⟨.faddr 38 2 4,some (37,false)⟩,
  ⟨.load 39 false 1 38,some (37,false)⟩,
  ⟨.faddr 40 3 4,some (37,false)⟩,
  ⟨.load 41 false 1 40,some (37,false)⟩,
  ⟨.call (some 42) true 46 [39,41],some (37,false)⟩,
  ⟨.un 43 .not 42,some (37,false)⟩,
 oN (.pick 44 37 (.c (.bool true)) 43)] [2,3,44] 2
 (.cond 44 (sR [oN (.mv 4 (.c (.bool false)))] [4] 0
 .ret)
 .skip))
 (.seq (sR [oK 5 0] [2,3,5] 2
 (.cut q4a))
 (.cut q2c))))
def q4b:IFunc:={np:=2,res:=[.t 4],own:=false,trunc:=true,body:=q72 }
/- 351: latchwork/latchworkref.PrintTrace -/
/- 354: latchwork/latchworkref.samePairs -/
def q73:ICode:=
 (.post (.seq (sR [oM 11 5,oM 12 0,oD 13 12,oW 14 11 13] [0,1,5,14] 0
 (.cond 14 .skip
 (.exit 0)))
 (.seq (.block 1 (sQ [oM 17 0,oM 18 5,oN (.iaddr 19 2 none 17 18),oN (.load 20 true 2 19),oM 21 1,oM 22 5,oN (.iaddr 23 2 none 21 22),oN (.load 24 true 2 23),oN (.eqa 25 true [false,false] 20 24)] [0,1,5,25] 0
 (.cond 25 (sR [oN (.mv 4 (.c (.bool false)))] [4] 0
 .ret)
 .skip)))
 (pR [oM 15 5,oP 16 15 1,oM 5 16] [0,1,5] 0))) [0,1,5] 0)
def q4c:ICode:=
 (.post (.block 0 (.loop q73)) [] 0)
def q2d:ICode:=
 (.seq (.region [oN (.mv 4 (.c (.bool true)))] false)
 .ret)
def q74:ICode:=
 (sR [oN (.mv 4 (.c (.bool false)))] [0,1] 0
 (.seq (sR [oM 6 0,oD 7 6,oM 8 1,oD 9 8,oN (.bin 10 .neq 7 9)] [0,1,10] 0
 (.cond 10 (sR [oN (.mv 4 (.c (.bool false)))] [4] 0
 .ret)
 .skip))
 (.seq (sR [oK 5 0] [0,1,5] 0
 (.cut q4c))
 (.cut q2d))))
def q4d:IFunc:={np:=2,res:=[.t 4],own:=false,trunc:=true,body:=q74 }
/- 355: latchwork/latchworkref.line -/
/- 368: latchwork/latchworkref.PrintModel -/
/- 370: latchwork/latchworkref.ParseModel -/
/- 372: latchwork/latchworkref.ParseTrace -/
/- 373: latchwork/latchworkref.SameTrace -/
/- 376: latchwork/latchworkref.CheckTrace -/
/- 377: latchwork/latchworkref.PlayOf -/
/- 379: latchwork/latchworkref.kindWord -/
/- 380: latchwork/latchworkref.Cut -/
/- 381: latchwork/latchworkref.Undigit -/
/- 385: latchwork/latchworkref.PrintClauses -/
end Go.Lw
end

/-! The code of package Word for the small machine. Written by program (gen.py). -/
section
set_option maxRecDepth 10000
namespace Go.Lw
open Go
/- 22: latchwork/word.Fit -/
def q7k:ICode:=
 (.post (.seq (.region [oN (.bin 26 .lss 25 (.c (I 3)))] false)
 (.seq (.cond 26 .skip
 (.exit 0))
 (.seq (.block 1 (sR [oM 27 25,oN (.index 28 1 3 false 24 25),oM 11 27,oM 12 28] [0,1,2,7,9,11,12,24,25] 1
 (sR [
 oM 29 11,
 oM 30 0,
 oY 31 63 [30],
 oW 32 29 31,
 oM 33 32,
  ⟨.mv 34 12,some (33,true)⟩,
  ⟨.call (some 35) true 62 [34],some (33,true)⟩,
  ⟨.un 36 .not 35,some (33,true)⟩,
 oN (.pick 37 33 36 (.c (.bool false))),
 oM 38 37,
  ⟨.mv 39 11,some (38,false)⟩,
  ⟨.mv 40 0,some (38,false)⟩,
  ⟨.call (some 41) true 63 [40],some (38,false)⟩,
  ⟨.bin 42 .geq 39 41,some (38,false)⟩,
  ⟨.mv 43 42,some (38,false)⟩,
  ⟨.mv 44 12,some (43,true)⟩,
  ⟨.bin 45 .neq 44 (.c (I 0)),some (43,true)⟩,
  ⟨.pick 46 43 45 (.c (.bool false)),some (38,false)⟩,
 oN (.pick 47 38 (.c (.bool true)) 46)] [0,1,2,7,9,24,25,47] 1
 (.cond 47 (sR [oK 8 3] [8] 0
 .ret)
 .skip))))
 (pR [oP 48 25 1,oM 25 48] [0,1,2,7,9,24,25] 1)))) [0,1,2,7,9,24,25] 1)
def q4r:ICode:=
 (.post (.block 0 (.loop q7k)) [1,2,7,9] 1)
def q4s:ICode:=
 (.seq (sR [oM 49 9,oM 50 1,oM 51 2,oN (.load 52 true 3 7),oY 53 64 [49,50,51,52],oN (.un 54 .not 53)] [54] 0
 (.cond 54 (sR [oK 8 1] [8] 0
 .ret)
 .skip))
 (sR [oK 8 0] [8] 0
 .ret))
def q7l:ICode:=
 (sR [oB 7 3,oK 8 0] [0,1,2,7] 1
 (sR [oX 14 61 [],oM 15 0,oN (.lookup 16 0 14 15 true (I 0)),oM 13 16,oG 17 13 0,oG 18 13 1,oM 9 17,oM 10 18] [0,1,2,7,9,10] 1
 (.seq (sR [oM 19 10,oN (.un 20 .not 19)] [0,1,2,7,9,20] 1
 (.cond 20 (sR [oK 8 7] [8] 0
 .ret)
 .skip))
 (.seq (sR [oM 21 1,oY 22 62 [21],oN (.un 23 .not 22)] [0,1,2,7,9,23] 1
 (.cond 23 (sR [oK 8 3] [8] 0
 .ret)
 .skip))
 (.seq (sR [oN (.load 24 true 3 7),oK 25 0] [0,1,2,7,9,24,25] 1
 (.cut q4r))
 (.cut q4s))))))
def qg:IFunc:={np:=4,res:=[.t 8],own:=false,trunc:=true,body:=q7l }
/- 25: latchwork/word.Apply -/
/- 61: latchwork/word.shapes -/
def q7m:ICode:=
 (sR [oN (.mv 0 (.c (.nilm)))] [] 0
 (sR [oN (.mkmap 1),oN (.mupd 0 1 (.c (I 4)) (.c (I 1))),oN (.mupd 0 1 (.c (I 5)) (.c (I 1))),oN (.mupd 0 1 (.c (I 6)) (.c (I 2))),oN (.mupd 0 1 (.c (I 7)) (.c (I 2))),
 oN (.mupd 0 1 (.c (I 8)) (.c (I 2))),oN (.mupd 0 1 (.c (I 9)) (.c (I 2))),oN (.mupd 0 1 (.c (I 10)) (.c (I 2))),oN (.mupd 0 1 (.c (I 11)) (.c (I 2))),
 oN (.mupd 0 1 (.c (I 12)) (.c (I 2))),oN (.mupd 0 1 (.c (I 13)) (.c (I 2))),oN (.mupd 0 1 (.c (I 14)) (.c (I 2))),oN (.mupd 0 1 (.c (I 15)) (.c (I 2))),
 oN (.mupd 0 1 (.c (I 16)) (.c (I 3))),oN (.mupd 0 1 (.c (I 17)) (.c (I 3))),oN (.mupd 0 1 (.c (I 18)) (.c (I 3))),oN (.mupd 0 1 (.c (I 19)) (.c (I 4))),
 oN (.mupd 0 1 (.c (I 20)) (.c (I 5))),oN (.mupd 0 1 (.c (I 21)) (.c (I 6))),oN (.mupd 0 1 (.c (I 22)) (.c (I 7))),oN (.mupd 0 1 (.c (I 23)) (.c (I 7))),oM 2 1,oM 0 2] [0] 0
 .ret))
def q4t:IFunc:={np:=0,res:=[.t 0],own:=false,trunc:=false,body:=q7m }
/- 62: latchwork/word.IsWidth -/
def q7n:ICode:=
 (sR [oN (.mv 2 (.c (.bool false)))] [0] 0
 (sR [
 oM 3 0,
 oN (.bin 4 .geq 3 (.c (I 1))),
 oM 5 4,
  ⟨.mv 6 0,some (5,true)⟩,
  ⟨.bin 7 .leq 6 (.c (I 8)),some (5,true)⟩,
 oN (.pick 8 5 7 (.c (.bool false))),
 oM 2 8] [2] 0
 .ret))
def q1s:IFunc:={np:=1,res:=[.t 2],own:=false,trunc:=true,body:=q7n }
/- 63: latchwork/word.Takes -/
def q1t:ICode:=
 (.cond 8 (sR [oK 2 1] [2] 0
 .ret)
 (sR [oE 13 5 4,oM 12 13] [12] 0
 (.cond 12 (sR [oK 2 3] [2] 0
 .ret)
 .skip)))
def q1u:ICode:=
 (sR [oK 2 2] [2] 0
 .ret)
def q7o:ICode:=
 (sR [oK 2 0] [0] 0
 (.seq (sR [oX 3 61 [],oM 4 0,oN (.lookup 5 0 3 4 false (I 0))] [5] 0
 (.block 0 (sR [oE 7 5 0,oM 6 7] [5,6] 0
 (.cond 6 (sR [oK 2 0] [2] 0
 .ret)
 (.seq (sR [oE 9 5 1,oM 8 9] [5,8] 0
 (.cond 8 (.post .skip [5,8] 0)
 (.post (sR [oE 10 5 6,oM 8 10] [5,8] 0
 (.cond 8 (.post .skip [5,8] 0)
 (.post (pR [oE 11 5 7,oM 8 11] [5,8] 0) [5,8] 0))) [5,8] 0)))
 (.cut q1t))))))
 (.cut q1u)))
def qh:IFunc:={np:=1,res:=[.t 2],own:=false,trunc:=true,body:=q7o }
/- 64: latchwork/word.fits -/
def q7p:ICode:=
 (sR [oB 7 3,oN (.mv 8 (.c (.bool false)))] [0,1,2,7] 1
 (.seq (sR [
 oM 9 2,
 oN (.bin 10 .neq 9 (.c (I 0))),
 oM 11 10,
  ⟨.mv 12 0,some (11,true)⟩,
  ⟨.bin 13 .neq 12 (.c (I 6)),some (11,true)⟩,
 oN (.pick 14 11 13 (.c (.bool false)))] [0,1,2,7,14] 1
 (.cond 14 (sR [oN (.mv 8 (.c (.bool false)))] [8] 0
 .ret)
 .skip))
 (.seq (sR [oM 15 0] [1,2,7,15] 1
 (.block 0 (sR [oE 17 15 1,oM 16 17] [1,2,7,15,16] 1
 (.cond 16 (sR [oN (.iaddr 18 1 (some 3) 7 (.c (I 0))),oL 19 18,oM 20 1,oN (.bin 21 .eql 19 20),oM 8 21] [8] 0
 .ret)
 (sR [oE 23 15 2,oM 22 23] [1,2,7,15,22] 1
 (.cond 22 (sR [
 oN (.iaddr 24 1 (some 3) 7 (.c (I 0))),
 oL 25 24,
 oM 26 1,
 oN (.bin 27 .eql 25 26),
 oM 28 27,
  ⟨.iaddr 29 1 (some 3) 7 (.c (I 1)),some (28,true)⟩,
  ⟨.load 30 false 1 29,some (28,true)⟩,
  ⟨.mv 31 1,some (28,true)⟩,
  ⟨.bin 32 .eql 30 31,some (28,true)⟩,
 oN (.pick 33 28 32 (.c (.bool false))),
 oM 8 33] [8] 0
 .ret)
 (sR [oE 35 15 3,oM 34 35] [1,2,7,15,34] 1
 (.cond 34 (sR [
 oN (.iaddr 36 1 (some 3) 7 (.c (I 0))),
 oL 37 36,
 oN (.iaddr 38 1 (some 3) 7 (.c (I 1))),
 oL 39 38,
 oN (.bin 40 .eql 37 39),
 oM 41 40,
  ⟨.mv 42 1,some (41,true)⟩,
  ⟨.bin 43 .eql 42 (.c (I 1)),some (41,true)⟩,
 oN (.pick 44 41 43 (.c (.bool false))),
 oM 8 44] [8] 0
 .ret)
 (sR [oE 46 15 4,oM 45 46] [1,2,7,15,45] 1
 (.cond 45 (sR [
 oN (.iaddr 47 1 (some 3) 7 (.c (I 0))),
 oL 48 47,
 oE 49 48 1,
 oM 50 49,
  ⟨.iaddr 51 1 (some 3) 7 (.c (I 1)),some (50,true)⟩,
  ⟨.load 52 false 1 51,some (50,true)⟩,
  ⟨.mv 53 1,some (50,true)⟩,
  ⟨.bin 54 .eql 52 53,some (50,true)⟩,
 oN (.pick 55 50 54 (.c (.bool false))),
 oM 56 55,
  ⟨.iaddr 57 1 (some 3) 7 (.c (I 2)),some (56,true)⟩,
  ⟨.load 58 false 1 57,some (56,true)⟩,
  ⟨.mv 59 1,some (56,true)⟩,
  ⟨.bin 60 .eql 58 59,some (56,true)⟩,
 oN (.pick 61 56 60 (.c (.bool false))),
 oM 8 61] [8] 0
 .ret)
 (sR [oE 63 15 5,oM 62 63] [1,2,7,15,62] 1
 (.cond 62 (sR [oN (.iaddr 64 1 (some 3) 7 (.c (I 0))),oL 65 64,oN (.iaddr 66 1 (some 3) 7 (.c (I 1))),oL 67 66,oN (.bin 68 .add 65 67),oM 69 1,oN (.bin 70 .eql 68 69),oM 8 70] [8] 0
 .ret)
 (sR [oE 72 15 6,oM 71 72] [1,2,7,71] 1
 (.cond 71 (sR [
 oM 73 2,
 oN (.bin 74 .geq 73 (.c (I 0))),
 oM 75 74,
  ⟨.mv 76 2,some (75,true)⟩,
  ⟨.iaddr 77 1 (some 3) 7 (.c (I 0)),some (75,true)⟩,
  ⟨.load 78 false 1 77,some (75,true)⟩,
  ⟨.mv 79 1,some (75,true)⟩,
  ⟨.bin 80 .sub 78 79,some (75,true)⟩,
  ⟨.bin 81 .leq 76 80,some (75,true)⟩,
 oN (.pick 82 75 81 (.c (.bool false))),
 oM 8 82] [8] 0
 .ret)
 .skip))))))))))))))
 (sR [oM 83 1,oN (.iaddr 84 1 (some 3) 7 (.c (I 0))),oL 85 84,oN (.bin 86 .geq 83 85),oM 8 86] [8] 0
 .ret))))
def q4u:IFunc:={np:=4,res:=[.t 8],own:=false,trunc:=true,body:=q7p }
/- 65: latchwork/word.IsWord -/
def q7q:ICode:=
 (sR [oN (.mv 4 (.c (.bool false)))] [0,1] 0
 (sR [
 oM 5 0,
 oN (.bin 6 .geq 5 (.c (I 0))),
 oM 7 6,
  ⟨.mv 8 0,some (7,true)⟩,
  ⟨.mv 9 1,some (7,true)⟩,
  ⟨.bin 10 .shl (.c (I 1)) 9,some (7,true)⟩,
  ⟨.bin 11 .lss 8 10,some (7,true)⟩,
 oN (.pick 12 7 11 (.c (.bool false))),
 oM 4 12] [4] 0
 .ret))
def q1v:IFunc:={np:=2,res:=[.t 4],own:=false,trunc:=true,body:=q7q }
/- 66: latchwork/word.Raw -/
/- 96: latchwork/word.do -/
/- 114: latchwork/word.yes -/
/- 115: latchwork/word.signed -/
end Go.Lw
end

/-! The machine's code, read off: what a piece of code comes to, said without slots. No program in sight. -/
section
namespace Go.Lw
open Go
inductive Ce where
 |any
 |one
 |int (k:IntKind)
 |bool
 |str
 |gp
 |ol (z:Nat)
 deriving Inhabited
inductive Sh where
 |raw
 |ce (c:Ce)
 |agg (l:List Ce)
 |tup (n:Nat)
 deriving Inhabited
/- What the kernel is to undo first (the height of a definition). -/
def hz0:Nat:=0
def hz1:Nat:=hz0
def hz2:Nat:=hz1
def hz3:Nat:=hz2
def hz4:Nat:=hz3
def hz5:Nat:=hz4
def hz6:Nat:=hz5
def hz7:Nat:=hz6
def hz8:Nat:=hz7
def hz9:Nat:=hz8
def hz10:Nat:=hz9
def hz11:Nat:=hz10
def hz12:Nat:=hz11
def hz13:Nat:=hz12
def hz14:Nat:=hz13
def hz15:Nat:=hz14
def hz16:Nat:=hz15
def hz17:Nat:=hz16
def hz18:Nat:=hz17
def hz19:Nat:=hz18
def hz20:Nat:=hz19
def hz21:Nat:=hz20
def hz22:Nat:=hz21
def hz23:Nat:=hz22
def hz24:Nat:=hz23
def hz25:Nat:=hz24
def hz26:Nat:=hz25
def hz27:Nat:=hz26
def hz28:Nat:=hz27
def hz29:Nat:=hz28
def hz30:Nat:=hz29
def hz31:Nat:=hz30
def hz32:Nat:=hz31
def hz33:Nat:=hz32
def hz34:Nat:=hz33
def hz35:Nat:=hz34
def hz36:Nat:=hz35
def hz37:Nat:=hz36
def hz38:Nat:=hz37
def hz39:Nat:=hz38
def hz40:Nat:=hz39
def hz41:Nat:=hz40
def hz42:Nat:=hz41
def hz43:Nat:=hz42
def hz44:Nat:=hz43
def hz45:Nat:=hz44
def hz46:Nat:=hz45
def hz47:Nat:=hz46
def hz48:Nat:=hz47
def hz49:Nat:=hz48
def hz50:Nat:=hz49
def hz51:Nat:=hz50
def hz52:Nat:=hz51
def hz53:Nat:=hz52
def hz54:Nat:=hz53
def hz55:Nat:=hz54
def hz56:Nat:=hz55
def hz57:Nat:=hz56
def hz58:Nat:=hz57
def hz59:Nat:=hz58
def hz60:Nat:=hz59
def hz61:Nat:=hz60
def hz62:Nat:=hz61
def hz63:Nat:=hz62
def hz64:Nat:=hz63
def hz65:Nat:=hz64
def hz66:Nat:=hz65
def hz67:Nat:=hz66
def hz68:Nat:=hz67
def hz69:Nat:=hz68
def hz70:Nat:=hz69
section
variable {R:Type} {α:Type}
def ob0 (x:Option α) (f:α→Option R):Option R:=match x with|some a=>f a|none=>none
def gd0 (b:Bool) (x:Option R):Option R:=match b with|true=>x|false=>none
def ob (x:Option α) (f:α→Option R):Option R:=(fun _:Nat=>
 match x with|some a=>f a|none=>none) hz45
def gd (b:Bool) (x:Option R):Option R:=(fun _:Nat=>
 match b with|true=>x|false=>none) hz45
def gb (b:Bool) (x:Option R):Option R:=(fun _:Nat=>
 match b with|true=>x|false=>none) hz45
def br (_:Nat) (b:Bool) (x y:Option R):Option R:=(fun _:Nat=>
 match b with|true=>x|false=>y) hz45
def kR (x:Option (IExit×St)) (k:IExit→St→Option R):Option R:=match x with|some (e,s)=>k e s|none=>none
def nx (e:IExit) (s:St) (k:IExit→St→Option R) (f:St→Option R):Option R:=(fun _:Nat=>
 match e with| .normal=>f s|e=>k e s) hz70
def bk (id:Nat) (e:IExit) (s:St) (k:IExit→St→Option R):Option R:=match e with| .exit i=>br 0 (Nat.beq i id) (k .normal s) (k (.exit i) s)|e=>k e s
def iAnd (k:IntKind) (a b:Int):Int:=k.wrap (BitVec.ofInt k.bits a &&&BitVec.ofInt k.bits b).toNat
def iOr (k:IntKind) (a b:Int):Int:=k.wrap (BitVec.ofInt k.bits a |||BitVec.ofInt k.bits b).toNat
def iXor (k:IntKind) (a b:Int):Int:=k.wrap (BitVec.ofInt k.bits a ^^^BitVec.ofInt k.bits b).toNat
def iShl (k:IntKind) (a b:Int):Int:=k.wrap (a*2^(min b.toNat k.bits))
def iShr (k:IntKind) (a b:Int):Int:=a.fdiv (2^(min b.toNat k.bits))
def iNot (k:IntKind) (n:Int):Int:=k.wrap (BitVec.ofInt k.bits (if k.signed then -1 else k.max) ^^^BitVec.ofInt k.bits n).toNat
def kIdx:IntKind→Nat
 | .i8=>0| .i16=>1| .i32=>2| .i64=>3| .u8=>4| .u16=>5| .u32=>6| .u64=>7
def kE (k k':IntKind) (x:Option R):Option R:=gb (Nat.beq (kIdx k) (kIdx k')) x
def Fn:Nat→Type→Type
 |0,R=>R
 |n+1,R=>PV→Fn n R
def curry:(n:Nat)→(List PV→R)→Fn n R
 |0,g=>g []
 |n+1,g=>fun c=>curry n fun l=>g (c::l)
def unN:(n:Nat)→List PV→Fn n (Option R)→Option R
 |0,[],f=>f
 |n+1,c::l,f=>unN n l (f c)
 |_,_,_=>none
def isC (v:PV) (x:Option R):Option R:=(fun _:Nat=>
 match v with| .agg _=>none|_=>x) hz45
def stK (nl:Nat) (v:PV) (x:Option R):Option R:=(fun _:Nat=>
 match v with
  | .ptr false b _=>gb (Nat.ble (b+1) nl) x
  | .bs false b _ _ _=>gb (Nat.ble (b+1) nl) x
  |_=>x) hz45
def onK (v:PV) (x:Option R):Option R:=(fun _:Nat=>
 match v with
  | .und| .agg _| .tup _| .ptr false _ _| .bs false _ _ _ _| .arr _ _| .junk=>none
  |_=>x) hz45
def arL:List PV→Option R→Option R
 |[],x=>x
 |c::l,x=>onK c (arL l x)
def arK (v:PV) (x:Option R):Option R:=(fun _:Nat=>
 match v with
  | .agg cs=>arL cs x
  | .und| .tup _| .ptr false _ _| .bs false _ _ _ _| .arr _ _| .junk=>none
  |_=>x) hz45
def allK:List PV→Option R→Option R
 |[],x=>x
 |v::l,x=>arK v (allK l x)
def lenB:List PV→Nat→Bool
 |[],0=>true
 |_::l,n+1=>lenB l n
 |_,_=>false
def geB:List PV→Nat→Bool
 |_,0=>true
 |_::l,n+1=>geB l n
 |[],_+1=>false
def lnK (z:Nat) (v:PV) (x:Option R):Option R:=(fun _:Nat=>
 match v with
  | .agg cs=>gb (lenB cs z) x
  |_=>gb (Nat.beq 1 z) x) hz45
def slK (z:Nat):List PV→Option R→Option R
 |[],x=>x
 |v::l,x=>arK v (lnK z v (slK z l x))
def isPtr:PV→Bool
 | .ptr _ _ _| .ep _ _| .fn _ _=>true
 |_=>false
def unI (k:IntKind) (v:PV) (f:Int→Option R):Option R:=(fun _:Nat=>
 match v with| .int k' n=>kE k' k (f n)|_=>none) hz45
def anyI (v:PV) (f:Int→Option R):Option R:=(fun _:Nat=>
 match v with| .int _ n=>f n|_=>none) hz45
def unB (v:PV) (f:Bool→Option R):Option R:=(fun _:Nat=>
 match v with| .bool b=>f b|_=>none) hz45
def unS (v:PV) (f:ByteArray→Option R):Option R:=(fun _:Nat=>
 match v with| .str b=>f b|_=>none) hz45
def unG (v:PV) (f:Nat→Nat→Option R):Option R:=(fun _:Nat=>
 match v with| .ptr true b off=>f b off|_=>none) hz45
def unO (z:Nat) (v:PV) (f:List PV→Option R):Option R:=match v with| .sl true z' xs=>gb (Nat.beq z' z) (f xs)|_=>none
def unA (n:Nat) (v:PV) (f:Fn n (Option R)):Option R:=match v with| .agg cs=>unN n cs f|_=>none
def unT (n:Nat) (v:PV) (f:Fn n (Option R)):Option R:=match v with| .tup cs=>unN n cs f|_=>none
def nilB (v:PV) (f:Bool→Option R):Option R:=match v with| .nilI=>f true| .someI=>f false|_=>none
def castC (c:Ce) (v:PV) (f:PV→Option R):Option R:=
 match c with
 | .any=>f v
 | .one=>isC v (f v)
 | .int k=>unI k v fun n=>f (.int k n)
 | .bool=>unB v fun b=>f (.bool b)
 | .str=>unS v fun b=>f (.str b)
 | .gp=>unG v fun b off=>f (.ptr true b off)
 | .ol z=>unO z v fun xs=>f (.sl true z xs)
def castL:List Ce→List PV→(List PV→Option R)→Option R
 |[],[],f=>f []
 |c::cs,v::vs,f=>castC c v fun v=>castL cs vs fun vs=>f (v::vs)
 |_,_,_=>none
def cast (h:Sh) (v:PV) (f:PV→Option R):Option R:=
 match h with
 | .raw=>f v
 | .ce c=>castC c v f
 | .agg l=>unA l.length v (curry l.length fun cs=>castL l cs fun cs=>f (.agg cs))
 | .tup n=>unT n v (curry n fun vs=>f (.tup vs))
inductive Tr where
 |nil
 |node (n:Nat) (h:Sh) (l r:Tr)
def shAt:Tr→Nat→Sh
 | .nil,_=> .raw
 | .node n h l r,t=>match Nat.beq n t with
  |true=>h
  |false=>match Nat.ble n t with
   |true=>shAt r t
   |false=>shAt l t
def shX (an:Tr):IX→Sh
 | .t n=>shAt an n
 | .c _=> .raw
 | .f _=> .raw
def getX:List (Nat×PV)→Nat→Option PV
 |[],_=>none
 |(a,v)::l,t=>match Nat.beq a t with
  |true=>some v
  |false=>getX l t
def putK:List (Nat×PV)→Nat→PV→(List (Nat×PV)→Option R)→Option R
 |[],t,v,k=>(fun _:Nat=>k [(t,v)]) hz70
 |(a,u)::l,t,v,k=>match Nat.beq a t with
  |true=>k ((t,v)::l)
  |false=>putK l t v fun l=>k ((a,u)::l)
def snocK:List α→α→(List α→Option R)→Option R
 |[],v,k=>(fun _:Nat=>k [v]) hz70
 |u::l,v,k=>snocK l v fun l=>k (u::l)
def setK:List α→Nat→α→(List α→Option R)→Option R
 |[],_,_,k=>(fun _:Nat=>k []) hz70
 |_::l,0,v,k=>k (v::l)
 |u::l,i+1,v,k=>setK l i v fun l=>k (u::l)
def nthX:List α→Nat→Option α
 |[],_=>none
 |u::_,0=>some u
 |_::l,i+1=>nthX l i
def takeK:Nat→List α→(List α→Option R)→Option R
 |0,_,k=>(fun _:Nat=>k []) hz70
 |_,[],k=>k []
 |n+1,u::l,k=>takeK n l fun l=>k (u::l)
def evX (e:List (Nat×PV)):IX→Option PV
 | .t n=>match getX e n with
  |some v=>some (degr v)
  |none=>none
 | .c v=>some (degr v)
 | .f id=>some (.fn id [])
def evK (e:List (Nat×PV)):IX→Option PV
 | .t n=>match getX e n with
  |some v=>some (degr v)
  |none=>none
 | .c v=>some v
 | .f id=>some (.fn id [])
def evXs (e:List (Nat×PV)):List IX→(List PV→Option R)→Option R
 |[],k=>(fun _:Nat=>k []) hz70
 |x::l,k=>match evX e x with
  |some v=>evXs e l fun vs=>k (v::vs)
  |none=>none
def tkX (e:List (Nat×PV)) (x:IX) (k:PV→List (Nat×PV)→Option R):Option R:=
 match x with
 | .t n=>match getX e n with
  |some v=>putK e n (degr v) fun e=>k v e
  |none=>none
 | .c v=>k v e
 | .f id=>k (.fn id []) e
def putS (s:St) (d:Nat) (v:PV) (k:St→Option R):Option R:=putK s.env d v fun e=>k ⟨e,s.lh,s.gh⟩
def cellsX (h:Sh) (v:PV) (f:List PV→Option R):Option R:=
 match h with
 | .ce _=>isC v (f [v])
 |_=>f v.cells
def setX (an:Tr) (s:St) (d:Nat) (v:PV) (k:St→Option R):Option R:=cast (shAt an d) v fun w=>putS s d w k
def ghCells (gh:List GObj) (b:Nat):Option (List PV):=match gh[b]? with|some (.cells cs)=>some cs|_=>none
def ghMap (gh:List GObj) (b:Nat):Option (List (PV×PV)):=match gh[b]? with|some (.map es)=>some es|_=>none
def ldX (lh:List (List PV)) (gh:List GObj) (agg:Bool) (k:Nat) (p:PV) (f:PV→Option R):Option R:=
 (fun _:Nat=>
 match p with
 | .ptr false b off=>match nthX lh b with
  |some cs=>(match grab agg k off cs with|some v=>f (degr v)|none=>none)
  |none=>none
 | .ptr true b off=>ob0 (ghCells gh b) fun cs=>ob0 (grab agg k off cs) fun v=>f (degr v)
 | .ep e off=>ob0 (grab agg k off e.cells) f
 |_=>none) hz20
def stOk (k off:Nat) (cs old:List PV):Bool:=lenB cs k&&geB old (off+k)
def stoX (s:St) (p:PV) (kk:Nat) (cs:List PV) (k:St→Option R):Option R:=
 match p with
 | .ptr false b off=>match nthX s.lh b with
  |some old=>gb (stOk kk off cs old) (setK s.lh b (spliceAt old off cs) fun lh=>k ⟨s.env,lh,s.gh⟩)
  |none=>none
 | .ptr true b off=>ob (ghCells s.gh b) fun old=>gb (stOk kk off cs old) (k ⟨s.env,s.lh,s.gh.set b (.cells (spliceAt old off cs))⟩)
 |_=>none
def psX (an:Tr) (e:List (Nat×PV)):List (Nat×Nat×IX)→List PV→(List PV→Option R)→Option R
 |[],z,f=>f z
 |(off,k,x)::l,z,f=>match evX e x with
  |some v=>arK v (cellsX (shX an x) v fun cs=>gb (stOk k off cs z) (psX an e l (spliceAt z off cs) f))
  |none=>none
def psT (an:Tr):List (Nat×PV)→List (Nat×Nat×IX)→List PV→(List (Nat×PV)→List PV→Option R)→Option R
 |e,[],z,f=>f e z
 |e,(off,k,x)::l,z,f=>tkX e x fun v e1=>arK v (cellsX (shX an x) v fun cs=>gb (stOk k off cs z) (psT an e1 l (spliceAt z off cs) f))
def boX (e:List (Nat×PV)) (x:Option IX) (f:Option Int→Option R):Option R:=
 match x with
 |none=>f none
 |some x=>match evX e x with
  |some v=>anyI v fun n=>f (some n)
  |none=>none
def bd (d:Nat) (x:Option Int) (f:Nat→Option R):Option R:=match x with|none=>f d|some i=>gd0 (decide (0≤i)) (f i.toNat)
def slX (z:Nat) (v:PV) (lo hi:Option Int) (f:PV→Option R):Option R:=
 match v with
 | .sl _ z' xs=>bd xs.length hi fun h=>bd 0 lo fun l=>gd0 (decide (l≤h∧h≤xs.length∧z=z')) (f (.sl false z ((xs.take h).drop l)))
 | .bs g b off n z'=>bd n hi fun h=>bd 0 lo fun l=>gd0 (decide (l≤h∧h≤n∧z=z')) (f (.bs g b (off+l*z) (h-l) z))
 | .stk b gen n=>match lo with
  |none=>bd n hi fun h=>gd0 (decide (h≤n∧z=1)) (f (.stk b gen h))
  |some lo=>bd n hi fun h=>bd 0 (some lo) fun l=>gd0 (decide (l≤h∧h≤n∧z=1)) (f (.sub b gen l (h-l)))
 | .sub b gen off n=>bd n hi fun h=>bd 0 lo fun l=>gd0 (decide (l≤h∧h≤n∧z=1)) (f (.sub b gen (off+l) (h-l)))
 |_=>none
def ssX (v:PV) (lo hi:Option Int) (f:ByteArray→Option R):Option R:=
 match v with
 | .str b=>bd b.size hi fun h=>bd 0 lo fun l=>gd (decide (l≤h∧h≤b.size)) (f (b.extract l h))
 |_=>none
def faX (p:PV) (off:Nat) (f:PV→Option R):Option R:=
 (fun _:Nat=>
 match p with
 | .ptr g b o=>f (.ptr g b (o+off))
 | .ep e o=>f (.ep e (o+off))
 |_=>none) hz30
def fdX (v:PV) (agg:Bool) (k off:Nat) (f:PV→Option R):Option R:=
 match v with
 | .agg cs=>ob (grab agg k off cs) f
 |_=>none
def idX (z:Nat) (arr:Option Nat) (v:PV) (i:Int) (f:PV→Option R):Option R:=
 match arr,v with
 |none,.sl _ z' xs=>gd0 (decide (0≤i∧z=z')) (ob0 xs[i.toNat]? fun e=>f (.ep e 0))
 |none,.bs g b off n z'=>gd0 (decide (0≤i∧i<n∧z=z')) (f (.ptr g b (off+i.toNat*z)))
 |some m,.ptr g b o=>gd0 (decide (0≤i∧i<m)) (f (.ptr g b (o+i.toNat*z)))
 |some m,.ep e o=>gd0 (decide (0≤i∧i<m)) (f (.ep e (o+i.toNat*z)))
 |none,.stk b gen n=>gd0 (decide (0≤i∧i<n∧z=1)) (f (.pstk b gen i.toNat))
 |none,.sub b gen off n=>gd0 (decide (0≤i∧i<n∧z=1)) (f (.pstk b gen (off+i.toNat)))
 |_,_=>none
def ixX (v:PV) (z arr:Nat) (agg:Bool) (i:Int) (f:PV→Option R):Option R:=
 match v with
 | .agg cs=>gd (decide (0≤i∧i<arr)) (ob (grab agg z (i.toNat*z) cs) f)
 |_=>none
def isX (v:PV) (i:Int) (f:Int→Option R):Option R:=
 match v with
 | .str b=>gd (decide (0≤i)) (ob b[i.toNat]? fun u=>f u.toNat)
 |_=>none
def lkX (gh:List GObj) (kn:Nat) (m k:PV) (f:Option PV→Option R):Option R:=
 match m with
 | .mp b=>ob (ghMap gh b) fun es=>gd (isKey kn k) (ob (mfind kn es k) f)
 |_=>none
def muX (gh:List GObj) (kn:Nat) (m k v:PV) (f:List GObj→Option R):Option R:=
 match m with
 | .mp b=>ob (ghMap gh b) fun es=>gd (argOk k&&(argOk v&&isKey kn k)) (ob (mset kn es k v) fun es'=>f (gh.set b (.map es')))
 |_=>none
def lenS (v:PV) (f:Nat→Option R):Option R:=match v with| .sl _ _ xs=>f xs.length| .bs _ _ _ n _=>f n| .stk _ _ n=>f n| .sub _ _ _ n=>f n| .nils=>f 0|_=>none
def lenM (gh:List GObj) (v:PV) (f:Nat→Option R):Option R:=match v with| .mp b=>ob (ghMap gh b) fun es=>f es.length|_=>none
def apX (z bytes:Nat) (v w:PV) (f:List PV→Option R):Option R:=
 match w,v with
 | .sl _ z2 ys,.sl o z1 xs=>gd (decide (o=true∧z1=z∧z2=z∧(xs.length+ys.length)*bytes≤maxBytes)) (f (xs++ys))
 |_,_=>none
def ghStk (gh:List GObj) (b:Nat):Option (Nat×List PV):=match gh[b]? with|some (.stk g xs)=>some (g,xs)|_=>none
def akX (gh:List GObj) (bytes:Nat) (v w:PV) (f:List GObj→PV→Option R):Option R:=
 ob (elsOf gh w) fun ys=>match v with
  | .stk b gen n=>ob (ghStk gh b) fun p=>gd (decide (p.1=gen∧n≤p.2.length∧(n+ys.length)*bytes≤maxBytes∧apart b w=true∧ys.all isFlat=true)) (f (gh.set b (.stk (p.1+1) (p.2.take n++ys))) (.stk b (p.1+1) (n+ys.length)))
  |_=>none
def anX (gh:List GObj) (bytes:Nat) (v w:PV) (f:List GObj→PV→Option R):Option R:=
 match v with
 | .nils=>ob (elsOf gh w) fun ys=>gd (decide (ys≠[]∧ys.length*bytes≤maxBytes∧ys.all isFlat=true)) (f (gh++[.stk 0 ys]) (.stk gh.length 0 ys.length))
 |v=>akX gh bytes v w f
def lkK (gh:List GObj) (v:PV) (f:PV→Option R):Option R:=match v with| .pstk b gen i=>ob (stkGet gh b gen i) f|_=>none
def exX (v:PV) (i:Nat) (f:PV→Option R):Option R:=match v with| .tup vs=>ob vs[i]? f|_=>none
noncomputable def callR (gh:List GObj) (q:Bool) (x:Option (PV×List GObj)) (f:PV→List GObj→Option R):Option R:=
 open Classical in
 match x with|some (r,gh')=>(match q with|true=>(if gh'=gh then f r gh else none)|false=>f r gh')|none=>none
def callN (vs:List PV) (x:Option (PV×List GObj)) (f:PV→Option R):Option R:=
 gd (noGs vs) (match x with|some (r,[])=>gd r.noG (f r)|_=>none)
def elK (gh:List GObj) (vs:List PV) (k:List PV→Option R):Option R:=match elPs gh vs with|some us=>k us|none=>none
def callE (us:List PV) (x:Option (PV×List GObj)) (f:PV→Option R):Option R:=
 gd (noGs us) (match x with|some (r,[])=>gd (isFlat r) (f r)|_=>none)
def fnX (v:PV) (f:Nat→List PV→Option R):Option R:=match v with| .fn i cs=>f i cs|_=>none
def newX (s:St) (d:Nat) (g:Bool) (cs:List PV) (k:St→Option R):Option R:=
 match g with
 |true=>putK s.env d (.ptr true s.gh.length 0) fun e=>k ⟨e,s.lh,s.gh++[.cells cs]⟩
 |false=>putK s.env d (.ptr false s.lh.length 0) fun e=>snocK s.lh cs fun lh=>k ⟨e,lh,s.gh⟩
def binX (op:BinOp) (a b:PV) (f:PV→Option R):Option R:=
 match a,b with
 | .int k x,.int k' y=>match op with
  | .add=>kE k k' (f (.int k (k.wrap (x+y))))
  | .sub=>kE k k' (f (.int k (k.wrap (x-y))))
  | .mul=>kE k k' (f (.int k (k.wrap (x*y))))
  | .quo=>kE k k' (gd (decide (y≠0)) (f (.int k (k.wrap (x.tdiv y)))))
  | .rem=>kE k k' (gd (decide (y≠0)) (f (.int k (x.tmod y))))
  | .and=>kE k k' (f (.int k (iAnd k x y)))
  | .or=>kE k k' (f (.int k (iOr k x y)))
  | .xor=>kE k k' (f (.int k (iXor k x y)))
  | .eql=>kE k k' (f (.bool (x==y)))
  | .neq=>kE k k' (f (.bool (x !=y)))
  | .lss=>kE k k' (f (.bool (decide (x<y))))
  | .leq=>kE k k' (f (.bool (decide (x≤y))))
  | .gtr=>kE k k' (f (.bool (decide (y<x))))
  | .geq=>kE k k' (f (.bool (decide (y≤x))))
  | .shl=>gd (decide (0≤y)) (f (.int k (iShl k x y)))
  | .shr=>gd (decide (0≤y)) (f (.int k (iShr k x y)))
  |op=>ob (binPV op (.int k x) (.int k' y)) f
 | .str x,.str y=>match op with
  | .eql=>f (.bool (x.toList==y.toList))
  | .neq=>f (.bool (!(x.toList==y.toList)))
  |op=>ob (binPV op (.str x) (.str y)) f
 |_,_=>none
def unX (op:UnOp) (a:PV) (f:PV→Option R):Option R:=
 match op,a with
 | .neg,.int k n=>f (.int k (k.wrap (0-n)))
 | .xor,.int k n=>f (.int k (iNot k n))
 | .not,.bool b=>f (.bool (!b))
 |_,_=>none
def setO (an:Tr) (s:St) (d:Option Nat) (v:PV) (k:St→Option R):Option R:=
 match d with
 |some d=>setX an s d v k
 |none=>k s
noncomputable def q7r (cf:CallF) (an:Tr) (s:St) (k:St→Option R) (d:Nat) (x:IX):Option R:=match evK s.env x with
  |some v=>setX an s d v k
  |none=>none
noncomputable def q7s (cf:CallF) (an:Tr) (s:St) (k:St→Option R) (d:Nat) (n:Nat):Option R:=match getX s.env n with
  |some v=>putK s.env n (degr v) fun e=>putK e d v fun e=>k ⟨e,s.lh,s.gh⟩
  |none=>none
noncomputable def q7t (cf:CallF) (an:Tr) (s:St) (k:St→Option R) (d:Nat) (c:IX) (x:IX) (y:IX):Option R:=match evX s.env c,evX s.env x,evX s.env y with
  |some c,some v,some w=>unB c fun b=>br d b (setX an s d v k) (setX an s d w k)
  |_,_,_=>none
noncomputable def q4v (cf:CallF) (an:Tr) (s:St) (k:St→Option R) (d:Nat) (g:Bool) (x:IX):Option R:=tkX s.env x fun v e=>arK v (cellsX (shX an x) v fun cs=>newX ⟨e,s.lh,s.gh⟩ d g cs k)
noncomputable def q4w (cf:CallF) (an:Tr) (s:St) (k:St→Option R) (d:Nat) (g:Bool) (x:IX):Option R:=match evX s.env x with
  |some v=>arK v (cellsX (shX an x) v fun cs=>newX s d g cs k)
  |none=>none
noncomputable def q7u (cf:CallF) (an:Tr) (s:St) (k:St→Option R) (d:Nat) (g:Bool) (z:PV):Option R:=arK z (newX s d g z.cells k)
noncomputable def q7v (cf:CallF) (an:Tr) (s:St) (k:St→Option R) (d:Nat) (z:List PV) (ps:List (Nat×Nat×IX)):Option R:=arL z (psX an s.env ps z fun cs=>putS s d (.agg cs) k)
noncomputable def q7w (cf:CallF) (an:Tr) (s:St) (k:St→Option R) (d:Nat) (z:List PV) (ps:List (Nat×Nat×IX)):Option R:=arL z (psT an s.env ps z fun e cs=>putK e d (.agg cs) fun e=>k ⟨e,s.lh,s.gh⟩)
noncomputable def q7x (cf:CallF) (an:Tr) (s:St) (k:St→Option R) (d:Nat) (z:Nat) (els:List IX):Option R:=evXs s.env els fun vs=>slK z vs (putS s d (.sl true z vs) k)
noncomputable def q7y (cf:CallF) (an:Tr) (s:St) (k:St→Option R) (d:Nat) (agg:Bool) (kk:Nat) (a:IX):Option R:=match evX s.env a with
  |some p=>ldX s.lh s.gh agg kk p fun v=>setX an s d v k
  |none=>none
noncomputable def q7z (cf:CallF) (an:Tr) (s:St) (k:St→Option R) (d:Nat) (a:IX):Option R:=match evX s.env a with
  |some (.ptr false b off)=>match nthX s.lh b with
   |some cs=>ob cs[off]? fun v=>setK s.lh b (spliceAt cs off [degr1 v]) fun lh=>putK s.env d v fun e=>k ⟨e,lh,s.gh⟩
   |none=>none
  |some (.ptr true b off)=>ob (ghCells s.gh b) fun cs=>ob cs[off]? fun v=>putK s.env d v fun e=>k ⟨e,s.lh,s.gh.set b (.cells (spliceAt cs off [degr1 v]))⟩
  |_=>none
noncomputable def q4x (cf:CallF) (an:Tr) (s:St) (k:St→Option R) (kk:Nat) (a:IX) (x:IX):Option R:=match evX s.env a with
  |some p=>tkX s.env x fun v e=>arK v (cellsX (shX an x) v fun cs=>stoX ⟨e,s.lh,s.gh⟩ p kk cs k)
  |none=>none
noncomputable def q4y (cf:CallF) (an:Tr) (s:St) (k:St→Option R) (kk:Nat) (a:IX) (x:IX):Option R:=match evX s.env a,evX s.env x with
  |some p,some v=>arK v (cellsX (shX an x) v fun cs=>stoX s p kk cs k)
  |_,_=>none
noncomputable def q80 (cf:CallF) (an:Tr) (s:St) (k:St→Option R) (d:Nat) (x:IX):Option R:=match evX s.env x with
  |some p=>gd (isPtr p) (setX an s d p k)
  |none=>none
noncomputable def q81 (cf:CallF) (an:Tr) (s:St) (k:St→Option R) (d:Nat) (op:BinOp) (x:IX) (y:IX):Option R:=match evX s.env x,evX s.env y with
  |some a,some b=>binX op a b fun v=>setX an s d v k
  |_,_=>none
noncomputable def q82 (cf:CallF) (an:Tr) (s:St) (k:St→Option R) (d:Nat) (neg:Bool) (ks:List Bool) (x:IX) (y:IX):Option R:=match evX s.env x,evX s.env y with
  |some (.agg a),some (.agg b)=>ob (flatEq ks a b) fun r=>putS s d (.bool (match neg with|true=> !r|false=>r)) k
  |_,_=>none
noncomputable def q83 (cf:CallF) (an:Tr) (s:St) (k:St→Option R) (d:Nat) (neg:Bool) (x:IX):Option R:=match evX s.env x with
  |some v=>nilB v fun b=>putS s d (.bool (match neg with|true=> !b|false=>b)) k
  |none=>none
noncomputable def q84 (cf:CallF) (an:Tr) (s:St) (k:St→Option R) (d:Nat) (op:UnOp) (x:IX):Option R:=match evX s.env x with
  |some a=>unX op a fun v=>setX an s d v k
  |none=>none
noncomputable def q85 (cf:CallF) (an:Tr) (s:St) (k:St→Option R) (d:Nat) (f:Nat) (caps:List IX):Option R:=evXs s.env caps fun vs=>allK vs (putS s d (.fn f vs) k)
noncomputable def q86 (cf:CallF) (an:Tr) (s:St) (k:St→Option R) (d:Nat) (ss:List ByteArray):Option R:=putK s.env d (.sl false 1 (ss.map PV.str)) fun e=>k ⟨e,s.lh,s.gh⟩
noncomputable def q87 (cf:CallF) (an:Tr) (s:St) (k:St→Option R) (d:Nat) (x:IX):Option R:=match evX s.env x with
  |some (.agg [.nilp,.nils])=>putK s.env d (.ptr true s.gh.length 0) fun e=>k ⟨e,s.lh,s.gh++[.bld .empty]⟩
  |_=>none
noncomputable def q88 (cf:CallF) (an:Tr) (s:St) (k:St→Option R) (d:Nat):Option R:=putK s.env d (.mp s.gh.length) fun e=>k ⟨e,s.lh,s.gh++[.map []]⟩
noncomputable def q89 (cf:CallF) (an:Tr) (s:St) (k:St→Option R) (d:Nat) (z:Nat) (x:IX) (lo:Option IX) (hi:Option IX):Option R:=match evX s.env x with
  |some v=>boX s.env lo fun lo=>boX s.env hi fun hi=>slX z v lo hi fun w=>setX an s d w k
  |none=>none
noncomputable def q8a (cf:CallF) (an:Tr) (s:St) (k:St→Option R) (d:Nat) (x:IX) (off:Nat):Option R:=match evX s.env x with
  |some p=>faX p off fun p=>setX an s d p k
  |none=>none
noncomputable def q8b (cf:CallF) (an:Tr) (s:St) (k:St→Option R) (d:Nat) (z:Nat) (arr:Option Nat) (x:IX) (i:IX):Option R:=match evX s.env i,evX s.env x with
  |some i,some v=>anyI i fun i=>idX z arr v i fun p=>setX an s d p k
  |_,_=>none
noncomputable def q8c (cf:CallF) (an:Tr) (s:St) (k:St→Option R) (d:Nat) (z:Nat) (arr:Nat) (agg:Bool) (x:IX) (i:IX):Option R:=match evX s.env i,evX s.env x with
  |some i,some v=>anyI i fun i=>ixX v z arr agg i fun v=>setX an s d v k
  |_,_=>none
noncomputable def q8d (cf:CallF) (an:Tr) (s:St) (k:St→Option R) (d:Nat) (kn:Nat) (m:IX) (kx:IX) (ok:Bool) (zero:PV):Option R:=match evX s.env m,evX s.env kx with
  |some m,some kv=>lkX s.gh kn m kv fun r=>setX an s d (match ok with|true=> .tup [r.getD (degr zero),.bool r.isSome]|false=>r.getD (degr zero)) k
  |_,_=>none
noncomputable def q8e (cf:CallF) (an:Tr) (s:St) (k:St→Option R) (kn:Nat) (m:IX) (kx:IX) (x:IX):Option R:=match evX s.env m,evX s.env kx,evX s.env x with
  |some m,some kv,some v=>muX s.gh kn m kv v fun gh=>k ⟨s.env,s.lh,gh⟩
  |_,_,_=>none
noncomputable def q8f (cf:CallF) (an:Tr) (s:St) (k:St→Option R) (d:Option Nat) (q:Bool) (f:Nat) (xs:List IX):Option R:=evXs s.env xs fun vs=>allK vs (callR s.gh q (cf f vs s.gh) fun r gh=>setO an ⟨s.env,s.lh,gh⟩ d r k)
noncomputable def q8g (cf:CallF) (an:Tr) (s:St) (k:St→Option R) (d:Option Nat) (q:Bool) (fv:IX) (xs:List IX):Option R:=match evX s.env fv with
  |some fv=>evXs s.env xs fun vs=>fnX fv fun f caps=>allK vs (allK caps (callR s.gh q (cf f (vs++caps) s.gh) fun r gh=>setO an ⟨s.env,s.lh,gh⟩ d r k))
  |none=>none
noncomputable def q2m (cf:CallF) (an:Tr) (s:St) (k:St→Option R) (d:Nat) (x:IX):Option R:=match evX s.env x with
  |some v=>lenS v fun n=>putS s d (.int .i64 n) k
  |none=>none
noncomputable def q2n (cf:CallF) (an:Tr) (s:St) (k:St→Option R) (d:Nat) (x:IX):Option R:=match evX s.env x with
  |some v=>unS v fun b=>putS s d (.int .i64 b.size) k
  |none=>none
noncomputable def q2o (cf:CallF) (an:Tr) (s:St) (k:St→Option R) (d:Nat) (x:IX):Option R:=match evX s.env x with
  |some v=>lenM s.gh v fun n=>putS s d (.int .i64 n) k
  |none=>none
noncomputable def q8h (cf:CallF) (an:Tr) (s:St) (k:St→Option R) (d:Nat) (z:Nat) (bytes:Nat) (sx:IX) (x:IX):Option R:=match evX s.env x with
  |some w=>tkX s.env sx fun v e=>apX z bytes v w fun ys=>putK e d (.sl true z ys) fun e=>k ⟨e,s.lh,s.gh⟩
  |none=>none
noncomputable def q8i (cf:CallF) (an:Tr) (s:St) (k:St→Option R) (d:Nat) (x:IX) (i:Nat):Option R:=match evX s.env x with
  |some v=>exX v i fun v=>setX an s d v k
  |none=>none
def skK (gh:List GObj) (v w:PV) (f:List GObj→Option R):Option R:=
 match v with
 | .pstk b gen i=>ob (ghStk gh b) fun p=>gd (decide (p.1=gen∧i<p.2.length∧isFlat w=true)) (f (gh.set b (.stk p.1 (p.2.set i w))))
 |_=>none
def ckK (gh:List GObj) (v:PV) (f:List GObj→Option R):Option R:=
 match v with
 | .sub b gen off n=>ob (ghStk gh b) fun p=>gd (decide (p.1=gen∧off+n≤p.2.length)) (f (gh.set b (.stk p.1 (p.2.take off++List.replicate n (.int .i64 0)++p.2.drop (off+n)))))
 |_=>none
def aeX (gh:List GObj) (bytes:Nat) (v w:PV) (f:List PV→Option R):Option R:=
 match v with
 | .sl o z1 xs=>ob (elsOf gh w) fun ys=>gd (decide (o=true∧z1=1∧ys.all isFlat=true∧(xs.length+ys.length)*bytes≤maxBytes)) (f (xs++ys))
 |_=>none
noncomputable def kbX (gh gh':List GObj) (v:PV) (x:Option R):Option R:=
 open Classical in
 match v with
 | .ptr true b _=>if b<gh.length∧gh'[b]?=gh[b]? then x else none
 | .pstk b _ _=>if b<gh.length∧gh'[b]?=gh[b]? then x else none
 | .stk b _ _=>if b<gh.length∧gh'[b]?=gh[b]? then x else none
 |_=>none
noncomputable def kpX (e:List (Nat×PV)) (gh gh':List GObj):List Nat→Option R→Option R
 |[],x=>x
 |n::l,x=>match getX e n with
  |some v=>kbX gh gh' v (kpX e gh gh' l x)
  |none=>none
def lbX (gh:List GObj) (agg:Bool) (k:Nat) (p q:PV) (f:PV→Option R):Option R:=
 match p,q with
 | .ptr true b off,.ptr true b' _=>gd (decide (b=b')) (ob (ghCells gh b) fun cs=>ob (grab agg k off cs) fun v=>f (degr v))
 |_,_=>none
def lkbX (gh:List GObj) (p q:PV) (f:PV→Option R):Option R:=
 match p,q with
 | .pstk b gen i,.stk b' _ _=>gd (decide (b=b')) (ob (stkGet gh b gen i) f)
 |_,_=>none
def ltbX (gh:List GObj) (p q:PV) (o2:Nat) (f:PV→List GObj→Option R):Option R:=
 match p,q with
 | .ptr true b off,.ptr true b' o=>gd (decide (b=b'∧off=o+o2)) (ob (ghCells gh b) fun cs=>ob cs[off]? fun v=>f v (gh.set b (.cells (spliceAt cs off [degr1 v]))))
 |_,_=>none
def rtP (c:List GObj→Option (PV×List GObj)) (gh:List GObj) (b off:Nat):Prop:=
 ∃g1 g2 r1 r2,setRt gh b off true=some g1∧setRt gh b off false=some g2∧c g1=some r1∧c g2=some r2∧r1.1=r2.1∧r1.2[b]?=g1[b]?∧r2.2[b]?=g2[b]?∧setRt r1.2 b off false=some r2.2∧setRt r2.2 b off true=some r1.2
noncomputable def rtK (c:List GObj→Option (PV×List GObj)) (gh:List GObj) (v:PV) (off:Nat) (x:Option R):Option R:=
 open Classical in
 match v with
 | .ptr true b o=>if rtP c gh b (o+off) then x else none
 |_=>none
noncomputable def opX (cf:CallF) (an:Tr) (s:St) (o:IOp) (k:St→Option R):Option R:=
 match o with
 | .mv d x=>q7r cf an s k d x
 | .tk d n=>q7s cf an s k d n
 | .pick d c x y=>q7t cf an s k d c x y
 | .box d g true x=>q4v cf an s k d g x
 | .box d g false x=>q4w cf an s k d g x
 | .alloc d g z=>q7u cf an s k d g z
 | .build d z ps=>q7v cf an s k d z ps
 | .buildT d z ps=>q7w cf an s k d z ps
 | .buildSl d z els=>q7x cf an s k d z els
 | .load d agg kk a=>q7y cf an s k d agg kk a
 | .loadT d a=>q7z cf an s k d a
 | .store true kk a x=>q4x cf an s k kk a x
 | .store false kk a x=>q4y cf an s k kk a x
 | .nilc d x=>q80 cf an s k d x
 | .bin d op x y=>q81 cf an s k d op x y
 | .eqa d neg ks x y=>q82 cf an s k d neg ks x y
 | .eqn d neg x=>q83 cf an s k d neg x
 | .un d op x=>q84 cf an s k d op x
 | .mkfn d f caps=>q85 cf an s k d f caps
 | .mkmap d=>q88 cf an s k d
 | .slice d z x lo hi=>q89 cf an s k d z x lo hi
 | .faddr d x off=>q8a cf an s k d x off
 | .iaddr d z arr x i=>q8b cf an s k d z arr x i
 | .index d z arr agg x i=>q8c cf an s k d z arr agg x i
 | .lookup d kn m kx ok zero=>q8d cf an s k d kn m kx ok zero
 | .mupd kn m kx x=>q8e cf an s k kn m kx x
 | .call d q f xs=>q8f cf an s k d q f xs
 | .callv d q fv xs=>q8g cf an s k d q fv xs
 | .len d 0 x=>q2m cf an s k d x
 | .len d 1 x=>q2n cf an s k d x
 | .len d 2 x=>q2o cf an s k d x
 | .len _ _ _=>none
 | .append d z bytes sx x=>q8h cf an s k d z bytes sx x
 | .extract d x i=>q8i cf an s k d x i
 | .boxB d x=>q87 cf an s k d x
 | .loadG d ss=>q86 cf an s k d ss
 |_=>none
def skX (s:St) (o:IOp) (k:St→Option R):Option R:=
 match opDst o with
 |some d=>putS s d .und k
 |none=>k s
noncomputable def opsX (cf:CallF) (an:Tr):List IOpG→St→(St→Option R)→Option R
 |[],s,k=>k s
 |⟨o,none⟩::l,s,k=>opX cf an s o fun s=>opsX cf an l s k
 | ⟨o,some (g,want)⟩::l,s,k=>match getX s.env g with
  | some (.bool b)=>br g b
    (putS s g (.bool true) fun s=>match want with
     |true=>opX cf an s o fun s=>opsX cf an l s k
     |false=>skX s o fun s=>opsX cf an l s k)
    (putS s g (.bool false) fun s=>match want with
     |false=>opX cf an s o fun s=>opsX cf an l s k
     |true=>skX s o fun s=>opsX cf an l s k)
  |some .und=>skX s o fun s=>opsX cf an l s k
  |_=>none
def keepX (nl:Nat):List Nat→List (Nat×PV)→(List (Nat×PV)→Option R)→Option R
 |[],_,f=>f []
 |t::l,e,f=>match getX e t with
  |some v=>stK nl v (keepX nl l e fun e'=>f ((t,v)::e'))
  |none=>keepX nl l e f
def po (ks:List Nat) (nl:Nat) (e:IExit) (s:St) (k:IExit→St→Option R):Option R:=
 match e with
 | .normal=>keepX nl ks s.env fun e=>takeK nl s.lh fun lh=>k .normal ⟨e,lh,s.gh⟩
 |e=>k e s
def tagX:IX→Nat
 | .t n=>n
 |_=>0
noncomputable def runX (pg:Prg) (an:Tr):ICode→St→(IExit→St→Option R)→Option R
 | .skip,s,k=>k .normal s
 | .region ops _,s,k=>opsX (callL pg) an ops s (k .normal)
 | .seq a b,s,k=>runX pg an a s fun e s'=>nx e s' k fun s'=>runX pg an b s' k
 | .cond x a b,s,k=>match evX s.env x with
  |some v=>unB v fun c=>br (tagX x) c (runX pg an a s k) (runX pg an b s k)
  |none=>none
 | .block id a,s,k=>runX pg an a s fun e s'=>bk id e s' k
 | .loop a,s,k=>kR (runL pg (.loop a) s) k
 | .exit i,s,k=>k (.exit i) s
 | .ret,s,k=>k .ret s
 | .post a ks nl,s,k=>runX pg an a s fun e s'=>po ks nl e s' k
 | .cut a,s,k=>kR (runL pg a s) k
 | .bad,_,_=>none
end
abbrev DR:=Option (IExit×St)
abbrev tI (k:Nat) (l r:Tr):Tr:= .node k (.ce (.int .i64)) l r
abbrev tB (k:Nat) (l r:Tr):Tr:= .node k (.ce (.bool)) l r
abbrev tO (k:Nat) (l r:Tr):Tr:= .node k (.ce (.one)) l r
abbrev tG (k:Nat) (l r:Tr):Tr:= .node k (.ce (.gp)) l r
abbrev uI (k:Nat):Tr:= .node k (.ce (.int .i64)) .nil .nil
abbrev uB (k:Nat):Tr:= .node k (.ce (.bool)) .nil .nil
abbrev uO (k:Nat):Tr:= .node k (.ce (.one)) .nil .nil
abbrev uG (k:Nat):Tr:= .node k (.ce (.gp)) .nil .nil
end Go.Lw
end
