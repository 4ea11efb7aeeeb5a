/-
  The texts that the proof stands on, part 3.
-/
import Derived.Test.YtmodipglnngghadGreatProveDifferentsB
set_option linter.unusedVariables false
set_option linter.unusedSimpArgs false
set_option linter.unnecessarySimpa false

/-! Library functions, told as they are. -/
section
namespace Go.Lw
open Go
def libClone (z bytes:Nat):List PV→List GObj→Option (PV×List GObj)
 |[.sl _ z' xs],gh=>if z'=z∧xs.length*bytes≤maxBytes then some (.sl true z xs,gh) else none
 |_,_=>none
def libCloneK (bytes:Nat):List PV→List GObj→Option (PV×List GObj)
 | [.sl o z' xs],gh=>if xs=[] then libClone 1 bytes [.sl o z' xs] gh
   else if z'=1∧xs.length*bytes≤maxBytes∧xs.all isFlat=true then some (.stk gh.length 1 xs.length,gh++[.stk 1 xs]) else none
 |[.stk b gen n],gh=>match gh[b]? with
  |some (.stk g xs)=>if g=gen∧n≤xs.length∧n*bytes≤maxBytes∧(xs.take n).all isFlat=true then some (.stk gh.length 1 n,gh++[.stk 1 (xs.take n)]) else none
  |_=>none
 |_,_=>none
def libGrow (z bytes:Nat):List PV→List GObj→Option (PV×List GObj)
 |[.nils,.int .i64 n],gh=>if 0≤n∧n.toNat*bytes≤maxBytes then some (.sl true z [],gh) else none
 |_,_=>none
end Go.Lw
end

/-! The code of package Blast for the small machine. Written by program (gen.py). -/
section
set_option maxRecDepth 10000
namespace Go.Lw
open Go
/- 212: latchwork/blast.Check -/
def q3s:ICode:=
 (sR [oB 1 0,oK 2 0] [1] 1
 (.seq (sR [oF 5 1 0,oN (.load 6 true 2 5),oY 7 6 [6],oM 3 7] [1,3] 1
 (sR [oM 8 3,oN (.bin 9 .neq 8 (.c (I 0)))] [1,3,9] 1
 (.cond 9 (sR [oM 10 3,oM 2 10] [2] 0
 .ret)
 .skip)))
 (.seq (.block 0 (sR [
 oF 12 1 2,
 oL 13 12,
 oN (.bin 14 .lss 13 (.c (I 0))),
 oM 15 14,
  ⟨.faddr 16 1 3,some (15,false)⟩,
  ⟨.load 17 false 1 16,some (15,false)⟩,
  ⟨.bin 18 .lss 17 (.c (I 0)),some (15,false)⟩,
 oN (.pick 19 15 (.c (.bool true)) 18),
 oM 20 19,
  ⟨.faddr 21 1 2,some (20,false)⟩,
  ⟨.load 22 false 1 21,some (20,false)⟩,
  ⟨.faddr 23 1 3,some (20,false)⟩,
  ⟨.load 24 false 1 23,some (20,false)⟩,
  ⟨.bin 25 .add 22 24,some (20,false)⟩,
  ⟨.faddr 26 1 0,some (20,false)⟩,
  ⟨.faddr 27 26 0,some (20,false)⟩,
  ⟨.load 28 false 1 27,some (20,false)⟩,
  ⟨.bin 29 .neq 25 28,some (20,false)⟩,
 oN (.pick 30 20 (.c (.bool true)) 29),
 oM 11 30] [1,11] 1
 (.cond 11 (sR [oK 2 4] [2] 0
 .ret)
 (sR [
 oF 32 1 4,
 oL 33 32,
 oD 34 33,
 oF 35 1 3,
 oL 36 35,
 oN (.bin 37 .neq 34 36),
 oM 38 37,
  ⟨.faddr 39 1 5,some (38,false)⟩,
  ⟨.load 40 false 1 39,some (38,false)⟩,
  ⟨.len 41 0 40,some (38,false)⟩,
  ⟨.faddr 42 1 3,some (38,false)⟩,
  ⟨.load 43 false 1 42,some (38,false)⟩,
  ⟨.bin 44 .neq 41 43,some (38,false)⟩,
 oN (.pick 45 38 (.c (.bool true)) 44),
 oM 31 45] [1,31] 1
 (.cond 31 (sR [oK 2 1] [2] 0
 .ret)
 .skip)))))
 (sR [oF 46 1 4,oL 47 46,oX 48 121 [47],oX 49 343 [48,(.f 215)],oT 4 49] [1,4] 1
 (.seq (sQ [oF 50 1 0,oN (.loadJ 51 true 2 50),oM 52 4,oF 53 1 5,oL 54 53,oF 55 1 6,oL 56 55,oF 57 1 7,oL 58 57,oN (.buildSl 59 1 [52,54,56,58]),oN (.callP (some 60) 344 [59] []),
 oY 61 47 [51,60],oN (.un 62 .not 61)] [62] 0
 (.cond 62 (sR [oK 2 5] [2] 0
 .ret)
 .skip))
 (sR [oK 2 0] [2] 0
 .ret))))))
def q3t:IFunc:={np:=1,res:=[.t 2],own:=false,trunc:=true,body:=q3s }
/- 214: latchwork/blast.Blast -/
/- 215: latchwork/blast.Check$1 -/
def q8d:ICode:=
 (sR [oN (.mv 2 (.c (.bool false)))] [0] 0
 (sR [oM 3 0,oN (.bin 4 .eql 3 (.c (I (-1)))),oM 2 4] [2] 0
 .ret))
def q3u:IFunc:={np:=1,res:=[.t 2],own:=false,trunc:=true,body:=q8d }
/- 217: latchwork/blast.Raw -/
def qdk:ICode:=
 (.post (.seq (.region [oW 78 77 76] false)
 (.seq (.cond 78 .skip
 (.exit 2))
 (.seq (.block 3 (sR [oM 79 77,oM 12 79] [1,2,3,4,5,6,8,9,11,12,48,49,50,76,77] 3
 (pR [oT 80 11,oM 81 9,oM 82 12,oN (.bin 83 .add 81 82),oN (.bin 84 .mul (.c (I 2)) 83),oN (.buildSl 85 1 [84]),oN (.append 86 1 8 80 85),oT 11 86] [1,2,3,4,5,6,8,9,11,48,49,50,76,77] 3)))
 (pR [oP 87 77 1,oM 77 87] [1,2,3,4,5,6,8,9,11,48,49,50,76,77] 3)))) [1,2,3,4,5,6,8,9,11,48,49,50,76,77] 3)
def qdl:ICode:=
 (.post (.block 2 (.loop qdk)) [1,2,3,4,5,6,8,9,11,48,49,50] 3)
def qdm:ICode:=
 (sR [oM 88 6,oF 89 8 0,oL 90 89,oM 91 9,oF 92 8 1,oL 93 92,oN (.bin 94 .add 91 93),oN (.mupd 0 88 90 94)] [1,2,3,4,5,6,11,48,49,50] 2
 (pR [oM 95 5,oM 96 5,oC 97 96,oF 98 97 6,oN (.loadT 99 98),oM 100 11,oN (.buildSl 101 1 [100]),oN (.append 102 1 24 99 101),oC 103 95,oF 104 103 6,oN (.store true 1 104 102)] [1,2,3,4,5,6,48,49,50] 2))
def qdn:ICode:=
 (pR [oP 105 50 1,oM 50 105] [1,2,3,4,5,6,48,49,50] 2)
def qdo:ICode:=
 (.post (.seq (.region [oW 51 50 49] false)
 (.seq (.cond 51 .skip
 (.exit 0))
 (.seq (.post (.block 1 (sR [oN (.iaddr 52 6 none 48 50),oN (.load 53 true 6 52),oN (.alloc 8 false (.agg [I 0,I 0,I 0,I 0,I 0,I 0])),oN (.store false 6 8 53)] [1,2,3,4,5,6,8,48,49,50] 3
 (sR [oM 55 6,oF 56 8 0,oL 57 56,oN (.lookup 58 0 55 57 true (I 0)),oM 54 58,oG 59 54 0,oG 60 54 1,oM 9 59,oM 10 60] [1,2,3,4,5,6,8,9,10,48,49,50] 3
 (.seq (sR [oM 61 10,oN (.un 62 .not 61)] [1,2,3,4,5,6,8,9,48,49,50,62] 3
 (.cond 62 (sQ [oM 63 5,oM 64 5,oC 65 64,oF 66 65 6,oN (.loadTB 67 66 5 6),oM 68 5,oN (.load 69 true 6 8),oN (.callR (some 70) 218 [68,69] 5 6),oN (.buildSl 71 1 [70]),oN (.append 72 1 24 67 71),
 oC 73 63,oF 74 73 6,oN (.store true 1 74 72)] [1,2,3,4,5,6,48,49,50] 2
 (.exit 1))
 .skip))
 (sR [oN (.mv 11 (.c (.sl true 1 [])))] [1,2,3,4,5,6,8,9,11,48,49,50] 3
 (.seq (sR [oF 75 8 1,oL 76 75,oK 77 0] [1,2,3,4,5,6,8,9,11,48,49,50,76,77] 3
 (.cut qdl))
 (.cut qdm))))))) [1,2,3,4,5,6,48,49,50] 2)
 (.cut qdn)))) [1,2,3,4,5,6,48,49,50] 2)
def qdp:ICode:=
 (.post (.block 0 (.loop qdo)) [1,2,3,4,5] 2)
def qdq:ICode:=
 (.post (.seq (.region [oW 115 114 113] false)
 (.seq (.cond 115 .skip
 (.exit 4))
 (.seq (.block 5 (sR [oN (.iaddr 116 2 none 112 114),oN (.load 117 true 2 116),oN (.alloc 17 false (.agg [I 0,I 0])),oN (.store false 2 17 117)] [1,2,5,13,14,15,17,112,113,114] 4
 (pR [oM 118 14,oF 119 17 0,oL 120 119,oF 121 17 1,oL 122 121,oN (.mupd 0 118 120 122)] [1,2,5,13,14,15,112,113,114] 3)))
 (pR [oP 123 114 1,oM 114 123] [1,2,5,13,14,15,112,113,114] 3)))) [1,2,5,13,14,15,112,113,114] 3)
def qdr:ICode:=
 (.post (.block 4 (.loop qdq)) [1,2,5,13,14,15] 3)
def qds:ICode:=
 (.post (.seq (.region [oW 128 127 126] false)
 (.seq (.cond 128 .skip
 (.exit 6))
 (.seq (.block 7 (sR [oN (.iaddr 129 2 none 125 127),oN (.load 130 true 2 129),oN (.alloc 19 false (.agg [I 0,I 0])),oN (.store false 2 19 130)] [1,2,5,13,14,15,19,125,126,127] 4
 (pR [oM 131 15,oF 132 19 0,oL 133 132,oF 134 19 1,oL 135 134,oN (.mupd 0 131 133 135)] [1,2,5,13,14,15,125,126,127] 3)))
 (pR [oP 136 127 1,oM 127 136] [1,2,5,13,14,15,125,126,127] 3)))) [1,2,5,13,14,15,125,126,127] 3)
def qdt:ICode:=
 (.post (.block 6 (.loop qds)) [1,2,5,13,14,15] 3)
def qdu:ICode:=
 (.post (.seq (.region [oW 184 183 182] false)
 (.seq (.cond 184 .skip
 (.exit 10))
 (.seq (.block 11 (sR [oM 185 183,oM 25 185] [1,2,5,13,14,15,24,25,138,139,140,182,183] 3
 (pQ [oF 186 13 4,oN (.loadL 187 186),oM 188 24,oM 189 25,oN (.bin 190 .shr 188 189),oN (.bin 191 .and 190 (.c (I 1))),oN (.buildSl 192 1 [191]),oN (.append 193 1 8 187 192),oF 194 13 4,
 oN (.store true 1 194 193)] [1,2,5,13,14,15,24,138,139,140,182,183] 3)))
 (pR [oP 195 183 1,oM 183 195] [1,2,5,13,14,15,24,138,139,140,182,183] 3)))) [1,2,5,13,14,15,24,138,139,140,182,183] 3)
def qdv:ICode:=
 (.post (.block 10 (.loop qdu)) [1,2,5,13,14,15,138,139,140] 3)
def qdw:ICode:=
 (.post (.seq (.region [oW 203 202 201] false)
 (.seq (.cond 203 .skip
 (.exit 12))
 (.seq (.block 13 (pR [oF 204 13 4,oN (.loadT 205 204),oN (.buildSl 206 1 [(.c (I (-1)))]),oN (.append 207 1 8 205 206),oF 208 13 4,oN (.store true 1 208 207)] [1,2,5,13,14,15,138,139,140,201,202] 3))
 (pR [oP 209 202 1,oM 202 209] [1,2,5,13,14,15,138,139,140,201,202] 3)))) [1,2,5,13,14,15,138,139,140,201,202] 3)
def qdx:ICode:=
 (.post (.block 12 (.loop qdw)) [1,2,5,13,14,15,138,139,140] 3)
def qdy:ICode:=
 (sR [oF 196 1 0,oL 197 196,oM 198 21,oN (.iaddr 199 6 none 197 198),oF 200 199 1,oL 201 200,oK 202 0] [1,2,5,13,14,15,138,139,140,201,202] 3
 (.cut qdx))
def qdz:ICode:=
 (pR [oP 210 140 1,oM 140 210] [1,2,5,13,14,15,138,139,140] 3)
def qe0:ICode:=
 (.post (.seq (.region [oW 141 140 139] false)
 (.seq (.cond 141 .skip
 (.exit 8))
 (.seq (.post (.block 9 (sR [oA 142 138 140,oL 143 142,oM 21 143] [1,2,5,13,14,15,21,138,139,140] 3
 (sQ [oF 144 13 5,oN (.loadL 145 144),oM 146 5,oC 147 146,oF 148 147 6,oL 149 148,oM 150 15,oM 151 21,oN (.lookup 152 0 150 151 false (I 0)),oA 153 149 152,oL 154 153,
 oN (.append 155 1 8 145 154),oF 156 13 5,oN (.store true 1 156 155)] [1,2,5,13,14,15,21,138,139,140] 3
 (.seq (sR [oM 158 14,oM 159 21,oN (.lookup 160 0 158 159 true (I 0)),oM 157 160,oG 161 157 0,oG 162 157 1,oM 22 161,oM 23 162] [1,2,5,13,14,15,21,22,23,138,139,140] 3
 (sR [oM 163 23] [1,2,5,13,14,15,21,22,138,139,140,163] 3
 (.cond 163 (sQ [oN (.load 164 true 5 1),oN (.load 165 true 5 1),oY 166 101 [165,(.c (I 3))],oD 167 166,oN (.mksl 168 false 1 8 (I 0) 167),oN (.load 169 true 5 1),oY 170 101 [169,(.c (I 2))],
 oD 171 170,oN (.mksl 172 false 1 8 (I 0) 171),oY 173 139 [164,168,172],oM 174 22,oA 175 173 174,oL 176 175,oM 24 176] [1,2,5,13,14,15,21,24,138,139,140] 3
 (.seq (sR [oF 177 1 0,oL 178 177,oM 179 21,oN (.iaddr 180 6 none 178 179),oF 181 180 1,oL 182 181,oK 183 0] [1,2,5,13,14,15,24,138,139,140,182,183] 3
 (.cut qdv))
 (.exit 9)))
 .skip)))
 (.cut qdy))))) [1,2,5,13,14,15,138,139,140] 3)
 (.cut qdz)))) [1,2,5,13,14,15,138,139,140] 3)
def qe1:ICode:=
 (.post (.block 8 (.loop qe0)) [1,2,5,13] 3)
def qe2:ICode:=
 (.post (.seq (.region [oW 215 214 213] false)
 (.seq (.cond 215 .skip
 (.exit 14))
 (.seq (.block 15 (sR [oA 216 212 214,oL 217 216,oM 27 217] [1,2,5,13,27,212,213,214] 3
 (pQ [oF 218 13 6,oN (.loadL 219 218),oM 220 5,oC 221 220,oF 222 221 6,oL 223 222,oM 224 27,oA 225 223 224,oL 226 225,oN (.iaddr 227 1 none 226 (.c (I 0))),oL 228 227,
 oN (.buildSl 229 1 [228]),oN (.append 230 1 8 219 229),oF 231 13 6,oN (.store true 1 231 230)] [1,2,5,13,212,213,214] 3)))
 (pR [oP 232 214 1,oM 214 232] [1,2,5,13,212,213,214] 3)))) [1,2,5,13,212,213,214] 3)
def qe3:ICode:=
 (.post (.block 14 (.loop qe2)) [1,2,5,13] 3)
def qe4:ICode:=
 (.post (.seq (.region [oW 237 236 235] false)
 (.seq (.cond 237 .skip
 (.exit 16))
 (.seq (.block 17 (sR [oA 238 234 236,oL 239 238,oM 29 239] [2,5,13,29,234,235,236] 3
 (pQ [oF 240 13 7,oN (.loadL 241 240),oM 242 5,oC 243 242,oF 244 243 6,oL 245 244,oM 246 29,oA 247 245 246,oL 248 247,oN (.iaddr 249 1 none 248 (.c (I 0))),oL 250 249,
 oN (.buildSl 251 1 [250]),oN (.append 252 1 8 241 251),oF 253 13 7,oN (.store true 1 253 252)] [2,5,13,234,235,236] 3)))
 (pR [oP 254 236 1,oM 236 254] [2,5,13,234,235,236] 3)))) [2,5,13,234,235,236] 3)
def qe5:ICode:=
 (.post (.block 16 (.loop qe4)) [2,5,13] 3)
def qe6:ICode:=
 (sR [oM 255 5,oC 256 255,oF 257 256 0,oL 258 257,oC 259 258,oF 260 259 0,oN (.load 261 true 2 260),oF 262 13 0,oN (.store true 2 262 261)] [2,13] 3
 (sR [oN (.load 263 true 8 13),oN (.store true 8 2 263)] [2] 2
 .ret))
def qe7:ICode:=
 (.seq (sR [oF 233 1 4,oL 234 233,oD 235 234,oK 236 0] [2,5,13,234,235,236] 3
 (.cut qe5))
 (.cut qe6))
def qe8:ICode:=
 (.seq (sR [oF 211 1 3,oL 212 211,oD 213 212,oK 214 0] [1,2,5,13,212,213,214] 3
 (.cut qe3))
 (.cut qe7))
def qe9:ICode:=
 (.seq (sR [oN (.load 137 true 5 1),oY 138 101 [137,(.c (I 3))],oD 139 138,oK 140 0] [1,2,5,13,14,15,138,139,140] 3
 (.cut qe1))
 (.cut qe8))
def qea:ICode:=
 (.seq (sR [oF 124 1 2,oL 125 124,oD 126 125,oK 127 0] [1,2,5,13,14,15,125,126,127] 3
 (.cut qdt))
 (.cut qe9))
def qeb:ICode:=
 (sR [oM 106 3,oM 107 4,oN (.buildT 108 [I 0,.sl true 2 [],I 0,I 0,.sl true 1 [],.sl true 1 [],.sl true 1 [],.sl true 1 []] [(2,1,106),(3,1,107)]),
 oN (.alloc 13 false (.agg [I 0,.sl true 2 [],I 0,I 0,.sl true 1 [],.sl true 1 [],.sl true 1 [],.sl true 1 []])),oN (.store true 8 13 108)] [1,2,5,13] 3
 (sR [oN (.mkmap 109),oN (.mkmap 110),oM 14 109,oM 15 110] [1,2,5,13,14,15] 3
 (.seq (sR [oF 111 1 1,oL 112 111,oD 113 112,oK 114 0] [1,2,5,13,14,15,112,113,114] 3
 (.cut qdr))
 (.cut qea))))
def qec:ICode:=
 (sR [oB 1 0,oN (.alloc 2 false (.agg [I 0,.sl true 2 [],I 0,I 0,.sl true 1 [],.sl true 1 [],.sl true 1 [],.sl true 1 []]))] [1,2] 2
 (sR [oN (.load 31 true 5 1),oY 32 77 [31],oM 30 32,oG 33 30 0,oG 34 30 1,oM 3 33,oM 4 34] [1,2,3,4] 2
 (sQ [oM 35 3,oM 36 4,oN (.bin 37 .add 35 36),oN (.buildT 38 [I 0,.sl true 2 []] [(0,1,37)]),oN (.callP (some 39) 48 [38] []),oN (.loadJ 40 true 5 1),
 oN (.buildT 41 [.nilp,.sl true 6 [],.sl true 2 [],.sl true 2 [],.sl true 1 [],.sl true 1 [],.sl true 1 []] [(0,1,39),(1,5,40)]),oN (.box 42 true true 41),oM 5 42] [1,2,3,4,5] 2
 (sR [oN (.mkmap 43),oN (.mupd 0 43 (.c (I 2)) (.c (I 1))),oM 44 3,oN (.bin 45 .add (.c (I 1)) 44),oN (.mupd 0 43 (.c (I 3)) 45),oM 46 43,oM 6 46] [1,2,3,4,5,6] 2
 (.seq (sR [oF 47 1 0,oL 48 47,oD 49 48,oK 50 0] [1,2,3,4,5,6,48,49,50] 2
 (.cut qdp))
 (.cut qeb))))))
def qed:IFunc:={np:=1,res:=[.cell 2 true 8],own:=false,trunc:=true,body:=qec }
/- 218: (*latchwork/blast.blaster).node -/
def qee:ICode:=
 (.post (.seq (.region [oW 25 24 23] false)
 (.seq (.cond 25 .skip
 (.exit 0))
 (.seq (.block 1 (sR [oM 26 24,oA 27 22 24,oL 28 27,oM 6 26,oM 7 28] [0,3,5,6,7,22,23,24] 2
 (pR [oM 29 6,oM 30 0,oC 31 30,oF 32 31 6,oL 33 32,oM 34 7,oA 35 33 34,oL 36 35,oN (.iaddr 37 1 (some 3) 5 29),oN (.store true 1 37 36)] [0,3,5,22,23,24] 2)))
 (pR [oP 38 24 1,oM 24 38] [0,3,5,22,23,24] 2)))) [0,3,5,22,23,24] 2)
def qef:ICode:=
 (.post (.block 0 (.loop qee)) [0,3,5] 2)
def qeg:ICode:=
 (.post (.seq (.region [oW 52 51 50] false)
 (.seq (.cond 52 .skip
 (.exit 3))
 (.seq (.block 4 (sR [oM 53 51,oM 12 53] [3,11,12,50,51] 1
 (pR [oT 54 11,oF 55 3 5,oL 56 55,oM 57 12,oN (.bin 58 .shr 56 57),oN (.bin 59 .and 58 (.c (I 1))),oN (.buildSl 60 1 [59]),oN (.append 61 1 8 54 60),oT 11 61] [3,11,50,51] 1)))
 (pR [oP 62 51 1,oM 51 62] [3,11,50,51] 1)))) [3,11,50,51] 1)
def qeh:ICode:=
 (.post (.block 3 (.loop qeg)) [11] 0)
def qei:ICode:=
 (sR [oM 63 11,oT 4 63] [4] 0
 .ret)
def qej:ICode:=
 (.post (.seq (.region [oW 159 158 157] false)
 (.seq (.cond 159 .skip
 (.exit 5))
 (.seq (.block 6 (sR [oM 160 158,oM 20 160] [0,8,9,19,20,157,158] 0
 (pQ [oM 161 0,oC 162 161,oF 163 162 0,oN (.loadB 164 false 1 163 0),oM 165 19,oM 166 0,oM 167 8,oM 168 20,oA 169 167 168,oL 170 169,oM 171 9,oM 172 20,oA 173 171 172,oL 174 173,
 oN (.callP (some 175) 224 [166,170,174] [0]),oY 176 231 [175],oX 177 49 [164,165,176],oM 19 177] [0,8,9,19,157,158] 0)))
 (pR [oP 178 158 1,oM 158 178] [0,8,9,19,157,158] 0)))) [0,8,9,19,157,158] 0)
def qek:ICode:=
 (.post (.block 5 (.loop qej)) [19] 0)
def qel:ICode:=
 (sR [oM 179 19,oN (.buildSl 180 1 [179]),oT 4 180] [4] 0
 .ret)
def qem:ICode:=
 (sQ [oM 229 8,oF 230 3 1,oL 231 230,oM 232 8,oM 233 8,oD 234 233,oS 235 234 1,oA 236 232 235,oL 237 236,oY 238 235 [229,231,237],oT 4 238] [4] 0
 .ret)
def qen:ICode:=
 (sQ [oN (.iaddr 39 1 (some 3) 5 (.c (I 0))),oL 40 39,oN (.iaddr 41 1 (some 3) 5 (.c (I 1))),oL 42 41,oN (.iaddr 43 1 (some 3) 5 (.c (I 2))),oL 44 43,oT 8 40,oT 9 42,oT 10 44] [0,3,8,9,10] 1
 (.seq (sR [oF 45 3 0,oL 46 45] [0,3,8,9,10,46] 1
 (.block 2 (sR [oE 48 46 1,oM 47 48] [0,3,8,9,10,46,47] 1
 (.cond 47 (sR [oN (.mv 11 (.c (.sl true 1 [])))] [3,11] 1
 (.seq (sR [oF 49 3 1,oL 50 49,oK 51 0] [3,11,50,51] 1
 (.cut qeh))
 (.cut qei)))
 (sR [oE 65 46 4,oM 64 65] [0,3,8,9,10,46,64] 1
 (.cond 64 (sR [oM 66 8,oY 67 219 [66],oT 4 67] [4] 0
 .ret)
 (sR [oE 69 46 5,oM 68 69] [0,3,8,9,10,46,68] 1
 (.cond 68 (sR [oM 70 0,oF 71 3 1,oL 72 71,oY 73 220 [72],oM 74 8,oX 75 221 [70,73,74],oT 4 75] [4] 0
 .ret)
 (sR [oE 77 46 6,oM 76 77] [0,3,8,9,10,46,76] 1
 (.cond 76 (sR [oM 78 8,oM 79 9,oM 80 0,oC 81 80,oF 82 81 0,oL 83 82,oN (.mkbf 84 49 [83]),oX 85 222 [78,79,84],oT 4 85] [4] 0
 .ret)
 (sR [oE 87 46 7,oM 86 87] [0,3,8,9,10,46,86] 1
 (.cond 86 (sR [oM 88 8,oM 89 9,oM 90 0,oN (.mkbf 91 223 [90]),oX 92 222 [88,89,91],oT 4 92] [4] 0
 .ret)
 (sR [oE 94 46 8,oM 93 94] [0,3,8,9,10,46,93] 1
 (.cond 93 (sR [oM 95 8,oM 96 9,oM 97 0,oN (.mkbf 98 224 [97]),oX 99 222 [95,96,98],oT 4 99] [4] 0
 .ret)
 (sR [oE 101 46 9,oM 100 101] [0,3,8,9,10,46,100] 1
 (.cond 100 (sR [oM 103 0,oM 104 8,oM 105 9,oX 106 225 [103,104,105,(.c (I 0))],oM 102 106,oG 107 102 0,oG 108 102 1,oT 13 107,oM 14 108] [13] 0
 (sR [oM 109 13,oT 4 109] [4] 0
 .ret))
 (sR [oE 111 46 10,oM 110 111] [0,3,8,9,10,46,110] 1
 (.cond 110 (sR [oM 112 0,oM 113 8,oM 114 9,oX 115 221 [112,113,114],oT 4 115] [4] 0
 .ret)
 (sR [oE 117 46 11,oM 116 117] [0,3,8,9,10,46,116] 1
 (.cond 116 (sR [oM 118 0,oM 119 8,oM 120 9,oX 121 226 [118,119,120],oT 4 121] [4] 0
 .ret)
 (sR [oE 123 46 12,oM 122 123] [0,3,8,9,10,46,122] 1
 (.cond 122 (sR [oM 125 0,oM 126 8,oM 127 9,oX 128 227 [125,126,127],oM 124 128,oG 129 124 0,oG 130 124 1,oT 15 129,oT 16 130] [15] 0
 (sR [oM 131 15,oT 4 131] [4] 0
 .ret))
 (sR [oE 133 46 13,oM 132 133] [0,3,8,9,10,46,132] 1
 (.cond 132 (sR [oM 135 0,oM 136 8,oM 137 9,oX 138 227 [135,136,137],oM 134 138,oG 139 134 0,oG 140 134 1,oT 17 139,oT 18 140] [18] 0
 (sR [oM 141 18,oT 4 141] [4] 0
 .ret))
 (sR [oE 143 46 14,oM 142 143] [0,3,8,9,10,46,142] 1
 (.cond 142 (sR [oM 144 0,oM 145 8,oM 146 9,oX 147 229 [144,145,146,(.f 228)],oT 4 147] [4] 0
 .ret)
 (sR [oE 149 46 15,oM 148 149] [0,3,8,9,10,46,148] 1
 (.cond 148 (sR [oM 150 0,oM 151 8,oM 152 9,oX 153 229 [150,151,152,(.f 230)],oT 4 153] [4] 0
 .ret)
 (sR [oE 155 46 16,oM 154 155] [0,3,8,9,10,46,154] 1
 (.cond 154 (sR [oK 19 1] [0,8,9,19] 0
 (.seq (sR [oM 156 8,oD 157 156,oK 158 0] [0,8,9,19,157,158] 0
 (.cut qek))
 (.cut qel)))
 (sR [oE 182 46 17,oM 181 182] [0,3,8,9,10,46,181] 1
 (.cond 181 (sR [oM 183 0,oM 184 8,oM 185 9,oX 186 232 [183,184,185],oN (.buildSl 187 1 [186]),oT 4 187] [4] 0
 .ret)
 (sR [oE 189 46 18,oM 188 189] [0,3,8,9,10,46,188] 1
 (.cond 188 (sR [oM 190 0,oM 191 8,oY 192 233 [191],oM 193 9,oY 194 233 [193],oX 195 232 [190,192,194],oN (.buildSl 196 1 [195]),oT 4 196] [4] 0
 .ret)
 (sR [oE 198 46 19,oM 197 198] [0,3,8,9,10,46,197] 1
 (.cond 197 (sR [oM 199 0,oM 200 8,oN (.iaddr 201 1 none 200 (.c (I 0))),oL 202 201,oM 203 9,oM 204 10,oX 205 234 [199,202,203,204],oT 4 205] [4] 0
 .ret)
 (sR [oE 207 46 20,oM 206 207] [3,8,9,46,206] 1
 (.cond 206 (sR [oM 208 9,oM 209 8,oN (.buildSl 210 1 [208,209]),oY 211 107 [210],oT 4 211] [4] 0
 .ret)
 (sR [oE 213 46 21,oM 212 213] [3,8,46,212] 1
 (.cond 212 (sR [oM 214 8,oF 215 3 5,oL 216 215,oF 217 3 5,oL 218 217,oF 219 3 1,oL 220 219,oN (.bin 221 .add 218 220),oN (.slice 222 1 214 (some 216) (some 221)),oT 4 222] [4] 0
 .ret)
 (sR [oE 224 46 22,oM 223 224] [3,8,223] 1
 (.cond 223 (sR [oM 225 8,oF 226 3 1,oL 227 226,oY 228 235 [225,227,(.c (I 0))],oT 4 228] [4] 0
 .ret)
 .skip))))))))))))))))))))))))))))))))))))))))))
 (.cut qem)))
def qeo:ICode:=
 (sR [oB 3 1,oN (.mv 4 (.c (.sl true 1 [])))] [0,3] 1
 (.seq (.region [oN (.alloc 5 false (.agg [.sl true 1 [],.sl true 1 [],.sl true 1 []]))] false)
 (.seq (sR [oN (.load 21 true 6 3),oY 22 81 [21],oD 23 22,oK 24 0] [0,3,5,22,23,24] 2
 (.cut qef))
 (.cut qen))))
def qep:IFunc:={np:=2,res:=[.t 4],own:=false,trunc:=false,body:=qeo }
/- 219: latchwork/blast.flip -/
def qeq:ICode:=
 (sR [oN (.mv 2 (.c (.sl true 1 [])))] [0] 0
 (sR [oM 3 0,oM 4 0,oX 5 222 [3,4,(.f 236)],oT 2 5] [2] 0
 .ret))
def qer:IFunc:={np:=1,res:=[.t 2],own:=false,trunc:=true,body:=qeq }
/- 220: latchwork/blast.zeros -/
def qes:ICode:=
 (sR [oN (.mv 2 (.c (.sl true 1 [])))] [0] 0
 (sR [oM 3 0,oN (.mksl 4 true 1 8 (I 0) 3),oT 2 4] [2] 0
 .ret))
def qet:IFunc:={np:=1,res:=[.t 2],own:=true,trunc:=true,body:=qes }
/- 221: (*latchwork/blast.blaster).sub -/
def qeu:ICode:=
 (sR [oN (.mv 6 (.c (.sl true 1 [])))] [0,1,2] 0
 (sR [oM 10 0,oM 11 1,oM 12 2,oY 13 219 [12],oX 14 225 [10,11,13,(.c (I 1))],oM 9 14,oG 15 9 0,oG 16 9 1,oT 7 15,oM 8 16] [7] 0
 (sR [oM 17 7,oT 6 17] [6] 0
 .ret)))
def qev:IFunc:={np:=3,res:=[.t 6],own:=false,trunc:=false,body:=qeu }
/- 222: latchwork/blast.each -/
def qew:ICode:=
 (.post (.seq (.region [oW 12 11 10] false)
 (.seq (.cond 12 .skip
 (.exit 0))
 (.seq (.block 1 (sR [oM 13 11,oM 8 13] [0,1,2,7,8,10,11] 0
 (pQ [oT 14 7,oM 15 2,oM 16 0,oM 17 8,oA 18 16 17,oL 19 18,oM 20 1,oM 21 8,oA 22 20 21,oL 23 22,oN (.callv (some 24) false 15 [19,23]),oN (.buildSl 25 1 [24]),oN (.append 26 1 8 14 25),
 oT 7 26] [0,1,2,7,10,11] 0)))
 (pR [oP 27 11 1,oM 11 27] [0,1,2,7,10,11] 0)))) [0,1,2,7,10,11] 0)
def qex:ICode:=
 (.post (.block 0 (.loop qew)) [7] 0)
def qey:ICode:=
 (sR [oM 28 7,oT 6 28] [6] 0
 .ret)
def qez:ICode:=
 (sR [oN (.mv 6 (.c (.sl true 1 [])))] [0,1,2] 0
 (.seq (.region [oN (.mv 7 (.c (.sl true 1 [])))] false)
 (.seq (sR [oM 9 0,oD 10 9,oK 11 0] [0,1,2,7,10,11] 0
 (.cut qex))
 (.cut qey))))
def qf0:IFunc:={np:=3,res:=[.t 6],own:=false,trunc:=false,body:=qez }
/- 223: (*latchwork/blast.blaster).or -/
def qf1:ICode:=
 (sR [oK 6 0] [0,1,2] 0
 (sQ [oM 7 0,oC 8 7,oF 9 8 0,oL 10 9,oM 11 1,oY 12 231 [11],oM 13 2,oY 14 231 [13],oX 15 49 [10,12,14],oY 16 231 [15],oM 6 16] [6] 0
 .ret))
def qf2:IFunc:={np:=3,res:=[.t 6],own:=false,trunc:=false,body:=qf1 }
/- 224: (*latchwork/blast.blaster).xor -/
def qf3:ICode:=
 (sR [oK 6 0] [0,1,2] 0
 (sQ [oM 7 0,oM 8 0,oC 9 8,oF 10 9 0,oL 11 10,oM 12 1,oM 13 2,oY 14 231 [13],oN (.callP (some 15) 49 [11,12,14] [0]),oM 16 0,oC 17 16,oF 18 17 0,oN (.loadB 19 false 1 18 0),oM 20 1,
 oY 21 231 [20],oM 22 2,oX 23 49 [19,21,22],oX 24 223 [7,15,23],oM 6 24] [6] 0
 .ret))
def qf4:IFunc:={np:=3,res:=[.t 6],own:=false,trunc:=false,body:=qf3 }
/- 225: (*latchwork/blast.blaster).sum -/
def qf5:ICode:=
 (.post (.seq (.region [oW 16 15 14] false)
 (.seq (.cond 16 .skip
 (.exit 0))
 (.seq (.block 1 (sR [oM 17 15,oM 11 17] [0,1,2,3,10,11,14,15] 0
 (sQ [oM 18 0,oM 19 1,oM 20 11,oA 21 19 20,oL 22 21,oM 23 2,oM 24 11,oA 25 23 24,oL 26 25,oX 27 224 [18,22,26],oM 12 27] [0,1,2,3,10,11,12,14,15] 0
 (sR [oT 28 10,oM 29 0,oM 30 12,oM 31 3,oX 32 224 [29,30,31],oN (.buildSl 33 1 [32]),oN (.append 34 1 8 28 33),oT 10 34] [0,1,2,3,10,11,12,14,15] 0
 (pQ [oM 35 0,oM 36 0,oC 37 36,oF 38 37 0,oL 39 38,oM 40 1,oM 41 11,oA 42 40 41,oL 43 42,oM 44 2,oM 45 11,oA 46 44 45,oL 47 46,oN (.callP (some 48) 49 [39,43,47] [0]),oM 49 0,oC 50 49,
 oF 51 50 0,oN (.loadB 52 false 1 51 0),oM 53 12,oM 54 3,oX 55 49 [52,53,54],oX 56 223 [35,48,55],oM 3 56] [0,1,2,3,10,14,15] 0)))))
 (pR [oP 57 15 1,oM 15 57] [0,1,2,3,10,14,15] 0)))) [0,1,2,3,10,14,15] 0)
def qf6:ICode:=
 (.post (.block 0 (.loop qf5)) [3,10] 0)
def qf7:ICode:=
 (sR [oM 58 10,oM 59 3,oT 8 58,oM 9 59] [8,9] 0
 .ret)
def qf8:ICode:=
 (sR [oN (.mv 8 (.c (.sl true 1 []))),oK 9 0] [0,1,2,3] 0
 (.seq (.region [oN (.mv 10 (.c (.sl true 1 [])))] false)
 (.seq (sR [oM 13 1,oD 14 13,oK 15 0] [0,1,2,3,10,14,15] 0
 (.cut qf6))
 (.cut qf7))))
def qf9:IFunc:={np:=4,res:=[.t 8,.t 9],own:=false,trunc:=false,body:=qf8 }
/- 226: (*latchwork/blast.blaster).mul -/
def qfa:ICode:=
 (.post (.seq (.region [oW 17 16 15] false)
 (.seq (.cond 17 .skip
 (.exit 0))
 (.seq (.block 1 (sR [oM 18 16,oA 19 14 16,oL 20 19,oM 8 18,oM 9 20] [0,1,7,8,9,14,15,16] 0
 (sQ [oM 21 8,oY 22 220 [21],oM 23 1,oM 24 1,oD 25 24,oM 26 8,oN (.bin 27 .sub 25 26),oN (.slice 28 1 23 none (some 27)),oN (.append 29 1 8 22 28),oT 10 29] [0,1,7,9,10,14,15,16] 0
 (pR [oM 31 0,oM 32 7,oM 33 0,oM 34 9,oM 35 10,oM 36 1,oD 37 36,oY 38 220 [37],oX 39 234 [33,34,35,38],oX 40 225 [31,32,39,(.c (I 0))],oM 30 40,oG 41 30 0,oG 42 30 1,oT 7 41] [0,1,7,14,15,16] 0))))
 (pR [oP 43 16 1,oM 16 43] [0,1,7,14,15,16] 0)))) [0,1,7,14,15,16] 0)
def qfb:ICode:=
 (.post (.block 0 (.loop qfa)) [7] 0)
def qfc:ICode:=
 (sR [oM 44 7,oT 6 44] [6] 0
 .ret)
def qfd:ICode:=
 (sR [oN (.mv 6 (.c (.sl true 1 [])))] [0,1,2] 0
 (sR [oM 11 1,oD 12 11,oY 13 220 [12],oT 7 13] [0,1,2,7] 0
 (.seq (sR [oM 14 2,oD 15 14,oK 16 0] [0,1,7,14,15,16] 0
 (.cut qfb))
 (.cut qfc))))
def qfe:IFunc:={np:=3,res:=[.t 6],own:=false,trunc:=false,body:=qfd }
/- 227: (*latchwork/blast.blaster).over -/
def qff:ICode:=
 (.post (.seq (sR [oM 31 12,oN (.bin 32 .geq 31 (.c (I 0)))] [0,1,2,8,9,10,11,12,32] 0
 (.cond 32 .skip
 (.exit 0)))
 (.seq (.block 1 (sQ [oM 35 1,oM 36 12,oA 37 35 36,oL 38 37,oN (.buildSl 39 1 [38]),oM 40 9,oM 41 8,oN (.slice 42 1 40 none (some 41)),oN (.append 43 1 8 39 42),oT 9 43] [0,1,2,8,9,10,11,12] 0
 (sR [oM 44 0,oM 45 9,oM 46 10,oX 47 232 [44,45,46],oY 48 231 [47],oM 13 48] [0,1,2,8,9,10,11,12,13] 0
 (sR [oM 49 0,oM 50 13,oM 51 0,oM 52 9,oM 53 10,oX 54 221 [51,52,53],oM 55 9,oX 56 234 [49,50,54,55],oT 9 56] [0,1,2,8,9,10,11,12,13] 0
 (pR [oM 57 11,oM 58 12,oM 59 13,oA 60 57 58,oN (.store false 1 60 59)] [0,1,2,8,9,10,11,12] 0)))))
 (pR [oM 33 12,oS 34 33 1,oM 12 34] [0,1,2,8,9,10,11,12] 0))) [0,1,2,8,9,10,11,12] 0)
def qfg:ICode:=
 (.post (.block 0 (.loop qff)) [0,1,2,8,9,11] 0)
def qfh:ICode:=
 (.post (.seq (.region [oW 64 63 62] false)
 (.seq (.cond 64 .skip
 (.exit 2))
 (.seq (.block 3 (sR [oA 65 61 63,oL 66 65,oM 16 66] [0,1,8,9,11,14,16,61,62,63] 0
 (pQ [oM 67 0,oC 68 67,oF 69 68 0,oL 70 69,oM 71 14,oM 72 16,oY 73 231 [72],oX 74 49 [70,71,73],oM 14 74] [0,1,8,9,11,14,61,62,63] 0)))
 (pR [oP 75 63 1,oM 63 75] [0,1,8,9,11,14,61,62,63] 0)))) [0,1,8,9,11,14,61,62,63] 0)
def qfi:ICode:=
 (.post (.block 2 (.loop qfh)) [0,1,8,9,11,14] 0)
def qfj:ICode:=
 (sR [oM 76 8,oY 77 220 [76],oY 78 219 [77],oT 17 78] [0,1,8,9,11,14,17] 0
 (sQ [oM 79 0,oM 80 14,oM 81 17,oM 82 11,oX 83 234 [79,80,81,82],oM 84 0,oM 85 14,oM 86 1,oM 87 9,oM 88 8,oN (.slice 89 1 87 none (some 88)),oX 90 234 [84,85,86,89],oT 6 83,oT 7 90] [6,7] 0
 .ret))
def qfk:ICode:=
 (.seq (.region [oK 14 1] false)
 (.seq (sR [oM 61 2,oD 62 61,oK 63 0] [0,1,8,9,11,14,61,62,63] 0
 (.cut qfi))
 (.cut qfj)))
def qfl:ICode:=
 (sR [oN (.mv 6 (.c (.sl true 1 []))),oN (.mv 7 (.c (.sl true 1 [])))] [0,1,2] 0
 (sR [oM 18 1,oD 19 18,oM 8 19] [0,1,2,8] 0
 (sR [oM 20 8,oP 21 20 1,oY 22 220 [21],oT 9 22] [0,1,2,8,9] 0
 (sR [oM 23 2,oY 24 83 [23],oN (.buildSl 25 1 [(.c (I 0))]),oN (.append 26 1 8 24 25),oT 10 26] [0,1,2,8,9,10] 0
 (sR [oM 27 8,oY 28 220 [27],oT 11 28] [0,1,2,8,9,10,11] 0
 (.seq (sR [oM 29 8,oS 30 29 1,oM 12 30] [0,1,2,8,9,10,11,12] 0
 (.cut qfg))
 (.cut qfk)))))))
def qfm:IFunc:={np:=3,res:=[.t 6,.t 7],own:=false,trunc:=false,body:=qfl }
/- 228: latchwork/blast.up -/
def qfn:ICode:=
 (sR [oN (.mv 4 (.c (.sl true 1 [])))] [0,1] 0
 (sQ [oM 5 1,oY 6 220 [5],oM 7 0,oM 8 0,oD 9 8,oM 10 1,oN (.bin 11 .sub 9 10),oN (.slice 12 1 7 none (some 11)),oN (.append 13 1 8 6 12),oT 4 13] [4] 0
 .ret))
def qfo:IFunc:={np:=2,res:=[.t 4],own:=false,trunc:=true,body:=qfn }
/- 229: (*latchwork/blast.blaster).shifted -/
def qfp:ICode:=
 (pR [oM 32 0,oM 33 10,oM 34 11,oM 35 1,oX 36 234 [32,33,34,35],oT 1 36] [0,1,3,12,13,14] 0)
def qfq:ICode:=
 (pR [oP 37 14 1,oM 14 37] [0,1,3,12,13,14] 0)
def qfr:ICode:=
 (.post (.seq (.region [oW 15 14 13] false)
 (.seq (.cond 15 .skip
 (.exit 0))
 (.seq (.block 1 (sR [oM 16 14,oA 17 12 14,oL 18 17,oM 9 16,oM 10 18] [0,1,3,9,10,12,13,14] 0
 (sR [oM 19 1,oD 20 19,oY 21 220 [20],oT 11 21] [0,1,3,9,10,11,12,13,14] 0
 (.seq (sR [oM 22 9,oN (.bin 23 .shl (.c (I 1)) 22),oM 24 1,oD 25 24,oW 26 23 25] [0,1,3,9,10,11,12,13,14,26] 0
 (.cond 26 (.post (pR [oM 27 3,oM 28 1,oM 29 9,oN (.bin 30 .shl (.c (I 1)) 29),oN (.callv (some 31) true 27 [28,30]),oT 11 31] [0,1,3,10,11,12,13,14] 0) [0,1,3,10,11,12,13,14] 0)
 (.post .skip [0,1,3,10,11,12,13,14] 0)))
 (.cut qfp)))))
 (.cut qfq)))) [0,1,3,12,13,14] 0)
def qfs:ICode:=
 (.post (.block 0 (.loop qfr)) [1] 0)
def qft:ICode:=
 (sR [oM 38 1,oT 8 38] [8] 0
 .ret)
def qfu:ICode:=
 (sR [oN (.mv 8 (.c (.sl true 1 [])))] [0,1,2,3] 0
 (.seq (sR [oM 12 2,oD 13 12,oK 14 0] [0,1,3,12,13,14] 0
 (.cut qfs))
 (.cut qft)))
def qfv:IFunc:={np:=4,res:=[.t 8],own:=false,trunc:=false,body:=qfu }
/- 230: latchwork/blast.down -/
def qfw:ICode:=
 (sR [oN (.mv 4 (.c (.sl true 1 [])))] [0,1] 0
 (sR [oM 5 0,oM 6 1,oN (.slice 7 1 5 (some 6) none),oY 8 83 [7],oM 9 1,oY 10 220 [9],oN (.append 11 1 8 8 10),oT 4 11] [4] 0
 .ret))
def qfx:IFunc:={np:=2,res:=[.t 4],own:=false,trunc:=true,body:=qfw }
/- 231: latchwork/blast.not -/
def qfy:ICode:=
 (sR [oK 2 0] [0] 0
 (sR [oM 3 0,oN (.bin 4 .xor 3 (.c (I 1))),oM 2 4] [2] 0
 .ret))
def qfz:IFunc:={np:=1,res:=[.t 2],own:=false,trunc:=true,body:=qfy }
/- 232: (*latchwork/blast.blaster).less -/
def qg0:ICode:=
 (sR [oK 6 0] [0,1,2] 0
 (sR [oM 10 0,oM 11 1,oM 12 2,oY 13 219 [12],oX 14 225 [10,11,13,(.c (I 1))],oM 9 14,oG 15 9 0,oG 16 9 1,oT 7 15,oM 8 16] [8] 0
 (sR [oM 17 8,oY 18 231 [17],oM 6 18] [6] 0
 .ret)))
def qg1:IFunc:={np:=3,res:=[.t 6],own:=false,trunc:=false,body:=qg0 }
/- 233: latchwork/blast.turned -/
def qg2:ICode:=
 (sR [oN (.mv 2 (.c (.sl true 1 [])))] [0] 0
 (sR [oM 3 0,oY 4 83 [3],oT 0 4] [0] 0
 (sR [oM 5 0,oM 6 0,oD 7 6,oS 8 7 1,oM 9 0,oM 10 0,oD 11 10,oS 12 11 1,oA 13 9 12,oL 14 13,oY 15 231 [14],oA 16 5 8,oN (.store false 1 16 15)] [0] 0
 (sR [oM 17 0,oT 2 17] [2] 0
 .ret))))
def qg3:IFunc:={np:=1,res:=[.t 2],own:=false,trunc:=true,body:=qg2 }
/- 234: (*latchwork/blast.blaster).picks -/
def qg4:ICode:=
 (sR [oN (.box 4 true false 0),oN (.box 5 true false 1),oN (.mv 8 (.c (.sl true 1 [])))] [2,3,4,5] 0
 (sR [oM 9 2,oM 10 3,oN (.mkfn 11 237 [4,5]),oX 12 222 [9,10,11],oT 8 12] [8] 0
 .ret))
def qg5:IFunc:={np:=4,res:=[.t 8],own:=false,trunc:=false,body:=qg4 }
/- 235: latchwork/blast.wider -/
def qg6:ICode:=
 (.post (.seq (sR [oM 9 0,oD 10 9,oM 11 1,oW 12 10 11] [0,1,2,12] 0
 (.cond 12 .skip
 (.exit 0)))
 (.block 1 (pR [oM 13 0,oM 14 2,oN (.buildSl 15 1 [14]),oN (.append 16 1 8 13 15),oT 0 16] [0,1,2] 0))) [0,1,2] 0)
def qg7:ICode:=
 (.post (.block 0 (.loop qg6)) [0] 0)
def qg8:ICode:=
 (sR [oM 17 0,oT 6 17] [6] 0
 .ret)
def qg9:ICode:=
 (sR [oN (.mv 6 (.c (.sl true 1 [])))] [0,1,2] 0
 (sR [oM 7 0,oY 8 83 [7],oT 0 8] [0,1,2] 0
 (.seq (.cut qg7)
 (.cut qg8))))
def qga:IFunc:={np:=3,res:=[.t 6],own:=false,trunc:=true,body:=qg9 }
/- 236: latchwork/blast.flip$1 -/
def qgb:ICode:=
 (sR [oK 4 0] [0] 0
 (sR [oM 5 0,oY 6 231 [5],oM 4 6] [4] 0
 .ret))
def qgc:IFunc:={np:=2,res:=[.t 4],own:=false,trunc:=true,body:=qgb }
/- 237: (*latchwork/blast.blaster).picks$1 -/
def qgd:ICode:=
 (sR [oK 6 0] [0,1,2,3] 0
 (sR [oL 7 2,oL 8 3,oM 9 0,oM 10 1,oX 11 238 [7,8,9,10],oM 6 11] [6] 0
 .ret))
def qge:IFunc:={np:=4,res:=[.t 6],own:=false,trunc:=false,body:=qgd }
/- 238: (*latchwork/blast.blaster).pick -/
def qgf:ICode:=
 (sR [oK 8 0] [0,1,2,3] 0
 (sQ [oM 9 0,oM 10 0,oC 11 10,oF 12 11 0,oL 13 12,oM 14 1,oM 15 2,oN (.callP (some 16) 49 [13,14,15] [0]),oM 17 0,oC 18 17,oF 19 18 0,oN (.loadB 20 false 1 19 0),oM 21 1,
 oY 22 231 [21],oM 23 3,oX 24 49 [20,22,23],oX 25 223 [9,16,24],oM 8 25] [8] 0
 .ret))
def qgg:IFunc:={np:=4,res:=[.t 8],own:=false,trunc:=false,body:=qgf }
end Go.Lw
end

/-! The code of package Cnf for the small machine. Written by program (gen.py). -/
section
set_option maxRecDepth 10000
namespace Go.Lw
open Go
/- 16: latchwork/cnf.Of -/
/- 32: latchwork/cnf.Holds -/
/- 53: (*latchwork/cnf.Maker).Ands -/
def q8e:ICode:=
 (.post (.seq (.region [oW 15 14 13] false)
 (.seq (.cond 15 .skip
 (.exit 0))
 (.seq (.block 1 (sR [oM 16 14,oN (.iaddr 17 2 none 12 14),oN (.load 18 true 2 17),oN (.alloc 7 false (.agg [I 0,I 0])),oM 6 16,oN (.store false 2 7 18)] [0,2,4,6,7,12,13,14] 2
 (sR [oF 19 4 0,oL 20 19,oN (.bin 21 .add (.c (I 1)) 20),oM 22 6,oN (.bin 23 .add 21 22),oM 24 2,oN (.bin 25 .add 23 24),oM 8 25] [0,2,4,7,8,12,13,14] 2
 (sQ [oN (.iaddr 26 1 (some 2) 7 (.c (I 0))),oL 27 26,oM 28 2,oY 29 90 [27,28],oN (.iaddr 30 1 (some 2) 7 (.c (I 1))),oL 31 30,oM 32 2,oY 33 90 [31,32],oM 9 29,oM 10 33] [0,2,4,8,9,10,12,13,14] 1
 (sR [oM 34 0,oM 35 8,oN (.un 36 .neg 35),oM 37 9,oN (.buildSl 38 1 [36,37]),oX 39 91 [34,38]] [0,2,4,8,9,10,12,13,14] 1
 (sR [oM 40 0,oM 41 8,oN (.un 42 .neg 41),oM 43 10,oN (.buildSl 44 1 [42,43]),oX 45 91 [40,44]] [0,2,4,8,9,10,12,13,14] 1
 (pR [oM 46 0,oM 47 8,oM 48 9,oN (.un 49 .neg 48),oM 50 10,oN (.un 51 .neg 50),oN (.buildSl 52 1 [47,49,51]),oX 53 91 [46,52]] [0,2,4,12,13,14] 1)))))))
 (pR [oP 54 14 1,oM 14 54] [0,2,4,12,13,14] 1)))) [0,2,4,12,13,14] 1)
def q3v:ICode:=
 (.post (.block 0 (.loop q8e)) [] 0)
def q8f:ICode:=
 (sR [oB 4 1] [0,2,4] 1
 (sR [oF 11 4 1,oL 12 11,oD 13 12,oK 14 0] [0,2,4,12,13,14] 1
 (.cut q3v)))
def q3w:IFunc:={np:=3,res:=[],own:=false,trunc:=false,body:=q8f }
/- 54: (*latchwork/cnf.Maker).Must -/
def q3x:ICode:=
 (.seq (.region [oM 6 1] false)
 (.block 0 (sR [oE 14 6 1,oM 13 14] [0,1,2,6,13] 0
 (.cond 13 (.post .skip [] 0)
 (.post (sR [oE 16 6 0,oM 15 16] [0,1,2,15] 0
 (.cond 15 (.post (pR [oM 17 0,oN (.call (some 18) false 91 [17,(.c (.sl true 1 []))])] [] 0) [] 0)
 (.post (pR [oM 7 0,oM 8 1,oM 9 2,oY 10 90 [8,9],oN (.buildSl 11 1 [10]),oX 12 91 [7,11]] [] 0) [] 0))) [] 0)))))
def q3y:IFunc:={np:=3,res:=[],own:=false,trunc:=false,body:=q3x }
/- 55: latchwork/cnf.Done -/
def q8g:ICode:=
 (sR [oB 1 0,oN (.alloc 2 false (.agg [I 0,.sl true 1 []])),oK 3 0] [1,2] 2
 (.seq (sR [oN (.load 5 true 2 1),oY 6 59 [5],oM 4 6] [1,2,4] 2
 (sR [oM 7 4,oN (.bin 8 .neq 7 (.c (I 0)))] [1,2,4,8] 2
 (.cond 8 (sR [oN (.build 9 [I 0,.sl true 1 []] []),oM 10 4,oN (.store true 2 2 9),oM 3 10] [2,3] 2
 .ret)
 .skip)))
 (sR [oN (.load 11 true 2 1),oN (.store true 2 2 11),oK 3 0] [2,3] 2
 .ret)))
def q16:IFunc:={np:=1,res:=[.cell 2 true 2,.t 3],own:=false,trunc:=true,body:=q8g }
/- 59: latchwork/cnf.Check -/
def q8h:ICode:=
 (.post (.seq (.region [oW 22 21 20] false)
 (.seq (.cond 22 .skip
 (.exit 0))
 (.seq (.block 1 (sR [oA 23 19 21,oL 24 23,oT 4 24] [1,4,19,20,21] 1
 (sR [oF 25 1 0,oL 26 25,oM 27 4,oY 28 94 [26,27],oM 5 28] [1,5,19,20,21] 1
 (sR [oM 29 5,oN (.bin 30 .neq 29 (.c (I 0)))] [1,5,19,20,21,30] 1
 (.cond 30 (sR [oM 31 5,oM 2 31] [2] 0
 .ret)
 .skip)))))
 (pR [oP 32 21 1,oM 21 32] [1,19,20,21] 1)))) [1,19,20,21] 1)
def q3z:ICode:=
 (.post (.block 0 (.loop q8h)) [] 0)
def q40:ICode:=
 (.seq (.region [oK 2 0] false)
 .ret)
def q8i:ICode:=
 (sR [oB 1 0,oK 2 0] [1] 1
 (.seq (sR [
 oF 6 1 0,
 oL 7 6,
 oN (.bin 8 .lss 7 (.c (I 0))),
 oM 9 8,
  ⟨.faddr 10 1 0,some (9,false)⟩,
  ⟨.load 11 false 1 10,some (9,false)⟩,
  ⟨.bin 12 .gtr 11 (.c (I 200000)),some (9,false)⟩,
 oN (.pick 13 9 (.c (.bool true)) 12)] [1,13] 1
 (.cond 13 (sR [oK 2 3] [2] 0
 .ret)
 .skip))
 (.seq (sR [oF 14 1 1,oL 15 14,oD 16 15,oN (.bin 17 .gtr 16 (.c (I 800000)))] [1,17] 1
 (.cond 17 (sR [oK 2 2] [2] 0
 .ret)
 .skip))
 (.seq (sR [oF 18 1 1,oL 19 18,oD 20 19,oK 21 0] [1,19,20,21] 1
 (.cut q3z))
 (.cut q40)))))
def qb:IFunc:={np:=1,res:=[.t 2],own:=false,trunc:=true,body:=q8i }
/- 70: latchwork/cnf.Hold -/
/- 90: latchwork/cnf.Number -/
def q8j:ICode:=
 (sR [oK 4 0] [0,1] 0
 (.seq (sR [oM 5 0,oN (.bin 6 .rem 5 (.c (I 2))),oE 7 6 1] [0,1,7] 0
 (.cond 7 (sR [oM 8 0,oN (.bin 9 .quo 8 (.c (I 2))),oM 10 1,oN (.bin 11 .add 9 10),oN (.un 12 .neg 11),oM 4 12] [4] 0
 .ret)
 .skip))
 (sR [oM 13 0,oN (.bin 14 .quo 13 (.c (I 2))),oM 15 1,oN (.bin 16 .add 14 15),oM 4 16] [4] 0
 .ret)))
def q17:IFunc:={np:=2,res:=[.t 4],own:=false,trunc:=true,body:=q8j }
/- 91: (*latchwork/cnf.Maker).Add -/
def q8k:ICode:=
 (pR [oM 4 0,oM 5 0,oC 6 5,oF 7 6 0,oF 8 7 1,oN (.loadT 9 8),oM 10 1,oN (.buildSl 11 1 [10]),oN (.append 12 1 24 9 11),oC 13 4,oF 14 13 0,oF 15 14 1,oN (.store true 1 15 12)] [] 0)
def q41:IFunc:={np:=2,res:=[],own:=false,trunc:=false,body:=q8k }
/- 94: latchwork/cnf.one -/
def q8l:ICode:=
 (sR [oN (.box 2 true false 0),oK 4 0] [1,2] 0
 (.seq (sR [oM 5 1,oD 6 5,oN (.bin 7 .gtr 6 (.c (I 200)))] [1,2,7] 0
 (.cond 7 (sR [oK 4 2] [4] 0
 .ret)
 .skip))
 (.seq (sR [oM 8 1,oN (.mkfn 9 113 [2]),oY 10 86 [8,9]] [10] 0
 (.cond 10 (sR [oK 4 5] [4] 0
 .ret)
 .skip))
 (sR [oK 4 0] [4] 0
 .ret))))
def qk:IFunc:={np:=2,res:=[.t 4],own:=false,trunc:=true,body:=q8l }
/- 98: latchwork/cnf.Hold$1 -/
/- 99: latchwork/cnf.Hold$2 -/
/- 113: latchwork/cnf.one$1 -/
def q8m:ICode:=
 (sR [oN (.mv 3 (.c (.bool false)))] [0,1] 0
 (sR [
 oM 4 0,
 oE 5 4 0,
 oM 6 5,
  ⟨.mv 7 0,some (6,false)⟩,
  ⟨.load 8 false 1 1,some (6,false)⟩,
  ⟨.bin 9 .gtr 7 8,some (6,false)⟩,
 oN (.pick 10 6 (.c (.bool true)) 9),
 oM 11 10,
  ⟨.mv 12 0,some (11,false)⟩,
  ⟨.load 13 false 1 1,some (11,false)⟩,
  ⟨.un 14 .neg 13,some (11,false)⟩,
  ⟨.bin 15 .lss 12 14,some (11,false)⟩,
 oN (.pick 16 11 (.c (.bool true)) 15),
 oM 3 16] [3] 0
 .ret))
def ql:IFunc:={np:=2,res:=[.t 3],own:=false,trunc:=true,body:=q8m }
/- 116: latchwork/cnf.abs -/
/- 153: latchwork/cnf.Clause -/
/- 384: latchwork/cnf.Print -/
end Go.Lw
end

/-! The code of package Eval for the small machine. Written by program (gen.py). -/
section
set_option maxRecDepth 10000
namespace Go.Lw
open Go
/- 123: latchwork/eval.Begin -/
/- 128: latchwork/eval.Values -/
/- 129: latchwork/eval.Step -/
/- 130: latchwork/eval.Look -/
/- 135: latchwork/eval.Words -/
/- 136: latchwork/eval.First -/
/- 138: latchwork/eval.ready -/
/- 139: latchwork/eval.Raw -/
def qgh:ICode:=
 (pR [oP 79 19 1,oM 19 79] [1,2,3,7,8,17,18,19] 1)
def qgi:ICode:=
 (.post (.seq (.region [oW 20 19 18] false)
 (.seq (.cond 20 .skip
 (.exit 0))
 (.seq (.block 1 (sR [oM 21 19,oN (.iaddr 22 6 none 17 19),oN (.load 23 true 6 22),oN (.alloc 10 false (.agg [I 0,I 0,I 0,I 0,I 0,I 0])),oM 9 21,oN (.store false 6 10 23)] [1,2,3,7,8,9,10,17,18,19] 2
 (sR [oF 24 10 0,oL 25 24] [1,2,3,7,8,9,10,17,18,19,25] 2
 (.block 2 (sR [oE 53 25 1,oM 52 53] [1,2,3,7,8,9,10,17,18,19,25,52] 2
 (.cond 52 (.post (pR [oL 54 7,oM 55 9,oF 56 10 5,oL 57 56,oA 58 54 55,oN (.store false 1 58 57)] [1,2,3,7,8,17,18,19] 1) [1,2,3,7,8,17,18,19] 1)
 (.post (sR [oE 60 25 3,oM 59 60] [1,2,3,7,8,9,10,17,18,19,25,59] 2
 (.cond 59 (.post (pQ [oL 61 7,oM 62 9,oM 63 1,oN (.iaddr 64 1 none 63 (.c (I 0))),oL 65 64,oM 66 1,oN (.slice 67 1 66 (some (.c (I 1))) none),oA 68 61 62,oN (.store false 1 68 65),oT 1 67] [1,2,3,7,8,17,18,19] 1) [1,2,3,7,8,17,18,19] 1)
 (.post (sR [oE 70 25 2,oM 69 70] [1,2,3,7,8,9,10,17,18,19,69] 2
 (.cond 69 (.post (pQ [oL 71 7,oM 72 9,oM 73 2,oN (.iaddr 74 1 none 73 (.c (I 0))),oL 75 74,oM 76 2,oN (.slice 77 1 76 (some (.c (I 1))) none),oA 78 71 72,oN (.store false 1 78 75),oT 2 77] [1,2,3,7,8,17,18,19] 1) [1,2,3,7,8,17,18,19] 1)
 (.post (pQ [oL 26 7,oM 27 9,oF 28 10 0,oL 29 28,oF 30 10 1,oL 31 30,oM 32 8,oF 33 10 2,oL 34 33,oN (.callv (some 35) true 32 [34]),oM 36 8,oF 37 10 3,oL 38 37,
 oN (.callv (some 39) true 36 [38]),oM 40 8,oF 41 10 4,oL 42 41,oN (.callv (some 43) true 40 [42]),oF 44 10 5,oL 45 44,oF 46 3 0,oL 47 46,oN (.load 48 true 6 10),
 oY 49 104 [47,48],oY 50 66 [29,31,35,39,43,45,49],oA 51 26 27,oN (.store false 1 51 50)] [1,2,3,7,8,17,18,19] 1) [1,2,3,7,8,17,18,19] 1))) [1,2,3,7,8,17,18,19] 1))) [1,2,3,7,8,17,18,19] 1)))))))
 (.cut qgh)))) [1,2,3,7,8,17,18,19] 1)
def qgj:ICode:=
 (.post (.block 0 (.loop qgi)) [7] 0)
def qgk:ICode:=
 (sR [oL 80 7,oT 6 80] [6] 0
 .ret)
def qgl:ICode:=
 (sR [oB 3 0,oN (.mv 6 (.c (.sl true 1 [])))] [1,2,3] 1
 (sR [oF 11 3 0,oL 12 11,oD 13 12,oN (.mksl 14 true 1 8 (I 0) 13),oN (.alloc 7 true (.sl true 1 [])),oN (.store true 1 7 14)] [1,2,3,7] 1
 (sR [oN (.mkfn 15 143 [7]),oM 8 15] [1,2,3,7,8] 1
 (.seq (sR [oF 16 3 0,oL 17 16,oD 18 17,oK 19 0] [1,2,3,7,8,17,18,19] 1
 (.cut qgj))
 (.cut qgk)))))
def qgm:IFunc:={np:=3,res:=[.t 6],own:=false,trunc:=true,body:=qgl }
/- 140: latchwork/eval.Next -/
/- 141: latchwork/eval.Marks -/
/- 142: latchwork/eval.zeros -/
/- 143: latchwork/eval.Raw$1 -/
def qgn:ICode:=
 (sR [oK 3 0] [0,1] 0
 (sR [oL 4 1,oM 5 0,oA 6 4 5,oL 7 6,oM 3 7] [3] 0
 .ret))
def qgo:IFunc:={np:=2,res:=[.t 3],own:=false,trunc:=true,body:=qgn }
end Go.Lw
end

/-! The code of package Gates for the small machine. Written by program (gen.py). -/
section
set_option maxRecDepth 10000
namespace Go.Lw
open Go
/- 1: latchwork/gates.And -/
/- 6: latchwork/gates.Check -/
def q8n:ICode:=
 (.post (.seq (.region [oW 23 22 21] false)
 (.seq (.cond 23 .skip
 (.exit 0))
 (.seq (.block 1 (sR [oM 24 22,oN (.iaddr 25 2 none 20 22),oN (.load 26 true 2 25),oN (.alloc 5 false (.agg [I 0,I 0])),oM 4 24,oN (.store false 2 5 26)] [1,3,4,5,20,21,22] 2
 (.seq (sR [
 oN (.iaddr 27 1 (some 2) 5 (.c (I 0))),
 oL 28 27,
 oN (.iaddr 29 1 (some 2) 5 (.c (I 1))),
 oL 30 29,
 oN (.bin 31 .geq 28 30),
 oM 32 31,
  ⟨.iaddr 33 1 (some 2) 5 (.c (I 0)),some (32,false)⟩,
  ⟨.load 34 false 1 33,some (32,false)⟩,
  ⟨.bin 35 .lss 34 (.c (I 2)),some (32,false)⟩,
 oN (.pick 36 32 (.c (.bool true)) 35),
 oM 37 36,
  ⟨.iaddr 38 1 (some 2) 5 (.c (I 1)),some (37,false)⟩,
  ⟨.load 39 false 1 38,some (37,false)⟩,
  ⟨.bin 40 .quo 39 (.c (I 2)),some (37,false)⟩,
  ⟨.faddr 41 1 0,some (37,false)⟩,
  ⟨.load 42 false 1 41,some (37,false)⟩,
  ⟨.bin 43 .add (.c (I 1)) 42,some (37,false)⟩,
  ⟨.mv 44 4,some (37,false)⟩,
  ⟨.bin 45 .add 43 44,some (37,false)⟩,
  ⟨.bin 46 .geq 40 45,some (37,false)⟩,
 oN (.pick 47 37 (.c (.bool true)) 46),
 oM 48 47,
  ⟨.iaddr 49 1 (some 2) 5 (.c (I 0)),some (48,false)⟩,
  ⟨.load 50 false 1 49,some (48,false)⟩,
  ⟨.bin 51 .quo 50 (.c (I 2)),some (48,false)⟩,
  ⟨.iaddr 52 1 (some 2) 5 (.c (I 1)),some (48,false)⟩,
  ⟨.load 53 false 1 52,some (48,false)⟩,
  ⟨.bin 54 .quo 53 (.c (I 2)),some (48,false)⟩,
  ⟨.bin 55 .eql 51 54,some (48,false)⟩,
 oN (.pick 56 48 (.c (.bool true)) 55)] [1,3,5,20,21,22,56] 2
 (.cond 56 (sR [oK 2 4] [2] 0
 .ret)
 .skip))
 (pR [oM 57 3,oN (.load 58 true 2 5),oN (.mupd 2 57 58 (.c (.bool true)))] [1,3,20,21,22] 1))))
 (pR [oP 59 22 1,oM 22 59] [1,3,20,21,22] 1)))) [1,3,20,21,22] 1)
def q29:ICode:=
 (.post (.block 0 (.loop q8n)) [1,3] 1)
def q42:ICode:=
 (.seq (sR [oM 60 3,oN (.len 61 2 60),oF 62 1 1,oL 63 62,oD 64 63,oW 65 61 64] [65] 0
 (.cond 65 (sR [oK 2 6] [2] 0
 .ret)
 .skip))
 (sR [oK 2 0] [2] 0
 .ret))
def q8o:ICode:=
 (sR [oB 1 0,oK 2 0] [1] 1
 (.seq (sR [
 oF 6 1 0,
 oL 7 6,
 oN (.bin 8 .lss 7 (.c (I 0))),
 oM 9 8,
  ⟨.faddr 10 1 0,some (9,false)⟩,
  ⟨.load 11 false 1 10,some (9,false)⟩,
  ⟨.bin 12 .gtr 11 (.c (I 1000)),some (9,false)⟩,
 oN (.pick 13 9 (.c (.bool true)) 12)] [1,13] 1
 (.cond 13 (sR [oK 2 3] [2] 0
 .ret)
 .skip))
 (.seq (sR [oF 14 1 1,oL 15 14,oD 16 15,oN (.bin 17 .gtr 16 (.c (I 1000000)))] [1,17] 1
 (.cond 17 (sR [oK 2 2] [2] 0
 .ret)
 .skip))
 (sR [oN (.mkmap 18),oM 3 18] [1,3] 1
 (.seq (sR [oF 19 1 1,oL 20 19,oD 21 20,oK 22 0] [1,3,20,21,22] 1
 (.cut q29))
 (.cut q42))))))
def q9:IFunc:={np:=1,res:=[.t 2],own:=false,trunc:=true,body:=q8o }
/- 9: latchwork/gates.Eval -/
/- 47: latchwork/gates.Is -/
def q8p:ICode:=
 (sR [oN (.box 2 true false 0),oN (.mv 4 (.c (.bool false)))] [1,2] 0
 (sR [oM 5 1,oN (.mkfn 6 85 [2]),oY 7 86 [5,6],oN (.un 8 .not 7),oM 4 8] [4] 0
 .ret))
def q43:IFunc:={np:=2,res:=[.t 4],own:=false,trunc:=true,body:=q8p }
/- 48: latchwork/gates.New -/
def qgp:ICode:=
 (.post (.seq (.region [oW 19 18 17] false)
 (.seq (.cond 19 .skip
 (.exit 0))
 (.seq (.block 1 (sR [oM 20 18,oN (.iaddr 21 2 none 16 18),oN (.load 22 true 2 21),oN (.alloc 5 false (.agg [I 0,I 0])),oM 4 20,oN (.store false 2 5 22)] [1,3,4,5,16,17,18] 2
 (pQ [oM 23 3,oC 24 23,oF 25 24 2,oL 26 25,oN (.load 27 true 2 5),oF 28 1 0,oL 29 28,oN (.bin 30 .add (.c (I 1)) 29),oM 31 4,oN (.bin 32 .add 30 31),oN (.bin 33 .mul (.c (I 2)) 32),
 oN (.mupd 2 26 27 33)] [1,3,16,17,18] 1)))
 (pR [oP 34 18 1,oM 18 34] [1,3,16,17,18] 1)))) [1,3,16,17,18] 1)
def qgq:ICode:=
 (.post (.block 0 (.loop qgp)) [3] 0)
def qgr:ICode:=
 (sR [oM 35 3,oM 2 35] [2] 0
 .ret)
def qgs:ICode:=
 (sR [oB 1 0,oN (.mv 2 (.c (.nilp)))] [1] 1
 (sQ [oF 6 1 0,oL 7 6,oF 8 1 1,oL 9 8,oN (.callF (some 10) 87 [9]),oN (.buildT 11 [I 0,.sl true 2 []] [(0,1,7),(1,1,10)]),oN (.mkmap 12),
 oN (.buildT 13 [I 0,.sl true 2 [],.nilm] [(0,2,11),(2,1,12)]),oN (.box 14 true true 13),oM 3 14] [1,3] 1
 (.seq (sR [oF 15 1 1,oL 16 15,oD 17 16,oK 18 0] [1,3,16,17,18] 1
 (.cut qgq))
 (.cut qgr))))
def qgt:IFunc:={np:=1,res:=[.t 2],own:=false,trunc:=false,body:=qgs }
/- 49: (*latchwork/gates.Maker).And -/
def qgu:ICode:=
 (.seq (.block 0 (sR [
 oM 17 1,
 oE 18 17 0,
 oM 19 18,
  ⟨.mv 20 1,some (19,false)⟩,
  ⟨.bin 21 .xor 20 (.c (I 1)),some (19,false)⟩,
  ⟨.mv 22 2,some (19,false)⟩,
  ⟨.bin 23 .eql 21 22,some (19,false)⟩,
 oN (.pick 24 19 (.c (.bool true)) 23),
 oM 16 24] [0,1,2,16] 0
 (.cond 16 (sR [oK 6 0] [6] 0
 .ret)
 (sR [
 oM 26 1,
 oE 27 26 1,
 oM 28 27,
  ⟨.mv 29 1,some (28,false)⟩,
  ⟨.mv 30 2,some (28,false)⟩,
  ⟨.bin 31 .eql 29 30,some (28,false)⟩,
 oN (.pick 32 28 (.c (.bool true)) 31),
 oM 25 32] [0,1,2,25] 0
 (.cond 25 (sR [oM 33 2,oM 6 33] [6] 0
 .ret)
 .skip)))))
 (sR [oM 34 1,oM 35 2,oN (.build 36 [I 0,I 0] [(0,1,34),(1,1,35)]),oN (.alloc 7 false (.agg [I 0,I 0])),oN (.store false 2 7 36)] [0,7] 1
 (.seq (sQ [oM 38 0,oC 39 38,oF 40 39 2,oL 41 40,oN (.load 42 true 2 7),oN (.lookup 43 2 41 42 true (I 0)),oM 37 43,oG 44 37 0,oG 45 37 1,oM 8 44,oM 9 45] [0,7,8,9] 1
 (sR [oM 46 9] [0,7,8,46] 1
 (.cond 46 (sR [oM 47 8,oM 6 47] [6] 0
 .ret)
 .skip)))
 (sR [oM 48 0,oC 49 48,oF 50 49 0,oN (.load 51 true 2 50),oY 52 88 [51],oN (.bin 53 .mul (.c (I 2)) 52),oM 10 53] [0,7,10] 1
 (sQ [oM 54 0,oM 55 0,oC 56 55,oF 57 56 0,oF 58 57 1,oN (.loadT 59 58),oN (.load 60 true 2 7),oN (.buildSl 61 2 [60]),oN (.append 62 2 16 59 61),oC 63 54,oF 64 63 0,oF 65 64 1,
 oN (.store true 1 65 62)] [0,7,10] 1
 (sQ [oM 66 0,oC 67 66,oF 68 67 2,oL 69 68,oN (.load 70 true 2 7),oM 71 10,oN (.mupd 2 69 70 71)] [10] 0
 (sR [oM 72 10,oM 6 72] [6] 0
 .ret)))))))
def qgv:ICode:=
 (sR [oK 6 0] [0,1,2] 0
 (.seq (sR [oM 11 1,oM 12 2,oN (.bin 13 .gtr 11 12)] [0,1,2,13] 0
 (.cond 13 (.post (pR [oM 14 2,oM 15 1,oM 1 14,oM 2 15] [0,1,2] 0) [0,1,2] 0)
 (.post .skip [0,1,2] 0)))
 (.cut qgu)))
def qgw:IFunc:={np:=3,res:=[.t 6],own:=false,trunc:=false,body:=qgv }
/- 52: latchwork/gates.All -/
/- 85: latchwork/gates.Is$1 -/
def q8q:ICode:=
 (sR [oN (.mv 3 (.c (.bool false)))] [0,1] 0
 (sR [
 oM 4 0,
 oN (.bin 5 .lss 4 (.c (I 0))),
 oM 6 5,
  ⟨.mv 7 0,some (6,false)⟩,
  ⟨.load 8 true 2 1,some (6,false)⟩,
  ⟨.call (some 9) true 88 [8],some (6,false)⟩,
  ⟨.bin 10 .mul (.c (I 2)) 9,some (6,false)⟩,
  ⟨.bin 11 .geq 7 10,some (6,false)⟩,
 oN (.pick 12 6 (.c (.bool true)) 11),
 oM 3 12] [3] 0
 .ret))
def q18:IFunc:={np:=2,res:=[.t 3],own:=false,trunc:=true,body:=q8q }
/- 88: latchwork/gates.Nodes -/
def q8r:ICode:=
 (sR [oB 1 0,oK 2 0] [1] 1
 (sR [oF 3 1 0,oL 4 3,oN (.bin 5 .add (.c (I 1)) 4),oF 6 1 1,oL 7 6,oD 8 7,oN (.bin 9 .add 5 8),oM 2 9] [2] 0
 .ret))
def q44:IFunc:={np:=1,res:=[.t 2],own:=false,trunc:=true,body:=q8r }
/- 89: latchwork/gates.All$1 -/
end Go.Lw
end

/-! The code of package Law for the small machine. Written by program (gen.py). -/
section
set_option maxRecDepth 10000
namespace Go.Lw
open Go
/- 0: latchwork/latchworklaw.GatesAnds -/
/- 5: latchwork/latchworklaw.gatesBegun -/
/- 8: latchwork/latchworklaw.GatesEvals -/
/- 13: latchwork/latchworklaw.sameBools -/
/- 14: latchwork/latchworklaw.GatesKeep -/
/- 15: latchwork/latchworklaw.CnfOfs -/
/- 18: latchwork/latchworklaw.cnfBegun -/
/- 19: latchwork/latchworklaw.clausesAre -/
def q2a:ICode:=
 (sR [
 oM 12 1,
 oM 13 2,
 oN (.bin 14 .eql 12 13),
 oM 15 14,
  ⟨.load 16 true 2 4,some (15,true)⟩,
  ⟨.load 17 true 2 7,some (15,true)⟩,
  ⟨.call (some 18) true 60 [16,17],some (15,true)⟩,
 oN (.pick 19 15 18 (.c (.bool false))),
 oM 8 19] [8] 0
 .ret)
def q8s:ICode:=
 (sR [oB 4 0,oB 7 3,oN (.mv 8 (.c (.bool false)))] [1,2,4,7] 2
 (.seq (sR [oM 9 2,oN (.bin 10 .neq 9 (.c (I 0)))] [1,2,4,7,10] 2
 (.cond 10 (.post (pR [oN (.build 11 [I 0,.sl true 1 []] []),oN (.store true 2 7 11)] [1,2,4,7] 2) [1,2,4,7] 2)
 (.post .skip [1,2,4,7] 2)))
 (.cut q2a)))
def q19:IFunc:={np:=4,res:=[.t 8],own:=false,trunc:=true,body:=q8s }
/- 20: latchwork/latchworklaw.WordFits -/
/- 21: latchwork/latchworklaw.wordBegun -/
/- 24: latchwork/latchworklaw.WordApplies -/
/- 29: latchwork/latchworklaw.WordTurns -/
/- 30: latchwork/latchworklaw.choose -/
/- 31: latchwork/latchworklaw.CnfTells -/
/- 33: latchwork/latchworklaw.ModelChecks -/
/- 37: latchwork/latchworklaw.modelBegun -/
/- 40: latchwork/latchworklaw.listIs -/
/- 41: latchwork/latchworklaw.ModelCones -/
/- 44: latchwork/latchworklaw.ModelAgain -/
/- 75: latchwork/latchworklaw.toggle -/
/- 122: latchwork/latchworklaw.EvalBegins -/
/- 126: latchwork/latchworklaw.evalBegun -/
/- 127: latchwork/latchworklaw.EvalValues -/
/- 144: latchwork/latchworklaw.ProofFollows -/
/- 147: latchwork/latchworklaw.proofBegun -/
/- 148: latchwork/latchworklaw.ProofChecks -/
/- 152: latchwork/latchworklaw.ProofSound -/
/- 165: latchwork/latchworklaw.searchBegun -/
/- 207: latchwork/latchworklaw.SearchIs -/
/- 210: latchwork/latchworklaw.BlastChecks -/
/- 211: latchwork/latchworklaw.blastBegun -/
/- 239: latchwork/latchworklaw.DecideTrue -/
/- 240: latchwork/latchworklaw.decideBegun -/
/- 241: latchwork/latchworklaw.exploreBegun -/
/- 242: latchwork/latchworklaw.traceBegun -/
/- 318: latchwork/latchworklaw.ExploreAlls -/
/- 320: latchwork/latchworklaw.small -/
/- 325: latchwork/latchworklaw.BlastTells -/
/- 328: latchwork/latchworklaw.UnrollClauses -/
/- 332: latchwork/latchworklaw.unrollBegun -/
/- 333: latchwork/latchworklaw.ProveDifferents -/
def q1a:ICode:=
 (sR [
 oY 44 335 [],
 oM 45 44,
  ⟨.load 46 true 2 5,some (45,true)⟩,
  ⟨.mv 47 6,some (45,true)⟩,
  ⟨.mv 48 7,some (45,true)⟩,
  ⟨.load 49 true 2 8,some (45,true)⟩,
  ⟨.call (some 50) true 19 [46,47,48,49],some (45,true)⟩,
 oN (.pick 51 45 50 (.c (.bool false))),
 oM 4 51] [4] 0
 .ret)
def qh:ICode:=
 (.seq (sR [oM 35 7,oE 36 35 0] [1,2,5,6,7,8,36] 3
 (.cond 36 (.post (pR [oN (.load 38 true 8 2),oM 39 1,oY 40 331 [38,39,(.c (.bool false)),(.c (.bool true))],oY 41 58 [40],oM 37 41,oG 42 37 0,oG 43 37 1,oN (.store true 2 8 42),oM 7 43] [5,6,7,8] 3) [5,6,7,8] 3)
 (.post .skip [5,6,7,8] 3)))
 (.cut q1a))
def q45:ICode:=
 (sR [oB 2 0,oN (.mv 4 (.c (.bool false)))] [1,2] 1
 (sR [oN (.load 10 true 8 2),oM 11 1,oY 12 334 [10,11],oM 9 12,oG 13 9 0,oG 14 9 1,oN (.alloc 5 false (.agg [I 0,.sl true 1 []])),oN (.store true 2 5 13),oM 6 14] [1,2,5,6] 2
 (sR [oN (.load 15 true 8 2),oM 16 1,oY 17 330 [15,16,(.c (.bool false))],oN (.build 18 [I 0,.sl true 1 []] []),oN (.alloc 8 false (.agg [I 0,.sl true 1 []])),oM 7 17,
 oN (.store true 2 8 18)] [1,2,5,6,7,8] 3
 (.seq (sR [
 oM 19 7,
 oE 20 19 0,
 oM 21 20,
  ⟨.faddr 22 2 0,some (21,true)⟩,
  ⟨.faddr 23 22 0,some (21,true)⟩,
  ⟨.load 24 false 1 23,some (21,true)⟩,
  ⟨.faddr 25 2 0,some (21,true)⟩,
  ⟨.faddr 26 25 1,some (21,true)⟩,
  ⟨.load 27 false 1 26,some (21,true)⟩,
  ⟨.len 28 0 27,some (21,true)⟩,
  ⟨.bin 29 .add 24 28,some (21,true)⟩,
  ⟨.mv 30 1,some (21,true)⟩,
  ⟨.bin 31 .add 30 (.c (I 1)),some (21,true)⟩,
  ⟨.bin 32 .mul 29 31,some (21,true)⟩,
  ⟨.bin 33 .gtr 32 (.c (I 200000)),some (21,true)⟩,
 oN (.pick 34 21 33 (.c (.bool false)))] [1,2,5,6,7,8,34] 3
 (.cond 34 (.post (pR [oK 7 3] [1,2,5,6,7,8] 3) [1,2,5,6,7,8] 3)
 (.post .skip [1,2,5,6,7,8] 3)))
 (.cut qh)))))
def q46:IFunc:={np:=2,res:=[.t 4],own:=false,trunc:=true,body:=q45 }
/- 335: latchwork/latchworklaw.proveBegun -/
def qgx:ICode:=
 (sR [oN (.mv 0 (.c (.bool false)))] [] 0
 (sR [oX 6 391 [],oN (.alloc 1 false (.agg [.sl true 6 [],.sl true 2 [],.sl true 2 [],.sl true 1 [],.sl true 1 []])),oN (.store true 5 1 6)] [1] 1
 (sR [oF 7 1 2,oL 8 7,oN (.iaddr 9 2 none 8 (.c (I 0))),oF 10 9 1,oN (.store false 1 10 (.c (I 0)))] [1] 1
 (sR [oN (.load 12 true 5 1),oY 13 342 [12,(.c (I 1)),(.c (I 1000))],oM 11 13,oG 14 11 0,oG 15 11 1,oM 2 14,oM 3 15] [2,3] 0
 (sR [oX 17 391 [],oY 18 342 [17,(.c (I 2)),(.c (I 1000))],oM 16 18,oG 19 16 0,oG 20 16 1,oM 4 19,oM 5 20] [2,3,4,5] 0
 (sR [
 oM 21 3,
 oE 22 21 0,
 oM 23 22,
  ⟨.mv 24 5,some (23,true)⟩,
  ⟨.bin 25 .eql 24 (.c (I 0)),some (23,true)⟩,
 oN (.pick 26 23 25 (.c (.bool false))),
 oM 27 26,
  ⟨.mv 28 2,some (27,true)⟩,
 oN (.pick 29 27 28 (.c (.bool false))),
 oM 30 29,
  ⟨.mv 31 4,some (30,true)⟩,
  ⟨.un 32 .not 31,some (30,true)⟩,
 oN (.pick 33 30 32 (.c (.bool false))),
 oM 0 33] [0] 0
 .ret))))))
def qgy:IFunc:={np:=0,res:=[.t 0],own:=false,trunc:=true,body:=qgx }
/- 345: latchwork/latchworklaw.TextBack -/
/- 346: latchwork/latchworklaw.textBegun -/
/- 350: latchwork/latchworklaw.TracePrints -/
/- 367: latchwork/latchworklaw.TextPrints -/
/- 369: latchwork/latchworklaw.TextParses -/
/- 371: latchwork/latchworklaw.TraceParses -/
/- 374: latchwork/latchworklaw.TracePlays -/
/- 378: latchwork/latchworklaw.ExploreFinds -/
/- 383: latchwork/latchworklaw.CnfHolds -/
/- 386: latchwork/latchworklaw.RestSearches -/
/- 387: latchwork/latchworklaw.copiedLists -/
/- 388: latchwork/latchworklaw.spoilLists -/
/- 389: latchwork/latchworklaw.spoil -/
/- 391: latchwork/latchworklaw.toggle#K -/
def qgz:ICode:=
 (.seq (.region [oN (.alloc 0 false (.agg [.sl true 6 [],.sl true 2 [],.sl true 2 [],.sl true 1 [],.sl true 1 []]))] false)
 (sR [oN (.build 1 [I 0,I 0,I 0,I 0,I 0,I 0] [(0,1,(.c (I 1))),(1,1,(.c (I 1)))]),oN (.build 2 [I 0,I 0,I 0,I 0,I 0,I 0] [(0,1,(.c (I 3))),(1,1,(.c (I 1)))]),
 oN (.build 3 [I 0,I 0,I 0,I 0,I 0,I 0] [(0,1,(.c (I 4))),(1,1,(.c (I 1))),(2,1,(.c (I 1)))]),oN (.buildSl 4 6 [1,2,3]),
 oN (.build 5 [I 0,I 0] [(0,1,(.c (I 1))),(1,1,(.c (I 0)))]),oN (.buildSl 6 2 [5]),oN (.build 7 [I 0,I 0] [(0,1,(.c (I 1))),(1,1,(.c (I 2)))]),oN (.boxSl 8 2 [7]),
 oN (.buildSl 9 1 [(.c (I 1))]),oN (.buildT 10 [.sl true 6 [],.sl true 2 [],.sl true 2 [],.sl true 1 [],.sl true 1 []] [(0,1,4),(1,1,6),(2,1,8),(3,1,9)]),
 oN (.store true 5 0 10)] [0] 1
 .ret))
def qh0:IFunc:={np:=0,res:=[.cell 0 true 5],own:=false,trunc:=false,body:=qgz }
end Go.Lw
end

/-! The code of package Lib for the small machine. Written by program (gen.py). -/
section
set_option maxRecDepth 10000
namespace Go.Lw
open Go
/- 82: slices.Concat[[]latchwork/api.Pair,latchwork/api.Pair] -/
/- 86: slices.ContainsFunc[[]int,int] -/
def q8t:ICode:=
 (sR [oN (.mv 4 (.c (.bool false)))] [0,1] 0
 (sR [oM 5 0,oM 6 1,oY 7 111 [5,6],oN (.bin 8 .geq 7 (.c (I 0))),oM 4 8] [4] 0
 .ret))
def q47:IFunc:={np:=2,res:=[.t 4],own:=false,trunc:=true,body:=q8t }
/- 100: slices.ContainsFunc[[][]int,[]int] -/
/- 107: slices.Concat[[]int,int] -/
def qh1:ICode:=
 (.post (.seq (.region [oW 12 11 10] false)
 (.seq (.cond 12 .skip
 (.exit 0))
 (.seq (.block 1 (sR [oA 13 9 11,oL 14 13,oT 5 14] [0,3,5,9,10,11] 0
 (sR [oM 15 3,oM 16 5,oD 17 16,oN (.bin 18 .add 15 17),oM 3 18] [0,3,9,10,11] 0
 (sR [oM 19 3,oN (.bin 20 .lss 19 (.c (I 0)))] [0,3,9,10,11,20] 0
 (.cond 20 .bad
 .skip)))))
 (pR [oP 22 11 1,oM 11 22] [0,3,9,10,11] 0)))) [0,3,9,10,11] 0)
def qh2:ICode:=
 (.post (.block 0 (.loop qh1)) [0,3] 0)
def qh3:ICode:=
 (.post (.seq (.region [oW 28 27 26] false)
 (.seq (.cond 28 .skip
 (.exit 2))
 (.seq (.block 3 (sR [oA 29 25 27,oL 30 29,oT 8 30] [6,8,25,26,27] 0
 (pR [oT 31 6,oM 32 8,oN (.append 33 1 8 31 32),oT 6 33] [6,25,26,27] 0)))
 (pR [oP 34 27 1,oM 27 34] [6,25,26,27] 0)))) [6,25,26,27] 0)
def qh4:ICode:=
 (.post (.block 2 (.loop qh3)) [6] 0)
def qh5:ICode:=
 (sR [oM 35 6,oT 2 35] [2] 0
 .ret)
def qh6:ICode:=
 (sR [oM 23 3,oY 24 119 [(.c .nils),23],oT 6 24] [0,6] 0
 (.seq (sR [oM 25 0,oD 26 25,oK 27 0] [6,25,26,27] 0
 (.cut qh4))
 (.cut qh5)))
def qh7:ICode:=
 (sR [oN (.mv 2 (.c (.sl true 1 [])))] [0] 0
 (.seq (.region [oK 3 0] false)
 (.seq (sR [oM 9 0,oD 10 9,oK 11 0] [0,3,9,10,11] 0
 (.cut qh2))
 (.cut qh6))))
def qh8:IFunc:={np:=1,res:=[.t 2],own:=true,trunc:=true,body:=qh7 }
/- 111: slices.IndexFunc[[]int,int] -/
def q8u:ICode:=
 (.post (.seq (.region [oW 9 8 7] false)
 (.seq (.cond 9 .skip
 (.exit 0))
 (.seq (.block 1 (sR [oM 10 8,oM 5 10] [0,1,5,7,8] 0
 (sR [oM 11 1,oM 12 0,oM 13 5,oA 14 12 13,oL 15 14,oN (.callv (some 16) true 11 [15])] [0,1,5,7,8,16] 0
 (.cond 16 (sR [oM 17 5,oM 4 17] [4] 0
 .ret)
 .skip))))
 (pR [oP 18 8 1,oM 8 18] [0,1,7,8] 0)))) [0,1,7,8] 0)
def q48:ICode:=
 (.post (.block 0 (.loop q8u)) [] 0)
def q49:ICode:=
 (.seq (.region [oN (.mv 4 (.c (I (-1))))] false)
 .ret)
def q8v:ICode:=
 (sR [oK 4 0] [0,1] 0
 (.seq (sR [oM 6 0,oD 7 6,oK 8 0] [0,1,7,8] 0
 (.cut q48))
 (.cut q49)))
def q1b:IFunc:={np:=2,res:=[.t 4],own:=false,trunc:=true,body:=q8v }
/- 117: slices.IndexFunc[[][]int,[]int] -/
/- 156: slices.Concat[[][]int,[]int] -/
/- 172: slices.ContainsFunc[[]int,int]#K -/
def qh9:ICode:=
 (sR [oN (.mv 4 (.c (.bool false)))] [0,1] 0
 (sR [oM 5 0,oM 6 1,oX 7 208 [5,6],oN (.bin 8 .geq 7 (.c (I 0))),oM 4 8] [4] 0
 .ret))
def qha:IFunc:={np:=2,res:=[.t 4],own:=false,trunc:=true,body:=qh9 }
/- 181: math/bits.Len -/
def qhb:ICode:=
 (sR [oK 2 0] [0] 0
 (.seq (.cond (.c (.bool false)) (sR [oM 3 0,oN (.conv 4 .u32 3),oY 5 182 [4],oM 2 5] [2] 0
 .ret)
 .skip)
 (sR [oM 6 0,oY 7 183 [6],oM 2 7] [2] 0
 .ret)))
def qhc:IFunc:={np:=1,res:=[.t 2],own:=false,trunc:=true,body:=qhb }
/- 182: math/bits.Len32 -/
def qhd:ICode:=
 (sR [oM 13 2,oM 14 0,oN (.conv 15 .u8 14),
 oN (.indexS 16 (.c (.str ⟨#[0,1,2,2,3,3,3,3,4,4,4,4,4,4,4,4,5,5,5,5,5,5,5,5,5,5,5,5,5,5,5,5,6,6,6,6,6,6,6,6,6,6,6,6,6,6,6,6,6,6,6,6,6,6,6,6,6,6,6,6,6,6,6,6,7,7,7,7,7,7,7,7,7,7,7,7,7,7,7,7,7,7,7,7,7,7,7,7,7,7,7,7,7,7,7,7,7,7,7,7,7,7,7,7,7,7,7,7,7,7,7,7,7,7,7,7,7,7,7,7,7,7,7,7,7,7,7,7,8,8,8,8,8,8,8,8,8,8,8,8,8,8,8,8,8,8,8,8,8,8,8,8,8,8,8,8,8,8,8,8,8,8,8,8,8,8,8,8,8,8,8,8,8,8,8,8,8,8,8,8,8,8,8,8,8,8,8,8,8,8,8,8,8,8,8,8,8,8,8,8,8,8,8,8,8,8,8,8,8,8,8,8,8,8,8,8,8,8,8,8,8,8,8,8,8,8,8,8,8,8,8,8,8,8,8,8,8,8,8,8,8,8,8,8,8,8,8,8,8,8,8,8,8,8,8,8]⟩)) 15),
 oN (.conv 17 .i64 16),oN (.bin 18 .add 13 17),oM 2 18] [2] 0
 .ret)
def qhe:ICode:=
 (.seq (sR [oM 7 0,oN (.bin 8 .geq 7 (.c (.int .u32 256)))] [0,2,8] 0
 (.cond 8 (.post (sR [oM 9 0,oN (.bin 10 .shr 9 (.c (.int .u64 8))),oM 0 10] [0,2] 0
 (pR [oM 11 2,oP 12 11 8,oM 2 12] [0,2] 0)) [0,2] 0)
 (.post .skip [0,2] 0)))
 (.cut qhd))
def qhf:ICode:=
 (.seq (.region [oK 2 0] false)
 (.seq (sR [oM 3 0,oN (.bin 4 .geq 3 (.c (.int .u32 65536)))] [0,2,4] 0
 (.cond 4 (.post (sR [oM 5 0,oN (.bin 6 .shr 5 (.c (.int .u64 16))),oM 0 6] [0] 0
 (.region [oK 2 16] false)) [0,2] 0)
 (.post .skip [0,2] 0)))
 (.cut qhe)))
def qhg:IFunc:={np:=1,res:=[.t 2],own:=false,trunc:=true,body:=qhf }
/- 183: math/bits.Len64 -/
def qhh:ICode:=
 (sR [oM 19 2,oM 20 0,oN (.conv 21 .u8 20),
 oN (.indexS 22 (.c (.str ⟨#[0,1,2,2,3,3,3,3,4,4,4,4,4,4,4,4,5,5,5,5,5,5,5,5,5,5,5,5,5,5,5,5,6,6,6,6,6,6,6,6,6,6,6,6,6,6,6,6,6,6,6,6,6,6,6,6,6,6,6,6,6,6,6,6,7,7,7,7,7,7,7,7,7,7,7,7,7,7,7,7,7,7,7,7,7,7,7,7,7,7,7,7,7,7,7,7,7,7,7,7,7,7,7,7,7,7,7,7,7,7,7,7,7,7,7,7,7,7,7,7,7,7,7,7,7,7,7,7,8,8,8,8,8,8,8,8,8,8,8,8,8,8,8,8,8,8,8,8,8,8,8,8,8,8,8,8,8,8,8,8,8,8,8,8,8,8,8,8,8,8,8,8,8,8,8,8,8,8,8,8,8,8,8,8,8,8,8,8,8,8,8,8,8,8,8,8,8,8,8,8,8,8,8,8,8,8,8,8,8,8,8,8,8,8,8,8,8,8,8,8,8,8,8,8,8,8,8,8,8,8,8,8,8,8,8,8,8,8,8,8,8,8,8,8,8,8,8,8,8,8,8,8,8,8,8,8]⟩)) 21),
 oN (.conv 23 .i64 22),oN (.bin 24 .add 19 23),oM 2 24] [2] 0
 .ret)
def qhi:ICode:=
 (.seq (sR [oM 13 0,oN (.bin 14 .geq 13 (.c (.int .u64 256)))] [0,2,14] 0
 (.cond 14 (.post (sR [oM 15 0,oN (.bin 16 .shr 15 (.c (.int .u64 8))),oM 0 16] [0,2] 0
 (pR [oM 17 2,oP 18 17 8,oM 2 18] [0,2] 0)) [0,2] 0)
 (.post .skip [0,2] 0)))
 (.cut qhh))
def qhj:ICode:=
 (.seq (sR [oM 7 0,oN (.bin 8 .geq 7 (.c (.int .u64 65536)))] [0,2,8] 0
 (.cond 8 (.post (sR [oM 9 0,oN (.bin 10 .shr 9 (.c (.int .u64 16))),oM 0 10] [0,2] 0
 (pR [oM 11 2,oP 12 11 16,oM 2 12] [0,2] 0)) [0,2] 0)
 (.post .skip [0,2] 0)))
 (.cut qhi))
def qhk:ICode:=
 (.seq (.region [oK 2 0] false)
 (.seq (sR [oM 3 0,oN (.bin 4 .geq 3 (.c (.int .u64 4294967296)))] [0,2,4] 0
 (.cond 4 (.post (sR [oM 5 0,oN (.bin 6 .shr 5 (.c (.int .u64 32))),oM 0 6] [0] 0
 (.region [oK 2 32] false)) [0,2] 0)
 (.post .skip [0,2] 0)))
 (.cut qhj)))
def qhl:IFunc:={np:=1,res:=[.t 2],own:=false,trunc:=true,body:=qhk }
/- 184: slices.Contains[[]int,int]#K -/
def qhm:ICode:=
 (sR [oN (.mv 4 (.c (.bool false)))] [0,1] 0
 (sR [oM 5 0,oM 6 1,oX 7 209 [5,6],oN (.bin 8 .geq 7 (.c (I 0))),oM 4 8] [4] 0
 .ret))
def qhn:IFunc:={np:=2,res:=[.t 4],own:=false,trunc:=true,body:=qhm }
/- 185: slices.Contains[[]int,int] -/
/- 186: slices.Index[[]int,int] -/
/- 190: slices.SortFunc[[]int,int] -/
def qho:ICode:=
 (sR [oM 5 0,oD 6 5,oM 4 6] [0,1,4] 0
 (pR [oM 7 0,oM 8 4,oM 9 4,oN (.conv 10 .u64 9),oY 11 181 [10],oM 12 1,oY 13 192 [7,(.c (I 0)),8,11,12]] [] 0))
def qhp:IFunc:={np:=2,res:=[],own:=false,trunc:=true,body:=qho }
/- 192: slices.pdqsortCmpFunc[int] -/
def qhq:ICode:=
 (.seq (sQ [
 oM 81 1,
 oN (.bin 82 .gtr 81 (.c (I 0))),
 oM 83 82,
  ⟨.mv 84 4,some (83,true)⟩,
  ⟨.mv 85 0,some (83,true)⟩,
  ⟨.mv 86 1,some (83,true)⟩,
  ⟨.bin 87 .sub 86 (.c (I 1)),some (83,true)⟩,
  ⟨.iaddr 88 1 none 85 87,some (83,true)⟩,
  ⟨.load 89 false 1 88,some (83,true)⟩,
  ⟨.mv 90 0,some (83,true)⟩,
  ⟨.mv 91 13,some (83,true)⟩,
  ⟨.iaddr 92 1 none 90 91,some (83,true)⟩,
  ⟨.load 93 false 1 92,some (83,true)⟩,
  ⟨.callv (some 94) true 84 [89,93],some (83,true)⟩,
  ⟨.bin 95 .lss 94 (.c (I 0)),some (83,true)⟩,
  ⟨.un 96 .not 95,some (83,true)⟩,
 oN (.pick 97 83 96 (.c (.bool false)))] [0,1,2,3,4,10,11,12,13,97] 0
 (.cond 97 (sR [oM 98 0,oM 99 1,oM 100 2,oM 101 13,oM 102 4,oY 103 201 [98,99,100,101,102],oM 15 103] [0,2,3,4,10,11,15] 0
 (sR [oM 104 15,oM 1 104] [0,1,2,3,4,10,11] 0
 (.exit 1)))
 .skip))
 (sR [oM 106 0,oM 107 1,oM 108 2,oM 109 13,oM 110 4,oY 111 202 [106,107,108,109,110],oM 105 111,oG 112 105 0,oG 113 105 1,oM 16 112,oM 17 113] [0,1,2,3,4,12,16,17] 0
 (sR [oM 114 17,oM 11 114] [0,1,2,3,4,11,12,16] 0
 (sR [oM 115 16,oM 116 1,oN (.bin 117 .sub 115 116),oM 118 2,oM 119 16,oN (.bin 120 .sub 118 119),oM 18 117,oM 19 120] [0,1,2,3,4,11,12,16,18,19] 0
 (sR [oM 121 12,oN (.bin 122 .quo 121 (.c (I 8))),oM 20 122] [0,1,2,3,4,11,16,18,19,20] 0
 (sR [oM 123 18,oM 124 19,oW 125 123 124] [0,1,2,3,4,11,16,18,19,20,125] 0
 (.cond 125 (.post (sR [oM 126 18,oM 127 20,oN (.bin 128 .geq 126 127),oM 10 128] [0,1,2,3,4,10,11,16] 0
 (sR [oM 129 0,oM 130 1,oM 131 16,oM 132 3,oM 133 4,oY 134 192 [129,130,131,132,133]] [0,2,3,4,10,11,16] 0
 (pR [oM 135 16,oP 136 135 1,oM 1 136] [0,1,2,3,4,10,11] 0))) [0,1,2,3,4,10,11] 0)
 (.post (sR [oM 137 19,oM 138 20,oN (.bin 139 .geq 137 138),oM 10 139] [0,1,2,3,4,10,11,16] 0
 (sR [oM 140 0,oM 141 16,oP 142 141 1,oM 143 2,oM 144 3,oM 145 4,oY 146 192 [140,142,143,144,145]] [0,1,3,4,10,11,16] 0
 (pR [oM 147 16,oM 2 147] [0,1,2,3,4,10,11] 0))) [0,1,2,3,4,10,11] 0))))))))
def qhr:ICode:=
 (.seq (sR [
 oM 68 10,
 oM 69 68,
  ⟨.mv 70 11,some (69,true)⟩,
 oN (.pick 71 69 70 (.c (.bool false))),
 oM 72 71,
  ⟨.mv 73 14,some (72,true)⟩,
  ⟨.bin 74 .eql 73 (.c (I 1)),some (72,true)⟩,
 oN (.pick 75 72 74 (.c (.bool false)))] [0,1,2,3,4,10,11,12,13,75] 0
 (.cond 75 (.post (sR [oM 76 0,oM 77 1,oM 78 2,oM 79 4,oY 80 200 [76,77,78,79]] [0,1,2,3,4,10,11,12,13,80] 0
 (.cond 80 .ret
 .skip)) [0,1,2,3,4,10,11,12,13] 0)
 (.post .skip [0,1,2,3,4,10,11,12,13] 0)))
 (.cut qhq))
def qhs:ICode:=
 (sR [oM 48 0,oM 49 1,oM 50 2,oM 51 4,oY 52 198 [48,49,50,51],oM 47 52,oG 53 47 0,oG 54 47 1,oM 13 53,oM 14 54] [0,1,2,3,4,10,11,12,13,14] 0
 (.seq (sR [oM 55 14,oE 56 55 2] [0,1,2,3,4,10,11,12,13,14,56] 0
 (.cond 56 (.post (sR [oM 57 0,oM 58 1,oM 59 2,oM 60 4,oY 61 199 [57,58,59,60]] [0,1,2,3,4,10,11,12,13] 0
 (sR [oM 62 2,oS 63 62 1,oM 64 13,oM 65 1,oN (.bin 66 .sub 64 65),oN (.bin 67 .sub 63 66),oM 13 67] [0,1,2,3,4,10,11,12,13] 0
 (.region [oK 14 1] false))) [0,1,2,3,4,10,11,12,13,14] 0)
 (.post .skip [0,1,2,3,4,10,11,12,13,14] 0)))
 (.cut qhr)))
def qht:ICode:=
 (.post (.block 1 (sR [oM 21 2,oM 22 1,oN (.bin 23 .sub 21 22),oM 12 23] [0,1,2,3,4,10,11,12] 0
 (.seq (sR [oM 24 12,oN (.bin 25 .leq 24 (.c (I 12)))] [0,1,2,3,4,10,11,12,25] 0
 (.cond 25 (sR [oM 26 0,oM 27 1,oM 28 2,oM 29 4,oY 30 195 [26,27,28,29]] [] 0
 .ret)
 .skip))
 (.seq (sR [oM 31 3,oE 32 31 0] [0,1,2,3,4,10,11,12,32] 0
 (.cond 32 (sR [oM 33 0,oM 34 1,oM 35 2,oM 36 4,oY 37 196 [33,34,35,36]] [] 0
 .ret)
 .skip))
 (.seq (sR [oM 38 10,oN (.un 39 .not 38)] [0,1,2,3,4,10,11,12,39] 0
 (.cond 39 (.post (sR [oM 40 0,oM 41 1,oM 42 2,oM 43 4,oY 44 197 [40,41,42,43]] [0,1,2,3,4,10,11,12] 0
 (pR [oM 45 3,oS 46 45 1,oM 3 46] [0,1,2,3,4,10,11,12] 0)) [0,1,2,3,4,10,11,12] 0)
 (.post .skip [0,1,2,3,4,10,11,12] 0)))
 (.cut qhs)))))) [0,1,2,3,4,10,11] 0)
def qhu:ICode:=
 (.post (.block 0 (.loop qht)) [] 0)
def qhv:ICode:=
 (.seq (.region [oN (.mv 10 (.c (.bool true)))] false)
 (sR [oN (.mv 11 (.c (.bool true)))] [0,1,2,3,4,10,11] 0
 (.cut qhu)))
def qhw:IFunc:={np:=5,res:=[],own:=false,trunc:=true,body:=qhv }
/- 193: slices.nextPowerOfTwo -/
def qhx:ICode:=
 (sR [oN (.mv 2 (.c (.int .u64 0)))] [0] 0
 (sR [oM 3 0,oN (.conv 4 .u64 3),oY 5 181 [4],oN (.bin 6 .shl (.c (.int .u64 1)) 5),oM 2 6] [2] 0
 .ret))
def qhy:IFunc:={np:=1,res:=[.t 2],own:=false,trunc:=true,body:=qhx }
/- 194: (*slices.xorshift).Next -/
def qhz:ICode:=
 (sR [oN (.mv 2 (.c (.int .u64 0)))] [0] 0
 (sQ [oM 3 0,oC 4 3,oL 5 4,oM 6 0,oC 7 6,oL 8 7,oN (.bin 9 .shl 8 (.c (.int .u64 13))),oN (.bin 10 .xor 5 9),oC 11 3,oN (.store false 1 11 10)] [0] 0
 (sQ [oM 12 0,oC 13 12,oL 14 13,oM 15 0,oC 16 15,oL 17 16,oN (.bin 18 .shr 17 (.c (.int .u64 7))),oN (.bin 19 .xor 14 18),oC 20 12,oN (.store false 1 20 19)] [0] 0
 (sQ [oM 21 0,oC 22 21,oL 23 22,oM 24 0,oC 25 24,oL 26 25,oN (.bin 27 .shl 26 (.c (.int .u64 17))),oN (.bin 28 .xor 23 27),oC 29 21,oN (.store false 1 29 28)] [0] 0
 (sR [oM 30 0,oC 31 30,oL 32 31,oM 2 32] [2] 0
 .ret)))))
def qi0:IFunc:={np:=1,res:=[.t 2],own:=false,trunc:=true,body:=qhz }
/- 195: slices.insertionSortCmpFunc[int] -/
def qi1:ICode:=
 (.post (.seq (sQ [
 oM 18 9,
 oM 19 1,
 oN (.bin 20 .gtr 18 19),
 oM 21 20,
  ⟨.mv 22 3,some (21,true)⟩,
  ⟨.mv 23 0,some (21,true)⟩,
  ⟨.mv 24 9,some (21,true)⟩,
  ⟨.iaddr 25 1 none 23 24,some (21,true)⟩,
  ⟨.load 26 false 1 25,some (21,true)⟩,
  ⟨.mv 27 0,some (21,true)⟩,
  ⟨.mv 28 9,some (21,true)⟩,
  ⟨.bin 29 .sub 28 (.c (I 1)),some (21,true)⟩,
  ⟨.iaddr 30 1 none 27 29,some (21,true)⟩,
  ⟨.load 31 false 1 30,some (21,true)⟩,
  ⟨.callv (some 32) true 22 [26,31],some (21,true)⟩,
  ⟨.bin 33 .lss 32 (.c (I 0)),some (21,true)⟩,
 oN (.pick 34 21 33 (.c (.bool false)))] [0,1,2,3,8,9,34] 0
 (.cond 34 .skip
 (.exit 2)))
 (.seq (.block 3 (pQ [oM 37 0,oM 38 9,oM 39 0,oM 40 9,oS 41 40 1,oM 42 0,oM 43 9,oS 44 43 1,oA 45 42 44,oL 46 45,oM 47 0,oM 48 9,oA 49 47 48,oL 50 49,oA 51 37 38,oN (.store false 1 51 46),oA 52 39 41,
 oN (.store false 1 52 50)] [0,1,2,3,8,9] 0))
 (pR [oM 35 9,oS 36 35 1,oM 9 36] [0,1,2,3,8,9] 0))) [0,1,2,3,8,9] 0)
def qi2:ICode:=
 (.post (.block 2 (.loop qi1)) [0,1,2,3,8] 0)
def qi3:ICode:=
 (pR [oM 15 8,oP 16 15 1,oM 8 16] [0,1,2,3,8] 0)
def qi4:ICode:=
 (.post (.seq (sR [oM 12 8,oM 13 2,oW 14 12 13] [0,1,2,3,8,14] 0
 (.cond 14 .skip
 (.exit 0)))
 (.seq (.block 1 (sR [oM 17 8,oM 9 17] [0,1,2,3,8,9] 0
 (.cut qi2)))
 (.cut qi3))) [0,1,2,3,8] 0)
def qi5:ICode:=
 (.post (.block 0 (.loop qi4)) [] 0)
def qi6:ICode:=
 (sR [oM 10 1,oP 11 10 1,oM 8 11] [0,1,2,3,8] 0
 (.cut qi5))
def qi7:IFunc:={np:=4,res:=[],own:=false,trunc:=true,body:=qi6 }
/- 196: slices.heapSortCmpFunc[int] -/
def qi8:ICode:=
 (.post (.seq (sR [oM 20 11,oN (.bin 21 .geq 20 (.c (I 0)))] [0,3,8,9,10,11,21] 0
 (.cond 21 .skip
 (.exit 0)))
 (.seq (.block 1 (pR [oM 24 0,oM 25 11,oM 26 10,oM 27 8,oM 28 3,oY 29 203 [24,25,26,27,28]] [0,3,8,9,10,11] 0))
 (pR [oM 22 11,oS 23 22 1,oM 11 23] [0,3,8,9,10,11] 0))) [0,3,8,9,10,11] 0)
def qi9:ICode:=
 (.post (.block 0 (.loop qi8)) [0,3,8,9,10] 0)
def qia:ICode:=
 (.post (.seq (sR [oM 32 12,oN (.bin 33 .geq 32 (.c (I 0)))] [0,3,8,9,12,33] 0
 (.cond 33 .skip
 (.exit 2)))
 (.seq (.block 3 (sQ [oM 36 0,oM 37 8,oM 38 0,oM 39 8,oM 40 12,oN (.bin 41 .add 39 40),oM 42 0,oM 43 8,oM 44 12,oN (.bin 45 .add 43 44),oA 46 42 45,oL 47 46,oM 48 0,oM 49 8,oA 50 48 49,oL 51 50,
 oA 52 36 37,oN (.store false 1 52 47),oA 53 38 41,oN (.store false 1 53 51)] [0,3,8,9,12] 0
 (pR [oM 54 0,oM 55 9,oM 56 12,oM 57 8,oM 58 3,oY 59 203 [54,55,56,57,58]] [0,3,8,9,12] 0)))
 (pR [oM 34 12,oS 35 34 1,oM 12 35] [0,3,8,9,12] 0))) [0,3,8,9,12] 0)
def qib:ICode:=
 (.post (.block 2 (.loop qia)) [] 0)
def qic:ICode:=
 (sR [oM 30 10,oS 31 30 1,oM 12 31] [0,3,8,9,12] 0
 (.cut qib))
def qid:ICode:=
 (sR [oM 13 1,oM 8 13] [0,1,2,3,8] 0
 (.seq (.region [oK 9 0] false)
 (sR [oM 14 2,oM 15 1,oN (.bin 16 .sub 14 15),oM 10 16] [0,3,8,9,10] 0
 (.seq (sR [oM 17 10,oS 18 17 1,oN (.bin 19 .quo 18 (.c (I 2))),oM 11 19] [0,3,8,9,10,11] 0
 (.cut qi9))
 (.cut qic)))))
def qie:IFunc:={np:=4,res:=[],own:=false,trunc:=true,body:=qid }
/- 197: slices.breakPatternsCmpFunc[int] -/
def qif:ICode:=
 (pQ [oM 49 0,oM 50 11,oM 51 0,oM 52 1,oM 53 12,oN (.bin 54 .add 52 53),oM 55 0,oM 56 1,oM 57 12,oN (.bin 58 .add 56 57),oA 59 55 58,oL 60 59,oM 61 0,oM 62 11,oA 63 61 62,oL 64 63,
 oA 65 49 50,oN (.store false 1 65 60),oA 66 51 54,oN (.store false 1 66 64)] [0,1,8,9,10,11] 0)
def qig:ICode:=
 (pR [oM 36 11,oP 37 36 1,oM 11 37] [0,1,8,9,10,11] 0)
def qih:ICode:=
 (.post (.seq (sR [oM 28 11,oM 29 1,oM 30 8,oN (.bin 31 .quo 30 (.c (I 4))),oN (.bin 32 .mul 31 (.c (I 2))),oN (.bin 33 .add 29 32),oP 34 33 1,oN (.bin 35 .leq 28 34)] [0,1,8,9,10,11,35] 0
 (.cond 35 .skip
 (.exit 0)))
 (.seq (.block 1 (sR [oY 38 194 [9],oM 39 10,oN (.bin 40 .sub 39 (.c (.int .u64 1))),oN (.bin 41 .and 38 40),oN (.conv 42 .i64 41),oM 12 42] [0,1,8,9,10,11,12] 0
 (.seq (sR [oM 43 12,oM 44 8,oN (.bin 45 .geq 43 44)] [0,1,8,9,10,11,12,45] 0
 (.cond 45 (.post (pR [oM 46 12,oM 47 8,oN (.bin 48 .sub 46 47),oM 12 48] [0,1,8,9,10,11,12] 0) [0,1,8,9,10,11,12] 0)
 (.post .skip [0,1,8,9,10,11,12] 0)))
 (.cut qif))))
 (.cut qig))) [0,1,8,9,10,11] 0)
def qii:ICode:=
 (.post (.block 0 (.loop qih)) [] 0)
def qij:ICode:=
 (sR [oM 13 2,oM 14 1,oN (.bin 15 .sub 13 14),oM 8 15] [0,1,8] 0
 (sR [oM 16 8,oN (.bin 17 .geq 16 (.c (I 8)))] [0,1,8,17] 0
 (.cond 17 (.post (sR [oM 18 8,oN (.conv 19 .u64 18),oN (.alloc 9 true (.int .u64 0)),oN (.store false 1 9 19)] [0,1,8,9] 0
 (sR [oM 20 8,oY 21 193 [20],oM 10 21] [0,1,8,9,10] 0
 (sR [oM 22 1,oM 23 8,oN (.bin 24 .quo 23 (.c (I 4))),oN (.bin 25 .mul 24 (.c (I 2))),oN (.bin 26 .add 22 25),oS 27 26 1,oM 11 27] [0,1,8,9,10,11] 0
 (.cut qii)))) [] 0)
 (.post .skip [] 0))))
def qik:IFunc:={np:=4,res:=[],own:=false,trunc:=true,body:=qij }
/- 198: slices.choosePivotCmpFunc[int] -/
def qil:ICode:=
 (pR [oM 49 0,oM 50 12,oM 51 13,oM 52 14,oM 53 3,oY 54 205 [49,50,51,52,11,53],oM 13 54] [11,13] 0)
def qim:ICode:=
 (sR [oL 55 11] [13,55] 0
 (.block 0 (sR [oE 58 55 0,oM 57 58] [13,55,57] 0
 (.cond 57 (sR [oM 59 13,oM 8 59,oK 9 1] [8,9] 0
 .ret)
 (sR [oE 61 55 12,oM 60 61] [13,60] 0
 (.cond 60 (sR [oM 62 13,oM 8 62,oK 9 2] [8,9] 0
 .ret)
 (sR [oM 56 13,oM 8 56,oK 9 0] [8,9] 0
 .ret)))))))
def qin:ICode:=
 (sR [oK 8 0,oK 9 0] [0,1,2,3] 0
 (sR [oM 15 2,oM 16 1,oN (.bin 17 .sub 15 16),oM 10 17] [0,1,3,10] 0
 (.seq (.region [oN (.alloc 11 true (I 0))] false)
 (sR [oM 18 1,oM 19 10,oN (.bin 20 .quo 19 (.c (I 4))),oN (.bin 21 .mul 20 (.c (I 1))),oN (.bin 22 .add 18 21),oM 12 22] [0,1,3,10,11,12] 0
 (sR [oM 23 1,oM 24 10,oN (.bin 25 .quo 24 (.c (I 4))),oN (.bin 26 .mul 25 (.c (I 2))),oN (.bin 27 .add 23 26),oM 13 27] [0,1,3,10,11,12,13] 0
 (sR [oM 28 1,oM 29 10,oN (.bin 30 .quo 29 (.c (I 4))),oN (.bin 31 .mul 30 (.c (I 3))),oN (.bin 32 .add 28 31),oM 14 32] [0,3,10,11,12,13,14] 0
 (.seq (sR [oM 33 10,oN (.bin 34 .geq 33 (.c (I 8)))] [0,3,10,11,12,13,14,34] 0
 (.cond 34 (.post (.seq (sR [oM 35 10,oN (.bin 36 .geq 35 (.c (I 50)))] [0,3,11,12,13,14,36] 0
 (.cond 36 (.post (sR [oM 37 0,oM 38 12,oM 39 3,oY 40 204 [37,38,11,39],oM 12 40] [0,3,11,12,13,14] 0
 (sR [oM 41 0,oM 42 13,oM 43 3,oY 44 204 [41,42,11,43],oM 13 44] [0,3,11,12,13,14] 0
 (pR [oM 45 0,oM 46 14,oM 47 3,oY 48 204 [45,46,11,47],oM 14 48] [0,3,11,12,13,14] 0))) [0,3,11,12,13,14] 0)
 (.post .skip [0,3,11,12,13,14] 0)))
 (.cut qil)) [11,13] 0)
 (.post .skip [11,13] 0)))
 (.cut qim))))))))
def qio:IFunc:={np:=4,res:=[.t 8,.t 9],own:=false,trunc:=true,body:=qin }
/- 199: slices.reverseRangeCmpFunc[int] -/
def qip:ICode:=
 (.post (.seq (sR [oM 13 8,oM 14 9,oW 15 13 14] [0,8,9,15] 0
 (.cond 15 .skip
 (.exit 0)))
 (.block 1 (sQ [oM 16 0,oM 17 8,oM 18 0,oM 19 9,oM 20 0,oM 21 9,oA 22 20 21,oL 23 22,oM 24 0,oM 25 8,oA 26 24 25,oL 27 26,oA 28 16 17,oN (.store false 1 28 23),oA 29 18 19,
 oN (.store false 1 29 27)] [0,8,9] 0
 (sR [oM 30 8,oP 31 30 1,oM 8 31] [0,8,9] 0
 (pR [oM 32 9,oS 33 32 1,oM 9 33] [0,8,9] 0))))) [0,8,9] 0)
def qiq:ICode:=
 (.post (.block 0 (.loop qip)) [] 0)
def qir:ICode:=
 (sR [oM 10 1,oM 8 10] [0,2,8] 0
 (sR [oM 11 2,oS 12 11 1,oM 9 12] [0,8,9] 0
 (.cut qiq)))
def qis:IFunc:={np:=4,res:=[],own:=false,trunc:=true,body:=qir }
/- 200: slices.partialInsertionSortCmpFunc[int] -/
def qit:ICode:=
 (.post (.seq (sQ [
 oM 19 9,
 oM 20 2,
 oW 21 19 20,
 oM 22 21,
  ⟨.mv 23 3,some (22,true)⟩,
  ⟨.mv 24 0,some (22,true)⟩,
  ⟨.mv 25 9,some (22,true)⟩,
  ⟨.iaddr 26 1 none 24 25,some (22,true)⟩,
  ⟨.load 27 false 1 26,some (22,true)⟩,
  ⟨.mv 28 0,some (22,true)⟩,
  ⟨.mv 29 9,some (22,true)⟩,
  ⟨.bin 30 .sub 29 (.c (I 1)),some (22,true)⟩,
  ⟨.iaddr 31 1 none 28 30,some (22,true)⟩,
  ⟨.load 32 false 1 31,some (22,true)⟩,
  ⟨.callv (some 33) true 23 [27,32],some (22,true)⟩,
  ⟨.bin 34 .lss 33 (.c (I 0)),some (22,true)⟩,
  ⟨.un 35 .not 34,some (22,true)⟩,
 oN (.pick 36 22 35 (.c (.bool false)))] [0,1,2,3,9,10,36] 0
 (.cond 36 .skip
 (.exit 2)))
 (.block 3 (pR [oM 37 9,oP 38 37 1,oM 9 38] [0,1,2,3,9,10] 0))) [0,1,2,3,9,10,16] 0)
def qiu:ICode:=
 (.post (.block 2 (.loop qit)) [0,1,2,3,9,10] 0)
def qiv:ICode:=
 (.post (.seq (sR [oM 68 11,oN (.bin 69 .geq 68 (.c (I 1)))] [0,1,2,3,9,10,11,69] 0
 (.cond 69 .skip
 (.exit 4)))
 (.seq (.block 5 (.seq (sQ [oM 72 3,oM 73 0,oM 74 11,oA 75 73 74,oL 76 75,oM 77 0,oM 78 11,oS 79 78 1,oA 80 77 79,oL 81 80,oN (.callv (some 82) true 72 [76,81]),oN (.bin 83 .lss 82 (.c (I 0))),
 oN (.un 84 .not 83)] [0,1,2,3,9,10,11,84] 0
 (.cond 84 (.exit 4)
 .skip))
 (pQ [oM 85 0,oM 86 11,oM 87 0,oM 88 11,oS 89 88 1,oM 90 0,oM 91 11,oS 92 91 1,oA 93 90 92,oL 94 93,oM 95 0,oM 96 11,oA 97 95 96,oL 98 97,oA 99 85 86,oN (.store false 1 99 94),
 oA 100 87 89,oN (.store false 1 100 98)] [0,1,2,3,9,10,11] 0)))
 (pR [oM 70 11,oS 71 70 1,oM 11 71] [0,1,2,3,9,10,11] 0))) [0,1,2,3,9,10,11] 0)
def qiw:ICode:=
 (.post (.block 4 (.loop qiv)) [0,1,2,3,9,10] 0)
def qix:ICode:=
 (.post (.seq (sR [oM 107 12,oM 108 2,oW 109 107 108] [0,1,2,3,9,10,12,109] 0
 (.cond 109 .skip
 (.exit 6)))
 (.seq (.block 7 (.seq (sQ [oM 112 3,oM 113 0,oM 114 12,oA 115 113 114,oL 116 115,oM 117 0,oM 118 12,oS 119 118 1,oA 120 117 119,oL 121 120,oN (.callv (some 122) true 112 [116,121]),
 oN (.bin 123 .lss 122 (.c (I 0))),oN (.un 124 .not 123)] [0,1,2,3,9,10,12,124] 0
 (.cond 124 (.exit 6)
 .skip))
 (pQ [oM 125 0,oM 126 12,oM 127 0,oM 128 12,oS 129 128 1,oM 130 0,oM 131 12,oS 132 131 1,oA 133 130 132,oL 134 133,oM 135 0,oM 136 12,oA 137 135 136,oL 138 137,oA 139 125 126,
 oN (.store false 1 139 134),oA 140 127 129,oN (.store false 1 140 138)] [0,1,2,3,9,10,12] 0)))
 (pR [oM 110 12,oP 111 110 1,oM 12 111] [0,1,2,3,9,10,12] 0))) [0,1,2,3,9,10,12] 0)
def qiy:ICode:=
 (.post (.block 6 (.loop qix)) [0,1,2,3,9,10] 0)
def qiz:ICode:=
 (sR [oM 101 2,oM 102 9,oN (.bin 103 .sub 101 102),oN (.bin 104 .geq 103 (.c (I 2)))] [0,1,2,3,9,10,104] 0
 (.cond 104 (.post (sR [oM 105 9,oP 106 105 1,oM 12 106] [0,1,2,3,9,10,12] 0
 (.cut qiy)) [0,1,2,3,9,10] 0)
 (.post .skip [0,1,2,3,9,10] 0)))
def qj0:ICode:=
 (.seq (sR [oM 39 9,oM 40 2,oN (.bin 41 .eql 39 40)] [0,1,2,3,9,10,41] 0
 (.cond 41 (sR [oN (.mv 8 (.c (.bool true)))] [8] 0
 .ret)
 .skip))
 (.seq (sR [oM 42 2,oM 43 1,oN (.bin 44 .sub 42 43),oN (.bin 45 .lss 44 (.c (I 50)))] [0,1,2,3,9,10,45] 0
 (.cond 45 (sR [oN (.mv 8 (.c (.bool false)))] [8] 0
 .ret)
 .skip))
 (sQ [oM 46 0,oM 47 9,oM 48 0,oM 49 9,oS 50 49 1,oM 51 0,oM 52 9,oS 53 52 1,oA 54 51 53,oL 55 54,oM 56 0,oM 57 9,oA 58 56 57,oL 59 58,oA 60 46 47,oN (.store false 1 60 55),oA 61 48 50,
 oN (.store false 1 61 59)] [0,1,2,3,9,10] 0
 (.seq (sR [oM 62 9,oM 63 1,oN (.bin 64 .sub 62 63),oN (.bin 65 .geq 64 (.c (I 2)))] [0,1,2,3,9,10,65] 0
 (.cond 65 (.post (sR [oM 66 9,oS 67 66 1,oM 11 67] [0,1,2,3,9,10,11] 0
 (.cut qiw)) [0,1,2,3,9,10] 0)
 (.post .skip [0,1,2,3,9,10] 0)))
 (.cut qiz)))))
def qj1:ICode:=
 (pR [oM 17 10,oP 18 17 1,oM 10 18] [0,1,2,3,9,10] 0)
def qj2:ICode:=
 (.post (.seq (sR [oM 15 10,oN (.bin 16 .lss 15 (.c (I 5)))] [0,1,2,3,9,10,16] 0
 (.cond 16 .skip
 (.exit 0)))
 (.seq (.block 1 (.seq (.cut qiu)
 (.cut qj0)))
 (.cut qj1))) [0,1,2,3,9,10] 0)
def qj3:ICode:=
 (.post (.block 0 (.loop qj2)) [] 0)
def qj4:ICode:=
 (.seq (.region [oN (.mv 8 (.c (.bool false)))] false)
 .ret)
def qj5:ICode:=
 (sR [oN (.mv 8 (.c (.bool false)))] [0,1,2,3] 0
 (sR [oM 13 1,oP 14 13 1,oM 9 14] [0,1,2,3,9] 0
 (.seq (sR [oK 10 0] [0,1,2,3,9,10] 0
 (.cut qj3))
 (.cut qj4))))
def qj6:IFunc:={np:=4,res:=[.t 8],own:=false,trunc:=true,body:=qj5 }
/- 201: slices.partitionEqualCmpFunc[int] -/
def qj7:ICode:=
 (.post (.seq (sQ [
 oM 31 11,
 oM 32 12,
 oN (.bin 33 .leq 31 32),
 oM 34 33,
  ⟨.mv 35 4,some (34,true)⟩,
  ⟨.mv 36 0,some (34,true)⟩,
  ⟨.mv 37 1,some (34,true)⟩,
  ⟨.iaddr 38 1 none 36 37,some (34,true)⟩,
  ⟨.load 39 false 1 38,some (34,true)⟩,
  ⟨.mv 40 0,some (34,true)⟩,
  ⟨.mv 41 11,some (34,true)⟩,
  ⟨.iaddr 42 1 none 40 41,some (34,true)⟩,
  ⟨.load 43 false 1 42,some (34,true)⟩,
  ⟨.callv (some 44) true 35 [39,43],some (34,true)⟩,
  ⟨.bin 45 .lss 44 (.c (I 0)),some (34,true)⟩,
  ⟨.un 46 .not 45,some (34,true)⟩,
 oN (.pick 47 34 46 (.c (.bool false)))] [0,1,4,11,12,47] 0
 (.cond 47 .skip
 (.exit 2)))
 (.block 3 (pR [oM 48 11,oP 49 48 1,oM 11 49] [0,1,4,11,12] 0))) [0,1,4,11,12] 0)
def qj8:ICode:=
 (.post (.block 2 (.loop qj7)) [0,1,4,11,12] 0)
def qj9:ICode:=
 (.post (.seq (sQ [
 oM 50 11,
 oM 51 12,
 oN (.bin 52 .leq 50 51),
 oM 53 52,
  ⟨.mv 54 4,some (53,true)⟩,
  ⟨.mv 55 0,some (53,true)⟩,
  ⟨.mv 56 1,some (53,true)⟩,
  ⟨.iaddr 57 1 none 55 56,some (53,true)⟩,
  ⟨.load 58 false 1 57,some (53,true)⟩,
  ⟨.mv 59 0,some (53,true)⟩,
  ⟨.mv 60 12,some (53,true)⟩,
  ⟨.iaddr 61 1 none 59 60,some (53,true)⟩,
  ⟨.load 62 false 1 61,some (53,true)⟩,
  ⟨.callv (some 63) true 54 [58,62],some (53,true)⟩,
  ⟨.bin 64 .lss 63 (.c (I 0)),some (53,true)⟩,
 oN (.pick 65 53 64 (.c (.bool false)))] [0,1,4,11,12,65] 0
 (.cond 65 .skip
 (.exit 4)))
 (.block 5 (pR [oM 66 12,oS 67 66 1,oM 12 67] [0,1,4,11,12] 0))) [0,1,4,11,12] 0)
def qja:ICode:=
 (.post (.block 4 (.loop qj9)) [0,1,4,11,12] 0)
def qjb:ICode:=
 (.seq (sR [oM 68 11,oM 69 12,oN (.bin 70 .gtr 68 69)] [0,1,4,11,12,70] 0
 (.cond 70 (.exit 0)
 .skip))
 (sQ [oM 71 0,oM 72 11,oM 73 0,oM 74 12,oM 75 0,oM 76 12,oA 77 75 76,oL 78 77,oM 79 0,oM 80 11,oA 81 79 80,oL 82 81,oA 83 71 72,oN (.store false 1 83 78),oA 84 73 74,
 oN (.store false 1 84 82)] [0,1,4,11,12] 0
 (sR [oM 85 11,oP 86 85 1,oM 11 86] [0,1,4,11,12] 0
 (pR [oM 87 12,oS 88 87 1,oM 12 88] [0,1,4,11,12] 0))))
def qjc:ICode:=
 (.seq (.cut qja)
 (.cut qjb))
def qjd:ICode:=
 (.post (.block 1 (.seq (.cut qj8)
 (.cut qjc))) [0,1,4,11,12] 0)
def qje:ICode:=
 (.post (.block 0 (.loop qjd)) [11] 0)
def qjf:ICode:=
 (sR [oM 89 11,oM 10 89] [10] 0
 .ret)
def qjg:ICode:=
 (sR [oK 10 0] [0,1,2,3,4] 0
 (sQ [oM 13 0,oM 14 1,oM 15 0,oM 16 3,oM 17 0,oM 18 3,oA 19 17 18,oL 20 19,oM 21 0,oM 22 1,oA 23 21 22,oL 24 23,oA 25 13 14,oN (.store false 1 25 20),oA 26 15 16,
 oN (.store false 1 26 24)] [0,1,2,4] 0
 (sR [oM 27 1,oP 28 27 1,oM 29 2,oS 30 29 1,oM 11 28,oM 12 30] [0,1,4,11,12] 0
 (.seq (.cut qje)
 (.cut qjf)))))
def qjh:IFunc:={np:=5,res:=[.t 10],own:=false,trunc:=true,body:=qjg }
/- 202: slices.partitionCmpFunc[int] -/
def qji:ICode:=
 (.post (.seq (sQ [
 oM 32 12,
 oM 33 13,
 oN (.bin 34 .leq 32 33),
 oM 35 34,
  ⟨.mv 36 4,some (35,true)⟩,
  ⟨.mv 37 0,some (35,true)⟩,
  ⟨.mv 38 12,some (35,true)⟩,
  ⟨.iaddr 39 1 none 37 38,some (35,true)⟩,
  ⟨.load 40 false 1 39,some (35,true)⟩,
  ⟨.mv 41 0,some (35,true)⟩,
  ⟨.mv 42 1,some (35,true)⟩,
  ⟨.iaddr 43 1 none 41 42,some (35,true)⟩,
  ⟨.load 44 false 1 43,some (35,true)⟩,
  ⟨.callv (some 45) true 36 [40,44],some (35,true)⟩,
  ⟨.bin 46 .lss 45 (.c (I 0)),some (35,true)⟩,
 oN (.pick 47 35 46 (.c (.bool false)))] [0,1,4,12,13,47] 0
 (.cond 47 .skip
 (.exit 0)))
 (.block 1 (pR [oM 48 12,oP 49 48 1,oM 12 49] [0,1,4,12,13] 0))) [0,1,4,12,13] 0)
def qjj:ICode:=
 (.post (.block 0 (.loop qji)) [0,1,4,12,13] 0)
def qjk:ICode:=
 (.post (.seq (sQ [
 oM 50 12,
 oM 51 13,
 oN (.bin 52 .leq 50 51),
 oM 53 52,
  ⟨.mv 54 4,some (53,true)⟩,
  ⟨.mv 55 0,some (53,true)⟩,
  ⟨.mv 56 13,some (53,true)⟩,
  ⟨.iaddr 57 1 none 55 56,some (53,true)⟩,
  ⟨.load 58 false 1 57,some (53,true)⟩,
  ⟨.mv 59 0,some (53,true)⟩,
  ⟨.mv 60 1,some (53,true)⟩,
  ⟨.iaddr 61 1 none 59 60,some (53,true)⟩,
  ⟨.load 62 false 1 61,some (53,true)⟩,
  ⟨.callv (some 63) true 54 [58,62],some (53,true)⟩,
  ⟨.bin 64 .lss 63 (.c (I 0)),some (53,true)⟩,
  ⟨.un 65 .not 64,some (53,true)⟩,
 oN (.pick 66 53 65 (.c (.bool false)))] [0,1,4,12,13,66] 0
 (.cond 66 .skip
 (.exit 2)))
 (.block 3 (pR [oM 67 13,oS 68 67 1,oM 13 68] [0,1,4,12,13] 0))) [0,1,4,12,13] 0)
def qjl:ICode:=
 (.post (.block 2 (.loop qjk)) [0,1,4,12,13] 0)
def qjm:ICode:=
 (.post (.seq (sQ [
 oM 105 12,
 oM 106 13,
 oN (.bin 107 .leq 105 106),
 oM 108 107,
  ⟨.mv 109 4,some (108,true)⟩,
  ⟨.mv 110 0,some (108,true)⟩,
  ⟨.mv 111 12,some (108,true)⟩,
  ⟨.iaddr 112 1 none 110 111,some (108,true)⟩,
  ⟨.load 113 false 1 112,some (108,true)⟩,
  ⟨.mv 114 0,some (108,true)⟩,
  ⟨.mv 115 1,some (108,true)⟩,
  ⟨.iaddr 116 1 none 114 115,some (108,true)⟩,
  ⟨.load 117 false 1 116,some (108,true)⟩,
  ⟨.callv (some 118) true 109 [113,117],some (108,true)⟩,
  ⟨.bin 119 .lss 118 (.c (I 0)),some (108,true)⟩,
 oN (.pick 120 108 119 (.c (.bool false)))] [0,1,4,12,13,120] 0
 (.cond 120 .skip
 (.exit 6)))
 (.block 7 (pR [oM 121 12,oP 122 121 1,oM 12 122] [0,1,4,12,13] 0))) [0,1,4,12,13] 0)
def qjn:ICode:=
 (.post (.block 6 (.loop qjm)) [0,1,4,12,13] 0)
def qjo:ICode:=
 (.post (.seq (sQ [
 oM 123 12,
 oM 124 13,
 oN (.bin 125 .leq 123 124),
 oM 126 125,
  ⟨.mv 127 4,some (126,true)⟩,
  ⟨.mv 128 0,some (126,true)⟩,
  ⟨.mv 129 13,some (126,true)⟩,
  ⟨.iaddr 130 1 none 128 129,some (126,true)⟩,
  ⟨.load 131 false 1 130,some (126,true)⟩,
  ⟨.mv 132 0,some (126,true)⟩,
  ⟨.mv 133 1,some (126,true)⟩,
  ⟨.iaddr 134 1 none 132 133,some (126,true)⟩,
  ⟨.load 135 false 1 134,some (126,true)⟩,
  ⟨.callv (some 136) true 127 [131,135],some (126,true)⟩,
  ⟨.bin 137 .lss 136 (.c (I 0)),some (126,true)⟩,
  ⟨.un 138 .not 137,some (126,true)⟩,
 oN (.pick 139 126 138 (.c (.bool false)))] [0,1,4,12,13,139] 0
 (.cond 139 .skip
 (.exit 8)))
 (.block 9 (pR [oM 140 13,oS 141 140 1,oM 13 141] [0,1,4,12,13] 0))) [0,1,4,12,13] 0)
def qjp:ICode:=
 (.post (.block 8 (.loop qjo)) [0,1,4,12,13] 0)
def qjq:ICode:=
 (.seq (sR [oM 142 12,oM 143 13,oN (.bin 144 .gtr 142 143)] [0,1,4,12,13,144] 0
 (.cond 144 (.exit 4)
 .skip))
 (sQ [oM 145 0,oM 146 12,oM 147 0,oM 148 13,oM 149 0,oM 150 13,oA 151 149 150,oL 152 151,oM 153 0,oM 154 12,oA 155 153 154,oL 156 155,oA 157 145 146,oN (.store false 1 157 152),
 oA 158 147 148,oN (.store false 1 158 156)] [0,1,4,12,13] 0
 (sR [oM 159 12,oP 160 159 1,oM 12 160] [0,1,4,12,13] 0
 (pR [oM 161 13,oS 162 161 1,oM 13 162] [0,1,4,12,13] 0))))
def qjr:ICode:=
 (.seq (.cut qjp)
 (.cut qjq))
def qjs:ICode:=
 (.post (.block 5 (.seq (.cut qjn)
 (.cut qjr))) [0,1,4,12,13] 0)
def qjt:ICode:=
 (.post (.block 4 (.loop qjs)) [0,1,13] 0)
def qju:ICode:=
 (sQ [oM 163 0,oM 164 13,oM 165 0,oM 166 1,oM 167 0,oM 168 1,oA 169 167 168,oL 170 169,oM 171 0,oM 172 13,oA 173 171 172,oL 174 173,oA 175 163 164,oN (.store false 1 175 170),
 oA 176 165 166,oN (.store false 1 176 174)] [13] 0
 (sR [oM 177 13,oM 10 177,oN (.mv 11 (.c (.bool false)))] [10,11] 0
 .ret))
def qjv:ICode:=
 (.seq (sR [oM 69 12,oM 70 13,oN (.bin 71 .gtr 69 70)] [0,1,4,12,13,71] 0
 (.cond 71 (sQ [oM 72 0,oM 73 13,oM 74 0,oM 75 1,oM 76 0,oM 77 1,oA 78 76 77,oL 79 78,oM 80 0,oM 81 13,oA 82 80 81,oL 83 82,oA 84 72 73,oN (.store false 1 84 79),oA 85 74 75,
 oN (.store false 1 85 83)] [13] 0
 (sR [oM 86 13,oM 10 86,oN (.mv 11 (.c (.bool true)))] [10,11] 0
 .ret))
 .skip))
 (sQ [oM 87 0,oM 88 12,oM 89 0,oM 90 13,oM 91 0,oM 92 13,oA 93 91 92,oL 94 93,oM 95 0,oM 96 12,oA 97 95 96,oL 98 97,oA 99 87 88,oN (.store false 1 99 94),oA 100 89 90,
 oN (.store false 1 100 98)] [0,1,4,12,13] 0
 (sR [oM 101 12,oP 102 101 1,oM 12 102] [0,1,4,12,13] 0
 (sR [oM 103 13,oS 104 103 1,oM 13 104] [0,1,4,12,13] 0
 (.seq (.cut qjt)
 (.cut qju))))))
def qjw:ICode:=
 (.seq (.cut qjl)
 (.cut qjv))
def qjx:ICode:=
 (sR [oK 10 0,oN (.mv 11 (.c (.bool false)))] [0,1,2,3,4] 0
 (sQ [oM 14 0,oM 15 1,oM 16 0,oM 17 3,oM 18 0,oM 19 3,oA 20 18 19,oL 21 20,oM 22 0,oM 23 1,oA 24 22 23,oL 25 24,oA 26 14 15,oN (.store false 1 26 21),oA 27 16 17,
 oN (.store false 1 27 25)] [0,1,2,4] 0
 (sR [oM 28 1,oP 29 28 1,oM 30 2,oS 31 30 1,oM 12 29,oM 13 31] [0,1,4,12,13] 0
 (.seq (.cut qjj)
 (.cut qjw)))))
def qjy:IFunc:={np:=5,res:=[.t 10,.t 11],own:=false,trunc:=true,body:=qjx }
/- 203: slices.siftDownCmpFunc[int] -/
def qjz:ICode:=
 (.seq (sQ [oM 43 4,oM 44 0,oM 45 3,oM 46 10,oN (.bin 47 .add 45 46),oA 48 44 47,oL 49 48,oM 50 0,oM 51 3,oM 52 11,oN (.bin 53 .add 51 52),oA 54 50 53,oL 55 54,
 oN (.callv (some 56) true 43 [49,55]),oN (.bin 57 .lss 56 (.c (I 0))),oN (.un 58 .not 57)] [0,2,3,4,10,11,58] 0
 (.cond 58 .ret
 .skip))
 (sQ [oM 59 0,oM 60 3,oM 61 10,oN (.bin 62 .add 60 61),oM 63 0,oM 64 3,oM 65 11,oN (.bin 66 .add 64 65),oM 67 0,oM 68 3,oM 69 11,oN (.bin 70 .add 68 69),oA 71 67 70,oL 72 71,oM 73 0,
 oM 74 3,oM 75 10,oN (.bin 76 .add 74 75),oA 77 73 76,oL 78 77,oA 79 59 62,oN (.store false 1 79 72),oA 80 63 66,oN (.store false 1 80 78)] [0,2,3,4,11] 0
 (pR [oM 81 11,oM 10 81] [0,2,3,4,10] 0)))
def qk0:ICode:=
 (.post (.block 1 (sR [oM 13 10,oN (.bin 14 .mul (.c (I 2)) 13),oP 15 14 1,oM 11 15] [0,2,3,4,10,11] 0
 (.seq (sR [oM 16 11,oM 17 2,oN (.bin 18 .geq 16 17)] [0,2,3,4,10,11,18] 0
 (.cond 18 (.exit 0)
 .skip))
 (.seq (sQ [
 oM 19 11,
 oP 20 19 1,
 oM 21 2,
 oW 22 20 21,
 oM 23 22,
  ⟨.mv 24 4,some (23,true)⟩,
  ⟨.mv 25 0,some (23,true)⟩,
  ⟨.mv 26 3,some (23,true)⟩,
  ⟨.mv 27 11,some (23,true)⟩,
  ⟨.bin 28 .add 26 27,some (23,true)⟩,
  ⟨.iaddr 29 1 none 25 28,some (23,true)⟩,
  ⟨.load 30 false 1 29,some (23,true)⟩,
  ⟨.mv 31 0,some (23,true)⟩,
  ⟨.mv 32 3,some (23,true)⟩,
  ⟨.mv 33 11,some (23,true)⟩,
  ⟨.bin 34 .add 32 33,some (23,true)⟩,
  ⟨.bin 35 .add 34 (.c (I 1)),some (23,true)⟩,
  ⟨.iaddr 36 1 none 31 35,some (23,true)⟩,
  ⟨.load 37 false 1 36,some (23,true)⟩,
  ⟨.callv (some 38) true 24 [30,37],some (23,true)⟩,
  ⟨.bin 39 .lss 38 (.c (I 0)),some (23,true)⟩,
 oN (.pick 40 23 39 (.c (.bool false)))] [0,2,3,4,10,11,40] 0
 (.cond 40 (.post (pR [oM 41 11,oP 42 41 1,oM 11 42] [0,2,3,4,10,11] 0) [0,2,3,4,10,11] 0)
 (.post .skip [0,2,3,4,10,11] 0)))
 (.cut qjz))))) [0,2,3,4,10] 0)
def qk1:ICode:=
 (.post (.block 0 (.loop qk0)) [] 0)
def qk2:ICode:=
 (sR [oM 12 1,oM 10 12] [0,2,3,4,10] 0
 (.cut qk1))
def qk3:IFunc:={np:=5,res:=[],own:=false,trunc:=true,body:=qk2 }
/- 204: slices.medianAdjacentCmpFunc[int] -/
def qk4:ICode:=
 (sR [oK 8 0] [0,1,2,3] 0
 (sR [oM 9 0,oM 10 1,oS 11 10 1,oM 12 1,oM 13 1,oP 14 13 1,oM 15 2,oM 16 3,oY 17 205 [9,11,12,14,15,16],oM 8 17] [8] 0
 .ret))
def qk5:IFunc:={np:=4,res:=[.t 8],own:=false,trunc:=true,body:=qk4 }
/- 205: slices.medianCmpFunc[int] -/
def qk6:ICode:=
 (sR [oK 12 0] [0,1,2,3,4,5] 0
 (sR [oM 14 0,oM 15 1,oM 16 2,oM 17 4,oM 18 5,oY 19 206 [14,15,16,17,18],oM 13 19,oG 20 13 0,oG 21 13 1,oM 1 20,oM 2 21] [0,1,2,3,4,5] 0
 (sR [oM 23 0,oM 24 2,oM 25 3,oM 26 4,oM 27 5,oY 28 206 [23,24,25,26,27],oM 22 28,oG 29 22 0,oG 30 22 1,oM 2 29,oM 3 30] [0,1,2,4,5] 0
 (sR [oM 32 0,oM 33 1,oM 34 2,oM 35 4,oM 36 5,oY 37 206 [32,33,34,35,36],oM 31 37,oG 38 31 0,oG 39 31 1,oM 1 38,oM 2 39] [2] 0
 (sR [oM 40 2,oM 12 40] [12] 0
 .ret)))))
def qk7:IFunc:={np:=6,res:=[.t 12],own:=false,trunc:=true,body:=qk6 }
/- 206: slices.order2CmpFunc[int] -/
def qk8:ICode:=
 (sR [oK 10 0,oK 11 0] [0,1,2,3,4] 0
 (.seq (sQ [oM 12 4,oM 13 0,oM 14 2,oA 15 13 14,oL 16 15,oM 17 0,oM 18 1,oA 19 17 18,oL 20 19,oN (.callv (some 21) true 12 [16,20]),oN (.bin 22 .lss 21 (.c (I 0)))] [1,2,3,22] 0
 (.cond 22 (sR [oM 23 3,oC 24 23,oL 25 24,oP 26 25 1,oC 27 23,oN (.store false 1 27 26)] [1,2] 0
 (sR [oM 28 2,oM 29 1,oM 10 28,oM 11 29] [10,11] 0
 .ret))
 .skip))
 (sR [oM 30 1,oM 31 2,oM 10 30,oM 11 31] [10,11] 0
 .ret)))
def qk9:IFunc:={np:=5,res:=[.t 10,.t 11],own:=false,trunc:=true,body:=qk8 }
/- 208: slices.IndexFunc[[]int,int]#K -/
def q8w:ICode:=
 (.post (.seq (.region [oW 9 8 7] false)
 (.seq (.cond 9 .skip
 (.exit 0))
 (.seq (.block 1 (sR [oM 10 8,oM 5 10] [0,1,5,7,8] 0
 (sR [oM 11 1,oM 12 0,oM 13 5,oA 14 12 13,oN (.loadK 15 14),oN (.callv (some 16) true 11 [15])] [0,1,5,7,8,16] 0
 (.cond 16 (sR [oM 17 5,oM 4 17] [4] 0
 .ret)
 .skip))))
 (pR [oP 18 8 1,oM 8 18] [0,1,7,8] 0)))) [0,1,7,8] 0)
def q2b:ICode:=
 (.post (.block 0 (.loop q8w)) [] 0)
def q4a:ICode:=
 (.seq (.region [oN (.mv 4 (.c (I (-1))))] false)
 .ret)
def q8x:ICode:=
 (sR [oK 4 0] [0,1] 0
 (.seq (sR [oM 6 0,oD 7 6,oK 8 0] [0,1,7,8] 0
 (.cut q2b))
 (.cut q4a)))
def qm:IFunc:={np:=2,res:=[.t 4],own:=false,trunc:=true,body:=q8x }
/- 209: slices.Index[[]int,int]#K -/
def qka:ICode:=
 (.post (.seq (.region [oW 9 8 7] false)
 (.seq (.cond 9 .skip
 (.exit 0))
 (.seq (.block 1 (sR [oM 10 8,oM 5 10] [0,1,5,7,8] 0
 (sR [oM 11 1,oM 12 0,oM 13 5,oA 14 12 13,oN (.loadK 15 14),oN (.bin 16 .eql 11 15)] [0,1,5,7,8,16] 0
 (.cond 16 (sR [oM 17 5,oM 4 17] [4] 0
 .ret)
 .skip))))
 (pR [oP 18 8 1,oM 8 18] [0,1,7,8] 0)))) [0,1,7,8] 0)
def qkb:ICode:=
 (.post (.block 0 (.loop qka)) [] 0)
def qkc:ICode:=
 (.seq (.region [oN (.mv 4 (.c (I (-1))))] false)
 .ret)
def qkd:ICode:=
 (sR [oK 4 0] [0,1] 0
 (.seq (sR [oM 6 0,oD 7 6,oK 8 0] [0,1,7,8] 0
 (.cut qkb))
 (.cut qkc)))
def qke:IFunc:={np:=2,res:=[.t 4],own:=false,trunc:=true,body:=qkd }
/- 216: slices.DeleteFunc[[]int,int] -/
/- 261: internal/stringslite.Cut -/
/- 270: internal/strconv.Itoa -/
/- 282: internal/stringslite.IndexByte -/
/- 283: strings.explode -/
/- 284: strings.Count -/
/- 285: strings.Index -/
/- 289: strconv.baseError -/
/- 290: strconv.bitSizeError -/
/- 294: internal/strconv.small -/
/- 296: internal/strconv.formatBase10 -/
/- 300: internal/bytealg.Cutover -/
/- 301: internal/bytealg.IndexRabinKarp[string] -/
/- 302: internal/bytealg.hashStr[string] -/
/- 304: unicode/utf8.DecodeRuneInString -/
/- 309: internal/strconv.log10Pow2 -/
/- 310: internal/strconv.isPowerOfTwo -/
/- 311: math/bits.TrailingZeros -/
/- 313: internal/strconv.lower -/
/- 314: internal/strconv.underscoreOK -/
/- 315: internal/strconv.bool2[int] -/
/- 343: slices.DeleteFunc[[]int,int]#K -/
def q1c:ICode:=
 (pR [oM 20 6,oP 21 20 1,oM 6 21] [0,1,5,6] 0)
def q8y:ICode:=
 (.post (.seq (sR [oM 16 6,oM 17 0,oD 18 17,oW 19 16 18] [0,1,5,6,19] 0
 (.cond 19 .skip
 (.exit 0)))
 (.seq (.block 1 (sR [oM 22 0,oM 23 6,oA 24 22 23,oN (.loadK 25 24),oM 7 25] [0,1,5,6,7] 0
 (sR [oM 26 1,oM 27 7,oN (.callv (some 28) true 26 [27]),oN (.un 29 .not 28)] [0,1,5,6,7,29] 0
 (.cond 29 (.post (sR [oM 30 0,oM 31 5,oM 32 7,oA 33 30 31,oN (.storeK 33 32)] [0,1,5,6] 0
 (pR [oM 34 5,oP 35 34 1,oM 5 35] [0,1,5,6] 0)) [0,1,5,6] 0)
 (.post .skip [0,1,5,6] 0)))))
 (.cut q1c))) [0,1,5,6] 0)
def q4b:ICode:=
 (.post (.block 0 (.loop q8y)) [0,5] 0)
def q2c:ICode:=
 (sR [oM 36 0,oM 37 5,oN (.slice 38 1 36 (some 37) none),oN (.clearK 38)] [0,5] 0
 (sR [oM 39 0,oM 40 5,oN (.slice 41 1 39 none (some 40)),oT 4 41] [4] 0
 .ret))
def q8z:ICode:=
 (sR [oN (.mv 4 (.c (.sl true 1 [])))] [0,1] 0
 (sR [oM 8 0,oM 9 1,oX 10 208 [8,9],oM 5 10] [0,1,5] 0
 (.seq (sR [oM 11 5,oN (.bin 12 .eql 11 (.c (I (-1))))] [0,1,5,12] 0
 (.cond 12 (sR [oM 13 0,oT 4 13] [4] 0
 .ret)
 .skip))
 (.seq (sR [oM 14 5,oP 15 14 1,oM 6 15] [0,1,5,6] 0
 (.cut q4b))
 (.cut q2c)))))
def qn:IFunc:={np:=2,res:=[.t 4],own:=false,trunc:=false,body:=q8z }
/- 344: slices.Concat[[]int,int]#K -/
def q90:ICode:=
 (.post (.seq (.region [oW 12 11 10] false)
 (.seq (.cond 12 .skip
 (.exit 0))
 (.seq (.block 1 (sR [oA 13 9 11,oL 14 13,oT 5 14] [0,3,5,9,10,11] 0
 (sR [oM 15 3,oM 16 5,oD 17 16,oN (.bin 18 .add 15 17),oM 3 18] [0,3,9,10,11] 0
 (sR [oM 19 3,oN (.bin 20 .lss 19 (.c (I 0)))] [0,3,9,10,11,20] 0
 (.cond 20 .bad
 .skip)))))
 (pR [oP 22 11 1,oM 11 22] [0,3,9,10,11] 0)))) [0,3,9,10,11] 0)
def q4c:ICode:=
 (.post (.block 0 (.loop q90)) [0,3] 0)
def q91:ICode:=
 (.post (.seq (.region [oW 28 27 26] false)
 (.seq (.cond 28 .skip
 (.exit 2))
 (.seq (.block 3 (sR [oA 29 25 27,oL 30 29,oT 8 30] [6,8,25,26,27] 0
 (pR [oT 31 6,oM 32 8,oN (.appendE 33 8 31 32),oT 6 33] [6,25,26,27] 0)))
 (pR [oP 34 27 1,oM 27 34] [6,25,26,27] 0)))) [6,25,26,27] 0)
def q4d:ICode:=
 (.post (.block 2 (.loop q91)) [6] 0)
def q4e:ICode:=
 (sR [oM 35 6,oT 2 35] [2] 0
 .ret)
def q4f:ICode:=
 (sR [oM 23 3,oY 24 119 [(.c .nils),23],oT 6 24] [0,6] 0
 (.seq (sR [oM 25 0,oD 26 25,oK 27 0] [6,25,26,27] 0
 (.cut q4d))
 (.cut q4e)))
def q92:ICode:=
 (sR [oN (.mv 2 (.c (.sl true 1 [])))] [0] 0
 (.seq (.region [oK 3 0] false)
 (.seq (sR [oM 9 0,oD 10 9,oK 11 0] [0,3,9,10,11] 0
 (.cut q4c))
 (.cut q4f))))
def q4g:IFunc:={np:=1,res:=[.t 2],own:=true,trunc:=true,body:=q92 }
/- 360: slices.Index[[]string,string] -/
end Go.Lw
end

/-! The code of package Model for the small machine. Written by program (gen.py). -/
section
set_option maxRecDepth 10000
namespace Go.Lw
open Go
/- 34: latchwork/model.Inputs -/
/- 35: latchwork/model.States -/
/- 38: latchwork/model.Check -/
def qkf:ICode:=
 (.post (.seq (.region [oW 29 28 27] false)
 (.seq (.cond 29 .skip
 (.exit 0))
 (.seq (.block 1 (sR [oM 30 28,oM 3 30] [1,3,27,28] 1
 (sR [oF 31 1 0,oL 32 31,oM 33 3,oY 34 76 [32,33],oM 4 34] [1,4,27,28] 1
 (sR [oM 35 4,oN (.bin 36 .neq 35 (.c (I 0)))] [1,4,27,28,36] 1
 (.cond 36 (sR [oM 37 4,oM 2 37] [2] 0
 .ret)
 .skip)))))
 (pR [oP 38 28 1,oM 28 38] [1,27,28] 1)))) [1,27,28] 1)
def qkg:ICode:=
 (.post (.block 0 (.loop qkf)) [1] 1)
def qkh:ICode:=
 (.seq (sR [oN (.load 40 true 5 1),oY 41 77 [40],oM 39 41,oG 42 39 0,oG 43 39 1,oM 5 42,oM 6 43] [1,5,6] 1
 (sR [
 oM 44 5,
 oN (.bin 45 .gtr 44 (.c (I 6))),
 oM 46 45,
  ⟨.mv 47 6,some (46,false)⟩,
  ⟨.bin 48 .gtr 47 (.c (I 10)),some (46,false)⟩,
 oN (.pick 49 46 (.c (.bool true)) 48)] [1,49] 1
 (.cond 49 (sR [oK 2 2] [2] 0
 .ret)
 .skip)))
 (sR [oN (.load 50 true 5 1),oN (.buildT 51 [.sl true 6 [],.sl true 2 [],.sl true 2 [],.sl true 1 [],.sl true 1 [],.sl true 1 []] [(0,5,50)]),oN (.box 52 true true 51),oM 7 52] [7] 0
 (sR [oM 53 7,oX 54 78 [53]] [7] 0
 (.seq (sR [oM 55 7,oY 56 79 [55],oM 8 56] [7,8] 0
 (sR [oM 57 8,oN (.bin 58 .neq 57 (.c (I 0)))] [7,8,58] 0
 (.cond 58 (sR [oM 59 8,oM 2 59] [2] 0
 .ret)
 .skip)))
 (sR [oM 60 7,oY 61 80 [60],oM 2 61] [2] 0
 .ret)))))
def qki:ICode:=
 (sR [oB 1 0,oK 2 0] [1] 1
 (.seq (sR [
 oF 9 1 0,
 oL 10 9,
 oD 11 10,
 oN (.bin 12 .gtr 11 (.c (I 80))),
 oM 13 12,
  ⟨.faddr 14 1 3,some (13,false)⟩,
  ⟨.load 15 false 1 14,some (13,false)⟩,
  ⟨.len 16 0 15,some (13,false)⟩,
  ⟨.bin 17 .gtr 16 (.c (I 8)),some (13,false)⟩,
 oN (.pick 18 13 (.c (.bool true)) 17),
 oM 19 18,
  ⟨.faddr 20 1 4,some (19,false)⟩,
  ⟨.load 21 false 1 20,some (19,false)⟩,
  ⟨.len 22 0 21,some (19,false)⟩,
  ⟨.bin 23 .gtr 22 (.c (I 8)),some (19,false)⟩,
 oN (.pick 24 19 (.c (.bool true)) 23)] [1,24] 1
 (.cond 24 (sR [oK 2 2] [2] 0
 .ret)
 .skip))
 (.seq (sR [oF 25 1 0,oL 26 25,oD 27 26,oK 28 0] [1,27,28] 1
 (.cut qkg))
 (.cut qkh))))
def qkj:IFunc:={np:=1,res:=[.t 2],own:=false,trunc:=true,body:=qki }
/- 42: latchwork/model.Cone -/
/- 71: latchwork/model.of -/
/- 76: latchwork/model.node -/
def qkk:ICode:=
 (.cond 39 (sR [oK 4 1] [4] 0
 .ret)
 .skip)
def qkl:ICode:=
 (sR [oK 4 0] [4] 0
 .ret)
def qkm:ICode:=
 (.post (.seq (.region [oW 70 69 68] false)
 (.seq (.cond 70 .skip
 (.exit 1))
 (.seq (.block 2 (sR [oM 71 69,oA 72 67 69,oL 73 72,oM 6 71,oM 7 73] [0,1,5,6,7,67,68,69] 1
 (sR [
 oM 74 6,
 oF 75 5 0,
 oL 76 75,
 oY 77 63 [76],
 oW 78 74 77,
 oM 79 78,
  ⟨.mv 80 7,some (79,true)⟩,
  ⟨.bin 81 .lss 80 (.c (I 0)),some (79,true)⟩,
  ⟨.mv 82 81,some (79,true)⟩,
  ⟨.mv 83 7,some (82,false)⟩,
  ⟨.mv 84 1,some (82,false)⟩,
  ⟨.bin 85 .geq 83 84,some (82,false)⟩,
  ⟨.pick 86 82 (.c (.bool true)) 85,some (79,true)⟩,
 oN (.pick 87 79 86 (.c (.bool false))),
 oM 88 87,
  ⟨.mv 89 6,some (88,false)⟩,
  ⟨.faddr 90 5 0,some (88,false)⟩,
  ⟨.load 91 false 1 90,some (88,false)⟩,
  ⟨.call (some 92) true 63 [91],some (88,false)⟩,
  ⟨.bin 93 .geq 89 92,some (88,false)⟩,
  ⟨.mv 94 93,some (88,false)⟩,
  ⟨.mv 95 7,some (94,true)⟩,
  ⟨.bin 96 .neq 95 (.c (I 0)),some (94,true)⟩,
  ⟨.pick 97 94 96 (.c (.bool false)),some (88,false)⟩,
 oN (.pick 98 88 (.c (.bool true)) 97)] [0,1,5,67,68,69,98] 1
 (.cond 98 (sR [oK 4 4] [4] 0
 .ret)
 .skip))))
 (pR [oP 99 69 1,oM 69 99] [0,1,5,67,68,69] 1)))) [0,1,5,67,68,69] 1)
def qkn:ICode:=
 (.post (.block 1 (.loop qkm)) [0,5] 1)
def qko:ICode:=
 (sQ [oF 100 5 0,oL 101 100,oF 102 5 1,oL 103 102,oF 104 5 5,oL 105 104,oM 106 0,oN (.load 107 true 6 5),oY 108 104 [106,107],oY 109 22 [101,103,105,108],oM 4 109] [4] 0
 .ret)
def qkp:ICode:=
 (.seq (sR [oF 61 5 2,oL 62 61,oF 63 5 3,oL 64 63,oF 65 5 4,oL 66 65,oN (.buildSl 67 1 [62,64,66]),oD 68 67,oK 69 0] [0,1,5,67,68,69] 1
 (.cut qkn))
 (.cut qko))
def qkq:ICode:=
 (sR [oK 4 0] [0,1] 0
 (sR [oM 8 0,oM 9 1,oN (.iaddr 10 6 none 8 9),oN (.load 11 true 6 10),oN (.alloc 5 false (.agg [I 0,I 0,I 0,I 0,I 0,I 0])),oN (.store false 6 5 11)] [0,1,5] 1
 (.seq (sR [
 oF 12 5 0,
 oL 13 12,
 oN (.bin 14 .lss 13 (.c (I 1))),
 oM 15 14,
  ⟨.faddr 16 5 0,some (15,false)⟩,
  ⟨.load 17 false 1 16,some (15,false)⟩,
  ⟨.bin 18 .geq 17 (.c (I 24)),some (15,false)⟩,
 oN (.pick 19 15 (.c (.bool true)) 18)] [0,1,5,19] 1
 (.cond 19 (sR [oK 4 7] [4] 0
 .ret)
 .skip))
 (.seq (sR [oF 20 5 1,oL 21 20,oY 22 62 [21],oN (.un 23 .not 22)] [0,1,5,23] 1
 (.cond 23 (sR [oK 4 3] [4] 0
 .ret)
 .skip))
 (.seq (sR [oF 24 5 0,oL 25 24,oY 26 103 [25]] [0,1,5,26] 1
 (.cond 26 (.seq (.block 0 (sR [
 oF 28 5 0,
 oL 29 28,
 oE 30 29 1,
 oM 31 30,
  ⟨.faddr 32 5 5,some (31,true)⟩,
  ⟨.load 33 false 1 32,some (31,true)⟩,
  ⟨.faddr 34 5 1,some (31,true)⟩,
  ⟨.load 35 false 1 34,some (31,true)⟩,
  ⟨.call (some 36) true 65 [33,35],some (31,true)⟩,
  ⟨.un 37 .not 36,some (31,true)⟩,
 oN (.pick 38 31 37 (.c (.bool false))),
 oM 27 38] [5,27] 1
 (.cond 27 (sR [oK 4 3] [4] 0
 .ret)
 (.seq (sR [
 oF 40 5 0,
 oL 41 40,
 oN (.bin 42 .neq 41 (.c (I 1))),
 oM 43 42,
  ⟨.faddr 44 5 5,some (43,true)⟩,
  ⟨.load 45 false 1 44,some (43,true)⟩,
  ⟨.bin 46 .neq 45 (.c (I 0)),some (43,true)⟩,
 oN (.pick 47 43 46 (.c (.bool false))),
 oM 39 47] [5,39] 1
 (.cond 39 (.post .skip [39] 0)
 (.post (pR [
 oF 48 5 2,
 oL 49 48,
 oN (.bin 50 .neq 49 (.c (I 0))),
 oM 51 50,
  ⟨.faddr 52 5 3,some (51,false)⟩,
  ⟨.load 53 false 1 52,some (51,false)⟩,
  ⟨.bin 54 .neq 53 (.c (I 0)),some (51,false)⟩,
 oN (.pick 55 51 (.c (.bool true)) 54),
 oM 56 55,
  ⟨.faddr 57 5 4,some (56,false)⟩,
  ⟨.load 58 false 1 57,some (56,false)⟩,
  ⟨.bin 59 .neq 58 (.c (I 0)),some (56,false)⟩,
 oN (.pick 60 56 (.c (.bool true)) 59),
 oM 39 60] [39] 0) [39] 0)))
 (.cut qkk)))))
 (.cut qkl))
 .skip))
 (.cut qkp))))))
def qkr:IFunc:={np:=2,res:=[.t 4],own:=false,trunc:=true,body:=qkq }
/- 77: latchwork/model.Bits -/
def qks:ICode:=
 (sR [oB 1 0,oK 2 0,oK 3 0] [1] 1
 (sQ [oN (.load 4 true 5 1),oN (.load 5 true 5 1),oY 6 101 [5,(.c (I 2))],oY 7 105 [4,6],oN (.load 8 true 5 1),oN (.load 9 true 5 1),oY 10 101 [9,(.c (I 3))],oY 11 105 [8,10],oM 2 7,
 oM 3 11] [2,3] 0
 .ret))
def qkt:IFunc:={np:=1,res:=[.t 2,.t 3],own:=false,trunc:=true,body:=qks }
/- 78: (*latchwork/model.checker).lean -/
def qku:ICode:=
 (.post (.seq (.region [oW 29 28 27] false)
 (.seq (.cond 29 .skip
 (.exit 2))
 (.seq (.block 3 (sR [oA 30 26 28,oL 31 30,oM 6 31] [0,4,6,11,12,13,26,27,28] 0
 (pR [
 oM 32 4,
 oM 33 32,
  ⟨.mv 34 0,some (33,false)⟩,
  ⟨.nilc 35 34,some (33,false)⟩,
  ⟨.faddr 36 35 5,some (33,false)⟩,
  ⟨.load 37 false 1 36,some (33,false)⟩,
  ⟨.mv 38 6,some (33,false)⟩,
  ⟨.iaddr 39 1 none 37 38,some (33,false)⟩,
  ⟨.load 40 false 1 39,some (33,false)⟩,
 oN (.pick 41 33 (.c (.bool true)) 40),
 oM 4 41] [0,4,11,12,13,26,27,28] 0)))
 (pR [oP 42 28 1,oM 28 42] [0,4,11,12,13,26,27,28] 0)))) [0,4,11,12,13,26,27,28] 0)
def qkv:ICode:=
 (.post (.block 2 (.loop qku)) [0,4,11,12,13] 0)
def qkw:ICode:=
 (pR [oM 43 0,oM 44 0,oC 45 44,oF 46 45 5,oN (.loadT 47 46),oM 48 4,oN (.buildSl 49 1 [48]),oN (.append 50 1 1 47 49),oC 51 43,oF 52 51 5,oN (.store true 1 52 50)] [0,11,12,13] 0)
def qkx:ICode:=
 (pR [oP 53 13 1,oM 13 53] [0,11,12,13] 0)
def qky:ICode:=
 (.post (.seq (.region [oW 14 13 12] false)
 (.seq (.cond 14 .skip
 (.exit 0))
 (.seq (.block 1 (sR [oN (.iaddr 15 6 none 11 13),oN (.load 16 true 6 15),oN (.alloc 3 false (.agg [I 0,I 0,I 0,I 0,I 0,I 0])),oN (.store false 6 3 16)] [0,3,11,12,13] 1
 (sR [
 oF 17 3 0,
 oL 18 17,
 oE 19 18 2,
 oM 20 19,
  ⟨.faddr 21 3 0,some (20,false)⟩,
  ⟨.load 22 false 1 21,some (20,false)⟩,
  ⟨.bin 23 .eql 22 (.c (I 3)),some (20,false)⟩,
 oN (.pick 24 20 (.c (.bool true)) 23),
 oM 4 24] [0,3,4,11,12,13] 1
 (.seq (sR [oN (.load 25 true 6 3),oY 26 81 [25],oD 27 26,oK 28 0] [0,4,11,12,13,26,27,28] 0
 (.cut qkv))
 (.cut qkw)))))
 (.cut qkx)))) [0,11,12,13] 0)
def qkz:ICode:=
 (.post (.block 0 (.loop qky)) [] 0)
def ql0:ICode:=
 (sR [oM 7 0,oC 8 7,oF 9 8 0,oF 10 9 0,oL 11 10,oD 12 11,oK 13 0] [0,11,12,13] 0
 (.cut qkz))
def ql1:IFunc:={np:=1,res:=[],own:=false,trunc:=false,body:=ql0 }
/- 79: (*latchwork/model.checker).pairs -/
def ql2:ICode:=
 (.post (.seq (.region [oW 33 32 31] false)
 (.seq (.cond 33 .skip
 (.exit 2))
 (.seq (.block 3 (sR [oN (.iaddr 34 2 none 30 32),oN (.load 35 true 2 34),oN (.alloc 6 false (.agg [I 0,I 0])),oN (.store false 2 6 35)] [0,3,6,23,24,25,30,31,32] 1
 (sR [oM 36 0,oN (.load 37 true 2 6),oM 38 3,oE 39 38 0,oY 40 106 [36,37,39],oM 7 40] [0,3,7,23,24,25,30,31,32] 0
 (sR [oM 41 7,oN (.bin 42 .neq 41 (.c (I 0)))] [0,3,7,23,24,25,30,31,32,42] 0
 (.cond 42 (sR [oM 43 7,oM 2 43] [2] 0
 .ret)
 .skip)))))
 (pR [oP 44 32 1,oM 32 44] [0,3,23,24,25,30,31,32] 0)))) [0,3,23,24,25,30,31,32] 0)
def ql3:ICode:=
 (.post (.block 2 (.loop ql2)) [0,23,24,25] 0)
def ql4:ICode:=
 (pR [oP 45 25 1,oM 25 45] [0,23,24,25] 0)
def ql5:ICode:=
 (.post (.seq (.region [oW 26 25 24] false)
 (.seq (.cond 26 .skip
 (.exit 0))
 (.seq (.block 1 (sR [oM 27 25,oA 28 23 25,oL 29 28,oM 3 27,oT 4 29] [0,3,4,23,24,25] 0
 (sR [oM 30 4,oD 31 30,oK 32 0] [0,3,23,24,25,30,31,32] 0
 (.cut ql3))))
 (.cut ql4)))) [0,23,24,25] 0)
def ql6:ICode:=
 (.post (.block 0 (.loop ql5)) [0] 0)
def ql7:ICode:=
 (.post (.seq (.region [oW 66 65 64] false)
 (.seq (.cond 66 .skip
 (.exit 6))
 (.seq (.block 7 (sR [oN (.iaddr 67 2 none 63 65),oN (.load 68 true 2 67),oN (.alloc 12 false (.agg [I 0,I 0])),oN (.store false 2 12 68)] [9,10,12,56,57,58,63,64,65] 1
 (pR [oM 69 10,oF 70 12 0,oL 71 70,oN (.mupd 0 69 71 (.c (.bool true)))] [9,10,56,57,58,63,64,65] 0)))
 (pR [oP 72 65 1,oM 65 72] [9,10,56,57,58,63,64,65] 0)))) [9,10,56,57,58,63,64,65] 0)
def ql8:ICode:=
 (.post (.block 6 (.loop ql7)) [9,10,56,57,58] 0)
def ql9:ICode:=
 (sR [oM 73 10,oN (.len 74 2 73),oM 75 9,oD 76 75,oW 77 74 76] [56,57,58,77] 0
 (.cond 77 (sR [oK 2 6] [2] 0
 .ret)
 .skip))
def qla:ICode:=
 (pR [oP 78 58 1,oM 58 78] [56,57,58] 0)
def qlb:ICode:=
 (.post (.seq (.region [oW 59 58 57] false)
 (.seq (.cond 59 .skip
 (.exit 4))
 (.seq (.block 5 (sR [oA 60 56 58,oL 61 60,oT 9 61] [9,56,57,58] 0
 (sR [oN (.mkmap 62),oM 10 62] [9,10,56,57,58] 0
 (.seq (sR [oM 63 9,oD 64 63,oK 65 0] [9,10,56,57,58,63,64,65] 0
 (.cut ql8))
 (.cut ql9)))))
 (.cut qla)))) [56,57,58] 0)
def qlc:ICode:=
 (.post (.block 4 (.loop qlb)) [] 0)
def qld:ICode:=
 (.seq (.region [oK 2 0] false)
 .ret)
def qle:ICode:=
 (.seq (sQ [oM 46 0,oC 47 46,oF 48 47 0,oF 49 48 1,oL 50 49,oM 51 0,oC 52 51,oF 53 52 0,oF 54 53 2,oL 55 54,oN (.buildSl 56 1 [50,55]),oD 57 56,oK 58 0] [56,57,58] 0
 (.cut qlc))
 (.cut qld))
def qlf:ICode:=
 (sR [oK 2 0] [0] 0
 (.seq (sQ [oM 13 0,oC 14 13,oF 15 14 0,oF 16 15 1,oL 17 16,oM 18 0,oC 19 18,oF 20 19 0,oF 21 20 2,oL 22 21,oN (.buildSl 23 1 [17,22]),oD 24 23,oK 25 0] [0,23,24,25] 0
 (.cut ql6))
 (.cut qle)))
def qlg:IFunc:={np:=1,res:=[.t 2],own:=false,trunc:=true,body:=qlf }
/- 80: (*latchwork/model.checker).marks -/
def qlh:ICode:=
 (sR [oN (.box 1 true false 0),oK 2 0] [1] 0
 (.seq (sQ [oL 4 1,oC 5 4,oF 6 5 0,oF 7 6 2,oL 8 7,oD 9 8,oL 10 1,oC 11 10,oF 12 11 0,oN (.load 13 true 5 12),oY 14 101 [13,(.c (I 3))],oD 15 14,oW 16 9 15] [1,16] 0
 (.cond 16 (sR [oK 2 5] [2] 0
 .ret)
 .skip))
 (sQ [oL 17 1,oC 18 17,oF 19 18 0,oF 20 19 3,oL 21 20,oL 22 1,oC 23 22,oF 24 23 0,oF 25 24 4,oL 26 25,oN (.buildSl 27 1 [21,26]),oY 28 107 [27],oT 3 28] [1,3] 0
 (.seq (sR [oM 29 3,oN (.mkfn 30 108 [1]),oY 31 86 [29,30]] [1,3,31] 0
 (.cond 31 (sR [oK 2 5] [2] 0
 .ret)
 .skip))
 (.seq (sR [oM 32 3,oN (.mkfn 33 109 [1]),oY 34 86 [32,33]] [34] 0
 (.cond 34 (sR [oK 2 1] [2] 0
 .ret)
 .skip))
 (sR [oK 2 0] [2] 0
 .ret))))))
def qli:IFunc:={np:=1,res:=[.t 2],own:=false,trunc:=true,body:=qlh }
/- 81: latchwork/model.Args -/
def qlj:ICode:=
 (sR [oB 1 0,oN (.mv 2 (.c (.sl true 1 [])))] [1] 1
 (sQ [oF 3 1 2,oL 4 3,oF 5 1 3,oL 6 5,oF 7 1 4,oL 8 7,oN (.buildSl 9 1 [4,6,8]),oF 10 1 0,oL 11 10,oY 12 63 [11],oN (.slice 13 1 9 none (some 12)),oT 2 13] [2] 0
 .ret))
def qlk:IFunc:={np:=1,res:=[.t 2],own:=true,trunc:=true,body:=qlj }
/- 101: latchwork/model.Of -/
def qll:ICode:=
 (pR [oP 24 11 1,oM 11 24] [1,5,9,10,11] 0)
def qlm:ICode:=
 (.post (.seq (.region [oW 12 11 10] false)
 (.seq (.cond 12 .skip
 (.exit 0))
 (.seq (.block 1 (sR [oM 13 11,oN (.iaddr 14 6 none 9 11),oN (.load 15 true 6 14),oN (.alloc 7 false (.agg [I 0,I 0,I 0,I 0,I 0,I 0])),oM 6 13,oN (.store false 6 7 15)] [1,5,6,7,9,10,11] 1
 (sR [oF 16 7 0,oL 17 16,oM 18 1,oN (.bin 19 .eql 17 18)] [1,5,6,9,10,11,19] 0
 (.cond 19 (.post (pR [oT 20 5,oM 21 6,oN (.buildSl 22 1 [21]),oN (.append 23 1 8 20 22),oT 5 23] [1,5,9,10,11] 0) [1,5,9,10,11] 0)
 (.post .skip [1,5,9,10,11] 0)))))
 (.cut qll)))) [1,5,9,10,11] 0)
def qln:ICode:=
 (.post (.block 0 (.loop qlm)) [5] 0)
def qlo:ICode:=
 (sR [oM 25 5,oT 4 25] [4] 0
 .ret)
def qlp:ICode:=
 (sR [oB 2 0,oN (.mv 4 (.c (.sl true 1 [])))] [1,2] 1
 (.seq (.region [oN (.mv 5 (.c (.sl true 1 [])))] false)
 (.seq (sR [oF 8 2 0,oL 9 8,oD 10 9,oK 11 0] [1,5,9,10,11] 0
 (.cut qln))
 (.cut qlo))))
def qlq:IFunc:={np:=2,res:=[.t 4],own:=false,trunc:=true,body:=qlp }
/- 103: latchwork/model.leaf -/
def qlr:ICode:=
 (sR [oN (.mv 2 (.c (.bool false)))] [0] 0
 (sR [
 oM 3 0,
 oN (.bin 4 .geq 3 (.c (I 1))),
 oM 5 4,
  ⟨.mv 6 0,some (5,true)⟩,
  ⟨.bin 7 .leq 6 (.c (I 3)),some (5,true)⟩,
 oN (.pick 8 5 7 (.c (.bool false))),
 oM 2 8] [2] 0
 .ret))
def qls:IFunc:={np:=1,res:=[.t 2],own:=false,trunc:=true,body:=qlr }
/- 104: latchwork/model.Widths -/
def qlt:ICode:=
 (.post (.seq (.region [oW 12 11 10] false)
 (.seq (.cond 12 .skip
 (.exit 0))
 (.seq (.block 1 (sR [oM 13 11,oA 14 9 11,oL 15 14,oM 6 13,oM 7 15] [0,4,5,6,7,9,10,11] 3
 (pR [oM 16 6,oM 17 0,oM 18 7,oN (.iaddr 19 6 none 17 18),oF 20 19 1,oL 21 20,oN (.iaddr 22 1 (some 3) 5 16),oN (.store false 1 22 21)] [0,4,5,9,10,11] 3)))
 (pR [oP 23 11 1,oM 11 23] [0,4,5,9,10,11] 3)))) [0,4,5,9,10,11] 3)
def qlu:ICode:=
 (.post (.block 0 (.loop qlt)) [4,5] 3)
def qlv:ICode:=
 (sR [oN (.load 24 true 3 5),oN (.store false 3 4 24)] [4] 2
 .ret)
def qlw:ICode:=
 (sR [oB 3 1,oN (.alloc 4 false (.agg [I 0,I 0,I 0]))] [0,3,4] 2
 (.seq (.region [oN (.alloc 5 false (.agg [I 0,I 0,I 0]))] false)
 (.seq (sR [oN (.load 8 true 6 3),oY 9 81 [8],oD 10 9,oK 11 0] [0,4,5,9,10,11] 3
 (.cut qlu))
 (.cut qlv))))
def qlx:IFunc:={np:=2,res:=[.cell 4 true 3],own:=false,trunc:=true,body:=qlw }
/- 105: latchwork/model.bits -/
def qly:ICode:=
 (.post (.seq (.region [oW 11 10 9] false)
 (.seq (.cond 11 .skip
 (.exit 0))
 (.seq (.block 1 (sR [oA 12 8 10,oL 13 12,oM 7 13] [2,5,7,8,9,10] 1
 (pR [oM 14 5,oF 15 2 0,oL 16 15,oM 17 7,oN (.iaddr 18 6 none 16 17),oF 19 18 1,oL 20 19,oN (.bin 21 .add 14 20),oM 5 21] [2,5,8,9,10] 1)))
 (pR [oP 22 10 1,oM 10 22] [2,5,8,9,10] 1)))) [2,5,8,9,10] 1)
def qlz:ICode:=
 (.post (.block 0 (.loop qly)) [5] 0)
def qm0:ICode:=
 (sR [oM 23 5,oM 4 23] [4] 0
 .ret)
def qm1:ICode:=
 (sR [oB 2 0,oK 4 0] [1,2] 1
 (.seq (.region [oK 5 0] false)
 (.seq (sR [oM 8 1,oD 9 8,oK 10 0] [2,5,8,9,10] 1
 (.cut qlz))
 (.cut qm0))))
def qm2:IFunc:={np:=2,res:=[.t 4],own:=false,trunc:=true,body:=qm1 }
/- 106: (*latchwork/model.checker).pair -/
def qm3:ICode:=
 (sR [oB 4 1,oK 6 0] [0,2,4] 1
 (.seq (.block 0 (sQ [
 oM 8 0,
 oF 9 4 0,
 oL 10 9,
 oY 11 118 [8,10],
 oN (.un 12 .not 11),
 oM 13 12,
  ⟨.mv 14 0,some (13,false)⟩,
  ⟨.faddr 15 4 1,some (13,false)⟩,
  ⟨.load 16 false 1 15,some (13,false)⟩,
  ⟨.call (some 17) true 118 [14,16],some (13,false)⟩,
  ⟨.un 18 .not 17,some (13,false)⟩,
 oN (.pick 19 13 (.c (.bool true)) 18),
 oM 20 19,
  ⟨.mv 21 0,some (20,false)⟩,
  ⟨.nilc 22 21,some (20,false)⟩,
  ⟨.faddr 23 22 0,some (20,false)⟩,
  ⟨.faddr 24 23 0,some (20,false)⟩,
  ⟨.load 25 false 1 24,some (20,false)⟩,
  ⟨.faddr 26 4 0,some (20,false)⟩,
  ⟨.load 27 false 1 26,some (20,false)⟩,
  ⟨.iaddr 28 6 none 25 27,some (20,false)⟩,
  ⟨.faddr 29 28 0,some (20,false)⟩,
  ⟨.load 30 false 1 29,some (20,false)⟩,
  ⟨.bin 31 .neq 30 (.c (I 3)),some (20,false)⟩,
 oN (.pick 32 20 (.c (.bool true)) 31),
 oM 7 32] [0,2,4,7] 1
 (.cond 7 (sR [oK 6 5] [6] 0
 .ret)
 (sQ [oM 34 0,oC 35 34,oF 36 35 0,oF 37 36 0,oL 38 37,oF 39 4 0,oL 40 39,oN (.iaddr 41 6 none 38 40),oF 42 41 1,oL 43 42,oM 44 0,oC 45 44,oF 46 45 0,oF 47 46 0,oL 48 47,oF 49 4 1,
 oL 50 49,oN (.iaddr 51 6 none 48 50),oF 52 51 1,oL 53 52,oN (.bin 54 .neq 43 53),oM 33 54] [0,2,4,33] 1
 (.cond 33 (sR [oK 6 1] [6] 0
 .ret)
 (sQ [
 oM 56 2,
 oM 57 56,
  ⟨.mv 58 0,some (57,true)⟩,
  ⟨.nilc 59 58,some (57,true)⟩,
  ⟨.faddr 60 59 5,some (57,true)⟩,
  ⟨.load 61 false 1 60,some (57,true)⟩,
  ⟨.faddr 62 4 1,some (57,true)⟩,
  ⟨.load 63 false 1 62,some (57,true)⟩,
  ⟨.iaddr 64 1 none 61 63,some (57,true)⟩,
  ⟨.load 65 false 1 64,some (57,true)⟩,
 oN (.pick 66 57 65 (.c (.bool false))),
 oM 55 66] [55] 0
 (.cond 55 (sR [oK 6 4] [6] 0
 .ret)
 .skip)))))))
 (sR [oK 6 0] [6] 0
 .ret)))
def qm4:IFunc:={np:=3,res:=[.t 6],own:=false,trunc:=true,body:=qm3 }
/- 108: (*latchwork/model.checker).marks$1 -/
def qm5:ICode:=
 (sR [oN (.mv 3 (.c (.bool false)))] [0,1] 0
 (sR [oL 4 1,oM 5 0,oY 6 118 [4,5],oN (.un 7 .not 6),oM 3 7] [3] 0
 .ret))
def qm6:IFunc:={np:=2,res:=[.t 3],own:=false,trunc:=true,body:=qm5 }
/- 109: (*latchwork/model.checker).marks$2 -/
def qm7:ICode:=
 (sR [oN (.mv 3 (.c (.bool false)))] [0,1] 0
 (sR [oL 4 1,oC 5 4,oF 6 5 0,oF 7 6 0,oL 8 7,oM 9 0,oN (.iaddr 10 6 none 8 9),oF 11 10 1,oL 12 11,oN (.bin 13 .neq 12 (.c (I 1))),oM 3 13] [3] 0
 .ret))
def qm8:IFunc:={np:=2,res:=[.t 3],own:=false,trunc:=true,body:=qm7 }
/- 118: (*latchwork/model.checker).is -/
def qm9:ICode:=
 (sR [oN (.mv 4 (.c (.bool false)))] [0,1] 0
 (sR [
 oM 5 1,
 oN (.bin 6 .geq 5 (.c (I 0))),
 oM 7 6,
  ⟨.mv 8 1,some (7,true)⟩,
  ⟨.mv 9 0,some (7,true)⟩,
  ⟨.nilc 10 9,some (7,true)⟩,
  ⟨.faddr 11 10 0,some (7,true)⟩,
  ⟨.faddr 12 11 0,some (7,true)⟩,
  ⟨.load 13 false 1 12,some (7,true)⟩,
  ⟨.len 14 0 13,some (7,true)⟩,
  ⟨.bin 15 .lss 8 14,some (7,true)⟩,
 oN (.pick 16 7 15 (.c (.bool false))),
 oM 4 16] [4] 0
 .ret))
def qma:IFunc:={np:=2,res:=[.t 4],own:=false,trunc:=true,body:=qm9 }
/- 120: latchwork/model.Args#K -/
end Go.Lw
end

/-! The code of package Prove for the small machine. Written by program (gen.py). -/
section
set_option maxRecDepth 10000
namespace Go.Lw
open Go
/- 257: latchwork/prove.Stuck -/
def qmb:ICode:=
 (sR [oN (.box 3 true false 0),oN (.box 4 true false 1),oK 6 0] [2,3,4] 0
 (sR [oN (.load 10 true 8 3),oL 11 4,oN (.mkfn 12 264 [3,4]),oY 13 265 [10,11,12],oM 9 13,oG 14 9 0,oG 15 9 1,oN (.alloc 7 false (.agg [I 0,.sl true 1 []])),oN (.store true 2 7 14),
 oM 8 15] [2,7,8] 1
 (.seq (sR [oM 16 8,oN (.bin 17 .neq 16 (.c (I 0)))] [2,7,17] 1
 (.cond 17 (sR [oK 6 3] [6] 0
 .ret)
 .skip))
 (sR [oN (.load 18 true 2 7),oM 19 2,oX 20 164 [18,19],oN (.field 21 false 1 0 20),oM 6 21] [6] 0
 .ret))))
def qmc:IFunc:={np:=3,res:=[.t 6],own:=false,trunc:=true,body:=qmb }
/- 264: latchwork/prove.Stuck$1 -/
def qmd:ICode:=
 (.seq (.region [oN (.alloc 2 false (.agg [I 0,.sl true 1 []]))] false)
 (sR [oN (.load 3 true 8 0),oL 4 1,oY 5 275 [3,4],oN (.store true 2 2 5)] [2] 1
 .ret))
def qme:IFunc:={np:=2,res:=[.cell 2 true 2],own:=false,trunc:=true,body:=qmd }
/- 275: latchwork/prove.raw -/
def q93:ICode:=
 (.post (.seq (.region [oW 17 16 15] false)
 (.seq (.cond 17 .skip
 (.exit 0))
 (.seq (.block 1 (sR [oM 18 16,oM 6 18] [1,4,5,6,15,16] 2
 (pR [oM 19 5,oM 20 6,oX 21 277 [19,20]] [1,4,5,15,16] 2)))
 (pR [oP 22 16 1,oM 16 22] [1,4,5,15,16] 2)))) [1,4,5,15,16] 2)
def q4h:ICode:=
 (.post (.block 0 (.loop q93)) [1,4,5] 2)
def q94:ICode:=
 (.post (.seq (sR [oM 30 8,oM 31 1,oN (.bin 32 .leq 30 31)] [1,4,5,7,8,24,25,32] 2
 (.cond 32 .skip
 (.exit 4)))
 (.seq (.block 5 (pR [oM 35 5,oM 36 7,oM 37 8,oX 38 278 [35,36,37]] [1,4,5,7,8,24,25] 2))
 (pR [oM 33 8,oP 34 33 1,oM 8 34] [1,4,5,7,8,24,25] 2))) [1,4,5,7,8,24,25] 2)
def q4i:ICode:=
 (.post (.block 4 (.loop q94)) [1,4,5,24,25] 2)
def q2d:ICode:=
 (pR [oP 39 25 1,oM 25 39] [1,4,5,24,25] 2)
def q95:ICode:=
 (.post (.seq (.region [oW 26 25 24] false)
 (.seq (.cond 26 .skip
 (.exit 2))
 (.seq (.block 3 (sR [oM 27 25,oM 7 27] [1,4,5,7,24,25] 2
 (sR [oM 28 7,oP 29 28 1,oM 8 29] [1,4,5,7,8,24,25] 2
 (.cut q4i))))
 (.cut q2d)))) [1,4,5,24,25] 2)
def q4j:ICode:=
 (.post (.block 2 (.loop q95)) [4,5] 2)
def q2e:ICode:=
 (sR [oM 40 5,oC 41 40,oF 42 41 0,oL 43 42,oC 44 43,oF 45 44 0,oL 46 45,oC 47 46,oF 48 47 0,oN (.load 49 true 2 48),oN (.store true 2 4 49)] [4] 2
 .ret)
def q2f:ICode:=
 (.seq (sR [oM 23 1,oP 24 23 1,oK 25 0] [1,4,5,24,25] 2
 (.cut q4j))
 (.cut q2e))
def q96:ICode:=
 (sR [oB 2 0,oN (.alloc 4 false (.agg [I 0,.sl true 1 []]))] [1,2,4] 2
 (sQ [oN (.load 9 true 8 2),oM 10 1,oN (.callP (some 11) 276 [9,10,(.c (.bool false))] []),oN (.loadJ 12 true 8 2),
 oN (.buildT 13 [.nilp,I 0,.sl true 2 [],I 0,I 0,.sl true 1 [],.sl true 1 [],.sl true 1 [],.sl true 1 []] [(0,1,11),(1,8,12)]),oN (.box 14 true true 13),oM 5 14] [1,4,5] 2
 (.seq (sR [oM 15 1,oK 16 0] [1,4,5,15,16] 2
 (.cut q4h))
 (.cut q2f))))
def q4k:IFunc:={np:=2,res:=[.cell 4 true 2],own:=false,trunc:=true,body:=q96 }
/- 277: (*latchwork/prove.prover).good -/
def q97:ICode:=
 (.post (.seq (.region [oW 13 12 11] false)
 (.seq (.cond 13 .skip
 (.exit 0))
 (.seq (.block 1 (sR [oA 14 10 12,oL 15 14,oM 5 15] [0,1,5,10,11,12] 0
 (pQ [oM 16 0,oC 17 16,oF 18 17 0,oL 19 18,oC 20 19,oF 21 20 0,oL 22 21,oM 23 5,oN (.bin 24 .xor 23 (.c (I 1))),oM 25 1,oM 26 0,oC 27 26,oF 28 27 0,oL 29 28,oC 30 29,oF 31 30 9,oL 32 31,
 oN (.bin 33 .mul 25 32),oX 34 54 [22,24,33]] [0,1,10,11,12] 0)))
 (pR [oP 35 12 1,oM 12 35] [0,1,10,11,12] 0)))) [0,1,10,11,12] 0)
def q4l:ICode:=
 (.post (.block 0 (.loop q97)) [] 0)
def q98:ICode:=
 (sR [oM 6 0,oC 7 6,oF 8 7 1,oF 9 8 6,oL 10 9,oD 11 10,oK 12 0] [0,1,10,11,12] 0
 (.cut q4l))
def q4m:IFunc:={np:=2,res:=[],own:=false,trunc:=false,body:=q98 }
/- 278: (*latchwork/prove.prover).differ -/
def q99:ICode:=
 (.post (.seq (.region [oW 18 17 16] false)
 (.seq (.cond 18 .skip
 (.exit 0))
 (.seq (.block 1 (sR [oM 19 17,oM 7 19] [0,1,2,6,7,16,17] 0
 (sR [oM 20 0,oC 21 20,oF 22 21 0,oL 23 22,oC 24 23,oF 25 24 0,oL 26 25,oC 27 26,oF 28 27 0,oF 29 28 0,oL 30 29,oP 31 30 1,oC 32 26,oF 33 32 0,oF 34 33 0,oN (.store false 1 34 31)] [0,1,2,6,7,16,17] 0
 (sR [oM 35 0,oC 36 35,oF 37 36 0,oL 38 37,oC 39 38,oF 40 39 0,oL 41 40,oC 42 41,oF 43 42 0,oF 44 43 0,oL 45 44,oM 8 45] [0,1,2,6,7,8,16,17] 0
 (sQ [oM 46 0,oC 47 46,oF 48 47 0,oL 49 48,oM 50 1,oM 51 7,oY 52 292 [49,50,51,(.c (.bool true))],oM 53 0,oC 54 53,oF 55 54 0,oL 56 55,oM 57 2,oM 58 7,
 oY 59 292 [56,57,58,(.c (.bool true))],oM 9 52,oM 10 59] [0,1,2,6,8,9,10,16,17] 0
 (sR [oM 60 0,oC 61 60,oF 62 61 0,oL 63 62,oC 64 63,oF 65 64 0,oL 66 65,oM 67 8,oN (.un 68 .neg 67),oM 69 9,oM 70 10,oN (.buildSl 71 1 [68,69,70]),oX 72 91 [66,71]] [0,1,2,6,8,9,10,16,17] 0
 (sR [oM 73 0,oC 74 73,oF 75 74 0,oL 76 75,oC 77 76,oF 78 77 0,oL 79 78,oM 80 8,oN (.un 81 .neg 80),oM 82 9,oN (.un 83 .neg 82),oM 84 10,oN (.un 85 .neg 84),
 oN (.buildSl 86 1 [81,83,85]),oX 87 91 [79,86]] [0,1,2,6,8,16,17] 0
 (pR [oT 88 6,oM 89 8,oN (.buildSl 90 1 [89]),oN (.append 91 1 8 88 90),oT 6 91] [0,1,2,6,16,17] 0))))))))
 (pR [oP 92 17 1,oM 17 92] [0,1,2,6,16,17] 0)))) [0,1,2,6,16,17] 0)
def q4n:ICode:=
 (.post (.block 0 (.loop q99)) [0,6] 0)
def q2g:ICode:=
 (pR [oM 93 0,oC 94 93,oF 95 94 0,oL 96 95,oC 97 96,oF 98 97 0,oL 99 98,oM 100 6,oX 101 91 [99,100]] [] 0)
def q9a:ICode:=
 (sR [oN (.buildSl 11 1 []),oT 6 11] [0,1,2,6] 0
 (.seq (sR [oM 12 0,oC 13 12,oF 14 13 1,oF 15 14 3,oL 16 15,oK 17 0] [0,1,2,6,16,17] 0
 (.cut q4n))
 (.cut q2g)))
def q4o:IFunc:={np:=3,res:=[],own:=false,trunc:=false,body:=q9a }
/- 334: latchwork/prove.Different -/
def q9b:ICode:=
 (sR [oN (.box 2 true false 0),oN (.box 3 true false 1),oN (.alloc 4 false (.agg [I 0,.sl true 1 []])),oK 5 0] [2,3,4] 1
 (.seq (sR [oN (.load 7 true 8 2),oL 8 3,oY 9 336 [7,8,(.c (.bool false))],oM 6 9] [2,3,4,6] 1
 (sR [oM 10 6,oN (.bin 11 .neq 10 (.c (I 0)))] [2,3,4,6,11] 1
 (.cond 11 (sR [oN (.build 12 [I 0,.sl true 1 []] []),oM 13 6,oN (.store true 2 4 12),oM 5 13] [4,5] 1
 .ret)
 .skip)))
 (sR [oN (.load 14 true 8 2),oL 15 3,oN (.mkfn 16 341 [2,3]),oY 17 265 [14,15,16],oG 18 17 0,oG 19 17 1,oN (.store true 2 4 18),oM 5 19] [4,5] 1
 .ret)))
def q1d:IFunc:={np:=2,res:=[.cell 4 true 2,.t 5],own:=false,trunc:=true,body:=q9b }
/- 341: latchwork/prove.Different$1 -/
def q9c:ICode:=
 (.seq (.region [oN (.alloc 2 false (.agg [I 0,.sl true 1 []]))] false)
 (sR [oN (.load 3 true 8 0),oL 4 1,oY 5 275 [3,4],oN (.store true 2 2 5)] [2] 1
 .ret))
def q4p:IFunc:={np:=2,res:=[.cell 2 true 2],own:=false,trunc:=true,body:=q9c }
/- 342: latchwork/prove.Prove -/
def qmf:ICode:=
 (.post (.seq (.region [oW 36 35 34] false)
 (.seq (.cond 36 .skip
 (.exit 0))
 (.seq (.block 1 (sR [oM 37 35,oM 10 37] [1,2,3,9,10,34,35] 2
 (sR [oN (.load 39 true 5 3),oN (.load 40 true 8 9),oM 41 10,oM 42 2,oY 43 266 [39,40,41,42],oM 38 43,oG 44 38 0,oG 45 38 1,oN (.alloc 12 false (.agg [.sl true 1 [],.sl true 1 []])),
 oM 11 44,oN (.store true 2 12 45)] [1,2,3,9,11,34,35] 2
 (sR [oM 46 11] [1,2,3,9,34,35,46] 2
 (.block 2 (sR [oE 48 46 1,oM 47 48] [1,2,3,9,34,35,46,47] 2
 (.cond 47 (sR [oN (.mv 6 (.c (.bool false))),oK 7 0] [6,7] 0
 .ret)
 (sR [oE 50 46 3,oM 49 50] [1,2,3,9,34,35,49] 2
 (.cond 49 (sR [oN (.mv 6 (.c (.bool false))),oK 7 8] [6,7] 0
 .ret)
 .skip)))))))))
 (pR [oP 51 35 1,oM 35 51] [1,2,3,9,34,35] 2)))) [1,2,3,9,34,35] 2)
def qmg:ICode:=
 (.post (.block 0 (.loop qmf)) [1,2,9] 2)
def qmh:ICode:=
 (.seq (sR [oN (.load 52 true 8 9),oM 53 1,oM 54 2,oY 55 257 [52,53,54]] [55] 0
 (.block 3 (sR [oE 57 55 1,oM 56 57] [55,56] 0
 (.cond 56 (sR [oN (.mv 6 (.c (.bool false))),oK 7 0] [6,7] 0
 .ret)
 (sR [oE 59 55 3,oM 58 59] [58] 0
 (.cond 58 (sR [oN (.mv 6 (.c (.bool false))),oK 7 8] [6,7] 0
 .ret)
 .skip))))))
 (sR [oN (.mv 6 (.c (.bool true))),oK 7 0] [6,7] 0
 .ret))
def qmi:ICode:=
 (sR [oB 3 0,oN (.mv 6 (.c (.bool false))),oK 7 0] [1,2,3] 1
 (.seq (sR [oN (.load 13 true 5 3),oY 14 38 [13],oM 8 14] [1,2,3,8] 1
 (sR [oM 15 8,oN (.bin 16 .neq 15 (.c (I 0)))] [1,2,3,8,16] 1
 (.cond 16 (sR [oM 17 8,oN (.mv 6 (.c (.bool false))),oM 7 17] [6,7] 0
 .ret)
 .skip)))
 (.seq (sR [
 oM 18 1,
 oN (.bin 19 .lss 18 (.c (I 1))),
 oM 20 19,
  ⟨.mv 21 1,some (20,false)⟩,
  ⟨.bin 22 .gtr 21 (.c (I 40)),some (20,false)⟩,
 oN (.pick 23 20 (.c (.bool true)) 22),
 oM 24 23,
  ⟨.mv 25 2,some (24,false)⟩,
  ⟨.bin 26 .lss 25 (.c (I 0)),some (24,false)⟩,
 oN (.pick 27 24 (.c (.bool true)) 26),
 oM 28 27,
  ⟨.mv 29 2,some (28,false)⟩,
  ⟨.bin 30 .gtr 29 (.c (I 1000000)),some (28,false)⟩,
 oN (.pick 31 28 (.c (.bool true)) 30)] [1,2,3,31] 1
 (.cond 31 (sR [oN (.mv 6 (.c (.bool false))),oK 7 3] [6,7] 0
 .ret)
 .skip))
 (sR [oN (.load 32 true 5 3),oY 33 217 [32],oN (.alloc 9 false (.agg [I 0,.sl true 2 [],I 0,I 0,.sl true 1 [],.sl true 1 [],.sl true 1 [],.sl true 1 []])),oN (.store true 8 9 33)] [1,2,3,9] 2
 (.seq (sR [oM 34 1,oK 35 0] [1,2,3,9,34,35] 2
 (.cut qmg))
 (.cut qmh))))))
def qmj:IFunc:={np:=3,res:=[.t 6,.t 7],own:=false,trunc:=true,body:=qmi }
end Go.Lw
end

/-! The code of package Ref for the small machine. Written by program (gen.py). -/
section
set_option maxRecDepth 10000
namespace Go.Lw
open Go
/- 2: latchwork/latchworkref.CheckGraph -/
def q9d:ICode:=
 (.post (.seq (sR [oM 15 3,oF 16 1 1,oL 17 16,oD 18 17,oW 19 15 18] [1,3,19] 1
 (.cond 19 .skip
 (.exit 0)))
 (.seq (.block 1 (sQ [oF 22 1 1,oL 23 22,oM 24 3,oN (.iaddr 25 2 none 23 24),oN (.iaddr 26 1 (some 2) 25 (.c (I 0))),oL 27 26,oF 28 1 1,oL 29 28,oM 30 3,oN (.iaddr 31 2 none 29 30),
 oN (.iaddr 32 1 (some 2) 31 (.c (I 1))),oL 33 32,oM 4 27,oM 5 33] [1,3,4,5] 1
 (sR [
 oM 34 4,
 oM 35 5,
 oN (.bin 36 .geq 34 35),
 oM 37 36,
  ⟨.mv 38 4,some (37,false)⟩,
  ⟨.bin 39 .lss 38 (.c (I 2)),some (37,false)⟩,
 oN (.pick 40 37 (.c (.bool true)) 39),
 oM 41 40,
  ⟨.mv 42 5,some (41,false)⟩,
  ⟨.faddr 43 1 0,some (41,false)⟩,
  ⟨.load 44 false 1 43,some (41,false)⟩,
  ⟨.bin 45 .add (.c (I 1)) 44,some (41,false)⟩,
  ⟨.mv 46 3,some (41,false)⟩,
  ⟨.bin 47 .add 45 46,some (41,false)⟩,
  ⟨.bin 48 .mul (.c (I 2)) 47,some (41,false)⟩,
  ⟨.bin 49 .geq 42 48,some (41,false)⟩,
 oN (.pick 50 41 (.c (.bool true)) 49),
 oM 51 50,
  ⟨.mv 52 4,some (51,false)⟩,
  ⟨.bin 53 .quo 52 (.c (I 2)),some (51,false)⟩,
  ⟨.mv 54 5,some (51,false)⟩,
  ⟨.bin 55 .quo 54 (.c (I 2)),some (51,false)⟩,
  ⟨.bin 56 .eql 53 55,some (51,false)⟩,
 oN (.pick 57 51 (.c (.bool true)) 56)] [1,3,57] 1
 (.cond 57 (sR [oK 2 4] [2] 0
 .ret)
 .skip))))
 (pR [oM 20 3,oP 21 20 1,oM 3 21] [1,3] 1))) [1,3] 1)
def q4q:ICode:=
 (.post (.block 0 (.loop q9d)) [1] 1)
def q9e:ICode:=
 (.post (.seq (sR [oM 58 6,oF 59 1 1,oL 60 59,oD 61 60,oW 62 58 61] [1,6,62] 1
 (.cond 62 .skip
 (.exit 2)))
 (.seq (.block 3 (sQ [oN (.load 65 true 2 1),oM 66 6,oF 67 1 1,oL 68 67,oM 69 6,oN (.iaddr 70 2 none 68 69),oN (.load 71 true 2 70),oY 72 51 [65,66,71],oN (.bin 73 .geq 72 (.c (I 0)))] [1,6,73] 1
 (.cond 73 (sR [oK 2 6] [2] 0
 .ret)
 .skip)))
 (pR [oM 63 6,oP 64 63 1,oM 6 64] [1,6] 1))) [1,6] 1)
def q4r:ICode:=
 (.post (.block 2 (.loop q9e)) [] 0)
def q4s:ICode:=
 (.seq (.region [oK 2 0] false)
 .ret)
def q4t:ICode:=
 (.seq (sR [oK 6 0] [1,6] 1
 (.cut q4r))
 (.cut q4s))
def q9f:ICode:=
 (sR [oB 1 0,oK 2 0] [1] 1
 (.seq (sR [oF 7 1 0,oL 8 7,oY 9 50 [8,(.c (I 0)),(.c (I 1000))],oN (.un 10 .not 9)] [1,10] 1
 (.cond 10 (sR [oK 2 3] [2] 0
 .ret)
 .skip))
 (.seq (sR [oF 11 1 1,oL 12 11,oD 13 12,oN (.bin 14 .gtr 13 (.c (I 1000000)))] [1,14] 1
 (.cond 14 (sR [oK 2 2] [2] 0
 .ret)
 .skip))
 (.seq (sR [oK 3 0] [1,3] 1
 (.cut q4q))
 (.cut q4t)))))
def qc:IFunc:={np:=1,res:=[.t 2],own:=false,trunc:=true,body:=q9f }
/- 3: latchwork/latchworkref.IsLit -/
def q9g:ICode:=
 (sR [oB 2 0,oN (.mv 4 (.c (.bool false)))] [1,2] 1
 (sR [oM 5 1,oF 6 2 0,oL 7 6,oN (.bin 8 .add (.c (I 1)) 7),oF 9 2 1,oL 10 9,oD 11 10,oN (.bin 12 .add 8 11),oN (.bin 13 .mul (.c (I 2)) 12),oS 14 13 1,oY 15 50 [5,(.c (I 0)),14],
 oM 4 15] [4] 0
 .ret))
def q4u:IFunc:={np:=2,res:=[.t 4],own:=false,trunc:=true,body:=q9g }
/- 4: latchwork/latchworkref.AndOf -/
/- 7: latchwork/latchworkref.SameGraph -/
/- 10: latchwork/latchworkref.AreLits -/
def q9h:ICode:=
 (.post (.seq (sR [oM 6 5,oM 7 1,oD 8 7,oW 9 6 8] [1,2,5,9] 1
 (.cond 9 .skip
 (.exit 0)))
 (.seq (.block 1 (sQ [oN (.load 12 true 2 2),oM 13 1,oM 14 5,oA 15 13 14,oL 16 15,oY 17 3 [12,16],oN (.un 18 .not 17)] [1,2,5,18] 1
 (.cond 18 (sR [oN (.mv 4 (.c (.bool false)))] [4] 0
 .ret)
 .skip)))
 (pR [oM 10 5,oP 11 10 1,oM 5 11] [1,2,5] 1))) [1,2,5] 1)
def q4v:ICode:=
 (.post (.block 0 (.loop q9h)) [] 0)
def q4w:ICode:=
 (.seq (.region [oN (.mv 4 (.c (.bool true)))] false)
 .ret)
def q9i:ICode:=
 (sR [oB 2 0,oN (.mv 4 (.c (.bool false)))] [1,2] 1
 (.seq (sR [oK 5 0] [1,2,5] 1
 (.cut q4v))
 (.cut q4w)))
def q1e:IFunc:={np:=2,res:=[.t 4],own:=false,trunc:=true,body:=q9i }
/- 11: latchwork/latchworkref.NodesOf -/
/- 12: latchwork/latchworkref.LitOf -/
/- 17: latchwork/latchworkref.ClausesOf -/
/- 23: latchwork/latchworkref.FitOf -/
/- 26: latchwork/latchworkref.Takes -/
/- 27: latchwork/latchworkref.Two -/
/- 28: latchwork/latchworkref.Made -/
/- 36: latchwork/latchworkref.CheckModel -/
/- 39: latchwork/latchworkref.Nodes -/
/- 43: latchwork/latchworkref.ConeOf -/
/- 45: latchwork/latchworkref.Has -/
def q9j:ICode:=
 (.post (.seq (sR [oM 6 5,oM 7 0,oD 8 7,oW 9 6 8] [0,1,5,9] 0
 (.cond 9 .skip
 (.exit 0)))
 (.seq (.block 1 (sR [oM 12 0,oM 13 5,oA 14 12 13,oL 15 14,oM 16 1,oN (.bin 17 .eql 15 16)] [0,1,5,17] 0
 (.cond 17 (sR [oN (.mv 4 (.c (.bool true)))] [4] 0
 .ret)
 .skip)))
 (pR [oM 10 5,oP 11 10 1,oM 5 11] [0,1,5] 0))) [0,1,5] 0)
def q4x:ICode:=
 (.post (.block 0 (.loop q9j)) [] 0)
def q4y:ICode:=
 (.seq (.region [oN (.mv 4 (.c (.bool false)))] false)
 .ret)
def q9k:ICode:=
 (sR [oN (.mv 4 (.c (.bool false)))] [0,1] 0
 (.seq (sR [oK 5 0] [0,1,5] 0
 (.cut q4x))
 (.cut q4y)))
def q1f:IFunc:={np:=2,res:=[.t 4],own:=false,trunc:=true,body:=q9k }
/- 46: latchwork/latchworkref.SameInts -/
def q9l:ICode:=
 (.post (.seq (sR [oM 11 5,oM 12 0,oD 13 12,oW 14 11 13] [0,1,5,14] 0
 (.cond 14 .skip
 (.exit 0)))
 (.seq (.block 1 (sQ [oM 17 0,oM 18 5,oA 19 17 18,oL 20 19,oM 21 1,oM 22 5,oA 23 21 22,oL 24 23,oN (.bin 25 .neq 20 24)] [0,1,5,25] 0
 (.cond 25 (sR [oN (.mv 4 (.c (.bool false)))] [4] 0
 .ret)
 .skip)))
 (pR [oM 15 5,oP 16 15 1,oM 5 16] [0,1,5] 0))) [0,1,5] 0)
def q4z:ICode:=
 (.post (.block 0 (.loop q9l)) [] 0)
def q50:ICode:=
 (.seq (.region [oN (.mv 4 (.c (.bool true)))] false)
 .ret)
def q9m:ICode:=
 (sR [oN (.mv 4 (.c (.bool false)))] [0,1] 0
 (.seq (sR [oM 6 0,oD 7 6,oM 8 1,oD 9 8,oN (.bin 10 .neq 7 9)] [0,1,10] 0
 (.cond 10 (sR [oN (.mv 4 (.c (.bool false)))] [4] 0
 .ret)
 .skip))
 (.seq (sR [oK 5 0] [0,1,5] 0
 (.cut q4z))
 (.cut q50))))
def q51:IFunc:={np:=2,res:=[.t 4],own:=false,trunc:=true,body:=q9m }
/- 50: latchwork/latchworkref.between -/
def q9n:ICode:=
 (sR [oN (.mv 6 (.c (.bool false)))] [0,1,2] 0
 (sR [
 oM 7 0,
 oM 8 1,
 oN (.bin 9 .geq 7 8),
 oM 10 9,
  ⟨.mv 11 0,some (10,true)⟩,
  ⟨.mv 12 2,some (10,true)⟩,
  ⟨.bin 13 .leq 11 12,some (10,true)⟩,
 oN (.pick 14 10 13 (.c (.bool false))),
 oM 6 14] [6] 0
 .ret))
def q1g:IFunc:={np:=3,res:=[.t 6],own:=false,trunc:=true,body:=q9n }
/- 51: latchwork/latchworkref.AndAt -/
def q9o:ICode:=
 (.post (.seq (sR [oM 8 7,oM 9 1,oW 10 8 9] [1,3,5,7,10] 2
 (.cond 10 .skip
 (.exit 0)))
 (.seq (.block 1 (sQ [oF 13 3 1,oL 14 13,oM 15 7,oN (.iaddr 16 2 none 14 15),oN (.load 17 true 2 16),oN (.load 18 true 2 5),oN (.eqa 19 false [false,false] 17 18)] [1,3,5,7,19] 2
 (.cond 19 (sR [oM 20 7,oM 6 20] [6] 0
 .ret)
 .skip)))
 (pR [oM 11 7,oP 12 11 1,oM 7 12] [1,3,5,7] 2))) [1,3,5,7] 2)
def q52:ICode:=
 (.post (.block 0 (.loop q9o)) [] 0)
def q53:ICode:=
 (.seq (.region [oN (.mv 6 (.c (I (-1))))] false)
 .ret)
def q9p:ICode:=
 (sR [oB 3 0,oB 5 2,oK 6 0] [1,3,5] 2
 (.seq (sR [oK 7 0] [1,3,5,7] 2
 (.cut q52))
 (.cut q53)))
def q1h:IFunc:={np:=3,res:=[.t 6],own:=false,trunc:=true,body:=q9p }
/- 56: latchwork/latchworkref.AndClauses -/
def q9q:ICode:=
 (.post (.seq (sR [oM 10 6,oF 11 2 1,oL 12 11,oD 13 12,oW 14 10 13] [1,2,5,6,14] 1
 (.cond 14 .skip
 (.exit 0)))
 (.seq (.block 1 (sR [oF 17 2 0,oL 18 17,oN (.bin 19 .add (.c (I 1)) 18),oM 20 6,oN (.bin 21 .add 19 20),oM 22 1,oN (.bin 23 .add 21 22),oM 7 23] [1,2,5,6,7] 1
 (sQ [oF 24 2 1,oL 25 24,oM 26 6,oN (.iaddr 27 2 none 25 26),oN (.iaddr 28 1 (some 2) 27 (.c (I 0))),oL 29 28,oM 30 1,oY 31 92 [29,30],oF 32 2 1,oL 33 32,oM 34 6,
 oN (.iaddr 35 2 none 33 34),oN (.iaddr 36 1 (some 2) 35 (.c (I 1))),oL 37 36,oM 38 1,oY 39 92 [37,38],oM 8 31,oM 9 39] [1,2,5,6,7,8,9] 1
 (pR [oT 40 5,oM 41 7,oN (.un 42 .neg 41),oM 43 8,oN (.buildSl 44 1 [42,43]),oM 45 7,oN (.un 46 .neg 45),oM 47 9,oN (.buildSl 48 1 [46,47]),oM 49 7,oM 50 8,oN (.un 51 .neg 50),oM 52 9,
 oN (.un 53 .neg 52),oN (.buildSl 54 1 [49,51,53]),oN (.buildSl 55 1 [44,48,54]),oN (.append 56 1 24 40 55),oT 5 56] [1,2,5,6] 1))))
 (pR [oM 15 6,oP 16 15 1,oM 6 16] [1,2,5,6] 1))) [1,2,5,6] 1)
def q54:ICode:=
 (.post (.block 0 (.loop q9q)) [5] 0)
def q55:ICode:=
 (sR [oT 57 5,oT 4 57] [4] 0
 .ret)
def q9r:ICode:=
 (sR [oB 2 0,oN (.mv 4 (.c (.sl true 1 [])))] [1,2] 1
 (.seq (.region [oN (.mv 5 (.c (.sl true 1 [])))] false)
 (.seq (sR [oK 6 0] [1,2,5,6] 1
 (.cut q54))
 (.cut q55))))
def q56:IFunc:={np:=2,res:=[.t 4],own:=true,trunc:=true,body:=q9r }
/- 57: latchwork/latchworkref.MustClauses -/
def q9s:ICode:=
 (sR [oN (.mv 4 (.c (.sl true 1 [])))] [0,1] 0
 (.seq (sR [oM 5 0,oE 6 5 1] [0,1,6] 0
 (.cond 6 (sR [oN (.mv 4 (.c (.sl true 1 [])))] [4] 0
 .ret)
 .skip))
 (.seq (sR [oM 7 0,oE 8 7 0] [0,1,8] 0
 (.cond 8 (sR [oN (.buildSl 9 1 [(.c (.sl true 1 []))]),oT 4 9] [4] 0
 .ret)
 .skip))
 (sR [oM 10 0,oM 11 1,oY 12 92 [10,11],oN (.buildSl 13 1 [12]),oN (.buildSl 14 1 [13]),oT 4 14] [4] 0
 .ret))))
def qo:IFunc:={np:=2,res:=[.t 4],own:=false,trunc:=true,body:=q9s }
/- 58: latchwork/latchworkref.DoneClauses -/
def q9t:ICode:=
 (sR [oB 1 0,oN (.alloc 2 false (.agg [I 0,.sl true 1 []])),oK 3 0] [1,2] 2
 (sR [oN (.load 5 true 2 1),oY 6 93 [5],oM 4 6] [1,2,4] 2
 (.seq (sR [oM 7 4,oN (.bin 8 .neq 7 (.c (I 0)))] [1,2,4,8] 2
 (.cond 8 (sR [oN (.build 9 [I 0,.sl true 1 []] []),oM 10 4,oN (.store true 2 2 9),oM 3 10] [2,3] 2
 .ret)
 .skip))
 (sR [oN (.load 11 true 2 1),oN (.store true 2 2 11),oK 3 0] [2,3] 2
 .ret))))
def q1i:IFunc:={np:=1,res:=[.cell 2 true 2,.t 3],own:=false,trunc:=true,body:=q9t }
/- 60: latchwork/latchworkref.SameClauses -/
def q9u:ICode:=
 (sR [oB 2 0,oB 3 1,oN (.mv 4 (.c (.bool false)))] [2,3] 2
 (sR [
 oF 5 2 0,
 oL 6 5,
 oF 7 3 0,
 oL 8 7,
 oN (.bin 9 .eql 6 8),
 oM 10 9,
  ⟨.faddr 11 2 1,some (10,true)⟩,
  ⟨.load 12 false 1 11,some (10,true)⟩,
  ⟨.faddr 13 3 1,some (10,true)⟩,
  ⟨.load 14 false 1 13,some (10,true)⟩,
  ⟨.call (some 15) true 95 [12,14],some (10,true)⟩,
 oN (.pick 16 10 15 (.c (.bool false))),
 oM 4 16] [4] 0
 .ret))
def q57:IFunc:={np:=2,res:=[.t 4],own:=false,trunc:=true,body:=q9u }
/- 67: latchwork/latchworkref.bitwise -/
/- 68: latchwork/latchworkref.yes -/
/- 69: latchwork/latchworkref.Signed -/
/- 72: latchwork/latchworkref.CheckNode -/
/- 73: latchwork/latchworkref.Bits -/
/- 74: latchwork/latchworkref.hangs -/
/- 84: latchwork/latchworkref.ConeOf$1 -/
/- 92: latchwork/latchworkref.Num -/
def q9v:ICode:=
 (sR [oK 4 0] [0,1] 0
 (sR [oM 6 0,oN (.bin 7 .quo 6 (.c (I 2))),oM 8 1,oN (.bin 9 .add 7 8),oM 5 9] [0,5] 0
 (.seq (sR [oM 10 0,oN (.bin 11 .rem 10 (.c (I 2))),oE 12 11 1] [5,12] 0
 (.cond 12 (sR [oM 13 5,oN (.un 14 .neg 13),oM 4 14] [4] 0
 .ret)
 .skip))
 (sR [oM 15 5,oM 4 15] [4] 0
 .ret))))
def q1j:IFunc:={np:=2,res:=[.t 4],own:=false,trunc:=true,body:=q9v }
/- 93: latchwork/latchworkref.CheckClauses -/
def q9w:ICode:=
 (.post (.seq (sR [oM 13 3,oF 14 1 1,oL 15 14,oD 16 15,oW 17 13 16] [1,3,17] 1
 (.cond 17 .skip
 (.exit 0)))
 (.seq (.block 1 (sQ [oF 20 1 0,oL 21 20,oF 22 1 1,oL 23 22,oM 24 3,oA 25 23 24,oL 26 25,oY 27 112 [21,26],oM 4 27] [1,3,4] 1
 (sR [oM 28 4,oN (.bin 29 .neq 28 (.c (I 0)))] [1,3,4,29] 1
 (.cond 29 (sR [oM 30 4,oM 2 30] [2] 0
 .ret)
 .skip))))
 (pR [oM 18 3,oP 19 18 1,oM 3 19] [1,3] 1))) [1,3] 1)
def q58:ICode:=
 (.post (.block 0 (.loop q9w)) [] 0)
def q59:ICode:=
 (.seq (.region [oK 2 0] false)
 .ret)
def q9x:ICode:=
 (sR [oB 1 0,oK 2 0] [1] 1
 (.seq (sR [oF 5 1 0,oL 6 5,oY 7 50 [6,(.c (I 0)),(.c (I 200000))],oN (.un 8 .not 7)] [1,8] 1
 (.cond 8 (sR [oK 2 3] [2] 0
 .ret)
 .skip))
 (.seq (sR [oF 9 1 1,oL 10 9,oD 11 10,oN (.bin 12 .gtr 11 (.c (I 800000)))] [1,12] 1
 (.cond 12 (sR [oK 2 2] [2] 0
 .ret)
 .skip))
 (.seq (sR [oK 3 0] [1,3] 1
 (.cut q58))
 (.cut q59)))))
def qd:IFunc:={np:=1,res:=[.t 2],own:=false,trunc:=true,body:=q9x }
/- 95: latchwork/latchworkref.SameLists -/
def q9y:ICode:=
 (.post (.seq (sR [oM 11 5,oM 12 0,oD 13 12,oW 14 11 13] [0,1,5,14] 0
 (.cond 14 .skip
 (.exit 0)))
 (.seq (.block 1 (sQ [oM 17 0,oM 18 5,oA 19 17 18,oL 20 19,oM 21 1,oM 22 5,oA 23 21 22,oL 24 23,oY 25 46 [20,24],oN (.un 26 .not 25)] [0,1,5,26] 0
 (.cond 26 (sR [oN (.mv 4 (.c (.bool false)))] [4] 0
 .ret)
 .skip)))
 (pR [oM 15 5,oP 16 15 1,oM 5 16] [0,1,5] 0))) [0,1,5] 0)
def q5a:ICode:=
 (.post (.block 0 (.loop q9y)) [] 0)
def q5b:ICode:=
 (.seq (.region [oN (.mv 4 (.c (.bool true)))] false)
 .ret)
def q9z:ICode:=
 (sR [oN (.mv 4 (.c (.bool false)))] [0,1] 0
 (.seq (sR [oM 6 0,oD 7 6,oM 8 1,oD 9 8,oN (.bin 10 .neq 7 9)] [0,1,10] 0
 (.cond 10 (sR [oN (.mv 4 (.c (.bool false)))] [4] 0
 .ret)
 .skip))
 (.seq (sR [oK 5 0] [0,1,5] 0
 (.cut q5a))
 (.cut q5b))))
def q5c:IFunc:={np:=2,res:=[.t 4],own:=false,trunc:=true,body:=q9z }
/- 97: latchwork/latchworkref.Bit -/
/- 102: latchwork/latchworkref.WidthsOf -/
/- 112: latchwork/latchworkref.CheckClause -/
def qa0:ICode:=
 (.post (.seq (sR [oM 9 5,oM 10 1,oD 11 10,oW 12 9 11] [0,1,5,12] 0
 (.cond 12 .skip
 (.exit 0)))
 (.seq (.block 1 (sR [
 oM 15 1,
 oM 16 5,
 oA 17 15 16,
 oL 18 17,
 oE 19 18 0,
 oM 20 19,
  ⟨.mv 21 1,some (20,false)⟩,
  ⟨.mv 22 5,some (20,false)⟩,
  ⟨.iaddr 23 1 none 21 22,some (20,false)⟩,
  ⟨.load 24 false 1 23,some (20,false)⟩,
  ⟨.mv 25 0,some (20,false)⟩,
  ⟨.bin 26 .gtr 24 25,some (20,false)⟩,
 oN (.pick 27 20 (.c (.bool true)) 26),
 oM 28 27,
  ⟨.mv 29 1,some (28,false)⟩,
  ⟨.mv 30 5,some (28,false)⟩,
  ⟨.iaddr 31 1 none 29 30,some (28,false)⟩,
  ⟨.load 32 false 1 31,some (28,false)⟩,
  ⟨.mv 33 0,some (28,false)⟩,
  ⟨.un 34 .neg 33,some (28,false)⟩,
  ⟨.bin 35 .lss 32 34,some (28,false)⟩,
 oN (.pick 36 28 (.c (.bool true)) 35)] [0,1,5,36] 0
 (.cond 36 (sR [oK 4 5] [4] 0
 .ret)
 .skip)))
 (pR [oM 13 5,oP 14 13 1,oM 5 14] [0,1,5] 0))) [0,1,5] 0)
def q5d:ICode:=
 (.post (.block 0 (.loop qa0)) [] 0)
def q5e:ICode:=
 (.seq (.region [oK 4 0] false)
 .ret)
def qa1:ICode:=
 (sR [oK 4 0] [0,1] 0
 (.seq (sR [oM 6 1,oD 7 6,oN (.bin 8 .gtr 7 (.c (I 200)))] [0,1,8] 0
 (.cond 8 (sR [oK 4 2] [4] 0
 .ret)
 .skip))
 (.seq (sR [oK 5 0] [0,1,5] 0
 (.cut q5d))
 (.cut q5e))))
def qp:IFunc:={np:=2,res:=[.t 4],own:=false,trunc:=true,body:=qa1 }
/- 124: latchwork/latchworkref.CheckWords -/
/- 125: latchwork/latchworkref.BeginOf -/
/- 131: latchwork/latchworkref.Ready -/
/- 132: latchwork/latchworkref.ValuesOf -/
/- 133: latchwork/latchworkref.NextOf -/
/- 134: latchwork/latchworkref.MarksOf -/
/- 137: latchwork/latchworkref.PairOf -/
/- 146: latchwork/latchworkref.FollowsOf -/
/- 150: latchwork/latchworkref.CheckProof -/
/- 151: latchwork/latchworkref.ProofOf -/
/- 167: latchwork/latchworkref.AnswerIs -/
/- 168: latchwork/latchworkref.HoldsOf -/
/- 213: latchwork/latchworkref.CheckCircuit -/
def qa2:ICode:=
 (.post (.seq (sR [oM 44 4,oF 45 1 4,oL 46 45,oD 47 46,oW 48 44 47] [1,4,48] 1
 (.cond 48 .skip
 (.exit 0)))
 (.seq (.block 1 (sQ [
 oF 51 1 4,
 oL 52 51,
 oM 53 4,
 oA 54 52 53,
 oL 55 54,
 oN (.bin 56 .neq 55 (.c (I (-1)))),
 oM 57 56,
  ⟨.faddr 58 1 0,some (57,true)⟩,
  ⟨.load 59 true 2 58,some (57,true)⟩,
  ⟨.faddr 60 1 4,some (57,true)⟩,
  ⟨.load 61 false 1 60,some (57,true)⟩,
  ⟨.mv 62 4,some (57,true)⟩,
  ⟨.iaddr 63 1 none 61 62,some (57,true)⟩,
  ⟨.load 64 false 1 63,some (57,true)⟩,
  ⟨.call (some 65) true 3 [59,64],some (57,true)⟩,
  ⟨.un 66 .not 65,some (57,true)⟩,
 oN (.pick 67 57 66 (.c (.bool false)))] [1,4,67] 1
 (.cond 67 (sR [oK 2 5] [2] 0
 .ret)
 .skip)))
 (pR [oM 49 4,oP 50 49 1,oM 4 50] [1,4] 1))) [1,4] 1)
def q5f:ICode:=
 (.post (.block 0 (.loop qa2)) [1] 1)
def q2h:ICode:=
 (.seq (sR [
 oF 68 1 0,
 oN (.load 69 true 2 68),
 oF 70 1 5,
 oL 71 70,
 oY 72 10 [69,71],
 oN (.un 73 .not 72),
 oM 74 73,
  ⟨.faddr 75 1 0,some (74,false)⟩,
  ⟨.load 76 true 2 75,some (74,false)⟩,
  ⟨.faddr 77 1 6,some (74,false)⟩,
  ⟨.load 78 false 1 77,some (74,false)⟩,
  ⟨.call (some 79) true 10 [76,78],some (74,false)⟩,
  ⟨.un 80 .not 79,some (74,false)⟩,
 oN (.pick 81 74 (.c (.bool true)) 80),
 oM 82 81,
  ⟨.faddr 83 1 0,some (82,false)⟩,
  ⟨.load 84 true 2 83,some (82,false)⟩,
  ⟨.faddr 85 1 7,some (82,false)⟩,
  ⟨.load 86 false 1 85,some (82,false)⟩,
  ⟨.call (some 87) true 10 [84,86],some (82,false)⟩,
  ⟨.un 88 .not 87,some (82,false)⟩,
 oN (.pick 89 82 (.c (.bool true)) 88)] [89] 0
 (.cond 89 (sR [oK 2 5] [2] 0
 .ret)
 .skip))
 (sR [oK 2 0] [2] 0
 .ret))
def q5g:ICode:=
 (sR [oB 1 0,oK 2 0] [1] 1
 (sR [oF 5 1 0,oN (.load 6 true 2 5),oY 7 2 [6],oM 3 7] [1,3] 1
 (.seq (sR [oM 8 3,oN (.bin 9 .neq 8 (.c (I 0)))] [1,3,9] 1
 (.cond 9 (sR [oM 10 3,oM 2 10] [2] 0
 .ret)
 .skip))
 (.seq (sR [
 oF 11 1 2,
 oL 12 11,
 oN (.bin 13 .lss 12 (.c (I 0))),
 oM 14 13,
  ⟨.faddr 15 1 3,some (14,false)⟩,
  ⟨.load 16 false 1 15,some (14,false)⟩,
  ⟨.bin 17 .lss 16 (.c (I 0)),some (14,false)⟩,
 oN (.pick 18 14 (.c (.bool true)) 17),
 oM 19 18,
  ⟨.faddr 20 1 2,some (19,false)⟩,
  ⟨.load 21 false 1 20,some (19,false)⟩,
  ⟨.faddr 22 1 3,some (19,false)⟩,
  ⟨.load 23 false 1 22,some (19,false)⟩,
  ⟨.bin 24 .add 21 23,some (19,false)⟩,
  ⟨.faddr 25 1 0,some (19,false)⟩,
  ⟨.faddr 26 25 0,some (19,false)⟩,
  ⟨.load 27 false 1 26,some (19,false)⟩,
  ⟨.bin 28 .neq 24 27,some (19,false)⟩,
 oN (.pick 29 19 (.c (.bool true)) 28)] [1,29] 1
 (.cond 29 (sR [oK 2 4] [2] 0
 .ret)
 .skip))
 (.seq (sR [
 oF 30 1 4,
 oL 31 30,
 oD 32 31,
 oF 33 1 3,
 oL 34 33,
 oN (.bin 35 .neq 32 34),
 oM 36 35,
  ⟨.faddr 37 1 5,some (36,false)⟩,
  ⟨.load 38 false 1 37,some (36,false)⟩,
  ⟨.len 39 0 38,some (36,false)⟩,
  ⟨.faddr 40 1 3,some (36,false)⟩,
  ⟨.load 41 false 1 40,some (36,false)⟩,
  ⟨.bin 42 .neq 39 41,some (36,false)⟩,
 oN (.pick 43 36 (.c (.bool true)) 42)] [1,43] 1
 (.cond 43 (sR [oK 2 1] [2] 0
 .ret)
 .skip))
 (.seq (sR [oK 4 0] [1,4] 1
 (.cut q5f))
 (.cut q2h)))))))
def q5h:IFunc:={np:=1,res:=[.t 2],own:=false,trunc:=true,body:=q5g }
/- 321: latchwork/latchworkref.WaysOf -/
/- 322: latchwork/latchworkref.Layers -/
/- 323: latchwork/latchworkref.NumberOf -/
/- 324: latchwork/latchworkref.ExploreOf -/
/- 326: latchwork/latchworkref.WordsOf -/
/- 327: latchwork/latchworkref.BitsOf -/
/- 330: latchwork/latchworkref.CheckSteps -/
def qx:ICode:=
 (pR [oM 27 8,oP 28 27 1,oM 8 28] [2,3,7,8] 1)
def qa3:ICode:=
 (.post (.seq (sR [
 oM 18 8,
 oF 19 3 4,
 oL 20 19,
 oD 21 20,
 oW 22 18 21,
 oM 23 22,
  ⟨.mv 24 7,some (23,true)⟩,
  ⟨.bin 25 .eql 24 (.c (I 0)),some (23,true)⟩,
 oN (.pick 26 23 25 (.c (.bool false)))] [2,3,7,8,26] 1
 (.cond 26 .skip
 (.exit 0)))
 (.seq (.block 1 (sR [
 oM 29 2,
 oM 30 29,
  ⟨.faddr 31 3 4,some (30,true)⟩,
  ⟨.load 32 false 1 31,some (30,true)⟩,
  ⟨.mv 33 8,some (30,true)⟩,
  ⟨.iaddr 34 1 none 32 33,some (30,true)⟩,
  ⟨.load 35 false 1 34,some (30,true)⟩,
  ⟨.bin 36 .gtr 35 (.c (I 1)),some (30,true)⟩,
 oN (.pick 37 30 36 (.c (.bool false)))] [2,3,7,8,37] 1
 (.cond 37 (.post (pR [oK 7 7] [2,3,7,8] 1) [2,3,7,8] 1)
 (.post .skip [2,3,7,8] 1))))
 (.cut qx))) [2,3,7,8] 1)
def q1k:ICode:=
 (.post (.block 0 (.loop qa3)) [7] 0)
def q2i:ICode:=
 (sR [oM 38 7,oM 6 38] [6] 0
 .ret)
def qy:ICode:=
 (.seq (sR [oK 8 0] [2,3,7,8] 1
 (.cut q1k))
 (.cut q2i))
def q5i:ICode:=
 (sR [oB 3 0,oK 6 0] [1,2,3] 1
 (sR [oN (.load 9 true 8 3),oY 10 213 [9],oM 7 10] [1,2,3,7] 1
 (.seq (sR [
 oM 11 7,
 oE 12 11 0,
 oM 13 12,
  ⟨.mv 14 1,some (13,true)⟩,
  ⟨.call (some 15) true 50 [14,(.c (I 0)),(.c (I 40))],some (13,true)⟩,
  ⟨.un 16 .not 15,some (13,true)⟩,
 oN (.pick 17 13 16 (.c (.bool false)))] [2,3,7,17] 1
 (.cond 17 (.post (pR [oK 7 3] [2,3,7] 1) [2,3,7] 1)
 (.post .skip [2,3,7] 1)))
 (.cut qy))))
def q5j:IFunc:={np:=3,res:=[.t 6],own:=false,trunc:=true,body:=q5i }
/- 331: latchwork/latchworkref.StepClauses -/
def qa4:ICode:=
 (.post (.seq (sR [oM 43 13,oM 44 1,oN (.bin 45 .leq 43 44)] [1,2,3,4,8,9,10,11,12,13,45] 1
 (.cond 45 .skip
 (.exit 0)))
 (.seq (.block 1 (pQ [oF 48 10 1,oN (.loadTB 49 48 10 1),oF 50 4 0,oN (.load 51 true 2 50),oM 52 13,oL 53 9,oN (.bin 54 .mul 52 53),oN (.callR (some 55) 56 [51,54] 10 1),oN (.append 56 1 24 49 55),
 oF 57 10 1,oN (.store true 1 57 56)] [1,2,3,4,8,9,10,11,12,13] 1))
 (pR [oM 46 13,oP 47 46 1,oM 13 47] [1,2,3,4,8,9,10,11,12,13] 1))) [1,2,3,4,8,9,10,11,12,13] 1)
def q5k:ICode:=
 (.post (.block 0 (.loop qa4)) [1,2,3,4,8,9,10,11,12] 1)
def qz:ICode:=
 (pR [oM 67 15,oP 68 67 1,oM 15 68] [1,2,3,4,8,9,10,11,12,14,15] 1)
def qa5:ICode:=
 (.post (.seq (sR [oM 63 15,oF 64 4 3,oL 65 64,oW 66 63 65] [1,2,3,4,8,9,10,11,12,14,15,66] 1
 (.cond 66 .skip
 (.exit 4)))
 (.seq (.block 5 (sR [oF 69 4 5,oL 70 69,oM 71 15,oA 72 70 71,oL 73 72] [1,2,3,4,8,9,10,11,12,14,15,73] 1
 (.block 6 (sR [oE 103 73 0,oM 102 103] [1,2,3,4,8,9,10,11,12,14,15,73,102] 1
 (.cond 102 (.post (pR [oM 104 11,oM 105 12,oM 106 14,oM 107 15,oN (.callv (some 108) true 105 [106,107]),oN (.un 109 .neg 108),oN (.buildSl 110 1 [109]),oN (.callv (some 111) false 104 [110])] [1,2,3,4,8,9,10,11,12,14,15] 1) [1,2,3,4,8,9,10,11,12,14,15] 1)
 (.post (sR [oE 113 73 1,oM 112 113] [1,2,3,4,8,9,10,11,12,14,15,112] 1
 (.cond 112 (.post (pR [oM 114 11,oM 115 12,oM 116 14,oM 117 15,oN (.callv (some 118) true 115 [116,117]),oN (.buildSl 119 1 [118]),oN (.callv (some 120) false 114 [119])] [1,2,3,4,8,9,10,11,12,14,15] 1) [1,2,3,4,8,9,10,11,12,14,15] 1)
 (.post (sQ [oF 74 4 5,oL 75 74,oM 76 15,oA 77 75 76,oL 78 77,oM 79 14,oS 80 79 1,oL 81 9,oN (.bin 82 .mul 80 81),oY 83 92 [78,82],oM 16 83] [1,2,3,4,8,9,10,11,12,14,15,16] 1
 (sR [oM 84 11,oM 85 12,oM 86 14,oM 87 15,oN (.callv (some 88) true 85 [86,87]),oN (.un 89 .neg 88),oM 90 16,oN (.buildSl 91 1 [89,90]),oN (.callv (some 92) false 84 [91])] [1,2,3,4,8,9,10,11,12,14,15,16] 1
 (pR [oM 93 11,oM 94 12,oM 95 14,oM 96 15,oN (.callv (some 97) true 94 [95,96]),oM 98 16,oN (.un 99 .neg 98),oN (.buildSl 100 1 [97,99]),oN (.callv (some 101) false 93 [100])] [1,2,3,4,8,9,10,11,12,14,15] 1))) [1,2,3,4,8,9,10,11,12,14,15] 1))) [1,2,3,4,8,9,10,11,12,14,15] 1))))))
 (.cut qz))) [1,2,3,4,8,9,10,11,12,14,15] 1)
def q5l:ICode:=
 (.post (.block 4 (.loop qa5)) [1,2,3,4,8,9,10,11,12,14] 1)
def q2j:ICode:=
 (pR [oM 61 14,oP 62 61 1,oM 14 62] [1,2,3,4,8,9,10,11,12,14] 1)
def qa6:ICode:=
 (.post (.seq (sR [oM 58 14,oM 59 1,oN (.bin 60 .leq 58 59)] [1,2,3,4,8,9,10,11,12,14,60] 1
 (.cond 60 .skip
 (.exit 2)))
 (.seq (.block 3 (sR [oK 15 0] [1,2,3,4,8,9,10,11,12,14,15] 1
 (.cut q5l)))
 (.cut q2j))) [1,2,3,4,8,9,10,11,12,14] 1)
def q5m:ICode:=
 (.post (.block 2 (.loop qa6)) [1,2,3,4,8,9,10,11,12] 1)
def qq:ICode:=
 (sR [oF 143 4 4,oL 144 143,oM 145 17,oA 146 144 145,oL 147 146,oE 148 147 1] [1,2,3,4,8,9,10,11,12,17,148] 1
 (.cond 148 (.post (pR [oM 149 11,oM 150 12,oM 151 17,oN (.callv (some 152) true 150 [(.c (I 0)),151]),oN (.buildSl 153 1 [152]),oN (.callv (some 154) false 149 [153])] [1,2,3,4,8,9,10,11,12,17] 1) [1,2,3,4,8,9,10,11,12,17] 1)
 (.post .skip [1,2,3,4,8,9,10,11,12,17] 1)))
def q1l:ICode:=
 (pR [oM 128 17,oP 129 128 1,oM 17 129] [1,2,3,4,8,9,10,11,12,17] 1)
def qa7:ICode:=
 (.post (.seq (sR [
 oM 121 17,
 oF 122 4 3,
 oL 123 122,
 oW 124 121 123,
 oM 125 124,
  ⟨.mv 126 2,some (125,true)⟩,
 oN (.pick 127 125 126 (.c (.bool false)))] [1,2,3,4,8,9,10,11,12,17,127] 1
 (.cond 127 .skip
 (.exit 7)))
 (.seq (.block 8 (.seq (sR [oF 130 4 4,oL 131 130,oM 132 17,oA 133 131 132,oL 134 133,oE 135 134 0] [1,2,3,4,8,9,10,11,12,17,135] 1
 (.cond 135 (.post (pR [oM 136 11,oM 137 12,oM 138 17,oN (.callv (some 139) true 137 [(.c (I 0)),138]),oN (.un 140 .neg 139),oN (.buildSl 141 1 [140]),oN (.callv (some 142) false 136 [141])] [1,2,3,4,8,9,10,11,12,17] 1) [1,2,3,4,8,9,10,11,12,17] 1)
 (.post .skip [1,2,3,4,8,9,10,11,12,17] 1)))
 (.cut qq)))
 (.cut q1l))) [1,2,3,4,8,9,10,11,12,17] 1)
def q1m:ICode:=
 (.post (.block 7 (.loop qa7)) [1,3,4,8,9,10,11,12] 1)
def qa8:ICode:=
 (.post (.seq (sR [oM 160 19,oF 161 4 7,oL 162 161,oD 163 162,oW 164 160 163] [1,3,4,8,9,10,11,12,18,19,164] 1
 (.cond 164 .skip
 (.exit 11)))
 (.seq (.block 12 (pQ [oF 167 10 1,oN (.loadTB 168 167 10 1),oF 169 4 7,oL 170 169,oM 171 19,oA 172 170 171,oL 173 172,oM 174 18,oL 175 9,oN (.bin 176 .mul 174 175),
 oN (.callR (some 177) 57 [173,176] 10 1),oN (.append 178 1 24 168 177),oF 179 10 1,oN (.store true 1 179 178)] [1,3,4,8,9,10,11,12,18,19] 1))
 (pR [oM 165 19,oP 166 165 1,oM 19 166] [1,3,4,8,9,10,11,12,18,19] 1))) [1,3,4,8,9,10,11,12,18,19] 1)
def q5n:ICode:=
 (.post (.block 11 (.loop qa8)) [1,3,4,8,9,10,11,12,18] 1)
def q2k:ICode:=
 (pR [oM 158 18,oP 159 158 1,oM 18 159] [1,3,4,8,9,10,11,12,18] 1)
def qa9:ICode:=
 (.post (.seq (sR [oM 155 18,oM 156 1,oN (.bin 157 .leq 155 156)] [1,3,4,8,9,10,11,12,18,157] 1
 (.cond 157 .skip
 (.exit 9)))
 (.seq (.block 10 (sR [oK 19 0] [1,3,4,8,9,10,11,12,18,19] 1
 (.cut q5n)))
 (.cut q2k))) [1,3,4,8,9,10,11,12,18] 1)
def q5o:ICode:=
 (.post (.block 9 (.loop qa9)) [1,3,4,8,9,10,11,12] 1)
def q1n:ICode:=
 (pR [oM 189 21,oP 190 189 1,oM 21 190] [1,3,4,8,9,10,11,12,20,21] 1)
def qaa:ICode:=
 (.post (.seq (sR [oM 184 21,oF 185 4 6,oL 186 185,oD 187 186,oW 188 184 187] [1,3,4,8,9,10,11,12,20,21,188] 1
 (.cond 188 .skip
 (.exit 13)))
 (.seq (.block 14 (sR [oF 191 4 6,oL 192 191,oM 193 21,oA 194 192 193,oL 195 194,oN (.bin 196 .neq 195 (.c (I 0)))] [1,3,4,8,9,10,11,12,20,21,196] 1
 (.cond 196 (.post (pQ [oT 197 20,oF 198 4 6,oL 199 198,oM 200 21,oA 201 199 200,oL 202 201,oM 203 1,oL 204 9,oN (.bin 205 .mul 203 204),oY 206 92 [202,205],oN (.buildSl 207 1 [206]),
 oN (.append 208 1 8 197 207),oT 20 208] [1,3,4,8,9,10,11,12,20,21] 1) [1,3,4,8,9,10,11,12,20,21] 1)
 (.post .skip [1,3,4,8,9,10,11,12,20,21] 1))))
 (.cut q1n))) [1,3,4,8,9,10,11,12,20,21] 1)
def q5p:ICode:=
 (.post (.block 13 (.loop qaa)) [1,3,4,8,9,10,11,12,20] 1)
def q2l:ICode:=
 (pR [oF 209 10 1,oN (.loadT 210 209),oM 211 20,oN (.buildSl 212 1 [211]),oN (.append 213 1 24 210 212),oF 214 10 1,oN (.store true 1 214 213)] [1,3,4,8,9,10,11,12] 1)
def q10:ICode:=
 (pR [oM 228 23,oP 229 228 1,oM 23 229] [1,4,8,9,10,11,12,22,23] 1)
def qab:ICode:=
 (.post (.seq (sR [oM 223 23,oF 224 4 6,oL 225 224,oD 226 225,oW 227 223 226] [1,4,8,9,10,11,12,22,23,227] 1
 (.cond 227 .skip
 (.exit 17)))
 (.seq (.block 18 (sR [oF 230 4 6,oL 231 230,oM 232 23,oA 233 231 232,oL 234 233] [1,4,8,9,10,11,12,22,23,234] 1
 (.block 19 (sR [oE 249 234 0,oM 248 249] [1,4,8,9,10,11,12,22,23,234,248] 1
 (.cond 248 (.post .skip [1,4,8,9,10,11,12,22,23] 1)
 (.post (sR [oE 251 234 1,oM 250 251] [1,4,8,9,10,11,12,22,23,250] 1
 (.cond 250 (.post (pR [oM 252 11,oN (.callv (some 253) false 252 [(.c (.sl true 1 []))])] [1,4,8,9,10,11,12,22,23] 1) [1,4,8,9,10,11,12,22,23] 1)
 (.post (pQ [oM 235 11,oF 236 4 6,oL 237 236,oM 238 23,oA 239 237 238,oL 240 239,oM 241 22,oL 242 9,oN (.bin 243 .mul 241 242),oY 244 92 [240,243],oN (.un 245 .neg 244),
 oN (.buildSl 246 1 [245]),oN (.callv (some 247) false 235 [246])] [1,4,8,9,10,11,12,22,23] 1) [1,4,8,9,10,11,12,22,23] 1))) [1,4,8,9,10,11,12,22,23] 1))))))
 (.cut q10))) [1,4,8,9,10,11,12,22,23] 1)
def q5q:ICode:=
 (.post (.block 17 (.loop qab)) [1,4,8,9,10,11,12,22] 1)
def q2m:ICode:=
 (pR [oM 221 22,oP 222 221 1,oM 22 222] [1,4,8,9,10,11,12,22] 1)
def qac:ICode:=
 (.post (.seq (sR [oM 218 22,oM 219 1,oW 220 218 219] [1,4,8,9,10,11,12,22,220] 1
 (.cond 220 .skip
 (.exit 15)))
 (.seq (.block 16 (sR [oK 23 0] [1,4,8,9,10,11,12,22,23] 1
 (.cut q5q)))
 (.cut q2m))) [1,4,8,9,10,11,12,22] 1)
def q5r:ICode:=
 (.post (.block 15 (.loop qac)) [1,4,8,10,11,12] 1)
def qad:ICode:=
 (.post (.seq (sR [oM 266 27,oF 267 4 3,oL 268 267,oW 269 266 268] [1,4,8,10,11,12,24,25,26,27,269] 1
 (.cond 269 .skip
 (.exit 24)))
 (.seq (.block 25 (sR [oF 272 10 0,oL 273 272,oP 274 273 1,oF 275 10 0,oN (.store false 1 275 274)] [1,4,8,10,11,12,24,25,26,27] 1
 (sQ [oM 276 11,oF 277 10 0,oL 278 277,oN (.un 279 .neg 278),oM 280 12,oM 281 24,oM 282 27,oN (.callv (some 283) true 280 [281,282]),oM 284 12,oM 285 25,oM 286 27,
 oN (.callv (some 287) true 284 [285,286]),oN (.buildSl 288 1 [279,283,287]),oN (.callv (some 289) false 276 [288])] [1,4,8,10,11,12,24,25,26,27] 1
 (sQ [oM 290 11,oF 291 10 0,oL 292 291,oN (.un 293 .neg 292),oM 294 12,oM 295 24,oM 296 27,oN (.callv (some 297) true 294 [295,296]),oN (.un 298 .neg 297),oM 299 12,oM 300 25,oM 301 27,
 oN (.callv (some 302) true 299 [300,301]),oN (.un 303 .neg 302),oN (.buildSl 304 1 [293,298,303]),oN (.callv (some 305) false 290 [304])] [1,4,8,10,11,12,24,25,26,27] 1
 (pR [oT 306 26,oF 307 10 0,oL 308 307,oN (.buildSl 309 1 [308]),oN (.append 310 1 8 306 309),oT 26 310] [1,4,8,10,11,12,24,25,26,27] 1)))))
 (pR [oM 270 27,oP 271 270 1,oM 27 271] [1,4,8,10,11,12,24,25,26,27] 1))) [1,4,8,10,11,12,24,25,26,27] 1)
def q5s:ICode:=
 (.post (.block 24 (.loop qad)) [1,4,8,10,11,12,24,25,26] 1)
def q2n:ICode:=
 (pR [oF 311 10 1,oN (.loadT 312 311),oM 313 26,oN (.buildSl 314 1 [313]),oN (.append 315 1 24 312 314),oF 316 10 1,oN (.store true 1 316 315)] [1,4,8,10,11,12,24,25] 1)
def q1o:ICode:=
 (pR [oM 264 25,oP 265 264 1,oM 25 265] [1,4,8,10,11,12,24,25] 1)
def qae:ICode:=
 (.post (.seq (sR [oM 261 25,oM 262 1,oN (.bin 263 .leq 261 262)] [1,4,8,10,11,12,24,25,263] 1
 (.cond 263 .skip
 (.exit 22)))
 (.seq (.block 23 (sR [oN (.mv 26 (.c (.sl true 1 [])))] [1,4,8,10,11,12,24,25,26] 1
 (.seq (sR [oK 27 0] [1,4,8,10,11,12,24,25,26,27] 1
 (.cut q5s))
 (.cut q2n))))
 (.cut q1o))) [1,4,8,10,11,12,24,25] 1)
def q5t:ICode:=
 (.post (.block 22 (.loop qae)) [1,4,8,10,11,12,24] 1)
def q2o:ICode:=
 (pR [oM 257 24,oP 258 257 1,oM 24 258] [1,4,8,10,11,12,24] 1)
def qaf:ICode:=
 (.post (.seq (sR [oM 254 24,oM 255 1,oN (.bin 256 .leq 254 255)] [1,4,8,10,11,12,24,256] 1
 (.cond 256 .skip
 (.exit 20)))
 (.seq (.block 21 (sR [oM 259 24,oP 260 259 1,oM 25 260] [1,4,8,10,11,12,24,25] 1
 (.cut q5t)))
 (.cut q2o))) [1,4,8,10,11,12,24] 1)
def q5u:ICode:=
 (.post (.block 20 (.loop qaf)) [8,10] 1)
def q2p:ICode:=
 (sR [oN (.load 317 true 2 10),oN (.store true 2 8 317)] [8] 1
 .ret)
def q2q:ICode:=
 (.seq (sR [oK 24 0] [1,4,8,10,11,12,24] 1
 (.cut q5u))
 (.cut q2p))
def qr:ICode:=
 (.seq (sR [oM 215 3,oN (.un 216 .not 215)] [1,4,8,9,10,11,12,216] 1
 (.cond 216 (sR [oN (.load 217 true 2 10),oN (.store true 2 8 217)] [8] 1
 .ret)
 .skip))
 (.seq (sR [oK 22 0] [1,4,8,9,10,11,12,22] 1
 (.cut q5r))
 (.cut q2q)))
def q2r:ICode:=
 (.seq (sR [oF 180 4 6,oL 181 180,oY 182 45 [181,(.c (I 1))],oN (.un 183 .not 182)] [1,3,4,8,9,10,11,12,183] 1
 (.cond 183 (.post (sR [oN (.mv 20 (.c (.sl true 1 [])))] [1,3,4,8,9,10,11,12,20] 1
 (.seq (sR [oK 21 0] [1,3,4,8,9,10,11,12,20,21] 1
 (.cut q5p))
 (.cut q2l))) [1,3,4,8,9,10,11,12] 1)
 (.post .skip [1,3,4,8,9,10,11,12] 1)))
 (.cut qr))
def q2s:ICode:=
 (.seq (sR [oK 18 0] [1,3,4,8,9,10,11,12,18] 1
 (.cut q5o))
 (.cut q2r))
def q2t:ICode:=
 (.seq (sR [oK 17 0] [1,2,3,4,8,9,10,11,12,17] 1
 (.cut q1m))
 (.cut q2s))
def q2u:ICode:=
 (.seq (sR [oK 14 1] [1,2,3,4,8,9,10,11,12,14] 1
 (.cut q5m))
 (.cut q2t))
def q5v:ICode:=
 (sR [oN (.box 4 true false 0),oN (.alloc 8 false (.agg [I 0,.sl true 1 []]))] [1,2,3,4,8] 1
 (sR [oF 28 4 0,oF 29 28 0,oL 30 29,oF 31 4 0,oF 32 31 1,oL 33 32,oD 34 33,oN (.bin 35 .add 30 34),oN (.alloc 9 true (I 0)),oN (.store false 1 9 35)] [1,2,3,4,8,9] 1
 (sR [oL 36 9,oM 37 1,oP 38 37 1,oN (.bin 39 .mul 36 38),oN (.buildT 40 [I 0,.sl true 1 []] [(0,1,39)]),oN (.alloc 10 true (.agg [I 0,.sl true 1 []])),oN (.store true 2 10 40)] [1,2,3,4,8,9,10] 1
 (sR [oN (.mkfn 41 338 [10]),oM 11 41] [1,2,3,4,8,9,10,11] 1
 (sR [oN (.mkfn 42 339 [9,4]),oM 12 42] [1,2,3,4,8,9,10,11,12] 1
 (.seq (sR [oK 13 0] [1,2,3,4,8,9,10,11,12,13] 1
 (.cut q5k))
 (.cut q2u)))))))
def q5w:IFunc:={np:=4,res:=[.cell 8 true 2],own:=false,trunc:=true,body:=q5v }
/- 338: latchwork/latchworkref.StepClauses$1 -/
def q5x:ICode:=
 (pR [oF 3 1 1,oN (.loadT 4 3),oM 5 0,oN (.buildSl 6 1 [5]),oN (.append 7 1 24 4 6),oF 8 1 1,oN (.store true 1 8 7)] [] 0)
def q5y:IFunc:={np:=2,res:=[],own:=false,trunc:=false,body:=q5x }
/- 339: latchwork/latchworkref.StepClauses$2 -/
def qag:ICode:=
 (sR [oK 6 0] [0,1,2,3] 0
 (sR [oM 7 0,oL 8 2,oN (.bin 9 .mul 7 8),oP 10 9 1,oF 11 3 2,oL 12 11,oN (.bin 13 .add 10 12),oM 14 1,oN (.bin 15 .add 13 14),oM 6 15] [6] 0
 .ret))
def q5z:IFunc:={np:=4,res:=[.t 6],own:=false,trunc:=false,body:=qag }
/- 349: latchwork/latchworkref.SameModel -/
/- 351: latchwork/latchworkref.PrintTrace -/
/- 354: latchwork/latchworkref.samePairs -/
/- 355: latchwork/latchworkref.line -/
/- 368: latchwork/latchworkref.PrintModel -/
/- 370: latchwork/latchworkref.ParseModel -/
/- 372: latchwork/latchworkref.ParseTrace -/
/- 373: latchwork/latchworkref.SameTrace -/
/- 376: latchwork/latchworkref.CheckTrace -/
/- 377: latchwork/latchworkref.PlayOf -/
/- 379: latchwork/latchworkref.kindWord -/
/- 380: latchwork/latchworkref.Cut -/
/- 381: latchwork/latchworkref.Undigit -/
/- 385: latchwork/latchworkref.PrintClauses -/
end Go.Lw
end

/-! The code of package Search for the small machine. Written by program (gen.py). -/
section
set_option maxRecDepth 10000
namespace Go.Lw
open Go
/- 163: latchwork/search.Solve -/
/- 164: latchwork/search.Raw -/
def qmk:ICode:=
 (sR [oB 2 0,oN (.alloc 4 false (.agg [I 0,.sl true 1 [],.sl true 1 []]))] [1,2,4] 2
 (sR [oN (.load 5 true 2 2),oM 6 1,oX 7 169 [5,6],oX 8 170 [7],oN (.store true 3 4 8)] [4] 2
 .ret))
def qml:IFunc:={np:=2,res:=[.cell 4 true 3],own:=false,trunc:=false,body:=qmk }
/- 166: latchwork/search.Is -/
/- 169: latchwork/search.begin -/
def qmm:ICode:=
 (pR [oP 82 28 1,oM 28 82] [6,26,27,28] 0)
def qmn:ICode:=
 (.post (.seq (.region [oW 29 28 27] false)
 (.seq (.cond 29 .skip
 (.exit 0))
 (.seq (.post (.block 1 (sR [oA 30 26 28,oL 31 30,oN (.alloc 8 true (.nils)),oN (.store true 1 8 31)] [6,8,26,27,28] 0
 (sR [oL 32 8,oX 33 121 [32],oN (.store true 1 8 33)] [6,8,26,27,28] 0
 (sR [oL 34 8,oX 35 161 [34]] [6,8,26,27,28] 0
 (sR [oL 36 8,oX 37 162 [36],oN (.store true 1 8 37)] [6,8,26,27,28] 0
 (.seq (sR [oL 38 8,oN (.mkfn 39 171 [8]),oX 40 172 [38,39]] [6,8,26,27,28,40] 0
 (.cond 40 (.exit 1)
 .skip))
 (sR [oM 41 6,oL 42 8,oX 43 173 [41,42],oM 9 43] [6,8,9,26,27,28] 0
 (.block 2 (sR [
 oL 45 8,
 oD 46 45,
 oE 47 46 0,
 oM 48 47,
  ⟨.load 49 false 1 8,some (48,false)⟩,
  ⟨.len 50 0 49,some (48,false)⟩,
  ⟨.bin 51 .eql 50 (.c (I 1)),some (48,false)⟩,
  ⟨.mv 52 51,some (48,false)⟩,
  ⟨.mv 53 6,some (52,true)⟩,
  ⟨.load 54 false 1 8,some (52,true)⟩,
  ⟨.iaddr 55 1 none 54 (.c (I 0)),some (52,true)⟩,
  ⟨.loadK 56 55,some (52,true)⟩,
  ⟨.call (some 57) true 174 [53,56],some (52,true)⟩,
  ⟨.bin 58 .lss 57 (.c (I 0)),some (52,true)⟩,
  ⟨.pick 59 52 58 (.c (.bool false)),some (48,false)⟩,
 oN (.pick 60 48 (.c (.bool true)) 59),
 oM 44 60] [6,8,9,26,27,28,44] 0
 (.cond 44 (.post (pR [oM 61 6,oC 62 61,oF 63 62 12,oN (.store false 1 63 (.c (.bool true)))] [6,26,27,28] 0) [6,26,27,28] 0)
 (.post (sR [
 oL 65 8,
 oD 66 65,
 oE 67 66 1,
 oM 68 67,
  ⟨.mv 69 6,some (68,true)⟩,
  ⟨.load 70 false 1 8,some (68,true)⟩,
  ⟨.iaddr 71 1 none 70 (.c (I 0)),some (68,true)⟩,
  ⟨.loadK 72 71,some (68,true)⟩,
  ⟨.call (some 73) true 174 [69,72],some (68,true)⟩,
  ⟨.bin 74 .eql 73 (.c (I 0)),some (68,true)⟩,
 oN (.pick 75 68 74 (.c (.bool false))),
 oM 64 75] [6,8,9,26,27,28,64] 0
 (.cond 64 (.post (pR [oM 76 6,oL 77 8,oN (.iaddr 78 1 none 77 (.c (I 0))),oN (.loadK 79 78),oM 80 9,oX 81 175 [76,79,80]] [6,26,27,28] 0) [6,26,27,28] 0)
 (.post .skip [6,26,27,28] 0))) [6,26,27,28] 0))))))))))) [6,26,27,28] 0)
 (.cut qmm)))) [6,26,27,28] 0)
def qmo:ICode:=
 (.post (.block 0 (.loop qmn)) [6] 0)
def qmp:ICode:=
 (sR [oM 83 6,oM 4 83] [4] 0
 .ret)
def qmq:ICode:=
 (sR [oB 2 0,oN (.mv 4 (.c (.nilp)))] [1,2] 1
 (sR [oF 10 2 0,oL 11 10,oP 12 11 1,oM 5 12] [1,2,5] 1
 (sQ [oF 13 2 0,oL 14 13,oN (.mkmap 15),oM 16 5,oN (.mkarr 17 1 8 (I 0) 16),oM 18 5,oN (.mkarr 19 1 8 (I 0) 18),oM 20 5,oN (.mkarr 21 1 8 (I 0) 20),oM 22 1,
 oN (.buildA 23 [I 0,.sl true 1 [],.nilm,.nils,.nils,.nils,.nils,.nils,I 0,I 0,I 0,.sl true 1 [],.bool false] [(0,1,14),(2,1,15),(3,1,17),(4,1,19),(5,1,21),(10,1,22)]),
 oN (.box 24 true true 23),oM 6 24] [2,6] 1
 (.seq (sR [oF 25 2 1,oL 26 25,oD 27 26,oK 28 0] [6,26,27,28] 0
 (.cut qmo))
 (.cut qmp)))))
def qmr:IFunc:={np:=2,res:=[.t 4],own:=false,trunc:=false,body:=qmq }
/- 170: (*latchwork/search.searcher).run -/
def qms:ICode:=
 (.post (.seq (.region [oW 28 27 26] false)
 (.seq (.cond 28 .skip
 (.exit 2))
 (.seq (.block 3 (sR [oM 29 27,oM 5 29] [0,2,4,5,26,27] 1
 (pR [oM 30 4,oM 31 5,oM 32 0,oC 33 32,oF 34 33 3,oL 35 34,oM 36 5,oP 37 36 1,oA 38 35 37,oL 39 38,oN (.bin 40 .gtr 39 (.c (I 0))),oA 41 30 31,oN (.store false 1 41 40)] [0,2,4,26,27] 1)))
 (pR [oP 42 27 1,oM 27 42] [0,2,4,26,27] 1)))) [0,2,4,26,27] 1)
def qmt:ICode:=
 (.post (.block 2 (.loop qms)) [2,4] 1)
def qmu:ICode:=
 (sR [oM 43 4,oN (.buildT 44 [I 0,.sl true 1 [],.sl true 1 []] [(0,1,(.c (I 1))),(1,1,43)]),oN (.store true 3 2 44)] [2] 1
 .ret)
def qmv:ICode:=
 (.seq (sR [oM 45 0,oC 46 45,oF 47 46 7,oL 48 47,oD 49 48,oE 50 49 0] [0,2,3,50] 1
 (.cond 50 (sR [oM 51 0,oX 52 176 [51],oN (.store true 3 2 52)] [2] 1
 .ret)
 .skip))
 (.seq (sR [oM 53 0,oC 54 53,oF 55 54 10,oL 56 55,oS 57 56 1,oC 58 53,oF 59 58 10,oN (.store false 1 59 57)] [0,2,3] 1
 (sR [oM 60 0,oC 61 60,oF 62 61 10,oL 63 62,oN (.bin 64 .lss 63 (.c (I 0)))] [0,2,3,64] 1
 (.cond 64 (sR [oN (.buildT 65 [I 0,.sl true 1 [],.sl true 1 []] [(0,1,(.c (I 3)))]),oN (.store true 3 2 65)] [2] 1
 .ret)
 .skip)))
 (sR [oM 67 0,oM 68 3,oX 69 179 [67,68],oM 66 69,oG 70 66 0,oG 71 66 1,oT 6 70,oM 7 71] [0,2,6,7] 1
 (.seq (sR [
 oM 72 6,
 oD 73 72,
 oN (.bin 74 .gtr 73 (.c (I 200))),
 oM 75 74,
  ⟨.mv 76 0,some (75,false)⟩,
  ⟨.nilc 77 76,some (75,false)⟩,
  ⟨.faddr 78 77 11,some (75,false)⟩,
  ⟨.load 79 false 1 78,some (75,false)⟩,
  ⟨.len 80 0 79,some (75,false)⟩,
  ⟨.bin 81 .gtr 80 (.c (I 400000)),some (75,false)⟩,
 oN (.pick 82 75 (.c (.bool true)) 81)] [0,2,6,7,82] 1
 (.cond 82 (sR [oN (.buildT 83 [I 0,.sl true 1 [],.sl true 1 []] [(0,1,(.c (I 3)))]),oN (.store true 3 2 83)] [2] 1
 .ret)
 .skip))
 (sQ [oM 84 0,oM 85 0,oC 86 85,oF 87 86 11,oN (.loadTB 88 87 0 11),oM 89 6,oN (.callR (some 90) 121 [89] 0 11),oN (.buildSl 91 1 [90]),oN (.append 92 1 24 88 91),oC 93 84,oF 94 93 11,
 oN (.store true 1 94 92)] [0,2,6,7] 1
 (sR [oM 95 0,oM 96 7,oX 97 180 [95,96]] [0,2,6] 1
 (pQ [oM 98 0,oM 99 6,oN (.iaddr 100 1 none 99 (.c (I 0))),oN (.loadKB 101 100 6),oM 102 0,oM 103 6,oN (.callP (some 104) 173 [102,103] [6]),oX 105 175 [98,101,104]] [0,2] 1)))))))
def qmw:ICode:=
 (.post (.block 1 (sR [oM 14 0,oX 15 177 [14],oM 3 15] [0,2,3] 1
 (.seq (sR [oM 16 3,oN (.bin 17 .lss 16 (.c (I 0)))] [0,2,3,17] 1
 (.cond 17 (.seq (sR [oM 18 0,oX 19 178 [18]] [0,2,19] 1
 (.cond 19 (.exit 1)
 .skip))
 (sR [oM 20 0,oC 21 20,oF 22 21 0,oL 23 22,oN (.mksl 24 true 1 1 (.bool false) 23),oT 4 24] [0,2,4] 1
 (.seq (sR [oM 25 4,oD 26 25,oK 27 0] [0,2,4,26,27] 1
 (.cut qmt))
 (.cut qmu))))
 .skip))
 (.cut qmv)))) [0,2,11] 1)
def qmx:ICode:=
 (.post (.block 0 (.loop qmw)) [2] 1)
def qmy:ICode:=
 (.seq (.region [oN (.alloc 2 false (.agg [I 0,.sl true 1 [],.sl true 1 []]))] false)
 (.seq (sR [oM 8 0,oC 9 8,oF 10 9 12,oL 11 10] [0,2,11] 1
 (.cond 11 (sR [oM 12 0,oX 13 176 [12],oN (.store true 3 2 13)] [2] 1
 .ret)
 .skip))
 (.cut qmx)))
def qmz:IFunc:={np:=1,res:=[.cell 2 true 3],own:=false,trunc:=false,body:=qmy }
/- 171: latchwork/search.begin$1 -/
def qn0:ICode:=
 (sR [oN (.mv 3 (.c (.bool false)))] [0,1] 0
 (sR [oL 4 1,oM 5 0,oN (.un 6 .neg 5),oX 7 184 [4,6],oM 3 7] [3] 0
 .ret))
def qn1:IFunc:={np:=2,res:=[.t 3],own:=false,trunc:=false,body:=qn0 }
/- 173: (*latchwork/search.searcher).add -/
def qn2:ICode:=
 (sR [oM 60 5,oM 4 60] [4] 0
 .ret)
def qn3:ICode:=
 (sR [oK 4 0] [0,1] 0
 (sR [oM 6 0,oC 7 6,oF 8 7 1,oL 9 8,oD 10 9,oM 5 10] [0,1,5] 0
 (sR [oM 11 0,oM 12 0,oC 13 12,oF 14 13 1,oN (.loadT 15 14),oM 16 1,oN (.buildSl 17 1 [16]),oN (.append 18 1 24 15 17),oC 19 11,oF 20 19 1,oN (.store true 1 20 18)] [0,1,5] 0
 (.seq (sR [oM 21 1,oD 22 21,oN (.bin 23 .gtr 22 (.c (I 1)))] [0,1,5,23] 0
 (.cond 23 (.post (sQ [oM 24 0,oC 25 24,oF 26 25 2,oL 27 26,oM 28 1,oN (.iaddr 29 1 none 28 (.c (I 0))),oN (.loadKB 30 29 1),oM 31 0,oC 32 31,oF 33 32 2,oL 34 33,oM 35 1,
 oN (.iaddr 36 1 none 35 (.c (I 0))),oN (.loadK 37 36),oN (.lookup 38 0 34 37 false (.nils)),oM 39 5,oN (.buildSl 40 1 [39]),oN (.appendP 41 8 38 40 [1]),oN (.mupd 0 27 30 41)] [0,1,5] 0
 (pQ [oM 42 0,oC 43 42,oF 44 43 2,oL 45 44,oM 46 1,oN (.iaddr 47 1 none 46 (.c (I 1))),oN (.loadKB 48 47 1),oM 49 0,oC 50 49,oF 51 50 2,oL 52 51,oM 53 1,
 oN (.iaddr 54 1 none 53 (.c (I 1))),oN (.loadK 55 54),oN (.lookup 56 0 52 55 false (.nils)),oM 57 5,oN (.buildSl 58 1 [57]),oN (.appendP 59 8 56 58 [1]),oN (.mupd 0 45 48 59)] [5] 0)) [5] 0)
 (.post .skip [5] 0)))
 (.cut qn2)))))
def qn4:IFunc:={np:=2,res:=[.t 4],own:=false,trunc:=false,body:=qn3 }
/- 174: (*latchwork/search.searcher).is -/
def qn5:ICode:=
 (sR [oK 4 0] [0,1] 0
 (.seq (sR [oM 5 1,oN (.bin 6 .lss 5 (.c (I 0)))] [0,1,6] 0
 (.cond 6 (sR [oM 7 0,oC 8 7,oF 9 8 3,oL 10 9,oM 11 1,oN (.un 12 .neg 11),oA 13 10 12,oL 14 13,oN (.un 15 .neg 14),oM 4 15] [4] 0
 .ret)
 .skip))
 (sR [oM 16 0,oC 17 16,oF 18 17 3,oL 19 18,oM 20 1,oA 21 19 20,oL 22 21,oM 4 22] [4] 0
 .ret)))
def qn6:IFunc:={np:=2,res:=[.t 4],own:=false,trunc:=true,body:=qn5 }
/- 175: (*latchwork/search.searcher).put -/
def qn7:ICode:=
 (sQ [oM 23 0,oC 24 23,oF 25 24 4,oL 26 25,oM 27 6,oM 28 0,oC 29 28,oF 30 29 5,oL 31 30,oM 32 6,oM 33 2,oM 34 0,oC 35 34,oF 36 35 7,oL 37 36,oD 38 37,oA 39 26 27,
 oN (.store false 1 39 33),oA 40 31 32,oN (.store false 1 40 38)] [0,1] 0
 (pR [oM 41 0,oM 42 0,oC 43 42,oF 44 43 6,oL 45 44,oM 46 1,oN (.buildSl 47 1 [46]),oN (.appendN 48 8 45 47),oC 49 41,oF 50 49 6,oN (.store true 1 50 48)] [] 0))
def qn8:ICode:=
 (sR [oM 7 1,oY 8 187 [7],oM 6 8] [0,1,2,6] 0
 (sR [oM 9 0,oC 10 9,oF 11 10 3,oL 12 11,oM 13 6,oA 14 12 13,oN (.store false 1 14 (.c (I 1)))] [0,1,2,6] 0
 (.seq (sR [oM 15 1,oN (.bin 16 .lss 15 (.c (I 0)))] [0,1,2,6,16] 0
 (.cond 16 (.post (pR [oM 17 0,oC 18 17,oF 19 18 3,oL 20 19,oM 21 6,oA 22 20 21,oN (.store false 1 22 (.c (I (-1))))] [0,1,2,6] 0) [0,1,2,6] 0)
 (.post .skip [0,1,2,6] 0)))
 (.cut qn7))))
def qn9:IFunc:={np:=3,res:=[],own:=false,trunc:=false,body:=qn8 }
/- 176: (*latchwork/search.searcher).no -/
def qna:ICode:=
 (.seq (.region [oN (.alloc 2 false (.agg [I 0,.sl true 1 [],.sl true 1 []]))] false)
 (sR [oM 3 0,oC 4 3,oF 5 4 11,oN (.loadT 6 5),oN (.buildSl 7 1 [(.c (.nils))]),oN (.append 8 1 24 6 7),oN (.buildT 9 [I 0,.sl true 1 [],.sl true 1 []] [(0,1,(.c (I 2))),(2,1,8)]),
 oN (.store true 3 2 9)] [2] 1
 .ret))
def qnb:IFunc:={np:=1,res:=[.cell 2 true 3],own:=false,trunc:=false,body:=qna }
/- 177: (*latchwork/search.searcher).spread -/
def qnc:ICode:=
 (.post (.seq (sQ [oM 5 0,oC 6 5,oF 7 6 8,oL 8 7,oM 9 0,oC 10 9,oF 11 10 6,oL 12 11,oD 13 12,oW 14 8 13] [0,14] 0
 (.cond 14 .skip
 (.exit 0)))
 (.block 1 (sQ [oM 15 0,oC 16 15,oF 17 16 6,oL 18 17,oM 19 0,oC 20 19,oF 21 20 8,oL 22 21,oA 23 18 22,oN (.loadK 24 23),oM 3 24] [0,3] 0
 (sR [oM 25 0,oC 26 25,oF 27 26 8,oL 28 27,oP 29 28 1,oC 30 25,oF 31 30 8,oN (.store false 1 31 29)] [0,3] 0
 (sR [oM 32 0,oM 33 3,oN (.un 34 .neg 33),oX 35 188 [32,34],oM 4 35] [0,4] 0
 (sR [oM 36 4,oN (.bin 37 .geq 36 (.c (I 0)))] [0,4,37] 0
 (.cond 37 (sR [oM 38 4,oM 2 38] [2] 0
 .ret)
 .skip))))))) [0] 0)
def qnd:ICode:=
 (.post (.block 0 (.loop qnc)) [] 0)
def qne:ICode:=
 (.seq (.region [oN (.mv 2 (.c (I (-1))))] false)
 .ret)
def qnf:ICode:=
 (sR [oK 2 0] [0] 0
 (.seq (.cut qnd)
 (.cut qne)))
def qng:IFunc:={np:=1,res:=[.t 2],own:=false,trunc:=false,body:=qnf }
/- 178: (*latchwork/search.searcher).choose -/
def qnh:ICode:=
 (.post (.seq (sR [oM 9 3,oM 10 0,oC 11 10,oF 12 11 0,oL 13 12,oN (.bin 14 .leq 9 13)] [0,3,14] 0
 (.cond 14 .skip
 (.exit 0)))
 (.seq (.block 1 (sR [oM 17 0,oC 18 17,oF 19 18 3,oL 20 19,oM 21 3,oA 22 20 21,oL 23 22,oE 24 23 0] [0,3,24] 0
 (.cond 24 (sR [oM 25 0,oM 26 3,oC 27 25,oF 28 27 9,oN (.store false 1 28 26)] [0,3] 0
 (sQ [oM 29 0,oM 30 0,oC 31 30,oF 32 31 7,oL 33 32,oM 34 0,oC 35 34,oF 36 35 6,oL 37 36,oD 38 37,oN (.buildSl 39 1 [38]),oN (.appendN 40 8 33 39),oC 41 29,oF 42 41 7,
 oN (.store true 1 42 40)] [0,3] 0
 (sR [oM 43 0,oM 44 3,oN (.un 45 .neg 44),oX 46 175 [43,45,(.c (I (-1)))]] [] 0
 (.seq (.region [oN (.mv 2 (.c (.bool true)))] false)
 .ret))))
 .skip)))
 (pR [oM 15 3,oP 16 15 1,oM 3 16] [0,3] 0))) [0,3] 0)
def qni:ICode:=
 (.post (.block 0 (.loop qnh)) [] 0)
def qnj:ICode:=
 (.seq (.region [oN (.mv 2 (.c (.bool false)))] false)
 .ret)
def qnk:ICode:=
 (sR [oN (.mv 2 (.c (.bool false)))] [0] 0
 (.seq (sR [oM 4 0,oC 5 4,oF 6 5 9,oL 7 6,oN (.maxi 8 [7,(.c (I 1))]),oM 3 8] [0,3] 0
 (.cut qni))
 (.cut qnj)))
def qnl:IFunc:={np:=1,res:=[.t 2],own:=false,trunc:=false,body:=qnk }
/- 179: (*latchwork/search.searcher).learn -/
def qnm:ICode:=
 (pR [oP 75 30 1,oM 30 75] [2,6,7,8,9,10,28,29,30] 0)
def qnn:ICode:=
 (.post (.seq (.region [oW 31 30 29] false)
 (.seq (.cond 31 .skip
 (.exit 2))
 (.seq (.post (.block 3 (sR [oA 32 28 30,oN (.loadK 33 32),oM 12 33] [2,6,7,8,9,10,12,28,29,30] 0
 (sR [oM 34 12,oY 35 187 [34],oM 13 35] [2,6,7,8,9,10,12,13,28,29,30] 0
 (.seq (sR [
 oM 36 12,
 oM 37 10,
 oN (.bin 38 .eql 36 37),
 oM 39 38,
  ⟨.mv 40 6,some (39,false)⟩,
  ⟨.mv 41 13,some (39,false)⟩,
  ⟨.lookup 42 0 40 41 false (.bool false),some (39,false)⟩,
 oN (.pick 43 39 (.c (.bool true)) 42),
 oM 44 43,
  ⟨.load 45 false 1 2,some (44,false)⟩,
  ⟨.nilc 46 45,some (44,false)⟩,
  ⟨.faddr 47 46 5,some (44,false)⟩,
  ⟨.load 48 false 1 47,some (44,false)⟩,
  ⟨.mv 49 13,some (44,false)⟩,
  ⟨.iaddr 50 1 none 48 49,some (44,false)⟩,
  ⟨.load 51 false 1 50,some (44,false)⟩,
  ⟨.bin 52 .eql 51 (.c (I 0)),some (44,false)⟩,
 oN (.pick 53 44 (.c (.bool true)) 52)] [2,6,7,8,9,10,12,13,28,29,30,53] 0
 (.cond 53 (.exit 3)
 .skip))
 (sR [oM 54 6,oM 55 13,oN (.mupd 0 54 55 (.c (.bool true)))] [2,6,7,8,9,10,12,13,28,29,30] 0
 (sQ [oL 56 2,oC 57 56,oF 58 57 5,oL 59 58,oM 60 13,oA 61 59 60,oL 62 61,oL 63 2,oC 64 63,oF 65 64 7,oL 66 65,oD 67 66,oN (.bin 68 .eql 62 67)] [2,6,7,8,9,10,12,28,29,30,68] 0
 (.cond 68 (.post (pR [oM 69 8,oP 70 69 1,oM 8 70] [2,6,7,8,9,10,28,29,30] 0) [2,6,7,8,9,10,28,29,30] 0)
 (.post (pR [oM 71 7,oM 72 12,oN (.buildSl 73 1 [72]),oN (.appendN 74 8 71 73),oT 7 74] [2,6,7,8,9,10,28,29,30] 0) [2,6,7,8,9,10,28,29,30] 0)))))))) [2,6,7,8,9,10,28,29,30] 0)
 (.cut qnm)))) [2,6,7,8,9,10,28,29,30] 0)
def qno:ICode:=
 (.post (.block 2 (.loop qnn)) [2,6,7,8,9] 0)
def qnp:ICode:=
 (.post (.seq (sR [oM 76 6,oL 77 2,oC 78 77,oF 79 78 6,oL 80 79,oM 81 9,oA 82 80 81,oN (.loadK 83 82),oY 84 187 [83],oN (.lookup 85 0 76 84 false (.bool false)),oN (.un 86 .not 85)] [2,6,7,8,9,86] 0
 (.cond 86 .skip
 (.exit 4)))
 (.block 5 (pR [oM 87 9,oS 88 87 1,oM 9 88] [2,6,7,8,9] 0))) [2,6,7,8,9] 0)
def qnq:ICode:=
 (.post (.block 4 (.loop qnp)) [2,6,7,8,9] 0)
def qnr:ICode:=
 (sR [oL 89 2,oC 90 89,oF 91 90 6,oL 92 91,oM 93 9,oA 94 92 93,oN (.loadK 95 94),oM 10 95] [2,6,7,8,9,10] 0
 (sR [oM 96 9,oS 97 96 1,oM 9 97] [2,6,7,8,9,10] 0
 (sR [oM 98 8,oS 99 98 1,oM 8 99] [2,6,7,8,9,10] 0
 (.seq (sR [oM 100 8,oE 101 100 0] [2,6,7,8,9,10,101] 0
 (.cond 101 (.exit 0)
 .skip))
 (pQ [oL 102 2,oC 103 102,oF 104 103 4,oL 105 104,oM 106 10,oY 107 187 [106],oA 108 105 107,oL 109 108,oM 1 109] [1,2,6,7,8,9,10] 0)))))
def qns:ICode:=
 (.seq (.cut qnq)
 (.cut qnr))
def qnt:ICode:=
 (.post (.block 1 (.seq (sR [oL 22 2,oC 23 22,oF 24 23 1,oL 25 24,oM 26 1,oA 27 25 26,oL 28 27,oD 29 28,oK 30 0] [2,6,7,8,9,10,28,29,30] 0
 (.cut qno))
 (.cut qns))) [1,2,6,7,8,9,10] 0)
def qnu:ICode:=
 (.post (.block 0 (.loop qnt)) [2,7,10] 0)
def qnv:ICode:=
 (sR [oM 126 10,oN (.un 127 .neg 126),oN (.buildSlK 128 [127]),oM 129 7,oN (.appendN 130 8 128 129),oM 131 14,oT 4 130,oM 5 131] [4,5] 0
 .ret)
def qnw:ICode:=
 (sR [oM 110 7,oN (.mkfn 111 189 [2]),oY 112 190 [110,111]] [2,7,10] 0
 (.seq (.region [oK 14 0] false)
 (.seq (sR [oM 113 7,oD 114 113,oN (.bin 115 .gtr 114 (.c (I 0)))] [2,7,10,14,115] 0
 (.cond 115 (.post (pQ [oL 116 2,oC 117 116,oF 118 117 5,oL 119 118,oM 120 7,oN (.iaddr 121 1 none 120 (.c (I 0))),oN (.loadK 122 121),oY 123 187 [122],oA 124 119 123,oL 125 124,oM 14 125] [7,10,14] 0) [7,10,14] 0)
 (.post .skip [7,10,14] 0)))
 (.cut qnv))))
def qnx:ICode:=
 (sR [oN (.box 2 true false 0),oN (.mv 4 (.c (.nils))),oK 5 0] [1,2] 0
 (sR [oN (.mkmap 15),oM 6 15] [1,2,6] 0
 (.seq (.region [oN (.mv 7 (.c (.nils)))] false)
 (sQ [oL 16 2,oC 17 16,oF 18 17 6,oL 19 18,oD 20 19,oS 21 20 1,oK 8 0,oM 9 21] [1,2,6,7,8,9] 0
 (sR [oK 10 0] [1,2,6,7,8,9,10] 0
 (.seq (.cut qnu)
 (.cut qnw)))))))
def qny:IFunc:={np:=2,res:=[.t 4,.t 5],own:=false,trunc:=false,body:=qnx }
/- 180: (*latchwork/search.searcher).back -/
def qnz:ICode:=
 (.post (.seq (.region [oW 27 26 25] false)
 (.seq (.cond 27 .skip
 (.exit 0))
 (.seq (.block 1 (sR [oA 28 24 26,oN (.loadK 29 28),oM 5 29] [0,1,5,24,25,26] 0
 (pQ [oM 30 0,oC 31 30,oF 32 31 3,oL 33 32,oM 34 5,oY 35 187 [34],oA 36 33 35,oN (.store false 1 36 (.c (I 0)))] [0,1,24,25,26] 0)))
 (pR [oP 37 26 1,oM 26 37] [0,1,24,25,26] 0)))) [0,1,24,25,26] 0)
def qo0:ICode:=
 (.post (.block 0 (.loop qnz)) [0,1] 0)
def qo1:ICode:=
 (sQ [oM 38 0,oM 39 0,oC 40 39,oF 41 40 6,oL 42 41,oM 43 0,oC 44 43,oF 45 44 7,oL 46 45,oM 47 1,oA 48 46 47,oN (.loadK 49 48),oN (.slice 50 1 42 none (some 49)),oC 51 38,oF 52 51 6,
 oN (.store true 1 52 50)] [0,1] 0
 (sR [oM 53 0,oM 54 0,oC 55 54,oF 56 55 7,oL 57 56,oM 58 1,oN (.slice 59 1 57 none (some 58)),oC 60 53,oF 61 60 7,oN (.store true 1 61 59)] [0] 0
 (sR [oM 62 0,oM 63 0,oC 64 63,oF 65 64 6,oL 66 65,oD 67 66,oC 68 62,oF 69 68 8,oN (.store false 1 69 67)] [0] 0
 (pR [oM 70 0,oC 71 70,oF 72 71 9,oN (.store false 1 72 (.c (I 1)))] [] 0))))
def qo2:ICode:=
 (.seq (sR [oM 6 1,oM 7 0,oC 8 7,oF 9 8 7,oL 10 9,oD 11 10,oN (.bin 12 .geq 6 11)] [0,1,12] 0
 (.cond 12 .ret
 .skip))
 (.seq (sQ [oM 13 0,oC 14 13,oF 15 14 6,oL 16 15,oM 17 0,oC 18 17,oF 19 18 7,oL 20 19,oM 21 1,oA 22 20 21,oN (.loadK 23 22),oN (.slice 24 1 16 (some 23) none),oD 25 24,oK 26 0] [0,1,24,25,26] 0
 (.cut qo0))
 (.cut qo1)))
def qo3:IFunc:={np:=2,res:=[],own:=false,trunc:=false,body:=qo2 }
/- 187: latchwork/search.abs -/
def qo4:ICode:=
 (sR [oK 2 0] [0] 0
 (sR [oM 3 0,oM 4 0,oN (.un 5 .neg 4),oN (.maxi 6 [3,5]),oM 2 6] [2] 0
 .ret))
def qo5:IFunc:={np:=1,res:=[.t 2],own:=false,trunc:=true,body:=qo4 }
/- 188: (*latchwork/search.searcher).visit -/
def qo6:ICode:=
 (.seq (sR [oM 45 0,oM 46 9,oN (.iaddr 47 1 none 46 (.c (I 0))),oN (.loadK 48 47),oY 49 174 [45,48],oN (.bin 50 .gtr 49 (.c (I 0)))] [0,1,5,6,7,8,9,16,17,18,50] 0
 (.cond 50 (sR [oM 51 5,oM 52 8,oN (.buildSl 53 1 [52]),oN (.appendN 54 8 51 53),oT 5 54] [0,1,5,6,16,17,18] 0
 (.exit 1))
 .skip))
 (.seq (sR [oM 55 0,oM 56 8,oX 57 191 [55,56]] [0,1,5,6,7,8,9,16,17,18,57] 0
 (.cond 57 (.exit 1)
 .skip))
 (sR [oM 58 5,oM 59 8,oN (.buildSl 60 1 [59]),oN (.appendN 61 8 58 60),oT 5 61] [0,1,5,6,7,8,9,16,17,18] 0
 (.seq (sR [oM 62 0,oM 63 9,oN (.iaddr 64 1 none 63 (.c (I 0))),oN (.loadK 65 64),oY 66 174 [62,65],oN (.bin 67 .lss 66 (.c (I 0)))] [0,1,5,6,7,8,9,16,17,18,67] 0
 (.cond 67 (sQ [oM 68 0,oC 69 68,oF 70 69 2,oL 71 70,oM 72 1,oM 73 5,oM 74 6,oM 75 7,oP 76 75 1,oN (.slice 77 1 74 (some 76) none),oN (.appendN 78 8 73 77),oN (.mupd 0 71 72 78)] [8] 0
 (sR [oM 79 8,oM 4 79] [4] 0
 .ret))
 .skip))
 (pR [oM 80 0,oM 81 9,oN (.iaddr 82 1 none 81 (.c (I 0))),oN (.loadK 83 82),oM 84 8,oX 85 175 [80,83,84]] [0,1,5,6,16,17,18] 0)))))
def qo7:ICode:=
 (pR [oP 86 18 1,oM 18 86] [0,1,5,6,16,17,18] 0)
def qo8:ICode:=
 (.post (.seq (.region [oW 19 18 17] false)
 (.seq (.cond 19 .skip
 (.exit 0))
 (.seq (.post (.block 1 (sR [oM 20 18,oA 21 16 18,oN (.loadK 22 21),oM 7 20,oM 8 22] [0,1,5,6,7,8,16,17,18] 0
 (sR [oM 23 0,oC 24 23,oF 25 24 1,oL 26 25,oM 27 8,oA 28 26 27,oL 29 28,oT 9 29] [0,1,5,6,7,8,9,16,17,18] 0
 (.seq (sR [oM 30 9,oN (.iaddr 31 1 none 30 (.c (I 0))),oN (.loadK 32 31),oM 33 1,oN (.bin 34 .eql 32 33)] [0,1,5,6,7,8,9,16,17,18,34] 0
 (.cond 34 (.post (pQ [oM 35 9,oM 36 9,oM 37 9,oN (.iaddr 38 1 none 37 (.c (I 1))),oN (.loadK 39 38),oM 40 9,oN (.iaddr 41 1 none 40 (.c (I 0))),oN (.loadK 42 41),oN (.iaddr 43 1 none 35 (.c (I 0))),
 oN (.storeK 43 39),oN (.iaddr 44 1 none 36 (.c (I 1))),oN (.storeK 44 42)] [0,1,5,6,7,8,9,16,17,18] 0) [0,1,5,6,7,8,9,16,17,18] 0)
 (.post .skip [0,1,5,6,7,8,9,16,17,18] 0)))
 (.cut qo6))))) [0,1,5,6,16,17,18] 0)
 (.cut qo7)))) [0,1,5,6,16,17,18] 0)
def qo9:ICode:=
 (.post (.block 0 (.loop qo8)) [0,1,5] 0)
def qoa:ICode:=
 (sR [oM 87 0,oC 88 87,oF 89 88 2,oL 90 89,oM 91 1,oM 92 5,oN (.mupd 0 90 91 92)] [] 0
 (.seq (.region [oN (.mv 4 (.c (I (-1))))] false)
 .ret))
def qob:ICode:=
 (sR [oK 4 0] [0,1] 0
 (.seq (.region [oN (.mv 5 (.c (.nils)))] false)
 (sR [oM 10 0,oC 11 10,oF 12 11 2,oL 13 12,oM 14 1,oN (.lookup 15 0 13 14 false (.nils)),oT 6 15] [0,1,5,6] 0
 (.seq (sR [oM 16 6,oD 17 16,oK 18 0] [0,1,5,6,16,17,18] 0
 (.cut qo9))
 (.cut qoa)))))
def qoc:IFunc:={np:=2,res:=[.t 4],own:=false,trunc:=false,body:=qob }
/- 189: (*latchwork/search.searcher).learn$1 -/
def qod:ICode:=
 (sR [oK 5 0] [0,1,2] 0
 (sQ [oL 6 2,oC 7 6,oF 8 7 5,oL 9 8,oM 10 1,oY 11 187 [10],oA 12 9 11,oL 13 12,oL 14 2,oC 15 14,oF 16 15 5,oL 17 16,oM 18 0,oY 19 187 [18],oA 20 17 19,oL 21 20,oN (.bin 22 .sub 13 21),
 oM 5 22] [5] 0
 .ret))
def qoe:IFunc:={np:=3,res:=[.t 5],own:=false,trunc:=false,body:=qod }
/- 191: (*latchwork/search.searcher).other -/
def qof:ICode:=
 (.post (.seq (sR [oM 14 6,oM 15 5,oD 16 15,oW 17 14 16] [0,1,5,6,17] 0
 (.cond 17 .skip
 (.exit 0)))
 (.seq (.block 1 (sR [oM 20 0,oM 21 5,oM 22 6,oA 23 21 22,oN (.loadK 24 23),oY 25 174 [20,24],oN (.bin 26 .geq 25 (.c (I 0)))] [0,1,5,6,26] 0
 (.cond 26 (sQ [oM 27 5,oM 28 5,oM 29 6,oM 30 5,oM 31 6,oA 32 30 31,oN (.loadK 33 32),oM 34 5,oN (.iaddr 35 1 none 34 (.c (I 1))),oN (.loadK 36 35),oN (.iaddr 37 1 none 27 (.c (I 1))),
 oN (.storeK 37 33),oA 38 28 29,oN (.storeK 38 36)] [0,1,5] 0
 (sQ [oM 39 0,oC 40 39,oF 41 40 2,oL 42 41,oM 43 5,oN (.iaddr 44 1 none 43 (.c (I 1))),oN (.loadKB 45 44 5),oM 46 0,oC 47 46,oF 48 47 2,oL 49 48,oM 50 5,
 oN (.iaddr 51 1 none 50 (.c (I 1))),oN (.loadK 52 51),oN (.lookup 53 0 49 52 false (.nils)),oM 54 1,oN (.buildSl 55 1 [54]),oN (.appendP 56 8 53 55 [5]),oN (.mupd 0 42 45 56)] [] 0
 (.seq (.region [oN (.mv 4 (.c (.bool true)))] false)
 .ret)))
 .skip)))
 (pR [oM 18 6,oP 19 18 1,oM 6 19] [0,1,5,6] 0))) [0,1,5,6] 0)
def qog:ICode:=
 (.post (.block 0 (.loop qof)) [] 0)
def qoh:ICode:=
 (.seq (.region [oN (.mv 4 (.c (.bool false)))] false)
 .ret)
def qoi:ICode:=
 (sR [oN (.mv 4 (.c (.bool false)))] [0,1] 0
 (sR [oM 7 0,oC 8 7,oF 9 8 1,oL 10 9,oM 11 1,oA 12 10 11,oL 13 12,oT 5 13] [0,1,5] 0
 (.seq (sR [oK 6 2] [0,1,5,6] 0
 (.cut qog))
 (.cut qoh))))
def qoj:IFunc:={np:=2,res:=[.t 4],own:=false,trunc:=false,body:=qoi }
end Go.Lw
end

/-! The code of package Unroll for the small machine. Written by program (gen.py). -/
section
set_option maxRecDepth 10000
namespace Go.Lw
open Go
/- 265: latchwork/unroll.Limit -/
def qah:ICode:=
 (sR [oB 3 0,oN (.alloc 6 false (.agg [I 0,.sl true 1 []])),oK 7 0] [1,2,3,6] 2
 (.seq (sR [oF 8 3 0,oF 9 8 0,oL 10 9,oF 11 3 0,oF 12 11 1,oL 13 12,oD 14 13,oN (.bin 15 .add 10 14),oM 16 1,oP 17 16 1,oN (.bin 18 .mul 15 17),oN (.bin 19 .gtr 18 (.c (I 200000)))] [2,6,19] 2
 (.cond 19 (sR [oN (.build 20 [I 0,.sl true 1 []] []),oN (.store true 2 6 20),oK 7 3] [6,7] 2
 .ret)
 .skip))
 (sR [oM 21 2,oN (.callv (some 22) true 21 []),oY 23 55 [22],oG 24 23 0,oG 25 23 1,oN (.store true 2 6 24),oM 7 25] [6,7] 2
 .ret)))
def q1p:IFunc:={np:=3,res:=[.cell 6 true 2,.t 7],own:=false,trunc:=true,body:=qah }
/- 266: latchwork/unroll.Try -/
def qok:ICode:=
 (.post (.seq (.region [oW 51 50 49] false)
 (.seq (.cond 51 .skip
 (.exit 0))
 (.seq (.block 1 (sR [oM 52 50,oM 15 52] [4,9,12,13,14,15,49,50] 5
 (pQ [oF 53 13 1,oN (.loadL 54 53),oN (.load 55 true 5 4),oM 56 15,oM 57 14,oN (.bin 58 .mul 56 57),oN (.bin 59 .add (.c (I 1)) 58),oF 60 12 1,oL 61 60,
 oY 62 280 [55,(.c (I 2)),59,61],oN (.buildSl 63 1 [62]),oN (.append 64 1 24 54 63),oF 65 13 1,oN (.store true 1 65 64)] [4,9,12,13,14,49,50] 5)))
 (pR [oP 66 50 1,oM 50 66] [4,9,12,13,14,49,50] 5)))) [4,9,12,13,14,49,50] 5)
def qol:ICode:=
 (.post (.block 0 (.loop qok)) [9,12,13] 5)
def qom:ICode:=
 (sQ [oF 67 12 0,oL 68 67,oN (.load 69 true 2 13),oM 8 68,oN (.store true 2 9 69)] [8,9] 2
 .ret)
def qon:ICode:=
 (sR [oB 4 0,oN (.box 5 true false 1),oN (.box 6 true false 2),oK 8 0,oN (.alloc 9 false (.agg [.sl true 1 [],.sl true 1 []]))] [3,4,5,6,9] 2
 (sR [oN (.load 17 true 8 5),oL 18 6,oN (.mkfn 19 279 [5,6]),oY 20 265 [17,18,19],oM 16 20,oG 21 16 0,oG 22 16 1,oN (.alloc 10 false (.agg [I 0,.sl true 1 []])),
 oN (.store true 2 10 21),oM 11 22] [3,4,5,6,9,10,11] 3
 (.seq (sR [oM 23 11,oN (.bin 24 .neq 23 (.c (I 0)))] [3,4,5,6,9,10,24] 3
 (.cond 24 (sR [oN (.build 25 [.sl true 1 [],.sl true 1 []] []),oK 8 3,oN (.store true 2 9 25)] [8,9] 2
 .ret)
 .skip))
 (sR [oN (.load 26 true 2 10),oM 27 3,oX 28 164 [26,27],oN (.alloc 12 false (.agg [I 0,.sl true 1 [],.sl true 1 []])),oN (.store true 3 12 28)] [4,5,6,9,12] 4
 (.seq (.region [oN (.alloc 13 false (.agg [.sl true 1 [],.sl true 1 []]))] false)
 (.seq (sR [oF 29 12 0,oL 30 29,oE 31 30 1] [4,5,6,9,12,13,31] 5
 (.cond 31 (.post (sR [oF 32 5 0,oF 33 32 0,oL 34 33,oF 35 5 0,oF 36 35 1,oL 37 36,oD 38 37,oN (.bin 39 .add 34 38),oM 14 39] [4,5,6,9,12,13,14] 5
 (sR [oN (.load 40 true 5 4),oF 41 5 2,oL 42 41,oN (.bin 43 .add (.c (I 1)) 42),oF 44 12 1,oL 45 44,oY 46 280 [40,(.c (I 3)),43,45],oF 47 13 0,oN (.store true 1 47 46)] [4,6,9,12,13,14] 5
 (sR [oL 48 6,oP 49 48 1,oK 50 0] [4,9,12,13,14,49,50] 5
 (.cut qol)))) [9,12,13] 5)
 (.post .skip [9,12,13] 5)))
 (.cut qom)))))))
def qoo:IFunc:={np:=4,res:=[.t 8,.cell 9 true 2],own:=false,trunc:=true,body:=qon }
/- 276: latchwork/unroll.Raw -/
def qai:ICode:=
 (.post (.seq (.region [oW 45 44 43] false)
 (.seq (.cond 45 .skip
 (.exit 0))
 (.seq (.block 1 (sR [oM 46 44,oM 8 46] [1,2,3,7,8,43,44] 1
 (pQ [oM 47 7,oC 48 47,oF 49 48 0,oL 50 49,oF 51 3 0,oN (.load 52 true 2 51),oM 53 8,oM 54 7,oC 55 54,oF 56 55 9,oL 57 56,oN (.bin 58 .mul 53 57),oX 59 53 [50,52,58]] [1,2,3,7,43,44] 1)))
 (pR [oP 60 44 1,oM 44 60] [1,2,3,7,43,44] 1)))) [1,2,3,7,43,44] 1)
def q60:ICode:=
 (.post (.block 0 (.loop qai)) [1,2,3,7] 1)
def qaj:ICode:=
 (.post (.seq (sR [oM 61 9,oM 62 1,oN (.bin 63 .leq 61 62)] [1,2,3,7,9,63] 1
 (.cond 63 .skip
 (.exit 2)))
 (.seq (.block 3 (pR [oM 66 7,oM 67 9,oX 68 291 [66,67]] [1,2,3,7,9] 1))
 (pR [oM 64 9,oP 65 64 1,oM 9 65] [1,2,3,7,9] 1))) [1,2,3,7,9] 1)
def q2v:ICode:=
 (.post (.block 2 (.loop qaj)) [1,2,3,7] 1)
def q11:ICode:=
 (pR [oP 93 72 1,oM 72 93] [1,2,3,7,70,71,72] 1)
def qak:ICode:=
 (.post (.seq (.region [oW 73 72 71] false)
 (.seq (.cond 73 .skip
 (.exit 4))
 (.seq (.block 5 (sR [oM 74 72,oA 75 70 72,oL 76 75,oM 10 74,oM 11 76] [1,2,3,7,10,11,70,71,72] 1
 (sR [
 oM 77 2,
 oM 78 77,
  ⟨.mv 79 11,some (78,true)⟩,
  ⟨.bin 80 .geq 79 (.c (I 0)),some (78,true)⟩,
 oN (.pick 81 78 80 (.c (.bool false)))] [1,2,3,7,10,11,70,71,72,81] 1
 (.cond 81 (.post (pQ [oM 82 7,oC 83 82,oF 84 83 0,oL 85 84,oM 86 7,oM 87 10,oM 88 11,oE 89 88 1,oY 90 292 [86,(.c (I 0)),87,89],oN (.buildSl 91 1 [90]),oX 92 91 [85,91]] [1,2,3,7,70,71,72] 1) [1,2,3,7,70,71,72] 1)
 (.post .skip [1,2,3,7,70,71,72] 1)))))
 (.cut q11)))) [1,2,3,7,70,71,72] 1)
def q61:ICode:=
 (.post (.block 4 (.loop qak)) [1,3,7] 1)
def qal:ICode:=
 (.post (.seq (.region [oW 103 102 101] false)
 (.seq (.cond 103 .skip
 (.exit 8))
 (.seq (.block 9 (sR [oA 104 100 102,oL 105 104,oM 14 105] [1,3,7,12,14,95,96,100,101,102] 1
 (pQ [oM 106 7,oC 107 106,oF 108 107 0,oL 109 108,oM 110 14,oM 111 12,oM 112 7,oC 113 112,oF 114 113 9,oL 115 114,oN (.bin 116 .mul 111 115),oX 117 54 [109,110,116]] [1,3,7,12,95,96,100,101,102] 1)))
 (pR [oP 118 102 1,oM 102 118] [1,3,7,12,95,96,100,101,102] 1)))) [1,3,7,12,95,96,100,101,102] 1)
def q62:ICode:=
 (.post (.block 8 (.loop qal)) [1,3,7,95,96] 1)
def q2w:ICode:=
 (pR [oP 119 96 1,oM 96 119] [1,3,7,95,96] 1)
def qam:ICode:=
 (.post (.seq (.region [oW 97 96 95] false)
 (.seq (.cond 97 .skip
 (.exit 6))
 (.seq (.block 7 (sR [oM 98 96,oM 12 98] [1,3,7,12,95,96] 1
 (sR [oF 99 3 7,oL 100 99,oD 101 100,oK 102 0] [1,3,7,12,95,96,100,101,102] 1
 (.cut q62))))
 (.cut q2w)))) [1,3,7,95,96] 1)
def q63:ICode:=
 (.post (.block 6 (.loop qam)) [1,7] 0)
def q2x:ICode:=
 (sR [oM 120 7,oM 121 1,oX 122 293 [120,121]] [7] 0
 (sR [oM 123 7,oM 6 123] [6] 0
 .ret))
def q2y:ICode:=
 (.seq (sR [oM 94 1,oP 95 94 1,oK 96 0] [1,3,7,95,96] 1
 (.cut q63))
 (.cut q2x))
def q2z:ICode:=
 (.seq (sR [oF 69 3 4,oL 70 69,oD 71 70,oK 72 0] [1,2,3,7,70,71,72] 1
 (.cut q61))
 (.cut q2y))
def q30:ICode:=
 (.seq (sR [oK 9 1] [1,2,3,7,9] 1
 (.cut q2v))
 (.cut q2z))
def qan:ICode:=
 (sR [oB 3 0,oN (.mv 6 (.c (.nilp)))] [1,2,3] 1
 (sR [oN (.build 15 [I 0,.sl true 1 []] []),oN (.box 16 true true 15),oN (.load 17 true 8 3),oF 18 3 0,oF 19 18 0,oL 20 19,oF 21 3 0,oF 22 21 1,oL 23 22,oD 24 23,
 oN (.bin 25 .add 20 24),
 oN (.buildT 26 [.nilp,I 0,.sl true 2 [],I 0,I 0,.sl true 1 [],.sl true 1 [],.sl true 1 [],.sl true 1 [],I 0] [(0,1,16),(1,8,17),(9,1,25)]),
 oN (.box 27 true true 26),oM 7 27] [1,2,3,7] 1
 (sQ [oM 28 7,oC 29 28,oF 30 29 0,oL 31 30,oM 32 7,oC 33 32,oF 34 33 9,oL 35 34,oM 36 1,oP 37 36 1,oN (.bin 38 .mul 35 37),oC 39 31,oF 40 39 0,oF 41 40 0,oN (.store false 1 41 38)] [1,2,3,7] 1
 (.seq (sR [oM 42 1,oP 43 42 1,oK 44 0] [1,2,3,7,43,44] 1
 (.cut q60))
 (.cut q30)))))
def q64:IFunc:={np:=3,res:=[.t 6],own:=false,trunc:=false,body:=qan }
/- 279: latchwork/unroll.Try$1 -/
def qop:ICode:=
 (.seq (.region [oN (.alloc 2 false (.agg [I 0,.sl true 1 []]))] false)
 (sR [oN (.load 3 true 8 0),oL 4 1,oX 5 276 [3,4,(.c (.bool true))],oC 6 5,oF 7 6 0,oL 8 7,oC 9 8,oF 10 9 0,oN (.load 11 true 2 10),oN (.store true 2 2 11)] [2] 1
 .ret))
def qoq:IFunc:={np:=2,res:=[.cell 2 true 2],own:=false,trunc:=true,body:=qop }
/- 280: latchwork/unroll.words -/
def qor:ICode:=
 (pR [oP 43 29 1,oM 29 43] [2,3,4,9,11,12,17,18,19,28,29] 1)
def qos:ICode:=
 (.post (.seq (.region [oW 30 29 28] false)
 (.seq (.cond 30 .skip
 (.exit 2))
 (.seq (.block 3 (sR [oM 31 29,oM 13 31] [2,3,4,9,11,12,13,17,18,19,28,29] 1
 (sR [oM 32 3,oM 33 2,oM 34 13,oN (.bin 35 .add 33 34),oS 36 35 1,oA 37 32 36,oL 38 37] [2,3,4,9,11,12,13,17,18,19,28,29,38] 1
 (.cond 38 (.post (pR [oM 39 12,oM 40 13,oN (.bin 41 .shl (.c (I 1)) 40),oN (.bin 42 .or 39 41),oM 12 42] [2,3,4,9,11,12,17,18,19,28,29] 1) [2,3,4,9,11,12,17,18,19,28,29] 1)
 (.post .skip [2,3,4,9,11,12,17,18,19,28,29] 1)))))
 (.cut qor)))) [2,3,4,9,11,12,17,18,19,28,29] 1)
def qot:ICode:=
 (.post (.block 2 (.loop qos)) [2,3,4,9,11,12,17,18,19] 1)
def qou:ICode:=
 (sR [oM 44 2,oF 45 4 0,oL 46 45,oM 47 11,oN (.iaddr 48 6 none 46 47),oF 49 48 1,oL 50 49,oN (.bin 51 .add 44 50),oM 2 51] [2,3,4,9,12,17,18,19] 1
 (pR [oT 52 9,oM 53 12,oN (.buildSl 54 1 [53]),oN (.append 55 1 8 52 54),oT 9 55] [2,3,4,9,17,18,19] 1))
def qov:ICode:=
 (pR [oP 56 19 1,oM 19 56] [2,3,4,9,17,18,19] 1)
def qow:ICode:=
 (.post (.seq (.region [oW 20 19 18] false)
 (.seq (.cond 20 .skip
 (.exit 0))
 (.seq (.block 1 (sR [oA 21 17 19,oL 22 21,oM 11 22] [2,3,4,9,11,17,18,19] 1
 (.seq (.region [oK 12 0] false)
 (.seq (sR [oF 23 4 0,oL 24 23,oM 25 11,oN (.iaddr 26 6 none 24 25),oF 27 26 1,oL 28 27,oK 29 0] [2,3,4,9,11,12,17,18,19,28,29] 1
 (.cut qot))
 (.cut qou)))))
 (.cut qov)))) [2,3,4,9,17,18,19] 1)
def qox:ICode:=
 (.post (.block 0 (.loop qow)) [9] 0)
def qoy:ICode:=
 (sR [oM 57 9,oT 8 57] [8] 0
 .ret)
def qoz:ICode:=
 (sR [oB 4 0,oN (.mv 8 (.c (.sl true 1 [])))] [1,2,3,4] 1
 (sR [oN (.buildSl 14 1 []),oT 9 14] [1,2,3,4,9] 1
 (.seq (sR [oN (.load 15 true 5 4),oM 16 1,oY 17 101 [15,16],oD 18 17,oK 19 0] [2,3,4,9,17,18,19] 1
 (.cut qox))
 (.cut qoy))))
def qp0:IFunc:={np:=4,res:=[.t 8],own:=false,trunc:=true,body:=qoz }
/- 291: (*latchwork/unroll.Unroller).bind -/
def q1q:ICode:=
 (pR [oP 64 14 1,oM 14 64] [0,1,12,13,14] 0)
def qao:ICode:=
 (.post (.seq (.region [oW 15 14 13] false)
 (.seq (.cond 15 .skip
 (.exit 0))
 (.seq (.post (.block 1 (sR [oM 16 14,oA 17 12 14,oL 18 17,oM 4 16,oM 5 18] [0,1,4,5,12,13,14] 0
 (sR [oM 19 0,oM 20 1,oM 21 4,oY 22 292 [19,20,21,(.c (.bool true))],oM 6 22] [0,1,4,5,6,12,13,14] 0
 (.seq (sR [oM 23 5,oN (.bin 24 .lss 23 (.c (I 2)))] [0,1,4,5,6,12,13,14,24] 0
 (.cond 24 (sQ [oM 25 0,oC 26 25,oF 27 26 0,oL 28 27,oM 29 0,oM 30 1,oM 31 4,oM 32 5,oE 33 32 1,oY 34 292 [29,30,31,33],oN (.buildSl 35 1 [34]),oX 36 91 [28,35]] [0,1,12,13,14] 0
 (.exit 1))
 .skip))
 (sR [oM 37 5,oM 38 1,oS 39 38 1,oM 40 0,oC 41 40,oF 42 41 9,oL 43 42,oN (.bin 44 .mul 39 43),oY 45 90 [37,44],oM 7 45] [0,1,6,7,12,13,14] 0
 (sR [oM 46 0,oC 47 46,oF 48 47 0,oL 49 48,oM 50 6,oN (.un 51 .neg 50),oM 52 7,oN (.buildSl 53 1 [51,52]),oX 54 91 [49,53]] [0,1,6,7,12,13,14] 0
 (pR [oM 55 0,oC 56 55,oF 57 56 0,oL 58 57,oM 59 6,oM 60 7,oN (.un 61 .neg 60),oN (.buildSl 62 1 [59,61]),oX 63 91 [58,62]] [0,1,12,13,14] 0))))))) [0,1,12,13,14] 0)
 (.cut q1q)))) [0,1,12,13,14] 0)
def q65:ICode:=
 (.post (.block 0 (.loop qao)) [] 0)
def qap:ICode:=
 (sR [oM 8 0,oC 9 8,oF 10 9 1,oF 11 10 5,oL 12 11,oD 13 12,oK 14 0] [0,1,12,13,14] 0
 (.cut q65))
def q66:IFunc:={np:=2,res:=[],own:=false,trunc:=false,body:=qap }
/- 292: (*latchwork/unroll.Unroller).State -/
def qaq:ICode:=
 (sR [oK 8 0] [0,1,2,3] 0
 (sQ [oM 10 1,oM 11 0,oC 12 11,oF 13 12 9,oL 14 13,oN (.bin 15 .mul 10 14),oP 16 15 1,oM 17 0,oC 18 17,oF 19 18 1,oF 20 19 2,oL 21 20,oN (.bin 22 .add 16 21),oM 23 2,
 oN (.bin 24 .add 22 23),oM 9 24] [3,9] 0
 (.seq (sR [oM 25 3,oN (.un 26 .not 25)] [9,26] 0
 (.cond 26 (sR [oM 27 9,oN (.un 28 .neg 27),oM 8 28] [8] 0
 .ret)
 .skip))
 (sR [oM 29 9,oM 8 29] [8] 0
 .ret))))
def q1r:IFunc:={np:=4,res:=[.t 8],own:=false,trunc:=true,body:=qaq }
/- 293: (*latchwork/unroll.Unroller).bad -/
def q1s:ICode:=
 (pR [oP 34 14 1,oM 14 34] [0,1,4,12,13,14] 0)
def qar:ICode:=
 (.post (.seq (.region [oW 15 14 13] false)
 (.seq (.cond 15 .skip
 (.exit 0))
 (.seq (.block 1 (sR [oA 16 12 14,oL 17 16,oM 6 17] [0,1,4,6,12,13,14] 0
 (.seq (.region [oM 18 6] false)
 (.block 2 (sR [oE 31 18 0,oM 30 31] [0,1,4,6,12,13,14,18,30] 0
 (.cond 30 (.post .skip [0,1,4,12,13,14] 0)
 (.post (sR [oE 33 18 1,oM 32 33] [0,1,4,6,12,13,14,32] 0
 (.cond 32 .ret
 (pR [oT 19 4,oM 20 6,oM 21 1,oM 22 0,oC 23 22,oF 24 23 9,oL 25 24,oN (.bin 26 .mul 21 25),oY 27 90 [20,26],oN (.buildSl 28 1 [27]),oN (.append 29 1 8 19 28),oT 4 29] [0,1,4,12,13,14] 0))) [0,1,4,12,13,14] 0)))))))
 (.cut q1s)))) [0,1,4,12,13,14] 0)
def q31:ICode:=
 (.post (.block 0 (.loop qar)) [0,4] 0)
def q67:ICode:=
 (pR [oM 35 0,oC 36 35,oF 37 36 0,oL 38 37,oM 39 4,oX 40 91 [38,39]] [] 0)
def qas:ICode:=
 (sR [oN (.buildSl 7 1 []),oT 4 7] [0,1,4] 0
 (.seq (sR [oM 8 0,oC 9 8,oF 10 9 1,oF 11 10 6,oL 12 11,oD 13 12,oK 14 0] [0,1,4,12,13,14] 0
 (.cut q31))
 (.cut q67)))
def q1t:IFunc:={np:=2,res:=[],own:=false,trunc:=false,body:=qas }
/- 329: latchwork/unroll.Clauses -/
/- 336: latchwork/unroll.Ready -/
def qat:ICode:=
 (.post (.seq (.region [oW 25 24 23] false)
 (.seq (.cond 25 .skip
 (.exit 0))
 (.seq (.block 1 (sR [oA 26 22 24,oL 27 26,oM 9 27] [2,9,22,23,24] 0
 (sR [
 oM 28 2,
 oM 29 28,
  ⟨.mv 30 9,some (29,true)⟩,
  ⟨.bin 31 .gtr 30 (.c (I 1)),some (29,true)⟩,
 oN (.pick 32 29 31 (.c (.bool false)))] [2,22,23,24,32] 0
 (.cond 32 (sR [oK 6 7] [6] 0
 .ret)
 .skip))))
 (pR [oP 33 24 1,oM 24 33] [2,22,23,24] 0)))) [2,22,23,24] 0)
def q68:ICode:=
 (.post (.block 0 (.loop qat)) [] 0)
def q69:ICode:=
 (.seq (.region [oK 6 0] false)
 .ret)
def q6a:ICode:=
 (sR [oB 3 0,oK 6 0] [1,2,3] 1
 (.seq (sR [oN (.load 10 true 8 3),oY 11 212 [10],oM 7 11] [1,2,3,7] 1
 (sR [oM 12 7,oN (.bin 13 .neq 12 (.c (I 0)))] [1,2,3,7,13] 1
 (.cond 13 (sR [oM 14 7,oM 6 14] [6] 0
 .ret)
 .skip)))
 (.seq (sR [
 oM 15 1,
 oN (.bin 16 .lss 15 (.c (I 0))),
 oM 17 16,
  ⟨.mv 18 1,some (17,false)⟩,
  ⟨.bin 19 .gtr 18 (.c (I 40)),some (17,false)⟩,
 oN (.pick 20 17 (.c (.bool true)) 19)] [2,3,20] 1
 (.cond 20 (sR [oK 6 3] [6] 0
 .ret)
 .skip))
 (.seq (sR [oF 21 3 4,oL 22 21,oD 23 22,oK 24 0] [2,22,23,24] 0
 (.cut q68))
 (.cut q69)))))
def q6b:IFunc:={np:=3,res:=[.t 6],own:=false,trunc:=true,body:=q6a }
/- 337: latchwork/unroll.Clauses$1 -/
/- 340: latchwork/unroll.Find -/
end Go.Lw
end

/-! The code of package Word for the small machine. Written by program (gen.py). -/
section
set_option maxRecDepth 10000
namespace Go.Lw
open Go
/- 22: latchwork/word.Fit -/
def qp1:ICode:=
 (.post (.seq (.region [oN (.bin 26 .lss 25 (.c (I 3)))] false)
 (.seq (.cond 26 .skip
 (.exit 0))
 (.seq (.block 1 (sR [oM 27 25,oN (.index 28 1 3 false 24 25),oM 11 27,oM 12 28] [0,1,2,7,9,11,12,24,25] 1
 (sR [
 oM 29 11,
 oM 30 0,
 oY 31 63 [30],
 oW 32 29 31,
 oM 33 32,
  ⟨.mv 34 12,some (33,true)⟩,
  ⟨.call (some 35) true 62 [34],some (33,true)⟩,
  ⟨.un 36 .not 35,some (33,true)⟩,
 oN (.pick 37 33 36 (.c (.bool false))),
 oM 38 37,
  ⟨.mv 39 11,some (38,false)⟩,
  ⟨.mv 40 0,some (38,false)⟩,
  ⟨.call (some 41) true 63 [40],some (38,false)⟩,
  ⟨.bin 42 .geq 39 41,some (38,false)⟩,
  ⟨.mv 43 42,some (38,false)⟩,
  ⟨.mv 44 12,some (43,true)⟩,
  ⟨.bin 45 .neq 44 (.c (I 0)),some (43,true)⟩,
  ⟨.pick 46 43 45 (.c (.bool false)),some (38,false)⟩,
 oN (.pick 47 38 (.c (.bool true)) 46)] [0,1,2,7,9,24,25,47] 1
 (.cond 47 (sR [oK 8 3] [8] 0
 .ret)
 .skip))))
 (pR [oP 48 25 1,oM 25 48] [0,1,2,7,9,24,25] 1)))) [0,1,2,7,9,24,25] 1)
def qp2:ICode:=
 (.post (.block 0 (.loop qp1)) [1,2,7,9] 1)
def qp3:ICode:=
 (.seq (sR [oM 49 9,oM 50 1,oM 51 2,oN (.load 52 true 3 7),oY 53 64 [49,50,51,52],oN (.un 54 .not 53)] [54] 0
 (.cond 54 (sR [oK 8 1] [8] 0
 .ret)
 .skip))
 (sR [oK 8 0] [8] 0
 .ret))
def qp4:ICode:=
 (sR [oB 7 3,oK 8 0] [0,1,2,7] 1
 (sR [oX 14 61 [],oM 15 0,oN (.lookup 16 0 14 15 true (I 0)),oM 13 16,oG 17 13 0,oG 18 13 1,oM 9 17,oM 10 18] [0,1,2,7,9,10] 1
 (.seq (sR [oM 19 10,oN (.un 20 .not 19)] [0,1,2,7,9,20] 1
 (.cond 20 (sR [oK 8 7] [8] 0
 .ret)
 .skip))
 (.seq (sR [oM 21 1,oY 22 62 [21],oN (.un 23 .not 22)] [0,1,2,7,9,23] 1
 (.cond 23 (sR [oK 8 3] [8] 0
 .ret)
 .skip))
 (.seq (sR [oN (.load 24 true 3 7),oK 25 0] [0,1,2,7,9,24,25] 1
 (.cut qp2))
 (.cut qp3))))))
def qp5:IFunc:={np:=4,res:=[.t 8],own:=false,trunc:=true,body:=qp4 }
/- 25: latchwork/word.Apply -/
/- 61: latchwork/word.shapes -/
def qp6:ICode:=
 (sR [oN (.mv 0 (.c (.nilm)))] [] 0
 (sR [oN (.mkmap 1),oN (.mupd 0 1 (.c (I 4)) (.c (I 1))),oN (.mupd 0 1 (.c (I 5)) (.c (I 1))),oN (.mupd 0 1 (.c (I 6)) (.c (I 2))),oN (.mupd 0 1 (.c (I 7)) (.c (I 2))),
 oN (.mupd 0 1 (.c (I 8)) (.c (I 2))),oN (.mupd 0 1 (.c (I 9)) (.c (I 2))),oN (.mupd 0 1 (.c (I 10)) (.c (I 2))),oN (.mupd 0 1 (.c (I 11)) (.c (I 2))),
 oN (.mupd 0 1 (.c (I 12)) (.c (I 2))),oN (.mupd 0 1 (.c (I 13)) (.c (I 2))),oN (.mupd 0 1 (.c (I 14)) (.c (I 2))),oN (.mupd 0 1 (.c (I 15)) (.c (I 2))),
 oN (.mupd 0 1 (.c (I 16)) (.c (I 3))),oN (.mupd 0 1 (.c (I 17)) (.c (I 3))),oN (.mupd 0 1 (.c (I 18)) (.c (I 3))),oN (.mupd 0 1 (.c (I 19)) (.c (I 4))),
 oN (.mupd 0 1 (.c (I 20)) (.c (I 5))),oN (.mupd 0 1 (.c (I 21)) (.c (I 6))),oN (.mupd 0 1 (.c (I 22)) (.c (I 7))),oN (.mupd 0 1 (.c (I 23)) (.c (I 7))),oM 2 1,oM 0 2] [0] 0
 .ret))
def qp7:IFunc:={np:=0,res:=[.t 0],own:=false,trunc:=false,body:=qp6 }
/- 62: latchwork/word.IsWidth -/
def qp8:ICode:=
 (sR [oN (.mv 2 (.c (.bool false)))] [0] 0
 (sR [
 oM 3 0,
 oN (.bin 4 .geq 3 (.c (I 1))),
 oM 5 4,
  ⟨.mv 6 0,some (5,true)⟩,
  ⟨.bin 7 .leq 6 (.c (I 8)),some (5,true)⟩,
 oN (.pick 8 5 7 (.c (.bool false))),
 oM 2 8] [2] 0
 .ret))
def qp9:IFunc:={np:=1,res:=[.t 2],own:=false,trunc:=true,body:=qp8 }
/- 63: latchwork/word.Takes -/
def qpa:ICode:=
 (.cond 8 (sR [oK 2 1] [2] 0
 .ret)
 (sR [oE 13 5 4,oM 12 13] [12] 0
 (.cond 12 (sR [oK 2 3] [2] 0
 .ret)
 .skip)))
def qpb:ICode:=
 (sR [oK 2 2] [2] 0
 .ret)
def qpc:ICode:=
 (sR [oK 2 0] [0] 0
 (.seq (sR [oX 3 61 [],oM 4 0,oN (.lookup 5 0 3 4 false (I 0))] [5] 0
 (.block 0 (sR [oE 7 5 0,oM 6 7] [5,6] 0
 (.cond 6 (sR [oK 2 0] [2] 0
 .ret)
 (.seq (sR [oE 9 5 1,oM 8 9] [5,8] 0
 (.cond 8 (.post .skip [5,8] 0)
 (.post (sR [oE 10 5 6,oM 8 10] [5,8] 0
 (.cond 8 (.post .skip [5,8] 0)
 (.post (pR [oE 11 5 7,oM 8 11] [5,8] 0) [5,8] 0))) [5,8] 0)))
 (.cut qpa))))))
 (.cut qpb)))
def qpd:IFunc:={np:=1,res:=[.t 2],own:=false,trunc:=true,body:=qpc }
/- 64: latchwork/word.fits -/
def qpe:ICode:=
 (sR [oB 7 3,oN (.mv 8 (.c (.bool false)))] [0,1,2,7] 1
 (.seq (sR [
 oM 9 2,
 oN (.bin 10 .neq 9 (.c (I 0))),
 oM 11 10,
  ⟨.mv 12 0,some (11,true)⟩,
  ⟨.bin 13 .neq 12 (.c (I 6)),some (11,true)⟩,
 oN (.pick 14 11 13 (.c (.bool false)))] [0,1,2,7,14] 1
 (.cond 14 (sR [oN (.mv 8 (.c (.bool false)))] [8] 0
 .ret)
 .skip))
 (.seq (sR [oM 15 0] [1,2,7,15] 1
 (.block 0 (sR [oE 17 15 1,oM 16 17] [1,2,7,15,16] 1
 (.cond 16 (sR [oN (.iaddr 18 1 (some 3) 7 (.c (I 0))),oL 19 18,oM 20 1,oN (.bin 21 .eql 19 20),oM 8 21] [8] 0
 .ret)
 (sR [oE 23 15 2,oM 22 23] [1,2,7,15,22] 1
 (.cond 22 (sR [
 oN (.iaddr 24 1 (some 3) 7 (.c (I 0))),
 oL 25 24,
 oM 26 1,
 oN (.bin 27 .eql 25 26),
 oM 28 27,
  ⟨.iaddr 29 1 (some 3) 7 (.c (I 1)),some (28,true)⟩,
  ⟨.load 30 false 1 29,some (28,true)⟩,
  ⟨.mv 31 1,some (28,true)⟩,
  ⟨.bin 32 .eql 30 31,some (28,true)⟩,
 oN (.pick 33 28 32 (.c (.bool false))),
 oM 8 33] [8] 0
 .ret)
 (sR [oE 35 15 3,oM 34 35] [1,2,7,15,34] 1
 (.cond 34 (sR [
 oN (.iaddr 36 1 (some 3) 7 (.c (I 0))),
 oL 37 36,
 oN (.iaddr 38 1 (some 3) 7 (.c (I 1))),
 oL 39 38,
 oN (.bin 40 .eql 37 39),
 oM 41 40,
  ⟨.mv 42 1,some (41,true)⟩,
  ⟨.bin 43 .eql 42 (.c (I 1)),some (41,true)⟩,
 oN (.pick 44 41 43 (.c (.bool false))),
 oM 8 44] [8] 0
 .ret)
 (sR [oE 46 15 4,oM 45 46] [1,2,7,15,45] 1
 (.cond 45 (sR [
 oN (.iaddr 47 1 (some 3) 7 (.c (I 0))),
 oL 48 47,
 oE 49 48 1,
 oM 50 49,
  ⟨.iaddr 51 1 (some 3) 7 (.c (I 1)),some (50,true)⟩,
  ⟨.load 52 false 1 51,some (50,true)⟩,
  ⟨.mv 53 1,some (50,true)⟩,
  ⟨.bin 54 .eql 52 53,some (50,true)⟩,
 oN (.pick 55 50 54 (.c (.bool false))),
 oM 56 55,
  ⟨.iaddr 57 1 (some 3) 7 (.c (I 2)),some (56,true)⟩,
  ⟨.load 58 false 1 57,some (56,true)⟩,
  ⟨.mv 59 1,some (56,true)⟩,
  ⟨.bin 60 .eql 58 59,some (56,true)⟩,
 oN (.pick 61 56 60 (.c (.bool false))),
 oM 8 61] [8] 0
 .ret)
 (sR [oE 63 15 5,oM 62 63] [1,2,7,15,62] 1
 (.cond 62 (sR [oN (.iaddr 64 1 (some 3) 7 (.c (I 0))),oL 65 64,oN (.iaddr 66 1 (some 3) 7 (.c (I 1))),oL 67 66,oN (.bin 68 .add 65 67),oM 69 1,oN (.bin 70 .eql 68 69),oM 8 70] [8] 0
 .ret)
 (sR [oE 72 15 6,oM 71 72] [1,2,7,71] 1
 (.cond 71 (sR [
 oM 73 2,
 oN (.bin 74 .geq 73 (.c (I 0))),
 oM 75 74,
  ⟨.mv 76 2,some (75,true)⟩,
  ⟨.iaddr 77 1 (some 3) 7 (.c (I 0)),some (75,true)⟩,
  ⟨.load 78 false 1 77,some (75,true)⟩,
  ⟨.mv 79 1,some (75,true)⟩,
  ⟨.bin 80 .sub 78 79,some (75,true)⟩,
  ⟨.bin 81 .leq 76 80,some (75,true)⟩,
 oN (.pick 82 75 81 (.c (.bool false))),
 oM 8 82] [8] 0
 .ret)
 .skip))))))))))))))
 (sR [oM 83 1,oN (.iaddr 84 1 (some 3) 7 (.c (I 0))),oL 85 84,oN (.bin 86 .geq 83 85),oM 8 86] [8] 0
 .ret))))
def qpf:IFunc:={np:=4,res:=[.t 8],own:=false,trunc:=true,body:=qpe }
/- 65: latchwork/word.IsWord -/
def qpg:ICode:=
 (sR [oN (.mv 4 (.c (.bool false)))] [0,1] 0
 (sR [
 oM 5 0,
 oN (.bin 6 .geq 5 (.c (I 0))),
 oM 7 6,
  ⟨.mv 8 0,some (7,true)⟩,
  ⟨.mv 9 1,some (7,true)⟩,
  ⟨.bin 10 .shl (.c (I 1)) 9,some (7,true)⟩,
  ⟨.bin 11 .lss 8 10,some (7,true)⟩,
 oN (.pick 12 7 11 (.c (.bool false))),
 oM 4 12] [4] 0
 .ret))
def qph:IFunc:={np:=2,res:=[.t 4],own:=false,trunc:=true,body:=qpg }
/- 66: latchwork/word.Raw -/
def qpi:ICode:=
 (sR [oB 13 6,oK 14 0] [0,1,2,3,4,5,13] 1
 (sQ [oM 15 0,oM 16 1,oM 17 2,oM 18 3,oM 19 4,oM 20 5,oN (.load 21 true 3 13),oY 22 96 [15,16,17,18,19,20,21],oM 23 1,oN (.bin 24 .shl (.c (I 1)) 23),oS 25 24 1,
 oN (.bin 26 .and 22 25),oM 14 26] [14] 0
 .ret))
def qpj:IFunc:={np:=7,res:=[.t 14],own:=false,trunc:=true,body:=qpi }
/- 96: latchwork/word.do -/
def qpk:ICode:=
 (sR [oB 13 6,oK 14 0] [0,2,3,4,5,13] 1
 (.seq (sR [oM 15 0] [2,3,4,5,13,15] 1
 (.block 0 (sR [oE 17 15 4,oM 16 17] [2,3,4,5,13,15,16] 1
 (.cond 16 (sR [oM 18 2,oN (.un 19 .xor 18),oM 14 19] [14] 0
 .ret)
 (sR [oE 21 15 5,oM 20 21] [2,3,4,5,13,15,20] 1
 (.cond 20 (sR [oM 22 2,oN (.un 23 .neg 22),oM 14 23] [14] 0
 .ret)
 (sR [oE 25 15 6,oM 24 25] [2,3,4,5,13,15,24] 1
 (.cond 24 (sR [oM 26 2,oM 27 3,oN (.bin 28 .and 26 27),oM 14 28] [14] 0
 .ret)
 (sR [oE 30 15 7,oM 29 30] [2,3,4,5,13,15,29] 1
 (.cond 29 (sR [oM 31 2,oM 32 3,oN (.bin 33 .or 31 32),oM 14 33] [14] 0
 .ret)
 (sR [oE 35 15 8,oM 34 35] [2,3,4,5,13,15,34] 1
 (.cond 34 (sR [oM 36 2,oM 37 3,oN (.bin 38 .xor 36 37),oM 14 38] [14] 0
 .ret)
 (sR [oE 40 15 9,oM 39 40] [2,3,4,5,13,15,39] 1
 (.cond 39 (sR [oM 41 2,oM 42 3,oN (.bin 43 .add 41 42),oM 14 43] [14] 0
 .ret)
 (sR [oE 45 15 10,oM 44 45] [2,3,4,5,13,15,44] 1
 (.cond 44 (sR [oM 46 2,oM 47 3,oN (.bin 48 .sub 46 47),oM 14 48] [14] 0
 .ret)
 (sR [oE 50 15 11,oM 49 50] [2,3,4,5,13,15,49] 1
 (.cond 49 (sR [oM 51 2,oM 52 3,oN (.bin 53 .mul 51 52),oM 14 53] [14] 0
 .ret)
 (sR [oE 55 15 14,oM 54 55] [2,3,4,5,13,15,54] 1
 (.cond 54 (sR [oM 56 2,oM 57 3,oN (.bin 58 .shl 56 57),oM 14 58] [14] 0
 .ret)
 (sR [oE 60 15 15,oM 59 60] [2,3,4,5,13,15,59] 1
 (.cond 59 (sR [oM 61 2,oM 62 3,oN (.bin 63 .shr 61 62),oM 14 63] [14] 0
 .ret)
 (sR [oE 65 15 16,oM 64 65] [2,3,4,5,13,15,64] 1
 (.cond 64 (sR [oM 66 2,oM 67 3,oN (.bin 68 .eql 66 67),oY 69 114 [68],oM 14 69] [14] 0
 .ret)
 (sR [oE 71 15 17,oM 70 71] [2,3,4,5,13,15,70] 1
 (.cond 70 (sR [oM 72 2,oM 73 3,oW 74 72 73,oY 75 114 [74],oM 14 75] [14] 0
 .ret)
 (sR [oE 77 15 18,oM 76 77] [2,3,4,5,13,15,76] 1
 (.cond 76 (sQ [oM 78 2,oN (.iaddr 79 1 (some 3) 13 (.c (I 0))),oL 80 79,oY 81 115 [78,80],oM 82 3,oN (.iaddr 83 1 (some 3) 13 (.c (I 1))),oL 84 83,oY 85 115 [82,84],oW 86 81 85,oY 87 114 [86],
 oM 14 87] [14] 0
 .ret)
 (sR [oE 89 15 20,oM 88 89] [2,3,4,5,13,15,88] 1
 (.cond 88 (sR [oM 90 2,oN (.iaddr 91 1 (some 3) 13 (.c (I 1))),oL 92 91,oN (.bin 93 .shl 90 92),oM 94 3,oN (.bin 95 .or 93 94),oM 14 95] [14] 0
 .ret)
 (sR [oE 97 15 21,oM 96 97] [2,3,4,5,13,15,96] 1
 (.cond 96 (sR [oM 98 2,oM 99 5,oN (.bin 100 .shr 98 99),oM 14 100] [14] 0
 .ret)
 (sR [oE 102 15 23,oM 101 102] [2,3,4,13,15,101] 1
 (.cond 101 (sR [oM 103 2,oN (.iaddr 104 1 (some 3) 13 (.c (I 0))),oL 105 104,oY 106 115 [103,105],oM 14 106] [14] 0
 .ret)
 (sR [oE 108 15 19,oM 107 108] [2,3,4,15,107] 0
 (.cond 107 (.seq (sR [oM 109 2,oE 110 109 1] [3,4,110] 0
 (.cond 110 (sR [oM 111 3,oM 14 111] [14] 0
 .ret)
 .skip))
 (sR [oM 112 4,oM 14 112] [14] 0
 .ret))
 (sR [oE 114 15 12,oM 113 114] [2,3,15,113] 0
 (.cond 113 (.seq (sR [oM 115 3,oE 116 115 0] [2,3,116] 0
 (.cond 116 (sR [oN (.mv 14 (.c (I (-1))))] [14] 0
 .ret)
 .skip))
 (sR [oM 117 2,oM 118 3,oN (.bin 119 .quo 117 118),oM 14 119] [14] 0
 .ret))
 (sR [oE 121 15 13,oM 120 121] [2,3,120] 0
 (.cond 120 (.seq (sR [oM 122 3,oE 123 122 0] [2,3,123] 0
 (.cond 123 (sR [oM 124 2,oM 14 124] [14] 0
 .ret)
 .skip))
 (sR [oM 125 2,oM 126 3,oN (.bin 127 .rem 125 126),oM 14 127] [14] 0
 .ret))
 .skip))))))))))))))))))))))))))))))))))))))))
 (sR [oM 128 2,oM 14 128] [14] 0
 .ret)))
def qpl:IFunc:={np:=7,res:=[.t 14],own:=false,trunc:=true,body:=qpk }
/- 114: latchwork/word.yes -/
def qpm:ICode:=
 (sR [oK 2 0] [0] 0
 (.seq (sR [oM 3 0] [3] 0
 (.cond 3 (sR [oK 2 1] [2] 0
 .ret)
 .skip))
 (sR [oK 2 0] [2] 0
 .ret)))
def qpn:IFunc:={np:=1,res:=[.t 2],own:=false,trunc:=true,body:=qpm }
/- 115: latchwork/word.signed -/
def qpo:ICode:=
 (sR [oK 4 0] [0,1] 0
 (.seq (sR [oM 5 0,oM 6 1,oS 7 6 1,oN (.bin 8 .shl (.c (I 1)) 7),oN (.bin 9 .geq 5 8)] [0,1,9] 0
 (.cond 9 (sR [oM 10 0,oM 11 1,oN (.bin 12 .shl (.c (I 1)) 11),oN (.bin 13 .sub 10 12),oM 4 13] [4] 0
 .ret)
 .skip))
 (sR [oM 14 0,oM 4 14] [4] 0
 .ret)))
def qpp:IFunc:={np:=2,res:=[.t 4],own:=false,trunc:=true,body:=qpo }
end Go.Lw
end

/-! The machine's code, read off: what a piece of code comes to, said without slots. No program in sight. -/
section
namespace Go.Lw
open Go
inductive Ce where
 |any
 |one
 |int (k:IntKind)
 |bool
 |str
 |gp
 |ol (z:Nat)
 deriving Inhabited
inductive Sh where
 |raw
 |ce (c:Ce)
 |agg (l:List Ce)
 |tup (n:Nat)
 deriving Inhabited
/- What the kernel is to undo first (the height of a definition). -/
def hz0:Nat:=0
def hz1:Nat:=hz0
def hz2:Nat:=hz1
def hz3:Nat:=hz2
def hz4:Nat:=hz3
def hz5:Nat:=hz4
def hz6:Nat:=hz5
def hz7:Nat:=hz6
def hz8:Nat:=hz7
def hz9:Nat:=hz8
def hz10:Nat:=hz9
def hz11:Nat:=hz10
def hz12:Nat:=hz11
def hz13:Nat:=hz12
def hz14:Nat:=hz13
def hz15:Nat:=hz14
def hz16:Nat:=hz15
def hz17:Nat:=hz16
def hz18:Nat:=hz17
def hz19:Nat:=hz18
def hz20:Nat:=hz19
def hz21:Nat:=hz20
def hz22:Nat:=hz21
def hz23:Nat:=hz22
def hz24:Nat:=hz23
def hz25:Nat:=hz24
def hz26:Nat:=hz25
def hz27:Nat:=hz26
def hz28:Nat:=hz27
def hz29:Nat:=hz28
def hz30:Nat:=hz29
def hz31:Nat:=hz30
def hz32:Nat:=hz31
def hz33:Nat:=hz32
def hz34:Nat:=hz33
def hz35:Nat:=hz34
def hz36:Nat:=hz35
def hz37:Nat:=hz36
def hz38:Nat:=hz37
def hz39:Nat:=hz38
def hz40:Nat:=hz39
def hz41:Nat:=hz40
def hz42:Nat:=hz41
def hz43:Nat:=hz42
def hz44:Nat:=hz43
def hz45:Nat:=hz44
def hz46:Nat:=hz45
def hz47:Nat:=hz46
def hz48:Nat:=hz47
def hz49:Nat:=hz48
def hz50:Nat:=hz49
def hz51:Nat:=hz50
def hz52:Nat:=hz51
def hz53:Nat:=hz52
def hz54:Nat:=hz53
def hz55:Nat:=hz54
def hz56:Nat:=hz55
def hz57:Nat:=hz56
def hz58:Nat:=hz57
def hz59:Nat:=hz58
def hz60:Nat:=hz59
def hz61:Nat:=hz60
def hz62:Nat:=hz61
def hz63:Nat:=hz62
def hz64:Nat:=hz63
def hz65:Nat:=hz64
def hz66:Nat:=hz65
def hz67:Nat:=hz66
def hz68:Nat:=hz67
def hz69:Nat:=hz68
def hz70:Nat:=hz69
section
variable {R:Type} {α:Type}
def ob0 (x:Option α) (f:α→Option R):Option R:=match x with|some a=>f a|none=>none
def gd0 (b:Bool) (x:Option R):Option R:=match b with|true=>x|false=>none
def ob (x:Option α) (f:α→Option R):Option R:=(fun _:Nat=>
 match x with|some a=>f a|none=>none) hz45
def gd (b:Bool) (x:Option R):Option R:=(fun _:Nat=>
 match b with|true=>x|false=>none) hz45
def gb (b:Bool) (x:Option R):Option R:=(fun _:Nat=>
 match b with|true=>x|false=>none) hz45
def br (_:Nat) (b:Bool) (x y:Option R):Option R:=(fun _:Nat=>
 match b with|true=>x|false=>y) hz45
def kR (x:Option (IExit×St)) (k:IExit→St→Option R):Option R:=match x with|some (e,s)=>k e s|none=>none
def nx (e:IExit) (s:St) (k:IExit→St→Option R) (f:St→Option R):Option R:=(fun _:Nat=>
 match e with| .normal=>f s|e=>k e s) hz70
def bk (id:Nat) (e:IExit) (s:St) (k:IExit→St→Option R):Option R:=match e with| .exit i=>br 0 (Nat.beq i id) (k .normal s) (k (.exit i) s)|e=>k e s
def iAnd (k:IntKind) (a b:Int):Int:=k.wrap (BitVec.ofInt k.bits a &&&BitVec.ofInt k.bits b).toNat
def iOr (k:IntKind) (a b:Int):Int:=k.wrap (BitVec.ofInt k.bits a |||BitVec.ofInt k.bits b).toNat
def iXor (k:IntKind) (a b:Int):Int:=k.wrap (BitVec.ofInt k.bits a ^^^BitVec.ofInt k.bits b).toNat
def iShl (k:IntKind) (a b:Int):Int:=k.wrap (a*2^(min b.toNat k.bits))
def iShr (k:IntKind) (a b:Int):Int:=a.fdiv (2^(min b.toNat k.bits))
def iNot (k:IntKind) (n:Int):Int:=k.wrap (BitVec.ofInt k.bits (if k.signed then -1 else k.max) ^^^BitVec.ofInt k.bits n).toNat
def kIdx:IntKind→Nat
 | .i8=>0| .i16=>1| .i32=>2| .i64=>3| .u8=>4| .u16=>5| .u32=>6| .u64=>7
def kE (k k':IntKind) (x:Option R):Option R:=gb (Nat.beq (kIdx k) (kIdx k')) x
def Fn:Nat→Type→Type
 |0,R=>R
 |n+1,R=>PV→Fn n R
def curry:(n:Nat)→(List PV→R)→Fn n R
 |0,g=>g []
 |n+1,g=>fun c=>curry n fun l=>g (c::l)
def unN:(n:Nat)→List PV→Fn n (Option R)→Option R
 |0,[],f=>f
 |n+1,c::l,f=>unN n l (f c)
 |_,_,_=>none
def isC (v:PV) (x:Option R):Option R:=(fun _:Nat=>
 match v with| .agg _=>none|_=>x) hz45
def stK (nl:Nat) (v:PV) (x:Option R):Option R:=(fun _:Nat=>
 match v with
  | .ptr false b _=>gb (Nat.ble (b+1) nl) x
  | .bs false b _ _ _=>gb (Nat.ble (b+1) nl) x
  |_=>x) hz45
def onK (v:PV) (x:Option R):Option R:=(fun _:Nat=>
 match v with
  | .und| .agg _| .tup _| .ptr false _ _| .bs false _ _ _ _| .arr _ _| .junk=>none
  |_=>x) hz45
def arL:List PV→Option R→Option R
 |[],x=>x
 |c::l,x=>onK c (arL l x)
def arK (v:PV) (x:Option R):Option R:=(fun _:Nat=>
 match v with
  | .agg cs=>arL cs x
  | .und| .tup _| .ptr false _ _| .bs false _ _ _ _| .arr _ _| .junk=>none
  |_=>x) hz45
def allK:List PV→Option R→Option R
 |[],x=>x
 |v::l,x=>arK v (allK l x)
def lenB:List PV→Nat→Bool
 |[],0=>true
 |_::l,n+1=>lenB l n
 |_,_=>false
def geB:List PV→Nat→Bool
 |_,0=>true
 |_::l,n+1=>geB l n
 |[],_+1=>false
def lnK (z:Nat) (v:PV) (x:Option R):Option R:=(fun _:Nat=>
 match v with
  | .agg cs=>gb (lenB cs z) x
  |_=>gb (Nat.beq 1 z) x) hz45
def slK (z:Nat):List PV→Option R→Option R
 |[],x=>x
 |v::l,x=>arK v (lnK z v (slK z l x))
def isPtr:PV→Bool
 | .ptr _ _ _| .ep _ _| .fn _ _=>true
 |_=>false
def unI (k:IntKind) (v:PV) (f:Int→Option R):Option R:=(fun _:Nat=>
 match v with| .int k' n=>kE k' k (f n)|_=>none) hz45
def anyI (v:PV) (f:Int→Option R):Option R:=(fun _:Nat=>
 match v with| .int _ n=>f n|_=>none) hz45
def unB (v:PV) (f:Bool→Option R):Option R:=(fun _:Nat=>
 match v with| .bool b=>f b|_=>none) hz45
def unS (v:PV) (f:ByteArray→Option R):Option R:=(fun _:Nat=>
 match v with| .str b=>f b|_=>none) hz45
def unG (v:PV) (f:Nat→Nat→Option R):Option R:=(fun _:Nat=>
 match v with| .ptr true b off=>f b off|_=>none) hz45
def unO (z:Nat) (v:PV) (f:List PV→Option R):Option R:=match v with| .sl true z' xs=>gb (Nat.beq z' z) (f xs)|_=>none
def unA (n:Nat) (v:PV) (f:Fn n (Option R)):Option R:=match v with| .agg cs=>unN n cs f|_=>none
def unT (n:Nat) (v:PV) (f:Fn n (Option R)):Option R:=match v with| .tup cs=>unN n cs f|_=>none
def nilB (v:PV) (f:Bool→Option R):Option R:=match v with| .nilI=>f true| .someI=>f false|_=>none
def castC (c:Ce) (v:PV) (f:PV→Option R):Option R:=
 match c with
 | .any=>f v
 | .one=>isC v (f v)
 | .int k=>unI k v fun n=>f (.int k n)
 | .bool=>unB v fun b=>f (.bool b)
 | .str=>unS v fun b=>f (.str b)
 | .gp=>unG v fun b off=>f (.ptr true b off)
 | .ol z=>unO z v fun xs=>f (.sl true z xs)
def castL:List Ce→List PV→(List PV→Option R)→Option R
 |[],[],f=>f []
 |c::cs,v::vs,f=>castC c v fun v=>castL cs vs fun vs=>f (v::vs)
 |_,_,_=>none
def cast (h:Sh) (v:PV) (f:PV→Option R):Option R:=
 match h with
 | .raw=>f v
 | .ce c=>castC c v f
 | .agg l=>unA l.length v (curry l.length fun cs=>castL l cs fun cs=>f (.agg cs))
 | .tup n=>unT n v (curry n fun vs=>f (.tup vs))
inductive Tr where
 |nil
 |node (n:Nat) (h:Sh) (l r:Tr)
def shAt:Tr→Nat→Sh
 | .nil,_=> .raw
 | .node n h l r,t=>match Nat.beq n t with
  |true=>h
  |false=>match Nat.ble n t with
   |true=>shAt r t
   |false=>shAt l t
def shX (an:Tr):IX→Sh
 | .t n=>shAt an n
 | .c _=> .raw
 | .f _=> .raw
def getX:List (Nat×PV)→Nat→Option PV
 |[],_=>none
 |(a,v)::l,t=>match Nat.beq a t with
  |true=>some v
  |false=>getX l t
def putK:List (Nat×PV)→Nat→PV→(List (Nat×PV)→Option R)→Option R
 |[],t,v,k=>(fun _:Nat=>k [(t,v)]) hz70
 |(a,u)::l,t,v,k=>match Nat.beq a t with
  |true=>k ((t,v)::l)
  |false=>putK l t v fun l=>k ((a,u)::l)
def snocK:List α→α→(List α→Option R)→Option R
 |[],v,k=>(fun _:Nat=>k [v]) hz70
 |u::l,v,k=>snocK l v fun l=>k (u::l)
def setK:List α→Nat→α→(List α→Option R)→Option R
 |[],_,_,k=>(fun _:Nat=>k []) hz70
 |_::l,0,v,k=>k (v::l)
 |u::l,i+1,v,k=>setK l i v fun l=>k (u::l)
def nthX:List α→Nat→Option α
 |[],_=>none
 |u::_,0=>some u
 |_::l,i+1=>nthX l i
def takeK:Nat→List α→(List α→Option R)→Option R
 |0,_,k=>(fun _:Nat=>k []) hz70
 |_,[],k=>k []
 |n+1,u::l,k=>takeK n l fun l=>k (u::l)
def evX (e:List (Nat×PV)):IX→Option PV
 | .t n=>match getX e n with
  |some v=>some (degr v)
  |none=>none
 | .c v=>some (degr v)
 | .f id=>some (.fn id [])
def evK (e:List (Nat×PV)):IX→Option PV
 | .t n=>match getX e n with
  |some v=>some (degr v)
  |none=>none
 | .c v=>some v
 | .f id=>some (.fn id [])
def evXs (e:List (Nat×PV)):List IX→(List PV→Option R)→Option R
 |[],k=>(fun _:Nat=>k []) hz70
 |x::l,k=>match evX e x with
  |some v=>evXs e l fun vs=>k (v::vs)
  |none=>none
def tkX (e:List (Nat×PV)) (x:IX) (k:PV→List (Nat×PV)→Option R):Option R:=
 match x with
 | .t n=>match getX e n with
  |some v=>putK e n (degr v) fun e=>k v e
  |none=>none
 | .c v=>k v e
 | .f id=>k (.fn id []) e
def putS (s:St) (d:Nat) (v:PV) (k:St→Option R):Option R:=putK s.env d v fun e=>k ⟨e,s.lh,s.gh⟩
def cellsX (h:Sh) (v:PV) (f:List PV→Option R):Option R:=
 match h with
 | .ce _=>isC v (f [v])
 |_=>f v.cells
def setX (an:Tr) (s:St) (d:Nat) (v:PV) (k:St→Option R):Option R:=cast (shAt an d) v fun w=>putS s d w k
def ghCells (gh:List GObj) (b:Nat):Option (List PV):=match gh[b]? with|some (.cells cs)=>some cs|_=>none
def ghMap (gh:List GObj) (b:Nat):Option (List (PV×PV)):=match gh[b]? with|some (.map es)=>some es|_=>none
def ldX (lh:List (List PV)) (gh:List GObj) (agg:Bool) (k:Nat) (p:PV) (f:PV→Option R):Option R:=
 (fun _:Nat=>
 match p with
 | .ptr false b off=>match nthX lh b with
  |some cs=>(match grab agg k off cs with|some v=>f (degr v)|none=>none)
  |none=>none
 | .ptr true b off=>ob0 (ghCells gh b) fun cs=>ob0 (grab agg k off cs) fun v=>f (degr v)
 | .ep e off=>ob0 (grab agg k off e.cells) f
 |_=>none) hz20
def stOk (k off:Nat) (cs old:List PV):Bool:=lenB cs k&&geB old (off+k)
def stoX (s:St) (p:PV) (kk:Nat) (cs:List PV) (k:St→Option R):Option R:=
 match p with
 | .ptr false b off=>match nthX s.lh b with
  |some old=>gb (stOk kk off cs old) (setK s.lh b (spliceAt old off cs) fun lh=>k ⟨s.env,lh,s.gh⟩)
  |none=>none
 | .ptr true b off=>ob (ghCells s.gh b) fun old=>gb (stOk kk off cs old) (k ⟨s.env,s.lh,s.gh.set b (.cells (spliceAt old off cs))⟩)
 |_=>none
def psX (an:Tr) (e:List (Nat×PV)):List (Nat×Nat×IX)→List PV→(List PV→Option R)→Option R
 |[],z,f=>f z
 |(off,k,x)::l,z,f=>match evX e x with
  |some v=>arK v (cellsX (shX an x) v fun cs=>gb (stOk k off cs z) (psX an e l (spliceAt z off cs) f))
  |none=>none
def psT (an:Tr):List (Nat×PV)→List (Nat×Nat×IX)→List PV→(List (Nat×PV)→List PV→Option R)→Option R
 |e,[],z,f=>f e z
 |e,(off,k,x)::l,z,f=>tkX e x fun v e1=>arK v (cellsX (shX an x) v fun cs=>gb (stOk k off cs z) (psT an e1 l (spliceAt z off cs) f))
def mkOk (n:Int) (bytes z:Nat) (zero:PV):Bool:=decide (0≤n∧n*bytes≤maxBytes∧zero.cells.length=z∧argOk zero=true)
def boX (e:List (Nat×PV)) (x:Option IX) (f:Option Int→Option R):Option R:=
 match x with
 |none=>f none
 |some x=>match evX e x with
  |some v=>anyI v fun n=>f (some n)
  |none=>none
def bd (d:Nat) (x:Option Int) (f:Nat→Option R):Option R:=match x with|none=>f d|some i=>gd0 (decide (0≤i)) (f i.toNat)
def slX (z:Nat) (v:PV) (lo hi:Option Int) (f:PV→Option R):Option R:=
 match v with
 | .sl _ z' xs=>bd xs.length hi fun h=>bd 0 lo fun l=>gd0 (decide (l≤h∧h≤xs.length∧z=z')) (f (.sl false z ((xs.take h).drop l)))
 | .bs g b off n z'=>bd n hi fun h=>bd 0 lo fun l=>gd0 (decide (l≤h∧h≤n∧z=z')) (f (.bs g b (off+l*z) (h-l) z))
 | .stk b gen n=>match lo with
  |none=>bd n hi fun h=>gd0 (decide (h≤n∧z=1)) (f (.stk b gen h))
  |some lo=>bd n hi fun h=>bd 0 (some lo) fun l=>gd0 (decide (l≤h∧h≤n∧z=1)) (f (.sub b gen l (h-l)))
 | .sub b gen off n=>bd n hi fun h=>bd 0 lo fun l=>gd0 (decide (l≤h∧h≤n∧z=1)) (f (.sub b gen (off+l) (h-l)))
 |_=>none
def ssX (v:PV) (lo hi:Option Int) (f:ByteArray→Option R):Option R:=
 match v with
 | .str b=>bd b.size hi fun h=>bd 0 lo fun l=>gd (decide (l≤h∧h≤b.size)) (f (b.extract l h))
 |_=>none
def faX (p:PV) (off:Nat) (f:PV→Option R):Option R:=
 (fun _:Nat=>
 match p with
 | .ptr g b o=>f (.ptr g b (o+off))
 | .ep e o=>f (.ep e (o+off))
 |_=>none) hz30
def fdX (v:PV) (agg:Bool) (k off:Nat) (f:PV→Option R):Option R:=
 match v with
 | .agg cs=>ob (grab agg k off cs) f
 |_=>none
def idX (z:Nat) (arr:Option Nat) (v:PV) (i:Int) (f:PV→Option R):Option R:=
 match arr,v with
 |none,.sl _ z' xs=>gd0 (decide (0≤i∧z=z')) (ob0 xs[i.toNat]? fun e=>f (.ep e 0))
 |none,.bs g b off n z'=>gd0 (decide (0≤i∧i<n∧z=z')) (f (.ptr g b (off+i.toNat*z)))
 |some m,.ptr g b o=>gd0 (decide (0≤i∧i<m)) (f (.ptr g b (o+i.toNat*z)))
 |some m,.ep e o=>gd0 (decide (0≤i∧i<m)) (f (.ep e (o+i.toNat*z)))
 |none,.stk b gen n=>gd0 (decide (0≤i∧i<n∧z=1)) (f (.pstk b gen i.toNat))
 |none,.sub b gen off n=>gd0 (decide (0≤i∧i<n∧z=1)) (f (.pstk b gen (off+i.toNat)))
 |_,_=>none
def ixX (v:PV) (z arr:Nat) (agg:Bool) (i:Int) (f:PV→Option R):Option R:=
 match v with
 | .agg cs=>gd (decide (0≤i∧i<arr)) (ob (grab agg z (i.toNat*z) cs) f)
 |_=>none
def isX (v:PV) (i:Int) (f:Int→Option R):Option R:=
 match v with
 | .str b=>gd (decide (0≤i)) (ob b[i.toNat]? fun u=>f u.toNat)
 |_=>none
def lkX (gh:List GObj) (kn:Nat) (m k:PV) (f:Option PV→Option R):Option R:=
 match m with
 | .mp b=>ob (ghMap gh b) fun es=>gd (isKey kn k) (ob (mfind kn es k) f)
 |_=>none
def muX (gh:List GObj) (kn:Nat) (m k v:PV) (f:List GObj→Option R):Option R:=
 match m with
 | .mp b=>ob (ghMap gh b) fun es=>gd (argOk k&&(argOk v&&isKey kn k)) (ob (mset kn es k v) fun es'=>f (gh.set b (.map es')))
 |_=>none
def lenS (v:PV) (f:Nat→Option R):Option R:=match v with| .sl _ _ xs=>f xs.length| .bs _ _ _ n _=>f n| .stk _ _ n=>f n| .sub _ _ _ n=>f n| .nils=>f 0|_=>none
def lenM (gh:List GObj) (v:PV) (f:Nat→Option R):Option R:=match v with| .mp b=>ob (ghMap gh b) fun es=>f es.length|_=>none
def apX (z bytes:Nat) (v w:PV) (f:List PV→Option R):Option R:=
 match w,v with
 | .sl _ z2 ys,.sl o z1 xs=>gd (decide (o=true∧z1=z∧z2=z∧(xs.length+ys.length)*bytes≤maxBytes)) (f (xs++ys))
 |_,_=>none
def ghStk (gh:List GObj) (b:Nat):Option (Nat×List PV):=match gh[b]? with|some (.stk g xs)=>some (g,xs)|_=>none
def akX (gh:List GObj) (bytes:Nat) (v w:PV) (f:List GObj→PV→Option R):Option R:=
 ob (elsOf gh w) fun ys=>match v with
  | .stk b gen n=>ob (ghStk gh b) fun p=>gd (decide (p.1=gen∧n≤p.2.length∧(n+ys.length)*bytes≤maxBytes∧apart b w=true∧ys.all isFlat=true)) (f (gh.set b (.stk (p.1+1) (p.2.take n++ys))) (.stk b (p.1+1) (n+ys.length)))
  |_=>none
def anX (gh:List GObj) (bytes:Nat) (v w:PV) (f:List GObj→PV→Option R):Option R:=
 match v with
 | .nils=>ob (elsOf gh w) fun ys=>gd (decide (ys≠[]∧ys.length*bytes≤maxBytes∧ys.all isFlat=true)) (f (gh++[.stk 0 ys]) (.stk gh.length 0 ys.length))
 |v=>akX gh bytes v w f
def lkK (gh:List GObj) (v:PV) (f:PV→Option R):Option R:=match v with| .pstk b gen i=>ob (stkGet gh b gen i) f|_=>none
def exX (v:PV) (i:Nat) (f:PV→Option R):Option R:=match v with| .tup vs=>ob vs[i]? f|_=>none
noncomputable def callR (gh:List GObj) (q:Bool) (x:Option (PV×List GObj)) (f:PV→List GObj→Option R):Option R:=
 open Classical in
 match x with|some (r,gh')=>(match q with|true=>(if gh'=gh then f r gh else none)|false=>f r gh')|none=>none
def callN (vs:List PV) (x:Option (PV×List GObj)) (f:PV→Option R):Option R:=
 gd (noGs vs) (match x with|some (r,[])=>gd r.noG (f r)|_=>none)
def elK (gh:List GObj) (vs:List PV) (k:List PV→Option R):Option R:=match elPs gh vs with|some us=>k us|none=>none
def callE (us:List PV) (x:Option (PV×List GObj)) (f:PV→Option R):Option R:=
 gd (noGs us) (match x with|some (r,[])=>gd (isFlat r) (f r)|_=>none)
def fnX (v:PV) (f:Nat→List PV→Option R):Option R:=match v with| .fn i cs=>f i cs|_=>none
def newX (s:St) (d:Nat) (g:Bool) (cs:List PV) (k:St→Option R):Option R:=
 match g with
 |true=>putK s.env d (.ptr true s.gh.length 0) fun e=>k ⟨e,s.lh,s.gh++[.cells cs]⟩
 |false=>putK s.env d (.ptr false s.lh.length 0) fun e=>snocK s.lh cs fun lh=>k ⟨e,lh,s.gh⟩
def binX (op:BinOp) (a b:PV) (f:PV→Option R):Option R:=
 match a,b with
 | .int k x,.int k' y=>match op with
  | .add=>kE k k' (f (.int k (k.wrap (x+y))))
  | .sub=>kE k k' (f (.int k (k.wrap (x-y))))
  | .mul=>kE k k' (f (.int k (k.wrap (x*y))))
  | .quo=>kE k k' (gd (decide (y≠0)) (f (.int k (k.wrap (x.tdiv y)))))
  | .rem=>kE k k' (gd (decide (y≠0)) (f (.int k (x.tmod y))))
  | .and=>kE k k' (f (.int k (iAnd k x y)))
  | .or=>kE k k' (f (.int k (iOr k x y)))
  | .xor=>kE k k' (f (.int k (iXor k x y)))
  | .eql=>kE k k' (f (.bool (x==y)))
  | .neq=>kE k k' (f (.bool (x !=y)))
  | .lss=>kE k k' (f (.bool (decide (x<y))))
  | .leq=>kE k k' (f (.bool (decide (x≤y))))
  | .gtr=>kE k k' (f (.bool (decide (y<x))))
  | .geq=>kE k k' (f (.bool (decide (y≤x))))
  | .shl=>gd (decide (0≤y)) (f (.int k (iShl k x y)))
  | .shr=>gd (decide (0≤y)) (f (.int k (iShr k x y)))
  |op=>ob (binPV op (.int k x) (.int k' y)) f
 | .str x,.str y=>match op with
  | .eql=>f (.bool (x.toList==y.toList))
  | .neq=>f (.bool (!(x.toList==y.toList)))
  |op=>ob (binPV op (.str x) (.str y)) f
 |_,_=>none
def unX (op:UnOp) (a:PV) (f:PV→Option R):Option R:=
 match op,a with
 | .neg,.int k n=>f (.int k (k.wrap (0-n)))
 | .xor,.int k n=>f (.int k (iNot k n))
 | .not,.bool b=>f (.bool (!b))
 |_,_=>none
def maxX (vs:List PV) (f:PV→Option R):Option R:=
 match vs with
 |[.int k a,.int k' b]=>kE k k' (f (.int k (if b>a then b else a)))
 |_=>none
def setO (an:Tr) (s:St) (d:Option Nat) (v:PV) (k:St→Option R):Option R:=
 match d with
 |some d=>setX an s d v k
 |none=>k s
noncomputable def qau (cf:CallF) (an:Tr) (s:St) (k:St→Option R) (d:Nat) (x:IX):Option R:=match evK s.env x with
  |some v=>setX an s d v k
  |none=>none
noncomputable def qav (cf:CallF) (an:Tr) (s:St) (k:St→Option R) (d:Nat) (n:Nat):Option R:=match getX s.env n with
  |some v=>putK s.env n (degr v) fun e=>putK e d v fun e=>k ⟨e,s.lh,s.gh⟩
  |none=>none
noncomputable def qaw (cf:CallF) (an:Tr) (s:St) (k:St→Option R) (d:Nat) (c:IX) (x:IX) (y:IX):Option R:=match evX s.env c,evX s.env x,evX s.env y with
  |some c,some v,some w=>unB c fun b=>br d b (setX an s d v k) (setX an s d w k)
  |_,_,_=>none
noncomputable def q6c (cf:CallF) (an:Tr) (s:St) (k:St→Option R) (d:Nat) (g:Bool) (x:IX):Option R:=tkX s.env x fun v e=>arK v (cellsX (shX an x) v fun cs=>newX ⟨e,s.lh,s.gh⟩ d g cs k)
noncomputable def q6d (cf:CallF) (an:Tr) (s:St) (k:St→Option R) (d:Nat) (g:Bool) (x:IX):Option R:=match evX s.env x with
  |some v=>arK v (cellsX (shX an x) v fun cs=>newX s d g cs k)
  |none=>none
noncomputable def qax (cf:CallF) (an:Tr) (s:St) (k:St→Option R) (d:Nat) (g:Bool) (z:PV):Option R:=arK z (newX s d g z.cells k)
noncomputable def qay (cf:CallF) (an:Tr) (s:St) (k:St→Option R) (d:Nat) (z:List PV) (ps:List (Nat×Nat×IX)):Option R:=arL z (psX an s.env ps z fun cs=>putS s d (.agg cs) k)
noncomputable def qaz (cf:CallF) (an:Tr) (s:St) (k:St→Option R) (d:Nat) (z:List PV) (ps:List (Nat×Nat×IX)):Option R:=arL z (psT an s.env ps z fun e cs=>putK e d (.agg cs) fun e=>k ⟨e,s.lh,s.gh⟩)
noncomputable def qb0 (cf:CallF) (an:Tr) (s:St) (k:St→Option R) (d:Nat) (z:Nat) (els:List IX):Option R:=evXs s.env els fun vs=>slK z vs (putS s d (.sl true z vs) k)
noncomputable def qb1 (cf:CallF) (an:Tr) (s:St) (k:St→Option R) (d:Nat) (agg:Bool) (kk:Nat) (a:IX):Option R:=match evX s.env a with
  |some p=>ldX s.lh s.gh agg kk p fun v=>setX an s d v k
  |none=>none
noncomputable def qb2 (cf:CallF) (an:Tr) (s:St) (k:St→Option R) (d:Nat) (a:IX):Option R:=match evX s.env a with
  |some (.ptr false b off)=>match nthX s.lh b with
   |some cs=>ob cs[off]? fun v=>setK s.lh b (spliceAt cs off [degr1 v]) fun lh=>putK s.env d v fun e=>k ⟨e,lh,s.gh⟩
   |none=>none
  |some (.ptr true b off)=>ob (ghCells s.gh b) fun cs=>ob cs[off]? fun v=>putK s.env d v fun e=>k ⟨e,s.lh,s.gh.set b (.cells (spliceAt cs off [degr1 v]))⟩
  |_=>none
noncomputable def qb3 (cf:CallF) (an:Tr) (s:St) (k:St→Option R) (d:Nat) (a:IX):Option R:=match evX s.env a with
  |some (.ptr false b off)=>match nthX s.lh b with
   |some cs=>ob cs[off]? fun v=>setK s.lh b (spliceAt cs off [degr1 v]) fun lh=>putK s.env d v fun e=>k ⟨e,lh,s.gh⟩
   |none=>none
  |_=>none
noncomputable def q6e (cf:CallF) (an:Tr) (s:St) (k:St→Option R) (kk:Nat) (a:IX) (x:IX):Option R:=match evX s.env a with
  |some p=>tkX s.env x fun v e=>arK v (cellsX (shX an x) v fun cs=>stoX ⟨e,s.lh,s.gh⟩ p kk cs k)
  |none=>none
noncomputable def q6f (cf:CallF) (an:Tr) (s:St) (k:St→Option R) (kk:Nat) (a:IX) (x:IX):Option R:=match evX s.env a,evX s.env x with
  |some p,some v=>arK v (cellsX (shX an x) v fun cs=>stoX s p kk cs k)
  |_,_=>none
noncomputable def qb4 (cf:CallF) (an:Tr) (s:St) (k:St→Option R) (d:Nat) (x:IX):Option R:=match evX s.env x with
  |some p=>gd (isPtr p) (setX an s d p k)
  |none=>none
noncomputable def qb5 (cf:CallF) (an:Tr) (s:St) (k:St→Option R) (d:Nat) (op:BinOp) (x:IX) (y:IX):Option R:=match evX s.env x,evX s.env y with
  |some a,some b=>binX op a b fun v=>setX an s d v k
  |_,_=>none
noncomputable def qb6 (cf:CallF) (an:Tr) (s:St) (k:St→Option R) (d:Nat) (neg:Bool) (ks:List Bool) (x:IX) (y:IX):Option R:=match evX s.env x,evX s.env y with
  |some (.agg a),some (.agg b)=>ob (flatEq ks a b) fun r=>putS s d (.bool (match neg with|true=> !r|false=>r)) k
  |_,_=>none
noncomputable def qb7 (cf:CallF) (an:Tr) (s:St) (k:St→Option R) (d:Nat) (op:UnOp) (x:IX):Option R:=match evX s.env x with
  |some a=>unX op a fun v=>setX an s d v k
  |none=>none
noncomputable def qb8 (cf:CallF) (an:Tr) (s:St) (k:St→Option R) (d:Nat) (kd:IntKind) (x:IX):Option R:=match evX s.env x with
  |some v=>anyI v fun n=>putS s d (.int kd (kd.wrap n)) k
  |none=>none
noncomputable def qb9 (cf:CallF) (an:Tr) (s:St) (k:St→Option R) (d:Nat) (f:Nat) (caps:List IX):Option R:=evXs s.env caps fun vs=>allK vs (putS s d (.fn f vs) k)
noncomputable def qba (cf:CallF) (an:Tr) (s:St) (k:St→Option R) (d:Nat):Option R:=putK s.env d (.mp s.gh.length) fun e=>k ⟨e,s.lh,s.gh++[.map []]⟩
noncomputable def qbb (cf:CallF) (an:Tr) (s:St) (k:St→Option R) (d:Nat) (g:Bool) (z:Nat) (bytes:Nat) (zero:PV) (l:IX):Option R:=match evX s.env l with
  |some v=>anyI v fun n=>gd (mkOk n bytes z zero) (match g with
   |true=>putK s.env d (.bs true s.gh.length 0 n.toNat z) fun e=>k ⟨e,s.lh,s.gh++[.cells ((List.replicate n.toNat zero).flatMap PV.cells)]⟩
   |false=>gd (isFlat zero) (putK s.env d (.sl true z (List.replicate n.toNat zero)) fun e=>k ⟨e,s.lh,s.gh⟩))
  |none=>none
noncomputable def qbc (cf:CallF) (an:Tr) (s:St) (k:St→Option R) (d:Nat) (z:Nat) (x:IX) (lo:Option IX) (hi:Option IX):Option R:=match evX s.env x with
  |some v=>boX s.env lo fun lo=>boX s.env hi fun hi=>slX z v lo hi fun w=>setX an s d w k
  |none=>none
noncomputable def qbd (cf:CallF) (an:Tr) (s:St) (k:St→Option R) (d:Nat) (x:IX) (off:Nat):Option R:=match evX s.env x with
  |some p=>faX p off fun p=>setX an s d p k
  |none=>none
noncomputable def qbe (cf:CallF) (an:Tr) (s:St) (k:St→Option R) (d:Nat) (agg:Bool) (kk:Nat) (off:Nat) (x:IX):Option R:=match evX s.env x with
  |some v=>fdX v agg kk off fun v=>setX an s d v k
  |none=>none
noncomputable def qbf (cf:CallF) (an:Tr) (s:St) (k:St→Option R) (d:Nat) (z:Nat) (arr:Option Nat) (x:IX) (i:IX):Option R:=match evX s.env i,evX s.env x with
  |some i,some v=>anyI i fun i=>idX z arr v i fun p=>setX an s d p k
  |_,_=>none
noncomputable def qbg (cf:CallF) (an:Tr) (s:St) (k:St→Option R) (d:Nat) (z:Nat) (arr:Nat) (agg:Bool) (x:IX) (i:IX):Option R:=match evX s.env i,evX s.env x with
  |some i,some v=>anyI i fun i=>ixX v z arr agg i fun v=>setX an s d v k
  |_,_=>none
noncomputable def qbh (cf:CallF) (an:Tr) (s:St) (k:St→Option R) (d:Nat) (x:IX) (i:IX):Option R:=match evX s.env i,evX s.env x with
  |some i,some v=>anyI i fun i=>isX v i fun u=>putS s d (.int .u8 u) k
  |_,_=>none
noncomputable def qbi (cf:CallF) (an:Tr) (s:St) (k:St→Option R) (d:Nat) (kn:Nat) (m:IX) (kx:IX) (ok:Bool) (zero:PV):Option R:=match evX s.env m,evX s.env kx with
  |some m,some kv=>lkX s.gh kn m kv fun r=>setX an s d (match ok with|true=> .tup [r.getD (degr zero),.bool r.isSome]|false=>r.getD (degr zero)) k
  |_,_=>none
noncomputable def qbj (cf:CallF) (an:Tr) (s:St) (k:St→Option R) (kn:Nat) (m:IX) (kx:IX) (x:IX):Option R:=match evX s.env m,evX s.env kx,evX s.env x with
  |some m,some kv,some v=>muX s.gh kn m kv v fun gh=>k ⟨s.env,s.lh,gh⟩
  |_,_,_=>none
noncomputable def qbk (cf:CallF) (an:Tr) (s:St) (k:St→Option R) (d:Option Nat) (q:Bool) (f:Nat) (xs:List IX):Option R:=evXs s.env xs fun vs=>allK vs (callR s.gh q (cf f vs s.gh) fun r gh=>setO an ⟨s.env,s.lh,gh⟩ d r k)
noncomputable def qbl (cf:CallF) (an:Tr) (s:St) (k:St→Option R) (d:Option Nat) (q:Bool) (fv:IX) (xs:List IX):Option R:=match evX s.env fv with
  |some fv=>evXs s.env xs fun vs=>fnX fv fun f caps=>allK vs (allK caps (callR s.gh q (cf f (vs++caps) s.gh) fun r gh=>setO an ⟨s.env,s.lh,gh⟩ d r k))
  |none=>none
noncomputable def qbm (cf:CallF) (an:Tr) (s:St) (k:St→Option R) (d:Option Nat) (f:Nat) (xs:List IX):Option R:=evXs s.env xs fun vs=>allK vs (callN vs (cf f vs []) fun r=>setO an s d r k)
noncomputable def q32 (cf:CallF) (an:Tr) (s:St) (k:St→Option R) (d:Nat) (x:IX):Option R:=match evX s.env x with
  |some v=>lenS v fun n=>putS s d (.int .i64 n) k
  |none=>none
noncomputable def q33 (cf:CallF) (an:Tr) (s:St) (k:St→Option R) (d:Nat) (x:IX):Option R:=match evX s.env x with
  |some v=>unS v fun b=>putS s d (.int .i64 b.size) k
  |none=>none
noncomputable def q34 (cf:CallF) (an:Tr) (s:St) (k:St→Option R) (d:Nat) (x:IX):Option R:=match evX s.env x with
  |some v=>lenM s.gh v fun n=>putS s d (.int .i64 n) k
  |none=>none
noncomputable def qbn (cf:CallF) (an:Tr) (s:St) (k:St→Option R) (d:Nat) (z:Nat) (bytes:Nat) (sx:IX) (x:IX):Option R:=match evX s.env x with
  |some w=>tkX s.env sx fun v e=>apX z bytes v w fun ys=>putK e d (.sl true z ys) fun e=>k ⟨e,s.lh,s.gh⟩
  |none=>none
noncomputable def qbo (cf:CallF) (an:Tr) (s:St) (k:St→Option R) (d:Nat) (bytes:Nat) (sx:IX) (x:IX):Option R:=match evX s.env x,evX s.env sx with
  |some w,some v=>akX s.gh bytes v w fun gh u=>setX an ⟨s.env,s.lh,gh⟩ d u k
  |_,_=>none
noncomputable def qbp (cf:CallF) (an:Tr) (s:St) (k:St→Option R) (d:Nat) (bytes:Nat) (sx:IX) (x:IX):Option R:=match evX s.env x,evX s.env sx with
  |some w,some v=>anX s.gh bytes v w fun gh u=>setX an ⟨s.env,s.lh,gh⟩ d u k
  |_,_=>none
noncomputable def qbq (cf:CallF) (an:Tr) (s:St) (k:St→Option R) (d:Nat) (a:IX):Option R:=match evX s.env a with
  |some v=>lkK s.gh v fun u=>setX an s d u k
  |none=>none
noncomputable def qbr (cf:CallF) (an:Tr) (s:St) (k:St→Option R) (d:Nat) (els:List IX):Option R:=evXs s.env els fun vs=>gd (vs.all isFlat) (putK s.env d (.stk s.gh.length 0 vs.length) fun e=>k ⟨e,s.lh,s.gh++[.stk 0 vs]⟩)
noncomputable def qbs (cf:CallF) (an:Tr) (s:St) (k:St→Option R) (d:Nat) (xs:List IX):Option R:=evXs s.env xs fun vs=>maxX vs fun v=>setX an s d v k
noncomputable def qbt (cf:CallF) (an:Tr) (s:St) (k:St→Option R) (d:Nat) (x:IX) (i:Nat):Option R:=match evX s.env x with
  |some v=>exX v i fun v=>setX an s d v k
  |none=>none
def skK (gh:List GObj) (v w:PV) (f:List GObj→Option R):Option R:=
 match v with
 | .pstk b gen i=>ob (ghStk gh b) fun p=>gd (decide (p.1=gen∧i<p.2.length∧isFlat w=true)) (f (gh.set b (.stk p.1 (p.2.set i w))))
 |_=>none
def ckK (gh:List GObj) (v:PV) (f:List GObj→Option R):Option R:=
 match v with
 | .sub b gen off n=>ob (ghStk gh b) fun p=>gd (decide (p.1=gen∧off+n≤p.2.length)) (f (gh.set b (.stk p.1 (p.2.take off++List.replicate n (.int .i64 0)++p.2.drop (off+n)))))
 |_=>none
def aeX (gh:List GObj) (bytes:Nat) (v w:PV) (f:List PV→Option R):Option R:=
 match v with
 | .sl o z1 xs=>ob (elsOf gh w) fun ys=>gd (decide (o=true∧z1=1∧ys.all isFlat=true∧(xs.length+ys.length)*bytes≤maxBytes)) (f (xs++ys))
 |_=>none
noncomputable def kbX (gh gh':List GObj) (v:PV) (x:Option R):Option R:=
 open Classical in
 match v with
 | .ptr true b _=>if b<gh.length∧gh'[b]?=gh[b]? then x else none
 | .pstk b _ _=>if b<gh.length∧gh'[b]?=gh[b]? then x else none
 | .stk b _ _=>if b<gh.length∧gh'[b]?=gh[b]? then x else none
 |_=>none
noncomputable def kpX (e:List (Nat×PV)) (gh gh':List GObj):List Nat→Option R→Option R
 |[],x=>x
 |n::l,x=>match getX e n with
  |some v=>kbX gh gh' v (kpX e gh gh' l x)
  |none=>none
def lbX (gh:List GObj) (agg:Bool) (k:Nat) (p q:PV) (f:PV→Option R):Option R:=
 match p,q with
 | .ptr true b off,.ptr true b' _=>gd (decide (b=b')) (ob (ghCells gh b) fun cs=>ob (grab agg k off cs) fun v=>f (degr v))
 |_,_=>none
def lkbX (gh:List GObj) (p q:PV) (f:PV→Option R):Option R:=
 match p,q with
 | .pstk b gen i,.stk b' _ _=>gd (decide (b=b')) (ob (stkGet gh b gen i) f)
 |_,_=>none
def ltbX (gh:List GObj) (p q:PV) (o2:Nat) (f:PV→List GObj→Option R):Option R:=
 match p,q with
 | .ptr true b off,.ptr true b' o=>gd (decide (b=b'∧off=o+o2)) (ob (ghCells gh b) fun cs=>ob cs[off]? fun v=>f v (gh.set b (.cells (spliceAt cs off [degr1 v]))))
 |_,_=>none
def rtP (c:List GObj→Option (PV×List GObj)) (gh:List GObj) (b off:Nat):Prop:=
 ∃g1 g2 r1 r2,setRt gh b off true=some g1∧setRt gh b off false=some g2∧c g1=some r1∧c g2=some r2∧r1.1=r2.1∧r1.2[b]?=g1[b]?∧r2.2[b]?=g2[b]?∧setRt r1.2 b off false=some r2.2∧setRt r2.2 b off true=some r1.2
noncomputable def rtK (c:List GObj→Option (PV×List GObj)) (gh:List GObj) (v:PV) (off:Nat) (x:Option R):Option R:=
 open Classical in
 match v with
 | .ptr true b o=>if rtP c gh b (o+off) then x else none
 |_=>none
def mkaOk (n:Int) (bytes z:Nat) (zero:PV):Bool:=decide (0≤n∧n*bytes≤maxBytes∧z=1∧isFlat zero=true)
noncomputable def q6g (cf:CallF) (an:Tr) (s:St) (k:St→Option R) (a:IX) (x:IX):Option R:=match evX s.env a,evX s.env x with
  |some v,some w=>skK s.gh v w fun gh=>k ⟨s.env,s.lh,gh⟩
  |_,_=>none
noncomputable def q6h (cf:CallF) (an:Tr) (s:St) (k:St→Option R) (x:IX):Option R:=match evX s.env x with
  |some v=>ckK s.gh v fun gh=>k ⟨s.env,s.lh,gh⟩
  |none=>none
noncomputable def q6i (cf:CallF) (an:Tr) (s:St) (k:St→Option R) (d f:Nat) (fs:List IX):Option R:=evXs s.env fs fun vs=>allK vs (putS s d (.bfn f vs) k)
noncomputable def q6j (cf:CallF) (an:Tr) (s:St) (k:St→Option R) (d:Option Nat) (f:Nat) (xs:List IX) (ns:List Nat):Option R:=evXs s.env xs fun vs=>allK vs (callR s.gh false (cf f vs s.gh) fun r gh=>kpX s.env s.gh gh ns (setO an ⟨s.env,s.lh,gh⟩ d r k))
noncomputable def q6k (cf:CallF) (an:Tr) (s:St) (k:St→Option R) (d:Option Nat) (f:Nat) (xs:List IX) (n off:Nat):Option R:=evXs s.env xs fun vs=>match getX s.env n with
  |some v=>allK vs (callR s.gh false (cf f vs s.gh) fun r gh=>rtK (cf f vs) s.gh v off (setO an ⟨s.env,s.lh,gh⟩ d r k))
  |none=>none
noncomputable def q6l (cf:CallF) (an:Tr) (s:St) (k:St→Option R) (d:Nat) (bytes:Nat) (sx:IX) (x:IX):Option R:=match evX s.env x with
  |some w=>tkX s.env sx fun v e=>aeX s.gh bytes v w fun ys=>putK e d (.sl true 1 ys) fun e=>k ⟨e,s.lh,s.gh⟩
  |none=>none
noncomputable def q6m (cf:CallF) (an:Tr) (s:St) (k:St→Option R) (d:Nat) (a:IX) (n:Nat):Option R:=match evX s.env a,getX s.env n with
  |some p,some q=>lkbX s.gh p q fun v=>setX an s d v k
  |_,_=>none
noncomputable def q6n (cf:CallF) (an:Tr) (s:St) (k:St→Option R) (d:Nat) (a:IX) (n o2:Nat):Option R:=match evX s.env a,getX s.env n with
  |some p,some q=>ltbX s.gh p q o2 fun v gh=>putK s.env d v fun e=>k ⟨e,s.lh,gh⟩
  |_,_=>none
noncomputable def q6o (cf:CallF) (an:Tr) (s:St) (k:St→Option R) (d:Nat) (agg:Bool) (kk:Nat) (a:IX) (n:Nat):Option R:=match evX s.env a,getX s.env n with
  |some p,some q=>lbX s.gh agg kk p q fun v=>setX an s d v k
  |_,_=>none
noncomputable def q6p (cf:CallF) (an:Tr) (s:St) (k:St→Option R) (d:Nat) (agg:Bool) (kk:Nat) (a:IX):Option R:=match evX s.env a with
  |some (.ptr false b off)=>(match nthX s.lh b with|some cs=>ob (grab agg kk off cs) fun v=>setX an s d (degr v) k|none=>none)
  |_=>none
noncomputable def q6q (cf:CallF) (an:Tr) (s:St) (k:St→Option R) (d:Nat) (bytes:Nat) (sx:IX) (x:IX) (ns:List Nat):Option R:=match evX s.env x,evX s.env sx with
  |some w,some v=>anX s.gh bytes v w fun gh u=>kpX s.env s.gh gh ns (setX an ⟨s.env,s.lh,gh⟩ d u k)
  |_,_=>none
noncomputable def q6r (cf:CallF) (an:Tr) (s:St) (k:St→Option R) (d z bytes:Nat) (zero:PV) (l:IX):Option R:=match evX s.env l with
  |some v=>anyI v fun n=>gd (mkaOk n bytes z zero) (putS s d (.arr zero n.toNat) k)
  |none=>none
noncomputable def opX (cf:CallF) (an:Tr) (s:St) (o:IOp) (k:St→Option R):Option R:=
 match o with
 | .mv d x=>qau cf an s k d x
 | .tk d n=>qav cf an s k d n
 | .pick d c x y=>qaw cf an s k d c x y
 | .box d g true x=>q6c cf an s k d g x
 | .box d g false x=>q6d cf an s k d g x
 | .alloc d g z=>qax cf an s k d g z
 | .build d z ps=>qay cf an s k d z ps
 | .buildT d z ps=>qaz cf an s k d z ps
 | .buildSl d z els=>qb0 cf an s k d z els
 | .load d agg kk a=>qb1 cf an s k d agg kk a
 | .loadT d a=>qb2 cf an s k d a
 | .loadL d a=>qb3 cf an s k d a
 | .store true kk a x=>q6e cf an s k kk a x
 | .store false kk a x=>q6f cf an s k kk a x
 | .nilc d x=>qb4 cf an s k d x
 | .bin d op x y=>qb5 cf an s k d op x y
 | .eqa d neg ks x y=>qb6 cf an s k d neg ks x y
 | .un d op x=>qb7 cf an s k d op x
 | .conv d kd x=>qb8 cf an s k d kd x
 | .mkfn d f caps=>qb9 cf an s k d f caps
 | .mkmap d=>qba cf an s k d
 | .mksl d g z bytes zero l=>qbb cf an s k d g z bytes zero l
 | .slice d z x lo hi=>qbc cf an s k d z x lo hi
 | .faddr d x off=>qbd cf an s k d x off
 | .field d agg kk off x=>qbe cf an s k d agg kk off x
 | .iaddr d z arr x i=>qbf cf an s k d z arr x i
 | .index d z arr agg x i=>qbg cf an s k d z arr agg x i
 | .indexS d x i=>qbh cf an s k d x i
 | .lookup d kn m kx ok zero=>qbi cf an s k d kn m kx ok zero
 | .mupd kn m kx x=>qbj cf an s k kn m kx x
 | .call d q f xs=>qbk cf an s k d q f xs
 | .callv d q fv xs=>qbl cf an s k d q fv xs
 | .callF d f xs=>qbm cf an s k d f xs
 | .len d 0 x=>q32 cf an s k d x
 | .len d 1 x=>q33 cf an s k d x
 | .len d 2 x=>q34 cf an s k d x
 | .len _ _ _=>none
 | .append d z bytes sx x=>qbn cf an s k d z bytes sx x
 | .appendK d bytes sx x=>qbo cf an s k d bytes sx x
 | .appendN d bytes sx x=>qbp cf an s k d bytes sx x
 | .storeK a x=>q6g cf an s k a x
 | .clearK x=>q6h cf an s k x
 | .mkbf d f fs=>q6i cf an s k d f fs
 | .buildSlK d els=>qbr cf an s k d els
 | .loadK d a=>qbq cf an s k d a
 | .maxi d xs=>qbs cf an s k d xs
 | .extract d x i=>qbt cf an s k d x i
 | .callP d f xs ns=>q6j cf an s k d f xs ns
 | .callR d f xs n off=>q6k cf an s k d f xs n off
 | .appendE d bytes sx x=>q6l cf an s k d bytes sx x
 | .loadKB d a n=>q6m cf an s k d a n
 | .loadTB d a n o2=>q6n cf an s k d a n o2
 | .loadB d agg kk a n=>q6o cf an s k d agg kk a n
 | .loadJ d agg kk a=>q6p cf an s k d agg kk a
 | .appendP d bytes sx x ns=>q6q cf an s k d bytes sx x ns
 | .mkarr d z bytes zero l=>q6r cf an s k d z bytes zero l
 | .buildA _ _ _=>none
 | .boxSl _ _ _=>none
 |_=>none
def skX (s:St) (o:IOp) (k:St→Option R):Option R:=
 match opDst o with
 |some d=>putS s d .und k
 |none=>k s
noncomputable def opsX (cf:CallF) (an:Tr):List IOpG→St→(St→Option R)→Option R
 |[],s,k=>k s
 |⟨o,none⟩::l,s,k=>opX cf an s o fun s=>opsX cf an l s k
 | ⟨o,some (g,want)⟩::l,s,k=>match getX s.env g with
  | some (.bool b)=>br g b
    (putS s g (.bool true) fun s=>match want with
     |true=>opX cf an s o fun s=>opsX cf an l s k
     |false=>skX s o fun s=>opsX cf an l s k)
    (putS s g (.bool false) fun s=>match want with
     |false=>opX cf an s o fun s=>opsX cf an l s k
     |true=>skX s o fun s=>opsX cf an l s k)
  |some .und=>skX s o fun s=>opsX cf an l s k
  |_=>none
def keepX (nl:Nat):List Nat→List (Nat×PV)→(List (Nat×PV)→Option R)→Option R
 |[],_,f=>f []
 |t::l,e,f=>match getX e t with
  |some v=>stK nl v (keepX nl l e fun e'=>f ((t,v)::e'))
  |none=>keepX nl l e f
def po (ks:List Nat) (nl:Nat) (e:IExit) (s:St) (k:IExit→St→Option R):Option R:=
 match e with
 | .normal=>keepX nl ks s.env fun e=>takeK nl s.lh fun lh=>k .normal ⟨e,lh,s.gh⟩
 |e=>k e s
def tagX:IX→Nat
 | .t n=>n
 |_=>0
noncomputable def runX (pg:Prg) (an:Tr):ICode→St→(IExit→St→Option R)→Option R
 | .skip,s,k=>k .normal s
 | .region ops _,s,k=>opsX (callL pg) an ops s (k .normal)
 | .seq a b,s,k=>runX pg an a s fun e s'=>nx e s' k fun s'=>runX pg an b s' k
 | .cond x a b,s,k=>match evX s.env x with
  |some v=>unB v fun c=>br (tagX x) c (runX pg an a s k) (runX pg an b s k)
  |none=>none
 | .block id a,s,k=>runX pg an a s fun e s'=>bk id e s' k
 | .loop a,s,k=>kR (runL pg (.loop a) s) k
 | .exit i,s,k=>k (.exit i) s
 | .ret,s,k=>k .ret s
 | .post a ks nl,s,k=>runX pg an a s fun e s'=>po ks nl e s' k
 | .cut a,s,k=>kR (runL pg a s) k
 | .bad,_,_=>none
end
abbrev DR:=Option (IExit×St)
abbrev tI (k:Nat) (l r:Tr):Tr:= .node k (.ce (.int .i64)) l r
abbrev tB (k:Nat) (l r:Tr):Tr:= .node k (.ce (.bool)) l r
abbrev tO (k:Nat) (l r:Tr):Tr:= .node k (.ce (.one)) l r
abbrev tG (k:Nat) (l r:Tr):Tr:= .node k (.ce (.gp)) l r
abbrev uI (k:Nat):Tr:= .node k (.ce (.int .i64)) .nil .nil
abbrev uB (k:Nat):Tr:= .node k (.ce (.bool)) .nil .nil
abbrev uO (k:Nat):Tr:= .node k (.ce (.one)) .nil .nil
abbrev uG (k:Nat):Tr:= .node k (.ce (.gp)) .nil .nil
end Go.Lw
end
