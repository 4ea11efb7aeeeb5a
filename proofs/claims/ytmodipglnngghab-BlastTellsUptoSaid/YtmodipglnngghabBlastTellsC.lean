/-
  The texts that the proof stands on, part 3.
-/
import Derived.Test.YtmodipglnngghabBlastTellsB
set_option linter.unusedVariables false
set_option linter.unusedSimpArgs false
set_option linter.unnecessarySimpa false

set_option maxRecDepth 100000
set_option maxHeartbeats 4000000
namespace Go.Lw
open Go
def gf (z bytes:Nat):List PV->List GObj->Option (PV×List GObj)
 |[.sl _ z' xs],gh=>if z'=z/\xs.length*bytes<=maxBytes then some (.sl true z xs,gh) else none
 |_,_=>none
def jt (bytes:Nat):List PV->List GObj->Option (PV×List GObj)
 | [.sl o z' xs],gh=>if xs=[] then gf 1 bytes [.sl o z' xs] gh
   else if z'=1/\xs.length*bytes<=maxBytes/\xs.all cx=true then some (.stk gh.length 1 xs.length,gh++[.stk 1 xs]) else none
 |[.stk b gen n],gh=>match gh[b]? with
  |some (.stk g xs)=>if g=gen/\n<=xs.length/\n*bytes<=maxBytes/\(xs.take n).all cx=true then some (.stk gh.length 1 n,gh++[.stk 1 (xs.take n)]) else none
  |_=>none
 |_,_=>none
def ju (z bytes:Nat):List PV->List GObj->Option (PV×List GObj)
 |[.nils,.int .i64 n],gh=>if 0<=n/\n.toNat*bytes<=maxBytes then some (.sl true z [],gh) else none
 |_,_=>none
def qhp:ICode:=(sR [oB 1 0,oK 2 0] [1] 1 (.seq (sR [oF 5 1 0,oN (.load 6 true 2 5),oY 7 6 [6],oM 3 7] [1,3] 1 (sR [oM 8 3,oN (.bin 9 .neq 8 (.c (I 0)))] [1,3,9] 1 (.cond 9 (sR [oM 10 3,oM 2 10] [2] 0 .ret) .skip))) (.seq (.block 0 (sR [oF 12 1 2,oL 13 12,oN (.bin 14 .lss 13 (.c (I 0))),oM 15 14,gF 16 1 3 15,gL 17 16 15,gN (.bin 18 .lss 17 (.c (I 0))) 15,oN (.pick 19 15 (.c (.bool true)) 18),oM 20 19,gF 21 1 2 20,gL 22 21 20,gF 23 1 3 20,gL 24 23 20,gN (.bin 25 .add 22 24) 20,gF 26 1 0 20,gF 27 26 0 20,gL 28 27 20,gN (.bin 29 .neq 25 28) 20,oN (.pick 30 20 (.c (.bool true)) 29),oM 11 30] [1,11] 1 (.cond 11 (sR [oK 2 4] [2] 0 .ret) (sR [oF 32 1 4,oL 33 32,oD 34 33,oF 35 1 3,oL 36 35,oN (.bin 37 .neq 34 36),oM 38 37,gF 39 1 5 38,gL 40 39 38,gN (.len 41 0 40) 38,gF 42 1 3 38,gL 43 42 38,gN (.bin 44 .neq 41 43) 38,oN (.pick 45 38 (.c (.bool true)) 44),oM 31 45] [1,31] 1
 (.cond 31 (sR [oK 2 1] [2] 0 .ret) .skip))))) (sR [oF 46 1 4,oL 47 46,oX 48 121 [47],oX 49 343 [48,(.f 215)],oT 4 49] [1,4] 1 (.seq (sQ [oF 50 1 0,oN (.loadJ 51 true 2 50),oM 52 4,oF 53 1 5,oL 54 53,oF 55 1 6,oL 56 55,oF 57 1 7,oL 58 57,oN (.buildSl 59 1 [52,54,56,58]),oN (.callP (some 60) 344 [59] []),oY 61 47 [51,60],oN (.un 62 .not 61)] [62] 0 (.cond 62 (sR [oK 2 5] [2] 0 .ret) .skip)) (sR [oK 2 0] [2] 0 .ret))))))
def qhq:IFunc:={np:=1,res:=[.t 2],own:=false,trunc:=true,body:=qhp }
def qb4:ICode:=(sR [oB 1 0,oN (.alloc 2 false (.agg [I 0,.sl true 2 [],I 0,I 0,.sl true 1 [],.sl true 1 [],.sl true 1 [],.sl true 1 []])),oK 3 0] [1,2] 2 (.seq (sR [oN (.load 6 true 5 1),oY 7 38 [6],oM 4 7] [1,2,4] 2 (sR [oM 8 4,oN (.bin 9 .neq 8 (.c (I 0)))] [1,2,4,9] 2 (.cond 9 (sR [oN (.build 10 [I 0,.sl true 2 [],I 0,I 0,.sl true 1 [],.sl true 1 [],.sl true 1 [],.sl true 1 []] []),oM 11 4,oN (.store true 8 2 10),oM 3 11] [2,3] 2 .ret) .skip))) (sR [oN (.load 12 true 5 1),oY 13 217 [12],oN (.alloc 5 false (.agg [I 0,.sl true 2 [],I 0,I 0,.sl true 1 [],.sl true 1 [],.sl true 1 [],.sl true 1 []])),oN (.store true 8 5 13)] [2,5] 3 (.seq (sR [oF 14 5 0,oF 15 14 1,oL 16 15,oD 17 16,oN (.bin 18 .gtr 17 (.c (I 1000000)))] [2,5,18] 3 (.cond 18 (sR [oN (.build 19 [I 0,.sl true 2 [],I 0,I 0,.sl true 1 [],.sl true 1 [],.sl true 1 [],.sl true 1 []] []),oN (.store true 8 2 19),oK 3 2] [2,3] 2
 .ret) .skip)) (sR [oN (.load 20 true 8 5),oN (.store true 8 2 20),oK 3 0] [2,3] 2 .ret)))))
def q1p:IFunc:={np:=1,res:=[.cell 2 true 8,.t 3],own:=false,trunc:=true,body:=qb4 }
def qhr:ICode:=(sR [oN (.mv 2 (.c (.bool false)))] [0] 0 (sR [oM 3 0,oN (.bin 4 .eql 3 (.c (I (-1)))),oM 2 4] [2] 0 .ret))
def qhs:IFunc:={np:=1,res:=[.t 2],own:=false,trunc:=true,body:=qhr }
def qb5:ICode:=(.post (.seq (.region [oW 78 77 76] false) (.seq (.cond 78 .skip (.exit 2)) (.seq (.block 3 (sR [oM 79 77,oM 12 79] [1,2,3,4,5,6,8,9,11,12,48,49,50,76,77] 3 (pR [oT 80 11,oM 81 9,oM 82 12,oN (.bin 83 .add 81 82),oN (.bin 84 .mul (.c (I 2)) 83),oN (.buildSl 85 1 [84]),oN (.append 86 1 8 80 85),oT 11 86] [1,2,3,4,5,6,8,9,11,48,49,50,76,77] 3))) (pR [oP 87 77 1,oM 77 87] [1,2,3,4,5,6,8,9,11,48,49,50,76,77] 3)))) [1,2,3,4,5,6,8,9,11,48,49,50,76,77] 3)
def q5l:ICode:=(.post (.block 2 (.loop qb5)) [1,2,3,4,5,6,8,9,11,48,49,50] 3)
def q3g:ICode:=(sR [oM 88 6,oF 89 8 0,oL 90 89,oM 91 9,oF 92 8 1,oL 93 92,oN (.bin 94 .add 91 93),oN (.mupd 0 88 90 94)] [1,2,3,4,5,6,11,48,49,50] 2 (pR [oM 95 5,oM 96 5,oC 97 96,oF 98 97 6,oN (.loadT 99 98),oM 100 11,oN (.buildSl 101 1 [100]),oN (.append 102 1 24 99 101),oC 103 95,oF 104 103 6,oN (.store true 1 104 102)] [1,2,3,4,5,6,48,49,50] 2))
def q1g:ICode:=(pR [oP 105 50 1,oM 50 105] [1,2,3,4,5,6,48,49,50] 2)
def qb6:ICode:=(.post (.seq (.region [oW 51 50 49] false) (.seq (.cond 51 .skip (.exit 0)) (.seq (.post (.block 1 (sR [oN (.iaddr 52 6 none 48 50),oN (.load 53 true 6 52),oN (.alloc 8 false (.agg [I 0,I 0,I 0,I 0,I 0,I 0])),oN (.store false 6 8 53)] [1,2,3,4,5,6,8,48,49,50] 3 (sR [oM 55 6,oF 56 8 0,oL 57 56,oN (.lookup 58 0 55 57 true (I 0)),oM 54 58,oG 59 54 0,oG 60 54 1,oM 9 59,oM 10 60] [1,2,3,4,5,6,8,9,10,48,49,50] 3 (.seq (sR [oM 61 10,oN (.un 62 .not 61)] [1,2,3,4,5,6,8,9,48,49,50,62] 3 (.cond 62 (sQ [oM 63 5,oM 64 5,oC 65 64,oF 66 65 6,oN (.loadTB 67 66 5 6),oM 68 5,oN (.load 69 true 6 8),oN (.callR (some 70) 218 [68,69] 5 6),oN (.buildSl 71 1 [70]),oN (.append 72 1 24 67 71),oC 73 63,oF 74 73 6,oN (.store true 1 74 72)] [1,2,3,4,5,6,48,49,50] 2 (.exit 1)) .skip)) (sR [oN (.mv 11 (.c (.sl true 1 [])))] [1,2,3,4,5,6,8,9,11,48,49,50] 3
 (.seq (sR [oF 75 8 1,oL 76 75,oK 77 0] [1,2,3,4,5,6,8,9,11,48,49,50,76,77] 3 (.cut q5l)) (.cut q3g))))))) [1,2,3,4,5,6,48,49,50] 2) (.cut q1g)))) [1,2,3,4,5,6,48,49,50] 2)
def q1q:ICode:=(.post (.block 0 (.loop qb6)) [1,2,3,4,5] 2)
def qb7:ICode:=(.post (.seq (.region [oW 115 114 113] false) (.seq (.cond 115 .skip (.exit 4)) (.seq (.block 5 (sR [oN (.iaddr 116 2 none 112 114),oN (.load 117 true 2 116),oN (.alloc 17 false (.agg [I 0,I 0])),oN (.store false 2 17 117)] [1,2,5,13,14,15,17,112,113,114] 4 (pR [oM 118 14,oF 119 17 0,oL 120 119,oF 121 17 1,oL 122 121,oN (.mupd 0 118 120 122)] [1,2,5,13,14,15,112,113,114] 3))) (pR [oP 123 114 1,oM 114 123] [1,2,5,13,14,15,112,113,114] 3)))) [1,2,5,13,14,15,112,113,114] 3)
def q5m:ICode:=(.post (.block 4 (.loop qb7)) [1,2,5,13,14,15] 3)
def qb8:ICode:=(.post (.seq (.region [oW 128 127 126] false) (.seq (.cond 128 .skip (.exit 6)) (.seq (.block 7 (sR [oN (.iaddr 129 2 none 125 127),oN (.load 130 true 2 129),oN (.alloc 19 false (.agg [I 0,I 0])),oN (.store false 2 19 130)] [1,2,5,13,14,15,19,125,126,127] 4 (pR [oM 131 15,oF 132 19 0,oL 133 132,oF 134 19 1,oL 135 134,oN (.mupd 0 131 133 135)] [1,2,5,13,14,15,125,126,127] 3))) (pR [oP 136 127 1,oM 127 136] [1,2,5,13,14,15,125,126,127] 3)))) [1,2,5,13,14,15,125,126,127] 3)
def q5n:ICode:=(.post (.block 6 (.loop qb8)) [1,2,5,13,14,15] 3)
def qb9:ICode:=(.post (.seq (.region [oW 184 183 182] false) (.seq (.cond 184 .skip (.exit 10)) (.seq (.block 11 (sR [oM 185 183,oM 25 185] [1,2,5,13,14,15,24,25,138,139,140,182,183] 3 (pQ [oF 186 13 4,oN (.loadL 187 186),oM 188 24,oM 189 25,oN (.bin 190 .shr 188 189),oN (.bin 191 .and 190 (.c (I 1))),oN (.buildSl 192 1 [191]),oN (.append 193 1 8 187 192),oF 194 13 4,oN (.store true 1 194 193)] [1,2,5,13,14,15,24,138,139,140,182,183] 3))) (pR [oP 195 183 1,oM 183 195] [1,2,5,13,14,15,24,138,139,140,182,183] 3)))) [1,2,5,13,14,15,24,138,139,140,182,183] 3)
def q5o:ICode:=(.post (.block 10 (.loop qb9)) [1,2,5,13,14,15,138,139,140] 3)
def qba:ICode:=(.post (.seq (.region [oW 203 202 201] false) (.seq (.cond 203 .skip (.exit 12)) (.seq (.block 13 (pR [oF 204 13 4,oN (.loadT 205 204),oN (.buildSl 206 1 [(.c (I (-1)))]),oN (.append 207 1 8 205 206),oF 208 13 4,oN (.store true 1 208 207)] [1,2,5,13,14,15,138,139,140,201,202] 3)) (pR [oP 209 202 1,oM 202 209] [1,2,5,13,14,15,138,139,140,201,202] 3)))) [1,2,5,13,14,15,138,139,140,201,202] 3)
def q5p:ICode:=(.post (.block 12 (.loop qba)) [1,2,5,13,14,15,138,139,140] 3)
def q1r:ICode:=(sR [oF 196 1 0,oL 197 196,oM 198 21,oN (.iaddr 199 6 none 197 198),oF 200 199 1,oL 201 200,oK 202 0] [1,2,5,13,14,15,138,139,140,201,202] 3 (.cut q5p))
def q17:ICode:=(pR [oP 210 140 1,oM 140 210] [1,2,5,13,14,15,138,139,140] 3)
def qbb:ICode:=(.post (.seq (.region [oW 141 140 139] false) (.seq (.cond 141 .skip (.exit 8)) (.seq (.post (.block 9 (sR [oA 142 138 140,oL 143 142,oM 21 143] [1,2,5,13,14,15,21,138,139,140] 3 (sQ [oF 144 13 5,oN (.loadL 145 144),oM 146 5,oC 147 146,oF 148 147 6,oL 149 148,oM 150 15,oM 151 21,oN (.lookup 152 0 150 151 false (I 0)),oA 153 149 152,oL 154 153,oN (.append 155 1 8 145 154),oF 156 13 5,oN (.store true 1 156 155)] [1,2,5,13,14,15,21,138,139,140] 3 (.seq (sR [oM 158 14,oM 159 21,oN (.lookup 160 0 158 159 true (I 0)),oM 157 160,oG 161 157 0,oG 162 157 1,oM 22 161,oM 23 162] [1,2,5,13,14,15,21,22,23,138,139,140] 3 (sR [oM 163 23] [1,2,5,13,14,15,21,22,138,139,140,163] 3 (.cond 163 (sQ [oN (.load 164 true 5 1),oN (.load 165 true 5 1),oY 166 101 [165,(.c (I 3))],oD 167 166,oN (.mksl 168 false 1 8 (I 0) 167),oN (.load 169 true 5 1),oY 170 101 [169,(.c (I 2))],
 oD 171 170,oN (.mksl 172 false 1 8 (I 0) 171),oY 173 139 [164,168,172],oM 174 22,oA 175 173 174,oL 176 175,oM 24 176] [1,2,5,13,14,15,21,24,138,139,140] 3 (.seq (sR [oF 177 1 0,oL 178 177,oM 179 21,oN (.iaddr 180 6 none 178 179),oF 181 180 1,oL 182 181,oK 183 0] [1,2,5,13,14,15,24,138,139,140,182,183] 3 (.cut q5o)) (.exit 9))) .skip))) (.cut q1r))))) [1,2,5,13,14,15,138,139,140] 3) (.cut q17)))) [1,2,5,13,14,15,138,139,140] 3)
def q5q:ICode:=(.post (.block 8 (.loop qbb)) [1,2,5,13] 3)
def qbc:ICode:=(.post (.seq (.region [oW 215 214 213] false) (.seq (.cond 215 .skip (.exit 14)) (.seq (.block 15 (sR [oA 216 212 214,oL 217 216,oM 27 217] [1,2,5,13,27,212,213,214] 3 (pQ [oF 218 13 6,oN (.loadL 219 218),oM 220 5,oC 221 220,oF 222 221 6,oL 223 222,oM 224 27,oA 225 223 224,oL 226 225,oN (.iaddr 227 1 none 226 (.c (I 0))),oL 228 227,oN (.buildSl 229 1 [228]),oN (.append 230 1 8 219 229),oF 231 13 6,oN (.store true 1 231 230)] [1,2,5,13,212,213,214] 3))) (pR [oP 232 214 1,oM 214 232] [1,2,5,13,212,213,214] 3)))) [1,2,5,13,212,213,214] 3)
def q5r:ICode:=(.post (.block 14 (.loop qbc)) [1,2,5,13] 3)
def qbd:ICode:=(.post (.seq (.region [oW 237 236 235] false) (.seq (.cond 237 .skip (.exit 16)) (.seq (.block 17 (sR [oA 238 234 236,oL 239 238,oM 29 239] [2,5,13,29,234,235,236] 3 (pQ [oF 240 13 7,oN (.loadL 241 240),oM 242 5,oC 243 242,oF 244 243 6,oL 245 244,oM 246 29,oA 247 245 246,oL 248 247,oN (.iaddr 249 1 none 248 (.c (I 0))),oL 250 249,oN (.buildSl 251 1 [250]),oN (.append 252 1 8 241 251),oF 253 13 7,oN (.store true 1 253 252)] [2,5,13,234,235,236] 3))) (pR [oP 254 236 1,oM 236 254] [2,5,13,234,235,236] 3)))) [2,5,13,234,235,236] 3)
def q5s:ICode:=(.post (.block 16 (.loop qbd)) [2,5,13] 3)
def q3h:ICode:=(sR [oM 255 5,oC 256 255,oF 257 256 0,oL 258 257,oC 259 258,oF 260 259 0,oN (.load 261 true 2 260),oF 262 13 0,oN (.store true 2 262 261)] [2,13] 3 (sR [oN (.load 263 true 8 13),oN (.store true 8 2 263)] [2] 2 .ret))
def q3i:ICode:=(.seq (sR [oF 233 1 4,oL 234 233,oD 235 234,oK 236 0] [2,5,13,234,235,236] 3 (.cut q5s)) (.cut q3h))
def q3j:ICode:=(.seq (sR [oF 211 1 3,oL 212 211,oD 213 212,oK 214 0] [1,2,5,13,212,213,214] 3 (.cut q5r)) (.cut q3i))
def q3k:ICode:=(.seq (sR [oN (.load 137 true 5 1),oY 138 101 [137,(.c (I 3))],oD 139 138,oK 140 0] [1,2,5,13,14,15,138,139,140] 3 (.cut q5q)) (.cut q3j))
def q3l:ICode:=(.seq (sR [oF 124 1 2,oL 125 124,oD 126 125,oK 127 0] [1,2,5,13,14,15,125,126,127] 3 (.cut q5n)) (.cut q3k))
def q3m:ICode:=(sR [oM 106 3,oM 107 4,oN (.buildT 108 [I 0,.sl true 2 [],I 0,I 0,.sl true 1 [],.sl true 1 [],.sl true 1 [],.sl true 1 []] [(2,1,106),(3,1,107)]),oN (.alloc 13 false (.agg [I 0,.sl true 2 [],I 0,I 0,.sl true 1 [],.sl true 1 [],.sl true 1 [],.sl true 1 []])),oN (.store true 8 13 108)] [1,2,5,13] 3 (sR [oN (.mkmap 109),oN (.mkmap 110),oM 14 109,oM 15 110] [1,2,5,13,14,15] 3 (.seq (sR [oF 111 1 1,oL 112 111,oD 113 112,oK 114 0] [1,2,5,13,14,15,112,113,114] 3 (.cut q5m)) (.cut q3l))))
def qbe:ICode:=(sR [oB 1 0,oN (.alloc 2 false (.agg [I 0,.sl true 2 [],I 0,I 0,.sl true 1 [],.sl true 1 [],.sl true 1 [],.sl true 1 []]))] [1,2] 2 (sR [oN (.load 31 true 5 1),oY 32 77 [31],oM 30 32,oG 33 30 0,oG 34 30 1,oM 3 33,oM 4 34] [1,2,3,4] 2 (sQ [oM 35 3,oM 36 4,oN (.bin 37 .add 35 36),oN (.buildT 38 [I 0,.sl true 2 []] [(0,1,37)]),oN (.callP (some 39) 48 [38] []),oN (.loadJ 40 true 5 1),oN (.buildT 41 [.nilp,.sl true 6 [],.sl true 2 [],.sl true 2 [],.sl true 1 [],.sl true 1 [],.sl true 1 []] [(0,1,39),(1,5,40)]),oN (.box 42 true true 41),oM 5 42] [1,2,3,4,5] 2 (sR [oN (.mkmap 43),oN (.mupd 0 43 (.c (I 2)) (.c (I 1))),oM 44 3,oN (.bin 45 .add (.c (I 1)) 44),oN (.mupd 0 43 (.c (I 3)) 45),oM 46 43,oM 6 46] [1,2,3,4,5,6] 2 (.seq (sR [oF 47 1 0,oL 48 47,oD 49 48,oK 50 0] [1,2,3,4,5,6,48,49,50] 2 (.cut q1q)) (.cut q3m))))))
def q5t:IFunc:={np:=1,res:=[.cell 2 true 8],own:=false,trunc:=true,body:=qbe }
def qbf:ICode:=(.post (.seq (.region [oW 25 24 23] false) (.seq (.cond 25 .skip (.exit 0)) (.seq (.block 1 (sR [oM 26 24,oA 27 22 24,oL 28 27,oM 6 26,oM 7 28] [0,3,5,6,7,22,23,24] 2 (pR [oM 29 6,oM 30 0,oC 31 30,oF 32 31 6,oL 33 32,oM 34 7,oA 35 33 34,oL 36 35,oN (.iaddr 37 1 (some 3) 5 29),oN (.store true 1 37 36)] [0,3,5,22,23,24] 2))) (pR [oP 38 24 1,oM 24 38] [0,3,5,22,23,24] 2)))) [0,3,5,22,23,24] 2)
def q5u:ICode:=(.post (.block 0 (.loop qbf)) [0,3,5] 2)
def qbg:ICode:=(.post (.seq (.region [oW 52 51 50] false) (.seq (.cond 52 .skip (.exit 3)) (.seq (.block 4 (sR [oM 53 51,oM 12 53] [3,11,12,50,51] 1 (pR [oT 54 11,oF 55 3 5,oL 56 55,oM 57 12,oN (.bin 58 .shr 56 57),oN (.bin 59 .and 58 (.c (I 1))),oN (.buildSl 60 1 [59]),oN (.append 61 1 8 54 60),oT 11 61] [3,11,50,51] 1))) (pR [oP 62 51 1,oM 51 62] [3,11,50,51] 1)))) [3,11,50,51] 1)
def q5v:ICode:=(.post (.block 3 (.loop qbg)) [11] 0)
def q3n:ICode:=(sR [oM 63 11,oT 4 63] [4] 0 .ret)
def qbh:ICode:=(.post (.seq (.region [oW 159 158 157] false) (.seq (.cond 159 .skip (.exit 5)) (.seq (.block 6 (sR [oM 160 158,oM 20 160] [0,8,9,19,20,157,158] 0 (pQ [oM 161 0,oC 162 161,oF 163 162 0,oN (.loadB 164 false 1 163 0),oM 165 19,oM 166 0,oM 167 8,oM 168 20,oA 169 167 168,oL 170 169,oM 171 9,oM 172 20,oA 173 171 172,oL 174 173,oN (.callP (some 175) 224 [166,170,174] [0]),oY 176 231 [175],oX 177 49 [164,165,176],oM 19 177] [0,8,9,19,157,158] 0))) (pR [oP 178 158 1,oM 158 178] [0,8,9,19,157,158] 0)))) [0,8,9,19,157,158] 0)
def q3o:ICode:=(.post (.block 5 (.loop qbh)) [19] 0)
def q3p:ICode:=(sR [oM 179 19,oN (.buildSl 180 1 [179]),oT 4 180] [4] 0 .ret)
def qx:ICode:=(sQ [oM 229 8,oF 230 3 1,oL 231 230,oM 232 8,oM 233 8,oD 234 233,oS 235 234 1,oA 236 232 235,oL 237 236,oY 238 235 [229,231,237],oT 4 238] [4] 0 .ret)
def q6:ICode:=(sQ [oN (.iaddr 39 1 (some 3) 5 (.c (I 0))),oL 40 39,oN (.iaddr 41 1 (some 3) 5 (.c (I 1))),oL 42 41,oN (.iaddr 43 1 (some 3) 5 (.c (I 2))),oL 44 43,oT 8 40,oT 9 42,oT 10 44] [0,3,8,9,10] 1 (.seq (sR [oF 45 3 0,oL 46 45] [0,3,8,9,10,46] 1 (.block 2 (sR [oE 48 46 1,oM 47 48] [0,3,8,9,10,46,47] 1 (.cond 47 (sR [oN (.mv 11 (.c (.sl true 1 [])))] [3,11] 1 (.seq (sR [oF 49 3 1,oL 50 49,oK 51 0] [3,11,50,51] 1 (.cut q5v)) (.cut q3n))) (sR [oE 65 46 4,oM 64 65] [0,3,8,9,10,46,64] 1 (.cond 64 (sR [oM 66 8,oY 67 219 [66],oT 4 67] [4] 0 .ret) (sR [oE 69 46 5,oM 68 69] [0,3,8,9,10,46,68] 1 (.cond 68 (sR [oM 70 0,oF 71 3 1,oL 72 71,oY 73 220 [72],oM 74 8,oX 75 221 [70,73,74],oT 4 75] [4] 0 .ret) (sR [oE 77 46 6,oM 76 77] [0,3,8,9,10,46,76] 1 (.cond 76 (sR [oM 78 8,oM 79 9,oM 80 0,oC 81 80,oF 82 81 0,oL 83 82,oN (.mkbf 84 49 [83]),oX 85 222 [78,79,84],oT 4 85] [4] 0 .ret)
 (sR [oE 87 46 7,oM 86 87] [0,3,8,9,10,46,86] 1 (.cond 86 (sR [oM 88 8,oM 89 9,oM 90 0,oN (.mkbf 91 223 [90]),oX 92 222 [88,89,91],oT 4 92] [4] 0 .ret) (sR [oE 94 46 8,oM 93 94] [0,3,8,9,10,46,93] 1 (.cond 93 (sR [oM 95 8,oM 96 9,oM 97 0,oN (.mkbf 98 224 [97]),oX 99 222 [95,96,98],oT 4 99] [4] 0 .ret) (sR [oE 101 46 9,oM 100 101] [0,3,8,9,10,46,100] 1 (.cond 100 (sR [oM 103 0,oM 104 8,oM 105 9,oX 106 225 [103,104,105,(.c (I 0))],oM 102 106,oG 107 102 0,oG 108 102 1,oT 13 107,oM 14 108] [13] 0 (sR [oM 109 13,oT 4 109] [4] 0 .ret)) (sR [oE 111 46 10,oM 110 111] [0,3,8,9,10,46,110] 1 (.cond 110 (sR [oM 112 0,oM 113 8,oM 114 9,oX 115 221 [112,113,114],oT 4 115] [4] 0 .ret) (sR [oE 117 46 11,oM 116 117] [0,3,8,9,10,46,116] 1 (.cond 116 (sR [oM 118 0,oM 119 8,oM 120 9,oX 121 226 [118,119,120],oT 4 121] [4] 0 .ret) (sR [oE 123 46 12,oM 122 123] [0,3,8,9,10,46,122] 1
 (.cond 122 (sR [oM 125 0,oM 126 8,oM 127 9,oX 128 227 [125,126,127],oM 124 128,oG 129 124 0,oG 130 124 1,oT 15 129,oT 16 130] [15] 0 (sR [oM 131 15,oT 4 131] [4] 0 .ret)) (sR [oE 133 46 13,oM 132 133] [0,3,8,9,10,46,132] 1 (.cond 132 (sR [oM 135 0,oM 136 8,oM 137 9,oX 138 227 [135,136,137],oM 134 138,oG 139 134 0,oG 140 134 1,oT 17 139,oT 18 140] [18] 0 (sR [oM 141 18,oT 4 141] [4] 0 .ret)) (sR [oE 143 46 14,oM 142 143] [0,3,8,9,10,46,142] 1 (.cond 142 (sR [oM 144 0,oM 145 8,oM 146 9,oX 147 229 [144,145,146,(.f 228)],oT 4 147] [4] 0 .ret) (sR [oE 149 46 15,oM 148 149] [0,3,8,9,10,46,148] 1 (.cond 148 (sR [oM 150 0,oM 151 8,oM 152 9,oX 153 229 [150,151,152,(.f 230)],oT 4 153] [4] 0 .ret) (sR [oE 155 46 16,oM 154 155] [0,3,8,9,10,46,154] 1 (.cond 154 (sR [oK 19 1] [0,8,9,19] 0 (.seq (sR [oM 156 8,oD 157 156,oK 158 0] [0,8,9,19,157,158] 0 (.cut q3o)) (.cut q3p)))
 (sR [oE 182 46 17,oM 181 182] [0,3,8,9,10,46,181] 1 (.cond 181 (sR [oM 183 0,oM 184 8,oM 185 9,oX 186 232 [183,184,185],oN (.buildSl 187 1 [186]),oT 4 187] [4] 0 .ret) (sR [oE 189 46 18,oM 188 189] [0,3,8,9,10,46,188] 1 (.cond 188 (sR [oM 190 0,oM 191 8,oY 192 233 [191],oM 193 9,oY 194 233 [193],oX 195 232 [190,192,194],oN (.buildSl 196 1 [195]),oT 4 196] [4] 0 .ret) (sR [oE 198 46 19,oM 197 198] [0,3,8,9,10,46,197] 1 (.cond 197 (sR [oM 199 0,oM 200 8,oN (.iaddr 201 1 none 200 (.c (I 0))),oL 202 201,oM 203 9,oM 204 10,oX 205 234 [199,202,203,204],oT 4 205] [4] 0 .ret) (sR [oE 207 46 20,oM 206 207] [3,8,9,46,206] 1 (.cond 206 (sR [oM 208 9,oM 209 8,oN (.buildSl 210 1 [208,209]),oY 211 107 [210],oT 4 211] [4] 0 .ret) (sR [oE 213 46 21,oM 212 213] [3,8,46,212] 1
 (.cond 212 (sR [oM 214 8,oF 215 3 5,oL 216 215,oF 217 3 5,oL 218 217,oF 219 3 1,oL 220 219,oN (.bin 221 .add 218 220),oN (.slice 222 1 214 (some 216) (some 221)),oT 4 222] [4] 0 .ret) (sR [oE 224 46 22,oM 223 224] [3,8,223] 1 (.cond 223 (sR [oM 225 8,oF 226 3 1,oL 227 226,oY 228 235 [225,227,(.c (I 0))],oT 4 228] [4] 0 .ret) .skip)))))))))))))))))))))))))))))))))))))))))) (.cut qx)))
def qbi:ICode:=(sR [oB 3 1,oN (.mv 4 (.c (.sl true 1 [])))] [0,3] 1 (.seq (.region [oN (.alloc 5 false (.agg [.sl true 1 [],.sl true 1 [],.sl true 1 []]))] false) (.seq (sR [oN (.load 21 true 6 3),oY 22 81 [21],oD 23 22,oK 24 0] [0,3,5,22,23,24] 2 (.cut q5u)) (.cut q6))))
def q5w:IFunc:={np:=2,res:=[.t 4],own:=false,trunc:=false,body:=qbi }
def qbj:ICode:=(sR [oN (.mv 2 (.c (.sl true 1 [])))] [0] 0 (sR [oM 3 0,oM 4 0,oX 5 222 [3,4,(.f 236)],oT 2 5] [2] 0 .ret))
def q5x:IFunc:={np:=1,res:=[.t 2],own:=false,trunc:=true,body:=qbj }
def qbk:ICode:=(sR [oN (.mv 2 (.c (.sl true 1 [])))] [0] 0 (sR [oM 3 0,oN (.mksl 4 false 1 8 (I 0) 3),oT 2 4] [2] 0 .ret))
def q5y:IFunc:={np:=1,res:=[.t 2],own:=true,trunc:=true,body:=qbk }
def qbl:ICode:=(sR [oN (.mv 6 (.c (.sl true 1 [])))] [0,1,2] 0 (sR [oM 10 0,oM 11 1,oM 12 2,oY 13 219 [12],oX 14 225 [10,11,13,(.c (I 1))],oM 9 14,oG 15 9 0,oG 16 9 1,oT 7 15,oM 8 16] [7] 0 (sR [oM 17 7,oT 6 17] [6] 0 .ret)))
def q5z:IFunc:={np:=3,res:=[.t 6],own:=false,trunc:=false,body:=qbl }
def qbm:ICode:=(.post (.seq (.region [oW 12 11 10] false) (.seq (.cond 12 .skip (.exit 0)) (.seq (.block 1 (sR [oM 13 11,oM 8 13] [0,1,2,7,8,10,11] 0 (pQ [oT 14 7,oM 15 2,oM 16 0,oM 17 8,oA 18 16 17,oL 19 18,oM 20 1,oM 21 8,oA 22 20 21,oL 23 22,oN (.callv (some 24) false 15 [19,23]),oN (.buildSl 25 1 [24]),oN (.append 26 1 8 14 25),oT 7 26] [0,1,2,7,10,11] 0))) (pR [oP 27 11 1,oM 11 27] [0,1,2,7,10,11] 0)))) [0,1,2,7,10,11] 0)
def q60:ICode:=(.post (.block 0 (.loop qbm)) [7] 0)
def q3q:ICode:=(sR [oM 28 7,oT 6 28] [6] 0 .ret)
def qbn:ICode:=(sR [oN (.mv 6 (.c (.sl true 1 [])))] [0,1,2] 0 (.seq (.region [oN (.mv 7 (.c (.sl true 1 [])))] false) (.seq (sR [oM 9 0,oD 10 9,oK 11 0] [0,1,2,7,10,11] 0 (.cut q60)) (.cut q3q))))
def q61:IFunc:={np:=3,res:=[.t 6],own:=false,trunc:=false,body:=qbn }
def qbo:ICode:=(sR [oK 6 0] [0,1,2] 0 (sQ [oM 7 0,oC 8 7,oF 9 8 0,oL 10 9,oM 11 1,oY 12 231 [11],oM 13 2,oY 14 231 [13],oX 15 49 [10,12,14],oY 16 231 [15],oM 6 16] [6] 0 .ret))
def q62:IFunc:={np:=3,res:=[.t 6],own:=false,trunc:=false,body:=qbo }
def qbp:ICode:=(sR [oK 6 0] [0,1,2] 0 (sQ [oM 7 0,oM 8 0,oC 9 8,oF 10 9 0,oL 11 10,oM 12 1,oM 13 2,oY 14 231 [13],oN (.callP (some 15) 49 [11,12,14] [0]),oM 16 0,oC 17 16,oF 18 17 0,oN (.loadB 19 false 1 18 0),oM 20 1,oY 21 231 [20],oM 22 2,oX 23 49 [19,21,22],oX 24 223 [7,15,23],oM 6 24] [6] 0 .ret))
def q63:IFunc:={np:=3,res:=[.t 6],own:=false,trunc:=false,body:=qbp }
def qbq:ICode:=(.post (.seq (.region [oW 16 15 14] false) (.seq (.cond 16 .skip (.exit 0)) (.seq (.block 1 (sR [oM 17 15,oM 11 17] [0,1,2,3,10,11,14,15] 0 (sQ [oM 18 0,oM 19 1,oM 20 11,oA 21 19 20,oL 22 21,oM 23 2,oM 24 11,oA 25 23 24,oL 26 25,oX 27 224 [18,22,26],oM 12 27] [0,1,2,3,10,11,12,14,15] 0 (sR [oT 28 10,oM 29 0,oM 30 12,oM 31 3,oX 32 224 [29,30,31],oN (.buildSl 33 1 [32]),oN (.append 34 1 8 28 33),oT 10 34] [0,1,2,3,10,11,12,14,15] 0 (pQ [oM 35 0,oM 36 0,oC 37 36,oF 38 37 0,oL 39 38,oM 40 1,oM 41 11,oA 42 40 41,oL 43 42,oM 44 2,oM 45 11,oA 46 44 45,oL 47 46,oN (.callP (some 48) 49 [39,43,47] [0]),oM 49 0,oC 50 49,oF 51 50 0,oN (.loadB 52 false 1 51 0),oM 53 12,oM 54 3,oX 55 49 [52,53,54],oX 56 223 [35,48,55],oM 3 56] [0,1,2,3,10,14,15] 0))))) (pR [oP 57 15 1,oM 15 57] [0,1,2,3,10,14,15] 0)))) [0,1,2,3,10,14,15] 0)
def q64:ICode:=(.post (.block 0 (.loop qbq)) [3,10] 0)
def q3r:ICode:=(sR [oM 58 10,oM 59 3,oT 8 58,oM 9 59] [8,9] 0 .ret)
def qbr:ICode:=(sR [oN (.mv 8 (.c (.sl true 1 []))),oK 9 0] [0,1,2,3] 0 (.seq (.region [oN (.mv 10 (.c (.sl true 1 [])))] false) (.seq (sR [oM 13 1,oD 14 13,oK 15 0] [0,1,2,3,10,14,15] 0 (.cut q64)) (.cut q3r))))
def q65:IFunc:={np:=4,res:=[.t 8,.t 9],own:=false,trunc:=false,body:=qbr }
def qbs:ICode:=(.post (.seq (.region [oW 17 16 15] false) (.seq (.cond 17 .skip (.exit 0)) (.seq (.block 1 (sR [oM 18 16,oA 19 14 16,oL 20 19,oM 8 18,oM 9 20] [0,1,7,8,9,14,15,16] 0 (sQ [oM 21 8,oY 22 220 [21],oM 23 1,oM 24 1,oD 25 24,oM 26 8,oN (.bin 27 .sub 25 26),oN (.slice 28 1 23 none (some 27)),oN (.append 29 1 8 22 28),oT 10 29] [0,1,7,9,10,14,15,16] 0 (pR [oM 31 0,oM 32 7,oM 33 0,oM 34 9,oM 35 10,oM 36 1,oD 37 36,oY 38 220 [37],oX 39 234 [33,34,35,38],oX 40 225 [31,32,39,(.c (I 0))],oM 30 40,oG 41 30 0,oG 42 30 1,oT 7 41] [0,1,7,14,15,16] 0)))) (pR [oP 43 16 1,oM 16 43] [0,1,7,14,15,16] 0)))) [0,1,7,14,15,16] 0)
def q66:ICode:=(.post (.block 0 (.loop qbs)) [7] 0)
def q3s:ICode:=(sR [oM 44 7,oT 6 44] [6] 0 .ret)
def qbt:ICode:=(sR [oN (.mv 6 (.c (.sl true 1 [])))] [0,1,2] 0 (sR [oM 11 1,oD 12 11,oY 13 220 [12],oT 7 13] [0,1,2,7] 0 (.seq (sR [oM 14 2,oD 15 14,oK 16 0] [0,1,7,14,15,16] 0 (.cut q66)) (.cut q3s))))
def q67:IFunc:={np:=3,res:=[.t 6],own:=false,trunc:=false,body:=qbt }
def qbu:ICode:=(.post (.seq (sR [oM 31 12,oN (.bin 32 .geq 31 (.c (I 0)))] [0,1,2,8,9,10,11,12,32] 0 (.cond 32 .skip (.exit 0))) (.seq (.block 1 (sQ [oM 35 1,oM 36 12,oA 37 35 36,oL 38 37,oN (.buildSl 39 1 [38]),oM 40 9,oM 41 8,oN (.slice 42 1 40 none (some 41)),oN (.append 43 1 8 39 42),oT 9 43] [0,1,2,8,9,10,11,12] 0 (sR [oM 44 0,oM 45 9,oM 46 10,oX 47 232 [44,45,46],oY 48 231 [47],oM 13 48] [0,1,2,8,9,10,11,12,13] 0 (sR [oM 49 0,oM 50 13,oM 51 0,oM 52 9,oM 53 10,oX 54 221 [51,52,53],oM 55 9,oX 56 234 [49,50,54,55],oT 9 56] [0,1,2,8,9,10,11,12,13] 0 (pR [oM 57 11,oM 58 12,oM 59 13,oA 60 57 58,oN (.store false 1 60 59)] [0,1,2,8,9,10,11,12] 0))))) (pR [oM 33 12,oS 34 33 1,oM 12 34] [0,1,2,8,9,10,11,12] 0))) [0,1,2,8,9,10,11,12] 0)
def q68:ICode:=(.post (.block 0 (.loop qbu)) [0,1,2,8,9,11] 0)
def qbv:ICode:=(.post (.seq (.region [oW 64 63 62] false) (.seq (.cond 64 .skip (.exit 2)) (.seq (.block 3 (sR [oA 65 61 63,oL 66 65,oM 16 66] [0,1,8,9,11,14,16,61,62,63] 0 (pQ [oM 67 0,oC 68 67,oF 69 68 0,oL 70 69,oM 71 14,oM 72 16,oY 73 231 [72],oX 74 49 [70,71,73],oM 14 74] [0,1,8,9,11,14,61,62,63] 0))) (pR [oP 75 63 1,oM 63 75] [0,1,8,9,11,14,61,62,63] 0)))) [0,1,8,9,11,14,61,62,63] 0)
def q69:ICode:=(.post (.block 2 (.loop qbv)) [0,1,8,9,11,14] 0)
def q3t:ICode:=(sR [oM 76 8,oY 77 220 [76],oY 78 219 [77],oT 17 78] [0,1,8,9,11,14,17] 0 (sQ [oM 79 0,oM 80 14,oM 81 17,oM 82 11,oX 83 234 [79,80,81,82],oM 84 0,oM 85 14,oM 86 1,oM 87 9,oM 88 8,oN (.slice 89 1 87 none (some 88)),oX 90 234 [84,85,86,89],oT 6 83,oT 7 90] [6,7] 0 .ret))
def q3u:ICode:=(.seq (.region [oK 14 1] false) (.seq (sR [oM 61 2,oD 62 61,oK 63 0] [0,1,8,9,11,14,61,62,63] 0 (.cut q69)) (.cut q3t)))
def qbw:ICode:=(sR [oN (.mv 6 (.c (.sl true 1 []))),oN (.mv 7 (.c (.sl true 1 [])))] [0,1,2] 0 (sR [oM 18 1,oD 19 18,oM 8 19] [0,1,2,8] 0 (sR [oM 20 8,oP 21 20 1,oY 22 220 [21],oT 9 22] [0,1,2,8,9] 0 (sR [oM 23 2,oY 24 83 [23],oN (.buildSl 25 1 [(.c (I 0))]),oN (.append 26 1 8 24 25),oT 10 26] [0,1,2,8,9,10] 0 (sR [oM 27 8,oX 28 392 [27],oT 11 28] [0,1,2,8,9,10,11] 0 (.seq (sR [oM 29 8,oS 30 29 1,oM 12 30] [0,1,2,8,9,10,11,12] 0 (.cut q68)) (.cut q3u)))))))
def q6a:IFunc:={np:=3,res:=[.t 6,.t 7],own:=false,trunc:=false,body:=qbw }
def qbx:ICode:=(sR [oN (.mv 4 (.c (.sl true 1 [])))] [0,1] 0 (sQ [oM 5 1,oY 6 220 [5],oM 7 0,oM 8 0,oD 9 8,oM 10 1,oN (.bin 11 .sub 9 10),oN (.slice 12 1 7 none (some 11)),oN (.append 13 1 8 6 12),oT 4 13] [4] 0 .ret))
def q6b:IFunc:={np:=2,res:=[.t 4],own:=false,trunc:=true,body:=qbx }
def q1s:ICode:=(pR [oM 32 0,oM 33 10,oM 34 11,oM 35 1,oX 36 234 [32,33,34,35],oT 1 36] [0,1,3,12,13,14] 0)
def q1t:ICode:=(pR [oP 37 14 1,oM 14 37] [0,1,3,12,13,14] 0)
def qby:ICode:=(.post (.seq (.region [oW 15 14 13] false) (.seq (.cond 15 .skip (.exit 0)) (.seq (.block 1 (sR [oM 16 14,oA 17 12 14,oL 18 17,oM 9 16,oM 10 18] [0,1,3,9,10,12,13,14] 0 (sR [oM 19 1,oD 20 19,oY 21 220 [20],oT 11 21] [0,1,3,9,10,11,12,13,14] 0 (.seq (sR [oM 22 9,oN (.bin 23 .shl (.c (I 1)) 22),oM 24 1,oD 25 24,oW 26 23 25] [0,1,3,9,10,11,12,13,14,26] 0 (.cond 26 (.post (pR [oM 27 3,oM 28 1,oM 29 9,oN (.bin 30 .shl (.c (I 1)) 29),oN (.callv (some 31) true 27 [28,30]),oT 11 31] [0,1,3,10,11,12,13,14] 0) [0,1,3,10,11,12,13,14] 0) (.post .skip [0,1,3,10,11,12,13,14] 0))) (.cut q1s))))) (.cut q1t)))) [0,1,3,12,13,14] 0)
def q6c:ICode:=(.post (.block 0 (.loop qby)) [1] 0)
def q3v:ICode:=(sR [oM 38 1,oT 8 38] [8] 0 .ret)
def qbz:ICode:=(sR [oN (.mv 8 (.c (.sl true 1 [])))] [0,1,2,3] 0 (.seq (sR [oM 12 2,oD 13 12,oK 14 0] [0,1,3,12,13,14] 0 (.cut q6c)) (.cut q3v)))
def q6d:IFunc:={np:=4,res:=[.t 8],own:=false,trunc:=false,body:=qbz }
def qc0:ICode:=(sR [oN (.mv 4 (.c (.sl true 1 [])))] [0,1] 0 (sR [oM 5 0,oM 6 1,oN (.slice 7 1 5 (some 6) none),oY 8 83 [7],oM 9 1,oY 10 220 [9],oN (.append 11 1 8 8 10),oT 4 11] [4] 0 .ret))
def q6e:IFunc:={np:=2,res:=[.t 4],own:=false,trunc:=true,body:=qc0 }
def qc1:ICode:=(sR [oK 2 0] [0] 0 (sR [oM 3 0,oN (.bin 4 .xor 3 (.c (I 1))),oM 2 4] [2] 0 .ret))
def q6f:IFunc:={np:=1,res:=[.t 2],own:=false,trunc:=true,body:=qc1 }
def qc2:ICode:=(sR [oK 6 0] [0,1,2] 0 (sR [oM 10 0,oM 11 1,oM 12 2,oY 13 219 [12],oX 14 225 [10,11,13,(.c (I 1))],oM 9 14,oG 15 9 0,oG 16 9 1,oT 7 15,oM 8 16] [8] 0 (sR [oM 17 8,oY 18 231 [17],oM 6 18] [6] 0 .ret)))
def q6g:IFunc:={np:=3,res:=[.t 6],own:=false,trunc:=false,body:=qc2 }
def qc3:ICode:=(sR [oN (.mv 2 (.c (.sl true 1 [])))] [0] 0 (sR [oM 3 0,oX 4 121 [3],oT 0 4] [0] 0 (sR [oM 5 0,oM 6 0,oD 7 6,oS 8 7 1,oM 9 0,oM 10 0,oD 11 10,oS 12 11 1,oA 13 9 12,oN (.loadK 14 13),oY 15 231 [14],oA 16 5 8,oN (.storeK 16 15)] [0] 0 (sR [oM 17 0,oT 2 17] [2] 0 .ret))))
def q6h:IFunc:={np:=1,res:=[.t 2],own:=false,trunc:=true,body:=qc3 }
def qc4:ICode:=(sR [oN (.box 4 true false 0),oN (.box 5 true false 1),oN (.mv 8 (.c (.sl true 1 [])))] [2,3,4,5] 0 (sR [oM 9 2,oM 10 3,oN (.mkfn 11 237 [4,5]),oX 12 222 [9,10,11],oT 8 12] [8] 0 .ret))
def q6i:IFunc:={np:=4,res:=[.t 8],own:=false,trunc:=false,body:=qc4 }
def qc5:ICode:=(.post (.seq (sR [oM 9 0,oD 10 9,oM 11 1,oW 12 10 11] [0,1,2,12] 0 (.cond 12 .skip (.exit 0))) (.block 1 (pR [oT 13 0,oM 14 2,oN (.buildSl 15 1 [14]),oN (.append 16 1 8 13 15),oT 0 16] [0,1,2] 0))) [0,1,2] 0)
def q6j:ICode:=(.post (.block 0 (.loop qc5)) [0] 0)
def q3w:ICode:=(sR [oM 17 0,oT 6 17] [6] 0 .ret)
def qc6:ICode:=(sR [oN (.mv 6 (.c (.sl true 1 [])))] [0,1,2] 0 (sR [oM 7 0,oY 8 83 [7],oT 0 8] [0,1,2] 0 (.seq (.cut q6j) (.cut q3w))))
def q6k:IFunc:={np:=3,res:=[.t 6],own:=false,trunc:=true,body:=qc6 }
def qc7:ICode:=(sR [oK 4 0] [0] 0 (sR [oM 5 0,oY 6 231 [5],oM 4 6] [4] 0 .ret))
def q6l:IFunc:={np:=2,res:=[.t 4],own:=false,trunc:=true,body:=qc7 }
def qc8:ICode:=(sR [oK 6 0] [0,1,2,3] 0 (sR [oL 7 2,oL 8 3,oM 9 0,oM 10 1,oX 11 238 [7,8,9,10],oM 6 11] [6] 0 .ret))
def q6m:IFunc:={np:=4,res:=[.t 6],own:=false,trunc:=false,body:=qc8 }
def qc9:ICode:=(sR [oK 8 0] [0,1,2,3] 0 (sQ [oM 9 0,oM 10 0,oC 11 10,oF 12 11 0,oL 13 12,oM 14 1,oM 15 2,oN (.callP (some 16) 49 [13,14,15] [0]),oM 17 0,oC 18 17,oF 19 18 0,oN (.loadB 20 false 1 19 0),oM 21 1,oY 22 231 [21],oM 23 3,oX 24 49 [20,22,23],oX 25 223 [9,16,24],oM 8 25] [8] 0 .ret))
def q6n:IFunc:={np:=4,res:=[.t 8],own:=false,trunc:=false,body:=qc9 }
def qca:ICode:=(sR [oN (.mv 2 (.c (.sl true 1 [])))] [0] 0 (sR [oM 3 0,oN (.mksl 4 true 1 8 (I 0) 3),oT 2 4] [2] 0 .ret))
def q6o:IFunc:={np:=1,res:=[.t 2],own:=true,trunc:=false,body:=qca }
def q18:ICode:=(pR [oP 79 19 1,oM 19 79] [1,2,3,7,8,17,18,19] 1)
def qcb:ICode:=(.post (.seq (.region [oW 20 19 18] false) (.seq (.cond 20 .skip (.exit 0)) (.seq (.block 1 (sR [oM 21 19,oN (.iaddr 22 6 none 17 19),oN (.load 23 true 6 22),oN (.alloc 10 false (.agg [I 0,I 0,I 0,I 0,I 0,I 0])),oM 9 21,oN (.store false 6 10 23)] [1,2,3,7,8,9,10,17,18,19] 2 (sR [oF 24 10 0,oL 25 24] [1,2,3,7,8,9,10,17,18,19,25] 2 (.block 2 (sR [oE 53 25 1,oM 52 53] [1,2,3,7,8,9,10,17,18,19,25,52] 2 (.cond 52 (.post (pR [oL 54 7,oM 55 9,oF 56 10 5,oL 57 56,oA 58 54 55,oN (.store false 1 58 57)] [1,2,3,7,8,17,18,19] 1) [1,2,3,7,8,17,18,19] 1) (.post (sR [oE 60 25 3,oM 59 60] [1,2,3,7,8,9,10,17,18,19,25,59] 2 (.cond 59 (.post (pQ [oL 61 7,oM 62 9,oM 63 1,oN (.iaddr 64 1 none 63 (.c (I 0))),oL 65 64,oM 66 1,oN (.slice 67 1 66 (some (.c (I 1))) none),oA 68 61 62,oN (.store false 1 68 65),oT 1 67] [1,2,3,7,8,17,18,19] 1) [1,2,3,7,8,17,18,19] 1)
 (.post (sR [oE 70 25 2,oM 69 70] [1,2,3,7,8,9,10,17,18,19,69] 2 (.cond 69 (.post (pQ [oL 71 7,oM 72 9,oM 73 2,oN (.iaddr 74 1 none 73 (.c (I 0))),oL 75 74,oM 76 2,oN (.slice 77 1 76 (some (.c (I 1))) none),oA 78 71 72,oN (.store false 1 78 75),oT 2 77] [1,2,3,7,8,17,18,19] 1) [1,2,3,7,8,17,18,19] 1) (.post (pQ [oL 26 7,oM 27 9,oF 28 10 0,oL 29 28,oF 30 10 1,oL 31 30,oM 32 8,oF 33 10 2,oL 34 33,oN (.callv (some 35) true 32 [34]),oM 36 8,oF 37 10 3,oL 38 37,oN (.callv (some 39) true 36 [38]),oM 40 8,oF 41 10 4,oL 42 41,oN (.callv (some 43) true 40 [42]),oF 44 10 5,oL 45 44,oF 46 3 0,oL 47 46,oN (.load 48 true 6 10),oY 49 104 [47,48],oY 50 66 [29,31,35,39,43,45,49],oA 51 26 27,oN (.store false 1 51 50)] [1,2,3,7,8,17,18,19] 1) [1,2,3,7,8,17,18,19] 1))) [1,2,3,7,8,17,18,19] 1))) [1,2,3,7,8,17,18,19] 1))))))) (.cut q18)))) [1,2,3,7,8,17,18,19] 1)
def q3x:ICode:=(.post (.block 0 (.loop qcb)) [7] 0)
def q3y:ICode:=(sR [oL 80 7,oT 6 80] [6] 0 .ret)
def qcc:ICode:=(sR [oB 3 0,oN (.mv 6 (.c (.sl true 1 [])))] [1,2,3] 1 (sR [oF 11 3 0,oL 12 11,oD 13 12,oN (.mksl 14 true 1 8 (I 0) 13),oN (.alloc 7 true (.sl true 1 [])),oN (.store true 1 7 14)] [1,2,3,7] 1 (sR [oN (.mkfn 15 143 [7]),oM 8 15] [1,2,3,7,8] 1 (.seq (sR [oF 16 3 0,oL 17 16,oD 18 17,oK 19 0] [1,2,3,7,8,17,18,19] 1 (.cut q3x)) (.cut q3y)))))
def q6p:IFunc:={np:=3,res:=[.t 6],own:=false,trunc:=true,body:=qcc }
def qcd:ICode:=(sR [oK 3 0] [0,1] 0 (sR [oL 4 1,oM 5 0,oA 6 4 5,oL 7 6,oM 3 7] [3] 0 .ret))
def q6q:IFunc:={np:=2,res:=[.t 3],own:=false,trunc:=true,body:=qcd }
def qht:ICode:=(.post (.seq (.region [oW 23 22 21] false) (.seq (.cond 23 .skip (.exit 0)) (.seq (.block 1 (sR [oM 24 22,oN (.iaddr 25 2 none 20 22),oN (.load 26 true 2 25),oN (.alloc 5 false (.agg [I 0,I 0])),oM 4 24,oN (.store false 2 5 26)] [1,3,4,5,20,21,22] 2 (.seq (sR [oN (.iaddr 27 1 (some 2) 5 (.c (I 0))),oL 28 27,oN (.iaddr 29 1 (some 2) 5 (.c (I 1))),oL 30 29,oN (.bin 31 .geq 28 30),oM 32 31,gN (.iaddr 33 1 (some 2) 5 (.c (I 0))) 32,gL 34 33 32,gN (.bin 35 .lss 34 (.c (I 2))) 32,oN (.pick 36 32 (.c (.bool true)) 35),oM 37 36,gN (.iaddr 38 1 (some 2) 5 (.c (I 1))) 37,gL 39 38 37,gN (.bin 40 .quo 39 (.c (I 2))) 37,gF 41 1 0 37,gL 42 41 37,gN (.bin 43 .add (.c (I 1)) 42) 37,gM 44 4 37,gN (.bin 45 .add 43 44) 37,gN (.bin 46 .geq 40 45) 37,oN (.pick 47 37 (.c (.bool true)) 46),oM 48 47,gN (.iaddr 49 1 (some 2) 5 (.c (I 0))) 48,gL 50 49 48,gN (.bin 51 .quo 50 (.c (I 2))) 48,
 gN (.iaddr 52 1 (some 2) 5 (.c (I 1))) 48,gL 53 52 48,gN (.bin 54 .quo 53 (.c (I 2))) 48,gN (.bin 55 .eql 51 54) 48,oN (.pick 56 48 (.c (.bool true)) 55)] [1,3,5,20,21,22,56] 2 (.cond 56 (sR [oK 2 4] [2] 0 .ret) .skip)) (pR [oM 57 3,oN (.load 58 true 2 5),oN (.mupd 2 57 58 (.c (.bool true)))] [1,3,20,21,22] 1)))) (pR [oP 59 22 1,oM 22 59] [1,3,20,21,22] 1)))) [1,3,20,21,22] 1)
def qhu:ICode:=(.post (.block 0 (.loop qht)) [1,3] 1)
def qhv:ICode:=(.seq (sR [oM 60 3,oN (.len 61 2 60),oF 62 1 1,oL 63 62,oD 64 63,oW 65 61 64] [65] 0 (.cond 65 (sR [oK 2 6] [2] 0 .ret) .skip)) (sR [oK 2 0] [2] 0 .ret))
def qhw:ICode:=(sR [oB 1 0,oK 2 0] [1] 1 (.seq (sR [oF 6 1 0,oL 7 6,oN (.bin 8 .lss 7 (.c (I 0))),oM 9 8,gF 10 1 0 9,gL 11 10 9,gN (.bin 12 .gtr 11 (.c (I 1000))) 9,oN (.pick 13 9 (.c (.bool true)) 12)] [1,13] 1 (.cond 13 (sR [oK 2 3] [2] 0 .ret) .skip)) (.seq (sR [oF 14 1 1,oL 15 14,oD 16 15,oN (.bin 17 .gtr 16 (.c (I 1000000)))] [1,17] 1 (.cond 17 (sR [oK 2 2] [2] 0 .ret) .skip)) (sR [oN (.mkmap 18),oM 3 18] [1,3] 1 (.seq (sR [oF 19 1 1,oL 20 19,oD 21 20,oK 22 0] [1,3,20,21,22] 1 (.cut qhu)) (.cut qhv))))))
def qhx:IFunc:={np:=1,res:=[.t 2],own:=false,trunc:=true,body:=qhw }
def qhy:ICode:=(sR [oN (.box 2 true false 0),oN (.mv 4 (.c (.bool false)))] [1,2] 0 (sR [oM 5 1,oN (.mkfn 6 85 [2]),oY 7 86 [5,6],oN (.un 8 .not 7),oM 4 8] [4] 0 .ret))
def qhz:IFunc:={np:=2,res:=[.t 4],own:=false,trunc:=true,body:=qhy }
def qce:ICode:=(.post (.seq (.region [oW 19 18 17] false) (.seq (.cond 19 .skip (.exit 0)) (.seq (.block 1 (sR [oM 20 18,oN (.iaddr 21 2 none 16 18),oN (.load 22 true 2 21),oN (.alloc 5 false (.agg [I 0,I 0])),oM 4 20,oN (.store false 2 5 22)] [1,3,4,5,16,17,18] 2 (pQ [oM 23 3,oC 24 23,oF 25 24 2,oL 26 25,oN (.load 27 true 2 5),oF 28 1 0,oL 29 28,oN (.bin 30 .add (.c (I 1)) 29),oM 31 4,oN (.bin 32 .add 30 31),oN (.bin 33 .mul (.c (I 2)) 32),oN (.mupd 2 26 27 33)] [1,3,16,17,18] 1))) (pR [oP 34 18 1,oM 18 34] [1,3,16,17,18] 1)))) [1,3,16,17,18] 1)
def q6r:ICode:=(.post (.block 0 (.loop qce)) [3] 0)
def q6s:ICode:=(sR [oM 35 3,oM 2 35] [2] 0 .ret)
def qcf:ICode:=(sR [oB 1 0,oN (.mv 2 (.c (.nilp)))] [1] 1 (sQ [oF 6 1 0,oL 7 6,oF 8 1 1,oL 9 8,oN (.callF (some 10) 87 [9]),oN (.buildT 11 [I 0,.sl true 2 []] [(0,1,7),(1,1,10)]),oN (.mkmap 12),oN (.buildT 13 [I 0,.sl true 2 [],.nilm] [(0,2,11),(2,1,12)]),oN (.box 14 true true 13),oM 3 14] [1,3] 1 (.seq (sR [oF 15 1 1,oL 16 15,oD 17 16,oK 18 0] [1,3,16,17,18] 1 (.cut q6r)) (.cut q6s))))
def q6t:IFunc:={np:=1,res:=[.t 2],own:=false,trunc:=false,body:=qcf }
def q1u:ICode:=(.seq (.block 0 (sR [oM 17 1,oE 18 17 0,oM 19 18,gM 20 1 19,gN (.bin 21 .xor 20 (.c (I 1))) 19,gM 22 2 19,gN (.bin 23 .eql 21 22) 19,oN (.pick 24 19 (.c (.bool true)) 23),oM 16 24] [0,1,2,16] 0 (.cond 16 (sR [oK 6 0] [6] 0 .ret) (sR [oM 26 1,oE 27 26 1,oM 28 27,gM 29 1 28,gM 30 2 28,gN (.bin 31 .eql 29 30) 28,oN (.pick 32 28 (.c (.bool true)) 31),oM 25 32] [0,1,2,25] 0 (.cond 25 (sR [oM 33 2,oM 6 33] [6] 0 .ret) .skip))))) (sR [oM 34 1,oM 35 2,oN (.build 36 [I 0,I 0] [(0,1,34),(1,1,35)]),oN (.alloc 7 false (.agg [I 0,I 0])),oN (.store false 2 7 36)] [0,7] 1 (.seq (sQ [oM 38 0,oC 39 38,oF 40 39 2,oL 41 40,oN (.load 42 true 2 7),oN (.lookup 43 2 41 42 true (I 0)),oM 37 43,oG 44 37 0,oG 45 37 1,oM 8 44,oM 9 45] [0,7,8,9] 1 (sR [oM 46 9] [0,7,8,46] 1 (.cond 46 (sR [oM 47 8,oM 6 47] [6] 0 .ret) .skip)))
 (sR [oM 48 0,oC 49 48,oF 50 49 0,oN (.load 51 true 2 50),oY 52 88 [51],oN (.bin 53 .mul (.c (I 2)) 52),oM 10 53] [0,7,10] 1 (sQ [oM 54 0,oM 55 0,oC 56 55,oF 57 56 0,oF 58 57 1,oN (.loadT 59 58),oN (.load 60 true 2 7),oN (.buildSl 61 2 [60]),oN (.append 62 2 16 59 61),oC 63 54,oF 64 63 0,oF 65 64 1,oN (.store true 1 65 62)] [0,7,10] 1 (sQ [oM 66 0,oC 67 66,oF 68 67 2,oL 69 68,oN (.load 70 true 2 7),oM 71 10,oN (.mupd 2 69 70 71)] [10] 0 (sR [oM 72 10,oM 6 72] [6] 0 .ret)))))))
def qcg:ICode:=(sR [oK 6 0] [0,1,2] 0 (.seq (sR [oM 11 1,oM 12 2,oN (.bin 13 .gtr 11 12)] [0,1,2,13] 0 (.cond 13 (.post (pR [oM 14 2,oM 15 1,oM 1 14,oM 2 15] [0,1,2] 0) [0,1,2] 0) (.post .skip [0,1,2] 0))) (.cut q1u)))
def q1v:IFunc:={np:=3,res:=[.t 6],own:=false,trunc:=false,body:=qcg }
def qi0:ICode:=(sR [oN (.mv 3 (.c (.bool false)))] [0,1] 0 (sR [oM 4 0,oN (.bin 5 .lss 4 (.c (I 0))),oM 6 5,gM 7 0 6,gN (.load 8 true 2 1) 6,gN (.call (some 9) true 88 [8]) 6,gN (.bin 10 .mul (.c (I 2)) 9) 6,gN (.bin 11 .geq 7 10) 6,oN (.pick 12 6 (.c (.bool true)) 11),oM 3 12] [3] 0 .ret))
def qi1:IFunc:={np:=2,res:=[.t 3],own:=false,trunc:=true,body:=qi0 }
def qch:ICode:=(sR [oB 1 0,oK 2 0] [1] 1 (sR [oF 3 1 0,oL 4 3,oN (.bin 5 .add (.c (I 1)) 4),oF 6 1 1,oL 7 6,oD 8 7,oN (.bin 9 .add 5 8),oM 2 9] [2] 0 .ret))
def q6u:IFunc:={np:=1,res:=[.t 2],own:=false,trunc:=true,body:=qch }
def q1w:ICode:=(sR [oM 10 0,oM 11 1,oN (.bin 12 .rem 10 11),oM 4 12] [4] 0 .ret)
def qci:ICode:=(sR [oK 4 0] [0,1] 0 (.seq (sR [oM 5 0,oN (.bin 6 .lss 5 (.c (I 0)))] [0,1,6] 0 (.cond 6 (.post (pR [oM 7 0,oP 8 7 1,oN (.un 9 .neg 8),oM 0 9] [0,1] 0) [0,1] 0) (.post .skip [0,1] 0))) (.cut q1w)))
def q1x:IFunc:={np:=2,res:=[.t 4],own:=false,trunc:=true,body:=qci }
def qi2:ICode:=(.seq (.region [oN (.alloc 0 false (.agg [.sl true 6 [],.sl true 2 [],.sl true 2 [],.sl true 1 [],.sl true 1 []]))] false) (sR [oN (.build 1 [I 0,I 0,I 0,I 0,I 0,I 0] [(0,1,(.c (I 1))),(1,1,(.c (I 1)))]),oN (.build 2 [I 0,I 0,I 0,I 0,I 0,I 0] [(0,1,(.c (I 3))),(1,1,(.c (I 1)))]),oN (.build 3 [I 0,I 0,I 0,I 0,I 0,I 0] [(0,1,(.c (I 4))),(1,1,(.c (I 1))),(2,1,(.c (I 1)))]),oN (.buildSl 4 6 [1,2,3]),oN (.build 5 [I 0,I 0] [(0,1,(.c (I 1))),(1,1,(.c (I 0)))]),oN (.buildSl 6 2 [5]),oN (.build 7 [I 0,I 0] [(0,1,(.c (I 1))),(1,1,(.c (I 2)))]),oN (.buildSl 8 2 [7]),oN (.buildSl 9 1 [(.c (I 1))]),oN (.buildT 10 [.sl true 6 [],.sl true 2 [],.sl true 2 [],.sl true 1 [],.sl true 1 []] [(0,1,4),(1,1,6),(2,1,8),(3,1,9)]),oN (.store true 5 0 10)] [0] 1 .ret))
def qi3:IFunc:={np:=0,res:=[.cell 0 true 5],own:=false,trunc:=true,body:=qi2 }
def qi4:ICode:=(sR [oN (.mv 0 (.c (.bool false)))] [] 0 (sR [oY 4 75 [],oY 5 214 [4],oM 3 5,oG 6 3 0,oG 7 3 1,oN (.alloc 1 false (.agg [I 0,.sl true 2 [],I 0,I 0,.sl true 1 [],.sl true 1 [],.sl true 1 [],.sl true 1 []])),oN (.store true 8 1 6),oM 2 7] [1,2] 1 (sR [oM 8 2,oE 9 8 0,oM 10 9,gT (.load 11 true 8 1) 10,gT (.call (some 12) true 212 [11]) 10,gT (.bin 13 .eql 12 (.c (I 0))) 10,oN (.pick 14 10 13 (.c (.bool false))),oM 15 14,gT (.faddr 16 1 3) 15,gT (.load 17 false 1 16) 15,gT (.bin 18 .eql 17 (.c (I 1))) 15,oN (.pick 19 15 18 (.c (.bool false))),oM 20 19,gT (.faddr 21 1 5) 20,gT (.load 22 false 1 21) 20,gT (.len 23 0 22) 20,gT (.bin 24 .eql 23 (.c (I 1))) 20,oN (.pick 25 20 24 (.c (.bool false))),oM 26 25,gT (.faddr 27 1 5) 26,gT (.load 28 false 1 27) 26,gT (.iaddr 29 1 none 28 (.c (I 0))) 26,gT (.load 30 false 1 29) 26,gT (.bin 31 .eql 30 (.c (I 3))) 26,
 oN (.pick 32 26 31 (.c (.bool false))),oM 33 32,gT (.faddr 34 1 4) 33,gT (.load 35 false 1 34) 33,gT (.len 36 0 35) 33,gT (.bin 37 .eql 36 (.c (I 1))) 33,oN (.pick 38 33 37 (.c (.bool false))),oM 39 38,gT (.faddr 40 1 4) 39,gT (.load 41 false 1 40) 39,gT (.iaddr 42 1 none 41 (.c (I 0))) 39,gT (.load 43 false 1 42) 39,gT (.bin 44 .eql 43 (.c (I 0))) 39,oN (.pick 45 39 44 (.c (.bool false))),oM 0 45] [0] 0 .ret)))
def qi5:IFunc:={np:=0,res:=[.t 0],own:=false,trunc:=true,body:=qi4 }
def qcj:ICode:=(.post (.seq (sR [oM 150 16,oF 151 7 3,oL 152 151,oW 153 150 152] [3,7,12,13,14,15,16,153] 2 (.cond 153 .skip (.exit 0))) (.seq (.block 1 (sQ [oM 156 12,oF 157 7 5,oL 158 157,oM 159 16,oA 160 158 159,oL 161 160,oY 162 12 [156,161],oM 163 14,oM 164 16,oA 165 163 164,oL 166 165,oN (.eqb 167 true 162 166)] [3,7,12,13,14,15,16,167] 2 (.cond 167 (sR [oN (.mv 6 (.c (.bool false)))] [6] 0 .ret) .skip))) (pR [oM 154 16,oP 155 154 1,oM 16 155] [3,7,12,13,14,15,16] 2))) [3,7,12,13,14,15,16] 2)
def q6v:ICode:=(.post (.block 0 (.loop qcj)) [3,7,12,13,15] 2)
def qck:ICode:=(.post (.seq (sQ [oM 184 21,oF 185 3 0,oL 186 185,oM 187 18,oM 188 19,oA 189 187 188,oL 190 189,oN (.iaddr 191 6 none 186 190),oF 192 191 1,oL 193 192,oW 194 184 193] [3,7,12,13,15,17,18,19,20,21,194] 2 (.cond 194 .skip (.exit 4))) (.seq (.block 5 (.seq (sQ [oF 197 7 4,oL 198 197,oM 199 17,oA 200 198 199,oL 201 200,oN (.bin 202 .eql 201 (.c (I (-1)))),oM 203 20,oN (.eqb 204 true 202 203),oM 205 204,gM 206 20 205,gN (.un 207 .not 206) 205,gM 208 207 205,gT (.mv 209 12) 208,gT (.faddr 210 7 4) 208,gT (.load 211 false 1 210) 208,gT (.mv 212 17) 208,gT (.iaddr 213 1 none 211 212) 208,gT (.load 214 false 1 213) 208,gT (.call (some 215) true 12 [209,214]) 208,gT (.mv 216 15) 208,gT (.mv 217 17) 208,gT (.iaddr 218 1 none 216 217) 208,gT (.load 219 false 1 218) 208,gT (.eqb 220 true 215 219) 208,gN (.pick 221 208 220 (.c (.bool false))) 205,
 oN (.pick 222 205 (.c (.bool true)) 221)] [3,7,12,13,15,17,18,19,20,21,222] 2 (.cond 222 (sR [oN (.mv 6 (.c (.bool false)))] [6] 0 .ret) .skip)) (pR [oM 223 17,oP 224 223 1,oM 17 224] [3,7,12,13,15,17,18,19,20,21] 2))) (pR [oM 195 21,oP 196 195 1,oM 21 196] [3,7,12,13,15,17,18,19,20,21] 2))) [3,7,12,13,15,17,18,19,20,21] 2)
def q6w:ICode:=(.post (.block 4 (.loop qck)) [3,7,12,13,15,17,18,19] 2)
def q3z:ICode:=(pR [oM 174 19,oP 175 174 1,oM 19 175] [3,7,12,13,15,17,18,19] 2)
def qcl:ICode:=(.post (.seq (sR [oM 170 19,oM 171 18,oD 172 171,oW 173 170 172] [3,7,12,13,15,17,18,19,173] 2 (.cond 173 .skip (.exit 2))) (.seq (.block 3 (sQ [oF 176 3 1,oL 177 176,oM 178 18,oM 179 19,oA 180 178 179,oL 181 180,oY 182 137 [177,181],oN (.bin 183 .lss 182 (.c (I 0))),oM 20 183] [3,7,12,13,15,17,18,19,20] 2 (sR [oK 21 0] [3,7,12,13,15,17,18,19,20,21] 2 (.cut q6w)))) (.cut q3z))) [3,7,12,13,15,17,18,19] 2)
def q40:ICode:=(.post (.block 2 (.loop qcl)) [3,7,12,13] 2)
def qcm:ICode:=(.post (.seq (sR [oM 225 22,oF 226 3 3,oL 227 226,oD 228 227,oW 229 225 228] [3,7,12,13,22,229] 2 (.cond 229 .skip (.exit 6))) (.seq (.block 7 (sQ [oM 232 12,oF 233 7 6,oL 234 233,oM 235 22,oA 236 234 235,oL 237 236,oY 238 12 [232,237],oM 239 13,oF 240 3 3,oL 241 240,oM 242 22,oA 243 241 242,oL 244 243,oA 245 239 244,oL 246 245,oE 247 246 1,oN (.eqb 248 true 238 247)] [3,7,12,13,22,248] 2 (.cond 248 (sR [oN (.mv 6 (.c (.bool false)))] [6] 0 .ret) .skip))) (pR [oM 230 22,oP 231 230 1,oM 22 231] [3,7,12,13,22] 2))) [3,7,12,13,22] 2)
def q6x:ICode:=(.post (.block 6 (.loop qcm)) [3,7,12,13] 2)
def qcn:ICode:=(.post (.seq (sR [oM 249 23,oF 250 3 4,oL 251 250,oD 252 251,oW 253 249 252] [3,7,12,13,23,253] 2 (.cond 253 .skip (.exit 8))) (.seq (.block 9 (sQ [oM 256 12,oF 257 7 7,oL 258 257,oM 259 23,oA 260 258 259,oL 261 260,oY 262 12 [256,261],oM 263 13,oF 264 3 4,oL 265 264,oM 266 23,oA 267 265 266,oL 268 267,oA 269 263 268,oL 270 269,oE 271 270 1,oN (.eqb 272 true 262 271)] [3,7,12,13,23,272] 2 (.cond 272 (sR [oN (.mv 6 (.c (.bool false)))] [6] 0 .ret) .skip))) (pR [oM 254 23,oP 255 254 1,oM 23 255] [3,7,12,13,23] 2))) [3,7,12,13,23] 2)
def q6y:ICode:=(.post (.block 8 (.loop qcn)) [] 0)
def q41:ICode:=(.seq (.region [oN (.mv 6 (.c (.bool true)))] false) .ret)
def q42:ICode:=(.seq (sR [oK 23 0] [3,7,12,13,23] 2 (.cut q6y)) (.cut q41))
def q43:ICode:=(.seq (sR [oK 22 0] [3,7,12,13,22] 2 (.cut q6x)) (.cut q42))
def q44:ICode:=(.seq (.region [oK 17 0] false) (sR [oN (.load 168 true 5 3),oY 169 39 [168,(.c (I 3))],oT 18 169] [3,7,12,13,15,17,18] 2 (.seq (sR [oK 19 0] [3,7,12,13,15,17,18,19] 2 (.cut q40)) (.cut q43))))
def q45:ICode:=(sQ [oF 126 7 0,oN (.load 127 true 2 126),oN (.load 128 true 5 3),oM 129 11,oY 130 327 [128,(.c (I 2)),129],oN (.load 131 true 5 3),oM 132 10,oY 133 327 [131,(.c (I 3)),132],oN (.append 134 1 1 130 133),oY 135 11 [127,134],oT 12 135] [3,7,10,11,12] 2 (sR [oN (.load 136 true 5 3),oM 137 10,oM 138 11,oY 139 132 [136,137,138],oT 13 139] [3,7,10,12,13] 2 (sQ [oN (.load 140 true 5 3),oN (.load 141 true 5 3),oM 142 13,oY 143 133 [141,142],oY 144 327 [140,(.c (I 3)),143],oT 14 144] [3,7,10,12,13,14] 2 (sQ [oN (.load 145 true 5 3),oN (.load 146 true 5 3),oM 147 10,oY 148 125 [146,147],oY 149 327 [145,(.c (I 3)),148],oT 15 149] [3,7,12,13,14,15] 2 (.seq (sR [oK 16 0] [3,7,12,13,14,15,16] 2 (.cut q6v)) (.cut q44))))))
def q46:ICode:=(sQ [oN (.load 112 true 5 3),oM 113 1,oF 114 7 3,oL 115 114,oY 116 27 [115],oY 117 30 [113,116],oY 118 326 [112,(.c (I 3)),117],oN (.load 119 true 5 3),oM 120 2,oF 121 7 2,oL 122 121,oY 123 27 [122],oY 124 30 [120,123],oY 125 326 [119,(.c (I 2)),124],oT 10 118,oT 11 125] [3,7,10,11] 2 (.cut q45))
def q47:ICode:=(.seq (sQ [oY 69 211 [],oN (.un 70 .not 69),oM 71 70,gM 72 8 71,gN (.bin 73 .neq 72 (.c (I 0))) 71,oN (.pick 74 71 (.c (.bool true)) 73),oM 75 74,gN (.load 76 true 8 7) 75,gN (.call (some 77) true 213 [76]) 75,gN (.bin 78 .neq 77 (.c (I 0))) 75,oN (.pick 79 75 (.c (.bool true)) 78),oM 80 79,gF 81 7 2 80,gL 82 81 80,gN (.load 83 true 5 3) 80,gN (.call (some 84) true 73 [83,(.c (I 2))]) 80,gN (.bin 85 .neq 82 84) 80,oN (.pick 86 80 (.c (.bool true)) 85),oM 87 86,gF 88 7 3 87,gL 89 88 87,gN (.load 90 true 5 3) 87,gN (.call (some 91) true 73 [90,(.c (I 3))]) 87,gN (.bin 92 .neq 89 91) 87,oN (.pick 93 87 (.c (.bool true)) 92),oM 94 93,gF 95 7 6 94,gL 96 95 94,gN (.len 97 0 96) 94,gF 98 3 3 94,gL 99 98 94,gN (.len 100 0 99) 94,gN (.bin 101 .neq 97 100) 94,oN (.pick 102 94 (.c (.bool true)) 101),oM 103 102,gF 104 7 7 103,gL 105 104 103,gN (.len 106 0 105) 103,gF 107 3 4 103,
 gL 108 107 103,gN (.len 109 0 108) 103,gN (.bin 110 .neq 106 109) 103,oN (.pick 111 103 (.c (.bool true)) 110)] [1,2,3,7,111] 2 (.cond 111 (sR [oN (.mv 6 (.c (.bool false)))] [6] 0 .ret) .skip)) (.cut q46))
def qco:ICode:=(sR [oB 3 0,oN (.mv 6 (.c (.bool false)))] [1,2,3] 1 (sR [oN (.load 25 true 5 3),oY 26 214 [25],oM 24 26,oG 27 24 0,oG 28 24 1,oN (.alloc 7 false (.agg [I 0,.sl true 2 [],I 0,I 0,.sl true 1 [],.sl true 1 [],.sl true 1 [],.sl true 1 []])),oN (.store true 8 7 27),oM 8 28] [1,2,3,7,8] 2 (sR [oN (.load 29 true 5 3),oY 30 36 [29],oM 9 30] [1,2,3,7,8,9] 2 (.seq (sR [oM 31 9,oN (.bin 32 .neq 31 (.c (I 0)))] [1,2,3,7,8,9,32] 2 (.cond 32 (sR [oY 33 211 [],oM 34 33,gT (.mv 35 8) 34,gT (.mv 36 9) 34,gT (.bin 37 .eql 35 36) 34,oN (.pick 38 34 37 (.c (.bool false))),oM 39 38,gT (.faddr 40 7 0) 39,gT (.load 41 true 2 40) 39,gT (.build 42 [I 0,.sl true 2 []] []) 39,gT (.call (some 43) true 7 [41,42]) 39,oN (.pick 44 39 43 (.c (.bool false))),oM 45 44,gT (.faddr 46 7 5) 45,gT (.load 47 false 1 46) 45,gT (.len 48 0 47) 45,gT (.faddr 49 7 4) 45,gT (.load 50 false 1 49) 45,
 gT (.len 51 0 50) 45,gT (.bin 52 .add 48 51) 45,gT (.faddr 53 7 6) 45,gT (.load 54 false 1 53) 45,gT (.len 55 0 54) 45,gT (.bin 56 .add 52 55) 45,gT (.faddr 57 7 7) 45,gT (.load 58 false 1 57) 45,gT (.len 59 0 58) 45,gT (.bin 60 .add 56 59) 45,gT (.faddr 61 7 2) 45,gT (.load 62 false 1 61) 45,gT (.bin 63 .add 60 62) 45,gT (.faddr 64 7 3) 45,gT (.load 65 false 1 64) 45,gT (.bin 66 .add 63 65) 45,gT (.bin 67 .eql 66 (.c (I 0))) 45,oN (.pick 68 45 67 (.c (.bool false))),oM 6 68] [6] 0 .ret) .skip)) (.cut q47)))))
def q1y:IFunc:={np:=3,res:=[.t 6],own:=false,trunc:=true,body:=qco }
def qcp:ICode:=(sR [oN (.mv 4 (.c (.bool false)))] [0,1] 0 (sR [oM 5 0,oM 6 1,oY 7 111 [5,6],oN (.bin 8 .geq 7 (.c (I 0))),oM 4 8] [4] 0 .ret))
def q6z:IFunc:={np:=2,res:=[.t 4],own:=false,trunc:=true,body:=qcp }
def qcq:ICode:=(.post (.seq (.region [oW 12 11 10] false) (.seq (.cond 12 .skip (.exit 0)) (.seq (.block 1 (sR [oA 13 9 11,oL 14 13,oT 5 14] [0,3,5,9,10,11] 0 (sR [oM 15 3,oM 16 5,oD 17 16,oN (.bin 18 .add 15 17),oM 3 18] [0,3,9,10,11] 0 (sR [oM 19 3,oN (.bin 20 .lss 19 (.c (I 0)))] [0,3,9,10,11,20] 0 (.cond 20 .bad .skip))))) (pR [oP 22 11 1,oM 11 22] [0,3,9,10,11] 0)))) [0,3,9,10,11] 0)
def q70:ICode:=(.post (.block 0 (.loop qcq)) [0,3] 0)
def qcr:ICode:=(.post (.seq (.region [oW 28 27 26] false) (.seq (.cond 28 .skip (.exit 2)) (.seq (.block 3 (sR [oA 29 25 27,oL 30 29,oT 8 30] [6,8,25,26,27] 0 (pR [oT 31 6,oM 32 8,oN (.append 33 1 8 31 32),oT 6 33] [6,25,26,27] 0))) (pR [oP 34 27 1,oM 27 34] [6,25,26,27] 0)))) [6,25,26,27] 0)
def q71:ICode:=(.post (.block 2 (.loop qcr)) [6] 0)
def q72:ICode:=(sR [oM 35 6,oT 2 35] [2] 0 .ret)
def q73:ICode:=(sR [oM 23 3,oY 24 119 [(.c .nils),23],oT 6 24] [0,6] 0 (.seq (sR [oM 25 0,oD 26 25,oK 27 0] [6,25,26,27] 0 (.cut q71)) (.cut q72)))
def qcs:ICode:=(sR [oN (.mv 2 (.c (.sl true 1 [])))] [0] 0 (.seq (.region [oK 3 0] false) (.seq (sR [oM 9 0,oD 10 9,oK 11 0] [0,3,9,10,11] 0 (.cut q70)) (.cut q73))))
def q74:IFunc:={np:=1,res:=[.t 2],own:=true,trunc:=true,body:=qcs }
def qct:ICode:=(.post (.seq (.region [oW 9 8 7] false) (.seq (.cond 9 .skip (.exit 0)) (.seq (.block 1 (sR [oM 10 8,oM 5 10] [0,1,5,7,8] 0 (sR [oM 11 1,oM 12 0,oM 13 5,oA 14 12 13,oL 15 14,oN (.callv (some 16) true 11 [15])] [0,1,5,7,8,16] 0 (.cond 16 (sR [oM 17 5,oM 4 17] [4] 0 .ret) .skip)))) (pR [oP 18 8 1,oM 8 18] [0,1,7,8] 0)))) [0,1,7,8] 0)
def q75:ICode:=(.post (.block 0 (.loop qct)) [] 0)
def q76:ICode:=(.seq (.region [oN (.mv 4 (.c (I (-1))))] false) .ret)
def qcu:ICode:=(sR [oK 4 0] [0,1] 0 (.seq (sR [oM 6 0,oD 7 6,oK 8 0] [0,1,7,8] 0 (.cut q75)) (.cut q76)))
def q1z:IFunc:={np:=2,res:=[.t 4],own:=false,trunc:=true,body:=qcu }
def qi6:ICode:=(.post (.seq (.region [oW 9 8 7] false) (.seq (.cond 9 .skip (.exit 0)) (.seq (.block 1 (sR [oM 10 8,oM 5 10] [0,1,5,7,8] 0 (sR [oM 11 1,oM 12 0,oM 13 5,oA 14 12 13,oN (.loadK 15 14),oN (.callv (some 16) true 11 [15])] [0,1,5,7,8,16] 0 (.cond 16 (sR [oM 17 5,oM 4 17] [4] 0 .ret) .skip)))) (pR [oP 18 8 1,oM 8 18] [0,1,7,8] 0)))) [0,1,7,8] 0)
def qi7:ICode:=(.post (.block 0 (.loop qi6)) [] 0)
def qi8:ICode:=(.seq (.region [oN (.mv 4 (.c (I (-1))))] false) .ret)
def qi9:ICode:=(sR [oK 4 0] [0,1] 0 (.seq (sR [oM 6 0,oD 7 6,oK 8 0] [0,1,7,8] 0 (.cut qi7)) (.cut qi8)))
def qia:IFunc:={np:=2,res:=[.t 4],own:=false,trunc:=true,body:=qi9 }
def qib:ICode:=(pR [oM 20 6,oP 21 20 1,oM 6 21] [0,1,5,6] 0)
def qic:ICode:=(.post (.seq (sR [oM 16 6,oM 17 0,oD 18 17,oW 19 16 18] [0,1,5,6,19] 0 (.cond 19 .skip (.exit 0))) (.seq (.block 1 (sR [oM 22 0,oM 23 6,oA 24 22 23,oN (.loadK 25 24),oM 7 25] [0,1,5,6,7] 0 (sR [oM 26 1,oM 27 7,oN (.callv (some 28) true 26 [27]),oN (.un 29 .not 28)] [0,1,5,6,7,29] 0 (.cond 29 (.post (sR [oM 30 0,oM 31 5,oM 32 7,oA 33 30 31,oN (.storeK 33 32)] [0,1,5,6] 0 (pR [oM 34 5,oP 35 34 1,oM 5 35] [0,1,5,6] 0)) [0,1,5,6] 0) (.post .skip [0,1,5,6] 0))))) (.cut qib))) [0,1,5,6] 0)
def qid:ICode:=(.post (.block 0 (.loop qic)) [0,5] 0)
def qie:ICode:=(sR [oM 36 0,oM 37 5,oN (.slice 38 1 36 (some 37) none),oN (.clearK 38)] [0,5] 0 (sR [oM 39 0,oM 40 5,oN (.slice 41 1 39 none (some 40)),oT 4 41] [4] 0 .ret))
def qif:ICode:=(sR [oN (.mv 4 (.c (.sl true 1 [])))] [0,1] 0 (sR [oM 8 0,oM 9 1,oX 10 208 [8,9],oM 5 10] [0,1,5] 0 (.seq (sR [oM 11 5,oN (.bin 12 .eql 11 (.c (I (-1))))] [0,1,5,12] 0 (.cond 12 (sR [oM 13 0,oT 4 13] [4] 0 .ret) .skip)) (.seq (sR [oM 14 5,oP 15 14 1,oM 6 15] [0,1,5,6] 0 (.cut qid)) (.cut qie)))))
def qig:IFunc:={np:=2,res:=[.t 4],own:=false,trunc:=false,body:=qif }
def qih:ICode:=(.post (.seq (.region [oW 12 11 10] false) (.seq (.cond 12 .skip (.exit 0)) (.seq (.block 1 (sR [oA 13 9 11,oL 14 13,oT 5 14] [0,3,5,9,10,11] 0 (sR [oM 15 3,oM 16 5,oD 17 16,oN (.bin 18 .add 15 17),oM 3 18] [0,3,9,10,11] 0 (sR [oM 19 3,oN (.bin 20 .lss 19 (.c (I 0)))] [0,3,9,10,11,20] 0 (.cond 20 .bad .skip))))) (pR [oP 22 11 1,oM 11 22] [0,3,9,10,11] 0)))) [0,3,9,10,11] 0)
def qii:ICode:=(.post (.block 0 (.loop qih)) [0,3] 0)
def qij:ICode:=(.post (.seq (.region [oW 28 27 26] false) (.seq (.cond 28 .skip (.exit 2)) (.seq (.block 3 (sR [oA 29 25 27,oL 30 29,oT 8 30] [6,8,25,26,27] 0 (pR [oT 31 6,oM 32 8,oN (.appendE 33 8 31 32),oT 6 33] [6,25,26,27] 0))) (pR [oP 34 27 1,oM 27 34] [6,25,26,27] 0)))) [6,25,26,27] 0)
def qik:ICode:=(.post (.block 2 (.loop qij)) [6] 0)
def qil:ICode:=(sR [oM 35 6,oT 2 35] [2] 0 .ret)
def qim:ICode:=(sR [oM 23 3,oY 24 119 [(.c .nils),23],oT 6 24] [0,6] 0 (.seq (sR [oM 25 0,oD 26 25,oK 27 0] [6,25,26,27] 0 (.cut qik)) (.cut qil)))
def qin:ICode:=(sR [oN (.mv 2 (.c (.sl true 1 [])))] [0] 0 (.seq (.region [oK 3 0] false) (.seq (sR [oM 9 0,oD 10 9,oK 11 0] [0,3,9,10,11] 0 (.cut qii)) (.cut qim))))
def qio:IFunc:={np:=1,res:=[.t 2],own:=true,trunc:=true,body:=qin }
def qcv:ICode:=(.post (.seq (.region [oW 29 28 27] false) (.seq (.cond 29 .skip (.exit 0)) (.seq (.block 1 (sR [oM 30 28,oM 3 30] [1,3,27,28] 1 (sR [oF 31 1 0,oL 32 31,oM 33 3,oY 34 76 [32,33],oM 4 34] [1,4,27,28] 1 (sR [oM 35 4,oN (.bin 36 .neq 35 (.c (I 0)))] [1,4,27,28,36] 1 (.cond 36 (sR [oM 37 4,oM 2 37] [2] 0 .ret) .skip))))) (pR [oP 38 28 1,oM 28 38] [1,27,28] 1)))) [1,27,28] 1)
def q77:ICode:=(.post (.block 0 (.loop qcv)) [1] 1)
def q1h:ICode:=(.seq (sR [oN (.load 40 true 5 1),oY 41 77 [40],oM 39 41,oG 42 39 0,oG 43 39 1,oM 5 42,oM 6 43] [1,5,6] 1 (sR [oM 44 5,oN (.bin 45 .gtr 44 (.c (I 6))),oM 46 45,gM 47 6 46,gN (.bin 48 .gtr 47 (.c (I 10))) 46,oN (.pick 49 46 (.c (.bool true)) 48)] [1,49] 1 (.cond 49 (sR [oK 2 2] [2] 0 .ret) .skip))) (sR [oN (.load 50 true 5 1),oN (.buildT 51 [.sl true 6 [],.sl true 2 [],.sl true 2 [],.sl true 1 [],.sl true 1 [],.sl true 1 []] [(0,5,50)]),oN (.box 52 true true 51),oM 7 52] [7] 0 (sR [oM 53 7,oX 54 78 [53]] [7] 0 (.seq (sR [oM 55 7,oY 56 79 [55],oM 8 56] [7,8] 0 (sR [oM 57 8,oN (.bin 58 .neq 57 (.c (I 0)))] [7,8,58] 0 (.cond 58 (sR [oM 59 8,oM 2 59] [2] 0 .ret) .skip))) (sR [oM 60 7,oY 61 80 [60],oM 2 61] [2] 0 .ret)))))
def qcw:ICode:=(sR [oB 1 0,oK 2 0] [1] 1 (.seq (sR [oF 9 1 0,oL 10 9,oD 11 10,oN (.bin 12 .gtr 11 (.c (I 80))),oM 13 12,gF 14 1 3 13,gL 15 14 13,gN (.len 16 0 15) 13,gN (.bin 17 .gtr 16 (.c (I 8))) 13,oN (.pick 18 13 (.c (.bool true)) 17),oM 19 18,gF 20 1 4 19,gL 21 20 19,gN (.len 22 0 21) 19,gN (.bin 23 .gtr 22 (.c (I 8))) 19,oN (.pick 24 19 (.c (.bool true)) 23)] [1,24] 1 (.cond 24 (sR [oK 2 2] [2] 0 .ret) .skip)) (.seq (sR [oF 25 1 0,oL 26 25,oD 27 26,oK 28 0] [1,27,28] 1 (.cut q77)) (.cut q1h))))
def qf:IFunc:={np:=1,res:=[.t 2],own:=false,trunc:=true,body:=qcw }
def qb:ICode:=(.cond 39 (sR [oK 4 1] [4] 0 .ret) .skip)
def qc:ICode:=(sR [oK 4 0] [4] 0 .ret)
def qcx:ICode:=(.post (.seq (.region [oW 70 69 68] false) (.seq (.cond 70 .skip (.exit 1)) (.seq (.block 2 (sR [oM 71 69,oA 72 67 69,oL 73 72,oM 6 71,oM 7 73] [0,1,5,6,7,67,68,69] 1 (sR [oM 74 6,oF 75 5 0,oL 76 75,oY 77 63 [76],oW 78 74 77,oM 79 78,gT (.mv 80 7) 79,gT (.bin 81 .lss 80 (.c (I 0))) 79,gT (.mv 82 81) 79,gM 83 7 82,gM 84 1 82,gN (.bin 85 .geq 83 84) 82,gT (.pick 86 82 (.c (.bool true)) 85) 79,oN (.pick 87 79 86 (.c (.bool false))),oM 88 87,gM 89 6 88,gF 90 5 0 88,gL 91 90 88,gN (.call (some 92) true 63 [91]) 88,gN (.bin 93 .geq 89 92) 88,gM 94 93 88,gT (.mv 95 7) 94,gT (.bin 96 .neq 95 (.c (I 0))) 94,gN (.pick 97 94 96 (.c (.bool false))) 88,oN (.pick 98 88 (.c (.bool true)) 97)] [0,1,5,67,68,69,98] 1 (.cond 98 (sR [oK 4 4] [4] 0 .ret) .skip)))) (pR [oP 99 69 1,oM 69 99] [0,1,5,67,68,69] 1)))) [0,1,5,67,68,69] 1)
def q78:ICode:=(.post (.block 1 (.loop qcx)) [0,5] 1)
def q79:ICode:=(sQ [oF 100 5 0,oL 101 100,oF 102 5 1,oL 103 102,oF 104 5 5,oL 105 104,oM 106 0,oN (.load 107 true 6 5),oY 108 104 [106,107],oY 109 22 [101,103,105,108],oM 4 109] [4] 0 .ret)
def q5:ICode:=(.seq (sR [oF 61 5 2,oL 62 61,oF 63 5 3,oL 64 63,oF 65 5 4,oL 66 65,oN (.buildSl 67 1 [62,64,66]),oD 68 67,oK 69 0] [0,1,5,67,68,69] 1 (.cut q78)) (.cut q79))
def qcy:ICode:=(sR [oK 4 0] [0,1] 0 (sR [oM 8 0,oM 9 1,oN (.iaddr 10 6 none 8 9),oN (.load 11 true 6 10),oN (.alloc 5 false (.agg [I 0,I 0,I 0,I 0,I 0,I 0])),oN (.store false 6 5 11)] [0,1,5] 1 (.seq (sR [oF 12 5 0,oL 13 12,oN (.bin 14 .lss 13 (.c (I 1))),oM 15 14,gF 16 5 0 15,gL 17 16 15,gN (.bin 18 .geq 17 (.c (I 24))) 15,oN (.pick 19 15 (.c (.bool true)) 18)] [0,1,5,19] 1 (.cond 19 (sR [oK 4 7] [4] 0 .ret) .skip)) (.seq (sR [oF 20 5 1,oL 21 20,oY 22 62 [21],oN (.un 23 .not 22)] [0,1,5,23] 1 (.cond 23 (sR [oK 4 3] [4] 0 .ret) .skip)) (.seq (sR [oF 24 5 0,oL 25 24,oY 26 103 [25]] [0,1,5,26] 1 (.cond 26 (.seq (.block 0 (sR [oF 28 5 0,oL 29 28,oE 30 29 1,oM 31 30,gT (.faddr 32 5 5) 31,gT (.load 33 false 1 32) 31,gT (.faddr 34 5 1) 31,gT (.load 35 false 1 34) 31,gT (.call (some 36) true 65 [33,35]) 31,gT (.un 37 .not 36) 31,oN (.pick 38 31 37 (.c (.bool false))),oM 27 38] [5,27] 1
 (.cond 27 (sR [oK 4 3] [4] 0 .ret) (.seq (sR [oF 40 5 0,oL 41 40,oN (.bin 42 .neq 41 (.c (I 1))),oM 43 42,gT (.faddr 44 5 5) 43,gT (.load 45 false 1 44) 43,gT (.bin 46 .neq 45 (.c (I 0))) 43,oN (.pick 47 43 46 (.c (.bool false))),oM 39 47] [5,39] 1 (.cond 39 (.post .skip [39] 0) (.post (pR [oF 48 5 2,oL 49 48,oN (.bin 50 .neq 49 (.c (I 0))),oM 51 50,gF 52 5 3 51,gL 53 52 51,gN (.bin 54 .neq 53 (.c (I 0))) 51,oN (.pick 55 51 (.c (.bool true)) 54),oM 56 55,gF 57 5 4 56,gL 58 57 56,gN (.bin 59 .neq 58 (.c (I 0))) 56,oN (.pick 60 56 (.c (.bool true)) 59),oM 39 60] [39] 0) [39] 0))) (.cut qb))))) (.cut qc)) .skip)) (.cut q5))))))
def q7a:IFunc:={np:=2,res:=[.t 4],own:=false,trunc:=true,body:=qcy }
def qcz:ICode:=(sR [oB 1 0,oK 2 0,oK 3 0] [1] 1 (sQ [oN (.load 4 true 5 1),oN (.load 5 true 5 1),oY 6 101 [5,(.c (I 2))],oY 7 105 [4,6],oN (.load 8 true 5 1),oN (.load 9 true 5 1),oY 10 101 [9,(.c (I 3))],oY 11 105 [8,10],oM 2 7,oM 3 11] [2,3] 0 .ret))
def q7b:IFunc:={np:=1,res:=[.t 2,.t 3],own:=false,trunc:=true,body:=qcz }
def qd0:ICode:=(.post (.seq (.region [oW 29 28 27] false) (.seq (.cond 29 .skip (.exit 2)) (.seq (.block 3 (sR [oA 30 26 28,oL 31 30,oM 6 31] [0,4,6,11,12,13,26,27,28] 0 (pR [oM 32 4,oM 33 32,gM 34 0 33,gN (.nilc 35 34) 33,gF 36 35 5 33,gL 37 36 33,gM 38 6 33,gN (.iaddr 39 1 none 37 38) 33,gL 40 39 33,oN (.pick 41 33 (.c (.bool true)) 40),oM 4 41] [0,4,11,12,13,26,27,28] 0))) (pR [oP 42 28 1,oM 28 42] [0,4,11,12,13,26,27,28] 0)))) [0,4,11,12,13,26,27,28] 0)
def q22:ICode:=(.post (.block 2 (.loop qd0)) [0,4,11,12,13] 0)
def q23:ICode:=(pR [oM 43 0,oM 44 0,oC 45 44,oF 46 45 5,oN (.loadT 47 46),oM 48 4,oN (.buildSl 49 1 [48]),oN (.append 50 1 1 47 49),oC 51 43,oF 52 51 5,oN (.store true 1 52 50)] [0,11,12,13] 0)
def q19:ICode:=(pR [oP 53 13 1,oM 13 53] [0,11,12,13] 0)
def qd1:ICode:=(.post (.seq (.region [oW 14 13 12] false) (.seq (.cond 14 .skip (.exit 0)) (.seq (.block 1 (sR [oN (.iaddr 15 6 none 11 13),oN (.load 16 true 6 15),oN (.alloc 3 false (.agg [I 0,I 0,I 0,I 0,I 0,I 0])),oN (.store false 6 3 16)] [0,3,11,12,13] 1 (sR [oF 17 3 0,oL 18 17,oE 19 18 2,oM 20 19,gF 21 3 0 20,gL 22 21 20,gN (.bin 23 .eql 22 (.c (I 3))) 20,oN (.pick 24 20 (.c (.bool true)) 23),oM 4 24] [0,3,4,11,12,13] 1 (.seq (sR [oN (.load 25 true 6 3),oY 26 81 [25],oD 27 26,oK 28 0] [0,4,11,12,13,26,27,28] 0 (.cut q22)) (.cut q23))))) (.cut q19)))) [0,11,12,13] 0)
def q7c:ICode:=(.post (.block 0 (.loop qd1)) [] 0)
def qd2:ICode:=(sR [oM 7 0,oC 8 7,oF 9 8 0,oF 10 9 0,oL 11 10,oD 12 11,oK 13 0] [0,11,12,13] 0 (.cut q7c))
def q7d:IFunc:={np:=1,res:=[],own:=false,trunc:=false,body:=qd2 }
def qd3:ICode:=(.post (.seq (.region [oW 33 32 31] false) (.seq (.cond 33 .skip (.exit 2)) (.seq (.block 3 (sR [oN (.iaddr 34 2 none 30 32),oN (.load 35 true 2 34),oN (.alloc 6 false (.agg [I 0,I 0])),oN (.store false 2 6 35)] [0,3,6,23,24,25,30,31,32] 1 (sR [oM 36 0,oN (.load 37 true 2 6),oM 38 3,oE 39 38 0,oY 40 106 [36,37,39],oM 7 40] [0,3,7,23,24,25,30,31,32] 0 (sR [oM 41 7,oN (.bin 42 .neq 41 (.c (I 0)))] [0,3,7,23,24,25,30,31,32,42] 0 (.cond 42 (sR [oM 43 7,oM 2 43] [2] 0 .ret) .skip))))) (pR [oP 44 32 1,oM 32 44] [0,3,23,24,25,30,31,32] 0)))) [0,3,23,24,25,30,31,32] 0)
def q7e:ICode:=(.post (.block 2 (.loop qd3)) [0,23,24,25] 0)
def q48:ICode:=(pR [oP 45 25 1,oM 25 45] [0,23,24,25] 0)
def qd4:ICode:=(.post (.seq (.region [oW 26 25 24] false) (.seq (.cond 26 .skip (.exit 0)) (.seq (.block 1 (sR [oM 27 25,oA 28 23 25,oL 29 28,oM 3 27,oT 4 29] [0,3,4,23,24,25] 0 (sR [oM 30 4,oD 31 30,oK 32 0] [0,3,23,24,25,30,31,32] 0 (.cut q7e)))) (.cut q48)))) [0,23,24,25] 0)
def q7f:ICode:=(.post (.block 0 (.loop qd4)) [0] 0)
def qd5:ICode:=(.post (.seq (.region [oW 66 65 64] false) (.seq (.cond 66 .skip (.exit 6)) (.seq (.block 7 (sR [oN (.iaddr 67 2 none 63 65),oN (.load 68 true 2 67),oN (.alloc 12 false (.agg [I 0,I 0])),oN (.store false 2 12 68)] [9,10,12,56,57,58,63,64,65] 1 (pR [oM 69 10,oF 70 12 0,oL 71 70,oN (.mupd 0 69 71 (.c (.bool true)))] [9,10,56,57,58,63,64,65] 0))) (pR [oP 72 65 1,oM 65 72] [9,10,56,57,58,63,64,65] 0)))) [9,10,56,57,58,63,64,65] 0)
def q7g:ICode:=(.post (.block 6 (.loop qd5)) [9,10,56,57,58] 0)
def q7h:ICode:=(sR [oM 73 10,oN (.len 74 2 73),oM 75 9,oD 76 75,oW 77 74 76] [56,57,58,77] 0 (.cond 77 (sR [oK 2 6] [2] 0 .ret) .skip))
def q49:ICode:=(pR [oP 78 58 1,oM 58 78] [56,57,58] 0)
def q7i:ICode:=(.post (.seq (.region [oW 59 58 57] false) (.seq (.cond 59 .skip (.exit 4)) (.seq (.block 5 (sR [oA 60 56 58,oL 61 60,oT 9 61] [9,56,57,58] 0 (sR [oN (.mkmap 62),oM 10 62] [9,10,56,57,58] 0 (.seq (sR [oM 63 9,oD 64 63,oK 65 0] [9,10,56,57,58,63,64,65] 0 (.cut q7g)) (.cut q7h))))) (.cut q49)))) [56,57,58] 0)
def q7j:ICode:=(.post (.block 4 (.loop q7i)) [] 0)
def q4a:ICode:=(.seq (.region [oK 2 0] false) .ret)
def q4b:ICode:=(.seq (sQ [oM 46 0,oC 47 46,oF 48 47 0,oF 49 48 1,oL 50 49,oM 51 0,oC 52 51,oF 53 52 0,oF 54 53 2,oL 55 54,oN (.buildSl 56 1 [50,55]),oD 57 56,oK 58 0] [56,57,58] 0 (.cut q7j)) (.cut q4a))
def qd6:ICode:=(sR [oK 2 0] [0] 0 (.seq (sQ [oM 13 0,oC 14 13,oF 15 14 0,oF 16 15 1,oL 17 16,oM 18 0,oC 19 18,oF 20 19 0,oF 21 20 2,oL 22 21,oN (.buildSl 23 1 [17,22]),oD 24 23,oK 25 0] [0,23,24,25] 0 (.cut q7f)) (.cut q4b)))
def q1a:IFunc:={np:=1,res:=[.t 2],own:=false,trunc:=true,body:=qd6 }
def qd7:ICode:=(sR [oN (.box 1 true false 0),oK 2 0] [1] 0 (.seq (sQ [oL 4 1,oC 5 4,oF 6 5 0,oF 7 6 2,oL 8 7,oD 9 8,oL 10 1,oC 11 10,oF 12 11 0,oN (.load 13 true 5 12),oY 14 101 [13,(.c (I 3))],oD 15 14,oW 16 9 15] [1,16] 0 (.cond 16 (sR [oK 2 5] [2] 0 .ret) .skip)) (sQ [oL 17 1,oC 18 17,oF 19 18 0,oF 20 19 3,oL 21 20,oL 22 1,oC 23 22,oF 24 23 0,oF 25 24 4,oL 26 25,oN (.buildSl 27 1 [21,26]),oY 28 107 [27],oT 3 28] [1,3] 0 (.seq (sR [oM 29 3,oN (.mkfn 30 108 [1]),oY 31 86 [29,30]] [1,3,31] 0 (.cond 31 (sR [oK 2 5] [2] 0 .ret) .skip)) (.seq (sR [oM 32 3,oN (.mkfn 33 109 [1]),oY 34 86 [32,33]] [34] 0 (.cond 34 (sR [oK 2 1] [2] 0 .ret) .skip)) (sR [oK 2 0] [2] 0 .ret))))))
def qp:IFunc:={np:=1,res:=[.t 2],own:=false,trunc:=true,body:=qd7 }
def qd8:ICode:=(sR [oB 1 0,oN (.mv 2 (.c (.sl true 1 [])))] [1] 1 (sQ [oF 3 1 2,oL 4 3,oF 5 1 3,oL 6 5,oF 7 1 4,oL 8 7,oN (.buildSl 9 1 [4,6,8]),oF 10 1 0,oL 11 10,oY 12 63 [11],oN (.slice 13 1 9 none (some 12)),oT 2 13] [2] 0 .ret))
def qq:IFunc:={np:=1,res:=[.t 2],own:=true,trunc:=true,body:=qd8 }
def q24:ICode:=(pR [oP 24 11 1,oM 11 24] [1,5,9,10,11] 0)
def qd9:ICode:=(.post (.seq (.region [oW 12 11 10] false) (.seq (.cond 12 .skip (.exit 0)) (.seq (.block 1 (sR [oM 13 11,oN (.iaddr 14 6 none 9 11),oN (.load 15 true 6 14),oN (.alloc 7 false (.agg [I 0,I 0,I 0,I 0,I 0,I 0])),oM 6 13,oN (.store false 6 7 15)] [1,5,6,7,9,10,11] 1 (sR [oF 16 7 0,oL 17 16,oM 18 1,oN (.bin 19 .eql 17 18)] [1,5,6,9,10,11,19] 0 (.cond 19 (.post (pR [oT 20 5,oM 21 6,oN (.buildSl 22 1 [21]),oN (.append 23 1 8 20 22),oT 5 23] [1,5,9,10,11] 0) [1,5,9,10,11] 0) (.post .skip [1,5,9,10,11] 0))))) (.cut q24)))) [1,5,9,10,11] 0)
def q7k:ICode:=(.post (.block 0 (.loop qd9)) [5] 0)
def q7l:ICode:=(sR [oM 25 5,oT 4 25] [4] 0 .ret)
def qda:ICode:=(sR [oB 2 0,oN (.mv 4 (.c (.sl true 1 [])))] [1,2] 1 (.seq (.region [oN (.mv 5 (.c (.sl true 1 [])))] false) (.seq (sR [oF 8 2 0,oL 9 8,oD 10 9,oK 11 0] [1,5,9,10,11] 0 (.cut q7k)) (.cut q7l))))
def q7m:IFunc:={np:=2,res:=[.t 4],own:=false,trunc:=true,body:=qda }
def qdb:ICode:=(sR [oN (.mv 2 (.c (.bool false)))] [0] 0 (sR [oM 3 0,oN (.bin 4 .geq 3 (.c (I 1))),oM 5 4,gT (.mv 6 0) 5,gT (.bin 7 .leq 6 (.c (I 3))) 5,oN (.pick 8 5 7 (.c (.bool false))),oM 2 8] [2] 0 .ret))
def q25:IFunc:={np:=1,res:=[.t 2],own:=false,trunc:=true,body:=qdb }
def qdc:ICode:=(.post (.seq (.region [oW 12 11 10] false) (.seq (.cond 12 .skip (.exit 0)) (.seq (.block 1 (sR [oM 13 11,oA 14 9 11,oL 15 14,oM 6 13,oM 7 15] [0,4,5,6,7,9,10,11] 3 (pR [oM 16 6,oM 17 0,oM 18 7,oN (.iaddr 19 6 none 17 18),oF 20 19 1,oL 21 20,oN (.iaddr 22 1 (some 3) 5 16),oN (.store false 1 22 21)] [0,4,5,9,10,11] 3))) (pR [oP 23 11 1,oM 11 23] [0,4,5,9,10,11] 3)))) [0,4,5,9,10,11] 3)
def q4c:ICode:=(.post (.block 0 (.loop qdc)) [4,5] 3)
def q7n:ICode:=(sR [oN (.load 24 true 3 5),oN (.store false 3 4 24)] [4] 2 .ret)
def qdd:ICode:=(sR [oB 3 1,oN (.alloc 4 false (.agg [I 0,I 0,I 0]))] [0,3,4] 2 (.seq (.region [oN (.alloc 5 false (.agg [I 0,I 0,I 0]))] false) (.seq (sR [oN (.load 8 true 6 3),oY 9 81 [8],oD 10 9,oK 11 0] [0,4,5,9,10,11] 3 (.cut q4c)) (.cut q7n))))
def q7o:IFunc:={np:=2,res:=[.cell 4 true 3],own:=false,trunc:=true,body:=qdd }
def qde:ICode:=(.post (.seq (.region [oW 11 10 9] false) (.seq (.cond 11 .skip (.exit 0)) (.seq (.block 1 (sR [oA 12 8 10,oL 13 12,oM 7 13] [2,5,7,8,9,10] 1 (pR [oM 14 5,oF 15 2 0,oL 16 15,oM 17 7,oN (.iaddr 18 6 none 16 17),oF 19 18 1,oL 20 19,oN (.bin 21 .add 14 20),oM 5 21] [2,5,8,9,10] 1))) (pR [oP 22 10 1,oM 10 22] [2,5,8,9,10] 1)))) [2,5,8,9,10] 1)
def q7p:ICode:=(.post (.block 0 (.loop qde)) [5] 0)
def q7q:ICode:=(sR [oM 23 5,oM 4 23] [4] 0 .ret)
def qdf:ICode:=(sR [oB 2 0,oK 4 0] [1,2] 1 (.seq (.region [oK 5 0] false) (.seq (sR [oM 8 1,oD 9 8,oK 10 0] [2,5,8,9,10] 1 (.cut q7p)) (.cut q7q))))
def q7r:IFunc:={np:=2,res:=[.t 4],own:=false,trunc:=true,body:=qdf }
def qdg:ICode:=(sR [oB 4 1,oK 6 0] [0,2,4] 1 (.seq (.block 0 (sQ [oM 8 0,oF 9 4 0,oL 10 9,oY 11 118 [8,10],oN (.un 12 .not 11),oM 13 12,gM 14 0 13,gF 15 4 1 13,gL 16 15 13,gN (.call (some 17) true 118 [14,16]) 13,gN (.un 18 .not 17) 13,oN (.pick 19 13 (.c (.bool true)) 18),oM 20 19,gM 21 0 20,gN (.nilc 22 21) 20,gF 23 22 0 20,gF 24 23 0 20,gL 25 24 20,gF 26 4 0 20,gL 27 26 20,gN (.iaddr 28 6 none 25 27) 20,gF 29 28 0 20,gL 30 29 20,gN (.bin 31 .neq 30 (.c (I 3))) 20,oN (.pick 32 20 (.c (.bool true)) 31),oM 7 32] [0,2,4,7] 1 (.cond 7 (sR [oK 6 5] [6] 0 .ret) (sQ [oM 34 0,oC 35 34,oF 36 35 0,oF 37 36 0,oL 38 37,oF 39 4 0,oL 40 39,oN (.iaddr 41 6 none 38 40),oF 42 41 1,oL 43 42,oM 44 0,oC 45 44,oF 46 45 0,oF 47 46 0,oL 48 47,oF 49 4 1,oL 50 49,oN (.iaddr 51 6 none 48 50),oF 52 51 1,oL 53 52,oN (.bin 54 .neq 43 53),oM 33 54] [0,2,4,33] 1 (.cond 33 (sR [oK 6 1] [6] 0 .ret) (sQ [oM 56 2,
 oM 57 56,gT (.mv 58 0) 57,gT (.nilc 59 58) 57,gT (.faddr 60 59 5) 57,gT (.load 61 false 1 60) 57,gT (.faddr 62 4 1) 57,gT (.load 63 false 1 62) 57,gT (.iaddr 64 1 none 61 63) 57,gT (.load 65 false 1 64) 57,oN (.pick 66 57 65 (.c (.bool false))),oM 55 66] [55] 0 (.cond 55 (sR [oK 6 4] [6] 0 .ret) .skip))))))) (sR [oK 6 0] [6] 0 .ret)))
def q7s:IFunc:={np:=3,res:=[.t 6],own:=false,trunc:=true,body:=qdg }
def qdh:ICode:=(sR [oN (.mv 3 (.c (.bool false)))] [0,1] 0 (sR [oL 4 1,oM 5 0,oY 6 118 [4,5],oN (.un 7 .not 6),oM 3 7] [3] 0 .ret))
def q7t:IFunc:={np:=2,res:=[.t 3],own:=false,trunc:=true,body:=qdh }
def qdi:ICode:=(sR [oN (.mv 3 (.c (.bool false)))] [0,1] 0 (sR [oL 4 1,oC 5 4,oF 6 5 0,oF 7 6 0,oL 8 7,oM 9 0,oN (.iaddr 10 6 none 8 9),oF 11 10 1,oL 12 11,oN (.bin 13 .neq 12 (.c (I 1))),oM 3 13] [3] 0 .ret))
def q7u:IFunc:={np:=2,res:=[.t 3],own:=false,trunc:=true,body:=qdi }
def qdj:ICode:=(sR [oN (.mv 4 (.c (.bool false)))] [0,1] 0 (sR [oM 5 1,oN (.bin 6 .geq 5 (.c (I 0))),oM 7 6,gT (.mv 8 1) 7,gT (.mv 9 0) 7,gT (.nilc 10 9) 7,gT (.faddr 11 10 0) 7,gT (.faddr 12 11 0) 7,gT (.load 13 false 1 12) 7,gT (.len 14 0 13) 7,gT (.bin 15 .lss 8 14) 7,oN (.pick 16 7 15 (.c (.bool false))),oM 4 16] [4] 0 .ret))
def q26:IFunc:={np:=2,res:=[.t 4],own:=false,trunc:=true,body:=qdj }
def qdk:ICode:=(.post (.seq (sR [oM 15 3,oF 16 1 1,oL 17 16,oD 18 17,oW 19 15 18] [1,3,19] 1 (.cond 19 .skip (.exit 0))) (.seq (.block 1 (sQ [oF 22 1 1,oL 23 22,oM 24 3,oN (.iaddr 25 2 none 23 24),oN (.iaddr 26 1 (some 2) 25 (.c (I 0))),oL 27 26,oF 28 1 1,oL 29 28,oM 30 3,oN (.iaddr 31 2 none 29 30),oN (.iaddr 32 1 (some 2) 31 (.c (I 1))),oL 33 32,oM 4 27,oM 5 33] [1,3,4,5] 1 (sR [oM 34 4,oM 35 5,oN (.bin 36 .geq 34 35),oM 37 36,gM 38 4 37,gN (.bin 39 .lss 38 (.c (I 2))) 37,oN (.pick 40 37 (.c (.bool true)) 39),oM 41 40,gM 42 5 41,gF 43 1 0 41,gL 44 43 41,gN (.bin 45 .add (.c (I 1)) 44) 41,gM 46 3 41,gN (.bin 47 .add 45 46) 41,gN (.bin 48 .mul (.c (I 2)) 47) 41,gN (.bin 49 .geq 42 48) 41,oN (.pick 50 41 (.c (.bool true)) 49),oM 51 50,gM 52 4 51,gN (.bin 53 .quo 52 (.c (I 2))) 51,gM 54 5 51,gN (.bin 55 .quo 54 (.c (I 2))) 51,gN (.bin 56 .eql 53 55) 51,
 oN (.pick 57 51 (.c (.bool true)) 56)] [1,3,57] 1 (.cond 57 (sR [oK 2 4] [2] 0 .ret) .skip)))) (pR [oM 20 3,oP 21 20 1,oM 3 21] [1,3] 1))) [1,3] 1)
def q7v:ICode:=(.post (.block 0 (.loop qdk)) [1] 1)
def qdl:ICode:=(.post (.seq (sR [oM 58 6,oF 59 1 1,oL 60 59,oD 61 60,oW 62 58 61] [1,6,62] 1 (.cond 62 .skip (.exit 2))) (.seq (.block 3 (sQ [oN (.load 65 true 2 1),oM 66 6,oF 67 1 1,oL 68 67,oM 69 6,oN (.iaddr 70 2 none 68 69),oN (.load 71 true 2 70),oY 72 51 [65,66,71],oN (.bin 73 .geq 72 (.c (I 0)))] [1,6,73] 1 (.cond 73 (sR [oK 2 6] [2] 0 .ret) .skip))) (pR [oM 63 6,oP 64 63 1,oM 6 64] [1,6] 1))) [1,6] 1)
def q7w:ICode:=(.post (.block 2 (.loop qdl)) [] 0)
def q7x:ICode:=(.seq (.region [oK 2 0] false) .ret)
def q7y:ICode:=(.seq (sR [oK 6 0] [1,6] 1 (.cut q7w)) (.cut q7x))
def qdm:ICode:=(sR [oB 1 0,oK 2 0] [1] 1 (.seq (sR [oF 7 1 0,oL 8 7,oY 9 50 [8,(.c (I 0)),(.c (I 1000))],oN (.un 10 .not 9)] [1,10] 1 (.cond 10 (sR [oK 2 3] [2] 0 .ret) .skip)) (.seq (sR [oF 11 1 1,oL 12 11,oD 13 12,oN (.bin 14 .gtr 13 (.c (I 1000000)))] [1,14] 1 (.cond 14 (sR [oK 2 2] [2] 0 .ret) .skip)) (.seq (sR [oK 3 0] [1,3] 1 (.cut q7v)) (.cut q7y)))))
def qg:IFunc:={np:=1,res:=[.t 2],own:=false,trunc:=true,body:=qdm }
def qdn:ICode:=(sR [oB 2 0,oN (.mv 4 (.c (.bool false)))] [1,2] 1 (sR [oM 5 1,oF 6 2 0,oL 7 6,oN (.bin 8 .add (.c (I 1)) 7),oF 9 2 1,oL 10 9,oD 11 10,oN (.bin 12 .add 8 11),oN (.bin 13 .mul (.c (I 2)) 12),oS 14 13 1,oY 15 50 [5,(.c (I 0)),14],oM 4 15] [4] 0 .ret))
def q7z:IFunc:={np:=2,res:=[.t 4],own:=false,trunc:=true,body:=qdn }
def qdo:ICode:=(.post (.seq (sR [oM 20 5,oF 21 2 1,oL 22 21,oD 23 22,oW 24 20 23] [2,3,5,24] 2 (.cond 24 .skip (.exit 0))) (.seq (.block 1 (sQ [oF 27 2 1,oL 28 27,oM 29 5,oN (.iaddr 30 2 none 28 29),oN (.load 31 true 2 30),oF 32 3 1,oL 33 32,oM 34 5,oN (.iaddr 35 2 none 33 34),oN (.load 36 true 2 35),oN (.eqa 37 true [false,false] 31 36)] [2,3,5,37] 2 (.cond 37 (sR [oN (.mv 4 (.c (.bool false)))] [4] 0 .ret) .skip))) (pR [oM 25 5,oP 26 25 1,oM 5 26] [2,3,5] 2))) [2,3,5] 2)
def q80:ICode:=(.post (.block 0 (.loop qdo)) [] 0)
def q81:ICode:=(.seq (.region [oN (.mv 4 (.c (.bool true)))] false) .ret)
def qdp:ICode:=(sR [oB 2 0,oB 3 1,oN (.mv 4 (.c (.bool false)))] [2,3] 2 (.seq (sR [oF 6 2 0,oL 7 6,oF 8 3 0,oL 9 8,oN (.bin 10 .neq 7 9),oM 11 10,gF 12 2 1 11,gL 13 12 11,gN (.len 14 0 13) 11,gF 15 3 1 11,gL 16 15 11,gN (.len 17 0 16) 11,gN (.bin 18 .neq 14 17) 11,oN (.pick 19 11 (.c (.bool true)) 18)] [2,3,19] 2 (.cond 19 (sR [oN (.mv 4 (.c (.bool false)))] [4] 0 .ret) .skip)) (.seq (sR [oK 5 0] [2,3,5] 2 (.cut q80)) (.cut q81))))
def q82:IFunc:={np:=2,res:=[.t 4],own:=false,trunc:=true,body:=qdp }
def qdq:ICode:=(.post (.seq (sR [oM 6 5,oM 7 1,oD 8 7,oW 9 6 8] [1,2,5,9] 1 (.cond 9 .skip (.exit 0))) (.seq (.block 1 (sQ [oN (.load 12 true 2 2),oM 13 1,oM 14 5,oA 15 13 14,oL 16 15,oY 17 3 [12,16],oN (.un 18 .not 17)] [1,2,5,18] 1 (.cond 18 (sR [oN (.mv 4 (.c (.bool false)))] [4] 0 .ret) .skip))) (pR [oM 10 5,oP 11 10 1,oM 5 11] [1,2,5] 1))) [1,2,5] 1)
def q83:ICode:=(.post (.block 0 (.loop qdq)) [] 0)
def q84:ICode:=(.seq (.region [oN (.mv 4 (.c (.bool true)))] false) .ret)
def qdr:ICode:=(sR [oB 2 0,oN (.mv 4 (.c (.bool false)))] [1,2] 1 (.seq (sR [oK 5 0] [1,2,5] 1 (.cut q83)) (.cut q84)))
def q27:IFunc:={np:=2,res:=[.t 4],own:=false,trunc:=true,body:=qdr }
def qds:ICode:=(.post (.seq (sR [oM 10 6,oF 11 2 1,oL 12 11,oD 13 12,oW 14 10 13] [2,5,6,14] 1 (.cond 14 .skip (.exit 0))) (.seq (.block 1 (pR [oT 17 5,oM 18 5,oF 19 2 1,oL 20 19,oM 21 6,oN (.iaddr 22 2 none 20 21),oN (.iaddr 23 1 (some 2) 22 (.c (I 0))),oL 24 23,oY 25 12 [18,24],oM 26 25,gT (.mv 27 5) 26,gT (.faddr 28 2 1) 26,gT (.load 29 false 1 28) 26,gT (.mv 30 6) 26,gT (.iaddr 31 2 none 29 30) 26,gT (.iaddr 32 1 (some 2) 31 (.c (I 1))) 26,gT (.load 33 false 1 32) 26,gT (.call (some 34) true 12 [27,33]) 26,oN (.pick 35 26 34 (.c (.bool false))),oN (.buildSl 36 1 [35]),oN (.append 37 1 1 17 36),oT 5 37] [2,5,6] 1)) (pR [oM 15 6,oP 16 15 1,oM 6 16] [2,5,6] 1))) [2,5,6] 1)
def q85:ICode:=(.post (.block 0 (.loop qds)) [5] 0)
def q86:ICode:=(sR [oM 38 5,oT 4 38] [4] 0 .ret)
def qdt:ICode:=(sR [oB 2 0,oN (.mv 4 (.c (.sl true 1 [])))] [1,2] 1 (sR [oN (.buildSl 7 1 [(.c (.bool false))]),oM 8 1,oN (.append 9 1 1 7 8),oT 5 9] [2,5] 1 (.seq (sR [oK 6 0] [2,5,6] 1 (.cut q85)) (.cut q86))))
def q87:IFunc:={np:=2,res:=[.t 4],own:=false,trunc:=true,body:=qdt }
def qdu:ICode:=(sR [oN (.mv 4 (.c (.bool false)))] [0,1] 0 (.seq (sR [oM 5 1,oN (.bin 6 .rem 5 (.c (I 2))),oE 7 6 1] [0,1,7] 0 (.cond 7 (sR [oM 8 0,oM 9 1,oN (.bin 10 .quo 9 (.c (I 2))),oA 11 8 10,oL 12 11,oN (.un 13 .not 12),oM 4 13] [4] 0 .ret) .skip)) (sR [oM 14 0,oM 15 1,oN (.bin 16 .quo 15 (.c (I 2))),oA 17 14 16,oL 18 17,oM 4 18] [4] 0 .ret)))
def q28:IFunc:={np:=2,res:=[.t 4],own:=false,trunc:=true,body:=qdu }
def qdv:ICode:=(.post (.seq (sR [oM 19 10,oN (.bin 20 .lss 19 (.c (I 3)))] [0,1,2,7,9,10,20] 1 (.cond 20 .skip (.exit 0))) (.seq (.block 1 (sR [oM 23 10,oM 24 9,oW 25 23 24,oM 26 25,gT (.mv 27 10) 26,gT (.iaddr 28 1 (some 3) 7 27) 26,gT (.load 29 false 1 28) 26,gT (.call (some 30) true 50 [29,(.c (I 1)),(.c (I 8))]) 26,gT (.un 31 .not 30) 26,oN (.pick 32 26 31 (.c (.bool false))),oM 33 32,gM 34 10 33,gM 35 9 33,gN (.bin 36 .geq 34 35) 33,gM 37 36 33,gT (.mv 38 10) 37,gT (.iaddr 39 1 (some 3) 7 38) 37,gT (.load 40 false 1 39) 37,gT (.bin 41 .neq 40 (.c (I 0))) 37,gN (.pick 42 37 41 (.c (.bool false))) 33,oN (.pick 43 33 (.c (.bool true)) 42)] [0,1,2,7,9,10,43] 1 (.cond 43 (sR [oK 8 3] [8] 0 .ret) .skip))) (pR [oM 21 10,oP 22 21 1,oM 10 22] [0,1,2,7,9,10] 1))) [0,1,2,7,9,10] 1)
def q88:ICode:=(.post (.block 0 (.loop qdv)) [0,1,2,7] 1)
def qd:ICode:=(.seq (sR [oM 129 11,oN (.un 130 .not 129),oM 131 130,gM 132 0 131,gN (.bin 133 .neq 132 (.c (I 21))) 131,gM 134 133 131,gT (.mv 135 2) 134,gT (.bin 136 .neq 135 (.c (I 0))) 134,gN (.pick 137 134 136 (.c (.bool false))) 131,oN (.pick 138 131 (.c (.bool true)) 137)] [138] 0 (.cond 138 (sR [oK 8 1] [8] 0 .ret) .skip)) (sR [oK 8 0] [8] 0 .ret))
def q4d:ICode:=(sR [oN (.mv 11 (.c (.bool false)))] [0,1,2,7] 1 (.seq (.block 2 (sR [oM 49 0,oE 50 49 4,oM 51 50,gM 52 0 51,gN (.bin 53 .eql 52 (.c (I 5))) 51,oN (.pick 54 51 (.c (.bool true)) 53),oM 48 54] [0,1,2,7,48] 1 (.cond 48 (.post (pR [oN (.iaddr 55 1 (some 3) 7 (.c (I 0))),oL 56 55,oM 57 1,oN (.bin 58 .eql 56 57),oM 11 58] [0,2,11] 0) [0,2,11] 0) (.post (sR [oM 60 0,oY 61 50 [60,(.c (I 6)),(.c (I 15))],oM 59 61] [0,1,2,7,59] 1 (.cond 59 (.post (pR [oN (.iaddr 62 1 (some 3) 7 (.c (I 0))),oL 63 62,oM 64 1,oN (.bin 65 .eql 63 64),oM 66 65,gT (.iaddr 67 1 (some 3) 7 (.c (I 1))) 66,gT (.load 68 false 1 67) 66,gT (.mv 69 1) 66,gT (.bin 70 .eql 68 69) 66,oN (.pick 71 66 70 (.c (.bool false))),oM 11 71] [0,2,11] 0) [0,2,11] 0) (.post (sR [oM 73 0,oY 74 50 [73,(.c (I 16)),(.c (I 18))],oM 72 74] [0,1,2,7,72] 1 (.cond 72 (.post (pR [oN (.iaddr 75 1 (some 3) 7 (.c (I 0))),oL 76 75,
 oN (.iaddr 77 1 (some 3) 7 (.c (I 1))),oL 78 77,oN (.bin 79 .eql 76 78),oM 80 79,gT (.mv 81 1) 80,gT (.bin 82 .eql 81 (.c (I 1))) 80,oN (.pick 83 80 82 (.c (.bool false))),oM 11 83] [0,2,11] 0) [0,2,11] 0) (.post (sR [oM 85 0,oE 86 85 19,oM 84 86] [0,1,2,7,84] 1 (.cond 84 (.post (pR [oN (.iaddr 87 1 (some 3) 7 (.c (I 0))),oL 88 87,oE 89 88 1,oM 90 89,gT (.iaddr 91 1 (some 3) 7 (.c (I 1))) 90,gT (.load 92 false 1 91) 90,gT (.mv 93 1) 90,gT (.bin 94 .eql 92 93) 90,oN (.pick 95 90 94 (.c (.bool false))),oM 96 95,gT (.iaddr 97 1 (some 3) 7 (.c (I 2))) 96,gT (.load 98 false 1 97) 96,gT (.mv 99 1) 96,gT (.bin 100 .eql 98 99) 96,oN (.pick 101 96 100 (.c (.bool false))),oM 11 101] [0,2,11] 0) [0,2,11] 0) (.post (sR [oM 103 0,oE 104 103 20,oM 102 104] [0,1,2,7,102] 1
 (.cond 102 (.post (pR [oN (.iaddr 105 1 (some 3) 7 (.c (I 0))),oL 106 105,oN (.iaddr 107 1 (some 3) 7 (.c (I 1))),oL 108 107,oN (.bin 109 .add 106 108),oM 110 1,oN (.bin 111 .eql 109 110),oM 11 111] [0,2,11] 0) [0,2,11] 0) (.post (sR [oM 113 0,oE 114 113 21,oM 112 114] [0,1,2,7,112] 1 (.cond 112 (.post (pR [oM 115 2,oN (.bin 116 .geq 115 (.c (I 0))),oM 117 116,gT (.mv 118 2) 117,gT (.bin 119 .leq 118 (.c (I 8))) 117,oN (.pick 120 117 119 (.c (.bool false))),oM 121 120,gT (.mv 122 2) 121,gT (.mv 123 1) 121,gT (.bin 124 .add 122 123) 121,gT (.iaddr 125 1 (some 3) 7 (.c (I 0))) 121,gT (.load 126 false 1 125) 121,gT (.bin 127 .leq 124 126) 121,oN (.pick 128 121 127 (.c (.bool false))),oM 11 128] [0,2,11] 0) [0,2,11] 0)
 (.post (pR [oM 44 1,oN (.iaddr 45 1 (some 3) 7 (.c (I 0))),oL 46 45,oN (.bin 47 .geq 44 46),oM 11 47] [0,2,11] 0) [0,2,11] 0))) [0,2,11] 0))) [0,2,11] 0))) [0,2,11] 0))) [0,2,11] 0))) [0,2,11] 0)))) (.cut qd)))
def qdw:ICode:=(sR [oB 7 3,oK 8 0] [0,1,2,7] 1 (sR [oM 12 0,oY 13 26 [12],oM 9 13] [0,1,2,7,9] 1 (.seq (sR [oM 14 9,oE 15 14 0] [0,1,2,7,9,15] 1 (.cond 15 (sR [oK 8 7] [8] 0 .ret) .skip)) (.seq (sR [oM 16 1,oY 17 50 [16,(.c (I 1)),(.c (I 8))],oN (.un 18 .not 17)] [0,1,2,7,9,18] 1 (.cond 18 (sR [oK 8 3] [8] 0 .ret) .skip)) (.seq (sR [oK 10 0] [0,1,2,7,9,10] 1 (.cut q88)) (.cut q4d))))))
def qr:IFunc:={np:=4,res:=[.t 8],own:=false,trunc:=true,body:=qdw }
def q1b:ICode:=(.cond 4 (sR [oK 2 1] [2] 0 .ret) (sR [oE 11 3 19,oM 10 11] [0,10] 0 (.cond 10 (sR [oK 2 3] [2] 0 .ret) .skip)))
def q1c:ICode:=(.seq (sR [oM 12 0,oY 13 50 [12,(.c (I 6)),(.c (I 20))]] [13] 0 (.cond 13 (sR [oK 2 2] [2] 0 .ret) .skip)) (sR [oK 2 0] [2] 0 .ret))
def qdx:ICode:=(sR [oK 2 0] [0] 0 (.seq (.seq (.region [oM 3 0] false) (.block 0 (.seq (sR [oE 5 3 4,oM 4 5] [0,3,4] 0 (.cond 4 (.post .skip [0,3,4] 0) (.post (sR [oE 6 3 5,oM 4 6] [0,3,4] 0 (.cond 4 (.post .skip [0,3,4] 0) (.post (sR [oE 7 3 21,oM 4 7] [0,3,4] 0 (.cond 4 (.post .skip [0,3,4] 0) (.post (sR [oE 8 3 22,oM 4 8] [0,3,4] 0 (.cond 4 (.post .skip [0,3,4] 0) (.post (pR [oE 9 3 23,oM 4 9] [0,3,4] 0) [0,3,4] 0))) [0,3,4] 0))) [0,3,4] 0))) [0,3,4] 0))) (.cut q1b)))) (.cut q1c)))
def qt:IFunc:={np:=1,res:=[.t 2],own:=false,trunc:=true,body:=qdx }
def qdy:ICode:=(.post (.seq (sR [oM 5 4,oM 6 0,oW 7 5 6] [0,3,4,7] 0 (.cond 7 .skip (.exit 0))) (.seq (.block 1 (pR [oM 10 3,oN (.bin 11 .mul (.c (I 2)) 10),oM 3 11] [0,3,4] 0)) (pR [oM 8 4,oP 9 8 1,oM 4 9] [0,3,4] 0))) [0,3,4] 0)
def q4e:ICode:=(.post (.block 0 (.loop qdy)) [3] 0)
def q89:ICode:=(sR [oM 12 3,oM 2 12] [2] 0 .ret)
def qdz:ICode:=(sR [oK 2 0] [0] 0 (.seq (.region [oK 3 1] false) (.seq (sR [oK 4 0] [0,3,4] 0 (.cut q4e)) (.cut q89))))
def q8a:IFunc:={np:=1,res:=[.t 2],own:=false,trunc:=true,body:=qdz }
def qe0:ICode:=(sR [oB 13 6,oK 14 0] [0,1,2,3,4,5,13] 1 (sR [oM 16 1,oY 17 27 [16],oM 15 17] [0,1,2,3,4,5,13,15] 1 (.seq (sR [oM 18 0] [1,2,3,4,5,13,15,18] 1 (.block 0 (sR [oE 20 18 4,oM 19 20] [1,2,3,4,5,13,15,18,19] 1 (.cond 19 (sR [oM 21 15,oS 22 21 1,oM 23 2,oN (.bin 24 .sub 22 23),oM 14 24] [14] 0 .ret) (sR [oE 26 18 5,oM 25 26] [1,2,3,4,5,13,15,18,25] 1 (.cond 25 (sR [oM 27 15,oM 28 2,oN (.bin 29 .sub 27 28),oM 30 15,oN (.bin 31 .rem 29 30),oM 14 31] [14] 0 .ret) (sR [oE 33 18 6,oM 32 33] [1,2,3,4,5,13,15,18,32] 1 (.cond 32 (sR [oM 34 2,oM 35 3,oM 36 1,oN (.build 37 [I 0,I 0,I 0,I 0] [(0,1,(.c (I 0))),(1,1,(.c (I 0))),(2,1,(.c (I 0))),(3,1,(.c (I 1)))]),oY 38 67 [34,35,36,37],oM 14 38] [14] 0 .ret) (sR [oE 40 18 7,oM 39 40] [1,2,3,4,5,13,15,18,39] 1
 (.cond 39 (sR [oM 41 2,oM 42 3,oM 43 1,oN (.build 44 [I 0,I 0,I 0,I 0] [(0,1,(.c (I 0))),(1,1,(.c (I 1))),(2,1,(.c (I 1))),(3,1,(.c (I 1)))]),oY 45 67 [41,42,43,44],oM 14 45] [14] 0 .ret) (sR [oE 47 18 8,oM 46 47] [1,2,3,4,5,13,15,18,46] 1 (.cond 46 (sR [oM 48 2,oM 49 3,oM 50 1,oN (.build 51 [I 0,I 0,I 0,I 0] [(0,1,(.c (I 0))),(1,1,(.c (I 1))),(2,1,(.c (I 1))),(3,1,(.c (I 0)))]),oY 52 67 [48,49,50,51],oM 14 52] [14] 0 .ret) (sR [oE 54 18 9,oM 53 54] [1,2,3,4,5,13,15,18,53] 1 (.cond 53 (sR [oM 55 2,oM 56 3,oN (.bin 57 .add 55 56),oM 58 15,oN (.bin 59 .rem 57 58),oM 14 59] [14] 0 .ret) (sR [oE 61 18 10,oM 60 61] [1,2,3,4,5,13,15,18,60] 1 (.cond 60 (sR [oM 62 2,oM 63 15,oN (.bin 64 .add 62 63),oM 65 3,oN (.bin 66 .sub 64 65),oM 67 15,oN (.bin 68 .rem 66 67),oM 14 68] [14] 0 .ret) (sR [oE 70 18 11,oM 69 70] [1,2,3,4,5,13,15,18,69] 1
 (.cond 69 (sR [oM 71 2,oM 72 3,oN (.bin 73 .mul 71 72),oM 74 15,oN (.bin 75 .rem 73 74),oM 14 75] [14] 0 .ret) (sR [oE 77 18 12,oM 76 77] [1,2,3,4,5,13,15,18,76] 1 (.cond 76 (.seq (sR [oM 78 3,oE 79 78 0] [2,3,15,79] 0 (.cond 79 (sR [oM 80 15,oS 81 80 1,oM 14 81] [14] 0 .ret) .skip)) (sR [oM 82 2,oM 83 3,oN (.bin 84 .quo 82 83),oM 14 84] [14] 0 .ret)) (sR [oE 86 18 13,oM 85 86] [1,2,3,4,5,13,15,18,85] 1 (.cond 85 (.seq (sR [oM 87 3,oE 88 87 0] [2,3,88] 0 (.cond 88 (sR [oM 89 2,oM 14 89] [14] 0 .ret) .skip)) (sR [oM 90 2,oM 91 3,oN (.bin 92 .rem 90 91),oM 14 92] [14] 0 .ret)) (sR [oE 94 18 14,oM 93 94] [1,2,3,4,5,13,15,18,93] 1 (.cond 93 (.seq (sR [oM 95 3,oM 96 1,oN (.bin 97 .geq 95 96)] [2,3,15,97] 0 (.cond 97 (sR [oK 14 0] [14] 0 .ret) .skip)) (sR [oM 98 2,oM 99 3,oY 100 27 [99],oN (.bin 101 .mul 98 100),oM 102 15,oN (.bin 103 .rem 101 102),oM 14 103] [14] 0 .ret))
 (sR [oE 105 18 15,oM 104 105] [1,2,3,4,5,13,15,18,104] 1 (.cond 104 (.seq (sR [oM 106 3,oM 107 1,oN (.bin 108 .geq 106 107)] [2,3,108] 0 (.cond 108 (sR [oK 14 0] [14] 0 .ret) .skip)) (sR [oM 109 2,oM 110 3,oY 111 27 [110],oN (.bin 112 .quo 109 111),oM 14 112] [14] 0 .ret)) (sR [oE 114 18 16,oM 113 114] [2,3,4,5,13,15,18,113] 1 (.cond 113 (sR [oM 115 2,oM 116 3,oN (.bin 117 .eql 115 116),oY 118 68 [117],oM 14 118] [14] 0 .ret) (sR [oE 120 18 17,oM 119 120] [2,3,4,5,13,15,18,119] 1 (.cond 119 (sR [oM 121 2,oM 122 3,oW 123 121 122,oY 124 68 [123],oM 14 124] [14] 0 .ret) (sR [oE 126 18 18,oM 125 126] [2,3,4,5,13,15,18,125] 1 (.cond 125 (sQ [oM 127 2,oN (.iaddr 128 1 (some 3) 13 (.c (I 0))),oL 129 128,oY 130 69 [127,129],oM 131 3,oN (.iaddr 132 1 (some 3) 13 (.c (I 1))),oL 133 132,oY 134 69 [131,133],oW 135 130 134,oY 136 68 [135],oM 14 136] [14] 0 .ret)
 (sR [oE 138 18 19,oM 137 138] [2,3,4,5,13,15,18,137] 1 (.cond 137 (.seq (sR [oM 139 2,oE 140 139 1] [3,4,140] 0 (.cond 140 (sR [oM 141 3,oM 14 141] [14] 0 .ret) .skip)) (sR [oM 142 4,oM 14 142] [14] 0 .ret)) (sR [oE 144 18 20,oM 143 144] [2,3,5,13,15,18,143] 1 (.cond 143 (sR [oM 145 2,oN (.iaddr 146 1 (some 3) 13 (.c (I 1))),oL 147 146,oY 148 27 [147],oN (.bin 149 .mul 145 148),oM 150 3,oN (.bin 151 .add 149 150),oM 14 151] [14] 0 .ret) (sR [oE 153 18 21,oM 152 153] [2,5,13,15,18,152] 1 (.cond 152 (sR [oM 154 2,oM 155 5,oY 156 27 [155],oN (.bin 157 .quo 154 156),oM 158 15,oN (.bin 159 .rem 157 158),oM 14 159] [14] 0 .ret) (sR [oE 161 18 23,oM 160 161] [2,13,15,160] 1 (.cond 160 (sR [oM 162 2,oN (.iaddr 163 1 (some 3) 13 (.c (I 0))),oL 164 163,oY 165 69 [162,164],oM 166 15,oN (.bin 167 .add 165 166),oM 168 15,oN (.bin 169 .rem 167 168),oM 14 169] [14] 0 .ret)
 .skip)))))))))))))))))))))))))))))))))))))))) (sR [oM 170 2,oM 14 170] [14] 0 .ret))))
def q8b:IFunc:={np:=7,res:=[.t 14],own:=false,trunc:=true,body:=qe0 }
def qe1:ICode:=(.post (.seq (sR [oM 33 3,oF 34 1 0,oL 35 34,oD 36 35,oW 37 33 36] [1,3,37] 1 (.cond 37 .skip (.exit 0))) (.seq (.block 1 (sR [oF 40 1 0,oL 41 40,oM 42 3,oY 43 72 [41,42],oM 4 43] [1,3,4] 1 (sR [oM 44 4,oN (.bin 45 .neq 44 (.c (I 0)))] [1,3,4,45] 1 (.cond 45 (sR [oM 46 4,oM 2 46] [2] 0 .ret) .skip)))) (pR [oM 38 3,oP 39 38 1,oM 3 39] [1,3] 1))) [1,3] 1)
def q8c:ICode:=(.post (.block 0 (.loop qe1)) [1] 1)
def qe2:ICode:=(.post (.seq (sR [oM 67 8,oM 68 7,oD 69 68,oW 70 67 69] [1,5,6,7,8,70] 1 (.cond 70 .skip (.exit 4))) (.seq (.block 5 (sR [oM 73 7,oM 74 8,oN (.iaddr 75 2 none 73 74),oN (.load 76 true 2 75),oN (.alloc 9 false (.agg [I 0,I 0])),oN (.store false 2 9 76)] [1,5,6,7,8,9] 2 (.seq (sR [oF 77 9 0,oL 78 77,oF 79 1 0,oL 80 79,oD 81 80,oS 82 81 1,oY 83 50 [78,(.c (I 0)),82],oN (.un 84 .not 83),oM 85 84,gF 86 9 1 85,gL 87 86 85,gF 88 1 0 85,gL 89 88 85,gN (.len 90 0 89) 85,gN (.bin 91 .sub 90 (.c (I 1))) 85,gN (.call (some 92) true 50 [87,(.c (I 0)),91]) 85,gN (.un 93 .not 92) 85,oN (.pick 94 85 (.c (.bool true)) 93),oM 95 94,gF 96 1 0 95,gL 97 96 95,gF 98 9 0 95,gL 99 98 95,gN (.iaddr 100 6 none 97 99) 95,gF 101 100 0 95,gL 102 101 95,gN (.bin 103 .neq 102 (.c (I 3))) 95,oN (.pick 104 95 (.c (.bool true)) 103)] [1,5,6,7,8,9,104] 2 (.cond 104 (sR [oK 2 5] [2] 0 .ret) .skip))
 (.seq (sQ [oF 105 1 0,oL 106 105,oF 107 9 0,oL 108 107,oN (.iaddr 109 6 none 106 108),oF 110 109 1,oL 111 110,oF 112 1 0,oL 113 112,oF 114 9 1,oL 115 114,oN (.iaddr 116 6 none 113 115),oF 117 116 1,oL 118 117,oN (.bin 119 .neq 111 118)] [1,5,6,7,8,9,119] 2 (.cond 119 (sR [oK 2 1] [2] 0 .ret) .skip)) (sR [oM 120 6,oE 121 120 0,oM 122 121,gT (.mv 123 5) 122,gT (.faddr 124 9 1) 122,gT (.load 125 false 1 124) 122,gT (.iaddr 126 1 none 123 125) 122,gT (.load 127 false 1 126) 122,oN (.pick 128 122 127 (.c (.bool false)))] [1,5,6,7,8,128] 1 (.cond 128 (sR [oK 2 4] [2] 0 .ret) .skip)))))) (pR [oM 71 8,oP 72 71 1,oM 8 72] [1,5,6,7,8] 1))) [1,5,6,7,8] 1)
def q29:ICode:=(.post (.block 4 (.loop qe2)) [1,5,6] 1)
def q2a:ICode:=(sR [oK 8 0] [1,5,6,7,8] 1 (.cut q29))
def q2b:ICode:=(pR [oM 59 6,oP 60 59 1,oM 6 60] [1,5,6] 1)
def qe3:ICode:=(.post (.seq (sR [oM 57 6,oN (.bin 58 .lss 57 (.c (I 2)))] [1,5,6,58] 1 (.cond 58 .skip (.exit 2))) (.seq (.block 3 (sR [oF 61 1 1,oL 62 61,oT 7 62] [1,5,6,7] 1 (.seq (sR [oM 63 6,oE 64 63 1] [1,5,6,7,64] 1 (.cond 64 (.post (pR [oF 65 1 2,oL 66 65,oT 7 66] [1,5,6,7] 1) [1,5,6,7] 1) (.post .skip [1,5,6,7] 1))) (.cut q2a)))) (.cut q2b))) [1,5,6] 1)
def q8d:ICode:=(.post (.block 2 (.loop qe3)) [1] 1)
def qe4:ICode:=(.post (.seq (sR [oM 145 13,oM 146 12,oW 147 145 146] [1,10,11,12,13,147] 1 (.cond 147 .skip (.exit 10))) (.seq (.block 11 (sQ [oM 150 11,oM 151 12,oN (.iaddr 152 2 none 150 151),oF 153 152 0,oL 154 153,oM 155 11,oM 156 13,oN (.iaddr 157 2 none 155 156),oF 158 157 0,oL 159 158,oN (.bin 160 .eql 154 159)] [1,10,11,12,13,160] 1 (.cond 160 (sR [oK 2 6] [2] 0 .ret) .skip))) (pR [oM 148 13,oP 149 148 1,oM 13 149] [1,10,11,12,13] 1))) [1,10,11,12,13] 1)
def q8e:ICode:=(.post (.block 10 (.loop qe4)) [1,10,11,12] 1)
def q4f:ICode:=(pR [oM 143 12,oP 144 143 1,oM 12 144] [1,10,11,12] 1)
def qe5:ICode:=(.post (.seq (sR [oM 139 12,oM 140 11,oD 141 140,oW 142 139 141] [1,10,11,12,142] 1 (.cond 142 .skip (.exit 8))) (.seq (.block 9 (sR [oK 13 0] [1,10,11,12,13] 1 (.cut q8e))) (.cut q4f))) [1,10,11,12] 1)
def q4g:ICode:=(.post (.block 8 (.loop qe5)) [1,10] 1)
def q2c:ICode:=(sR [oK 12 0] [1,10,11,12] 1 (.cut q4g))
def q2d:ICode:=(pR [oM 131 10,oP 132 131 1,oM 10 132] [1,10] 1)
def qe6:ICode:=(.post (.seq (sR [oM 129 10,oN (.bin 130 .lss 129 (.c (I 2)))] [1,10,130] 1 (.cond 130 .skip (.exit 6))) (.seq (.block 7 (sR [oF 133 1 1,oL 134 133,oT 11 134] [1,10,11] 1 (.seq (sR [oM 135 10,oE 136 135 1] [1,10,11,136] 1 (.cond 136 (.post (pR [oF 137 1 2,oL 138 137,oT 11 138] [1,10,11] 1) [1,10,11] 1) (.post .skip [1,10,11] 1))) (.cut q2c)))) (.cut q2d))) [1,10] 1)
def q8f:ICode:=(.post (.block 6 (.loop qe6)) [1] 1)
def qe7:ICode:=(.post (.seq (sR [oM 175 15,oM 176 14,oD 177 176,oW 178 175 177] [1,14,15,178] 1 (.cond 178 .skip (.exit 12))) (.seq (.block 13 (sQ [oM 181 14,oM 182 15,oA 183 181 182,oL 184 183,oF 185 1 0,oL 186 185,oD 187 186,oS 188 187 1,oY 189 50 [184,(.c (I 0)),188],oN (.un 190 .not 189)] [1,14,15,190] 1 (.cond 190 (sR [oK 2 5] [2] 0 .ret) .skip))) (pR [oM 179 15,oP 180 179 1,oM 15 180] [1,14,15] 1))) [1,14,15] 1)
def q8g:ICode:=(.post (.block 12 (.loop qe7)) [1,14] 1)
def qe8:ICode:=(.post (.seq (sR [oM 191 16,oM 192 14,oD 193 192,oW 194 191 193] [1,14,16,194] 1 (.cond 194 .skip (.exit 14))) (.seq (.block 15 (sQ [oF 197 1 0,oL 198 197,oM 199 14,oM 200 16,oA 201 199 200,oL 202 201,oN (.iaddr 203 6 none 198 202),oF 204 203 1,oL 205 204,oN (.bin 206 .neq 205 (.c (I 1)))] [1,14,16,206] 1 (.cond 206 (sR [oK 2 1] [2] 0 .ret) .skip))) (pR [oM 195 16,oP 196 195 1,oM 16 196] [1,14,16] 1))) [1,14,16] 1)
def q2e:ICode:=(.post (.block 14 (.loop qe8)) [] 0)
def q8h:ICode:=(.seq (.region [oK 2 0] false) .ret)
def q2f:ICode:=(.seq (sR [oK 16 0] [1,14,16] 1 (.cut q2e)) (.cut q8h))
def q4h:ICode:=(.seq (sQ [oF 161 1 2,oL 162 161,oD 163 162,oN (.load 164 true 5 1),oY 165 39 [164,(.c (I 3))],oD 166 165,oN (.bin 167 .neq 163 166)] [1,167] 1 (.cond 167 (sR [oK 2 5] [2] 0 .ret) .skip)) (sQ [oN (.buildSl 168 1 []),oF 169 1 3,oL 170 169,oN (.append 171 1 8 168 170),oF 172 1 4,oL 173 172,oN (.append 174 1 8 171 173),oT 14 174] [1,14] 1 (.seq (sR [oK 15 0] [1,14,15] 1 (.cut q8g)) (.cut q2f))))
def q2g:ICode:=(.seq (sR [oK 10 0] [1,10] 1 (.cut q8f)) (.cut q4h))
def q2h:ICode:=(.seq (sR [oN (.load 47 true 5 1),oY 48 73 [47,(.c (I 2))],oN (.bin 49 .gtr 48 (.c (I 6))),oM 50 49,gN (.load 51 true 5 1) 50,gN (.call (some 52) true 73 [51,(.c (I 3))]) 50,gN (.bin 53 .gtr 52 (.c (I 10))) 50,oN (.pick 54 50 (.c (.bool true)) 53)] [1,54] 1 (.cond 54 (sR [oK 2 2] [2] 0 .ret) .skip)) (sR [oN (.load 55 true 5 1),oY 56 74 [55],oT 5 56] [1,5] 1 (.seq (sR [oK 6 0] [1,5,6] 1 (.cut q8d)) (.cut q2g))))
def qe9:ICode:=(sR [oB 1 0,oK 2 0] [1] 1 (.seq (sR [oF 17 1 0,oL 18 17,oD 19 18,oN (.bin 20 .gtr 19 (.c (I 80))),oM 21 20,gF 22 1 3 21,gL 23 22 21,gN (.len 24 0 23) 21,gN (.bin 25 .gtr 24 (.c (I 8))) 21,oN (.pick 26 21 (.c (.bool true)) 25),oM 27 26,gF 28 1 4 27,gL 29 28 27,gN (.len 30 0 29) 27,gN (.bin 31 .gtr 30 (.c (I 8))) 27,oN (.pick 32 27 (.c (.bool true)) 31)] [1,32] 1 (.cond 32 (sR [oK 2 2] [2] 0 .ret) .skip)) (.seq (sR [oK 3 0] [1,3] 1 (.cut q8c)) (.cut q2h))))
def qu:IFunc:={np:=1,res:=[.t 2],own:=false,trunc:=true,body:=qe9 }
def q2i:ICode:=(pR [oM 12 6,oP 13 12 1,oM 6 13] [1,2,5,6] 1)
def qea:ICode:=(.post (.seq (sR [oM 7 6,oF 8 2 0,oL 9 8,oD 10 9,oW 11 7 10] [1,2,5,6,11] 1 (.cond 11 .skip (.exit 0))) (.seq (.block 1 (sR [oF 14 2 0,oL 15 14,oM 16 6,oN (.iaddr 17 6 none 15 16),oF 18 17 0,oL 19 18,oM 20 1,oN (.bin 21 .eql 19 20)] [1,2,5,6,21] 1 (.cond 21 (.post (pR [oT 22 5,oM 23 6,oN (.buildSl 24 1 [23]),oN (.append 25 1 8 22 24),oT 5 25] [1,2,5,6] 1) [1,2,5,6] 1) (.post .skip [1,2,5,6] 1)))) (.cut q2i))) [1,2,5,6] 1)
def q8i:ICode:=(.post (.block 0 (.loop qea)) [5] 0)
def q8j:ICode:=(sR [oM 26 5,oT 4 26] [4] 0 .ret)
def qeb:ICode:=(sR [oB 2 0,oN (.mv 4 (.c (.sl true 1 [])))] [1,2] 1 (.seq (.region [oN (.mv 5 (.c (.sl true 1 [])))] false) (.seq (sR [oK 6 0] [1,2,5,6] 1 (.cut q8i)) (.cut q8j))))
def q8k:IFunc:={np:=2,res:=[.t 4],own:=false,trunc:=true,body:=qeb }
def qec:ICode:=(sR [oN (.mv 6 (.c (.bool false)))] [0,1,2] 0 (sR [oM 7 0,oM 8 1,oN (.bin 9 .geq 7 8),oM 10 9,gT (.mv 11 0) 10,gT (.mv 12 2) 10,gT (.bin 13 .leq 11 12) 10,oN (.pick 14 10 13 (.c (.bool false))),oM 6 14] [6] 0 .ret))
def q2j:IFunc:={np:=3,res:=[.t 6],own:=false,trunc:=true,body:=qec }
def qed:ICode:=(.post (.seq (sR [oM 8 7,oM 9 1,oW 10 8 9] [1,3,5,7,10] 2 (.cond 10 .skip (.exit 0))) (.seq (.block 1 (sQ [oF 13 3 1,oL 14 13,oM 15 7,oN (.iaddr 16 2 none 14 15),oN (.load 17 true 2 16),oN (.load 18 true 2 5),oN (.eqa 19 false [false,false] 17 18)] [1,3,5,7,19] 2 (.cond 19 (sR [oM 20 7,oM 6 20] [6] 0 .ret) .skip))) (pR [oM 11 7,oP 12 11 1,oM 7 12] [1,3,5,7] 2))) [1,3,5,7] 2)
def q8l:ICode:=(.post (.block 0 (.loop qed)) [] 0)
def q8m:ICode:=(.seq (.region [oN (.mv 6 (.c (I (-1))))] false) .ret)
def qee:ICode:=(sR [oB 3 0,oB 5 2,oK 6 0] [1,3,5] 2 (.seq (sR [oK 7 0] [1,3,5,7] 2 (.cut q8l)) (.cut q8m)))
def q2k:IFunc:={np:=3,res:=[.t 6],own:=false,trunc:=true,body:=qee }
def qef:ICode:=(.post (.seq (sR [oM 11 10,oM 12 2,oW 13 11 12] [0,1,2,7,9,10,13] 1 (.cond 13 .skip (.exit 0))) (.seq (.block 1 (pQ [oM 16 9,oM 17 0,oM 18 10,oY 19 97 [17,18],oN (.bin 20 .mul (.c (I 2)) 19),oM 21 1,oM 22 10,oY 23 97 [21,22],oN (.bin 24 .add 20 23),oN (.iaddr 25 1 (some 4) 7 24),oL 26 25,oM 27 10,oY 28 27 [27],oN (.bin 29 .mul 26 28),oN (.bin 30 .add 16 29),oM 9 30] [0,1,2,7,9,10] 1)) (pR [oM 14 10,oP 15 14 1,oM 10 15] [0,1,2,7,9,10] 1))) [0,1,2,7,9,10] 1)
def q8n:ICode:=(.post (.block 0 (.loop qef)) [9] 0)
def q8o:ICode:=(sR [oM 31 9,oM 8 31] [8] 0 .ret)
def qeg:ICode:=(sR [oB 7 3,oK 8 0] [0,1,2,7] 1 (.seq (.region [oK 9 0] false) (.seq (sR [oK 10 0] [0,1,2,7,9,10] 1 (.cut q8n)) (.cut q8o))))
def q8p:IFunc:={np:=4,res:=[.t 8],own:=false,trunc:=true,body:=qeg }
def qeh:ICode:=(sR [oK 2 0] [0] 0 (.seq (sR [oM 3 0] [3] 0 (.cond 3 (sR [oK 2 1] [2] 0 .ret) .skip)) (sR [oK 2 0] [2] 0 .ret)))
def q2l:IFunc:={np:=1,res:=[.t 2],own:=false,trunc:=true,body:=qeh }
def qei:ICode:=(sR [oK 4 0] [0,1] 0 (.seq (sR [oM 5 0,oM 6 1,oS 7 6 1,oY 8 97 [5,7],oE 9 8 1] [0,1,9] 0 (.cond 9 (sR [oM 10 0,oM 11 1,oY 12 27 [11],oN (.bin 13 .sub 10 12),oM 4 13] [4] 0 .ret) .skip)) (sR [oM 14 0,oM 4 14] [4] 0 .ret)))
def q2m:IFunc:={np:=2,res:=[.t 4],own:=false,trunc:=true,body:=qei }
def qej:ICode:=(.post (.seq (sR [oM 76 7,oN (.bin 77 .lss 76 (.c (I 3)))] [0,1,5,6,7,77] 1 (.cond 77 .skip (.exit 1))) (.seq (.block 2 (sR [oM 80 7,oF 81 5 0,oL 82 81,oY 83 26 [82],oW 84 80 83,oM 85 84,gT (.mv 86 6) 85,gT (.mv 87 7) 85,gT (.iaddr 88 1 none 86 87) 85,gT (.load 89 false 1 88) 85,gT (.mv 90 1) 85,gT (.bin 91 .sub 90 (.c (I 1))) 85,gT (.call (some 92) true 50 [89,(.c (I 0)),91]) 85,gT (.un 93 .not 92) 85,oN (.pick 94 85 93 (.c (.bool false))),oM 95 94,gM 96 7 95,gF 97 5 0 95,gL 98 97 95,gN (.call (some 99) true 26 [98]) 95,gN (.bin 100 .geq 96 99) 95,gM 101 100 95,gT (.mv 102 6) 101,gT (.mv 103 7) 101,gT (.iaddr 104 1 none 102 103) 101,gT (.load 105 false 1 104) 101,gT (.bin 106 .neq 105 (.c (I 0))) 101,gN (.pick 107 101 106 (.c (.bool false))) 95,oN (.pick 108 95 (.c (.bool true)) 107)] [0,1,5,6,7,108] 1 (.cond 108 (sR [oK 4 4] [4] 0 .ret) .skip)))
 (pR [oM 78 7,oP 79 78 1,oM 7 79] [0,1,5,6,7] 1))) [0,1,5,6,7] 1)
def qy:ICode:=(.post (.block 1 (.loop qej)) [0,5] 1)
def qv:ICode:=(sQ [oF 109 5 0,oL 110 109,oF 111 5 1,oL 112 111,oF 113 5 5,oL 114 113,oM 115 0,oN (.load 116 true 6 5),oY 117 102 [115,116],oY 118 23 [110,112,114,117],oM 4 118] [4] 0 .ret)
def qek:ICode:=(sR [oK 4 0] [0,1] 0 (sR [oM 8 0,oM 9 1,oN (.iaddr 10 6 none 8 9),oN (.load 11 true 6 10),oN (.alloc 5 false (.agg [I 0,I 0,I 0,I 0,I 0,I 0])),oN (.store false 6 5 11)] [0,1,5] 1 (.seq (.block 0 (sR [oF 13 5 0,oL 14 13,oY 15 50 [14,(.c (I 1)),(.c (I 23))],oN (.un 16 .not 15),oM 12 16] [0,1,5,12] 1 (.cond 12 (sR [oK 4 7] [4] 0 .ret) (sR [oF 18 5 1,oL 19 18,oY 20 50 [19,(.c (I 1)),(.c (I 8))],oN (.un 21 .not 20),oM 17 21] [0,1,5,17] 1 (.cond 17 (sR [oK 4 3] [4] 0 .ret) (sQ [oF 23 5 0,oL 24 23,oE 25 24 1,oM 26 25,gT (.faddr 27 5 5) 26,gT (.load 28 false 1 27) 26,gT (.faddr 29 5 1) 26,gT (.load 30 false 1 29) 26,gT (.call (some 31) true 27 [30]) 26,gT (.bin 32 .sub 31 (.c (I 1))) 26,gT (.call (some 33) true 50 [28,(.c (I 0)),32]) 26,gT (.un 34 .not 33) 26,oN (.pick 35 26 34 (.c (.bool false))),oM 22 35] [0,1,5,22] 1 (.cond 22 (sR [oK 4 3] [4] 0 .ret) (sR [oF 37 5 0,oL 38 37,
 oN (.bin 39 .leq 38 (.c (I 3))),oM 40 39,gT (.faddr 41 5 0) 40,gT (.load 42 false 1 41) 40,gT (.bin 43 .gtr 42 (.c (I 1))) 40,gT (.mv 44 43) 40,gT (.faddr 45 5 5) 44,gT (.load 46 false 1 45) 44,gT (.bin 47 .neq 46 (.c (I 0))) 44,gT (.pick 48 44 47 (.c (.bool false))) 40,gT (.mv 49 48) 40,gF 50 5 2 49,gL 51 50 49,gN (.bin 52 .neq 51 (.c (I 0))) 49,gT (.pick 53 49 (.c (.bool true)) 52) 40,gT (.mv 54 53) 40,gF 55 5 3 54,gL 56 55 54,gN (.bin 57 .neq 56 (.c (I 0))) 54,gT (.pick 58 54 (.c (.bool true)) 57) 40,gT (.mv 59 58) 40,gF 60 5 4 59,gL 61 60 59,gN (.bin 62 .neq 61 (.c (I 0))) 59,gT (.pick 63 59 (.c (.bool true)) 62) 40,oN (.pick 64 40 63 (.c (.bool false))),oM 36 64] [0,1,5,36] 1 (.cond 36 (sR [oK 4 1] [4] 0 .ret) (sR [oF 66 5 0,oL 67 66,oN (.bin 68 .leq 67 (.c (I 3))),oM 65 68] [0,1,5,65] 1 (.cond 65 (sR [oK 4 0] [4] 0 .ret) .skip)))))))))))
 (sR [oF 69 5 2,oL 70 69,oF 71 5 3,oL 72 71,oF 73 5 4,oL 74 73,oN (.buildSl 75 1 [70,72,74]),oT 6 75] [0,1,5,6] 1 (.seq (sR [oK 7 0] [0,1,5,6,7] 1 (.cut qy)) (.cut qv))))))
def q8q:IFunc:={np:=2,res:=[.t 4],own:=false,trunc:=true,body:=qek }
def q2n:ICode:=(pR [oM 12 6,oP 13 12 1,oM 6 13] [1,2,5,6] 1)
def qel:ICode:=(.post (.seq (sR [oM 7 6,oF 8 2 0,oL 9 8,oD 10 9,oW 11 7 10] [1,2,5,6,11] 1 (.cond 11 .skip (.exit 0))) (.seq (.block 1 (sR [oF 14 2 0,oL 15 14,oM 16 6,oN (.iaddr 17 6 none 15 16),oF 18 17 0,oL 19 18,oM 20 1,oN (.bin 21 .eql 19 20)] [1,2,5,6,21] 1 (.cond 21 (.post (pR [oM 22 5,oF 23 2 0,oL 24 23,oM 25 6,oN (.iaddr 26 6 none 24 25),oF 27 26 1,oL 28 27,oN (.bin 29 .add 22 28),oM 5 29] [1,2,5,6] 1) [1,2,5,6] 1) (.post .skip [1,2,5,6] 1)))) (.cut q2n))) [1,2,5,6] 1)
def q8r:ICode:=(.post (.block 0 (.loop qel)) [5] 0)
def q8s:ICode:=(sR [oM 30 5,oM 4 30] [4] 0 .ret)
def qem:ICode:=(sR [oB 2 0,oK 4 0] [1,2] 1 (.seq (.region [oK 5 0] false) (.seq (sR [oK 6 0] [1,2,5,6] 1 (.cut q8r)) (.cut q8s))))
def q8t:IFunc:={np:=2,res:=[.t 4],own:=false,trunc:=true,body:=qem }
def q1i:ICode:=(pR [oT 63 3,oM 64 6,oN (.buildSl 65 1 [64]),oN (.append 66 1 1 63 65),oT 3 66] [1,3,4] 1)
def q1j:ICode:=(.seq (sR [oF 51 5 0,oL 52 51,oY 53 26 [52],oN (.bin 54 .gtr 53 (.c (I 2)))] [1,3,4,5,6,54] 2 (.cond 54 (.post (pR [oM 55 6,oM 56 55,gM 57 3 56,gF 58 5 4 56,gL 59 58 56,gN (.iaddr 60 1 none 57 59) 56,gL 61 60 56,oN (.pick 62 56 (.c (.bool true)) 61),oM 6 62] [1,3,4,6] 1) [1,3,4,6] 1) (.post .skip [1,3,4,6] 1))) (.cut q1i))
def qz:ICode:=(.seq (sR [oF 39 5 0,oL 40 39,oY 41 26 [40],oN (.bin 42 .gtr 41 (.c (I 1)))] [1,3,4,5,6,42] 2 (.cond 42 (.post (pR [oM 43 6,oM 44 43,gM 45 3 44,gF 46 5 3 44,gL 47 46 44,gN (.iaddr 48 1 none 45 47) 44,gL 49 48 44,oN (.pick 50 44 (.c (.bool true)) 49),oM 6 50] [1,3,4,5,6] 2) [1,3,4,5,6] 2) (.post .skip [1,3,4,5,6] 2))) (.cut q1j))
def q10:ICode:=(pR [oM 12 4,oP 13 12 1,oM 4 13] [1,3,4] 1)
def qen:ICode:=(.post (.seq (sR [oM 7 4,oF 8 1 0,oL 9 8,oD 10 9,oW 11 7 10] [1,3,4,11] 1 (.cond 11 .skip (.exit 0))) (.seq (.block 1 (sR [oF 14 1 0,oL 15 14,oM 16 4,oN (.iaddr 17 6 none 15 16),oN (.load 18 true 6 17),oN (.alloc 5 false (.agg [I 0,I 0,I 0,I 0,I 0,I 0])),oN (.store false 6 5 18)] [1,3,4,5] 2 (sR [oF 19 5 0,oL 20 19,oE 21 20 2,oM 22 21,gF 23 5 0 22,gL 24 23 22,gN (.bin 25 .eql 24 (.c (I 3))) 22,oN (.pick 26 22 (.c (.bool true)) 25),oM 6 26] [1,3,4,5,6] 2 (.seq (sR [oF 27 5 0,oL 28 27,oY 29 26 [28],oN (.bin 30 .gtr 29 (.c (I 0)))] [1,3,4,5,6,30] 2 (.cond 30 (.post (pR [oM 31 6,oM 32 31,gM 33 3 32,gF 34 5 2 32,gL 35 34 32,gN (.iaddr 36 1 none 33 35) 32,gL 37 36 32,oN (.pick 38 32 (.c (.bool true)) 37),oM 6 38] [1,3,4,5,6] 2) [1,3,4,5,6] 2) (.post .skip [1,3,4,5,6] 2))) (.cut qz))))) (.cut q10))) [1,3,4] 1)
def q8u:ICode:=(.post (.block 0 (.loop qen)) [3] 0)
def q8v:ICode:=(sR [oM 67 3,oT 2 67] [2] 0 .ret)
def qeo:ICode:=(sR [oB 1 0,oN (.mv 2 (.c (.sl true 1 [])))] [1] 1 (.seq (.region [oN (.mv 3 (.c (.sl true 1 [])))] false) (.seq (sR [oK 4 0] [1,3,4] 1 (.cut q8u)) (.cut q8v))))
def q8w:IFunc:={np:=1,res:=[.t 2],own:=false,trunc:=true,body:=qeo }
def qep:ICode:=(sR [oK 4 0] [0,1] 0 (sR [oM 5 0,oM 6 1,oY 7 27 [6],oN (.bin 8 .quo 5 7),oN (.bin 9 .rem 8 (.c (I 2))),oM 4 9] [4] 0 .ret))
def q8x:IFunc:={np:=2,res:=[.t 4],own:=false,trunc:=true,body:=qep }
def q2o:ICode:=(sR [oN (.load 37 true 3 5),oN (.store false 3 4 37)] [4] 2 .ret)
def q2p:ICode:=(.seq (sR [oM 28 6,oN (.bin 29 .gtr 28 (.c (I 2)))] [0,3,4,5,29] 3 (.cond 29 (.post (pR [oM 30 0,oF 31 3 4,oL 32 31,oN (.iaddr 33 6 none 30 32),oF 34 33 1,oL 35 34,oN (.iaddr 36 1 (some 3) 5 (.c (I 2))),oN (.store false 1 36 35)] [4,5] 3) [4,5] 3) (.post .skip [4,5] 3))) (.cut q2o))
def q2q:ICode:=(.seq (sR [oM 19 6,oN (.bin 20 .gtr 19 (.c (I 1)))] [0,3,4,5,6,20] 3 (.cond 20 (.post (pR [oM 21 0,oF 22 3 3,oL 23 22,oN (.iaddr 24 6 none 21 23),oF 25 24 1,oL 26 25,oN (.iaddr 27 1 (some 3) 5 (.c (I 1))),oN (.store false 1 27 26)] [0,3,4,5,6] 3) [0,3,4,5,6] 3) (.post .skip [0,3,4,5,6] 3))) (.cut q2p))
def qeq:ICode:=(sR [oB 3 1,oN (.alloc 4 false (.agg [I 0,I 0,I 0]))] [0,3,4] 2 (.seq (.region [oN (.alloc 5 false (.agg [I 0,I 0,I 0]))] false) (sR [oF 7 3 0,oL 8 7,oY 9 26 [8],oM 6 9] [0,3,4,5,6] 3 (.seq (sR [oM 10 6,oN (.bin 11 .gtr 10 (.c (I 0)))] [0,3,4,5,6,11] 3 (.cond 11 (.post (pR [oM 12 0,oF 13 3 2,oL 14 13,oN (.iaddr 15 6 none 12 14),oF 16 15 1,oL 17 16,oN (.iaddr 18 1 (some 3) 5 (.c (I 0))),oN (.store false 1 18 17)] [0,3,4,5,6] 3) [0,3,4,5,6] 3) (.post .skip [0,3,4,5,6] 3))) (.cut q2q)))))
def q8y:IFunc:={np:=2,res:=[.cell 4 true 3],own:=false,trunc:=true,body:=qeq }
def q2r:ICode:=(pR [oM 25 8,oP 26 25 1,oM 8 26] [1,2,5,6,7,8] 1)
def qer:ICode:=(.post (.seq (sR [oM 21 8,oM 22 5,oD 23 22,oW 24 21 23] [1,2,5,6,7,8,24] 1 (.cond 24 .skip (.exit 0))) (.seq (.block 1 (sQ [oF 27 2 1,oL 28 27,oM 29 5,oM 30 8,oA 31 29 30,oL 32 31,oY 33 137 [28,32],oM 9 33] [1,2,5,6,7,8,9] 1 (sR [oM 34 9,oN (.bin 35 .geq 34 (.c (I 0)))] [1,2,5,6,7,8,9,35] 1 (.cond 35 (.post (pR [oT 36 7,oM 37 6,oM 38 9,oA 39 37 38,oL 40 39,oN (.buildSl 41 1 [40]),oN (.append 42 1 8 36 41),oT 7 42] [1,2,5,6,7,8] 1) [1,2,5,6,7,8] 1) (.post (pR [oT 43 7,oM 44 1,oM 45 8,oA 46 44 45,oL 47 46,oN (.buildSl 48 1 [47]),oN (.append 49 1 8 43 48),oT 7 49] [1,2,5,6,7,8] 1) [1,2,5,6,7,8] 1))))) (.cut q2r))) [1,2,5,6,7,8] 1)
def q4i:ICode:=(.post (.block 0 (.loop qer)) [7] 0)
def q8z:ICode:=(sR [oM 50 7,oT 4 50] [4] 0 .ret)
def qes:ICode:=(sR [oB 2 0,oN (.mv 4 (.c (.sl true 1 [])))] [1,2] 1 (sR [oN (.load 10 true 5 2),oY 11 39 [10,(.c (I 3))],oT 5 11] [1,2,5] 1 (sQ [oN (.load 12 true 5 2),oM 13 5,oD 14 13,oN (.mksl 15 false 1 8 (I 0) 14),oN (.load 16 true 5 2),oY 17 39 [16,(.c (I 2))],oD 18 17,oN (.mksl 19 false 1 8 (I 0) 18),oY 20 132 [12,15,19],oT 6 20] [1,2,5,6] 1 (.seq (.region [oN (.mv 7 (.c (.sl true 1 [])))] false) (.seq (sR [oK 8 0] [1,2,5,6,7,8] 1 (.cut q4i)) (.cut q8z))))))
def q90:IFunc:={np:=2,res:=[.t 4],own:=false,trunc:=true,body:=qes }
def qn:ICode:=(pR [oM 21 10,oP 22 21 1,oM 10 22] [1,2,3,7,8,9,10] 1)
def qet:ICode:=(.post (.seq (sR [oM 16 10,oF 17 3 0,oL 18 17,oD 19 18,oW 20 16 19] [1,2,3,7,8,9,10,20] 1 (.cond 20 .skip (.exit 0))) (.seq (.block 1 (sR [oF 23 3 0,oL 24 23,oM 25 10,oN (.iaddr 26 6 none 24 25),oN (.load 27 true 6 26),oN (.alloc 11 false (.agg [I 0,I 0,I 0,I 0,I 0,I 0])),oN (.store false 6 11 27)] [1,2,3,7,8,9,10,11] 2 (sR [oF 28 11 0,oL 29 28] [1,2,3,7,8,9,10,11,29] 2 (.block 2 (sR [oE 60 29 1,oM 59 60] [1,2,3,7,8,9,10,11,29,59] 2 (.cond 59 (.post (pR [oM 61 7,oM 62 10,oF 63 11 5,oL 64 63,oA 65 61 62,oN (.store false 1 65 64)] [1,2,3,7,8,9,10] 1) [1,2,3,7,8,9,10] 1) (.post (sR [oE 67 29 2,oM 66 67] [1,2,3,7,8,9,10,11,29,66] 2 (.cond 66 (.post (sR [oM 68 7,oM 69 10,oM 70 2,oM 71 9,oA 72 70 71,oL 73 72,oA 74 68 69,oN (.store false 1 74 73)] [1,2,3,7,8,9,10] 1 (pR [oM 75 9,oP 76 75 1,oM 9 76] [1,2,3,7,8,9,10] 1)) [1,2,3,7,8,9,10] 1)
 (.post (sR [oE 78 29 3,oM 77 78] [1,2,3,7,8,9,10,11,77] 2 (.cond 77 (.post (sR [oM 79 7,oM 80 10,oM 81 1,oM 82 8,oA 83 81 82,oL 84 83,oA 85 79 80,oN (.store false 1 85 84)] [1,2,3,7,8,9,10] 1 (pR [oM 86 8,oP 87 86 1,oM 8 87] [1,2,3,7,8,9,10] 1)) [1,2,3,7,8,9,10] 1) (.post (pQ [oM 30 7,oM 31 10,oF 32 11 0,oL 33 32,oF 34 11 1,oL 35 34,oM 36 7,oF 37 11 2,oL 38 37,oA 39 36 38,oL 40 39,oM 41 7,oF 42 11 3,oL 43 42,oA 44 41 43,oL 45 44,oM 46 7,oF 47 11 4,oL 48 47,oA 49 46 48,oL 50 49,oF 51 11 5,oL 52 51,oF 53 3 0,oL 54 53,oN (.load 55 true 6 11),oY 56 102 [54,55],oY 57 28 [33,35,40,45,50,52,56],oA 58 30 31,oN (.store false 1 58 57)] [1,2,3,7,8,9,10] 1) [1,2,3,7,8,9,10] 1))) [1,2,3,7,8,9,10] 1))) [1,2,3,7,8,9,10] 1))))))) (.cut qn))) [1,2,3,7,8,9,10] 1)
def q4j:ICode:=(.post (.block 0 (.loop qet)) [7] 0)
def q91:ICode:=(sR [oM 88 7,oT 6 88] [6] 0 .ret)
def qeu:ICode:=(sR [oB 3 0,oN (.mv 6 (.c (.sl true 1 [])))] [1,2,3] 1 (sR [oF 12 3 0,oL 13 12,oD 14 13,oN (.mksl 15 true 1 8 (I 0) 14),oT 7 15] [1,2,3,7] 1 (.seq (.region [oK 8 0,oK 9 0] false) (.seq (sR [oK 10 0] [1,2,3,7,8,9,10] 1 (.cut q4j)) (.cut q91)))))
def q92:IFunc:={np:=3,res:=[.t 6],own:=false,trunc:=true,body:=qeu }
def qev:ICode:=(.post (.seq (sR [oM 10 7,oM 11 5,oD 12 11,oW 13 10 12] [1,2,5,6,7,13] 1 (.cond 13 .skip (.exit 0))) (.seq (.block 1 (pQ [oT 16 6,oM 17 1,oF 18 2 2,oL 19 18,oM 20 5,oM 21 7,oA 22 20 21,oL 23 22,oY 24 137 [19,23],oA 25 17 24,oL 26 25,oN (.buildSl 27 1 [26]),oN (.append 28 1 8 16 27),oT 6 28] [1,2,5,6,7] 1)) (pR [oM 14 7,oP 15 14 1,oM 7 15] [1,2,5,6,7] 1))) [1,2,5,6,7] 1)
def q4k:ICode:=(.post (.block 0 (.loop qev)) [6] 0)
def q93:ICode:=(sR [oM 29 6,oT 4 29] [4] 0 .ret)
def qew:ICode:=(sR [oB 2 0,oN (.mv 4 (.c (.sl true 1 [])))] [1,2] 1 (sR [oN (.load 8 true 5 2),oY 9 39 [8,(.c (I 3))],oT 5 9] [1,2,5] 1 (.seq (.region [oN (.mv 6 (.c (.sl true 1 [])))] false) (.seq (sR [oK 7 0] [1,2,5,6,7] 1 (.cut q4k)) (.cut q93)))))
def q94:IFunc:={np:=2,res:=[.t 4],own:=false,trunc:=true,body:=qew }
def qex:ICode:=(.post (.seq (sR [oM 6 5,oM 7 0,oD 8 7,oW 9 6 8] [0,1,5,9] 0 (.cond 9 .skip (.exit 0))) (.seq (.block 1 (sR [oM 12 0,oM 13 5,oN (.iaddr 14 2 none 12 13),oF 15 14 0,oL 16 15,oM 17 1,oN (.bin 18 .eql 16 17)] [0,1,5,18] 0 (.cond 18 (sR [oM 19 0,oM 20 5,oN (.iaddr 21 2 none 19 20),oF 22 21 1,oL 23 22,oM 4 23] [4] 0 .ret) .skip))) (pR [oM 10 5,oP 11 10 1,oM 5 11] [0,1,5] 0))) [0,1,5] 0)
def q95:ICode:=(.post (.block 0 (.loop qex)) [] 0)
def q96:ICode:=(.seq (.region [oN (.mv 4 (.c (I (-1))))] false) .ret)
def qey:ICode:=(sR [oK 4 0] [0,1] 0 (.seq (sR [oK 5 0] [0,1,5] 0 (.cut q95)) (.cut q96)))
def q2s:IFunc:={np:=2,res:=[.t 4],own:=false,trunc:=true,body:=qey }
def qez:ICode:=(.post (.seq (sR [oM 44 4,oF 45 1 4,oL 46 45,oD 47 46,oW 48 44 47] [1,4,48] 1 (.cond 48 .skip (.exit 0))) (.seq (.block 1 (sQ [oF 51 1 4,oL 52 51,oM 53 4,oA 54 52 53,oL 55 54,oN (.bin 56 .neq 55 (.c (I (-1)))),oM 57 56,gT (.faddr 58 1 0) 57,gT (.load 59 true 2 58) 57,gT (.faddr 60 1 4) 57,gT (.load 61 false 1 60) 57,gT (.mv 62 4) 57,gT (.iaddr 63 1 none 61 62) 57,gT (.load 64 false 1 63) 57,gT (.call (some 65) true 3 [59,64]) 57,gT (.un 66 .not 65) 57,oN (.pick 67 57 66 (.c (.bool false)))] [1,4,67] 1 (.cond 67 (sR [oK 2 5] [2] 0 .ret) .skip))) (pR [oM 49 4,oP 50 49 1,oM 4 50] [1,4] 1))) [1,4] 1)
def q97:ICode:=(.post (.block 0 (.loop qez)) [1] 1)
def q4l:ICode:=(.seq (sR [oF 68 1 0,oN (.load 69 true 2 68),oF 70 1 5,oL 71 70,oY 72 10 [69,71],oN (.un 73 .not 72),oM 74 73,gF 75 1 0 74,gN (.load 76 true 2 75) 74,gF 77 1 6 74,gL 78 77 74,gN (.call (some 79) true 10 [76,78]) 74,gN (.un 80 .not 79) 74,oN (.pick 81 74 (.c (.bool true)) 80),oM 82 81,gF 83 1 0 82,gN (.load 84 true 2 83) 82,gF 85 1 7 82,gL 86 85 82,gN (.call (some 87) true 10 [84,86]) 82,gN (.un 88 .not 87) 82,oN (.pick 89 82 (.c (.bool true)) 88)] [89] 0 (.cond 89 (sR [oK 2 5] [2] 0 .ret) .skip)) (sR [oK 2 0] [2] 0 .ret))
def q98:ICode:=(sR [oB 1 0,oK 2 0] [1] 1 (sR [oF 5 1 0,oN (.load 6 true 2 5),oY 7 2 [6],oM 3 7] [1,3] 1 (.seq (sR [oM 8 3,oN (.bin 9 .neq 8 (.c (I 0)))] [1,3,9] 1 (.cond 9 (sR [oM 10 3,oM 2 10] [2] 0 .ret) .skip)) (.seq (sR [oF 11 1 2,oL 12 11,oN (.bin 13 .lss 12 (.c (I 0))),oM 14 13,gF 15 1 3 14,gL 16 15 14,gN (.bin 17 .lss 16 (.c (I 0))) 14,oN (.pick 18 14 (.c (.bool true)) 17),oM 19 18,gF 20 1 2 19,gL 21 20 19,gF 22 1 3 19,gL 23 22 19,gN (.bin 24 .add 21 23) 19,gF 25 1 0 19,gF 26 25 0 19,gL 27 26 19,gN (.bin 28 .neq 24 27) 19,oN (.pick 29 19 (.c (.bool true)) 28)] [1,29] 1 (.cond 29 (sR [oK 2 4] [2] 0 .ret) .skip)) (.seq (sR [oF 30 1 4,oL 31 30,oD 32 31,oF 33 1 3,oL 34 33,oN (.bin 35 .neq 32 34),oM 36 35,gF 37 1 5 36,gL 38 37 36,gN (.len 39 0 38) 36,gF 40 1 3 36,gL 41 40 36,gN (.bin 42 .neq 39 41) 36,oN (.pick 43 36 (.c (.bool true)) 42)] [1,43] 1 (.cond 43 (sR [oK 2 1] [2] 0 .ret)
 .skip)) (.seq (sR [oK 4 0] [1,4] 1 (.cut q97)) (.cut q4l)))))))
def q99:IFunc:={np:=1,res:=[.t 2],own:=false,trunc:=true,body:=q98 }
def qf0:ICode:=(.post (.seq (sR [oM 15 9,oM 16 8,oD 17 16,oW 18 15 17] [2,3,7,8,9,18] 1 (.cond 18 .skip (.exit 0))) (.seq (.block 1 (sQ [oF 21 3 0,oL 22 21,oM 23 8,oM 24 9,oA 25 23 24,oL 26 25,oN (.iaddr 27 6 none 22 26),oF 28 27 1,oL 29 28,oY 30 27 [29],oM 10 30] [2,3,7,8,9,10] 1 (sR [oT 31 7,oM 32 2,oM 33 10,oN (.bin 34 .rem 32 33),oN (.buildSl 35 1 [34]),oN (.append 36 1 8 31 35),oT 7 36] [2,3,7,8,9,10] 1 (pR [oM 37 2,oM 38 10,oN (.bin 39 .quo 37 38),oM 2 39] [2,3,7,8,9] 1)))) (pR [oM 19 9,oP 20 19 1,oM 9 20] [2,3,7,8,9] 1))) [2,3,7,8,9] 1)
def q9a:ICode:=(.post (.block 0 (.loop qf0)) [7] 0)
def q4m:ICode:=(sR [oM 40 7,oT 6 40] [6] 0 .ret)
def qf1:ICode:=(sR [oB 3 0,oN (.mv 6 (.c (.sl true 1 [])))] [1,2,3] 1 (sR [oN (.buildSl 11 1 []),oT 7 11] [1,2,3,7] 1 (sR [oN (.load 12 true 5 3),oM 13 1,oY 14 39 [12,13],oT 8 14] [2,3,7,8] 1 (.seq (sR [oK 9 0] [2,3,7,8,9] 1 (.cut q9a)) (.cut q4m)))))
def q9b:IFunc:={np:=3,res:=[.t 6],own:=false,trunc:=true,body:=qf1 }
def qf2:ICode:=(.post (.seq (sQ [oM 20 10,oF 21 3 0,oL 22 21,oM 23 8,oM 24 9,oA 25 23 24,oL 26 25,oN (.iaddr 27 6 none 22 26),oF 28 27 1,oL 29 28,oW 30 20 29] [2,3,7,8,9,10,30] 1 (.cond 30 .skip (.exit 2))) (.seq (.block 3 (pR [oT 33 7,oM 34 2,oM 35 9,oA 36 34 35,oL 37 36,oM 38 10,oY 39 97 [37,38],oE 40 39 1,oN (.buildSl 41 1 [40]),oN (.append 42 1 1 33 41),oT 7 42] [2,3,7,8,9,10] 1)) (pR [oM 31 10,oP 32 31 1,oM 10 32] [2,3,7,8,9,10] 1))) [2,3,7,8,9,10] 1)
def q9c:ICode:=(.post (.block 2 (.loop qf2)) [2,3,7,8,9] 1)
def q4n:ICode:=(pR [oM 18 9,oP 19 18 1,oM 9 19] [2,3,7,8,9] 1)
def qf3:ICode:=(.post (.seq (sR [oM 14 9,oM 15 8,oD 16 15,oW 17 14 16] [2,3,7,8,9,17] 1 (.cond 17 .skip (.exit 0))) (.seq (.block 1 (sR [oK 10 0] [2,3,7,8,9,10] 1 (.cut q9c))) (.cut q4n))) [2,3,7,8,9] 1)
def q9d:ICode:=(.post (.block 0 (.loop qf3)) [7] 0)
def q4o:ICode:=(sR [oT 43 7,oT 6 43] [6] 0 .ret)
def qf4:ICode:=(sR [oB 3 0,oN (.mv 6 (.c (.sl true 1 [])))] [1,2,3] 1 (.seq (.region [oN (.mv 7 (.c (.sl true 1 [])))] false) (sR [oN (.load 11 true 5 3),oM 12 1,oY 13 39 [11,12],oT 8 13] [2,3,7,8] 1 (.seq (sR [oK 9 0] [2,3,7,8,9] 1 (.cut q9d)) (.cut q4o)))))
def q9e:IFunc:={np:=3,res:=[.t 6],own:=true,trunc:=true,body:=qf4 }
def qf5:ICode:=(.post (.seq (.region [oN (.bin 26 .lss 25 (.c (I 3)))] false) (.seq (.cond 26 .skip (.exit 0)) (.seq (.block 1 (sR [oM 27 25,oN (.index 28 1 3 false 24 25),oM 11 27,oM 12 28] [0,1,2,7,9,11,12,24,25] 1 (sR [oM 29 11,oM 30 0,oY 31 63 [30],oW 32 29 31,oM 33 32,gT (.mv 34 12) 33,gT (.call (some 35) true 62 [34]) 33,gT (.un 36 .not 35) 33,oN (.pick 37 33 36 (.c (.bool false))),oM 38 37,gM 39 11 38,gM 40 0 38,gN (.call (some 41) true 63 [40]) 38,gN (.bin 42 .geq 39 41) 38,gM 43 42 38,gT (.mv 44 12) 43,gT (.bin 45 .neq 44 (.c (I 0))) 43,gN (.pick 46 43 45 (.c (.bool false))) 38,oN (.pick 47 38 (.c (.bool true)) 46)] [0,1,2,7,9,24,25,47] 1 (.cond 47 (sR [oK 8 3] [8] 0 .ret) .skip)))) (pR [oP 48 25 1,oM 25 48] [0,1,2,7,9,24,25] 1)))) [0,1,2,7,9,24,25] 1)
def q9f:ICode:=(.post (.block 0 (.loop qf5)) [1,2,7,9] 1)
def q9g:ICode:=(.seq (sR [oM 49 9,oM 50 1,oM 51 2,oN (.load 52 true 3 7),oY 53 64 [49,50,51,52],oN (.un 54 .not 53)] [54] 0 (.cond 54 (sR [oK 8 1] [8] 0 .ret) .skip)) (sR [oK 8 0] [8] 0 .ret))
def qf6:ICode:=(sR [oB 7 3,oK 8 0] [0,1,2,7] 1 (sR [oX 14 61 [],oM 15 0,oN (.lookup 16 0 14 15 true (I 0)),oM 13 16,oG 17 13 0,oG 18 13 1,oM 9 17,oM 10 18] [0,1,2,7,9,10] 1 (.seq (sR [oM 19 10,oN (.un 20 .not 19)] [0,1,2,7,9,20] 1 (.cond 20 (sR [oK 8 7] [8] 0 .ret) .skip)) (.seq (sR [oM 21 1,oY 22 62 [21],oN (.un 23 .not 22)] [0,1,2,7,9,23] 1 (.cond 23 (sR [oK 8 3] [8] 0 .ret) .skip)) (.seq (sR [oN (.load 24 true 3 7),oK 25 0] [0,1,2,7,9,24,25] 1 (.cut q9f)) (.cut q9g))))))
def qh:IFunc:={np:=4,res:=[.t 8],own:=false,trunc:=true,body:=qf6 }
def qf7:ICode:=(sR [oN (.mv 0 (.c (.nilm)))] [] 0 (sR [oN (.mkmap 1),oN (.mupd 0 1 (.c (I 4)) (.c (I 1))),oN (.mupd 0 1 (.c (I 5)) (.c (I 1))),oN (.mupd 0 1 (.c (I 6)) (.c (I 2))),oN (.mupd 0 1 (.c (I 7)) (.c (I 2))),oN (.mupd 0 1 (.c (I 8)) (.c (I 2))),oN (.mupd 0 1 (.c (I 9)) (.c (I 2))),oN (.mupd 0 1 (.c (I 10)) (.c (I 2))),oN (.mupd 0 1 (.c (I 11)) (.c (I 2))),oN (.mupd 0 1 (.c (I 12)) (.c (I 2))),oN (.mupd 0 1 (.c (I 13)) (.c (I 2))),oN (.mupd 0 1 (.c (I 14)) (.c (I 2))),oN (.mupd 0 1 (.c (I 15)) (.c (I 2))),oN (.mupd 0 1 (.c (I 16)) (.c (I 3))),oN (.mupd 0 1 (.c (I 17)) (.c (I 3))),oN (.mupd 0 1 (.c (I 18)) (.c (I 3))),oN (.mupd 0 1 (.c (I 19)) (.c (I 4))),oN (.mupd 0 1 (.c (I 20)) (.c (I 5))),oN (.mupd 0 1 (.c (I 21)) (.c (I 6))),oN (.mupd 0 1 (.c (I 22)) (.c (I 7))),oN (.mupd 0 1 (.c (I 23)) (.c (I 7))),oM 2 1,oM 0 2] [0] 0 .ret))
def q9h:IFunc:={np:=0,res:=[.t 0],own:=false,trunc:=false,body:=qf7 }
def qf8:ICode:=(sR [oN (.mv 2 (.c (.bool false)))] [0] 0 (sR [oM 3 0,oN (.bin 4 .geq 3 (.c (I 1))),oM 5 4,gT (.mv 6 0) 5,gT (.bin 7 .leq 6 (.c (I 8))) 5,oN (.pick 8 5 7 (.c (.bool false))),oM 2 8] [2] 0 .ret))
def q2t:IFunc:={np:=1,res:=[.t 2],own:=false,trunc:=true,body:=qf8 }
def q2u:ICode:=(.cond 8 (sR [oK 2 1] [2] 0 .ret) (sR [oE 13 5 4,oM 12 13] [12] 0 (.cond 12 (sR [oK 2 3] [2] 0 .ret) .skip)))
def q2v:ICode:=(sR [oK 2 2] [2] 0 .ret)
def qf9:ICode:=(sR [oK 2 0] [0] 0 (.seq (sR [oX 3 61 [],oM 4 0,oN (.lookup 5 0 3 4 false (I 0))] [5] 0 (.block 0 (sR [oE 7 5 0,oM 6 7] [5,6] 0 (.cond 6 (sR [oK 2 0] [2] 0 .ret) (.seq (sR [oE 9 5 1,oM 8 9] [5,8] 0 (.cond 8 (.post .skip [5,8] 0) (.post (sR [oE 10 5 6,oM 8 10] [5,8] 0 (.cond 8 (.post .skip [5,8] 0) (.post (pR [oE 11 5 7,oM 8 11] [5,8] 0) [5,8] 0))) [5,8] 0))) (.cut q2u)))))) (.cut q2v)))
def qi:IFunc:={np:=1,res:=[.t 2],own:=false,trunc:=true,body:=qf9 }
def qfa:ICode:=(sR [oB 7 3,oN (.mv 8 (.c (.bool false)))] [0,1,2,7] 1 (.seq (sR [oM 9 2,oN (.bin 10 .neq 9 (.c (I 0))),oM 11 10,gT (.mv 12 0) 11,gT (.bin 13 .neq 12 (.c (I 6))) 11,oN (.pick 14 11 13 (.c (.bool false)))] [0,1,2,7,14] 1 (.cond 14 (sR [oN (.mv 8 (.c (.bool false)))] [8] 0 .ret) .skip)) (.seq (sR [oM 15 0] [1,2,7,15] 1 (.block 0 (sR [oE 17 15 1,oM 16 17] [1,2,7,15,16] 1 (.cond 16 (sR [oN (.iaddr 18 1 (some 3) 7 (.c (I 0))),oL 19 18,oM 20 1,oN (.bin 21 .eql 19 20),oM 8 21] [8] 0 .ret) (sR [oE 23 15 2,oM 22 23] [1,2,7,15,22] 1 (.cond 22 (sR [oN (.iaddr 24 1 (some 3) 7 (.c (I 0))),oL 25 24,oM 26 1,oN (.bin 27 .eql 25 26),oM 28 27,gT (.iaddr 29 1 (some 3) 7 (.c (I 1))) 28,gT (.load 30 false 1 29) 28,gT (.mv 31 1) 28,gT (.bin 32 .eql 30 31) 28,oN (.pick 33 28 32 (.c (.bool false))),oM 8 33] [8] 0 .ret) (sR [oE 35 15 3,oM 34 35] [1,2,7,15,34] 1 (.cond 34 (sR [
 oN (.iaddr 36 1 (some 3) 7 (.c (I 0))),oL 37 36,oN (.iaddr 38 1 (some 3) 7 (.c (I 1))),oL 39 38,oN (.bin 40 .eql 37 39),oM 41 40,gT (.mv 42 1) 41,gT (.bin 43 .eql 42 (.c (I 1))) 41,oN (.pick 44 41 43 (.c (.bool false))),oM 8 44] [8] 0 .ret) (sR [oE 46 15 4,oM 45 46] [1,2,7,15,45] 1 (.cond 45 (sR [oN (.iaddr 47 1 (some 3) 7 (.c (I 0))),oL 48 47,oE 49 48 1,oM 50 49,gT (.iaddr 51 1 (some 3) 7 (.c (I 1))) 50,gT (.load 52 false 1 51) 50,gT (.mv 53 1) 50,gT (.bin 54 .eql 52 53) 50,oN (.pick 55 50 54 (.c (.bool false))),oM 56 55,gT (.iaddr 57 1 (some 3) 7 (.c (I 2))) 56,gT (.load 58 false 1 57) 56,gT (.mv 59 1) 56,gT (.bin 60 .eql 58 59) 56,oN (.pick 61 56 60 (.c (.bool false))),oM 8 61] [8] 0 .ret) (sR [oE 63 15 5,oM 62 63] [1,2,7,15,62] 1
 (.cond 62 (sR [oN (.iaddr 64 1 (some 3) 7 (.c (I 0))),oL 65 64,oN (.iaddr 66 1 (some 3) 7 (.c (I 1))),oL 67 66,oN (.bin 68 .add 65 67),oM 69 1,oN (.bin 70 .eql 68 69),oM 8 70] [8] 0 .ret) (sR [oE 72 15 6,oM 71 72] [1,2,7,71] 1 (.cond 71 (sR [oM 73 2,oN (.bin 74 .geq 73 (.c (I 0))),oM 75 74,gT (.mv 76 2) 75,gT (.iaddr 77 1 (some 3) 7 (.c (I 0))) 75,gT (.load 78 false 1 77) 75,gT (.mv 79 1) 75,gT (.bin 80 .sub 78 79) 75,gT (.bin 81 .leq 76 80) 75,oN (.pick 82 75 81 (.c (.bool false))),oM 8 82] [8] 0 .ret) .skip)))))))))))))) (sR [oM 83 1,oN (.iaddr 84 1 (some 3) 7 (.c (I 0))),oL 85 84,oN (.bin 86 .geq 83 85),oM 8 86] [8] 0 .ret))))
def q9i:IFunc:={np:=4,res:=[.t 8],own:=false,trunc:=true,body:=qfa }
def qfb:ICode:=(sR [oN (.mv 4 (.c (.bool false)))] [0,1] 0 (sR [oM 5 0,oN (.bin 6 .geq 5 (.c (I 0))),oM 7 6,gT (.mv 8 0) 7,gT (.mv 9 1) 7,gT (.bin 10 .shl (.c (I 1)) 9) 7,gT (.bin 11 .lss 8 10) 7,oN (.pick 12 7 11 (.c (.bool false))),oM 4 12] [4] 0 .ret))
def q2w:IFunc:={np:=2,res:=[.t 4],own:=false,trunc:=true,body:=qfb }
def qfc:ICode:=(sR [oB 13 6,oK 14 0] [0,1,2,3,4,5,13] 1 (sQ [oM 15 0,oM 16 1,oM 17 2,oM 18 3,oM 19 4,oM 20 5,oN (.load 21 true 3 13),oY 22 96 [15,16,17,18,19,20,21],oM 23 1,oN (.bin 24 .shl (.c (I 1)) 23),oS 25 24 1,oN (.bin 26 .and 22 25),oM 14 26] [14] 0 .ret))
def q9j:IFunc:={np:=7,res:=[.t 14],own:=false,trunc:=true,body:=qfc }
def qfd:ICode:=(sR [oB 13 6,oK 14 0] [0,2,3,4,5,13] 1 (.seq (sR [oM 15 0] [2,3,4,5,13,15] 1 (.block 0 (sR [oE 17 15 4,oM 16 17] [2,3,4,5,13,15,16] 1 (.cond 16 (sR [oM 18 2,oN (.un 19 .xor 18),oM 14 19] [14] 0 .ret) (sR [oE 21 15 5,oM 20 21] [2,3,4,5,13,15,20] 1 (.cond 20 (sR [oM 22 2,oN (.un 23 .neg 22),oM 14 23] [14] 0 .ret) (sR [oE 25 15 6,oM 24 25] [2,3,4,5,13,15,24] 1 (.cond 24 (sR [oM 26 2,oM 27 3,oN (.bin 28 .and 26 27),oM 14 28] [14] 0 .ret) (sR [oE 30 15 7,oM 29 30] [2,3,4,5,13,15,29] 1 (.cond 29 (sR [oM 31 2,oM 32 3,oN (.bin 33 .or 31 32),oM 14 33] [14] 0 .ret) (sR [oE 35 15 8,oM 34 35] [2,3,4,5,13,15,34] 1 (.cond 34 (sR [oM 36 2,oM 37 3,oN (.bin 38 .xor 36 37),oM 14 38] [14] 0 .ret) (sR [oE 40 15 9,oM 39 40] [2,3,4,5,13,15,39] 1 (.cond 39 (sR [oM 41 2,oM 42 3,oN (.bin 43 .add 41 42),oM 14 43] [14] 0 .ret) (sR [oE 45 15 10,oM 44 45] [2,3,4,5,13,15,44] 1
 (.cond 44 (sR [oM 46 2,oM 47 3,oN (.bin 48 .sub 46 47),oM 14 48] [14] 0 .ret) (sR [oE 50 15 11,oM 49 50] [2,3,4,5,13,15,49] 1 (.cond 49 (sR [oM 51 2,oM 52 3,oN (.bin 53 .mul 51 52),oM 14 53] [14] 0 .ret) (sR [oE 55 15 14,oM 54 55] [2,3,4,5,13,15,54] 1 (.cond 54 (sR [oM 56 2,oM 57 3,oN (.bin 58 .shl 56 57),oM 14 58] [14] 0 .ret) (sR [oE 60 15 15,oM 59 60] [2,3,4,5,13,15,59] 1 (.cond 59 (sR [oM 61 2,oM 62 3,oN (.bin 63 .shr 61 62),oM 14 63] [14] 0 .ret) (sR [oE 65 15 16,oM 64 65] [2,3,4,5,13,15,64] 1 (.cond 64 (sR [oM 66 2,oM 67 3,oN (.bin 68 .eql 66 67),oY 69 114 [68],oM 14 69] [14] 0 .ret) (sR [oE 71 15 17,oM 70 71] [2,3,4,5,13,15,70] 1 (.cond 70 (sR [oM 72 2,oM 73 3,oW 74 72 73,oY 75 114 [74],oM 14 75] [14] 0 .ret) (sR [oE 77 15 18,oM 76 77] [2,3,4,5,13,15,76] 1
 (.cond 76 (sQ [oM 78 2,oN (.iaddr 79 1 (some 3) 13 (.c (I 0))),oL 80 79,oY 81 115 [78,80],oM 82 3,oN (.iaddr 83 1 (some 3) 13 (.c (I 1))),oL 84 83,oY 85 115 [82,84],oW 86 81 85,oY 87 114 [86],oM 14 87] [14] 0 .ret) (sR [oE 89 15 20,oM 88 89] [2,3,4,5,13,15,88] 1 (.cond 88 (sR [oM 90 2,oN (.iaddr 91 1 (some 3) 13 (.c (I 1))),oL 92 91,oN (.bin 93 .shl 90 92),oM 94 3,oN (.bin 95 .or 93 94),oM 14 95] [14] 0 .ret) (sR [oE 97 15 21,oM 96 97] [2,3,4,5,13,15,96] 1 (.cond 96 (sR [oM 98 2,oM 99 5,oN (.bin 100 .shr 98 99),oM 14 100] [14] 0 .ret) (sR [oE 102 15 23,oM 101 102] [2,3,4,13,15,101] 1 (.cond 101 (sR [oM 103 2,oN (.iaddr 104 1 (some 3) 13 (.c (I 0))),oL 105 104,oY 106 115 [103,105],oM 14 106] [14] 0 .ret) (sR [oE 108 15 19,oM 107 108] [2,3,4,15,107] 0 (.cond 107 (.seq (sR [oM 109 2,oE 110 109 1] [3,4,110] 0 (.cond 110 (sR [oM 111 3,oM 14 111] [14] 0 .ret) .skip))
 (sR [oM 112 4,oM 14 112] [14] 0 .ret)) (sR [oE 114 15 12,oM 113 114] [2,3,15,113] 0 (.cond 113 (.seq (sR [oM 115 3,oE 116 115 0] [2,3,116] 0 (.cond 116 (sR [oN (.mv 14 (.c (I (-1))))] [14] 0 .ret) .skip)) (sR [oM 117 2,oM 118 3,oN (.bin 119 .quo 117 118),oM 14 119] [14] 0 .ret)) (sR [oE 121 15 13,oM 120 121] [2,3,120] 0 (.cond 120 (.seq (sR [oM 122 3,oE 123 122 0] [2,3,123] 0 (.cond 123 (sR [oM 124 2,oM 14 124] [14] 0 .ret) .skip)) (sR [oM 125 2,oM 126 3,oN (.bin 127 .rem 125 126),oM 14 127] [14] 0 .ret)) .skip)))))))))))))))))))))))))))))))))))))))) (sR [oM 128 2,oM 14 128] [14] 0 .ret)))
def q9k:IFunc:={np:=7,res:=[.t 14],own:=false,trunc:=true,body:=qfd }
def qfe:ICode:=(sR [oK 2 0] [0] 0 (.seq (sR [oM 3 0] [3] 0 (.cond 3 (sR [oK 2 1] [2] 0 .ret) .skip)) (sR [oK 2 0] [2] 0 .ret)))
def q2x:IFunc:={np:=1,res:=[.t 2],own:=false,trunc:=true,body:=qfe }
def qff:ICode:=(sR [oK 4 0] [0,1] 0 (.seq (sR [oM 5 0,oM 6 1,oS 7 6 1,oN (.bin 8 .shl (.c (I 1)) 7),oN (.bin 9 .geq 5 8)] [0,1,9] 0 (.cond 9 (sR [oM 10 0,oM 11 1,oN (.bin 12 .shl (.c (I 1)) 11),oN (.bin 13 .sub 10 12),oM 4 13] [4] 0 .ret) .skip)) (sR [oM 14 0,oM 4 14] [4] 0 .ret)))
def q2y:IFunc:={np:=2,res:=[.t 4],own:=false,trunc:=true,body:=qff }
inductive Ce where
 |any
 |one
 |int (k:IntKind)
 |bool
 |str
 |gp
 |ol (z:Nat)
 deriving Inhabited
inductive Sh where
 |raw
 |ce (c:Ce)
 |agg (l:List Ce)
 |tup (n:Nat)
 deriving Inhabited
def hz0:Nat:=0
def hz1:Nat:=hz0
def hz2:Nat:=hz1
def hz3:Nat:=hz2
def hz4:Nat:=hz3
def hz5:Nat:=hz4
def hz6:Nat:=hz5
def hz7:Nat:=hz6
def hz8:Nat:=hz7
def hz9:Nat:=hz8
def Ct:Nat:=hz9
def Cu:Nat:=Ct
def Cv:Nat:=Cu
def Cw:Nat:=Cv
def Cx:Nat:=Cw
def Cy:Nat:=Cx
def Cz:Nat:=Cy
def CA:Nat:=Cz
def CD:Nat:=CA
def CE:Nat:=CD
def vo:Nat:=CE
def CF:Nat:=vo
def CG:Nat:=CF
def CH:Nat:=CG
def CJ:Nat:=CH
def CK:Nat:=CJ
def CL:Nat:=CK
def CM:Nat:=CL
def CN:Nat:=CM
def CO:Nat:=CN
def vp:Nat:=CO
def CP:Nat:=vp
def CQ:Nat:=CP
def CR:Nat:=CQ
def CT:Nat:=CR
def CU:Nat:=CT
def CV:Nat:=CU
def CW:Nat:=CV
def CX:Nat:=CW
def CY:Nat:=CX
def CZ:Nat:=CY
def C2:Nat:=CZ
def C3:Nat:=C2
def C8:Nat:=C3
def C9:Nat:=C8
def fQ:Nat:=C9
def Da:Nat:=fQ
def Db:Nat:=Da
def Dc:Nat:=Db
def Dd:Nat:=Dc
def De:Nat:=Dd
def Df:Nat:=De
def Dg:Nat:=Df
def Dh:Nat:=Dg
def Di:Nat:=Dh
def Dj:Nat:=Di
def Dk:Nat:=Dj
def Dl:Nat:=Dk
def Dm:Nat:=Dl
def Dn:Nat:=Dm
def Do:Nat:=Dn
def Dp:Nat:=Do
def Dq:Nat:=Dp
def Dr:Nat:=Dq
def Ds:Nat:=Dr
def Dt:Nat:=Ds
def Du:Nat:=Dt
def Dv:Nat:=Du
def Dw:Nat:=Dv
def Dx:Nat:=Dw
def kS:Nat:=Dx
section
variable {R:Type} {α:Type}
def ob0 (x:Option α) (f:α->Option R):Option R:=match x with|some a=>f a|none=>none
def gd0 (b:Bool) (x:Option R):Option R:=match b with|true=>x|false=>none
def ob (x:Option α) (f:α->Option R):Option R:=(λ_:Nat=>
 match x with|some a=>f a|none=>none) fQ
def gd (b:Bool) (x:Option R):Option R:=(λ_:Nat=>
 match b with|true=>x|false=>none) fQ
def gb (b:Bool) (x:Option R):Option R:=(λ_:Nat=>
 match b with|true=>x|false=>none) fQ
def br (_:Nat) (b:Bool) (x y:Option R):Option R:=(λ_:Nat=>
 match b with|true=>x|false=>y) fQ
def kR (x:Option (ag×St)) (k:ag->St->Option R):Option R:=match x with|some (e,s)=>k e s|none=>none
def nx (e:ag) (s:St) (k:ag->St->Option R) (f:St->Option R):Option R:=(λ_:Nat=>
 match e with| .normal=>f s|e=>k e s) kS
def bk (id:Nat) (e:ag) (s:St) (k:ag->St->Option R):Option R:=match e with| .exit i=>br 0 (Nat.beq i id) (k .normal s) (k (.exit i) s)|e=>k e s
def fG (k:IntKind) (a b:Int):Int:=k.wrap (BitVec.ofInt k.bits a &&&BitVec.ofInt k.bits b).toNat
def iOr (k:IntKind) (a b:Int):Int:=k.wrap (BitVec.ofInt k.bits a |||BitVec.ofInt k.bits b).toNat
def fH (k:IntKind) (a b:Int):Int:=k.wrap (BitVec.ofInt k.bits a ^^^BitVec.ofInt k.bits b).toNat
def dH (k:IntKind) (a b:Int):Int:=k.wrap (a*2^(min b.toNat k.bits))
def fa (k:IntKind) (a b:Int):Int:=a.fdiv (2^(min b.toNat k.bits))
def jY (k:IntKind) (n:Int):Int:=k.wrap (BitVec.ofInt k.bits (if k.signed then -1 else k.max) ^^^BitVec.ofInt k.bits n).toNat
def rn:IntKind->Nat
 | .i8=>0| .i16=>1| .i32=>2| .i64=>3| .u8=>4| .u16=>5| .u32=>6| .u64=>7
def kE (k k':IntKind) (x:Option R):Option R:=gb (Nat.beq (rn k) (rn k')) x
def Fn:Nat->Type->Type
 |0,R=>R
 |n+1,R=>PV->Fn n R
def kT:(n:Nat)->(List PV->R)->Fn n R
 |0,g=>g []
 |n+1,g=>λc=>kT n λl=>g (c::l)
def unN:(n:Nat)->List PV->Fn n (Option R)->Option R
 |0,[],f=>f
 |n+1,c::l,f=>unN n l (f c)
 |_,_,_=>none
def isC (v:PV) (x:Option R):Option R:=(λ_:Nat=>
 match v with| .agg _=>none|_=>x) fQ
def stK (nl:Nat) (v:PV) (x:Option R):Option R:=(λ_:Nat=>
 match v with
  | .ptr false b _=>gb (Nat.ble (b+1) nl) x
  | .bs false b _ _ _=>gb (Nat.ble (b+1) nl) x
  |_=>x) fQ
def onK (v:PV) (x:Option R):Option R:=(λ_:Nat=>
 match v with
  | .und| .agg _| .tup _| .ptr false _ _| .bs false _ _ _ _| .arr _ _| .junk=>none
  |_=>x) fQ
def arL:List PV->Option R->Option R
 |[],x=>x
 |c::l,x=>onK c (arL l x)
def arK (v:PV) (x:Option R):Option R:=(λ_:Nat=>
 match v with
  | .agg cs=>arL cs x
  | .und| .tup _| .ptr false _ _| .bs false _ _ _ _| .arr _ _| .junk=>none
  |_=>x) fQ
def eS:List PV->Option R->Option R
 |[],x=>x
 |v::l,x=>arK v (eS l x)
def iD:List PV->Nat->Bool
 |[],0=>true
 |_::l,n+1=>iD l n
 |_,_=>false
def geB:List PV->Nat->Bool
 |_,0=>true
 |_::l,n+1=>geB l n
 |[],_+1=>false
def lnK (z:Nat) (v:PV) (x:Option R):Option R:=(λ_:Nat=>
 match v with
  | .agg cs=>gb (iD cs z) x
  |_=>gb (Nat.beq 1 z) x) fQ
def slK (z:Nat):List PV->Option R->Option R
 |[],x=>x
 |v::l,x=>arK v (lnK z v (slK z l x))
def vq:PV->Bool
 | .ptr _ _ _| .ep _ _| .fn _ _=>true
 |_=>false
def unI (k:IntKind) (v:PV) (f:Int->Option R):Option R:=(λ_:Nat=>
 match v with| .int k' n=>kE k' k (f n)|_=>none) fQ
def kU (v:PV) (f:Int->Option R):Option R:=(λ_:Nat=>
 match v with| .int _ n=>f n|_=>none) fQ
def unB (v:PV) (f:Bool->Option R):Option R:=(λ_:Nat=>
 match v with| .bool b=>f b|_=>none) fQ
def unS (v:PV) (f:ByteArray->Option R):Option R:=(λ_:Nat=>
 match v with| .str b=>f b|_=>none) fQ
def unG (v:PV) (f:Nat->Nat->Option R):Option R:=(λ_:Nat=>
 match v with| .ptr true b off=>f b off|_=>none) fQ
def unO (z:Nat) (v:PV) (f:List PV->Option R):Option R:=match v with| .sl true z' xs=>gb (Nat.beq z' z) (f xs)|_=>none
def unA (n:Nat) (v:PV) (f:Fn n (Option R)):Option R:=match v with| .agg cs=>unN n cs f|_=>none
def unT (n:Nat) (v:PV) (f:Fn n (Option R)):Option R:=match v with| .tup cs=>unN n cs f|_=>none
def nilB (v:PV) (f:Bool->Option R):Option R:=match v with| .nilI=>f true| .someI=>f false|_=>none
def nG (c:Ce) (v:PV) (f:PV->Option R):Option R:=
 match c with
 | .any=>f v
 | .one=>isC v (f v)
 | .int k=>unI k v λn=>f (.int k n)
 | .bool=>unB v λb=>f (.bool b)
 | .str=>unS v λb=>f (.str b)
 | .gp=>unG v λb off=>f (.ptr true b off)
 | .ol z=>unO z v λxs=>f (.sl true z xs)
def lV:List Ce->List PV->(List PV->Option R)->Option R
 |[],[],f=>f []
 |c::cs,v::vs,f=>nG c v λv=>lV cs vs λvs=>f (v::vs)
 |_,_,_=>none
def cast (h:Sh) (v:PV) (f:PV->Option R):Option R:=
 match h with
 | .raw=>f v
 | .ce c=>nG c v f
 | .agg l=>unA l.length v (kT l.length λcs=>lV l cs λcs=>f (.agg cs))
 | .tup n=>unT n v (kT n λvs=>f (.tup vs))
inductive Tr where
 |nil
 |node (n:Nat) (h:Sh) (l r:Tr)
def nH:Tr->Nat->Sh
 | .nil,_=> .raw
 | .node n h l r,t=>match Nat.beq n t with
  |true=>h
  |false=>match Nat.ble n t with
   |true=>nH r t
   |false=>nH l t
def shX (an:Tr):IX->Sh
 | .t n=>nH an n
 | .c _=> .raw
 | .f _=> .raw
def gv:List (Nat×PV)->Nat->Option PV
 |[],_=>none
 |(a,v)::l,t=>match Nat.beq a t with
  |true=>some v
  |false=>gv l t
def fg:List (Nat×PV)->Nat->PV->(List (Nat×PV)->Option R)->Option R
 |[],t,v,k=>(λ_:Nat=>k [(t,v)]) kS
 |(a,u)::l,t,v,k=>match Nat.beq a t with
  |true=>k ((t,v)::l)
  |false=>fg l t v λl=>k ((a,u)::l)
def ro:List α->α->(List α->Option R)->Option R
 |[],v,k=>(λ_:Nat=>k [v]) kS
 |u::l,v,k=>ro l v λl=>k (u::l)
def lW:List α->Nat->α->(List α->Option R)->Option R
 |[],_,_,k=>(λ_:Nat=>k []) kS
 |_::l,0,v,k=>k (v::l)
 |u::l,i+1,v,k=>lW l i v λl=>k (u::l)
def jv:List α->Nat->Option α
 |[],_=>none
 |u::_,0=>some u
 |_::l,i+1=>jv l i
def ma:Nat->List α->(List α->Option R)->Option R
 |0,_,k=>(λ_:Nat=>k []) kS
 |_,[],k=>k []
 |n+1,u::l,k=>ma n l λl=>k (u::l)
def evX (e:List (Nat×PV)):IX->Option PV
 | .t n=>match gv e n with
  |some v=>some (degr v)
  |none=>none
 | .c v=>some (degr v)
 | .f id=>some (.fn id [])
def evK (e:List (Nat×PV)):IX->Option PV
 | .t n=>match gv e n with
  |some v=>some (degr v)
  |none=>none
 | .c v=>some v
 | .f id=>some (.fn id [])
def gG (e:List (Nat×PV)):List IX->(List PV->Option R)->Option R
 |[],k=>(λ_:Nat=>k []) kS
 |x::l,k=>match evX e x with
  |some v=>gG e l λvs=>k (v::vs)
  |none=>none
def tkX (e:List (Nat×PV)) (x:IX) (k:PV->List (Nat×PV)->Option R):Option R:=
 match x with
 | .t n=>match gv e n with
  |some v=>fg e n (degr v) λe=>k v e
  |none=>none
 | .c v=>k v e
 | .f id=>k (.fn id []) e
def fR (s:St) (d:Nat) (v:PV) (k:St->Option R):Option R:=fg s.env d v λe=>k ⟨e,s.lh,s.gh⟩
def jw (h:Sh) (v:PV) (f:List PV->Option R):Option R:=
 match h with
 | .ce _=>isC v (f [v])
 |_=>f v.cells
def fo (an:Tr) (s:St) (d:Nat) (v:PV) (k:St->Option R):Option R:=cast (nH an d) v λw=>fR s d w k
def ci (gh:List GObj) (b:Nat):Option (List PV):=match gh[b]? with|some (.cells cs)=>some cs|_=>none
def iW (gh:List GObj) (b:Nat):Option (List (PV×PV)):=match gh[b]? with|some (.map es)=>some es|_=>none
def ldX (lh:List (List PV)) (gh:List GObj) (agg:Bool) (k:Nat) (p:PV) (f:PV->Option R):Option R:=
 (λ_:Nat=>
 match p with
 | .ptr false b off=>match jv lh b with
  |some cs=>(match bp agg k off cs with|some v=>f (degr v)|none=>none)
  |none=>none
 | .ptr true b off=>ob0 (ci gh b) λcs=>ob0 (bp agg k off cs) λv=>f (degr v)
 | .ep e off=>ob0 (bp agg k off e.cells) f
 |_=>none) vo
def eU (k off:Nat) (cs old:List PV):Bool:=iD cs k&&geB old (off+k)
def nJ (s:St) (p:PV) (kk:Nat) (cs:List PV) (k:St->Option R):Option R:=
 match p with
 | .ptr false b off=>match jv s.lh b with
  |some old=>gb (eU kk off cs old) (lW s.lh b (bj old off cs) λlh=>k ⟨s.env,lh,s.gh⟩)
  |none=>none
 | .ptr true b off=>ob (ci s.gh b) λold=>gb (eU kk off cs old) (k ⟨s.env,s.lh,s.gh.set b (.cells (bj old off cs))⟩)
 |_=>none
def psX (an:Tr) (e:List (Nat×PV)):List (Nat×Nat×IX)->List PV->(List PV->Option R)->Option R
 |[],z,f=>f z
 |(off,k,x)::l,z,f=>match evX e x with
  |some v=>arK v (jw (shX an x) v λcs=>gb (eU k off cs z) (psX an e l (bj z off cs) f))
  |none=>none
def psT (an:Tr):List (Nat×PV)->List (Nat×Nat×IX)->List PV->(List (Nat×PV)->List PV->Option R)->Option R
 |e,[],z,f=>f e z
 |e,(off,k,x)::l,z,f=>tkX e x λv e1=>arK v (jw (shX an x) v λcs=>gb (eU k off cs z) (psT an e1 l (bj z off cs) f))
def fp (n:Int) (bytes z:Nat) (zero:PV):Bool:=decide (0<=n/\n*bytes<=maxBytes/\zero.cells.length=z/\ar zero=true)
def boX (e:List (Nat×PV)) (x:Option IX) (f:Option Int->Option R):Option R:=
 match x with
 |none=>f none
 |some x=>match evX e x with
  |some v=>kU v λn=>f (some n)
  |none=>none
def bd (d:Nat) (x:Option Int) (f:Nat->Option R):Option R:=match x with|none=>f d|some i=>gd0 (decide (0<=i)) (f i.toNat)
def slX (z:Nat) (v:PV) (lo hi:Option Int) (f:PV->Option R):Option R:=
 match v with
 | .sl _ z' xs=>bd xs.length hi λh=>bd 0 lo λl=>gd0 (decide (l<=h/\h<=xs.length/\z=z')) (f (.sl false z ((xs.take h).drop l)))
 | .bs g b off n z'=>bd n hi λh=>bd 0 lo λl=>gd0 (decide (l<=h/\h<=n/\z=z')) (f (.bs g b (off+l*z) (h-l) z))
 | .stk b gen n=>match lo with
  |none=>bd n hi λh=>gd0 (decide (h<=n/\z=1)) (f (.stk b gen h))
  |some lo=>bd n hi λh=>bd 0 (some lo) λl=>gd0 (decide (l<=h/\h<=n/\z=1)) (f (.sub b gen l (h-l)))
 | .sub b gen off n=>bd n hi λh=>bd 0 lo λl=>gd0 (decide (l<=h/\h<=n/\z=1)) (f (.sub b gen (off+l) (h-l)))
 |_=>none
def ssX (v:PV) (lo hi:Option Int) (f:ByteArray->Option R):Option R:=
 match v with
 | .str b=>bd b.size hi λh=>bd 0 lo λl=>gd (decide (l<=h/\h<=b.size)) (f (b.extract l h))
 |_=>none
def faX (p:PV) (off:Nat) (f:PV->Option R):Option R:=
 (λ_:Nat=>
 match p with
 | .ptr g b o=>f (.ptr g b (o+off))
 | .ep e o=>f (.ep e (o+off))
 |_=>none) vp
def fdX (v:PV) (agg:Bool) (k off:Nat) (f:PV->Option R):Option R:=
 match v with
 | .agg cs=>ob (bp agg k off cs) f
 |_=>none
def idX (z:Nat) (arr:Option Nat) (v:PV) (i:Int) (f:PV->Option R):Option R:=
 match arr,v with
 |none,.sl _ z' xs=>gd0 (decide (0<=i/\z=z')) (ob0 xs[i.toNat]? λe=>f (.ep e 0))
 |none,.bs g b off n z'=>gd0 (decide (0<=i/\i<n/\z=z')) (f (.ptr g b (off+i.toNat*z)))
 |some m,.ptr g b o=>gd0 (decide (0<=i/\i<m)) (f (.ptr g b (o+i.toNat*z)))
 |some m,.ep e o=>gd0 (decide (0<=i/\i<m)) (f (.ep e (o+i.toNat*z)))
 |none,.stk b gen n=>gd0 (decide (0<=i/\i<n/\z=1)) (f (.pstk b gen i.toNat))
 |none,.sub b gen off n=>gd0 (decide (0<=i/\i<n/\z=1)) (f (.pstk b gen (off+i.toNat)))
 |_,_=>none
def ixX (v:PV) (z arr:Nat) (agg:Bool) (i:Int) (f:PV->Option R):Option R:=
 match v with
 | .agg cs=>gd (decide (0<=i/\i<arr)) (ob (bp agg z (i.toNat*z) cs) f)
 |_=>none
def isX (v:PV) (i:Int) (f:Int->Option R):Option R:=
 match v with
 | .str b=>gd (decide (0<=i)) (ob b[i.toNat]? λu=>f u.toNat)
 |_=>none
def lkX (gh:List GObj) (kn:Nat) (m k:PV) (f:Option PV->Option R):Option R:=
 match m with
 | .mp b=>ob (iW gh b) λes=>gd (eC kn k) (ob (fu kn es k) f)
 |_=>none
def muX (gh:List GObj) (kn:Nat) (m k v:PV) (f:List GObj->Option R):Option R:=
 match m with
 | .mp b=>ob (iW gh b) λes=>gd (ar k&&(ar v&&eC kn k)) (ob (eZ kn es k v) λes'=>f (gh.set b (.map es')))
 |_=>none
def bg (v:PV) (f:Nat->Option R):Option R:=match v with| .sl _ _ xs=>f xs.length| .bs _ _ _ n _=>f n| .stk _ _ n=>f n| .sub _ _ _ n=>f n| .nils=>f 0|_=>none
def kV (gh:List GObj) (v:PV) (f:Nat->Option R):Option R:=match v with| .mp b=>ob (iW gh b) λes=>f es.length|_=>none
def apX (z bytes:Nat) (v w:PV) (f:List PV->Option R):Option R:=
 match w,v with
 | .sl _ z2 ys,.sl o z1 xs=>gd (decide (o=true/\z1=z/\z2=z/\(xs.length+ys.length)*bytes<=maxBytes)) (f (xs++ys))
 |_,_=>none
def jx (gh:List GObj) (b:Nat):Option (Nat×List PV):=match gh[b]? with|some (.stk g xs)=>some (g,xs)|_=>none
def akX (gh:List GObj) (bytes:Nat) (v w:PV) (f:List GObj->PV->Option R):Option R:=
 ob (gC gh w) λys=>match v with
  | .stk b gen n=>ob (jx gh b) λp=>gd (decide (p.1=gen/\n<=p.2.length/\(n+ys.length)*bytes<=maxBytes/\gY b w=true/\ys.all cx=true)) (f (gh.set b (.stk (p.1+1) (p.2.take n++ys))) (.stk b (p.1+1) (n+ys.length)))
  |_=>none
def anX (gh:List GObj) (bytes:Nat) (v w:PV) (f:List GObj->PV->Option R):Option R:=
 match v with
 | .nils=>ob (gC gh w) λys=>gd (decide (ys≠[]/\ys.length*bytes<=maxBytes/\ys.all cx=true)) (f (gh++[.stk 0 ys]) (.stk gh.length 0 ys.length))
 |v=>akX gh bytes v w f
def lkK (gh:List GObj) (v:PV) (f:PV->Option R):Option R:=match v with| .pstk b gen i=>ob (iQ gh b gen i) f|_=>none
def exX (v:PV) (i:Nat) (f:PV->Option R):Option R:=match v with| .tup vs=>ob vs[i]? f|_=>none
noncomputable def callR (gh:List GObj) (q:Bool) (x:Option (PV×List GObj)) (f:PV->List GObj->Option R):Option R:=
 open Classical in
 match x with|some (r,gh')=>(match q with|true=>(if gh'=gh then f r gh else none)|false=>f r gh')|none=>none
def jZ (vs:List PV) (x:Option (PV×List GObj)) (f:PV->Option R):Option R:=
 gd (dL vs) (match x with|some (r,[])=>gd r.noG (f r)|_=>none)
def elK (gh:List GObj) (vs:List PV) (k:List PV->Option R):Option R:=match tJ gh vs with|some us=>k us|none=>none
def callE (us:List PV) (x:Option (PV×List GObj)) (f:PV->Option R):Option R:=
 gd (dL us) (match x with|some (r,[])=>gd (cx r) (f r)|_=>none)
def fnX (v:PV) (f:Nat->List PV->Option R):Option R:=match v with| .fn i cs=>f i cs|_=>none
def fnY (v:PV) (f:Nat->List PV->(List PV->List PV)->Option R):Option R:=match v with| .fn i cs=>f i cs (λvs=>vs++cs)| .bfn i cs=>f i cs (λvs=>cs++vs)|_=>none
def mc (s:St) (d:Nat) (g:Bool) (cs:List PV) (k:St->Option R):Option R:=
 match g with
 |true=>fg s.env d (.ptr true s.gh.length 0) λe=>k ⟨e,s.lh,s.gh++[.cells cs]⟩
 |false=>fg s.env d (.ptr false s.lh.length 0) λe=>ro s.lh cs λlh=>k ⟨e,lh,s.gh⟩
def rq (op:BinOp) (a b:PV) (f:PV->Option R):Option R:=
 match a,b with
 | .int k x,.int k' y=>match op with
  | .add=>kE k k' (f (.int k (k.wrap (x+y))))
  | .sub=>kE k k' (f (.int k (k.wrap (x-y))))
  | .mul=>kE k k' (f (.int k (k.wrap (x*y))))
  | .quo=>kE k k' (gd (decide (y≠0)) (f (.int k (k.wrap (x.tdiv y)))))
  | .rem=>kE k k' (gd (decide (y≠0)) (f (.int k (x.tmod y))))
  | .and=>kE k k' (f (.int k (fG k x y)))
  | .or=>kE k k' (f (.int k (iOr k x y)))
  | .xor=>kE k k' (f (.int k (fH k x y)))
  | .eql=>kE k k' (f (.bool (x==y)))
  | .neq=>kE k k' (f (.bool (x !=y)))
  | .lss=>kE k k' (f (.bool (decide (x<y))))
  | .leq=>kE k k' (f (.bool (decide (x<=y))))
  | .gtr=>kE k k' (f (.bool (decide (y<x))))
  | .geq=>kE k k' (f (.bool (decide (y<=x))))
  | .shl=>gd (decide (0<=y)) (f (.int k (dH k x y)))
  | .shr=>gd (decide (0<=y)) (f (.int k (fa k x y)))
  |op=>ob (gU op (.int k x) (.int k' y)) f
 | .str x,.str y=>match op with
  | .eql=>f (.bool (x.toList==y.toList))
  | .neq=>f (.bool (!(x.toList==y.toList)))
  |op=>ob (gU op (.str x) (.str y)) f
 |_,_=>none
def unX (op:UnOp) (a:PV) (f:PV->Option R):Option R:=
 match op,a with
 | .neg,.int k n=>f (.int k (k.wrap (0-n)))
 | .xor,.int k n=>f (.int k (jY k n))
 | .not,.bool b=>f (.bool (!b))
 |_,_=>none
def iX (an:Tr) (s:St) (d:Option Nat) (v:PV) (k:St->Option R):Option R:=
 match d with
 |some d=>fo an s d v k
 |none=>k s
noncomputable def qfg (cf:CallF) (an:Tr) (s:St) (k:St->Option R) (d:Nat) (x:IX):Option R:=match evK s.env x with
  |some v=>fo an s d v k
  |none=>none
noncomputable def qfh (cf:CallF) (an:Tr) (s:St) (k:St->Option R) (d:Nat) (n:Nat):Option R:=match gv s.env n with
  |some v=>fg s.env n (degr v) λe=>fg e d v λe=>k ⟨e,s.lh,s.gh⟩
  |none=>none
noncomputable def qfi (cf:CallF) (an:Tr) (s:St) (k:St->Option R) (d:Nat) (c:IX) (x:IX) (y:IX):Option R:=match evX s.env c,evX s.env x,evX s.env y with
  |some c,some v,some w=>unB c λb=>br d b (fo an s d v k) (fo an s d w k)
  |_,_,_=>none
noncomputable def q9l (cf:CallF) (an:Tr) (s:St) (k:St->Option R) (d:Nat) (g:Bool) (x:IX):Option R:=tkX s.env x λv e=>arK v (jw (shX an x) v λcs=>mc ⟨e,s.lh,s.gh⟩ d g cs k)
noncomputable def q9m (cf:CallF) (an:Tr) (s:St) (k:St->Option R) (d:Nat) (g:Bool) (x:IX):Option R:=match evX s.env x with
  |some v=>arK v (jw (shX an x) v λcs=>mc s d g cs k)
  |none=>none
noncomputable def qfj (cf:CallF) (an:Tr) (s:St) (k:St->Option R) (d:Nat) (g:Bool) (z:PV):Option R:=arK z (mc s d g z.cells k)
noncomputable def qfk (cf:CallF) (an:Tr) (s:St) (k:St->Option R) (d:Nat) (z:List PV) (ps:List (Nat×Nat×IX)):Option R:=arL z (psX an s.env ps z λcs=>fR s d (.agg cs) k)
noncomputable def qfl (cf:CallF) (an:Tr) (s:St) (k:St->Option R) (d:Nat) (z:List PV) (ps:List (Nat×Nat×IX)):Option R:=arL z (psT an s.env ps z λe cs=>fg e d (.agg cs) λe=>k ⟨e,s.lh,s.gh⟩)
noncomputable def qfm (cf:CallF) (an:Tr) (s:St) (k:St->Option R) (d:Nat) (z:Nat) (els:List IX):Option R:=gG s.env els λvs=>slK z vs (fR s d (.sl true z vs) k)
noncomputable def qfn (cf:CallF) (an:Tr) (s:St) (k:St->Option R) (d:Nat) (agg:Bool) (kk:Nat) (a:IX):Option R:=match evX s.env a with
  |some p=>ldX s.lh s.gh agg kk p λv=>fo an s d v k
  |none=>none
noncomputable def qfo (cf:CallF) (an:Tr) (s:St) (k:St->Option R) (d:Nat) (a:IX):Option R:=match evX s.env a with
  |some (.ptr false b off)=>match jv s.lh b with
   |some cs=>ob cs[off]? λv=>lW s.lh b (bj cs off [aa v]) λlh=>fg s.env d v λe=>k ⟨e,lh,s.gh⟩
   |none=>none
  |some (.ptr true b off)=>ob (ci s.gh b) λcs=>ob cs[off]? λv=>fg s.env d v λe=>k ⟨e,s.lh,s.gh.set b (.cells (bj cs off [aa v]))⟩
  |_=>none
noncomputable def qfp (cf:CallF) (an:Tr) (s:St) (k:St->Option R) (d:Nat) (a:IX):Option R:=match evX s.env a with
  |some (.ptr false b off)=>match jv s.lh b with
   |some cs=>ob cs[off]? λv=>lW s.lh b (bj cs off [aa v]) λlh=>fg s.env d v λe=>k ⟨e,lh,s.gh⟩
   |none=>none
  |_=>none
noncomputable def q9n (cf:CallF) (an:Tr) (s:St) (k:St->Option R) (kk:Nat) (a:IX) (x:IX):Option R:=match evX s.env a with
  |some p=>tkX s.env x λv e=>arK v (jw (shX an x) v λcs=>nJ ⟨e,s.lh,s.gh⟩ p kk cs k)
  |none=>none
noncomputable def q9o (cf:CallF) (an:Tr) (s:St) (k:St->Option R) (kk:Nat) (a:IX) (x:IX):Option R:=match evX s.env a,evX s.env x with
  |some p,some v=>arK v (jw (shX an x) v λcs=>nJ s p kk cs k)
  |_,_=>none
noncomputable def qfq (cf:CallF) (an:Tr) (s:St) (k:St->Option R) (d:Nat) (x:IX):Option R:=match evX s.env x with
  |some p=>gd (vq p) (fo an s d p k)
  |none=>none
noncomputable def qfr (cf:CallF) (an:Tr) (s:St) (k:St->Option R) (d:Nat) (op:BinOp) (x:IX) (y:IX):Option R:=match evX s.env x,evX s.env y with
  |some a,some b=>rq op a b λv=>fo an s d v k
  |_,_=>none
noncomputable def qfs (cf:CallF) (an:Tr) (s:St) (k:St->Option R) (d:Nat) (neg:Bool) (ks:List Bool) (x:IX) (y:IX):Option R:=match evX s.env x,evX s.env y with
  |some (.agg a),some (.agg b)=>ob (eq ks a b) λr=>fR s d (.bool (match neg with|true=> !r|false=>r)) k
  |_,_=>none
noncomputable def qft (cf:CallF) (an:Tr) (s:St) (k:St->Option R) (d:Nat) (neg:Bool) (x:IX) (y:IX):Option R:=match evX s.env x,evX s.env y with
  |some a,some b=>unB a λa=>unB b λb=>fR s d (.bool (match neg with|true=>a !=b|false=>a==b)) k
  |_,_=>none
noncomputable def qfu (cf:CallF) (an:Tr) (s:St) (k:St->Option R) (d:Nat) (op:UnOp) (x:IX):Option R:=match evX s.env x with
  |some a=>unX op a λv=>fo an s d v k
  |none=>none
noncomputable def qfv (cf:CallF) (an:Tr) (s:St) (k:St->Option R) (d:Nat) (f:Nat) (caps:List IX):Option R:=gG s.env caps λvs=>eS vs (fR s d (.fn f vs) k)
noncomputable def qfw (cf:CallF) (an:Tr) (s:St) (k:St->Option R) (d:Nat):Option R:=fg s.env d (.mp s.gh.length) λe=>k ⟨e,s.lh,s.gh++[.map []]⟩
noncomputable def qfx (cf:CallF) (an:Tr) (s:St) (k:St->Option R) (d:Nat) (g:Bool) (z:Nat) (bytes:Nat) (zero:PV) (l:IX):Option R:=match evX s.env l with
  |some v=>kU v λn=>gd (fp n bytes z zero) (match g with
   |true=>fg s.env d (.bs true s.gh.length 0 n.toNat z) λe=>k ⟨e,s.lh,s.gh++[.cells ((List.replicate n.toNat zero).flatMap PV.cells)]⟩
   |false=>gd (cx zero) (fg s.env d (.sl true z (List.replicate n.toNat zero)) λe=>k ⟨e,s.lh,s.gh⟩))
  |none=>none
noncomputable def qfy (cf:CallF) (an:Tr) (s:St) (k:St->Option R) (d:Nat) (z:Nat) (x:IX) (lo:Option IX) (hi:Option IX):Option R:=match evX s.env x with
  |some v=>boX s.env lo λlo=>boX s.env hi λhi=>slX z v lo hi λw=>fo an s d w k
  |none=>none
noncomputable def qfz (cf:CallF) (an:Tr) (s:St) (k:St->Option R) (d:Nat) (x:IX) (off:Nat):Option R:=match evX s.env x with
  |some p=>faX p off λp=>fo an s d p k
  |none=>none
noncomputable def qg0 (cf:CallF) (an:Tr) (s:St) (k:St->Option R) (d:Nat) (z:Nat) (arr:Option Nat) (x:IX) (i:IX):Option R:=match evX s.env i,evX s.env x with
  |some i,some v=>kU i λi=>idX z arr v i λp=>fo an s d p k
  |_,_=>none
noncomputable def qg1 (cf:CallF) (an:Tr) (s:St) (k:St->Option R) (d:Nat) (z:Nat) (arr:Nat) (agg:Bool) (x:IX) (i:IX):Option R:=match evX s.env i,evX s.env x with
  |some i,some v=>kU i λi=>ixX v z arr agg i λv=>fo an s d v k
  |_,_=>none
noncomputable def qg2 (cf:CallF) (an:Tr) (s:St) (k:St->Option R) (d:Nat) (kn:Nat) (m:IX) (kx:IX) (ok:Bool) (zero:PV):Option R:=match evX s.env m,evX s.env kx with
  |some m,some kv=>lkX s.gh kn m kv λr=>fo an s d (match ok with|true=> .tup [r.getD (degr zero),.bool r.isSome]|false=>r.getD (degr zero)) k
  |_,_=>none
noncomputable def qg3 (cf:CallF) (an:Tr) (s:St) (k:St->Option R) (kn:Nat) (m:IX) (kx:IX) (x:IX):Option R:=match evX s.env m,evX s.env kx,evX s.env x with
  |some m,some kv,some v=>muX s.gh kn m kv v λgh=>k ⟨s.env,s.lh,gh⟩
  |_,_,_=>none
noncomputable def qg4 (cf:CallF) (an:Tr) (s:St) (k:St->Option R) (d:Option Nat) (q:Bool) (f:Nat) (xs:List IX):Option R:=gG s.env xs λvs=>eS vs (callR s.gh q (cf f vs s.gh) λr gh=>iX an ⟨s.env,s.lh,gh⟩ d r k)
noncomputable def qg5 (cf:CallF) (an:Tr) (s:St) (k:St->Option R) (d:Option Nat) (q:Bool) (fv:IX) (xs:List IX):Option R:=match evX s.env fv with
  |some fv=>gG s.env xs λvs=>fnY fv λf caps ap=>eS vs (eS caps (callR s.gh q (cf f (ap vs) s.gh) λr gh=>iX an ⟨s.env,s.lh,gh⟩ d r k))
  |none=>none
noncomputable def qg6 (cf:CallF) (an:Tr) (s:St) (k:St->Option R) (d:Option Nat) (f:Nat) (xs:List IX):Option R:=gG s.env xs λvs=>eS vs (jZ vs (cf f vs []) λr=>iX an s d r k)
noncomputable def q4p (cf:CallF) (an:Tr) (s:St) (k:St->Option R) (d:Nat) (x:IX):Option R:=match evX s.env x with
  |some v=>bg v λn=>fR s d (.int .i64 n) k
  |none=>none
noncomputable def q4q (cf:CallF) (an:Tr) (s:St) (k:St->Option R) (d:Nat) (x:IX):Option R:=match evX s.env x with
  |some v=>unS v λb=>fR s d (.int .i64 b.size) k
  |none=>none
noncomputable def q4r (cf:CallF) (an:Tr) (s:St) (k:St->Option R) (d:Nat) (x:IX):Option R:=match evX s.env x with
  |some v=>kV s.gh v λn=>fR s d (.int .i64 n) k
  |none=>none
noncomputable def qg7 (cf:CallF) (an:Tr) (s:St) (k:St->Option R) (d:Nat) (z:Nat) (bytes:Nat) (sx:IX) (x:IX):Option R:=match evX s.env x with
  |some w=>tkX s.env sx λv e=>apX z bytes v w λys=>fg e d (.sl true z ys) λe=>k ⟨e,s.lh,s.gh⟩
  |none=>none
noncomputable def qg8 (cf:CallF) (an:Tr) (s:St) (k:St->Option R) (d:Nat) (bytes:Nat) (sx:IX) (x:IX):Option R:=match evX s.env x,evX s.env sx with
  |some w,some v=>akX s.gh bytes v w λgh u=>fo an ⟨s.env,s.lh,gh⟩ d u k
  |_,_=>none
noncomputable def qg9 (cf:CallF) (an:Tr) (s:St) (k:St->Option R) (d:Nat) (a:IX):Option R:=match evX s.env a with
  |some v=>lkK s.gh v λu=>fo an s d u k
  |none=>none
noncomputable def qga (cf:CallF) (an:Tr) (s:St) (k:St->Option R) (d:Nat) (els:List IX):Option R:=gG s.env els λvs=>gd (vs.all cx) (fg s.env d (.stk s.gh.length 0 vs.length) λe=>k ⟨e,s.lh,s.gh++[.stk 0 vs]⟩)
noncomputable def qgb (cf:CallF) (an:Tr) (s:St) (k:St->Option R) (d:Nat) (x:IX) (i:Nat):Option R:=match evX s.env x with
  |some v=>exX v i λv=>fo an s d v k
  |none=>none
def skK (gh:List GObj) (v w:PV) (f:List GObj->Option R):Option R:=
 match v with
 | .pstk b gen i=>ob (jx gh b) λp=>gd (decide (p.1=gen/\i<p.2.length/\cx w=true)) (f (gh.set b (.stk p.1 (p.2.set i w))))
 |_=>none
def ckK (gh:List GObj) (v:PV) (f:List GObj->Option R):Option R:=
 match v with
 | .sub b gen off n=>ob (jx gh b) λp=>gd (decide (p.1=gen/\off+n<=p.2.length)) (f (gh.set b (.stk p.1 (p.2.take off++List.replicate n (.int .i64 0)++p.2.drop (off+n)))))
 |_=>none
def aeX (gh:List GObj) (bytes:Nat) (v w:PV) (f:List PV->Option R):Option R:=
 match v with
 | .sl o z1 xs=>ob (gC gh w) λys=>gd (decide (o=true/\z1=1/\ys.all cx=true/\(xs.length+ys.length)*bytes<=maxBytes)) (f (xs++ys))
 |_=>none
noncomputable def kbX (gh gh':List GObj) (v:PV) (x:Option R):Option R:=
 open Classical in
 match v with
 | .ptr true b _=>if b<gh.length/\gh'[b]?=gh[b]? then x else none
 | .pstk b _ _=>if b<gh.length/\gh'[b]?=gh[b]? then x else none
 | .stk b _ _=>if b<gh.length/\gh'[b]?=gh[b]? then x else none
 |_=>none
noncomputable def kpX (e:List (Nat×PV)) (gh gh':List GObj):List Nat->Option R->Option R
 |[],x=>x
 |n::l,x=>match gv e n with
  |some v=>kbX gh gh' v (kpX e gh gh' l x)
  |none=>none
def lbX (gh:List GObj) (agg:Bool) (k:Nat) (p q:PV) (f:PV->Option R):Option R:=
 match p,q with
 | .ptr true b off,.ptr true b' _=>gd (decide (b=b')) (ob (ci gh b) λcs=>ob (bp agg k off cs) λv=>f (degr v))
 |_,_=>none
def lkbX (gh:List GObj) (p q:PV) (f:PV->Option R):Option R:=
 match p,q with
 | .pstk b gen i,.stk b' _ _=>gd (decide (b=b')) (ob (iQ gh b gen i) f)
 |_,_=>none
def kW (gh:List GObj) (p q:PV) (o2:Nat) (f:PV->List GObj->Option R):Option R:=
 match p,q with
 | .ptr true b off,.ptr true b' o=>gd (decide (b=b'/\off=o+o2)) (ob (ci gh b) λcs=>ob cs[off]? λv=>f v (gh.set b (.cells (bj cs off [aa v]))))
 |_,_=>none
def rtP (c:List GObj->Option (PV×List GObj)) (gh:List GObj) (b off:Nat):Prop:=
 ∃g1 g2 r1 r2,fc gh b off true=some g1/\fc gh b off false=some g2/\c g1=some r1/\c g2=some r2/\r1.1=r2.1/\r1.2[b]?=g1[b]?/\r2.2[b]?=g2[b]?/\fc r1.2 b off false=some r2.2/\fc r2.2 b off true=some r1.2
noncomputable def rtK (c:List GObj->Option (PV×List GObj)) (gh:List GObj) (v:PV) (off:Nat) (x:Option R):Option R:=
 open Classical in
 match v with
 | .ptr true b o=>if rtP c gh b (o+off) then x else none
 |_=>none
noncomputable def q9p (cf:CallF) (an:Tr) (s:St) (k:St->Option R) (a:IX) (x:IX):Option R:=match evX s.env a,evX s.env x with
  |some v,some w=>skK s.gh v w λgh=>k ⟨s.env,s.lh,gh⟩
  |_,_=>none
noncomputable def q9q (cf:CallF) (an:Tr) (s:St) (k:St->Option R) (x:IX):Option R:=match evX s.env x with
  |some v=>ckK s.gh v λgh=>k ⟨s.env,s.lh,gh⟩
  |none=>none
noncomputable def q9r (cf:CallF) (an:Tr) (s:St) (k:St->Option R) (d f:Nat) (fs:List IX):Option R:=gG s.env fs λvs=>eS vs (fR s d (.bfn f vs) k)
noncomputable def q9s (cf:CallF) (an:Tr) (s:St) (k:St->Option R) (d:Option Nat) (f:Nat) (xs:List IX) (ns:List Nat):Option R:=gG s.env xs λvs=>eS vs (callR s.gh false (cf f vs s.gh) λr gh=>kpX s.env s.gh gh ns (iX an ⟨s.env,s.lh,gh⟩ d r k))
noncomputable def q9t (cf:CallF) (an:Tr) (s:St) (k:St->Option R) (d:Option Nat) (f:Nat) (xs:List IX) (n off:Nat):Option R:=gG s.env xs λvs=>match gv s.env n with
  |some v=>eS vs (callR s.gh false (cf f vs s.gh) λr gh=>rtK (cf f vs) s.gh v off (iX an ⟨s.env,s.lh,gh⟩ d r k))
  |none=>none
noncomputable def q9u (cf:CallF) (an:Tr) (s:St) (k:St->Option R) (d:Nat) (bytes:Nat) (sx:IX) (x:IX):Option R:=match evX s.env x with
  |some w=>tkX s.env sx λv e=>aeX s.gh bytes v w λys=>fg e d (.sl true 1 ys) λe=>k ⟨e,s.lh,s.gh⟩
  |none=>none
noncomputable def q9v (cf:CallF) (an:Tr) (s:St) (k:St->Option R) (d:Nat) (a:IX) (n o2:Nat):Option R:=match evX s.env a,gv s.env n with
  |some p,some q=>kW s.gh p q o2 λv gh=>fg s.env d v λe=>k ⟨e,s.lh,gh⟩
  |_,_=>none
noncomputable def q9w (cf:CallF) (an:Tr) (s:St) (k:St->Option R) (d:Nat) (agg:Bool) (kk:Nat) (a:IX) (n:Nat):Option R:=match evX s.env a,gv s.env n with
  |some p,some q=>lbX s.gh agg kk p q λv=>fo an s d v k
  |_,_=>none
noncomputable def q9x (cf:CallF) (an:Tr) (s:St) (k:St->Option R) (d:Nat) (agg:Bool) (kk:Nat) (a:IX):Option R:=match evX s.env a with
  |some (.ptr false b off)=>(match jv s.lh b with|some cs=>ob (bp agg kk off cs) λv=>fo an s d (degr v) k|none=>none)
  |_=>none
noncomputable def opX (cf:CallF) (an:Tr) (s:St) (o:IOp) (k:St->Option R):Option R:=
 match o with
 | .mv d x=>qfg cf an s k d x
 | .tk d n=>qfh cf an s k d n
 | .pick d c x y=>qfi cf an s k d c x y
 | .box d g true x=>q9l cf an s k d g x
 | .box d g false x=>q9m cf an s k d g x
 | .alloc d g z=>qfj cf an s k d g z
 | .build d z ps=>qfk cf an s k d z ps
 | .buildT d z ps=>qfl cf an s k d z ps
 | .buildSl d z els=>qfm cf an s k d z els
 | .load d agg kk a=>qfn cf an s k d agg kk a
 | .loadT d a=>qfo cf an s k d a
 | .loadL d a=>qfp cf an s k d a
 | .store true kk a x=>q9n cf an s k kk a x
 | .store false kk a x=>q9o cf an s k kk a x
 | .nilc d x=>qfq cf an s k d x
 | .bin d op x y=>qfr cf an s k d op x y
 | .eqa d neg ks x y=>qfs cf an s k d neg ks x y
 | .eqb d neg x y=>qft cf an s k d neg x y
 | .un d op x=>qfu cf an s k d op x
 | .mkfn d f caps=>qfv cf an s k d f caps
 | .mkmap d=>qfw cf an s k d
 | .mksl d g z bytes zero l=>qfx cf an s k d g z bytes zero l
 | .slice d z x lo hi=>qfy cf an s k d z x lo hi
 | .faddr d x off=>qfz cf an s k d x off
 | .iaddr d z arr x i=>qg0 cf an s k d z arr x i
 | .index d z arr agg x i=>qg1 cf an s k d z arr agg x i
 | .lookup d kn m kx ok zero=>qg2 cf an s k d kn m kx ok zero
 | .mupd kn m kx x=>qg3 cf an s k kn m kx x
 | .call d q f xs=>qg4 cf an s k d q f xs
 | .callv d q fv xs=>qg5 cf an s k d q fv xs
 | .callF d f xs=>qg6 cf an s k d f xs
 | .len d 0 x=>q4p cf an s k d x
 | .len d 1 x=>q4q cf an s k d x
 | .len d 2 x=>q4r cf an s k d x
 | .len _ _ _=>none
 | .append d z bytes sx x=>qg7 cf an s k d z bytes sx x
 | .appendK d bytes sx x=>qg8 cf an s k d bytes sx x
 | .storeK a x=>q9p cf an s k a x
 | .clearK x=>q9q cf an s k x
 | .mkbf d f fs=>q9r cf an s k d f fs
 | .buildSlK d els=>qga cf an s k d els
 | .loadK d a=>qg9 cf an s k d a
 | .extract d x i=>qgb cf an s k d x i
 | .callP d f xs ns=>q9s cf an s k d f xs ns
 | .callR d f xs n off=>q9t cf an s k d f xs n off
 | .appendE d bytes sx x=>q9u cf an s k d bytes sx x
 | .loadTB d a n o2=>q9v cf an s k d a n o2
 | .loadB d agg kk a n=>q9w cf an s k d agg kk a n
 | .loadJ d agg kk a=>q9x cf an s k d agg kk a
 |_=>none
def skX (s:St) (o:IOp) (k:St->Option R):Option R:=
 match cg o with
 |some d=>fR s d .und k
 |none=>k s
noncomputable def hZ (cf:CallF) (an:Tr):List IOpG->St->(St->Option R)->Option R
 |[],s,k=>k s
 |⟨o,none⟩::l,s,k=>opX cf an s o λs=>hZ cf an l s k
 | ⟨o,some (g,want)⟩::l,s,k=>match gv s.env g with
  | some (.bool b)=>br g b
    (fR s g (.bool true) λs=>match want with
     |true=>opX cf an s o λs=>hZ cf an l s k
     |false=>skX s o λs=>hZ cf an l s k)
    (fR s g (.bool false) λs=>match want with
     |false=>opX cf an s o λs=>hZ cf an l s k
     |true=>skX s o λs=>hZ cf an l s k)
  |some .und=>skX s o λs=>hZ cf an l s k
  |_=>none
def ia (nl:Nat):List Nat->List (Nat×PV)->(List (Nat×PV)->Option R)->Option R
 |[],_,f=>f []
 |t::l,e,f=>match gv e t with
  |some v=>stK nl v (ia nl l e λe'=>f ((t,v)::e'))
  |none=>ia nl l e f
def po (ks:List Nat) (nl:Nat) (e:ag) (s:St) (k:ag->St->Option R):Option R:=
 match e with
 | .normal=>ia nl ks s.env λe=>ma nl s.lh λlh=>k .normal ⟨e,lh,s.gh⟩
 |e=>k e s
def Dy:IX->Nat
 | .t n=>n
 |_=>0
noncomputable def gx (pg:Prg) (an:Tr):ICode->St->(ag->St->Option R)->Option R
 | .skip,s,k=>k .normal s
 | .region ops _,s,k=>hZ (ac pg) an ops s (k .normal)
 | .seq a b,s,k=>gx pg an a s λe s'=>nx e s' k λs'=>gx pg an b s' k
 | .cond x a b,s,k=>match evX s.env x with
  |some v=>unB v λc=>br (Dy x) c (gx pg an a s k) (gx pg an b s k)
  |none=>none
 | .block id a,s,k=>gx pg an a s λe s'=>bk id e s' k
 | .loop a,s,k=>kR (ab pg (.loop a) s) k
 | .exit i,s,k=>k (.exit i) s
 | .ret,s,k=>k .ret s
 | .post a ks nl,s,k=>gx pg an a s λe s'=>po ks nl e s' k
 | .cut a,s,k=>kR (ab pg a s) k
 | .bad,_,_=>none
end
def aI (k:Nat) (h:Sh):Tr->Tr
 | .nil=> .node k h .nil .nil
 | .node n g l r=>match Nat.ble n k with
  |true=> .node n g l (aI k h r)
  |false=> .node n g (aI k h l) r
def aT:Nat->Ce
 |0=> .int .i64
 |1=> .bool
 |2=> .one
 |_=> .gp
def aK:List Nat->Tr->Tr
 |[],t=>t
 |x::l,t=>aK l (aI (Nat.div x 4) (.ce (aT (Nat.mod x 4))) t)
def aO:List (Nat×Sh)->Tr->Tr
 |[],t=>t
 |(k,h)::l,t=>aO l (aI k h t)
def aN (l:List Nat) (o:List (Nat×Sh)):Tr:=aO o (aK l .nil)
abbrev DR:=Option (ag×St)
abbrev tI (k:Nat) (l r:Tr):Tr:= .node k (.ce (.int .i64)) l r
abbrev tB (k:Nat) (l r:Tr):Tr:= .node k (.ce (.bool)) l r
abbrev tO (k:Nat) (l r:Tr):Tr:= .node k (.ce (.one)) l r
abbrev tG (k:Nat) (l r:Tr):Tr:= .node k (.ce (.gp)) l r
abbrev uI (k:Nat):Tr:= .node k (.ce (.int .i64)) .nil .nil
abbrev uB (k:Nat):Tr:= .node k (.ce (.bool)) .nil .nil
abbrev uO (k:Nat):Tr:= .node k (.ce (.one)) .nil .nil
abbrev uG (k:Nat):Tr:= .node k (.ce (.gp)) .nil .nil
abbrev RT (a:List (Nat×PV)) (b:List (List PV)) (g:List GObj):DR:=some (.ret,⟨a,b,g⟩)
abbrev NM (a:List (Nat×PV)) (b:List (List PV)) (g:List GObj):DR:=some (.normal,⟨a,b,g⟩)
abbrev EX (i:Nat) (a:List (Nat×PV)) (b:List (List PV)) (g:List GObj):DR:=some ((.exit i),⟨a,b,g⟩)
abbrev FS (e:ag) (s:St):DR:=some (e,s)
end Go.Lw