/-
  The texts that the proof stands on, part 3.
-/
import Derived.Test.YtmodipglnngghacGreatUnrollClausesB
set_option linter.unusedVariables false
set_option linter.unusedSimpArgs false
set_option linter.unnecessarySimpa false

/-! Library functions, told as they are. -/
section
namespace Go.Lw
open Go
def libClone (z bytes : Nat) : List PV → List GObj → Option (PV × List GObj)
 | [.sl _ z' xs], gh => if z' = z ∧ xs.length * bytes ≤ maxBytes then some (.sl true z xs, gh) else none
 | _, _ => none
def libCloneK (bytes : Nat) : List PV → List GObj → Option (PV × List GObj)
 | [.sl o z' xs], gh => if xs = [] then libClone 1 bytes [.sl o z' xs] gh
   else if z' = 1 ∧ xs.length * bytes ≤ maxBytes ∧ xs.all isFlat = true then some (.stk gh.length 1 xs.length, gh ++ [.stk 1 xs]) else none
 | [.stk b gen n], gh => match gh[b]? with
  | some (.stk g xs) => if g = gen ∧ n ≤ xs.length ∧ n * bytes ≤ maxBytes ∧ (xs.take n).all isFlat = true then some (.stk gh.length 1 n, gh ++ [.stk 1 (xs.take n)]) else none
  | _ => none
 | _, _ => none
def libGrow (z bytes : Nat) : List PV → List GObj → Option (PV × List GObj)
 | [.nils, .int .i64 n], gh => if 0 ≤ n ∧ n.toNat * bytes ≤ maxBytes then some (.sl true z [], gh) else none
 | _, _ => none
end Go.Lw
end

/-! The code of package Blast for the small machine. Written by program (gen.py). -/
section
set_option maxRecDepth 10000
namespace Go.Lw
open Go
/- 212: latchwork/blast.Check -/
def q3f : ICode :=
 (.seq (.post (.region [
 oN (.box 1 false false 0),
 oN (.mv 2 (.c (I 0)))] false) [1] 1)
 (.seq (.seq (.post (.region [
 oF 5 1 0,
 oN (.load 6 true 2 5),
 oN (.call (some 7) true 6 [6]),
 oM 3 7] false) [1, 3] 1)
 (.seq (.post (.region [
 oM 8 3,
 oN (.bin 9 .neq 8 (.c (I 0)))] false) [1, 3, 9] 1)
 (.cond 9 (.seq (.post (.region [
 oM 10 3,
 oM 2 10] false) [2] 0)
 .ret)
 .skip)))
 (.seq (.block 0 (.seq (.post (.region [
 oF 12 1 2,
 oL 13 12,
 oN (.bin 14 .lss 13 (.c (I 0))),
 oM 15 14,
  ⟨.faddr 16 1 3, some (15, false)⟩,
  ⟨.load 17 false 1 16, some (15, false)⟩,
  ⟨.bin 18 .lss 17 (.c (I 0)), some (15, false)⟩,
 oN (.pick 19 15 (.c (.bool true)) 18),
 oM 20 19,
  ⟨.faddr 21 1 2, some (20, false)⟩,
  ⟨.load 22 false 1 21, some (20, false)⟩,
  ⟨.faddr 23 1 3, some (20, false)⟩,
  ⟨.load 24 false 1 23, some (20, false)⟩,
  ⟨.bin 25 .add 22 24, some (20, false)⟩,
  ⟨.faddr 26 1 0, some (20, false)⟩,
  ⟨.faddr 27 26 0, some (20, false)⟩,
  ⟨.load 28 false 1 27, some (20, false)⟩,
  ⟨.bin 29 .neq 25 28, some (20, false)⟩,
 oN (.pick 30 20 (.c (.bool true)) 29),
 oM 11 30] false) [1, 11] 1)
 (.cond 11 (.seq (.post (.region [
 oN (.mv 2 (.c (I 4)))] false) [2] 0)
 .ret)
 (.seq (.post (.region [
 oF 32 1 4,
 oL 33 32,
 oN (.len 34 0 33),
 oF 35 1 3,
 oL 36 35,
 oN (.bin 37 .neq 34 36),
 oM 38 37,
  ⟨.faddr 39 1 5, some (38, false)⟩,
  ⟨.load 40 false 1 39, some (38, false)⟩,
  ⟨.len 41 0 40, some (38, false)⟩,
  ⟨.faddr 42 1 3, some (38, false)⟩,
  ⟨.load 43 false 1 42, some (38, false)⟩,
  ⟨.bin 44 .neq 41 43, some (38, false)⟩,
 oN (.pick 45 38 (.c (.bool true)) 44),
 oM 31 45] false) [1, 31] 1)
 (.cond 31 (.seq (.post (.region [
 oN (.mv 2 (.c (I 1)))] false) [2] 0)
 .ret)
 .skip)))))
 (.seq (.post (.region [
 oF 46 1 4,
 oL 47 46,
 oN (.call (some 48) false 121 [47]),
 oN (.call (some 49) false 343 [48, (.f 215)]),
 oN (.tk 4 49)] false) [1, 4] 1)
 (.seq (.seq (.post (.region [
 oF 50 1 0,
 oN (.loadJ 51 true 2 50),
 oM 52 4,
 oF 53 1 5,
 oL 54 53,
 oF 55 1 6,
 oL 56 55,
 oF 57 1 7,
 oL 58 57,
 oN (.buildSl 59 1 [52, 54, 56, 58]),
 oN (.callP (some 60) 344 [59] []),
 oN (.call (some 61) true 47 [51, 60]),
 oN (.un 62 .not 61)] true) [62] 0)
 (.cond 62 (.seq (.post (.region [
 oN (.mv 2 (.c (I 5)))] false) [2] 0)
 .ret)
 .skip))
 (.seq (.post (.region [
 oN (.mv 2 (.c (I 0)))] false) [2] 0)
 .ret))))))
def q3g : IFunc := { np := 1, res := [.t 2], own := false, trunc := true, body := q3f }
/- 214: latchwork/blast.Blast -/
/- 215: latchwork/blast.Check$1 -/
def q7d : ICode :=
 (.seq (.post (.region [
 oN (.mv 2 (.c (.bool false)))] false) [0] 0)
 (.seq (.post (.region [
 oM 3 0,
 oN (.bin 4 .eql 3 (.c (I (-1)))),
 oM 2 4] false) [2] 0)
 .ret))
def q3h : IFunc := { np := 1, res := [.t 2], own := false, trunc := true, body := q7d }
/- 217: latchwork/blast.Raw -/
def qbt : ICode :=
 (.post (.seq (.region [
 oN (.bin 78 .lss 77 76)] false)
 (.seq (.cond 78 .skip
 (.exit 2))
 (.seq (.block 3 (.seq (.post (.region [
 oM 79 77,
 oM 12 79] false) [1, 2, 3, 4, 5, 6, 8, 9, 11, 12, 48, 49, 50, 76, 77] 3)
 (.post (.region [
 oN (.tk 80 11),
 oM 81 9,
 oM 82 12,
 oN (.bin 83 .add 81 82),
 oN (.bin 84 .mul (.c (I 2)) 83),
 oN (.buildSl 85 1 [84]),
 oN (.append 86 1 8 80 85),
 oN (.tk 11 86)] false) [1, 2, 3, 4, 5, 6, 8, 9, 11, 48, 49, 50, 76, 77] 3)))
 (.post (.region [
 oN (.bin 87 .add 77 (.c (I 1))),
 oM 77 87] false) [1, 2, 3, 4, 5, 6, 8, 9, 11, 48, 49, 50, 76, 77] 3)))) [1, 2, 3, 4, 5, 6, 8, 9, 11, 48, 49, 50, 76, 77] 3)
def qbu : ICode :=
 (.post (.block 2 (.loop qbt)) [1, 2, 3, 4, 5, 6, 8, 9, 11, 48, 49, 50] 3)
def qbv : ICode :=
 (.seq (.post (.region [
 oM 88 6,
 oF 89 8 0,
 oL 90 89,
 oM 91 9,
 oF 92 8 1,
 oL 93 92,
 oN (.bin 94 .add 91 93),
 oN (.mupd 0 88 90 94)] false) [1, 2, 3, 4, 5, 6, 11, 48, 49, 50] 2)
 (.post (.region [
 oM 95 5,
 oM 96 5,
 oC 97 96,
 oF 98 97 6,
 oN (.loadT 99 98),
 oM 100 11,
 oN (.buildSl 101 1 [100]),
 oN (.append 102 1 24 99 101),
 oC 103 95,
 oF 104 103 6,
 oN (.store true 1 104 102)] false) [1, 2, 3, 4, 5, 6, 48, 49, 50] 2))
def qbw : ICode :=
 (.post (.region [
 oN (.bin 105 .add 50 (.c (I 1))),
 oM 50 105] false) [1, 2, 3, 4, 5, 6, 48, 49, 50] 2)
def qbx : ICode :=
 (.post (.seq (.region [
 oN (.bin 51 .lss 50 49)] false)
 (.seq (.cond 51 .skip
 (.exit 0))
 (.seq (.post (.block 1 (.seq (.post (.region [
 oN (.iaddr 52 6 none 48 50),
 oN (.load 53 true 6 52),
 oN (.alloc 8 false (.agg [I 0, I 0, I 0, I 0, I 0, I 0])),
 oN (.store false 6 8 53)] false) [1, 2, 3, 4, 5, 6, 8, 48, 49, 50] 3)
 (.seq (.post (.region [
 oM 55 6,
 oF 56 8 0,
 oL 57 56,
 oN (.lookup 58 0 55 57 true (I 0)),
 oM 54 58,
 oN (.extract 59 54 0),
 oN (.extract 60 54 1),
 oM 9 59,
 oM 10 60] false) [1, 2, 3, 4, 5, 6, 8, 9, 10, 48, 49, 50] 3)
 (.seq (.seq (.post (.region [
 oM 61 10,
 oN (.un 62 .not 61)] false) [1, 2, 3, 4, 5, 6, 8, 9, 48, 49, 50, 62] 3)
 (.cond 62 (.seq (.post (.region [
 oM 63 5,
 oM 64 5,
 oC 65 64,
 oF 66 65 6,
 oN (.loadTB 67 66 5 6),
 oM 68 5,
 oN (.load 69 true 6 8),
 oN (.callR (some 70) 218 [68, 69] 5 6),
 oN (.buildSl 71 1 [70]),
 oN (.append 72 1 24 67 71),
 oC 73 63,
 oF 74 73 6,
 oN (.store true 1 74 72)] true) [1, 2, 3, 4, 5, 6, 48, 49, 50] 2)
 (.exit 1))
 .skip))
 (.seq (.post (.region [
 oN (.mv 11 (.c (.sl true 1 [])))] false) [1, 2, 3, 4, 5, 6, 8, 9, 11, 48, 49, 50] 3)
 (.seq (.seq (.post (.region [
 oF 75 8 1,
 oL 76 75,
 oN (.mv 77 (.c (I 0)))] false) [1, 2, 3, 4, 5, 6, 8, 9, 11, 48, 49, 50, 76, 77] 3)
 (.cut qbu))
 (.cut qbv))))))) [1, 2, 3, 4, 5, 6, 48, 49, 50] 2)
 (.cut qbw)))) [1, 2, 3, 4, 5, 6, 48, 49, 50] 2)
def qby : ICode :=
 (.post (.block 0 (.loop qbx)) [1, 2, 3, 4, 5] 2)
def qbz : ICode :=
 (.post (.seq (.region [
 oN (.bin 115 .lss 114 113)] false)
 (.seq (.cond 115 .skip
 (.exit 4))
 (.seq (.block 5 (.seq (.post (.region [
 oN (.iaddr 116 2 none 112 114),
 oN (.load 117 true 2 116),
 oN (.alloc 17 false (.agg [I 0, I 0])),
 oN (.store false 2 17 117)] false) [1, 2, 5, 13, 14, 15, 17, 112, 113, 114] 4)
 (.post (.region [
 oM 118 14,
 oF 119 17 0,
 oL 120 119,
 oF 121 17 1,
 oL 122 121,
 oN (.mupd 0 118 120 122)] false) [1, 2, 5, 13, 14, 15, 112, 113, 114] 3)))
 (.post (.region [
 oN (.bin 123 .add 114 (.c (I 1))),
 oM 114 123] false) [1, 2, 5, 13, 14, 15, 112, 113, 114] 3)))) [1, 2, 5, 13, 14, 15, 112, 113, 114] 3)
def qc0 : ICode :=
 (.post (.block 4 (.loop qbz)) [1, 2, 5, 13, 14, 15] 3)
def qc1 : ICode :=
 (.post (.seq (.region [
 oN (.bin 128 .lss 127 126)] false)
 (.seq (.cond 128 .skip
 (.exit 6))
 (.seq (.block 7 (.seq (.post (.region [
 oN (.iaddr 129 2 none 125 127),
 oN (.load 130 true 2 129),
 oN (.alloc 19 false (.agg [I 0, I 0])),
 oN (.store false 2 19 130)] false) [1, 2, 5, 13, 14, 15, 19, 125, 126, 127] 4)
 (.post (.region [
 oM 131 15,
 oF 132 19 0,
 oL 133 132,
 oF 134 19 1,
 oL 135 134,
 oN (.mupd 0 131 133 135)] false) [1, 2, 5, 13, 14, 15, 125, 126, 127] 3)))
 (.post (.region [
 oN (.bin 136 .add 127 (.c (I 1))),
 oM 127 136] false) [1, 2, 5, 13, 14, 15, 125, 126, 127] 3)))) [1, 2, 5, 13, 14, 15, 125, 126, 127] 3)
def qc2 : ICode :=
 (.post (.block 6 (.loop qc1)) [1, 2, 5, 13, 14, 15] 3)
def qc3 : ICode :=
 (.post (.seq (.region [
 oN (.bin 184 .lss 183 182)] false)
 (.seq (.cond 184 .skip
 (.exit 10))
 (.seq (.block 11 (.seq (.post (.region [
 oM 185 183,
 oM 25 185] false) [1, 2, 5, 13, 14, 15, 24, 25, 138, 139, 140, 182, 183] 3)
 (.post (.region [
 oF 186 13 4,
 oN (.loadL 187 186),
 oM 188 24,
 oM 189 25,
 oN (.bin 190 .shr 188 189),
 oN (.bin 191 .and 190 (.c (I 1))),
 oN (.buildSl 192 1 [191]),
 oN (.append 193 1 8 187 192),
 oF 194 13 4,
 oN (.store true 1 194 193)] true) [1, 2, 5, 13, 14, 15, 24, 138, 139, 140, 182, 183] 3)))
 (.post (.region [
 oN (.bin 195 .add 183 (.c (I 1))),
 oM 183 195] false) [1, 2, 5, 13, 14, 15, 24, 138, 139, 140, 182, 183] 3)))) [1, 2, 5, 13, 14, 15, 24, 138, 139, 140, 182, 183] 3)
def qc4 : ICode :=
 (.post (.block 10 (.loop qc3)) [1, 2, 5, 13, 14, 15, 138, 139, 140] 3)
def qc5 : ICode :=
 (.post (.seq (.region [
 oN (.bin 203 .lss 202 201)] false)
 (.seq (.cond 203 .skip
 (.exit 12))
 (.seq (.block 13 (.post (.region [
 oF 204 13 4,
 oN (.loadT 205 204),
 oN (.buildSl 206 1 [(.c (I (-1)))]),
 oN (.append 207 1 8 205 206),
 oF 208 13 4,
 oN (.store true 1 208 207)] false) [1, 2, 5, 13, 14, 15, 138, 139, 140, 201, 202] 3))
 (.post (.region [
 oN (.bin 209 .add 202 (.c (I 1))),
 oM 202 209] false) [1, 2, 5, 13, 14, 15, 138, 139, 140, 201, 202] 3)))) [1, 2, 5, 13, 14, 15, 138, 139, 140, 201, 202] 3)
def qc6 : ICode :=
 (.post (.block 12 (.loop qc5)) [1, 2, 5, 13, 14, 15, 138, 139, 140] 3)
def qc7 : ICode :=
 (.seq (.post (.region [
 oF 196 1 0,
 oL 197 196,
 oM 198 21,
 oN (.iaddr 199 6 none 197 198),
 oF 200 199 1,
 oL 201 200,
 oN (.mv 202 (.c (I 0)))] false) [1, 2, 5, 13, 14, 15, 138, 139, 140, 201, 202] 3)
 (.cut qc6))
def qc8 : ICode :=
 (.post (.region [
 oN (.bin 210 .add 140 (.c (I 1))),
 oM 140 210] false) [1, 2, 5, 13, 14, 15, 138, 139, 140] 3)
def qc9 : ICode :=
 (.post (.seq (.region [
 oN (.bin 141 .lss 140 139)] false)
 (.seq (.cond 141 .skip
 (.exit 8))
 (.seq (.post (.block 9 (.seq (.post (.region [
 oA 142 138 140,
 oL 143 142,
 oM 21 143] false) [1, 2, 5, 13, 14, 15, 21, 138, 139, 140] 3)
 (.seq (.post (.region [
 oF 144 13 5,
 oN (.loadL 145 144),
 oM 146 5,
 oC 147 146,
 oF 148 147 6,
 oL 149 148,
 oM 150 15,
 oM 151 21,
 oN (.lookup 152 0 150 151 false (I 0)),
 oA 153 149 152,
 oL 154 153,
 oN (.append 155 1 8 145 154),
 oF 156 13 5,
 oN (.store true 1 156 155)] true) [1, 2, 5, 13, 14, 15, 21, 138, 139, 140] 3)
 (.seq (.seq (.post (.region [
 oM 158 14,
 oM 159 21,
 oN (.lookup 160 0 158 159 true (I 0)),
 oM 157 160,
 oN (.extract 161 157 0),
 oN (.extract 162 157 1),
 oM 22 161,
 oM 23 162] false) [1, 2, 5, 13, 14, 15, 21, 22, 23, 138, 139, 140] 3)
 (.seq (.post (.region [
 oM 163 23] false) [1, 2, 5, 13, 14, 15, 21, 22, 138, 139, 140, 163] 3)
 (.cond 163 (.seq (.post (.region [
 oN (.load 164 true 5 1),
 oN (.load 165 true 5 1),
 oN (.call (some 166) true 101 [165, (.c (I 3))]),
 oN (.len 167 0 166),
 oN (.mksl 168 false 1 8 (I 0) 167),
 oN (.load 169 true 5 1),
 oN (.call (some 170) true 101 [169, (.c (I 2))]),
 oN (.len 171 0 170),
 oN (.mksl 172 false 1 8 (I 0) 171),
 oN (.call (some 173) true 139 [164, 168, 172]),
 oM 174 22,
 oA 175 173 174,
 oL 176 175,
 oM 24 176] true) [1, 2, 5, 13, 14, 15, 21, 24, 138, 139, 140] 3)
 (.seq (.seq (.post (.region [
 oF 177 1 0,
 oL 178 177,
 oM 179 21,
 oN (.iaddr 180 6 none 178 179),
 oF 181 180 1,
 oL 182 181,
 oN (.mv 183 (.c (I 0)))] false) [1, 2, 5, 13, 14, 15, 24, 138, 139, 140, 182, 183] 3)
 (.cut qc4))
 (.exit 9)))
 .skip)))
 (.cut qc7))))) [1, 2, 5, 13, 14, 15, 138, 139, 140] 3)
 (.cut qc8)))) [1, 2, 5, 13, 14, 15, 138, 139, 140] 3)
def qca : ICode :=
 (.post (.block 8 (.loop qc9)) [1, 2, 5, 13] 3)
def qcb : ICode :=
 (.post (.seq (.region [
 oN (.bin 215 .lss 214 213)] false)
 (.seq (.cond 215 .skip
 (.exit 14))
 (.seq (.block 15 (.seq (.post (.region [
 oA 216 212 214,
 oL 217 216,
 oM 27 217] false) [1, 2, 5, 13, 27, 212, 213, 214] 3)
 (.post (.region [
 oF 218 13 6,
 oN (.loadL 219 218),
 oM 220 5,
 oC 221 220,
 oF 222 221 6,
 oL 223 222,
 oM 224 27,
 oA 225 223 224,
 oL 226 225,
 oN (.iaddr 227 1 none 226 (.c (I 0))),
 oL 228 227,
 oN (.buildSl 229 1 [228]),
 oN (.append 230 1 8 219 229),
 oF 231 13 6,
 oN (.store true 1 231 230)] true) [1, 2, 5, 13, 212, 213, 214] 3)))
 (.post (.region [
 oN (.bin 232 .add 214 (.c (I 1))),
 oM 214 232] false) [1, 2, 5, 13, 212, 213, 214] 3)))) [1, 2, 5, 13, 212, 213, 214] 3)
def qcc : ICode :=
 (.post (.block 14 (.loop qcb)) [1, 2, 5, 13] 3)
def qcd : ICode :=
 (.post (.seq (.region [
 oN (.bin 237 .lss 236 235)] false)
 (.seq (.cond 237 .skip
 (.exit 16))
 (.seq (.block 17 (.seq (.post (.region [
 oA 238 234 236,
 oL 239 238,
 oM 29 239] false) [2, 5, 13, 29, 234, 235, 236] 3)
 (.post (.region [
 oF 240 13 7,
 oN (.loadL 241 240),
 oM 242 5,
 oC 243 242,
 oF 244 243 6,
 oL 245 244,
 oM 246 29,
 oA 247 245 246,
 oL 248 247,
 oN (.iaddr 249 1 none 248 (.c (I 0))),
 oL 250 249,
 oN (.buildSl 251 1 [250]),
 oN (.append 252 1 8 241 251),
 oF 253 13 7,
 oN (.store true 1 253 252)] true) [2, 5, 13, 234, 235, 236] 3)))
 (.post (.region [
 oN (.bin 254 .add 236 (.c (I 1))),
 oM 236 254] false) [2, 5, 13, 234, 235, 236] 3)))) [2, 5, 13, 234, 235, 236] 3)
def qce : ICode :=
 (.post (.block 16 (.loop qcd)) [2, 5, 13] 3)
def qcf : ICode :=
 (.seq (.post (.region [
 oM 255 5,
 oC 256 255,
 oF 257 256 0,
 oL 258 257,
 oC 259 258,
 oF 260 259 0,
 oN (.load 261 true 2 260),
 oF 262 13 0,
 oN (.store true 2 262 261)] false) [2, 13] 3)
 (.seq (.post (.region [
 oN (.load 263 true 8 13),
 oN (.store true 8 2 263)] false) [2] 2)
 .ret))
def qcg : ICode :=
 (.seq (.seq (.post (.region [
 oF 233 1 4,
 oL 234 233,
 oN (.len 235 0 234),
 oN (.mv 236 (.c (I 0)))] false) [2, 5, 13, 234, 235, 236] 3)
 (.cut qce))
 (.cut qcf))
def qch : ICode :=
 (.seq (.seq (.post (.region [
 oF 211 1 3,
 oL 212 211,
 oN (.len 213 0 212),
 oN (.mv 214 (.c (I 0)))] false) [1, 2, 5, 13, 212, 213, 214] 3)
 (.cut qcc))
 (.cut qcg))
def qci : ICode :=
 (.seq (.seq (.post (.region [
 oN (.load 137 true 5 1),
 oN (.call (some 138) true 101 [137, (.c (I 3))]),
 oN (.len 139 0 138),
 oN (.mv 140 (.c (I 0)))] false) [1, 2, 5, 13, 14, 15, 138, 139, 140] 3)
 (.cut qca))
 (.cut qch))
def qcj : ICode :=
 (.seq (.seq (.post (.region [
 oF 124 1 2,
 oL 125 124,
 oN (.len 126 0 125),
 oN (.mv 127 (.c (I 0)))] false) [1, 2, 5, 13, 14, 15, 125, 126, 127] 3)
 (.cut qc2))
 (.cut qci))
def qck : ICode :=
 (.seq (.post (.region [
 oM 106 3,
 oM 107 4,
 oN (.buildT 108 [I 0, .sl true 2 [], I 0, I 0, .sl true 1 [], .sl true 1 [], .sl true 1 [], .sl true 1 []] [(2, 1, 106), (3, 1, 107)]),
 oN (.alloc 13 false (.agg [I 0, .sl true 2 [], I 0, I 0, .sl true 1 [], .sl true 1 [], .sl true 1 [], .sl true 1 []])),
 oN (.store true 8 13 108)] false) [1, 2, 5, 13] 3)
 (.seq (.post (.region [
 oN (.mkmap 109),
 oN (.mkmap 110),
 oM 14 109,
 oM 15 110] false) [1, 2, 5, 13, 14, 15] 3)
 (.seq (.seq (.post (.region [
 oF 111 1 1,
 oL 112 111,
 oN (.len 113 0 112),
 oN (.mv 114 (.c (I 0)))] false) [1, 2, 5, 13, 14, 15, 112, 113, 114] 3)
 (.cut qc0))
 (.cut qcj))))
def qcl : ICode :=
 (.seq (.post (.region [
 oN (.box 1 false false 0),
 oN (.alloc 2 false (.agg [I 0, .sl true 2 [], I 0, I 0, .sl true 1 [], .sl true 1 [], .sl true 1 [], .sl true 1 []]))] false) [1, 2] 2)
 (.seq (.post (.region [
 oN (.load 31 true 5 1),
 oN (.call (some 32) true 77 [31]),
 oM 30 32,
 oN (.extract 33 30 0),
 oN (.extract 34 30 1),
 oM 3 33,
 oM 4 34] false) [1, 2, 3, 4] 2)
 (.seq (.post (.region [
 oM 35 3,
 oM 36 4,
 oN (.bin 37 .add 35 36),
 oN (.buildT 38 [I 0, .sl true 2 []] [(0, 1, 37)]),
 oN (.callP (some 39) 48 [38] []),
 oN (.loadJ 40 true 5 1),
 oN (.buildT 41 [.nilp, .sl true 6 [], .sl true 2 [], .sl true 2 [], .sl true 1 [], .sl true 1 [], .sl true 1 []] [(0, 1, 39), (1, 5, 40)]),
 oN (.box 42 true true 41),
 oM 5 42] true) [1, 2, 3, 4, 5] 2)
 (.seq (.post (.region [
 oN (.mkmap 43),
 oN (.mupd 0 43 (.c (I 2)) (.c (I 1))),
 oM 44 3,
 oN (.bin 45 .add (.c (I 1)) 44),
 oN (.mupd 0 43 (.c (I 3)) 45),
 oM 46 43,
 oM 6 46] false) [1, 2, 3, 4, 5, 6] 2)
 (.seq (.seq (.post (.region [
 oF 47 1 0,
 oL 48 47,
 oN (.len 49 0 48),
 oN (.mv 50 (.c (I 0)))] false) [1, 2, 3, 4, 5, 6, 48, 49, 50] 2)
 (.cut qby))
 (.cut qck))))))
def qcm : IFunc := { np := 1, res := [.cell 2 true 8], own := false, trunc := true, body := qcl }
/- 218: (*latchwork/blast.blaster).node -/
def qcn : ICode :=
 (.post (.seq (.region [
 oN (.bin 25 .lss 24 23)] false)
 (.seq (.cond 25 .skip
 (.exit 0))
 (.seq (.block 1 (.seq (.post (.region [
 oM 26 24,
 oA 27 22 24,
 oL 28 27,
 oM 6 26,
 oM 7 28] false) [0, 3, 5, 6, 7, 22, 23, 24] 2)
 (.post (.region [
 oM 29 6,
 oM 30 0,
 oC 31 30,
 oF 32 31 6,
 oL 33 32,
 oM 34 7,
 oA 35 33 34,
 oL 36 35,
 oN (.iaddr 37 1 (some 3) 5 29),
 oN (.store true 1 37 36)] false) [0, 3, 5, 22, 23, 24] 2)))
 (.post (.region [
 oN (.bin 38 .add 24 (.c (I 1))),
 oM 24 38] false) [0, 3, 5, 22, 23, 24] 2)))) [0, 3, 5, 22, 23, 24] 2)
def qco : ICode :=
 (.post (.block 0 (.loop qcn)) [0, 3, 5] 2)
def qcp : ICode :=
 (.post (.seq (.region [
 oN (.bin 52 .lss 51 50)] false)
 (.seq (.cond 52 .skip
 (.exit 3))
 (.seq (.block 4 (.seq (.post (.region [
 oM 53 51,
 oM 12 53] false) [3, 11, 12, 50, 51] 1)
 (.post (.region [
 oN (.tk 54 11),
 oF 55 3 5,
 oL 56 55,
 oM 57 12,
 oN (.bin 58 .shr 56 57),
 oN (.bin 59 .and 58 (.c (I 1))),
 oN (.buildSl 60 1 [59]),
 oN (.append 61 1 8 54 60),
 oN (.tk 11 61)] false) [3, 11, 50, 51] 1)))
 (.post (.region [
 oN (.bin 62 .add 51 (.c (I 1))),
 oM 51 62] false) [3, 11, 50, 51] 1)))) [3, 11, 50, 51] 1)
def qcq : ICode :=
 (.post (.block 3 (.loop qcp)) [11] 0)
def qcr : ICode :=
 (.seq (.post (.region [
 oM 63 11,
 oN (.tk 4 63)] false) [4] 0)
 .ret)
def qcs : ICode :=
 (.post (.seq (.region [
 oN (.bin 159 .lss 158 157)] false)
 (.seq (.cond 159 .skip
 (.exit 5))
 (.seq (.block 6 (.seq (.post (.region [
 oM 160 158,
 oM 20 160] false) [0, 8, 9, 19, 20, 157, 158] 0)
 (.post (.region [
 oM 161 0,
 oC 162 161,
 oF 163 162 0,
 oN (.loadB 164 false 1 163 0),
 oM 165 19,
 oM 166 0,
 oM 167 8,
 oM 168 20,
 oA 169 167 168,
 oL 170 169,
 oM 171 9,
 oM 172 20,
 oA 173 171 172,
 oL 174 173,
 oN (.callP (some 175) 224 [166, 170, 174] [0]),
 oN (.call (some 176) true 231 [175]),
 oN (.call (some 177) false 49 [164, 165, 176]),
 oM 19 177] true) [0, 8, 9, 19, 157, 158] 0)))
 (.post (.region [
 oN (.bin 178 .add 158 (.c (I 1))),
 oM 158 178] false) [0, 8, 9, 19, 157, 158] 0)))) [0, 8, 9, 19, 157, 158] 0)
def qct : ICode :=
 (.post (.block 5 (.loop qcs)) [19] 0)
def qcu : ICode :=
 (.seq (.post (.region [
 oM 179 19,
 oN (.buildSl 180 1 [179]),
 oN (.tk 4 180)] false) [4] 0)
 .ret)
def qcv : ICode :=
 (.seq (.post (.region [
 oM 229 8,
 oF 230 3 1,
 oL 231 230,
 oM 232 8,
 oM 233 8,
 oN (.len 234 0 233),
 oN (.bin 235 .sub 234 (.c (I 1))),
 oA 236 232 235,
 oL 237 236,
 oN (.call (some 238) true 235 [229, 231, 237]),
 oN (.tk 4 238)] true) [4] 0)
 .ret)
def qcw : ICode :=
 (.seq (.post (.region [
 oN (.iaddr 39 1 (some 3) 5 (.c (I 0))),
 oL 40 39,
 oN (.iaddr 41 1 (some 3) 5 (.c (I 1))),
 oL 42 41,
 oN (.iaddr 43 1 (some 3) 5 (.c (I 2))),
 oL 44 43,
 oN (.tk 8 40),
 oN (.tk 9 42),
 oN (.tk 10 44)] true) [0, 3, 8, 9, 10] 1)
 (.seq (.seq (.post (.region [
 oF 45 3 0,
 oL 46 45] false) [0, 3, 8, 9, 10, 46] 1)
 (.block 2 (.seq (.post (.region [
 oN (.bin 48 .eql 46 (.c (I 1))),
 oM 47 48] false) [0, 3, 8, 9, 10, 46, 47] 1)
 (.cond 47 (.seq (.post (.region [
 oN (.mv 11 (.c (.sl true 1 [])))] false) [3, 11] 1)
 (.seq (.seq (.post (.region [
 oF 49 3 1,
 oL 50 49,
 oN (.mv 51 (.c (I 0)))] false) [3, 11, 50, 51] 1)
 (.cut qcq))
 (.cut qcr)))
 (.seq (.post (.region [
 oN (.bin 65 .eql 46 (.c (I 4))),
 oM 64 65] false) [0, 3, 8, 9, 10, 46, 64] 1)
 (.cond 64 (.seq (.post (.region [
 oM 66 8,
 oN (.call (some 67) true 219 [66]),
 oN (.tk 4 67)] false) [4] 0)
 .ret)
 (.seq (.post (.region [
 oN (.bin 69 .eql 46 (.c (I 5))),
 oM 68 69] false) [0, 3, 8, 9, 10, 46, 68] 1)
 (.cond 68 (.seq (.post (.region [
 oM 70 0,
 oF 71 3 1,
 oL 72 71,
 oN (.call (some 73) true 220 [72]),
 oM 74 8,
 oN (.call (some 75) false 221 [70, 73, 74]),
 oN (.tk 4 75)] false) [4] 0)
 .ret)
 (.seq (.post (.region [
 oN (.bin 77 .eql 46 (.c (I 6))),
 oM 76 77] false) [0, 3, 8, 9, 10, 46, 76] 1)
 (.cond 76 (.seq (.post (.region [
 oM 78 8,
 oM 79 9,
 oM 80 0,
 oC 81 80,
 oF 82 81 0,
 oL 83 82,
 oN (.mkbf 84 49 [83]),
 oN (.call (some 85) false 222 [78, 79, 84]),
 oN (.tk 4 85)] false) [4] 0)
 .ret)
 (.seq (.post (.region [
 oN (.bin 87 .eql 46 (.c (I 7))),
 oM 86 87] false) [0, 3, 8, 9, 10, 46, 86] 1)
 (.cond 86 (.seq (.post (.region [
 oM 88 8,
 oM 89 9,
 oM 90 0,
 oN (.mkbf 91 223 [90]),
 oN (.call (some 92) false 222 [88, 89, 91]),
 oN (.tk 4 92)] false) [4] 0)
 .ret)
 (.seq (.post (.region [
 oN (.bin 94 .eql 46 (.c (I 8))),
 oM 93 94] false) [0, 3, 8, 9, 10, 46, 93] 1)
 (.cond 93 (.seq (.post (.region [
 oM 95 8,
 oM 96 9,
 oM 97 0,
 oN (.mkbf 98 224 [97]),
 oN (.call (some 99) false 222 [95, 96, 98]),
 oN (.tk 4 99)] false) [4] 0)
 .ret)
 (.seq (.post (.region [
 oN (.bin 101 .eql 46 (.c (I 9))),
 oM 100 101] false) [0, 3, 8, 9, 10, 46, 100] 1)
 (.cond 100 (.seq (.post (.region [
 oM 103 0,
 oM 104 8,
 oM 105 9,
 oN (.call (some 106) false 225 [103, 104, 105, (.c (I 0))]),
 oM 102 106,
 oN (.extract 107 102 0),
 oN (.extract 108 102 1),
 oN (.tk 13 107),
 oM 14 108] false) [13] 0)
 (.seq (.post (.region [
 oM 109 13,
 oN (.tk 4 109)] false) [4] 0)
 .ret))
 (.seq (.post (.region [
 oN (.bin 111 .eql 46 (.c (I 10))),
 oM 110 111] false) [0, 3, 8, 9, 10, 46, 110] 1)
 (.cond 110 (.seq (.post (.region [
 oM 112 0,
 oM 113 8,
 oM 114 9,
 oN (.call (some 115) false 221 [112, 113, 114]),
 oN (.tk 4 115)] false) [4] 0)
 .ret)
 (.seq (.post (.region [
 oN (.bin 117 .eql 46 (.c (I 11))),
 oM 116 117] false) [0, 3, 8, 9, 10, 46, 116] 1)
 (.cond 116 (.seq (.post (.region [
 oM 118 0,
 oM 119 8,
 oM 120 9,
 oN (.call (some 121) false 226 [118, 119, 120]),
 oN (.tk 4 121)] false) [4] 0)
 .ret)
 (.seq (.post (.region [
 oN (.bin 123 .eql 46 (.c (I 12))),
 oM 122 123] false) [0, 3, 8, 9, 10, 46, 122] 1)
 (.cond 122 (.seq (.post (.region [
 oM 125 0,
 oM 126 8,
 oM 127 9,
 oN (.call (some 128) false 227 [125, 126, 127]),
 oM 124 128,
 oN (.extract 129 124 0),
 oN (.extract 130 124 1),
 oN (.tk 15 129),
 oN (.tk 16 130)] false) [15] 0)
 (.seq (.post (.region [
 oM 131 15,
 oN (.tk 4 131)] false) [4] 0)
 .ret))
 (.seq (.post (.region [
 oN (.bin 133 .eql 46 (.c (I 13))),
 oM 132 133] false) [0, 3, 8, 9, 10, 46, 132] 1)
 (.cond 132 (.seq (.post (.region [
 oM 135 0,
 oM 136 8,
 oM 137 9,
 oN (.call (some 138) false 227 [135, 136, 137]),
 oM 134 138,
 oN (.extract 139 134 0),
 oN (.extract 140 134 1),
 oN (.tk 17 139),
 oN (.tk 18 140)] false) [18] 0)
 (.seq (.post (.region [
 oM 141 18,
 oN (.tk 4 141)] false) [4] 0)
 .ret))
 (.seq (.post (.region [
 oN (.bin 143 .eql 46 (.c (I 14))),
 oM 142 143] false) [0, 3, 8, 9, 10, 46, 142] 1)
 (.cond 142 (.seq (.post (.region [
 oM 144 0,
 oM 145 8,
 oM 146 9,
 oN (.call (some 147) false 229 [144, 145, 146, (.f 228)]),
 oN (.tk 4 147)] false) [4] 0)
 .ret)
 (.seq (.post (.region [
 oN (.bin 149 .eql 46 (.c (I 15))),
 oM 148 149] false) [0, 3, 8, 9, 10, 46, 148] 1)
 (.cond 148 (.seq (.post (.region [
 oM 150 0,
 oM 151 8,
 oM 152 9,
 oN (.call (some 153) false 229 [150, 151, 152, (.f 230)]),
 oN (.tk 4 153)] false) [4] 0)
 .ret)
 (.seq (.post (.region [
 oN (.bin 155 .eql 46 (.c (I 16))),
 oM 154 155] false) [0, 3, 8, 9, 10, 46, 154] 1)
 (.cond 154 (.seq (.post (.region [
 oN (.mv 19 (.c (I 1)))] false) [0, 8, 9, 19] 0)
 (.seq (.seq (.post (.region [
 oM 156 8,
 oN (.len 157 0 156),
 oN (.mv 158 (.c (I 0)))] false) [0, 8, 9, 19, 157, 158] 0)
 (.cut qct))
 (.cut qcu)))
 (.seq (.post (.region [
 oN (.bin 182 .eql 46 (.c (I 17))),
 oM 181 182] false) [0, 3, 8, 9, 10, 46, 181] 1)
 (.cond 181 (.seq (.post (.region [
 oM 183 0,
 oM 184 8,
 oM 185 9,
 oN (.call (some 186) false 232 [183, 184, 185]),
 oN (.buildSl 187 1 [186]),
 oN (.tk 4 187)] false) [4] 0)
 .ret)
 (.seq (.post (.region [
 oN (.bin 189 .eql 46 (.c (I 18))),
 oM 188 189] false) [0, 3, 8, 9, 10, 46, 188] 1)
 (.cond 188 (.seq (.post (.region [
 oM 190 0,
 oM 191 8,
 oN (.call (some 192) true 233 [191]),
 oM 193 9,
 oN (.call (some 194) true 233 [193]),
 oN (.call (some 195) false 232 [190, 192, 194]),
 oN (.buildSl 196 1 [195]),
 oN (.tk 4 196)] false) [4] 0)
 .ret)
 (.seq (.post (.region [
 oN (.bin 198 .eql 46 (.c (I 19))),
 oM 197 198] false) [0, 3, 8, 9, 10, 46, 197] 1)
 (.cond 197 (.seq (.post (.region [
 oM 199 0,
 oM 200 8,
 oN (.iaddr 201 1 none 200 (.c (I 0))),
 oL 202 201,
 oM 203 9,
 oM 204 10,
 oN (.call (some 205) false 234 [199, 202, 203, 204]),
 oN (.tk 4 205)] false) [4] 0)
 .ret)
 (.seq (.post (.region [
 oN (.bin 207 .eql 46 (.c (I 20))),
 oM 206 207] false) [3, 8, 9, 46, 206] 1)
 (.cond 206 (.seq (.post (.region [
 oM 208 9,
 oM 209 8,
 oN (.buildSl 210 1 [208, 209]),
 oN (.call (some 211) true 107 [210]),
 oN (.tk 4 211)] false) [4] 0)
 .ret)
 (.seq (.post (.region [
 oN (.bin 213 .eql 46 (.c (I 21))),
 oM 212 213] false) [3, 8, 46, 212] 1)
 (.cond 212 (.seq (.post (.region [
 oM 214 8,
 oF 215 3 5,
 oL 216 215,
 oF 217 3 5,
 oL 218 217,
 oF 219 3 1,
 oL 220 219,
 oN (.bin 221 .add 218 220),
 oN (.slice 222 1 214 (some 216) (some 221)),
 oN (.tk 4 222)] false) [4] 0)
 .ret)
 (.seq (.post (.region [
 oN (.bin 224 .eql 46 (.c (I 22))),
 oM 223 224] false) [3, 8, 223] 1)
 (.cond 223 (.seq (.post (.region [
 oM 225 8,
 oF 226 3 1,
 oL 227 226,
 oN (.call (some 228) true 235 [225, 227, (.c (I 0))]),
 oN (.tk 4 228)] false) [4] 0)
 .ret)
 .skip))))))))))))))))))))))))))))))))))))))))))
 (.cut qcv)))
def qcx : ICode :=
 (.seq (.post (.region [
 oN (.box 3 false false 1),
 oN (.mv 4 (.c (.sl true 1 [])))] false) [0, 3] 1)
 (.seq (.region [
 oN (.alloc 5 false (.agg [.sl true 1 [], .sl true 1 [], .sl true 1 []]))] false)
 (.seq (.seq (.post (.region [
 oN (.load 21 true 6 3),
 oN (.call (some 22) true 81 [21]),
 oN (.len 23 0 22),
 oN (.mv 24 (.c (I 0)))] false) [0, 3, 5, 22, 23, 24] 2)
 (.cut qco))
 (.cut qcw))))
def qcy : IFunc := { np := 2, res := [.t 4], own := false, trunc := false, body := qcx }
/- 219: latchwork/blast.flip -/
def qcz : ICode :=
 (.seq (.post (.region [
 oN (.mv 2 (.c (.sl true 1 [])))] false) [0] 0)
 (.seq (.post (.region [
 oM 3 0,
 oM 4 0,
 oN (.call (some 5) false 222 [3, 4, (.f 236)]),
 oN (.tk 2 5)] false) [2] 0)
 .ret))
def qd0 : IFunc := { np := 1, res := [.t 2], own := false, trunc := true, body := qcz }
/- 220: latchwork/blast.zeros -/
def qd1 : ICode :=
 (.seq (.post (.region [
 oN (.mv 2 (.c (.sl true 1 [])))] false) [0] 0)
 (.seq (.post (.region [
 oM 3 0,
 oN (.mksl 4 true 1 8 (I 0) 3),
 oN (.tk 2 4)] false) [2] 0)
 .ret))
def qd2 : IFunc := { np := 1, res := [.t 2], own := true, trunc := true, body := qd1 }
/- 221: (*latchwork/blast.blaster).sub -/
def qd3 : ICode :=
 (.seq (.post (.region [
 oN (.mv 6 (.c (.sl true 1 [])))] false) [0, 1, 2] 0)
 (.seq (.post (.region [
 oM 10 0,
 oM 11 1,
 oM 12 2,
 oN (.call (some 13) true 219 [12]),
 oN (.call (some 14) false 225 [10, 11, 13, (.c (I 1))]),
 oM 9 14,
 oN (.extract 15 9 0),
 oN (.extract 16 9 1),
 oN (.tk 7 15),
 oM 8 16] false) [7] 0)
 (.seq (.post (.region [
 oM 17 7,
 oN (.tk 6 17)] false) [6] 0)
 .ret)))
def qd4 : IFunc := { np := 3, res := [.t 6], own := false, trunc := false, body := qd3 }
/- 222: latchwork/blast.each -/
def qd5 : ICode :=
 (.post (.seq (.region [
 oN (.bin 12 .lss 11 10)] false)
 (.seq (.cond 12 .skip
 (.exit 0))
 (.seq (.block 1 (.seq (.post (.region [
 oM 13 11,
 oM 8 13] false) [0, 1, 2, 7, 8, 10, 11] 0)
 (.post (.region [
 oN (.tk 14 7),
 oM 15 2,
 oM 16 0,
 oM 17 8,
 oA 18 16 17,
 oL 19 18,
 oM 20 1,
 oM 21 8,
 oA 22 20 21,
 oL 23 22,
 oN (.callv (some 24) false 15 [19, 23]),
 oN (.buildSl 25 1 [24]),
 oN (.append 26 1 8 14 25),
 oN (.tk 7 26)] true) [0, 1, 2, 7, 10, 11] 0)))
 (.post (.region [
 oN (.bin 27 .add 11 (.c (I 1))),
 oM 11 27] false) [0, 1, 2, 7, 10, 11] 0)))) [0, 1, 2, 7, 10, 11] 0)
def qd6 : ICode :=
 (.post (.block 0 (.loop qd5)) [7] 0)
def qd7 : ICode :=
 (.seq (.post (.region [
 oM 28 7,
 oN (.tk 6 28)] false) [6] 0)
 .ret)
def qd8 : ICode :=
 (.seq (.post (.region [
 oN (.mv 6 (.c (.sl true 1 [])))] false) [0, 1, 2] 0)
 (.seq (.region [
 oN (.mv 7 (.c (.sl true 1 [])))] false)
 (.seq (.seq (.post (.region [
 oM 9 0,
 oN (.len 10 0 9),
 oN (.mv 11 (.c (I 0)))] false) [0, 1, 2, 7, 10, 11] 0)
 (.cut qd6))
 (.cut qd7))))
def qd9 : IFunc := { np := 3, res := [.t 6], own := false, trunc := false, body := qd8 }
/- 223: (*latchwork/blast.blaster).or -/
def qda : ICode :=
 (.seq (.post (.region [
 oN (.mv 6 (.c (I 0)))] false) [0, 1, 2] 0)
 (.seq (.post (.region [
 oM 7 0,
 oC 8 7,
 oF 9 8 0,
 oL 10 9,
 oM 11 1,
 oN (.call (some 12) true 231 [11]),
 oM 13 2,
 oN (.call (some 14) true 231 [13]),
 oN (.call (some 15) false 49 [10, 12, 14]),
 oN (.call (some 16) true 231 [15]),
 oM 6 16] true) [6] 0)
 .ret))
def qdb : IFunc := { np := 3, res := [.t 6], own := false, trunc := false, body := qda }
/- 224: (*latchwork/blast.blaster).xor -/
def qdc : ICode :=
 (.seq (.post (.region [
 oN (.mv 6 (.c (I 0)))] false) [0, 1, 2] 0)
 (.seq (.post (.region [
 oM 7 0,
 oM 8 0,
 oC 9 8,
 oF 10 9 0,
 oL 11 10,
 oM 12 1,
 oM 13 2,
 oN (.call (some 14) true 231 [13]),
 oN (.callP (some 15) 49 [11, 12, 14] [0]),
 oM 16 0,
 oC 17 16,
 oF 18 17 0,
 oN (.loadB 19 false 1 18 0),
 oM 20 1,
 oN (.call (some 21) true 231 [20]),
 oM 22 2,
 oN (.call (some 23) false 49 [19, 21, 22]),
 oN (.call (some 24) false 223 [7, 15, 23]),
 oM 6 24] true) [6] 0)
 .ret))
def qdd : IFunc := { np := 3, res := [.t 6], own := false, trunc := false, body := qdc }
/- 225: (*latchwork/blast.blaster).sum -/
def qde : ICode :=
 (.post (.seq (.region [
 oN (.bin 16 .lss 15 14)] false)
 (.seq (.cond 16 .skip
 (.exit 0))
 (.seq (.block 1 (.seq (.post (.region [
 oM 17 15,
 oM 11 17] false) [0, 1, 2, 3, 10, 11, 14, 15] 0)
 (.seq (.post (.region [
 oM 18 0,
 oM 19 1,
 oM 20 11,
 oA 21 19 20,
 oL 22 21,
 oM 23 2,
 oM 24 11,
 oA 25 23 24,
 oL 26 25,
 oN (.call (some 27) false 224 [18, 22, 26]),
 oM 12 27] true) [0, 1, 2, 3, 10, 11, 12, 14, 15] 0)
 (.seq (.post (.region [
 oN (.tk 28 10),
 oM 29 0,
 oM 30 12,
 oM 31 3,
 oN (.call (some 32) false 224 [29, 30, 31]),
 oN (.buildSl 33 1 [32]),
 oN (.append 34 1 8 28 33),
 oN (.tk 10 34)] false) [0, 1, 2, 3, 10, 11, 12, 14, 15] 0)
 (.post (.region [
 oM 35 0,
 oM 36 0,
 oC 37 36,
 oF 38 37 0,
 oL 39 38,
 oM 40 1,
 oM 41 11,
 oA 42 40 41,
 oL 43 42,
 oM 44 2,
 oM 45 11,
 oA 46 44 45,
 oL 47 46,
 oN (.callP (some 48) 49 [39, 43, 47] [0]),
 oM 49 0,
 oC 50 49,
 oF 51 50 0,
 oN (.loadB 52 false 1 51 0),
 oM 53 12,
 oM 54 3,
 oN (.call (some 55) false 49 [52, 53, 54]),
 oN (.call (some 56) false 223 [35, 48, 55]),
 oM 3 56] true) [0, 1, 2, 3, 10, 14, 15] 0)))))
 (.post (.region [
 oN (.bin 57 .add 15 (.c (I 1))),
 oM 15 57] false) [0, 1, 2, 3, 10, 14, 15] 0)))) [0, 1, 2, 3, 10, 14, 15] 0)
def qdf : ICode :=
 (.post (.block 0 (.loop qde)) [3, 10] 0)
def qdg : ICode :=
 (.seq (.post (.region [
 oM 58 10,
 oM 59 3,
 oN (.tk 8 58),
 oM 9 59] false) [8, 9] 0)
 .ret)
def qdh : ICode :=
 (.seq (.post (.region [
 oN (.mv 8 (.c (.sl true 1 []))),
 oN (.mv 9 (.c (I 0)))] false) [0, 1, 2, 3] 0)
 (.seq (.region [
 oN (.mv 10 (.c (.sl true 1 [])))] false)
 (.seq (.seq (.post (.region [
 oM 13 1,
 oN (.len 14 0 13),
 oN (.mv 15 (.c (I 0)))] false) [0, 1, 2, 3, 10, 14, 15] 0)
 (.cut qdf))
 (.cut qdg))))
def qdi : IFunc := { np := 4, res := [.t 8, .t 9], own := false, trunc := false, body := qdh }
/- 226: (*latchwork/blast.blaster).mul -/
def qdj : ICode :=
 (.post (.seq (.region [
 oN (.bin 17 .lss 16 15)] false)
 (.seq (.cond 17 .skip
 (.exit 0))
 (.seq (.block 1 (.seq (.post (.region [
 oM 18 16,
 oA 19 14 16,
 oL 20 19,
 oM 8 18,
 oM 9 20] false) [0, 1, 7, 8, 9, 14, 15, 16] 0)
 (.seq (.post (.region [
 oM 21 8,
 oN (.call (some 22) true 220 [21]),
 oM 23 1,
 oM 24 1,
 oN (.len 25 0 24),
 oM 26 8,
 oN (.bin 27 .sub 25 26),
 oN (.slice 28 1 23 none (some 27)),
 oN (.append 29 1 8 22 28),
 oN (.tk 10 29)] true) [0, 1, 7, 9, 10, 14, 15, 16] 0)
 (.post (.region [
 oM 31 0,
 oM 32 7,
 oM 33 0,
 oM 34 9,
 oM 35 10,
 oM 36 1,
 oN (.len 37 0 36),
 oN (.call (some 38) true 220 [37]),
 oN (.call (some 39) false 234 [33, 34, 35, 38]),
 oN (.call (some 40) false 225 [31, 32, 39, (.c (I 0))]),
 oM 30 40,
 oN (.extract 41 30 0),
 oN (.extract 42 30 1),
 oN (.tk 7 41)] false) [0, 1, 7, 14, 15, 16] 0))))
 (.post (.region [
 oN (.bin 43 .add 16 (.c (I 1))),
 oM 16 43] false) [0, 1, 7, 14, 15, 16] 0)))) [0, 1, 7, 14, 15, 16] 0)
def qdk : ICode :=
 (.post (.block 0 (.loop qdj)) [7] 0)
def qdl : ICode :=
 (.seq (.post (.region [
 oM 44 7,
 oN (.tk 6 44)] false) [6] 0)
 .ret)
def qdm : ICode :=
 (.seq (.post (.region [
 oN (.mv 6 (.c (.sl true 1 [])))] false) [0, 1, 2] 0)
 (.seq (.post (.region [
 oM 11 1,
 oN (.len 12 0 11),
 oN (.call (some 13) true 220 [12]),
 oN (.tk 7 13)] false) [0, 1, 2, 7] 0)
 (.seq (.seq (.post (.region [
 oM 14 2,
 oN (.len 15 0 14),
 oN (.mv 16 (.c (I 0)))] false) [0, 1, 7, 14, 15, 16] 0)
 (.cut qdk))
 (.cut qdl))))
def qdn : IFunc := { np := 3, res := [.t 6], own := false, trunc := false, body := qdm }
/- 227: (*latchwork/blast.blaster).over -/
def qdo : ICode :=
 (.post (.seq (.seq (.post (.region [
 oM 31 12,
 oN (.bin 32 .geq 31 (.c (I 0)))] false) [0, 1, 2, 8, 9, 10, 11, 12, 32] 0)
 (.cond 32 .skip
 (.exit 0)))
 (.seq (.block 1 (.seq (.post (.region [
 oM 35 1,
 oM 36 12,
 oA 37 35 36,
 oL 38 37,
 oN (.buildSl 39 1 [38]),
 oM 40 9,
 oM 41 8,
 oN (.slice 42 1 40 none (some 41)),
 oN (.append 43 1 8 39 42),
 oN (.tk 9 43)] true) [0, 1, 2, 8, 9, 10, 11, 12] 0)
 (.seq (.post (.region [
 oM 44 0,
 oM 45 9,
 oM 46 10,
 oN (.call (some 47) false 232 [44, 45, 46]),
 oN (.call (some 48) true 231 [47]),
 oM 13 48] false) [0, 1, 2, 8, 9, 10, 11, 12, 13] 0)
 (.seq (.post (.region [
 oM 49 0,
 oM 50 13,
 oM 51 0,
 oM 52 9,
 oM 53 10,
 oN (.call (some 54) false 221 [51, 52, 53]),
 oM 55 9,
 oN (.call (some 56) false 234 [49, 50, 54, 55]),
 oN (.tk 9 56)] false) [0, 1, 2, 8, 9, 10, 11, 12, 13] 0)
 (.post (.region [
 oM 57 11,
 oM 58 12,
 oM 59 13,
 oA 60 57 58,
 oN (.store false 1 60 59)] false) [0, 1, 2, 8, 9, 10, 11, 12] 0)))))
 (.post (.region [
 oM 33 12,
 oN (.bin 34 .sub 33 (.c (I 1))),
 oM 12 34] false) [0, 1, 2, 8, 9, 10, 11, 12] 0))) [0, 1, 2, 8, 9, 10, 11, 12] 0)
def qdp : ICode :=
 (.post (.block 0 (.loop qdo)) [0, 1, 2, 8, 9, 11] 0)
def qdq : ICode :=
 (.post (.seq (.region [
 oN (.bin 64 .lss 63 62)] false)
 (.seq (.cond 64 .skip
 (.exit 2))
 (.seq (.block 3 (.seq (.post (.region [
 oA 65 61 63,
 oL 66 65,
 oM 16 66] false) [0, 1, 8, 9, 11, 14, 16, 61, 62, 63] 0)
 (.post (.region [
 oM 67 0,
 oC 68 67,
 oF 69 68 0,
 oL 70 69,
 oM 71 14,
 oM 72 16,
 oN (.call (some 73) true 231 [72]),
 oN (.call (some 74) false 49 [70, 71, 73]),
 oM 14 74] true) [0, 1, 8, 9, 11, 14, 61, 62, 63] 0)))
 (.post (.region [
 oN (.bin 75 .add 63 (.c (I 1))),
 oM 63 75] false) [0, 1, 8, 9, 11, 14, 61, 62, 63] 0)))) [0, 1, 8, 9, 11, 14, 61, 62, 63] 0)
def qdr : ICode :=
 (.post (.block 2 (.loop qdq)) [0, 1, 8, 9, 11, 14] 0)
def qds : ICode :=
 (.seq (.post (.region [
 oM 76 8,
 oN (.call (some 77) true 220 [76]),
 oN (.call (some 78) true 219 [77]),
 oN (.tk 17 78)] false) [0, 1, 8, 9, 11, 14, 17] 0)
 (.seq (.post (.region [
 oM 79 0,
 oM 80 14,
 oM 81 17,
 oM 82 11,
 oN (.call (some 83) false 234 [79, 80, 81, 82]),
 oM 84 0,
 oM 85 14,
 oM 86 1,
 oM 87 9,
 oM 88 8,
 oN (.slice 89 1 87 none (some 88)),
 oN (.call (some 90) false 234 [84, 85, 86, 89]),
 oN (.tk 6 83),
 oN (.tk 7 90)] true) [6, 7] 0)
 .ret))
def qdt : ICode :=
 (.seq (.region [
 oN (.mv 14 (.c (I 1)))] false)
 (.seq (.seq (.post (.region [
 oM 61 2,
 oN (.len 62 0 61),
 oN (.mv 63 (.c (I 0)))] false) [0, 1, 8, 9, 11, 14, 61, 62, 63] 0)
 (.cut qdr))
 (.cut qds)))
def qdu : ICode :=
 (.seq (.post (.region [
 oN (.mv 6 (.c (.sl true 1 []))),
 oN (.mv 7 (.c (.sl true 1 [])))] false) [0, 1, 2] 0)
 (.seq (.post (.region [
 oM 18 1,
 oN (.len 19 0 18),
 oM 8 19] false) [0, 1, 2, 8] 0)
 (.seq (.post (.region [
 oM 20 8,
 oN (.bin 21 .add 20 (.c (I 1))),
 oN (.call (some 22) true 220 [21]),
 oN (.tk 9 22)] false) [0, 1, 2, 8, 9] 0)
 (.seq (.post (.region [
 oM 23 2,
 oN (.call (some 24) true 83 [23]),
 oN (.buildSl 25 1 [(.c (I 0))]),
 oN (.append 26 1 8 24 25),
 oN (.tk 10 26)] false) [0, 1, 2, 8, 9, 10] 0)
 (.seq (.post (.region [
 oM 27 8,
 oN (.call (some 28) true 220 [27]),
 oN (.tk 11 28)] false) [0, 1, 2, 8, 9, 10, 11] 0)
 (.seq (.seq (.post (.region [
 oM 29 8,
 oN (.bin 30 .sub 29 (.c (I 1))),
 oM 12 30] false) [0, 1, 2, 8, 9, 10, 11, 12] 0)
 (.cut qdp))
 (.cut qdt)))))))
def qdv : IFunc := { np := 3, res := [.t 6, .t 7], own := false, trunc := false, body := qdu }
/- 228: latchwork/blast.up -/
def qdw : ICode :=
 (.seq (.post (.region [
 oN (.mv 4 (.c (.sl true 1 [])))] false) [0, 1] 0)
 (.seq (.post (.region [
 oM 5 1,
 oN (.call (some 6) true 220 [5]),
 oM 7 0,
 oM 8 0,
 oN (.len 9 0 8),
 oM 10 1,
 oN (.bin 11 .sub 9 10),
 oN (.slice 12 1 7 none (some 11)),
 oN (.append 13 1 8 6 12),
 oN (.tk 4 13)] true) [4] 0)
 .ret))
def qdx : IFunc := { np := 2, res := [.t 4], own := false, trunc := true, body := qdw }
/- 229: (*latchwork/blast.blaster).shifted -/
def qdy : ICode :=
 (.post (.region [
 oM 32 0,
 oM 33 10,
 oM 34 11,
 oM 35 1,
 oN (.call (some 36) false 234 [32, 33, 34, 35]),
 oN (.tk 1 36)] false) [0, 1, 3, 12, 13, 14] 0)
def qdz : ICode :=
 (.post (.region [
 oN (.bin 37 .add 14 (.c (I 1))),
 oM 14 37] false) [0, 1, 3, 12, 13, 14] 0)
def qe0 : ICode :=
 (.post (.seq (.region [
 oN (.bin 15 .lss 14 13)] false)
 (.seq (.cond 15 .skip
 (.exit 0))
 (.seq (.block 1 (.seq (.post (.region [
 oM 16 14,
 oA 17 12 14,
 oL 18 17,
 oM 9 16,
 oM 10 18] false) [0, 1, 3, 9, 10, 12, 13, 14] 0)
 (.seq (.post (.region [
 oM 19 1,
 oN (.len 20 0 19),
 oN (.call (some 21) true 220 [20]),
 oN (.tk 11 21)] false) [0, 1, 3, 9, 10, 11, 12, 13, 14] 0)
 (.seq (.seq (.post (.region [
 oM 22 9,
 oN (.bin 23 .shl (.c (I 1)) 22),
 oM 24 1,
 oN (.len 25 0 24),
 oN (.bin 26 .lss 23 25)] false) [0, 1, 3, 9, 10, 11, 12, 13, 14, 26] 0)
 (.cond 26 (.post (.post (.region [
 oM 27 3,
 oM 28 1,
 oM 29 9,
 oN (.bin 30 .shl (.c (I 1)) 29),
 oN (.callv (some 31) true 27 [28, 30]),
 oN (.tk 11 31)] false) [0, 1, 3, 10, 11, 12, 13, 14] 0) [0, 1, 3, 10, 11, 12, 13, 14] 0)
 (.post .skip [0, 1, 3, 10, 11, 12, 13, 14] 0)))
 (.cut qdy)))))
 (.cut qdz)))) [0, 1, 3, 12, 13, 14] 0)
def qe1 : ICode :=
 (.post (.block 0 (.loop qe0)) [1] 0)
def qe2 : ICode :=
 (.seq (.post (.region [
 oM 38 1,
 oN (.tk 8 38)] false) [8] 0)
 .ret)
def qe3 : ICode :=
 (.seq (.post (.region [
 oN (.mv 8 (.c (.sl true 1 [])))] false) [0, 1, 2, 3] 0)
 (.seq (.seq (.post (.region [
 oM 12 2,
 oN (.len 13 0 12),
 oN (.mv 14 (.c (I 0)))] false) [0, 1, 3, 12, 13, 14] 0)
 (.cut qe1))
 (.cut qe2)))
def qe4 : IFunc := { np := 4, res := [.t 8], own := false, trunc := false, body := qe3 }
/- 230: latchwork/blast.down -/
def qe5 : ICode :=
 (.seq (.post (.region [
 oN (.mv 4 (.c (.sl true 1 [])))] false) [0, 1] 0)
 (.seq (.post (.region [
 oM 5 0,
 oM 6 1,
 oN (.slice 7 1 5 (some 6) none),
 oN (.call (some 8) true 83 [7]),
 oM 9 1,
 oN (.call (some 10) true 220 [9]),
 oN (.append 11 1 8 8 10),
 oN (.tk 4 11)] false) [4] 0)
 .ret))
def qe6 : IFunc := { np := 2, res := [.t 4], own := false, trunc := true, body := qe5 }
/- 231: latchwork/blast.not -/
def qe7 : ICode :=
 (.seq (.post (.region [
 oN (.mv 2 (.c (I 0)))] false) [0] 0)
 (.seq (.post (.region [
 oM 3 0,
 oN (.bin 4 .xor 3 (.c (I 1))),
 oM 2 4] false) [2] 0)
 .ret))
def qe8 : IFunc := { np := 1, res := [.t 2], own := false, trunc := true, body := qe7 }
/- 232: (*latchwork/blast.blaster).less -/
def qe9 : ICode :=
 (.seq (.post (.region [
 oN (.mv 6 (.c (I 0)))] false) [0, 1, 2] 0)
 (.seq (.post (.region [
 oM 10 0,
 oM 11 1,
 oM 12 2,
 oN (.call (some 13) true 219 [12]),
 oN (.call (some 14) false 225 [10, 11, 13, (.c (I 1))]),
 oM 9 14,
 oN (.extract 15 9 0),
 oN (.extract 16 9 1),
 oN (.tk 7 15),
 oM 8 16] false) [8] 0)
 (.seq (.post (.region [
 oM 17 8,
 oN (.call (some 18) true 231 [17]),
 oM 6 18] false) [6] 0)
 .ret)))
def qea : IFunc := { np := 3, res := [.t 6], own := false, trunc := false, body := qe9 }
/- 233: latchwork/blast.turned -/
def qeb : ICode :=
 (.seq (.post (.region [
 oN (.mv 2 (.c (.sl true 1 [])))] false) [0] 0)
 (.seq (.post (.region [
 oM 3 0,
 oN (.call (some 4) true 83 [3]),
 oN (.tk 0 4)] false) [0] 0)
 (.seq (.post (.region [
 oM 5 0,
 oM 6 0,
 oN (.len 7 0 6),
 oN (.bin 8 .sub 7 (.c (I 1))),
 oM 9 0,
 oM 10 0,
 oN (.len 11 0 10),
 oN (.bin 12 .sub 11 (.c (I 1))),
 oA 13 9 12,
 oL 14 13,
 oN (.call (some 15) true 231 [14]),
 oA 16 5 8,
 oN (.store false 1 16 15)] false) [0] 0)
 (.seq (.post (.region [
 oM 17 0,
 oN (.tk 2 17)] false) [2] 0)
 .ret))))
def qec : IFunc := { np := 1, res := [.t 2], own := false, trunc := true, body := qeb }
/- 234: (*latchwork/blast.blaster).picks -/
def qed : ICode :=
 (.seq (.post (.region [
 oN (.box 4 true false 0),
 oN (.box 5 true false 1),
 oN (.mv 8 (.c (.sl true 1 [])))] false) [2, 3, 4, 5] 0)
 (.seq (.post (.region [
 oM 9 2,
 oM 10 3,
 oN (.mkfn 11 237 [4, 5]),
 oN (.call (some 12) false 222 [9, 10, 11]),
 oN (.tk 8 12)] false) [8] 0)
 .ret))
def qee : IFunc := { np := 4, res := [.t 8], own := false, trunc := false, body := qed }
/- 235: latchwork/blast.wider -/
def qef : ICode :=
 (.post (.seq (.seq (.post (.region [
 oM 9 0,
 oN (.len 10 0 9),
 oM 11 1,
 oN (.bin 12 .lss 10 11)] false) [0, 1, 2, 12] 0)
 (.cond 12 .skip
 (.exit 0)))
 (.block 1 (.post (.region [
 oM 13 0,
 oM 14 2,
 oN (.buildSl 15 1 [14]),
 oN (.append 16 1 8 13 15),
 oN (.tk 0 16)] false) [0, 1, 2] 0))) [0, 1, 2] 0)
def qeg : ICode :=
 (.post (.block 0 (.loop qef)) [0] 0)
def qeh : ICode :=
 (.seq (.post (.region [
 oM 17 0,
 oN (.tk 6 17)] false) [6] 0)
 .ret)
def qei : ICode :=
 (.seq (.post (.region [
 oN (.mv 6 (.c (.sl true 1 [])))] false) [0, 1, 2] 0)
 (.seq (.post (.region [
 oM 7 0,
 oN (.call (some 8) true 83 [7]),
 oN (.tk 0 8)] false) [0, 1, 2] 0)
 (.seq (.cut qeg)
 (.cut qeh))))
def qej : IFunc := { np := 3, res := [.t 6], own := false, trunc := true, body := qei }
/- 236: latchwork/blast.flip$1 -/
def qek : ICode :=
 (.seq (.post (.region [
 oN (.mv 4 (.c (I 0)))] false) [0] 0)
 (.seq (.post (.region [
 oM 5 0,
 oN (.call (some 6) true 231 [5]),
 oM 4 6] false) [4] 0)
 .ret))
def qel : IFunc := { np := 2, res := [.t 4], own := false, trunc := true, body := qek }
/- 237: (*latchwork/blast.blaster).picks$1 -/
def qem : ICode :=
 (.seq (.post (.region [
 oN (.mv 6 (.c (I 0)))] false) [0, 1, 2, 3] 0)
 (.seq (.post (.region [
 oL 7 2,
 oL 8 3,
 oM 9 0,
 oM 10 1,
 oN (.call (some 11) false 238 [7, 8, 9, 10]),
 oM 6 11] false) [6] 0)
 .ret))
def qen : IFunc := { np := 4, res := [.t 6], own := false, trunc := false, body := qem }
/- 238: (*latchwork/blast.blaster).pick -/
def qeo : ICode :=
 (.seq (.post (.region [
 oN (.mv 8 (.c (I 0)))] false) [0, 1, 2, 3] 0)
 (.seq (.post (.region [
 oM 9 0,
 oM 10 0,
 oC 11 10,
 oF 12 11 0,
 oL 13 12,
 oM 14 1,
 oM 15 2,
 oN (.callP (some 16) 49 [13, 14, 15] [0]),
 oM 17 0,
 oC 18 17,
 oF 19 18 0,
 oN (.loadB 20 false 1 19 0),
 oM 21 1,
 oN (.call (some 22) true 231 [21]),
 oM 23 3,
 oN (.call (some 24) false 49 [20, 22, 23]),
 oN (.call (some 25) false 223 [9, 16, 24]),
 oM 8 25] true) [8] 0)
 .ret))
def qep : IFunc := { np := 4, res := [.t 8], own := false, trunc := false, body := qeo }
end Go.Lw
end

/-! The code of package Cnf for the small machine. Written by program (gen.py). -/
section
set_option maxRecDepth 10000
namespace Go.Lw
open Go
/- 16: latchwork/cnf.Of -/
/- 32: latchwork/cnf.Holds -/
/- 53: (*latchwork/cnf.Maker).Ands -/
def q7e : ICode :=
 (.post (.seq (.region [
 oN (.bin 15 .lss 14 13)] false)
 (.seq (.cond 15 .skip
 (.exit 0))
 (.seq (.block 1 (.seq (.post (.region [
 oM 16 14,
 oN (.iaddr 17 2 none 12 14),
 oN (.load 18 true 2 17),
 oN (.alloc 7 false (.agg [I 0, I 0])),
 oM 6 16,
 oN (.store false 2 7 18)] false) [0, 2, 4, 6, 7, 12, 13, 14] 2)
 (.seq (.post (.region [
 oF 19 4 0,
 oL 20 19,
 oN (.bin 21 .add (.c (I 1)) 20),
 oM 22 6,
 oN (.bin 23 .add 21 22),
 oM 24 2,
 oN (.bin 25 .add 23 24),
 oM 8 25] false) [0, 2, 4, 7, 8, 12, 13, 14] 2)
 (.seq (.post (.region [
 oN (.iaddr 26 1 (some 2) 7 (.c (I 0))),
 oL 27 26,
 oM 28 2,
 oN (.call (some 29) true 90 [27, 28]),
 oN (.iaddr 30 1 (some 2) 7 (.c (I 1))),
 oL 31 30,
 oM 32 2,
 oN (.call (some 33) true 90 [31, 32]),
 oM 9 29,
 oM 10 33] true) [0, 2, 4, 8, 9, 10, 12, 13, 14] 1)
 (.seq (.post (.region [
 oM 34 0,
 oM 35 8,
 oN (.un 36 .neg 35),
 oM 37 9,
 oN (.buildSl 38 1 [36, 37]),
 oN (.call (some 39) false 91 [34, 38])] false) [0, 2, 4, 8, 9, 10, 12, 13, 14] 1)
 (.seq (.post (.region [
 oM 40 0,
 oM 41 8,
 oN (.un 42 .neg 41),
 oM 43 10,
 oN (.buildSl 44 1 [42, 43]),
 oN (.call (some 45) false 91 [40, 44])] false) [0, 2, 4, 8, 9, 10, 12, 13, 14] 1)
 (.post (.region [
 oM 46 0,
 oM 47 8,
 oM 48 9,
 oN (.un 49 .neg 48),
 oM 50 10,
 oN (.un 51 .neg 50),
 oN (.buildSl 52 1 [47, 49, 51]),
 oN (.call (some 53) false 91 [46, 52])] false) [0, 2, 4, 12, 13, 14] 1)))))))
 (.post (.region [
 oN (.bin 54 .add 14 (.c (I 1))),
 oM 14 54] false) [0, 2, 4, 12, 13, 14] 1)))) [0, 2, 4, 12, 13, 14] 1)
def q3i : ICode :=
 (.post (.block 0 (.loop q7e)) [] 0)
def q7f : ICode :=
 (.seq (.post (.region [
 oN (.box 4 false false 1)] false) [0, 2, 4] 1)
 (.seq (.post (.region [
 oF 11 4 1,
 oL 12 11,
 oN (.len 13 0 12),
 oN (.mv 14 (.c (I 0)))] false) [0, 2, 4, 12, 13, 14] 1)
 (.cut q3i)))
def q3j : IFunc := { np := 3, res := [], own := false, trunc := false, body := q7f }
/- 54: (*latchwork/cnf.Maker).Must -/
def q3k : ICode :=
 (.seq (.region [
 oM 6 1] false)
 (.block 0 (.seq (.post (.region [
 oN (.bin 14 .eql 6 (.c (I 1))),
 oM 13 14] false) [0, 1, 2, 6, 13] 0)
 (.cond 13 (.post .skip [] 0)
 (.post (.seq (.post (.region [
 oN (.bin 16 .eql 6 (.c (I 0))),
 oM 15 16] false) [0, 1, 2, 15] 0)
 (.cond 15 (.post (.post (.region [
 oM 17 0,
 oN (.call (some 18) false 91 [17, (.c (.sl true 1 []))])] false) [] 0) [] 0)
 (.post (.post (.region [
 oM 7 0,
 oM 8 1,
 oM 9 2,
 oN (.call (some 10) true 90 [8, 9]),
 oN (.buildSl 11 1 [10]),
 oN (.call (some 12) false 91 [7, 11])] false) [] 0) [] 0))) [] 0)))))
def q3l : IFunc := { np := 3, res := [], own := false, trunc := false, body := q3k }
/- 55: latchwork/cnf.Done -/
def q7g : ICode :=
 (.seq (.post (.region [
 oN (.box 1 false false 0),
 oN (.alloc 2 false (.agg [I 0, .sl true 1 []])),
 oN (.mv 3 (.c (I 0)))] false) [1, 2] 2)
 (.seq (.seq (.post (.region [
 oN (.load 5 true 2 1),
 oN (.call (some 6) true 59 [5]),
 oM 4 6] false) [1, 2, 4] 2)
 (.seq (.post (.region [
 oM 7 4,
 oN (.bin 8 .neq 7 (.c (I 0)))] false) [1, 2, 4, 8] 2)
 (.cond 8 (.seq (.post (.region [
 oN (.build 9 [I 0, .sl true 1 []] []),
 oM 10 4,
 oN (.store true 2 2 9),
 oM 3 10] false) [2, 3] 2)
 .ret)
 .skip)))
 (.seq (.post (.region [
 oN (.load 11 true 2 1),
 oN (.store true 2 2 11),
 oN (.mv 3 (.c (I 0)))] false) [2, 3] 2)
 .ret)))
def q14 : IFunc := { np := 1, res := [.cell 2 true 2, .t 3], own := false, trunc := true, body := q7g }
/- 59: latchwork/cnf.Check -/
def q7h : ICode :=
 (.post (.seq (.region [
 oN (.bin 22 .lss 21 20)] false)
 (.seq (.cond 22 .skip
 (.exit 0))
 (.seq (.block 1 (.seq (.post (.region [
 oA 23 19 21,
 oL 24 23,
 oN (.tk 4 24)] false) [1, 4, 19, 20, 21] 1)
 (.seq (.post (.region [
 oF 25 1 0,
 oL 26 25,
 oM 27 4,
 oN (.call (some 28) true 94 [26, 27]),
 oM 5 28] false) [1, 5, 19, 20, 21] 1)
 (.seq (.post (.region [
 oM 29 5,
 oN (.bin 30 .neq 29 (.c (I 0)))] false) [1, 5, 19, 20, 21, 30] 1)
 (.cond 30 (.seq (.post (.region [
 oM 31 5,
 oM 2 31] false) [2] 0)
 .ret)
 .skip)))))
 (.post (.region [
 oN (.bin 32 .add 21 (.c (I 1))),
 oM 21 32] false) [1, 19, 20, 21] 1)))) [1, 19, 20, 21] 1)
def q3m : ICode :=
 (.post (.block 0 (.loop q7h)) [] 0)
def q3n : ICode :=
 (.seq (.region [
 oN (.mv 2 (.c (I 0)))] false)
 .ret)
def q7i : ICode :=
 (.seq (.post (.region [
 oN (.box 1 false false 0),
 oN (.mv 2 (.c (I 0)))] false) [1] 1)
 (.seq (.seq (.post (.region [
 oF 6 1 0,
 oL 7 6,
 oN (.bin 8 .lss 7 (.c (I 0))),
 oM 9 8,
  ⟨.faddr 10 1 0, some (9, false)⟩,
  ⟨.load 11 false 1 10, some (9, false)⟩,
  ⟨.bin 12 .gtr 11 (.c (I 200000)), some (9, false)⟩,
 oN (.pick 13 9 (.c (.bool true)) 12)] false) [1, 13] 1)
 (.cond 13 (.seq (.post (.region [
 oN (.mv 2 (.c (I 3)))] false) [2] 0)
 .ret)
 .skip))
 (.seq (.seq (.post (.region [
 oF 14 1 1,
 oL 15 14,
 oN (.len 16 0 15),
 oN (.bin 17 .gtr 16 (.c (I 800000)))] false) [1, 17] 1)
 (.cond 17 (.seq (.post (.region [
 oN (.mv 2 (.c (I 2)))] false) [2] 0)
 .ret)
 .skip))
 (.seq (.seq (.post (.region [
 oF 18 1 1,
 oL 19 18,
 oN (.len 20 0 19),
 oN (.mv 21 (.c (I 0)))] false) [1, 19, 20, 21] 1)
 (.cut q3m))
 (.cut q3n)))))
def qb : IFunc := { np := 1, res := [.t 2], own := false, trunc := true, body := q7i }
/- 70: latchwork/cnf.Hold -/
/- 90: latchwork/cnf.Number -/
def q7j : ICode :=
 (.seq (.post (.region [
 oN (.mv 4 (.c (I 0)))] false) [0, 1] 0)
 (.seq (.seq (.post (.region [
 oM 5 0,
 oN (.bin 6 .rem 5 (.c (I 2))),
 oN (.bin 7 .eql 6 (.c (I 1)))] false) [0, 1, 7] 0)
 (.cond 7 (.seq (.post (.region [
 oM 8 0,
 oN (.bin 9 .quo 8 (.c (I 2))),
 oM 10 1,
 oN (.bin 11 .add 9 10),
 oN (.un 12 .neg 11),
 oM 4 12] false) [4] 0)
 .ret)
 .skip))
 (.seq (.post (.region [
 oM 13 0,
 oN (.bin 14 .quo 13 (.c (I 2))),
 oM 15 1,
 oN (.bin 16 .add 14 15),
 oM 4 16] false) [4] 0)
 .ret)))
def q15 : IFunc := { np := 2, res := [.t 4], own := false, trunc := true, body := q7j }
/- 91: (*latchwork/cnf.Maker).Add -/
def q7k : ICode :=
 (.post (.region [
 oM 4 0,
 oM 5 0,
 oC 6 5,
 oF 7 6 0,
 oF 8 7 1,
 oN (.loadT 9 8),
 oM 10 1,
 oN (.buildSl 11 1 [10]),
 oN (.append 12 1 24 9 11),
 oC 13 4,
 oF 14 13 0,
 oF 15 14 1,
 oN (.store true 1 15 12)] false) [] 0)
def q3o : IFunc := { np := 2, res := [], own := false, trunc := false, body := q7k }
/- 94: latchwork/cnf.one -/
def q7l : ICode :=
 (.seq (.post (.region [
 oN (.box 2 true false 0),
 oN (.mv 4 (.c (I 0)))] false) [1, 2] 0)
 (.seq (.seq (.post (.region [
 oM 5 1,
 oN (.len 6 0 5),
 oN (.bin 7 .gtr 6 (.c (I 200)))] false) [1, 2, 7] 0)
 (.cond 7 (.seq (.post (.region [
 oN (.mv 4 (.c (I 2)))] false) [4] 0)
 .ret)
 .skip))
 (.seq (.seq (.post (.region [
 oM 8 1,
 oN (.mkfn 9 113 [2]),
 oN (.call (some 10) true 86 [8, 9])] false) [10] 0)
 (.cond 10 (.seq (.post (.region [
 oN (.mv 4 (.c (I 5)))] false) [4] 0)
 .ret)
 .skip))
 (.seq (.post (.region [
 oN (.mv 4 (.c (I 0)))] false) [4] 0)
 .ret))))
def ql : IFunc := { np := 2, res := [.t 4], own := false, trunc := true, body := q7l }
/- 98: latchwork/cnf.Hold$1 -/
/- 99: latchwork/cnf.Hold$2 -/
/- 113: latchwork/cnf.one$1 -/
def q7m : ICode :=
 (.seq (.post (.region [
 oN (.mv 3 (.c (.bool false)))] false) [0, 1] 0)
 (.seq (.post (.region [
 oM 4 0,
 oN (.bin 5 .eql 4 (.c (I 0))),
 oM 6 5,
  ⟨.mv 7 0, some (6, false)⟩,
  ⟨.load 8 false 1 1, some (6, false)⟩,
  ⟨.bin 9 .gtr 7 8, some (6, false)⟩,
 oN (.pick 10 6 (.c (.bool true)) 9),
 oM 11 10,
  ⟨.mv 12 0, some (11, false)⟩,
  ⟨.load 13 false 1 1, some (11, false)⟩,
  ⟨.un 14 .neg 13, some (11, false)⟩,
  ⟨.bin 15 .lss 12 14, some (11, false)⟩,
 oN (.pick 16 11 (.c (.bool true)) 15),
 oM 3 16] false) [3] 0)
 .ret))
def qm : IFunc := { np := 2, res := [.t 3], own := false, trunc := true, body := q7m }
/- 116: latchwork/cnf.abs -/
/- 153: latchwork/cnf.Clause -/
/- 384: latchwork/cnf.Print -/
end Go.Lw
end

/-! The code of package Eval for the small machine. Written by program (gen.py). -/
section
set_option maxRecDepth 10000
namespace Go.Lw
open Go
/- 123: latchwork/eval.Begin -/
/- 128: latchwork/eval.Values -/
/- 129: latchwork/eval.Step -/
/- 130: latchwork/eval.Look -/
/- 135: latchwork/eval.Words -/
/- 136: latchwork/eval.First -/
/- 138: latchwork/eval.ready -/
/- 139: latchwork/eval.Raw -/
def qeq : ICode :=
 (.post (.region [
 oN (.bin 79 .add 19 (.c (I 1))),
 oM 19 79] false) [1, 2, 3, 7, 8, 17, 18, 19] 1)
def qer : ICode :=
 (.post (.seq (.region [
 oN (.bin 20 .lss 19 18)] false)
 (.seq (.cond 20 .skip
 (.exit 0))
 (.seq (.block 1 (.seq (.post (.region [
 oM 21 19,
 oN (.iaddr 22 6 none 17 19),
 oN (.load 23 true 6 22),
 oN (.alloc 10 false (.agg [I 0, I 0, I 0, I 0, I 0, I 0])),
 oM 9 21,
 oN (.store false 6 10 23)] false) [1, 2, 3, 7, 8, 9, 10, 17, 18, 19] 2)
 (.seq (.post (.region [
 oF 24 10 0,
 oL 25 24] false) [1, 2, 3, 7, 8, 9, 10, 17, 18, 19, 25] 2)
 (.block 2 (.seq (.post (.region [
 oN (.bin 53 .eql 25 (.c (I 1))),
 oM 52 53] false) [1, 2, 3, 7, 8, 9, 10, 17, 18, 19, 25, 52] 2)
 (.cond 52 (.post (.post (.region [
 oL 54 7,
 oM 55 9,
 oF 56 10 5,
 oL 57 56,
 oA 58 54 55,
 oN (.store false 1 58 57)] false) [1, 2, 3, 7, 8, 17, 18, 19] 1) [1, 2, 3, 7, 8, 17, 18, 19] 1)
 (.post (.seq (.post (.region [
 oN (.bin 60 .eql 25 (.c (I 3))),
 oM 59 60] false) [1, 2, 3, 7, 8, 9, 10, 17, 18, 19, 25, 59] 2)
 (.cond 59 (.post (.post (.region [
 oL 61 7,
 oM 62 9,
 oM 63 1,
 oN (.iaddr 64 1 none 63 (.c (I 0))),
 oL 65 64,
 oM 66 1,
 oN (.slice 67 1 66 (some (.c (I 1))) none),
 oA 68 61 62,
 oN (.store false 1 68 65),
 oN (.tk 1 67)] true) [1, 2, 3, 7, 8, 17, 18, 19] 1) [1, 2, 3, 7, 8, 17, 18, 19] 1)
 (.post (.seq (.post (.region [
 oN (.bin 70 .eql 25 (.c (I 2))),
 oM 69 70] false) [1, 2, 3, 7, 8, 9, 10, 17, 18, 19, 69] 2)
 (.cond 69 (.post (.post (.region [
 oL 71 7,
 oM 72 9,
 oM 73 2,
 oN (.iaddr 74 1 none 73 (.c (I 0))),
 oL 75 74,
 oM 76 2,
 oN (.slice 77 1 76 (some (.c (I 1))) none),
 oA 78 71 72,
 oN (.store false 1 78 75),
 oN (.tk 2 77)] true) [1, 2, 3, 7, 8, 17, 18, 19] 1) [1, 2, 3, 7, 8, 17, 18, 19] 1)
 (.post (.post (.region [
 oL 26 7,
 oM 27 9,
 oF 28 10 0,
 oL 29 28,
 oF 30 10 1,
 oL 31 30,
 oM 32 8,
 oF 33 10 2,
 oL 34 33,
 oN (.callv (some 35) true 32 [34]),
 oM 36 8,
 oF 37 10 3,
 oL 38 37,
 oN (.callv (some 39) true 36 [38]),
 oM 40 8,
 oF 41 10 4,
 oL 42 41,
 oN (.callv (some 43) true 40 [42]),
 oF 44 10 5,
 oL 45 44,
 oF 46 3 0,
 oL 47 46,
 oN (.load 48 true 6 10),
 oN (.call (some 49) true 104 [47, 48]),
 oN (.call (some 50) true 66 [29, 31, 35, 39, 43, 45, 49]),
 oA 51 26 27,
 oN (.store false 1 51 50)] true) [1, 2, 3, 7, 8, 17, 18, 19] 1) [1, 2, 3, 7, 8, 17, 18, 19] 1))) [1, 2, 3, 7, 8, 17, 18, 19] 1))) [1, 2, 3, 7, 8, 17, 18, 19] 1)))))))
 (.cut qeq)))) [1, 2, 3, 7, 8, 17, 18, 19] 1)
def qes : ICode :=
 (.post (.block 0 (.loop qer)) [7] 0)
def qet : ICode :=
 (.seq (.post (.region [
 oL 80 7,
 oN (.tk 6 80)] false) [6] 0)
 .ret)
def qeu : ICode :=
 (.seq (.post (.region [
 oN (.box 3 false false 0),
 oN (.mv 6 (.c (.sl true 1 [])))] false) [1, 2, 3] 1)
 (.seq (.post (.region [
 oF 11 3 0,
 oL 12 11,
 oN (.len 13 0 12),
 oN (.mksl 14 true 1 8 (I 0) 13),
 oN (.alloc 7 true (.sl true 1 [])),
 oN (.store true 1 7 14)] false) [1, 2, 3, 7] 1)
 (.seq (.post (.region [
 oN (.mkfn 15 143 [7]),
 oM 8 15] false) [1, 2, 3, 7, 8] 1)
 (.seq (.seq (.post (.region [
 oF 16 3 0,
 oL 17 16,
 oN (.len 18 0 17),
 oN (.mv 19 (.c (I 0)))] false) [1, 2, 3, 7, 8, 17, 18, 19] 1)
 (.cut qes))
 (.cut qet)))))
def qev : IFunc := { np := 3, res := [.t 6], own := false, trunc := true, body := qeu }
/- 140: latchwork/eval.Next -/
/- 141: latchwork/eval.Marks -/
/- 142: latchwork/eval.zeros -/
/- 143: latchwork/eval.Raw$1 -/
def qew : ICode :=
 (.seq (.post (.region [
 oN (.mv 3 (.c (I 0)))] false) [0, 1] 0)
 (.seq (.post (.region [
 oL 4 1,
 oM 5 0,
 oA 6 4 5,
 oL 7 6,
 oM 3 7] false) [3] 0)
 .ret))
def qex : IFunc := { np := 2, res := [.t 3], own := false, trunc := true, body := qew }
end Go.Lw
end

/-! The code of package Gates for the small machine. Written by program (gen.py). -/
section
set_option maxRecDepth 10000
namespace Go.Lw
open Go
/- 1: latchwork/gates.And -/
/- 6: latchwork/gates.Check -/
def q7n : ICode :=
 (.post (.seq (.region [
 oN (.bin 23 .lss 22 21)] false)
 (.seq (.cond 23 .skip
 (.exit 0))
 (.seq (.block 1 (.seq (.post (.region [
 oM 24 22,
 oN (.iaddr 25 2 none 20 22),
 oN (.load 26 true 2 25),
 oN (.alloc 5 false (.agg [I 0, I 0])),
 oM 4 24,
 oN (.store false 2 5 26)] false) [1, 3, 4, 5, 20, 21, 22] 2)
 (.seq (.seq (.post (.region [
 oN (.iaddr 27 1 (some 2) 5 (.c (I 0))),
 oL 28 27,
 oN (.iaddr 29 1 (some 2) 5 (.c (I 1))),
 oL 30 29,
 oN (.bin 31 .geq 28 30),
 oM 32 31,
  ⟨.iaddr 33 1 (some 2) 5 (.c (I 0)), some (32, false)⟩,
  ⟨.load 34 false 1 33, some (32, false)⟩,
  ⟨.bin 35 .lss 34 (.c (I 2)), some (32, false)⟩,
 oN (.pick 36 32 (.c (.bool true)) 35),
 oM 37 36,
  ⟨.iaddr 38 1 (some 2) 5 (.c (I 1)), some (37, false)⟩,
  ⟨.load 39 false 1 38, some (37, false)⟩,
  ⟨.bin 40 .quo 39 (.c (I 2)), some (37, false)⟩,
  ⟨.faddr 41 1 0, some (37, false)⟩,
  ⟨.load 42 false 1 41, some (37, false)⟩,
  ⟨.bin 43 .add (.c (I 1)) 42, some (37, false)⟩,
  ⟨.mv 44 4, some (37, false)⟩,
  ⟨.bin 45 .add 43 44, some (37, false)⟩,
  ⟨.bin 46 .geq 40 45, some (37, false)⟩,
 oN (.pick 47 37 (.c (.bool true)) 46),
 oM 48 47,
  ⟨.iaddr 49 1 (some 2) 5 (.c (I 0)), some (48, false)⟩,
  ⟨.load 50 false 1 49, some (48, false)⟩,
  ⟨.bin 51 .quo 50 (.c (I 2)), some (48, false)⟩,
  ⟨.iaddr 52 1 (some 2) 5 (.c (I 1)), some (48, false)⟩,
  ⟨.load 53 false 1 52, some (48, false)⟩,
  ⟨.bin 54 .quo 53 (.c (I 2)), some (48, false)⟩,
  ⟨.bin 55 .eql 51 54, some (48, false)⟩,
 oN (.pick 56 48 (.c (.bool true)) 55)] false) [1, 3, 5, 20, 21, 22, 56] 2)
 (.cond 56 (.seq (.post (.region [
 oN (.mv 2 (.c (I 4)))] false) [2] 0)
 .ret)
 .skip))
 (.post (.region [
 oM 57 3,
 oN (.load 58 true 2 5),
 oN (.mupd 2 57 58 (.c (.bool true)))] false) [1, 3, 20, 21, 22] 1))))
 (.post (.region [
 oN (.bin 59 .add 22 (.c (I 1))),
 oM 22 59] false) [1, 3, 20, 21, 22] 1)))) [1, 3, 20, 21, 22] 1)
def q25 : ICode :=
 (.post (.block 0 (.loop q7n)) [1, 3] 1)
def q3p : ICode :=
 (.seq (.seq (.post (.region [
 oM 60 3,
 oN (.len 61 2 60),
 oF 62 1 1,
 oL 63 62,
 oN (.len 64 0 63),
 oN (.bin 65 .lss 61 64)] false) [65] 0)
 (.cond 65 (.seq (.post (.region [
 oN (.mv 2 (.c (I 6)))] false) [2] 0)
 .ret)
 .skip))
 (.seq (.post (.region [
 oN (.mv 2 (.c (I 0)))] false) [2] 0)
 .ret))
def q7o : ICode :=
 (.seq (.post (.region [
 oN (.box 1 false false 0),
 oN (.mv 2 (.c (I 0)))] false) [1] 1)
 (.seq (.seq (.post (.region [
 oF 6 1 0,
 oL 7 6,
 oN (.bin 8 .lss 7 (.c (I 0))),
 oM 9 8,
  ⟨.faddr 10 1 0, some (9, false)⟩,
  ⟨.load 11 false 1 10, some (9, false)⟩,
  ⟨.bin 12 .gtr 11 (.c (I 1000)), some (9, false)⟩,
 oN (.pick 13 9 (.c (.bool true)) 12)] false) [1, 13] 1)
 (.cond 13 (.seq (.post (.region [
 oN (.mv 2 (.c (I 3)))] false) [2] 0)
 .ret)
 .skip))
 (.seq (.seq (.post (.region [
 oF 14 1 1,
 oL 15 14,
 oN (.len 16 0 15),
 oN (.bin 17 .gtr 16 (.c (I 1000000)))] false) [1, 17] 1)
 (.cond 17 (.seq (.post (.region [
 oN (.mv 2 (.c (I 2)))] false) [2] 0)
 .ret)
 .skip))
 (.seq (.post (.region [
 oN (.mkmap 18),
 oM 3 18] false) [1, 3] 1)
 (.seq (.seq (.post (.region [
 oF 19 1 1,
 oL 20 19,
 oN (.len 21 0 20),
 oN (.mv 22 (.c (I 0)))] false) [1, 3, 20, 21, 22] 1)
 (.cut q25))
 (.cut q3p))))))
def q9 : IFunc := { np := 1, res := [.t 2], own := false, trunc := true, body := q7o }
/- 9: latchwork/gates.Eval -/
/- 47: latchwork/gates.Is -/
def q7p : ICode :=
 (.seq (.post (.region [
 oN (.box 2 true false 0),
 oN (.mv 4 (.c (.bool false)))] false) [1, 2] 0)
 (.seq (.post (.region [
 oM 5 1,
 oN (.mkfn 6 85 [2]),
 oN (.call (some 7) true 86 [5, 6]),
 oN (.un 8 .not 7),
 oM 4 8] false) [4] 0)
 .ret))
def q3q : IFunc := { np := 2, res := [.t 4], own := false, trunc := true, body := q7p }
/- 48: latchwork/gates.New -/
def qey : ICode :=
 (.post (.seq (.region [
 oN (.bin 19 .lss 18 17)] false)
 (.seq (.cond 19 .skip
 (.exit 0))
 (.seq (.block 1 (.seq (.post (.region [
 oM 20 18,
 oN (.iaddr 21 2 none 16 18),
 oN (.load 22 true 2 21),
 oN (.alloc 5 false (.agg [I 0, I 0])),
 oM 4 20,
 oN (.store false 2 5 22)] false) [1, 3, 4, 5, 16, 17, 18] 2)
 (.post (.region [
 oM 23 3,
 oC 24 23,
 oF 25 24 2,
 oL 26 25,
 oN (.load 27 true 2 5),
 oF 28 1 0,
 oL 29 28,
 oN (.bin 30 .add (.c (I 1)) 29),
 oM 31 4,
 oN (.bin 32 .add 30 31),
 oN (.bin 33 .mul (.c (I 2)) 32),
 oN (.mupd 2 26 27 33)] true) [1, 3, 16, 17, 18] 1)))
 (.post (.region [
 oN (.bin 34 .add 18 (.c (I 1))),
 oM 18 34] false) [1, 3, 16, 17, 18] 1)))) [1, 3, 16, 17, 18] 1)
def qez : ICode :=
 (.post (.block 0 (.loop qey)) [3] 0)
def qf0 : ICode :=
 (.seq (.post (.region [
 oM 35 3,
 oM 2 35] false) [2] 0)
 .ret)
def qf1 : ICode :=
 (.seq (.post (.region [
 oN (.box 1 false false 0),
 oN (.mv 2 (.c (.nilp)))] false) [1] 1)
 (.seq (.post (.region [
 oF 6 1 0,
 oL 7 6,
 oF 8 1 1,
 oL 9 8,
 oN (.callF (some 10) 87 [9]),
 oN (.buildT 11 [I 0, .sl true 2 []] [(0, 1, 7), (1, 1, 10)]),
 oN (.mkmap 12),
 oN (.buildT 13 [I 0, .sl true 2 [], .nilm] [(0, 2, 11), (2, 1, 12)]),
 oN (.box 14 true true 13),
 oM 3 14] true) [1, 3] 1)
 (.seq (.seq (.post (.region [
 oF 15 1 1,
 oL 16 15,
 oN (.len 17 0 16),
 oN (.mv 18 (.c (I 0)))] false) [1, 3, 16, 17, 18] 1)
 (.cut qez))
 (.cut qf0))))
def qf2 : IFunc := { np := 1, res := [.t 2], own := false, trunc := false, body := qf1 }
/- 49: (*latchwork/gates.Maker).And -/
def qf3 : ICode :=
 (.seq (.block 0 (.seq (.post (.region [
 oM 17 1,
 oN (.bin 18 .eql 17 (.c (I 0))),
 oM 19 18,
  ⟨.mv 20 1, some (19, false)⟩,
  ⟨.bin 21 .xor 20 (.c (I 1)), some (19, false)⟩,
  ⟨.mv 22 2, some (19, false)⟩,
  ⟨.bin 23 .eql 21 22, some (19, false)⟩,
 oN (.pick 24 19 (.c (.bool true)) 23),
 oM 16 24] false) [0, 1, 2, 16] 0)
 (.cond 16 (.seq (.post (.region [
 oN (.mv 6 (.c (I 0)))] false) [6] 0)
 .ret)
 (.seq (.post (.region [
 oM 26 1,
 oN (.bin 27 .eql 26 (.c (I 1))),
 oM 28 27,
  ⟨.mv 29 1, some (28, false)⟩,
  ⟨.mv 30 2, some (28, false)⟩,
  ⟨.bin 31 .eql 29 30, some (28, false)⟩,
 oN (.pick 32 28 (.c (.bool true)) 31),
 oM 25 32] false) [0, 1, 2, 25] 0)
 (.cond 25 (.seq (.post (.region [
 oM 33 2,
 oM 6 33] false) [6] 0)
 .ret)
 .skip)))))
 (.seq (.post (.region [
 oM 34 1,
 oM 35 2,
 oN (.build 36 [I 0, I 0] [(0, 1, 34), (1, 1, 35)]),
 oN (.alloc 7 false (.agg [I 0, I 0])),
 oN (.store false 2 7 36)] false) [0, 7] 1)
 (.seq (.seq (.post (.region [
 oM 38 0,
 oC 39 38,
 oF 40 39 2,
 oL 41 40,
 oN (.load 42 true 2 7),
 oN (.lookup 43 2 41 42 true (I 0)),
 oM 37 43,
 oN (.extract 44 37 0),
 oN (.extract 45 37 1),
 oM 8 44,
 oM 9 45] true) [0, 7, 8, 9] 1)
 (.seq (.post (.region [
 oM 46 9] false) [0, 7, 8, 46] 1)
 (.cond 46 (.seq (.post (.region [
 oM 47 8,
 oM 6 47] false) [6] 0)
 .ret)
 .skip)))
 (.seq (.post (.region [
 oM 48 0,
 oC 49 48,
 oF 50 49 0,
 oN (.load 51 true 2 50),
 oN (.call (some 52) true 88 [51]),
 oN (.bin 53 .mul (.c (I 2)) 52),
 oM 10 53] false) [0, 7, 10] 1)
 (.seq (.post (.region [
 oM 54 0,
 oM 55 0,
 oC 56 55,
 oF 57 56 0,
 oF 58 57 1,
 oN (.loadT 59 58),
 oN (.load 60 true 2 7),
 oN (.buildSl 61 2 [60]),
 oN (.append 62 2 16 59 61),
 oC 63 54,
 oF 64 63 0,
 oF 65 64 1,
 oN (.store true 1 65 62)] true) [0, 7, 10] 1)
 (.seq (.post (.region [
 oM 66 0,
 oC 67 66,
 oF 68 67 2,
 oL 69 68,
 oN (.load 70 true 2 7),
 oM 71 10,
 oN (.mupd 2 69 70 71)] true) [10] 0)
 (.seq (.post (.region [
 oM 72 10,
 oM 6 72] false) [6] 0)
 .ret)))))))
def qf4 : ICode :=
 (.seq (.post (.region [
 oN (.mv 6 (.c (I 0)))] false) [0, 1, 2] 0)
 (.seq (.seq (.post (.region [
 oM 11 1,
 oM 12 2,
 oN (.bin 13 .gtr 11 12)] false) [0, 1, 2, 13] 0)
 (.cond 13 (.post (.post (.region [
 oM 14 2,
 oM 15 1,
 oM 1 14,
 oM 2 15] false) [0, 1, 2] 0) [0, 1, 2] 0)
 (.post .skip [0, 1, 2] 0)))
 (.cut qf3)))
def qf5 : IFunc := { np := 3, res := [.t 6], own := false, trunc := false, body := qf4 }
/- 52: latchwork/gates.All -/
/- 85: latchwork/gates.Is$1 -/
def q7q : ICode :=
 (.seq (.post (.region [
 oN (.mv 3 (.c (.bool false)))] false) [0, 1] 0)
 (.seq (.post (.region [
 oM 4 0,
 oN (.bin 5 .lss 4 (.c (I 0))),
 oM 6 5,
  ⟨.mv 7 0, some (6, false)⟩,
  ⟨.load 8 true 2 1, some (6, false)⟩,
  ⟨.call (some 9) true 88 [8], some (6, false)⟩,
  ⟨.bin 10 .mul (.c (I 2)) 9, some (6, false)⟩,
  ⟨.bin 11 .geq 7 10, some (6, false)⟩,
 oN (.pick 12 6 (.c (.bool true)) 11),
 oM 3 12] false) [3] 0)
 .ret))
def q16 : IFunc := { np := 2, res := [.t 3], own := false, trunc := true, body := q7q }
/- 88: latchwork/gates.Nodes -/
def q7r : ICode :=
 (.seq (.post (.region [
 oN (.box 1 false false 0),
 oN (.mv 2 (.c (I 0)))] false) [1] 1)
 (.seq (.post (.region [
 oF 3 1 0,
 oL 4 3,
 oN (.bin 5 .add (.c (I 1)) 4),
 oF 6 1 1,
 oL 7 6,
 oN (.len 8 0 7),
 oN (.bin 9 .add 5 8),
 oM 2 9] false) [2] 0)
 .ret))
def q3r : IFunc := { np := 1, res := [.t 2], own := false, trunc := true, body := q7r }
/- 89: latchwork/gates.All$1 -/
end Go.Lw
end

/-! The code of package Law for the small machine. Written by program (gen.py). -/
section
set_option maxRecDepth 10000
namespace Go.Lw
open Go
/- 0: latchwork/latchworklaw.GatesAnds -/
/- 5: latchwork/latchworklaw.gatesBegun -/
/- 8: latchwork/latchworklaw.GatesEvals -/
/- 13: latchwork/latchworklaw.sameBools -/
/- 14: latchwork/latchworklaw.GatesKeep -/
/- 15: latchwork/latchworklaw.CnfOfs -/
/- 18: latchwork/latchworklaw.cnfBegun -/
/- 19: latchwork/latchworklaw.clausesAre -/
def q26 : ICode :=
 (.seq (.post (.region [
 oM 12 1,
 oM 13 2,
 oN (.bin 14 .eql 12 13),
 oM 15 14,
  ⟨.load 16 true 2 4, some (15, true)⟩,
  ⟨.load 17 true 2 7, some (15, true)⟩,
  ⟨.call (some 18) true 60 [16, 17], some (15, true)⟩,
 oN (.pick 19 15 18 (.c (.bool false))),
 oM 8 19] false) [8] 0)
 .ret)
def q7s : ICode :=
 (.seq (.post (.region [
 oN (.box 4 false false 0),
 oN (.box 7 false false 3),
 oN (.mv 8 (.c (.bool false)))] false) [1, 2, 4, 7] 2)
 (.seq (.seq (.post (.region [
 oM 9 2,
 oN (.bin 10 .neq 9 (.c (I 0)))] false) [1, 2, 4, 7, 10] 2)
 (.cond 10 (.post (.post (.region [
 oN (.build 11 [I 0, .sl true 1 []] []),
 oN (.store true 2 7 11)] false) [1, 2, 4, 7] 2) [1, 2, 4, 7] 2)
 (.post .skip [1, 2, 4, 7] 2)))
 (.cut q26)))
def q17 : IFunc := { np := 4, res := [.t 8], own := false, trunc := true, body := q7s }
/- 20: latchwork/latchworklaw.WordFits -/
/- 21: latchwork/latchworklaw.wordBegun -/
/- 24: latchwork/latchworklaw.WordApplies -/
/- 29: latchwork/latchworklaw.WordTurns -/
/- 30: latchwork/latchworklaw.choose -/
/- 31: latchwork/latchworklaw.CnfTells -/
/- 33: latchwork/latchworklaw.ModelChecks -/
/- 37: latchwork/latchworklaw.modelBegun -/
/- 40: latchwork/latchworklaw.listIs -/
/- 41: latchwork/latchworklaw.ModelCones -/
/- 44: latchwork/latchworklaw.ModelAgain -/
/- 75: latchwork/latchworklaw.toggle -/
def qf6 : ICode :=
 (.seq (.region [
 oN (.alloc 0 false (.agg [.sl true 6 [], .sl true 2 [], .sl true 2 [], .sl true 1 [], .sl true 1 []]))] false)
 (.seq (.post (.region [
 oN (.build 1 [I 0, I 0, I 0, I 0, I 0, I 0] [(0, 1, (.c (I 1))), (1, 1, (.c (I 1)))]),
 oN (.build 2 [I 0, I 0, I 0, I 0, I 0, I 0] [(0, 1, (.c (I 3))), (1, 1, (.c (I 1)))]),
 oN (.build 3 [I 0, I 0, I 0, I 0, I 0, I 0] [(0, 1, (.c (I 4))), (1, 1, (.c (I 1))), (2, 1, (.c (I 1)))]),
 oN (.buildSl 4 6 [1, 2, 3]),
 oN (.build 5 [I 0, I 0] [(0, 1, (.c (I 1))), (1, 1, (.c (I 0)))]),
 oN (.buildSl 6 2 [5]),
 oN (.build 7 [I 0, I 0] [(0, 1, (.c (I 1))), (1, 1, (.c (I 2)))]),
 oN (.buildSl 8 2 [7]),
 oN (.buildSl 9 1 [(.c (I 1))]),
 oN (.buildT 10 [.sl true 6 [], .sl true 2 [], .sl true 2 [], .sl true 1 [], .sl true 1 []] [(0, 1, 4), (1, 1, 6), (2, 1, 8), (3, 1, 9)]),
 oN (.store true 5 0 10)] false) [0] 1)
 .ret))
def qf7 : IFunc := { np := 0, res := [.cell 0 true 5], own := false, trunc := true, body := qf6 }
/- 122: latchwork/latchworklaw.EvalBegins -/
/- 126: latchwork/latchworklaw.evalBegun -/
/- 127: latchwork/latchworklaw.EvalValues -/
/- 144: latchwork/latchworklaw.ProofFollows -/
/- 147: latchwork/latchworklaw.proofBegun -/
/- 148: latchwork/latchworklaw.ProofChecks -/
/- 152: latchwork/latchworklaw.ProofSound -/
/- 165: latchwork/latchworklaw.searchBegun -/
/- 207: latchwork/latchworklaw.SearchIs -/
/- 210: latchwork/latchworklaw.BlastChecks -/
/- 211: latchwork/latchworklaw.blastBegun -/
/- 239: latchwork/latchworklaw.DecideTrue -/
/- 240: latchwork/latchworklaw.decideBegun -/
/- 241: latchwork/latchworklaw.exploreBegun -/
/- 242: latchwork/latchworklaw.traceBegun -/
/- 318: latchwork/latchworklaw.ExploreAlls -/
/- 320: latchwork/latchworklaw.small -/
/- 325: latchwork/latchworklaw.BlastTells -/
/- 328: latchwork/latchworklaw.UnrollClauses -/
def q18 : ICode :=
 (.seq (.post (.region [
 oN (.call (some 49) true 332 []),
 oM 50 49,
  ⟨.load 51 true 2 7, some (50, true)⟩,
  ⟨.mv 52 8, some (50, true)⟩,
  ⟨.mv 53 9, some (50, true)⟩,
  ⟨.load 54 true 2 10, some (50, true)⟩,
  ⟨.call (some 55) true 19 [51, 52, 53, 54], some (50, true)⟩,
 oN (.pick 56 50 55 (.c (.bool false))),
 oM 6 56] false) [6] 0)
 .ret)
def qh : ICode :=
 (.seq (.seq (.post (.region [
 oM 39 9,
 oN (.bin 40 .eql 39 (.c (I 0)))] false) [1, 2, 3, 7, 8, 9, 10, 40] 3)
 (.cond 40 (.post (.post (.region [
 oN (.load 42 true 8 3),
 oM 43 1,
 oM 44 2,
 oN (.call (some 45) true 331 [42, 43, 44, (.c (.bool false))]),
 oN (.call (some 46) true 58 [45]),
 oM 41 46,
 oN (.extract 47 41 0),
 oN (.extract 48 41 1),
 oN (.store true 2 10 47),
 oM 9 48] false) [7, 8, 9, 10] 3) [7, 8, 9, 10] 3)
 (.post .skip [7, 8, 9, 10] 3)))
 (.cut q18))
def q3s : ICode :=
 (.seq (.post (.region [
 oN (.box 3 false false 0),
 oN (.mv 6 (.c (.bool false)))] false) [1, 2, 3] 1)
 (.seq (.post (.region [
 oN (.load 12 true 8 3),
 oM 13 1,
 oM 14 2,
 oN (.call (some 15) true 329 [12, 13, 14]),
 oM 11 15,
 oN (.extract 16 11 0),
 oN (.extract 17 11 1),
 oN (.alloc 7 false (.agg [I 0, .sl true 1 []])),
 oN (.store true 2 7 16),
 oM 8 17] false) [1, 2, 3, 7, 8] 2)
 (.seq (.post (.region [
 oN (.load 18 true 8 3),
 oM 19 1,
 oM 20 2,
 oN (.call (some 21) true 330 [18, 19, 20]),
 oN (.build 22 [I 0, .sl true 1 []] []),
 oN (.alloc 10 false (.agg [I 0, .sl true 1 []])),
 oM 9 21,
 oN (.store true 2 10 22)] false) [1, 2, 3, 7, 8, 9, 10] 3)
 (.seq (.seq (.post (.region [
 oM 23 9,
 oN (.bin 24 .eql 23 (.c (I 0))),
 oM 25 24,
  ⟨.faddr 26 3 0, some (25, true)⟩,
  ⟨.faddr 27 26 0, some (25, true)⟩,
  ⟨.load 28 false 1 27, some (25, true)⟩,
  ⟨.faddr 29 3 0, some (25, true)⟩,
  ⟨.faddr 30 29 1, some (25, true)⟩,
  ⟨.load 31 false 1 30, some (25, true)⟩,
  ⟨.len 32 0 31, some (25, true)⟩,
  ⟨.bin 33 .add 28 32, some (25, true)⟩,
  ⟨.mv 34 1, some (25, true)⟩,
  ⟨.bin 35 .add 34 (.c (I 1)), some (25, true)⟩,
  ⟨.bin 36 .mul 33 35, some (25, true)⟩,
  ⟨.bin 37 .gtr 36 (.c (I 200000)), some (25, true)⟩,
 oN (.pick 38 25 37 (.c (.bool false)))] false) [1, 2, 3, 7, 8, 9, 10, 38] 3)
 (.cond 38 (.post (.post (.region [
 oN (.mv 9 (.c (I 3)))] false) [1, 2, 3, 7, 8, 9, 10] 3) [1, 2, 3, 7, 8, 9, 10] 3)
 (.post .skip [1, 2, 3, 7, 8, 9, 10] 3)))
 (.cut qh)))))
def q3t : IFunc := { np := 3, res := [.t 6], own := false, trunc := true, body := q3s }
/- 332: latchwork/latchworklaw.unrollBegun -/
def qf8 : ICode :=
 (.seq (.post (.region [
 oN (.mv 0 (.c (.bool false)))] false) [] 0)
 (.seq (.post (.region [
 oN (.call (some 5) true 75 []),
 oN (.call (some 6) true 340 [5, (.c (I 3)), (.c (I 1000))]),
 oM 4 6,
 oN (.extract 7 4 0),
 oN (.extract 8 4 1),
 oN (.extract 9 4 2),
 oN (.alloc 1 false (.agg [.sl true 1 [], .sl true 1 []])),
 oN (.store true 2 1 7),
 oM 2 8,
 oM 3 9] false) [1, 2, 3] 1)
 (.seq (.post (.region [
 oM 10 3,
 oN (.bin 11 .eql 10 (.c (I 0))),
 oM 12 11,
  ⟨.mv 13 2, some (12, true)⟩,
  ⟨.bin 14 .eql 13 (.c (I 1)), some (12, true)⟩,
 oN (.pick 15 12 14 (.c (.bool false))),
 oM 16 15,
  ⟨.faddr 17 1 1, some (16, true)⟩,
  ⟨.load 18 false 1 17, some (16, true)⟩,
  ⟨.len 19 0 18, some (16, true)⟩,
  ⟨.bin 20 .eql 19 (.c (I 2)), some (16, true)⟩,
 oN (.pick 21 16 20 (.c (.bool false))),
 oM 22 21,
  ⟨.faddr 23 1 0, some (22, true)⟩,
  ⟨.load 24 false 1 23, some (22, true)⟩,
  ⟨.len 25 0 24, some (22, true)⟩,
  ⟨.bin 26 .eql 25 (.c (I 1)), some (22, true)⟩,
 oN (.pick 27 22 26 (.c (.bool false))),
 oM 0 27] false) [0] 0)
 .ret)))
def qf9 : IFunc := { np := 0, res := [.t 0], own := false, trunc := true, body := qf8 }
/- 333: latchwork/latchworklaw.ProveDifferents -/
/- 335: latchwork/latchworklaw.proveBegun -/
/- 345: latchwork/latchworklaw.TextBack -/
/- 346: latchwork/latchworklaw.textBegun -/
/- 350: latchwork/latchworklaw.TracePrints -/
/- 367: latchwork/latchworklaw.TextPrints -/
/- 369: latchwork/latchworklaw.TextParses -/
/- 371: latchwork/latchworklaw.TraceParses -/
/- 374: latchwork/latchworklaw.TracePlays -/
/- 378: latchwork/latchworklaw.ExploreFinds -/
/- 383: latchwork/latchworklaw.CnfHolds -/
end Go.Lw
end

/-! The code of package Lib for the small machine. Written by program (gen.py). -/
section
set_option maxRecDepth 10000
namespace Go.Lw
open Go
/- 82: slices.Concat[[]latchwork/api.Pair,latchwork/api.Pair] -/
/- 86: slices.ContainsFunc[[]int,int] -/
def q7t : ICode :=
 (.seq (.post (.region [
 oN (.mv 4 (.c (.bool false)))] false) [0, 1] 0)
 (.seq (.post (.region [
 oM 5 0,
 oM 6 1,
 oN (.call (some 7) true 111 [5, 6]),
 oN (.bin 8 .geq 7 (.c (I 0))),
 oM 4 8] false) [4] 0)
 .ret))
def q3u : IFunc := { np := 2, res := [.t 4], own := false, trunc := true, body := q7t }
/- 100: slices.ContainsFunc[[][]int,[]int] -/
/- 107: slices.Concat[[]int,int] -/
def qfa : ICode :=
 (.post (.seq (.region [
 oN (.bin 12 .lss 11 10)] false)
 (.seq (.cond 12 .skip
 (.exit 0))
 (.seq (.block 1 (.seq (.post (.region [
 oA 13 9 11,
 oL 14 13,
 oN (.tk 5 14)] false) [0, 3, 5, 9, 10, 11] 0)
 (.seq (.post (.region [
 oM 15 3,
 oM 16 5,
 oN (.len 17 0 16),
 oN (.bin 18 .add 15 17),
 oM 3 18] false) [0, 3, 9, 10, 11] 0)
 (.seq (.post (.region [
 oM 19 3,
 oN (.bin 20 .lss 19 (.c (I 0)))] false) [0, 3, 9, 10, 11, 20] 0)
 (.cond 20 .bad
 .skip)))))
 (.post (.region [
 oN (.bin 22 .add 11 (.c (I 1))),
 oM 11 22] false) [0, 3, 9, 10, 11] 0)))) [0, 3, 9, 10, 11] 0)
def qfb : ICode :=
 (.post (.block 0 (.loop qfa)) [0, 3] 0)
def qfc : ICode :=
 (.post (.seq (.region [
 oN (.bin 28 .lss 27 26)] false)
 (.seq (.cond 28 .skip
 (.exit 2))
 (.seq (.block 3 (.seq (.post (.region [
 oA 29 25 27,
 oL 30 29,
 oN (.tk 8 30)] false) [6, 8, 25, 26, 27] 0)
 (.post (.region [
 oN (.tk 31 6),
 oM 32 8,
 oN (.append 33 1 8 31 32),
 oN (.tk 6 33)] false) [6, 25, 26, 27] 0)))
 (.post (.region [
 oN (.bin 34 .add 27 (.c (I 1))),
 oM 27 34] false) [6, 25, 26, 27] 0)))) [6, 25, 26, 27] 0)
def qfd : ICode :=
 (.post (.block 2 (.loop qfc)) [6] 0)
def qfe : ICode :=
 (.seq (.post (.region [
 oM 35 6,
 oN (.tk 2 35)] false) [2] 0)
 .ret)
def qff : ICode :=
 (.seq (.post (.region [
 oM 23 3,
 oN (.call (some 24) true 119 [(.c .nils), 23]),
 oN (.tk 6 24)] false) [0, 6] 0)
 (.seq (.seq (.post (.region [
 oM 25 0,
 oN (.len 26 0 25),
 oN (.mv 27 (.c (I 0)))] false) [6, 25, 26, 27] 0)
 (.cut qfd))
 (.cut qfe)))
def qfg : ICode :=
 (.seq (.post (.region [
 oN (.mv 2 (.c (.sl true 1 [])))] false) [0] 0)
 (.seq (.region [
 oN (.mv 3 (.c (I 0)))] false)
 (.seq (.seq (.post (.region [
 oM 9 0,
 oN (.len 10 0 9),
 oN (.mv 11 (.c (I 0)))] false) [0, 3, 9, 10, 11] 0)
 (.cut qfb))
 (.cut qff))))
def qfh : IFunc := { np := 1, res := [.t 2], own := true, trunc := true, body := qfg }
/- 111: slices.IndexFunc[[]int,int] -/
def q7u : ICode :=
 (.post (.seq (.region [
 oN (.bin 9 .lss 8 7)] false)
 (.seq (.cond 9 .skip
 (.exit 0))
 (.seq (.block 1 (.seq (.post (.region [
 oM 10 8,
 oM 5 10] false) [0, 1, 5, 7, 8] 0)
 (.seq (.post (.region [
 oM 11 1,
 oM 12 0,
 oM 13 5,
 oA 14 12 13,
 oL 15 14,
 oN (.callv (some 16) true 11 [15])] false) [0, 1, 5, 7, 8, 16] 0)
 (.cond 16 (.seq (.post (.region [
 oM 17 5,
 oM 4 17] false) [4] 0)
 .ret)
 .skip))))
 (.post (.region [
 oN (.bin 18 .add 8 (.c (I 1))),
 oM 8 18] false) [0, 1, 7, 8] 0)))) [0, 1, 7, 8] 0)
def q3v : ICode :=
 (.post (.block 0 (.loop q7u)) [] 0)
def q3w : ICode :=
 (.seq (.region [
 oN (.mv 4 (.c (I (-1))))] false)
 .ret)
def q7v : ICode :=
 (.seq (.post (.region [
 oN (.mv 4 (.c (I 0)))] false) [0, 1] 0)
 (.seq (.seq (.post (.region [
 oM 6 0,
 oN (.len 7 0 6),
 oN (.mv 8 (.c (I 0)))] false) [0, 1, 7, 8] 0)
 (.cut q3v))
 (.cut q3w)))
def q19 : IFunc := { np := 2, res := [.t 4], own := false, trunc := true, body := q7v }
/- 117: slices.IndexFunc[[][]int,[]int] -/
/- 156: slices.Concat[[][]int,[]int] -/
/- 172: slices.ContainsFunc[[]int,int]#K -/
def qfi : ICode :=
 (.seq (.post (.region [
 oN (.mv 4 (.c (.bool false)))] false) [0, 1] 0)
 (.seq (.post (.region [
 oM 5 0,
 oM 6 1,
 oN (.call (some 7) false 208 [5, 6]),
 oN (.bin 8 .geq 7 (.c (I 0))),
 oM 4 8] false) [4] 0)
 .ret))
def qfj : IFunc := { np := 2, res := [.t 4], own := false, trunc := true, body := qfi }
/- 181: math/bits.Len -/
def qfk : ICode :=
 (.seq (.post (.region [
 oN (.mv 2 (.c (I 0)))] false) [0] 0)
 (.seq (.cond (.c (.bool false)) (.seq (.post (.region [
 oM 3 0,
 oN (.conv 4 .u32 3),
 oN (.call (some 5) true 182 [4]),
 oM 2 5] false) [2] 0)
 .ret)
 .skip)
 (.seq (.post (.region [
 oM 6 0,
 oN (.call (some 7) true 183 [6]),
 oM 2 7] false) [2] 0)
 .ret)))
def qfl : IFunc := { np := 1, res := [.t 2], own := false, trunc := true, body := qfk }
/- 182: math/bits.Len32 -/
def qfm : ICode :=
 (.seq (.post (.region [
 oM 13 2,
 oM 14 0,
 oN (.conv 15 .u8 14),
 oN (.indexS 16 (.c (.str ⟨#[0, 1, 2, 2, 3, 3, 3, 3, 4, 4, 4, 4, 4, 4, 4, 4, 5, 5, 5, 5, 5, 5, 5, 5, 5, 5, 5, 5, 5, 5, 5, 5, 6, 6, 6, 6, 6, 6, 6, 6, 6, 6, 6, 6, 6, 6, 6, 6, 6, 6, 6, 6, 6, 6, 6, 6, 6, 6, 6, 6, 6, 6, 6, 6, 7, 7, 7, 7, 7, 7, 7, 7, 7, 7, 7, 7, 7, 7, 7, 7, 7, 7, 7, 7, 7, 7, 7, 7, 7, 7, 7, 7, 7, 7, 7, 7, 7, 7, 7, 7, 7, 7, 7, 7, 7, 7, 7, 7, 7, 7, 7, 7, 7, 7, 7, 7, 7, 7, 7, 7, 7, 7, 7, 7, 7, 7, 7, 7, 8, 8, 8, 8, 8, 8, 8, 8, 8, 8, 8, 8, 8, 8, 8, 8, 8, 8, 8, 8, 8, 8, 8, 8, 8, 8, 8, 8, 8, 8, 8, 8, 8, 8, 8, 8, 8, 8, 8, 8, 8, 8, 8, 8, 8, 8, 8, 8, 8, 8, 8, 8, 8, 8, 8, 8, 8, 8, 8, 8, 8, 8, 8, 8, 8, 8, 8, 8, 8, 8, 8, 8, 8, 8, 8, 8, 8, 8, 8, 8, 8, 8, 8, 8, 8, 8, 8, 8, 8, 8, 8, 8, 8, 8, 8, 8, 8, 8, 8, 8, 8, 8, 8, 8, 8, 8, 8, 8, 8, 8, 8, 8, 8, 8, 8, 8, 8, 8, 8, 8, 8, 8, 8, 8, 8, 8, 8, 8]⟩)) 15),
 oN (.conv 17 .i64 16),
 oN (.bin 18 .add 13 17),
 oM 2 18] false) [2] 0)
 .ret)
def qfn : ICode :=
 (.seq (.seq (.post (.region [
 oM 7 0,
 oN (.bin 8 .geq 7 (.c (.int .u32 256)))] false) [0, 2, 8] 0)
 (.cond 8 (.post (.seq (.post (.region [
 oM 9 0,
 oN (.bin 10 .shr 9 (.c (.int .u64 8))),
 oM 0 10] false) [0, 2] 0)
 (.post (.region [
 oM 11 2,
 oN (.bin 12 .add 11 (.c (I 8))),
 oM 2 12] false) [0, 2] 0)) [0, 2] 0)
 (.post .skip [0, 2] 0)))
 (.cut qfm))
def qfo : ICode :=
 (.seq (.region [
 oN (.mv 2 (.c (I 0)))] false)
 (.seq (.seq (.post (.region [
 oM 3 0,
 oN (.bin 4 .geq 3 (.c (.int .u32 65536)))] false) [0, 2, 4] 0)
 (.cond 4 (.post (.seq (.post (.region [
 oM 5 0,
 oN (.bin 6 .shr 5 (.c (.int .u64 16))),
 oM 0 6] false) [0] 0)
 (.region [
 oN (.mv 2 (.c (I 16)))] false)) [0, 2] 0)
 (.post .skip [0, 2] 0)))
 (.cut qfn)))
def qfp : IFunc := { np := 1, res := [.t 2], own := false, trunc := true, body := qfo }
/- 183: math/bits.Len64 -/
def qfq : ICode :=
 (.seq (.post (.region [
 oM 19 2,
 oM 20 0,
 oN (.conv 21 .u8 20),
 oN (.indexS 22 (.c (.str ⟨#[0, 1, 2, 2, 3, 3, 3, 3, 4, 4, 4, 4, 4, 4, 4, 4, 5, 5, 5, 5, 5, 5, 5, 5, 5, 5, 5, 5, 5, 5, 5, 5, 6, 6, 6, 6, 6, 6, 6, 6, 6, 6, 6, 6, 6, 6, 6, 6, 6, 6, 6, 6, 6, 6, 6, 6, 6, 6, 6, 6, 6, 6, 6, 6, 7, 7, 7, 7, 7, 7, 7, 7, 7, 7, 7, 7, 7, 7, 7, 7, 7, 7, 7, 7, 7, 7, 7, 7, 7, 7, 7, 7, 7, 7, 7, 7, 7, 7, 7, 7, 7, 7, 7, 7, 7, 7, 7, 7, 7, 7, 7, 7, 7, 7, 7, 7, 7, 7, 7, 7, 7, 7, 7, 7, 7, 7, 7, 7, 8, 8, 8, 8, 8, 8, 8, 8, 8, 8, 8, 8, 8, 8, 8, 8, 8, 8, 8, 8, 8, 8, 8, 8, 8, 8, 8, 8, 8, 8, 8, 8, 8, 8, 8, 8, 8, 8, 8, 8, 8, 8, 8, 8, 8, 8, 8, 8, 8, 8, 8, 8, 8, 8, 8, 8, 8, 8, 8, 8, 8, 8, 8, 8, 8, 8, 8, 8, 8, 8, 8, 8, 8, 8, 8, 8, 8, 8, 8, 8, 8, 8, 8, 8, 8, 8, 8, 8, 8, 8, 8, 8, 8, 8, 8, 8, 8, 8, 8, 8, 8, 8, 8, 8, 8, 8, 8, 8, 8, 8, 8, 8, 8, 8, 8, 8, 8, 8, 8, 8, 8, 8, 8, 8, 8, 8, 8, 8]⟩)) 21),
 oN (.conv 23 .i64 22),
 oN (.bin 24 .add 19 23),
 oM 2 24] false) [2] 0)
 .ret)
def qfr : ICode :=
 (.seq (.seq (.post (.region [
 oM 13 0,
 oN (.bin 14 .geq 13 (.c (.int .u64 256)))] false) [0, 2, 14] 0)
 (.cond 14 (.post (.seq (.post (.region [
 oM 15 0,
 oN (.bin 16 .shr 15 (.c (.int .u64 8))),
 oM 0 16] false) [0, 2] 0)
 (.post (.region [
 oM 17 2,
 oN (.bin 18 .add 17 (.c (I 8))),
 oM 2 18] false) [0, 2] 0)) [0, 2] 0)
 (.post .skip [0, 2] 0)))
 (.cut qfq))
def qfs : ICode :=
 (.seq (.seq (.post (.region [
 oM 7 0,
 oN (.bin 8 .geq 7 (.c (.int .u64 65536)))] false) [0, 2, 8] 0)
 (.cond 8 (.post (.seq (.post (.region [
 oM 9 0,
 oN (.bin 10 .shr 9 (.c (.int .u64 16))),
 oM 0 10] false) [0, 2] 0)
 (.post (.region [
 oM 11 2,
 oN (.bin 12 .add 11 (.c (I 16))),
 oM 2 12] false) [0, 2] 0)) [0, 2] 0)
 (.post .skip [0, 2] 0)))
 (.cut qfr))
def qft : ICode :=
 (.seq (.region [
 oN (.mv 2 (.c (I 0)))] false)
 (.seq (.seq (.post (.region [
 oM 3 0,
 oN (.bin 4 .geq 3 (.c (.int .u64 4294967296)))] false) [0, 2, 4] 0)
 (.cond 4 (.post (.seq (.post (.region [
 oM 5 0,
 oN (.bin 6 .shr 5 (.c (.int .u64 32))),
 oM 0 6] false) [0] 0)
 (.region [
 oN (.mv 2 (.c (I 32)))] false)) [0, 2] 0)
 (.post .skip [0, 2] 0)))
 (.cut qfs)))
def qfu : IFunc := { np := 1, res := [.t 2], own := false, trunc := true, body := qft }
/- 184: slices.Contains[[]int,int]#K -/
def qfv : ICode :=
 (.seq (.post (.region [
 oN (.mv 4 (.c (.bool false)))] false) [0, 1] 0)
 (.seq (.post (.region [
 oM 5 0,
 oM 6 1,
 oN (.call (some 7) false 209 [5, 6]),
 oN (.bin 8 .geq 7 (.c (I 0))),
 oM 4 8] false) [4] 0)
 .ret))
def qfw : IFunc := { np := 2, res := [.t 4], own := false, trunc := true, body := qfv }
/- 185: slices.Contains[[]int,int] -/
/- 186: slices.Index[[]int,int] -/
/- 190: slices.SortFunc[[]int,int] -/
def qfx : ICode :=
 (.seq (.post (.region [
 oM 5 0,
 oN (.len 6 0 5),
 oM 4 6] false) [0, 1, 4] 0)
 (.post (.region [
 oM 7 0,
 oM 8 4,
 oM 9 4,
 oN (.conv 10 .u64 9),
 oN (.call (some 11) true 181 [10]),
 oM 12 1,
 oN (.call (some 13) true 192 [7, (.c (I 0)), 8, 11, 12])] false) [] 0))
def qfy : IFunc := { np := 2, res := [], own := false, trunc := true, body := qfx }
/- 192: slices.pdqsortCmpFunc[int] -/
def qfz : ICode :=
 (.seq (.seq (.post (.region [
 oM 81 1,
 oN (.bin 82 .gtr 81 (.c (I 0))),
 oM 83 82,
  ⟨.mv 84 4, some (83, true)⟩,
  ⟨.mv 85 0, some (83, true)⟩,
  ⟨.mv 86 1, some (83, true)⟩,
  ⟨.bin 87 .sub 86 (.c (I 1)), some (83, true)⟩,
  ⟨.iaddr 88 1 none 85 87, some (83, true)⟩,
  ⟨.load 89 false 1 88, some (83, true)⟩,
  ⟨.mv 90 0, some (83, true)⟩,
  ⟨.mv 91 13, some (83, true)⟩,
  ⟨.iaddr 92 1 none 90 91, some (83, true)⟩,
  ⟨.load 93 false 1 92, some (83, true)⟩,
  ⟨.callv (some 94) true 84 [89, 93], some (83, true)⟩,
  ⟨.bin 95 .lss 94 (.c (I 0)), some (83, true)⟩,
  ⟨.un 96 .not 95, some (83, true)⟩,
 oN (.pick 97 83 96 (.c (.bool false)))] true) [0, 1, 2, 3, 4, 10, 11, 12, 13, 97] 0)
 (.cond 97 (.seq (.post (.region [
 oM 98 0,
 oM 99 1,
 oM 100 2,
 oM 101 13,
 oM 102 4,
 oN (.call (some 103) true 201 [98, 99, 100, 101, 102]),
 oM 15 103] false) [0, 2, 3, 4, 10, 11, 15] 0)
 (.seq (.post (.region [
 oM 104 15,
 oM 1 104] false) [0, 1, 2, 3, 4, 10, 11] 0)
 (.exit 1)))
 .skip))
 (.seq (.post (.region [
 oM 106 0,
 oM 107 1,
 oM 108 2,
 oM 109 13,
 oM 110 4,
 oN (.call (some 111) true 202 [106, 107, 108, 109, 110]),
 oM 105 111,
 oN (.extract 112 105 0),
 oN (.extract 113 105 1),
 oM 16 112,
 oM 17 113] false) [0, 1, 2, 3, 4, 12, 16, 17] 0)
 (.seq (.post (.region [
 oM 114 17,
 oM 11 114] false) [0, 1, 2, 3, 4, 11, 12, 16] 0)
 (.seq (.post (.region [
 oM 115 16,
 oM 116 1,
 oN (.bin 117 .sub 115 116),
 oM 118 2,
 oM 119 16,
 oN (.bin 120 .sub 118 119),
 oM 18 117,
 oM 19 120] false) [0, 1, 2, 3, 4, 11, 12, 16, 18, 19] 0)
 (.seq (.post (.region [
 oM 121 12,
 oN (.bin 122 .quo 121 (.c (I 8))),
 oM 20 122] false) [0, 1, 2, 3, 4, 11, 16, 18, 19, 20] 0)
 (.seq (.post (.region [
 oM 123 18,
 oM 124 19,
 oN (.bin 125 .lss 123 124)] false) [0, 1, 2, 3, 4, 11, 16, 18, 19, 20, 125] 0)
 (.cond 125 (.post (.seq (.post (.region [
 oM 126 18,
 oM 127 20,
 oN (.bin 128 .geq 126 127),
 oM 10 128] false) [0, 1, 2, 3, 4, 10, 11, 16] 0)
 (.seq (.post (.region [
 oM 129 0,
 oM 130 1,
 oM 131 16,
 oM 132 3,
 oM 133 4,
 oN (.call (some 134) true 192 [129, 130, 131, 132, 133])] false) [0, 2, 3, 4, 10, 11, 16] 0)
 (.post (.region [
 oM 135 16,
 oN (.bin 136 .add 135 (.c (I 1))),
 oM 1 136] false) [0, 1, 2, 3, 4, 10, 11] 0))) [0, 1, 2, 3, 4, 10, 11] 0)
 (.post (.seq (.post (.region [
 oM 137 19,
 oM 138 20,
 oN (.bin 139 .geq 137 138),
 oM 10 139] false) [0, 1, 2, 3, 4, 10, 11, 16] 0)
 (.seq (.post (.region [
 oM 140 0,
 oM 141 16,
 oN (.bin 142 .add 141 (.c (I 1))),
 oM 143 2,
 oM 144 3,
 oM 145 4,
 oN (.call (some 146) true 192 [140, 142, 143, 144, 145])] false) [0, 1, 3, 4, 10, 11, 16] 0)
 (.post (.region [
 oM 147 16,
 oM 2 147] false) [0, 1, 2, 3, 4, 10, 11] 0))) [0, 1, 2, 3, 4, 10, 11] 0))))))))
def qg0 : ICode :=
 (.seq (.seq (.post (.region [
 oM 68 10,
 oM 69 68,
  ⟨.mv 70 11, some (69, true)⟩,
 oN (.pick 71 69 70 (.c (.bool false))),
 oM 72 71,
  ⟨.mv 73 14, some (72, true)⟩,
  ⟨.bin 74 .eql 73 (.c (I 1)), some (72, true)⟩,
 oN (.pick 75 72 74 (.c (.bool false)))] false) [0, 1, 2, 3, 4, 10, 11, 12, 13, 75] 0)
 (.cond 75 (.post (.seq (.post (.region [
 oM 76 0,
 oM 77 1,
 oM 78 2,
 oM 79 4,
 oN (.call (some 80) true 200 [76, 77, 78, 79])] false) [0, 1, 2, 3, 4, 10, 11, 12, 13, 80] 0)
 (.cond 80 .ret
 .skip)) [0, 1, 2, 3, 4, 10, 11, 12, 13] 0)
 (.post .skip [0, 1, 2, 3, 4, 10, 11, 12, 13] 0)))
 (.cut qfz))
def qg1 : ICode :=
 (.seq (.post (.region [
 oM 48 0,
 oM 49 1,
 oM 50 2,
 oM 51 4,
 oN (.call (some 52) true 198 [48, 49, 50, 51]),
 oM 47 52,
 oN (.extract 53 47 0),
 oN (.extract 54 47 1),
 oM 13 53,
 oM 14 54] false) [0, 1, 2, 3, 4, 10, 11, 12, 13, 14] 0)
 (.seq (.seq (.post (.region [
 oM 55 14,
 oN (.bin 56 .eql 55 (.c (I 2)))] false) [0, 1, 2, 3, 4, 10, 11, 12, 13, 14, 56] 0)
 (.cond 56 (.post (.seq (.post (.region [
 oM 57 0,
 oM 58 1,
 oM 59 2,
 oM 60 4,
 oN (.call (some 61) true 199 [57, 58, 59, 60])] false) [0, 1, 2, 3, 4, 10, 11, 12, 13] 0)
 (.seq (.post (.region [
 oM 62 2,
 oN (.bin 63 .sub 62 (.c (I 1))),
 oM 64 13,
 oM 65 1,
 oN (.bin 66 .sub 64 65),
 oN (.bin 67 .sub 63 66),
 oM 13 67] false) [0, 1, 2, 3, 4, 10, 11, 12, 13] 0)
 (.region [
 oN (.mv 14 (.c (I 1)))] false))) [0, 1, 2, 3, 4, 10, 11, 12, 13, 14] 0)
 (.post .skip [0, 1, 2, 3, 4, 10, 11, 12, 13, 14] 0)))
 (.cut qg0)))
def qg2 : ICode :=
 (.post (.block 1 (.seq (.post (.region [
 oM 21 2,
 oM 22 1,
 oN (.bin 23 .sub 21 22),
 oM 12 23] false) [0, 1, 2, 3, 4, 10, 11, 12] 0)
 (.seq (.seq (.post (.region [
 oM 24 12,
 oN (.bin 25 .leq 24 (.c (I 12)))] false) [0, 1, 2, 3, 4, 10, 11, 12, 25] 0)
 (.cond 25 (.seq (.post (.region [
 oM 26 0,
 oM 27 1,
 oM 28 2,
 oM 29 4,
 oN (.call (some 30) true 195 [26, 27, 28, 29])] false) [] 0)
 .ret)
 .skip))
 (.seq (.seq (.post (.region [
 oM 31 3,
 oN (.bin 32 .eql 31 (.c (I 0)))] false) [0, 1, 2, 3, 4, 10, 11, 12, 32] 0)
 (.cond 32 (.seq (.post (.region [
 oM 33 0,
 oM 34 1,
 oM 35 2,
 oM 36 4,
 oN (.call (some 37) true 196 [33, 34, 35, 36])] false) [] 0)
 .ret)
 .skip))
 (.seq (.seq (.post (.region [
 oM 38 10,
 oN (.un 39 .not 38)] false) [0, 1, 2, 3, 4, 10, 11, 12, 39] 0)
 (.cond 39 (.post (.seq (.post (.region [
 oM 40 0,
 oM 41 1,
 oM 42 2,
 oM 43 4,
 oN (.call (some 44) true 197 [40, 41, 42, 43])] false) [0, 1, 2, 3, 4, 10, 11, 12] 0)
 (.post (.region [
 oM 45 3,
 oN (.bin 46 .sub 45 (.c (I 1))),
 oM 3 46] false) [0, 1, 2, 3, 4, 10, 11, 12] 0)) [0, 1, 2, 3, 4, 10, 11, 12] 0)
 (.post .skip [0, 1, 2, 3, 4, 10, 11, 12] 0)))
 (.cut qg1)))))) [0, 1, 2, 3, 4, 10, 11] 0)
def qg3 : ICode :=
 (.post (.block 0 (.loop qg2)) [] 0)
def qg4 : ICode :=
 (.seq (.region [
 oN (.mv 10 (.c (.bool true)))] false)
 (.seq (.post (.region [
 oN (.mv 11 (.c (.bool true)))] false) [0, 1, 2, 3, 4, 10, 11] 0)
 (.cut qg3)))
def qg5 : IFunc := { np := 5, res := [], own := false, trunc := true, body := qg4 }
/- 193: slices.nextPowerOfTwo -/
def qg6 : ICode :=
 (.seq (.post (.region [
 oN (.mv 2 (.c (.int .u64 0)))] false) [0] 0)
 (.seq (.post (.region [
 oM 3 0,
 oN (.conv 4 .u64 3),
 oN (.call (some 5) true 181 [4]),
 oN (.bin 6 .shl (.c (.int .u64 1)) 5),
 oM 2 6] false) [2] 0)
 .ret))
def qg7 : IFunc := { np := 1, res := [.t 2], own := false, trunc := true, body := qg6 }
/- 194: (*slices.xorshift).Next -/
def qg8 : ICode :=
 (.seq (.post (.region [
 oN (.mv 2 (.c (.int .u64 0)))] false) [0] 0)
 (.seq (.post (.region [
 oM 3 0,
 oC 4 3,
 oL 5 4,
 oM 6 0,
 oC 7 6,
 oL 8 7,
 oN (.bin 9 .shl 8 (.c (.int .u64 13))),
 oN (.bin 10 .xor 5 9),
 oC 11 3,
 oN (.store false 1 11 10)] true) [0] 0)
 (.seq (.post (.region [
 oM 12 0,
 oC 13 12,
 oL 14 13,
 oM 15 0,
 oC 16 15,
 oL 17 16,
 oN (.bin 18 .shr 17 (.c (.int .u64 7))),
 oN (.bin 19 .xor 14 18),
 oC 20 12,
 oN (.store false 1 20 19)] true) [0] 0)
 (.seq (.post (.region [
 oM 21 0,
 oC 22 21,
 oL 23 22,
 oM 24 0,
 oC 25 24,
 oL 26 25,
 oN (.bin 27 .shl 26 (.c (.int .u64 17))),
 oN (.bin 28 .xor 23 27),
 oC 29 21,
 oN (.store false 1 29 28)] true) [0] 0)
 (.seq (.post (.region [
 oM 30 0,
 oC 31 30,
 oL 32 31,
 oM 2 32] false) [2] 0)
 .ret)))))
def qg9 : IFunc := { np := 1, res := [.t 2], own := false, trunc := true, body := qg8 }
/- 195: slices.insertionSortCmpFunc[int] -/
def qga : ICode :=
 (.post (.seq (.seq (.post (.region [
 oM 18 9,
 oM 19 1,
 oN (.bin 20 .gtr 18 19),
 oM 21 20,
  ⟨.mv 22 3, some (21, true)⟩,
  ⟨.mv 23 0, some (21, true)⟩,
  ⟨.mv 24 9, some (21, true)⟩,
  ⟨.iaddr 25 1 none 23 24, some (21, true)⟩,
  ⟨.load 26 false 1 25, some (21, true)⟩,
  ⟨.mv 27 0, some (21, true)⟩,
  ⟨.mv 28 9, some (21, true)⟩,
  ⟨.bin 29 .sub 28 (.c (I 1)), some (21, true)⟩,
  ⟨.iaddr 30 1 none 27 29, some (21, true)⟩,
  ⟨.load 31 false 1 30, some (21, true)⟩,
  ⟨.callv (some 32) true 22 [26, 31], some (21, true)⟩,
  ⟨.bin 33 .lss 32 (.c (I 0)), some (21, true)⟩,
 oN (.pick 34 21 33 (.c (.bool false)))] true) [0, 1, 2, 3, 8, 9, 34] 0)
 (.cond 34 .skip
 (.exit 2)))
 (.seq (.block 3 (.post (.region [
 oM 37 0,
 oM 38 9,
 oM 39 0,
 oM 40 9,
 oN (.bin 41 .sub 40 (.c (I 1))),
 oM 42 0,
 oM 43 9,
 oN (.bin 44 .sub 43 (.c (I 1))),
 oA 45 42 44,
 oL 46 45,
 oM 47 0,
 oM 48 9,
 oA 49 47 48,
 oL 50 49,
 oA 51 37 38,
 oN (.store false 1 51 46),
 oA 52 39 41,
 oN (.store false 1 52 50)] true) [0, 1, 2, 3, 8, 9] 0))
 (.post (.region [
 oM 35 9,
 oN (.bin 36 .sub 35 (.c (I 1))),
 oM 9 36] false) [0, 1, 2, 3, 8, 9] 0))) [0, 1, 2, 3, 8, 9] 0)
def qgb : ICode :=
 (.post (.block 2 (.loop qga)) [0, 1, 2, 3, 8] 0)
def qgc : ICode :=
 (.post (.region [
 oM 15 8,
 oN (.bin 16 .add 15 (.c (I 1))),
 oM 8 16] false) [0, 1, 2, 3, 8] 0)
def qgd : ICode :=
 (.post (.seq (.seq (.post (.region [
 oM 12 8,
 oM 13 2,
 oN (.bin 14 .lss 12 13)] false) [0, 1, 2, 3, 8, 14] 0)
 (.cond 14 .skip
 (.exit 0)))
 (.seq (.block 1 (.seq (.post (.region [
 oM 17 8,
 oM 9 17] false) [0, 1, 2, 3, 8, 9] 0)
 (.cut qgb)))
 (.cut qgc))) [0, 1, 2, 3, 8] 0)
def qge : ICode :=
 (.post (.block 0 (.loop qgd)) [] 0)
def qgf : ICode :=
 (.seq (.post (.region [
 oM 10 1,
 oN (.bin 11 .add 10 (.c (I 1))),
 oM 8 11] false) [0, 1, 2, 3, 8] 0)
 (.cut qge))
def qgg : IFunc := { np := 4, res := [], own := false, trunc := true, body := qgf }
/- 196: slices.heapSortCmpFunc[int] -/
def qgh : ICode :=
 (.post (.seq (.seq (.post (.region [
 oM 20 11,
 oN (.bin 21 .geq 20 (.c (I 0)))] false) [0, 3, 8, 9, 10, 11, 21] 0)
 (.cond 21 .skip
 (.exit 0)))
 (.seq (.block 1 (.post (.region [
 oM 24 0,
 oM 25 11,
 oM 26 10,
 oM 27 8,
 oM 28 3,
 oN (.call (some 29) true 203 [24, 25, 26, 27, 28])] false) [0, 3, 8, 9, 10, 11] 0))
 (.post (.region [
 oM 22 11,
 oN (.bin 23 .sub 22 (.c (I 1))),
 oM 11 23] false) [0, 3, 8, 9, 10, 11] 0))) [0, 3, 8, 9, 10, 11] 0)
def qgi : ICode :=
 (.post (.block 0 (.loop qgh)) [0, 3, 8, 9, 10] 0)
def qgj : ICode :=
 (.post (.seq (.seq (.post (.region [
 oM 32 12,
 oN (.bin 33 .geq 32 (.c (I 0)))] false) [0, 3, 8, 9, 12, 33] 0)
 (.cond 33 .skip
 (.exit 2)))
 (.seq (.block 3 (.seq (.post (.region [
 oM 36 0,
 oM 37 8,
 oM 38 0,
 oM 39 8,
 oM 40 12,
 oN (.bin 41 .add 39 40),
 oM 42 0,
 oM 43 8,
 oM 44 12,
 oN (.bin 45 .add 43 44),
 oA 46 42 45,
 oL 47 46,
 oM 48 0,
 oM 49 8,
 oA 50 48 49,
 oL 51 50,
 oA 52 36 37,
 oN (.store false 1 52 47),
 oA 53 38 41,
 oN (.store false 1 53 51)] true) [0, 3, 8, 9, 12] 0)
 (.post (.region [
 oM 54 0,
 oM 55 9,
 oM 56 12,
 oM 57 8,
 oM 58 3,
 oN (.call (some 59) true 203 [54, 55, 56, 57, 58])] false) [0, 3, 8, 9, 12] 0)))
 (.post (.region [
 oM 34 12,
 oN (.bin 35 .sub 34 (.c (I 1))),
 oM 12 35] false) [0, 3, 8, 9, 12] 0))) [0, 3, 8, 9, 12] 0)
def qgk : ICode :=
 (.post (.block 2 (.loop qgj)) [] 0)
def qgl : ICode :=
 (.seq (.post (.region [
 oM 30 10,
 oN (.bin 31 .sub 30 (.c (I 1))),
 oM 12 31] false) [0, 3, 8, 9, 12] 0)
 (.cut qgk))
def qgm : ICode :=
 (.seq (.post (.region [
 oM 13 1,
 oM 8 13] false) [0, 1, 2, 3, 8] 0)
 (.seq (.region [
 oN (.mv 9 (.c (I 0)))] false)
 (.seq (.post (.region [
 oM 14 2,
 oM 15 1,
 oN (.bin 16 .sub 14 15),
 oM 10 16] false) [0, 3, 8, 9, 10] 0)
 (.seq (.seq (.post (.region [
 oM 17 10,
 oN (.bin 18 .sub 17 (.c (I 1))),
 oN (.bin 19 .quo 18 (.c (I 2))),
 oM 11 19] false) [0, 3, 8, 9, 10, 11] 0)
 (.cut qgi))
 (.cut qgl)))))
def qgn : IFunc := { np := 4, res := [], own := false, trunc := true, body := qgm }
/- 197: slices.breakPatternsCmpFunc[int] -/
def qgo : ICode :=
 (.post (.region [
 oM 49 0,
 oM 50 11,
 oM 51 0,
 oM 52 1,
 oM 53 12,
 oN (.bin 54 .add 52 53),
 oM 55 0,
 oM 56 1,
 oM 57 12,
 oN (.bin 58 .add 56 57),
 oA 59 55 58,
 oL 60 59,
 oM 61 0,
 oM 62 11,
 oA 63 61 62,
 oL 64 63,
 oA 65 49 50,
 oN (.store false 1 65 60),
 oA 66 51 54,
 oN (.store false 1 66 64)] true) [0, 1, 8, 9, 10, 11] 0)
def qgp : ICode :=
 (.post (.region [
 oM 36 11,
 oN (.bin 37 .add 36 (.c (I 1))),
 oM 11 37] false) [0, 1, 8, 9, 10, 11] 0)
def qgq : ICode :=
 (.post (.seq (.seq (.post (.region [
 oM 28 11,
 oM 29 1,
 oM 30 8,
 oN (.bin 31 .quo 30 (.c (I 4))),
 oN (.bin 32 .mul 31 (.c (I 2))),
 oN (.bin 33 .add 29 32),
 oN (.bin 34 .add 33 (.c (I 1))),
 oN (.bin 35 .leq 28 34)] false) [0, 1, 8, 9, 10, 11, 35] 0)
 (.cond 35 .skip
 (.exit 0)))
 (.seq (.block 1 (.seq (.post (.region [
 oN (.call (some 38) true 194 [9]),
 oM 39 10,
 oN (.bin 40 .sub 39 (.c (.int .u64 1))),
 oN (.bin 41 .and 38 40),
 oN (.conv 42 .i64 41),
 oM 12 42] false) [0, 1, 8, 9, 10, 11, 12] 0)
 (.seq (.seq (.post (.region [
 oM 43 12,
 oM 44 8,
 oN (.bin 45 .geq 43 44)] false) [0, 1, 8, 9, 10, 11, 12, 45] 0)
 (.cond 45 (.post (.post (.region [
 oM 46 12,
 oM 47 8,
 oN (.bin 48 .sub 46 47),
 oM 12 48] false) [0, 1, 8, 9, 10, 11, 12] 0) [0, 1, 8, 9, 10, 11, 12] 0)
 (.post .skip [0, 1, 8, 9, 10, 11, 12] 0)))
 (.cut qgo))))
 (.cut qgp))) [0, 1, 8, 9, 10, 11] 0)
def qgr : ICode :=
 (.post (.block 0 (.loop qgq)) [] 0)
def qgs : ICode :=
 (.seq (.post (.region [
 oM 13 2,
 oM 14 1,
 oN (.bin 15 .sub 13 14),
 oM 8 15] false) [0, 1, 8] 0)
 (.seq (.post (.region [
 oM 16 8,
 oN (.bin 17 .geq 16 (.c (I 8)))] false) [0, 1, 8, 17] 0)
 (.cond 17 (.post (.seq (.post (.region [
 oM 18 8,
 oN (.conv 19 .u64 18),
 oN (.alloc 9 true (.int .u64 0)),
 oN (.store false 1 9 19)] false) [0, 1, 8, 9] 0)
 (.seq (.post (.region [
 oM 20 8,
 oN (.call (some 21) true 193 [20]),
 oM 10 21] false) [0, 1, 8, 9, 10] 0)
 (.seq (.post (.region [
 oM 22 1,
 oM 23 8,
 oN (.bin 24 .quo 23 (.c (I 4))),
 oN (.bin 25 .mul 24 (.c (I 2))),
 oN (.bin 26 .add 22 25),
 oN (.bin 27 .sub 26 (.c (I 1))),
 oM 11 27] false) [0, 1, 8, 9, 10, 11] 0)
 (.cut qgr)))) [] 0)
 (.post .skip [] 0))))
def qgt : IFunc := { np := 4, res := [], own := false, trunc := true, body := qgs }
/- 198: slices.choosePivotCmpFunc[int] -/
def qgu : ICode :=
 (.post (.region [
 oM 49 0,
 oM 50 12,
 oM 51 13,
 oM 52 14,
 oM 53 3,
 oN (.call (some 54) true 205 [49, 50, 51, 52, 11, 53]),
 oM 13 54] false) [11, 13] 0)
def qgv : ICode :=
 (.seq (.post (.region [
 oL 55 11] false) [13, 55] 0)
 (.block 0 (.seq (.post (.region [
 oN (.bin 58 .eql 55 (.c (I 0))),
 oM 57 58] false) [13, 55, 57] 0)
 (.cond 57 (.seq (.post (.region [
 oM 59 13,
 oM 8 59,
 oN (.mv 9 (.c (I 1)))] false) [8, 9] 0)
 .ret)
 (.seq (.post (.region [
 oN (.bin 61 .eql 55 (.c (I 12))),
 oM 60 61] false) [13, 60] 0)
 (.cond 60 (.seq (.post (.region [
 oM 62 13,
 oM 8 62,
 oN (.mv 9 (.c (I 2)))] false) [8, 9] 0)
 .ret)
 (.seq (.post (.region [
 oM 56 13,
 oM 8 56,
 oN (.mv 9 (.c (I 0)))] false) [8, 9] 0)
 .ret)))))))
def qgw : ICode :=
 (.seq (.post (.region [
 oN (.mv 8 (.c (I 0))),
 oN (.mv 9 (.c (I 0)))] false) [0, 1, 2, 3] 0)
 (.seq (.post (.region [
 oM 15 2,
 oM 16 1,
 oN (.bin 17 .sub 15 16),
 oM 10 17] false) [0, 1, 3, 10] 0)
 (.seq (.region [
 oN (.alloc 11 true (I 0))] false)
 (.seq (.post (.region [
 oM 18 1,
 oM 19 10,
 oN (.bin 20 .quo 19 (.c (I 4))),
 oN (.bin 21 .mul 20 (.c (I 1))),
 oN (.bin 22 .add 18 21),
 oM 12 22] false) [0, 1, 3, 10, 11, 12] 0)
 (.seq (.post (.region [
 oM 23 1,
 oM 24 10,
 oN (.bin 25 .quo 24 (.c (I 4))),
 oN (.bin 26 .mul 25 (.c (I 2))),
 oN (.bin 27 .add 23 26),
 oM 13 27] false) [0, 1, 3, 10, 11, 12, 13] 0)
 (.seq (.post (.region [
 oM 28 1,
 oM 29 10,
 oN (.bin 30 .quo 29 (.c (I 4))),
 oN (.bin 31 .mul 30 (.c (I 3))),
 oN (.bin 32 .add 28 31),
 oM 14 32] false) [0, 3, 10, 11, 12, 13, 14] 0)
 (.seq (.seq (.post (.region [
 oM 33 10,
 oN (.bin 34 .geq 33 (.c (I 8)))] false) [0, 3, 10, 11, 12, 13, 14, 34] 0)
 (.cond 34 (.post (.seq (.seq (.post (.region [
 oM 35 10,
 oN (.bin 36 .geq 35 (.c (I 50)))] false) [0, 3, 11, 12, 13, 14, 36] 0)
 (.cond 36 (.post (.seq (.post (.region [
 oM 37 0,
 oM 38 12,
 oM 39 3,
 oN (.call (some 40) true 204 [37, 38, 11, 39]),
 oM 12 40] false) [0, 3, 11, 12, 13, 14] 0)
 (.seq (.post (.region [
 oM 41 0,
 oM 42 13,
 oM 43 3,
 oN (.call (some 44) true 204 [41, 42, 11, 43]),
 oM 13 44] false) [0, 3, 11, 12, 13, 14] 0)
 (.post (.region [
 oM 45 0,
 oM 46 14,
 oM 47 3,
 oN (.call (some 48) true 204 [45, 46, 11, 47]),
 oM 14 48] false) [0, 3, 11, 12, 13, 14] 0))) [0, 3, 11, 12, 13, 14] 0)
 (.post .skip [0, 3, 11, 12, 13, 14] 0)))
 (.cut qgu)) [11, 13] 0)
 (.post .skip [11, 13] 0)))
 (.cut qgv))))))))
def qgx : IFunc := { np := 4, res := [.t 8, .t 9], own := false, trunc := true, body := qgw }
/- 199: slices.reverseRangeCmpFunc[int] -/
def qgy : ICode :=
 (.post (.seq (.seq (.post (.region [
 oM 13 8,
 oM 14 9,
 oN (.bin 15 .lss 13 14)] false) [0, 8, 9, 15] 0)
 (.cond 15 .skip
 (.exit 0)))
 (.block 1 (.seq (.post (.region [
 oM 16 0,
 oM 17 8,
 oM 18 0,
 oM 19 9,
 oM 20 0,
 oM 21 9,
 oA 22 20 21,
 oL 23 22,
 oM 24 0,
 oM 25 8,
 oA 26 24 25,
 oL 27 26,
 oA 28 16 17,
 oN (.store false 1 28 23),
 oA 29 18 19,
 oN (.store false 1 29 27)] true) [0, 8, 9] 0)
 (.seq (.post (.region [
 oM 30 8,
 oN (.bin 31 .add 30 (.c (I 1))),
 oM 8 31] false) [0, 8, 9] 0)
 (.post (.region [
 oM 32 9,
 oN (.bin 33 .sub 32 (.c (I 1))),
 oM 9 33] false) [0, 8, 9] 0))))) [0, 8, 9] 0)
def qgz : ICode :=
 (.post (.block 0 (.loop qgy)) [] 0)
def qh0 : ICode :=
 (.seq (.post (.region [
 oM 10 1,
 oM 8 10] false) [0, 2, 8] 0)
 (.seq (.post (.region [
 oM 11 2,
 oN (.bin 12 .sub 11 (.c (I 1))),
 oM 9 12] false) [0, 8, 9] 0)
 (.cut qgz)))
def qh1 : IFunc := { np := 4, res := [], own := false, trunc := true, body := qh0 }
/- 200: slices.partialInsertionSortCmpFunc[int] -/
def qh2 : ICode :=
 (.post (.seq (.seq (.post (.region [
 oM 19 9,
 oM 20 2,
 oN (.bin 21 .lss 19 20),
 oM 22 21,
  ⟨.mv 23 3, some (22, true)⟩,
  ⟨.mv 24 0, some (22, true)⟩,
  ⟨.mv 25 9, some (22, true)⟩,
  ⟨.iaddr 26 1 none 24 25, some (22, true)⟩,
  ⟨.load 27 false 1 26, some (22, true)⟩,
  ⟨.mv 28 0, some (22, true)⟩,
  ⟨.mv 29 9, some (22, true)⟩,
  ⟨.bin 30 .sub 29 (.c (I 1)), some (22, true)⟩,
  ⟨.iaddr 31 1 none 28 30, some (22, true)⟩,
  ⟨.load 32 false 1 31, some (22, true)⟩,
  ⟨.callv (some 33) true 23 [27, 32], some (22, true)⟩,
  ⟨.bin 34 .lss 33 (.c (I 0)), some (22, true)⟩,
  ⟨.un 35 .not 34, some (22, true)⟩,
 oN (.pick 36 22 35 (.c (.bool false)))] true) [0, 1, 2, 3, 9, 10, 36] 0)
 (.cond 36 .skip
 (.exit 2)))
 (.block 3 (.post (.region [
 oM 37 9,
 oN (.bin 38 .add 37 (.c (I 1))),
 oM 9 38] false) [0, 1, 2, 3, 9, 10] 0))) [0, 1, 2, 3, 9, 10, 16] 0)
def qh3 : ICode :=
 (.post (.block 2 (.loop qh2)) [0, 1, 2, 3, 9, 10] 0)
def qh4 : ICode :=
 (.post (.seq (.seq (.post (.region [
 oM 68 11,
 oN (.bin 69 .geq 68 (.c (I 1)))] false) [0, 1, 2, 3, 9, 10, 11, 69] 0)
 (.cond 69 .skip
 (.exit 4)))
 (.seq (.block 5 (.seq (.seq (.post (.region [
 oM 72 3,
 oM 73 0,
 oM 74 11,
 oA 75 73 74,
 oL 76 75,
 oM 77 0,
 oM 78 11,
 oN (.bin 79 .sub 78 (.c (I 1))),
 oA 80 77 79,
 oL 81 80,
 oN (.callv (some 82) true 72 [76, 81]),
 oN (.bin 83 .lss 82 (.c (I 0))),
 oN (.un 84 .not 83)] true) [0, 1, 2, 3, 9, 10, 11, 84] 0)
 (.cond 84 (.exit 4)
 .skip))
 (.post (.region [
 oM 85 0,
 oM 86 11,
 oM 87 0,
 oM 88 11,
 oN (.bin 89 .sub 88 (.c (I 1))),
 oM 90 0,
 oM 91 11,
 oN (.bin 92 .sub 91 (.c (I 1))),
 oA 93 90 92,
 oL 94 93,
 oM 95 0,
 oM 96 11,
 oA 97 95 96,
 oL 98 97,
 oA 99 85 86,
 oN (.store false 1 99 94),
 oA 100 87 89,
 oN (.store false 1 100 98)] true) [0, 1, 2, 3, 9, 10, 11] 0)))
 (.post (.region [
 oM 70 11,
 oN (.bin 71 .sub 70 (.c (I 1))),
 oM 11 71] false) [0, 1, 2, 3, 9, 10, 11] 0))) [0, 1, 2, 3, 9, 10, 11] 0)
def qh5 : ICode :=
 (.post (.block 4 (.loop qh4)) [0, 1, 2, 3, 9, 10] 0)
def qh6 : ICode :=
 (.post (.seq (.seq (.post (.region [
 oM 107 12,
 oM 108 2,
 oN (.bin 109 .lss 107 108)] false) [0, 1, 2, 3, 9, 10, 12, 109] 0)
 (.cond 109 .skip
 (.exit 6)))
 (.seq (.block 7 (.seq (.seq (.post (.region [
 oM 112 3,
 oM 113 0,
 oM 114 12,
 oA 115 113 114,
 oL 116 115,
 oM 117 0,
 oM 118 12,
 oN (.bin 119 .sub 118 (.c (I 1))),
 oA 120 117 119,
 oL 121 120,
 oN (.callv (some 122) true 112 [116, 121]),
 oN (.bin 123 .lss 122 (.c (I 0))),
 oN (.un 124 .not 123)] true) [0, 1, 2, 3, 9, 10, 12, 124] 0)
 (.cond 124 (.exit 6)
 .skip))
 (.post (.region [
 oM 125 0,
 oM 126 12,
 oM 127 0,
 oM 128 12,
 oN (.bin 129 .sub 128 (.c (I 1))),
 oM 130 0,
 oM 131 12,
 oN (.bin 132 .sub 131 (.c (I 1))),
 oA 133 130 132,
 oL 134 133,
 oM 135 0,
 oM 136 12,
 oA 137 135 136,
 oL 138 137,
 oA 139 125 126,
 oN (.store false 1 139 134),
 oA 140 127 129,
 oN (.store false 1 140 138)] true) [0, 1, 2, 3, 9, 10, 12] 0)))
 (.post (.region [
 oM 110 12,
 oN (.bin 111 .add 110 (.c (I 1))),
 oM 12 111] false) [0, 1, 2, 3, 9, 10, 12] 0))) [0, 1, 2, 3, 9, 10, 12] 0)
def qh7 : ICode :=
 (.post (.block 6 (.loop qh6)) [0, 1, 2, 3, 9, 10] 0)
def qh8 : ICode :=
 (.seq (.post (.region [
 oM 101 2,
 oM 102 9,
 oN (.bin 103 .sub 101 102),
 oN (.bin 104 .geq 103 (.c (I 2)))] false) [0, 1, 2, 3, 9, 10, 104] 0)
 (.cond 104 (.post (.seq (.post (.region [
 oM 105 9,
 oN (.bin 106 .add 105 (.c (I 1))),
 oM 12 106] false) [0, 1, 2, 3, 9, 10, 12] 0)
 (.cut qh7)) [0, 1, 2, 3, 9, 10] 0)
 (.post .skip [0, 1, 2, 3, 9, 10] 0)))
def qh9 : ICode :=
 (.seq (.seq (.post (.region [
 oM 39 9,
 oM 40 2,
 oN (.bin 41 .eql 39 40)] false) [0, 1, 2, 3, 9, 10, 41] 0)
 (.cond 41 (.seq (.post (.region [
 oN (.mv 8 (.c (.bool true)))] false) [8] 0)
 .ret)
 .skip))
 (.seq (.seq (.post (.region [
 oM 42 2,
 oM 43 1,
 oN (.bin 44 .sub 42 43),
 oN (.bin 45 .lss 44 (.c (I 50)))] false) [0, 1, 2, 3, 9, 10, 45] 0)
 (.cond 45 (.seq (.post (.region [
 oN (.mv 8 (.c (.bool false)))] false) [8] 0)
 .ret)
 .skip))
 (.seq (.post (.region [
 oM 46 0,
 oM 47 9,
 oM 48 0,
 oM 49 9,
 oN (.bin 50 .sub 49 (.c (I 1))),
 oM 51 0,
 oM 52 9,
 oN (.bin 53 .sub 52 (.c (I 1))),
 oA 54 51 53,
 oL 55 54,
 oM 56 0,
 oM 57 9,
 oA 58 56 57,
 oL 59 58,
 oA 60 46 47,
 oN (.store false 1 60 55),
 oA 61 48 50,
 oN (.store false 1 61 59)] true) [0, 1, 2, 3, 9, 10] 0)
 (.seq (.seq (.post (.region [
 oM 62 9,
 oM 63 1,
 oN (.bin 64 .sub 62 63),
 oN (.bin 65 .geq 64 (.c (I 2)))] false) [0, 1, 2, 3, 9, 10, 65] 0)
 (.cond 65 (.post (.seq (.post (.region [
 oM 66 9,
 oN (.bin 67 .sub 66 (.c (I 1))),
 oM 11 67] false) [0, 1, 2, 3, 9, 10, 11] 0)
 (.cut qh5)) [0, 1, 2, 3, 9, 10] 0)
 (.post .skip [0, 1, 2, 3, 9, 10] 0)))
 (.cut qh8)))))
def qha : ICode :=
 (.post (.region [
 oM 17 10,
 oN (.bin 18 .add 17 (.c (I 1))),
 oM 10 18] false) [0, 1, 2, 3, 9, 10] 0)
def qhb : ICode :=
 (.post (.seq (.seq (.post (.region [
 oM 15 10,
 oN (.bin 16 .lss 15 (.c (I 5)))] false) [0, 1, 2, 3, 9, 10, 16] 0)
 (.cond 16 .skip
 (.exit 0)))
 (.seq (.block 1 (.seq (.cut qh3)
 (.cut qh9)))
 (.cut qha))) [0, 1, 2, 3, 9, 10] 0)
def qhc : ICode :=
 (.post (.block 0 (.loop qhb)) [] 0)
def qhd : ICode :=
 (.seq (.region [
 oN (.mv 8 (.c (.bool false)))] false)
 .ret)
def qhe : ICode :=
 (.seq (.post (.region [
 oN (.mv 8 (.c (.bool false)))] false) [0, 1, 2, 3] 0)
 (.seq (.post (.region [
 oM 13 1,
 oN (.bin 14 .add 13 (.c (I 1))),
 oM 9 14] false) [0, 1, 2, 3, 9] 0)
 (.seq (.seq (.post (.region [
 oN (.mv 10 (.c (I 0)))] false) [0, 1, 2, 3, 9, 10] 0)
 (.cut qhc))
 (.cut qhd))))
def qhf : IFunc := { np := 4, res := [.t 8], own := false, trunc := true, body := qhe }
/- 201: slices.partitionEqualCmpFunc[int] -/
def qhg : ICode :=
 (.post (.seq (.seq (.post (.region [
 oM 31 11,
 oM 32 12,
 oN (.bin 33 .leq 31 32),
 oM 34 33,
  ⟨.mv 35 4, some (34, true)⟩,
  ⟨.mv 36 0, some (34, true)⟩,
  ⟨.mv 37 1, some (34, true)⟩,
  ⟨.iaddr 38 1 none 36 37, some (34, true)⟩,
  ⟨.load 39 false 1 38, some (34, true)⟩,
  ⟨.mv 40 0, some (34, true)⟩,
  ⟨.mv 41 11, some (34, true)⟩,
  ⟨.iaddr 42 1 none 40 41, some (34, true)⟩,
  ⟨.load 43 false 1 42, some (34, true)⟩,
  ⟨.callv (some 44) true 35 [39, 43], some (34, true)⟩,
  ⟨.bin 45 .lss 44 (.c (I 0)), some (34, true)⟩,
  ⟨.un 46 .not 45, some (34, true)⟩,
 oN (.pick 47 34 46 (.c (.bool false)))] true) [0, 1, 4, 11, 12, 47] 0)
 (.cond 47 .skip
 (.exit 2)))
 (.block 3 (.post (.region [
 oM 48 11,
 oN (.bin 49 .add 48 (.c (I 1))),
 oM 11 49] false) [0, 1, 4, 11, 12] 0))) [0, 1, 4, 11, 12] 0)
def qhh : ICode :=
 (.post (.block 2 (.loop qhg)) [0, 1, 4, 11, 12] 0)
def qhi : ICode :=
 (.post (.seq (.seq (.post (.region [
 oM 50 11,
 oM 51 12,
 oN (.bin 52 .leq 50 51),
 oM 53 52,
  ⟨.mv 54 4, some (53, true)⟩,
  ⟨.mv 55 0, some (53, true)⟩,
  ⟨.mv 56 1, some (53, true)⟩,
  ⟨.iaddr 57 1 none 55 56, some (53, true)⟩,
  ⟨.load 58 false 1 57, some (53, true)⟩,
  ⟨.mv 59 0, some (53, true)⟩,
  ⟨.mv 60 12, some (53, true)⟩,
  ⟨.iaddr 61 1 none 59 60, some (53, true)⟩,
  ⟨.load 62 false 1 61, some (53, true)⟩,
  ⟨.callv (some 63) true 54 [58, 62], some (53, true)⟩,
  ⟨.bin 64 .lss 63 (.c (I 0)), some (53, true)⟩,
 oN (.pick 65 53 64 (.c (.bool false)))] true) [0, 1, 4, 11, 12, 65] 0)
 (.cond 65 .skip
 (.exit 4)))
 (.block 5 (.post (.region [
 oM 66 12,
 oN (.bin 67 .sub 66 (.c (I 1))),
 oM 12 67] false) [0, 1, 4, 11, 12] 0))) [0, 1, 4, 11, 12] 0)
def qhj : ICode :=
 (.post (.block 4 (.loop qhi)) [0, 1, 4, 11, 12] 0)
def qhk : ICode :=
 (.seq (.seq (.post (.region [
 oM 68 11,
 oM 69 12,
 oN (.bin 70 .gtr 68 69)] false) [0, 1, 4, 11, 12, 70] 0)
 (.cond 70 (.exit 0)
 .skip))
 (.seq (.post (.region [
 oM 71 0,
 oM 72 11,
 oM 73 0,
 oM 74 12,
 oM 75 0,
 oM 76 12,
 oA 77 75 76,
 oL 78 77,
 oM 79 0,
 oM 80 11,
 oA 81 79 80,
 oL 82 81,
 oA 83 71 72,
 oN (.store false 1 83 78),
 oA 84 73 74,
 oN (.store false 1 84 82)] true) [0, 1, 4, 11, 12] 0)
 (.seq (.post (.region [
 oM 85 11,
 oN (.bin 86 .add 85 (.c (I 1))),
 oM 11 86] false) [0, 1, 4, 11, 12] 0)
 (.post (.region [
 oM 87 12,
 oN (.bin 88 .sub 87 (.c (I 1))),
 oM 12 88] false) [0, 1, 4, 11, 12] 0))))
def qhl : ICode :=
 (.seq (.cut qhj)
 (.cut qhk))
def qhm : ICode :=
 (.post (.block 1 (.seq (.cut qhh)
 (.cut qhl))) [0, 1, 4, 11, 12] 0)
def qhn : ICode :=
 (.post (.block 0 (.loop qhm)) [11] 0)
def qho : ICode :=
 (.seq (.post (.region [
 oM 89 11,
 oM 10 89] false) [10] 0)
 .ret)
def qhp : ICode :=
 (.seq (.post (.region [
 oN (.mv 10 (.c (I 0)))] false) [0, 1, 2, 3, 4] 0)
 (.seq (.post (.region [
 oM 13 0,
 oM 14 1,
 oM 15 0,
 oM 16 3,
 oM 17 0,
 oM 18 3,
 oA 19 17 18,
 oL 20 19,
 oM 21 0,
 oM 22 1,
 oA 23 21 22,
 oL 24 23,
 oA 25 13 14,
 oN (.store false 1 25 20),
 oA 26 15 16,
 oN (.store false 1 26 24)] true) [0, 1, 2, 4] 0)
 (.seq (.post (.region [
 oM 27 1,
 oN (.bin 28 .add 27 (.c (I 1))),
 oM 29 2,
 oN (.bin 30 .sub 29 (.c (I 1))),
 oM 11 28,
 oM 12 30] false) [0, 1, 4, 11, 12] 0)
 (.seq (.cut qhn)
 (.cut qho)))))
def qhq : IFunc := { np := 5, res := [.t 10], own := false, trunc := true, body := qhp }
/- 202: slices.partitionCmpFunc[int] -/
def qhr : ICode :=
 (.post (.seq (.seq (.post (.region [
 oM 32 12,
 oM 33 13,
 oN (.bin 34 .leq 32 33),
 oM 35 34,
  ⟨.mv 36 4, some (35, true)⟩,
  ⟨.mv 37 0, some (35, true)⟩,
  ⟨.mv 38 12, some (35, true)⟩,
  ⟨.iaddr 39 1 none 37 38, some (35, true)⟩,
  ⟨.load 40 false 1 39, some (35, true)⟩,
  ⟨.mv 41 0, some (35, true)⟩,
  ⟨.mv 42 1, some (35, true)⟩,
  ⟨.iaddr 43 1 none 41 42, some (35, true)⟩,
  ⟨.load 44 false 1 43, some (35, true)⟩,
  ⟨.callv (some 45) true 36 [40, 44], some (35, true)⟩,
  ⟨.bin 46 .lss 45 (.c (I 0)), some (35, true)⟩,
 oN (.pick 47 35 46 (.c (.bool false)))] true) [0, 1, 4, 12, 13, 47] 0)
 (.cond 47 .skip
 (.exit 0)))
 (.block 1 (.post (.region [
 oM 48 12,
 oN (.bin 49 .add 48 (.c (I 1))),
 oM 12 49] false) [0, 1, 4, 12, 13] 0))) [0, 1, 4, 12, 13] 0)
def qhs : ICode :=
 (.post (.block 0 (.loop qhr)) [0, 1, 4, 12, 13] 0)
def qht : ICode :=
 (.post (.seq (.seq (.post (.region [
 oM 50 12,
 oM 51 13,
 oN (.bin 52 .leq 50 51),
 oM 53 52,
  ⟨.mv 54 4, some (53, true)⟩,
  ⟨.mv 55 0, some (53, true)⟩,
  ⟨.mv 56 13, some (53, true)⟩,
  ⟨.iaddr 57 1 none 55 56, some (53, true)⟩,
  ⟨.load 58 false 1 57, some (53, true)⟩,
  ⟨.mv 59 0, some (53, true)⟩,
  ⟨.mv 60 1, some (53, true)⟩,
  ⟨.iaddr 61 1 none 59 60, some (53, true)⟩,
  ⟨.load 62 false 1 61, some (53, true)⟩,
  ⟨.callv (some 63) true 54 [58, 62], some (53, true)⟩,
  ⟨.bin 64 .lss 63 (.c (I 0)), some (53, true)⟩,
  ⟨.un 65 .not 64, some (53, true)⟩,
 oN (.pick 66 53 65 (.c (.bool false)))] true) [0, 1, 4, 12, 13, 66] 0)
 (.cond 66 .skip
 (.exit 2)))
 (.block 3 (.post (.region [
 oM 67 13,
 oN (.bin 68 .sub 67 (.c (I 1))),
 oM 13 68] false) [0, 1, 4, 12, 13] 0))) [0, 1, 4, 12, 13] 0)
def qhu : ICode :=
 (.post (.block 2 (.loop qht)) [0, 1, 4, 12, 13] 0)
def qhv : ICode :=
 (.post (.seq (.seq (.post (.region [
 oM 105 12,
 oM 106 13,
 oN (.bin 107 .leq 105 106),
 oM 108 107,
  ⟨.mv 109 4, some (108, true)⟩,
  ⟨.mv 110 0, some (108, true)⟩,
  ⟨.mv 111 12, some (108, true)⟩,
  ⟨.iaddr 112 1 none 110 111, some (108, true)⟩,
  ⟨.load 113 false 1 112, some (108, true)⟩,
  ⟨.mv 114 0, some (108, true)⟩,
  ⟨.mv 115 1, some (108, true)⟩,
  ⟨.iaddr 116 1 none 114 115, some (108, true)⟩,
  ⟨.load 117 false 1 116, some (108, true)⟩,
  ⟨.callv (some 118) true 109 [113, 117], some (108, true)⟩,
  ⟨.bin 119 .lss 118 (.c (I 0)), some (108, true)⟩,
 oN (.pick 120 108 119 (.c (.bool false)))] true) [0, 1, 4, 12, 13, 120] 0)
 (.cond 120 .skip
 (.exit 6)))
 (.block 7 (.post (.region [
 oM 121 12,
 oN (.bin 122 .add 121 (.c (I 1))),
 oM 12 122] false) [0, 1, 4, 12, 13] 0))) [0, 1, 4, 12, 13] 0)
def qhw : ICode :=
 (.post (.block 6 (.loop qhv)) [0, 1, 4, 12, 13] 0)
def qhx : ICode :=
 (.post (.seq (.seq (.post (.region [
 oM 123 12,
 oM 124 13,
 oN (.bin 125 .leq 123 124),
 oM 126 125,
  ⟨.mv 127 4, some (126, true)⟩,
  ⟨.mv 128 0, some (126, true)⟩,
  ⟨.mv 129 13, some (126, true)⟩,
  ⟨.iaddr 130 1 none 128 129, some (126, true)⟩,
  ⟨.load 131 false 1 130, some (126, true)⟩,
  ⟨.mv 132 0, some (126, true)⟩,
  ⟨.mv 133 1, some (126, true)⟩,
  ⟨.iaddr 134 1 none 132 133, some (126, true)⟩,
  ⟨.load 135 false 1 134, some (126, true)⟩,
  ⟨.callv (some 136) true 127 [131, 135], some (126, true)⟩,
  ⟨.bin 137 .lss 136 (.c (I 0)), some (126, true)⟩,
  ⟨.un 138 .not 137, some (126, true)⟩,
 oN (.pick 139 126 138 (.c (.bool false)))] true) [0, 1, 4, 12, 13, 139] 0)
 (.cond 139 .skip
 (.exit 8)))
 (.block 9 (.post (.region [
 oM 140 13,
 oN (.bin 141 .sub 140 (.c (I 1))),
 oM 13 141] false) [0, 1, 4, 12, 13] 0))) [0, 1, 4, 12, 13] 0)
def qhy : ICode :=
 (.post (.block 8 (.loop qhx)) [0, 1, 4, 12, 13] 0)
def qhz : ICode :=
 (.seq (.seq (.post (.region [
 oM 142 12,
 oM 143 13,
 oN (.bin 144 .gtr 142 143)] false) [0, 1, 4, 12, 13, 144] 0)
 (.cond 144 (.exit 4)
 .skip))
 (.seq (.post (.region [
 oM 145 0,
 oM 146 12,
 oM 147 0,
 oM 148 13,
 oM 149 0,
 oM 150 13,
 oA 151 149 150,
 oL 152 151,
 oM 153 0,
 oM 154 12,
 oA 155 153 154,
 oL 156 155,
 oA 157 145 146,
 oN (.store false 1 157 152),
 oA 158 147 148,
 oN (.store false 1 158 156)] true) [0, 1, 4, 12, 13] 0)
 (.seq (.post (.region [
 oM 159 12,
 oN (.bin 160 .add 159 (.c (I 1))),
 oM 12 160] false) [0, 1, 4, 12, 13] 0)
 (.post (.region [
 oM 161 13,
 oN (.bin 162 .sub 161 (.c (I 1))),
 oM 13 162] false) [0, 1, 4, 12, 13] 0))))
def qi0 : ICode :=
 (.seq (.cut qhy)
 (.cut qhz))
def qi1 : ICode :=
 (.post (.block 5 (.seq (.cut qhw)
 (.cut qi0))) [0, 1, 4, 12, 13] 0)
def qi2 : ICode :=
 (.post (.block 4 (.loop qi1)) [0, 1, 13] 0)
def qi3 : ICode :=
 (.seq (.post (.region [
 oM 163 0,
 oM 164 13,
 oM 165 0,
 oM 166 1,
 oM 167 0,
 oM 168 1,
 oA 169 167 168,
 oL 170 169,
 oM 171 0,
 oM 172 13,
 oA 173 171 172,
 oL 174 173,
 oA 175 163 164,
 oN (.store false 1 175 170),
 oA 176 165 166,
 oN (.store false 1 176 174)] true) [13] 0)
 (.seq (.post (.region [
 oM 177 13,
 oM 10 177,
 oN (.mv 11 (.c (.bool false)))] false) [10, 11] 0)
 .ret))
def qi4 : ICode :=
 (.seq (.seq (.post (.region [
 oM 69 12,
 oM 70 13,
 oN (.bin 71 .gtr 69 70)] false) [0, 1, 4, 12, 13, 71] 0)
 (.cond 71 (.seq (.post (.region [
 oM 72 0,
 oM 73 13,
 oM 74 0,
 oM 75 1,
 oM 76 0,
 oM 77 1,
 oA 78 76 77,
 oL 79 78,
 oM 80 0,
 oM 81 13,
 oA 82 80 81,
 oL 83 82,
 oA 84 72 73,
 oN (.store false 1 84 79),
 oA 85 74 75,
 oN (.store false 1 85 83)] true) [13] 0)
 (.seq (.post (.region [
 oM 86 13,
 oM 10 86,
 oN (.mv 11 (.c (.bool true)))] false) [10, 11] 0)
 .ret))
 .skip))
 (.seq (.post (.region [
 oM 87 0,
 oM 88 12,
 oM 89 0,
 oM 90 13,
 oM 91 0,
 oM 92 13,
 oA 93 91 92,
 oL 94 93,
 oM 95 0,
 oM 96 12,
 oA 97 95 96,
 oL 98 97,
 oA 99 87 88,
 oN (.store false 1 99 94),
 oA 100 89 90,
 oN (.store false 1 100 98)] true) [0, 1, 4, 12, 13] 0)
 (.seq (.post (.region [
 oM 101 12,
 oN (.bin 102 .add 101 (.c (I 1))),
 oM 12 102] false) [0, 1, 4, 12, 13] 0)
 (.seq (.post (.region [
 oM 103 13,
 oN (.bin 104 .sub 103 (.c (I 1))),
 oM 13 104] false) [0, 1, 4, 12, 13] 0)
 (.seq (.cut qi2)
 (.cut qi3))))))
def qi5 : ICode :=
 (.seq (.cut qhu)
 (.cut qi4))
def qi6 : ICode :=
 (.seq (.post (.region [
 oN (.mv 10 (.c (I 0))),
 oN (.mv 11 (.c (.bool false)))] false) [0, 1, 2, 3, 4] 0)
 (.seq (.post (.region [
 oM 14 0,
 oM 15 1,
 oM 16 0,
 oM 17 3,
 oM 18 0,
 oM 19 3,
 oA 20 18 19,
 oL 21 20,
 oM 22 0,
 oM 23 1,
 oA 24 22 23,
 oL 25 24,
 oA 26 14 15,
 oN (.store false 1 26 21),
 oA 27 16 17,
 oN (.store false 1 27 25)] true) [0, 1, 2, 4] 0)
 (.seq (.post (.region [
 oM 28 1,
 oN (.bin 29 .add 28 (.c (I 1))),
 oM 30 2,
 oN (.bin 31 .sub 30 (.c (I 1))),
 oM 12 29,
 oM 13 31] false) [0, 1, 4, 12, 13] 0)
 (.seq (.cut qhs)
 (.cut qi5)))))
def qi7 : IFunc := { np := 5, res := [.t 10, .t 11], own := false, trunc := true, body := qi6 }
/- 203: slices.siftDownCmpFunc[int] -/
def qi8 : ICode :=
 (.seq (.seq (.post (.region [
 oM 43 4,
 oM 44 0,
 oM 45 3,
 oM 46 10,
 oN (.bin 47 .add 45 46),
 oA 48 44 47,
 oL 49 48,
 oM 50 0,
 oM 51 3,
 oM 52 11,
 oN (.bin 53 .add 51 52),
 oA 54 50 53,
 oL 55 54,
 oN (.callv (some 56) true 43 [49, 55]),
 oN (.bin 57 .lss 56 (.c (I 0))),
 oN (.un 58 .not 57)] true) [0, 2, 3, 4, 10, 11, 58] 0)
 (.cond 58 .ret
 .skip))
 (.seq (.post (.region [
 oM 59 0,
 oM 60 3,
 oM 61 10,
 oN (.bin 62 .add 60 61),
 oM 63 0,
 oM 64 3,
 oM 65 11,
 oN (.bin 66 .add 64 65),
 oM 67 0,
 oM 68 3,
 oM 69 11,
 oN (.bin 70 .add 68 69),
 oA 71 67 70,
 oL 72 71,
 oM 73 0,
 oM 74 3,
 oM 75 10,
 oN (.bin 76 .add 74 75),
 oA 77 73 76,
 oL 78 77,
 oA 79 59 62,
 oN (.store false 1 79 72),
 oA 80 63 66,
 oN (.store false 1 80 78)] true) [0, 2, 3, 4, 11] 0)
 (.post (.region [
 oM 81 11,
 oM 10 81] false) [0, 2, 3, 4, 10] 0)))
def qi9 : ICode :=
 (.post (.block 1 (.seq (.post (.region [
 oM 13 10,
 oN (.bin 14 .mul (.c (I 2)) 13),
 oN (.bin 15 .add 14 (.c (I 1))),
 oM 11 15] false) [0, 2, 3, 4, 10, 11] 0)
 (.seq (.seq (.post (.region [
 oM 16 11,
 oM 17 2,
 oN (.bin 18 .geq 16 17)] false) [0, 2, 3, 4, 10, 11, 18] 0)
 (.cond 18 (.exit 0)
 .skip))
 (.seq (.seq (.post (.region [
 oM 19 11,
 oN (.bin 20 .add 19 (.c (I 1))),
 oM 21 2,
 oN (.bin 22 .lss 20 21),
 oM 23 22,
  ⟨.mv 24 4, some (23, true)⟩,
  ⟨.mv 25 0, some (23, true)⟩,
  ⟨.mv 26 3, some (23, true)⟩,
  ⟨.mv 27 11, some (23, true)⟩,
  ⟨.bin 28 .add 26 27, some (23, true)⟩,
  ⟨.iaddr 29 1 none 25 28, some (23, true)⟩,
  ⟨.load 30 false 1 29, some (23, true)⟩,
  ⟨.mv 31 0, some (23, true)⟩,
  ⟨.mv 32 3, some (23, true)⟩,
  ⟨.mv 33 11, some (23, true)⟩,
  ⟨.bin 34 .add 32 33, some (23, true)⟩,
  ⟨.bin 35 .add 34 (.c (I 1)), some (23, true)⟩,
  ⟨.iaddr 36 1 none 31 35, some (23, true)⟩,
  ⟨.load 37 false 1 36, some (23, true)⟩,
  ⟨.callv (some 38) true 24 [30, 37], some (23, true)⟩,
  ⟨.bin 39 .lss 38 (.c (I 0)), some (23, true)⟩,
 oN (.pick 40 23 39 (.c (.bool false)))] true) [0, 2, 3, 4, 10, 11, 40] 0)
 (.cond 40 (.post (.post (.region [
 oM 41 11,
 oN (.bin 42 .add 41 (.c (I 1))),
 oM 11 42] false) [0, 2, 3, 4, 10, 11] 0) [0, 2, 3, 4, 10, 11] 0)
 (.post .skip [0, 2, 3, 4, 10, 11] 0)))
 (.cut qi8))))) [0, 2, 3, 4, 10] 0)
def qia : ICode :=
 (.post (.block 0 (.loop qi9)) [] 0)
def qib : ICode :=
 (.seq (.post (.region [
 oM 12 1,
 oM 10 12] false) [0, 2, 3, 4, 10] 0)
 (.cut qia))
def qic : IFunc := { np := 5, res := [], own := false, trunc := true, body := qib }
/- 204: slices.medianAdjacentCmpFunc[int] -/
def qid : ICode :=
 (.seq (.post (.region [
 oN (.mv 8 (.c (I 0)))] false) [0, 1, 2, 3] 0)
 (.seq (.post (.region [
 oM 9 0,
 oM 10 1,
 oN (.bin 11 .sub 10 (.c (I 1))),
 oM 12 1,
 oM 13 1,
 oN (.bin 14 .add 13 (.c (I 1))),
 oM 15 2,
 oM 16 3,
 oN (.call (some 17) true 205 [9, 11, 12, 14, 15, 16]),
 oM 8 17] false) [8] 0)
 .ret))
def qie : IFunc := { np := 4, res := [.t 8], own := false, trunc := true, body := qid }
/- 205: slices.medianCmpFunc[int] -/
def qif : ICode :=
 (.seq (.post (.region [
 oN (.mv 12 (.c (I 0)))] false) [0, 1, 2, 3, 4, 5] 0)
 (.seq (.post (.region [
 oM 14 0,
 oM 15 1,
 oM 16 2,
 oM 17 4,
 oM 18 5,
 oN (.call (some 19) true 206 [14, 15, 16, 17, 18]),
 oM 13 19,
 oN (.extract 20 13 0),
 oN (.extract 21 13 1),
 oM 1 20,
 oM 2 21] false) [0, 1, 2, 3, 4, 5] 0)
 (.seq (.post (.region [
 oM 23 0,
 oM 24 2,
 oM 25 3,
 oM 26 4,
 oM 27 5,
 oN (.call (some 28) true 206 [23, 24, 25, 26, 27]),
 oM 22 28,
 oN (.extract 29 22 0),
 oN (.extract 30 22 1),
 oM 2 29,
 oM 3 30] false) [0, 1, 2, 4, 5] 0)
 (.seq (.post (.region [
 oM 32 0,
 oM 33 1,
 oM 34 2,
 oM 35 4,
 oM 36 5,
 oN (.call (some 37) true 206 [32, 33, 34, 35, 36]),
 oM 31 37,
 oN (.extract 38 31 0),
 oN (.extract 39 31 1),
 oM 1 38,
 oM 2 39] false) [2] 0)
 (.seq (.post (.region [
 oM 40 2,
 oM 12 40] false) [12] 0)
 .ret)))))
def qig : IFunc := { np := 6, res := [.t 12], own := false, trunc := true, body := qif }
/- 206: slices.order2CmpFunc[int] -/
def qih : ICode :=
 (.seq (.post (.region [
 oN (.mv 10 (.c (I 0))),
 oN (.mv 11 (.c (I 0)))] false) [0, 1, 2, 3, 4] 0)
 (.seq (.seq (.post (.region [
 oM 12 4,
 oM 13 0,
 oM 14 2,
 oA 15 13 14,
 oL 16 15,
 oM 17 0,
 oM 18 1,
 oA 19 17 18,
 oL 20 19,
 oN (.callv (some 21) true 12 [16, 20]),
 oN (.bin 22 .lss 21 (.c (I 0)))] true) [1, 2, 3, 22] 0)
 (.cond 22 (.seq (.post (.region [
 oM 23 3,
 oC 24 23,
 oL 25 24,
 oN (.bin 26 .add 25 (.c (I 1))),
 oC 27 23,
 oN (.store false 1 27 26)] false) [1, 2] 0)
 (.seq (.post (.region [
 oM 28 2,
 oM 29 1,
 oM 10 28,
 oM 11 29] false) [10, 11] 0)
 .ret))
 .skip))
 (.seq (.post (.region [
 oM 30 1,
 oM 31 2,
 oM 10 30,
 oM 11 31] false) [10, 11] 0)
 .ret)))
def qii : IFunc := { np := 5, res := [.t 10, .t 11], own := false, trunc := true, body := qih }
/- 208: slices.IndexFunc[[]int,int]#K -/
def q7w : ICode :=
 (.post (.seq (.region [
 oN (.bin 9 .lss 8 7)] false)
 (.seq (.cond 9 .skip
 (.exit 0))
 (.seq (.block 1 (.seq (.post (.region [
 oM 10 8,
 oM 5 10] false) [0, 1, 5, 7, 8] 0)
 (.seq (.post (.region [
 oM 11 1,
 oM 12 0,
 oM 13 5,
 oA 14 12 13,
 oN (.loadK 15 14),
 oN (.callv (some 16) true 11 [15])] false) [0, 1, 5, 7, 8, 16] 0)
 (.cond 16 (.seq (.post (.region [
 oM 17 5,
 oM 4 17] false) [4] 0)
 .ret)
 .skip))))
 (.post (.region [
 oN (.bin 18 .add 8 (.c (I 1))),
 oM 8 18] false) [0, 1, 7, 8] 0)))) [0, 1, 7, 8] 0)
def q27 : ICode :=
 (.post (.block 0 (.loop q7w)) [] 0)
def q3x : ICode :=
 (.seq (.region [
 oN (.mv 4 (.c (I (-1))))] false)
 .ret)
def q7x : ICode :=
 (.seq (.post (.region [
 oN (.mv 4 (.c (I 0)))] false) [0, 1] 0)
 (.seq (.seq (.post (.region [
 oM 6 0,
 oN (.len 7 0 6),
 oN (.mv 8 (.c (I 0)))] false) [0, 1, 7, 8] 0)
 (.cut q27))
 (.cut q3x)))
def qn : IFunc := { np := 2, res := [.t 4], own := false, trunc := true, body := q7x }
/- 209: slices.Index[[]int,int]#K -/
def qij : ICode :=
 (.post (.seq (.region [
 oN (.bin 9 .lss 8 7)] false)
 (.seq (.cond 9 .skip
 (.exit 0))
 (.seq (.block 1 (.seq (.post (.region [
 oM 10 8,
 oM 5 10] false) [0, 1, 5, 7, 8] 0)
 (.seq (.post (.region [
 oM 11 1,
 oM 12 0,
 oM 13 5,
 oA 14 12 13,
 oN (.loadK 15 14),
 oN (.bin 16 .eql 11 15)] false) [0, 1, 5, 7, 8, 16] 0)
 (.cond 16 (.seq (.post (.region [
 oM 17 5,
 oM 4 17] false) [4] 0)
 .ret)
 .skip))))
 (.post (.region [
 oN (.bin 18 .add 8 (.c (I 1))),
 oM 8 18] false) [0, 1, 7, 8] 0)))) [0, 1, 7, 8] 0)
def qik : ICode :=
 (.post (.block 0 (.loop qij)) [] 0)
def qil : ICode :=
 (.seq (.region [
 oN (.mv 4 (.c (I (-1))))] false)
 .ret)
def qim : ICode :=
 (.seq (.post (.region [
 oN (.mv 4 (.c (I 0)))] false) [0, 1] 0)
 (.seq (.seq (.post (.region [
 oM 6 0,
 oN (.len 7 0 6),
 oN (.mv 8 (.c (I 0)))] false) [0, 1, 7, 8] 0)
 (.cut qik))
 (.cut qil)))
def qin : IFunc := { np := 2, res := [.t 4], own := false, trunc := true, body := qim }
/- 216: slices.DeleteFunc[[]int,int] -/
/- 261: internal/stringslite.Cut -/
/- 270: internal/strconv.Itoa -/
/- 282: internal/stringslite.IndexByte -/
/- 283: strings.explode -/
/- 284: strings.Count -/
/- 285: strings.Index -/
/- 289: strconv.baseError -/
/- 290: strconv.bitSizeError -/
/- 294: internal/strconv.small -/
/- 296: internal/strconv.formatBase10 -/
/- 300: internal/bytealg.Cutover -/
/- 301: internal/bytealg.IndexRabinKarp[string] -/
/- 302: internal/bytealg.hashStr[string] -/
/- 304: unicode/utf8.DecodeRuneInString -/
/- 309: internal/strconv.log10Pow2 -/
/- 310: internal/strconv.isPowerOfTwo -/
/- 311: math/bits.TrailingZeros -/
/- 313: internal/strconv.lower -/
/- 314: internal/strconv.underscoreOK -/
/- 315: internal/strconv.bool2[int] -/
/- 343: slices.DeleteFunc[[]int,int]#K -/
def q1a : ICode :=
 (.post (.region [
 oM 20 6,
 oN (.bin 21 .add 20 (.c (I 1))),
 oM 6 21] false) [0, 1, 5, 6] 0)
def q7y : ICode :=
 (.post (.seq (.seq (.post (.region [
 oM 16 6,
 oM 17 0,
 oN (.len 18 0 17),
 oN (.bin 19 .lss 16 18)] false) [0, 1, 5, 6, 19] 0)
 (.cond 19 .skip
 (.exit 0)))
 (.seq (.block 1 (.seq (.post (.region [
 oM 22 0,
 oM 23 6,
 oA 24 22 23,
 oN (.loadK 25 24),
 oM 7 25] false) [0, 1, 5, 6, 7] 0)
 (.seq (.post (.region [
 oM 26 1,
 oM 27 7,
 oN (.callv (some 28) true 26 [27]),
 oN (.un 29 .not 28)] false) [0, 1, 5, 6, 7, 29] 0)
 (.cond 29 (.post (.seq (.post (.region [
 oM 30 0,
 oM 31 5,
 oM 32 7,
 oA 33 30 31,
 oN (.storeK 33 32)] false) [0, 1, 5, 6] 0)
 (.post (.region [
 oM 34 5,
 oN (.bin 35 .add 34 (.c (I 1))),
 oM 5 35] false) [0, 1, 5, 6] 0)) [0, 1, 5, 6] 0)
 (.post .skip [0, 1, 5, 6] 0)))))
 (.cut q1a))) [0, 1, 5, 6] 0)
def q3y : ICode :=
 (.post (.block 0 (.loop q7y)) [0, 5] 0)
def q28 : ICode :=
 (.seq (.post (.region [
 oM 36 0,
 oM 37 5,
 oN (.slice 38 1 36 (some 37) none),
 oN (.clearK 38)] false) [0, 5] 0)
 (.seq (.post (.region [
 oM 39 0,
 oM 40 5,
 oN (.slice 41 1 39 none (some 40)),
 oN (.tk 4 41)] false) [4] 0)
 .ret))
def q7z : ICode :=
 (.seq (.post (.region [
 oN (.mv 4 (.c (.sl true 1 [])))] false) [0, 1] 0)
 (.seq (.post (.region [
 oM 8 0,
 oM 9 1,
 oN (.call (some 10) false 208 [8, 9]),
 oM 5 10] false) [0, 1, 5] 0)
 (.seq (.seq (.post (.region [
 oM 11 5,
 oN (.bin 12 .eql 11 (.c (I (-1))))] false) [0, 1, 5, 12] 0)
 (.cond 12 (.seq (.post (.region [
 oM 13 0,
 oN (.tk 4 13)] false) [4] 0)
 .ret)
 .skip))
 (.seq (.seq (.post (.region [
 oM 14 5,
 oN (.bin 15 .add 14 (.c (I 1))),
 oM 6 15] false) [0, 1, 5, 6] 0)
 (.cut q3y))
 (.cut q28)))))
def qo : IFunc := { np := 2, res := [.t 4], own := false, trunc := false, body := q7z }
/- 344: slices.Concat[[]int,int]#K -/
def q80 : ICode :=
 (.post (.seq (.region [
 oN (.bin 12 .lss 11 10)] false)
 (.seq (.cond 12 .skip
 (.exit 0))
 (.seq (.block 1 (.seq (.post (.region [
 oA 13 9 11,
 oL 14 13,
 oN (.tk 5 14)] false) [0, 3, 5, 9, 10, 11] 0)
 (.seq (.post (.region [
 oM 15 3,
 oM 16 5,
 oN (.len 17 0 16),
 oN (.bin 18 .add 15 17),
 oM 3 18] false) [0, 3, 9, 10, 11] 0)
 (.seq (.post (.region [
 oM 19 3,
 oN (.bin 20 .lss 19 (.c (I 0)))] false) [0, 3, 9, 10, 11, 20] 0)
 (.cond 20 .bad
 .skip)))))
 (.post (.region [
 oN (.bin 22 .add 11 (.c (I 1))),
 oM 11 22] false) [0, 3, 9, 10, 11] 0)))) [0, 3, 9, 10, 11] 0)
def q3z : ICode :=
 (.post (.block 0 (.loop q80)) [0, 3] 0)
def q81 : ICode :=
 (.post (.seq (.region [
 oN (.bin 28 .lss 27 26)] false)
 (.seq (.cond 28 .skip
 (.exit 2))
 (.seq (.block 3 (.seq (.post (.region [
 oA 29 25 27,
 oL 30 29,
 oN (.tk 8 30)] false) [6, 8, 25, 26, 27] 0)
 (.post (.region [
 oN (.tk 31 6),
 oM 32 8,
 oN (.appendE 33 8 31 32),
 oN (.tk 6 33)] false) [6, 25, 26, 27] 0)))
 (.post (.region [
 oN (.bin 34 .add 27 (.c (I 1))),
 oM 27 34] false) [6, 25, 26, 27] 0)))) [6, 25, 26, 27] 0)
def q40 : ICode :=
 (.post (.block 2 (.loop q81)) [6] 0)
def q41 : ICode :=
 (.seq (.post (.region [
 oM 35 6,
 oN (.tk 2 35)] false) [2] 0)
 .ret)
def q42 : ICode :=
 (.seq (.post (.region [
 oM 23 3,
 oN (.call (some 24) true 119 [(.c .nils), 23]),
 oN (.tk 6 24)] false) [0, 6] 0)
 (.seq (.seq (.post (.region [
 oM 25 0,
 oN (.len 26 0 25),
 oN (.mv 27 (.c (I 0)))] false) [6, 25, 26, 27] 0)
 (.cut q40))
 (.cut q41)))
def q82 : ICode :=
 (.seq (.post (.region [
 oN (.mv 2 (.c (.sl true 1 [])))] false) [0] 0)
 (.seq (.region [
 oN (.mv 3 (.c (I 0)))] false)
 (.seq (.seq (.post (.region [
 oM 9 0,
 oN (.len 10 0 9),
 oN (.mv 11 (.c (I 0)))] false) [0, 3, 9, 10, 11] 0)
 (.cut q3z))
 (.cut q42))))
def q43 : IFunc := { np := 1, res := [.t 2], own := true, trunc := true, body := q82 }
/- 358: (*strings.Builder).WriteByte -/
/- 360: slices.Index[[]string,string] -/
end Go.Lw
end

/-! The code of package Model for the small machine. Written by program (gen.py). -/
section
set_option maxRecDepth 10000
namespace Go.Lw
open Go
/- 34: latchwork/model.Inputs -/
/- 35: latchwork/model.States -/
/- 38: latchwork/model.Check -/
def qio : ICode :=
 (.post (.seq (.region [
 oN (.bin 29 .lss 28 27)] false)
 (.seq (.cond 29 .skip
 (.exit 0))
 (.seq (.block 1 (.seq (.post (.region [
 oM 30 28,
 oM 3 30] false) [1, 3, 27, 28] 1)
 (.seq (.post (.region [
 oF 31 1 0,
 oL 32 31,
 oM 33 3,
 oN (.call (some 34) true 76 [32, 33]),
 oM 4 34] false) [1, 4, 27, 28] 1)
 (.seq (.post (.region [
 oM 35 4,
 oN (.bin 36 .neq 35 (.c (I 0)))] false) [1, 4, 27, 28, 36] 1)
 (.cond 36 (.seq (.post (.region [
 oM 37 4,
 oM 2 37] false) [2] 0)
 .ret)
 .skip)))))
 (.post (.region [
 oN (.bin 38 .add 28 (.c (I 1))),
 oM 28 38] false) [1, 27, 28] 1)))) [1, 27, 28] 1)
def qip : ICode :=
 (.post (.block 0 (.loop qio)) [1] 1)
def qiq : ICode :=
 (.seq (.seq (.post (.region [
 oN (.load 40 true 5 1),
 oN (.call (some 41) true 77 [40]),
 oM 39 41,
 oN (.extract 42 39 0),
 oN (.extract 43 39 1),
 oM 5 42,
 oM 6 43] false) [1, 5, 6] 1)
 (.seq (.post (.region [
 oM 44 5,
 oN (.bin 45 .gtr 44 (.c (I 6))),
 oM 46 45,
  ⟨.mv 47 6, some (46, false)⟩,
  ⟨.bin 48 .gtr 47 (.c (I 10)), some (46, false)⟩,
 oN (.pick 49 46 (.c (.bool true)) 48)] false) [1, 49] 1)
 (.cond 49 (.seq (.post (.region [
 oN (.mv 2 (.c (I 2)))] false) [2] 0)
 .ret)
 .skip)))
 (.seq (.post (.region [
 oN (.load 50 true 5 1),
 oN (.buildT 51 [.sl true 6 [], .sl true 2 [], .sl true 2 [], .sl true 1 [], .sl true 1 [], .sl true 1 []] [(0, 5, 50)]),
 oN (.box 52 true true 51),
 oM 7 52] false) [7] 0)
 (.seq (.post (.region [
 oM 53 7,
 oN (.call (some 54) false 78 [53])] false) [7] 0)
 (.seq (.seq (.post (.region [
 oM 55 7,
 oN (.call (some 56) true 79 [55]),
 oM 8 56] false) [7, 8] 0)
 (.seq (.post (.region [
 oM 57 8,
 oN (.bin 58 .neq 57 (.c (I 0)))] false) [7, 8, 58] 0)
 (.cond 58 (.seq (.post (.region [
 oM 59 8,
 oM 2 59] false) [2] 0)
 .ret)
 .skip)))
 (.seq (.post (.region [
 oM 60 7,
 oN (.call (some 61) true 80 [60]),
 oM 2 61] false) [2] 0)
 .ret)))))
def qir : ICode :=
 (.seq (.post (.region [
 oN (.box 1 false false 0),
 oN (.mv 2 (.c (I 0)))] false) [1] 1)
 (.seq (.seq (.post (.region [
 oF 9 1 0,
 oL 10 9,
 oN (.len 11 0 10),
 oN (.bin 12 .gtr 11 (.c (I 80))),
 oM 13 12,
  ⟨.faddr 14 1 3, some (13, false)⟩,
  ⟨.load 15 false 1 14, some (13, false)⟩,
  ⟨.len 16 0 15, some (13, false)⟩,
  ⟨.bin 17 .gtr 16 (.c (I 8)), some (13, false)⟩,
 oN (.pick 18 13 (.c (.bool true)) 17),
 oM 19 18,
  ⟨.faddr 20 1 4, some (19, false)⟩,
  ⟨.load 21 false 1 20, some (19, false)⟩,
  ⟨.len 22 0 21, some (19, false)⟩,
  ⟨.bin 23 .gtr 22 (.c (I 8)), some (19, false)⟩,
 oN (.pick 24 19 (.c (.bool true)) 23)] false) [1, 24] 1)
 (.cond 24 (.seq (.post (.region [
 oN (.mv 2 (.c (I 2)))] false) [2] 0)
 .ret)
 .skip))
 (.seq (.seq (.post (.region [
 oF 25 1 0,
 oL 26 25,
 oN (.len 27 0 26),
 oN (.mv 28 (.c (I 0)))] false) [1, 27, 28] 1)
 (.cut qip))
 (.cut qiq))))
def qis : IFunc := { np := 1, res := [.t 2], own := false, trunc := true, body := qir }
/- 42: latchwork/model.Cone -/
/- 71: latchwork/model.of -/
/- 76: latchwork/model.node -/
def qit : ICode :=
 (.cond 39 (.seq (.post (.region [
 oN (.mv 4 (.c (I 1)))] false) [4] 0)
 .ret)
 .skip)
def qiu : ICode :=
 (.seq (.post (.region [
 oN (.mv 4 (.c (I 0)))] false) [4] 0)
 .ret)
def qiv : ICode :=
 (.post (.seq (.region [
 oN (.bin 70 .lss 69 68)] false)
 (.seq (.cond 70 .skip
 (.exit 1))
 (.seq (.block 2 (.seq (.post (.region [
 oM 71 69,
 oA 72 67 69,
 oL 73 72,
 oM 6 71,
 oM 7 73] false) [0, 1, 5, 6, 7, 67, 68, 69] 1)
 (.seq (.post (.region [
 oM 74 6,
 oF 75 5 0,
 oL 76 75,
 oN (.call (some 77) true 63 [76]),
 oN (.bin 78 .lss 74 77),
 oM 79 78,
  ⟨.mv 80 7, some (79, true)⟩,
  ⟨.bin 81 .lss 80 (.c (I 0)), some (79, true)⟩,
  ⟨.mv 82 81, some (79, true)⟩,
  ⟨.mv 83 7, some (82, false)⟩,
  ⟨.mv 84 1, some (82, false)⟩,
  ⟨.bin 85 .geq 83 84, some (82, false)⟩,
  ⟨.pick 86 82 (.c (.bool true)) 85, some (79, true)⟩,
 oN (.pick 87 79 86 (.c (.bool false))),
 oM 88 87,
  ⟨.mv 89 6, some (88, false)⟩,
  ⟨.faddr 90 5 0, some (88, false)⟩,
  ⟨.load 91 false 1 90, some (88, false)⟩,
  ⟨.call (some 92) true 63 [91], some (88, false)⟩,
  ⟨.bin 93 .geq 89 92, some (88, false)⟩,
  ⟨.mv 94 93, some (88, false)⟩,
  ⟨.mv 95 7, some (94, true)⟩,
  ⟨.bin 96 .neq 95 (.c (I 0)), some (94, true)⟩,
  ⟨.pick 97 94 96 (.c (.bool false)), some (88, false)⟩,
 oN (.pick 98 88 (.c (.bool true)) 97)] false) [0, 1, 5, 67, 68, 69, 98] 1)
 (.cond 98 (.seq (.post (.region [
 oN (.mv 4 (.c (I 4)))] false) [4] 0)
 .ret)
 .skip))))
 (.post (.region [
 oN (.bin 99 .add 69 (.c (I 1))),
 oM 69 99] false) [0, 1, 5, 67, 68, 69] 1)))) [0, 1, 5, 67, 68, 69] 1)
def qiw : ICode :=
 (.post (.block 1 (.loop qiv)) [0, 5] 1)
def qix : ICode :=
 (.seq (.post (.region [
 oF 100 5 0,
 oL 101 100,
 oF 102 5 1,
 oL 103 102,
 oF 104 5 5,
 oL 105 104,
 oM 106 0,
 oN (.load 107 true 6 5),
 oN (.call (some 108) true 104 [106, 107]),
 oN (.call (some 109) true 22 [101, 103, 105, 108]),
 oM 4 109] true) [4] 0)
 .ret)
def qiy : ICode :=
 (.seq (.seq (.post (.region [
 oF 61 5 2,
 oL 62 61,
 oF 63 5 3,
 oL 64 63,
 oF 65 5 4,
 oL 66 65,
 oN (.buildSl 67 1 [62, 64, 66]),
 oN (.len 68 0 67),
 oN (.mv 69 (.c (I 0)))] false) [0, 1, 5, 67, 68, 69] 1)
 (.cut qiw))
 (.cut qix))
def qiz : ICode :=
 (.seq (.post (.region [
 oN (.mv 4 (.c (I 0)))] false) [0, 1] 0)
 (.seq (.post (.region [
 oM 8 0,
 oM 9 1,
 oN (.iaddr 10 6 none 8 9),
 oN (.load 11 true 6 10),
 oN (.alloc 5 false (.agg [I 0, I 0, I 0, I 0, I 0, I 0])),
 oN (.store false 6 5 11)] false) [0, 1, 5] 1)
 (.seq (.seq (.post (.region [
 oF 12 5 0,
 oL 13 12,
 oN (.bin 14 .lss 13 (.c (I 1))),
 oM 15 14,
  ⟨.faddr 16 5 0, some (15, false)⟩,
  ⟨.load 17 false 1 16, some (15, false)⟩,
  ⟨.bin 18 .geq 17 (.c (I 24)), some (15, false)⟩,
 oN (.pick 19 15 (.c (.bool true)) 18)] false) [0, 1, 5, 19] 1)
 (.cond 19 (.seq (.post (.region [
 oN (.mv 4 (.c (I 7)))] false) [4] 0)
 .ret)
 .skip))
 (.seq (.seq (.post (.region [
 oF 20 5 1,
 oL 21 20,
 oN (.call (some 22) true 62 [21]),
 oN (.un 23 .not 22)] false) [0, 1, 5, 23] 1)
 (.cond 23 (.seq (.post (.region [
 oN (.mv 4 (.c (I 3)))] false) [4] 0)
 .ret)
 .skip))
 (.seq (.seq (.post (.region [
 oF 24 5 0,
 oL 25 24,
 oN (.call (some 26) true 103 [25])] false) [0, 1, 5, 26] 1)
 (.cond 26 (.seq (.block 0 (.seq (.post (.region [
 oF 28 5 0,
 oL 29 28,
 oN (.bin 30 .eql 29 (.c (I 1))),
 oM 31 30,
  ⟨.faddr 32 5 5, some (31, true)⟩,
  ⟨.load 33 false 1 32, some (31, true)⟩,
  ⟨.faddr 34 5 1, some (31, true)⟩,
  ⟨.load 35 false 1 34, some (31, true)⟩,
  ⟨.call (some 36) true 65 [33, 35], some (31, true)⟩,
  ⟨.un 37 .not 36, some (31, true)⟩,
 oN (.pick 38 31 37 (.c (.bool false))),
 oM 27 38] false) [5, 27] 1)
 (.cond 27 (.seq (.post (.region [
 oN (.mv 4 (.c (I 3)))] false) [4] 0)
 .ret)
 (.seq (.seq (.post (.region [
 oF 40 5 0,
 oL 41 40,
 oN (.bin 42 .neq 41 (.c (I 1))),
 oM 43 42,
  ⟨.faddr 44 5 5, some (43, true)⟩,
  ⟨.load 45 false 1 44, some (43, true)⟩,
  ⟨.bin 46 .neq 45 (.c (I 0)), some (43, true)⟩,
 oN (.pick 47 43 46 (.c (.bool false))),
 oM 39 47] false) [5, 39] 1)
 (.cond 39 (.post .skip [39] 0)
 (.post (.post (.region [
 oF 48 5 2,
 oL 49 48,
 oN (.bin 50 .neq 49 (.c (I 0))),
 oM 51 50,
  ⟨.faddr 52 5 3, some (51, false)⟩,
  ⟨.load 53 false 1 52, some (51, false)⟩,
  ⟨.bin 54 .neq 53 (.c (I 0)), some (51, false)⟩,
 oN (.pick 55 51 (.c (.bool true)) 54),
 oM 56 55,
  ⟨.faddr 57 5 4, some (56, false)⟩,
  ⟨.load 58 false 1 57, some (56, false)⟩,
  ⟨.bin 59 .neq 58 (.c (I 0)), some (56, false)⟩,
 oN (.pick 60 56 (.c (.bool true)) 59),
 oM 39 60] false) [39] 0) [39] 0)))
 (.cut qit)))))
 (.cut qiu))
 .skip))
 (.cut qiy))))))
def qj0 : IFunc := { np := 2, res := [.t 4], own := false, trunc := true, body := qiz }
/- 77: latchwork/model.Bits -/
def qj1 : ICode :=
 (.seq (.post (.region [
 oN (.box 1 false false 0),
 oN (.mv 2 (.c (I 0))),
 oN (.mv 3 (.c (I 0)))] false) [1] 1)
 (.seq (.post (.region [
 oN (.load 4 true 5 1),
 oN (.load 5 true 5 1),
 oN (.call (some 6) true 101 [5, (.c (I 2))]),
 oN (.call (some 7) true 105 [4, 6]),
 oN (.load 8 true 5 1),
 oN (.load 9 true 5 1),
 oN (.call (some 10) true 101 [9, (.c (I 3))]),
 oN (.call (some 11) true 105 [8, 10]),
 oM 2 7,
 oM 3 11] true) [2, 3] 0)
 .ret))
def qj2 : IFunc := { np := 1, res := [.t 2, .t 3], own := false, trunc := true, body := qj1 }
/- 78: (*latchwork/model.checker).lean -/
def qj3 : ICode :=
 (.post (.seq (.region [
 oN (.bin 29 .lss 28 27)] false)
 (.seq (.cond 29 .skip
 (.exit 2))
 (.seq (.block 3 (.seq (.post (.region [
 oA 30 26 28,
 oL 31 30,
 oM 6 31] false) [0, 4, 6, 11, 12, 13, 26, 27, 28] 0)
 (.post (.region [
 oM 32 4,
 oM 33 32,
  ⟨.mv 34 0, some (33, false)⟩,
  ⟨.nilc 35 34, some (33, false)⟩,
  ⟨.faddr 36 35 5, some (33, false)⟩,
  ⟨.load 37 false 1 36, some (33, false)⟩,
  ⟨.mv 38 6, some (33, false)⟩,
  ⟨.iaddr 39 1 none 37 38, some (33, false)⟩,
  ⟨.load 40 false 1 39, some (33, false)⟩,
 oN (.pick 41 33 (.c (.bool true)) 40),
 oM 4 41] false) [0, 4, 11, 12, 13, 26, 27, 28] 0)))
 (.post (.region [
 oN (.bin 42 .add 28 (.c (I 1))),
 oM 28 42] false) [0, 4, 11, 12, 13, 26, 27, 28] 0)))) [0, 4, 11, 12, 13, 26, 27, 28] 0)
def qj4 : ICode :=
 (.post (.block 2 (.loop qj3)) [0, 4, 11, 12, 13] 0)
def qj5 : ICode :=
 (.post (.region [
 oM 43 0,
 oM 44 0,
 oC 45 44,
 oF 46 45 5,
 oN (.loadT 47 46),
 oM 48 4,
 oN (.buildSl 49 1 [48]),
 oN (.append 50 1 1 47 49),
 oC 51 43,
 oF 52 51 5,
 oN (.store true 1 52 50)] false) [0, 11, 12, 13] 0)
def qj6 : ICode :=
 (.post (.region [
 oN (.bin 53 .add 13 (.c (I 1))),
 oM 13 53] false) [0, 11, 12, 13] 0)
def qj7 : ICode :=
 (.post (.seq (.region [
 oN (.bin 14 .lss 13 12)] false)
 (.seq (.cond 14 .skip
 (.exit 0))
 (.seq (.block 1 (.seq (.post (.region [
 oN (.iaddr 15 6 none 11 13),
 oN (.load 16 true 6 15),
 oN (.alloc 3 false (.agg [I 0, I 0, I 0, I 0, I 0, I 0])),
 oN (.store false 6 3 16)] false) [0, 3, 11, 12, 13] 1)
 (.seq (.post (.region [
 oF 17 3 0,
 oL 18 17,
 oN (.bin 19 .eql 18 (.c (I 2))),
 oM 20 19,
  ⟨.faddr 21 3 0, some (20, false)⟩,
  ⟨.load 22 false 1 21, some (20, false)⟩,
  ⟨.bin 23 .eql 22 (.c (I 3)), some (20, false)⟩,
 oN (.pick 24 20 (.c (.bool true)) 23),
 oM 4 24] false) [0, 3, 4, 11, 12, 13] 1)
 (.seq (.seq (.post (.region [
 oN (.load 25 true 6 3),
 oN (.call (some 26) true 81 [25]),
 oN (.len 27 0 26),
 oN (.mv 28 (.c (I 0)))] false) [0, 4, 11, 12, 13, 26, 27, 28] 0)
 (.cut qj4))
 (.cut qj5)))))
 (.cut qj6)))) [0, 11, 12, 13] 0)
def qj8 : ICode :=
 (.post (.block 0 (.loop qj7)) [] 0)
def qj9 : ICode :=
 (.seq (.post (.region [
 oM 7 0,
 oC 8 7,
 oF 9 8 0,
 oF 10 9 0,
 oL 11 10,
 oN (.len 12 0 11),
 oN (.mv 13 (.c (I 0)))] false) [0, 11, 12, 13] 0)
 (.cut qj8))
def qja : IFunc := { np := 1, res := [], own := false, trunc := false, body := qj9 }
/- 79: (*latchwork/model.checker).pairs -/
def qjb : ICode :=
 (.post (.seq (.region [
 oN (.bin 33 .lss 32 31)] false)
 (.seq (.cond 33 .skip
 (.exit 2))
 (.seq (.block 3 (.seq (.post (.region [
 oN (.iaddr 34 2 none 30 32),
 oN (.load 35 true 2 34),
 oN (.alloc 6 false (.agg [I 0, I 0])),
 oN (.store false 2 6 35)] false) [0, 3, 6, 23, 24, 25, 30, 31, 32] 1)
 (.seq (.post (.region [
 oM 36 0,
 oN (.load 37 true 2 6),
 oM 38 3,
 oN (.bin 39 .eql 38 (.c (I 0))),
 oN (.call (some 40) true 106 [36, 37, 39]),
 oM 7 40] false) [0, 3, 7, 23, 24, 25, 30, 31, 32] 0)
 (.seq (.post (.region [
 oM 41 7,
 oN (.bin 42 .neq 41 (.c (I 0)))] false) [0, 3, 7, 23, 24, 25, 30, 31, 32, 42] 0)
 (.cond 42 (.seq (.post (.region [
 oM 43 7,
 oM 2 43] false) [2] 0)
 .ret)
 .skip)))))
 (.post (.region [
 oN (.bin 44 .add 32 (.c (I 1))),
 oM 32 44] false) [0, 3, 23, 24, 25, 30, 31, 32] 0)))) [0, 3, 23, 24, 25, 30, 31, 32] 0)
def qjc : ICode :=
 (.post (.block 2 (.loop qjb)) [0, 23, 24, 25] 0)
def qjd : ICode :=
 (.post (.region [
 oN (.bin 45 .add 25 (.c (I 1))),
 oM 25 45] false) [0, 23, 24, 25] 0)
def qje : ICode :=
 (.post (.seq (.region [
 oN (.bin 26 .lss 25 24)] false)
 (.seq (.cond 26 .skip
 (.exit 0))
 (.seq (.block 1 (.seq (.post (.region [
 oM 27 25,
 oA 28 23 25,
 oL 29 28,
 oM 3 27,
 oN (.tk 4 29)] false) [0, 3, 4, 23, 24, 25] 0)
 (.seq (.post (.region [
 oM 30 4,
 oN (.len 31 0 30),
 oN (.mv 32 (.c (I 0)))] false) [0, 3, 23, 24, 25, 30, 31, 32] 0)
 (.cut qjc))))
 (.cut qjd)))) [0, 23, 24, 25] 0)
def qjf : ICode :=
 (.post (.block 0 (.loop qje)) [0] 0)
def qjg : ICode :=
 (.post (.seq (.region [
 oN (.bin 66 .lss 65 64)] false)
 (.seq (.cond 66 .skip
 (.exit 6))
 (.seq (.block 7 (.seq (.post (.region [
 oN (.iaddr 67 2 none 63 65),
 oN (.load 68 true 2 67),
 oN (.alloc 12 false (.agg [I 0, I 0])),
 oN (.store false 2 12 68)] false) [9, 10, 12, 56, 57, 58, 63, 64, 65] 1)
 (.post (.region [
 oM 69 10,
 oF 70 12 0,
 oL 71 70,
 oN (.mupd 0 69 71 (.c (.bool true)))] false) [9, 10, 56, 57, 58, 63, 64, 65] 0)))
 (.post (.region [
 oN (.bin 72 .add 65 (.c (I 1))),
 oM 65 72] false) [9, 10, 56, 57, 58, 63, 64, 65] 0)))) [9, 10, 56, 57, 58, 63, 64, 65] 0)
def qjh : ICode :=
 (.post (.block 6 (.loop qjg)) [9, 10, 56, 57, 58] 0)
def qji : ICode :=
 (.seq (.post (.region [
 oM 73 10,
 oN (.len 74 2 73),
 oM 75 9,
 oN (.len 76 0 75),
 oN (.bin 77 .lss 74 76)] false) [56, 57, 58, 77] 0)
 (.cond 77 (.seq (.post (.region [
 oN (.mv 2 (.c (I 6)))] false) [2] 0)
 .ret)
 .skip))
def qjj : ICode :=
 (.post (.region [
 oN (.bin 78 .add 58 (.c (I 1))),
 oM 58 78] false) [56, 57, 58] 0)
def qjk : ICode :=
 (.post (.seq (.region [
 oN (.bin 59 .lss 58 57)] false)
 (.seq (.cond 59 .skip
 (.exit 4))
 (.seq (.block 5 (.seq (.post (.region [
 oA 60 56 58,
 oL 61 60,
 oN (.tk 9 61)] false) [9, 56, 57, 58] 0)
 (.seq (.post (.region [
 oN (.mkmap 62),
 oM 10 62] false) [9, 10, 56, 57, 58] 0)
 (.seq (.seq (.post (.region [
 oM 63 9,
 oN (.len 64 0 63),
 oN (.mv 65 (.c (I 0)))] false) [9, 10, 56, 57, 58, 63, 64, 65] 0)
 (.cut qjh))
 (.cut qji)))))
 (.cut qjj)))) [56, 57, 58] 0)
def qjl : ICode :=
 (.post (.block 4 (.loop qjk)) [] 0)
def qjm : ICode :=
 (.seq (.region [
 oN (.mv 2 (.c (I 0)))] false)
 .ret)
def qjn : ICode :=
 (.seq (.seq (.post (.region [
 oM 46 0,
 oC 47 46,
 oF 48 47 0,
 oF 49 48 1,
 oL 50 49,
 oM 51 0,
 oC 52 51,
 oF 53 52 0,
 oF 54 53 2,
 oL 55 54,
 oN (.buildSl 56 1 [50, 55]),
 oN (.len 57 0 56),
 oN (.mv 58 (.c (I 0)))] true) [56, 57, 58] 0)
 (.cut qjl))
 (.cut qjm))
def qjo : ICode :=
 (.seq (.post (.region [
 oN (.mv 2 (.c (I 0)))] false) [0] 0)
 (.seq (.seq (.post (.region [
 oM 13 0,
 oC 14 13,
 oF 15 14 0,
 oF 16 15 1,
 oL 17 16,
 oM 18 0,
 oC 19 18,
 oF 20 19 0,
 oF 21 20 2,
 oL 22 21,
 oN (.buildSl 23 1 [17, 22]),
 oN (.len 24 0 23),
 oN (.mv 25 (.c (I 0)))] true) [0, 23, 24, 25] 0)
 (.cut qjf))
 (.cut qjn)))
def qjp : IFunc := { np := 1, res := [.t 2], own := false, trunc := true, body := qjo }
/- 80: (*latchwork/model.checker).marks -/
def qjq : ICode :=
 (.seq (.post (.region [
 oN (.box 1 true false 0),
 oN (.mv 2 (.c (I 0)))] false) [1] 0)
 (.seq (.seq (.post (.region [
 oL 4 1,
 oC 5 4,
 oF 6 5 0,
 oF 7 6 2,
 oL 8 7,
 oN (.len 9 0 8),
 oL 10 1,
 oC 11 10,
 oF 12 11 0,
 oN (.load 13 true 5 12),
 oN (.call (some 14) true 101 [13, (.c (I 3))]),
 oN (.len 15 0 14),
 oN (.bin 16 .lss 9 15)] true) [1, 16] 0)
 (.cond 16 (.seq (.post (.region [
 oN (.mv 2 (.c (I 5)))] false) [2] 0)
 .ret)
 .skip))
 (.seq (.post (.region [
 oL 17 1,
 oC 18 17,
 oF 19 18 0,
 oF 20 19 3,
 oL 21 20,
 oL 22 1,
 oC 23 22,
 oF 24 23 0,
 oF 25 24 4,
 oL 26 25,
 oN (.buildSl 27 1 [21, 26]),
 oN (.call (some 28) true 107 [27]),
 oN (.tk 3 28)] true) [1, 3] 0)
 (.seq (.seq (.post (.region [
 oM 29 3,
 oN (.mkfn 30 108 [1]),
 oN (.call (some 31) true 86 [29, 30])] false) [1, 3, 31] 0)
 (.cond 31 (.seq (.post (.region [
 oN (.mv 2 (.c (I 5)))] false) [2] 0)
 .ret)
 .skip))
 (.seq (.seq (.post (.region [
 oM 32 3,
 oN (.mkfn 33 109 [1]),
 oN (.call (some 34) true 86 [32, 33])] false) [34] 0)
 (.cond 34 (.seq (.post (.region [
 oN (.mv 2 (.c (I 1)))] false) [2] 0)
 .ret)
 .skip))
 (.seq (.post (.region [
 oN (.mv 2 (.c (I 0)))] false) [2] 0)
 .ret))))))
def qjr : IFunc := { np := 1, res := [.t 2], own := false, trunc := true, body := qjq }
/- 81: latchwork/model.Args -/
def qjs : ICode :=
 (.seq (.post (.region [
 oN (.box 1 false false 0),
 oN (.mv 2 (.c (.sl true 1 [])))] false) [1] 1)
 (.seq (.post (.region [
 oF 3 1 2,
 oL 4 3,
 oF 5 1 3,
 oL 6 5,
 oF 7 1 4,
 oL 8 7,
 oN (.buildSl 9 1 [4, 6, 8]),
 oF 10 1 0,
 oL 11 10,
 oN (.call (some 12) true 63 [11]),
 oN (.slice 13 1 9 none (some 12)),
 oN (.tk 2 13)] true) [2] 0)
 .ret))
def qjt : IFunc := { np := 1, res := [.t 2], own := true, trunc := true, body := qjs }
/- 101: latchwork/model.Of -/
def qju : ICode :=
 (.post (.region [
 oN (.bin 24 .add 11 (.c (I 1))),
 oM 11 24] false) [1, 5, 9, 10, 11] 0)
def qjv : ICode :=
 (.post (.seq (.region [
 oN (.bin 12 .lss 11 10)] false)
 (.seq (.cond 12 .skip
 (.exit 0))
 (.seq (.block 1 (.seq (.post (.region [
 oM 13 11,
 oN (.iaddr 14 6 none 9 11),
 oN (.load 15 true 6 14),
 oN (.alloc 7 false (.agg [I 0, I 0, I 0, I 0, I 0, I 0])),
 oM 6 13,
 oN (.store false 6 7 15)] false) [1, 5, 6, 7, 9, 10, 11] 1)
 (.seq (.post (.region [
 oF 16 7 0,
 oL 17 16,
 oM 18 1,
 oN (.bin 19 .eql 17 18)] false) [1, 5, 6, 9, 10, 11, 19] 0)
 (.cond 19 (.post (.post (.region [
 oN (.tk 20 5),
 oM 21 6,
 oN (.buildSl 22 1 [21]),
 oN (.append 23 1 8 20 22),
 oN (.tk 5 23)] false) [1, 5, 9, 10, 11] 0) [1, 5, 9, 10, 11] 0)
 (.post .skip [1, 5, 9, 10, 11] 0)))))
 (.cut qju)))) [1, 5, 9, 10, 11] 0)
def qjw : ICode :=
 (.post (.block 0 (.loop qjv)) [5] 0)
def qjx : ICode :=
 (.seq (.post (.region [
 oM 25 5,
 oN (.tk 4 25)] false) [4] 0)
 .ret)
def qjy : ICode :=
 (.seq (.post (.region [
 oN (.box 2 false false 0),
 oN (.mv 4 (.c (.sl true 1 [])))] false) [1, 2] 1)
 (.seq (.region [
 oN (.mv 5 (.c (.sl true 1 [])))] false)
 (.seq (.seq (.post (.region [
 oF 8 2 0,
 oL 9 8,
 oN (.len 10 0 9),
 oN (.mv 11 (.c (I 0)))] false) [1, 5, 9, 10, 11] 0)
 (.cut qjw))
 (.cut qjx))))
def qjz : IFunc := { np := 2, res := [.t 4], own := false, trunc := true, body := qjy }
/- 103: latchwork/model.leaf -/
def qk0 : ICode :=
 (.seq (.post (.region [
 oN (.mv 2 (.c (.bool false)))] false) [0] 0)
 (.seq (.post (.region [
 oM 3 0,
 oN (.bin 4 .geq 3 (.c (I 1))),
 oM 5 4,
  ⟨.mv 6 0, some (5, true)⟩,
  ⟨.bin 7 .leq 6 (.c (I 3)), some (5, true)⟩,
 oN (.pick 8 5 7 (.c (.bool false))),
 oM 2 8] false) [2] 0)
 .ret))
def qk1 : IFunc := { np := 1, res := [.t 2], own := false, trunc := true, body := qk0 }
/- 104: latchwork/model.Widths -/
def qk2 : ICode :=
 (.post (.seq (.region [
 oN (.bin 12 .lss 11 10)] false)
 (.seq (.cond 12 .skip
 (.exit 0))
 (.seq (.block 1 (.seq (.post (.region [
 oM 13 11,
 oA 14 9 11,
 oL 15 14,
 oM 6 13,
 oM 7 15] false) [0, 4, 5, 6, 7, 9, 10, 11] 3)
 (.post (.region [
 oM 16 6,
 oM 17 0,
 oM 18 7,
 oN (.iaddr 19 6 none 17 18),
 oF 20 19 1,
 oL 21 20,
 oN (.iaddr 22 1 (some 3) 5 16),
 oN (.store false 1 22 21)] false) [0, 4, 5, 9, 10, 11] 3)))
 (.post (.region [
 oN (.bin 23 .add 11 (.c (I 1))),
 oM 11 23] false) [0, 4, 5, 9, 10, 11] 3)))) [0, 4, 5, 9, 10, 11] 3)
def qk3 : ICode :=
 (.post (.block 0 (.loop qk2)) [4, 5] 3)
def qk4 : ICode :=
 (.seq (.post (.region [
 oN (.load 24 true 3 5),
 oN (.store false 3 4 24)] false) [4] 2)
 .ret)
def qk5 : ICode :=
 (.seq (.post (.region [
 oN (.box 3 false false 1),
 oN (.alloc 4 false (.agg [I 0, I 0, I 0]))] false) [0, 3, 4] 2)
 (.seq (.region [
 oN (.alloc 5 false (.agg [I 0, I 0, I 0]))] false)
 (.seq (.seq (.post (.region [
 oN (.load 8 true 6 3),
 oN (.call (some 9) true 81 [8]),
 oN (.len 10 0 9),
 oN (.mv 11 (.c (I 0)))] false) [0, 4, 5, 9, 10, 11] 3)
 (.cut qk3))
 (.cut qk4))))
def qk6 : IFunc := { np := 2, res := [.cell 4 true 3], own := false, trunc := true, body := qk5 }
/- 105: latchwork/model.bits -/
def qk7 : ICode :=
 (.post (.seq (.region [
 oN (.bin 11 .lss 10 9)] false)
 (.seq (.cond 11 .skip
 (.exit 0))
 (.seq (.block 1 (.seq (.post (.region [
 oA 12 8 10,
 oL 13 12,
 oM 7 13] false) [2, 5, 7, 8, 9, 10] 1)
 (.post (.region [
 oM 14 5,
 oF 15 2 0,
 oL 16 15,
 oM 17 7,
 oN (.iaddr 18 6 none 16 17),
 oF 19 18 1,
 oL 20 19,
 oN (.bin 21 .add 14 20),
 oM 5 21] false) [2, 5, 8, 9, 10] 1)))
 (.post (.region [
 oN (.bin 22 .add 10 (.c (I 1))),
 oM 10 22] false) [2, 5, 8, 9, 10] 1)))) [2, 5, 8, 9, 10] 1)
def qk8 : ICode :=
 (.post (.block 0 (.loop qk7)) [5] 0)
def qk9 : ICode :=
 (.seq (.post (.region [
 oM 23 5,
 oM 4 23] false) [4] 0)
 .ret)
def qka : ICode :=
 (.seq (.post (.region [
 oN (.box 2 false false 0),
 oN (.mv 4 (.c (I 0)))] false) [1, 2] 1)
 (.seq (.region [
 oN (.mv 5 (.c (I 0)))] false)
 (.seq (.seq (.post (.region [
 oM 8 1,
 oN (.len 9 0 8),
 oN (.mv 10 (.c (I 0)))] false) [2, 5, 8, 9, 10] 1)
 (.cut qk8))
 (.cut qk9))))
def qkb : IFunc := { np := 2, res := [.t 4], own := false, trunc := true, body := qka }
/- 106: (*latchwork/model.checker).pair -/
def qkc : ICode :=
 (.seq (.post (.region [
 oN (.box 4 false false 1),
 oN (.mv 6 (.c (I 0)))] false) [0, 2, 4] 1)
 (.seq (.block 0 (.seq (.post (.region [
 oM 8 0,
 oF 9 4 0,
 oL 10 9,
 oN (.call (some 11) true 118 [8, 10]),
 oN (.un 12 .not 11),
 oM 13 12,
  ⟨.mv 14 0, some (13, false)⟩,
  ⟨.faddr 15 4 1, some (13, false)⟩,
  ⟨.load 16 false 1 15, some (13, false)⟩,
  ⟨.call (some 17) true 118 [14, 16], some (13, false)⟩,
  ⟨.un 18 .not 17, some (13, false)⟩,
 oN (.pick 19 13 (.c (.bool true)) 18),
 oM 20 19,
  ⟨.mv 21 0, some (20, false)⟩,
  ⟨.nilc 22 21, some (20, false)⟩,
  ⟨.faddr 23 22 0, some (20, false)⟩,
  ⟨.faddr 24 23 0, some (20, false)⟩,
  ⟨.load 25 false 1 24, some (20, false)⟩,
  ⟨.faddr 26 4 0, some (20, false)⟩,
  ⟨.load 27 false 1 26, some (20, false)⟩,
  ⟨.iaddr 28 6 none 25 27, some (20, false)⟩,
  ⟨.faddr 29 28 0, some (20, false)⟩,
  ⟨.load 30 false 1 29, some (20, false)⟩,
  ⟨.bin 31 .neq 30 (.c (I 3)), some (20, false)⟩,
 oN (.pick 32 20 (.c (.bool true)) 31),
 oM 7 32] true) [0, 2, 4, 7] 1)
 (.cond 7 (.seq (.post (.region [
 oN (.mv 6 (.c (I 5)))] false) [6] 0)
 .ret)
 (.seq (.post (.region [
 oM 34 0,
 oC 35 34,
 oF 36 35 0,
 oF 37 36 0,
 oL 38 37,
 oF 39 4 0,
 oL 40 39,
 oN (.iaddr 41 6 none 38 40),
 oF 42 41 1,
 oL 43 42,
 oM 44 0,
 oC 45 44,
 oF 46 45 0,
 oF 47 46 0,
 oL 48 47,
 oF 49 4 1,
 oL 50 49,
 oN (.iaddr 51 6 none 48 50),
 oF 52 51 1,
 oL 53 52,
 oN (.bin 54 .neq 43 53),
 oM 33 54] true) [0, 2, 4, 33] 1)
 (.cond 33 (.seq (.post (.region [
 oN (.mv 6 (.c (I 1)))] false) [6] 0)
 .ret)
 (.seq (.post (.region [
 oM 56 2,
 oM 57 56,
  ⟨.mv 58 0, some (57, true)⟩,
  ⟨.nilc 59 58, some (57, true)⟩,
  ⟨.faddr 60 59 5, some (57, true)⟩,
  ⟨.load 61 false 1 60, some (57, true)⟩,
  ⟨.faddr 62 4 1, some (57, true)⟩,
  ⟨.load 63 false 1 62, some (57, true)⟩,
  ⟨.iaddr 64 1 none 61 63, some (57, true)⟩,
  ⟨.load 65 false 1 64, some (57, true)⟩,
 oN (.pick 66 57 65 (.c (.bool false))),
 oM 55 66] true) [55] 0)
 (.cond 55 (.seq (.post (.region [
 oN (.mv 6 (.c (I 4)))] false) [6] 0)
 .ret)
 .skip)))))))
 (.seq (.post (.region [
 oN (.mv 6 (.c (I 0)))] false) [6] 0)
 .ret)))
def qkd : IFunc := { np := 3, res := [.t 6], own := false, trunc := true, body := qkc }
/- 108: (*latchwork/model.checker).marks$1 -/
def qke : ICode :=
 (.seq (.post (.region [
 oN (.mv 3 (.c (.bool false)))] false) [0, 1] 0)
 (.seq (.post (.region [
 oL 4 1,
 oM 5 0,
 oN (.call (some 6) true 118 [4, 5]),
 oN (.un 7 .not 6),
 oM 3 7] false) [3] 0)
 .ret))
def qkf : IFunc := { np := 2, res := [.t 3], own := false, trunc := true, body := qke }
/- 109: (*latchwork/model.checker).marks$2 -/
def qkg : ICode :=
 (.seq (.post (.region [
 oN (.mv 3 (.c (.bool false)))] false) [0, 1] 0)
 (.seq (.post (.region [
 oL 4 1,
 oC 5 4,
 oF 6 5 0,
 oF 7 6 0,
 oL 8 7,
 oM 9 0,
 oN (.iaddr 10 6 none 8 9),
 oF 11 10 1,
 oL 12 11,
 oN (.bin 13 .neq 12 (.c (I 1))),
 oM 3 13] false) [3] 0)
 .ret))
def qkh : IFunc := { np := 2, res := [.t 3], own := false, trunc := true, body := qkg }
/- 118: (*latchwork/model.checker).is -/
def qki : ICode :=
 (.seq (.post (.region [
 oN (.mv 4 (.c (.bool false)))] false) [0, 1] 0)
 (.seq (.post (.region [
 oM 5 1,
 oN (.bin 6 .geq 5 (.c (I 0))),
 oM 7 6,
  ⟨.mv 8 1, some (7, true)⟩,
  ⟨.mv 9 0, some (7, true)⟩,
  ⟨.nilc 10 9, some (7, true)⟩,
  ⟨.faddr 11 10 0, some (7, true)⟩,
  ⟨.faddr 12 11 0, some (7, true)⟩,
  ⟨.load 13 false 1 12, some (7, true)⟩,
  ⟨.len 14 0 13, some (7, true)⟩,
  ⟨.bin 15 .lss 8 14, some (7, true)⟩,
 oN (.pick 16 7 15 (.c (.bool false))),
 oM 4 16] false) [4] 0)
 .ret))
def qkj : IFunc := { np := 2, res := [.t 4], own := false, trunc := true, body := qki }
/- 120: latchwork/model.Args#K -/
end Go.Lw
end

/-! The code of package Ref for the small machine. Written by program (gen.py). -/
section
set_option maxRecDepth 10000
namespace Go.Lw
open Go
/- 2: latchwork/latchworkref.CheckGraph -/
def q83 : ICode :=
 (.post (.seq (.seq (.post (.region [
 oM 15 3,
 oF 16 1 1,
 oL 17 16,
 oN (.len 18 0 17),
 oN (.bin 19 .lss 15 18)] false) [1, 3, 19] 1)
 (.cond 19 .skip
 (.exit 0)))
 (.seq (.block 1 (.seq (.post (.region [
 oF 22 1 1,
 oL 23 22,
 oM 24 3,
 oN (.iaddr 25 2 none 23 24),
 oN (.iaddr 26 1 (some 2) 25 (.c (I 0))),
 oL 27 26,
 oF 28 1 1,
 oL 29 28,
 oM 30 3,
 oN (.iaddr 31 2 none 29 30),
 oN (.iaddr 32 1 (some 2) 31 (.c (I 1))),
 oL 33 32,
 oM 4 27,
 oM 5 33] true) [1, 3, 4, 5] 1)
 (.seq (.post (.region [
 oM 34 4,
 oM 35 5,
 oN (.bin 36 .geq 34 35),
 oM 37 36,
  ⟨.mv 38 4, some (37, false)⟩,
  ⟨.bin 39 .lss 38 (.c (I 2)), some (37, false)⟩,
 oN (.pick 40 37 (.c (.bool true)) 39),
 oM 41 40,
  ⟨.mv 42 5, some (41, false)⟩,
  ⟨.faddr 43 1 0, some (41, false)⟩,
  ⟨.load 44 false 1 43, some (41, false)⟩,
  ⟨.bin 45 .add (.c (I 1)) 44, some (41, false)⟩,
  ⟨.mv 46 3, some (41, false)⟩,
  ⟨.bin 47 .add 45 46, some (41, false)⟩,
  ⟨.bin 48 .mul (.c (I 2)) 47, some (41, false)⟩,
  ⟨.bin 49 .geq 42 48, some (41, false)⟩,
 oN (.pick 50 41 (.c (.bool true)) 49),
 oM 51 50,
  ⟨.mv 52 4, some (51, false)⟩,
  ⟨.bin 53 .quo 52 (.c (I 2)), some (51, false)⟩,
  ⟨.mv 54 5, some (51, false)⟩,
  ⟨.bin 55 .quo 54 (.c (I 2)), some (51, false)⟩,
  ⟨.bin 56 .eql 53 55, some (51, false)⟩,
 oN (.pick 57 51 (.c (.bool true)) 56)] false) [1, 3, 57] 1)
 (.cond 57 (.seq (.post (.region [
 oN (.mv 2 (.c (I 4)))] false) [2] 0)
 .ret)
 .skip))))
 (.post (.region [
 oM 20 3,
 oN (.bin 21 .add 20 (.c (I 1))),
 oM 3 21] false) [1, 3] 1))) [1, 3] 1)
def q44 : ICode :=
 (.post (.block 0 (.loop q83)) [1] 1)
def q84 : ICode :=
 (.post (.seq (.seq (.post (.region [
 oM 58 6,
 oF 59 1 1,
 oL 60 59,
 oN (.len 61 0 60),
 oN (.bin 62 .lss 58 61)] false) [1, 6, 62] 1)
 (.cond 62 .skip
 (.exit 2)))
 (.seq (.block 3 (.seq (.post (.region [
 oN (.load 65 true 2 1),
 oM 66 6,
 oF 67 1 1,
 oL 68 67,
 oM 69 6,
 oN (.iaddr 70 2 none 68 69),
 oN (.load 71 true 2 70),
 oN (.call (some 72) true 51 [65, 66, 71]),
 oN (.bin 73 .geq 72 (.c (I 0)))] true) [1, 6, 73] 1)
 (.cond 73 (.seq (.post (.region [
 oN (.mv 2 (.c (I 6)))] false) [2] 0)
 .ret)
 .skip)))
 (.post (.region [
 oM 63 6,
 oN (.bin 64 .add 63 (.c (I 1))),
 oM 6 64] false) [1, 6] 1))) [1, 6] 1)
def q45 : ICode :=
 (.post (.block 2 (.loop q84)) [] 0)
def q46 : ICode :=
 (.seq (.region [
 oN (.mv 2 (.c (I 0)))] false)
 .ret)
def q47 : ICode :=
 (.seq (.seq (.post (.region [
 oN (.mv 6 (.c (I 0)))] false) [1, 6] 1)
 (.cut q45))
 (.cut q46))
def q85 : ICode :=
 (.seq (.post (.region [
 oN (.box 1 false false 0),
 oN (.mv 2 (.c (I 0)))] false) [1] 1)
 (.seq (.seq (.post (.region [
 oF 7 1 0,
 oL 8 7,
 oN (.call (some 9) true 50 [8, (.c (I 0)), (.c (I 1000))]),
 oN (.un 10 .not 9)] false) [1, 10] 1)
 (.cond 10 (.seq (.post (.region [
 oN (.mv 2 (.c (I 3)))] false) [2] 0)
 .ret)
 .skip))
 (.seq (.seq (.post (.region [
 oF 11 1 1,
 oL 12 11,
 oN (.len 13 0 12),
 oN (.bin 14 .gtr 13 (.c (I 1000000)))] false) [1, 14] 1)
 (.cond 14 (.seq (.post (.region [
 oN (.mv 2 (.c (I 2)))] false) [2] 0)
 .ret)
 .skip))
 (.seq (.seq (.post (.region [
 oN (.mv 3 (.c (I 0)))] false) [1, 3] 1)
 (.cut q44))
 (.cut q47)))))
def qc : IFunc := { np := 1, res := [.t 2], own := false, trunc := true, body := q85 }
/- 3: latchwork/latchworkref.IsLit -/
def q86 : ICode :=
 (.seq (.post (.region [
 oN (.box 2 false false 0),
 oN (.mv 4 (.c (.bool false)))] false) [1, 2] 1)
 (.seq (.post (.region [
 oM 5 1,
 oF 6 2 0,
 oL 7 6,
 oN (.bin 8 .add (.c (I 1)) 7),
 oF 9 2 1,
 oL 10 9,
 oN (.len 11 0 10),
 oN (.bin 12 .add 8 11),
 oN (.bin 13 .mul (.c (I 2)) 12),
 oN (.bin 14 .sub 13 (.c (I 1))),
 oN (.call (some 15) true 50 [5, (.c (I 0)), 14]),
 oM 4 15] false) [4] 0)
 .ret))
def q48 : IFunc := { np := 2, res := [.t 4], own := false, trunc := true, body := q86 }
/- 4: latchwork/latchworkref.AndOf -/
/- 7: latchwork/latchworkref.SameGraph -/
/- 10: latchwork/latchworkref.AreLits -/
def q87 : ICode :=
 (.post (.seq (.seq (.post (.region [
 oM 6 5,
 oM 7 1,
 oN (.len 8 0 7),
 oN (.bin 9 .lss 6 8)] false) [1, 2, 5, 9] 1)
 (.cond 9 .skip
 (.exit 0)))
 (.seq (.block 1 (.seq (.post (.region [
 oN (.load 12 true 2 2),
 oM 13 1,
 oM 14 5,
 oA 15 13 14,
 oL 16 15,
 oN (.call (some 17) true 3 [12, 16]),
 oN (.un 18 .not 17)] true) [1, 2, 5, 18] 1)
 (.cond 18 (.seq (.post (.region [
 oN (.mv 4 (.c (.bool false)))] false) [4] 0)
 .ret)
 .skip)))
 (.post (.region [
 oM 10 5,
 oN (.bin 11 .add 10 (.c (I 1))),
 oM 5 11] false) [1, 2, 5] 1))) [1, 2, 5] 1)
def q49 : ICode :=
 (.post (.block 0 (.loop q87)) [] 0)
def q4a : ICode :=
 (.seq (.region [
 oN (.mv 4 (.c (.bool true)))] false)
 .ret)
def q88 : ICode :=
 (.seq (.post (.region [
 oN (.box 2 false false 0),
 oN (.mv 4 (.c (.bool false)))] false) [1, 2] 1)
 (.seq (.seq (.post (.region [
 oN (.mv 5 (.c (I 0)))] false) [1, 2, 5] 1)
 (.cut q49))
 (.cut q4a)))
def q1b : IFunc := { np := 2, res := [.t 4], own := false, trunc := true, body := q88 }
/- 11: latchwork/latchworkref.NodesOf -/
/- 12: latchwork/latchworkref.LitOf -/
/- 17: latchwork/latchworkref.ClausesOf -/
/- 23: latchwork/latchworkref.FitOf -/
/- 26: latchwork/latchworkref.Takes -/
/- 27: latchwork/latchworkref.Two -/
/- 28: latchwork/latchworkref.Made -/
/- 36: latchwork/latchworkref.CheckModel -/
/- 39: latchwork/latchworkref.Nodes -/
/- 43: latchwork/latchworkref.ConeOf -/
/- 45: latchwork/latchworkref.Has -/
def q89 : ICode :=
 (.post (.seq (.seq (.post (.region [
 oM 6 5,
 oM 7 0,
 oN (.len 8 0 7),
 oN (.bin 9 .lss 6 8)] false) [0, 1, 5, 9] 0)
 (.cond 9 .skip
 (.exit 0)))
 (.seq (.block 1 (.seq (.post (.region [
 oM 12 0,
 oM 13 5,
 oA 14 12 13,
 oL 15 14,
 oM 16 1,
 oN (.bin 17 .eql 15 16)] false) [0, 1, 5, 17] 0)
 (.cond 17 (.seq (.post (.region [
 oN (.mv 4 (.c (.bool true)))] false) [4] 0)
 .ret)
 .skip)))
 (.post (.region [
 oM 10 5,
 oN (.bin 11 .add 10 (.c (I 1))),
 oM 5 11] false) [0, 1, 5] 0))) [0, 1, 5] 0)
def q4b : ICode :=
 (.post (.block 0 (.loop q89)) [] 0)
def q4c : ICode :=
 (.seq (.region [
 oN (.mv 4 (.c (.bool false)))] false)
 .ret)
def q8a : ICode :=
 (.seq (.post (.region [
 oN (.mv 4 (.c (.bool false)))] false) [0, 1] 0)
 (.seq (.seq (.post (.region [
 oN (.mv 5 (.c (I 0)))] false) [0, 1, 5] 0)
 (.cut q4b))
 (.cut q4c)))
def q1c : IFunc := { np := 2, res := [.t 4], own := false, trunc := true, body := q8a }
/- 46: latchwork/latchworkref.SameInts -/
def q8b : ICode :=
 (.post (.seq (.seq (.post (.region [
 oM 11 5,
 oM 12 0,
 oN (.len 13 0 12),
 oN (.bin 14 .lss 11 13)] false) [0, 1, 5, 14] 0)
 (.cond 14 .skip
 (.exit 0)))
 (.seq (.block 1 (.seq (.post (.region [
 oM 17 0,
 oM 18 5,
 oA 19 17 18,
 oL 20 19,
 oM 21 1,
 oM 22 5,
 oA 23 21 22,
 oL 24 23,
 oN (.bin 25 .neq 20 24)] true) [0, 1, 5, 25] 0)
 (.cond 25 (.seq (.post (.region [
 oN (.mv 4 (.c (.bool false)))] false) [4] 0)
 .ret)
 .skip)))
 (.post (.region [
 oM 15 5,
 oN (.bin 16 .add 15 (.c (I 1))),
 oM 5 16] false) [0, 1, 5] 0))) [0, 1, 5] 0)
def q4d : ICode :=
 (.post (.block 0 (.loop q8b)) [] 0)
def q4e : ICode :=
 (.seq (.region [
 oN (.mv 4 (.c (.bool true)))] false)
 .ret)
def q8c : ICode :=
 (.seq (.post (.region [
 oN (.mv 4 (.c (.bool false)))] false) [0, 1] 0)
 (.seq (.seq (.post (.region [
 oM 6 0,
 oN (.len 7 0 6),
 oM 8 1,
 oN (.len 9 0 8),
 oN (.bin 10 .neq 7 9)] false) [0, 1, 10] 0)
 (.cond 10 (.seq (.post (.region [
 oN (.mv 4 (.c (.bool false)))] false) [4] 0)
 .ret)
 .skip))
 (.seq (.seq (.post (.region [
 oN (.mv 5 (.c (I 0)))] false) [0, 1, 5] 0)
 (.cut q4d))
 (.cut q4e))))
def q4f : IFunc := { np := 2, res := [.t 4], own := false, trunc := true, body := q8c }
/- 50: latchwork/latchworkref.between -/
def q8d : ICode :=
 (.seq (.post (.region [
 oN (.mv 6 (.c (.bool false)))] false) [0, 1, 2] 0)
 (.seq (.post (.region [
 oM 7 0,
 oM 8 1,
 oN (.bin 9 .geq 7 8),
 oM 10 9,
  ⟨.mv 11 0, some (10, true)⟩,
  ⟨.mv 12 2, some (10, true)⟩,
  ⟨.bin 13 .leq 11 12, some (10, true)⟩,
 oN (.pick 14 10 13 (.c (.bool false))),
 oM 6 14] false) [6] 0)
 .ret))
def q1d : IFunc := { np := 3, res := [.t 6], own := false, trunc := true, body := q8d }
/- 51: latchwork/latchworkref.AndAt -/
def q8e : ICode :=
 (.post (.seq (.seq (.post (.region [
 oM 8 7,
 oM 9 1,
 oN (.bin 10 .lss 8 9)] false) [1, 3, 5, 7, 10] 2)
 (.cond 10 .skip
 (.exit 0)))
 (.seq (.block 1 (.seq (.post (.region [
 oF 13 3 1,
 oL 14 13,
 oM 15 7,
 oN (.iaddr 16 2 none 14 15),
 oN (.load 17 true 2 16),
 oN (.load 18 true 2 5),
 oN (.eqa 19 false [false, false] 17 18)] true) [1, 3, 5, 7, 19] 2)
 (.cond 19 (.seq (.post (.region [
 oM 20 7,
 oM 6 20] false) [6] 0)
 .ret)
 .skip)))
 (.post (.region [
 oM 11 7,
 oN (.bin 12 .add 11 (.c (I 1))),
 oM 7 12] false) [1, 3, 5, 7] 2))) [1, 3, 5, 7] 2)
def q4g : ICode :=
 (.post (.block 0 (.loop q8e)) [] 0)
def q4h : ICode :=
 (.seq (.region [
 oN (.mv 6 (.c (I (-1))))] false)
 .ret)
def q8f : ICode :=
 (.seq (.post (.region [
 oN (.box 3 false false 0),
 oN (.box 5 false false 2),
 oN (.mv 6 (.c (I 0)))] false) [1, 3, 5] 2)
 (.seq (.seq (.post (.region [
 oN (.mv 7 (.c (I 0)))] false) [1, 3, 5, 7] 2)
 (.cut q4g))
 (.cut q4h)))
def q1e : IFunc := { np := 3, res := [.t 6], own := false, trunc := true, body := q8f }
/- 56: latchwork/latchworkref.AndClauses -/
def q8g : ICode :=
 (.post (.seq (.seq (.post (.region [
 oM 10 6,
 oF 11 2 1,
 oL 12 11,
 oN (.len 13 0 12),
 oN (.bin 14 .lss 10 13)] false) [1, 2, 5, 6, 14] 1)
 (.cond 14 .skip
 (.exit 0)))
 (.seq (.block 1 (.seq (.post (.region [
 oF 17 2 0,
 oL 18 17,
 oN (.bin 19 .add (.c (I 1)) 18),
 oM 20 6,
 oN (.bin 21 .add 19 20),
 oM 22 1,
 oN (.bin 23 .add 21 22),
 oM 7 23] false) [1, 2, 5, 6, 7] 1)
 (.seq (.post (.region [
 oF 24 2 1,
 oL 25 24,
 oM 26 6,
 oN (.iaddr 27 2 none 25 26),
 oN (.iaddr 28 1 (some 2) 27 (.c (I 0))),
 oL 29 28,
 oM 30 1,
 oN (.call (some 31) true 92 [29, 30]),
 oF 32 2 1,
 oL 33 32,
 oM 34 6,
 oN (.iaddr 35 2 none 33 34),
 oN (.iaddr 36 1 (some 2) 35 (.c (I 1))),
 oL 37 36,
 oM 38 1,
 oN (.call (some 39) true 92 [37, 38]),
 oM 8 31,
 oM 9 39] true) [1, 2, 5, 6, 7, 8, 9] 1)
 (.post (.region [
 oN (.tk 40 5),
 oM 41 7,
 oN (.un 42 .neg 41),
 oM 43 8,
 oN (.buildSl 44 1 [42, 43]),
 oM 45 7,
 oN (.un 46 .neg 45),
 oM 47 9,
 oN (.buildSl 48 1 [46, 47]),
 oM 49 7,
 oM 50 8,
 oN (.un 51 .neg 50),
 oM 52 9,
 oN (.un 53 .neg 52),
 oN (.buildSl 54 1 [49, 51, 53]),
 oN (.buildSl 55 1 [44, 48, 54]),
 oN (.append 56 1 24 40 55),
 oN (.tk 5 56)] false) [1, 2, 5, 6] 1))))
 (.post (.region [
 oM 15 6,
 oN (.bin 16 .add 15 (.c (I 1))),
 oM 6 16] false) [1, 2, 5, 6] 1))) [1, 2, 5, 6] 1)
def q4i : ICode :=
 (.post (.block 0 (.loop q8g)) [5] 0)
def q4j : ICode :=
 (.seq (.post (.region [
 oN (.tk 57 5),
 oN (.tk 4 57)] false) [4] 0)
 .ret)
def q8h : ICode :=
 (.seq (.post (.region [
 oN (.box 2 false false 0),
 oN (.mv 4 (.c (.sl true 1 [])))] false) [1, 2] 1)
 (.seq (.region [
 oN (.mv 5 (.c (.sl true 1 [])))] false)
 (.seq (.seq (.post (.region [
 oN (.mv 6 (.c (I 0)))] false) [1, 2, 5, 6] 1)
 (.cut q4i))
 (.cut q4j))))
def q4k : IFunc := { np := 2, res := [.t 4], own := true, trunc := true, body := q8h }
/- 57: latchwork/latchworkref.MustClauses -/
def q8i : ICode :=
 (.seq (.post (.region [
 oN (.mv 4 (.c (.sl true 1 [])))] false) [0, 1] 0)
 (.seq (.seq (.post (.region [
 oM 5 0,
 oN (.bin 6 .eql 5 (.c (I 1)))] false) [0, 1, 6] 0)
 (.cond 6 (.seq (.post (.region [
 oN (.mv 4 (.c (.sl true 1 [])))] false) [4] 0)
 .ret)
 .skip))
 (.seq (.seq (.post (.region [
 oM 7 0,
 oN (.bin 8 .eql 7 (.c (I 0)))] false) [0, 1, 8] 0)
 (.cond 8 (.seq (.post (.region [
 oN (.buildSl 9 1 [(.c (.sl true 1 []))]),
 oN (.tk 4 9)] false) [4] 0)
 .ret)
 .skip))
 (.seq (.post (.region [
 oM 10 0,
 oM 11 1,
 oN (.call (some 12) true 92 [10, 11]),
 oN (.buildSl 13 1 [12]),
 oN (.buildSl 14 1 [13]),
 oN (.tk 4 14)] false) [4] 0)
 .ret))))
def qp : IFunc := { np := 2, res := [.t 4], own := false, trunc := true, body := q8i }
/- 58: latchwork/latchworkref.DoneClauses -/
def q8j : ICode :=
 (.seq (.post (.region [
 oN (.box 1 false false 0),
 oN (.alloc 2 false (.agg [I 0, .sl true 1 []])),
 oN (.mv 3 (.c (I 0)))] false) [1, 2] 2)
 (.seq (.post (.region [
 oN (.load 5 true 2 1),
 oN (.call (some 6) true 93 [5]),
 oM 4 6] false) [1, 2, 4] 2)
 (.seq (.seq (.post (.region [
 oM 7 4,
 oN (.bin 8 .neq 7 (.c (I 0)))] false) [1, 2, 4, 8] 2)
 (.cond 8 (.seq (.post (.region [
 oN (.build 9 [I 0, .sl true 1 []] []),
 oM 10 4,
 oN (.store true 2 2 9),
 oM 3 10] false) [2, 3] 2)
 .ret)
 .skip))
 (.seq (.post (.region [
 oN (.load 11 true 2 1),
 oN (.store true 2 2 11),
 oN (.mv 3 (.c (I 0)))] false) [2, 3] 2)
 .ret))))
def q1f : IFunc := { np := 1, res := [.cell 2 true 2, .t 3], own := false, trunc := true, body := q8j }
/- 60: latchwork/latchworkref.SameClauses -/
def q8k : ICode :=
 (.seq (.post (.region [
 oN (.box 2 false false 0),
 oN (.box 3 false false 1),
 oN (.mv 4 (.c (.bool false)))] false) [2, 3] 2)
 (.seq (.post (.region [
 oF 5 2 0,
 oL 6 5,
 oF 7 3 0,
 oL 8 7,
 oN (.bin 9 .eql 6 8),
 oM 10 9,
  ⟨.faddr 11 2 1, some (10, true)⟩,
  ⟨.load 12 false 1 11, some (10, true)⟩,
  ⟨.faddr 13 3 1, some (10, true)⟩,
  ⟨.load 14 false 1 13, some (10, true)⟩,
  ⟨.call (some 15) true 95 [12, 14], some (10, true)⟩,
 oN (.pick 16 10 15 (.c (.bool false))),
 oM 4 16] false) [4] 0)
 .ret))
def q4l : IFunc := { np := 2, res := [.t 4], own := false, trunc := true, body := q8k }
/- 67: latchwork/latchworkref.bitwise -/
/- 68: latchwork/latchworkref.yes -/
/- 69: latchwork/latchworkref.Signed -/
/- 72: latchwork/latchworkref.CheckNode -/
/- 73: latchwork/latchworkref.Bits -/
/- 74: latchwork/latchworkref.hangs -/
/- 84: latchwork/latchworkref.ConeOf$1 -/
/- 92: latchwork/latchworkref.Num -/
def q8l : ICode :=
 (.seq (.post (.region [
 oN (.mv 4 (.c (I 0)))] false) [0, 1] 0)
 (.seq (.post (.region [
 oM 6 0,
 oN (.bin 7 .quo 6 (.c (I 2))),
 oM 8 1,
 oN (.bin 9 .add 7 8),
 oM 5 9] false) [0, 5] 0)
 (.seq (.seq (.post (.region [
 oM 10 0,
 oN (.bin 11 .rem 10 (.c (I 2))),
 oN (.bin 12 .eql 11 (.c (I 1)))] false) [5, 12] 0)
 (.cond 12 (.seq (.post (.region [
 oM 13 5,
 oN (.un 14 .neg 13),
 oM 4 14] false) [4] 0)
 .ret)
 .skip))
 (.seq (.post (.region [
 oM 15 5,
 oM 4 15] false) [4] 0)
 .ret))))
def q1g : IFunc := { np := 2, res := [.t 4], own := false, trunc := true, body := q8l }
/- 93: latchwork/latchworkref.CheckClauses -/
def q8m : ICode :=
 (.post (.seq (.seq (.post (.region [
 oM 13 3,
 oF 14 1 1,
 oL 15 14,
 oN (.len 16 0 15),
 oN (.bin 17 .lss 13 16)] false) [1, 3, 17] 1)
 (.cond 17 .skip
 (.exit 0)))
 (.seq (.block 1 (.seq (.post (.region [
 oF 20 1 0,
 oL 21 20,
 oF 22 1 1,
 oL 23 22,
 oM 24 3,
 oA 25 23 24,
 oL 26 25,
 oN (.call (some 27) true 112 [21, 26]),
 oM 4 27] true) [1, 3, 4] 1)
 (.seq (.post (.region [
 oM 28 4,
 oN (.bin 29 .neq 28 (.c (I 0)))] false) [1, 3, 4, 29] 1)
 (.cond 29 (.seq (.post (.region [
 oM 30 4,
 oM 2 30] false) [2] 0)
 .ret)
 .skip))))
 (.post (.region [
 oM 18 3,
 oN (.bin 19 .add 18 (.c (I 1))),
 oM 3 19] false) [1, 3] 1))) [1, 3] 1)
def q4m : ICode :=
 (.post (.block 0 (.loop q8m)) [] 0)
def q4n : ICode :=
 (.seq (.region [
 oN (.mv 2 (.c (I 0)))] false)
 .ret)
def q8n : ICode :=
 (.seq (.post (.region [
 oN (.box 1 false false 0),
 oN (.mv 2 (.c (I 0)))] false) [1] 1)
 (.seq (.seq (.post (.region [
 oF 5 1 0,
 oL 6 5,
 oN (.call (some 7) true 50 [6, (.c (I 0)), (.c (I 200000))]),
 oN (.un 8 .not 7)] false) [1, 8] 1)
 (.cond 8 (.seq (.post (.region [
 oN (.mv 2 (.c (I 3)))] false) [2] 0)
 .ret)
 .skip))
 (.seq (.seq (.post (.region [
 oF 9 1 1,
 oL 10 9,
 oN (.len 11 0 10),
 oN (.bin 12 .gtr 11 (.c (I 800000)))] false) [1, 12] 1)
 (.cond 12 (.seq (.post (.region [
 oN (.mv 2 (.c (I 2)))] false) [2] 0)
 .ret)
 .skip))
 (.seq (.seq (.post (.region [
 oN (.mv 3 (.c (I 0)))] false) [1, 3] 1)
 (.cut q4m))
 (.cut q4n)))))
def qd : IFunc := { np := 1, res := [.t 2], own := false, trunc := true, body := q8n }
/- 95: latchwork/latchworkref.SameLists -/
def q8o : ICode :=
 (.post (.seq (.seq (.post (.region [
 oM 11 5,
 oM 12 0,
 oN (.len 13 0 12),
 oN (.bin 14 .lss 11 13)] false) [0, 1, 5, 14] 0)
 (.cond 14 .skip
 (.exit 0)))
 (.seq (.block 1 (.seq (.post (.region [
 oM 17 0,
 oM 18 5,
 oA 19 17 18,
 oL 20 19,
 oM 21 1,
 oM 22 5,
 oA 23 21 22,
 oL 24 23,
 oN (.call (some 25) true 46 [20, 24]),
 oN (.un 26 .not 25)] true) [0, 1, 5, 26] 0)
 (.cond 26 (.seq (.post (.region [
 oN (.mv 4 (.c (.bool false)))] false) [4] 0)
 .ret)
 .skip)))
 (.post (.region [
 oM 15 5,
 oN (.bin 16 .add 15 (.c (I 1))),
 oM 5 16] false) [0, 1, 5] 0))) [0, 1, 5] 0)
def q4o : ICode :=
 (.post (.block 0 (.loop q8o)) [] 0)
def q4p : ICode :=
 (.seq (.region [
 oN (.mv 4 (.c (.bool true)))] false)
 .ret)
def q8p : ICode :=
 (.seq (.post (.region [
 oN (.mv 4 (.c (.bool false)))] false) [0, 1] 0)
 (.seq (.seq (.post (.region [
 oM 6 0,
 oN (.len 7 0 6),
 oM 8 1,
 oN (.len 9 0 8),
 oN (.bin 10 .neq 7 9)] false) [0, 1, 10] 0)
 (.cond 10 (.seq (.post (.region [
 oN (.mv 4 (.c (.bool false)))] false) [4] 0)
 .ret)
 .skip))
 (.seq (.seq (.post (.region [
 oN (.mv 5 (.c (I 0)))] false) [0, 1, 5] 0)
 (.cut q4o))
 (.cut q4p))))
def q4q : IFunc := { np := 2, res := [.t 4], own := false, trunc := true, body := q8p }
/- 97: latchwork/latchworkref.Bit -/
/- 102: latchwork/latchworkref.WidthsOf -/
/- 112: latchwork/latchworkref.CheckClause -/
def q8q : ICode :=
 (.post (.seq (.seq (.post (.region [
 oM 9 5,
 oM 10 1,
 oN (.len 11 0 10),
 oN (.bin 12 .lss 9 11)] false) [0, 1, 5, 12] 0)
 (.cond 12 .skip
 (.exit 0)))
 (.seq (.block 1 (.seq (.post (.region [
 oM 15 1,
 oM 16 5,
 oA 17 15 16,
 oL 18 17,
 oN (.bin 19 .eql 18 (.c (I 0))),
 oM 20 19,
  ⟨.mv 21 1, some (20, false)⟩,
  ⟨.mv 22 5, some (20, false)⟩,
  ⟨.iaddr 23 1 none 21 22, some (20, false)⟩,
  ⟨.load 24 false 1 23, some (20, false)⟩,
  ⟨.mv 25 0, some (20, false)⟩,
  ⟨.bin 26 .gtr 24 25, some (20, false)⟩,
 oN (.pick 27 20 (.c (.bool true)) 26),
 oM 28 27,
  ⟨.mv 29 1, some (28, false)⟩,
  ⟨.mv 30 5, some (28, false)⟩,
  ⟨.iaddr 31 1 none 29 30, some (28, false)⟩,
  ⟨.load 32 false 1 31, some (28, false)⟩,
  ⟨.mv 33 0, some (28, false)⟩,
  ⟨.un 34 .neg 33, some (28, false)⟩,
  ⟨.bin 35 .lss 32 34, some (28, false)⟩,
 oN (.pick 36 28 (.c (.bool true)) 35)] false) [0, 1, 5, 36] 0)
 (.cond 36 (.seq (.post (.region [
 oN (.mv 4 (.c (I 5)))] false) [4] 0)
 .ret)
 .skip)))
 (.post (.region [
 oM 13 5,
 oN (.bin 14 .add 13 (.c (I 1))),
 oM 5 14] false) [0, 1, 5] 0))) [0, 1, 5] 0)
def q4r : ICode :=
 (.post (.block 0 (.loop q8q)) [] 0)
def q4s : ICode :=
 (.seq (.region [
 oN (.mv 4 (.c (I 0)))] false)
 .ret)
def q8r : ICode :=
 (.seq (.post (.region [
 oN (.mv 4 (.c (I 0)))] false) [0, 1] 0)
 (.seq (.seq (.post (.region [
 oM 6 1,
 oN (.len 7 0 6),
 oN (.bin 8 .gtr 7 (.c (I 200)))] false) [0, 1, 8] 0)
 (.cond 8 (.seq (.post (.region [
 oN (.mv 4 (.c (I 2)))] false) [4] 0)
 .ret)
 .skip))
 (.seq (.seq (.post (.region [
 oN (.mv 5 (.c (I 0)))] false) [0, 1, 5] 0)
 (.cut q4r))
 (.cut q4s))))
def qq : IFunc := { np := 2, res := [.t 4], own := false, trunc := true, body := q8r }
/- 124: latchwork/latchworkref.CheckWords -/
/- 125: latchwork/latchworkref.BeginOf -/
/- 131: latchwork/latchworkref.Ready -/
/- 132: latchwork/latchworkref.ValuesOf -/
/- 133: latchwork/latchworkref.NextOf -/
/- 134: latchwork/latchworkref.MarksOf -/
/- 137: latchwork/latchworkref.PairOf -/
/- 146: latchwork/latchworkref.FollowsOf -/
/- 150: latchwork/latchworkref.CheckProof -/
/- 151: latchwork/latchworkref.ProofOf -/
/- 167: latchwork/latchworkref.AnswerIs -/
/- 168: latchwork/latchworkref.HoldsOf -/
/- 213: latchwork/latchworkref.CheckCircuit -/
def q8s : ICode :=
 (.post (.seq (.seq (.post (.region [
 oM 44 4,
 oF 45 1 4,
 oL 46 45,
 oN (.len 47 0 46),
 oN (.bin 48 .lss 44 47)] false) [1, 4, 48] 1)
 (.cond 48 .skip
 (.exit 0)))
 (.seq (.block 1 (.seq (.post (.region [
 oF 51 1 4,
 oL 52 51,
 oM 53 4,
 oA 54 52 53,
 oL 55 54,
 oN (.bin 56 .neq 55 (.c (I (-1)))),
 oM 57 56,
  ⟨.faddr 58 1 0, some (57, true)⟩,
  ⟨.load 59 true 2 58, some (57, true)⟩,
  ⟨.faddr 60 1 4, some (57, true)⟩,
  ⟨.load 61 false 1 60, some (57, true)⟩,
  ⟨.mv 62 4, some (57, true)⟩,
  ⟨.iaddr 63 1 none 61 62, some (57, true)⟩,
  ⟨.load 64 false 1 63, some (57, true)⟩,
  ⟨.call (some 65) true 3 [59, 64], some (57, true)⟩,
  ⟨.un 66 .not 65, some (57, true)⟩,
 oN (.pick 67 57 66 (.c (.bool false)))] true) [1, 4, 67] 1)
 (.cond 67 (.seq (.post (.region [
 oN (.mv 2 (.c (I 5)))] false) [2] 0)
 .ret)
 .skip)))
 (.post (.region [
 oM 49 4,
 oN (.bin 50 .add 49 (.c (I 1))),
 oM 4 50] false) [1, 4] 1))) [1, 4] 1)
def q4t : ICode :=
 (.post (.block 0 (.loop q8s)) [1] 1)
def q29 : ICode :=
 (.seq (.seq (.post (.region [
 oF 68 1 0,
 oN (.load 69 true 2 68),
 oF 70 1 5,
 oL 71 70,
 oN (.call (some 72) true 10 [69, 71]),
 oN (.un 73 .not 72),
 oM 74 73,
  ⟨.faddr 75 1 0, some (74, false)⟩,
  ⟨.load 76 true 2 75, some (74, false)⟩,
  ⟨.faddr 77 1 6, some (74, false)⟩,
  ⟨.load 78 false 1 77, some (74, false)⟩,
  ⟨.call (some 79) true 10 [76, 78], some (74, false)⟩,
  ⟨.un 80 .not 79, some (74, false)⟩,
 oN (.pick 81 74 (.c (.bool true)) 80),
 oM 82 81,
  ⟨.faddr 83 1 0, some (82, false)⟩,
  ⟨.load 84 true 2 83, some (82, false)⟩,
  ⟨.faddr 85 1 7, some (82, false)⟩,
  ⟨.load 86 false 1 85, some (82, false)⟩,
  ⟨.call (some 87) true 10 [84, 86], some (82, false)⟩,
  ⟨.un 88 .not 87, some (82, false)⟩,
 oN (.pick 89 82 (.c (.bool true)) 88)] false) [89] 0)
 (.cond 89 (.seq (.post (.region [
 oN (.mv 2 (.c (I 5)))] false) [2] 0)
 .ret)
 .skip))
 (.seq (.post (.region [
 oN (.mv 2 (.c (I 0)))] false) [2] 0)
 .ret))
def q4u : ICode :=
 (.seq (.post (.region [
 oN (.box 1 false false 0),
 oN (.mv 2 (.c (I 0)))] false) [1] 1)
 (.seq (.post (.region [
 oF 5 1 0,
 oN (.load 6 true 2 5),
 oN (.call (some 7) true 2 [6]),
 oM 3 7] false) [1, 3] 1)
 (.seq (.seq (.post (.region [
 oM 8 3,
 oN (.bin 9 .neq 8 (.c (I 0)))] false) [1, 3, 9] 1)
 (.cond 9 (.seq (.post (.region [
 oM 10 3,
 oM 2 10] false) [2] 0)
 .ret)
 .skip))
 (.seq (.seq (.post (.region [
 oF 11 1 2,
 oL 12 11,
 oN (.bin 13 .lss 12 (.c (I 0))),
 oM 14 13,
  ⟨.faddr 15 1 3, some (14, false)⟩,
  ⟨.load 16 false 1 15, some (14, false)⟩,
  ⟨.bin 17 .lss 16 (.c (I 0)), some (14, false)⟩,
 oN (.pick 18 14 (.c (.bool true)) 17),
 oM 19 18,
  ⟨.faddr 20 1 2, some (19, false)⟩,
  ⟨.load 21 false 1 20, some (19, false)⟩,
  ⟨.faddr 22 1 3, some (19, false)⟩,
  ⟨.load 23 false 1 22, some (19, false)⟩,
  ⟨.bin 24 .add 21 23, some (19, false)⟩,
  ⟨.faddr 25 1 0, some (19, false)⟩,
  ⟨.faddr 26 25 0, some (19, false)⟩,
  ⟨.load 27 false 1 26, some (19, false)⟩,
  ⟨.bin 28 .neq 24 27, some (19, false)⟩,
 oN (.pick 29 19 (.c (.bool true)) 28)] false) [1, 29] 1)
 (.cond 29 (.seq (.post (.region [
 oN (.mv 2 (.c (I 4)))] false) [2] 0)
 .ret)
 .skip))
 (.seq (.seq (.post (.region [
 oF 30 1 4,
 oL 31 30,
 oN (.len 32 0 31),
 oF 33 1 3,
 oL 34 33,
 oN (.bin 35 .neq 32 34),
 oM 36 35,
  ⟨.faddr 37 1 5, some (36, false)⟩,
  ⟨.load 38 false 1 37, some (36, false)⟩,
  ⟨.len 39 0 38, some (36, false)⟩,
  ⟨.faddr 40 1 3, some (36, false)⟩,
  ⟨.load 41 false 1 40, some (36, false)⟩,
  ⟨.bin 42 .neq 39 41, some (36, false)⟩,
 oN (.pick 43 36 (.c (.bool true)) 42)] false) [1, 43] 1)
 (.cond 43 (.seq (.post (.region [
 oN (.mv 2 (.c (I 1)))] false) [2] 0)
 .ret)
 .skip))
 (.seq (.seq (.post (.region [
 oN (.mv 4 (.c (I 0)))] false) [1, 4] 1)
 (.cut q4t))
 (.cut q29)))))))
def q4v : IFunc := { np := 1, res := [.t 2], own := false, trunc := true, body := q4u }
/- 321: latchwork/latchworkref.WaysOf -/
/- 322: latchwork/latchworkref.Layers -/
/- 323: latchwork/latchworkref.NumberOf -/
/- 324: latchwork/latchworkref.ExploreOf -/
/- 326: latchwork/latchworkref.WordsOf -/
/- 327: latchwork/latchworkref.BitsOf -/
/- 330: latchwork/latchworkref.CheckSteps -/
def qw : ICode :=
 (.post (.region [
 oM 27 8,
 oN (.bin 28 .add 27 (.c (I 1))),
 oM 8 28] false) [2, 3, 7, 8] 1)
def q8t : ICode :=
 (.post (.seq (.seq (.post (.region [
 oM 18 8,
 oF 19 3 4,
 oL 20 19,
 oN (.len 21 0 20),
 oN (.bin 22 .lss 18 21),
 oM 23 22,
  ⟨.mv 24 7, some (23, true)⟩,
  ⟨.bin 25 .eql 24 (.c (I 0)), some (23, true)⟩,
 oN (.pick 26 23 25 (.c (.bool false)))] false) [2, 3, 7, 8, 26] 1)
 (.cond 26 .skip
 (.exit 0)))
 (.seq (.block 1 (.seq (.post (.region [
 oM 29 2,
 oM 30 29,
  ⟨.faddr 31 3 4, some (30, true)⟩,
  ⟨.load 32 false 1 31, some (30, true)⟩,
  ⟨.mv 33 8, some (30, true)⟩,
  ⟨.iaddr 34 1 none 32 33, some (30, true)⟩,
  ⟨.load 35 false 1 34, some (30, true)⟩,
  ⟨.bin 36 .gtr 35 (.c (I 1)), some (30, true)⟩,
 oN (.pick 37 30 36 (.c (.bool false)))] false) [2, 3, 7, 8, 37] 1)
 (.cond 37 (.post (.post (.region [
 oN (.mv 7 (.c (I 7)))] false) [2, 3, 7, 8] 1) [2, 3, 7, 8] 1)
 (.post .skip [2, 3, 7, 8] 1))))
 (.cut qw))) [2, 3, 7, 8] 1)
def q1h : ICode :=
 (.post (.block 0 (.loop q8t)) [7] 0)
def q2a : ICode :=
 (.seq (.post (.region [
 oM 38 7,
 oM 6 38] false) [6] 0)
 .ret)
def qx : ICode :=
 (.seq (.seq (.post (.region [
 oN (.mv 8 (.c (I 0)))] false) [2, 3, 7, 8] 1)
 (.cut q1h))
 (.cut q2a))
def q4w : ICode :=
 (.seq (.post (.region [
 oN (.box 3 false false 0),
 oN (.mv 6 (.c (I 0)))] false) [1, 2, 3] 1)
 (.seq (.post (.region [
 oN (.load 9 true 8 3),
 oN (.call (some 10) true 213 [9]),
 oM 7 10] false) [1, 2, 3, 7] 1)
 (.seq (.seq (.post (.region [
 oM 11 7,
 oN (.bin 12 .eql 11 (.c (I 0))),
 oM 13 12,
  ⟨.mv 14 1, some (13, true)⟩,
  ⟨.call (some 15) true 50 [14, (.c (I 0)), (.c (I 40))], some (13, true)⟩,
  ⟨.un 16 .not 15, some (13, true)⟩,
 oN (.pick 17 13 16 (.c (.bool false)))] false) [2, 3, 7, 17] 1)
 (.cond 17 (.post (.post (.region [
 oN (.mv 7 (.c (I 3)))] false) [2, 3, 7] 1) [2, 3, 7] 1)
 (.post .skip [2, 3, 7] 1)))
 (.cut qx))))
def q4x : IFunc := { np := 3, res := [.t 6], own := false, trunc := true, body := q4w }
/- 331: latchwork/latchworkref.StepClauses -/
def q8u : ICode :=
 (.post (.seq (.seq (.post (.region [
 oM 43 13,
 oM 44 1,
 oN (.bin 45 .leq 43 44)] false) [1, 2, 3, 4, 8, 9, 10, 11, 12, 13, 45] 1)
 (.cond 45 .skip
 (.exit 0)))
 (.seq (.block 1 (.post (.region [
 oF 48 10 1,
 oN (.loadTB 49 48 10 1),
 oF 50 4 0,
 oN (.load 51 true 2 50),
 oM 52 13,
 oL 53 9,
 oN (.bin 54 .mul 52 53),
 oN (.callR (some 55) 56 [51, 54] 10 1),
 oN (.append 56 1 24 49 55),
 oF 57 10 1,
 oN (.store true 1 57 56)] true) [1, 2, 3, 4, 8, 9, 10, 11, 12, 13] 1))
 (.post (.region [
 oM 46 13,
 oN (.bin 47 .add 46 (.c (I 1))),
 oM 13 47] false) [1, 2, 3, 4, 8, 9, 10, 11, 12, 13] 1))) [1, 2, 3, 4, 8, 9, 10, 11, 12, 13] 1)
def q4y : ICode :=
 (.post (.block 0 (.loop q8u)) [1, 2, 3, 4, 8, 9, 10, 11, 12] 1)
def qy : ICode :=
 (.post (.region [
 oM 67 15,
 oN (.bin 68 .add 67 (.c (I 1))),
 oM 15 68] false) [1, 2, 3, 4, 8, 9, 10, 11, 12, 14, 15] 1)
def q8v : ICode :=
 (.post (.seq (.seq (.post (.region [
 oM 63 15,
 oF 64 4 3,
 oL 65 64,
 oN (.bin 66 .lss 63 65)] false) [1, 2, 3, 4, 8, 9, 10, 11, 12, 14, 15, 66] 1)
 (.cond 66 .skip
 (.exit 4)))
 (.seq (.block 5 (.seq (.post (.region [
 oF 69 4 5,
 oL 70 69,
 oM 71 15,
 oA 72 70 71,
 oL 73 72] false) [1, 2, 3, 4, 8, 9, 10, 11, 12, 14, 15, 73] 1)
 (.block 6 (.seq (.post (.region [
 oN (.bin 103 .eql 73 (.c (I 0))),
 oM 102 103] false) [1, 2, 3, 4, 8, 9, 10, 11, 12, 14, 15, 73, 102] 1)
 (.cond 102 (.post (.post (.region [
 oM 104 11,
 oM 105 12,
 oM 106 14,
 oM 107 15,
 oN (.callv (some 108) true 105 [106, 107]),
 oN (.un 109 .neg 108),
 oN (.buildSl 110 1 [109]),
 oN (.callv (some 111) false 104 [110])] false) [1, 2, 3, 4, 8, 9, 10, 11, 12, 14, 15] 1) [1, 2, 3, 4, 8, 9, 10, 11, 12, 14, 15] 1)
 (.post (.seq (.post (.region [
 oN (.bin 113 .eql 73 (.c (I 1))),
 oM 112 113] false) [1, 2, 3, 4, 8, 9, 10, 11, 12, 14, 15, 112] 1)
 (.cond 112 (.post (.post (.region [
 oM 114 11,
 oM 115 12,
 oM 116 14,
 oM 117 15,
 oN (.callv (some 118) true 115 [116, 117]),
 oN (.buildSl 119 1 [118]),
 oN (.callv (some 120) false 114 [119])] false) [1, 2, 3, 4, 8, 9, 10, 11, 12, 14, 15] 1) [1, 2, 3, 4, 8, 9, 10, 11, 12, 14, 15] 1)
 (.post (.seq (.post (.region [
 oF 74 4 5,
 oL 75 74,
 oM 76 15,
 oA 77 75 76,
 oL 78 77,
 oM 79 14,
 oN (.bin 80 .sub 79 (.c (I 1))),
 oL 81 9,
 oN (.bin 82 .mul 80 81),
 oN (.call (some 83) true 92 [78, 82]),
 oM 16 83] true) [1, 2, 3, 4, 8, 9, 10, 11, 12, 14, 15, 16] 1)
 (.seq (.post (.region [
 oM 84 11,
 oM 85 12,
 oM 86 14,
 oM 87 15,
 oN (.callv (some 88) true 85 [86, 87]),
 oN (.un 89 .neg 88),
 oM 90 16,
 oN (.buildSl 91 1 [89, 90]),
 oN (.callv (some 92) false 84 [91])] false) [1, 2, 3, 4, 8, 9, 10, 11, 12, 14, 15, 16] 1)
 (.post (.region [
 oM 93 11,
 oM 94 12,
 oM 95 14,
 oM 96 15,
 oN (.callv (some 97) true 94 [95, 96]),
 oM 98 16,
 oN (.un 99 .neg 98),
 oN (.buildSl 100 1 [97, 99]),
 oN (.callv (some 101) false 93 [100])] false) [1, 2, 3, 4, 8, 9, 10, 11, 12, 14, 15] 1))) [1, 2, 3, 4, 8, 9, 10, 11, 12, 14, 15] 1))) [1, 2, 3, 4, 8, 9, 10, 11, 12, 14, 15] 1))))))
 (.cut qy))) [1, 2, 3, 4, 8, 9, 10, 11, 12, 14, 15] 1)
def q4z : ICode :=
 (.post (.block 4 (.loop q8v)) [1, 2, 3, 4, 8, 9, 10, 11, 12, 14] 1)
def q2b : ICode :=
 (.post (.region [
 oM 61 14,
 oN (.bin 62 .add 61 (.c (I 1))),
 oM 14 62] false) [1, 2, 3, 4, 8, 9, 10, 11, 12, 14] 1)
def q8w : ICode :=
 (.post (.seq (.seq (.post (.region [
 oM 58 14,
 oM 59 1,
 oN (.bin 60 .leq 58 59)] false) [1, 2, 3, 4, 8, 9, 10, 11, 12, 14, 60] 1)
 (.cond 60 .skip
 (.exit 2)))
 (.seq (.block 3 (.seq (.post (.region [
 oN (.mv 15 (.c (I 0)))] false) [1, 2, 3, 4, 8, 9, 10, 11, 12, 14, 15] 1)
 (.cut q4z)))
 (.cut q2b))) [1, 2, 3, 4, 8, 9, 10, 11, 12, 14] 1)
def q50 : ICode :=
 (.post (.block 2 (.loop q8w)) [1, 2, 3, 4, 8, 9, 10, 11, 12] 1)
def qr : ICode :=
 (.seq (.post (.region [
 oF 143 4 4,
 oL 144 143,
 oM 145 17,
 oA 146 144 145,
 oL 147 146,
 oN (.bin 148 .eql 147 (.c (I 1)))] false) [1, 2, 3, 4, 8, 9, 10, 11, 12, 17, 148] 1)
 (.cond 148 (.post (.post (.region [
 oM 149 11,
 oM 150 12,
 oM 151 17,
 oN (.callv (some 152) true 150 [(.c (I 0)), 151]),
 oN (.buildSl 153 1 [152]),
 oN (.callv (some 154) false 149 [153])] false) [1, 2, 3, 4, 8, 9, 10, 11, 12, 17] 1) [1, 2, 3, 4, 8, 9, 10, 11, 12, 17] 1)
 (.post .skip [1, 2, 3, 4, 8, 9, 10, 11, 12, 17] 1)))
def q1i : ICode :=
 (.post (.region [
 oM 128 17,
 oN (.bin 129 .add 128 (.c (I 1))),
 oM 17 129] false) [1, 2, 3, 4, 8, 9, 10, 11, 12, 17] 1)
def q8x : ICode :=
 (.post (.seq (.seq (.post (.region [
 oM 121 17,
 oF 122 4 3,
 oL 123 122,
 oN (.bin 124 .lss 121 123),
 oM 125 124,
  ⟨.mv 126 2, some (125, true)⟩,
 oN (.pick 127 125 126 (.c (.bool false)))] false) [1, 2, 3, 4, 8, 9, 10, 11, 12, 17, 127] 1)
 (.cond 127 .skip
 (.exit 7)))
 (.seq (.block 8 (.seq (.seq (.post (.region [
 oF 130 4 4,
 oL 131 130,
 oM 132 17,
 oA 133 131 132,
 oL 134 133,
 oN (.bin 135 .eql 134 (.c (I 0)))] false) [1, 2, 3, 4, 8, 9, 10, 11, 12, 17, 135] 1)
 (.cond 135 (.post (.post (.region [
 oM 136 11,
 oM 137 12,
 oM 138 17,
 oN (.callv (some 139) true 137 [(.c (I 0)), 138]),
 oN (.un 140 .neg 139),
 oN (.buildSl 141 1 [140]),
 oN (.callv (some 142) false 136 [141])] false) [1, 2, 3, 4, 8, 9, 10, 11, 12, 17] 1) [1, 2, 3, 4, 8, 9, 10, 11, 12, 17] 1)
 (.post .skip [1, 2, 3, 4, 8, 9, 10, 11, 12, 17] 1)))
 (.cut qr)))
 (.cut q1i))) [1, 2, 3, 4, 8, 9, 10, 11, 12, 17] 1)
def q1j : ICode :=
 (.post (.block 7 (.loop q8x)) [1, 3, 4, 8, 9, 10, 11, 12] 1)
def q8y : ICode :=
 (.post (.seq (.seq (.post (.region [
 oM 160 19,
 oF 161 4 7,
 oL 162 161,
 oN (.len 163 0 162),
 oN (.bin 164 .lss 160 163)] false) [1, 3, 4, 8, 9, 10, 11, 12, 18, 19, 164] 1)
 (.cond 164 .skip
 (.exit 11)))
 (.seq (.block 12 (.post (.region [
 oF 167 10 1,
 oN (.loadTB 168 167 10 1),
 oF 169 4 7,
 oL 170 169,
 oM 171 19,
 oA 172 170 171,
 oL 173 172,
 oM 174 18,
 oL 175 9,
 oN (.bin 176 .mul 174 175),
 oN (.callR (some 177) 57 [173, 176] 10 1),
 oN (.append 178 1 24 168 177),
 oF 179 10 1,
 oN (.store true 1 179 178)] true) [1, 3, 4, 8, 9, 10, 11, 12, 18, 19] 1))
 (.post (.region [
 oM 165 19,
 oN (.bin 166 .add 165 (.c (I 1))),
 oM 19 166] false) [1, 3, 4, 8, 9, 10, 11, 12, 18, 19] 1))) [1, 3, 4, 8, 9, 10, 11, 12, 18, 19] 1)
def q51 : ICode :=
 (.post (.block 11 (.loop q8y)) [1, 3, 4, 8, 9, 10, 11, 12, 18] 1)
def q2c : ICode :=
 (.post (.region [
 oM 158 18,
 oN (.bin 159 .add 158 (.c (I 1))),
 oM 18 159] false) [1, 3, 4, 8, 9, 10, 11, 12, 18] 1)
def q8z : ICode :=
 (.post (.seq (.seq (.post (.region [
 oM 155 18,
 oM 156 1,
 oN (.bin 157 .leq 155 156)] false) [1, 3, 4, 8, 9, 10, 11, 12, 18, 157] 1)
 (.cond 157 .skip
 (.exit 9)))
 (.seq (.block 10 (.seq (.post (.region [
 oN (.mv 19 (.c (I 0)))] false) [1, 3, 4, 8, 9, 10, 11, 12, 18, 19] 1)
 (.cut q51)))
 (.cut q2c))) [1, 3, 4, 8, 9, 10, 11, 12, 18] 1)
def q52 : ICode :=
 (.post (.block 9 (.loop q8z)) [1, 3, 4, 8, 9, 10, 11, 12] 1)
def q1k : ICode :=
 (.post (.region [
 oM 189 21,
 oN (.bin 190 .add 189 (.c (I 1))),
 oM 21 190] false) [1, 3, 4, 8, 9, 10, 11, 12, 20, 21] 1)
def q90 : ICode :=
 (.post (.seq (.seq (.post (.region [
 oM 184 21,
 oF 185 4 6,
 oL 186 185,
 oN (.len 187 0 186),
 oN (.bin 188 .lss 184 187)] false) [1, 3, 4, 8, 9, 10, 11, 12, 20, 21, 188] 1)
 (.cond 188 .skip
 (.exit 13)))
 (.seq (.block 14 (.seq (.post (.region [
 oF 191 4 6,
 oL 192 191,
 oM 193 21,
 oA 194 192 193,
 oL 195 194,
 oN (.bin 196 .neq 195 (.c (I 0)))] false) [1, 3, 4, 8, 9, 10, 11, 12, 20, 21, 196] 1)
 (.cond 196 (.post (.post (.region [
 oN (.tk 197 20),
 oF 198 4 6,
 oL 199 198,
 oM 200 21,
 oA 201 199 200,
 oL 202 201,
 oM 203 1,
 oL 204 9,
 oN (.bin 205 .mul 203 204),
 oN (.call (some 206) true 92 [202, 205]),
 oN (.buildSl 207 1 [206]),
 oN (.append 208 1 8 197 207),
 oN (.tk 20 208)] true) [1, 3, 4, 8, 9, 10, 11, 12, 20, 21] 1) [1, 3, 4, 8, 9, 10, 11, 12, 20, 21] 1)
 (.post .skip [1, 3, 4, 8, 9, 10, 11, 12, 20, 21] 1))))
 (.cut q1k))) [1, 3, 4, 8, 9, 10, 11, 12, 20, 21] 1)
def q53 : ICode :=
 (.post (.block 13 (.loop q90)) [1, 3, 4, 8, 9, 10, 11, 12, 20] 1)
def q2d : ICode :=
 (.post (.region [
 oF 209 10 1,
 oN (.loadT 210 209),
 oM 211 20,
 oN (.buildSl 212 1 [211]),
 oN (.append 213 1 24 210 212),
 oF 214 10 1,
 oN (.store true 1 214 213)] false) [1, 3, 4, 8, 9, 10, 11, 12] 1)
def qkk : ICode :=
 (.post (.region [
 oM 228 23,
 oN (.bin 229 .add 228 (.c (I 1))),
 oM 23 229] false) [1, 4, 8, 9, 10, 11, 12, 22, 23] 1)
def qkl : ICode :=
 (.post (.seq (.seq (.post (.region [
 oM 223 23,
 oF 224 4 6,
 oL 225 224,
 oN (.len 226 0 225),
 oN (.bin 227 .lss 223 226)] false) [1, 4, 8, 9, 10, 11, 12, 22, 23, 227] 1)
 (.cond 227 .skip
 (.exit 17)))
 (.seq (.block 18 (.seq (.post (.region [
 oF 230 4 6,
 oL 231 230,
 oM 232 23,
 oA 233 231 232,
 oL 234 233] false) [1, 4, 8, 9, 10, 11, 12, 22, 23, 234] 1)
 (.block 19 (.seq (.post (.region [
 oN (.bin 249 .eql 234 (.c (I 0))),
 oM 248 249] false) [1, 4, 8, 9, 10, 11, 12, 22, 23, 234, 248] 1)
 (.cond 248 (.post .skip [1, 4, 8, 9, 10, 11, 12, 22, 23] 1)
 (.post (.seq (.post (.region [
 oN (.bin 251 .eql 234 (.c (I 1))),
 oM 250 251] false) [1, 4, 8, 9, 10, 11, 12, 22, 23, 250] 1)
 (.cond 250 (.post (.post (.region [
 oM 252 11,
 oN (.callv (some 253) false 252 [(.c (.sl true 1 []))])] false) [1, 4, 8, 9, 10, 11, 12, 22, 23] 1) [1, 4, 8, 9, 10, 11, 12, 22, 23] 1)
 (.post (.post (.region [
 oM 235 11,
 oF 236 4 6,
 oL 237 236,
 oM 238 23,
 oA 239 237 238,
 oL 240 239,
 oM 241 22,
 oL 242 9,
 oN (.bin 243 .mul 241 242),
 oN (.call (some 244) true 92 [240, 243]),
 oN (.un 245 .neg 244),
 oN (.buildSl 246 1 [245]),
 oN (.callv (some 247) false 235 [246])] true) [1, 4, 8, 9, 10, 11, 12, 22, 23] 1) [1, 4, 8, 9, 10, 11, 12, 22, 23] 1))) [1, 4, 8, 9, 10, 11, 12, 22, 23] 1))))))
 (.cut qkk))) [1, 4, 8, 9, 10, 11, 12, 22, 23] 1)
def qkm : ICode :=
 (.post (.block 17 (.loop qkl)) [1, 4, 8, 9, 10, 11, 12, 22] 1)
def qkn : ICode :=
 (.post (.region [
 oM 221 22,
 oN (.bin 222 .add 221 (.c (I 1))),
 oM 22 222] false) [1, 4, 8, 9, 10, 11, 12, 22] 1)
def qko : ICode :=
 (.post (.seq (.seq (.post (.region [
 oM 218 22,
 oM 219 1,
 oN (.bin 220 .lss 218 219)] false) [1, 4, 8, 9, 10, 11, 12, 22, 220] 1)
 (.cond 220 .skip
 (.exit 15)))
 (.seq (.block 16 (.seq (.post (.region [
 oN (.mv 23 (.c (I 0)))] false) [1, 4, 8, 9, 10, 11, 12, 22, 23] 1)
 (.cut qkm)))
 (.cut qkn))) [1, 4, 8, 9, 10, 11, 12, 22] 1)
def q91 : ICode :=
 (.post (.block 15 (.loop qko)) [1, 4, 8, 10, 11, 12] 1)
def qkp : ICode :=
 (.post (.seq (.seq (.post (.region [
 oM 266 27,
 oF 267 4 3,
 oL 268 267,
 oN (.bin 269 .lss 266 268)] false) [1, 4, 8, 10, 11, 12, 24, 25, 26, 27, 269] 1)
 (.cond 269 .skip
 (.exit 24)))
 (.seq (.block 25 (.seq (.post (.region [
 oF 272 10 0,
 oL 273 272,
 oN (.bin 274 .add 273 (.c (I 1))),
 oF 275 10 0,
 oN (.store false 1 275 274)] false) [1, 4, 8, 10, 11, 12, 24, 25, 26, 27] 1)
 (.seq (.post (.region [
 oM 276 11,
 oF 277 10 0,
 oL 278 277,
 oN (.un 279 .neg 278),
 oM 280 12,
 oM 281 24,
 oM 282 27,
 oN (.callv (some 283) true 280 [281, 282]),
 oM 284 12,
 oM 285 25,
 oM 286 27,
 oN (.callv (some 287) true 284 [285, 286]),
 oN (.buildSl 288 1 [279, 283, 287]),
 oN (.callv (some 289) false 276 [288])] true) [1, 4, 8, 10, 11, 12, 24, 25, 26, 27] 1)
 (.seq (.post (.region [
 oM 290 11,
 oF 291 10 0,
 oL 292 291,
 oN (.un 293 .neg 292),
 oM 294 12,
 oM 295 24,
 oM 296 27,
 oN (.callv (some 297) true 294 [295, 296]),
 oN (.un 298 .neg 297),
 oM 299 12,
 oM 300 25,
 oM 301 27,
 oN (.callv (some 302) true 299 [300, 301]),
 oN (.un 303 .neg 302),
 oN (.buildSl 304 1 [293, 298, 303]),
 oN (.callv (some 305) false 290 [304])] true) [1, 4, 8, 10, 11, 12, 24, 25, 26, 27] 1)
 (.post (.region [
 oN (.tk 306 26),
 oF 307 10 0,
 oL 308 307,
 oN (.buildSl 309 1 [308]),
 oN (.append 310 1 8 306 309),
 oN (.tk 26 310)] false) [1, 4, 8, 10, 11, 12, 24, 25, 26, 27] 1)))))
 (.post (.region [
 oM 270 27,
 oN (.bin 271 .add 270 (.c (I 1))),
 oM 27 271] false) [1, 4, 8, 10, 11, 12, 24, 25, 26, 27] 1))) [1, 4, 8, 10, 11, 12, 24, 25, 26, 27] 1)
def qkq : ICode :=
 (.post (.block 24 (.loop qkp)) [1, 4, 8, 10, 11, 12, 24, 25, 26] 1)
def qkr : ICode :=
 (.post (.region [
 oF 311 10 1,
 oN (.loadT 312 311),
 oM 313 26,
 oN (.buildSl 314 1 [313]),
 oN (.append 315 1 24 312 314),
 oF 316 10 1,
 oN (.store true 1 316 315)] false) [1, 4, 8, 10, 11, 12, 24, 25] 1)
def qks : ICode :=
 (.post (.region [
 oM 264 25,
 oN (.bin 265 .add 264 (.c (I 1))),
 oM 25 265] false) [1, 4, 8, 10, 11, 12, 24, 25] 1)
def qkt : ICode :=
 (.post (.seq (.seq (.post (.region [
 oM 261 25,
 oM 262 1,
 oN (.bin 263 .leq 261 262)] false) [1, 4, 8, 10, 11, 12, 24, 25, 263] 1)
 (.cond 263 .skip
 (.exit 22)))
 (.seq (.block 23 (.seq (.post (.region [
 oN (.mv 26 (.c (.sl true 1 [])))] false) [1, 4, 8, 10, 11, 12, 24, 25, 26] 1)
 (.seq (.seq (.post (.region [
 oN (.mv 27 (.c (I 0)))] false) [1, 4, 8, 10, 11, 12, 24, 25, 26, 27] 1)
 (.cut qkq))
 (.cut qkr))))
 (.cut qks))) [1, 4, 8, 10, 11, 12, 24, 25] 1)
def qku : ICode :=
 (.post (.block 22 (.loop qkt)) [1, 4, 8, 10, 11, 12, 24] 1)
def qkv : ICode :=
 (.post (.region [
 oM 257 24,
 oN (.bin 258 .add 257 (.c (I 1))),
 oM 24 258] false) [1, 4, 8, 10, 11, 12, 24] 1)
def qkw : ICode :=
 (.post (.seq (.seq (.post (.region [
 oM 254 24,
 oM 255 1,
 oN (.bin 256 .leq 254 255)] false) [1, 4, 8, 10, 11, 12, 24, 256] 1)
 (.cond 256 .skip
 (.exit 20)))
 (.seq (.block 21 (.seq (.post (.region [
 oM 259 24,
 oN (.bin 260 .add 259 (.c (I 1))),
 oM 25 260] false) [1, 4, 8, 10, 11, 12, 24, 25] 1)
 (.cut qku)))
 (.cut qkv))) [1, 4, 8, 10, 11, 12, 24] 1)
def qkx : ICode :=
 (.post (.block 20 (.loop qkw)) [8, 10] 1)
def qky : ICode :=
 (.seq (.post (.region [
 oN (.load 317 true 2 10),
 oN (.store true 2 8 317)] false) [8] 1)
 .ret)
def q92 : ICode :=
 (.seq (.seq (.post (.region [
 oN (.mv 24 (.c (I 0)))] false) [1, 4, 8, 10, 11, 12, 24] 1)
 (.cut qkx))
 (.cut qky))
def qi : ICode :=
 (.seq (.seq (.post (.region [
 oM 215 3,
 oN (.un 216 .not 215)] false) [1, 4, 8, 9, 10, 11, 12, 216] 1)
 (.cond 216 (.seq (.post (.region [
 oN (.load 217 true 2 10),
 oN (.store true 2 8 217)] false) [8] 1)
 .ret)
 .skip))
 (.seq (.seq (.post (.region [
 oN (.mv 22 (.c (I 0)))] false) [1, 4, 8, 9, 10, 11, 12, 22] 1)
 (.cut q91))
 (.cut q92)))
def q2e : ICode :=
 (.seq (.seq (.post (.region [
 oF 180 4 6,
 oL 181 180,
 oN (.call (some 182) true 45 [181, (.c (I 1))]),
 oN (.un 183 .not 182)] false) [1, 3, 4, 8, 9, 10, 11, 12, 183] 1)
 (.cond 183 (.post (.seq (.post (.region [
 oN (.mv 20 (.c (.sl true 1 [])))] false) [1, 3, 4, 8, 9, 10, 11, 12, 20] 1)
 (.seq (.seq (.post (.region [
 oN (.mv 21 (.c (I 0)))] false) [1, 3, 4, 8, 9, 10, 11, 12, 20, 21] 1)
 (.cut q53))
 (.cut q2d))) [1, 3, 4, 8, 9, 10, 11, 12] 1)
 (.post .skip [1, 3, 4, 8, 9, 10, 11, 12] 1)))
 (.cut qi))
def q2f : ICode :=
 (.seq (.seq (.post (.region [
 oN (.mv 18 (.c (I 0)))] false) [1, 3, 4, 8, 9, 10, 11, 12, 18] 1)
 (.cut q52))
 (.cut q2e))
def q2g : ICode :=
 (.seq (.seq (.post (.region [
 oN (.mv 17 (.c (I 0)))] false) [1, 2, 3, 4, 8, 9, 10, 11, 12, 17] 1)
 (.cut q1j))
 (.cut q2f))
def q2h : ICode :=
 (.seq (.seq (.post (.region [
 oN (.mv 14 (.c (I 1)))] false) [1, 2, 3, 4, 8, 9, 10, 11, 12, 14] 1)
 (.cut q50))
 (.cut q2g))
def q54 : ICode :=
 (.seq (.post (.region [
 oN (.box 4 true false 0),
 oN (.alloc 8 false (.agg [I 0, .sl true 1 []]))] false) [1, 2, 3, 4, 8] 1)
 (.seq (.post (.region [
 oF 28 4 0,
 oF 29 28 0,
 oL 30 29,
 oF 31 4 0,
 oF 32 31 1,
 oL 33 32,
 oN (.len 34 0 33),
 oN (.bin 35 .add 30 34),
 oN (.alloc 9 true (I 0)),
 oN (.store false 1 9 35)] false) [1, 2, 3, 4, 8, 9] 1)
 (.seq (.post (.region [
 oL 36 9,
 oM 37 1,
 oN (.bin 38 .add 37 (.c (I 1))),
 oN (.bin 39 .mul 36 38),
 oN (.buildT 40 [I 0, .sl true 1 []] [(0, 1, 39)]),
 oN (.alloc 10 true (.agg [I 0, .sl true 1 []])),
 oN (.store true 2 10 40)] false) [1, 2, 3, 4, 8, 9, 10] 1)
 (.seq (.post (.region [
 oN (.mkfn 41 338 [10]),
 oM 11 41] false) [1, 2, 3, 4, 8, 9, 10, 11] 1)
 (.seq (.post (.region [
 oN (.mkfn 42 339 [9, 4]),
 oM 12 42] false) [1, 2, 3, 4, 8, 9, 10, 11, 12] 1)
 (.seq (.seq (.post (.region [
 oN (.mv 13 (.c (I 0)))] false) [1, 2, 3, 4, 8, 9, 10, 11, 12, 13] 1)
 (.cut q4y))
 (.cut q2h)))))))
def q55 : IFunc := { np := 4, res := [.cell 8 true 2], own := false, trunc := true, body := q54 }
/- 338: latchwork/latchworkref.StepClauses$1 -/
def q56 : ICode :=
 (.post (.region [
 oF 3 1 1,
 oN (.loadT 4 3),
 oM 5 0,
 oN (.buildSl 6 1 [5]),
 oN (.append 7 1 24 4 6),
 oF 8 1 1,
 oN (.store true 1 8 7)] false) [] 0)
def q57 : IFunc := { np := 2, res := [], own := false, trunc := false, body := q56 }
/- 339: latchwork/latchworkref.StepClauses$2 -/
def q93 : ICode :=
 (.seq (.post (.region [
 oN (.mv 6 (.c (I 0)))] false) [0, 1, 2, 3] 0)
 (.seq (.post (.region [
 oM 7 0,
 oL 8 2,
 oN (.bin 9 .mul 7 8),
 oN (.bin 10 .add 9 (.c (I 1))),
 oF 11 3 2,
 oL 12 11,
 oN (.bin 13 .add 10 12),
 oM 14 1,
 oN (.bin 15 .add 13 14),
 oM 6 15] false) [6] 0)
 .ret))
def q58 : IFunc := { np := 4, res := [.t 6], own := false, trunc := false, body := q93 }
/- 349: latchwork/latchworkref.SameModel -/
/- 351: latchwork/latchworkref.PrintTrace -/
/- 354: latchwork/latchworkref.samePairs -/
/- 355: latchwork/latchworkref.line -/
/- 368: latchwork/latchworkref.PrintModel -/
/- 370: latchwork/latchworkref.ParseModel -/
/- 372: latchwork/latchworkref.ParseTrace -/
/- 373: latchwork/latchworkref.SameTrace -/
/- 376: latchwork/latchworkref.CheckTrace -/
/- 377: latchwork/latchworkref.PlayOf -/
/- 379: latchwork/latchworkref.kindWord -/
/- 380: latchwork/latchworkref.Cut -/
/- 381: latchwork/latchworkref.Undigit -/
/- 385: latchwork/latchworkref.PrintClauses -/
end Go.Lw
end

/-! The code of package Search for the small machine. Written by program (gen.py). -/
section
set_option maxRecDepth 10000
namespace Go.Lw
open Go
/- 163: latchwork/search.Solve -/
/- 164: latchwork/search.Raw -/
def qkz : ICode :=
 (.seq (.post (.region [
 oN (.box 2 false false 0),
 oN (.alloc 4 false (.agg [I 0, .sl true 1 [], .sl true 1 []]))] false) [1, 2, 4] 2)
 (.seq (.post (.region [
 oN (.load 5 true 2 2),
 oM 6 1,
 oN (.call (some 7) false 169 [5, 6]),
 oN (.call (some 8) false 170 [7]),
 oN (.store true 3 4 8)] false) [4] 2)
 .ret))
def ql0 : IFunc := { np := 2, res := [.cell 4 true 3], own := false, trunc := false, body := qkz }
/- 166: latchwork/search.Is -/
/- 169: latchwork/search.begin -/
def ql1 : ICode :=
 (.post (.region [
 oN (.bin 82 .add 28 (.c (I 1))),
 oM 28 82] false) [6, 26, 27, 28] 0)
def ql2 : ICode :=
 (.post (.seq (.region [
 oN (.bin 29 .lss 28 27)] false)
 (.seq (.cond 29 .skip
 (.exit 0))
 (.seq (.post (.block 1 (.seq (.post (.region [
 oA 30 26 28,
 oL 31 30,
 oN (.alloc 8 true (.nils)),
 oN (.store true 1 8 31)] false) [6, 8, 26, 27, 28] 0)
 (.seq (.post (.region [
 oL 32 8,
 oN (.call (some 33) false 121 [32]),
 oN (.store true 1 8 33)] false) [6, 8, 26, 27, 28] 0)
 (.seq (.post (.region [
 oL 34 8,
 oN (.call (some 35) false 161 [34])] false) [6, 8, 26, 27, 28] 0)
 (.seq (.post (.region [
 oL 36 8,
 oN (.call (some 37) false 162 [36]),
 oN (.store true 1 8 37)] false) [6, 8, 26, 27, 28] 0)
 (.seq (.seq (.post (.region [
 oL 38 8,
 oN (.mkfn 39 171 [8]),
 oN (.call (some 40) false 172 [38, 39])] false) [6, 8, 26, 27, 28, 40] 0)
 (.cond 40 (.exit 1)
 .skip))
 (.seq (.post (.region [
 oM 41 6,
 oL 42 8,
 oN (.call (some 43) false 173 [41, 42]),
 oM 9 43] false) [6, 8, 9, 26, 27, 28] 0)
 (.block 2 (.seq (.post (.region [
 oL 45 8,
 oN (.len 46 0 45),
 oN (.bin 47 .eql 46 (.c (I 0))),
 oM 48 47,
  ⟨.load 49 false 1 8, some (48, false)⟩,
  ⟨.len 50 0 49, some (48, false)⟩,
  ⟨.bin 51 .eql 50 (.c (I 1)), some (48, false)⟩,
  ⟨.mv 52 51, some (48, false)⟩,
  ⟨.mv 53 6, some (52, true)⟩,
  ⟨.load 54 false 1 8, some (52, true)⟩,
  ⟨.iaddr 55 1 none 54 (.c (I 0)), some (52, true)⟩,
  ⟨.loadK 56 55, some (52, true)⟩,
  ⟨.call (some 57) true 174 [53, 56], some (52, true)⟩,
  ⟨.bin 58 .lss 57 (.c (I 0)), some (52, true)⟩,
  ⟨.pick 59 52 58 (.c (.bool false)), some (48, false)⟩,
 oN (.pick 60 48 (.c (.bool true)) 59),
 oM 44 60] false) [6, 8, 9, 26, 27, 28, 44] 0)
 (.cond 44 (.post (.post (.region [
 oM 61 6,
 oC 62 61,
 oF 63 62 12,
 oN (.store false 1 63 (.c (.bool true)))] false) [6, 26, 27, 28] 0) [6, 26, 27, 28] 0)
 (.post (.seq (.post (.region [
 oL 65 8,
 oN (.len 66 0 65),
 oN (.bin 67 .eql 66 (.c (I 1))),
 oM 68 67,
  ⟨.mv 69 6, some (68, true)⟩,
  ⟨.load 70 false 1 8, some (68, true)⟩,
  ⟨.iaddr 71 1 none 70 (.c (I 0)), some (68, true)⟩,
  ⟨.loadK 72 71, some (68, true)⟩,
  ⟨.call (some 73) true 174 [69, 72], some (68, true)⟩,
  ⟨.bin 74 .eql 73 (.c (I 0)), some (68, true)⟩,
 oN (.pick 75 68 74 (.c (.bool false))),
 oM 64 75] false) [6, 8, 9, 26, 27, 28, 64] 0)
 (.cond 64 (.post (.post (.region [
 oM 76 6,
 oL 77 8,
 oN (.iaddr 78 1 none 77 (.c (I 0))),
 oN (.loadK 79 78),
 oM 80 9,
 oN (.call (some 81) false 175 [76, 79, 80])] false) [6, 26, 27, 28] 0) [6, 26, 27, 28] 0)
 (.post .skip [6, 26, 27, 28] 0))) [6, 26, 27, 28] 0))))))))))) [6, 26, 27, 28] 0)
 (.cut ql1)))) [6, 26, 27, 28] 0)
def ql3 : ICode :=
 (.post (.block 0 (.loop ql2)) [6] 0)
def ql4 : ICode :=
 (.seq (.post (.region [
 oM 83 6,
 oM 4 83] false) [4] 0)
 .ret)
def ql5 : ICode :=
 (.seq (.post (.region [
 oN (.box 2 false false 0),
 oN (.mv 4 (.c (.nilp)))] false) [1, 2] 1)
 (.seq (.post (.region [
 oF 10 2 0,
 oL 11 10,
 oN (.bin 12 .add 11 (.c (I 1))),
 oM 5 12] false) [1, 2, 5] 1)
 (.seq (.post (.region [
 oF 13 2 0,
 oL 14 13,
 oN (.mkmap 15),
 oM 16 5,
 oN (.mkarr 17 1 8 (I 0) 16),
 oM 18 5,
 oN (.mkarr 19 1 8 (I 0) 18),
 oM 20 5,
 oN (.mkarr 21 1 8 (I 0) 20),
 oM 22 1,
 oN (.buildA 23 [I 0, .sl true 1 [], .nilm, .nils, .nils, .nils, .nils, .nils, I 0, I 0, I 0, .sl true 1 [], .bool false] [(0, 1, 14), (2, 1, 15), (3, 1, 17), (4, 1, 19), (5, 1, 21), (10, 1, 22)]),
 oN (.box 24 true true 23),
 oM 6 24] true) [2, 6] 1)
 (.seq (.seq (.post (.region [
 oF 25 2 1,
 oL 26 25,
 oN (.len 27 0 26),
 oN (.mv 28 (.c (I 0)))] false) [6, 26, 27, 28] 0)
 (.cut ql3))
 (.cut ql4)))))
def ql6 : IFunc := { np := 2, res := [.t 4], own := false, trunc := false, body := ql5 }
/- 170: (*latchwork/search.searcher).run -/
def ql7 : ICode :=
 (.post (.seq (.region [
 oN (.bin 28 .lss 27 26)] false)
 (.seq (.cond 28 .skip
 (.exit 2))
 (.seq (.block 3 (.seq (.post (.region [
 oM 29 27,
 oM 5 29] false) [0, 2, 4, 5, 26, 27] 1)
 (.post (.region [
 oM 30 4,
 oM 31 5,
 oM 32 0,
 oC 33 32,
 oF 34 33 3,
 oL 35 34,
 oM 36 5,
 oN (.bin 37 .add 36 (.c (I 1))),
 oA 38 35 37,
 oL 39 38,
 oN (.bin 40 .gtr 39 (.c (I 0))),
 oA 41 30 31,
 oN (.store false 1 41 40)] false) [0, 2, 4, 26, 27] 1)))
 (.post (.region [
 oN (.bin 42 .add 27 (.c (I 1))),
 oM 27 42] false) [0, 2, 4, 26, 27] 1)))) [0, 2, 4, 26, 27] 1)
def ql8 : ICode :=
 (.post (.block 2 (.loop ql7)) [2, 4] 1)
def ql9 : ICode :=
 (.seq (.post (.region [
 oM 43 4,
 oN (.buildT 44 [I 0, .sl true 1 [], .sl true 1 []] [(0, 1, (.c (I 1))), (1, 1, 43)]),
 oN (.store true 3 2 44)] false) [2] 1)
 .ret)
def qla : ICode :=
 (.seq (.seq (.post (.region [
 oM 45 0,
 oC 46 45,
 oF 47 46 7,
 oL 48 47,
 oN (.len 49 0 48),
 oN (.bin 50 .eql 49 (.c (I 0)))] false) [0, 2, 3, 50] 1)
 (.cond 50 (.seq (.post (.region [
 oM 51 0,
 oN (.call (some 52) false 176 [51]),
 oN (.store true 3 2 52)] false) [2] 1)
 .ret)
 .skip))
 (.seq (.seq (.post (.region [
 oM 53 0,
 oC 54 53,
 oF 55 54 10,
 oL 56 55,
 oN (.bin 57 .sub 56 (.c (I 1))),
 oC 58 53,
 oF 59 58 10,
 oN (.store false 1 59 57)] false) [0, 2, 3] 1)
 (.seq (.post (.region [
 oM 60 0,
 oC 61 60,
 oF 62 61 10,
 oL 63 62,
 oN (.bin 64 .lss 63 (.c (I 0)))] false) [0, 2, 3, 64] 1)
 (.cond 64 (.seq (.post (.region [
 oN (.buildT 65 [I 0, .sl true 1 [], .sl true 1 []] [(0, 1, (.c (I 3)))]),
 oN (.store true 3 2 65)] false) [2] 1)
 .ret)
 .skip)))
 (.seq (.post (.region [
 oM 67 0,
 oM 68 3,
 oN (.call (some 69) false 179 [67, 68]),
 oM 66 69,
 oN (.extract 70 66 0),
 oN (.extract 71 66 1),
 oN (.tk 6 70),
 oM 7 71] false) [0, 2, 6, 7] 1)
 (.seq (.seq (.post (.region [
 oM 72 6,
 oN (.len 73 0 72),
 oN (.bin 74 .gtr 73 (.c (I 200))),
 oM 75 74,
  ⟨.mv 76 0, some (75, false)⟩,
  ⟨.nilc 77 76, some (75, false)⟩,
  ⟨.faddr 78 77 11, some (75, false)⟩,
  ⟨.load 79 false 1 78, some (75, false)⟩,
  ⟨.len 80 0 79, some (75, false)⟩,
  ⟨.bin 81 .gtr 80 (.c (I 400000)), some (75, false)⟩,
 oN (.pick 82 75 (.c (.bool true)) 81)] false) [0, 2, 6, 7, 82] 1)
 (.cond 82 (.seq (.post (.region [
 oN (.buildT 83 [I 0, .sl true 1 [], .sl true 1 []] [(0, 1, (.c (I 3)))]),
 oN (.store true 3 2 83)] false) [2] 1)
 .ret)
 .skip))
 (.seq (.post (.region [
 oM 84 0,
 oM 85 0,
 oC 86 85,
 oF 87 86 11,
 oN (.loadTB 88 87 0 11),
 oM 89 6,
 oN (.callR (some 90) 121 [89] 0 11),
 oN (.buildSl 91 1 [90]),
 oN (.append 92 1 24 88 91),
 oC 93 84,
 oF 94 93 11,
 oN (.store true 1 94 92)] true) [0, 2, 6, 7] 1)
 (.seq (.post (.region [
 oM 95 0,
 oM 96 7,
 oN (.call (some 97) false 180 [95, 96])] false) [0, 2, 6] 1)
 (.post (.region [
 oM 98 0,
 oM 99 6,
 oN (.iaddr 100 1 none 99 (.c (I 0))),
 oN (.loadKB 101 100 6),
 oM 102 0,
 oM 103 6,
 oN (.callP (some 104) 173 [102, 103] [6]),
 oN (.call (some 105) false 175 [98, 101, 104])] true) [0, 2] 1)))))))
def qlb : ICode :=
 (.post (.block 1 (.seq (.post (.region [
 oM 14 0,
 oN (.call (some 15) false 177 [14]),
 oM 3 15] false) [0, 2, 3] 1)
 (.seq (.seq (.post (.region [
 oM 16 3,
 oN (.bin 17 .lss 16 (.c (I 0)))] false) [0, 2, 3, 17] 1)
 (.cond 17 (.seq (.seq (.post (.region [
 oM 18 0,
 oN (.call (some 19) false 178 [18])] false) [0, 2, 19] 1)
 (.cond 19 (.exit 1)
 .skip))
 (.seq (.post (.region [
 oM 20 0,
 oC 21 20,
 oF 22 21 0,
 oL 23 22,
 oN (.mksl 24 true 1 1 (.bool false) 23),
 oN (.tk 4 24)] false) [0, 2, 4] 1)
 (.seq (.seq (.post (.region [
 oM 25 4,
 oN (.len 26 0 25),
 oN (.mv 27 (.c (I 0)))] false) [0, 2, 4, 26, 27] 1)
 (.cut ql8))
 (.cut ql9))))
 .skip))
 (.cut qla)))) [0, 2, 11] 1)
def qlc : ICode :=
 (.post (.block 0 (.loop qlb)) [2] 1)
def qld : ICode :=
 (.seq (.region [
 oN (.alloc 2 false (.agg [I 0, .sl true 1 [], .sl true 1 []]))] false)
 (.seq (.seq (.post (.region [
 oM 8 0,
 oC 9 8,
 oF 10 9 12,
 oL 11 10] false) [0, 2, 11] 1)
 (.cond 11 (.seq (.post (.region [
 oM 12 0,
 oN (.call (some 13) false 176 [12]),
 oN (.store true 3 2 13)] false) [2] 1)
 .ret)
 .skip))
 (.cut qlc)))
def qle : IFunc := { np := 1, res := [.cell 2 true 3], own := false, trunc := false, body := qld }
/- 171: latchwork/search.begin$1 -/
def qlf : ICode :=
 (.seq (.post (.region [
 oN (.mv 3 (.c (.bool false)))] false) [0, 1] 0)
 (.seq (.post (.region [
 oL 4 1,
 oM 5 0,
 oN (.un 6 .neg 5),
 oN (.call (some 7) false 184 [4, 6]),
 oM 3 7] false) [3] 0)
 .ret))
def qlg : IFunc := { np := 2, res := [.t 3], own := false, trunc := false, body := qlf }
/- 173: (*latchwork/search.searcher).add -/
def qlh : ICode :=
 (.seq (.post (.region [
 oM 60 5,
 oM 4 60] false) [4] 0)
 .ret)
def qli : ICode :=
 (.seq (.post (.region [
 oN (.mv 4 (.c (I 0)))] false) [0, 1] 0)
 (.seq (.post (.region [
 oM 6 0,
 oC 7 6,
 oF 8 7 1,
 oL 9 8,
 oN (.len 10 0 9),
 oM 5 10] false) [0, 1, 5] 0)
 (.seq (.post (.region [
 oM 11 0,
 oM 12 0,
 oC 13 12,
 oF 14 13 1,
 oN (.loadT 15 14),
 oM 16 1,
 oN (.buildSl 17 1 [16]),
 oN (.append 18 1 24 15 17),
 oC 19 11,
 oF 20 19 1,
 oN (.store true 1 20 18)] false) [0, 1, 5] 0)
 (.seq (.seq (.post (.region [
 oM 21 1,
 oN (.len 22 0 21),
 oN (.bin 23 .gtr 22 (.c (I 1)))] false) [0, 1, 5, 23] 0)
 (.cond 23 (.post (.seq (.post (.region [
 oM 24 0,
 oC 25 24,
 oF 26 25 2,
 oL 27 26,
 oM 28 1,
 oN (.iaddr 29 1 none 28 (.c (I 0))),
 oN (.loadKB 30 29 1),
 oM 31 0,
 oC 32 31,
 oF 33 32 2,
 oL 34 33,
 oM 35 1,
 oN (.iaddr 36 1 none 35 (.c (I 0))),
 oN (.loadK 37 36),
 oN (.lookup 38 0 34 37 false (.nils)),
 oM 39 5,
 oN (.buildSl 40 1 [39]),
 oN (.appendP 41 8 38 40 [1]),
 oN (.mupd 0 27 30 41)] true) [0, 1, 5] 0)
 (.post (.region [
 oM 42 0,
 oC 43 42,
 oF 44 43 2,
 oL 45 44,
 oM 46 1,
 oN (.iaddr 47 1 none 46 (.c (I 1))),
 oN (.loadKB 48 47 1),
 oM 49 0,
 oC 50 49,
 oF 51 50 2,
 oL 52 51,
 oM 53 1,
 oN (.iaddr 54 1 none 53 (.c (I 1))),
 oN (.loadK 55 54),
 oN (.lookup 56 0 52 55 false (.nils)),
 oM 57 5,
 oN (.buildSl 58 1 [57]),
 oN (.appendP 59 8 56 58 [1]),
 oN (.mupd 0 45 48 59)] true) [5] 0)) [5] 0)
 (.post .skip [5] 0)))
 (.cut qlh)))))
def qlj : IFunc := { np := 2, res := [.t 4], own := false, trunc := false, body := qli }
/- 174: (*latchwork/search.searcher).is -/
def qlk : ICode :=
 (.seq (.post (.region [
 oN (.mv 4 (.c (I 0)))] false) [0, 1] 0)
 (.seq (.seq (.post (.region [
 oM 5 1,
 oN (.bin 6 .lss 5 (.c (I 0)))] false) [0, 1, 6] 0)
 (.cond 6 (.seq (.post (.region [
 oM 7 0,
 oC 8 7,
 oF 9 8 3,
 oL 10 9,
 oM 11 1,
 oN (.un 12 .neg 11),
 oA 13 10 12,
 oL 14 13,
 oN (.un 15 .neg 14),
 oM 4 15] false) [4] 0)
 .ret)
 .skip))
 (.seq (.post (.region [
 oM 16 0,
 oC 17 16,
 oF 18 17 3,
 oL 19 18,
 oM 20 1,
 oA 21 19 20,
 oL 22 21,
 oM 4 22] false) [4] 0)
 .ret)))
def qll : IFunc := { np := 2, res := [.t 4], own := false, trunc := true, body := qlk }
/- 175: (*latchwork/search.searcher).put -/
def qlm : ICode :=
 (.seq (.post (.region [
 oM 23 0,
 oC 24 23,
 oF 25 24 4,
 oL 26 25,
 oM 27 6,
 oM 28 0,
 oC 29 28,
 oF 30 29 5,
 oL 31 30,
 oM 32 6,
 oM 33 2,
 oM 34 0,
 oC 35 34,
 oF 36 35 7,
 oL 37 36,
 oN (.len 38 0 37),
 oA 39 26 27,
 oN (.store false 1 39 33),
 oA 40 31 32,
 oN (.store false 1 40 38)] true) [0, 1] 0)
 (.post (.region [
 oM 41 0,
 oM 42 0,
 oC 43 42,
 oF 44 43 6,
 oL 45 44,
 oM 46 1,
 oN (.buildSl 47 1 [46]),
 oN (.appendN 48 8 45 47),
 oC 49 41,
 oF 50 49 6,
 oN (.store true 1 50 48)] false) [] 0))
def qln : ICode :=
 (.seq (.post (.region [
 oM 7 1,
 oN (.call (some 8) true 187 [7]),
 oM 6 8] false) [0, 1, 2, 6] 0)
 (.seq (.post (.region [
 oM 9 0,
 oC 10 9,
 oF 11 10 3,
 oL 12 11,
 oM 13 6,
 oA 14 12 13,
 oN (.store false 1 14 (.c (I 1)))] false) [0, 1, 2, 6] 0)
 (.seq (.seq (.post (.region [
 oM 15 1,
 oN (.bin 16 .lss 15 (.c (I 0)))] false) [0, 1, 2, 6, 16] 0)
 (.cond 16 (.post (.post (.region [
 oM 17 0,
 oC 18 17,
 oF 19 18 3,
 oL 20 19,
 oM 21 6,
 oA 22 20 21,
 oN (.store false 1 22 (.c (I (-1))))] false) [0, 1, 2, 6] 0) [0, 1, 2, 6] 0)
 (.post .skip [0, 1, 2, 6] 0)))
 (.cut qlm))))
def qlo : IFunc := { np := 3, res := [], own := false, trunc := false, body := qln }
/- 176: (*latchwork/search.searcher).no -/
def qlp : ICode :=
 (.seq (.region [
 oN (.alloc 2 false (.agg [I 0, .sl true 1 [], .sl true 1 []]))] false)
 (.seq (.post (.region [
 oM 3 0,
 oC 4 3,
 oF 5 4 11,
 oN (.loadT 6 5),
 oN (.buildSl 7 1 [(.c (.nils))]),
 oN (.append 8 1 24 6 7),
 oN (.buildT 9 [I 0, .sl true 1 [], .sl true 1 []] [(0, 1, (.c (I 2))), (2, 1, 8)]),
 oN (.store true 3 2 9)] false) [2] 1)
 .ret))
def qlq : IFunc := { np := 1, res := [.cell 2 true 3], own := false, trunc := false, body := qlp }
/- 177: (*latchwork/search.searcher).spread -/
def qlr : ICode :=
 (.post (.seq (.seq (.post (.region [
 oM 5 0,
 oC 6 5,
 oF 7 6 8,
 oL 8 7,
 oM 9 0,
 oC 10 9,
 oF 11 10 6,
 oL 12 11,
 oN (.len 13 0 12),
 oN (.bin 14 .lss 8 13)] true) [0, 14] 0)
 (.cond 14 .skip
 (.exit 0)))
 (.block 1 (.seq (.post (.region [
 oM 15 0,
 oC 16 15,
 oF 17 16 6,
 oL 18 17,
 oM 19 0,
 oC 20 19,
 oF 21 20 8,
 oL 22 21,
 oA 23 18 22,
 oN (.loadK 24 23),
 oM 3 24] true) [0, 3] 0)
 (.seq (.post (.region [
 oM 25 0,
 oC 26 25,
 oF 27 26 8,
 oL 28 27,
 oN (.bin 29 .add 28 (.c (I 1))),
 oC 30 25,
 oF 31 30 8,
 oN (.store false 1 31 29)] false) [0, 3] 0)
 (.seq (.post (.region [
 oM 32 0,
 oM 33 3,
 oN (.un 34 .neg 33),
 oN (.call (some 35) false 188 [32, 34]),
 oM 4 35] false) [0, 4] 0)
 (.seq (.post (.region [
 oM 36 4,
 oN (.bin 37 .geq 36 (.c (I 0)))] false) [0, 4, 37] 0)
 (.cond 37 (.seq (.post (.region [
 oM 38 4,
 oM 2 38] false) [2] 0)
 .ret)
 .skip))))))) [0] 0)
def qls : ICode :=
 (.post (.block 0 (.loop qlr)) [] 0)
def qlt : ICode :=
 (.seq (.region [
 oN (.mv 2 (.c (I (-1))))] false)
 .ret)
def qlu : ICode :=
 (.seq (.post (.region [
 oN (.mv 2 (.c (I 0)))] false) [0] 0)
 (.seq (.cut qls)
 (.cut qlt)))
def qlv : IFunc := { np := 1, res := [.t 2], own := false, trunc := false, body := qlu }
/- 178: (*latchwork/search.searcher).choose -/
def qlw : ICode :=
 (.post (.seq (.seq (.post (.region [
 oM 9 3,
 oM 10 0,
 oC 11 10,
 oF 12 11 0,
 oL 13 12,
 oN (.bin 14 .leq 9 13)] false) [0, 3, 14] 0)
 (.cond 14 .skip
 (.exit 0)))
 (.seq (.block 1 (.seq (.post (.region [
 oM 17 0,
 oC 18 17,
 oF 19 18 3,
 oL 20 19,
 oM 21 3,
 oA 22 20 21,
 oL 23 22,
 oN (.bin 24 .eql 23 (.c (I 0)))] false) [0, 3, 24] 0)
 (.cond 24 (.seq (.post (.region [
 oM 25 0,
 oM 26 3,
 oC 27 25,
 oF 28 27 9,
 oN (.store false 1 28 26)] false) [0, 3] 0)
 (.seq (.post (.region [
 oM 29 0,
 oM 30 0,
 oC 31 30,
 oF 32 31 7,
 oL 33 32,
 oM 34 0,
 oC 35 34,
 oF 36 35 6,
 oL 37 36,
 oN (.len 38 0 37),
 oN (.buildSl 39 1 [38]),
 oN (.appendN 40 8 33 39),
 oC 41 29,
 oF 42 41 7,
 oN (.store true 1 42 40)] true) [0, 3] 0)
 (.seq (.post (.region [
 oM 43 0,
 oM 44 3,
 oN (.un 45 .neg 44),
 oN (.call (some 46) false 175 [43, 45, (.c (I (-1)))])] false) [] 0)
 (.seq (.region [
 oN (.mv 2 (.c (.bool true)))] false)
 .ret))))
 .skip)))
 (.post (.region [
 oM 15 3,
 oN (.bin 16 .add 15 (.c (I 1))),
 oM 3 16] false) [0, 3] 0))) [0, 3] 0)
def qlx : ICode :=
 (.post (.block 0 (.loop qlw)) [] 0)
def qly : ICode :=
 (.seq (.region [
 oN (.mv 2 (.c (.bool false)))] false)
 .ret)
def qlz : ICode :=
 (.seq (.post (.region [
 oN (.mv 2 (.c (.bool false)))] false) [0] 0)
 (.seq (.seq (.post (.region [
 oM 4 0,
 oC 5 4,
 oF 6 5 9,
 oL 7 6,
 oN (.maxi 8 [7, (.c (I 1))]),
 oM 3 8] false) [0, 3] 0)
 (.cut qlx))
 (.cut qly)))
def qm0 : IFunc := { np := 1, res := [.t 2], own := false, trunc := false, body := qlz }
/- 179: (*latchwork/search.searcher).learn -/
def qm1 : ICode :=
 (.post (.region [
 oN (.bin 75 .add 30 (.c (I 1))),
 oM 30 75] false) [2, 6, 7, 8, 9, 10, 28, 29, 30] 0)
def qm2 : ICode :=
 (.post (.seq (.region [
 oN (.bin 31 .lss 30 29)] false)
 (.seq (.cond 31 .skip
 (.exit 2))
 (.seq (.post (.block 3 (.seq (.post (.region [
 oA 32 28 30,
 oN (.loadK 33 32),
 oM 12 33] false) [2, 6, 7, 8, 9, 10, 12, 28, 29, 30] 0)
 (.seq (.post (.region [
 oM 34 12,
 oN (.call (some 35) true 187 [34]),
 oM 13 35] false) [2, 6, 7, 8, 9, 10, 12, 13, 28, 29, 30] 0)
 (.seq (.seq (.post (.region [
 oM 36 12,
 oM 37 10,
 oN (.bin 38 .eql 36 37),
 oM 39 38,
  ⟨.mv 40 6, some (39, false)⟩,
  ⟨.mv 41 13, some (39, false)⟩,
  ⟨.lookup 42 0 40 41 false (.bool false), some (39, false)⟩,
 oN (.pick 43 39 (.c (.bool true)) 42),
 oM 44 43,
  ⟨.load 45 false 1 2, some (44, false)⟩,
  ⟨.nilc 46 45, some (44, false)⟩,
  ⟨.faddr 47 46 5, some (44, false)⟩,
  ⟨.load 48 false 1 47, some (44, false)⟩,
  ⟨.mv 49 13, some (44, false)⟩,
  ⟨.iaddr 50 1 none 48 49, some (44, false)⟩,
  ⟨.load 51 false 1 50, some (44, false)⟩,
  ⟨.bin 52 .eql 51 (.c (I 0)), some (44, false)⟩,
 oN (.pick 53 44 (.c (.bool true)) 52)] false) [2, 6, 7, 8, 9, 10, 12, 13, 28, 29, 30, 53] 0)
 (.cond 53 (.exit 3)
 .skip))
 (.seq (.post (.region [
 oM 54 6,
 oM 55 13,
 oN (.mupd 0 54 55 (.c (.bool true)))] false) [2, 6, 7, 8, 9, 10, 12, 13, 28, 29, 30] 0)
 (.seq (.post (.region [
 oL 56 2,
 oC 57 56,
 oF 58 57 5,
 oL 59 58,
 oM 60 13,
 oA 61 59 60,
 oL 62 61,
 oL 63 2,
 oC 64 63,
 oF 65 64 7,
 oL 66 65,
 oN (.len 67 0 66),
 oN (.bin 68 .eql 62 67)] true) [2, 6, 7, 8, 9, 10, 12, 28, 29, 30, 68] 0)
 (.cond 68 (.post (.post (.region [
 oM 69 8,
 oN (.bin 70 .add 69 (.c (I 1))),
 oM 8 70] false) [2, 6, 7, 8, 9, 10, 28, 29, 30] 0) [2, 6, 7, 8, 9, 10, 28, 29, 30] 0)
 (.post (.post (.region [
 oM 71 7,
 oM 72 12,
 oN (.buildSl 73 1 [72]),
 oN (.appendN 74 8 71 73),
 oN (.tk 7 74)] false) [2, 6, 7, 8, 9, 10, 28, 29, 30] 0) [2, 6, 7, 8, 9, 10, 28, 29, 30] 0)))))))) [2, 6, 7, 8, 9, 10, 28, 29, 30] 0)
 (.cut qm1)))) [2, 6, 7, 8, 9, 10, 28, 29, 30] 0)
def qm3 : ICode :=
 (.post (.block 2 (.loop qm2)) [2, 6, 7, 8, 9] 0)
def qm4 : ICode :=
 (.post (.seq (.seq (.post (.region [
 oM 76 6,
 oL 77 2,
 oC 78 77,
 oF 79 78 6,
 oL 80 79,
 oM 81 9,
 oA 82 80 81,
 oN (.loadK 83 82),
 oN (.call (some 84) true 187 [83]),
 oN (.lookup 85 0 76 84 false (.bool false)),
 oN (.un 86 .not 85)] false) [2, 6, 7, 8, 9, 86] 0)
 (.cond 86 .skip
 (.exit 4)))
 (.block 5 (.post (.region [
 oM 87 9,
 oN (.bin 88 .sub 87 (.c (I 1))),
 oM 9 88] false) [2, 6, 7, 8, 9] 0))) [2, 6, 7, 8, 9] 0)
def qm5 : ICode :=
 (.post (.block 4 (.loop qm4)) [2, 6, 7, 8, 9] 0)
def qm6 : ICode :=
 (.seq (.post (.region [
 oL 89 2,
 oC 90 89,
 oF 91 90 6,
 oL 92 91,
 oM 93 9,
 oA 94 92 93,
 oN (.loadK 95 94),
 oM 10 95] false) [2, 6, 7, 8, 9, 10] 0)
 (.seq (.post (.region [
 oM 96 9,
 oN (.bin 97 .sub 96 (.c (I 1))),
 oM 9 97] false) [2, 6, 7, 8, 9, 10] 0)
 (.seq (.post (.region [
 oM 98 8,
 oN (.bin 99 .sub 98 (.c (I 1))),
 oM 8 99] false) [2, 6, 7, 8, 9, 10] 0)
 (.seq (.seq (.post (.region [
 oM 100 8,
 oN (.bin 101 .eql 100 (.c (I 0)))] false) [2, 6, 7, 8, 9, 10, 101] 0)
 (.cond 101 (.exit 0)
 .skip))
 (.post (.region [
 oL 102 2,
 oC 103 102,
 oF 104 103 4,
 oL 105 104,
 oM 106 10,
 oN (.call (some 107) true 187 [106]),
 oA 108 105 107,
 oL 109 108,
 oM 1 109] true) [1, 2, 6, 7, 8, 9, 10] 0)))))
def qm7 : ICode :=
 (.seq (.cut qm5)
 (.cut qm6))
def qm8 : ICode :=
 (.post (.block 1 (.seq (.seq (.post (.region [
 oL 22 2,
 oC 23 22,
 oF 24 23 1,
 oL 25 24,
 oM 26 1,
 oA 27 25 26,
 oL 28 27,
 oN (.len 29 0 28),
 oN (.mv 30 (.c (I 0)))] false) [2, 6, 7, 8, 9, 10, 28, 29, 30] 0)
 (.cut qm3))
 (.cut qm7))) [1, 2, 6, 7, 8, 9, 10] 0)
def qm9 : ICode :=
 (.post (.block 0 (.loop qm8)) [2, 7, 10] 0)
def qma : ICode :=
 (.seq (.post (.region [
 oM 126 10,
 oN (.un 127 .neg 126),
 oN (.buildSlK 128 [127]),
 oM 129 7,
 oN (.appendN 130 8 128 129),
 oM 131 14,
 oN (.tk 4 130),
 oM 5 131] false) [4, 5] 0)
 .ret)
def qmb : ICode :=
 (.seq (.post (.region [
 oM 110 7,
 oN (.mkfn 111 189 [2]),
 oN (.call (some 112) true 190 [110, 111])] false) [2, 7, 10] 0)
 (.seq (.region [
 oN (.mv 14 (.c (I 0)))] false)
 (.seq (.seq (.post (.region [
 oM 113 7,
 oN (.len 114 0 113),
 oN (.bin 115 .gtr 114 (.c (I 0)))] false) [2, 7, 10, 14, 115] 0)
 (.cond 115 (.post (.post (.region [
 oL 116 2,
 oC 117 116,
 oF 118 117 5,
 oL 119 118,
 oM 120 7,
 oN (.iaddr 121 1 none 120 (.c (I 0))),
 oN (.loadK 122 121),
 oN (.call (some 123) true 187 [122]),
 oA 124 119 123,
 oL 125 124,
 oM 14 125] true) [7, 10, 14] 0) [7, 10, 14] 0)
 (.post .skip [7, 10, 14] 0)))
 (.cut qma))))
def qmc : ICode :=
 (.seq (.post (.region [
 oN (.box 2 true false 0),
 oN (.mv 4 (.c (.nils))),
 oN (.mv 5 (.c (I 0)))] false) [1, 2] 0)
 (.seq (.post (.region [
 oN (.mkmap 15),
 oM 6 15] false) [1, 2, 6] 0)
 (.seq (.region [
 oN (.mv 7 (.c (.nils)))] false)
 (.seq (.post (.region [
 oL 16 2,
 oC 17 16,
 oF 18 17 6,
 oL 19 18,
 oN (.len 20 0 19),
 oN (.bin 21 .sub 20 (.c (I 1))),
 oN (.mv 8 (.c (I 0))),
 oM 9 21] true) [1, 2, 6, 7, 8, 9] 0)
 (.seq (.post (.region [
 oN (.mv 10 (.c (I 0)))] false) [1, 2, 6, 7, 8, 9, 10] 0)
 (.seq (.cut qm9)
 (.cut qmb)))))))
def qmd : IFunc := { np := 2, res := [.t 4, .t 5], own := false, trunc := false, body := qmc }
/- 180: (*latchwork/search.searcher).back -/
def qme : ICode :=
 (.post (.seq (.region [
 oN (.bin 27 .lss 26 25)] false)
 (.seq (.cond 27 .skip
 (.exit 0))
 (.seq (.block 1 (.seq (.post (.region [
 oA 28 24 26,
 oN (.loadK 29 28),
 oM 5 29] false) [0, 1, 5, 24, 25, 26] 0)
 (.post (.region [
 oM 30 0,
 oC 31 30,
 oF 32 31 3,
 oL 33 32,
 oM 34 5,
 oN (.call (some 35) true 187 [34]),
 oA 36 33 35,
 oN (.store false 1 36 (.c (I 0)))] true) [0, 1, 24, 25, 26] 0)))
 (.post (.region [
 oN (.bin 37 .add 26 (.c (I 1))),
 oM 26 37] false) [0, 1, 24, 25, 26] 0)))) [0, 1, 24, 25, 26] 0)
def qmf : ICode :=
 (.post (.block 0 (.loop qme)) [0, 1] 0)
def qmg : ICode :=
 (.seq (.post (.region [
 oM 38 0,
 oM 39 0,
 oC 40 39,
 oF 41 40 6,
 oL 42 41,
 oM 43 0,
 oC 44 43,
 oF 45 44 7,
 oL 46 45,
 oM 47 1,
 oA 48 46 47,
 oN (.loadK 49 48),
 oN (.slice 50 1 42 none (some 49)),
 oC 51 38,
 oF 52 51 6,
 oN (.store true 1 52 50)] true) [0, 1] 0)
 (.seq (.post (.region [
 oM 53 0,
 oM 54 0,
 oC 55 54,
 oF 56 55 7,
 oL 57 56,
 oM 58 1,
 oN (.slice 59 1 57 none (some 58)),
 oC 60 53,
 oF 61 60 7,
 oN (.store true 1 61 59)] false) [0] 0)
 (.seq (.post (.region [
 oM 62 0,
 oM 63 0,
 oC 64 63,
 oF 65 64 6,
 oL 66 65,
 oN (.len 67 0 66),
 oC 68 62,
 oF 69 68 8,
 oN (.store false 1 69 67)] false) [0] 0)
 (.post (.region [
 oM 70 0,
 oC 71 70,
 oF 72 71 9,
 oN (.store false 1 72 (.c (I 1)))] false) [] 0))))
def qmh : ICode :=
 (.seq (.seq (.post (.region [
 oM 6 1,
 oM 7 0,
 oC 8 7,
 oF 9 8 7,
 oL 10 9,
 oN (.len 11 0 10),
 oN (.bin 12 .geq 6 11)] false) [0, 1, 12] 0)
 (.cond 12 .ret
 .skip))
 (.seq (.seq (.post (.region [
 oM 13 0,
 oC 14 13,
 oF 15 14 6,
 oL 16 15,
 oM 17 0,
 oC 18 17,
 oF 19 18 7,
 oL 20 19,
 oM 21 1,
 oA 22 20 21,
 oN (.loadK 23 22),
 oN (.slice 24 1 16 (some 23) none),
 oN (.len 25 0 24),
 oN (.mv 26 (.c (I 0)))] true) [0, 1, 24, 25, 26] 0)
 (.cut qmf))
 (.cut qmg)))
def qmi : IFunc := { np := 2, res := [], own := false, trunc := false, body := qmh }
/- 187: latchwork/search.abs -/
def qmj : ICode :=
 (.seq (.post (.region [
 oN (.mv 2 (.c (I 0)))] false) [0] 0)
 (.seq (.post (.region [
 oM 3 0,
 oM 4 0,
 oN (.un 5 .neg 4),
 oN (.maxi 6 [3, 5]),
 oM 2 6] false) [2] 0)
 .ret))
def qmk : IFunc := { np := 1, res := [.t 2], own := false, trunc := true, body := qmj }
/- 188: (*latchwork/search.searcher).visit -/
def qml : ICode :=
 (.seq (.seq (.post (.region [
 oM 45 0,
 oM 46 9,
 oN (.iaddr 47 1 none 46 (.c (I 0))),
 oN (.loadK 48 47),
 oN (.call (some 49) true 174 [45, 48]),
 oN (.bin 50 .gtr 49 (.c (I 0)))] false) [0, 1, 5, 6, 7, 8, 9, 16, 17, 18, 50] 0)
 (.cond 50 (.seq (.post (.region [
 oM 51 5,
 oM 52 8,
 oN (.buildSl 53 1 [52]),
 oN (.appendN 54 8 51 53),
 oN (.tk 5 54)] false) [0, 1, 5, 6, 16, 17, 18] 0)
 (.exit 1))
 .skip))
 (.seq (.seq (.post (.region [
 oM 55 0,
 oM 56 8,
 oN (.call (some 57) false 191 [55, 56])] false) [0, 1, 5, 6, 7, 8, 9, 16, 17, 18, 57] 0)
 (.cond 57 (.exit 1)
 .skip))
 (.seq (.post (.region [
 oM 58 5,
 oM 59 8,
 oN (.buildSl 60 1 [59]),
 oN (.appendN 61 8 58 60),
 oN (.tk 5 61)] false) [0, 1, 5, 6, 7, 8, 9, 16, 17, 18] 0)
 (.seq (.seq (.post (.region [
 oM 62 0,
 oM 63 9,
 oN (.iaddr 64 1 none 63 (.c (I 0))),
 oN (.loadK 65 64),
 oN (.call (some 66) true 174 [62, 65]),
 oN (.bin 67 .lss 66 (.c (I 0)))] false) [0, 1, 5, 6, 7, 8, 9, 16, 17, 18, 67] 0)
 (.cond 67 (.seq (.post (.region [
 oM 68 0,
 oC 69 68,
 oF 70 69 2,
 oL 71 70,
 oM 72 1,
 oM 73 5,
 oM 74 6,
 oM 75 7,
 oN (.bin 76 .add 75 (.c (I 1))),
 oN (.slice 77 1 74 (some 76) none),
 oN (.appendN 78 8 73 77),
 oN (.mupd 0 71 72 78)] true) [8] 0)
 (.seq (.post (.region [
 oM 79 8,
 oM 4 79] false) [4] 0)
 .ret))
 .skip))
 (.post (.region [
 oM 80 0,
 oM 81 9,
 oN (.iaddr 82 1 none 81 (.c (I 0))),
 oN (.loadK 83 82),
 oM 84 8,
 oN (.call (some 85) false 175 [80, 83, 84])] false) [0, 1, 5, 6, 16, 17, 18] 0)))))
def qmm : ICode :=
 (.post (.region [
 oN (.bin 86 .add 18 (.c (I 1))),
 oM 18 86] false) [0, 1, 5, 6, 16, 17, 18] 0)
def qmn : ICode :=
 (.post (.seq (.region [
 oN (.bin 19 .lss 18 17)] false)
 (.seq (.cond 19 .skip
 (.exit 0))
 (.seq (.post (.block 1 (.seq (.post (.region [
 oM 20 18,
 oA 21 16 18,
 oN (.loadK 22 21),
 oM 7 20,
 oM 8 22] false) [0, 1, 5, 6, 7, 8, 16, 17, 18] 0)
 (.seq (.post (.region [
 oM 23 0,
 oC 24 23,
 oF 25 24 1,
 oL 26 25,
 oM 27 8,
 oA 28 26 27,
 oL 29 28,
 oN (.tk 9 29)] false) [0, 1, 5, 6, 7, 8, 9, 16, 17, 18] 0)
 (.seq (.seq (.post (.region [
 oM 30 9,
 oN (.iaddr 31 1 none 30 (.c (I 0))),
 oN (.loadK 32 31),
 oM 33 1,
 oN (.bin 34 .eql 32 33)] false) [0, 1, 5, 6, 7, 8, 9, 16, 17, 18, 34] 0)
 (.cond 34 (.post (.post (.region [
 oM 35 9,
 oM 36 9,
 oM 37 9,
 oN (.iaddr 38 1 none 37 (.c (I 1))),
 oN (.loadK 39 38),
 oM 40 9,
 oN (.iaddr 41 1 none 40 (.c (I 0))),
 oN (.loadK 42 41),
 oN (.iaddr 43 1 none 35 (.c (I 0))),
 oN (.storeK 43 39),
 oN (.iaddr 44 1 none 36 (.c (I 1))),
 oN (.storeK 44 42)] true) [0, 1, 5, 6, 7, 8, 9, 16, 17, 18] 0) [0, 1, 5, 6, 7, 8, 9, 16, 17, 18] 0)
 (.post .skip [0, 1, 5, 6, 7, 8, 9, 16, 17, 18] 0)))
 (.cut qml))))) [0, 1, 5, 6, 16, 17, 18] 0)
 (.cut qmm)))) [0, 1, 5, 6, 16, 17, 18] 0)
def qmo : ICode :=
 (.post (.block 0 (.loop qmn)) [0, 1, 5] 0)
def qmp : ICode :=
 (.seq (.post (.region [
 oM 87 0,
 oC 88 87,
 oF 89 88 2,
 oL 90 89,
 oM 91 1,
 oM 92 5,
 oN (.mupd 0 90 91 92)] false) [] 0)
 (.seq (.region [
 oN (.mv 4 (.c (I (-1))))] false)
 .ret))
def qmq : ICode :=
 (.seq (.post (.region [
 oN (.mv 4 (.c (I 0)))] false) [0, 1] 0)
 (.seq (.region [
 oN (.mv 5 (.c (.nils)))] false)
 (.seq (.post (.region [
 oM 10 0,
 oC 11 10,
 oF 12 11 2,
 oL 13 12,
 oM 14 1,
 oN (.lookup 15 0 13 14 false (.nils)),
 oN (.tk 6 15)] false) [0, 1, 5, 6] 0)
 (.seq (.seq (.post (.region [
 oM 16 6,
 oN (.len 17 0 16),
 oN (.mv 18 (.c (I 0)))] false) [0, 1, 5, 6, 16, 17, 18] 0)
 (.cut qmo))
 (.cut qmp)))))
def qmr : IFunc := { np := 2, res := [.t 4], own := false, trunc := false, body := qmq }
/- 189: (*latchwork/search.searcher).learn$1 -/
def qms : ICode :=
 (.seq (.post (.region [
 oN (.mv 5 (.c (I 0)))] false) [0, 1, 2] 0)
 (.seq (.post (.region [
 oL 6 2,
 oC 7 6,
 oF 8 7 5,
 oL 9 8,
 oM 10 1,
 oN (.call (some 11) true 187 [10]),
 oA 12 9 11,
 oL 13 12,
 oL 14 2,
 oC 15 14,
 oF 16 15 5,
 oL 17 16,
 oM 18 0,
 oN (.call (some 19) true 187 [18]),
 oA 20 17 19,
 oL 21 20,
 oN (.bin 22 .sub 13 21),
 oM 5 22] true) [5] 0)
 .ret))
def qmt : IFunc := { np := 3, res := [.t 5], own := false, trunc := false, body := qms }
/- 191: (*latchwork/search.searcher).other -/
def qmu : ICode :=
 (.post (.seq (.seq (.post (.region [
 oM 14 6,
 oM 15 5,
 oN (.len 16 0 15),
 oN (.bin 17 .lss 14 16)] false) [0, 1, 5, 6, 17] 0)
 (.cond 17 .skip
 (.exit 0)))
 (.seq (.block 1 (.seq (.post (.region [
 oM 20 0,
 oM 21 5,
 oM 22 6,
 oA 23 21 22,
 oN (.loadK 24 23),
 oN (.call (some 25) true 174 [20, 24]),
 oN (.bin 26 .geq 25 (.c (I 0)))] false) [0, 1, 5, 6, 26] 0)
 (.cond 26 (.seq (.post (.region [
 oM 27 5,
 oM 28 5,
 oM 29 6,
 oM 30 5,
 oM 31 6,
 oA 32 30 31,
 oN (.loadK 33 32),
 oM 34 5,
 oN (.iaddr 35 1 none 34 (.c (I 1))),
 oN (.loadK 36 35),
 oN (.iaddr 37 1 none 27 (.c (I 1))),
 oN (.storeK 37 33),
 oA 38 28 29,
 oN (.storeK 38 36)] true) [0, 1, 5] 0)
 (.seq (.post (.region [
 oM 39 0,
 oC 40 39,
 oF 41 40 2,
 oL 42 41,
 oM 43 5,
 oN (.iaddr 44 1 none 43 (.c (I 1))),
 oN (.loadKB 45 44 5),
 oM 46 0,
 oC 47 46,
 oF 48 47 2,
 oL 49 48,
 oM 50 5,
 oN (.iaddr 51 1 none 50 (.c (I 1))),
 oN (.loadK 52 51),
 oN (.lookup 53 0 49 52 false (.nils)),
 oM 54 1,
 oN (.buildSl 55 1 [54]),
 oN (.appendP 56 8 53 55 [5]),
 oN (.mupd 0 42 45 56)] true) [] 0)
 (.seq (.region [
 oN (.mv 4 (.c (.bool true)))] false)
 .ret)))
 .skip)))
 (.post (.region [
 oM 18 6,
 oN (.bin 19 .add 18 (.c (I 1))),
 oM 6 19] false) [0, 1, 5, 6] 0))) [0, 1, 5, 6] 0)
def qmv : ICode :=
 (.post (.block 0 (.loop qmu)) [] 0)
def qmw : ICode :=
 (.seq (.region [
 oN (.mv 4 (.c (.bool false)))] false)
 .ret)
def qmx : ICode :=
 (.seq (.post (.region [
 oN (.mv 4 (.c (.bool false)))] false) [0, 1] 0)
 (.seq (.post (.region [
 oM 7 0,
 oC 8 7,
 oF 9 8 1,
 oL 10 9,
 oM 11 1,
 oA 12 10 11,
 oL 13 12,
 oN (.tk 5 13)] false) [0, 1, 5] 0)
 (.seq (.seq (.post (.region [
 oN (.mv 6 (.c (I 2)))] false) [0, 1, 5, 6] 0)
 (.cut qmv))
 (.cut qmw))))
def qmy : IFunc := { np := 2, res := [.t 4], own := false, trunc := false, body := qmx }
end Go.Lw
end

/-! The code of package Unroll for the small machine. Written by program (gen.py). -/
section
set_option maxRecDepth 10000
namespace Go.Lw
open Go
/- 265: latchwork/unroll.Limit -/
def q94 : ICode :=
 (.seq (.post (.region [
 oN (.box 3 false false 0),
 oN (.alloc 6 false (.agg [I 0, .sl true 1 []])),
 oN (.mv 7 (.c (I 0)))] false) [1, 2, 3, 6] 2)
 (.seq (.seq (.post (.region [
 oF 8 3 0,
 oF 9 8 0,
 oL 10 9,
 oF 11 3 0,
 oF 12 11 1,
 oL 13 12,
 oN (.len 14 0 13),
 oN (.bin 15 .add 10 14),
 oM 16 1,
 oN (.bin 17 .add 16 (.c (I 1))),
 oN (.bin 18 .mul 15 17),
 oN (.bin 19 .gtr 18 (.c (I 200000)))] false) [2, 6, 19] 2)
 (.cond 19 (.seq (.post (.region [
 oN (.build 20 [I 0, .sl true 1 []] []),
 oN (.store true 2 6 20),
 oN (.mv 7 (.c (I 3)))] false) [6, 7] 2)
 .ret)
 .skip))
 (.seq (.post (.region [
 oM 21 2,
 oN (.callv (some 22) true 21 []),
 oN (.call (some 23) true 55 [22]),
 oN (.extract 24 23 0),
 oN (.extract 25 23 1),
 oN (.store true 2 6 24),
 oM 7 25] false) [6, 7] 2)
 .ret)))
def q1l : IFunc := { np := 3, res := [.cell 6 true 2, .t 7], own := false, trunc := true, body := q94 }
/- 266: latchwork/unroll.Try -/
def qmz : ICode :=
 (.post (.seq (.region [
 oN (.bin 51 .lss 50 49)] false)
 (.seq (.cond 51 .skip
 (.exit 0))
 (.seq (.block 1 (.seq (.post (.region [
 oM 52 50,
 oM 15 52] false) [4, 9, 12, 13, 14, 15, 49, 50] 5)
 (.post (.region [
 oF 53 13 1,
 oN (.loadL 54 53),
 oN (.load 55 true 5 4),
 oM 56 15,
 oM 57 14,
 oN (.bin 58 .mul 56 57),
 oN (.bin 59 .add (.c (I 1)) 58),
 oF 60 12 1,
 oL 61 60,
 oN (.call (some 62) true 280 [55, (.c (I 2)), 59, 61]),
 oN (.buildSl 63 1 [62]),
 oN (.append 64 1 24 54 63),
 oF 65 13 1,
 oN (.store true 1 65 64)] true) [4, 9, 12, 13, 14, 49, 50] 5)))
 (.post (.region [
 oN (.bin 66 .add 50 (.c (I 1))),
 oM 50 66] false) [4, 9, 12, 13, 14, 49, 50] 5)))) [4, 9, 12, 13, 14, 49, 50] 5)
def qn0 : ICode :=
 (.post (.block 0 (.loop qmz)) [9, 12, 13] 5)
def qn1 : ICode :=
 (.seq (.post (.region [
 oF 67 12 0,
 oL 68 67,
 oN (.load 69 true 2 13),
 oM 8 68,
 oN (.store true 2 9 69)] true) [8, 9] 2)
 .ret)
def qn2 : ICode :=
 (.seq (.post (.region [
 oN (.box 4 false false 0),
 oN (.box 5 true false 1),
 oN (.box 6 true false 2),
 oN (.mv 8 (.c (I 0))),
 oN (.alloc 9 false (.agg [.sl true 1 [], .sl true 1 []]))] false) [3, 4, 5, 6, 9] 2)
 (.seq (.post (.region [
 oN (.load 17 true 8 5),
 oL 18 6,
 oN (.mkfn 19 279 [5, 6]),
 oN (.call (some 20) true 265 [17, 18, 19]),
 oM 16 20,
 oN (.extract 21 16 0),
 oN (.extract 22 16 1),
 oN (.alloc 10 false (.agg [I 0, .sl true 1 []])),
 oN (.store true 2 10 21),
 oM 11 22] false) [3, 4, 5, 6, 9, 10, 11] 3)
 (.seq (.seq (.post (.region [
 oM 23 11,
 oN (.bin 24 .neq 23 (.c (I 0)))] false) [3, 4, 5, 6, 9, 10, 24] 3)
 (.cond 24 (.seq (.post (.region [
 oN (.build 25 [.sl true 1 [], .sl true 1 []] []),
 oN (.mv 8 (.c (I 3))),
 oN (.store true 2 9 25)] false) [8, 9] 2)
 .ret)
 .skip))
 (.seq (.post (.region [
 oN (.load 26 true 2 10),
 oM 27 3,
 oN (.call (some 28) false 164 [26, 27]),
 oN (.alloc 12 false (.agg [I 0, .sl true 1 [], .sl true 1 []])),
 oN (.store true 3 12 28)] false) [4, 5, 6, 9, 12] 4)
 (.seq (.region [
 oN (.alloc 13 false (.agg [.sl true 1 [], .sl true 1 []]))] false)
 (.seq (.seq (.post (.region [
 oF 29 12 0,
 oL 30 29,
 oN (.bin 31 .eql 30 (.c (I 1)))] false) [4, 5, 6, 9, 12, 13, 31] 5)
 (.cond 31 (.post (.seq (.post (.region [
 oF 32 5 0,
 oF 33 32 0,
 oL 34 33,
 oF 35 5 0,
 oF 36 35 1,
 oL 37 36,
 oN (.len 38 0 37),
 oN (.bin 39 .add 34 38),
 oM 14 39] false) [4, 5, 6, 9, 12, 13, 14] 5)
 (.seq (.post (.region [
 oN (.load 40 true 5 4),
 oF 41 5 2,
 oL 42 41,
 oN (.bin 43 .add (.c (I 1)) 42),
 oF 44 12 1,
 oL 45 44,
 oN (.call (some 46) true 280 [40, (.c (I 3)), 43, 45]),
 oF 47 13 0,
 oN (.store true 1 47 46)] false) [4, 6, 9, 12, 13, 14] 5)
 (.seq (.post (.region [
 oL 48 6,
 oN (.bin 49 .add 48 (.c (I 1))),
 oN (.mv 50 (.c (I 0)))] false) [4, 9, 12, 13, 14, 49, 50] 5)
 (.cut qn0)))) [9, 12, 13] 5)
 (.post .skip [9, 12, 13] 5)))
 (.cut qn1)))))))
def qn3 : IFunc := { np := 4, res := [.t 8, .cell 9 true 2], own := false, trunc := true, body := qn2 }
/- 276: latchwork/unroll.Raw -/
def q95 : ICode :=
 (.post (.seq (.region [
 oN (.bin 45 .lss 44 43)] false)
 (.seq (.cond 45 .skip
 (.exit 0))
 (.seq (.block 1 (.seq (.post (.region [
 oM 46 44,
 oM 8 46] false) [1, 2, 3, 7, 8, 43, 44] 1)
 (.post (.region [
 oM 47 7,
 oC 48 47,
 oF 49 48 0,
 oL 50 49,
 oF 51 3 0,
 oN (.load 52 true 2 51),
 oM 53 8,
 oM 54 7,
 oC 55 54,
 oF 56 55 9,
 oL 57 56,
 oN (.bin 58 .mul 53 57),
 oN (.call (some 59) false 53 [50, 52, 58])] true) [1, 2, 3, 7, 43, 44] 1)))
 (.post (.region [
 oN (.bin 60 .add 44 (.c (I 1))),
 oM 44 60] false) [1, 2, 3, 7, 43, 44] 1)))) [1, 2, 3, 7, 43, 44] 1)
def q59 : ICode :=
 (.post (.block 0 (.loop q95)) [1, 2, 3, 7] 1)
def q96 : ICode :=
 (.post (.seq (.seq (.post (.region [
 oM 61 9,
 oM 62 1,
 oN (.bin 63 .leq 61 62)] false) [1, 2, 3, 7, 9, 63] 1)
 (.cond 63 .skip
 (.exit 2)))
 (.seq (.block 3 (.post (.region [
 oM 66 7,
 oM 67 9,
 oN (.call (some 68) false 291 [66, 67])] false) [1, 2, 3, 7, 9] 1))
 (.post (.region [
 oM 64 9,
 oN (.bin 65 .add 64 (.c (I 1))),
 oM 9 65] false) [1, 2, 3, 7, 9] 1))) [1, 2, 3, 7, 9] 1)
def q2i : ICode :=
 (.post (.block 2 (.loop q96)) [1, 2, 3, 7] 1)
def qz : ICode :=
 (.post (.region [
 oN (.bin 93 .add 72 (.c (I 1))),
 oM 72 93] false) [1, 2, 3, 7, 70, 71, 72] 1)
def q97 : ICode :=
 (.post (.seq (.region [
 oN (.bin 73 .lss 72 71)] false)
 (.seq (.cond 73 .skip
 (.exit 4))
 (.seq (.block 5 (.seq (.post (.region [
 oM 74 72,
 oA 75 70 72,
 oL 76 75,
 oM 10 74,
 oM 11 76] false) [1, 2, 3, 7, 10, 11, 70, 71, 72] 1)
 (.seq (.post (.region [
 oM 77 2,
 oM 78 77,
  ⟨.mv 79 11, some (78, true)⟩,
  ⟨.bin 80 .geq 79 (.c (I 0)), some (78, true)⟩,
 oN (.pick 81 78 80 (.c (.bool false)))] false) [1, 2, 3, 7, 10, 11, 70, 71, 72, 81] 1)
 (.cond 81 (.post (.post (.region [
 oM 82 7,
 oC 83 82,
 oF 84 83 0,
 oL 85 84,
 oM 86 7,
 oM 87 10,
 oM 88 11,
 oN (.bin 89 .eql 88 (.c (I 1))),
 oN (.call (some 90) true 292 [86, (.c (I 0)), 87, 89]),
 oN (.buildSl 91 1 [90]),
 oN (.call (some 92) false 91 [85, 91])] true) [1, 2, 3, 7, 70, 71, 72] 1) [1, 2, 3, 7, 70, 71, 72] 1)
 (.post .skip [1, 2, 3, 7, 70, 71, 72] 1)))))
 (.cut qz)))) [1, 2, 3, 7, 70, 71, 72] 1)
def q5a : ICode :=
 (.post (.block 4 (.loop q97)) [1, 3, 7] 1)
def q98 : ICode :=
 (.post (.seq (.region [
 oN (.bin 103 .lss 102 101)] false)
 (.seq (.cond 103 .skip
 (.exit 8))
 (.seq (.block 9 (.seq (.post (.region [
 oA 104 100 102,
 oL 105 104,
 oM 14 105] false) [1, 3, 7, 12, 14, 95, 96, 100, 101, 102] 1)
 (.post (.region [
 oM 106 7,
 oC 107 106,
 oF 108 107 0,
 oL 109 108,
 oM 110 14,
 oM 111 12,
 oM 112 7,
 oC 113 112,
 oF 114 113 9,
 oL 115 114,
 oN (.bin 116 .mul 111 115),
 oN (.call (some 117) false 54 [109, 110, 116])] true) [1, 3, 7, 12, 95, 96, 100, 101, 102] 1)))
 (.post (.region [
 oN (.bin 118 .add 102 (.c (I 1))),
 oM 102 118] false) [1, 3, 7, 12, 95, 96, 100, 101, 102] 1)))) [1, 3, 7, 12, 95, 96, 100, 101, 102] 1)
def q5b : ICode :=
 (.post (.block 8 (.loop q98)) [1, 3, 7, 95, 96] 1)
def q2j : ICode :=
 (.post (.region [
 oN (.bin 119 .add 96 (.c (I 1))),
 oM 96 119] false) [1, 3, 7, 95, 96] 1)
def q99 : ICode :=
 (.post (.seq (.region [
 oN (.bin 97 .lss 96 95)] false)
 (.seq (.cond 97 .skip
 (.exit 6))
 (.seq (.block 7 (.seq (.post (.region [
 oM 98 96,
 oM 12 98] false) [1, 3, 7, 12, 95, 96] 1)
 (.seq (.post (.region [
 oF 99 3 7,
 oL 100 99,
 oN (.len 101 0 100),
 oN (.mv 102 (.c (I 0)))] false) [1, 3, 7, 12, 95, 96, 100, 101, 102] 1)
 (.cut q5b))))
 (.cut q2j)))) [1, 3, 7, 95, 96] 1)
def q5c : ICode :=
 (.post (.block 6 (.loop q99)) [1, 7] 0)
def q2k : ICode :=
 (.seq (.post (.region [
 oM 120 7,
 oM 121 1,
 oN (.call (some 122) false 293 [120, 121])] false) [7] 0)
 (.seq (.post (.region [
 oM 123 7,
 oM 6 123] false) [6] 0)
 .ret))
def q2l : ICode :=
 (.seq (.seq (.post (.region [
 oM 94 1,
 oN (.bin 95 .add 94 (.c (I 1))),
 oN (.mv 96 (.c (I 0)))] false) [1, 3, 7, 95, 96] 1)
 (.cut q5c))
 (.cut q2k))
def q2m : ICode :=
 (.seq (.seq (.post (.region [
 oF 69 3 4,
 oL 70 69,
 oN (.len 71 0 70),
 oN (.mv 72 (.c (I 0)))] false) [1, 2, 3, 7, 70, 71, 72] 1)
 (.cut q5a))
 (.cut q2l))
def q2n : ICode :=
 (.seq (.seq (.post (.region [
 oN (.mv 9 (.c (I 1)))] false) [1, 2, 3, 7, 9] 1)
 (.cut q2i))
 (.cut q2m))
def q9a : ICode :=
 (.seq (.post (.region [
 oN (.box 3 false false 0),
 oN (.mv 6 (.c (.nilp)))] false) [1, 2, 3] 1)
 (.seq (.post (.region [
 oN (.build 15 [I 0, .sl true 1 []] []),
 oN (.box 16 true true 15),
 oN (.load 17 true 8 3),
 oF 18 3 0,
 oF 19 18 0,
 oL 20 19,
 oF 21 3 0,
 oF 22 21 1,
 oL 23 22,
 oN (.len 24 0 23),
 oN (.bin 25 .add 20 24),
 oN (.buildT 26 [.nilp, I 0, .sl true 2 [], I 0, I 0, .sl true 1 [], .sl true 1 [], .sl true 1 [], .sl true 1 [], I 0] [(0, 1, 16), (1, 8, 17), (9, 1, 25)]),
 oN (.box 27 true true 26),
 oM 7 27] false) [1, 2, 3, 7] 1)
 (.seq (.post (.region [
 oM 28 7,
 oC 29 28,
 oF 30 29 0,
 oL 31 30,
 oM 32 7,
 oC 33 32,
 oF 34 33 9,
 oL 35 34,
 oM 36 1,
 oN (.bin 37 .add 36 (.c (I 1))),
 oN (.bin 38 .mul 35 37),
 oC 39 31,
 oF 40 39 0,
 oF 41 40 0,
 oN (.store false 1 41 38)] true) [1, 2, 3, 7] 1)
 (.seq (.seq (.post (.region [
 oM 42 1,
 oN (.bin 43 .add 42 (.c (I 1))),
 oN (.mv 44 (.c (I 0)))] false) [1, 2, 3, 7, 43, 44] 1)
 (.cut q59))
 (.cut q2n)))))
def q5d : IFunc := { np := 3, res := [.t 6], own := false, trunc := false, body := q9a }
/- 279: latchwork/unroll.Try$1 -/
def qn4 : ICode :=
 (.seq (.region [
 oN (.alloc 2 false (.agg [I 0, .sl true 1 []]))] false)
 (.seq (.post (.region [
 oN (.load 3 true 8 0),
 oL 4 1,
 oN (.call (some 5) false 276 [3, 4, (.c (.bool true))]),
 oC 6 5,
 oF 7 6 0,
 oL 8 7,
 oC 9 8,
 oF 10 9 0,
 oN (.load 11 true 2 10),
 oN (.store true 2 2 11)] false) [2] 1)
 .ret))
def qn5 : IFunc := { np := 2, res := [.cell 2 true 2], own := false, trunc := true, body := qn4 }
/- 280: latchwork/unroll.words -/
def qn6 : ICode :=
 (.post (.region [
 oN (.bin 43 .add 29 (.c (I 1))),
 oM 29 43] false) [2, 3, 4, 9, 11, 12, 17, 18, 19, 28, 29] 1)
def qn7 : ICode :=
 (.post (.seq (.region [
 oN (.bin 30 .lss 29 28)] false)
 (.seq (.cond 30 .skip
 (.exit 2))
 (.seq (.block 3 (.seq (.post (.region [
 oM 31 29,
 oM 13 31] false) [2, 3, 4, 9, 11, 12, 13, 17, 18, 19, 28, 29] 1)
 (.seq (.post (.region [
 oM 32 3,
 oM 33 2,
 oM 34 13,
 oN (.bin 35 .add 33 34),
 oN (.bin 36 .sub 35 (.c (I 1))),
 oA 37 32 36,
 oL 38 37] false) [2, 3, 4, 9, 11, 12, 13, 17, 18, 19, 28, 29, 38] 1)
 (.cond 38 (.post (.post (.region [
 oM 39 12,
 oM 40 13,
 oN (.bin 41 .shl (.c (I 1)) 40),
 oN (.bin 42 .or 39 41),
 oM 12 42] false) [2, 3, 4, 9, 11, 12, 17, 18, 19, 28, 29] 1) [2, 3, 4, 9, 11, 12, 17, 18, 19, 28, 29] 1)
 (.post .skip [2, 3, 4, 9, 11, 12, 17, 18, 19, 28, 29] 1)))))
 (.cut qn6)))) [2, 3, 4, 9, 11, 12, 17, 18, 19, 28, 29] 1)
def qn8 : ICode :=
 (.post (.block 2 (.loop qn7)) [2, 3, 4, 9, 11, 12, 17, 18, 19] 1)
def qn9 : ICode :=
 (.seq (.post (.region [
 oM 44 2,
 oF 45 4 0,
 oL 46 45,
 oM 47 11,
 oN (.iaddr 48 6 none 46 47),
 oF 49 48 1,
 oL 50 49,
 oN (.bin 51 .add 44 50),
 oM 2 51] false) [2, 3, 4, 9, 12, 17, 18, 19] 1)
 (.post (.region [
 oN (.tk 52 9),
 oM 53 12,
 oN (.buildSl 54 1 [53]),
 oN (.append 55 1 8 52 54),
 oN (.tk 9 55)] false) [2, 3, 4, 9, 17, 18, 19] 1))
def qna : ICode :=
 (.post (.region [
 oN (.bin 56 .add 19 (.c (I 1))),
 oM 19 56] false) [2, 3, 4, 9, 17, 18, 19] 1)
def qnb : ICode :=
 (.post (.seq (.region [
 oN (.bin 20 .lss 19 18)] false)
 (.seq (.cond 20 .skip
 (.exit 0))
 (.seq (.block 1 (.seq (.post (.region [
 oA 21 17 19,
 oL 22 21,
 oM 11 22] false) [2, 3, 4, 9, 11, 17, 18, 19] 1)
 (.seq (.region [
 oN (.mv 12 (.c (I 0)))] false)
 (.seq (.seq (.post (.region [
 oF 23 4 0,
 oL 24 23,
 oM 25 11,
 oN (.iaddr 26 6 none 24 25),
 oF 27 26 1,
 oL 28 27,
 oN (.mv 29 (.c (I 0)))] false) [2, 3, 4, 9, 11, 12, 17, 18, 19, 28, 29] 1)
 (.cut qn8))
 (.cut qn9)))))
 (.cut qna)))) [2, 3, 4, 9, 17, 18, 19] 1)
def qnc : ICode :=
 (.post (.block 0 (.loop qnb)) [9] 0)
def qnd : ICode :=
 (.seq (.post (.region [
 oM 57 9,
 oN (.tk 8 57)] false) [8] 0)
 .ret)
def qne : ICode :=
 (.seq (.post (.region [
 oN (.box 4 false false 0),
 oN (.mv 8 (.c (.sl true 1 [])))] false) [1, 2, 3, 4] 1)
 (.seq (.post (.region [
 oN (.buildSl 14 1 []),
 oN (.tk 9 14)] false) [1, 2, 3, 4, 9] 1)
 (.seq (.seq (.post (.region [
 oN (.load 15 true 5 4),
 oM 16 1,
 oN (.call (some 17) true 101 [15, 16]),
 oN (.len 18 0 17),
 oN (.mv 19 (.c (I 0)))] false) [2, 3, 4, 9, 17, 18, 19] 1)
 (.cut qnc))
 (.cut qnd))))
def qnf : IFunc := { np := 4, res := [.t 8], own := false, trunc := true, body := qne }
/- 291: (*latchwork/unroll.Unroller).bind -/
def q1m : ICode :=
 (.post (.region [
 oN (.bin 64 .add 14 (.c (I 1))),
 oM 14 64] false) [0, 1, 12, 13, 14] 0)
def q9b : ICode :=
 (.post (.seq (.region [
 oN (.bin 15 .lss 14 13)] false)
 (.seq (.cond 15 .skip
 (.exit 0))
 (.seq (.post (.block 1 (.seq (.post (.region [
 oM 16 14,
 oA 17 12 14,
 oL 18 17,
 oM 4 16,
 oM 5 18] false) [0, 1, 4, 5, 12, 13, 14] 0)
 (.seq (.post (.region [
 oM 19 0,
 oM 20 1,
 oM 21 4,
 oN (.call (some 22) true 292 [19, 20, 21, (.c (.bool true))]),
 oM 6 22] false) [0, 1, 4, 5, 6, 12, 13, 14] 0)
 (.seq (.seq (.post (.region [
 oM 23 5,
 oN (.bin 24 .lss 23 (.c (I 2)))] false) [0, 1, 4, 5, 6, 12, 13, 14, 24] 0)
 (.cond 24 (.seq (.post (.region [
 oM 25 0,
 oC 26 25,
 oF 27 26 0,
 oL 28 27,
 oM 29 0,
 oM 30 1,
 oM 31 4,
 oM 32 5,
 oN (.bin 33 .eql 32 (.c (I 1))),
 oN (.call (some 34) true 292 [29, 30, 31, 33]),
 oN (.buildSl 35 1 [34]),
 oN (.call (some 36) false 91 [28, 35])] true) [0, 1, 12, 13, 14] 0)
 (.exit 1))
 .skip))
 (.seq (.post (.region [
 oM 37 5,
 oM 38 1,
 oN (.bin 39 .sub 38 (.c (I 1))),
 oM 40 0,
 oC 41 40,
 oF 42 41 9,
 oL 43 42,
 oN (.bin 44 .mul 39 43),
 oN (.call (some 45) true 90 [37, 44]),
 oM 7 45] false) [0, 1, 6, 7, 12, 13, 14] 0)
 (.seq (.post (.region [
 oM 46 0,
 oC 47 46,
 oF 48 47 0,
 oL 49 48,
 oM 50 6,
 oN (.un 51 .neg 50),
 oM 52 7,
 oN (.buildSl 53 1 [51, 52]),
 oN (.call (some 54) false 91 [49, 53])] false) [0, 1, 6, 7, 12, 13, 14] 0)
 (.post (.region [
 oM 55 0,
 oC 56 55,
 oF 57 56 0,
 oL 58 57,
 oM 59 6,
 oM 60 7,
 oN (.un 61 .neg 60),
 oN (.buildSl 62 1 [59, 61]),
 oN (.call (some 63) false 91 [58, 62])] false) [0, 1, 12, 13, 14] 0))))))) [0, 1, 12, 13, 14] 0)
 (.cut q1m)))) [0, 1, 12, 13, 14] 0)
def q5e : ICode :=
 (.post (.block 0 (.loop q9b)) [] 0)
def q9c : ICode :=
 (.seq (.post (.region [
 oM 8 0,
 oC 9 8,
 oF 10 9 1,
 oF 11 10 5,
 oL 12 11,
 oN (.len 13 0 12),
 oN (.mv 14 (.c (I 0)))] false) [0, 1, 12, 13, 14] 0)
 (.cut q5e))
def q5f : IFunc := { np := 2, res := [], own := false, trunc := false, body := q9c }
/- 292: (*latchwork/unroll.Unroller).State -/
def q9d : ICode :=
 (.seq (.post (.region [
 oN (.mv 8 (.c (I 0)))] false) [0, 1, 2, 3] 0)
 (.seq (.post (.region [
 oM 10 1,
 oM 11 0,
 oC 12 11,
 oF 13 12 9,
 oL 14 13,
 oN (.bin 15 .mul 10 14),
 oN (.bin 16 .add 15 (.c (I 1))),
 oM 17 0,
 oC 18 17,
 oF 19 18 1,
 oF 20 19 2,
 oL 21 20,
 oN (.bin 22 .add 16 21),
 oM 23 2,
 oN (.bin 24 .add 22 23),
 oM 9 24] true) [3, 9] 0)
 (.seq (.seq (.post (.region [
 oM 25 3,
 oN (.un 26 .not 25)] false) [9, 26] 0)
 (.cond 26 (.seq (.post (.region [
 oM 27 9,
 oN (.un 28 .neg 27),
 oM 8 28] false) [8] 0)
 .ret)
 .skip))
 (.seq (.post (.region [
 oM 29 9,
 oM 8 29] false) [8] 0)
 .ret))))
def q1n : IFunc := { np := 4, res := [.t 8], own := false, trunc := true, body := q9d }
/- 293: (*latchwork/unroll.Unroller).bad -/
def q1o : ICode :=
 (.post (.region [
 oN (.bin 34 .add 14 (.c (I 1))),
 oM 14 34] false) [0, 1, 4, 12, 13, 14] 0)
def q9e : ICode :=
 (.post (.seq (.region [
 oN (.bin 15 .lss 14 13)] false)
 (.seq (.cond 15 .skip
 (.exit 0))
 (.seq (.block 1 (.seq (.post (.region [
 oA 16 12 14,
 oL 17 16,
 oM 6 17] false) [0, 1, 4, 6, 12, 13, 14] 0)
 (.seq (.region [
 oM 18 6] false)
 (.block 2 (.seq (.post (.region [
 oN (.bin 31 .eql 18 (.c (I 0))),
 oM 30 31] false) [0, 1, 4, 6, 12, 13, 14, 18, 30] 0)
 (.cond 30 (.post .skip [0, 1, 4, 12, 13, 14] 0)
 (.post (.seq (.post (.region [
 oN (.bin 33 .eql 18 (.c (I 1))),
 oM 32 33] false) [0, 1, 4, 6, 12, 13, 14, 32] 0)
 (.cond 32 .ret
 (.post (.region [
 oN (.tk 19 4),
 oM 20 6,
 oM 21 1,
 oM 22 0,
 oC 23 22,
 oF 24 23 9,
 oL 25 24,
 oN (.bin 26 .mul 21 25),
 oN (.call (some 27) true 90 [20, 26]),
 oN (.buildSl 28 1 [27]),
 oN (.append 29 1 8 19 28),
 oN (.tk 4 29)] false) [0, 1, 4, 12, 13, 14] 0))) [0, 1, 4, 12, 13, 14] 0)))))))
 (.cut q1o)))) [0, 1, 4, 12, 13, 14] 0)
def q2o : ICode :=
 (.post (.block 0 (.loop q9e)) [0, 4] 0)
def q5g : ICode :=
 (.post (.region [
 oM 35 0,
 oC 36 35,
 oF 37 36 0,
 oL 38 37,
 oM 39 4,
 oN (.call (some 40) false 91 [38, 39])] false) [] 0)
def q9f : ICode :=
 (.seq (.post (.region [
 oN (.buildSl 7 1 []),
 oN (.tk 4 7)] false) [0, 1, 4] 0)
 (.seq (.seq (.post (.region [
 oM 8 0,
 oC 9 8,
 oF 10 9 1,
 oF 11 10 6,
 oL 12 11,
 oN (.len 13 0 12),
 oN (.mv 14 (.c (I 0)))] false) [0, 1, 4, 12, 13, 14] 0)
 (.cut q2o))
 (.cut q5g)))
def q1p : IFunc := { np := 2, res := [], own := false, trunc := false, body := q9f }
/- 329: latchwork/unroll.Clauses -/
def q9g : ICode :=
 (.seq (.post (.region [
 oN (.box 3 true false 0),
 oN (.box 4 true false 1),
 oN (.box 5 true false 2),
 oN (.alloc 6 false (.agg [I 0, .sl true 1 []])),
 oN (.mv 7 (.c (I 0)))] false) [3, 4, 5, 6] 1)
 (.seq (.seq (.post (.region [
 oN (.load 9 true 8 3),
 oL 10 4,
 oL 11 5,
 oN (.call (some 12) true 336 [9, 10, 11]),
 oM 8 12] false) [3, 4, 5, 6, 8] 1)
 (.seq (.post (.region [
 oM 13 8,
 oN (.bin 14 .neq 13 (.c (I 0)))] false) [3, 4, 5, 6, 8, 14] 1)
 (.cond 14 (.seq (.post (.region [
 oN (.build 15 [I 0, .sl true 1 []] []),
 oM 16 8,
 oN (.store true 2 6 15),
 oM 7 16] false) [6, 7] 1)
 .ret)
 .skip)))
 (.seq (.post (.region [
 oN (.load 17 true 8 3),
 oL 18 4,
 oN (.mkfn 19 337 [3, 4, 5]),
 oN (.call (some 20) true 265 [17, 18, 19]),
 oN (.extract 21 20 0),
 oN (.extract 22 20 1),
 oN (.store true 2 6 21),
 oM 7 22] false) [6, 7] 1)
 .ret)))
def q1q : IFunc := { np := 3, res := [.cell 6 true 2, .t 7], own := false, trunc := true, body := q9g }
/- 336: latchwork/unroll.Ready -/
def q9h : ICode :=
 (.post (.seq (.region [
 oN (.bin 25 .lss 24 23)] false)
 (.seq (.cond 25 .skip
 (.exit 0))
 (.seq (.block 1 (.seq (.post (.region [
 oA 26 22 24,
 oL 27 26,
 oM 9 27] false) [2, 9, 22, 23, 24] 0)
 (.seq (.post (.region [
 oM 28 2,
 oM 29 28,
  ⟨.mv 30 9, some (29, true)⟩,
  ⟨.bin 31 .gtr 30 (.c (I 1)), some (29, true)⟩,
 oN (.pick 32 29 31 (.c (.bool false)))] false) [2, 22, 23, 24, 32] 0)
 (.cond 32 (.seq (.post (.region [
 oN (.mv 6 (.c (I 7)))] false) [6] 0)
 .ret)
 .skip))))
 (.post (.region [
 oN (.bin 33 .add 24 (.c (I 1))),
 oM 24 33] false) [2, 22, 23, 24] 0)))) [2, 22, 23, 24] 0)
def q5h : ICode :=
 (.post (.block 0 (.loop q9h)) [] 0)
def q5i : ICode :=
 (.seq (.region [
 oN (.mv 6 (.c (I 0)))] false)
 .ret)
def q5j : ICode :=
 (.seq (.post (.region [
 oN (.box 3 false false 0),
 oN (.mv 6 (.c (I 0)))] false) [1, 2, 3] 1)
 (.seq (.seq (.post (.region [
 oN (.load 10 true 8 3),
 oN (.call (some 11) true 212 [10]),
 oM 7 11] false) [1, 2, 3, 7] 1)
 (.seq (.post (.region [
 oM 12 7,
 oN (.bin 13 .neq 12 (.c (I 0)))] false) [1, 2, 3, 7, 13] 1)
 (.cond 13 (.seq (.post (.region [
 oM 14 7,
 oM 6 14] false) [6] 0)
 .ret)
 .skip)))
 (.seq (.seq (.post (.region [
 oM 15 1,
 oN (.bin 16 .lss 15 (.c (I 0))),
 oM 17 16,
  ⟨.mv 18 1, some (17, false)⟩,
  ⟨.bin 19 .gtr 18 (.c (I 40)), some (17, false)⟩,
 oN (.pick 20 17 (.c (.bool true)) 19)] false) [2, 3, 20] 1)
 (.cond 20 (.seq (.post (.region [
 oN (.mv 6 (.c (I 3)))] false) [6] 0)
 .ret)
 .skip))
 (.seq (.seq (.post (.region [
 oF 21 3 4,
 oL 22 21,
 oN (.len 23 0 22),
 oN (.mv 24 (.c (I 0)))] false) [2, 22, 23, 24] 0)
 (.cut q5h))
 (.cut q5i)))))
def q5k : IFunc := { np := 3, res := [.t 6], own := false, trunc := true, body := q5j }
/- 337: latchwork/unroll.Clauses$1 -/
def q9i : ICode :=
 (.seq (.region [
 oN (.alloc 3 false (.agg [I 0, .sl true 1 []]))] false)
 (.seq (.post (.region [
 oN (.load 4 true 8 0),
 oL 5 1,
 oL 6 2,
 oN (.call (some 7) false 276 [4, 5, 6]),
 oC 8 7,
 oF 9 8 0,
 oL 10 9,
 oC 11 10,
 oF 12 11 0,
 oN (.load 13 true 2 12),
 oN (.store true 2 3 13)] false) [3] 1)
 .ret))
def q5l : IFunc := { np := 3, res := [.cell 3 true 2], own := false, trunc := true, body := q9i }
/- 340: latchwork/unroll.Find -/
def qng : ICode :=
 (.post (.seq (.region [
 oN (.bin 40 .lss 39 38)] false)
 (.seq (.cond 40 .skip
 (.exit 0))
 (.seq (.block 1 (.seq (.post (.region [
 oM 41 39,
 oM 11 41] false) [2, 3, 6, 10, 11, 38, 39] 3)
 (.seq (.post (.region [
 oN (.load 43 true 5 3),
 oN (.load 44 true 8 10),
 oM 45 11,
 oM 46 2,
 oN (.call (some 47) true 266 [43, 44, 45, 46]),
 oM 42 47,
 oN (.extract 48 42 0),
 oN (.extract 49 42 1),
 oN (.alloc 13 false (.agg [.sl true 1 [], .sl true 1 []])),
 oM 12 48,
 oN (.store true 2 13 49)] false) [2, 3, 6, 10, 11, 12, 13, 38, 39] 4)
 (.seq (.post (.region [
 oM 50 12] false) [2, 3, 6, 10, 11, 13, 38, 39, 50] 4)
 (.block 2 (.seq (.post (.region [
 oN (.bin 52 .eql 50 (.c (I 1))),
 oM 51 52] false) [2, 3, 6, 10, 11, 13, 38, 39, 50, 51] 4)
 (.cond 51 (.seq (.post (.region [
 oN (.load 53 true 2 13),
 oM 54 11,
 oN (.store true 2 6 53),
 oM 7 54,
 oN (.mv 8 (.c (I 0)))] false) [6, 7, 8] 2)
 .ret)
 (.seq (.post (.region [
 oN (.bin 56 .eql 50 (.c (I 3))),
 oM 55 56] false) [2, 3, 6, 10, 38, 39, 55] 3)
 (.cond 55 (.seq (.post (.region [
 oN (.build 57 [.sl true 1 [], .sl true 1 []] []),
 oN (.store true 2 6 57),
 oN (.mv 7 (.c (I 0))),
 oN (.mv 8 (.c (I 8)))] false) [6, 7, 8] 2)
 .ret)
 .skip)))))))))
 (.post (.region [
 oN (.bin 58 .add 39 (.c (I 1))),
 oM 39 58] false) [2, 3, 6, 10, 38, 39] 3)))) [2, 3, 6, 10, 38, 39] 3)
def qnh : ICode :=
 (.post (.block 0 (.loop qng)) [6] 2)
def qni : ICode :=
 (.seq (.post (.region [
 oN (.build 59 [.sl true 1 [], .sl true 1 []] []),
 oN (.store true 2 6 59),
 oN (.mv 7 (.c (I (-1)))),
 oN (.mv 8 (.c (I 0)))] false) [6, 7, 8] 2)
 .ret)
def qnj : ICode :=
 (.seq (.post (.region [
 oN (.box 3 false false 0),
 oN (.alloc 6 false (.agg [.sl true 1 [], .sl true 1 []])),
 oN (.mv 7 (.c (I 0))),
 oN (.mv 8 (.c (I 0)))] false) [1, 2, 3, 6] 2)
 (.seq (.seq (.post (.region [
 oN (.load 14 true 5 3),
 oN (.call (some 15) true 38 [14]),
 oM 9 15] false) [1, 2, 3, 6, 9] 2)
 (.seq (.post (.region [
 oM 16 9,
 oN (.bin 17 .neq 16 (.c (I 0)))] false) [1, 2, 3, 6, 9, 17] 2)
 (.cond 17 (.seq (.post (.region [
 oN (.build 18 [.sl true 1 [], .sl true 1 []] []),
 oM 19 9,
 oN (.store true 2 6 18),
 oN (.mv 7 (.c (I 0))),
 oM 8 19] false) [6, 7, 8] 2)
 .ret)
 .skip)))
 (.seq (.seq (.post (.region [
 oM 20 1,
 oN (.bin 21 .lss 20 (.c (I 0))),
 oM 22 21,
  ⟨.mv 23 1, some (22, false)⟩,
  ⟨.bin 24 .gtr 23 (.c (I 40)), some (22, false)⟩,
 oN (.pick 25 22 (.c (.bool true)) 24),
 oM 26 25,
  ⟨.mv 27 2, some (26, false)⟩,
  ⟨.bin 28 .lss 27 (.c (I 0)), some (26, false)⟩,
 oN (.pick 29 26 (.c (.bool true)) 28),
 oM 30 29,
  ⟨.mv 31 2, some (30, false)⟩,
  ⟨.bin 32 .gtr 31 (.c (I 1000000)), some (30, false)⟩,
 oN (.pick 33 30 (.c (.bool true)) 32)] false) [1, 2, 3, 6, 33] 2)
 (.cond 33 (.seq (.post (.region [
 oN (.build 34 [.sl true 1 [], .sl true 1 []] []),
 oN (.store true 2 6 34),
 oN (.mv 7 (.c (I 0))),
 oN (.mv 8 (.c (I 3)))] false) [6, 7, 8] 2)
 .ret)
 .skip))
 (.seq (.post (.region [
 oN (.load 35 true 5 3),
 oN (.call (some 36) true 217 [35]),
 oN (.alloc 10 false (.agg [I 0, .sl true 2 [], I 0, I 0, .sl true 1 [], .sl true 1 [], .sl true 1 [], .sl true 1 []])),
 oN (.store true 8 10 36)] false) [1, 2, 3, 6, 10] 3)
 (.seq (.seq (.post (.region [
 oM 37 1,
 oN (.bin 38 .add 37 (.c (I 1))),
 oN (.mv 39 (.c (I 0)))] false) [2, 3, 6, 10, 38, 39] 3)
 (.cut qnh))
 (.cut qni))))))
def qnk : IFunc := { np := 3, res := [.cell 6 true 2, .t 7, .t 8], own := false, trunc := true, body := qnj }
end Go.Lw
end

/-! The code of package Word for the small machine. Written by program (gen.py). -/
section
set_option maxRecDepth 10000
namespace Go.Lw
open Go
/- 22: latchwork/word.Fit -/
def qnl : ICode :=
 (.post (.seq (.region [
 oN (.bin 26 .lss 25 (.c (I 3)))] false)
 (.seq (.cond 26 .skip
 (.exit 0))
 (.seq (.block 1 (.seq (.post (.region [
 oM 27 25,
 oN (.index 28 1 3 false 24 25),
 oM 11 27,
 oM 12 28] false) [0, 1, 2, 7, 9, 11, 12, 24, 25] 1)
 (.seq (.post (.region [
 oM 29 11,
 oM 30 0,
 oN (.call (some 31) true 63 [30]),
 oN (.bin 32 .lss 29 31),
 oM 33 32,
  ⟨.mv 34 12, some (33, true)⟩,
  ⟨.call (some 35) true 62 [34], some (33, true)⟩,
  ⟨.un 36 .not 35, some (33, true)⟩,
 oN (.pick 37 33 36 (.c (.bool false))),
 oM 38 37,
  ⟨.mv 39 11, some (38, false)⟩,
  ⟨.mv 40 0, some (38, false)⟩,
  ⟨.call (some 41) true 63 [40], some (38, false)⟩,
  ⟨.bin 42 .geq 39 41, some (38, false)⟩,
  ⟨.mv 43 42, some (38, false)⟩,
  ⟨.mv 44 12, some (43, true)⟩,
  ⟨.bin 45 .neq 44 (.c (I 0)), some (43, true)⟩,
  ⟨.pick 46 43 45 (.c (.bool false)), some (38, false)⟩,
 oN (.pick 47 38 (.c (.bool true)) 46)] false) [0, 1, 2, 7, 9, 24, 25, 47] 1)
 (.cond 47 (.seq (.post (.region [
 oN (.mv 8 (.c (I 3)))] false) [8] 0)
 .ret)
 .skip))))
 (.post (.region [
 oN (.bin 48 .add 25 (.c (I 1))),
 oM 25 48] false) [0, 1, 2, 7, 9, 24, 25] 1)))) [0, 1, 2, 7, 9, 24, 25] 1)
def qnm : ICode :=
 (.post (.block 0 (.loop qnl)) [1, 2, 7, 9] 1)
def qnn : ICode :=
 (.seq (.seq (.post (.region [
 oM 49 9,
 oM 50 1,
 oM 51 2,
 oN (.load 52 true 3 7),
 oN (.call (some 53) true 64 [49, 50, 51, 52]),
 oN (.un 54 .not 53)] false) [54] 0)
 (.cond 54 (.seq (.post (.region [
 oN (.mv 8 (.c (I 1)))] false) [8] 0)
 .ret)
 .skip))
 (.seq (.post (.region [
 oN (.mv 8 (.c (I 0)))] false) [8] 0)
 .ret))
def qno : ICode :=
 (.seq (.post (.region [
 oN (.box 7 false false 3),
 oN (.mv 8 (.c (I 0)))] false) [0, 1, 2, 7] 1)
 (.seq (.post (.region [
 oN (.call (some 14) false 61 []),
 oM 15 0,
 oN (.lookup 16 0 14 15 true (I 0)),
 oM 13 16,
 oN (.extract 17 13 0),
 oN (.extract 18 13 1),
 oM 9 17,
 oM 10 18] false) [0, 1, 2, 7, 9, 10] 1)
 (.seq (.seq (.post (.region [
 oM 19 10,
 oN (.un 20 .not 19)] false) [0, 1, 2, 7, 9, 20] 1)
 (.cond 20 (.seq (.post (.region [
 oN (.mv 8 (.c (I 7)))] false) [8] 0)
 .ret)
 .skip))
 (.seq (.seq (.post (.region [
 oM 21 1,
 oN (.call (some 22) true 62 [21]),
 oN (.un 23 .not 22)] false) [0, 1, 2, 7, 9, 23] 1)
 (.cond 23 (.seq (.post (.region [
 oN (.mv 8 (.c (I 3)))] false) [8] 0)
 .ret)
 .skip))
 (.seq (.seq (.post (.region [
 oN (.load 24 true 3 7),
 oN (.mv 25 (.c (I 0)))] false) [0, 1, 2, 7, 9, 24, 25] 1)
 (.cut qnm))
 (.cut qnn))))))
def qnp : IFunc := { np := 4, res := [.t 8], own := false, trunc := true, body := qno }
/- 25: latchwork/word.Apply -/
/- 61: latchwork/word.shapes -/
def qnq : ICode :=
 (.seq (.post (.region [
 oN (.mv 0 (.c (.nilm)))] false) [] 0)
 (.seq (.post (.region [
 oN (.mkmap 1),
 oN (.mupd 0 1 (.c (I 4)) (.c (I 1))),
 oN (.mupd 0 1 (.c (I 5)) (.c (I 1))),
 oN (.mupd 0 1 (.c (I 6)) (.c (I 2))),
 oN (.mupd 0 1 (.c (I 7)) (.c (I 2))),
 oN (.mupd 0 1 (.c (I 8)) (.c (I 2))),
 oN (.mupd 0 1 (.c (I 9)) (.c (I 2))),
 oN (.mupd 0 1 (.c (I 10)) (.c (I 2))),
 oN (.mupd 0 1 (.c (I 11)) (.c (I 2))),
 oN (.mupd 0 1 (.c (I 12)) (.c (I 2))),
 oN (.mupd 0 1 (.c (I 13)) (.c (I 2))),
 oN (.mupd 0 1 (.c (I 14)) (.c (I 2))),
 oN (.mupd 0 1 (.c (I 15)) (.c (I 2))),
 oN (.mupd 0 1 (.c (I 16)) (.c (I 3))),
 oN (.mupd 0 1 (.c (I 17)) (.c (I 3))),
 oN (.mupd 0 1 (.c (I 18)) (.c (I 3))),
 oN (.mupd 0 1 (.c (I 19)) (.c (I 4))),
 oN (.mupd 0 1 (.c (I 20)) (.c (I 5))),
 oN (.mupd 0 1 (.c (I 21)) (.c (I 6))),
 oN (.mupd 0 1 (.c (I 22)) (.c (I 7))),
 oN (.mupd 0 1 (.c (I 23)) (.c (I 7))),
 oM 2 1,
 oM 0 2] false) [0] 0)
 .ret))
def qnr : IFunc := { np := 0, res := [.t 0], own := false, trunc := false, body := qnq }
/- 62: latchwork/word.IsWidth -/
def qns : ICode :=
 (.seq (.post (.region [
 oN (.mv 2 (.c (.bool false)))] false) [0] 0)
 (.seq (.post (.region [
 oM 3 0,
 oN (.bin 4 .geq 3 (.c (I 1))),
 oM 5 4,
  ⟨.mv 6 0, some (5, true)⟩,
  ⟨.bin 7 .leq 6 (.c (I 8)), some (5, true)⟩,
 oN (.pick 8 5 7 (.c (.bool false))),
 oM 2 8] false) [2] 0)
 .ret))
def qnt : IFunc := { np := 1, res := [.t 2], own := false, trunc := true, body := qns }
/- 63: latchwork/word.Takes -/
def qnu : ICode :=
 (.cond 8 (.seq (.post (.region [
 oN (.mv 2 (.c (I 1)))] false) [2] 0)
 .ret)
 (.seq (.post (.region [
 oN (.bin 13 .eql 5 (.c (I 4))),
 oM 12 13] false) [12] 0)
 (.cond 12 (.seq (.post (.region [
 oN (.mv 2 (.c (I 3)))] false) [2] 0)
 .ret)
 .skip)))
def qnv : ICode :=
 (.seq (.post (.region [
 oN (.mv 2 (.c (I 2)))] false) [2] 0)
 .ret)
def qnw : ICode :=
 (.seq (.post (.region [
 oN (.mv 2 (.c (I 0)))] false) [0] 0)
 (.seq (.seq (.post (.region [
 oN (.call (some 3) false 61 []),
 oM 4 0,
 oN (.lookup 5 0 3 4 false (I 0))] false) [5] 0)
 (.block 0 (.seq (.post (.region [
 oN (.bin 7 .eql 5 (.c (I 0))),
 oM 6 7] false) [5, 6] 0)
 (.cond 6 (.seq (.post (.region [
 oN (.mv 2 (.c (I 0)))] false) [2] 0)
 .ret)
 (.seq (.seq (.post (.region [
 oN (.bin 9 .eql 5 (.c (I 1))),
 oM 8 9] false) [5, 8] 0)
 (.cond 8 (.post .skip [5, 8] 0)
 (.post (.seq (.post (.region [
 oN (.bin 10 .eql 5 (.c (I 6))),
 oM 8 10] false) [5, 8] 0)
 (.cond 8 (.post .skip [5, 8] 0)
 (.post (.post (.region [
 oN (.bin 11 .eql 5 (.c (I 7))),
 oM 8 11] false) [5, 8] 0) [5, 8] 0))) [5, 8] 0)))
 (.cut qnu))))))
 (.cut qnv)))
def qnx : IFunc := { np := 1, res := [.t 2], own := false, trunc := true, body := qnw }
/- 64: latchwork/word.fits -/
def qny : ICode :=
 (.seq (.post (.region [
 oN (.box 7 false false 3),
 oN (.mv 8 (.c (.bool false)))] false) [0, 1, 2, 7] 1)
 (.seq (.seq (.post (.region [
 oM 9 2,
 oN (.bin 10 .neq 9 (.c (I 0))),
 oM 11 10,
  ⟨.mv 12 0, some (11, true)⟩,
  ⟨.bin 13 .neq 12 (.c (I 6)), some (11, true)⟩,
 oN (.pick 14 11 13 (.c (.bool false)))] false) [0, 1, 2, 7, 14] 1)
 (.cond 14 (.seq (.post (.region [
 oN (.mv 8 (.c (.bool false)))] false) [8] 0)
 .ret)
 .skip))
 (.seq (.seq (.post (.region [
 oM 15 0] false) [1, 2, 7, 15] 1)
 (.block 0 (.seq (.post (.region [
 oN (.bin 17 .eql 15 (.c (I 1))),
 oM 16 17] false) [1, 2, 7, 15, 16] 1)
 (.cond 16 (.seq (.post (.region [
 oN (.iaddr 18 1 (some 3) 7 (.c (I 0))),
 oL 19 18,
 oM 20 1,
 oN (.bin 21 .eql 19 20),
 oM 8 21] false) [8] 0)
 .ret)
 (.seq (.post (.region [
 oN (.bin 23 .eql 15 (.c (I 2))),
 oM 22 23] false) [1, 2, 7, 15, 22] 1)
 (.cond 22 (.seq (.post (.region [
 oN (.iaddr 24 1 (some 3) 7 (.c (I 0))),
 oL 25 24,
 oM 26 1,
 oN (.bin 27 .eql 25 26),
 oM 28 27,
  ⟨.iaddr 29 1 (some 3) 7 (.c (I 1)), some (28, true)⟩,
  ⟨.load 30 false 1 29, some (28, true)⟩,
  ⟨.mv 31 1, some (28, true)⟩,
  ⟨.bin 32 .eql 30 31, some (28, true)⟩,
 oN (.pick 33 28 32 (.c (.bool false))),
 oM 8 33] false) [8] 0)
 .ret)
 (.seq (.post (.region [
 oN (.bin 35 .eql 15 (.c (I 3))),
 oM 34 35] false) [1, 2, 7, 15, 34] 1)
 (.cond 34 (.seq (.post (.region [
 oN (.iaddr 36 1 (some 3) 7 (.c (I 0))),
 oL 37 36,
 oN (.iaddr 38 1 (some 3) 7 (.c (I 1))),
 oL 39 38,
 oN (.bin 40 .eql 37 39),
 oM 41 40,
  ⟨.mv 42 1, some (41, true)⟩,
  ⟨.bin 43 .eql 42 (.c (I 1)), some (41, true)⟩,
 oN (.pick 44 41 43 (.c (.bool false))),
 oM 8 44] false) [8] 0)
 .ret)
 (.seq (.post (.region [
 oN (.bin 46 .eql 15 (.c (I 4))),
 oM 45 46] false) [1, 2, 7, 15, 45] 1)
 (.cond 45 (.seq (.post (.region [
 oN (.iaddr 47 1 (some 3) 7 (.c (I 0))),
 oL 48 47,
 oN (.bin 49 .eql 48 (.c (I 1))),
 oM 50 49,
  ⟨.iaddr 51 1 (some 3) 7 (.c (I 1)), some (50, true)⟩,
  ⟨.load 52 false 1 51, some (50, true)⟩,
  ⟨.mv 53 1, some (50, true)⟩,
  ⟨.bin 54 .eql 52 53, some (50, true)⟩,
 oN (.pick 55 50 54 (.c (.bool false))),
 oM 56 55,
  ⟨.iaddr 57 1 (some 3) 7 (.c (I 2)), some (56, true)⟩,
  ⟨.load 58 false 1 57, some (56, true)⟩,
  ⟨.mv 59 1, some (56, true)⟩,
  ⟨.bin 60 .eql 58 59, some (56, true)⟩,
 oN (.pick 61 56 60 (.c (.bool false))),
 oM 8 61] false) [8] 0)
 .ret)
 (.seq (.post (.region [
 oN (.bin 63 .eql 15 (.c (I 5))),
 oM 62 63] false) [1, 2, 7, 15, 62] 1)
 (.cond 62 (.seq (.post (.region [
 oN (.iaddr 64 1 (some 3) 7 (.c (I 0))),
 oL 65 64,
 oN (.iaddr 66 1 (some 3) 7 (.c (I 1))),
 oL 67 66,
 oN (.bin 68 .add 65 67),
 oM 69 1,
 oN (.bin 70 .eql 68 69),
 oM 8 70] false) [8] 0)
 .ret)
 (.seq (.post (.region [
 oN (.bin 72 .eql 15 (.c (I 6))),
 oM 71 72] false) [1, 2, 7, 71] 1)
 (.cond 71 (.seq (.post (.region [
 oM 73 2,
 oN (.bin 74 .geq 73 (.c (I 0))),
 oM 75 74,
  ⟨.mv 76 2, some (75, true)⟩,
  ⟨.iaddr 77 1 (some 3) 7 (.c (I 0)), some (75, true)⟩,
  ⟨.load 78 false 1 77, some (75, true)⟩,
  ⟨.mv 79 1, some (75, true)⟩,
  ⟨.bin 80 .sub 78 79, some (75, true)⟩,
  ⟨.bin 81 .leq 76 80, some (75, true)⟩,
 oN (.pick 82 75 81 (.c (.bool false))),
 oM 8 82] false) [8] 0)
 .ret)
 .skip))))))))))))))
 (.seq (.post (.region [
 oM 83 1,
 oN (.iaddr 84 1 (some 3) 7 (.c (I 0))),
 oL 85 84,
 oN (.bin 86 .geq 83 85),
 oM 8 86] false) [8] 0)
 .ret))))
def qnz : IFunc := { np := 4, res := [.t 8], own := false, trunc := true, body := qny }
/- 65: latchwork/word.IsWord -/
def qo0 : ICode :=
 (.seq (.post (.region [
 oN (.mv 4 (.c (.bool false)))] false) [0, 1] 0)
 (.seq (.post (.region [
 oM 5 0,
 oN (.bin 6 .geq 5 (.c (I 0))),
 oM 7 6,
  ⟨.mv 8 0, some (7, true)⟩,
  ⟨.mv 9 1, some (7, true)⟩,
  ⟨.bin 10 .shl (.c (I 1)) 9, some (7, true)⟩,
  ⟨.bin 11 .lss 8 10, some (7, true)⟩,
 oN (.pick 12 7 11 (.c (.bool false))),
 oM 4 12] false) [4] 0)
 .ret))
def qo1 : IFunc := { np := 2, res := [.t 4], own := false, trunc := true, body := qo0 }
/- 66: latchwork/word.Raw -/
def qo2 : ICode :=
 (.seq (.post (.region [
 oN (.box 13 false false 6),
 oN (.mv 14 (.c (I 0)))] false) [0, 1, 2, 3, 4, 5, 13] 1)
 (.seq (.post (.region [
 oM 15 0,
 oM 16 1,
 oM 17 2,
 oM 18 3,
 oM 19 4,
 oM 20 5,
 oN (.load 21 true 3 13),
 oN (.call (some 22) true 96 [15, 16, 17, 18, 19, 20, 21]),
 oM 23 1,
 oN (.bin 24 .shl (.c (I 1)) 23),
 oN (.bin 25 .sub 24 (.c (I 1))),
 oN (.bin 26 .and 22 25),
 oM 14 26] true) [14] 0)
 .ret))
def qo3 : IFunc := { np := 7, res := [.t 14], own := false, trunc := true, body := qo2 }
/- 96: latchwork/word.do -/
def qo4 : ICode :=
 (.seq (.post (.region [
 oN (.box 13 false false 6),
 oN (.mv 14 (.c (I 0)))] false) [0, 2, 3, 4, 5, 13] 1)
 (.seq (.seq (.post (.region [
 oM 15 0] false) [2, 3, 4, 5, 13, 15] 1)
 (.block 0 (.seq (.post (.region [
 oN (.bin 17 .eql 15 (.c (I 4))),
 oM 16 17] false) [2, 3, 4, 5, 13, 15, 16] 1)
 (.cond 16 (.seq (.post (.region [
 oM 18 2,
 oN (.un 19 .xor 18),
 oM 14 19] false) [14] 0)
 .ret)
 (.seq (.post (.region [
 oN (.bin 21 .eql 15 (.c (I 5))),
 oM 20 21] false) [2, 3, 4, 5, 13, 15, 20] 1)
 (.cond 20 (.seq (.post (.region [
 oM 22 2,
 oN (.un 23 .neg 22),
 oM 14 23] false) [14] 0)
 .ret)
 (.seq (.post (.region [
 oN (.bin 25 .eql 15 (.c (I 6))),
 oM 24 25] false) [2, 3, 4, 5, 13, 15, 24] 1)
 (.cond 24 (.seq (.post (.region [
 oM 26 2,
 oM 27 3,
 oN (.bin 28 .and 26 27),
 oM 14 28] false) [14] 0)
 .ret)
 (.seq (.post (.region [
 oN (.bin 30 .eql 15 (.c (I 7))),
 oM 29 30] false) [2, 3, 4, 5, 13, 15, 29] 1)
 (.cond 29 (.seq (.post (.region [
 oM 31 2,
 oM 32 3,
 oN (.bin 33 .or 31 32),
 oM 14 33] false) [14] 0)
 .ret)
 (.seq (.post (.region [
 oN (.bin 35 .eql 15 (.c (I 8))),
 oM 34 35] false) [2, 3, 4, 5, 13, 15, 34] 1)
 (.cond 34 (.seq (.post (.region [
 oM 36 2,
 oM 37 3,
 oN (.bin 38 .xor 36 37),
 oM 14 38] false) [14] 0)
 .ret)
 (.seq (.post (.region [
 oN (.bin 40 .eql 15 (.c (I 9))),
 oM 39 40] false) [2, 3, 4, 5, 13, 15, 39] 1)
 (.cond 39 (.seq (.post (.region [
 oM 41 2,
 oM 42 3,
 oN (.bin 43 .add 41 42),
 oM 14 43] false) [14] 0)
 .ret)
 (.seq (.post (.region [
 oN (.bin 45 .eql 15 (.c (I 10))),
 oM 44 45] false) [2, 3, 4, 5, 13, 15, 44] 1)
 (.cond 44 (.seq (.post (.region [
 oM 46 2,
 oM 47 3,
 oN (.bin 48 .sub 46 47),
 oM 14 48] false) [14] 0)
 .ret)
 (.seq (.post (.region [
 oN (.bin 50 .eql 15 (.c (I 11))),
 oM 49 50] false) [2, 3, 4, 5, 13, 15, 49] 1)
 (.cond 49 (.seq (.post (.region [
 oM 51 2,
 oM 52 3,
 oN (.bin 53 .mul 51 52),
 oM 14 53] false) [14] 0)
 .ret)
 (.seq (.post (.region [
 oN (.bin 55 .eql 15 (.c (I 14))),
 oM 54 55] false) [2, 3, 4, 5, 13, 15, 54] 1)
 (.cond 54 (.seq (.post (.region [
 oM 56 2,
 oM 57 3,
 oN (.bin 58 .shl 56 57),
 oM 14 58] false) [14] 0)
 .ret)
 (.seq (.post (.region [
 oN (.bin 60 .eql 15 (.c (I 15))),
 oM 59 60] false) [2, 3, 4, 5, 13, 15, 59] 1)
 (.cond 59 (.seq (.post (.region [
 oM 61 2,
 oM 62 3,
 oN (.bin 63 .shr 61 62),
 oM 14 63] false) [14] 0)
 .ret)
 (.seq (.post (.region [
 oN (.bin 65 .eql 15 (.c (I 16))),
 oM 64 65] false) [2, 3, 4, 5, 13, 15, 64] 1)
 (.cond 64 (.seq (.post (.region [
 oM 66 2,
 oM 67 3,
 oN (.bin 68 .eql 66 67),
 oN (.call (some 69) true 114 [68]),
 oM 14 69] false) [14] 0)
 .ret)
 (.seq (.post (.region [
 oN (.bin 71 .eql 15 (.c (I 17))),
 oM 70 71] false) [2, 3, 4, 5, 13, 15, 70] 1)
 (.cond 70 (.seq (.post (.region [
 oM 72 2,
 oM 73 3,
 oN (.bin 74 .lss 72 73),
 oN (.call (some 75) true 114 [74]),
 oM 14 75] false) [14] 0)
 .ret)
 (.seq (.post (.region [
 oN (.bin 77 .eql 15 (.c (I 18))),
 oM 76 77] false) [2, 3, 4, 5, 13, 15, 76] 1)
 (.cond 76 (.seq (.post (.region [
 oM 78 2,
 oN (.iaddr 79 1 (some 3) 13 (.c (I 0))),
 oL 80 79,
 oN (.call (some 81) true 115 [78, 80]),
 oM 82 3,
 oN (.iaddr 83 1 (some 3) 13 (.c (I 1))),
 oL 84 83,
 oN (.call (some 85) true 115 [82, 84]),
 oN (.bin 86 .lss 81 85),
 oN (.call (some 87) true 114 [86]),
 oM 14 87] true) [14] 0)
 .ret)
 (.seq (.post (.region [
 oN (.bin 89 .eql 15 (.c (I 20))),
 oM 88 89] false) [2, 3, 4, 5, 13, 15, 88] 1)
 (.cond 88 (.seq (.post (.region [
 oM 90 2,
 oN (.iaddr 91 1 (some 3) 13 (.c (I 1))),
 oL 92 91,
 oN (.bin 93 .shl 90 92),
 oM 94 3,
 oN (.bin 95 .or 93 94),
 oM 14 95] false) [14] 0)
 .ret)
 (.seq (.post (.region [
 oN (.bin 97 .eql 15 (.c (I 21))),
 oM 96 97] false) [2, 3, 4, 5, 13, 15, 96] 1)
 (.cond 96 (.seq (.post (.region [
 oM 98 2,
 oM 99 5,
 oN (.bin 100 .shr 98 99),
 oM 14 100] false) [14] 0)
 .ret)
 (.seq (.post (.region [
 oN (.bin 102 .eql 15 (.c (I 23))),
 oM 101 102] false) [2, 3, 4, 13, 15, 101] 1)
 (.cond 101 (.seq (.post (.region [
 oM 103 2,
 oN (.iaddr 104 1 (some 3) 13 (.c (I 0))),
 oL 105 104,
 oN (.call (some 106) true 115 [103, 105]),
 oM 14 106] false) [14] 0)
 .ret)
 (.seq (.post (.region [
 oN (.bin 108 .eql 15 (.c (I 19))),
 oM 107 108] false) [2, 3, 4, 15, 107] 0)
 (.cond 107 (.seq (.seq (.post (.region [
 oM 109 2,
 oN (.bin 110 .eql 109 (.c (I 1)))] false) [3, 4, 110] 0)
 (.cond 110 (.seq (.post (.region [
 oM 111 3,
 oM 14 111] false) [14] 0)
 .ret)
 .skip))
 (.seq (.post (.region [
 oM 112 4,
 oM 14 112] false) [14] 0)
 .ret))
 (.seq (.post (.region [
 oN (.bin 114 .eql 15 (.c (I 12))),
 oM 113 114] false) [2, 3, 15, 113] 0)
 (.cond 113 (.seq (.seq (.post (.region [
 oM 115 3,
 oN (.bin 116 .eql 115 (.c (I 0)))] false) [2, 3, 116] 0)
 (.cond 116 (.seq (.post (.region [
 oN (.mv 14 (.c (I (-1))))] false) [14] 0)
 .ret)
 .skip))
 (.seq (.post (.region [
 oM 117 2,
 oM 118 3,
 oN (.bin 119 .quo 117 118),
 oM 14 119] false) [14] 0)
 .ret))
 (.seq (.post (.region [
 oN (.bin 121 .eql 15 (.c (I 13))),
 oM 120 121] false) [2, 3, 120] 0)
 (.cond 120 (.seq (.seq (.post (.region [
 oM 122 3,
 oN (.bin 123 .eql 122 (.c (I 0)))] false) [2, 3, 123] 0)
 (.cond 123 (.seq (.post (.region [
 oM 124 2,
 oM 14 124] false) [14] 0)
 .ret)
 .skip))
 (.seq (.post (.region [
 oM 125 2,
 oM 126 3,
 oN (.bin 127 .rem 125 126),
 oM 14 127] false) [14] 0)
 .ret))
 .skip))))))))))))))))))))))))))))))))))))))))
 (.seq (.post (.region [
 oM 128 2,
 oM 14 128] false) [14] 0)
 .ret)))
def qo5 : IFunc := { np := 7, res := [.t 14], own := false, trunc := true, body := qo4 }
/- 114: latchwork/word.yes -/
def qo6 : ICode :=
 (.seq (.post (.region [
 oN (.mv 2 (.c (I 0)))] false) [0] 0)
 (.seq (.seq (.post (.region [
 oM 3 0] false) [3] 0)
 (.cond 3 (.seq (.post (.region [
 oN (.mv 2 (.c (I 1)))] false) [2] 0)
 .ret)
 .skip))
 (.seq (.post (.region [
 oN (.mv 2 (.c (I 0)))] false) [2] 0)
 .ret)))
def qo7 : IFunc := { np := 1, res := [.t 2], own := false, trunc := true, body := qo6 }
/- 115: latchwork/word.signed -/
def qo8 : ICode :=
 (.seq (.post (.region [
 oN (.mv 4 (.c (I 0)))] false) [0, 1] 0)
 (.seq (.seq (.post (.region [
 oM 5 0,
 oM 6 1,
 oN (.bin 7 .sub 6 (.c (I 1))),
 oN (.bin 8 .shl (.c (I 1)) 7),
 oN (.bin 9 .geq 5 8)] false) [0, 1, 9] 0)
 (.cond 9 (.seq (.post (.region [
 oM 10 0,
 oM 11 1,
 oN (.bin 12 .shl (.c (I 1)) 11),
 oN (.bin 13 .sub 10 12),
 oM 4 13] false) [4] 0)
 .ret)
 .skip))
 (.seq (.post (.region [
 oM 14 0,
 oM 4 14] false) [4] 0)
 .ret)))
def qo9 : IFunc := { np := 2, res := [.t 4], own := false, trunc := true, body := qo8 }
end Go.Lw
end
