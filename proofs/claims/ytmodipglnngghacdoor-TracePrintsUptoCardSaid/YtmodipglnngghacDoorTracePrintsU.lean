/-
  TracePrints: the given statement holds: the call answers true, and what it was handed reads as it did.
-/
import Derived.Test.YtmodipglnngghacDoorTracePrintsT
import Derived.Test.YtmodipglnngghacDoorRows
import Derived.Test.YtmodipglnngghacDoorTie
import Derived.Test.YtmodipglnngghacDoorCards
import Derived.KernelRfl
import Derived.Deep.DeepHandedRow
import Derived.Deep.DeepWitnessRowRef
import Derived.Deep.DeepLaidRun
import Derived.LaidMore
import Derived.RegionCalls
import Derived.Deep.RegionWith
import Derived.Laws.BytesString
import Derived.JoinedCond
import Derived.Deep.CondSized
import Derived.WalkKit
import Derived.ProofKit
import Derived.OpenShut
import Derived.ShutString
import Derived.ChangeOld
import Derived.Below
set_option linter.unusedVariables false
set_option linter.unusedSimpArgs false
set_option linter.unnecessarySimpa false

/-! TracePrints: the given statement holds: the call answers true, and what it was handed reads as it did. -/
section
namespace Go.Proofs.YtmodipglnngghacDoor.tracePrintsDone
open Go Go.Lw Go.ChangeShapes Go.WideShapes Go.RowKit
set_option maxRecDepth 100000

def laysItoa_ren : Go.Shelf.Ren := ⟨fun | 171 => 17 | 243 => 37 | 246 => 64 | 283 => 76 | 284 => 77 | 285 => 78 | 286 => 79 | 129 => 93 | 317 => 92 | 318 => 94 | 319 => 95 | 320 => 96 | 337 => 108 | 338 => 109 | n => n, fun | 3 => 3 | 9 => 9 | 2 => 2 | 4 => 4 | 171 => 131 | 0 => 0 | 53 => 132 | 37 => 44 | 5 => 5 | 173 => 135 | 212 => 145 | 51 => 146 | 20 => 20 | 213 => 147 | 46 => 138 | 232 => 168 | 233 => 169 | n => n, fun | 17 => 2 | 18 => 5 | 19 => 6 | n => n⟩
theorem laysItoa : Go.Proofs.LaysM.n171 Tryd.prog laysItoa_ren := {
  mixed := by kernel_rfl
  f129 := Tryd.func93.trans (congrArg some (by kernel_rfl))
  f171 := Tryd.func17.trans (congrArg some (by kernel_rfl))
  f243 := Tryd.func37.trans (congrArg some (by kernel_rfl))
  f246 := Tryd.func64.trans (congrArg some (by kernel_rfl))
  f283 := Tryd.func76.trans (congrArg some (by kernel_rfl))
  f284 := Tryd.func77.trans (congrArg some (by kernel_rfl))
  f285 := Tryd.func78.trans (congrArg some (by kernel_rfl))
  f286 := Tryd.func79.trans (congrArg some (by kernel_rfl))
  f317 := Tryd.func92.trans (congrArg some (by kernel_rfl))
  f318 := Tryd.func94.trans (congrArg some (by kernel_rfl))
  f319 := Tryd.func95.trans (congrArg some (by kernel_rfl))
  f320 := Tryd.func96.trans (congrArg some (by kernel_rfl))
  f337 := Tryd.func108.trans (congrArg some (by kernel_rfl))
  f338 := Tryd.func109.trans (congrArg some (by kernel_rfl))
  t0 := Tryd.underlying0
  a0 := Tryd.isAgg0
  z0 := Tryd.sizeOf0
  v0 := Tryd.zeroValue0
  t2 := Tryd.underlying2
  a2 := Tryd.isAgg2
  z2 := Tryd.sizeOf2
  v2 := Tryd.zeroValue2
  t3 := Tryd.underlying3
  a3 := Tryd.isAgg3
  z3 := Tryd.sizeOf3
  v3 := Tryd.zeroValue3
  t4 := Tryd.underlying4
  a4 := Tryd.isAgg4
  z4 := Tryd.sizeOf4
  v4 := Tryd.zeroValue4
  t5 := Tryd.underlying5
  a5 := Tryd.isAgg5
  z5 := Tryd.sizeOf5
  v5 := Tryd.zeroValue5
  t9 := Tryd.underlying9
  a9 := Tryd.isAgg9
  z9 := Tryd.sizeOf9
  v9 := Tryd.zeroValue9
  t20 := Tryd.underlying20
  a20 := Tryd.isAgg20
  z20 := Tryd.sizeOf20
  v20 := Tryd.zeroValue20
  t37 := Tryd.underlying44
  a37 := Tryd.isAgg44
  z37 := Tryd.sizeOf44
  v37 := Tryd.zeroValue44
  t46 := Tryd.underlying138
  a46 := Tryd.isAgg138
  z46 := Tryd.sizeOf138
  v46 := Tryd.zeroValue138
  t51 := Tryd.underlying146
  a51 := Tryd.isAgg146
  z51 := Tryd.sizeOf146
  v51 := Tryd.zeroValue146
  t53 := Tryd.underlying132
  a53 := Tryd.isAgg132
  z53 := Tryd.sizeOf132
  v53 := Tryd.zeroValue132
  t171 := Tryd.underlying131
  a171 := Tryd.isAgg131
  z171 := Tryd.sizeOf131
  v171 := Tryd.zeroValue131
  t173 := Tryd.underlying135
  a173 := Tryd.isAgg135
  z173 := Tryd.sizeOf135
  v173 := Tryd.zeroValue135
  t212 := Tryd.underlying145
  a212 := Tryd.isAgg145
  z212 := Tryd.sizeOf145
  v212 := Tryd.zeroValue145
  t213 := Tryd.underlying147
  a213 := Tryd.isAgg147
  z213 := Tryd.sizeOf147
  t232 := Tryd.underlying168
  a232 := Tryd.isAgg168
  z232 := Tryd.sizeOf168
  v232 := Tryd.zeroValue168
  t233 := Tryd.underlying169
  a233 := Tryd.isAgg169
  z233 := Tryd.sizeOf169
  v233 := Tryd.zeroValue169
  g17 := by kernel_rfl
  g18 := by kernel_rfl
  g19 := by kernel_rfl
  i0 := by kernel_rfl
  i2 := by kernel_rfl
  i3 := by kernel_rfl
  i4 := by kernel_rfl
  i5 := by kernel_rfl
  i9 := by kernel_rfl
  i20 := by kernel_rfl
  i37 := by kernel_rfl
  i46 := by kernel_rfl
  i51 := by kernel_rfl
  i53 := by kernel_rfl
  i171 := by kernel_rfl
  i173 := by kernel_rfl
  i212 := by kernel_rfl
  i232 := by kernel_rfl
  i233 := by kernel_rfl
  m17 := by kernel_rfl
  m18 := by kernel_rfl
  m19 := by kernel_rfl }
def laysAtoi_ren : Go.Shelf.Ren := ⟨fun | 172 => 71 | 244 => 90 | 245 => 91 | 247 => 103 | 279 => 104 | 280 => 105 | 281 => 106 | 282 => 107 | 287 => 113 | 316 => 114 | 171 => 17 | 205 => 115 | 321 => 116 | 322 => 117 | 243 => 37 | 246 => 64 | 283 => 76 | 284 => 77 | 285 => 78 | 286 => 79 | 129 => 93 | 317 => 92 | 318 => 94 | 319 => 95 | 320 => 96 | 337 => 108 | 338 => 109 | n => n, fun | 9 => 9 | 3 => 3 | 75 => 86 | 76 => 87 | 4 => 4 | 5 => 5 | 167 => 154 | 37 => 44 | 0 => 0 | 85 => 155 | 2 => 2 | 168 => 157 | 53 => 132 | 175 => 162 | 46 => 138 | 210 => 166 | 127 => 90 | 145 => 177 | 143 => 175 | 21 => 21 | 171 => 131 | 173 => 135 | 212 => 145 | 51 => 146 | 20 => 20 | 213 => 147 | 232 => 168 | 233 => 169 | 80 => 58 | n => n, fun | 15 => 3 | 16 => 4 | 17 => 2 | 18 => 5 | 19 => 6 | n => n⟩
theorem laysAtoi : Go.Proofs.LaysC.n172 Tryd.prog laysAtoi_ren := {
  mixed := by kernel_rfl
  f129 := Tryd.func93.trans (congrArg some (by kernel_rfl))
  f171 := Tryd.func17.trans (congrArg some (by kernel_rfl))
  f172 := Tryd.func71.trans (congrArg some (by kernel_rfl))
  f205 := Tryd.func115.trans (congrArg some (by kernel_rfl))
  f243 := Tryd.func37.trans (congrArg some (by kernel_rfl))
  f244 := Tryd.func90.trans (congrArg some (by kernel_rfl))
  f245 := Tryd.func91.trans (congrArg some (by kernel_rfl))
  f246 := Tryd.func64.trans (congrArg some (by kernel_rfl))
  f247 := Tryd.func103.trans (congrArg some (by kernel_rfl))
  f279 := Tryd.func104.trans (congrArg some (by kernel_rfl))
  f280 := Tryd.func105.trans (congrArg some (by kernel_rfl))
  f281 := Tryd.func106.trans (congrArg some (by kernel_rfl))
  f282 := Tryd.func107.trans (congrArg some (by kernel_rfl))
  f283 := Tryd.func76.trans (congrArg some (by kernel_rfl))
  f284 := Tryd.func77.trans (congrArg some (by kernel_rfl))
  f285 := Tryd.func78.trans (congrArg some (by kernel_rfl))
  f286 := Tryd.func79.trans (congrArg some (by kernel_rfl))
  f287 := Tryd.func113.trans (congrArg some (by kernel_rfl))
  f316 := Tryd.func114.trans (congrArg some (by kernel_rfl))
  f317 := Tryd.func92.trans (congrArg some (by kernel_rfl))
  f318 := Tryd.func94.trans (congrArg some (by kernel_rfl))
  f319 := Tryd.func95.trans (congrArg some (by kernel_rfl))
  f320 := Tryd.func96.trans (congrArg some (by kernel_rfl))
  f321 := Tryd.func116.trans (congrArg some (by kernel_rfl))
  f322 := Tryd.func117.trans (congrArg some (by kernel_rfl))
  f337 := Tryd.func108.trans (congrArg some (by kernel_rfl))
  f338 := Tryd.func109.trans (congrArg some (by kernel_rfl))
  t0 := Tryd.underlying0
  a0 := Tryd.isAgg0
  z0 := Tryd.sizeOf0
  v0 := Tryd.zeroValue0
  t2 := Tryd.underlying2
  a2 := Tryd.isAgg2
  z2 := Tryd.sizeOf2
  v2 := Tryd.zeroValue2
  t3 := Tryd.underlying3
  a3 := Tryd.isAgg3
  z3 := Tryd.sizeOf3
  v3 := Tryd.zeroValue3
  t4 := Tryd.underlying4
  a4 := Tryd.isAgg4
  z4 := Tryd.sizeOf4
  v4 := Tryd.zeroValue4
  t5 := Tryd.underlying5
  a5 := Tryd.isAgg5
  z5 := Tryd.sizeOf5
  v5 := Tryd.zeroValue5
  t9 := Tryd.underlying9
  a9 := Tryd.isAgg9
  z9 := Tryd.sizeOf9
  v9 := Tryd.zeroValue9
  t20 := Tryd.underlying20
  a20 := Tryd.isAgg20
  z20 := Tryd.sizeOf20
  v20 := Tryd.zeroValue20
  t21 := Tryd.underlying21
  a21 := Tryd.isAgg21
  z21 := Tryd.sizeOf21
  v21 := Tryd.zeroValue21
  t37 := Tryd.underlying44
  a37 := Tryd.isAgg44
  z37 := Tryd.sizeOf44
  v37 := Tryd.zeroValue44
  t46 := Tryd.underlying138
  a46 := Tryd.isAgg138
  z46 := Tryd.sizeOf138
  v46 := Tryd.zeroValue138
  t51 := Tryd.underlying146
  a51 := Tryd.isAgg146
  z51 := Tryd.sizeOf146
  v51 := Tryd.zeroValue146
  t53 := Tryd.underlying132
  a53 := Tryd.isAgg132
  z53 := Tryd.sizeOf132
  v53 := Tryd.zeroValue132
  t75 := Tryd.underlying86
  a75 := Tryd.isAgg86
  z75 := Tryd.sizeOf86
  v75 := Tryd.zeroValue86
  t76 := Tryd.underlying87
  a76 := Tryd.isAgg87
  z76 := Tryd.sizeOf87
  v76 := Tryd.zeroValue87
  t85 := Tryd.underlying155
  a85 := Tryd.isAgg155
  z85 := Tryd.sizeOf155
  v85 := Tryd.zeroValue155
  t127 := Tryd.underlying90
  a127 := Tryd.isAgg90
  z127 := Tryd.sizeOf90
  v127 := Tryd.zeroValue90
  t143 := Tryd.underlying175
  a143 := Tryd.isAgg175
  z143 := Tryd.sizeOf175
  v143 := Tryd.zeroValue175
  t145 := Tryd.underlying177
  a145 := Tryd.isAgg177
  z145 := Tryd.sizeOf177
  v145 := Tryd.zeroValue177
  t167 := Tryd.underlying154
  a167 := Tryd.isAgg154
  z167 := Tryd.sizeOf154
  v167 := Tryd.zeroValue154
  t168 := Tryd.underlying157
  a168 := Tryd.isAgg157
  z168 := Tryd.sizeOf157
  v168 := Tryd.zeroValue157
  t171 := Tryd.underlying131
  a171 := Tryd.isAgg131
  z171 := Tryd.sizeOf131
  v171 := Tryd.zeroValue131
  t173 := Tryd.underlying135
  a173 := Tryd.isAgg135
  z173 := Tryd.sizeOf135
  v173 := Tryd.zeroValue135
  t175 := Tryd.underlying162
  a175 := Tryd.isAgg162
  z175 := Tryd.sizeOf162
  v175 := Tryd.zeroValue162
  t210 := Tryd.underlying166
  a210 := Tryd.isAgg166
  z210 := Tryd.sizeOf166
  v210 := Tryd.zeroValue166
  t212 := Tryd.underlying145
  a212 := Tryd.isAgg145
  z212 := Tryd.sizeOf145
  v212 := Tryd.zeroValue145
  t213 := Tryd.underlying147
  a213 := Tryd.isAgg147
  z213 := Tryd.sizeOf147
  t232 := Tryd.underlying168
  a232 := Tryd.isAgg168
  z232 := Tryd.sizeOf168
  v232 := Tryd.zeroValue168
  t233 := Tryd.underlying169
  a233 := Tryd.isAgg169
  z233 := Tryd.sizeOf169
  v233 := Tryd.zeroValue169
  g15 := by kernel_rfl
  g16 := by kernel_rfl
  g17 := by kernel_rfl
  g18 := by kernel_rfl
  g19 := by kernel_rfl
  t80 := Tryd.underlying58
  a80 := Tryd.isAgg58
  z80 := Tryd.sizeOf58
  v80 := Tryd.zeroValue58
  i0 := by kernel_rfl
  i2 := by kernel_rfl
  i3 := by kernel_rfl
  i4 := by kernel_rfl
  i5 := by kernel_rfl
  i9 := by kernel_rfl
  i20 := by kernel_rfl
  i21 := by kernel_rfl
  i37 := by kernel_rfl
  i46 := by kernel_rfl
  i51 := by kernel_rfl
  i53 := by kernel_rfl
  i75 := by kernel_rfl
  i76 := by kernel_rfl
  i80 := by kernel_rfl
  i85 := by kernel_rfl
  i127 := by kernel_rfl
  i143 := by kernel_rfl
  i145 := by kernel_rfl
  i167 := by kernel_rfl
  i168 := by kernel_rfl
  i171 := by kernel_rfl
  i173 := by kernel_rfl
  i175 := by kernel_rfl
  i210 := by kernel_rfl
  i212 := by kernel_rfl
  i232 := by kernel_rfl
  i233 := by kernel_rfl
  m15 := by kernel_rfl
  m16 := by kernel_rfl
  m17 := by kernel_rfl
  m18 := by kernel_rfl
  m19 := by kernel_rfl
  c0 := by kernel_rfl
  c2 := by kernel_rfl
  c3 := by kernel_rfl
  c4 := by kernel_rfl
  c5 := by kernel_rfl
  c9 := by kernel_rfl
  c20 := by kernel_rfl
  c21 := by kernel_rfl
  c37 := by kernel_rfl
  c46 := by kernel_rfl
  c51 := by kernel_rfl
  c53 := by kernel_rfl
  c75 := by kernel_rfl
  c76 := by kernel_rfl
  c80 := by kernel_rfl
  c85 := by kernel_rfl
  c127 := by kernel_rfl
  c143 := by kernel_rfl
  c145 := by kernel_rfl
  c167 := by kernel_rfl
  c168 := by kernel_rfl
  c171 := by kernel_rfl
  c173 := by kernel_rfl
  c175 := by kernel_rfl
  c210 := by kernel_rfl
  c212 := by kernel_rfl
  c213 := by kernel_rfl
  c232 := by kernel_rfl
  c233 := by kernel_rfl }
def laysCut_ren : Go.Shelf.Ren := ⟨fun | 145 => 19 | 220 => 38 | 219 => 65 | 217 => 80 | 225 => 81 | 224 => 82 | 267 => 83 | 266 => 97 | 314 => 98 | n => n, fun | 9 => 9 | 4 => 4 | 59 => 62 | 3 => 3 | 5 => 5 | 46 => 138 | 146 => 149 | 51 => 146 | n => n, fun | 1 => 1 | n => n⟩
theorem laysCut : Go.Proofs.Lays.n145 Tryd.prog laysCut_ren := {
  mixed := by kernel_rfl
  f145 := Tryd.func19.trans (congrArg some (by kernel_rfl))
  f217 := Tryd.func80.trans (congrArg some (by kernel_rfl))
  f219 := Tryd.func65.trans (congrArg some (by kernel_rfl))
  f220 := Tryd.func38.trans (congrArg some (by kernel_rfl))
  f224 := Tryd.func82.trans (congrArg some (by kernel_rfl))
  f225 := Tryd.func81.trans (congrArg some (by kernel_rfl))
  f266 := Tryd.func97.trans (congrArg some (by kernel_rfl))
  f267 := Tryd.func83.trans (congrArg some (by kernel_rfl))
  f314 := Tryd.func98.trans (congrArg some (by kernel_rfl))
  t3 := Tryd.underlying3
  a3 := Tryd.isAgg3
  z3 := Tryd.sizeOf3
  v3 := Tryd.zeroValue3
  t4 := Tryd.underlying4
  a4 := Tryd.isAgg4
  z4 := Tryd.sizeOf4
  v4 := Tryd.zeroValue4
  t5 := Tryd.underlying5
  a5 := Tryd.isAgg5
  z5 := Tryd.sizeOf5
  v5 := Tryd.zeroValue5
  t9 := Tryd.underlying9
  a9 := Tryd.isAgg9
  z9 := Tryd.sizeOf9
  v9 := Tryd.zeroValue9
  t46 := Tryd.underlying138
  a46 := Tryd.isAgg138
  z46 := Tryd.sizeOf138
  v46 := Tryd.zeroValue138
  t51 := Tryd.underlying146
  a51 := Tryd.isAgg146
  z51 := Tryd.sizeOf146
  v51 := Tryd.zeroValue146
  t59 := Tryd.underlying62
  a59 := Tryd.isAgg62
  z59 := Tryd.sizeOf62
  v59 := Tryd.zeroValue62
  t146 := Tryd.underlying149
  a146 := Tryd.isAgg149
  z146 := Tryd.sizeOf149
  v146 := Tryd.zeroValue149
  g1 := by kernel_rfl }
def laysSplit_ren : Go.Shelf.Ren := ⟨fun | 146 => 39 | 221 => 66 | 268 => 84 | 138 => 85 | 143 => 86 | 195 => 99 | 197 => 100 | 218 => 101 | 219 => 65 | 260 => 110 | 217 => 80 | 225 => 81 | 224 => 82 | 267 => 83 | 266 => 97 | 314 => 98 | n => n, fun | 9 => 9 | 31 => 55 | 3 => 3 | 4 => 4 | 0 => 0 | 105 => 152 | 21 => 21 | 5 => 5 | 46 => 138 | 119 => 170 | 139 => 173 | 138 => 172 | 146 => 149 | 51 => 146 | n => n, fun | 1 => 1 | 3 => 7 | 4 => 8 | n => n⟩
theorem laysSplit : Go.Proofs.Lays.n146 Tryd.prog laysSplit_ren := {
  mixed := by kernel_rfl
  f138 := Tryd.func85.trans (congrArg some (by kernel_rfl))
  f143 := Tryd.func86.trans (congrArg some (by kernel_rfl))
  f146 := Tryd.func39.trans (congrArg some (by kernel_rfl))
  f195 := Tryd.func99.trans (congrArg some (by kernel_rfl))
  f197 := Tryd.func100.trans (congrArg some (by kernel_rfl))
  f217 := Tryd.func80.trans (congrArg some (by kernel_rfl))
  f218 := Tryd.func101.trans (congrArg some (by kernel_rfl))
  f219 := Tryd.func65.trans (congrArg some (by kernel_rfl))
  f221 := Tryd.func66.trans (congrArg some (by kernel_rfl))
  f224 := Tryd.func82.trans (congrArg some (by kernel_rfl))
  f225 := Tryd.func81.trans (congrArg some (by kernel_rfl))
  f260 := Tryd.func110.trans (congrArg some (by kernel_rfl))
  f266 := Tryd.func97.trans (congrArg some (by kernel_rfl))
  f267 := Tryd.func83.trans (congrArg some (by kernel_rfl))
  f268 := Tryd.func84.trans (congrArg some (by kernel_rfl))
  f314 := Tryd.func98.trans (congrArg some (by kernel_rfl))
  t0 := Tryd.underlying0
  a0 := Tryd.isAgg0
  z0 := Tryd.sizeOf0
  v0 := Tryd.zeroValue0
  t3 := Tryd.underlying3
  a3 := Tryd.isAgg3
  z3 := Tryd.sizeOf3
  v3 := Tryd.zeroValue3
  t4 := Tryd.underlying4
  a4 := Tryd.isAgg4
  z4 := Tryd.sizeOf4
  v4 := Tryd.zeroValue4
  t5 := Tryd.underlying5
  a5 := Tryd.isAgg5
  z5 := Tryd.sizeOf5
  v5 := Tryd.zeroValue5
  t9 := Tryd.underlying9
  a9 := Tryd.isAgg9
  z9 := Tryd.sizeOf9
  v9 := Tryd.zeroValue9
  t21 := Tryd.underlying21
  a21 := Tryd.isAgg21
  z21 := Tryd.sizeOf21
  v21 := Tryd.zeroValue21
  t31 := Tryd.underlying55
  a31 := Tryd.isAgg55
  z31 := Tryd.sizeOf55
  v31 := Tryd.zeroValue55
  t46 := Tryd.underlying138
  a46 := Tryd.isAgg138
  z46 := Tryd.sizeOf138
  v46 := Tryd.zeroValue138
  t51 := Tryd.underlying146
  a51 := Tryd.isAgg146
  z51 := Tryd.sizeOf146
  v51 := Tryd.zeroValue146
  t105 := Tryd.underlying152
  a105 := Tryd.isAgg152
  z105 := Tryd.sizeOf152
  v105 := Tryd.zeroValue152
  t119 := Tryd.underlying170
  a119 := Tryd.isAgg170
  z119 := Tryd.sizeOf170
  t138 := Tryd.underlying172
  a138 := Tryd.isAgg172
  z138 := Tryd.sizeOf172
  v138 := Tryd.zeroValue172
  t139 := Tryd.underlying173
  a139 := Tryd.isAgg173
  z139 := Tryd.sizeOf173
  v139 := Tryd.zeroValue173
  t146 := Tryd.underlying149
  a146 := Tryd.isAgg149
  z146 := Tryd.sizeOf149
  v146 := Tryd.zeroValue149
  g1 := by kernel_rfl
  g3 := by kernel_rfl
  g4 := by kernel_rfl }

/-- The machine's number of a function, and the program's. -/
def links : List (Nat × Nat) := [(22, 53), (38, 13), (50, 24), (61, 62), (62, 50), (63, 34), (64, 72), (65, 52), (66, 89), (75, 12), (76, 29), (77, 30), (78, 31), (79, 32), (80, 33), (81, 14), (86, 58), (96, 102), (101, 49), (103, 51), (104, 54), (105, 55), (106, 56), (107, 57), (108, 59), (109, 61), (111, 74), (114, 111), (115, 112), (118, 60), (119, 73), (135, 48), (136, 68), (139, 69), (140, 70), (141, 46), (142, 87), (143, 88), (242, 11), (245, 26), (246, 9), (247, 27), (248, 28), (252, 45), (253, 44), (254, 23), (255, 19), (256, 47), (260, 17), (262, 39), (263, 71), (350, 4), (351, 10), (355, 25), (363, 43)]

def Grw (w w' : World) : Prop := w'.os = w.os ∧ w'.tape = w.tape ∧ w'.output = w.output ∧ w.heap.size ≤ w'.heap.size ∧ ∀ k, k < w.heap.size → w'.heap[k]? = w.heap[k]?

theorem Grw.refl (w : World) : Grw w w := ⟨rfl, rfl, rfl, Nat.le_refl _, fun _ _ => rfl⟩
theorem Grw.trans {a b c : World} (h : Grw a b) (g : Grw b c) : Grw a c :=
  ⟨g.1.trans h.1, g.2.1.trans h.2.1, g.2.2.1.trans h.2.2.1, Nat.le_trans h.2.2.2.1 g.2.2.2.1, fun k hk => (g.2.2.2.2 k (Nat.lt_of_lt_of_le hk h.2.2.2.1)).trans (h.2.2.2.2 k hk)⟩
theorem Grw.drew {a b : World} (h : Grw a b) : Grw a b.drew := h
theorem Grw.drewN {a b : World} (h : Grw a b) (n : Nat) : Grw a (b.drewN n) := h
theorem Grw.alloc {a b : World} (h : Grw a b) (o : Obj) : Grw a (b.alloc o) :=
  ⟨h.1, h.2.1, h.2.2.1, Nat.le_trans h.2.2.2.1 (by show b.heap.size ≤ (b.heap.push _).size; simp), fun k hk => by
    show (b.heap.push _)[k]? = _
    rw [Array.getElem?_push, if_neg (by have := h.2.2.2.1; omega)]; exact h.2.2.2.2 k hk⟩

theorem decD_size (u : Nat) (h : u < 10 ^ 20) : (bA (Lib.decDigits u)).size ≤ 100 := by
  have e : (bA (Lib.decDigits u)).size = (Lib.decDigits u).length := by simp [ByteArray.size]
  have : ∀ (k u : Nat), (digK k u).length ≤ k := by
    intro k
    induction k with
    | zero => intro u; exact Nat.le_refl _
    | succ k ih =>
      intro u
      rw [digK]
      split
      · simp
      · have := ih (u / 10)
        simp; omega
  have h2 := this 20 u
  rw [digK_eq 20 u h (by decide)] at h2
  omega

theorem alloc_cell0 (w : World) (v : Value) (t : TypeId) : (w.alloc (.cells #[v] t)).cell? ⟨w.heap.size, 0, none⟩ = some v := by
  have h : (w.alloc (.cells #[v] t)).heap[w.heap.size]? = some (.cells #[v] t) := by
    show (w.heap.push _)[w.heap.size]? = _
    simp
  simp only [World.cell?, h]
  rfl

set_option maxHeartbeats 1600000 in
set_option maxRecDepth 100000 in
theorem digits_one (n : Int) (w : World) (h0 : 0 ≤ n) (h1 : n < 10) : Calls Tryd.prog 43 #[.int .i64 n] w fun e w' => e = .returned (.string (bA [UInt8.ofNat (48 + n.toNat)])) ∧ Grw w w' := by
  have kc := run_convert_bytes_arg (P := Tryd.prog) (w.alloc (.cells #[.int .u8 (48 + n)] 5)) 44 5 Tryd.underlying44 Tryd.underlying5 w.heap.size 0 1 1 [48 + n] rfl (fun i hi => by
    obtain rfl : i = 0 := by omega
    exact alloc_cell0 w _ _) 9 Tryd.underlying9
  have es : strOfNums [48 + n] = bA [UInt8.ofNat (48 + n.toNat)] := by
    have : (48 + n).toNat = 48 + n.toNat := by omega
    simp [strOfNums, this]
  rw [es] at kc
  obtain ⟨S, hS⟩ : ∃ S, bA [UInt8.ofNat (48 + n.toNat)] = S := ⟨_, rfl⟩
  rw [hS] at kc ⊢
  clear hS es
  go_enter Tryd.func43, Tryd.ntmps43
  go_wp2_with fail
  go_ret
  exact ⟨rfl, (Grw.refl w).alloc _⟩

set_option maxHeartbeats 1600000 in
set_option maxRecDepth 100000 in
theorem digits_nat (k : Nat) : ∀ (n : Int) (w : World), 0 ≤ n → n.toNat < 10 ^ (k + 1) → n ≤ 9223372036854775807 → Calls Tryd.prog 43 #[.int .i64 n] w fun e w' => e = .returned (.string (bA (Lib.decDigits n.toNat))) ∧ Grw w w' := by
  induction k with
  | zero =>
    intro n w h0 h1 _
    have h1 : n < 10 := by omega
    refine (digits_one n w h0 h1).mono ?_
    rintro e w' ⟨rfl, g⟩
    refine ⟨?_, g⟩
    rw [Lib.decDigits, dif_pos (by omega)]
  | succ k ih =>
    intro n w h0 h1 h2
    by_cases hn : n < 10
    · refine (digits_one n w h0 hn).mono ?_
      rintro e w' ⟨rfl, g⟩
      refine ⟨?_, g⟩
      rw [Lib.decDigits, dif_pos (by omega)]
    · have c1 := fun w => ih (n / 10) w (by omega) (by rw [Nat.pow_succ] at h1; omega) (by omega)
      have c2 := fun w => digits_one (n % 10) w (by omega) (by omega)
      have hd : Lib.decDigits n.toNat = Lib.decDigits (n / 10).toNat ++ [UInt8.ofNat (48 + (n % 10).toNat)] := by
        rw [Lib.decDigits, dif_neg (by omega)]
        congr 3 <;> omega
      have e3 : bA (Lib.decDigits n.toNat) = bA (Lib.decDigits (n / 10).toNat) ++ bA [UInt8.ofNat (48 + (n % 10).toNat)] := by
        rw [hd]; apply ByteArray.ext; simp
      have l1 := decD_size (n / 10).toNat (by omega)
      have l2 : (bA [UInt8.ofNat (48 + (n % 10).toNat)]).size = 1 := rfl
      rw [e3]
      clear ih hd e3
      generalize bA (Lib.decDigits (n / 10).toNat) = S1 at *
      generalize bA [UInt8.ofNat (48 + (n % 10).toNat)] = S2 at *
      go_enter Tryd.func43, Tryd.ntmps43
      go_wp2_with (go_at_call 43; first | (with_reducible refine (c1 _).mono ?_; rintro e w1 ⟨rfl, g⟩) | (with_reducible refine (c2 _).mono ?_; rintro e w2 ⟨rfl, g2⟩))
      go_ret
      exact ⟨rfl, g.trans g2⟩

set_option maxHeartbeats 1600000 in
set_option maxRecDepth 100000 in
theorem digits_neg1 (n : Int) (w : World) (h0 : n < 0) (h1 : -10 < n) : Calls Tryd.prog 43 #[.int .i64 n] w fun e w' => e = .returned (.string (bA (45 :: Lib.decDigits (-n).toNat))) ∧ Grw w w' := by
  have c1 := fun w => digits_nat 0 (-n) w (by omega) (by omega) (by omega)
  have e3 : bA (45 :: Lib.decDigits (-n).toNat) = ⟨#[45]⟩ ++ bA (Lib.decDigits (-n).toNat) := by
    apply ByteArray.ext; simp
  have l1 := decD_size (-n).toNat (by omega)
  rw [e3]
  clear e3
  generalize bA (Lib.decDigits (-n).toNat) = S1 at *
  go_enter Tryd.func43, Tryd.ntmps43
  go_wp2_with (go_at_call 43; (with_reducible refine (c1 _).mono ?_; rintro e w1 ⟨rfl, g⟩))
  go_ret
  exact ⟨rfl, g⟩

set_option maxHeartbeats 1600000 in
set_option maxRecDepth 100000 in
theorem digits_neg2 (n : Int) (w : World) (h0 : n ≤ -10) (h1 : -9223372036854775808 ≤ n) : Calls Tryd.prog 43 #[.int .i64 n] w fun e w' => e = .returned (.string (bA (45 :: Lib.decDigits (-n).toNat))) ∧ Grw w w' := by
  have d1 : n.tdiv 10 = -((-n) / 10) := by
    have a : (-n).tdiv 10 = (-n) / 10 := Int.tdiv_eq_ediv_of_nonneg (by omega)
    rw [← a, Int.neg_tdiv, Int.neg_neg]
  have d2 : n.tmod 10 = -((-n) % 10) := by
    have a : (-n).tmod 10 = (-n) % 10 := Int.tmod_eq_emod_of_nonneg (by omega)
    rw [← a, Int.neg_tmod, Int.neg_neg]
  have e1 : wrap64 (-n.tdiv 10) = (-n) / 10 := by
    rw [d1, Int.neg_neg]; unfold wrap64; omega
  have e2 : wrap64 (-n.tmod 10) = (-n) % 10 := by
    rw [d2, Int.neg_neg]; unfold wrap64; omega
  have c1 : ∀ w, Calls Tryd.prog 43 #[.int .i64 (wrap64 (-n.tdiv 10))] w fun e w' => e = .returned (.string (bA (Lib.decDigits ((-n) / 10).toNat))) ∧ Grw w w' := fun w => by
    rw [e1]; exact digits_nat 19 _ w (by omega) (by omega) (by omega)
  have c2 : ∀ w, Calls Tryd.prog 43 #[.int .i64 (wrap64 (-n.tmod 10))] w fun e w' => e = .returned (.string (bA [UInt8.ofNat (48 + ((-n) % 10).toNat)])) ∧ Grw w w' := fun w => by
    rw [e2]; exact digits_one _ w (by omega) (by omega)
  have hd : Lib.decDigits (-n).toNat = Lib.decDigits ((-n) / 10).toNat ++ [UInt8.ofNat (48 + ((-n) % 10).toNat)] := by
    rw [Lib.decDigits, dif_neg (by omega)]
    congr 3 <;> omega
  have e3 : bA (45 :: Lib.decDigits (-n).toNat) = (⟨#[45]⟩ ++ bA (Lib.decDigits ((-n) / 10).toNat)) ++ bA [UInt8.ofNat (48 + ((-n) % 10).toNat)] := by
    rw [hd]; apply ByteArray.ext; simp
  have l1 := decD_size ((-n) / 10).toNat (by omega)
  have l2 : (bA [UInt8.ofNat (48 + ((-n) % 10).toNat)]).size = 1 := rfl
  rw [e3]
  clear e3 hd e1 e2 d1 d2
  generalize bA (Lib.decDigits ((-n) / 10).toNat) = S1 at *
  generalize bA [UInt8.ofNat (48 + ((-n) % 10).toNat)] = S2 at *
  have l3 : (⟨#[45]⟩ ++ S1 : ByteArray).size ≤ 101 := by rw [ByteArray.size_append]; show 1 + S1.size ≤ 101; omega
  go_enter Tryd.func43, Tryd.ntmps43
  go_wp2_with (go_at_call 43; first | (with_reducible refine (c1 _).mono ?_; rintro e w1 ⟨rfl, g⟩) | (with_reducible refine (c2 _).mono ?_; rintro e w2 ⟨rfl, g2⟩))
  go_ret
  exact ⟨rfl, g.trans g2⟩

theorem digits_link {fi : FI} (vs : List PV) (gh : List GObj) (r : PV) (gh' : List GObj) (h : libItoa vs gh = some (r, gh')) : CallOk Tryd.prog fi 43 vs gh r gh' := by
  intro M w args hG hlb hown hlen hrep
  unfold libItoa at h
  split at h
  · rename_i n
    split at h
    case isFalse => cases h
    rename_i hc
    cases h
    obtain ⟨v, rfl⟩ := List.length_eq_one_iff.1 hlen
    have hv := hrep 0 _ _ rfl rfl
    cases hv
    have key : Calls Tryd.prog 43 #[.int .i64 n] w fun e w' => e = .returned (.string (bA (itoaK n))) ∧ Grw w w' := by
      rw [itoaK_eq hc.1 hc.2]
      unfold Lib.itoa
      by_cases h0 : n < 0
      · rw [if_pos h0]
        have e : n.natAbs = (-n).toNat := by omega
        rw [e]
        by_cases h1 : -10 < n
        · exact digits_neg1 n w h0 h1
        · exact digits_neg2 n w (by omega) hc.1
      · rw [if_neg h0]
        exact digits_nat 19 n w (by omega) (by omega) hc.2
    refine key.mono ?_
    rintro e w' ⟨rfl, g⟩
    obtain ⟨h1, h2⟩ := GI.same hG g.1 g.2.1 g.2.2.1 g.2.2.2.1 g.2.2.2.2
    exact ⟨_, M, rfl, h1, hlb, rfl, (RepP.str _).repE.repAt, h2⟩
  · cases h

def glOf (m : Int) (t5 : TypeId) (p5 : Value) (t6 : TypeId) (p6 : Value) : List (Nat × Nat × Option Value) := tabGl 2 .u64 Lib.pow10Tab ++ [(1, 0, some (.int .i64 m)), (3, 0, some (.iface t5 p5)), (4, 0, some (.iface t6 p6))]

theorem linked (gl : List (Nat × Nat × Option Value)) : (links.all fun x => linkF Tryd.prog (fiG links gl) pg x.1 x.2) = true := by kernel_rfl

theorem link (m : Int) (t5 : TypeId) (p5 : Value) (t6 : TypeId) (p6 : Value) : LinkOk Tryd.prog (fiG links (glOf m t5 p5 t6 p6)) pg := by
  have hpow : ∀ w, GlAt (fiG links (glOf m t5 p5 t6 p6)) w → Lib.TabIs Tryd.prog w "internal/strconv.uint64pow10" .u64 Lib.pow10Tab := fun w h => tab_of_gl (g := 2) (by kernel_rfl) (by decide) (fun x hx => List.mem_append.2 (.inl hx)) h
  have hmax : ∀ w, GlAt (fiG links (glOf m t5 p5 t6 p6)) w → ∃ m, w.cell? ⟨1, 0, none⟩ = some (.int .i64 m) := fun w h => ⟨m, h (1, 0, some (.int .i64 m)) (List.mem_append.2 (.inr (by simp)))⟩
  have hE5 : ∀ w, GlAt (fiG links (glOf m t5 p5 t6 p6)) w → ∃ te pe, w.cell? ⟨3, 0, none⟩ = some (.iface te pe) := fun w h => ⟨t5, p5, h (3, 0, some (.iface t5 p5)) (List.mem_append.2 (.inr (by simp)))⟩
  have hE6 : ∀ w, GlAt (fiG links (glOf m t5 p5 t6 p6)) w → ∃ te pe, w.cell? ⟨4, 0, none⟩ = some (.iface te pe) := fun w h => ⟨t6, p6, h (4, 0, some (.iface t6 p6)) (List.mem_append.2 (.inr (by simp)))⟩
  refine link_of (linked _) ?_
  intro f F L hm hp
  have h : ∀ x ∈ links, isLib pg x.1 = true → x = (119, 73) ∨ x = (255, 19) ∨ x = (260, 17) ∨ x = (262, 39) ∨ x = (263, 71) ∨ x = (363, 43) := by decide +kernel
  rcases h (f, F) hm (by simp [isLib, hp]) with hx | hx | hx | hx | hx | hx
  · cases hx
    have e : L = libGrow 1 8 := by
      have e2 : pg 119 = some (.lib (libGrow 1 8)) := rfl
      rw [e2] at hp; cases hp; rfl
    subst e
    exact fun vs gh r gh' h _ => grow_link (by decide +kernel) vs gh r gh' h
  · cases hx
    have e : L = libCut := by
      have e2 : pg 255 = some (.lib (libCut)) := rfl
      rw [e2] at hp; cases hp; rfl
    subst e
    exact fun vs gh r gh' h _ => cut_link (ρ := laysCut_ren) laysCut hmax vs gh r gh' h
  · cases hx
    have e : L = libItoa := by
      have e2 : pg 260 = some (.lib (libItoa)) := rfl
      rw [e2] at hp; cases hp; rfl
    subst e
    exact fun vs gh r gh' h _ => itoa_link (ρ := laysItoa_ren) laysItoa hpow vs gh r gh' h
  · cases hx
    have e : L = libSplit := by
      have e2 : pg 262 = some (.lib (libSplit)) := rfl
      rw [e2] at hp; cases hp; rfl
    subst e
    exact fun vs gh r gh' h _ => split_link (ρ := laysSplit_ren) laysSplit (by kernel_rfl) hmax vs gh r gh' h
  · cases hx
    have e : L = libAtoi := by
      have e2 : pg 263 = some (.lib (libAtoi)) := rfl
      rw [e2] at hp; cases hp; rfl
    subst e
    exact fun vs gh r gh' h _ => atoi_link (ρ := laysAtoi_ren) laysAtoi hE5 hE6 vs gh r gh' h
  · cases hx
    have e : L = libItoa := by
      have e2 : pg 363 = some (.lib (libItoa)) := rfl
      rw [e2] at hp; cases hp; rfl
    subst e
    exact fun vs gh r gh' h _ => digits_link vs gh r gh' h

theorem own : ownKnob Tryd.prog.godebug = none := by kernel_rfl
theorem laidOut : laidOutB Tryd.prog = true := by kernel_rfl


noncomputable def laidWorld (os : Os) : World := { World.doorLaid Tryd.prog 77 os with heap := (World.doorLaid Tryd.prog 77 os).heap.modify 7 fun
  | .cells _ t fz => .cells ((Pinned.utf8FirstZ.map fun (z : Nat) => Value.int .u8 (z : Int)).toArray) t fz
  | o => o }

theorem laid_met (os : Os) : laidMetH Tryd.prog Rows.tracePrintsUptoRow.laid ((laidWorld os).forCall (fun _ _ => 0) ⟨#[], #[.agg #[.slice none 0 0, .slice none 0 0]], []⟩).memory :=
  laidMet_of_run3 8 (by kernel_rfl) (by kernel_rfl) (by kernel_rfl)

theorem reads (os : Os) {H : Type} (enc : TypeId × Value → H) : DataW.whole enc Tryd.prog ((laidWorld os).forCall (fun _ _ => 0) ⟨#[], #[.agg #[.slice none 0 0, .slice none 0 0]], []⟩).memory Tryd.f4.params.toList Rows.tracePrintsSpec.vars false #[.agg #[.slice none 0 0, .slice none 0 0]].toList 8 = some ([.agg [.nil, .nil]], [], []) := by kernel_rfl

theorem lifted (os : Os) (started : os.Started) (H : Type) (enc : TypeId × Value → H) (F : Stop.Interp) :
    ReturnsInHanded {} Tryd.checked os 4 .any ((Rows.OpenSpec.upto Rows.tracePrintsSpec).preRow enc Tryd.prog Tryd.f4 Rows.tracePrintsUptoRow.domain false Rows.tracePrintsUptoRow.laid) (((Rows.OpenSpec.upto Rows.tracePrintsSpec).at F).post enc Tryd.prog Tryd.f4 false true false false) := by
  refine returnsInHanded_of_row (C := Tryd.checked) (s := (Rows.OpenSpec.upto Rows.tracePrintsSpec)) own started (by kernel_rfl) Tryd.func4
    (witness_row_atRef (enc := enc) (C := Tryd.checked) false (laidWorld os) #[.agg #[.slice none 0 0, .slice none 0 0]] rfl (by kernel_rfl) (by kernel_rfl) (by kernel_rfl)
      (OpenSpec.preRow_of_cond 8 (reads os enc) (by kernel_rfl) (fun k hk => by cases hk; kernel_rfl) (by kernel_rfl) (laid_met os))) ?_
  intro W base args ds gs before hval hW hcnd hk0 hwt hL hsh _
  have hkk := hk0 _ rfl
  have hW' := hW
  obtain ⟨p, q, hA, hV, rfl, hfz, hnd⟩ := hW
  have hA0 : DataW.TrodAll enc Tryd.prog W 0 (fun _ => true) true Tryd.f4.params.toList args.toList ds p := hA
  obtain ⟨rfl, rfl⟩ := trodVars_none hV
  have hw : (DataW.weightsEach Tryd.prog Tryd.f4.params.toList ds).all (· ≤ reachBytes) = true := by
    have h : (DataW.weightsEach Tryd.prog (Tryd.f4.params.toList ++ []) (ds ++ [])).all (· ≤ reachBytes) = true := hwt
    rwa [List.append_nil, List.append_nil] at h
  have hval2 : ∀ (j : Nat) t v, Tryd.f4.params.toList[j]? = some t → args.toList[j]? = some v → Value.okWide Tryd.prog W .any base t v := fun j t v h1 h2 => hval j t v (by rw [← Array.getElem?_toList]; exact h1) (by rw [← Array.getElem?_toList]; exact h2)
  have hmet : laidMet Tryd.prog Rows.tracePrintsUptoRow.laid W := hL
  have ht : Lib.TabIs Tryd.prog W "internal/strconv.uint64pow10" .u64 Lib.pow10Tab := tab_laid (g := 2) hmet (by rw [← (show Rows.laid_internal_strconv_uint64pow10 = Lib.tabData .u64 Lib.pow10Tab by kernel_rfl)]; simp [Rows.tracePrintsUptoRow]) (by kernel_rfl) (by kernel_rfl) Tryd.underlying145 Tryd.underlying132 (by kernel_rfl) (by kernel_rfl)
  obtain ⟨m, hm⟩ := cell_of_shapedOpen_int (g := 1) (zero := #[Value.int .i64 0]) hsh (by decide +kernel) (by kernel_rfl) (by rfl) (by kernel_rfl) (by kernel_rfl) Tryd.underlying3
  obtain ⟨t5, p5, hs5, hc5⟩ := iface_laid (g := 3) (nm := "*errors.errorString") hmet (show ("strconv.ErrSyntax", Rows.laid_strconv_ErrSyntax) ∈ Rows.tracePrintsUptoRow.laid by simp [Rows.tracePrintsUptoRow]) (by kernel_rfl) (by kernel_rfl) Tryd.underlying86
  obtain ⟨t6, p6, hs6, hc6⟩ := iface_laid (g := 4) (nm := "*errors.errorString") hmet (show ("strconv.ErrRange", Rows.laid_strconv_ErrRange) ∈ Rows.tracePrintsUptoRow.laid by simp [Rows.tracePrintsUptoRow]) (by kernel_rfl) (by kernel_rfl) Tryd.underlying86
  have hgl : ∀ x ∈ (fiG links (glOf m t5 p5 t6 p6)).gl, x.1 < W.heap.size ∧ W.cell? ⟨x.1, x.2.1, none⟩ = x.2.2 := by
    intro x hx
    rcases List.mem_append.1 hx with hx | hx
    · exact gl_of_tab ht (by kernel_rfl) (by decide) x hx
    · simp only [List.mem_cons, List.not_mem_nil, or_false] at hx
      rcases hx with rfl | rfl | rfl
      · exact ⟨lt_of_cell hm, hm⟩
      · exact ⟨hs5, hc5⟩
      · exact ⟨hs6, hc6⟩
  have hrun := row_ok_bulk (enc := enc) (P := Tryd.prog) (fi := fiG links (glOf m t5 p5 t6 p6)) (pg := pg) (f := 350) (F := 4) (n := 20) (by decide +kernel) (link m t5 p5 t6 p6) rfl (L := insTracePrints) (by rw [Tryd.params4]; with_unfolding_all rfl) tracePrints_true hA0 hval2 hw (bulk_small hkk) hgl
  have hA1 := hA0
  rw [Tryd.params4] at hA1
  obtain ⟨v0, vs0, d0, ds0, p0, q0, hargs, rfl, rfl, h0, r0⟩ := trodAll_cons hA1
  obtain ⟨rfl, rfl, rfl⟩ := trodAll_nil r0
  obtain rfl : args = #[v0] := by cases args; simp_all
  refine hrun.mono fun e W' ⟨he, bel⟩ => ?_
  subst he
  exact ⟨_, rfl, _, _, _, [], _, [], hW', trodAll_mk1 (shut_bool Tryd.underlying4 _), trodAll_below laidOut bel (by kernel_rfl) hA0, rfl, bel.frame _, fun h => by cases h⟩

theorem over : Rows.tracePrintsUptoRow.holds Tryd.pinned (Rows.OpenSpec.upto Rows.tracePrintsSpec) :=
  OpenClaim.holds_of_cond 4 Tryd.f4 rfl rfl rfl rfl rfl rfl rfl ⟨rfl, rfl, rfl, rfl, rfl⟩ rfl rfl rfl rfl rfl (by kernel_rfl) Tryd.func4 (by kernel_rfl)
    (of_decide_eq_true (by kernel_rfl)) (by unfold Func.isWrapper; first | (rw [if_pos (by decide +kernel)]; kernel_rfl) | (rw [if_neg (by decide +kernel)]; exact ⟨rfl, rfl⟩))
    (fun os started H enc _ F => by rw [OpenClaim.pre_eq_preRow]; exact lifted os started H enc F)

theorem plain (f : FuncId) (fn : Func) (hf : Tryd.pinned.checked.prog.funcNamed "latchwork/latchworklaw.TracePrints" = some f) (hfn : Tryd.pinned.checked.prog.funcs[f]? = some fn) :
    true = Tryd.pinned.checked.prog.looks [] ∧ ∀ (j : Nat) t, fn.params[j]? = some t → Tryd.pinned.checked.prog.wantsStandIn t = false := by
  obtain rfl : f = 4 := Option.some.inj ((show Tryd.prog.funcNamed "latchwork/latchworklaw.TracePrints" = some 4 by kernel_rfl).symm.trans hf) |>.symm
  obtain rfl : fn = Tryd.f4 := (Option.some.inj (Tryd.func4.symm.trans hfn)).symm
  refine ⟨by kernel_rfl, fun j t ht => ?_⟩
  rw [Tryd.params4] at ht
  have hall : ∀ t ∈ ([37] : List TypeId), Tryd.prog.wantsStandIn t = false := by decide +kernel
  exact hall t (by simpa using Array.mem_of_getElem? ht)
theorem proved : Rows.TracePrintsUptoCardSaid :=
  Claim7.holds_tied_plain_at .later [] _ _ _ _ over (fun _ h => by cases h) (by kernel_rfl) (fun _ h => by cases h) tracePrintsUpto_row_tie rfl ⟨rfl, rfl⟩ (by kernel_rfl) rfl plain (by kernel_rfl)
#print axioms proved
end Go.Proofs.YtmodipglnngghacDoor.tracePrintsDone
end
