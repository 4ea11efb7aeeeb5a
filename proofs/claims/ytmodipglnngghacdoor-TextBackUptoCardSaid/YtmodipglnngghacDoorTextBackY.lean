/-
  TextBack: the given statement holds: the call answers true, and what it was handed reads as it did.
-/
import Derived.Test.YtmodipglnngghacDoorTextBackX
import Derived.Test.YtmodipglnngghacDoorRows
import Derived.Test.YtmodipglnngghacDoorTie
import Derived.Test.YtmodipglnngghacDoorCards
import Derived.KernelRfl
import Derived.Deep.DeepHandedRow
import Derived.Deep.DeepWitnessRowRef
import Derived.Deep.DeepLaidRun
import Derived.LaidMore
import Derived.RegionCalls
import Derived.Deep.RegionWith
import Derived.Laws.BytesString
import Derived.JoinedCond
import Derived.Deep.CondSized
import Derived.WalkKit
import Derived.ProofKit
import Derived.OpenShut
import Derived.ShutString
import Derived.ChangeOld
import Derived.Below
set_option linter.unusedVariables false
set_option linter.unusedSimpArgs false
set_option linter.unnecessarySimpa false

/-! TextBack: the given statement holds: the call answers true, and what it was handed reads as it did. -/
section
namespace Go.Proofs.YtmodipglnngghacDoor.textBackDone
open Go Go.Lw Go.ChangeShapes Go.WideShapes Go.RowKit
set_option maxRecDepth 100000

def laysItoa_ren:Go.Shelf.Ren:=⟨fun|171=>17|243=>37|246=>64|283=>76|284=>77|285=>78|286=>79|129=>93|317=>92|318=>94|319=>95|320=>96|337=>108|338=>109|n=>n,fun|3=>3|9=>9|2=>2|4=>4|171=>131|0=>0|53=>132|37=>44|5=>5|173=>135|212=>145|51=>146|20=>20|213=>147|46=>138|232=>168|233=>169|n=>n,fun|17=>2|18=>5|19=>6|n=>n⟩
theorem laysItoa:Go.Proofs.LaysM.n171 Tryd.prog laysItoa_ren:={
 mixed:=by kernel_rfl
 f129:=Tryd.func93.trans (congrArg some (by kernel_rfl))
 f171:=Tryd.func17.trans (congrArg some (by kernel_rfl))
 f243:=Tryd.func37.trans (congrArg some (by kernel_rfl))
 f246:=Tryd.func64.trans (congrArg some (by kernel_rfl))
 f283:=Tryd.func76.trans (congrArg some (by kernel_rfl))
 f284:=Tryd.func77.trans (congrArg some (by kernel_rfl))
 f285:=Tryd.func78.trans (congrArg some (by kernel_rfl))
 f286:=Tryd.func79.trans (congrArg some (by kernel_rfl))
 f317:=Tryd.func92.trans (congrArg some (by kernel_rfl))
 f318:=Tryd.func94.trans (congrArg some (by kernel_rfl))
 f319:=Tryd.func95.trans (congrArg some (by kernel_rfl))
 f320:=Tryd.func96.trans (congrArg some (by kernel_rfl))
 f337:=Tryd.func108.trans (congrArg some (by kernel_rfl))
 f338:=Tryd.func109.trans (congrArg some (by kernel_rfl))
 t0:=Tryd.underlying0
 a0:=Tryd.isAgg0
 z0:=Tryd.sizeOf0
 v0:=Tryd.zeroValue0
 t2:=Tryd.underlying2
 a2:=Tryd.isAgg2
 z2:=Tryd.sizeOf2
 v2:=Tryd.zeroValue2
 t3:=Tryd.underlying3
 a3:=Tryd.isAgg3
 z3:=Tryd.sizeOf3
 v3:=Tryd.zeroValue3
 t4:=Tryd.underlying4
 a4:=Tryd.isAgg4
 z4:=Tryd.sizeOf4
 v4:=Tryd.zeroValue4
 t5:=Tryd.underlying5
 a5:=Tryd.isAgg5
 z5:=Tryd.sizeOf5
 v5:=Tryd.zeroValue5
 t9:=Tryd.underlying9
 a9:=Tryd.isAgg9
 z9:=Tryd.sizeOf9
 v9:=Tryd.zeroValue9
 t20:=Tryd.underlying20
 a20:=Tryd.isAgg20
 z20:=Tryd.sizeOf20
 v20:=Tryd.zeroValue20
 t37:=Tryd.underlying44
 a37:=Tryd.isAgg44
 z37:=Tryd.sizeOf44
 v37:=Tryd.zeroValue44
 t46:=Tryd.underlying138
 a46:=Tryd.isAgg138
 z46:=Tryd.sizeOf138
 v46:=Tryd.zeroValue138
 t51:=Tryd.underlying146
 a51:=Tryd.isAgg146
 z51:=Tryd.sizeOf146
 v51:=Tryd.zeroValue146
 t53:=Tryd.underlying132
 a53:=Tryd.isAgg132
 z53:=Tryd.sizeOf132
 v53:=Tryd.zeroValue132
 t171:=Tryd.underlying131
 a171:=Tryd.isAgg131
 z171:=Tryd.sizeOf131
 v171:=Tryd.zeroValue131
 t173:=Tryd.underlying135
 a173:=Tryd.isAgg135
 z173:=Tryd.sizeOf135
 v173:=Tryd.zeroValue135
 t212:=Tryd.underlying145
 a212:=Tryd.isAgg145
 z212:=Tryd.sizeOf145
 v212:=Tryd.zeroValue145
 t213:=Tryd.underlying147
 a213:=Tryd.isAgg147
 z213:=Tryd.sizeOf147
 t232:=Tryd.underlying168
 a232:=Tryd.isAgg168
 z232:=Tryd.sizeOf168
 v232:=Tryd.zeroValue168
 t233:=Tryd.underlying169
 a233:=Tryd.isAgg169
 z233:=Tryd.sizeOf169
 v233:=Tryd.zeroValue169
 g17:=by kernel_rfl
 g18:=by kernel_rfl
 g19:=by kernel_rfl
 i0:=by kernel_rfl
 i2:=by kernel_rfl
 i3:=by kernel_rfl
 i4:=by kernel_rfl
 i5:=by kernel_rfl
 i9:=by kernel_rfl
 i20:=by kernel_rfl
 i37:=by kernel_rfl
 i46:=by kernel_rfl
 i51:=by kernel_rfl
 i53:=by kernel_rfl
 i171:=by kernel_rfl
 i173:=by kernel_rfl
 i212:=by kernel_rfl
 i232:=by kernel_rfl
 i233:=by kernel_rfl
 m17:=by kernel_rfl
 m18:=by kernel_rfl
 m19:=by kernel_rfl }
def laysAtoi_ren:Go.Shelf.Ren:=⟨fun|172=>71|244=>90|245=>91|247=>103|279=>104|280=>105|281=>106|282=>107|287=>113|316=>114|171=>17|205=>115|321=>116|322=>117|243=>37|246=>64|283=>76|284=>77|285=>78|286=>79|129=>93|317=>92|318=>94|319=>95|320=>96|337=>108|338=>109|n=>n,fun|9=>9|3=>3|75=>86|76=>87|4=>4|5=>5|167=>154|37=>44|0=>0|85=>155|2=>2|168=>157|53=>132|175=>162|46=>138|210=>166|127=>90|145=>177|143=>175|21=>21|171=>131|173=>135|212=>145|51=>146|20=>20|213=>147|232=>168|233=>169|80=>58|n=>n,fun|15=>3|16=>4|17=>2|18=>5|19=>6|n=>n⟩
theorem laysAtoi:Go.Proofs.LaysC.n172 Tryd.prog laysAtoi_ren:={
 mixed:=by kernel_rfl
 f129:=Tryd.func93.trans (congrArg some (by kernel_rfl))
 f171:=Tryd.func17.trans (congrArg some (by kernel_rfl))
 f172:=Tryd.func71.trans (congrArg some (by kernel_rfl))
 f205:=Tryd.func115.trans (congrArg some (by kernel_rfl))
 f243:=Tryd.func37.trans (congrArg some (by kernel_rfl))
 f244:=Tryd.func90.trans (congrArg some (by kernel_rfl))
 f245:=Tryd.func91.trans (congrArg some (by kernel_rfl))
 f246:=Tryd.func64.trans (congrArg some (by kernel_rfl))
 f247:=Tryd.func103.trans (congrArg some (by kernel_rfl))
 f279:=Tryd.func104.trans (congrArg some (by kernel_rfl))
 f280:=Tryd.func105.trans (congrArg some (by kernel_rfl))
 f281:=Tryd.func106.trans (congrArg some (by kernel_rfl))
 f282:=Tryd.func107.trans (congrArg some (by kernel_rfl))
 f283:=Tryd.func76.trans (congrArg some (by kernel_rfl))
 f284:=Tryd.func77.trans (congrArg some (by kernel_rfl))
 f285:=Tryd.func78.trans (congrArg some (by kernel_rfl))
 f286:=Tryd.func79.trans (congrArg some (by kernel_rfl))
 f287:=Tryd.func113.trans (congrArg some (by kernel_rfl))
 f316:=Tryd.func114.trans (congrArg some (by kernel_rfl))
 f317:=Tryd.func92.trans (congrArg some (by kernel_rfl))
 f318:=Tryd.func94.trans (congrArg some (by kernel_rfl))
 f319:=Tryd.func95.trans (congrArg some (by kernel_rfl))
 f320:=Tryd.func96.trans (congrArg some (by kernel_rfl))
 f321:=Tryd.func116.trans (congrArg some (by kernel_rfl))
 f322:=Tryd.func117.trans (congrArg some (by kernel_rfl))
 f337:=Tryd.func108.trans (congrArg some (by kernel_rfl))
 f338:=Tryd.func109.trans (congrArg some (by kernel_rfl))
 t0:=Tryd.underlying0
 a0:=Tryd.isAgg0
 z0:=Tryd.sizeOf0
 v0:=Tryd.zeroValue0
 t2:=Tryd.underlying2
 a2:=Tryd.isAgg2
 z2:=Tryd.sizeOf2
 v2:=Tryd.zeroValue2
 t3:=Tryd.underlying3
 a3:=Tryd.isAgg3
 z3:=Tryd.sizeOf3
 v3:=Tryd.zeroValue3
 t4:=Tryd.underlying4
 a4:=Tryd.isAgg4
 z4:=Tryd.sizeOf4
 v4:=Tryd.zeroValue4
 t5:=Tryd.underlying5
 a5:=Tryd.isAgg5
 z5:=Tryd.sizeOf5
 v5:=Tryd.zeroValue5
 t9:=Tryd.underlying9
 a9:=Tryd.isAgg9
 z9:=Tryd.sizeOf9
 v9:=Tryd.zeroValue9
 t20:=Tryd.underlying20
 a20:=Tryd.isAgg20
 z20:=Tryd.sizeOf20
 v20:=Tryd.zeroValue20
 t21:=Tryd.underlying21
 a21:=Tryd.isAgg21
 z21:=Tryd.sizeOf21
 v21:=Tryd.zeroValue21
 t37:=Tryd.underlying44
 a37:=Tryd.isAgg44
 z37:=Tryd.sizeOf44
 v37:=Tryd.zeroValue44
 t46:=Tryd.underlying138
 a46:=Tryd.isAgg138
 z46:=Tryd.sizeOf138
 v46:=Tryd.zeroValue138
 t51:=Tryd.underlying146
 a51:=Tryd.isAgg146
 z51:=Tryd.sizeOf146
 v51:=Tryd.zeroValue146
 t53:=Tryd.underlying132
 a53:=Tryd.isAgg132
 z53:=Tryd.sizeOf132
 v53:=Tryd.zeroValue132
 t75:=Tryd.underlying86
 a75:=Tryd.isAgg86
 z75:=Tryd.sizeOf86
 v75:=Tryd.zeroValue86
 t76:=Tryd.underlying87
 a76:=Tryd.isAgg87
 z76:=Tryd.sizeOf87
 v76:=Tryd.zeroValue87
 t85:=Tryd.underlying155
 a85:=Tryd.isAgg155
 z85:=Tryd.sizeOf155
 v85:=Tryd.zeroValue155
 t127:=Tryd.underlying90
 a127:=Tryd.isAgg90
 z127:=Tryd.sizeOf90
 v127:=Tryd.zeroValue90
 t143:=Tryd.underlying175
 a143:=Tryd.isAgg175
 z143:=Tryd.sizeOf175
 v143:=Tryd.zeroValue175
 t145:=Tryd.underlying177
 a145:=Tryd.isAgg177
 z145:=Tryd.sizeOf177
 v145:=Tryd.zeroValue177
 t167:=Tryd.underlying154
 a167:=Tryd.isAgg154
 z167:=Tryd.sizeOf154
 v167:=Tryd.zeroValue154
 t168:=Tryd.underlying157
 a168:=Tryd.isAgg157
 z168:=Tryd.sizeOf157
 v168:=Tryd.zeroValue157
 t171:=Tryd.underlying131
 a171:=Tryd.isAgg131
 z171:=Tryd.sizeOf131
 v171:=Tryd.zeroValue131
 t173:=Tryd.underlying135
 a173:=Tryd.isAgg135
 z173:=Tryd.sizeOf135
 v173:=Tryd.zeroValue135
 t175:=Tryd.underlying162
 a175:=Tryd.isAgg162
 z175:=Tryd.sizeOf162
 v175:=Tryd.zeroValue162
 t210:=Tryd.underlying166
 a210:=Tryd.isAgg166
 z210:=Tryd.sizeOf166
 v210:=Tryd.zeroValue166
 t212:=Tryd.underlying145
 a212:=Tryd.isAgg145
 z212:=Tryd.sizeOf145
 v212:=Tryd.zeroValue145
 t213:=Tryd.underlying147
 a213:=Tryd.isAgg147
 z213:=Tryd.sizeOf147
 t232:=Tryd.underlying168
 a232:=Tryd.isAgg168
 z232:=Tryd.sizeOf168
 v232:=Tryd.zeroValue168
 t233:=Tryd.underlying169
 a233:=Tryd.isAgg169
 z233:=Tryd.sizeOf169
 v233:=Tryd.zeroValue169
 g15:=by kernel_rfl
 g16:=by kernel_rfl
 g17:=by kernel_rfl
 g18:=by kernel_rfl
 g19:=by kernel_rfl
 t80:=Tryd.underlying58
 a80:=Tryd.isAgg58
 z80:=Tryd.sizeOf58
 v80:=Tryd.zeroValue58
 i0:=by kernel_rfl
 i2:=by kernel_rfl
 i3:=by kernel_rfl
 i4:=by kernel_rfl
 i5:=by kernel_rfl
 i9:=by kernel_rfl
 i20:=by kernel_rfl
 i21:=by kernel_rfl
 i37:=by kernel_rfl
 i46:=by kernel_rfl
 i51:=by kernel_rfl
 i53:=by kernel_rfl
 i75:=by kernel_rfl
 i76:=by kernel_rfl
 i80:=by kernel_rfl
 i85:=by kernel_rfl
 i127:=by kernel_rfl
 i143:=by kernel_rfl
 i145:=by kernel_rfl
 i167:=by kernel_rfl
 i168:=by kernel_rfl
 i171:=by kernel_rfl
 i173:=by kernel_rfl
 i175:=by kernel_rfl
 i210:=by kernel_rfl
 i212:=by kernel_rfl
 i232:=by kernel_rfl
 i233:=by kernel_rfl
 m15:=by kernel_rfl
 m16:=by kernel_rfl
 m17:=by kernel_rfl
 m18:=by kernel_rfl
 m19:=by kernel_rfl
 c0:=by kernel_rfl
 c2:=by kernel_rfl
 c3:=by kernel_rfl
 c4:=by kernel_rfl
 c5:=by kernel_rfl
 c9:=by kernel_rfl
 c20:=by kernel_rfl
 c21:=by kernel_rfl
 c37:=by kernel_rfl
 c46:=by kernel_rfl
 c51:=by kernel_rfl
 c53:=by kernel_rfl
 c75:=by kernel_rfl
 c76:=by kernel_rfl
 c80:=by kernel_rfl
 c85:=by kernel_rfl
 c127:=by kernel_rfl
 c143:=by kernel_rfl
 c145:=by kernel_rfl
 c167:=by kernel_rfl
 c168:=by kernel_rfl
 c171:=by kernel_rfl
 c173:=by kernel_rfl
 c175:=by kernel_rfl
 c210:=by kernel_rfl
 c212:=by kernel_rfl
 c213:=by kernel_rfl
 c232:=by kernel_rfl
 c233:=by kernel_rfl }
def laysCut_ren:Go.Shelf.Ren:=⟨fun|145=>19|220=>38|219=>65|217=>80|225=>81|224=>82|267=>83|266=>97|314=>98|n=>n,fun|9=>9|4=>4|59=>62|3=>3|5=>5|46=>138|146=>149|51=>146|n=>n,fun|1=>1|n=>n⟩
theorem laysCut:Go.Proofs.Lays.n145 Tryd.prog laysCut_ren:={
 mixed:=by kernel_rfl
 f145:=Tryd.func19.trans (congrArg some (by kernel_rfl))
 f217:=Tryd.func80.trans (congrArg some (by kernel_rfl))
 f219:=Tryd.func65.trans (congrArg some (by kernel_rfl))
 f220:=Tryd.func38.trans (congrArg some (by kernel_rfl))
 f224:=Tryd.func82.trans (congrArg some (by kernel_rfl))
 f225:=Tryd.func81.trans (congrArg some (by kernel_rfl))
 f266:=Tryd.func97.trans (congrArg some (by kernel_rfl))
 f267:=Tryd.func83.trans (congrArg some (by kernel_rfl))
 f314:=Tryd.func98.trans (congrArg some (by kernel_rfl))
 t3:=Tryd.underlying3
 a3:=Tryd.isAgg3
 z3:=Tryd.sizeOf3
 v3:=Tryd.zeroValue3
 t4:=Tryd.underlying4
 a4:=Tryd.isAgg4
 z4:=Tryd.sizeOf4
 v4:=Tryd.zeroValue4
 t5:=Tryd.underlying5
 a5:=Tryd.isAgg5
 z5:=Tryd.sizeOf5
 v5:=Tryd.zeroValue5
 t9:=Tryd.underlying9
 a9:=Tryd.isAgg9
 z9:=Tryd.sizeOf9
 v9:=Tryd.zeroValue9
 t46:=Tryd.underlying138
 a46:=Tryd.isAgg138
 z46:=Tryd.sizeOf138
 v46:=Tryd.zeroValue138
 t51:=Tryd.underlying146
 a51:=Tryd.isAgg146
 z51:=Tryd.sizeOf146
 v51:=Tryd.zeroValue146
 t59:=Tryd.underlying62
 a59:=Tryd.isAgg62
 z59:=Tryd.sizeOf62
 v59:=Tryd.zeroValue62
 t146:=Tryd.underlying149
 a146:=Tryd.isAgg149
 z146:=Tryd.sizeOf149
 v146:=Tryd.zeroValue149
 g1:=by kernel_rfl }
def laysSplit_ren:Go.Shelf.Ren:=⟨fun|146=>39|221=>66|268=>84|138=>85|143=>86|195=>99|197=>100|218=>101|219=>65|260=>110|217=>80|225=>81|224=>82|267=>83|266=>97|314=>98|n=>n,fun|9=>9|31=>55|3=>3|4=>4|0=>0|105=>152|21=>21|5=>5|46=>138|119=>170|139=>173|138=>172|146=>149|51=>146|n=>n,fun|1=>1|3=>7|4=>8|n=>n⟩
theorem laysSplit:Go.Proofs.Lays.n146 Tryd.prog laysSplit_ren:={
 mixed:=by kernel_rfl
 f138:=Tryd.func85.trans (congrArg some (by kernel_rfl))
 f143:=Tryd.func86.trans (congrArg some (by kernel_rfl))
 f146:=Tryd.func39.trans (congrArg some (by kernel_rfl))
 f195:=Tryd.func99.trans (congrArg some (by kernel_rfl))
 f197:=Tryd.func100.trans (congrArg some (by kernel_rfl))
 f217:=Tryd.func80.trans (congrArg some (by kernel_rfl))
 f218:=Tryd.func101.trans (congrArg some (by kernel_rfl))
 f219:=Tryd.func65.trans (congrArg some (by kernel_rfl))
 f221:=Tryd.func66.trans (congrArg some (by kernel_rfl))
 f224:=Tryd.func82.trans (congrArg some (by kernel_rfl))
 f225:=Tryd.func81.trans (congrArg some (by kernel_rfl))
 f260:=Tryd.func110.trans (congrArg some (by kernel_rfl))
 f266:=Tryd.func97.trans (congrArg some (by kernel_rfl))
 f267:=Tryd.func83.trans (congrArg some (by kernel_rfl))
 f268:=Tryd.func84.trans (congrArg some (by kernel_rfl))
 f314:=Tryd.func98.trans (congrArg some (by kernel_rfl))
 t0:=Tryd.underlying0
 a0:=Tryd.isAgg0
 z0:=Tryd.sizeOf0
 v0:=Tryd.zeroValue0
 t3:=Tryd.underlying3
 a3:=Tryd.isAgg3
 z3:=Tryd.sizeOf3
 v3:=Tryd.zeroValue3
 t4:=Tryd.underlying4
 a4:=Tryd.isAgg4
 z4:=Tryd.sizeOf4
 v4:=Tryd.zeroValue4
 t5:=Tryd.underlying5
 a5:=Tryd.isAgg5
 z5:=Tryd.sizeOf5
 v5:=Tryd.zeroValue5
 t9:=Tryd.underlying9
 a9:=Tryd.isAgg9
 z9:=Tryd.sizeOf9
 v9:=Tryd.zeroValue9
 t21:=Tryd.underlying21
 a21:=Tryd.isAgg21
 z21:=Tryd.sizeOf21
 v21:=Tryd.zeroValue21
 t31:=Tryd.underlying55
 a31:=Tryd.isAgg55
 z31:=Tryd.sizeOf55
 v31:=Tryd.zeroValue55
 t46:=Tryd.underlying138
 a46:=Tryd.isAgg138
 z46:=Tryd.sizeOf138
 v46:=Tryd.zeroValue138
 t51:=Tryd.underlying146
 a51:=Tryd.isAgg146
 z51:=Tryd.sizeOf146
 v51:=Tryd.zeroValue146
 t105:=Tryd.underlying152
 a105:=Tryd.isAgg152
 z105:=Tryd.sizeOf152
 v105:=Tryd.zeroValue152
 t119:=Tryd.underlying170
 a119:=Tryd.isAgg170
 z119:=Tryd.sizeOf170
 t138:=Tryd.underlying172
 a138:=Tryd.isAgg172
 z138:=Tryd.sizeOf172
 v138:=Tryd.zeroValue172
 t139:=Tryd.underlying173
 a139:=Tryd.isAgg173
 z139:=Tryd.sizeOf173
 v139:=Tryd.zeroValue173
 t146:=Tryd.underlying149
 a146:=Tryd.isAgg149
 z146:=Tryd.sizeOf149
 v146:=Tryd.zeroValue149
 g1:=by kernel_rfl
 g3:=by kernel_rfl
 g4:=by kernel_rfl }

/-- The machine's number of a function, and the program's. -/
def links:List (Nat×Nat):=[(22,53),(38,13),(46,22),(61,62),(62,50),(63,34),(64,72),(65,52),(75,12),(76,29),(77,30),(78,31),(79,32),(80,33),(81,14),(86,58),(101,49),(103,51),(104,54),(105,55),(106,56),(107,57),(108,59),(109,61),(111,74),(118,60),(119,73),(255,19),(260,17),(262,39),(263,71),(345,3),(346,5),(347,6),(348,7),(349,8),(352,15),(353,20),(354,21),(356,16),(357,35),(358,36),(359,18),(360,40),(361,41),(362,42),(365,67)]

/-! strings.Builder: what its code does at this program. -/
/-- The types in whose blocks a builder may lie. -/
def bldTs:List TypeId:=[46,48]
theorem bldLies:∀T∈bldTs,liesAt Tryd.prog Tryd.prog.depth T (2/Tryd.prog.cellsOf T) 0 46 1=true:=by
 intro T hT
 simp only[bldTs,List.mem_cons,List.not_mem_nil,or_false] at hT
 rcases hT with rfl|rfl<;>decide +kernel
theorem bldNe:∀T∈bldTs,T≠5:=by decide
theorem bldSize:(Tryd.prog.info? 46).map (·.size)=some 2:=by kernel_rfl
theorem bldByte:(Tryd.prog.info? 5).map (fun i=>(i.zero,i.size,i.bytes))=some (some (.int .u8 0),1,1):=by kernel_rfl

set_option maxHeartbeats 1000000 in
set_option maxRecDepth 100000 in
theorem check_used (b:Nat) (w:World) (h0:w.cell? ⟨b,0,none⟩=some (.pointer (some ⟨b,0,none⟩))):Calls Tryd.prog 63 #[.pointer (some ⟨b,0,none⟩)] w fun e w'=>e= .returned (.tuple #[])∧w'=w:=by
 obtain⟨j,hj,_⟩:=Option.map_eq_some_iff.1 bldSize
 go_enter Tryd.func63,Tryd.ntmps63
 go_wp2
 rw[Lib.run_neq_ptr_same w _ Tryd.underlying43 hj]
 go_wp2
 go_end0
 exact⟨rfl,rfl⟩

set_option maxHeartbeats 1000000 in
set_option maxRecDepth 100000 in
theorem check_new {T:TypeId} (hT:T∈bldTs) (b:Nat) (w:World) (h0:w.cell? ⟨b,0,none⟩=some (.pointer none)) (hsh:w.shape? b=some (T,2)) (hfz:w.frozen? ⟨b,0,none⟩=false) :
  Calls Tryd.prog 63 #[.pointer (some ⟨b,0,none⟩)] w fun e w'=>e= .returned (.tuple #[])∧w'=w.setCell ⟨b,0,none⟩ (.pointer (some ⟨b,0,none⟩)):=by
 obtain⟨j,hj,hjs⟩:=Option.map_eq_some_iff.1 bldSize
 go_enter Tryd.func63,Tryd.ntmps63
 go_wp2
 rw[Lib.run_to_unsafe w ⟨b,0,none⟩ Tryd.underlying43 Tryd.underlying129 hj (by rw[hjs];decide) hsh (Nat.zero_lt_succ 1)]
 simp only[Result.andThen]
 rw[Oper.upon_value]
 go_wp2
 rw[run_callFunc_extern Tryd.func75 (by kernel_rfl) (by kernel_rfl) (by kernel_rfl) (e:=Extern.AbiNoEscape.same) (by kernel_rfl)]
 rw[Lib.run_noEscape]
 simp only[Result.andThen]
 rw[Oper.upon_value]
 go_wp2
 rw[Lib.run_from_unsafe w ⟨b,0,none⟩ Tryd.underlying129 Tryd.underlying43 hj hsh (bldLies T hT)]
 simp only[Result.andThen]
 rw[Oper.upon_value]
 go_wp2
 go_end0
 exact⟨rfl,rfl⟩

theorem check_any {T:TypeId} (hT:T∈bldTs) {b:Nat} {p v:Value} {w:World} (hb:w.heap[b]?=some (.cells #[p,v] T (0,0))) (hp:p= .pointer none∨p= .pointer (some ⟨b,0,none⟩)) :
  Calls Tryd.prog 63 #[.pointer (some ⟨b,0,none⟩)] w fun e w'=>e= .returned (.tuple #[])∧w'.heap[b]?=some (.cells #[.pointer (some ⟨b,0,none⟩),v] T (0,0))∧Go.Lw.Rest w w' b none∧w'.heap.size≤w.heap.size∧w.heap.size≤w'.heap.size:=by
 rcases hp with rfl|rfl
 ·refine (check_new hT b w (by simp[World.cell?,hb]) (by simp[World.shape?,hb]) (by simp[World.frozen?,hb])).mono ?_
  rintro e w' ⟨rfl,rfl⟩
  refine⟨rfl,by simp[World.setCell,Array.getElem?_modify,hb],⟨rfl,rfl,rfl,by simp[World.setCell],fun k _ hk _=>jck hk⟩,by simp[World.setCell],by simp[World.setCell]⟩
 ·refine (check_used b w (by simp[World.cell?,hb])).mono ?_
  rintro e w' ⟨rfl,rfl⟩
  exact⟨rfl,hb,⟨rfl,rfl,rfl,Nat.le_refl _,fun _ _ _ _=>rfl⟩,Nat.le_refl _,Nat.le_refl _⟩

set_option maxHeartbeats 2000000 in
set_option maxRecDepth 100000 in
theorem write_ok:WriteOk Tryd.prog 35 5 bldTs:=by
 intro T hT b n p v xs s w hbat hs0 hlen
 obtain⟨hb,hp,hown⟩:=hbat
 have hne:v.ownBlock≠some b:=Lib.ownBlock_ne hown hb (bldNe T hT)
 obtain⟨i0,hi,hz0,hz1,hz2⟩:=info_parts bldByte
 go_enter Tryd.func35,Tryd.ntmps35
 go_wp2_with (go_at_call 63;refine (check_any hT hb hp).mono ?_)
 rintro e w1 ⟨rfl,hb1,r1,s1⟩
 have hown1:w1.ownsRow 0 5 1 v n xs:=by
  rcases hown.2 with ⟨rfl,h0⟩|⟨g,cap,cur,rfl,h0,hg,hr⟩
  ·exact⟨hown.1,.inl ⟨rfl,h0⟩⟩
  ·exact⟨hown.1,.inr ⟨g,cap,cur,rfl,h0,(r1.block g (jbl hg) (fun e=>hne (by simp[Value.ownBlock,e])) (by simp)).trans hg,hr⟩⟩
 have c0:w1.cell? ⟨b,0,none⟩=some (.pointer (some ⟨b,0,none⟩)):=by rw[Lib.cell_of_heap hb1];rfl
 have c1:w1.cell? ⟨b,1,none⟩=some v:=by rw[Lib.cell_of_heap hb1];rfl
 go_wp2_with (at_builtin;refine jov rfl _ _ 44 9 rfl Tryd.underlying44 Tryd.underlying9 hi hz0 hz1 hz2 _ _ _ rfl hown1 s rfl hs0 hlen ?_)
 intro v' w2 hown' hgrow hv'
 have hlt:b<w1.heap.size:=jbl hb1
 have hb2:w2.heap[b]?=some (.cells #[.pointer (some ⟨b,0,none⟩),v] T (0,0)):=by
  rw[hgrow.block b hlt (fun e=>hne e.symm)]
  exact hb1
 have d0:w2.cell? ⟨b,0,none⟩=some (.pointer (some ⟨b,0,none⟩)):=by rw[Lib.cell_of_heap hb2];rfl
 have d1:w2.cell? ⟨b,1,none⟩=some v:=by rw[Lib.cell_of_heap hb2];rfl
 have f1:w2.frozen? ⟨b,1,none⟩=false:=Lib.frozen_of_heap hb2 1
 have hne':v'.ownBlock≠some b:=Lib.ownBlock_ne hown' hb2 (bldNe T hT)
 have hv2:v'.ownBlock=v.ownBlock∨∃g,v'.ownBlock=some g∧w.heap.size≤g:=by
  rcases hv' with h|h
  ·exact .inl h
  ·exact .inr ⟨_,h,s1.2⟩
 clear hv'
 obtain⟨ao,n',cap,rfl⟩:∃ao n' cap,v'= .slice ao n' cap:=by
  rcases hown'.2 with ⟨hv,_⟩|⟨g,cap,cur,hv,_⟩
  ·exact⟨_,_,_,hv⟩
  ·exact⟨_,_,_,hv⟩
 go_wp2
 go_ret2
 refine⟨rfl,.slice ao n' cap,?_,?_,hv2,⟨?_,?_,?_,?_,?_⟩⟩
 ·simp[World.setCell,Array.getElem?_modify,hb2]
 ·rcases hown'.2 with ⟨hv,h0⟩|⟨g,cap',cur,hv,h0,hg,hr⟩
  ·exact⟨hown'.1,.inl ⟨hv,h0⟩⟩
  ·refine⟨hown'.1,.inr ⟨g,cap',cur,hv,h0,?_,hr⟩⟩
   rw[jck (fun e=>hne' (by rw[hv];simp[Value.ownBlock,e]))]
   exact hg
 ·exact hgrow.os.trans r1.os
 ·exact hgrow.tape.trans r1.tape
 ·exact hgrow.output.trans r1.output
 ·have:=hgrow.size;have:=r1.size;simp[World.setCell];omega
 ·intro k hk hkb hko
  rw[jck hkb,hgrow.block k (by have:=r1.size;omega) hko]
  exact r1.block k hk hkb (by simp)

set_option maxHeartbeats 2000000 in
set_option maxRecDepth 100000 in
theorem read_ok:ReadOk Tryd.prog 18 5:=by
 constructor
 ·intro T b p w hb
  have hUS:∀W q,(Builtin.unsafeString_ #[90,3] 9 #[.pointer q,.int .i64 0]).run Tryd.prog W= .ok (.string .empty) W:=fun W q=>Lib.run_unsafeString_none W _ _ _ q
  have c1:w.drew.cell? ⟨b,1,none⟩=some (.slice none 0 0):=by
   have:w.drew.heap[b]?=some (.cells #[p,.slice none 0 0] T (0,0)):=hb
   rw[Lib.cell_of_heap this];rfl
  have hSD:(Builtin.unsafeSliceData_ #[44] 90 #[.slice none 0 0]).run Tryd.prog w.drew= .ok (.pointer none) w.drew:=rfl
  go_enter Tryd.func18,Tryd.ntmps18
  go_wp2
  go_region
  all_goals (go_wp2;go_ret;exact⟨rfl,rfl⟩)
 ·intro T b g cap p l cur w hb hg h0 hnc hcm hcs hcell
  have hl0:l.length≠0:=by simpa using h0
  have c1:w.drew.cell? ⟨b,1,none⟩=some (.slice (some ⟨g,0,none⟩) l.length cap):=by
   have:w.drew.heap[b]?=some (.cells #[p,.slice (some ⟨g,0,none⟩) l.length cap] T (0,0)):=hb
   rw[Lib.cell_of_heap this];rfl
  have hSD:(Builtin.unsafeSliceData_ #[44] 90 #[.slice (some ⟨g,0,none⟩) l.length cap]).run Tryd.prog w.drew= .ok (.pointer (some ⟨g,0,none⟩)) w.drew:=
   Lib.run_unsafeSliceData_row _ _ _ _ _ _ (by omega)
  have hUS:(Builtin.unsafeString_ #[90,3] 9 #[.pointer (some ⟨g,0,none⟩),.int .i64 l.length]).run Tryd.prog w.drew= .ok (.string ⟨l.toArray⟩) (w.drew.freeze ⟨g,0,none⟩ l.length):=
   Lib.run_unsafeString_row w.drew 90 3 9 5 Tryd.underlying90 (by kernel_rfl) g cur.size (by have hg':w.drew.heap[g]?=some (.cells cur 5 (0,0)):=hg;simp[World.shape?,hg']) l h0 (by omega) (by unfold maxLen at hcm;omega) hcell
  go_enter Tryd.func18,Tryd.ntmps18
  go_wp2
  go_region
  all_goals (go_wp2;go_ret;exact⟨rfl,rfl⟩)
set_option maxHeartbeats 2000000 in
set_option maxRecDepth 100000 in
theorem byte_ok:ByteOk Tryd.prog 36 5 bldTs:=by
 intro T hT b n p v xs c w hbat hlen
 obtain⟨hb,hp,hown⟩:=hbat
 have hne:v.ownBlock≠some b:=Lib.ownBlock_ne hown hb (bldNe T hT)
 obtain⟨i0,hi,hz0,hz1,hz2⟩:=info_parts bldByte
 go_enter Tryd.func36,Tryd.ntmps36
 go_wp2_with (go_at_call 63;refine (check_any hT hb hp).mono ?_)
 rintro e w1 ⟨rfl,hb1,r1,s1⟩
 have hown1:∀o:Obj,(w1.alloc o).ownsRow 0 5 1 v n xs:=fun o=>by
  rcases hown.2 with ⟨rfl,h0⟩|⟨g,cap,cur,rfl,h0,hg,hr⟩
  ·exact⟨hown.1,.inl ⟨rfl,h0⟩⟩
  ·refine⟨hown.1,.inr ⟨g,cap,cur,rfl,h0,?_,hr⟩⟩
   rw[Lib.alloc_old w1 _ g (by have:=jbl hg;omega)]
   exact (r1.block g (jbl hg) (fun e=>hne (by simp[Value.ownBlock,e])) (by simp)).trans hg
 have c0:w1.cell? ⟨b,0,none⟩=some (.pointer (some ⟨b,0,none⟩)):=by rw[Lib.cell_of_heap hb1];rfl
 have c1:w1.cell? ⟨b,1,none⟩=some v:=by rw[Lib.cell_of_heap hb1];rfl
 go_wp2_with (at_builtin;refine jp2 rfl _ _ 44 rfl Tryd.underlying44 hi hz0 hz1 hz2 _ _ _ rfl (hown1 _) ⟨w1.heap.size,0,none⟩ 1 1 [.int .u8 c] rfl rfl ?c1 ?c2 (by decide) hlen ?_)
 case c1=>
  intro j u hj
  match j,hj with
  |0,hj=>simp at hj;subst hj;simp[Addr.add]
 case c2=>intro u hu;simp at hu;subst hu;rfl
 intro v' w2 hown' hgrow hv'
 have hlt:b<w1.heap.size:=jbl hb1
 have hb2:w2.heap[b]?=some (.cells #[.pointer (some ⟨b,0,none⟩),v] T (0,0)):=by
  rw[hgrow.block b (by simp;omega) (fun e=>hne e.symm),Lib.alloc_old w1 _ b hlt]
  exact hb1
 have d0:w2.cell? ⟨b,0,none⟩=some (.pointer (some ⟨b,0,none⟩)):=by rw[Lib.cell_of_heap hb2];rfl
 have d1:w2.cell? ⟨b,1,none⟩=some v:=by rw[Lib.cell_of_heap hb2];rfl
 have f1:w2.frozen? ⟨b,1,none⟩=false:=Lib.frozen_of_heap hb2 1
 have hne':v'.ownBlock≠some b:=Lib.ownBlock_ne hown' hb2 (bldNe T hT)
 obtain⟨g,cap,rfl⟩:∃g cap,v'= .slice (some ⟨g,0,none⟩) (n+1) cap:=by
  rcases hown'.2 with ⟨_,h0⟩|⟨g,cap,cur,hv,_⟩
  ·omega
  ·exact⟨g,cap,hv⟩
 have hsz:=hgrow.size
 have hbk:=hgrow.block
 simp only[size_alloc'] at hsz hbk hv'
 go_wp2
 go_ret
 refine⟨rfl,.slice (some ⟨g,0,none⟩) (n+1) cap,?_,?_,?_,⟨?_,?_,?_,?_,?_⟩⟩
 ·simp[World.setCell,Array.getElem?_modify,hb2]
 ·rcases hown'.2 with ⟨hv,h0⟩|⟨g,cap',cur,hv,h0,hg,hr⟩
  ·exact⟨hown'.1,.inl ⟨hv,h0⟩⟩
  ·refine⟨hown'.1,.inr ⟨g,cap',cur,hv,h0,?_,hr⟩⟩
   rw[jck (fun e=>hne' (by rw[hv];simp[Value.ownBlock,e]))]
   exact hg
 ·rcases hv' with h|h
  ·exact .inl h
  ·exact .inr ⟨_,h,by omega⟩
 ·exact hgrow.os.trans r1.os
 ·exact hgrow.tape.trans r1.tape
 ·exact hgrow.output.trans r1.output
 ·have:=r1.size;simp[World.setCell];omega
 ·intro k hk hkb hko
  rw[jck hkb,hbk k (by omega) hko,Lib.alloc_old w1 _ k (by omega)]
  exact r1.block k hk hkb (by simp)


def glOf (m:Int) (t5:TypeId) (p5:Value) (t6:TypeId) (p6:Value) (b:Nat) (o:Nat) (c:Nat) (hc:textWords.length≤c):List (Nat×Nat×Option Value):=tabGl 2 .u64 Lib.pow10Tab++([(1,0,some (.int .i64 m)),(3,0,some (.iface t5 p5)),(4,0,some (.iface t6 p6))]++wordsGl 0 b o c textWords)

theorem gwOf (m:Int) (t5:TypeId) (p5:Value) (t6:TypeId) (p6:Value) (b:Nat) (o:Nat) (c:Nat) (hc:textWords.length≤c):GwOk (glOf m t5 p5 t6 p6 b o c hc) [(0,textWords)]:=jos hc fun x hx=>List.mem_append.2 (.inr (List.mem_append.2 (.inr hx)))

theorem linked (gl:List (Nat×Nat×Option Value)) (gk:GwOk gl [(0,textWords)]):(links.all fun x=>linkF Tryd.prog (fiG links gl bldTs 5 [(0,textWords)] gk) pg x.1 x.2)=true:=by kernel_rfl

theorem link (m:Int) (t5:TypeId) (p5:Value) (t6:TypeId) (p6:Value) (b:Nat) (o:Nat) (c:Nat) (hc:textWords.length≤c):LinkOk Tryd.prog (fiG links (glOf m t5 p5 t6 p6 b o c hc) bldTs 5 [(0,textWords)] (gwOf m t5 p5 t6 p6 b o c hc)) pg:=by
 have hpow : ∀ w, GlAt (fiG links (glOf m t5 p5 t6 p6 b o c hc) bldTs 5 [(0, textWords)] (gwOf m t5 p5 t6 p6 b o c hc)) w → Lib.TabIs Tryd.prog w "internal/strconv.uint64pow10" .u64 Lib.pow10Tab := fun w h => jol (g := 2) (by kernel_rfl) (by decide) (fun x hx => List.mem_append.2 (.inl hx)) h
 have hmax:∀w,GlAt (fiG links (glOf m t5 p5 t6 p6 b o c hc) bldTs 5 [(0,textWords)] (gwOf m t5 p5 t6 p6 b o c hc)) w→∃m,w.cell? ⟨1,0,none⟩=some (.int .i64 m):=fun w h=>⟨m,h (1,0,some (.int .i64 m)) (List.mem_append.2 (.inr (by simp)))⟩
 have hE5:∀w,GlAt (fiG links (glOf m t5 p5 t6 p6 b o c hc) bldTs 5 [(0,textWords)] (gwOf m t5 p5 t6 p6 b o c hc)) w→∃te pe,w.cell? ⟨3,0,none⟩=some (.iface te pe):=fun w h=>⟨t5,p5,h (3,0,some (.iface t5 p5)) (List.mem_append.2 (.inr (by simp)))⟩
 have hE6:∀w,GlAt (fiG links (glOf m t5 p5 t6 p6 b o c hc) bldTs 5 [(0,textWords)] (gwOf m t5 p5 t6 p6 b o c hc)) w→∃te pe,w.cell? ⟨4,0,none⟩=some (.iface te pe):=fun w h=>⟨t6,p6,h (4,0,some (.iface t6 p6)) (List.mem_append.2 (.inr (by simp)))⟩
 refine jm4 (linked _ _) ?_
 intro f F L hm hp
 have h:∀x∈links,isLib pg x.1=true→x=(119,73)∨x=(255,19)∨x=(260,17)∨x=(262,39)∨x=(263,71)∨x=(357,35)∨x=(358,36)∨x=(359,18):=by decide +kernel
 rcases h (f,F) hm (by simp[isLib,hp]) with hx|hx|hx|hx|hx|hx|hx|hx
 ·cases hx
  have e:L=libGrow 1 8:=by
   have e2:pg 119=some (.lib (libGrow 1 8)):=rfl
   rw[e2] at hp;cases hp;rfl
  subst e
  exact fun vs gh r gh' h _=>jp6 (by decide +kernel) vs gh r gh' h
 ·cases hx
  have e:L=libCut:=by
   have e2:pg 255=some (.lib (libCut)):=rfl
   rw[e2] at hp;cases hp;rfl
  subst e
  exact fun vs gh r gh' h _=>jon (ρ:=laysCut_ren) laysCut hmax vs gh r gh' h
 ·cases hx
  have e:L=libItoa:=by
   have e2:pg 260=some (.lib (libItoa)):=rfl
   rw[e2] at hp;cases hp;rfl
  subst e
  exact fun vs gh r gh' h _=>jom (ρ:=laysItoa_ren) laysItoa hpow vs gh r gh' h
 ·cases hx
  have e:L=libSplit:=by
   have e2:pg 262=some (.lib (libSplit)):=rfl
   rw[e2] at hp;cases hp;rfl
  subst e
  exact fun vs gh r gh' h _=>joo (ρ:=laysSplit_ren) laysSplit (by kernel_rfl) hmax vs gh r gh' h
 ·cases hx
  have e:L=libAtoi:=by
   have e2:pg 263=some (.lib (libAtoi)):=rfl
   rw[e2] at hp;cases hp;rfl
  subst e
  exact fun vs gh r gh' h _=>jop (ρ:=laysAtoi_ren) laysAtoi hE5 hE6 vs gh r gh' h
 ·cases hx
  have e:L=libWS:=by
   have e2:pg 357=some (.lib (libWS)):=rfl
   rw[e2] at hp;cases hp;rfl
  subst e
  exact fun vs gh r gh' h _=>jox (fi:=fiG links (glOf m t5 p5 t6 p6 b o c hc) bldTs 5 [(0,textWords)] (gwOf m t5 p5 t6 p6 b o c hc)) write_ok vs gh r gh' h
 ·cases hx
  have e:L=libWB:=by
   have e2:pg 358=some (.lib (libWB)):=rfl
   rw[e2] at hp;cases hp;rfl
  subst e
  exact fun vs gh r gh' h _=>jp3 (fi:=fiG links (glOf m t5 p5 t6 p6 b o c hc) bldTs 5 [(0,textWords)] (gwOf m t5 p5 t6 p6 b o c hc)) byte_ok vs gh r gh' h
 ·cases hx
  have e:L=libBS:=by
   have e2:pg 359=some (.lib (libBS)):=rfl
   rw[e2] at hp;cases hp;rfl
  subst e
  exact fun vs gh r gh' h _=>jp0 (fi:=fiG links (glOf m t5 p5 t6 p6 b o c hc) bldTs 5 [(0,textWords)] (gwOf m t5 p5 t6 p6 b o c hc)) read_ok vs gh r gh' h

theorem own:ownKnob Tryd.prog.godebug=none:=by kernel_rfl
theorem laidOut:laidOutB Tryd.prog=true:=by kernel_rfl


noncomputable def laidWorld (os:Os):World:={World.doorLaid Tryd.prog 77 os with heap:=(World.doorLaid Tryd.prog 77 os).heap.modify 7 fun
 | .cells _ t fz=> .cells ((Pinned.utf8FirstZ.map fun (z:Nat)=>Value.int .u8 (z:Int)).toArray) t fz
 |o=>o }

theorem laid_met (os:Os):laidMetH Tryd.prog Rows.textBackUptoRow.laid ((laidWorld os).forCall (fun _ _=>0) ⟨#[],#[.agg #[.slice none 0 0,.slice none 0 0,.slice none 0 0,.slice none 0 0,.slice none 0 0],.string ⟨#[]⟩],[]⟩).memory:=
 laidMet_of_run3 8 (by kernel_rfl) (by kernel_rfl) (by kernel_rfl)

theorem reads (os:Os) {H:Type} (enc:TypeId×Value→H):DataW.whole enc Tryd.prog ((laidWorld os).forCall (fun _ _=>0) ⟨#[],#[.agg #[.slice none 0 0,.slice none 0 0,.slice none 0 0,.slice none 0 0,.slice none 0 0],.string ⟨#[]⟩],[]⟩).memory Tryd.f3.params.toList Rows.textBackSpec.vars false #[.agg #[.slice none 0 0,.slice none 0 0,.slice none 0 0,.slice none 0 0,.slice none 0 0],.string ⟨#[]⟩].toList 8=some ([.agg [.nil,.nil,.nil,.nil,.nil],.lit (.string [])],[],[]):=by kernel_rfl

theorem lifted (os:Os) (started:os.Started) (H:Type) (enc:TypeId×Value→H) (F:Stop.Interp) :
  ReturnsInHanded {} Tryd.checked os 3 .any ((Rows.OpenSpec.upto Rows.textBackSpec).preRow enc Tryd.prog Tryd.f3 Rows.textBackUptoRow.domain false Rows.textBackUptoRow.laid) (((Rows.OpenSpec.upto Rows.textBackSpec).at F).post enc Tryd.prog Tryd.f3 false true false false):=by
 refine returnsInHanded_of_row (C:=Tryd.checked) (s:=(Rows.OpenSpec.upto Rows.textBackSpec)) own started (by kernel_rfl) Tryd.func3
  (witness_row_atRef (enc:=enc) (C:=Tryd.checked) false (laidWorld os) #[.agg #[.slice none 0 0,.slice none 0 0,.slice none 0 0,.slice none 0 0,.slice none 0 0],.string ⟨#[]⟩] rfl (by kernel_rfl) (by kernel_rfl) (by kernel_rfl)
   (OpenSpec.preRow_of_cond 8 (reads os enc) (by kernel_rfl) (fun k hk=>by cases hk;kernel_rfl) (by kernel_rfl) (laid_met os))) ?_
 intro W base args ds gs before hval hW hcnd hk0 hwt hL hsh _
 have hkk:=hk0 _ rfl
 have hW':=hW
 obtain⟨p,q,hA,hV,rfl,hfz,hnd⟩:=hW
 have hA0:DataW.TrodAll enc Tryd.prog W 0 (fun _=>true) true Tryd.f3.params.toList args.toList ds p:=hA
 obtain⟨rfl,rfl⟩:=trodVars_none hV
 have hw:(DataW.weightsEach Tryd.prog Tryd.f3.params.toList ds).all (· ≤reachBytes)=true:=by
  have h:(DataW.weightsEach Tryd.prog (Tryd.f3.params.toList++[]) (ds++[])).all (· ≤reachBytes)=true:=hwt
  rwa [List.append_nil,List.append_nil] at h
 have hval2:∀(j:Nat) t v,Tryd.f3.params.toList[j]?=some t→args.toList[j]?=some v→Value.okWide Tryd.prog W .any base t v:=fun j t v h1 h2=>hval j t v (by rw[←Array.getElem?_toList];exact h1) (by rw[←Array.getElem?_toList];exact h2)
 have hmet:laidMet Tryd.prog Rows.textBackUptoRow.laid W:=hL
 have ht : Lib.TabIs Tryd.prog W "internal/strconv.uint64pow10" .u64 Lib.pow10Tab := joq (g := 2) hmet (by rw [← (show Rows.laid_internal_strconv_uint64pow10 = Lib.tabData .u64 Lib.pow10Tab by kernel_rfl)]; simp [Rows.textBackUptoRow]) (by kernel_rfl) (by kernel_rfl) Tryd.underlying145 Tryd.underlying132 (by kernel_rfl) (by kernel_rfl)
 obtain⟨m,hm⟩:=cell_of_shapedOpen_int (g:=1) (zero:= #[Value.int .i64 0]) hsh (by decide +kernel) (by kernel_rfl) (by rfl) (by kernel_rfl) (by kernel_rfl) Tryd.underlying3
 obtain ⟨t5, p5, hs5, hc5⟩ := jis (g := 3) (nm := "*errors.errorString") hmet (show ("strconv.ErrSyntax", Rows.laid_strconv_ErrSyntax) ∈ Rows.textBackUptoRow.laid by simp [Rows.textBackUptoRow]) (by kernel_rfl) (by kernel_rfl) Tryd.underlying86
 obtain ⟨t6, p6, hs6, hc6⟩ := jis (g := 4) (nm := "*errors.errorString") hmet (show ("strconv.ErrRange", Rows.laid_strconv_ErrRange) ∈ Rows.textBackUptoRow.laid by simp [Rows.textBackUptoRow]) (by kernel_rfl) (by kernel_rfl) Tryd.underlying86
 obtain ⟨b, o, c, hc, hwd⟩ := jot (name := "latchwork/text.words") (g := 0) (ss := textWords) hmet (by first | exact List.mem_of_getElem? (i := 6) (by kernel_rfl) | exact List.mem_of_getElem? (i := 5) (by kernel_rfl) | exact List.mem_of_getElem? (i := 7) (by kernel_rfl) | exact List.mem_of_getElem? (i := 4) (by kernel_rfl) | exact List.mem_of_getElem? (i := 8) (by kernel_rfl) | exact List.mem_of_getElem? (i := 3) (by kernel_rfl) | exact List.mem_of_getElem? (i := 2) (by kernel_rfl) | exact List.mem_of_getElem? (i := 1) (by kernel_rfl) | exact List.mem_of_getElem? (i := 0) (by kernel_rfl)) (by kernel_rfl) (by kernel_rfl) Tryd.underlying55 Tryd.underlying9 (by kernel_rfl) (by decide)
 have hgl:∀x∈(fiG links (glOf m t5 p5 t6 p6 b o c hc) bldTs 5 [(0,textWords)] (gwOf m t5 p5 t6 p6 b o c hc)).gl,x.1<W.heap.size∧W.cell? ⟨x.1,x.2.1,none⟩=x.2.2:=by
  intro x hx
  rcases List.mem_append.1 hx with hx|hx
  ·exact jor ht (by kernel_rfl) (by decide) x hx
  rcases List.mem_append.1 hx with hx|hx
  case inr.inr=>exact hwd x hx
  ·simp only[List.mem_cons,List.not_mem_nil,or_false] at hx
   rcases hx with rfl|rfl|rfl
   ·exact⟨jc5 hm,hm⟩
   ·exact⟨hs5,hc5⟩
   ·exact⟨hs6,hc6⟩
 have hrun:=jm5 (enc:=enc) (P:=Tryd.prog) (fi:=fiG links (glOf m t5 p5 t6 p6 b o c hc) bldTs 5 [(0,textWords)] (gwOf m t5 p5 t6 p6 b o c hc)) (pg:=pg) (f:=345) (F:=3) (n:=20) (by decide +kernel) (link m t5 p5 t6 p6 b o c hc) rfl (L:=insTextBack) (by rw[Tryd.params3];with_unfolding_all rfl) joh hA0 hval2 hw (jp8 hkk) hgl
 have hA1:=hA0
 rw[Tryd.params3] at hA1
 obtain⟨v0,vs0,d0,ds0,p0,q0,hargs,rfl,rfl,h0,r0⟩:=trodAll_cons hA1
 obtain⟨v1,vs1,d1,ds1,p1,q1,rfl,rfl,rfl,h1,r1⟩:=trodAll_cons r0
 obtain⟨rfl,rfl,rfl⟩:=trodAll_nil r1
 obtain rfl:args= #[v0,v1]:=by cases args;simp_all
 refine hrun.mono fun e W' ⟨he,bel⟩=>?_
 subst he
 exact⟨_,rfl,_,_,_,[],_,[],hW',trodAll_mk1 (shut_bool Tryd.underlying4 _),jgl laidOut bel (by kernel_rfl) hA0,rfl,bel.frame _,fun h=>by cases h⟩

theorem over:Rows.textBackUptoRow.holds Tryd.pinned (Rows.OpenSpec.upto Rows.textBackSpec):=
 OpenClaim.holds_of_cond 3 Tryd.f3 rfl rfl rfl rfl rfl rfl rfl ⟨rfl,rfl,rfl,rfl,rfl⟩ rfl rfl rfl rfl rfl (by kernel_rfl) Tryd.func3 (by kernel_rfl)
  (of_decide_eq_true (by kernel_rfl)) (by unfold Func.isWrapper;first|(rw[if_pos (by decide +kernel)];kernel_rfl)|(rw[if_neg (by decide +kernel)];exact⟨rfl,rfl⟩))
  (fun os started H enc _ F=>by rw[OpenClaim.pre_eq_preRow];exact lifted os started H enc F)

theorem plain (f : FuncId) (fn : Func) (hf : Tryd.pinned.checked.prog.funcNamed "latchwork/latchworklaw.TextBack" = some f) (hfn : Tryd.pinned.checked.prog.funcs[f]? = some fn) :
  true=Tryd.pinned.checked.prog.looks []∧∀(j:Nat) t,fn.params[j]?=some t→Tryd.pinned.checked.prog.wantsStandIn t=false:=by
 obtain rfl : f = 3 := Option.some.inj ((show Tryd.prog.funcNamed "latchwork/latchworklaw.TextBack" = some 3 by kernel_rfl).symm.trans hf) |>.symm
 obtain rfl:fn=Tryd.f3:=(Option.some.inj (Tryd.func3.symm.trans hfn)).symm
 refine⟨by kernel_rfl,fun j t ht=>?_⟩
 rw[Tryd.params3] at ht
 have hall:∀t∈([26,9]:List TypeId),Tryd.prog.wantsStandIn t=false:=by decide +kernel
 exact hall t (by simpa using Array.mem_of_getElem? ht)
theorem proved:Rows.TextBackUptoCardSaid:=
 Claim7.holds_tied_plain_at .later [] _ _ _ _ over (fun _ h=>by cases h) (by kernel_rfl) (fun _ h=>by cases h) textBackUpto_row_tie rfl ⟨rfl,rfl⟩ (by kernel_rfl) rfl plain (by kernel_rfl)
#print axioms proved
end Go.Proofs.YtmodipglnngghacDoor.textBackDone
end
