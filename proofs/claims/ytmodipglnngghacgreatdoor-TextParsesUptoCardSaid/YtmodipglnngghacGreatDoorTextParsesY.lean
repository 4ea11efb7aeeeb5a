/-
  TextParses: the given statement holds: the call answers true, and what it was handed reads as it did.
-/
import Derived.Test.YtmodipglnngghacGreatDoorTextParsesX
import Derived.Test.YtmodipglnngghacGreatDoorRows
import Derived.Test.YtmodipglnngghacGreatDoorTie
import Derived.Test.YtmodipglnngghacGreatDoorCards
import Derived.KernelRfl
import Derived.Deep.DeepHandedRow
import Derived.Deep.DeepWitnessRowRef
import Derived.Deep.DeepLaidRun
import Derived.LaidMore
import Derived.RegionCalls
import Derived.Deep.RegionWith
import Derived.Laws.BytesString
import Derived.JoinedCond
import Derived.Deep.CondSized
import Derived.WalkKit
import Derived.ProofKit
import Derived.OpenShut
import Derived.ShutString
import Derived.ChangeOld
import Derived.Below
set_option linter.unusedVariables false
set_option linter.unusedSimpArgs false
set_option linter.unnecessarySimpa false

/-! TextParses: the given statement holds: the call answers true, and what it was handed reads as it did. -/
section
namespace Go.Proofs.YtmodipglnngghacGreatDoor.textParsesDone
open Go Go.Lw Go.ChangeShapes Go.WideShapes Go.RowKit
set_option maxRecDepth 100000

def laysItoa_ren:Go.Shelf.Ren:=⟨fun|171=>33|243=>74|246=>107|283=>124|284=>125|285=>126|286=>127|129=>143|317=>142|318=>144|319=>145|320=>146|337=>157|338=>158|n=>n,fun|3=>3|9=>9|2=>2|4=>4|171=>168|0=>0|53=>169|37=>62|5=>5|173=>172|212=>183|51=>184|20=>20|213=>185|46=>175|232=>202|233=>203|n=>n,fun|17=>2|18=>5|19=>6|n=>n⟩
theorem laysItoa:Go.Proofs.LaysM.n171 Tryz.prog laysItoa_ren:={
 mixed:=by kernel_rfl
 f129:=Tryz.func143.trans (congrArg some (by kernel_rfl))
 f171:=Tryz.func33.trans (congrArg some (by kernel_rfl))
 f243:=Tryz.func74.trans (congrArg some (by kernel_rfl))
 f246:=Tryz.func107.trans (congrArg some (by kernel_rfl))
 f283:=Tryz.func124.trans (congrArg some (by kernel_rfl))
 f284:=Tryz.func125.trans (congrArg some (by kernel_rfl))
 f285:=Tryz.func126.trans (congrArg some (by kernel_rfl))
 f286:=Tryz.func127.trans (congrArg some (by kernel_rfl))
 f317:=Tryz.func142.trans (congrArg some (by kernel_rfl))
 f318:=Tryz.func144.trans (congrArg some (by kernel_rfl))
 f319:=Tryz.func145.trans (congrArg some (by kernel_rfl))
 f320:=Tryz.func146.trans (congrArg some (by kernel_rfl))
 f337:=Tryz.func157.trans (congrArg some (by kernel_rfl))
 f338:=Tryz.func158.trans (congrArg some (by kernel_rfl))
 t0:=Tryz.underlying0
 a0:=Tryz.isAgg0
 z0:=Tryz.sizeOf0
 v0:=Tryz.zeroValue0
 t2:=Tryz.underlying2
 a2:=Tryz.isAgg2
 z2:=Tryz.sizeOf2
 v2:=Tryz.zeroValue2
 t3:=Tryz.underlying3
 a3:=Tryz.isAgg3
 z3:=Tryz.sizeOf3
 v3:=Tryz.zeroValue3
 t4:=Tryz.underlying4
 a4:=Tryz.isAgg4
 z4:=Tryz.sizeOf4
 v4:=Tryz.zeroValue4
 t5:=Tryz.underlying5
 a5:=Tryz.isAgg5
 z5:=Tryz.sizeOf5
 v5:=Tryz.zeroValue5
 t9:=Tryz.underlying9
 a9:=Tryz.isAgg9
 z9:=Tryz.sizeOf9
 v9:=Tryz.zeroValue9
 t20:=Tryz.underlying20
 a20:=Tryz.isAgg20
 z20:=Tryz.sizeOf20
 v20:=Tryz.zeroValue20
 t37:=Tryz.underlying62
 a37:=Tryz.isAgg62
 z37:=Tryz.sizeOf62
 v37:=Tryz.zeroValue62
 t46:=Tryz.underlying175
 a46:=Tryz.isAgg175
 z46:=Tryz.sizeOf175
 v46:=Tryz.zeroValue175
 t51:=Tryz.underlying184
 a51:=Tryz.isAgg184
 z51:=Tryz.sizeOf184
 v51:=Tryz.zeroValue184
 t53:=Tryz.underlying169
 a53:=Tryz.isAgg169
 z53:=Tryz.sizeOf169
 v53:=Tryz.zeroValue169
 t171:=Tryz.underlying168
 a171:=Tryz.isAgg168
 z171:=Tryz.sizeOf168
 v171:=Tryz.zeroValue168
 t173:=Tryz.underlying172
 a173:=Tryz.isAgg172
 z173:=Tryz.sizeOf172
 v173:=Tryz.zeroValue172
 t212:=Tryz.underlying183
 a212:=Tryz.isAgg183
 z212:=Tryz.sizeOf183
 v212:=Tryz.zeroValue183
 t213:=Tryz.underlying185
 a213:=Tryz.isAgg185
 z213:=Tryz.sizeOf185
 t232:=Tryz.underlying202
 a232:=Tryz.isAgg202
 z232:=Tryz.sizeOf202
 v232:=Tryz.zeroValue202
 t233:=Tryz.underlying203
 a233:=Tryz.isAgg203
 z233:=Tryz.sizeOf203
 v233:=Tryz.zeroValue203
 g17:=by kernel_rfl
 g18:=by kernel_rfl
 g19:=by kernel_rfl
 i0:=by kernel_rfl
 i2:=by kernel_rfl
 i3:=by kernel_rfl
 i4:=by kernel_rfl
 i5:=by kernel_rfl
 i9:=by kernel_rfl
 i20:=by kernel_rfl
 i37:=by kernel_rfl
 i46:=by kernel_rfl
 i51:=by kernel_rfl
 i53:=by kernel_rfl
 i171:=by kernel_rfl
 i173:=by kernel_rfl
 i212:=by kernel_rfl
 i232:=by kernel_rfl
 i233:=by kernel_rfl
 m17:=by kernel_rfl
 m18:=by kernel_rfl
 m19:=by kernel_rfl }
def laysAtoi_ren:Go.Shelf.Ren:=⟨fun|172=>83|244=>111|245=>112|247=>135|279=>136|280=>137|281=>138|282=>139|287=>152|316=>153|171=>33|205=>154|321=>160|322=>161|243=>74|246=>107|283=>124|284=>125|285=>126|286=>127|129=>143|317=>142|318=>144|319=>145|320=>146|337=>157|338=>158|n=>n,fun|9=>9|3=>3|75=>120|76=>121|4=>4|5=>5|167=>177|37=>62|0=>0|85=>178|2=>2|168=>180|53=>169|175=>191|46=>175|210=>195|127=>124|145=>201|143=>199|21=>21|171=>168|173=>172|212=>183|51=>184|20=>20|213=>185|232=>202|233=>203|80=>76|n=>n,fun|15=>3|16=>4|17=>2|18=>5|19=>6|n=>n⟩
theorem laysAtoi:Go.Proofs.LaysC.n172 Tryz.prog laysAtoi_ren:={
 mixed:=by kernel_rfl
 f129:=Tryz.func143.trans (congrArg some (by kernel_rfl))
 f171:=Tryz.func33.trans (congrArg some (by kernel_rfl))
 f172:=Tryz.func83.trans (congrArg some (by kernel_rfl))
 f205:=Tryz.func154.trans (congrArg some (by kernel_rfl))
 f243:=Tryz.func74.trans (congrArg some (by kernel_rfl))
 f244:=Tryz.func111.trans (congrArg some (by kernel_rfl))
 f245:=Tryz.func112.trans (congrArg some (by kernel_rfl))
 f246:=Tryz.func107.trans (congrArg some (by kernel_rfl))
 f247:=Tryz.func135.trans (congrArg some (by kernel_rfl))
 f279:=Tryz.func136.trans (congrArg some (by kernel_rfl))
 f280:=Tryz.func137.trans (congrArg some (by kernel_rfl))
 f281:=Tryz.func138.trans (congrArg some (by kernel_rfl))
 f282:=Tryz.func139.trans (congrArg some (by kernel_rfl))
 f283:=Tryz.func124.trans (congrArg some (by kernel_rfl))
 f284:=Tryz.func125.trans (congrArg some (by kernel_rfl))
 f285:=Tryz.func126.trans (congrArg some (by kernel_rfl))
 f286:=Tryz.func127.trans (congrArg some (by kernel_rfl))
 f287:=Tryz.func152.trans (congrArg some (by kernel_rfl))
 f316:=Tryz.func153.trans (congrArg some (by kernel_rfl))
 f317:=Tryz.func142.trans (congrArg some (by kernel_rfl))
 f318:=Tryz.func144.trans (congrArg some (by kernel_rfl))
 f319:=Tryz.func145.trans (congrArg some (by kernel_rfl))
 f320:=Tryz.func146.trans (congrArg some (by kernel_rfl))
 f321:=Tryz.func160.trans (congrArg some (by kernel_rfl))
 f322:=Tryz.func161.trans (congrArg some (by kernel_rfl))
 f337:=Tryz.func157.trans (congrArg some (by kernel_rfl))
 f338:=Tryz.func158.trans (congrArg some (by kernel_rfl))
 t0:=Tryz.underlying0
 a0:=Tryz.isAgg0
 z0:=Tryz.sizeOf0
 v0:=Tryz.zeroValue0
 t2:=Tryz.underlying2
 a2:=Tryz.isAgg2
 z2:=Tryz.sizeOf2
 v2:=Tryz.zeroValue2
 t3:=Tryz.underlying3
 a3:=Tryz.isAgg3
 z3:=Tryz.sizeOf3
 v3:=Tryz.zeroValue3
 t4:=Tryz.underlying4
 a4:=Tryz.isAgg4
 z4:=Tryz.sizeOf4
 v4:=Tryz.zeroValue4
 t5:=Tryz.underlying5
 a5:=Tryz.isAgg5
 z5:=Tryz.sizeOf5
 v5:=Tryz.zeroValue5
 t9:=Tryz.underlying9
 a9:=Tryz.isAgg9
 z9:=Tryz.sizeOf9
 v9:=Tryz.zeroValue9
 t20:=Tryz.underlying20
 a20:=Tryz.isAgg20
 z20:=Tryz.sizeOf20
 v20:=Tryz.zeroValue20
 t21:=Tryz.underlying21
 a21:=Tryz.isAgg21
 z21:=Tryz.sizeOf21
 v21:=Tryz.zeroValue21
 t37:=Tryz.underlying62
 a37:=Tryz.isAgg62
 z37:=Tryz.sizeOf62
 v37:=Tryz.zeroValue62
 t46:=Tryz.underlying175
 a46:=Tryz.isAgg175
 z46:=Tryz.sizeOf175
 v46:=Tryz.zeroValue175
 t51:=Tryz.underlying184
 a51:=Tryz.isAgg184
 z51:=Tryz.sizeOf184
 v51:=Tryz.zeroValue184
 t53:=Tryz.underlying169
 a53:=Tryz.isAgg169
 z53:=Tryz.sizeOf169
 v53:=Tryz.zeroValue169
 t75:=Tryz.underlying120
 a75:=Tryz.isAgg120
 z75:=Tryz.sizeOf120
 v75:=Tryz.zeroValue120
 t76:=Tryz.underlying121
 a76:=Tryz.isAgg121
 z76:=Tryz.sizeOf121
 v76:=Tryz.zeroValue121
 t85:=Tryz.underlying178
 a85:=Tryz.isAgg178
 z85:=Tryz.sizeOf178
 v85:=Tryz.zeroValue178
 t127:=Tryz.underlying124
 a127:=Tryz.isAgg124
 z127:=Tryz.sizeOf124
 v127:=Tryz.zeroValue124
 t143:=Tryz.underlying199
 a143:=Tryz.isAgg199
 z143:=Tryz.sizeOf199
 v143:=Tryz.zeroValue199
 t145:=Tryz.underlying201
 a145:=Tryz.isAgg201
 z145:=Tryz.sizeOf201
 v145:=Tryz.zeroValue201
 t167:=Tryz.underlying177
 a167:=Tryz.isAgg177
 z167:=Tryz.sizeOf177
 v167:=Tryz.zeroValue177
 t168:=Tryz.underlying180
 a168:=Tryz.isAgg180
 z168:=Tryz.sizeOf180
 v168:=Tryz.zeroValue180
 t171:=Tryz.underlying168
 a171:=Tryz.isAgg168
 z171:=Tryz.sizeOf168
 v171:=Tryz.zeroValue168
 t173:=Tryz.underlying172
 a173:=Tryz.isAgg172
 z173:=Tryz.sizeOf172
 v173:=Tryz.zeroValue172
 t175:=Tryz.underlying191
 a175:=Tryz.isAgg191
 z175:=Tryz.sizeOf191
 v175:=Tryz.zeroValue191
 t210:=Tryz.underlying195
 a210:=Tryz.isAgg195
 z210:=Tryz.sizeOf195
 v210:=Tryz.zeroValue195
 t212:=Tryz.underlying183
 a212:=Tryz.isAgg183
 z212:=Tryz.sizeOf183
 v212:=Tryz.zeroValue183
 t213:=Tryz.underlying185
 a213:=Tryz.isAgg185
 z213:=Tryz.sizeOf185
 t232:=Tryz.underlying202
 a232:=Tryz.isAgg202
 z232:=Tryz.sizeOf202
 v232:=Tryz.zeroValue202
 t233:=Tryz.underlying203
 a233:=Tryz.isAgg203
 z233:=Tryz.sizeOf203
 v233:=Tryz.zeroValue203
 g15:=by kernel_rfl
 g16:=by kernel_rfl
 g17:=by kernel_rfl
 g18:=by kernel_rfl
 g19:=by kernel_rfl
 t80:=Tryz.underlying76
 a80:=Tryz.isAgg76
 z80:=Tryz.sizeOf76
 v80:=Tryz.zeroValue76
 i0:=by kernel_rfl
 i2:=by kernel_rfl
 i3:=by kernel_rfl
 i4:=by kernel_rfl
 i5:=by kernel_rfl
 i9:=by kernel_rfl
 i20:=by kernel_rfl
 i21:=by kernel_rfl
 i37:=by kernel_rfl
 i46:=by kernel_rfl
 i51:=by kernel_rfl
 i53:=by kernel_rfl
 i75:=by kernel_rfl
 i76:=by kernel_rfl
 i80:=by kernel_rfl
 i85:=by kernel_rfl
 i127:=by kernel_rfl
 i143:=by kernel_rfl
 i145:=by kernel_rfl
 i167:=by kernel_rfl
 i168:=by kernel_rfl
 i171:=by kernel_rfl
 i173:=by kernel_rfl
 i175:=by kernel_rfl
 i210:=by kernel_rfl
 i212:=by kernel_rfl
 i232:=by kernel_rfl
 i233:=by kernel_rfl
 m15:=by kernel_rfl
 m16:=by kernel_rfl
 m17:=by kernel_rfl
 m18:=by kernel_rfl
 m19:=by kernel_rfl
 c0:=by kernel_rfl
 c2:=by kernel_rfl
 c3:=by kernel_rfl
 c4:=by kernel_rfl
 c5:=by kernel_rfl
 c9:=by kernel_rfl
 c20:=by kernel_rfl
 c21:=by kernel_rfl
 c37:=by kernel_rfl
 c46:=by kernel_rfl
 c51:=by kernel_rfl
 c53:=by kernel_rfl
 c75:=by kernel_rfl
 c76:=by kernel_rfl
 c80:=by kernel_rfl
 c85:=by kernel_rfl
 c127:=by kernel_rfl
 c143:=by kernel_rfl
 c145:=by kernel_rfl
 c167:=by kernel_rfl
 c168:=by kernel_rfl
 c171:=by kernel_rfl
 c173:=by kernel_rfl
 c175:=by kernel_rfl
 c210:=by kernel_rfl
 c212:=by kernel_rfl
 c213:=by kernel_rfl
 c232:=by kernel_rfl
 c233:=by kernel_rfl }
def laysCut_ren:Go.Shelf.Ren:=⟨fun|145=>44|220=>78|219=>108|217=>128|225=>129|224=>130|267=>131|266=>147|314=>148|n=>n,fun|9=>9|4=>4|59=>88|3=>3|5=>5|46=>175|146=>187|51=>184|n=>n,fun|1=>1|n=>n⟩
theorem laysCut:Go.Proofs.Lays.n145 Tryz.prog laysCut_ren:={
 mixed:=by kernel_rfl
 f145:=Tryz.func44.trans (congrArg some (by kernel_rfl))
 f217:=Tryz.func128.trans (congrArg some (by kernel_rfl))
 f219:=Tryz.func108.trans (congrArg some (by kernel_rfl))
 f220:=Tryz.func78.trans (congrArg some (by kernel_rfl))
 f224:=Tryz.func130.trans (congrArg some (by kernel_rfl))
 f225:=Tryz.func129.trans (congrArg some (by kernel_rfl))
 f266:=Tryz.func147.trans (congrArg some (by kernel_rfl))
 f267:=Tryz.func131.trans (congrArg some (by kernel_rfl))
 f314:=Tryz.func148.trans (congrArg some (by kernel_rfl))
 t3:=Tryz.underlying3
 a3:=Tryz.isAgg3
 z3:=Tryz.sizeOf3
 v3:=Tryz.zeroValue3
 t4:=Tryz.underlying4
 a4:=Tryz.isAgg4
 z4:=Tryz.sizeOf4
 v4:=Tryz.zeroValue4
 t5:=Tryz.underlying5
 a5:=Tryz.isAgg5
 z5:=Tryz.sizeOf5
 v5:=Tryz.zeroValue5
 t9:=Tryz.underlying9
 a9:=Tryz.isAgg9
 z9:=Tryz.sizeOf9
 v9:=Tryz.zeroValue9
 t46:=Tryz.underlying175
 a46:=Tryz.isAgg175
 z46:=Tryz.sizeOf175
 v46:=Tryz.zeroValue175
 t51:=Tryz.underlying184
 a51:=Tryz.isAgg184
 z51:=Tryz.sizeOf184
 v51:=Tryz.zeroValue184
 t59:=Tryz.underlying88
 a59:=Tryz.isAgg88
 z59:=Tryz.sizeOf88
 v59:=Tryz.zeroValue88
 t146:=Tryz.underlying187
 a146:=Tryz.isAgg187
 z146:=Tryz.sizeOf187
 v146:=Tryz.zeroValue187
 g1:=by kernel_rfl }
def laysSplit_ren:Go.Shelf.Ren:=⟨fun|146=>79|221=>109|268=>132|138=>133|143=>134|195=>149|197=>150|218=>151|219=>108|260=>159|217=>128|225=>129|224=>130|267=>131|266=>147|314=>148|n=>n,fun|9=>9|31=>73|3=>3|4=>4|0=>0|105=>189|21=>21|5=>5|46=>175|119=>204|139=>207|138=>206|146=>187|51=>184|n=>n,fun|1=>1|3=>7|4=>8|n=>n⟩
theorem laysSplit:Go.Proofs.Lays.n146 Tryz.prog laysSplit_ren:={
 mixed:=by kernel_rfl
 f138:=Tryz.func133.trans (congrArg some (by kernel_rfl))
 f143:=Tryz.func134.trans (congrArg some (by kernel_rfl))
 f146:=Tryz.func79.trans (congrArg some (by kernel_rfl))
 f195:=Tryz.func149.trans (congrArg some (by kernel_rfl))
 f197:=Tryz.func150.trans (congrArg some (by kernel_rfl))
 f217:=Tryz.func128.trans (congrArg some (by kernel_rfl))
 f218:=Tryz.func151.trans (congrArg some (by kernel_rfl))
 f219:=Tryz.func108.trans (congrArg some (by kernel_rfl))
 f221:=Tryz.func109.trans (congrArg some (by kernel_rfl))
 f224:=Tryz.func130.trans (congrArg some (by kernel_rfl))
 f225:=Tryz.func129.trans (congrArg some (by kernel_rfl))
 f260:=Tryz.func159.trans (congrArg some (by kernel_rfl))
 f266:=Tryz.func147.trans (congrArg some (by kernel_rfl))
 f267:=Tryz.func131.trans (congrArg some (by kernel_rfl))
 f268:=Tryz.func132.trans (congrArg some (by kernel_rfl))
 f314:=Tryz.func148.trans (congrArg some (by kernel_rfl))
 t0:=Tryz.underlying0
 a0:=Tryz.isAgg0
 z0:=Tryz.sizeOf0
 v0:=Tryz.zeroValue0
 t3:=Tryz.underlying3
 a3:=Tryz.isAgg3
 z3:=Tryz.sizeOf3
 v3:=Tryz.zeroValue3
 t4:=Tryz.underlying4
 a4:=Tryz.isAgg4
 z4:=Tryz.sizeOf4
 v4:=Tryz.zeroValue4
 t5:=Tryz.underlying5
 a5:=Tryz.isAgg5
 z5:=Tryz.sizeOf5
 v5:=Tryz.zeroValue5
 t9:=Tryz.underlying9
 a9:=Tryz.isAgg9
 z9:=Tryz.sizeOf9
 v9:=Tryz.zeroValue9
 t21:=Tryz.underlying21
 a21:=Tryz.isAgg21
 z21:=Tryz.sizeOf21
 v21:=Tryz.zeroValue21
 t31:=Tryz.underlying73
 a31:=Tryz.isAgg73
 z31:=Tryz.sizeOf73
 v31:=Tryz.zeroValue73
 t46:=Tryz.underlying175
 a46:=Tryz.isAgg175
 z46:=Tryz.sizeOf175
 v46:=Tryz.zeroValue175
 t51:=Tryz.underlying184
 a51:=Tryz.isAgg184
 z51:=Tryz.sizeOf184
 v51:=Tryz.zeroValue184
 t105:=Tryz.underlying189
 a105:=Tryz.isAgg189
 z105:=Tryz.sizeOf189
 v105:=Tryz.zeroValue189
 t119:=Tryz.underlying204
 a119:=Tryz.isAgg204
 z119:=Tryz.sizeOf204
 t138:=Tryz.underlying206
 a138:=Tryz.isAgg206
 z138:=Tryz.sizeOf206
 v138:=Tryz.zeroValue206
 t139:=Tryz.underlying207
 a139:=Tryz.isAgg207
 z139:=Tryz.sizeOf207
 v139:=Tryz.zeroValue207
 t146:=Tryz.underlying187
 a146:=Tryz.isAgg187
 z146:=Tryz.sizeOf187
 v146:=Tryz.zeroValue187
 g1:=by kernel_rfl
 g3:=by kernel_rfl
 g4:=by kernel_rfl }

/-- The machine's number of a function, and the program's. -/
def links:List (Nat×Nat):=[(22,96),(23,76),(26,42),(27,75),(36,9),(38,29),(39,39),(46,49),(50,38),(61,105),(62,94),(63,71),(64,120),(65,90),(72,35),(73,36),(74,37),(75,43),(76,66),(77,67),(78,68),(79,69),(80,70),(81,30),(86,101),(101,63),(102,77),(103,95),(104,97),(105,98),(106,99),(107,100),(108,102),(109,104),(111,122),(118,103),(119,121),(255,44),(260,33),(262,79),(263,83),(346,11),(347,8),(348,12),(349,14),(352,31),(353,45),(354,48),(356,32),(357,72),(358,73),(359,34),(360,80),(361,81),(362,82),(365,110),(369,4),(370,13),(379,41),(380,46),(381,47)]

/-! strings.Builder: what its code does at this program. -/
/-- The types in whose blocks a builder may lie. -/
def bldTs:List TypeId:=[64,66]
theorem bldLies:∀T∈bldTs,liesAt Tryz.prog Tryz.prog.depth T (2/Tryz.prog.cellsOf T) 0 64 1=true:=by
 intro T hT
 simp only[bldTs,List.mem_cons,List.not_mem_nil,or_false] at hT
 rcases hT with rfl|rfl<;>decide +kernel
theorem bldNe:∀T∈bldTs,T≠5:=by decide
theorem bldSize:(Tryz.prog.info? 64).map (·.size)=some 2:=by kernel_rfl
theorem bldByte:(Tryz.prog.info? 5).map (fun i=>(i.zero,i.size,i.bytes))=some (some (.int .u8 0),1,1):=by kernel_rfl

set_option maxHeartbeats 1000000 in
set_option maxRecDepth 100000 in
theorem check_used (b:Nat) (w:World) (h0:w.cell? ⟨b,0,none⟩=some (.pointer (some ⟨b,0,none⟩))):Calls Tryz.prog 106 #[.pointer (some ⟨b,0,none⟩)] w fun e w'=>e= .returned (.tuple #[])∧w'=w:=by
 obtain⟨j,hj,_⟩:=Option.map_eq_some_iff.1 bldSize
 go_enter Tryz.func106,Tryz.ntmps106
 go_wp2
 rw[Lib.run_neq_ptr_same w _ Tryz.underlying61 hj]
 go_wp2
 go_end0
 exact⟨rfl,rfl⟩

set_option maxHeartbeats 1000000 in
set_option maxRecDepth 100000 in
theorem check_new {T:TypeId} (hT:T∈bldTs) (b:Nat) (w:World) (h0:w.cell? ⟨b,0,none⟩=some (.pointer none)) (hsh:w.shape? b=some (T,2)) (hfz:w.frozen? ⟨b,0,none⟩=false) :
  Calls Tryz.prog 106 #[.pointer (some ⟨b,0,none⟩)] w fun e w'=>e= .returned (.tuple #[])∧w'=w.setCell ⟨b,0,none⟩ (.pointer (some ⟨b,0,none⟩)):=by
 obtain⟨j,hj,hjs⟩:=Option.map_eq_some_iff.1 bldSize
 go_enter Tryz.func106,Tryz.ntmps106
 go_wp2
 rw[Lib.run_to_unsafe w ⟨b,0,none⟩ Tryz.underlying61 Tryz.underlying166 hj (by rw[hjs];decide) hsh (Nat.zero_lt_succ 1)]
 simp only[Result.andThen]
 rw[Oper.upon_value]
 go_wp2
 rw[run_callFunc_extern Tryz.func123 (by kernel_rfl) (by kernel_rfl) (by kernel_rfl) (e:=Extern.AbiNoEscape.same) (by kernel_rfl)]
 rw[Lib.run_noEscape]
 simp only[Result.andThen]
 rw[Oper.upon_value]
 go_wp2
 rw[Lib.run_from_unsafe w ⟨b,0,none⟩ Tryz.underlying166 Tryz.underlying61 hj hsh (bldLies T hT)]
 simp only[Result.andThen]
 rw[Oper.upon_value]
 go_wp2
 go_end0
 exact⟨rfl,rfl⟩

theorem check_any {T:TypeId} (hT:T∈bldTs) {b:Nat} {p v:Value} {w:World} (hb:w.heap[b]?=some (.cells #[p,v] T (0,0))) (hp:p= .pointer none∨p= .pointer (some ⟨b,0,none⟩)) :
  Calls Tryz.prog 106 #[.pointer (some ⟨b,0,none⟩)] w fun e w'=>e= .returned (.tuple #[])∧w'.heap[b]?=some (.cells #[.pointer (some ⟨b,0,none⟩),v] T (0,0))∧Go.Lw.Rest w w' b none∧w'.heap.size≤w.heap.size∧w.heap.size≤w'.heap.size:=by
 rcases hp with rfl|rfl
 ·refine (check_new hT b w (by simp[World.cell?,hb]) (by simp[World.shape?,hb]) (by simp[World.frozen?,hb])).mono ?_
  rintro e w' ⟨rfl,rfl⟩
  refine⟨rfl,by simp[World.setCell,Array.getElem?_modify,hb],⟨rfl,rfl,rfl,by simp[World.setCell],fun k _ hk _=>jhs hk⟩,by simp[World.setCell],by simp[World.setCell]⟩
 ·refine (check_used b w (by simp[World.cell?,hb])).mono ?_
  rintro e w' ⟨rfl,rfl⟩
  exact⟨rfl,hb,⟨rfl,rfl,rfl,Nat.le_refl _,fun _ _ _ _=>rfl⟩,Nat.le_refl _,Nat.le_refl _⟩

set_option maxHeartbeats 2000000 in
set_option maxRecDepth 100000 in
theorem write_ok:WriteOk Tryz.prog 72 5 bldTs:=by
 intro T hT b n p v xs s w hbat hs0 hlen
 obtain⟨hb,hp,hown⟩:=hbat
 have hne:v.ownBlock≠some b:=Lib.ownBlock_ne hown hb (bldNe T hT)
 obtain⟨i0,hi,hz0,hz1,hz2⟩:=info_parts bldByte
 go_enter Tryz.func72,Tryz.ntmps72
 go_wp2_with (go_at_call 106;refine (check_any hT hb hp).mono ?_)
 rintro e w1 ⟨rfl,hb1,r1,s1⟩
 have hown1:w1.ownsRow 0 5 1 v n xs:=by
  rcases hown.2 with ⟨rfl,h0⟩|⟨g,cap,cur,rfl,h0,hg,hr⟩
  ·exact⟨hown.1,.inl ⟨rfl,h0⟩⟩
  ·exact⟨hown.1,.inr ⟨g,cap,cur,rfl,h0,(r1.block g (jgy hg) (fun e=>hne (by simp[Value.ownBlock,e])) (by simp)).trans hg,hr⟩⟩
 have c0:w1.cell? ⟨b,0,none⟩=some (.pointer (some ⟨b,0,none⟩)):=by rw[Lib.cell_of_heap hb1];rfl
 have c1:w1.cell? ⟨b,1,none⟩=some v:=by rw[Lib.cell_of_heap hb1];rfl
 go_wp2_with (at_builtin;refine ju2 rfl _ _ 62 9 rfl Tryz.underlying62 Tryz.underlying9 hi hz0 hz1 hz2 _ _ _ rfl hown1 s rfl hs0 hlen ?_)
 intro v' w2 hown' hgrow hv'
 have hlt:b<w1.heap.size:=jgy hb1
 have hb2:w2.heap[b]?=some (.cells #[.pointer (some ⟨b,0,none⟩),v] T (0,0)):=by
  rw[hgrow.block b hlt (fun e=>hne e.symm)]
  exact hb1
 have d0:w2.cell? ⟨b,0,none⟩=some (.pointer (some ⟨b,0,none⟩)):=by rw[Lib.cell_of_heap hb2];rfl
 have d1:w2.cell? ⟨b,1,none⟩=some v:=by rw[Lib.cell_of_heap hb2];rfl
 have f1:w2.frozen? ⟨b,1,none⟩=false:=Lib.frozen_of_heap hb2 1
 have hne':v'.ownBlock≠some b:=Lib.ownBlock_ne hown' hb2 (bldNe T hT)
 have hv2:v'.ownBlock=v.ownBlock∨∃g,v'.ownBlock=some g∧w.heap.size≤g:=by
  rcases hv' with h|h
  ·exact .inl h
  ·exact .inr ⟨_,h,s1.2⟩
 clear hv'
 obtain⟨ao,n',cap,rfl⟩:∃ao n' cap,v'= .slice ao n' cap:=by
  rcases hown'.2 with ⟨hv,_⟩|⟨g,cap,cur,hv,_⟩
  ·exact⟨_,_,_,hv⟩
  ·exact⟨_,_,_,hv⟩
 go_wp2
 go_ret2
 refine⟨rfl,.slice ao n' cap,?_,?_,hv2,⟨?_,?_,?_,?_,?_⟩⟩
 ·simp[World.setCell,Array.getElem?_modify,hb2]
 ·rcases hown'.2 with ⟨hv,h0⟩|⟨g,cap',cur,hv,h0,hg,hr⟩
  ·exact⟨hown'.1,.inl ⟨hv,h0⟩⟩
  ·refine⟨hown'.1,.inr ⟨g,cap',cur,hv,h0,?_,hr⟩⟩
   rw[jhs (fun e=>hne' (by rw[hv];simp[Value.ownBlock,e]))]
   exact hg
 ·exact hgrow.os.trans r1.os
 ·exact hgrow.tape.trans r1.tape
 ·exact hgrow.output.trans r1.output
 ·have:=hgrow.size;have:=r1.size;simp[World.setCell];omega
 ·intro k hk hkb hko
  rw[jhs hkb,hgrow.block k (by have:=r1.size;omega) hko]
  exact r1.block k hk hkb (by simp)

set_option maxHeartbeats 2000000 in
set_option maxRecDepth 100000 in
theorem read_ok:ReadOk Tryz.prog 34 5:=by
 constructor
 ·intro T b p w hb
  have hUS:∀W q,(Builtin.unsafeString_ #[124,3] 9 #[.pointer q,.int .i64 0]).run Tryz.prog W= .ok (.string .empty) W:=fun W q=>Lib.run_unsafeString_none W _ _ _ q
  have c1:w.drew.cell? ⟨b,1,none⟩=some (.slice none 0 0):=by
   have:w.drew.heap[b]?=some (.cells #[p,.slice none 0 0] T (0,0)):=hb
   rw[Lib.cell_of_heap this];rfl
  have hSD:(Builtin.unsafeSliceData_ #[62] 124 #[.slice none 0 0]).run Tryz.prog w.drew= .ok (.pointer none) w.drew:=rfl
  go_enter Tryz.func34,Tryz.ntmps34
  go_wp2
  go_region
  all_goals (go_wp2;go_ret;exact⟨rfl,rfl⟩)
 ·intro T b g cap p l cur w hb hg h0 hnc hcm hcs hcell
  have hl0:l.length≠0:=by simpa using h0
  have c1:w.drew.cell? ⟨b,1,none⟩=some (.slice (some ⟨g,0,none⟩) l.length cap):=by
   have:w.drew.heap[b]?=some (.cells #[p,.slice (some ⟨g,0,none⟩) l.length cap] T (0,0)):=hb
   rw[Lib.cell_of_heap this];rfl
  have hSD:(Builtin.unsafeSliceData_ #[62] 124 #[.slice (some ⟨g,0,none⟩) l.length cap]).run Tryz.prog w.drew= .ok (.pointer (some ⟨g,0,none⟩)) w.drew:=
   Lib.run_unsafeSliceData_row _ _ _ _ _ _ (by omega)
  have hUS:(Builtin.unsafeString_ #[124,3] 9 #[.pointer (some ⟨g,0,none⟩),.int .i64 l.length]).run Tryz.prog w.drew= .ok (.string ⟨l.toArray⟩) (w.drew.freeze ⟨g,0,none⟩ l.length):=
   Lib.run_unsafeString_row w.drew 124 3 9 5 Tryz.underlying124 (by kernel_rfl) g cur.size (by have hg':w.drew.heap[g]?=some (.cells cur 5 (0,0)):=hg;simp[World.shape?,hg']) l h0 (by omega) (by unfold maxLen at hcm;omega) hcell
  go_enter Tryz.func34,Tryz.ntmps34
  go_wp2
  go_region
  all_goals (go_wp2;go_ret;exact⟨rfl,rfl⟩)
set_option maxHeartbeats 2000000 in
set_option maxRecDepth 100000 in
theorem byte_ok:ByteOk Tryz.prog 73 5 bldTs:=by
 intro T hT b n p v xs c w hbat hlen
 obtain⟨hb,hp,hown⟩:=hbat
 have hne:v.ownBlock≠some b:=Lib.ownBlock_ne hown hb (bldNe T hT)
 obtain⟨i0,hi,hz0,hz1,hz2⟩:=info_parts bldByte
 go_enter Tryz.func73,Tryz.ntmps73
 go_wp2_with (go_at_call 106;refine (check_any hT hb hp).mono ?_)
 rintro e w1 ⟨rfl,hb1,r1,s1⟩
 have hown1:∀o:Obj,(w1.alloc o).ownsRow 0 5 1 v n xs:=fun o=>by
  rcases hown.2 with ⟨rfl,h0⟩|⟨g,cap,cur,rfl,h0,hg,hr⟩
  ·exact⟨hown.1,.inl ⟨rfl,h0⟩⟩
  ·refine⟨hown.1,.inr ⟨g,cap,cur,rfl,h0,?_,hr⟩⟩
   rw[Lib.alloc_old w1 _ g (by have:=jgy hg;omega)]
   exact (r1.block g (jgy hg) (fun e=>hne (by simp[Value.ownBlock,e])) (by simp)).trans hg
 have c0:w1.cell? ⟨b,0,none⟩=some (.pointer (some ⟨b,0,none⟩)):=by rw[Lib.cell_of_heap hb1];rfl
 have c1:w1.cell? ⟨b,1,none⟩=some v:=by rw[Lib.cell_of_heap hb1];rfl
 go_wp2_with (at_builtin;refine ju9 rfl _ _ 62 rfl Tryz.underlying62 hi hz0 hz1 hz2 _ _ _ rfl (hown1 _) ⟨w1.heap.size,0,none⟩ 1 1 [.int .u8 c] rfl rfl ?c1 ?c2 (by decide) hlen ?_)
 case c1=>
  intro j u hj
  match j,hj with
  |0,hj=>simp at hj;subst hj;simp[Addr.add]
 case c2=>intro u hu;simp at hu;subst hu;rfl
 intro v' w2 hown' hgrow hv'
 have hlt:b<w1.heap.size:=jgy hb1
 have hb2:w2.heap[b]?=some (.cells #[.pointer (some ⟨b,0,none⟩),v] T (0,0)):=by
  rw[hgrow.block b (by simp;omega) (fun e=>hne e.symm),Lib.alloc_old w1 _ b hlt]
  exact hb1
 have d0:w2.cell? ⟨b,0,none⟩=some (.pointer (some ⟨b,0,none⟩)):=by rw[Lib.cell_of_heap hb2];rfl
 have d1:w2.cell? ⟨b,1,none⟩=some v:=by rw[Lib.cell_of_heap hb2];rfl
 have f1:w2.frozen? ⟨b,1,none⟩=false:=Lib.frozen_of_heap hb2 1
 have hne':v'.ownBlock≠some b:=Lib.ownBlock_ne hown' hb2 (bldNe T hT)
 obtain⟨g,cap,rfl⟩:∃g cap,v'= .slice (some ⟨g,0,none⟩) (n+1) cap:=by
  rcases hown'.2 with ⟨_,h0⟩|⟨g,cap,cur,hv,_⟩
  ·omega
  ·exact⟨g,cap,hv⟩
 have hsz:=hgrow.size
 have hbk:=hgrow.block
 simp only[size_alloc'] at hsz hbk hv'
 go_wp2
 go_ret
 refine⟨rfl,.slice (some ⟨g,0,none⟩) (n+1) cap,?_,?_,?_,⟨?_,?_,?_,?_,?_⟩⟩
 ·simp[World.setCell,Array.getElem?_modify,hb2]
 ·rcases hown'.2 with ⟨hv,h0⟩|⟨g,cap',cur,hv,h0,hg,hr⟩
  ·exact⟨hown'.1,.inl ⟨hv,h0⟩⟩
  ·refine⟨hown'.1,.inr ⟨g,cap',cur,hv,h0,?_,hr⟩⟩
   rw[jhs (fun e=>hne' (by rw[hv];simp[Value.ownBlock,e]))]
   exact hg
 ·rcases hv' with h|h
  ·exact .inl h
  ·exact .inr ⟨_,h,by omega⟩
 ·exact hgrow.os.trans r1.os
 ·exact hgrow.tape.trans r1.tape
 ·exact hgrow.output.trans r1.output
 ·have:=r1.size;simp[World.setCell];omega
 ·intro k hk hkb hko
  rw[jhs hkb,hbk k (by omega) hko,Lib.alloc_old w1 _ k (by omega)]
  exact r1.block k hk hkb (by simp)


def glOf (m:Int) (t5:TypeId) (p5:Value) (t6:TypeId) (p6:Value) (b:Nat) (o:Nat) (c:Nat) (hc:textWords.length≤c):List (Nat×Nat×Option Value):=tabGl 2 .u64 Lib.pow10Tab++([(1,0,some (.int .i64 m)),(3,0,some (.iface t5 p5)),(4,0,some (.iface t6 p6))]++wordsGl 0 b o c textWords)

theorem gwOf (m:Int) (t5:TypeId) (p5:Value) (t6:TypeId) (p6:Value) (b:Nat) (o:Nat) (c:Nat) (hc:textWords.length≤c):GwOk (glOf m t5 p5 t6 p6 b o c hc) [(0,textWords)]:=jtz hc fun x hx=>List.mem_append.2 (.inr (List.mem_append.2 (.inr hx)))

theorem linked (gl:List (Nat×Nat×Option Value)) (gk:GwOk gl [(0,textWords)]):(links.all fun x=>linkF Tryz.prog (fiG links gl bldTs 5 [(0,textWords)] gk) pg x.1 x.2)=true:=by kernel_rfl

theorem link (m:Int) (t5:TypeId) (p5:Value) (t6:TypeId) (p6:Value) (b:Nat) (o:Nat) (c:Nat) (hc:textWords.length≤c):LinkOk Tryz.prog (fiG links (glOf m t5 p5 t6 p6 b o c hc) bldTs 5 [(0,textWords)] (gwOf m t5 p5 t6 p6 b o c hc)) pg:=by
 have hpow : ∀ w, GlAt (fiG links (glOf m t5 p5 t6 p6 b o c hc) bldTs 5 [(0, textWords)] (gwOf m t5 p5 t6 p6 b o c hc)) w → Lib.TabIs Tryz.prog w "internal/strconv.uint64pow10" .u64 Lib.pow10Tab := fun w h => jts (g := 2) (by kernel_rfl) (by decide) (fun x hx => List.mem_append.2 (.inl hx)) h
 have hmax:∀w,GlAt (fiG links (glOf m t5 p5 t6 p6 b o c hc) bldTs 5 [(0,textWords)] (gwOf m t5 p5 t6 p6 b o c hc)) w→∃m,w.cell? ⟨1,0,none⟩=some (.int .i64 m):=fun w h=>⟨m,h (1,0,some (.int .i64 m)) (List.mem_append.2 (.inr (by simp)))⟩
 have hE5:∀w,GlAt (fiG links (glOf m t5 p5 t6 p6 b o c hc) bldTs 5 [(0,textWords)] (gwOf m t5 p5 t6 p6 b o c hc)) w→∃te pe,w.cell? ⟨3,0,none⟩=some (.iface te pe):=fun w h=>⟨t5,p5,h (3,0,some (.iface t5 p5)) (List.mem_append.2 (.inr (by simp)))⟩
 have hE6:∀w,GlAt (fiG links (glOf m t5 p5 t6 p6 b o c hc) bldTs 5 [(0,textWords)] (gwOf m t5 p5 t6 p6 b o c hc)) w→∃te pe,w.cell? ⟨4,0,none⟩=some (.iface te pe):=fun w h=>⟨t6,p6,h (4,0,some (.iface t6 p6)) (List.mem_append.2 (.inr (by simp)))⟩
 refine jr3 (linked _ _) ?_
 intro f F L hm hp
 have h:∀x∈links,isLib pg x.1=true→x=(119,121)∨x=(255,44)∨x=(260,33)∨x=(262,79)∨x=(263,83)∨x=(357,72)∨x=(358,73)∨x=(359,34):=by decide +kernel
 rcases h (f,F) hm (by simp[isLib,hp]) with hx|hx|hx|hx|hx|hx|hx|hx
 ·cases hx
  have e:L=libGrow 1 8:=by
   have e2:pg 119=some (.lib (libGrow 1 8)):=rfl
   rw[e2] at hp;cases hp;rfl
  subst e
  exact fun vs gh r gh' h _=>jud (by decide +kernel) vs gh r gh' h
 ·cases hx
  have e:L=libCut:=by
   have e2:pg 255=some (.lib (libCut)):=rfl
   rw[e2] at hp;cases hp;rfl
  subst e
  exact fun vs gh r gh' h _=>jtu (ρ:=laysCut_ren) laysCut hmax vs gh r gh' h
 ·cases hx
  have e:L=libItoa:=by
   have e2:pg 260=some (.lib (libItoa)):=rfl
   rw[e2] at hp;cases hp;rfl
  subst e
  exact fun vs gh r gh' h _=>jtt (ρ:=laysItoa_ren) laysItoa hpow vs gh r gh' h
 ·cases hx
  have e:L=libSplit:=by
   have e2:pg 262=some (.lib (libSplit)):=rfl
   rw[e2] at hp;cases hp;rfl
  subst e
  exact fun vs gh r gh' h _=>jtv (ρ:=laysSplit_ren) laysSplit (by kernel_rfl) hmax vs gh r gh' h
 ·cases hx
  have e:L=libAtoi:=by
   have e2:pg 263=some (.lib (libAtoi)):=rfl
   rw[e2] at hp;cases hp;rfl
  subst e
  exact fun vs gh r gh' h _=>jtw (ρ:=laysAtoi_ren) laysAtoi hE5 hE6 vs gh r gh' h
 ·cases hx
  have e:L=libWS:=by
   have e2:pg 357=some (.lib (libWS)):=rfl
   rw[e2] at hp;cases hp;rfl
  subst e
  exact fun vs gh r gh' h _=>ju4 (fi:=fiG links (glOf m t5 p5 t6 p6 b o c hc) bldTs 5 [(0,textWords)] (gwOf m t5 p5 t6 p6 b o c hc)) write_ok vs gh r gh' h
 ·cases hx
  have e:L=libWB:=by
   have e2:pg 358=some (.lib (libWB)):=rfl
   rw[e2] at hp;cases hp;rfl
  subst e
  exact fun vs gh r gh' h _=>jua (fi:=fiG links (glOf m t5 p5 t6 p6 b o c hc) bldTs 5 [(0,textWords)] (gwOf m t5 p5 t6 p6 b o c hc)) byte_ok vs gh r gh' h
 ·cases hx
  have e:L=libBS:=by
   have e2:pg 359=some (.lib (libBS)):=rfl
   rw[e2] at hp;cases hp;rfl
  subst e
  exact fun vs gh r gh' h _=>ju7 (fi:=fiG links (glOf m t5 p5 t6 p6 b o c hc) bldTs 5 [(0,textWords)] (gwOf m t5 p5 t6 p6 b o c hc)) read_ok vs gh r gh' h

theorem own:ownKnob Tryz.prog.godebug=none:=by kernel_rfl
theorem laidOut:laidOutB Tryz.prog=true:=by kernel_rfl


noncomputable def laidWorld (os:Os):World:={World.doorLaid Tryz.prog 77 os with heap:=(World.doorLaid Tryz.prog 77 os).heap.modify 7 fun
 | .cells _ t fz=> .cells ((Pinned.utf8FirstZ.map fun (z:Nat)=>Value.int .u8 (z:Int)).toArray) t fz
 |o=>o }

theorem laid_met (os:Os):laidMetH Tryz.prog Rows.textParsesUptoRow.laid ((laidWorld os).forCall (fun _ _=>0) ⟨#[],#[.string ⟨#[]⟩],[]⟩).memory:=
 laidMet_of_run3 8 (by kernel_rfl) (by kernel_rfl) (by kernel_rfl)

theorem reads (os:Os) {H:Type} (enc:TypeId×Value→H):DataW.whole enc Tryz.prog ((laidWorld os).forCall (fun _ _=>0) ⟨#[],#[.string ⟨#[]⟩],[]⟩).memory Tryz.f4.params.toList Rows.textParsesSpec.vars false #[.string ⟨#[]⟩].toList 8=some ([.lit (.string [])],[],[]):=by kernel_rfl

theorem lifted (os:Os) (started:os.Started) (H:Type) (enc:TypeId×Value→H) (F:Stop.Interp) :
  ReturnsInHanded {} Tryz.checked os 4 .any ((Rows.OpenSpec.upto Rows.textParsesSpec).preRow enc Tryz.prog Tryz.f4 Rows.textParsesUptoRow.domain false Rows.textParsesUptoRow.laid) (((Rows.OpenSpec.upto Rows.textParsesSpec).at F).post enc Tryz.prog Tryz.f4 false true false false):=by
 refine returnsInHanded_of_row (C:=Tryz.checked) (s:=(Rows.OpenSpec.upto Rows.textParsesSpec)) own started (by kernel_rfl) Tryz.func4
  (witness_row_atRef (enc:=enc) (C:=Tryz.checked) false (laidWorld os) #[.string ⟨#[]⟩] rfl (by kernel_rfl) (by kernel_rfl) (by kernel_rfl)
   (OpenSpec.preRow_of_cond 8 (reads os enc) (by kernel_rfl) (fun k hk=>by cases hk;kernel_rfl) (by kernel_rfl) (laid_met os))) ?_
 intro W base args ds gs before hval hW hcnd hk0 hwt hL hsh _
 have hkk:=hk0 _ rfl
 have hW':=hW
 obtain⟨p,q,hA,hV,rfl,hfz,hnd⟩:=hW
 have hA0:DataW.TrodAll enc Tryz.prog W 0 (fun _=>true) true Tryz.f4.params.toList args.toList ds p:=hA
 obtain⟨rfl,rfl⟩:=trodVars_none hV
 have hw:(DataW.weightsEach Tryz.prog Tryz.f4.params.toList ds).all (· ≤reachBytes)=true:=by
  have h:(DataW.weightsEach Tryz.prog (Tryz.f4.params.toList++[]) (ds++[])).all (· ≤reachBytes)=true:=hwt
  rwa [List.append_nil,List.append_nil] at h
 have hval2:∀(j:Nat) t v,Tryz.f4.params.toList[j]?=some t→args.toList[j]?=some v→Value.okWide Tryz.prog W .any base t v:=fun j t v h1 h2=>hval j t v (by rw[←Array.getElem?_toList];exact h1) (by rw[←Array.getElem?_toList];exact h2)
 have hmet:laidMet Tryz.prog Rows.textParsesUptoRow.laid W:=hL
 have ht : Lib.TabIs Tryz.prog W "internal/strconv.uint64pow10" .u64 Lib.pow10Tab := jtx (g := 2) hmet (by rw [← (show Rows.laid_internal_strconv_uint64pow10 = Lib.tabData .u64 Lib.pow10Tab by kernel_rfl)]; simp [Rows.textParsesUptoRow]) (by kernel_rfl) (by kernel_rfl) Tryz.underlying183 Tryz.underlying169 (by kernel_rfl) (by kernel_rfl)
 obtain⟨m,hm⟩:=cell_of_shapedOpen_int (g:=1) (zero:= #[Value.int .i64 0]) hsh (by decide +kernel) (by kernel_rfl) (by rfl) (by kernel_rfl) (by kernel_rfl) Tryz.underlying3
 obtain ⟨t5, p5, hs5, hc5⟩ := jnl (g := 3) (nm := "*errors.errorString") hmet (show ("strconv.ErrSyntax", Rows.laid_strconv_ErrSyntax) ∈ Rows.textParsesUptoRow.laid by simp [Rows.textParsesUptoRow]) (by kernel_rfl) (by kernel_rfl) Tryz.underlying120
 obtain ⟨t6, p6, hs6, hc6⟩ := jnl (g := 4) (nm := "*errors.errorString") hmet (show ("strconv.ErrRange", Rows.laid_strconv_ErrRange) ∈ Rows.textParsesUptoRow.laid by simp [Rows.textParsesUptoRow]) (by kernel_rfl) (by kernel_rfl) Tryz.underlying120
 obtain ⟨b, o, c, hc, hwd⟩ := ju0 (name := "latchwork/text.words") (g := 0) (ss := textWords) hmet (by first | exact List.mem_of_getElem? (i := 6) (by kernel_rfl) | exact List.mem_of_getElem? (i := 5) (by kernel_rfl) | exact List.mem_of_getElem? (i := 7) (by kernel_rfl) | exact List.mem_of_getElem? (i := 4) (by kernel_rfl) | exact List.mem_of_getElem? (i := 8) (by kernel_rfl) | exact List.mem_of_getElem? (i := 3) (by kernel_rfl) | exact List.mem_of_getElem? (i := 2) (by kernel_rfl) | exact List.mem_of_getElem? (i := 1) (by kernel_rfl) | exact List.mem_of_getElem? (i := 0) (by kernel_rfl)) (by kernel_rfl) (by kernel_rfl) Tryz.underlying73 Tryz.underlying9 (by kernel_rfl) (by decide)
 have hgl:∀x∈(fiG links (glOf m t5 p5 t6 p6 b o c hc) bldTs 5 [(0,textWords)] (gwOf m t5 p5 t6 p6 b o c hc)).gl,x.1<W.heap.size∧W.cell? ⟨x.1,x.2.1,none⟩=x.2.2:=by
  intro x hx
  rcases List.mem_append.1 hx with hx|hx
  ·exact jty ht (by kernel_rfl) (by decide) x hx
  rcases List.mem_append.1 hx with hx|hx
  case inr.inr=>exact hwd x hx
  ·simp only[List.mem_cons,List.not_mem_nil,or_false] at hx
   rcases hx with rfl|rfl|rfl
   ·exact⟨jhm hm,hm⟩
   ·exact⟨hs5,hc5⟩
   ·exact⟨hs6,hc6⟩
 have hrun:=jr4 (enc:=enc) (P:=Tryz.prog) (fi:=fiG links (glOf m t5 p5 t6 p6 b o c hc) bldTs 5 [(0,textWords)] (gwOf m t5 p5 t6 p6 b o c hc)) (pg:=pg) (f:=369) (F:=4) (n:=20) (by decide +kernel) (link m t5 p5 t6 p6 b o c hc) rfl (L:=insTextParses) (by rw[Tryz.params4];with_unfolding_all rfl) jto hA0 hval2 hw (juf hkk) hgl
 have hA1:=hA0
 rw[Tryz.params4] at hA1
 obtain⟨v0,vs0,d0,ds0,p0,q0,hargs,rfl,rfl,h0,r0⟩:=trodAll_cons hA1
 obtain⟨rfl,rfl,rfl⟩:=trodAll_nil r0
 obtain rfl:args= #[v0]:=by cases args;simp_all
 refine hrun.mono fun e W' ⟨he,bel⟩=>?_
 subst he
 exact⟨_,rfl,_,_,_,[],_,[],hW',trodAll_mk1 (shut_bool Tryz.underlying4 _),jlf laidOut bel (by kernel_rfl) hA0,rfl,bel.frame _,fun h=>by cases h⟩

theorem over:Rows.textParsesUptoRow.holds Tryz.pinned (Rows.OpenSpec.upto Rows.textParsesSpec):=
 OpenClaim.holds_of_cond 4 Tryz.f4 rfl rfl rfl rfl rfl rfl rfl ⟨rfl,rfl,rfl,rfl,rfl⟩ rfl rfl rfl rfl rfl (by kernel_rfl) Tryz.func4 (by kernel_rfl)
  (of_decide_eq_true (by kernel_rfl)) (by unfold Func.isWrapper;first|(rw[if_pos (by decide +kernel)];kernel_rfl)|(rw[if_neg (by decide +kernel)];exact⟨rfl,rfl⟩))
  (fun os started H enc _ F=>by rw[OpenClaim.pre_eq_preRow];exact lifted os started H enc F)

theorem plain (f : FuncId) (fn : Func) (hf : Tryz.pinned.checked.prog.funcNamed "latchwork/latchworklaw.TextParses" = some f) (hfn : Tryz.pinned.checked.prog.funcs[f]? = some fn) :
  true=Tryz.pinned.checked.prog.looks []∧∀(j:Nat) t,fn.params[j]?=some t→Tryz.pinned.checked.prog.wantsStandIn t=false:=by
 obtain rfl : f = 4 := Option.some.inj ((show Tryz.prog.funcNamed "latchwork/latchworklaw.TextParses" = some 4 by kernel_rfl).symm.trans hf) |>.symm
 obtain rfl:fn=Tryz.f4:=(Option.some.inj (Tryz.func4.symm.trans hfn)).symm
 refine⟨by kernel_rfl,fun j t ht=>?_⟩
 rw[Tryz.params4] at ht
 have hall:∀t∈([9]:List TypeId),Tryz.prog.wantsStandIn t=false:=by decide +kernel
 exact hall t (by simpa using Array.mem_of_getElem? ht)
theorem proved:Rows.TextParsesUptoCardSaid:=
 Claim7.holds_tied_plain_at .later [] _ _ _ _ over (fun _ h=>by cases h) (by kernel_rfl) (fun _ h=>by cases h) textParsesUpto_row_tie rfl ⟨rfl,rfl⟩ (by kernel_rfl) rfl plain (by kernel_rfl)
#print axioms proved
end Go.Proofs.YtmodipglnngghacGreatDoor.textParsesDone
end
