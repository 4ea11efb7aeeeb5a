/-
  ExploreFinds: the given statement holds: the call answers true, and what it was handed reads as it did.
-/
import Derived.Test.YtmodipglnngghacGreatDoorExploreFindsW
import Derived.Test.YtmodipglnngghacGreatDoorRows
import Derived.Test.YtmodipglnngghacGreatDoorTie
import Derived.Test.YtmodipglnngghacGreatDoorCards
import Derived.KernelRfl
import Derived.Deep.DeepHandedRow
import Derived.Deep.DeepWitnessRowRef
import Derived.Deep.DeepLaidRun
import Derived.LaidMore
import Derived.RegionCalls
import Derived.Deep.RegionWith
import Derived.Laws.BytesString
import Derived.JoinedCond
import Derived.Deep.CondSized
import Derived.WalkKit
import Derived.ProofKit
import Derived.OpenShut
import Derived.ShutString
import Derived.ChangeOld
import Derived.Below
set_option linter.unusedVariables false
set_option linter.unusedSimpArgs false
set_option linter.unnecessarySimpa false

set_option maxRecDepth 100000
set_option maxHeartbeats 4000000
section
namespace Go.Proofs.YtmodipglnngghacGreatDoor.exploreFindsDone
open Go Go.Lw Go.ChangeShapes Go.WideShapes Go.RowKit
set_option maxRecDepth 100000

def laysItoa_ren:Go.Shelf.Ren:=⟨fun|171=>33|243=>74|246=>107|283=>124|284=>125|285=>126|286=>127|129=>143|317=>142|318=>144|319=>145|320=>146|337=>157|338=>158|n=>n,fun|3=>3|9=>9|2=>2|4=>4|171=>168|0=>0|53=>169|37=>62|5=>5|173=>172|212=>183|51=>184|20=>20|213=>185|46=>175|232=>202|233=>203|n=>n,fun|17=>2|18=>5|19=>6|n=>n⟩
theorem laysItoa:Go.Proofs.LaysM.n171 Tryz.prog laysItoa_ren:={
 mixed:=by kernel_rfl
 f129:=Tryz.func143.trans (congrArg some (by kernel_rfl))
 f171:=Tryz.func33.trans (congrArg some (by kernel_rfl))
 f243:=Tryz.func74.trans (congrArg some (by kernel_rfl))
 f246:=Tryz.func107.trans (congrArg some (by kernel_rfl))
 f283:=Tryz.func124.trans (congrArg some (by kernel_rfl))
 f284:=Tryz.func125.trans (congrArg some (by kernel_rfl))
 f285:=Tryz.func126.trans (congrArg some (by kernel_rfl))
 f286:=Tryz.func127.trans (congrArg some (by kernel_rfl))
 f317:=Tryz.func142.trans (congrArg some (by kernel_rfl))
 f318:=Tryz.func144.trans (congrArg some (by kernel_rfl))
 f319:=Tryz.func145.trans (congrArg some (by kernel_rfl))
 f320:=Tryz.func146.trans (congrArg some (by kernel_rfl))
 f337:=Tryz.func157.trans (congrArg some (by kernel_rfl))
 f338:=Tryz.func158.trans (congrArg some (by kernel_rfl))
 t0:=Tryz.underlying0
 a0:=Tryz.isAgg0
 z0:=Tryz.sizeOf0
 v0:=Tryz.zeroValue0
 t2:=Tryz.underlying2
 a2:=Tryz.isAgg2
 z2:=Tryz.sizeOf2
 v2:=Tryz.zeroValue2
 t3:=Tryz.underlying3
 a3:=Tryz.isAgg3
 z3:=Tryz.sizeOf3
 v3:=Tryz.zeroValue3
 t4:=Tryz.underlying4
 a4:=Tryz.isAgg4
 z4:=Tryz.sizeOf4
 v4:=Tryz.zeroValue4
 t5:=Tryz.underlying5
 a5:=Tryz.isAgg5
 z5:=Tryz.sizeOf5
 v5:=Tryz.zeroValue5
 t9:=Tryz.underlying9
 a9:=Tryz.isAgg9
 z9:=Tryz.sizeOf9
 v9:=Tryz.zeroValue9
 t20:=Tryz.underlying20
 a20:=Tryz.isAgg20
 z20:=Tryz.sizeOf20
 v20:=Tryz.zeroValue20
 t37:=Tryz.underlying62
 a37:=Tryz.isAgg62
 z37:=Tryz.sizeOf62
 v37:=Tryz.zeroValue62
 t46:=Tryz.underlying175
 a46:=Tryz.isAgg175
 z46:=Tryz.sizeOf175
 v46:=Tryz.zeroValue175
 t51:=Tryz.underlying184
 a51:=Tryz.isAgg184
 z51:=Tryz.sizeOf184
 v51:=Tryz.zeroValue184
 t53:=Tryz.underlying169
 a53:=Tryz.isAgg169
 z53:=Tryz.sizeOf169
 v53:=Tryz.zeroValue169
 t171:=Tryz.underlying168
 a171:=Tryz.isAgg168
 z171:=Tryz.sizeOf168
 v171:=Tryz.zeroValue168
 t173:=Tryz.underlying172
 a173:=Tryz.isAgg172
 z173:=Tryz.sizeOf172
 v173:=Tryz.zeroValue172
 t212:=Tryz.underlying183
 a212:=Tryz.isAgg183
 z212:=Tryz.sizeOf183
 v212:=Tryz.zeroValue183
 t213:=Tryz.underlying185
 a213:=Tryz.isAgg185
 z213:=Tryz.sizeOf185
 t232:=Tryz.underlying202
 a232:=Tryz.isAgg202
 z232:=Tryz.sizeOf202
 v232:=Tryz.zeroValue202
 t233:=Tryz.underlying203
 a233:=Tryz.isAgg203
 z233:=Tryz.sizeOf203
 v233:=Tryz.zeroValue203
 g17:=by kernel_rfl
 g18:=by kernel_rfl
 g19:=by kernel_rfl
 i0:=by kernel_rfl
 i2:=by kernel_rfl
 i3:=by kernel_rfl
 i4:=by kernel_rfl
 i5:=by kernel_rfl
 i9:=by kernel_rfl
 i20:=by kernel_rfl
 i37:=by kernel_rfl
 i46:=by kernel_rfl
 i51:=by kernel_rfl
 i53:=by kernel_rfl
 i171:=by kernel_rfl
 i173:=by kernel_rfl
 i212:=by kernel_rfl
 i232:=by kernel_rfl
 i233:=by kernel_rfl
 m17:=by kernel_rfl
 m18:=by kernel_rfl
 m19:=by kernel_rfl }
def laysAtoi_ren:Go.Shelf.Ren:=⟨fun|172=>83|244=>111|245=>112|247=>135|279=>136|280=>137|281=>138|282=>139|287=>152|316=>153|171=>33|205=>154|321=>160|322=>161|243=>74|246=>107|283=>124|284=>125|285=>126|286=>127|129=>143|317=>142|318=>144|319=>145|320=>146|337=>157|338=>158|n=>n,fun|9=>9|3=>3|75=>120|76=>121|4=>4|5=>5|167=>177|37=>62|0=>0|85=>178|2=>2|168=>180|53=>169|175=>191|46=>175|210=>195|127=>124|145=>201|143=>199|21=>21|171=>168|173=>172|212=>183|51=>184|20=>20|213=>185|232=>202|233=>203|80=>76|n=>n,fun|15=>3|16=>4|17=>2|18=>5|19=>6|n=>n⟩
theorem laysAtoi:Go.Proofs.LaysC.n172 Tryz.prog laysAtoi_ren:={
 mixed:=by kernel_rfl
 f129:=Tryz.func143.trans (congrArg some (by kernel_rfl))
 f171:=Tryz.func33.trans (congrArg some (by kernel_rfl))
 f172:=Tryz.func83.trans (congrArg some (by kernel_rfl))
 f205:=Tryz.func154.trans (congrArg some (by kernel_rfl))
 f243:=Tryz.func74.trans (congrArg some (by kernel_rfl))
 f244:=Tryz.func111.trans (congrArg some (by kernel_rfl))
 f245:=Tryz.func112.trans (congrArg some (by kernel_rfl))
 f246:=Tryz.func107.trans (congrArg some (by kernel_rfl))
 f247:=Tryz.func135.trans (congrArg some (by kernel_rfl))
 f279:=Tryz.func136.trans (congrArg some (by kernel_rfl))
 f280:=Tryz.func137.trans (congrArg some (by kernel_rfl))
 f281:=Tryz.func138.trans (congrArg some (by kernel_rfl))
 f282:=Tryz.func139.trans (congrArg some (by kernel_rfl))
 f283:=Tryz.func124.trans (congrArg some (by kernel_rfl))
 f284:=Tryz.func125.trans (congrArg some (by kernel_rfl))
 f285:=Tryz.func126.trans (congrArg some (by kernel_rfl))
 f286:=Tryz.func127.trans (congrArg some (by kernel_rfl))
 f287:=Tryz.func152.trans (congrArg some (by kernel_rfl))
 f316:=Tryz.func153.trans (congrArg some (by kernel_rfl))
 f317:=Tryz.func142.trans (congrArg some (by kernel_rfl))
 f318:=Tryz.func144.trans (congrArg some (by kernel_rfl))
 f319:=Tryz.func145.trans (congrArg some (by kernel_rfl))
 f320:=Tryz.func146.trans (congrArg some (by kernel_rfl))
 f321:=Tryz.func160.trans (congrArg some (by kernel_rfl))
 f322:=Tryz.func161.trans (congrArg some (by kernel_rfl))
 f337:=Tryz.func157.trans (congrArg some (by kernel_rfl))
 f338:=Tryz.func158.trans (congrArg some (by kernel_rfl))
 t0:=Tryz.underlying0
 a0:=Tryz.isAgg0
 z0:=Tryz.sizeOf0
 v0:=Tryz.zeroValue0
 t2:=Tryz.underlying2
 a2:=Tryz.isAgg2
 z2:=Tryz.sizeOf2
 v2:=Tryz.zeroValue2
 t3:=Tryz.underlying3
 a3:=Tryz.isAgg3
 z3:=Tryz.sizeOf3
 v3:=Tryz.zeroValue3
 t4:=Tryz.underlying4
 a4:=Tryz.isAgg4
 z4:=Tryz.sizeOf4
 v4:=Tryz.zeroValue4
 t5:=Tryz.underlying5
 a5:=Tryz.isAgg5
 z5:=Tryz.sizeOf5
 v5:=Tryz.zeroValue5
 t9:=Tryz.underlying9
 a9:=Tryz.isAgg9
 z9:=Tryz.sizeOf9
 v9:=Tryz.zeroValue9
 t20:=Tryz.underlying20
 a20:=Tryz.isAgg20
 z20:=Tryz.sizeOf20
 v20:=Tryz.zeroValue20
 t21:=Tryz.underlying21
 a21:=Tryz.isAgg21
 z21:=Tryz.sizeOf21
 v21:=Tryz.zeroValue21
 t37:=Tryz.underlying62
 a37:=Tryz.isAgg62
 z37:=Tryz.sizeOf62
 v37:=Tryz.zeroValue62
 t46:=Tryz.underlying175
 a46:=Tryz.isAgg175
 z46:=Tryz.sizeOf175
 v46:=Tryz.zeroValue175
 t51:=Tryz.underlying184
 a51:=Tryz.isAgg184
 z51:=Tryz.sizeOf184
 v51:=Tryz.zeroValue184
 t53:=Tryz.underlying169
 a53:=Tryz.isAgg169
 z53:=Tryz.sizeOf169
 v53:=Tryz.zeroValue169
 t75:=Tryz.underlying120
 a75:=Tryz.isAgg120
 z75:=Tryz.sizeOf120
 v75:=Tryz.zeroValue120
 t76:=Tryz.underlying121
 a76:=Tryz.isAgg121
 z76:=Tryz.sizeOf121
 v76:=Tryz.zeroValue121
 t85:=Tryz.underlying178
 a85:=Tryz.isAgg178
 z85:=Tryz.sizeOf178
 v85:=Tryz.zeroValue178
 t127:=Tryz.underlying124
 a127:=Tryz.isAgg124
 z127:=Tryz.sizeOf124
 v127:=Tryz.zeroValue124
 t143:=Tryz.underlying199
 a143:=Tryz.isAgg199
 z143:=Tryz.sizeOf199
 v143:=Tryz.zeroValue199
 t145:=Tryz.underlying201
 a145:=Tryz.isAgg201
 z145:=Tryz.sizeOf201
 v145:=Tryz.zeroValue201
 t167:=Tryz.underlying177
 a167:=Tryz.isAgg177
 z167:=Tryz.sizeOf177
 v167:=Tryz.zeroValue177
 t168:=Tryz.underlying180
 a168:=Tryz.isAgg180
 z168:=Tryz.sizeOf180
 v168:=Tryz.zeroValue180
 t171:=Tryz.underlying168
 a171:=Tryz.isAgg168
 z171:=Tryz.sizeOf168
 v171:=Tryz.zeroValue168
 t173:=Tryz.underlying172
 a173:=Tryz.isAgg172
 z173:=Tryz.sizeOf172
 v173:=Tryz.zeroValue172
 t175:=Tryz.underlying191
 a175:=Tryz.isAgg191
 z175:=Tryz.sizeOf191
 v175:=Tryz.zeroValue191
 t210:=Tryz.underlying195
 a210:=Tryz.isAgg195
 z210:=Tryz.sizeOf195
 v210:=Tryz.zeroValue195
 t212:=Tryz.underlying183
 a212:=Tryz.isAgg183
 z212:=Tryz.sizeOf183
 v212:=Tryz.zeroValue183
 t213:=Tryz.underlying185
 a213:=Tryz.isAgg185
 z213:=Tryz.sizeOf185
 t232:=Tryz.underlying202
 a232:=Tryz.isAgg202
 z232:=Tryz.sizeOf202
 v232:=Tryz.zeroValue202
 t233:=Tryz.underlying203
 a233:=Tryz.isAgg203
 z233:=Tryz.sizeOf203
 v233:=Tryz.zeroValue203
 g15:=by kernel_rfl
 g16:=by kernel_rfl
 g17:=by kernel_rfl
 g18:=by kernel_rfl
 g19:=by kernel_rfl
 t80:=Tryz.underlying76
 a80:=Tryz.isAgg76
 z80:=Tryz.sizeOf76
 v80:=Tryz.zeroValue76
 i0:=by kernel_rfl
 i2:=by kernel_rfl
 i3:=by kernel_rfl
 i4:=by kernel_rfl
 i5:=by kernel_rfl
 i9:=by kernel_rfl
 i20:=by kernel_rfl
 i21:=by kernel_rfl
 i37:=by kernel_rfl
 i46:=by kernel_rfl
 i51:=by kernel_rfl
 i53:=by kernel_rfl
 i75:=by kernel_rfl
 i76:=by kernel_rfl
 i80:=by kernel_rfl
 i85:=by kernel_rfl
 i127:=by kernel_rfl
 i143:=by kernel_rfl
 i145:=by kernel_rfl
 i167:=by kernel_rfl
 i168:=by kernel_rfl
 i171:=by kernel_rfl
 i173:=by kernel_rfl
 i175:=by kernel_rfl
 i210:=by kernel_rfl
 i212:=by kernel_rfl
 i232:=by kernel_rfl
 i233:=by kernel_rfl
 m15:=by kernel_rfl
 m16:=by kernel_rfl
 m17:=by kernel_rfl
 m18:=by kernel_rfl
 m19:=by kernel_rfl
 c0:=by kernel_rfl
 c2:=by kernel_rfl
 c3:=by kernel_rfl
 c4:=by kernel_rfl
 c5:=by kernel_rfl
 c9:=by kernel_rfl
 c20:=by kernel_rfl
 c21:=by kernel_rfl
 c37:=by kernel_rfl
 c46:=by kernel_rfl
 c51:=by kernel_rfl
 c53:=by kernel_rfl
 c75:=by kernel_rfl
 c76:=by kernel_rfl
 c80:=by kernel_rfl
 c85:=by kernel_rfl
 c127:=by kernel_rfl
 c143:=by kernel_rfl
 c145:=by kernel_rfl
 c167:=by kernel_rfl
 c168:=by kernel_rfl
 c171:=by kernel_rfl
 c173:=by kernel_rfl
 c175:=by kernel_rfl
 c210:=by kernel_rfl
 c212:=by kernel_rfl
 c213:=by kernel_rfl
 c232:=by kernel_rfl
 c233:=by kernel_rfl }
def laysCut_ren:Go.Shelf.Ren:=⟨fun|145=>44|220=>78|219=>108|217=>128|225=>129|224=>130|267=>131|266=>147|314=>148|n=>n,fun|9=>9|4=>4|59=>88|3=>3|5=>5|46=>175|146=>187|51=>184|n=>n,fun|1=>1|n=>n⟩
theorem laysCut:Go.Proofs.Lays.n145 Tryz.prog laysCut_ren:={
 mixed:=by kernel_rfl
 f145:=Tryz.func44.trans (congrArg some (by kernel_rfl))
 f217:=Tryz.func128.trans (congrArg some (by kernel_rfl))
 f219:=Tryz.func108.trans (congrArg some (by kernel_rfl))
 f220:=Tryz.func78.trans (congrArg some (by kernel_rfl))
 f224:=Tryz.func130.trans (congrArg some (by kernel_rfl))
 f225:=Tryz.func129.trans (congrArg some (by kernel_rfl))
 f266:=Tryz.func147.trans (congrArg some (by kernel_rfl))
 f267:=Tryz.func131.trans (congrArg some (by kernel_rfl))
 f314:=Tryz.func148.trans (congrArg some (by kernel_rfl))
 t3:=Tryz.underlying3
 a3:=Tryz.isAgg3
 z3:=Tryz.sizeOf3
 v3:=Tryz.zeroValue3
 t4:=Tryz.underlying4
 a4:=Tryz.isAgg4
 z4:=Tryz.sizeOf4
 v4:=Tryz.zeroValue4
 t5:=Tryz.underlying5
 a5:=Tryz.isAgg5
 z5:=Tryz.sizeOf5
 v5:=Tryz.zeroValue5
 t9:=Tryz.underlying9
 a9:=Tryz.isAgg9
 z9:=Tryz.sizeOf9
 v9:=Tryz.zeroValue9
 t46:=Tryz.underlying175
 a46:=Tryz.isAgg175
 z46:=Tryz.sizeOf175
 v46:=Tryz.zeroValue175
 t51:=Tryz.underlying184
 a51:=Tryz.isAgg184
 z51:=Tryz.sizeOf184
 v51:=Tryz.zeroValue184
 t59:=Tryz.underlying88
 a59:=Tryz.isAgg88
 z59:=Tryz.sizeOf88
 v59:=Tryz.zeroValue88
 t146:=Tryz.underlying187
 a146:=Tryz.isAgg187
 z146:=Tryz.sizeOf187
 v146:=Tryz.zeroValue187
 g1:=by kernel_rfl }
def laysSplit_ren:Go.Shelf.Ren:=⟨fun|146=>79|221=>109|268=>132|138=>133|143=>134|195=>149|197=>150|218=>151|219=>108|260=>159|217=>128|225=>129|224=>130|267=>131|266=>147|314=>148|n=>n,fun|9=>9|31=>73|3=>3|4=>4|0=>0|105=>189|21=>21|5=>5|46=>175|119=>204|139=>207|138=>206|146=>187|51=>184|n=>n,fun|1=>1|3=>7|4=>8|n=>n⟩
theorem laysSplit:Go.Proofs.Lays.n146 Tryz.prog laysSplit_ren:={
 mixed:=by kernel_rfl
 f138:=Tryz.func133.trans (congrArg some (by kernel_rfl))
 f143:=Tryz.func134.trans (congrArg some (by kernel_rfl))
 f146:=Tryz.func79.trans (congrArg some (by kernel_rfl))
 f195:=Tryz.func149.trans (congrArg some (by kernel_rfl))
 f197:=Tryz.func150.trans (congrArg some (by kernel_rfl))
 f217:=Tryz.func128.trans (congrArg some (by kernel_rfl))
 f218:=Tryz.func151.trans (congrArg some (by kernel_rfl))
 f219:=Tryz.func108.trans (congrArg some (by kernel_rfl))
 f221:=Tryz.func109.trans (congrArg some (by kernel_rfl))
 f224:=Tryz.func130.trans (congrArg some (by kernel_rfl))
 f225:=Tryz.func129.trans (congrArg some (by kernel_rfl))
 f260:=Tryz.func159.trans (congrArg some (by kernel_rfl))
 f266:=Tryz.func147.trans (congrArg some (by kernel_rfl))
 f267:=Tryz.func131.trans (congrArg some (by kernel_rfl))
 f268:=Tryz.func132.trans (congrArg some (by kernel_rfl))
 f314:=Tryz.func148.trans (congrArg some (by kernel_rfl))
 t0:=Tryz.underlying0
 a0:=Tryz.isAgg0
 z0:=Tryz.sizeOf0
 v0:=Tryz.zeroValue0
 t3:=Tryz.underlying3
 a3:=Tryz.isAgg3
 z3:=Tryz.sizeOf3
 v3:=Tryz.zeroValue3
 t4:=Tryz.underlying4
 a4:=Tryz.isAgg4
 z4:=Tryz.sizeOf4
 v4:=Tryz.zeroValue4
 t5:=Tryz.underlying5
 a5:=Tryz.isAgg5
 z5:=Tryz.sizeOf5
 v5:=Tryz.zeroValue5
 t9:=Tryz.underlying9
 a9:=Tryz.isAgg9
 z9:=Tryz.sizeOf9
 v9:=Tryz.zeroValue9
 t21:=Tryz.underlying21
 a21:=Tryz.isAgg21
 z21:=Tryz.sizeOf21
 v21:=Tryz.zeroValue21
 t31:=Tryz.underlying73
 a31:=Tryz.isAgg73
 z31:=Tryz.sizeOf73
 v31:=Tryz.zeroValue73
 t46:=Tryz.underlying175
 a46:=Tryz.isAgg175
 z46:=Tryz.sizeOf175
 v46:=Tryz.zeroValue175
 t51:=Tryz.underlying184
 a51:=Tryz.isAgg184
 z51:=Tryz.sizeOf184
 v51:=Tryz.zeroValue184
 t105:=Tryz.underlying189
 a105:=Tryz.isAgg189
 z105:=Tryz.sizeOf189
 v105:=Tryz.zeroValue189
 t119:=Tryz.underlying204
 a119:=Tryz.isAgg204
 z119:=Tryz.sizeOf204
 t138:=Tryz.underlying206
 a138:=Tryz.isAgg206
 z138:=Tryz.sizeOf206
 v138:=Tryz.zeroValue206
 t139:=Tryz.underlying207
 a139:=Tryz.isAgg207
 z139:=Tryz.sizeOf207
 v139:=Tryz.zeroValue207
 t146:=Tryz.underlying187
 a146:=Tryz.isAgg187
 z146:=Tryz.sizeOf187
 v146:=Tryz.zeroValue187
 g1:=by kernel_rfl
 g3:=by kernel_rfl
 g4:=by kernel_rfl }

/-- The machine's number of a function, and the program's. -/
def links:List (Nat×Nat):=[(22,96),(38,29),(61,105),(62,94),(63,71),(64,120),(65,90),(66,115),(75,43),(76,66),(77,67),(78,68),(79,69),(80,70),(81,30),(86,101),(96,140),(101,63),(103,95),(104,97),(105,98),(106,99),(107,100),(108,102),(109,104),(111,122),(114,155),(115,156),(118,103),(119,121),(135,62),(136,85),(139,86),(140,87),(141,56),(142,113),(143,114),(241,26),(242,17),(244,27),(245,21),(246,19),(247,15),(248,24),(251,64),(252,55),(253,53),(254,52),(255,44),(256,50),(259,91),(260,33),(262,79),(263,83),(267,119),(268,93),(269,65),(319,28),(375,20),(378,7),(382,54),(394,92)]

def glOf (m:Int) (t5:TypeId) (p5:Value) (t6:TypeId) (p6:Value):List (Nat×Nat×Option Value):=oi 2 .u64 Lib.pow10Tab++[(1,0,some (.int .i64 m)),(3,0,some (.iface t5 p5)),(4,0,some (.iface t6 p6))]

/-- Rounds of ranges over functions. -/
def yls:List (Nat×IYl):=[(393,qr),(395,qt)]
noncomputable abbrev fiL (gl:List (Nat×Nat×Option Value)):FI:=fiY Tryz.prog (fiG links gl) yls

theorem ylsOk:∀y Y,yls.lookup y=some Y->pg y=some (.yl Y):=by
 intro y Y h;unfold yls at h;simp only[List.lookup] at h;split at h
 ·rename_i e;cases h;rw[eq_of_beq e];rfl
 ·split at h
  ·rename_i e;cases h;rw[eq_of_beq e];rfl
  ·cases h

theorem linked (gl:List (Nat×Nat×Option Value)):(links.all λx=>jM Tryz.prog (fiL gl) pg x.1 x.2)=true:=by kernel_rfl

theorem link (m:Int) (t5:TypeId) (p5:Value) (t6:TypeId) (p6:Value):gq Tryz.prog (fiL (glOf m t5 p5 t6 p6)) pg:=by
 have hpow : ∀ w, fK (fiL (glOf m t5 p5 t6 p6)) w → Lib.TabIs Tryz.prog w "internal/strconv.uint64pow10" .u64 Lib.pow10Tab := fun w h => Bo (g := 2) (by kernel_rfl) (by decide) (fun x hx => bZ.2 (.inl hx)) h
 have hmax:∀w,fK (fiL (glOf m t5 p5 t6 p6)) w->∃m,w.cell? ⟨1,0,none⟩=some (.int .i64 m):=λw h=>⟨m,h (1,0,some (.int .i64 m)) (bZ.2 (.inr (by simp)))⟩
 have hE5:∀w,fK (fiL (glOf m t5 p5 t6 p6)) w->∃te pe,w.cell? ⟨3,0,none⟩=some (.iface te pe):=λw h=>⟨t5,p5,h (3,0,some (.iface t5 p5)) (bZ.2 (.inr (by simp)))⟩
 have hE6:∀w,fK (fiL (glOf m t5 p5 t6 p6)) w->∃te pe,w.cell? ⟨4,0,none⟩=some (.iface te pe):=λw h=>⟨t6,p6,h (4,0,some (.iface t6 p6)) (bZ.2 (.inr (by simp)))⟩
 refine xf ylsOk (linked _) ?_;intro f F L hm hp;have h:∀x∈links,rh pg x.1=true->x=(119,121)\/x=(255,44)\/x=(260,33)\/x=(262,79)\/x=(263,83):=by decide +kernel
 rcases h (f,F) hm (by simp[rh,hp]) with hx|hx|hx|hx|hx
 ·cases hx
  have e:L=gV 1 8:=by have e2:pg 119=some (.lib (gV 1 8)):=rfl;rw[e2] at hp;cases hp;rfl
  subst e;exact λvs gh r gh' h _=>Bz (by decide +kernel) vs gh r gh' h
 ·cases hx
  have e:L=libCut:=by have e2:pg 255=some (.lib (libCut)):=rfl;rw[e2] at hp;cases hp;rfl
  subst e;exact λvs gh r gh' h _=>Bq (ρ:=laysCut_ren) laysCut hmax vs gh r gh' h
 ·cases hx
  have e:L=libItoa:=by have e2:pg 260=some (.lib (libItoa)):=rfl;rw[e2] at hp;cases hp;rfl
  subst e;exact λvs gh r gh' h _=>Bp (ρ:=laysItoa_ren) laysItoa hpow vs gh r gh' h
 ·cases hx
  have e:L=libSplit:=by have e2:pg 262=some (.lib (libSplit)):=rfl;rw[e2] at hp;cases hp;rfl
  subst e;exact λvs gh r gh' h _=>Br (ρ:=laysSplit_ren) laysSplit (by kernel_rfl) hmax vs gh r gh' h
 ·cases hx
  have e:L=libAtoi:=by have e2:pg 263=some (.lib (libAtoi)):=rfl;rw[e2] at hp;cases hp;rfl
  subst e;exact λvs gh r gh' h _=>Bs (ρ:=laysAtoi_ren) laysAtoi hE5 hE6 vs gh r gh' h

theorem own:ownKnob Tryz.prog.godebug=none:=by kernel_rfl
theorem laidOut:laidOutB Tryz.prog=true:=by kernel_rfl


noncomputable def laidWorld (os:Os):World:={World.doorLaid Tryz.prog 77 os with heap:=(World.doorLaid Tryz.prog 77 os).heap.modify 7 fun
 | .cells _ t fz=> .cells ((Pinned.utf8FirstZ.map λ(z:Nat)=>Value.int .u8 (z:Int)).toArray) t fz
 |o=>o }

theorem laid_met (os:Os):laidMetH Tryz.prog Rows.exploreFindsUptoRow.laid ((laidWorld os).forCall (λ_ _=>0) ⟨#[],#[.agg #[.slice none 0 0,.slice none 0 0,.slice none 0 0,.slice none 0 0,.slice none 0 0],.agg #[.slice none 0 0,.slice none 0 0]],[]⟩).memory:=
 laidMet_of_run3 8 (by kernel_rfl) (by kernel_rfl) (by kernel_rfl)

theorem reads (os:Os) {H:Type} (enc:TypeId×Value->H):DataW.whole enc Tryz.prog ((laidWorld os).forCall (λ_ _=>0) ⟨#[],#[.agg #[.slice none 0 0,.slice none 0 0,.slice none 0 0,.slice none 0 0,.slice none 0 0],.agg #[.slice none 0 0,.slice none 0 0]],[]⟩).memory Tryz.f7.params.toList Rows.exploreFindsSpec.vars false #[.agg #[.slice none 0 0,.slice none 0 0,.slice none 0 0,.slice none 0 0,.slice none 0 0],.agg #[.slice none 0 0,.slice none 0 0]].toList 8=some ([.agg [.nil,.nil,.nil,.nil,.nil],.agg [.nil,.nil]],[],[]):=by kernel_rfl

theorem lifted (os:Os) (started:os.Started) (H:Type) (enc:TypeId×Value->H) (F:Stop.Interp) :
  ReturnsInHanded {} Tryz.checked os 7 .any ((Rows.OpenSpec.upto Rows.exploreFindsSpec).preRow enc Tryz.prog Tryz.f7 Rows.exploreFindsUptoRow.domain false Rows.exploreFindsUptoRow.laid) (((Rows.OpenSpec.upto Rows.exploreFindsSpec).at F).post enc Tryz.prog Tryz.f7 false true false false):=by
 refine returnsInHanded_of_row (C:=Tryz.checked) (s:=(Rows.OpenSpec.upto Rows.exploreFindsSpec)) own started (by kernel_rfl) Tryz.func7
  (witness_row_atRef (enc:=enc) (C:=Tryz.checked) false (laidWorld os) #[.agg #[.slice none 0 0,.slice none 0 0,.slice none 0 0,.slice none 0 0,.slice none 0 0],.agg #[.slice none 0 0,.slice none 0 0]] rfl (by kernel_rfl) (by kernel_rfl) (by kernel_rfl)
   (OpenSpec.preRow_of_cond 8 (reads os enc) (by kernel_rfl) (λk hk=>by cases hk;kernel_rfl) (by kernel_rfl) (laid_met os))) ?_
 intro W base args ds gs before hval hW hcnd hk0 hwt hL hsh _;have hkk:=hk0 _ rfl;have hW':=hW;obtain⟨p,q,hA,hV,rfl,hfz,hnd⟩:=hW;have hA0:DataW.TrodAll enc Tryz.prog W 0 (λ_=>true) true Tryz.f7.params.toList args.toList ds p:=hA;obtain⟨rfl,rfl⟩:=trodVars_none hV;have hw:(DataW.weightsEach Tryz.prog Tryz.f7.params.toList ds).all (· <=reachBytes)=true:=by
  have h:(DataW.weightsEach Tryz.prog (Tryz.f7.params.toList++[]) (ds++[])).all (· <=reachBytes)=true:=hwt
  rwa [bH,bH] at h
 have hval2:∀(j:Nat) t v,Tryz.f7.params.toList[j]?=some t->args.toList[j]?=some v->Value.okWide Tryz.prog W .any base t v:=λj t v h1 h2=>hval j t v (by rw[<-Array.getElem?_toList];exact h1) (by rw[<-Array.getElem?_toList];exact h2)
 have hmet:laidMet Tryz.prog Rows.exploreFindsUptoRow.laid W:=hL;have ht : Lib.TabIs Tryz.prog W "internal/strconv.uint64pow10" .u64 Lib.pow10Tab := Bt (g := 2) hmet (by rw [← (show Rows.laid_internal_strconv_uint64pow10 = Lib.tabData .u64 Lib.pow10Tab by kernel_rfl)]; simp [Rows.exploreFindsUptoRow]) (by kernel_rfl) (by kernel_rfl) Tryz.underlying183 Tryz.underlying169 (by kernel_rfl) (by kernel_rfl)
 obtain⟨m,hm⟩:=cell_of_shapedOpen_int (g:=1) (zero:= #[Value.int .i64 0]) hsh (by decide +kernel) (by kernel_rfl) (by rfl) (by kernel_rfl) (by kernel_rfl) Tryz.underlying3;obtain ⟨t5, p5, hs5, hc5⟩ := t7 (g := 3) (nm := "*errors.errorString") hmet (show ("strconv.ErrSyntax", Rows.laid_strconv_ErrSyntax) ∈ Rows.exploreFindsUptoRow.laid by simp [Rows.exploreFindsUptoRow]) (by kernel_rfl) (by kernel_rfl) Tryz.underlying120
 obtain ⟨t6, p6, hs6, hc6⟩ := t7 (g := 4) (nm := "*errors.errorString") hmet (show ("strconv.ErrRange", Rows.laid_strconv_ErrRange) ∈ Rows.exploreFindsUptoRow.laid by simp [Rows.exploreFindsUptoRow]) (by kernel_rfl) (by kernel_rfl) Tryz.underlying120
 have hgl:∀x∈(fiL (glOf m t5 p5 t6 p6)).gl,x.1<W.heap.size/\W.cell? ⟨x.1,x.2.1,none⟩=x.2.2:=by
  intro x hx;rcases bZ.1 hx with hx|hx
  ·exact Bu ht (by kernel_rfl) (by decide) x hx
  ·simp only[List.mem_cons,List.not_mem_nil,or_false] at hx
   rcases hx with rfl|rfl|rfl
   ·exact⟨mC hm,hm⟩
   ·exact⟨hs5,hc5⟩
   ·exact⟨hs6,hc6⟩
 have hrun:=xh (enc:=enc) (P:=Tryz.prog) (fi:=fiL (glOf m t5 p5 t6 p6)) (pg:=pg) (f:=378) (F:=7) (n:=20) (by decide +kernel) (link m t5 p5 t6 p6) rfl (L:=tT) (by rw[Tryz.params7];with_unfolding_all rfl) Bk hA0 hval2 hw (BB hkk) hgl;have hA1:=hA0;rw[Tryz.params7] at hA1;obtain⟨v0,vs0,d0,ds0,p0,q0,hargs,rfl,rfl,h0,r0⟩:=trodAll_cons hA1;obtain⟨v1,vs1,d1,ds1,p1,q1,rfl,rfl,rfl,h1,r1⟩:=trodAll_cons r0;obtain⟨rfl,rfl,rfl⟩:=trodAll_nil r1;obtain rfl:args= #[v0,v1]:=by cases args;simp_all
 refine hrun.mono λe W' ⟨he,bel⟩=>?_
 subst he;exact⟨_,rfl,_,_,_,[],_,[],hW',trodAll_mk1 (shut_bool Tryz.underlying4 _),qZ laidOut bel (by kernel_rfl) hA0,rfl,bel.frame _,λh=>by cases h⟩

theorem over:Rows.exploreFindsUptoRow.holds Tryz.pinned (Rows.OpenSpec.upto Rows.exploreFindsSpec):=
 OpenClaim.holds_of_cond 7 Tryz.f7 rfl rfl rfl rfl rfl rfl rfl ⟨rfl,rfl,rfl,rfl,rfl⟩ rfl rfl rfl rfl rfl (by kernel_rfl) Tryz.func7 (by kernel_rfl)
  (of_decide_eq_true (by kernel_rfl)) (by unfold Func.isWrapper;first|(rw[if_pos (by decide +kernel)];kernel_rfl)|(rw[if_neg (by decide +kernel)];exact⟨rfl,rfl⟩))
  (λos started H enc _ F=>by rw[OpenClaim.pre_eq_preRow];exact lifted os started H enc F)

theorem plain (f : FuncId) (fn : Func) (hf : Tryz.pinned.checked.prog.funcNamed "latchwork/latchworklaw.ExploreFinds" = some f) (hfn : Tryz.pinned.checked.prog.funcs[f]? = some fn) :
  true=Tryz.pinned.checked.prog.looks []/\∀(j:Nat) t,fn.params[j]?=some t->Tryz.pinned.checked.prog.wantsStandIn t=false:=by
 obtain rfl : f = 7 := cQ ((show Tryz.prog.funcNamed "latchwork/latchworklaw.ExploreFinds" = some 7 by kernel_rfl).symm.trans hf) |>.symm
 obtain rfl:fn=Tryz.f7:=(cQ (Tryz.func7.symm.trans hfn)).symm;refine⟨by kernel_rfl,λj t ht=>?_⟩;rw[Tryz.params7] at ht;have hall:∀t∈([26,40]:List TypeId),Tryz.prog.wantsStandIn t=false:=by decide +kernel
 exact hall t (by simpa using Array.mem_of_getElem? ht)
theorem proved:Rows.ExploreFindsUptoCardSaid:=
 Claim7.holds_tied_plain_at .later [] _ _ _ _ over (λ_ h=>by cases h) (by kernel_rfl) (λ_ h=>by cases h) exploreFindsUpto_row_tie rfl ⟨rfl,rfl⟩ (by kernel_rfl) rfl plain (by kernel_rfl)
#print axioms proved
end Go.Proofs.YtmodipglnngghacGreatDoor.exploreFindsDone
end