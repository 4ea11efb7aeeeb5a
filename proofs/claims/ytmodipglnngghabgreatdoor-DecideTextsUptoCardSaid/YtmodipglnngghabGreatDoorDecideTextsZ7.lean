/-
  DecideTexts: the given statement holds: the call answers true, and what it was handed reads as it did.
-/
import Derived.Test.YtmodipglnngghabGreatDoorDecideTextsP
import Derived.Test.YtmodipglnngghabGreatDoorDecideTextsR
import Derived.Test.YtmodipglnngghabGreatDoorDecideTextsT
import Derived.Test.YtmodipglnngghabGreatDoorDecideTextsU
import Derived.Test.YtmodipglnngghabGreatDoorDecideTextsX
import Derived.Test.YtmodipglnngghabGreatDoorDecideTextsY
import Derived.Test.YtmodipglnngghabGreatDoorDecideTextsZ6
import Derived.Test.YtmodipglnngghabGreatDoorRows
import Derived.KernelRfl
import Derived.Deep.QuietTactic
import Derived.BigQuiet
import Derived.Test.YtmodipglnngghabGreatDoorTie
import Derived.Test.YtmodipglnngghabGreatDoorCards
import Derived.Deep.DeepHandedRow
import Derived.Deep.DeepWitnessRowRef
import Derived.Deep.DeepLaidRun
import Derived.LaidMore
import Derived.RegionCalls
import Derived.Deep.RegionWith
import Derived.Laws.BytesString
import Derived.JoinedCond
import Derived.Deep.CondSized
import Derived.WalkKit
import Derived.ProofKit
import Derived.OpenShut
import Derived.ShutString
import Derived.ChangeOld
import Derived.Below
set_option linter.unusedVariables false
set_option linter.unusedSimpArgs false
set_option linter.unnecessarySimpa false

set_option maxRecDepth 100000
set_option maxHeartbeats 4000000
section
namespace Go.Proofs.YtmodipglnngghabGreatDoor.decideTextsDone
open Go Go.Lw Go.ChangeShapes Go.WideShapes Go.RowKit
set_option maxRecDepth 100000

section
open _root_.Go.Proofs.Tryz
theorem tk {α:Type} {a:Option α} {b c:α} (h:a=some b) (e:b=c):a=some c:=h.trans (congrArg some e)

def laysItoa_ren:Go.Shelf.Ren:=⟨fun|171=>20|243=>44|246=>72|283=>121|284=>122|285=>123|286=>124|129=>156|317=>155|318=>157|319=>158|320=>159|337=>189|338=>190|n=>n,fun|3=>3|9=>9|2=>2|4=>4|171=>185|0=>0|53=>186|37=>71|5=>5|173=>189|212=>225|51=>226|20=>20|213=>227|46=>216|232=>260|233=>261|n=>n,fun|17=>2|18=>5|19=>6|n=>n⟩
theorem laysItoa:Go.Proofs.LaysM.n171 prog laysItoa_ren:={
 mixed:=by kernel_rfl,f129:=tk func156 (by kernel_rfl),f171:=tk func20 (by kernel_rfl),f243:=tk func44 (by kernel_rfl),f246:=tk func72 (by kernel_rfl),f283:=tk func121 (by kernel_rfl),f284:=tk func122 (by kernel_rfl),f285:=tk func123 (by kernel_rfl),f286:=tk func124 (by kernel_rfl),f317:=tk func155 (by kernel_rfl),f318:=tk func157 (by kernel_rfl),f319:=tk func158 (by kernel_rfl),f320:=tk func159 (by kernel_rfl),f337:=tk func189 (by kernel_rfl),f338:=tk func190 (by kernel_rfl),t0:=underlying0,a0:=isAgg0,z0:=sizeOf0,v0:=zeroValue0,t2:=underlying2,
 a2:=isAgg2,z2:=sizeOf2,v2:=zeroValue2,t3:=underlying3,a3:=isAgg3,z3:=sizeOf3,v3:=zeroValue3,t4:=underlying4,a4:=isAgg4,z4:=sizeOf4,v4:=zeroValue4,t5:=underlying5,a5:=isAgg5,z5:=sizeOf5,v5:=zeroValue5,t9:=underlying9,a9:=isAgg9,z9:=sizeOf9,v9:=zeroValue9,t20:=underlying20,a20:=isAgg20,z20:=sizeOf20,v20:=zeroValue20,t37:=underlying71,a37:=isAgg71,z37:=sizeOf71,v37:=zeroValue71,t46:=underlying216,a46:=isAgg216,z46:=sizeOf216,v46:=zeroValue216,t51:=underlying226,
 a51:=isAgg226,z51:=sizeOf226,v51:=zeroValue226,t53:=underlying186,a53:=isAgg186,z53:=sizeOf186,v53:=zeroValue186,t171:=underlying185,a171:=isAgg185,z171:=sizeOf185,v171:=zeroValue185,t173:=underlying189,a173:=isAgg189,z173:=sizeOf189,v173:=zeroValue189,t212:=underlying225,a212:=isAgg225,z212:=sizeOf225,v212:=zeroValue225,t213:=underlying227,a213:=isAgg227,z213:=sizeOf227,t232:=underlying260,a232:=isAgg260,z232:=sizeOf260,v232:=zeroValue260,t233:=underlying261,a233:=isAgg261,
 z233:=sizeOf261,v233:=zeroValue261,g17:=by kernel_rfl,g18:=by kernel_rfl,g19:=by kernel_rfl,i0:=by kernel_rfl,i2:=by kernel_rfl,i3:=by kernel_rfl,i4:=by kernel_rfl,i5:=by kernel_rfl,i9:=by kernel_rfl,i20:=by kernel_rfl,i37:=by kernel_rfl,i46:=by kernel_rfl,i51:=by kernel_rfl,i53:=by kernel_rfl,i171:=by kernel_rfl,i173:=by kernel_rfl,i212:=by kernel_rfl,i232:=by kernel_rfl,i233:=by kernel_rfl,m17:=by kernel_rfl,m18:=by kernel_rfl,m19:=by kernel_rfl }
def laysAtoi_ren:Go.Shelf.Ren:=⟨fun|172=>70|244=>119|245=>120|247=>150|279=>151|280=>152|281=>153|282=>154|287=>186|316=>187|171=>20|205=>188|321=>201|322=>202|243=>44|246=>72|283=>121|284=>122|285=>123|286=>124|129=>156|317=>155|318=>157|319=>158|320=>159|337=>189|338=>190|n=>n,fun|9=>9|3=>3|75=>126|76=>127|4=>4|5=>5|167=>218|37=>71|0=>0|85=>219|2=>2|168=>221|53=>186|175=>245|46=>216|210=>249|127=>130|145=>259|143=>257|21=>21|171=>185|173=>189|212=>225|51=>226|20=>20|213=>227|232=>260|233=>261|80=>83|n=>n,fun|15=>3|16=>4|17=>2|18=>5|19=>6|n=>n⟩
theorem laysAtoi:Go.Proofs.LaysC.n172 prog laysAtoi_ren:={laysItoa with
 f172:=tk func70 (by kernel_rfl),f205:=tk func188 (by kernel_rfl),f244:=tk func119 (by kernel_rfl),f245:=tk func120 (by kernel_rfl),f247:=tk func150 (by kernel_rfl),f279:=tk func151 (by kernel_rfl),f280:=tk func152 (by kernel_rfl),f281:=tk func153 (by kernel_rfl),f282:=tk func154 (by kernel_rfl),f287:=tk func186 (by kernel_rfl),f316:=tk func187 (by kernel_rfl),f321:=tk func201 (by kernel_rfl),f322:=tk func202 (by kernel_rfl),t21:=underlying21,a21:=isAgg21,z21:=sizeOf21,v21:=zeroValue21,t75:=underlying126,a75:=isAgg126,z75:=sizeOf126,v75:=zeroValue126,
 t76:=underlying127,a76:=isAgg127,z76:=sizeOf127,v76:=zeroValue127,t85:=underlying219,a85:=isAgg219,z85:=sizeOf219,v85:=zeroValue219,t127:=underlying130,a127:=isAgg130,z127:=sizeOf130,v127:=zeroValue130,t143:=underlying257,a143:=isAgg257,z143:=sizeOf257,v143:=zeroValue257,t145:=underlying259,a145:=isAgg259,z145:=sizeOf259,v145:=zeroValue259,t167:=underlying218,a167:=isAgg218,z167:=sizeOf218,v167:=zeroValue218,t168:=underlying221,a168:=isAgg221,z168:=sizeOf221,v168:=zeroValue221,
 t175:=underlying245,a175:=isAgg245,z175:=sizeOf245,v175:=zeroValue245,t210:=underlying249,a210:=isAgg249,z210:=sizeOf249,v210:=zeroValue249,g15:=by kernel_rfl,g16:=by kernel_rfl,t80:=underlying83,a80:=isAgg83,z80:=sizeOf83,v80:=zeroValue83,i21:=by kernel_rfl,i75:=by kernel_rfl,i76:=by kernel_rfl,i80:=by kernel_rfl,i85:=by kernel_rfl,i127:=by kernel_rfl,i143:=by kernel_rfl,i145:=by kernel_rfl,i167:=by kernel_rfl,i168:=by kernel_rfl,i175:=by kernel_rfl,i210:=by kernel_rfl,m15:=by kernel_rfl,m16:=by kernel_rfl,m19:=by kernel_rfl,c0:=by kernel_rfl,c2:=by kernel_rfl,
 c3:=by kernel_rfl,c4:=by kernel_rfl,c5:=by kernel_rfl,c9:=by kernel_rfl,c20:=by kernel_rfl,c21:=by kernel_rfl,c37:=by kernel_rfl,c46:=by kernel_rfl,c51:=by kernel_rfl,c53:=by kernel_rfl,c75:=by kernel_rfl,c76:=by kernel_rfl,c80:=by kernel_rfl,c85:=by kernel_rfl,c127:=by kernel_rfl,c143:=by kernel_rfl,c145:=by kernel_rfl,c167:=by kernel_rfl,c168:=by kernel_rfl,c171:=by kernel_rfl,c173:=by kernel_rfl,c175:=by kernel_rfl,c210:=by kernel_rfl,c212:=by kernel_rfl,c213:=by kernel_rfl,c232:=by kernel_rfl,c233:=by kernel_rfl }
def laysCut_ren:Go.Shelf.Ren:=⟨fun|145=>34|220=>63|219=>115|217=>143|225=>144|224=>145|267=>146|266=>181|314=>182|n=>n,fun|9=>9|4=>4|59=>87|3=>3|5=>5|46=>216|146=>241|51=>226|n=>n,fun|1=>1|n=>n⟩
theorem laysCut:Go.Proofs.Lays.n145 prog laysCut_ren:={laysItoa with
 f145:=tk func34 (by kernel_rfl),f217:=tk func143 (by kernel_rfl),f219:=tk func115 (by kernel_rfl),f220:=tk func63 (by kernel_rfl),f224:=tk func145 (by kernel_rfl),f225:=tk func144 (by kernel_rfl),f266:=tk func181 (by kernel_rfl),f267:=tk func146 (by kernel_rfl),f314:=tk func182 (by kernel_rfl),t59:=underlying87,a59:=isAgg87,z59:=sizeOf87,v59:=zeroValue87,t146:=underlying241,a146:=isAgg241,z146:=sizeOf241,v146:=zeroValue241,g1:=by kernel_rfl }
def laysSplit_ren:Go.Shelf.Ren:=⟨fun|146=>64|221=>116|268=>147|138=>148|143=>149|195=>183|197=>184|218=>185|219=>115|260=>200|217=>143|225=>144|224=>145|267=>146|266=>181|314=>182|n=>n,fun|9=>9|31=>62|3=>3|4=>4|0=>0|105=>243|21=>21|5=>5|46=>216|119=>270|139=>273|138=>272|146=>241|51=>226|n=>n,fun|1=>1|3=>7|4=>8|n=>n⟩
theorem laysSplit:Go.Proofs.Lays.n146 prog laysSplit_ren:={laysCut,laysAtoi with
 f138:=tk func148 (by kernel_rfl),f143:=tk func149 (by kernel_rfl),f146:=tk func64 (by kernel_rfl),f195:=tk func183 (by kernel_rfl),f197:=tk func184 (by kernel_rfl),f218:=tk func185 (by kernel_rfl),f221:=tk func116 (by kernel_rfl),f260:=tk func200 (by kernel_rfl),f268:=tk func147 (by kernel_rfl),t31:=underlying62,a31:=isAgg62,z31:=sizeOf62,v31:=zeroValue62,t105:=underlying243,a105:=isAgg243,z105:=sizeOf243,v105:=zeroValue243,t119:=underlying270,a119:=isAgg270,z119:=sizeOf270,t138:=underlying272,a138:=isAgg272,z138:=sizeOf272,
 v138:=zeroValue272,t139:=underlying273,a139:=isAgg273,z139:=sizeOf273,v139:=zeroValue273,g1:=by kernel_rfl,g3:=by kernel_rfl,g4:=by kernel_rfl }
def laysSort_ren:Go.Shelf.Ren:=⟨fun|189=>169|125=>194|257=>193|128=>213|129=>156|294=>204|295=>205|296=>206|297=>207|298=>208|299=>209|216=>210|300=>211|301=>212|328=>216|329=>217|330=>218|331=>219|332=>220|215=>221|343=>230|n=>n,fun|28=>28|3=>3|46=>216|0=>0|51=>226|53=>186|4=>4|183=>264|182=>263|131=>108|5=>5|9=>9|218=>274|222=>182|228=>284|229=>100|n=>n,fun|n=>n⟩
theorem laysSort:Go.Proofs.Lays.n189 prog laysSort_ren:={laysItoa with
 f125:=tk func194 (by kernel_rfl),f128:=tk func213 (by kernel_rfl),f189:=tk func169 (by kernel_rfl),f215:=tk func221 (by kernel_rfl),f216:=tk func210 (by kernel_rfl),f257:=tk func193 (by kernel_rfl),f294:=tk func204 (by kernel_rfl),f295:=tk func205 (by kernel_rfl),f296:=tk func206 (by kernel_rfl),f297:=tk func207 (by kernel_rfl),f298:=tk func208 (by kernel_rfl),f299:=tk func209 (by kernel_rfl),f300:=tk func211 (by kernel_rfl),f301:=tk func212 (by kernel_rfl),f328:=tk func216 (by kernel_rfl),f329:=tk func217 (by kernel_rfl),f330:=tk func218 (by kernel_rfl),f331:=tk func219 (by kernel_rfl),
 f332:=tk func220 (by kernel_rfl),f343:=tk func230 (by kernel_rfl),t28:=underlying28,a28:=isAgg28,z28:=sizeOf28,v28:=zeroValue28,t131:=underlying108,a131:=isAgg108,z131:=sizeOf108,v131:=zeroValue108,t182:=underlying263,a182:=isAgg263,z182:=sizeOf263,v182:=zeroValue263,t183:=underlying264,a183:=isAgg264,z183:=sizeOf264,v183:=zeroValue264,t218:=underlying274,a218:=isAgg274,z218:=sizeOf274,v218:=zeroValue274,t222:=underlying182,a222:=isAgg182,z222:=sizeOf182,v222:=zeroValue182,t228:=underlying284,
 a228:=isAgg284,z228:=sizeOf284,v228:=zeroValue284,t229:=underlying100,a229:=isAgg100,z229:=sizeOf100,v229:=zeroValue100 }
def laysCompact_ren:Go.Shelf.Ren:=⟨fun|20=>170|n=>n,fun|22=>28|3=>3|4=>4|0=>0|n=>n,fun|n=>n⟩
theorem laysCompact:Go.Proofs.Lays2.n20 prog laysCompact_ren:={laysItoa with
 f20:=tk func170 (by kernel_rfl),t22:=underlying28,a22:=isAgg28,z22:=sizeOf28,v22:=zeroValue28,i3:=by kernel_rfl }
def laysSortF_ren:Go.Shelf.Ren:=⟨fun|6=>198|15=>194|14=>215|28=>213|29=>156|20=>222|21=>223|22=>224|23=>225|24=>226|25=>227|26=>228|27=>229|46=>231|47=>217|48=>218|49=>232|50=>233|57=>234|n=>n,fun|22=>28|24=>3|25=>146|3=>3|39=>216|0=>0|53=>226|55=>186|4=>4|46=>264|45=>263|50=>108|5=>5|9=>9|66=>274|70=>182|76=>284|77=>100|n=>n,fun|n=>n⟩
theorem laysSortF:Go.Proofs.SlLaysF.n6 prog laysSortF_ren:={laysItoa,laysCompact with
 f6:=⟨f198.name,by decide,func198.trans (congrArg some (by kernel_rfl))⟩,f14:=⟨f215.name,by decide,func215.trans (congrArg some (by kernel_rfl))⟩,f15:=tk func194 (by kernel_rfl),f20:=⟨f222.name,by decide,func222.trans (congrArg some (by kernel_rfl))⟩,f21:=⟨f223.name,by decide,func223.trans (congrArg some (by kernel_rfl))⟩,f22:=⟨f224.name,by decide,func224.trans (congrArg some (by kernel_rfl))⟩,f23:=⟨f225.name,by decide,func225.trans (congrArg some (by kernel_rfl))⟩,f24:=⟨f226.name,by decide,func226.trans (congrArg some (by kernel_rfl))⟩,f25:=⟨f227.name,by decide,func227.trans (congrArg some (by kernel_rfl))⟩,
 f26:=⟨f228.name,by decide,func228.trans (congrArg some (by kernel_rfl))⟩,f27:=⟨f229.name,by decide,func229.trans (congrArg some (by kernel_rfl))⟩,f28:=tk func213 (by kernel_rfl),f29:=tk func156 (by kernel_rfl),f46:=⟨f231.name,by decide,func231.trans (congrArg some (by kernel_rfl))⟩,f47:=tk func217 (by kernel_rfl),f48:=tk func218 (by kernel_rfl),f49:=⟨f232.name,by decide,func232.trans (congrArg some (by kernel_rfl))⟩,f50:=⟨f233.name,by decide,func233.trans (congrArg some (by kernel_rfl))⟩,f57:=⟨f234.name,by decide,func234.trans (congrArg some (by kernel_rfl))⟩,a24:=isAgg3,
 z24:=sizeOf3,t25:=underlying146,a25:=isAgg146,z25:=sizeOf146,v25:=zeroValue146,t39:=underlying216,a39:=isAgg216,z39:=sizeOf216,v39:=zeroValue216,t45:=underlying263,a45:=isAgg263,z45:=sizeOf263,v45:=zeroValue263,t46:=underlying264,a46:=isAgg264,z46:=sizeOf264,v46:=zeroValue264,t50:=underlying108,a50:=isAgg108,z50:=sizeOf108,v50:=zeroValue108,t53:=underlying226,a53:=isAgg226,z53:=sizeOf226,v53:=zeroValue226,t55:=underlying186,a55:=isAgg186,z55:=sizeOf186,v55:=zeroValue186,
 t66:=underlying274,a66:=isAgg274,z66:=sizeOf274,v66:=zeroValue274,t70:=underlying182,a70:=isAgg182,z70:=sizeOf182,v70:=zeroValue182,t76:=underlying284,a76:=isAgg284,z76:=sizeOf284,v76:=zeroValue284,t77:=underlying100,a77:=isAgg100,z77:=sizeOf100,v77:=zeroValue100 }
end

theorem abs_walk (n:Int) (w:World) (h0: -9223372036854775807<=n) (h1:n<=9223372036854775807):Calls Tryz.prog 196 #[.int .i64 n] w λe w'=>e= .returned (.int .i64 (n.natAbs:Int))/\w'=w:=by
 have hw:IntKind.i64.wrap (-n)= -n:=aq (by omega) (by omega)
 go_enter Tryz.func196,Tryz.ntmps196
 go_wp2_with fail
 all_goals (try go_ret)
 all_goals
  refine⟨?_,rfl⟩
  show Ending.returned (Value.int .i64 _)=Ending.returned (Value.int .i64 _)
  congr 2
  omega

theorem cmp_walk:CZ Tryz.prog 199:=by
 intro x y lx ly bc bg bl N cap w hx hy h0 h1 h2 h3 hxN hyN hlx hly;have c1:=λw=>abs_walk x w (by omega) (by omega)
 have c2:=λw=>abs_walk y w (by omega) (by omega)
 have e1:IntKind.i64.wrap (ly-lx)=ly-lx:=aq (by omega) (by omega);have a1:(y.natAbs:Int).toNat=y.natAbs:=Int.toNat_natCast _;have a2:(x.natAbs:Int).toNat=x.natAbs:=Int.toNat_natCast _
 go_enter Tryz.func199,Tryz.ntmps199
 go_wp2
 go_quiet (first|(go_at_call 196;exact Calls.quiet_of_same (c1 _))|(go_at_call 196;exact Calls.quiet_of_same (c2 _)))
 go_wp2
 go_ret
 exact⟨rfl,nq,rfl⟩


/-- The machine's number of a function, and the program's. -/
def links:List (Nat×Nat):=[(22,107),(23,103),(26,26),(27,102),(36,27),(38,28),(39,55),(46,37),(48,46),(49,79),(50,51),(53,163),(54,167),(55,132),(59,162),(61,113),(62,105),(63,60),(64,140),(65,71),(66,95),(72,52),(73,53),(74,54),(75,12),(76,56),(77,45),(78,57),(79,58),(80,59),(81,30),(83,127),(86,109),(87,74),(88,126),(90,192),(91,165),(94,191),(96,131),(101,43),(102,104),(103,106),(104,96),(105,73),(106,108),(107,92),(108,110),(109,112),(111,141),(113,203),(114,160),(115,161),(118,111),(119,130),(121,127),(135,42),(136,68),(139,48),(140,69),(141,40),(142,118),(143,94),(161,169),(162,170),(164,100),(169,136),(170,137),(171,171),(172,109),(173,173),(174,174),(175,175),(176,176),(177,177),(178,178),(179,179),(180,180),(184,172),(187,196),(188,197),(189,199),(190,198),(191,214),(208,141),(209,195),(217,21),(218,47),(219,75),(220,77),(221,76),(222,78),(223,80),(224,81),(225,82),(226,83),(227,84),(228,86),(229,85),(230,87),(231,88),(232,89),(233,90),(234,91),(235,93),(236,125),(237,128),(238,129),(240,4),(242,6),(243,10),(245,16),(246,11),(247,17),(248,18),(249,19),(250,22),(252,39),(253,38),(254,29),(255,34),(256,41),(257,49),(258,50),(260,20),(262,64),(263,70),(264,98),(265,97),(266,101),(275,99),(276,133),(277,134),(278,135),(279,138),(280,139),(291,164),(292,166),(293,168),(346,5),(347,13),(348,14),(349,15),(352,31),(353,35),(354,36),(356,32),(357,61),(358,62),(359,33),(360,65),(361,66),(362,67),(363,9),(365,117),(370,8),(379,24),(380,23),(381,25),(392,77),(396,3),(397,7)]

/-! strings.Builder: what its code does at this program. -/
/-- The types in whose blocks a builder may lie. -/
def bldTs:List TypeId:=[77,79]
theorem bldLies:∀T∈bldTs,liesAt Tryz.prog Tryz.prog.depth T (2/Tryz.prog.cellsOf T) 0 77 1=true:=by intro T hT;simp only[bldTs,List.mem_cons,List.not_mem_nil,or_false] at hT;rcases hT with rfl|rfl<;>decide +kernel
theorem bldNe:∀T∈bldTs,T≠5:=by decide
theorem bldSize:(Tryz.prog.info? 77).map (·.size)=some 2:=by kernel_rfl
theorem bldByte:(Tryz.prog.info? 5).map (λi=>(i.zero,i.size,i.bytes))=some (some (.int .u8 0),1,1):=by kernel_rfl

theorem check_used (b:Nat) (w:World) (h0:w.cell? ⟨b,0,none⟩=some (.pointer (some ⟨b,0,none⟩))):Calls Tryz.prog 114 #[.pointer (some ⟨b,0,none⟩)] w λe w'=>e= .returned (.tuple #[])/\w'=w:=by
 obtain⟨j,hj,_⟩:=aE.1 bldSize
 go_enter Tryz.func114,Tryz.ntmps114
 go_wp2
 rw[Lib.run_neq_ptr_same w _ Tryz.underlying75 hj]
 go_wp2
 go_end0
 exact⟨rfl,rfl⟩

theorem check_new {T:TypeId} (hT:T∈bldTs) (b:Nat) (w:World) (h0:w.cell? ⟨b,0,none⟩=some (.pointer none)) (hsh:w.shape? b=some (T,2)) (hfz:w.frozen? ⟨b,0,none⟩=false) :
  Calls Tryz.prog 114 #[.pointer (some ⟨b,0,none⟩)] w λe w'=>e= .returned (.tuple #[])/\w'=w.setCell ⟨b,0,none⟩ (.pointer (some ⟨b,0,none⟩)):=by
 obtain⟨j,hj,hjs⟩:=aE.1 bldSize
 go_enter Tryz.func114,Tryz.ntmps114
 go_wp2
 rw[Lib.run_to_unsafe w ⟨b,0,none⟩ Tryz.underlying75 Tryz.underlying213 hj (by rw[hjs];decide) hsh (Nat.zero_lt_succ 1)];simp only[Result.andThen];rw[Oper.upon_value]
 go_wp2
 rw[run_callFunc_extern Tryz.func142 (by kernel_rfl) (by kernel_rfl) (by kernel_rfl) (e:=Extern.AbiNoEscape.same) (by kernel_rfl)];rw[Lib.run_noEscape];simp only[Result.andThen];rw[Oper.upon_value]
 go_wp2
 rw[Lib.run_from_unsafe w ⟨b,0,none⟩ Tryz.underlying213 Tryz.underlying75 hj hsh (bldLies T hT)];simp only[Result.andThen];rw[Oper.upon_value]
 go_wp2
 go_end0
 exact⟨rfl,rfl⟩

theorem check_any {T:TypeId} (hT:T∈bldTs) {b:Nat} {p v:Value} {w:World} (hb:w.heap[b]?=some (.cells #[p,v] T (0,0))) (hp:p= .pointer none\/p= .pointer (some ⟨b,0,none⟩)) :
  Calls Tryz.prog 114 #[.pointer (some ⟨b,0,none⟩)] w λe w'=>e= .returned (.tuple #[])/\w'.heap[b]?=some (.cells #[.pointer (some ⟨b,0,none⟩),v] T (0,0))/\Go.Lw.Rest w w' b none/\w'.heap.size<=w.heap.size/\w.heap.size<=w'.heap.size:=by
 rcases hp with rfl|rfl
 ·refine (check_new hT b w (by simp[World.cell?,hb]) (by simp[World.shape?,hb]) (by simp[World.frozen?,hb])).mono ?_
  rintro e w' ⟨rfl,rfl⟩;refine⟨rfl,by simp[World.setCell,Array.getElem?_modify,hb],⟨rfl,rfl,rfl,by simp[World.setCell],λk _ hk _=>pN hk⟩,by simp[World.setCell],by simp[World.setCell]⟩
 ·refine (check_used b w (by simp[World.cell?,hb])).mono ?_
  rintro e w' ⟨rfl,rfl⟩;exact⟨rfl,hb,⟨rfl,rfl,rfl,cU _,λ_ _ _ _=>rfl⟩,cU _,cU _⟩

theorem write_ok:Db Tryz.prog 61 5 bldTs:=by
 intro T hT b n p v xs s w hbat hs0 hlen;obtain⟨hb,hp,hown⟩:=hbat;have hne:v.ownBlock≠some b:=Lib.ownBlock_ne hown hb (bldNe T hT);obtain⟨i0,hi,hz0,hz1,hz2⟩:=info_parts bldByte
 go_enter Tryz.func61,Tryz.ntmps61
 go_wp2_with (go_at_call 114;refine (check_any hT hb hp).mono ?_)
 rintro e w1 ⟨rfl,hb1,r1,s1⟩;have hown1:w1.ownsRow 0 5 1 v n xs:=by
  rcases hown.2 with ⟨rfl,h0⟩|⟨g,cap,cur,rfl,h0,hg,hr⟩
  ·exact⟨hown.1,.inl ⟨rfl,h0⟩⟩
  ·exact⟨hown.1,.inr ⟨g,cap,cur,rfl,h0,(r1.block g (mm hg) (λe=>hne (by simp[Value.ownBlock,e])) (by simp)).trans hg,hr⟩⟩
 have c0:w1.cell? ⟨b,0,none⟩=some (.pointer (some ⟨b,0,none⟩)):=by rw[Lib.cell_of_heap hb1];rfl
 have c1:w1.cell? ⟨b,1,none⟩=some v:=by rw[Lib.cell_of_heap hb1];rfl
 go_wp2_with (at_builtin;refine NA rfl _ _ 71 9 rfl Tryz.underlying71 Tryz.underlying9 hi hz0 hz1 hz2 _ _ _ rfl hown1 s rfl hs0 hlen ?_)
 intro v' w2 hown' hgrow hv';have hlt:b<w1.heap.size:=mm hb1;have hb2:w2.heap[b]?=some (.cells #[.pointer (some ⟨b,0,none⟩),v] T (0,0)):=by rw[hgrow.block b hlt (λe=>hne e.symm)];exact hb1
 have d0:w2.cell? ⟨b,0,none⟩=some (.pointer (some ⟨b,0,none⟩)):=by rw[Lib.cell_of_heap hb2];rfl
 have d1:w2.cell? ⟨b,1,none⟩=some v:=by rw[Lib.cell_of_heap hb2];rfl
 have f1:w2.frozen? ⟨b,1,none⟩=false:=Lib.frozen_of_heap hb2 1;have hne':v'.ownBlock≠some b:=Lib.ownBlock_ne hown' hb2 (bldNe T hT);have hv2:v'.ownBlock=v.ownBlock\/∃g,v'.ownBlock=some g/\w.heap.size<=g:=by
  rcases hv' with h|h
  ·exact .inl h
  ·exact .inr ⟨_,h,s1.2⟩
 clear hv';obtain⟨ao,n',cap,rfl⟩:∃ao n' cap,v'= .slice ao n' cap:=by
  rcases hown'.2 with ⟨hv,_⟩|⟨g,cap,cur,hv,_⟩
  ·exact⟨_,_,_,hv⟩
  ·exact⟨_,_,_,hv⟩
 go_wp2
 go_ret2
 refine⟨rfl,.slice ao n' cap,?_,?_,hv2,⟨?_,?_,?_,?_,?_⟩⟩
 ·simp[World.setCell,Array.getElem?_modify,hb2]
 ·rcases hown'.2 with ⟨hv,h0⟩|⟨g,cap',cur,hv,h0,hg,hr⟩
  ·exact⟨hown'.1,.inl ⟨hv,h0⟩⟩
  ·refine⟨hown'.1,.inr ⟨g,cap',cur,hv,h0,?_,hr⟩⟩
   rw[pN (λe=>hne' (by rw[hv];simp[Value.ownBlock,e]))];exact hg
 ·exact hgrow.os.trans r1.os
 ·exact hgrow.tape.trans r1.tape
 ·exact hgrow.output.trans r1.output
 ·have:=hgrow.size;have:=r1.size;simp[World.setCell];omega
 ·intro k hk hkb hko
  rw[pN hkb,hgrow.block k (by have:=r1.size;omega) hko];exact r1.block k hk hkb (by simp)

theorem read_ok:Dd Tryz.prog 33 5:=by
 constructor
 ·intro T b p w hb
  have hUS:∀W q,(Builtin.unsafeString_ #[130,3] 9 #[.pointer q,.int .i64 0]).run Tryz.prog W= .ok (.string .empty) W:=λW q=>Lib.run_unsafeString_none W _ _ _ q
  have c1:w.drew.cell? ⟨b,1,none⟩=some (.slice none 0 0):=by have:w.drew.heap[b]?=some (.cells #[p,.slice none 0 0] T (0,0)):=hb;rw[Lib.cell_of_heap this];rfl
  have hSD:(Builtin.unsafeSliceData_ #[71] 130 #[.slice none 0 0]).run Tryz.prog w.drew= .ok (.pointer none) w.drew:=rfl
  go_enter Tryz.func33,Tryz.ntmps33
  go_wp2
  go_region
  all_goals (go_wp2;go_ret;exact⟨rfl,rfl⟩)
 ·intro T b g cap p l cur w hb hg h0 hnc hcm hcs hcell
  have hl0:l.length≠0:=by simpa using h0
  have c1:w.drew.cell? ⟨b,1,none⟩=some (.slice (some ⟨g,0,none⟩) l.length cap):=by have:w.drew.heap[b]?=some (.cells #[p,.slice (some ⟨g,0,none⟩) l.length cap] T (0,0)):=hb;rw[Lib.cell_of_heap this];rfl
  have hSD:(Builtin.unsafeSliceData_ #[71] 130 #[.slice (some ⟨g,0,none⟩) l.length cap]).run Tryz.prog w.drew= .ok (.pointer (some ⟨g,0,none⟩)) w.drew:=
   Lib.run_unsafeSliceData_row _ _ _ _ _ _ (by omega)
  have hUS:(Builtin.unsafeString_ #[130,3] 9 #[.pointer (some ⟨g,0,none⟩),.int .i64 l.length]).run Tryz.prog w.drew= .ok (.string ⟨l.toArray⟩) (w.drew.freeze ⟨g,0,none⟩ l.length):=
   Lib.run_unsafeString_row w.drew 130 3 9 5 Tryz.underlying130 (by kernel_rfl) g cur.size (by have hg':w.drew.heap[g]?=some (.cells cur 5 (0,0)):=hg;simp[World.shape?,hg']) l h0 (by omega) (by unfold maxLen at hcm;omega) hcell
  go_enter Tryz.func33,Tryz.ntmps33
  go_wp2
  go_region
  all_goals (go_wp2;go_ret;exact⟨rfl,rfl⟩)
theorem byte_ok:Dc Tryz.prog 62 5 bldTs:=by
 intro T hT b n p v xs c w hbat hlen;obtain⟨hb,hp,hown⟩:=hbat;have hne:v.ownBlock≠some b:=Lib.ownBlock_ne hown hb (bldNe T hT);obtain⟨i0,hi,hz0,hz1,hz2⟩:=info_parts bldByte
 go_enter Tryz.func62,Tryz.ntmps62
 go_wp2_with (go_at_call 114;refine (check_any hT hb hp).mono ?_)
 rintro e w1 ⟨rfl,hb1,r1,s1⟩;have hown1:∀o:Obj,(w1.alloc o).ownsRow 0 5 1 v n xs:=λo=>by
  rcases hown.2 with ⟨rfl,h0⟩|⟨g,cap,cur,rfl,h0,hg,hr⟩
  ·exact⟨hown.1,.inl ⟨rfl,h0⟩⟩
  ·refine⟨hown.1,.inr ⟨g,cap,cur,rfl,h0,?_,hr⟩⟩
   rw[Lib.alloc_old w1 _ g (by have:=mm hg;omega)];exact (r1.block g (mm hg) (λe=>hne (by simp[Value.ownBlock,e])) (by simp)).trans hg
 have c0:w1.cell? ⟨b,0,none⟩=some (.pointer (some ⟨b,0,none⟩)):=by rw[Lib.cell_of_heap hb1];rfl
 have c1:w1.cell? ⟨b,1,none⟩=some v:=by rw[Lib.cell_of_heap hb1];rfl
 go_wp2_with (at_builtin;refine NI rfl _ _ 71 rfl Tryz.underlying71 hi hz0 hz1 hz2 _ _ _ rfl (hown1 _) ⟨w1.heap.size,0,none⟩ 1 1 [.int .u8 c] rfl rfl ?c1 ?c2 (by decide) hlen ?_)
 case c1=>
  intro j u hj
  match j,hj with
  |0,hj=>simp at hj;subst hj;simp[Addr.add]
 case c2=>intro u hu;simp at hu;subst hu;rfl
 intro v' w2 hown' hgrow hv';have hlt:b<w1.heap.size:=mm hb1;have hb2:w2.heap[b]?=some (.cells #[.pointer (some ⟨b,0,none⟩),v] T (0,0)):=by rw[hgrow.block b (by simp;omega) (λe=>hne e.symm),Lib.alloc_old w1 _ b hlt];exact hb1
 have d0:w2.cell? ⟨b,0,none⟩=some (.pointer (some ⟨b,0,none⟩)):=by rw[Lib.cell_of_heap hb2];rfl
 have d1:w2.cell? ⟨b,1,none⟩=some v:=by rw[Lib.cell_of_heap hb2];rfl
 have f1:w2.frozen? ⟨b,1,none⟩=false:=Lib.frozen_of_heap hb2 1;have hne':v'.ownBlock≠some b:=Lib.ownBlock_ne hown' hb2 (bldNe T hT);obtain⟨g,cap,rfl⟩:∃g cap,v'= .slice (some ⟨g,0,none⟩) (n+1) cap:=by
  rcases hown'.2 with ⟨_,h0⟩|⟨g,cap,cur,hv,_⟩
  ·omega
  ·exact⟨g,cap,hv⟩
 have hsz:=hgrow.size;have hbk:=hgrow.block;simp only[size_alloc'] at hsz hbk hv'
 go_wp2
 go_ret
 refine⟨rfl,.slice (some ⟨g,0,none⟩) (n+1) cap,?_,?_,?_,⟨?_,?_,?_,?_,?_⟩⟩
 ·simp[World.setCell,Array.getElem?_modify,hb2]
 ·rcases hown'.2 with ⟨hv,h0⟩|⟨g,cap',cur,hv,h0,hg,hr⟩
  ·exact⟨hown'.1,.inl ⟨hv,h0⟩⟩
  ·refine⟨hown'.1,.inr ⟨g,cap',cur,hv,h0,?_,hr⟩⟩
   rw[pN (λe=>hne' (by rw[hv];simp[Value.ownBlock,e]))];exact hg
 ·rcases hv' with h|h
  ·exact .inl h
  ·exact .inr ⟨_,h,by omega⟩
 ·exact hgrow.os.trans r1.os
 ·exact hgrow.tape.trans r1.tape
 ·exact hgrow.output.trans r1.output
 ·have:=r1.size;simp[World.setCell];omega
 ·intro k hk hkb hko
  rw[pN hkb,hbk k (by omega) hko,Lib.alloc_old w1 _ k (by omega)];exact r1.block k hk hkb (by simp)


def Grw (w w':World):Prop:=w'.os=w.os/\w'.tape=w.tape/\w'.output=w.output/\w.heap.size<=w'.heap.size/\∀k,k<w.heap.size->w'.heap[k]?=w.heap[k]?

theorem Grw.refl (w:World):Grw w w:=⟨rfl,rfl,rfl,cU _,λ_ _=>rfl⟩
theorem Grw.trans {a b c:World} (h:Grw a b) (g:Grw b c):Grw a c:=
 ⟨g.1.trans h.1,g.2.1.trans h.2.1,g.2.2.1.trans h.2.2.1,cA h.2.2.2.1 g.2.2.2.1,λk hk=>(g.2.2.2.2 k (aO hk h.2.2.2.1)).trans (h.2.2.2.2 k hk)⟩
theorem Grw.drew {a b:World} (h:Grw a b):Grw a b.drew:=h
theorem Grw.drewN {a b:World} (h:Grw a b) (n:Nat):Grw a (b.drewN n):=h
theorem Grw.alloc {a b:World} (h:Grw a b) (o:Obj):Grw a (b.alloc o):=
 ⟨h.1,h.2.1,h.2.2.1,cA h.2.2.2.1 (by show b.heap.size<=(b.heap.push _).size;simp),λk hk=>by
  show (b.heap.push _)[k]?=_
  rw[Array.getElem?_push,if_neg (by have:=h.2.2.2.1;omega)];exact h.2.2.2.2 k hk⟩

theorem decD_size (u:Nat) (h:u<10^20):(bA (Lib.decDigits u)).size<=100:=by
 have e:(bA (Lib.decDigits u)).size=(Lib.decDigits u).length:=by simp[ByteArray.size]
 have:∀(k u:Nat),(ez k u).length<=k:=by
  intro k
  induction k with
  |zero=>intro u;exact cU _
  | succ k ih=>
   intro u;rw[ez];split
   ·simp
   ·have:=ih (u/10)
    simp;omega
 have h2:=this 20 u;rw[sr 20 u h (by decide)] at h2;omega

theorem alloc_cell0 (w:World) (v:Value) (t:TypeId):(w.alloc (.cells #[v] t)).cell? ⟨w.heap.size,0,none⟩=some v:=by
 have h:(w.alloc (.cells #[v] t)).heap[w.heap.size]?=some (.cells #[v] t):=by
  show (w.heap.push _)[w.heap.size]?=_
  simp
 simp only[World.cell?,h];rfl

theorem digits_one (n:Int) (w:World) (h0:0<=n) (h1:n<10):Calls Tryz.prog 9 #[.int .i64 n] w λe w'=>e= .returned (.string (bA [UInt8.ofNat (48+n.toNat)]))/\Grw w w':=by
 have kc:=run_convert_bytes_arg (P:=Tryz.prog) (w.alloc (.cells #[.int .u8 (48+n)] 5)) 71 5 Tryz.underlying71 Tryz.underlying5 w.heap.size 0 1 1 [48+n] rfl (λi hi=>by
  obtain rfl:i=0:=by omega
  exact alloc_cell0 w _ _) 9 Tryz.underlying9
 have es:strOfNums [48+n]=bA [UInt8.ofNat (48+n.toNat)]:=by
  have:(48+n).toNat=48+n.toNat:=by omega
  simp[strOfNums,this]
 rw[es] at kc;obtain⟨S,hS⟩:∃S,bA [UInt8.ofNat (48+n.toNat)]=S:=⟨_,rfl⟩
 rw[hS] at kc ⊢;clear hS es
 go_enter Tryz.func9,Tryz.ntmps9
 go_wp2_with fail
 go_ret
 exact⟨rfl,(Grw.refl w).alloc _⟩

theorem digits_nat (k:Nat):∀(n:Int) (w:World),0<=n->n.toNat<10^(k+1)->n<=9223372036854775807->Calls Tryz.prog 9 #[.int .i64 n] w λe w'=>e= .returned (.string (bA (Lib.decDigits n.toNat)))/\Grw w w':=by
 induction k with
 |zero=>
  intro n w h0 h1 _;have h1:n<10:=by omega
  refine (digits_one n w h0 h1).mono ?_;rintro e w' ⟨rfl,g⟩;refine⟨?_,g⟩;rw[Lib.decDigits,dif_pos (by omega)]
 | succ k ih=>
  intro n w h0 h1 h2;by_cases hn:n<10
  ·refine (digits_one n w h0 hn).mono ?_
   rintro e w' ⟨rfl,g⟩;refine⟨?_,g⟩;rw[Lib.decDigits,dif_pos (by omega)]
  ·have c1:=λw=>ih (n/10) w (by omega) (by rw[Nat.pow_succ] at h1;omega) (by omega)
   have c2:=λw=>digits_one (n%10) w (by omega) (by omega)
   have hd:Lib.decDigits n.toNat=Lib.decDigits (n/10).toNat++[UInt8.ofNat (48+(n%10).toNat)]:=by
    rw[Lib.decDigits,dif_neg (by omega)]
    congr 3<;>omega
   have e3:bA (Lib.decDigits n.toNat)=bA (Lib.decDigits (n/10).toNat)++bA [UInt8.ofNat (48+(n%10).toNat)]:=by rw[hd];apply ByteArray.ext;simp
   have l1:=decD_size (n/10).toNat (by omega);have l2:(bA [UInt8.ofNat (48+(n%10).toNat)]).size=1:=rfl;rw[e3];clear ih hd e3;generalize bA (Lib.decDigits (n/10).toNat)=S1 at *;generalize bA [UInt8.ofNat (48+(n%10).toNat)]=S2 at *
   go_enter Tryz.func9,Tryz.ntmps9
   go_wp2_with (go_at_call 9;first|(with_reducible refine (c1 _).mono ?_;rintro e w1 ⟨rfl,g⟩)|(with_reducible refine (c2 _).mono ?_;rintro e w2 ⟨rfl,g2⟩))
   go_ret
   exact⟨rfl,g.trans g2⟩

theorem digits_neg1 (n:Int) (w:World) (h0:n<0) (h1: -10<n):Calls Tryz.prog 9 #[.int .i64 n] w λe w'=>e= .returned (.string (bA (45::Lib.decDigits (-n).toNat)))/\Grw w w':=by
 have c1:=λw=>digits_nat 0 (-n) w (by omega) (by omega) (by omega)
 have e3:bA (45::Lib.decDigits (-n).toNat)=⟨#[45]⟩++bA (Lib.decDigits (-n).toNat):=by apply ByteArray.ext;simp
 have l1:=decD_size (-n).toNat (by omega);rw[e3];clear e3;generalize bA (Lib.decDigits (-n).toNat)=S1 at *
 go_enter Tryz.func9,Tryz.ntmps9
 go_wp2_with (go_at_call 9;(with_reducible refine (c1 _).mono ?_;rintro e w1 ⟨rfl,g⟩))
 go_ret
 exact⟨rfl,g⟩

theorem digits_neg2 (n:Int) (w:World) (h0:n<= -10) (h1: -9223372036854775808<=n):Calls Tryz.prog 9 #[.int .i64 n] w λe w'=>e= .returned (.string (bA (45::Lib.decDigits (-n).toNat)))/\Grw w w':=by
 have d1:n.tdiv 10= -((-n)/10):=by have a:(-n).tdiv 10=(-n)/10:=Int.tdiv_eq_ediv_of_nonneg (by omega);rw[<-a,Int.neg_tdiv,Int.neg_neg]
 have d2:n.tmod 10= -((-n)%10):=by have a:(-n).tmod 10=(-n)%10:=Int.tmod_eq_emod_of_nonneg (by omega);rw[<-a,Int.neg_tmod,Int.neg_neg]
 have e1:wrap64 (-n.tdiv 10)=(-n)/10:=by rw[d1,Int.neg_neg];unfold wrap64;omega
 have e2:wrap64 (-n.tmod 10)=(-n)%10:=by rw[d2,Int.neg_neg];unfold wrap64;omega
 have c1:∀w,Calls Tryz.prog 9 #[.int .i64 (wrap64 (-n.tdiv 10))] w λe w'=>e= .returned (.string (bA (Lib.decDigits ((-n)/10).toNat)))/\Grw w w':=λw=>by rw[e1];exact digits_nat 19 _ w (by omega) (by omega) (by omega)
 have c2:∀w,Calls Tryz.prog 9 #[.int .i64 (wrap64 (-n.tmod 10))] w λe w'=>e= .returned (.string (bA [UInt8.ofNat (48+((-n)%10).toNat)]))/\Grw w w':=λw=>by rw[e2];exact digits_one _ w (by omega) (by omega)
 have hd:Lib.decDigits (-n).toNat=Lib.decDigits ((-n)/10).toNat++[UInt8.ofNat (48+((-n)%10).toNat)]:=by
  rw[Lib.decDigits,dif_neg (by omega)]
  congr 3<;>omega
 have e3:bA (45::Lib.decDigits (-n).toNat)=(⟨#[45]⟩++bA (Lib.decDigits ((-n)/10).toNat))++bA [UInt8.ofNat (48+((-n)%10).toNat)]:=by rw[hd];apply ByteArray.ext;simp
 have l1:=decD_size ((-n)/10).toNat (by omega);have l2:(bA [UInt8.ofNat (48+((-n)%10).toNat)]).size=1:=rfl;rw[e3];clear e3 hd e1 e2 d1 d2;generalize bA (Lib.decDigits ((-n)/10).toNat)=S1 at *;generalize bA [UInt8.ofNat (48+((-n)%10).toNat)]=S2 at *;have l3:(⟨#[45]⟩++S1:ByteArray).size<=101:=by rw[ByteArray.size_append];show 1+S1.size<=101;omega
 go_enter Tryz.func9,Tryz.ntmps9
 go_wp2_with (go_at_call 9;first|(with_reducible refine (c1 _).mono ?_;rintro e w1 ⟨rfl,g⟩)|(with_reducible refine (c2 _).mono ?_;rintro e w2 ⟨rfl,g2⟩))
 go_ret
 exact⟨rfl,g.trans g2⟩

theorem digits_link {fi:FI} (vs:List PV) (gh:List GObj) (r:PV) (gh':List GObj) (h:libItoa vs gh=some (r,gh')):eG Tryz.prog fi 9 vs gh r gh':=by
 intro M w args hG hlb hown hlen hrep;unfold libItoa at h;split at h
 ·rename_i n
  split at h
  case isFalse=>cases h
  rename_i hc;cases h;obtain⟨v,rfl⟩:=List.length_eq_one_iff.1 hlen;have hv:=hrep 0 _ _ rfl rfl;cases hv;have key:Calls Tryz.prog 9 #[.int .i64 n] w λe w'=>e= .returned (.string (bA (cm n)))/\Grw w w':=by
   rw[C3 hc.1 hc.2];unfold Lib.itoa;by_cases h0:n<0
   ·rw[if_pos h0]
    have e:n.natAbs=(-n).toNat:=by omega
    rw[e];by_cases h1: -10<n
    ·exact digits_neg1 n w h0 h1
    ·exact digits_neg2 n w (by omega) hc.1
   ·rw[if_neg h0]
    exact digits_nat 19 n w (by omega) (by omega) hc.2
  refine key.mono ?_;rintro e w' ⟨rfl,g⟩;obtain⟨h1,h2⟩:=GI.same hG g.1 g.2.1 g.2.2.1 g.2.2.2.1 g.2.2.2.2;exact⟨_,M,rfl,h1,hlb,rfl,(RepP.str _).repE.repAt,h2⟩
 ·cases h

def glOf (m:Int) (t5:TypeId) (p5:Value) (t6:TypeId) (p6:Value) (b:Nat) (o:Nat) (c:Nat) (hc:textWords.length<=c):List (Nat×Nat×Option Value):=wc 2 .u64 Lib.pow10Tab++([(1,0,some (.int .i64 m)),(3,0,some (.iface t5 p5)),(4,0,some (.iface t6 p6))]++we 0 b o c textWords)

theorem gwOf (m:Int) (t5:TypeId) (p5:Value) (t6:TypeId) (p6:Value) (b:Nat) (o:Nat) (c:Nat) (hc:textWords.length<=c):kI (glOf m t5 p5 t6 p6 b o c hc) [(0,textWords)]:=Nx hc λx hx=>cE.2 (.inr (cE.2 (.inr hx)))

theorem linked (gl:List (Nat×Nat×Option Value)) (gk:kI gl [(0,textWords)]):(links.all λx=>oj Tryz.prog (fiG links gl bldTs 5 [(0,textWords)] gk) pg x.1 x.2)=true:=by kernel_rfl

theorem link (m:Int) (t5:TypeId) (p5:Value) (t6:TypeId) (p6:Value) (b:Nat) (o:Nat) (c:Nat) (hc:textWords.length<=c):kR Tryz.prog (fiG links (glOf m t5 p5 t6 p6 b o c hc) bldTs 5 [(0,textWords)] (gwOf m t5 p5 t6 p6 b o c hc)) pg:=by
 have hpow : ∀ w, jz (fiG links (glOf m t5 p5 t6 p6 b o c hc) bldTs 5 [(0, textWords)] (gwOf m t5 p5 t6 p6 b o c hc)) w → Lib.TabIs Tryz.prog w "internal/strconv.uint64pow10" .u64 Lib.pow10Tab := fun w h => Nq (g := 2) (by kernel_rfl) (by decide) (fun x hx => cE.2 (.inl hx)) h
 have hmax:∀w,jz (fiG links (glOf m t5 p5 t6 p6 b o c hc) bldTs 5 [(0,textWords)] (gwOf m t5 p5 t6 p6 b o c hc)) w->∃m,w.cell? ⟨1,0,none⟩=some (.int .i64 m):=λw h=>⟨m,h (1,0,some (.int .i64 m)) (cE.2 (.inr (by simp)))⟩
 have hE5:∀w,jz (fiG links (glOf m t5 p5 t6 p6 b o c hc) bldTs 5 [(0,textWords)] (gwOf m t5 p5 t6 p6 b o c hc)) w->∃te pe,w.cell? ⟨3,0,none⟩=some (.iface te pe):=λw h=>⟨t5,p5,h (3,0,some (.iface t5 p5)) (cE.2 (.inr (by simp)))⟩
 have hE6:∀w,jz (fiG links (glOf m t5 p5 t6 p6 b o c hc) bldTs 5 [(0,textWords)] (gwOf m t5 p5 t6 p6 b o c hc)) w->∃te pe,w.cell? ⟨4,0,none⟩=some (.iface te pe):=λw h=>⟨t6,p6,h (4,0,some (.iface t6 p6)) (cE.2 (.inr (by simp)))⟩
 refine Gd (linked _ _) ?_;intro f F L hm hp;have h:∀x∈links,yr pg x.1=true->x=(83,127)\/x=(87,74)\/x=(119,130)\/x=(121,127)\/x=(161,169)\/x=(162,170)\/x=(190,198)\/x=(255,34)\/x=(260,20)\/x=(262,64)\/x=(263,70)\/x=(357,61)\/x=(358,62)\/x=(359,33)\/x=(363,9):=by decide +kernel
 rcases h (f,F) hm (by simp[yr,hp]) with hx|hx|hx|hx|hx|hx|hx|hx|hx|hx|hx|hx|hx|hx|hx
 ·cases hx
  have e:L=gy 1 8:=by have e2:pg 83=some (.lib (gy 1 8)):=rfl;rw[e2] at hp;cases hp;rfl
  subst e;exact λvs gh r gh' h _=>CT (by kernel_rfl) (by kernel_rfl) vs gh r gh' h
 ·cases hx
  have e:L=gy 2 16:=by have e2:pg 87=some (.lib (gy 2 16)):=rfl;rw[e2] at hp;cases hp;rfl
  subst e;exact λvs gh r gh' h _=>CT (by kernel_rfl) (by kernel_rfl) vs gh r gh' h
 ·cases hx
  have e:L=kU 1 8:=by have e2:pg 119=some (.lib (kU 1 8)):=rfl;rw[e2] at hp;cases hp;rfl
  subst e;exact λvs gh r gh' h _=>NQ (by kernel_rfl) vs gh r gh' h
 ·cases hx
  have e:L=gQ 8:=by have e2:pg 121=some (.lib (gQ 8)):=rfl;rw[e2] at hp;cases hp;rfl
  subst e;exact λvs gh r gh' h _=>Ng (by kernel_rfl) (by kernel_rfl) vs gh r gh' h
 ·cases hx
  have e:L=libSortK:=by have e2:pg 161=some (.lib (libSortK)):=rfl;rw[e2] at hp;cases hp;rfl
  subst e;exact λvs gh r gh' h _=>Ni (ρ:=laysSort_ren) laysSort vs gh r gh' h
 ·cases hx
  have e:L=libCompactK:=by have e2:pg 162=some (.lib (libCompactK)):=rfl;rw[e2] at hp;cases hp;rfl
  subst e;exact λvs gh r gh' h _=>Nk (ρ:=laysCompact_ren) laysCompact vs gh r gh' h
 ·cases hx
  have e:L=libSortLv:=by have e2:pg 190=some (.lib (libSortLv)):=rfl;rw[e2] at hp;cases hp;rfl
  subst e;exact λvs gh r gh' h _=>Nm (ρ:=laysSortF_ren) laysSortF rfl (enters_of Tryz.func199 (by kernel_rfl) rfl) cmp_walk vs gh r gh' h
 ·cases hx
  have e:L=libCut:=by have e2:pg 255=some (.lib (libCut)):=rfl;rw[e2] at hp;cases hp;rfl
  subst e;exact λvs gh r gh' h _=>Ns (ρ:=laysCut_ren) laysCut hmax vs gh r gh' h
 ·cases hx
  have e:L=libItoa:=by have e2:pg 260=some (.lib (libItoa)):=rfl;rw[e2] at hp;cases hp;rfl
  subst e;exact λvs gh r gh' h _=>Nr (ρ:=laysItoa_ren) laysItoa hpow vs gh r gh' h
 ·cases hx
  have e:L=libSplit:=by have e2:pg 262=some (.lib (libSplit)):=rfl;rw[e2] at hp;cases hp;rfl
  subst e;exact λvs gh r gh' h _=>Nt (ρ:=laysSplit_ren) laysSplit (by kernel_rfl) hmax vs gh r gh' h
 ·cases hx
  have e:L=libAtoi:=by have e2:pg 263=some (.lib (libAtoi)):=rfl;rw[e2] at hp;cases hp;rfl
  subst e;exact λvs gh r gh' h _=>Nu (ρ:=laysAtoi_ren) laysAtoi hE5 hE6 vs gh r gh' h
 ·cases hx
  have e:L=libWS:=by have e2:pg 357=some (.lib (libWS)):=rfl;rw[e2] at hp;cases hp;rfl
  subst e;exact λvs gh r gh' h _=>NC (fi:=fiG links (glOf m t5 p5 t6 p6 b o c hc) bldTs 5 [(0,textWords)] (gwOf m t5 p5 t6 p6 b o c hc)) write_ok vs gh r gh' h
 ·cases hx
  have e:L=libWB:=by have e2:pg 358=some (.lib (libWB)):=rfl;rw[e2] at hp;cases hp;rfl
  subst e;exact λvs gh r gh' h _=>NJ (fi:=fiG links (glOf m t5 p5 t6 p6 b o c hc) bldTs 5 [(0,textWords)] (gwOf m t5 p5 t6 p6 b o c hc)) byte_ok vs gh r gh' h
 ·cases hx
  have e:L=libBS:=by have e2:pg 359=some (.lib (libBS)):=rfl;rw[e2] at hp;cases hp;rfl
  subst e;exact λvs gh r gh' h _=>NG (fi:=fiG links (glOf m t5 p5 t6 p6 b o c hc) bldTs 5 [(0,textWords)] (gwOf m t5 p5 t6 p6 b o c hc)) read_ok vs gh r gh' h
 ·cases hx
  have e:L=libItoa:=by have e2:pg 363=some (.lib (libItoa)):=rfl;rw[e2] at hp;cases hp;rfl
  subst e;exact λvs gh r gh' h _=>digits_link vs gh r gh' h

theorem own:ownKnob Tryz.prog.godebug=none:=by kernel_rfl
theorem laidOut:laidOutB Tryz.prog=true:=by kernel_rfl


noncomputable def laidWorld (os:Os):World:={World.doorLaid Tryz.prog 77 os with heap:=(World.doorLaid Tryz.prog 77 os).heap.modify 7 fun
 | .cells _ t fz=> .cells ((Pinned.utf8FirstZ.map λ(z:Nat)=>Value.int .u8 (z:Int)).toArray) t fz
 |o=>o }

theorem laid_met (os:Os):laidMetH Tryz.prog Rows.decideTextsUptoRow.laid ((laidWorld os).forCall (λ_ _=>0) ⟨#[],#[.string ⟨#[]⟩,.int .i64 0,.int .i64 0],[]⟩).memory:=
 laidMet_of_run3 8 (by kernel_rfl) (by kernel_rfl) (by kernel_rfl)

theorem reads (os:Os) {H:Type} (enc:TypeId×Value->H):DataW.whole enc Tryz.prog ((laidWorld os).forCall (λ_ _=>0) ⟨#[],#[.string ⟨#[]⟩,.int .i64 0,.int .i64 0],[]⟩).memory Tryz.f3.params.toList Rows.decideTextsSpec.vars false #[.string ⟨#[]⟩,.int .i64 0,.int .i64 0].toList 8=some ([.lit (.string []),.lit (.int .i64 0),.lit (.int .i64 0)],[],[]):=by kernel_rfl

theorem lifted (os:Os) (started:os.Started) (H:Type) (enc:TypeId×Value->H) (F:Stop.Interp) :
  ReturnsInHanded {} Tryz.checked os 3 .any ((Rows.OpenSpec.upto Rows.decideTextsSpec).preRow enc Tryz.prog Tryz.f3 Rows.decideTextsUptoRow.domain false Rows.decideTextsUptoRow.laid) (((Rows.OpenSpec.upto Rows.decideTextsSpec).at F).post enc Tryz.prog Tryz.f3 false true false false):=by
 refine returnsInHanded_of_row (C:=Tryz.checked) (s:=(Rows.OpenSpec.upto Rows.decideTextsSpec)) own started (by kernel_rfl) Tryz.func3
  (witness_row_atRef (enc:=enc) (C:=Tryz.checked) false (laidWorld os) #[.string ⟨#[]⟩,.int .i64 0,.int .i64 0] rfl (by kernel_rfl) (by kernel_rfl) (by kernel_rfl)
   (OpenSpec.preRow_of_cond 8 (reads os enc) (by kernel_rfl) (λk hk=>by cases hk;kernel_rfl) (by kernel_rfl) (laid_met os))) ?_
 intro W base args ds gs before hval hW hcnd hk0 hwt hL hsh _;have hkk:=hk0 _ rfl;have hW':=hW;obtain⟨p,q,hA,hV,rfl,hfz,hnd⟩:=hW;have hA0:DataW.TrodAll enc Tryz.prog W 0 (λ_=>true) true Tryz.f3.params.toList args.toList ds p:=hA;obtain⟨rfl,rfl⟩:=trodVars_none hV;have hw:(DataW.weightsEach Tryz.prog Tryz.f3.params.toList ds).all (· <=reachBytes)=true:=by
  have h:(DataW.weightsEach Tryz.prog (Tryz.f3.params.toList++[]) (ds++[])).all (· <=reachBytes)=true:=hwt
  rwa [bE,bE] at h
 have hval2:∀(j:Nat) t v,Tryz.f3.params.toList[j]?=some t->args.toList[j]?=some v->Value.okWide Tryz.prog W .any base t v:=λj t v h1 h2=>hval j t v (by rw[<-Array.getElem?_toList];exact h1) (by rw[<-Array.getElem?_toList];exact h2)
 have hmet:laidMet Tryz.prog Rows.decideTextsUptoRow.laid W:=hL;have ht : Lib.TabIs Tryz.prog W "internal/strconv.uint64pow10" .u64 Lib.pow10Tab := Nv (g := 2) hmet (by rw [← (show Rows.laid_internal_strconv_uint64pow10 = Lib.tabData .u64 Lib.pow10Tab by kernel_rfl)]; simp [Rows.decideTextsUptoRow]) (by kernel_rfl) (by kernel_rfl) Tryz.underlying225 Tryz.underlying186 (by kernel_rfl) (by kernel_rfl)
 obtain⟨m,hm⟩:=cell_of_shapedOpen_int (g:=1) (zero:= #[Value.int .i64 0]) hsh (by decide +kernel) (by kernel_rfl) (by rfl) (by kernel_rfl) (by kernel_rfl) Tryz.underlying3;obtain ⟨t5, p5, hs5, hc5⟩ := C8 (g := 3) (nm := "*errors.errorString") hmet (show ("strconv.ErrSyntax", Rows.laid_strconv_ErrSyntax) ∈ Rows.decideTextsUptoRow.laid by simp [Rows.decideTextsUptoRow]) (by kernel_rfl) (by kernel_rfl) Tryz.underlying126
 obtain ⟨t6, p6, hs6, hc6⟩ := C8 (g := 4) (nm := "*errors.errorString") hmet (show ("strconv.ErrRange", Rows.laid_strconv_ErrRange) ∈ Rows.decideTextsUptoRow.laid by simp [Rows.decideTextsUptoRow]) (by kernel_rfl) (by kernel_rfl) Tryz.underlying126
 obtain ⟨b, o, c, hc, hwd⟩ := Ny (name := "latchwork/text.words") (g := 0) (ss := textWords) hmet (by first | exact aL (i := 6) (by kernel_rfl) | exact aL (i := 5) (by kernel_rfl) | exact aL (i := 7) (by kernel_rfl) | exact aL (i := 4) (by kernel_rfl) | exact aL (i := 8) (by kernel_rfl) | exact aL (i := 3) (by kernel_rfl) | exact aL (i := 2) (by kernel_rfl) | exact aL (i := 1) (by kernel_rfl) | exact aL (i := 0) (by kernel_rfl)) (by kernel_rfl) (by kernel_rfl) Tryz.underlying62 Tryz.underlying9 (by kernel_rfl) (by decide)
 have hgl:∀x∈(fiG links (glOf m t5 p5 t6 p6 b o c hc) bldTs 5 [(0,textWords)] (gwOf m t5 p5 t6 p6 b o c hc)).gl,x.1<W.heap.size/\W.cell? ⟨x.1,x.2.1,none⟩=x.2.2:=by
  intro x hx;rcases cE.1 hx with hx|hx
  ·exact Nw ht (by kernel_rfl) (by decide) x hx
  rcases cE.1 hx with hx|hx
  case inr.inr=>exact hwd x hx
  ·simp only[List.mem_cons,List.not_mem_nil,or_false] at hx
   rcases hx with rfl|rfl|rfl
   ·exact⟨oh hm,hm⟩
   ·exact⟨hs5,hc5⟩
   ·exact⟨hs6,hc6⟩
 have hrun:=Ge (enc:=enc) (P:=Tryz.prog) (fi:=fiG links (glOf m t5 p5 t6 p6 b o c hc) bldTs 5 [(0,textWords)] (gwOf m t5 p5 t6 p6 b o c hc)) (pg:=pg) (f:=396) (F:=3) (n:=20) (by decide +kernel) (link m t5 p5 t6 p6 b o c hc) rfl (L:=CO) (by rw[Tryz.params3];with_unfolding_all rfl) M9 hA0 hval2 hw (NT hkk) hgl;have hA1:=hA0;rw[Tryz.params3] at hA1;obtain⟨v0,vs0,d0,ds0,p0,q0,hargs,rfl,rfl,h0,r0⟩:=trodAll_cons hA1;obtain⟨v1,vs1,d1,ds1,p1,q1,rfl,rfl,rfl,h1,r1⟩:=trodAll_cons r0;obtain⟨v2,vs2,d2,ds2,p2,q2,rfl,rfl,rfl,h2,r2⟩:=trodAll_cons r1;obtain⟨rfl,rfl,rfl⟩:=trodAll_nil r2
 obtain rfl:args= #[v0,v1,v2]:=by cases args;simp_all
 refine hrun.mono λe W' ⟨he,bel⟩=>?_
 subst he;exact⟨_,rfl,_,_,_,[],_,[],hW',trodAll_mk1 (shut_bool Tryz.underlying4 _),yq laidOut bel (by kernel_rfl) hA0,rfl,bel.frame _,λh=>by cases h⟩

theorem over:Rows.decideTextsUptoRow.holds Tryz.pinned (Rows.OpenSpec.upto Rows.decideTextsSpec):=
 OpenClaim.holds_of_cond 3 Tryz.f3 rfl rfl rfl rfl rfl rfl rfl ⟨rfl,rfl,rfl,rfl,rfl⟩ rfl rfl rfl rfl rfl (by kernel_rfl) Tryz.func3 (by kernel_rfl)
  (of_decide_eq_true (by kernel_rfl)) (by unfold Func.isWrapper;first|(rw[if_pos (by decide +kernel)];kernel_rfl)|(rw[if_neg (by decide +kernel)];exact⟨rfl,rfl⟩))
  (λos started H enc _ F=>by rw[OpenClaim.pre_eq_preRow];exact lifted os started H enc F)

theorem plain (f : FuncId) (fn : Func) (hf : Tryz.pinned.checked.prog.funcNamed "latchwork/latchworklaw.DecideTexts" = some f) (hfn : Tryz.pinned.checked.prog.funcs[f]? = some fn) :
  true=Tryz.pinned.checked.prog.looks []/\∀(j:Nat) t,fn.params[j]?=some t->Tryz.pinned.checked.prog.wantsStandIn t=false:=by
 obtain rfl : f = 3 := cX ((show Tryz.prog.funcNamed "latchwork/latchworklaw.DecideTexts" = some 3 by kernel_rfl).symm.trans hf) |>.symm
 obtain rfl:fn=Tryz.f3:=(cX (Tryz.func3.symm.trans hfn)).symm;refine⟨by kernel_rfl,λj t ht=>?_⟩;rw[Tryz.params3] at ht;have hall:∀t∈([9,3,3]:List TypeId),Tryz.prog.wantsStandIn t=false:=by decide +kernel
 exact hall t (by simpa using Array.mem_of_getElem? ht)
theorem proved:Rows.DecideTextsUptoCardSaid:=
 Claim7.holds_tied_plain_at .later [] _ _ _ _ over (λ_ h=>by cases h) (by kernel_rfl) (λ_ h=>by cases h) decideTextsUpto_row_tie rfl ⟨rfl,rfl⟩ (by kernel_rfl) rfl plain (by kernel_rfl)
#print axioms proved
end Go.Proofs.YtmodipglnngghabGreatDoor.decideTextsDone
end