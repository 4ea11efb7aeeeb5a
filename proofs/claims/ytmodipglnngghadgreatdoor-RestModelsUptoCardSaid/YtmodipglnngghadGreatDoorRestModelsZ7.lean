/-
  RestModels: the given statement holds: the call answers true, and what it was handed reads as it did.
-/
import Derived.Test.YtmodipglnngghadGreatDoorRestModelsR
import Derived.Test.YtmodipglnngghadGreatDoorRestModelsT
import Derived.Test.YtmodipglnngghadGreatDoorRestModelsX
import Derived.Test.YtmodipglnngghadGreatDoorRestModelsY
import Derived.Test.YtmodipglnngghadGreatDoorRestModelsZ6
import Derived.Test.YtmodipglnngghadGreatDoorRows
import Derived.Test.YtmodipglnngghadGreatDoorTie
import Derived.Test.YtmodipglnngghadGreatDoorCards
import Derived.KernelRfl
import Derived.Deep.DeepHandedRow
import Derived.Deep.DeepWitnessRowRef
import Derived.Deep.DeepLaidRun
import Derived.LaidMore
import Derived.RegionCalls
import Derived.Deep.RegionWith
import Derived.Laws.BytesString
import Derived.JoinedCond
import Derived.Deep.CondSized
import Derived.WalkKit
import Derived.ProofKit
import Derived.OpenShut
import Derived.ShutString
import Derived.ChangeOld
import Derived.Below
set_option linter.unusedVariables false
set_option linter.unusedSimpArgs false
set_option linter.unnecessarySimpa false

set_option maxRecDepth 100000
set_option maxHeartbeats 4000000
section
namespace Go.Proofs.YtmodipglnngghadGreatDoor.restModelsDone
open Go Go.Lw Go.ChangeShapes Go.WideShapes Go.RowKit
set_option maxRecDepth 100000

section
open _root_.Go.Proofs.Tryz
theorem tk {α:Type} {a:Option α} {b c:α} (h:a=some b) (e:b=c):a=some c:=h.trans (congrArg some e)

def laysItoa_ren:Go.Shelf.Ren:=⟨fun|171=>77|243=>126|246=>161|283=>178|284=>179|285=>180|286=>181|129=>195|317=>194|318=>196|319=>197|320=>198|337=>203|338=>204|n=>n,fun|3=>3|9=>9|2=>2|4=>4|171=>219|0=>0|53=>220|37=>132|5=>5|173=>223|212=>236|51=>231|20=>20|213=>237|46=>214|232=>254|233=>255|n=>n,fun|17=>2|18=>7|19=>8|n=>n⟩
theorem laysItoa:Go.Proofs.LaysM.n171 prog laysItoa_ren:={
 mixed:=by kernel_rfl,f129:=tk func195 (by kernel_rfl),f171:=tk func77 (by kernel_rfl),f243:=tk func126 (by kernel_rfl),f246:=tk func161 (by kernel_rfl),f283:=tk func178 (by kernel_rfl),f284:=tk func179 (by kernel_rfl),f285:=tk func180 (by kernel_rfl),f286:=tk func181 (by kernel_rfl),f317:=tk func194 (by kernel_rfl),f318:=tk func196 (by kernel_rfl),f319:=tk func197 (by kernel_rfl),f320:=tk func198 (by kernel_rfl),f337:=tk func203 (by kernel_rfl),f338:=tk func204 (by kernel_rfl),t0:=underlying0,a0:=isAgg0,z0:=sizeOf0,v0:=zeroValue0,t2:=underlying2,
 a2:=isAgg2,z2:=sizeOf2,v2:=zeroValue2,t3:=underlying3,a3:=isAgg3,z3:=sizeOf3,v3:=zeroValue3,t4:=underlying4,a4:=isAgg4,z4:=sizeOf4,v4:=zeroValue4,t5:=underlying5,a5:=isAgg5,z5:=sizeOf5,v5:=zeroValue5,t9:=underlying9,a9:=isAgg9,z9:=sizeOf9,v9:=zeroValue9,t20:=underlying20,a20:=isAgg20,z20:=sizeOf20,v20:=zeroValue20,t37:=underlying132,a37:=isAgg132,z37:=sizeOf132,v37:=zeroValue132,t46:=underlying214,a46:=isAgg214,z46:=sizeOf214,v46:=zeroValue214,t51:=underlying231,
 a51:=isAgg231,z51:=sizeOf231,v51:=zeroValue231,t53:=underlying220,a53:=isAgg220,z53:=sizeOf220,v53:=zeroValue220,t171:=underlying219,a171:=isAgg219,z171:=sizeOf219,v171:=zeroValue219,t173:=underlying223,a173:=isAgg223,z173:=sizeOf223,v173:=zeroValue223,t212:=underlying236,a212:=isAgg236,z212:=sizeOf236,v212:=zeroValue236,t213:=underlying237,a213:=isAgg237,z213:=sizeOf237,t232:=underlying254,a232:=isAgg254,z232:=sizeOf254,v232:=zeroValue254,t233:=underlying255,a233:=isAgg255,
 z233:=sizeOf255,v233:=zeroValue255,g17:=by kernel_rfl,g18:=by kernel_rfl,g19:=by kernel_rfl,i0:=by kernel_rfl,i2:=by kernel_rfl,i3:=by kernel_rfl,i4:=by kernel_rfl,i5:=by kernel_rfl,i9:=by kernel_rfl,i20:=by kernel_rfl,i37:=by kernel_rfl,i46:=by kernel_rfl,i51:=by kernel_rfl,i53:=by kernel_rfl,i171:=by kernel_rfl,i173:=by kernel_rfl,i212:=by kernel_rfl,i232:=by kernel_rfl,i233:=by kernel_rfl,m17:=by kernel_rfl,m18:=by kernel_rfl,m19:=by kernel_rfl }
def laysAtoi_ren:Go.Shelf.Ren:=⟨fun|172=>127|244=>162|245=>163|247=>182|279=>183|280=>184|281=>185|282=>186|287=>199|316=>200|171=>77|205=>201|321=>205|322=>206|243=>126|246=>161|283=>178|284=>179|285=>180|286=>181|129=>195|317=>194|318=>196|319=>197|320=>198|337=>203|338=>204|n=>n,fun|9=>9|3=>3|75=>178|76=>179|4=>4|5=>5|167=>225|37=>132|0=>0|85=>226|2=>2|168=>228|53=>220|175=>239|46=>214|210=>243|127=>182|145=>249|143=>247|21=>21|171=>219|173=>223|212=>236|51=>231|20=>20|213=>237|232=>254|233=>255|80=>140|n=>n,fun|15=>3|16=>4|17=>2|18=>7|19=>8|n=>n⟩
theorem laysAtoi:Go.Proofs.LaysC.n172 prog laysAtoi_ren:={laysItoa with
 f172:=tk func127 (by kernel_rfl),f205:=tk func201 (by kernel_rfl),f244:=tk func162 (by kernel_rfl),f245:=tk func163 (by kernel_rfl),f247:=tk func182 (by kernel_rfl),f279:=tk func183 (by kernel_rfl),f280:=tk func184 (by kernel_rfl),f281:=tk func185 (by kernel_rfl),f282:=tk func186 (by kernel_rfl),f287:=tk func199 (by kernel_rfl),f316:=tk func200 (by kernel_rfl),f321:=tk func205 (by kernel_rfl),f322:=tk func206 (by kernel_rfl),t21:=underlying21,a21:=isAgg21,z21:=sizeOf21,v21:=zeroValue21,t75:=underlying178,a75:=isAgg178,z75:=sizeOf178,v75:=zeroValue178,
 t76:=underlying179,a76:=isAgg179,z76:=sizeOf179,v76:=zeroValue179,t85:=underlying226,a85:=isAgg226,z85:=sizeOf226,v85:=zeroValue226,t127:=underlying182,a127:=isAgg182,z127:=sizeOf182,v127:=zeroValue182,t143:=underlying247,a143:=isAgg247,z143:=sizeOf247,v143:=zeroValue247,t145:=underlying249,a145:=isAgg249,z145:=sizeOf249,v145:=zeroValue249,t167:=underlying225,a167:=isAgg225,z167:=sizeOf225,v167:=zeroValue225,t168:=underlying228,a168:=isAgg228,z168:=sizeOf228,v168:=zeroValue228,
 t175:=underlying239,a175:=isAgg239,z175:=sizeOf239,v175:=zeroValue239,t210:=underlying243,a210:=isAgg243,z210:=sizeOf243,v210:=zeroValue243,g15:=by kernel_rfl,g16:=by kernel_rfl,t80:=underlying140,a80:=isAgg140,z80:=sizeOf140,v80:=zeroValue140,i21:=by kernel_rfl,i75:=by kernel_rfl,i76:=by kernel_rfl,i80:=by kernel_rfl,i85:=by kernel_rfl,i127:=by kernel_rfl,i143:=by kernel_rfl,i145:=by kernel_rfl,i167:=by kernel_rfl,i168:=by kernel_rfl,i175:=by kernel_rfl,i210:=by kernel_rfl,m15:=by kernel_rfl,m16:=by kernel_rfl,m19:=by kernel_rfl,c0:=by kernel_rfl,
 c2:=by kernel_rfl,c3:=by kernel_rfl,c4:=by kernel_rfl,c5:=by kernel_rfl,c9:=by kernel_rfl,c20:=by kernel_rfl,c21:=by kernel_rfl,c37:=by kernel_rfl,c46:=by kernel_rfl,c51:=by kernel_rfl,c53:=by kernel_rfl,c75:=by kernel_rfl,c76:=by kernel_rfl,c80:=by kernel_rfl,c85:=by kernel_rfl,c127:=by kernel_rfl,c143:=by kernel_rfl,c145:=by kernel_rfl,c167:=by kernel_rfl,c168:=by kernel_rfl,c171:=by kernel_rfl,c173:=by kernel_rfl,c175:=by kernel_rfl,c210:=by kernel_rfl,c212:=by kernel_rfl,c213:=by kernel_rfl,c232:=by kernel_rfl,c233:=by kernel_rfl }
def laysCut_ren:Go.Shelf.Ren:=⟨fun|145=>46|220=>93|219=>132|217=>164|225=>165|224=>166|267=>167|266=>187|314=>188|n=>n,fun|9=>9|4=>4|59=>94|3=>3|5=>5|46=>214|146=>232|51=>231|n=>n,fun|1=>1|n=>n⟩
theorem laysCut:Go.Proofs.Lays.n145 prog laysCut_ren:={laysItoa with
 f145:=tk func46 (by kernel_rfl),f217:=tk func164 (by kernel_rfl),f219:=tk func132 (by kernel_rfl),f220:=tk func93 (by kernel_rfl),f224:=tk func166 (by kernel_rfl),f225:=tk func165 (by kernel_rfl),f266:=tk func187 (by kernel_rfl),f267:=tk func167 (by kernel_rfl),f314:=tk func188 (by kernel_rfl),t59:=underlying94,a59:=isAgg94,z59:=sizeOf94,v59:=zeroValue94,t146:=underlying232,a146:=isAgg232,z146:=sizeOf232,v146:=zeroValue232,g1:=by kernel_rfl }
def laysSplit_ren:Go.Shelf.Ren:=⟨fun|146=>94|221=>133|268=>168|138=>169|143=>170|195=>189|197=>190|218=>191|219=>132|260=>202|217=>164|225=>165|224=>166|267=>167|266=>187|314=>188|n=>n,fun|9=>9|31=>80|3=>3|4=>4|0=>0|105=>234|21=>21|5=>5|46=>214|119=>250|139=>253|138=>252|146=>232|51=>231|n=>n,fun|1=>1|3=>5|4=>6|n=>n⟩
theorem laysSplit:Go.Proofs.Lays.n146 prog laysSplit_ren:={laysCut,laysAtoi with
 f138:=tk func169 (by kernel_rfl),f143:=tk func170 (by kernel_rfl),f146:=tk func94 (by kernel_rfl),f195:=tk func189 (by kernel_rfl),f197:=tk func190 (by kernel_rfl),f218:=tk func191 (by kernel_rfl),f221:=tk func133 (by kernel_rfl),f260:=tk func202 (by kernel_rfl),f268:=tk func168 (by kernel_rfl),t31:=underlying80,a31:=isAgg80,z31:=sizeOf80,v31:=zeroValue80,t105:=underlying234,a105:=isAgg234,z105:=sizeOf234,v105:=zeroValue234,t119:=underlying250,a119:=isAgg250,z119:=sizeOf250,t138:=underlying252,a138:=isAgg252,z138:=sizeOf252,
 v138:=zeroValue252,t139:=underlying253,a139:=isAgg253,z139:=sizeOf253,v139:=zeroValue253,g1:=by kernel_rfl,g3:=by kernel_rfl,g4:=by kernel_rfl }
end

/-- The machine's number of a function, and the program's. -/
def links:List (Nat×Nat):=[(1,16),(2,66),(3,67),(5,7),(6,37),(7,23),(9,36),(10,68),(16,17),(22,117),(23,131),(26,42),(27,92),(28,111),(35,18),(36,43),(37,4),(38,30),(39,91),(46,21),(47,51),(48,52),(49,53),(50,44),(51,113),(52,83),(53,54),(54,55),(55,56),(59,107),(61,158),(62,114),(63,116),(64,159),(65,108),(66,136),(67,155),(68,156),(69,157),(71,57),(72,88),(73,89),(74,90),(75,29),(76,69),(77,70),(78,71),(79,72),(80,73),(81,74),(83,85),(85,102),(86,101),(87,104),(88,103),(89,128),(90,105),(91,106),(94,154),(95,22),(96,171),(97,176),(101,59),(102,112),(103,115),(104,118),(105,119),(106,120),(107,87),(108,121),(109,123),(111,129),(113,175),(114,192),(115,193),(118,122),(119,130),(121,85),(123,19),(124,45),(125,62),(132,63),(133,65),(134,64),(135,58),(136,60),(137,110),(139,98),(140,99),(141,80),(142,109),(143,135),(208,129),(211,8),(212,38),(213,25),(214,15),(215,86),(217,50),(218,100),(219,137),(220,139),(221,138),(222,140),(223,141),(224,142),(225,143),(226,144),(227,145),(228,147),(229,146),(230,148),(231,149),(232,150),(233,151),(234,152),(235,153),(236,172),(237,173),(238,174),(242,6),(245,32),(246,33),(247,34),(248,35),(252,79),(253,48),(254,81),(255,46),(256,82),(260,77),(262,94),(263,127),(343,84),(344,87),(346,5),(347,31),(348,13),(349,20),(352,75),(353,47),(354,61),(356,76),(357,124),(358,125),(359,78),(360,95),(361,96),(362,97),(365,134),(370,11),(375,14),(376,12),(377,24),(379,40),(380,39),(381,41),(382,49),(387,10),(388,27),(389,28),(392,139),(399,9),(400,26)]

/-! strings.Builder: what its code does at this program. -/
/-- The types in whose blocks a builder may lie. -/
def bldTs:List TypeId:=[134,136]
theorem bldLies:∀T∈bldTs,liesAt Tryz.prog Tryz.prog.depth T (2/Tryz.prog.cellsOf T) 0 134 1=true:=by intro T hT;simp only[bldTs,List.mem_cons,List.not_mem_nil,or_false] at hT;rcases hT with rfl|rfl<;>decide +kernel
theorem bldNe:∀T∈bldTs,T≠5:=by decide
theorem bldSize:(Tryz.prog.info? 134).map (·.size)=some 2:=by kernel_rfl
theorem bldByte:(Tryz.prog.info? 5).map (λi=>(i.zero,i.size,i.bytes))=some (some (.int .u8 0),1,1):=by kernel_rfl

theorem check_used (b:Nat) (w:World) (h0:w.cell? ⟨b,0,none⟩=some (.pointer (some ⟨b,0,none⟩))):Calls Tryz.prog 160 #[.pointer (some ⟨b,0,none⟩)] w λe w'=>e= .returned (.tuple #[])/\w'=w:=by
 obtain⟨j,hj,_⟩:=aE.1 bldSize
 go_enter Tryz.func160,Tryz.ntmps160
 go_wp2
 rw[Lib.run_neq_ptr_same w _ Tryz.underlying131 hj]
 go_wp2
 go_end0
 exact⟨rfl,rfl⟩

theorem check_new {T:TypeId} (hT:T∈bldTs) (b:Nat) (w:World) (h0:w.cell? ⟨b,0,none⟩=some (.pointer none)) (hsh:w.shape? b=some (T,2)) (hfz:w.frozen? ⟨b,0,none⟩=false) :
  Calls Tryz.prog 160 #[.pointer (some ⟨b,0,none⟩)] w λe w'=>e= .returned (.tuple #[])/\w'=w.setCell ⟨b,0,none⟩ (.pointer (some ⟨b,0,none⟩)):=by
 obtain⟨j,hj,hjs⟩:=aE.1 bldSize
 go_enter Tryz.func160,Tryz.ntmps160
 go_wp2
 rw[Lib.run_to_unsafe w ⟨b,0,none⟩ Tryz.underlying131 Tryz.underlying217 hj (by rw[hjs];decide) hsh (Nat.zero_lt_succ 1)];simp only[Result.andThen];rw[Oper.upon_value]
 go_wp2
 rw[run_callFunc_extern Tryz.func177 (by kernel_rfl) (by kernel_rfl) (by kernel_rfl) (e:=Extern.AbiNoEscape.same) (by kernel_rfl)];rw[Lib.run_noEscape];simp only[Result.andThen];rw[Oper.upon_value]
 go_wp2
 rw[Lib.run_from_unsafe w ⟨b,0,none⟩ Tryz.underlying217 Tryz.underlying131 hj hsh (bldLies T hT)];simp only[Result.andThen];rw[Oper.upon_value]
 go_wp2
 go_end0
 exact⟨rfl,rfl⟩

theorem check_any {T:TypeId} (hT:T∈bldTs) {b:Nat} {p v:Value} {w:World} (hb:w.heap[b]?=some (.cells #[p,v] T (0,0))) (hp:p= .pointer none\/p= .pointer (some ⟨b,0,none⟩)) :
  Calls Tryz.prog 160 #[.pointer (some ⟨b,0,none⟩)] w λe w'=>e= .returned (.tuple #[])/\w'.heap[b]?=some (.cells #[.pointer (some ⟨b,0,none⟩),v] T (0,0))/\Go.Lw.Rest w w' b none/\w'.heap.size<=w.heap.size/\w.heap.size<=w'.heap.size:=by
 rcases hp with rfl|rfl
 ·refine (check_new hT b w (by simp[World.cell?,hb]) (by simp[World.shape?,hb]) (by simp[World.frozen?,hb])).mono ?_
  rintro e w' ⟨rfl,rfl⟩;refine⟨rfl,by simp[World.setCell,Array.getElem?_modify,hb],⟨rfl,rfl,rfl,by simp[World.setCell],λk _ hk _=>N0 hk⟩,by simp[World.setCell],by simp[World.setCell]⟩
 ·refine (check_used b w (by simp[World.cell?,hb])).mono ?_
  rintro e w' ⟨rfl,rfl⟩;exact⟨rfl,hb,⟨rfl,rfl,rfl,cW _,λ_ _ _ _=>rfl⟩,cW _,cW _⟩

theorem write_ok:Db Tryz.prog 124 5 bldTs:=by
 intro T hT b n p v xs s w hbat hs0 hlen;obtain⟨hb,hp,hown⟩:=hbat;have hne:v.ownBlock≠some b:=Lib.ownBlock_ne hown hb (bldNe T hT);obtain⟨i0,hi,hz0,hz1,hz2⟩:=info_parts bldByte
 go_enter Tryz.func124,Tryz.ntmps124
 go_wp2_with (go_at_call 160;refine (check_any hT hb hp).mono ?_)
 rintro e w1 ⟨rfl,hb1,r1,s1⟩;have hown1:w1.ownsRow 0 5 1 v n xs:=by
  rcases hown.2 with ⟨rfl,h0⟩|⟨g,cap,cur,rfl,h0,hg,hr⟩
  ·exact⟨hown.1,.inl ⟨rfl,h0⟩⟩
  ·exact⟨hown.1,.inr ⟨g,cap,cur,rfl,h0,(r1.block g (mm hg) (λe=>hne (by simp[Value.ownBlock,e])) (by simp)).trans hg,hr⟩⟩
 have c0:w1.cell? ⟨b,0,none⟩=some (.pointer (some ⟨b,0,none⟩)):=by rw[Lib.cell_of_heap hb1];rfl
 have c1:w1.cell? ⟨b,1,none⟩=some v:=by rw[Lib.cell_of_heap hb1];rfl
 go_wp2_with (at_builtin;refine NA rfl _ _ 132 9 rfl Tryz.underlying132 Tryz.underlying9 hi hz0 hz1 hz2 _ _ _ rfl hown1 s rfl hs0 hlen ?_)
 intro v' w2 hown' hgrow hv';have hlt:b<w1.heap.size:=mm hb1;have hb2:w2.heap[b]?=some (.cells #[.pointer (some ⟨b,0,none⟩),v] T (0,0)):=by rw[hgrow.block b hlt (λe=>hne e.symm)];exact hb1
 have d0:w2.cell? ⟨b,0,none⟩=some (.pointer (some ⟨b,0,none⟩)):=by rw[Lib.cell_of_heap hb2];rfl
 have d1:w2.cell? ⟨b,1,none⟩=some v:=by rw[Lib.cell_of_heap hb2];rfl
 have f1:w2.frozen? ⟨b,1,none⟩=false:=Lib.frozen_of_heap hb2 1;have hne':v'.ownBlock≠some b:=Lib.ownBlock_ne hown' hb2 (bldNe T hT);have hv2:v'.ownBlock=v.ownBlock\/∃g,v'.ownBlock=some g/\w.heap.size<=g:=by
  rcases hv' with h|h
  ·exact .inl h
  ·exact .inr ⟨_,h,s1.2⟩
 clear hv';obtain⟨ao,n',cap,rfl⟩:∃ao n' cap,v'= .slice ao n' cap:=by
  rcases hown'.2 with ⟨hv,_⟩|⟨g,cap,cur,hv,_⟩
  ·exact⟨_,_,_,hv⟩
  ·exact⟨_,_,_,hv⟩
 go_wp2
 go_ret2
 refine⟨rfl,.slice ao n' cap,?_,?_,hv2,⟨?_,?_,?_,?_,?_⟩⟩
 ·simp[World.setCell,Array.getElem?_modify,hb2]
 ·rcases hown'.2 with ⟨hv,h0⟩|⟨g,cap',cur,hv,h0,hg,hr⟩
  ·exact⟨hown'.1,.inl ⟨hv,h0⟩⟩
  ·refine⟨hown'.1,.inr ⟨g,cap',cur,hv,h0,?_,hr⟩⟩
   rw[N0 (λe=>hne' (by rw[hv];simp[Value.ownBlock,e]))];exact hg
 ·exact hgrow.os.trans r1.os
 ·exact hgrow.tape.trans r1.tape
 ·exact hgrow.output.trans r1.output
 ·have:=hgrow.size;have:=r1.size;simp[World.setCell];omega
 ·intro k hk hkb hko
  rw[N0 hkb,hgrow.block k (by have:=r1.size;omega) hko];exact r1.block k hk hkb (by simp)

theorem read_ok:Dd Tryz.prog 78 5:=by
 constructor
 ·intro T b p w hb
  have hUS:∀W q,(Builtin.unsafeString_ #[182,3] 9 #[.pointer q,.int .i64 0]).run Tryz.prog W= .ok (.string .empty) W:=λW q=>Lib.run_unsafeString_none W _ _ _ q
  have c1:w.drew.cell? ⟨b,1,none⟩=some (.slice none 0 0):=by have:w.drew.heap[b]?=some (.cells #[p,.slice none 0 0] T (0,0)):=hb;rw[Lib.cell_of_heap this];rfl
  have hSD:(Builtin.unsafeSliceData_ #[132] 182 #[.slice none 0 0]).run Tryz.prog w.drew= .ok (.pointer none) w.drew:=rfl
  go_enter Tryz.func78,Tryz.ntmps78
  go_wp2
  go_region
  all_goals (go_wp2;go_ret;exact⟨rfl,rfl⟩)
 ·intro T b g cap p l cur w hb hg h0 hnc hcm hcs hcell
  have hl0:l.length≠0:=by simpa using h0
  have c1:w.drew.cell? ⟨b,1,none⟩=some (.slice (some ⟨g,0,none⟩) l.length cap):=by have:w.drew.heap[b]?=some (.cells #[p,.slice (some ⟨g,0,none⟩) l.length cap] T (0,0)):=hb;rw[Lib.cell_of_heap this];rfl
  have hSD:(Builtin.unsafeSliceData_ #[132] 182 #[.slice (some ⟨g,0,none⟩) l.length cap]).run Tryz.prog w.drew= .ok (.pointer (some ⟨g,0,none⟩)) w.drew:=
   Lib.run_unsafeSliceData_row _ _ _ _ _ _ (by omega)
  have hUS:(Builtin.unsafeString_ #[182,3] 9 #[.pointer (some ⟨g,0,none⟩),.int .i64 l.length]).run Tryz.prog w.drew= .ok (.string ⟨l.toArray⟩) (w.drew.freeze ⟨g,0,none⟩ l.length):=
   Lib.run_unsafeString_row w.drew 182 3 9 5 Tryz.underlying182 (by kernel_rfl) g cur.size (by have hg':w.drew.heap[g]?=some (.cells cur 5 (0,0)):=hg;simp[World.shape?,hg']) l h0 (by omega) (by unfold maxLen at hcm;omega) hcell
  go_enter Tryz.func78,Tryz.ntmps78
  go_wp2
  go_region
  all_goals (go_wp2;go_ret;exact⟨rfl,rfl⟩)
theorem byte_ok:Dc Tryz.prog 125 5 bldTs:=by
 intro T hT b n p v xs c w hbat hlen;obtain⟨hb,hp,hown⟩:=hbat;have hne:v.ownBlock≠some b:=Lib.ownBlock_ne hown hb (bldNe T hT);obtain⟨i0,hi,hz0,hz1,hz2⟩:=info_parts bldByte
 go_enter Tryz.func125,Tryz.ntmps125
 go_wp2_with (go_at_call 160;refine (check_any hT hb hp).mono ?_)
 rintro e w1 ⟨rfl,hb1,r1,s1⟩;have hown1:∀o:Obj,(w1.alloc o).ownsRow 0 5 1 v n xs:=λo=>by
  rcases hown.2 with ⟨rfl,h0⟩|⟨g,cap,cur,rfl,h0,hg,hr⟩
  ·exact⟨hown.1,.inl ⟨rfl,h0⟩⟩
  ·refine⟨hown.1,.inr ⟨g,cap,cur,rfl,h0,?_,hr⟩⟩
   rw[Lib.alloc_old w1 _ g (by have:=mm hg;omega)];exact (r1.block g (mm hg) (λe=>hne (by simp[Value.ownBlock,e])) (by simp)).trans hg
 have c0:w1.cell? ⟨b,0,none⟩=some (.pointer (some ⟨b,0,none⟩)):=by rw[Lib.cell_of_heap hb1];rfl
 have c1:w1.cell? ⟨b,1,none⟩=some v:=by rw[Lib.cell_of_heap hb1];rfl
 go_wp2_with (at_builtin;refine NI rfl _ _ 132 rfl Tryz.underlying132 hi hz0 hz1 hz2 _ _ _ rfl (hown1 _) ⟨w1.heap.size,0,none⟩ 1 1 [.int .u8 c] rfl rfl ?c1 ?c2 (by decide) hlen ?_)
 case c1=>
  intro j u hj
  match j,hj with
  |0,hj=>simp at hj;subst hj;simp[Addr.add]
 case c2=>intro u hu;simp at hu;subst hu;rfl
 intro v' w2 hown' hgrow hv';have hlt:b<w1.heap.size:=mm hb1;have hb2:w2.heap[b]?=some (.cells #[.pointer (some ⟨b,0,none⟩),v] T (0,0)):=by rw[hgrow.block b (by simp;omega) (λe=>hne e.symm),Lib.alloc_old w1 _ b hlt];exact hb1
 have d0:w2.cell? ⟨b,0,none⟩=some (.pointer (some ⟨b,0,none⟩)):=by rw[Lib.cell_of_heap hb2];rfl
 have d1:w2.cell? ⟨b,1,none⟩=some v:=by rw[Lib.cell_of_heap hb2];rfl
 have f1:w2.frozen? ⟨b,1,none⟩=false:=Lib.frozen_of_heap hb2 1;have hne':v'.ownBlock≠some b:=Lib.ownBlock_ne hown' hb2 (bldNe T hT);obtain⟨g,cap,rfl⟩:∃g cap,v'= .slice (some ⟨g,0,none⟩) (n+1) cap:=by
  rcases hown'.2 with ⟨_,h0⟩|⟨g,cap,cur,hv,_⟩
  ·omega
  ·exact⟨g,cap,hv⟩
 have hsz:=hgrow.size;have hbk:=hgrow.block;simp only[size_alloc'] at hsz hbk hv'
 go_wp2
 go_ret
 refine⟨rfl,.slice (some ⟨g,0,none⟩) (n+1) cap,?_,?_,?_,⟨?_,?_,?_,?_,?_⟩⟩
 ·simp[World.setCell,Array.getElem?_modify,hb2]
 ·rcases hown'.2 with ⟨hv,h0⟩|⟨g,cap',cur,hv,h0,hg,hr⟩
  ·exact⟨hown'.1,.inl ⟨hv,h0⟩⟩
  ·refine⟨hown'.1,.inr ⟨g,cap',cur,hv,h0,?_,hr⟩⟩
   rw[N0 (λe=>hne' (by rw[hv];simp[Value.ownBlock,e]))];exact hg
 ·rcases hv' with h|h
  ·exact .inl h
  ·exact .inr ⟨_,h,by omega⟩
 ·exact hgrow.os.trans r1.os
 ·exact hgrow.tape.trans r1.tape
 ·exact hgrow.output.trans r1.output
 ·have:=r1.size;simp[World.setCell];omega
 ·intro k hk hkb hko
  rw[N0 hkb,hbk k (by omega) hko,Lib.alloc_old w1 _ k (by omega)];exact r1.block k hk hkb (by simp)


def glOf (m:Int) (t5:TypeId) (p5:Value) (t6:TypeId) (p6:Value) (b:Nat) (o:Nat) (c:Nat) (hc:textWords.length<=c):List (Nat×Nat×Option Value):=wc 2 .u64 Lib.pow10Tab++([(1,0,some (.int .i64 m)),(3,0,some (.iface t5 p5)),(4,0,some (.iface t6 p6))]++O5 0 b o c textWords)

theorem gwOf (m:Int) (t5:TypeId) (p5:Value) (t6:TypeId) (p6:Value) (b:Nat) (o:Nat) (c:Nat) (hc:textWords.length<=c):kI (glOf m t5 p5 t6 p6 b o c hc) [(0,textWords)]:=Nx hc λx hx=>cE.2 (.inr (cE.2 (.inr hx)))

/-- Functions and variables, whatever is told of old and new. -/
def fiX (gl:List (Nat×Nat×Option Value)) (gk:kI gl [(0,textWords)]) (n0:Nat) (dead:Nat->Nat->Prop) (tob:Option Obj) (nk:n0=0\/∃k v,(n0-1,k,v)∈gl):FI:={f:=λf=>(links.find? (·.1==f)).map (·.2),gl:=gl,bT:=bldTs,u8:=5,gw:=[(0,textWords)],gwok:=gk,n0:=n0,dead:=dead,tob:=tob,n0ok:=nk }

theorem like (m:Int) (t5:TypeId) (p5:Value) (t6:TypeId) (p6:Value) (b:Nat) (o:Nat) (c:Nat) (hc:textWords.length<=c) {fi':FI} (hl:(fiG links (glOf m t5 p5 t6 p6 b o c hc) bldTs 5 [(0,textWords)] (gwOf m t5 p5 t6 p6 b o c hc)).Like fi'):∃gl gk n0 dead tob nk,fi'=fiX gl gk n0 dead tob nk:=by
 obtain⟨f,gl,bT,u8,gw,gk,n0,dead,tob,nk⟩:=fi';obtain⟨h1,h2,h3,h4,-⟩:=hl;have h1:f=λf=>(links.find? (·.1==f)).map (·.2):=h1
 have h2:bT=bldTs:=h2;have h3:u8=5:=h3;have h4:gw=[(0,textWords)]:=h4;subst h1;subst h2;subst h3;subst h4;exact⟨gl,gk,n0,dead,tob,nk,rfl⟩

theorem linked (gl:List (Nat×Nat×Option Value)) (gk:kI gl [(0,textWords)]) (n0:Nat) (dead:Nat->Nat->Prop) (tob:Option Obj) (nk:n0=0\/∃k v,(n0-1,k,v)∈gl):(links.all λx=>oj Tryz.prog (fiX gl gk n0 dead tob nk) pg x.1 x.2)=true:=by kernel_rfl

theorem matched (gl:List (Nat×Nat×Option Value)) (gk:kI gl [(0,textWords)]) (n0:Nat) (dead:Nat->Nat->Prop) (tob:Option Obj) (nk:n0=0\/∃k v,(n0-1,k,v)∈gl):(Tryz.f3.body.map λc=>H5 Tryz.prog (fiX gl gk n0 dead tob nk) Tryz.f3.ntmps rmR c)=some true:=by kernel_rfl

theorem link (m:Int) (t5:TypeId) (p5:Value) (t6:TypeId) (p6:Value) (b:Nat) (o:Nat) (c:Nat) (hc:textWords.length<=c) {fi':FI} (hl:(fiG links (glOf m t5 p5 t6 p6 b o c hc) bldTs 5 [(0,textWords)] (gwOf m t5 p5 t6 p6 b o c hc)).Like fi'):kR Tryz.prog fi' pg:=by
 have hgl:=hl.gl;obtain⟨gl,gk,n0,dead,tob,nk,rfl⟩:=like m t5 p5 t6 p6 b o c hc hl;have hpow : ∀ w, jz (fiX gl gk n0 dead tob nk) w → Lib.TabIs Tryz.prog w "internal/strconv.uint64pow10" .u64 Lib.pow10Tab := fun w h => Nq (g := 2) (by kernel_rfl) (by decide) (fun x hx => hgl x (cE.2 (.inl hx))) h
 have hmax:∀w,jz (fiX gl gk n0 dead tob nk) w->∃m,w.cell? ⟨1,0,none⟩=some (.int .i64 m):=λw h=>⟨m,h (1,0,some (.int .i64 m)) (hgl _ (cE.2 (.inr (by simp))))⟩
 have hE5:∀w,jz (fiX gl gk n0 dead tob nk) w->∃te pe,w.cell? ⟨3,0,none⟩=some (.iface te pe):=λw h=>⟨t5,p5,h (3,0,some (.iface t5 p5)) (hgl _ (cE.2 (.inr (by simp))))⟩
 have hE6:∀w,jz (fiX gl gk n0 dead tob nk) w->∃te pe,w.cell? ⟨4,0,none⟩=some (.iface te pe):=λw h=>⟨t6,p6,h (4,0,some (.iface t6 p6)) (hgl _ (cE.2 (.inr (by simp))))⟩
 refine Gc (l:=links) (λf F hf=>F8 (gl:=[]) (gwok:=ww _) (bT:=[]) (u8:=0) (gw:=[]) hf) (linked gl gk n0 dead tob nk) ?_;intro f F L hm hp;have h:∀x∈links,yr pg x.1=true->x=(83,85)\/x=(87,104)\/x=(119,130)\/x=(121,85)\/x=(255,46)\/x=(260,77)\/x=(262,94)\/x=(263,127)\/x=(357,124)\/x=(358,125)\/x=(359,78):=by decide +kernel
 rcases h (f,F) hm (by simp[yr,hp]) with hx|hx|hx|hx|hx|hx|hx|hx|hx|hx|hx
 ·cases hx
  have e:L=lx 1 8:=by have e2:pg 83=some (.lib (lx 1 8)):=rfl;rw[e2] at hp;cases hp;rfl
  subst e;exact λvs gh r gh' h _=>CT (by kernel_rfl) (by kernel_rfl) vs gh r gh' h
 ·cases hx
  have e:L=lx 2 16:=by have e2:pg 87=some (.lib (lx 2 16)):=rfl;rw[e2] at hp;cases hp;rfl
  subst e;exact λvs gh r gh' h _=>CT (by kernel_rfl) (by kernel_rfl) vs gh r gh' h
 ·cases hx
  have e:L=kU 1 8:=by have e2:pg 119=some (.lib (kU 1 8)):=rfl;rw[e2] at hp;cases hp;rfl
  subst e;exact λvs gh r gh' h _=>NQ (by kernel_rfl) vs gh r gh' h
 ·cases hx
  have e:L=gQ 8:=by have e2:pg 121=some (.lib (gQ 8)):=rfl;rw[e2] at hp;cases hp;rfl
  subst e;exact λvs gh r gh' h _=>Ng (by kernel_rfl) (by kernel_rfl) vs gh r gh' h
 ·cases hx
  have e:L=libCut:=by have e2:pg 255=some (.lib (libCut)):=rfl;rw[e2] at hp;cases hp;rfl
  subst e;exact λvs gh r gh' h _=>Ns (ρ:=laysCut_ren) laysCut hmax vs gh r gh' h
 ·cases hx
  have e:L=libItoa:=by have e2:pg 260=some (.lib (libItoa)):=rfl;rw[e2] at hp;cases hp;rfl
  subst e;exact λvs gh r gh' h _=>Nr (ρ:=laysItoa_ren) laysItoa hpow vs gh r gh' h
 ·cases hx
  have e:L=libSplit:=by have e2:pg 262=some (.lib (libSplit)):=rfl;rw[e2] at hp;cases hp;rfl
  subst e;exact λvs gh r gh' h _=>Nt (ρ:=laysSplit_ren) laysSplit (by kernel_rfl) hmax vs gh r gh' h
 ·cases hx
  have e:L=libAtoi:=by have e2:pg 263=some (.lib (libAtoi)):=rfl;rw[e2] at hp;cases hp;rfl
  subst e;exact λvs gh r gh' h _=>Nu (ρ:=laysAtoi_ren) laysAtoi hE5 hE6 vs gh r gh' h
 ·cases hx
  have e:L=libWS:=by have e2:pg 357=some (.lib (libWS)):=rfl;rw[e2] at hp;cases hp;rfl
  subst e;exact λvs gh r gh' h _=>NC (fi:=fiX gl gk n0 dead tob nk) write_ok vs gh r gh' h
 ·cases hx
  have e:L=libWB:=by have e2:pg 358=some (.lib (libWB)):=rfl;rw[e2] at hp;cases hp;rfl
  subst e;exact λvs gh r gh' h _=>NJ (fi:=fiX gl gk n0 dead tob nk) byte_ok vs gh r gh' h
 ·cases hx
  have e:L=libBS:=by have e2:pg 359=some (.lib (libBS)):=rfl;rw[e2] at hp;cases hp;rfl
  subst e;exact λvs gh r gh' h _=>NG (fi:=fiX gl gk n0 dead tob nk) read_ok vs gh r gh' h

theorem own:ownKnob Tryz.prog.godebug=none:=by kernel_rfl
theorem laidOut:laidOutB Tryz.prog=true:=by kernel_rfl


noncomputable def laidWorld (os:Os):World:={World.doorLaid Tryz.prog 77 os with heap:=(World.doorLaid Tryz.prog 77 os).heap.modify 5 fun
 | .cells _ t fz=> .cells ((Pinned.utf8FirstZ.map λ(z:Nat)=>Value.int .u8 (z:Int)).toArray) t fz
 |o=>o }

theorem laid_met (os:Os):laidMetH Tryz.prog Rows.restModelsUptoRow.laid ((laidWorld os).forCall (λ_ _=>0) ⟨#[],#[.agg #[.slice none 0 0,.slice none 0 0,.slice none 0 0,.slice none 0 0,.slice none 0 0],.string ⟨#[]⟩,.agg #[.slice none 0 0,.slice none 0 0],.agg #[.int .i64 0,.slice none 0 0]],[]⟩).memory:=
 laidMet_of_run3 8 (by kernel_rfl) (by kernel_rfl) (by kernel_rfl)

theorem reads (os:Os) {H:Type} (enc:TypeId×Value->H):DataW.whole enc Tryz.prog ((laidWorld os).forCall (λ_ _=>0) ⟨#[],#[.agg #[.slice none 0 0,.slice none 0 0,.slice none 0 0,.slice none 0 0,.slice none 0 0],.string ⟨#[]⟩,.agg #[.slice none 0 0,.slice none 0 0],.agg #[.int .i64 0,.slice none 0 0]],[]⟩).memory Tryz.f3.params.toList Rows.restModelsSpec.vars false #[.agg #[.slice none 0 0,.slice none 0 0,.slice none 0 0,.slice none 0 0,.slice none 0 0],.string ⟨#[]⟩,.agg #[.slice none 0 0,.slice none 0 0],.agg #[.int .i64 0,.slice none 0 0]].toList 8=some ([.agg [.nil,.nil,.nil,.nil,.nil],.lit (.string []),.agg [.nil,.nil],.agg [.lit (.int .i64 0),.nil]],[],[]):=by kernel_rfl

theorem lifted (os:Os) (started:os.Started) (H:Type) (enc:TypeId×Value->H) (F:Stop.Interp) :
  ReturnsInHanded {} Tryz.checked os 3 .any ((Rows.OpenSpec.upto Rows.restModelsSpec).preRow enc Tryz.prog Tryz.f3 Rows.restModelsUptoRow.domain false Rows.restModelsUptoRow.laid) (((Rows.OpenSpec.upto Rows.restModelsSpec).at F).post enc Tryz.prog Tryz.f3 false true false false):=by
 refine returnsInHanded_of_row (C:=Tryz.checked) (s:=(Rows.OpenSpec.upto Rows.restModelsSpec)) own started (by kernel_rfl) Tryz.func3
  (witness_row_atRef (enc:=enc) (C:=Tryz.checked) false (laidWorld os) #[.agg #[.slice none 0 0,.slice none 0 0,.slice none 0 0,.slice none 0 0,.slice none 0 0],.string ⟨#[]⟩,.agg #[.slice none 0 0,.slice none 0 0],.agg #[.int .i64 0,.slice none 0 0]] rfl (by kernel_rfl) (by kernel_rfl) (by kernel_rfl)
   (OpenSpec.preRow_of_cond 8 (reads os enc) (by kernel_rfl) (λk hk=>by cases hk;kernel_rfl) (by kernel_rfl) (laid_met os))) ?_
 intro W base args ds gs before hval hW hcnd hk0 hwt hL hsh _;have hkk:=hk0 _ rfl;have hW':=hW;obtain⟨p,q,hA,hV,rfl,hfz,hnd⟩:=hW;have hA0:DataW.TrodAll enc Tryz.prog W 0 (λ_=>true) true Tryz.f3.params.toList args.toList ds p:=hA;obtain⟨rfl,rfl⟩:=trodVars_none hV;have hw:(DataW.weightsEach Tryz.prog Tryz.f3.params.toList ds).all (· <=reachBytes)=true:=by
  have h:(DataW.weightsEach Tryz.prog (Tryz.f3.params.toList++[]) (ds++[])).all (· <=reachBytes)=true:=hwt
  rwa [bE,bE] at h
 have hval2:∀(j:Nat) t v,Tryz.f3.params.toList[j]?=some t->args.toList[j]?=some v->Value.okWide Tryz.prog W .any base t v:=λj t v h1 h2=>hval j t v (by rw[<-Array.getElem?_toList];exact h1) (by rw[<-Array.getElem?_toList];exact h2)
 have hmet:laidMet Tryz.prog Rows.restModelsUptoRow.laid W:=hL;have ht : Lib.TabIs Tryz.prog W "internal/strconv.uint64pow10" .u64 Lib.pow10Tab := Nv (g := 2) hmet (by rw [← (show Rows.laid_internal_strconv_uint64pow10 = Lib.tabData .u64 Lib.pow10Tab by kernel_rfl)]; simp [Rows.restModelsUptoRow]) (by kernel_rfl) (by kernel_rfl) Tryz.underlying236 Tryz.underlying220 (by kernel_rfl) (by kernel_rfl)
 obtain⟨m,hm⟩:=cell_of_shapedOpen_int (g:=1) (zero:= #[Value.int .i64 0]) hsh (by decide +kernel) (by kernel_rfl) (by rfl) (by kernel_rfl) (by kernel_rfl) Tryz.underlying3;obtain ⟨t5, p5, hs5, hc5⟩ := C8 (g := 3) (nm := "*errors.errorString") hmet (show ("strconv.ErrSyntax", Rows.laid_strconv_ErrSyntax) ∈ Rows.restModelsUptoRow.laid by simp [Rows.restModelsUptoRow]) (by kernel_rfl) (by kernel_rfl) Tryz.underlying178
 obtain ⟨t6, p6, hs6, hc6⟩ := C8 (g := 4) (nm := "*errors.errorString") hmet (show ("strconv.ErrRange", Rows.laid_strconv_ErrRange) ∈ Rows.restModelsUptoRow.laid by simp [Rows.restModelsUptoRow]) (by kernel_rfl) (by kernel_rfl) Tryz.underlying178
 obtain ⟨b, o, c, hc, hwd⟩ := Ny (name := "latchwork/text.words") (g := 0) (ss := textWords) hmet (by first | exact aL (i := 6) (by kernel_rfl) | exact aL (i := 5) (by kernel_rfl) | exact aL (i := 7) (by kernel_rfl) | exact aL (i := 4) (by kernel_rfl) | exact aL (i := 8) (by kernel_rfl) | exact aL (i := 3) (by kernel_rfl) | exact aL (i := 2) (by kernel_rfl) | exact aL (i := 1) (by kernel_rfl) | exact aL (i := 0) (by kernel_rfl)) (by kernel_rfl) (by kernel_rfl) Tryz.underlying80 Tryz.underlying9 (by kernel_rfl) (by decide)
 have hgl:∀x∈(fiG links (glOf m t5 p5 t6 p6 b o c hc) bldTs 5 [(0,textWords)] (gwOf m t5 p5 t6 p6 b o c hc)).gl,x.1<W.heap.size/\W.cell? ⟨x.1,x.2.1,none⟩=x.2.2:=by
  intro x hx;rcases cE.1 hx with hx|hx
  ·exact Nw ht (by kernel_rfl) (by decide) x hx
  rcases cE.1 hx with hx|hx
  case inr.inr=>exact hwd x hx
  ·simp only[List.mem_cons,List.not_mem_nil,or_false] at hx
   rcases hx with rfl|rfl|rfl
   ·exact⟨oh hm,hm⟩
   ·exact⟨hs5,hc5⟩
   ·exact⟨hs6,hc6⟩
 obtain⟨cb,hcb⟩:∃c,Tryz.f3.body=some c:=Option.isSome_iff_exists.1 (by kernel_rfl)
 have hrun:=TH (enc:=enc) (P:=Tryz.prog) (fi:=fiG links (glOf m t5 p5 t6 p6 b o c hc) bldTs 5 [(0,textWords)] (gwOf m t5 p5 t6 p6 b o c hc)) (F:=3) (n:=20) (by decide +kernel) (λ_ hl=>link m t5 p5 t6 p6 b o c hc hl) Tryz.func3 hcb (by kernel_rfl)
  (λ_ hl=>by obtain⟨gl,gk,n0,dead,tob,nk,rfl⟩:=like m t5 p5 t6 p6 b o c hc hl;have hmt:=matched gl gk n0 dead tob nk;rw[hcb] at hmt;exact cZ hmt)
  ⟨_,cE.2 (.inr (cE.2 (.inl (aZ ..))))⟩ (by rw[Tryz.params3];with_unfolding_all rfl) hA0 hval2 hw (NT hkk) hgl
 have hA1:=hA0;rw[Tryz.params3] at hA1;obtain⟨v0,vs0,d0,ds0,p0,q0,hargs,rfl,rfl,h0,r0⟩:=trodAll_cons hA1;obtain⟨v1,vs1,d1,ds1,p1,q1,rfl,rfl,rfl,h1,r1⟩:=trodAll_cons r0;obtain⟨v2,vs2,d2,ds2,p2,q2,rfl,rfl,rfl,h2,r2⟩:=trodAll_cons r1;obtain⟨v3,vs3,d3,ds3,p3,q3,rfl,rfl,rfl,h3,r3⟩:=trodAll_cons r2;obtain⟨rfl,rfl,rfl⟩:=trodAll_nil r3;obtain rfl:args= #[v0,v1,v2,v3]:=by cases args;simp_all
 refine hrun.mono λe W' ⟨he,bel⟩=>?_
 subst he;exact⟨_,rfl,_,_,_,[],_,[],hW',trodAll_mk1 (shut_bool Tryz.underlying4 _),yq laidOut bel (by kernel_rfl) hA0,rfl,bel.frame _,λh=>by cases h⟩

theorem over:Rows.restModelsUptoRow.holds Tryz.pinned (Rows.OpenSpec.upto Rows.restModelsSpec):=
 OpenClaim.holds_of_cond 3 Tryz.f3 rfl rfl rfl rfl rfl rfl rfl ⟨rfl,rfl,rfl,rfl,rfl⟩ rfl rfl rfl rfl rfl (by kernel_rfl) Tryz.func3 (by kernel_rfl)
  (of_decide_eq_true (by kernel_rfl)) (by unfold Func.isWrapper;first|(rw[if_pos (by decide +kernel)];kernel_rfl)|(rw[if_neg (by decide +kernel)];exact⟨rfl,rfl⟩))
  (λos started H enc _ F=>by rw[OpenClaim.pre_eq_preRow];exact lifted os started H enc F)

theorem plain (f : FuncId) (fn : Func) (hf : Tryz.pinned.checked.prog.funcNamed "latchwork/latchworklaw.RestModels" = some f) (hfn : Tryz.pinned.checked.prog.funcs[f]? = some fn) :
  true=Tryz.pinned.checked.prog.looks []/\∀(j:Nat) t,fn.params[j]?=some t->Tryz.pinned.checked.prog.wantsStandIn t=false:=by
 obtain rfl : f = 3 := cZ ((show Tryz.prog.funcNamed "latchwork/latchworklaw.RestModels" = some 3 by kernel_rfl).symm.trans hf) |>.symm
 obtain rfl:fn=Tryz.f3:=(cZ (Tryz.func3.symm.trans hfn)).symm;refine⟨by kernel_rfl,λj t ht=>?_⟩;rw[Tryz.params3] at ht;have hall:∀t∈([26,9,29,32]:List TypeId),Tryz.prog.wantsStandIn t=false:=by decide +kernel
 exact hall t (by simpa using Array.mem_of_getElem? ht)
theorem proved:Rows.RestModelsUptoCardSaid:=
 Claim7.holds_tied_plain_at .later [] _ _ _ _ over (λ_ h=>by cases h) (by kernel_rfl) (λ_ h=>by cases h) restModelsUpto_row_tie rfl ⟨rfl,rfl⟩ (by kernel_rfl) rfl plain (by kernel_rfl)
#print axioms proved
end Go.Proofs.YtmodipglnngghadGreatDoor.restModelsDone
end