/-
  ProveDifferents: the given statement holds: the call answers true, and what it was handed reads as it did.
-/
import Derived.Test.YtmodipglnngghadGreatProveDifferentsS
import Derived.Test.YtmodipglnngghadGreatRows
import Derived.KernelRfl
import Derived.JoinedCond
import Derived.Deep.CondSized
import Derived.WalkKit
import Derived.ProofKit
import Derived.OpenShut
import Derived.ShutString
import Derived.ChangeOld
import Derived.Below
set_option linter.unusedVariables false
set_option linter.unusedSimpArgs false
set_option linter.unnecessarySimpa false

/-! ProveDifferents: the given statement holds: the call answers true, and what it was handed reads as it did. -/
section
namespace Go.Proofs.YtmodipglnngghadGreat.proveDifferentsDone
open Go Go.Lw Go.ChangeShapes Go.WideShapes Go.RowKit
set_option maxRecDepth 100000

def laysSort_ren:Go.Shelf.Ren:=⟨fun|189=>77|125=>125|257=>124|128=>184|129=>185|294=>175|295=>176|296=>177|297=>178|298=>179|299=>180|216=>181|300=>182|301=>183|328=>194|329=>195|330=>196|331=>197|332=>198|215=>199|343=>210|n=>n,fun|28=>25|3=>3|46=>174|0=>0|51=>212|53=>214|4=>4|183=>206|182=>205|131=>144|5=>5|9=>9|218=>222|222=>226|228=>234|229=>133|n=>n,fun|n=>n⟩
theorem laysSort:Go.Proofs.Lays.n189 Tryz.prog laysSort_ren:={
 mixed:=by kernel_rfl
 f125:=Tryz.func125.trans (congrArg some (by kernel_rfl))
 f128:=Tryz.func184.trans (congrArg some (by kernel_rfl))
 f129:=Tryz.func185.trans (congrArg some (by kernel_rfl))
 f189:=Tryz.func77.trans (congrArg some (by kernel_rfl))
 f215:=Tryz.func199.trans (congrArg some (by kernel_rfl))
 f216:=Tryz.func181.trans (congrArg some (by kernel_rfl))
 f257:=Tryz.func124.trans (congrArg some (by kernel_rfl))
 f294:=Tryz.func175.trans (congrArg some (by kernel_rfl))
 f295:=Tryz.func176.trans (congrArg some (by kernel_rfl))
 f296:=Tryz.func177.trans (congrArg some (by kernel_rfl))
 f297:=Tryz.func178.trans (congrArg some (by kernel_rfl))
 f298:=Tryz.func179.trans (congrArg some (by kernel_rfl))
 f299:=Tryz.func180.trans (congrArg some (by kernel_rfl))
 f300:=Tryz.func182.trans (congrArg some (by kernel_rfl))
 f301:=Tryz.func183.trans (congrArg some (by kernel_rfl))
 f328:=Tryz.func194.trans (congrArg some (by kernel_rfl))
 f329:=Tryz.func195.trans (congrArg some (by kernel_rfl))
 f330:=Tryz.func196.trans (congrArg some (by kernel_rfl))
 f331:=Tryz.func197.trans (congrArg some (by kernel_rfl))
 f332:=Tryz.func198.trans (congrArg some (by kernel_rfl))
 f343:=Tryz.func210.trans (congrArg some (by kernel_rfl))
 t0:=Tryz.underlying0
 a0:=Tryz.isAgg0
 z0:=Tryz.sizeOf0
 v0:=Tryz.zeroValue0
 t3:=Tryz.underlying3
 a3:=Tryz.isAgg3
 z3:=Tryz.sizeOf3
 v3:=Tryz.zeroValue3
 t4:=Tryz.underlying4
 a4:=Tryz.isAgg4
 z4:=Tryz.sizeOf4
 v4:=Tryz.zeroValue4
 t5:=Tryz.underlying5
 a5:=Tryz.isAgg5
 z5:=Tryz.sizeOf5
 v5:=Tryz.zeroValue5
 t9:=Tryz.underlying9
 a9:=Tryz.isAgg9
 z9:=Tryz.sizeOf9
 v9:=Tryz.zeroValue9
 t28:=Tryz.underlying25
 a28:=Tryz.isAgg25
 z28:=Tryz.sizeOf25
 v28:=Tryz.zeroValue25
 t46:=Tryz.underlying174
 a46:=Tryz.isAgg174
 z46:=Tryz.sizeOf174
 v46:=Tryz.zeroValue174
 t51:=Tryz.underlying212
 a51:=Tryz.isAgg212
 z51:=Tryz.sizeOf212
 v51:=Tryz.zeroValue212
 t53:=Tryz.underlying214
 a53:=Tryz.isAgg214
 z53:=Tryz.sizeOf214
 v53:=Tryz.zeroValue214
 t131:=Tryz.underlying144
 a131:=Tryz.isAgg144
 z131:=Tryz.sizeOf144
 v131:=Tryz.zeroValue144
 t182:=Tryz.underlying205
 a182:=Tryz.isAgg205
 z182:=Tryz.sizeOf205
 v182:=Tryz.zeroValue205
 t183:=Tryz.underlying206
 a183:=Tryz.isAgg206
 z183:=Tryz.sizeOf206
 v183:=Tryz.zeroValue206
 t218:=Tryz.underlying222
 a218:=Tryz.isAgg222
 z218:=Tryz.sizeOf222
 v218:=Tryz.zeroValue222
 t222:=Tryz.underlying226
 a222:=Tryz.isAgg226
 z222:=Tryz.sizeOf226
 v222:=Tryz.zeroValue226
 t228:=Tryz.underlying234
 a228:=Tryz.isAgg234
 z228:=Tryz.sizeOf234
 v228:=Tryz.zeroValue234
 t229:=Tryz.underlying133
 a229:=Tryz.isAgg133
 z229:=Tryz.sizeOf133
 v229:=Tryz.zeroValue133 }
def laysCompact_ren:Go.Shelf.Ren:=⟨fun|20=>78|n=>n,fun|22=>25|3=>3|4=>4|0=>0|n=>n,fun|n=>n⟩
theorem laysCompact:Go.Proofs.Lays2.n20 Tryz.prog laysCompact_ren:={
 mixed:=by kernel_rfl
 f20:=Tryz.func78.trans (congrArg some (by kernel_rfl))
 t0:=Tryz.underlying0
 a0:=Tryz.isAgg0
 z0:=Tryz.sizeOf0
 v0:=Tryz.zeroValue0
 t3:=Tryz.underlying3
 a3:=Tryz.isAgg3
 z3:=Tryz.sizeOf3
 v3:=Tryz.zeroValue3
 t4:=Tryz.underlying4
 a4:=Tryz.isAgg4
 z4:=Tryz.sizeOf4
 v4:=Tryz.zeroValue4
 t22:=Tryz.underlying25
 a22:=Tryz.isAgg25
 z22:=Tryz.sizeOf25
 v22:=Tryz.zeroValue25
 i3:=by kernel_rfl }

/-- The machine's number of a function, and the program's. -/
def links:List (Nat×Nat):=[(2,64),(3,65),(6,96),(10,66),(19,11),(22,130),(38,50),(45,40),(46,53),(47,99),(48,84),(49,143),(50,33),(51,107),(53,101),(54,105),(55,60),(56,37),(57,39),(58,8),(59,44),(60,19),(61,186),(62,126),(63,129),(64,187),(65,128),(66,158),(76,79),(77,80),(78,81),(79,82),(80,83),(81,133),(83,76),(85,165),(86,112),(87,138),(88,166),(90,168),(91,103),(92,38),(93,34),(94,70),(95,20),(96,191),(101,86),(103,127),(104,131),(105,132),(106,134),(107,100),(108,135),(109,137),(111,164),(112,67),(113,113),(114,200),(115,201),(118,136),(119,167),(121,76),(139,87),(143,157),(161,77),(162,78),(164,45),(169,71),(170,72),(171,114),(172,112),(173,116),(174,117),(175,118),(176,119),(177,120),(178,121),(179,122),(180,123),(181,125),(182,184),(183,185),(184,115),(187,171),(188,172),(189,174),(190,173),(191,192),(192,193),(193,195),(194,196),(195,202),(196,203),(197,204),(198,205),(199,206),(200,207),(201,208),(202,209),(203,211),(204,212),(205,213),(206,214),(208,164),(209,170),(212,59),(213,32),(215,98),(217,51),(218,85),(219,139),(220,141),(221,140),(222,142),(223,144),(224,145),(225,146),(226,147),(227,148),(228,150),(229,149),(230,151),(231,152),(232,153),(233,154),(234,155),(235,156),(236,188),(237,189),(238,190),(257,57),(264,91),(265,29),(266,52),(275,31),(276,61),(277,62),(278,63),(279,88),(280,89),(291,102),(292,104),(293,106),(330,7),(331,9),(333,3),(334,6),(335,10),(336,28),(338,35),(339,36),(341,30),(342,25),(343,97),(344,100),(391,41)]

theorem linked:(links.all fun x=>linkF Tryz.prog (fiOf links) pg x.1 x.2)=true:=by decide +kernel

theorem link:LinkOk Tryz.prog (fiOf links) pg:=by
 refine j13g linked ?_
 intro f F L hm hp
 have h:∀x∈links,isLib pg x.1=true→x=(83,76)∨x=(87,138)∨x=(119,167)∨x=(121,76)∨x=(161,77)∨x=(162,78):=by decide +kernel
 rcases h (f,F) hm (by simp[isLib,hp]) with hx|hx|hx|hx|hx|hx
 ·cases hx
  have e:L=libClone 1 8:=by
   have e2:pg 83=some (.lib (libClone 1 8)):=rfl
   rw[e2] at hp;cases hp;rfl
  subst e
  exact fun vs gh r gh' h _=>jzi (by decide +kernel) (by decide +kernel) vs gh r gh' h
 ·cases hx
  have e:L=libClone 2 16:=by
   have e2:pg 87=some (.lib (libClone 2 16)):=rfl
   rw[e2] at hp;cases hp;rfl
  subst e
  exact fun vs gh r gh' h _=>jzi (by decide +kernel) (by decide +kernel) vs gh r gh' h
 ·cases hx
  have e:L=libGrow 1 8:=by
   have e2:pg 119=some (.lib (libGrow 1 8)):=rfl
   rw[e2] at hp;cases hp;rfl
  subst e
  exact fun vs gh r gh' h _=>j16i (by decide +kernel) vs gh r gh' h
 ·cases hx
  have e:L=libCloneK 8:=by
   have e2:pg 121=some (.lib (libCloneK 8)):=rfl
   rw[e2] at hp;cases hp;rfl
  subst e
  exact fun vs gh r gh' h _=>j16b (by decide +kernel) (by decide +kernel) vs gh r gh' h
 ·cases hx
  have e:L=libSortK:=by
   have e2:pg 161=some (.lib (libSortK)):=rfl
   rw[e2] at hp;cases hp;rfl
  subst e
  exact fun vs gh r gh' h _=>j16e (ρ:=laysSort_ren) laysSort vs gh r gh' h
 ·cases hx
  have e:L=libCompactK:=by
   have e2:pg 162=some (.lib (libCompactK)):=rfl
   rw[e2] at hp;cases hp;rfl
  subst e
  exact fun vs gh r gh' h _=>j16g (ρ:=laysCompact_ren) laysCompact vs gh r gh' h

theorem own:ownKnob Tryz.prog.godebug=none:=by kernel_rfl
theorem laidOut:laidOutB Tryz.prog=true:=by kernel_rfl


theorem lifted (os:Os) (started:os.Started) (H:Type) (enc:TypeId×Value→H) (F:Stop.Interp) :
  ReturnsInHanded {} Tryz.checked os 3 .any ((Rows.OpenSpec.upto Rows.proveDifferentsSpec).pre6 enc Tryz.prog Tryz.f3 Rows.proveDifferentsUptoRow.domain false) (((Rows.OpenSpec.upto Rows.proveDifferentsSpec).at F).post enc Tryz.prog Tryz.f3 false true false false):=by
 refine returnsInHanded_of_cond_sized (C:=Tryz.checked) (s:=(Rows.OpenSpec.upto Rows.proveDifferentsSpec)) (k:=Rows.uptoSmall) rfl own started (by kernel_rfl) Tryz.func3
  (OpenSpec.witness (enc:=enc) (C:=Tryz.checked) (s:=(Rows.OpenSpec.upto Rows.proveDifferentsSpec)) (k:=Rows.uptoSmall) rfl false ⟨#[],#[.agg #[.int .i64 0,.slice none 0 0,.int .i64 0,.int .i64 0,.slice none 0 0,.slice none 0 0,.slice none 0 0,.slice none 0 0],.int .i64 0],[]⟩ 8 (by kernel_rfl) (by kernel_rfl) (by kernel_rfl)
   (x:=([.agg [.agg [.lit (.int .i64 0),.nil],.lit (.int .i64 0),.lit (.int .i64 0),.nil,.nil,.nil,.nil],.lit (.int .i64 0)],[],[])) (by kernel_rfl) rfl (by kernel_rfl)) ?_
 intro W base args ds gs before hval hW hcnd hkk hwt _
 have hW':=hW
 obtain⟨p,q,hA,hV,rfl,hfz,hnd⟩:=hW
 have hA0:DataW.TrodAll enc Tryz.prog W 0 (fun _=>true) true Tryz.f3.params.toList args.toList ds p:=hA
 obtain⟨rfl,rfl⟩:=trodVars_none hV
 have hw:(DataW.weightsEach Tryz.prog Tryz.f3.params.toList ds).all (· ≤reachBytes)=true:=by
  have h:(DataW.weightsEach Tryz.prog (Tryz.f3.params.toList++[]) (ds++[])).all (· ≤reachBytes)=true:=hwt
  rwa [List.append_nil,List.append_nil] at h
 have hval2:∀(j:Nat) t v,Tryz.f3.params.toList[j]?=some t→args.toList[j]?=some v→Value.okWide Tryz.prog W .any base t v:=fun j t v h1 h2=>hval j t v (by rw[←Array.getElem?_toList];exact h1) (by rw[←Array.getElem?_toList];exact h2)
 have hrun:=j13h (enc:=enc) (P:=Tryz.prog) (fi:=fiOf links) (pg:=pg) (f:=333) (F:=3) (n:=20) (by decide +kernel) link rfl (L:=insProveDifferents) (by rw[Tryz.params3];with_unfolding_all rfl) j166 hA0 hval2 hw (j16k hkk)
 have hA1:=hA0
 rw[Tryz.params3] at hA1
 obtain⟨v0,vs0,d0,ds0,p0,q0,hargs,rfl,rfl,h0,r0⟩:=trodAll_cons hA1
 obtain⟨v1,vs1,d1,ds1,p1,q1,rfl,rfl,rfl,h1,r1⟩:=trodAll_cons r0
 obtain⟨rfl,rfl,rfl⟩:=trodAll_nil r1
 obtain rfl:args= #[v0,v1]:=by cases args;simp_all
 refine hrun.mono fun e W' ⟨he,bel⟩=>?_
 subst he
 exact⟨_,rfl,_,_,_,[],_,[],hW',trodAll_mk1 (shut_bool Tryz.underlying4 _),jxf laidOut bel (by kernel_rfl) hA0,rfl,bel.frame _,fun h=>by cases h⟩

theorem over:Rows.proveDifferentsUptoRow.holds Tryz.pinned (Rows.OpenSpec.upto Rows.proveDifferentsSpec):=
 OpenClaim.holds_of_cond 3 Tryz.f3 rfl rfl rfl rfl rfl rfl rfl ⟨rfl,rfl,rfl,rfl,rfl⟩ rfl rfl rfl rfl rfl (by kernel_rfl) Tryz.func3 (by kernel_rfl)
  (of_decide_eq_true (by kernel_rfl)) (by unfold Func.isWrapper;first|(rw[if_pos (by decide +kernel)];kernel_rfl)|(rw[if_neg (by decide +kernel)];exact⟨rfl,rfl⟩))
  (fun os started H enc _ F=>lifted os started H enc F)

theorem proved:Rows.ProveDifferentsUptoSaid:=over
#print axioms proved
end Go.Proofs.YtmodipglnngghadGreat.proveDifferentsDone
end
