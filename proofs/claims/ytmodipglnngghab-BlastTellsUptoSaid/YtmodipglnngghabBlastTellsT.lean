/-
  BlastTells: the given statement holds: the call answers true, and what it was handed reads as it did.
-/
import Derived.Test.YtmodipglnngghabBlastTellsS
import Derived.Test.YtmodipglnngghabRows
import Derived.JoinedCond
import Derived.Deep.CondSized
import Derived.WalkKit
import Derived.ProofKit
import Derived.OpenShut
import Derived.ShutString
import Derived.ChangeOld
import Derived.Below
set_option linter.unusedVariables false
set_option linter.unusedSimpArgs false
set_option linter.unnecessarySimpa false

set_option maxRecDepth 100000
set_option maxHeartbeats 4000000
section
namespace Go.Proofs.Ytmodipglnngghab.blastTellsDone
open Go Go.Lw Go.ChangeShapes Go.WideShapes Go.RowKit
set_option maxRecDepth 100000

/-- The machine's number of a function, and the program's. -/
def links:List (Nat×Nat):=[(2,92),(3,93),(6,86),(7,46),(10,94),(11,51),(12,53),(22,146),(23,110),(26,109),(27,50),(28,75),(30,49),(36,14),(38,62),(39,54),(47,90),(48,132),(49,163),(50,68),(51,131),(61,190),(62,143),(63,145),(64,191),(65,107),(66,112),(67,114),(68,115),(69,116),(72,66),(73,47),(74,67),(75,69),(76,102),(77,103),(78,104),(79,105),(80,106),(81,148),(83,88),(85,128),(86,127),(87,158),(88,129),(96,153),(97,96),(101,64),(102,76),(103,144),(104,113),(105,147),(106,149),(107,91),(108,150),(109,152),(111,126),(114,192),(115,193),(118,151),(119,130),(121,88),(125,16),(132,23),(133,24),(137,55),(139,72),(143,111),(208,126),(211,42),(212,43),(213,44),(214,45),(215,89),(217,95),(218,133),(219,159),(220,161),(221,160),(222,162),(223,164),(224,165),(225,166),(226,167),(227,168),(228,170),(229,169),(230,171),(231,172),(232,173),(233,174),(234,175),(235,176),(236,205),(237,206),(238,207),(325,9),(326,48),(327,52),(343,87),(344,91),(392,161)]

theorem linked:(links.all λx=>nF Try.prog (rm links) pg x.1 x.2)=true:=by decide +kernel

theorem link:jX Try.prog (rm links) pg:=by
 refine Cr linked ?_;intro f F L hm hp;have h:∀x∈links,vn pg x.1=true->x=(83,88)\/x=(87,158)\/x=(119,130)\/x=(121,88):=by decide +kernel
 rcases h (f,F) hm (by simp[vn,hp]) with hx|hx|hx|hx
 ·cases hx
  have e:L=gf 1 8:=by have e2:pg 83=some (.lib (gf 1 8)):=rfl;rw[e2] at hp;cases hp;rfl
  subst e;exact λvs gh r gh' h _=>zj (by decide +kernel) (by decide +kernel) vs gh r gh' h
 ·cases hx
  have e:L=gf 2 16:=by have e2:pg 87=some (.lib (gf 2 16)):=rfl;rw[e2] at hp;cases hp;rfl
  subst e;exact λvs gh r gh' h _=>zj (by decide +kernel) (by decide +kernel) vs gh r gh' h
 ·cases hx
  have e:L=ju 1 8:=by have e2:pg 119=some (.lib (ju 1 8)):=rfl;rw[e2] at hp;cases hp;rfl
  subst e;exact λvs gh r gh' h _=>Jw (by decide +kernel) vs gh r gh' h
 ·cases hx
  have e:L=jt 8:=by have e2:pg 121=some (.lib (jt 8)):=rfl;rw[e2] at hp;cases hp;rfl
  subst e;exact λvs gh r gh' h _=>Js (by decide +kernel) (by decide +kernel) vs gh r gh' h

theorem own:ownKnob Try.prog.godebug=none:=by kernel_rfl
theorem laidOut:laidOutB Try.prog=true:=by kernel_rfl


theorem lifted (os:Os) (started:os.Started) (H:Type) (enc:TypeId×Value->H) (F:Stop.Interp) :
  ReturnsInHanded {} Try.checked os 9 .any ((Rows.OpenSpec.upto Rows.blastTellsSpec).pre6 enc Try.prog Try.f9 Rows.blastTellsUptoRow.domain false) (((Rows.OpenSpec.upto Rows.blastTellsSpec).at F).post enc Try.prog Try.f9 false true false false):=by
 refine returnsInHanded_of_cond_sized (C:=Try.checked) (s:=(Rows.OpenSpec.upto Rows.blastTellsSpec)) (k:=Rows.uptoSmall) rfl own started (by kernel_rfl) Try.func9
  (OpenSpec.witness (enc:=enc) (C:=Try.checked) (s:=(Rows.OpenSpec.upto Rows.blastTellsSpec)) (k:=Rows.uptoSmall) rfl false ⟨#[],#[.agg #[.slice none 0 0,.slice none 0 0,.slice none 0 0,.slice none 0 0,.slice none 0 0],.int .i64 0,.int .i64 0],[]⟩ 8 (by kernel_rfl) (by kernel_rfl) (by kernel_rfl)
   (x:=([.agg [.nil,.nil,.nil,.nil,.nil],.lit (.int .i64 0),.lit (.int .i64 0)],[],[])) (by kernel_rfl) rfl (by kernel_rfl)) ?_
 intro W base args ds gs before hval hW hcnd hkk hwt _;have hW':=hW;obtain⟨p,q,hA,hV,rfl,hfz,hnd⟩:=hW;have hA0:DataW.TrodAll enc Try.prog W 0 (λ_=>true) true Try.f9.params.toList args.toList ds p:=hA;obtain⟨rfl,rfl⟩:=trodVars_none hV;have hw:(DataW.weightsEach Try.prog Try.f9.params.toList ds).all (· <=reachBytes)=true:=by
  have h:(DataW.weightsEach Try.prog (Try.f9.params.toList++[]) (ds++[])).all (· <=reachBytes)=true:=hwt
  rwa [bH,bH] at h
 have hval2:∀(j:Nat) t v,Try.f9.params.toList[j]?=some t->args.toList[j]?=some v->Value.okWide Try.prog W .any base t v:=λj t v h1 h2=>hval j t v (by rw[<-Array.getElem?_toList];exact h1) (by rw[<-Array.getElem?_toList];exact h2)
 have hrun:=Cs (enc:=enc) (P:=Try.prog) (fi:=rm links) (pg:=pg) (f:=325) (F:=9) (n:=20) (by decide +kernel) link rfl (L:=zg) (by rw[Try.params9];with_unfolding_all rfl) Jn hA0 hval2 hw (Jy hkk);have hA1:=hA0;rw[Try.params9] at hA1;obtain⟨v0,vs0,d0,ds0,p0,q0,hargs,rfl,rfl,h0,r0⟩:=trodAll_cons hA1;obtain⟨v1,vs1,d1,ds1,p1,q1,rfl,rfl,rfl,h1,r1⟩:=trodAll_cons r0;obtain⟨v2,vs2,d2,ds2,p2,q2,rfl,rfl,rfl,h2,r2⟩:=trodAll_cons r1;obtain⟨rfl,rfl,rfl⟩:=trodAll_nil r2;obtain rfl:args= #[v0,v1,v2]:=by cases args;simp_all
 refine hrun.mono λe W' ⟨he,bel⟩=>?_
 subst he;exact⟨_,rfl,_,_,_,[],_,[],hW',trodAll_mk1 (shut_bool Try.underlying4 _),vm laidOut bel (by kernel_rfl) hA0,rfl,bel.frame _,λh=>by cases h⟩

theorem over:Rows.blastTellsUptoRow.holds Try.pinned (Rows.OpenSpec.upto Rows.blastTellsSpec):=
 OpenClaim.holds_of_cond 9 Try.f9 rfl rfl rfl rfl rfl rfl rfl ⟨rfl,rfl,rfl,rfl,rfl⟩ rfl rfl rfl rfl rfl (by kernel_rfl) Try.func9 (by kernel_rfl)
  (of_decide_eq_true (by kernel_rfl)) (by unfold Func.isWrapper;first|(rw[if_pos (by decide +kernel)];kernel_rfl)|(rw[if_neg (by decide +kernel)];exact⟨rfl,rfl⟩))
  (λos started H enc _ F=>lifted os started H enc F)

theorem proved:Rows.BlastTellsUptoSaid:=over
#print axioms proved
end Go.Proofs.Ytmodipglnngghab.blastTellsDone
end