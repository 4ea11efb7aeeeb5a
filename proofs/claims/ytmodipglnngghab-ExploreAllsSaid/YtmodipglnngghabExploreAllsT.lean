/-
  ExploreAlls: the given statement holds: the call answers true, and what it was handed reads as it did.
-/
import Derived.Test.YtmodipglnngghabExploreAllsS
import Derived.Test.YtmodipglnngghabRows
import Derived.WalkKit
import Derived.ProofKit
import Derived.OpenShut
import Derived.ShutString
import Derived.ChangeOld
import Derived.Below
set_option linter.unusedVariables false
set_option linter.unusedSimpArgs false
set_option linter.unnecessarySimpa false

set_option maxRecDepth 100000
set_option maxHeartbeats 4000000
section
namespace Go.Proofs.Ytmodipglnngghab.exploreAllsDone
open Go Go.Lw Go.ChangeShapes Go.WideShapes Go.RowKit
set_option maxRecDepth 100000

/-- The machine's number of a function, and the program's. -/
def links:List (Nat×Nat):=[(22,146),(23,110),(26,109),(27,50),(28,75),(36,14),(38,62),(39,54),(50,68),(61,190),(62,143),(63,145),(64,191),(65,107),(66,112),(67,114),(68,115),(69,116),(72,66),(73,47),(74,67),(75,69),(76,102),(77,103),(78,104),(79,105),(80,106),(81,148),(86,127),(96,153),(97,96),(101,64),(102,76),(103,144),(104,113),(105,147),(106,149),(107,91),(108,150),(109,152),(111,126),(114,192),(115,193),(118,151),(119,130),(124,15),(125,16),(132,23),(133,24),(134,25),(135,63),(136,65),(137,55),(139,72),(140,73),(141,74),(142,108),(143,111),(241,28),(244,26),(251,77),(259,117),(267,154),(268,119),(269,78),(318,5),(319,27),(320,29),(321,31),(322,30),(323,32),(324,33),(326,48),(394,118)]

/-- Rounds of ranges over functions. -/
def yls:List (Nat×IYl):=[(393,q18),(395,q19)]
noncomputable abbrev fiL:FI:=fiY Try.prog (yX links) yls

theorem ylsOk:∀y Y,yls.lookup y=some Y->pg y=some (.yl Y):=by
 intro y Y h;unfold yls at h;simp only[List.lookup] at h;split at h
 ·rename_i e;cases h;rw[eq_of_beq e];rfl
 ·split at h
  ·rename_i e;cases h;rw[eq_of_beq e];rfl
  ·cases h

theorem linked:(links.all λx=>kG Try.prog fiL pg x.1 x.2)=true:=by decide +kernel

theorem link:gI Try.prog fiL pg:=by
 refine y0 ylsOk linked ?_;intro f F L hm hp;have h:∀x∈links,sB pg x.1=true->x=(119,130):=by decide +kernel
 rcases h (f,F) hm (by simp[sB,hp]) with hx
 ·cases hx
  have e:L=iI 1 8:=by have e2:pg 119=some (.lib (iI 1 8)):=rfl;rw[e2] at hp;cases hp;rfl
  subst e;exact λvs gh r gh' h _=>DM (by decide +kernel) vs gh r gh' h

theorem own:ownKnob Try.prog.godebug=none:=by kernel_rfl
theorem laidOut:laidOutB Try.prog=true:=by kernel_rfl


theorem lifted (os:Os) (started:os.Started) (H:Type) (enc:TypeId×Value->H) :
  ReturnsInHanded {} Try.checked os 5 .any (Rows.exploreAllsSpec.pre6 enc Try.prog Try.f5 Rows.exploreAllsRow.domain false) (Rows.exploreAllsSpec.post enc Try.prog Try.f5 false true false false):=by
 refine returnsInHanded_of_change_sized (C:=Try.checked) own started (by kernel_rfl) Try.func5
  (ChangeSpec.witness6 (enc:=enc) (C:=Try.checked) false ⟨#[],#[.agg #[.slice none 0 0,.slice none 0 0,.slice none 0 0,.slice none 0 0,.slice none 0 0],.slice none 0 0],[]⟩ 8 (by kernel_rfl) (by kernel_rfl) (by kernel_rfl) (by kernel_rfl)) ?_
 intro W base args ds gs before hval hW hcnd hwt _;have hW':=hW;obtain⟨p,q,hA,hV,rfl,hfz,hnd⟩:=hW;have hA0:DataW.TrodAll enc Try.prog W 0 (λ_=>true) true Try.f5.params.toList args.toList ds p:=hA;obtain⟨rfl,rfl⟩:=trodVars_none hV;have hw:(DataW.weightsEach Try.prog Try.f5.params.toList ds).all (· <=reachBytes)=true:=by
  have h:(DataW.weightsEach Try.prog (Try.f5.params.toList++[]) (ds++[])).all (· <=reachBytes)=true:=hwt
  rwa [bG,bG] at h
 have hval2:∀(j:Nat) t v,Try.f5.params.toList[j]?=some t->args.toList[j]?=some v->Value.okWide Try.prog W .any base t v:=λj t v h1 h2=>hval j t v (by rw[<-Array.getElem?_toList];exact h1) (by rw[<-Array.getElem?_toList];exact h2)
 have hrun:=y2 (enc:=enc) (P:=Try.prog) (fi:=fiL) (pg:=pg) (f:=318) (F:=5) (n:=20) (by decide +kernel) link rfl (L:=vI) (by rw[Try.params5];with_unfolding_all rfl) DH hA0 hval2 hw (λx hx=>absurd (show x∈[] from hx) List.not_mem_nil);have hA1:=hA0;rw[Try.params5] at hA1;obtain⟨v0,vs0,d0,ds0,p0,q0,hargs,rfl,rfl,h0,r0⟩:=trodAll_cons hA1;obtain⟨v1,vs1,d1,ds1,p1,q1,rfl,rfl,rfl,h1,r1⟩:=trodAll_cons r0;obtain⟨rfl,rfl,rfl⟩:=trodAll_nil r1;obtain rfl:args= #[v0,v1]:=by cases args;simp_all
 refine hrun.mono λe W' ⟨he,bel⟩=>?_
 subst he;exact⟨_,rfl,_,_,_,[],_,[],hW',trodAll_mk1 (shut_bool Try.underlying4 _),sv laidOut bel (by kernel_rfl) hA0,rfl,bel.frame _,λh=>by cases h⟩

theorem over:Rows.exploreAllsRow.holds Try.pinned (OpenSpec.ofChange Rows.exploreAllsSpec):=
 OpenClaim.holds_of_wide 5 Try.f5 rfl rfl rfl rfl rfl rfl rfl ⟨rfl,rfl,rfl,rfl,rfl⟩ rfl rfl rfl rfl rfl (by kernel_rfl) Try.func5 (by kernel_rfl)
  (of_decide_eq_true (by kernel_rfl)) (by unfold Func.isWrapper;first|(rw[if_pos (by decide +kernel)];kernel_rfl)|(rw[if_neg (by decide +kernel)];exact⟨rfl,rfl⟩))
  (λos started H enc _=>lifted os started H enc)

theorem proved:Rows.ExploreAllsSaid:=over
#print axioms proved
end Go.Proofs.Ytmodipglnngghab.exploreAllsDone
end