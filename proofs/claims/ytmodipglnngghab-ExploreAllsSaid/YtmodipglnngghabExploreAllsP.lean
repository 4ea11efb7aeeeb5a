/-
  The texts that the proof stands on, part 16.
-/
import Derived.Test.YtmodipglnngghabExploreAllsO
import Derived.Orders
set_option linter.unusedVariables false
set_option linter.unusedSimpArgs false
set_option linter.unnecessarySimpa false

set_option maxRecDepth 100000
set_option maxHeartbeats 4000000
namespace Go.Lw
open Go
section
open Go.RowKit
section
variable {fi:FI} {M M':Mem} {w w':World} {P:Program} {s s' s1 s2 t1 t2:St} {a:Act} {cf:CallF}
def rn (_ _:IOpG):Bool:=false
def ro (_ _:IOpG):Bool:=false
def lr (p x:IOpG):Bool:=kp p x&&(lq (cls p.op) (cls x.op)||rn p x||ro p x)
theorem xJ {p x:IOpG} (ha:kp p x=true) (hf:rn p x=true) (h1:opG cf p s=some s1) (h2:opG cf x s1=some s2) :
  ∃t1 t2,opG cf x s=some t1/\opG cf p t1=some t2/\Eqv s2 t2:=by
 cases hf
theorem keptB.symm {e:List (Nat×PV)} {gh gh':List GObj} {n:Nat} (h:keptB e gh gh' n):keptB e gh' gh n:=by
 have key:∀b,b<gh.length/\gh'[b]?=gh[b]?->b<gh'.length/\gh[b]?=gh'[b]?:=λb hb=>
  ⟨(aD.1 (hb.2.trans (aA hb.1))).1,hb.2.symm⟩
 unfold keptB at *;split at h
 ·exact key _ h
 ·exact key _ h
 ·exact key _ h
 ·trivial
 ·exact h.elim
theorem xK {p x:IOpG} (ha:kp p x=true) (hf:ro p x=true) (h1:opG cf p s=some s1) (h2:opG cf x s1=some s2) :
  ∃t1 t2,opG cf x s=some t1/\opG cf p t1=some t2/\Eqv s2 t2:=by
 cases hf
theorem xM {p x:IOpG} (h:lr p x=true) (h1:opG cf p s=some s1) (h2:opG cf x s1=some s2) :
  ∃t1 t2,opG cf x s=some t1/\opG cf p t1=some t2/\Eqv s2 t2:=by
 simp only[lr,aX,Bool.or_eq_true] at h;rcases h.2 with (h3|h3)|h3
 ·exact xI h.1 h3 h1 h2
 ·exact xJ h.1 h3 h1 h2
 ·exact xK h.1 h3 h1 h2
theorem Eqv.refl (s:St):Eqv s s:=⟨λ_=>rfl,rfl,rfl⟩
theorem Eqv.trans (h:Eqv s s1) (h2:Eqv s1 s2):Eqv s s2:=⟨λt=>(h2.1 t).trans (h.1 t),h2.2.1.trans h.2.1,h2.2.2.trans h.2.2⟩
theorem xN {i:IOpG} (h:opG cf i s=some s') (he:Eqv s s2):∃s2',opG cf i s2=some s2'/\Eqv s' s2':=by
 obtain⟨s2',h1,h2,h3⟩:=ko (s2:=s2) i (λt _=>he.1 t) (eD he.2.1 he.2.2) h;refine⟨s2',h1,λt=>?_,eL h3 he.2.1 he.2.2⟩;rw[h2 t];by_cases hw:t∈wr i.op
 ·rw[if_pos hw]
 ·rw[if_neg hw,he.1 t,na i h hw]
theorem rq:∀{l:List IOpG} {s s' s2:St},dn cf l s=some s'->Eqv s s2->∃s2',dn cf l s2=some s2'/\Eqv s' s2'
 |[],s,s',s2,h,he=>by simp[dn] at h;subst h;exact⟨s2,rfl,he⟩
 |i::l,s,s',s2,h,he=>by rw[jv,aC] at h;obtain⟨s1,h1,h2⟩:=h;obtain⟨s3,h3,h4⟩:=xN h1 he;obtain⟨s4,h5,h6⟩:=rq h2 h4;exact⟨s4,by rw[jv,h3];exact h5,h6⟩
theorem rr {x:IOpG} {suf:List IOpG}:∀{pre:List IOpG} {s s':St},dn cf (pre++x::suf) s=some s'->(∀p∈pre,lr p x=true)->
  ∃t1 t',opG cf x s=some t1/\dn cf (pre++suf) t1=some t'/\Eqv s' t'
 |[],s,s',h,_=>by rw[bH,jv,aC] at h;obtain⟨t1,h1,h2⟩:=h;exact⟨t1,s',h1,h2,Eqv.refl s'⟩
 |p::pre,s,s',h,hp=>by rw[bI,jv,aC] at h;obtain⟨s1,h1,h2⟩:=h;obtain⟨s2,s'',h3,h4,h5⟩:=rr h2 (λq hq=>hp q (by simp[hq]));obtain⟨t1,t2,h6,h7,h8⟩:=xM (hp p (by simp)) h1 h3;obtain⟨t',h9,h10⟩:=rq h4 h8;exact⟨t1,t',h6,by rw[bI,jv,h7];exact h9,h5.trans h10⟩
theorem Inv.eqv (hI:Inv fi M w s a) (h:Eqv s s2):Inv fi M w s2 a where
 env:=λt v hv=>hI.env t v (by rw[<-h.1 t];exact hv)
 defers:=hI.defers
 lbl:=by rw[h.2.1];exact hI.lbl
 gbl:=by rw[h.2.2];exact hI.gbl
 nodup:=hI.nodup
 lh:=by rw[h.2.1];exact hI.lh
 gh:=by rw[h.2.2];exact hI.gh
 gl:=hI.gl
 immlt:=hI.immlt
 ownlt:=hI.ownlt
 gblt:=hI.gblt
theorem Eqv.symm (h:Eqv s s2):Eqv s2 s:=⟨λt=>(h.1 t).symm,h.2.1.symm,h.2.2.symm⟩
end
end
end Go.Lw