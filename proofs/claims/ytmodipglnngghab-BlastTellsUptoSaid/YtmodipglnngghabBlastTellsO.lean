/-
  The texts that the proof stands on, part 15.
-/
import Derived.Test.YtmodipglnngghabBlastTellsN
import Derived.Orders
set_option linter.unusedVariables false
set_option linter.unusedSimpArgs false
set_option linter.unnecessarySimpa false

set_option maxRecDepth 100000
set_option maxHeartbeats 4000000
namespace Go.Lw
open Go
section
open Go.RowKit
variable {p:IOpG} {x:IX} {e:List (Nat×PV)} {m b off i d k n f o2:Nat} {xs:List IX} {ns:List Nat} {v:PV} {cs:List PV}
section
variable {fi:FI} {M M':Mem} {w w':World} {P:Program} {s s' s1 s2 t1 t2:St} {a:Act} {cf:CallF}
def uC (_ _:IOpG):Bool:=false
def uD (p x:IOp):Bool:=
 match p,x with
 | .loadK _ (.t m),.callP _ _ _ ns| .load _ _ _ (.t m),.callP _ _ _ ns| .loadK _ (.t m),.appendP _ _ _ _ ns| .load _ _ _ (.t m),.appendP _ _ _ _ ns=>ns.contains m
 | .loadB _ _ _ _ n,.callP _ _ _ ns| .loadB _ _ _ _ n,.appendP _ _ _ _ ns| .loadKB _ _ n,.callP _ _ _ ns| .loadKB _ _ n,.appendP _ _ _ _ ns=>ns.contains n
 | .loadJ _ _ _ _,.callP _ _ _ _| .loadJ _ _ _ _,.callR _ _ _ _ _=>true
 |_,_=>false
def uE (p x:IOp):Bool:=
 match p,x with
 | .callP _ _ _ ns,.loadB _ _ _ _ n| .callP _ _ _ ns,.loadKB _ _ n=>ns.contains n
 | .callP _ _ _ ns,.load _ _ _ (.t m)| .callP _ _ _ ns,.loadK _ (.t m)=>ns.contains m
 | .callP _ _ _ _,.loadJ _ _ _ _| .callR _ _ _ _ _,.loadJ _ _ _ _=>true
 |_,_=>false
def uF (p x:IOp):Bool:=
 match p,x with
 | .loadTB _ _ m o,.callR _ _ _ n o2=>m==n&&o==o2
 |_,_=>false
def qP (p x:IOpG):Bool:=p.guard.isNone&&x.guard.isNone&&(uD p.op x.op||uE p.op x.op||uF p.op x.op)
def nq (p x:IOpG):Bool:=gr p x&&(nn (cls p.op) (cls x.op)||uC p x||qP p x)
theorem BJ {x:IOpG} (ha:gr p x=true) (hf:uC p x=true) (h1:opG cf p s=some s1) (h2:opG cf x s1=some s2) :
  ∃t1 t2,opG cf x s=some t1/\opG cf p t1=some t2/\Eqv s2 t2:=by
 cases hf
theorem keptB.symm {e:List (Nat×PV)} {gh gh':List GObj} {n:Nat} (h:keptB e gh gh' n):keptB e gh' gh n:=by
 have key:∀b,b<gh.length/\gh'[b]?=gh[b]?->b<gh'.length/\gh[b]?=gh'[b]?:=λb hb=>
  ⟨(aD.1 (hb.2.trans (aA hb.1))).1,hb.2.symm⟩
 unfold keptB at *;split at h
 ·exact key _ h
 ·exact key _ h
 ·exact key _ h
 ·exact h.elim
theorem BK {g:Bool} (h:ah e (.t m)=some (.ptr g b off)):get e m=some (.ptr g b off):=by simp only[ah,aE] at h;obtain⟨v,hv,he⟩:=h;cases v<;>simp[degr] at he;obtain⟨rfl,rfl,rfl⟩:=he;exact hv
theorem BM {p:PV} (h:ah e (.t m)=some (.ep p off)):get e m=some (.ep p off):=by simp only[ah,aE] at h;obtain⟨v,hv,he⟩:=h;cases v<;>simp[degr] at he;obtain⟨rfl,rfl⟩:=he;exact hv
theorem BN {gen:Nat} (h:ah e (.t m)=some (.pstk b gen i)):get e m=some (.pstk b gen i):=by simp only[ah,aE] at h;obtain⟨v,hv,he⟩:=h;cases v<;>simp[degr] at he;obtain⟨rfl,rfl,rfl⟩:=he;exact hv
theorem qQ {t1:St} (h:ae cf s (.loadK d (.t m))=some s') (hm:get t1.env m=get s.env m) (hk:keptB s.env s.gh t1.gh m) :
  ∃v,s'=s.put d v/\ae cf t1 (.loadK d (.t m))=some (t1.put d v):=by
 have he:ah t1.env (.t m)=ah s.env (.t m):=by simp only[ah,hm]
 simp only[ae,he] at h ⊢;split at h
 ·rename_i b gen i hp
  simp only[aE] at h;obtain⟨v,hv,rfl⟩:=h;have hk':b<s.gh.length/\t1.gh[b]?=s.gh[b]?:=by unfold keptB at hk;rw[BN hp] at hk;exact hk
  refine⟨v,rfl,?_⟩;simp only[iQ,hk'.2] at hv ⊢;rw[hv];rfl
 ·cases h
theorem qR {agg:Bool} {t1:St} (h:ae cf s (.load d agg k (.t m))=some s') (hm:get t1.env m=get s.env m) (hk:keptB s.env s.gh t1.gh m) :
  ∃v,s'=s.put d v/\ae cf t1 (.load d agg k (.t m))=some (t1.put d v):=by
 have he:ah t1.env (.t m)=ah s.env (.t m):=by simp only[ah,hm]
 simp only[ae,he] at h ⊢;split at h
 ·rename_i g b off hp
  have hg:=BK hp;unfold keptB at hk;rw[hg] at hk;cases g with
  |false=>exact hk.elim
  | true=>
   simp only[aC,aE] at h;obtain⟨cs,hc,v,hv,rfl⟩:=h;refine⟨degr v,rfl,?_⟩;have hc':t1.cellsAt true b=some cs:=by simp only[St.cellsAt,if_true] at hc ⊢;rw[hk.2];exact hc
   simp[hc',hv]
 ·rename_i p off hp
  unfold keptB at hk;rw[BM hp] at hk;exact hk.elim
 ·cases h
theorem qT {agg:Bool} {t1:St} (h:ae cf s (.loadB d agg k x n)=some s') (hx:ah t1.env x=ah s.env x) (hn:get t1.env n=get s.env n) (hk:keptB s.env s.gh t1.gh n) :
  ∃v,s'=s.put d v/\ae cf t1 (.loadB d agg k x n)=some (t1.put d v):=by
 simp only[ae,hx,hn] at h ⊢;split at h
 ·rename_i b off b' o' hp hq
  split at h
  ·rename_i hb
   subst hb;simp only[aC,aE] at h;obtain⟨cs,hc,v,hv,rfl⟩:=h;refine⟨degr v,rfl,?_⟩;unfold keptB at hk;rw[hq] at hk;have hc':t1.cellsAt true b=some cs:=by simp only[St.cellsAt,if_true] at hc ⊢;rw[hk.2];exact hc
   simp[hc',hv]
  ·cases h
 ·cases h
theorem qU {t1:St} (h:ae cf s (.loadKB d x n)=some s') (hx:ah t1.env x=ah s.env x) (hn:get t1.env n=get s.env n) (hk:keptB s.env s.gh t1.gh n) :
  ∃v,s'=s.put d v/\ae cf t1 (.loadKB d x n)=some (t1.put d v):=by simp[ae] at h
theorem nr {agg:Bool} {t1:St} (h:ae cf s (.loadJ d agg k x)=some s') (hx:ah t1.env x=ah s.env x) (hk:t1.lh=s.lh) :
  ∃v,s'=s.put d v/\ae cf t1 (.loadJ d agg k x)=some (t1.put d v):=by
 simp only[ae,hx] at h ⊢;split at h
 ·simp only[aC,aE] at h
  obtain⟨cs,hc,v,hv,rfl⟩:=h;refine⟨degr v,rfl,?_⟩;simp only[St.cellsAt,bP,if_false] at hc ⊢;simp[hk,hc,hv]
 ·cases h
theorem iC {d:Option Nat} (h:ae cf s (.callP d f xs ns)=some s'):s'.lh=s.lh/\∀n∈ns,keptB s.env s.gh s'.gh n:=by
 simp only[ae,aC] at h;obtain⟨vs,_,s1,h2,h3⟩:=h;split at h3
 ·rename_i hk
  cases h3;refine⟨?_,hk⟩;unfold dV at h2;split at h2
  ·split at h2
   ·simp at h2;rw[<-h2]
   ·cases h2
  ·cases h2
 ·cases h3
theorem uH {d:Option Nat} (h:ae cf s (.callR d f xs n o2)=some s'):s'.lh=s.lh:=by
 simp only[ae,aC] at h;obtain⟨vs,_,h⟩:=h;split at h
 ·unfold fX at h
  simp only[aC] at h;obtain⟨s1,h2,_,_,_,_,_,_,_,_,h3⟩:=h;split at h3
  ·cases h3
   unfold dV at h2;split at h2
   ·split at h2
    ·simp at h2;rw[<-h2]
    ·cases h2
   ·cases h2
  ·cases h3
 ·cases h
theorem nt {bytes:Nat} {sx:IX} (h:ae cf s (.appendP d bytes sx x ns)=some s'):∀n∈ns,keptB s.env s.gh s'.gh n:=by simp[ae] at h
theorem qV {p x:IOp} {d:Nat} (ha:gr ⟨p,none⟩ ⟨x,none⟩=true) (hd:wr p=[d]) (h1:ae cf s p=some s1) (h2:ae cf s1 x=some s2) {v:PV} (hv:s1=s.put d v)
  (hr:∀t1:St,(∀t∈rd p,get t1.env t=get s.env t)->t1.lh=s2.lh->t1.gh=s2.gh->ae cf t1 p=some (t1.put d v)) :
  ∃t1 t2,ae cf s x=some t1/\ae cf t1 p=some t2/\Eqv s2 t2:=by
 simp only[gr,rdG,bI,aY,bS,Bool.not_eq_true',List.contains_eq_mem,decide_eq_false_iff_not] at ha;obtain⟨a1,a2⟩:=ha;rw[hd] at a1;have a1:=a1 d (by simp);have f2:=λt ht=>kI (t:=t) ⟨x,none⟩ h2 ht
 have e1:s1.lh=s.lh:=by rw[hv];rfl
 have e2:s1.gh=s.gh:=by rw[hv];rfl
 have hg1:∀t,t≠d->get s1.env t=get s.env t:=λt ht=>by rw[hv];simp only[St.put,eg];rw[if_neg (Ne.symm ht)]
 obtain⟨t1,g1,g2,g3⟩:=qN (cf:=cf) x s1 s (λt ht=>(hg1 t (λe=>a1.1 (e▸ht))).symm) (fe e1.symm e2.symm) _ h2;have q:=fm g3.two e1.symm e2.symm;have hp:=hr t1 (λt ht=>by rw[g2 t,if_neg (λhw=>a2 t hw ht)]) q.1 q.2;refine⟨t1,_,g1,hp,λt=>?_,q.1,q.2⟩;simp only[St.put,eg];by_cases hdt:d=t
 ·subst hdt
  rw[if_pos rfl,f2 d a1.2,hv];simp[St.put,eg]
 ·rw[if_neg hdt,g2 t]
  by_cases hw:t∈wr x
  ·rw[if_pos hw]
  ·rw[if_neg hw,f2 t hw,hg1 t (Ne.symm hdt)]
theorem kK {p x:IOp} (ha:gr ⟨p,none⟩ ⟨x,none⟩=true) (hd:wr x=[d]) (h1:ae cf s p=some s1) (h2:ae cf s1 x=some s2) (hv:s2=s1.put d v) (hr:ae cf s x=some (s.put d v)) :
  ∃t1 t2,ae cf s x=some t1/\ae cf t1 p=some t2/\Eqv s2 t2:=by
 simp only[gr,rdG,bI,aY,bS,Bool.not_eq_true',List.contains_eq_mem,decide_eq_false_iff_not] at ha;obtain⟨a1,a2⟩:=ha;rw[hd] at a2;have a2:=a2 d (by simp);have f1:=λt ht=>kI (t:=t) ⟨p,none⟩ h1 ht
 have hg:∀t,t≠d->get (s.put d v).env t=get s.env t:=λt ht=>by simp only[St.put,eg];rw[if_neg (Ne.symm ht)]
 obtain⟨t2,g1,g2,g3⟩:=qN (cf:=cf) p s (s.put d v) (λt ht=>hg t (λe=>a2 (e▸ht))) (fe rfl rfl) _ h1;have q:=fm g3.two rfl rfl;refine⟨_,t2,hr,g1,λt=>?_,by rw[hv];exact q.1,by rw[hv];exact q.2⟩;rw[g2 t,hv];simp only[St.put,eg];by_cases hw:t∈wr p
 ·rw[if_pos hw]
  have:d≠t:=λe=>by have:=(a1 t hw).2;rw[hd] at this;exact this (by simp[e])
  rw[if_neg this]
 ·rw[if_neg hw]
  by_cases hdt:d=t
  ·rw[if_pos hdt,if_pos hdt]
  ·rw[if_neg hdt,if_neg hdt,f1 t hw]
theorem kL {gh:List GObj} {z:Nat} {ys:List PV} {o o2:Bool} (h:gh[b]?=some (.cells cs)) (hc:cs[off]?=some (.sl o z ys)):fc gh b off o2=some (gh.set b (.cells (cs.set off (.sl o2 z ys)))):=by simp[fc,h,hc]
theorem nu {α:Type} {l:List α} {x:α} (h:l[i]?=some x):l.set i x=l:=by
 apply List.ext_getElem?;intro j;rw[cF];by_cases hij:i=j
 ·subst hij;rw[if_pos rfl,if_pos (aD.1 h).1,h]
 ·rw[if_neg hij]
theorem uJ {x:PV} (h:off<cs.length):bj cs off [x]=cs.set off x:=by unfold bj;rw[List.set_eq_take_append_cons_drop,if_pos h];simp
theorem BO {ax:IX} {dd:Option Nat} (ha:gr ⟨.loadTB d ax m o2,none⟩ ⟨.callR dd f xs m o2,none⟩=true) (h1:ae cf s (.loadTB d ax m o2)=some s1) (h2:ae cf s1 (.callR dd f xs m o2)=some s2) :
  ∃t1 t2,ae cf s (.callR dd f xs m o2)=some t1/\ae cf t1 (.loadTB d ax m o2)=some t2/\Eqv s2 t2:=by
 simp only[gr,rdG,bI,aY,bS,Bool.not_eq_true',List.contains_eq_mem,decide_eq_false_iff_not] at ha;obtain⟨a1,a2⟩:=ha;have a1d:=a1 d (by simp[wr,cg]);simp only[rd,List.mem_cons,not_or] at a1d;obtain⟨⟨dm,dx⟩,dw⟩:=a1d;simp only[ae] at h1;split at h1<;>try (cases h1;done)
 rename_i b off b' o hp hgm;split at h1<;>try (cases h1;done)
 rename_i hbo;obtain⟨rfl,rfl⟩:=hbo;simp only[aC,aE] at h1;obtain⟨cs,hcs,v0,hv0,rfl⟩:=h1;have hm1:get ((s.setCells true b (bj cs (o+o2) [aa v0])).put d v0).env m=some (.ptr true b o):=by simp only[St.put,eg];rw[if_neg dm,kG];exact hgm
 have hxs:cZ ((s.setCells true b (bj cs (o+o2) [aa v0])).put d v0).env xs=cZ s.env xs:=hU (λt ht=>by simp only[St.put,eg];rw[if_neg (λ(e:d=t)=>dx (by rw[e];exact ht)),kG]);simp only[ae,hm1,hxs,aC] at h2;obtain⟨vs,hvs,h2⟩:=h2;have hgb:s.gh[b]?=some (.cells cs):=by
  simp only[St.cellsAt,if_true] at hcs;split at hcs
  ·rename_i hx;cases hcs;exact hx
  ·cases hcs
 have hoff:(o+o2)<cs.length:=(aD.1 hv0).1;have hbl:b<s.gh.length:=(aD.1 hgb).1;have hs1g:((s.setCells true b (bj cs (o+o2) [aa v0])).put d v0).gh=s.gh.set b (.cells (cs.set (o+o2) (aa v0))):=by simp only[St.put,St.setCells,if_true];rw[uJ hoff]
 have hs1l:((s.setCells true b (bj cs (o+o2) [aa v0])).put d v0).lh=s.lh:=rfl;unfold fX at h2;simp only[aC] at h2;obtain⟨s3,c1,g1,c2,g2,c3,r1,c4,r2,c5,c6⟩:=h2;split at c6
 case isFalse=>cases c6
 rename_i hc;cases c6;obtain⟨k1,k2,k3,k4,k5⟩:=hc;rw[hs1g] at c2 c3
 -- the cell holds a list
 obtain⟨ow,z,ys,rfl⟩:∃o z ys,v0= .sl o z ys:=by
  have e:(s.gh.set b (.cells (cs.set (o+o2) (aa v0))))[b]?=some (.cells (cs.set (o+o2) (aa v0))):=by simp[hbl]
  simp only[fc,e] at c2;have e2:(cs.set (o+o2) (aa v0))[(o+o2)]?=some (aa v0):=by simp[hoff]
  rw[e2] at c2;split at c2<;>try (cases c2;done)
  rename_i hz;cases v0<;>simp[aa] at hz;exact⟨_,_,_,rfl⟩
 have hset:∀q2,fc (s.gh.set b (.cells (cs.set (o+o2) (aa (.sl ow z ys))))) b (o+o2) q2=fc s.gh b (o+o2) q2:=by intro q2;rw[kL hgb hv0,kL (cs:=cs.set (o+o2) (.sl false z ys)) (o:=false) (z:=z) (ys:=ys) (by simp[hbl,aa]) (by simp[hoff])];simp
 rw[hset] at c2 c3;have hg2:g2=s.gh.set b (.cells (cs.set (o+o2) (.sl false z ys))):=by rw[kL hgb hv0] at c3;exact (cW c3).symm
 have hg1:g1=s.gh.set b (.cells (cs.set (o+o2) (.sl true z ys))):=by rw[kL hgb hv0] at c2;exact (cW c2).symm
 -- the call, behind the load
 unfold dV at c1;split at c1
 case isFalse=>cases c1
 rename_i hok;rw[hs1g] at c1;have e2:s.gh.set b (.cells (cs.set (o+o2) (aa (.sl ow z ys))))=g2:=by rw[hg2];rfl
 rw[e2,c5] at c1;simp at c1
 -- what the cell holds now
 have ecs:cs.set (o+o2) (.sl ow z ys)=cs:=nu hv0;have hnow:(if ow then g1 else g2)=s.gh:=by
  cases ow
  ·simp only[bP,if_false];rw[hg2,ecs];exact nu hgb
  ·simp only[if_true];rw[hg1,ecs];exact nu hgb
 have hcall:cf f vs s.gh=some (if ow then r1 else r2):=by
  cases ow
  ·simp only[bP,if_false] at hnow ⊢;rw[<-hnow];exact c5
  ·simp only[if_true] at hnow ⊢;rw[<-hnow];exact c4
 generalize hrr:(if ow then r1 else r2)=rr at hcall;have hrr1:rr.1=r2.1:=by rw[<-hrr];cases ow<;>simp[k1]
 have hrrb:rr.2[b]?=some (.cells cs):=by
  rw[<-hrr,<-hgb,<-hnow];cases ow
  ·simpa using k3
  ·simpa using k2
 have hrr2:fc rr.2 b (o+o2) false=some r2.2:=by
  rw[<-hrr];cases ow
  ·simp only[bP,if_false]
   have e3:r2.2[b]?=some (.cells cs):=by rw[k3];simp only[bP,if_false] at hnow;rw[hnow];exact hgb
   rw[kL e3 hv0,ecs,nu e3]
  ·simpa using k4
 refine⟨⟨eu s.env dd rr.1,s.lh,rr.2⟩,((⟨eu s.env dd rr.1,s.lh,rr.2⟩:St).setCells true b (bj cs (o+o2) [aa (.sl ow z ys)])).put d (.sl ow z ys),?_,?_,?_⟩
 ·simp only[ae,hvs,hgm,cC]
  unfold fX;simp only[dV,if_pos hok,hcall,c2,c3,c4,c5,cC];simp[k1,k2,k3,k4,k5]
 ·have hm2:get (eu s.env dd rr.1) m=some (.ptr true b o):=by
   have:m∉wr (.callR dd f xs m o2):=λhw=>a2 m hw (by simp[rd])
   cases dd with
   |none=>exact hgm
   |some q=>
    simp only[eu,eg];rw[if_neg (λe=>this (by simp[wr,cg,e]))];exact hgm
  have hx2:ah (eu s.env dd rr.1) ax=some (.ptr true b (o+o2)):=by
   rw[<-hp];refine cr λt ht=>?_
   have:t∉wr (.callR dd f xs m o2):=λhw=>a2 t hw (by simp[rd,ht])
   cases dd with
   |none=>rfl
   |some q=>simp only[eu,eg];rw[if_neg (λe=>this (by simp[wr,cg,e]))]
  have hcl:(⟨eu s.env dd rr.1,s.lh,rr.2⟩:St).cellsAt true b=some cs:=by simp only[St.cellsAt,if_true,hrrb]
  simp only[ae,hx2,hm2,hcl,cC,hv0,cD];simp
 ·have hs2:s2=⟨eu ((s.setCells true b (bj cs (o+o2) [aa (.sl ow z ys)])).put d (.sl ow z ys)).env dd r2.1,s.lh,r2.2⟩:=c1.symm
  refine⟨λt=>?_,by rw[hs2];rfl,?_⟩
  ·rw[hs2]
   simp only[St.put,kG,hrr1];cases dd with
   |none=>rfl
   |some q=>
    have hqd:q≠d:=λe=>dw (by simp[wr,cg,e])
    simp only[eu,eg];by_cases h3:d=t
    ·subst h3;simp[hqd]
    ·simp[h3]
  ·rw[hs2]
   simp only[St.put,St.setCells,if_true];rw[uJ hoff];rw[kL hrrb hv0] at hrr2;exact cW hrr2
theorem qW {v':PV} (h:s.put d v=s.put d v'):v=v':=by
 have h1:get (s.put d v).env d=get (s.put d v').env d:=by rw[h]
 simpa [St.put,eg] using h1
theorem uK {a:IX} (h:ae cf s (.loadK d a)=some s'):∃v,s'=s.put d v:=by
 simp only[ae] at h;split at h
 ·simp only[aE] at h
  obtain⟨v,_,rfl⟩:=h;exact⟨v,rfl⟩
 ·cases h
theorem uL {agg:Bool} {a:IX} (h:ae cf s (.load d agg k a)=some s'):∃v,s'=s.put d v:=by
 simp only[ae] at h;split at h
 ·simp only[aC,aE] at h
  obtain⟨_,_,v,_,rfl⟩:=h;exact⟨_,rfl⟩
 ·simp only[aE] at h
  obtain⟨v,_,rfl⟩:=h;exact⟨v,rfl⟩
 ·cases h
theorem uM {agg:Bool} {a:IX} (h:ae cf s (.loadB d agg k a n)=some s'):∃v,s'=s.put d v:=by
 simp only[ae] at h;split at h
 ·split at h
  ·simp only[aC,aE] at h
   obtain⟨_,_,v,_,rfl⟩:=h;exact⟨_,rfl⟩
  ·cases h
 ·cases h
theorem uN {a:IX} (h:ae cf s (.loadKB d a n)=some s'):∃v,s'=s.put d v:=by simp[ae] at h
theorem uP {agg:Bool} {a:IX} (h:ae cf s (.loadJ d agg k a)=some s'):∃v,s'=s.put d v:=by
 simp only[ae] at h;split at h
 ·simp only[aC,aE] at h
  obtain⟨_,_,v,_,rfl⟩:=h;exact⟨_,rfl⟩
 ·cases h
theorem jq {p x:IOp} {d m:Nat} (ha:gr ⟨p,none⟩ ⟨x,none⟩=true) (hv:∃v,s1=s.put d v) (h1:ae cf s p=some s1) (h2:ae cf s1 x=some s2) (hd:wr p=[d]) (hmd:m≠d) (hk:keptB s1.env s1.gh s2.gh m)
  (hr:∀t1:St,(∀t∈rd p,get t1.env t=get s.env t)->keptB s.env s.gh t1.gh m->∃v,s1=s.put d v/\ae cf t1 p=some (t1.put d v)) :
  ∃t1 t2,ae cf s x=some t1/\ae cf t1 p=some t2/\Eqv s2 t2:=by
 obtain⟨v,hv⟩:=hv;refine qV ha hd h1 h2 hv λt1 hm _ hg=>?_
 have hk':keptB s.env s.gh t1.gh m:=by
  rw[hg];have e:s1.gh=s.gh:=by rw[hv];rfl
  rw[e] at hk;refine kH ?_ hk;rw[hv];simp only[St.put,eg];rw[if_neg (Ne.symm hmd)]
 obtain⟨v',e1,e2⟩:=hr t1 hm hk';rw[qW (hv.symm.trans e1)];exact e2
theorem BP {x:IOpG} (ha:gr p x=true) (hf:qP p x=true) (h1:opG cf p s=some s1) (h2:opG cf x s1=some s2) :
  ∃t1 t2,opG cf x s=some t1/\opG cf p t1=some t2/\Eqv s2 t2:=by
 obtain⟨po,pg⟩:=p;obtain⟨xo,xg⟩:=x;simp only[qP,aY,Option.isNone_iff_eq_none,Bool.or_eq_true] at hf;obtain⟨⟨rfl,rfl⟩,hf⟩:=hf;have h1':ae cf s po=some s1:=h1;have h2':ae cf s1 xo=some s2:=h2
 show ∃t1 t2,ae cf s xo=some t1/\ae cf t1 po=some t2/\Eqv s2 t2
 have ha':=ha;simp only[gr,rdG,bI,aY,bS,Bool.not_eq_true',List.contains_eq_mem,decide_eq_false_iff_not] at ha';obtain⟨a1,a2⟩:=ha';rcases hf with (hf|hf)|hf
 ·unfold uD at hf
  split at hf<;>try (cases hf;done)
  ·rename_i d m dd f xs ns
   exact jq ha (uK h1') h1' h2' rfl (λe=>(a1 d (by simp[wr,cg])).1 (by simp[rd,<-e];left;simpa using hf)) ((iC h2').2 m (by simpa using hf)) λt1 hm hk=>qQ h1' (hm m (by simp[rd,rdX])) hk
  ·rename_i d agg k m dd f xs ns
   exact jq ha (uL h1') h1' h2' rfl (λe=>(a1 d (by simp[wr,cg])).1 (by simp[rd,<-e];left;simpa using hf)) ((iC h2').2 m (by simpa using hf)) λt1 hm hk=>qR h1' (hm m (by simp[rd,rdX])) hk
  ·rename_i d m dd bytes sx x ns
   exact jq ha (uK h1') h1' h2' rfl (λe=>(a1 d (by simp[wr,cg])).1 (by simp[rd,<-e];left;simpa using hf)) (nt h2' m (by simpa using hf)) λt1 hm hk=>qQ h1' (hm m (by simp[rd,rdX])) hk
  ·rename_i d agg k m dd bytes sx x ns
   exact jq ha (uL h1') h1' h2' rfl (λe=>(a1 d (by simp[wr,cg])).1 (by simp[rd,<-e];left;simpa using hf)) (nt h2' m (by simpa using hf)) λt1 hm hk=>qR h1' (hm m (by simp[rd,rdX])) hk
  ·rename_i d agg k a n dd f xs ns
   exact jq ha (uM h1') h1' h2' rfl (λe=>(a1 d (by simp[wr,cg])).1 (by simp[rd,<-e];left;simpa using hf)) ((iC h2').2 n (by simpa using hf)) λt1 hm hk=>qT h1' (cr (λt ht=>hm t (by simp[rd,ht]))) (hm n (by simp[rd])) hk
  ·rename_i d agg k a n dd bytes sx x ns
   exact jq ha (uM h1') h1' h2' rfl (λe=>(a1 d (by simp[wr,cg])).1 (by simp[rd,<-e];left;simpa using hf)) (nt h2' n (by simpa using hf)) λt1 hm hk=>qT h1' (cr (λt ht=>hm t (by simp[rd,ht]))) (hm n (by simp[rd])) hk
  ·rename_i d a n dd f xs ns
   exact jq ha (uN h1') h1' h2' rfl (λe=>(a1 d (by simp[wr,cg])).1 (by simp[rd,<-e];left;simpa using hf)) ((iC h2').2 n (by simpa using hf)) λt1 hm hk=>qU h1' (cr (λt ht=>hm t (by simp[rd,ht]))) (hm n (by simp[rd])) hk
  ·rename_i d a n dd bytes sx x ns
   exact jq ha (uN h1') h1' h2' rfl (λe=>(a1 d (by simp[wr,cg])).1 (by simp[rd,<-e];left;simpa using hf)) (nt h2' n (by simpa using hf)) λt1 hm hk=>qU h1' (cr (λt ht=>hm t (by simp[rd,ht]))) (hm n (by simp[rd])) hk
  ·rename_i d agg k a dd f xs ns
   obtain⟨v,hv⟩:=uP h1';refine qV ha (by simp[wr,cg]) h1' h2' hv λt1 hm hl _=>?_
   obtain⟨v',e1,e2⟩:=nr h1' (cr (λt ht=>hm t (by simp[rd,ht]))) (hl.trans ((iC h2').1.trans (by rw[hv];rfl)));rw[qW (hv.symm.trans e1)];exact e2
  ·rename_i d agg k a dd f xs n o2
   obtain⟨v,hv⟩:=uP h1';refine qV ha (by simp[wr,cg]) h1' h2' hv λt1 hm hl _=>?_
   obtain⟨v',e1,e2⟩:=nr h1' (cr (λt ht=>hm t (by simp[rd,ht]))) (hl.trans ((uH h2').trans (by rw[hv];rfl)));rw[qW (hv.symm.trans e1)];exact e2
 ·have hx:∀t,t∈rd xo->get s.env t=get s1.env t:=λt ht=>(kI (t:=t) ⟨po,none⟩ h1 (λhw=>(a1 t hw).1 ht)).symm
  unfold uE at hf;split at hf<;>try (cases hf;done)
  ·rename_i dd f xs ns d agg k a n
   have hn:=hx n (by simp[rd]);obtain⟨v,e1,e2⟩:=qT (t1:=s) h2' (cr (λt ht=>hx t (by simp[rd,ht]))) hn (kH hn.symm ((iC h1').2 n (by simpa using hf)).symm);exact kK ha (by simp[wr,cg]) h1' h2' e1 e2
  ·rename_i dd f xs ns d a n
   have hn:=hx n (by simp[rd]);obtain⟨v,e1,e2⟩:=qU (t1:=s) h2' (cr (λt ht=>hx t (by simp[rd,ht]))) hn (kH hn.symm ((iC h1').2 n (by simpa using hf)).symm);exact kK ha (by simp[wr,cg]) h1' h2' e1 e2
  ·rename_i dd f xs ns d agg k m
   have hn:=hx m (by simp[rd,rdX]);obtain⟨v,e1,e2⟩:=qR (t1:=s) h2' hn (kH hn.symm ((iC h1').2 m (by simpa using hf)).symm);exact kK ha (by simp[wr,cg]) h1' h2' e1 e2
  ·rename_i dd f xs ns d m
   have hn:=hx m (by simp[rd,rdX]);obtain⟨v,e1,e2⟩:=qQ (t1:=s) h2' hn (kH hn.symm ((iC h1').2 m (by simpa using hf)).symm);exact kK ha (by simp[wr,cg]) h1' h2' e1 e2
  ·rename_i dd f xs ns d agg k a
   obtain⟨v,e1,e2⟩:=nr (t1:=s) h2' (cr (λt ht=>hx t (by simp[rd,ht]))) (iC h1').1.symm;exact kK ha (by simp[wr,cg]) h1' h2' e1 e2
  ·rename_i dd f xs n o2 d agg k a
   obtain⟨v,e1,e2⟩:=nr (t1:=s) h2' (cr (λt ht=>hx t (by simp[rd,ht]))) (uH h1').symm;exact kK ha (by simp[wr,cg]) h1' h2' e1 e2
 ·unfold uF at hf
  split at hf<;>try (cases hf;done)
  simp only[aY,cX] at hf;obtain⟨rfl,rfl⟩:=hf;exact BO ha h1' h2'
theorem BQ {x:IOpG} (h:nq p x=true) (h1:opG cf p s=some s1) (h2:opG cf x s1=some s2) :
  ∃t1 t2,opG cf x s=some t1/\opG cf p t1=some t2/\Eqv s2 t2:=by
 simp only[nq,aY,Bool.or_eq_true] at h;rcases h.2 with (h3|h3)|h3
 ·exact BI h.1 h3 h1 h2
 ·exact BJ h.1 h3 h1 h2
 ·exact BP h.1 h3 h1 h2
theorem Eqv.refl (s:St):Eqv s s:=⟨λ_=>rfl,rfl,rfl⟩
theorem Eqv.trans (h:Eqv s s1) (h2:Eqv s1 s2):Eqv s s2:=⟨λt=>(h2.1 t).trans (h.1 t),h2.2.1.trans h.2.1,h2.2.2.trans h.2.2⟩
theorem BR {i:IOpG} (h:opG cf i s=some s') (he:Eqv s s2):∃s2',opG cf i s2=some s2'/\Eqv s' s2':=by
 obtain⟨s2',h1,h2,h3⟩:=lO (s2:=s2) i (λt _=>he.1 t) (fe he.2.1 he.2.2) h;refine⟨s2',h1,λt=>?_,fm h3 he.2.1 he.2.2⟩;rw[h2 t];by_cases hw:t∈wr i.op
 ·rw[if_pos hw]
 ·rw[if_neg hw,he.1 t,kI i h hw]
theorem uQ:∀{l:List IOpG} {s s' s2:St},dF cf l s=some s'->Eqv s s2->∃s2',dF cf l s2=some s2'/\Eqv s' s2'
 |[],s,s',s2,h,he=>by simp[dF] at h;subst h;exact⟨s2,rfl,he⟩
 |i::l,s,s',s2,h,he=>by rw[kC,aC] at h;obtain⟨s1,h1,h2⟩:=h;obtain⟨s3,h3,h4⟩:=BR h1 he;obtain⟨s4,h5,h6⟩:=uQ h2 h4;exact⟨s4,by rw[kC,h3];exact h5,h6⟩
theorem uR {x:IOpG} {suf:List IOpG}:∀{pre:List IOpG} {s s':St},dF cf (pre++x::suf) s=some s'->(∀p∈pre,nq p x=true)->
  ∃t1 t',opG cf x s=some t1/\dF cf (pre++suf) t1=some t'/\Eqv s' t'
 |[],s,s',h,_=>by rw[bI,kC,aC] at h;obtain⟨t1,h1,h2⟩:=h;exact⟨t1,s',h1,h2,Eqv.refl s'⟩
 |p::pre,s,s',h,hp=>by rw[bJ,kC,aC] at h;obtain⟨s1,h1,h2⟩:=h;obtain⟨s2,s'',h3,h4,h5⟩:=uR h2 (λq hq=>hp q (by simp[hq]));obtain⟨t1,t2,h6,h7,h8⟩:=BQ (hp p (by simp)) h1 h3;obtain⟨t',h9,h10⟩:=uQ h4 h8;exact⟨t1,t',h6,by rw[bJ,kC,h7];exact h9,h5.trans h10⟩
theorem Inv.eqv (hI:Inv fi M w s a) (h:Eqv s s2):Inv fi M w s2 a where
 env:=λt v hv=>hI.env t v (by rw[<-h.1 t];exact hv)
 defers:=hI.defers
 lbl:=by rw[h.2.1];exact hI.lbl
 gbl:=by rw[h.2.2];exact hI.gbl
 nodup:=hI.nodup
 lh:=by rw[h.2.1];exact hI.lh
 gh:=by rw[h.2.2];exact hI.gh
 gl:=hI.gl
 immlt:=hI.immlt
 ownlt:=hI.ownlt
 gblt:=hI.gblt
theorem Eqv.symm (h:Eqv s s2):Eqv s2 s:=⟨λt=>(h.1 t).symm,h.2.1.symm,h.2.2.symm⟩
end
end
section
open Go.RowKit
section
variable {fi:FI} {M M':Mem} {w w':World} {P:Program} {s s' s1 s2 t1 t2:St} {a:Act} {cf:CallF}
def lP (ops:Array Oper):Nat->Nat->Nat->Bool
 |0,_,_=>false
 |f+1,i,j=>match ops[i]? with
  |some o=>o.after.any λe=>Region.binds .any e&&(e.on==j||(decide (j<e.on)&&lP ops f e.on j))
  |none=>false
def qX (ops:Array Oper) (is:List IOpG):Bool:=
 (List.range ops.size).all λi=>
  (match ops[i]? with
   |some o=>o.after.all λe=> !Region.binds .any e||decide (e.on<i)
   |none=>true) &&
  (List.range i).all λj=>lP ops ops.size i j||(match is[j]?,is[i]? with
   |some p,some x=>nq p x
   |_,_=>false)
def nth (is:List IOpG) (j:Nat):IOpG:=(is[j]?).getD ⟨.mkmap 0,none⟩
def rest (ops:Array Oper) (listed:Array Bool):List Nat:=(List.range ops.size).filter λj=> !listed.getD j true
def uS (ops:Array Oper) (listed:Array Bool):Prop:=
 ∀(i:Nat) (o:Oper) (e:Edge),ops[i]?=some o->listed.getD i false=true->e∈o.after->Region.binds .any e=true->listed.getD e.on false=true
theorem uT {ops:Array Oper} {listed:Array Bool} (hc:uS ops listed):∀(f i j:Nat),lP ops f i j=true->
  (∀o,ops[i]?=some o->∀e∈o.after,Region.binds .any e=true->listed.getD e.on false=true)->listed.getD j false=true
 |0,i,j,h,_=>by simp[lP] at h
 | f+1,i,j,h,hp=>by
  simp only[lP] at h;split at h
  ·rename_i o ho
   obtain⟨e,he,h1⟩:=Array.any_eq_true'.1 h;simp only[aY,Bool.or_eq_true,cX,aH] at h1;have hl:=hp o ho e he h1.1;rcases h1.2 with h2|⟨_,h2⟩
   ·rw[<-h2];exact hl
   ·exact uT hc f e.on j h2 (λo' ho' e' he' hb=>hc e.on o' e' ho' hl he' hb)
  ·cases h
theorem qY {N:Nat} {ops:Array Oper}:∀{is:List IOpG} {os:List Oper},gE P fi N ops is os=true->is.length=os.length/\∀(i:Nat) (o:Oper),os[i]?=some o->∃x,is[i]?=some x/\kB P fi N ops x o=true
 |[],[],_=>by simp
 |[],_::_,h=>by simp[gE] at h
 |_::_,[],h=>by simp[gE] at h
 |x::is,o::os,h=>by
  simp only[gE,aY] at h;obtain⟨h1,h2⟩:=qY h.2;refine⟨by simp[h1],λi o' ho=>?_⟩;cases i with
  |zero=>simp at ho;subst ho;exact⟨x,rfl,h.1⟩
  |succ i=>obtain⟨y,e1,e2⟩:=h2 i o' (by simpa using ho);exact⟨y,by simpa using e1,e2⟩
theorem BT {ops:Array Oper} {listed:Array Bool} {i:Nat} (hs:listed.size=ops.size) (hi:i<ops.size) (hu:listed.getD i true=false) :
  ∃pre suf,rest ops listed=pre++i::suf/\rest ops (listed.setIfInBounds i true)=pre++suf/\∀j∈pre,j<i/\listed.getD j true=false:=by
 refine⟨(List.range i).filter λj=> !listed.getD j true,(List.range' (i+1) (ops.size-i-1)).filter λj=> !listed.getD j true,?_,?_,λj hj=>?_⟩
 ·have e:List.range ops.size=List.range i++i::List.range' (i+1) (ops.size-i-1):=by
   rw[List.range_eq_range',List.range_eq_range',<-List.range'_succ,show ops.size-i-1+1=ops.size-i by omega];have:=List.range'_append_1 (s:=0) (m:=i) (n:=ops.size-i);simp only[cR] at this;rw[this];congr 1;omega
  rw[rest,e,List.filter_append,List.filter_cons,hu];rfl
 ·have e:List.range ops.size=List.range i++i::List.range' (i+1) (ops.size-i-1):=by
   rw[List.range_eq_range',List.range_eq_range',<-List.range'_succ,show ops.size-i-1+1=ops.size-i by omega];have:=List.range'_append_1 (s:=0) (m:=i) (n:=ops.size-i);simp only[cR] at this;rw[this];congr 1;omega
  have hi':(listed.setIfInBounds i true).getD i true=true:=by simp[hs,hi]
  rw[rest,e,List.filter_append,List.filter_cons,hi'];simp only[Bool.not_true,bP,if_false]
  congr 1
  ·refine List.filter_congr λj hj=>?_
   have:i≠j:=by simp at hj;omega
   rw[getD_set_ne true this]
  ·refine List.filter_congr λj hj=>?_
   have:i≠j:=by simp[List.mem_range'] at hj;omega
   rw[getD_set_ne true this]
 ·simp only[List.mem_filter,List.mem_range,Bool.not_eq_true'] at hj
  exact hj
theorem BU (hcf:hJ P fi cf) {N:Nat} {ops:Array Oper} {is:List IOpG} {Q:Exit->Act->World->Prop} (hm:gE P fi N ops is ops.toList=true) (hd:qX ops is=true) :
  ∀(fuel:Nat) (listed:Array Bool) (s s1:St) (a:Act) (M:Mem) (w:World),listed.size=ops.size->uS ops listed->(rest ops listed).length<=fuel->Inv fi M w s a->N<=a.tmps.size->
  dF cf ((rest ops listed).map (nth is)) s=some s1->(∀a' M' w',Inv fi M' w' s1 a'->Kp M w M' w'->a'.tmps.size=a.tmps.size->Q .normal a' w')->wpAny P .any ops Q fuel listed a w:=by
 have hnil:∀(listed:Array Bool),listed.size=ops.size->Region.ready .any ops listed=[]->rest ops listed=[]:=by
  intro listed hs hr;have all:∀n i,i<n->i<ops.size->listed.getD i true=true:=by
   intro n
   induction n with
   |zero=>intro i h;omega
   | succ n ih=>
    intro i _ hi;cases hu:listed.getD i true with
    |true=>rfl
    | false=>
     have:i∈Region.ready .any ops listed:=by
      rw[mem_ready];refine⟨hu,ops[i],Array.getElem?_eq_getElem hi,λe he hb=>?_⟩;have h1:=bS.1 hd i (by simp[hi]);rw[aY,Array.getElem?_eq_getElem hi] at h1;have h2:=Array.all_eq_true_iff_forall_mem.1 h1.1 e he;rw[hb] at h2;simp at h2;have h3:=ih e.on (by omega) (by omega);have h4:e.on<listed.size:=by omega
      simpa [h4] using h3
     rw[hr] at this;cases this
  rw[rest,List.filter_eq_nil_iff];intro i hi;simp at hi;simp only[all (i+1) i (by omega) hi,Bool.not_true,bP,not_false_eq_true]
 obtain⟨hlen,hget⟩:=qY hm;intro fuel
 induction fuel with
 | zero=>
  intro listed s s1 a M w hs hcl hf hI hN hrun hn;have hr:rest ops listed=[]:=List.length_eq_zero_iff.1 (by omega);rw[hr] at hrun;simp[dF] at hrun;subst hrun;refine⟨?_,hn a M w hI (Kp.refl M w) rfl⟩;rw[List.eq_nil_iff_forall_not_mem];intro i hi;rw[mem_ready] at hi;obtain⟨h1,o,h2,_⟩:=hi;have h3:i∈rest ops listed:=by rw[rest,List.mem_filter];exact⟨by simp[(Array.getElem?_eq_some_iff.1 h2).1],by rw[h1];rfl⟩
  rw[hr] at h3;cases h3
 | succ fuel ih=>
  intro listed s s1 a M w hs hcl hf hI hN hrun hn;refine⟨λhr=>?_,λi hi=>?_⟩
  ·rw[hnil listed hs hr] at hrun
   simp[dF] at hrun;subst hrun;exact hn a M w hI (Kp.refl M w) rfl
  ·rw [mem_ready] at hi
   obtain⟨hu,o,ho,hedge⟩:=hi;have hlt:i<ops.size:=(Array.getElem?_eq_some_iff.1 ho).1;obtain⟨pre,suf,e1,e2,e3⟩:=BT hs hlt hu;obtain⟨x,hx,hmx⟩:=hget i o (by simpa using ho);have hnx:nth is i=x:=by simp[nth,hx]
   rw[e1,bK,bQ,hnx] at hrun;obtain⟨u1,u2,h1,h2,h3⟩:=uR hrun (λp hp=>by
    obtain⟨j,hj,rfl⟩:=List.mem_map.1 hp;obtain⟨j1,j2⟩:=e3 j hj;have hdi:=bS.1 hd i (by simp[hlt]);rw[aY] at hdi;have hdj:=bS.1 hdi.2 j (by simp[j1]);rw[Bool.or_eq_true] at hdj;rcases hdj with hdj|hdj
    ·have:=uT hcl _ i j hdj (λo' ho' e he hb=>by rw[ho] at ho';cases ho';exact hedge e he hb)
     have hjs:j<listed.size:=by omega
     simp[hjs] at this j2;rw[this] at j2;cases j2
    ·split at hdj
     ·rename_i p' x' hp' hx'
      rw[hx] at hx';cases hx';simpa [nth,hp'] using hdj
     ·cases hdj)
   unfold wpOp;rw[ho]
   have:=lM (Q:=Q) (next:=wpAny P .any ops Q fuel (listed.setIfInBounds i true)) hcf hI hmx hN h1 (λa' M' w' hI' hk hsz=>
    ih (listed.setIfInBounds i true) u1 u2 a' M' w' (by simp[hs]) (λk o' e ho' hl he hb=>by
     by_cases hki:i=k
     ·subst hki
      rw[ho] at ho';cases ho';exact getD_set_true (hedge e he hb)
     ·rw[getD_set_ne false hki] at hl
      exact getD_set_true (hcl k o' e ho' hl he hb)) (by rw[e2];rw[e1] at hf;simp at hf ⊢;omega) hI' (by omega) (by rw[e2,bK];exact h2)
     (λa2 M2 w2 hI2 hk2 hs2=>hn a2 M2 w2 (hI2.eqv h3.symm) (hk.trans hk2) (hs2.trans hsz)))
   simp only;split
   ·rename_i hw;rw[if_pos hw] at this;exact .inl this
   ·rename_i hw;rw[if_neg hw] at this;exact this
theorem BW (is:List IOpG):(List.range is.length).map (nth is)=is:=by
 apply List.ext_getElem?;intro j;by_cases hj:j<is.length
 ·simp[nth,hj]
 ·simp[hj]
theorem B3 (hP:P.follows .mixedOrders=true) (hcf:hJ P fi cf) {N id:Nat} {ops:Array Oper} {is:List IOpG} {Q:Exit->Act->World->Prop} (hm:gE P fi N ops is ops.toList=true) (hd:qX ops is=true) (hI:Inv fi M w s a) (hN:N<=a.tmps.size)
  (h:dF cf is s=some s') (hn:∀a' M' w',Inv fi M' w' s' a'->Kp M w M' w'->a'.tmps.size=a.tmps.size->Q .normal a' w'):(Code.region id ops true).wp P Q a w:=by
 have hlen:is.length=ops.size:=by rw[(qY hm).1];simp
 obtain⟨hI',hk⟩:=hI.drew;refine wp_region_any hP (BU hcf hm hd ops.size _ s s' a M w.drew (by simp) ?_ ?_ hI' hN ?_ (λa' M' w' h1 h2 h3=>hn a' M' w' h1 (hk.trans h2) h3))
 ·intro i o e ho hl
  have hi:=(Array.getElem?_eq_some_iff.1 ho).1;simp[hi] at hl
 ·exact bW (List.length_filter_le _ _) (by simp)
 ·have hr:rest ops (Array.replicate ops.size false)=List.range ops.size:=by
   rw[rest,List.filter_eq_self];intro j hj;simp at hj;simp[hj]
  rw[hr,<-hlen,BW];exact h
end
end
section
open Go.RowKit
section
variable {fi:FI} {M M':Mem} {w w':World} {P:Program} {s s' s1 s2 t1 t2:St} {a:Act} {cf:CallF} {pg:Prg}
def ez (P:Program) (fi:FI) (N:Nat):ICode->Code->Bool
 | .post ic _ _,c=>ez P fi N ic c
 | .cut ic,c=>ez P fi N ic c
 | .bad,_=>true
 | .skip,.skip=>true
 | .region is d,.region _ ops d'=>d==d'&&gE P fi N ops is ops.toList&&(!d||qX ops is)
 | .seq a b,.seq x y=>ez P fi N a x&&ez P fi N b y
 | .cond x a b,.cond o c d=>mX fi x o&&ez P fi N a c&&ez P fi N b d
 | .block i a,.block j c=>i==j&&ez P fi N a c
 | .loop a,.loop c=>ez P fi N a c
 | .exit i,.exit j=>i==j
 | .ret,.ret=>true
 |_,_=>false
def uU:ag->Exit
 | .normal=> .normal
 | .exit i=> .exit i
 | .ret=> .ret
theorem nv {nl:Nat} {e:List (Nat×PV)}:∀{ks:List Nat} {t:Nat} {v:PV},get (keep nl ks e) t=some v->get e t=some v/\co nl v=true
 |[],t,v,h=>by simp[keep,get] at h
 | k::ks,t,v,h=>by
  simp only[keep] at h;cases hk:get e k with
  |none=>rw[hk] at h;exact nv h
  | some u=>
   rw[hk] at h;simp only at h;split at h
   ·rename_i hs
    simp only[get] at h;split at h
    ·rename_i hkt;subst hkt;cases h;exact⟨hk,hs⟩
    ·exact nv h
   ·exact nv h
theorem Inv.keep (hI:Inv fi M w s a) (ks:List Nat) (nl:Nat) :
  Inv fi {M with lb:=M.lb.take nl } w ⟨Lw.keep nl ks s.env,s.lh.take nl,s.gh⟩ a/\Kp M w {M with lb:=M.lb.take nl } w:=by
 have hx:Ext M w {M with lb:=M.lb.take nl } w:=⟨λ_ _ h=>h,λ_ _ h=>h,λ_ _ _=>rfl,λ_ _=>⟨cQ _,λ_=>rfl⟩⟩
 have hsub:∀b,b∈M.lb.take nl->b∈M.lb:=λb h=>cJ h
 have ow:∀{l:Loc} {z:Nat} {xs:List PV} {v:Value},OwnRep fi M w l z xs v->OwnRep fi {M with lb:=M.lb.take nl } w l z xs v:=by
  intro l z xs v h;obtain⟨h1,h2⟩:=h;refine⟨h1.mono hx,?_⟩;rcases h2 with h2|⟨b,o,c,cs,e,hv,ho,hh,hs,hk,hb1,hb2⟩
  ·exact .inl h2
  ·exact .inr ⟨b,o,c,cs,e,hv,ho,hh,hs,hk,λh=>hb1 (hsub b h),hb2⟩
 have rc:∀{l:Loc} {p:PV} {v:Value},RepC fi M w l p v->RepC fi {M with lb:=M.lb.take nl } w l p v:=by
  intro l p v h;unfold RepC at *;split at h
  ·exact ow h
  ·exact h.mono hx
 have rb:∀{mk:Nat->Loc} {blk:Nat} {cs:List PV},RepBox fi M w mk blk cs->RepBox fi {M with lb:=M.lb.take nl } w mk blk cs:=by intro mk blk cs h;obtain⟨h1,h2,h3,h4,vs,T,h5,h6,h7⟩:=h;exact⟨h1,h2,h3,h4,vs,T,h5,h6,λi c u hc hu=>rc (h7 i c u hc hu)⟩
 refine⟨⟨λt v hv=>?_,hI.defers,by simp[hI.lbl],hI.gbl,?_,λi cs blk h1 h2=>?_,λi o blk h1 h2=>?_,hI.gl,hI.immlt,hI.ownlt,hI.gblt⟩,
  ⟨rfl,rfl,rfl,cQ _,hx,λ_ _ _ _ _=>rfl,λk h=> .inl (hsub k h),λ_ h=> .inl h,λ_ _ h=>h,λ_ _ h=> .inl h⟩⟩
 ·obtain⟨h1,h2⟩:=nv hv
  obtain⟨h3,h4⟩:=hI.env t v h1;refine⟨h3,?_⟩;unfold RepAt at *;split at h4
  ·exact ow h4
  ·obtain⟨h0,b,T,c,hv,hc,ho,hh,hk,hb1,hb2⟩:=h4
   exact⟨h0,b,T,c,hv,hc,ho,hh,hk,λh=>hb1 (hsub b h),hb2⟩
  ·obtain⟨vs,e1,e2,e3⟩:=h4
   exact⟨vs,e1,e2,λi c u hc hu=>rc (e3 i c u hc hu)⟩
  ·obtain⟨vs,e1,e2,e3⟩:=h4
   exact⟨vs,e1,e2,λi c u hc hu=>rc (e3 i c u hc hu)⟩
  ·unfold RepE at *
   split at h4
   ·obtain⟨blk,e1,e2⟩:=h4
    simp only[co,aH] at h2;exact⟨blk,by simp only[cE,h2,if_true];exact e1,e2⟩
   ·obtain⟨blk,A,c,e1,e2⟩:=h4
    simp only[co,aH] at h2;exact⟨blk,A,c,by simp only[cE,h2,if_true];exact e1,e2⟩
   ·exact h4.mono hx
 ·have:=hI.nodup
  rw[cM] at this ⊢;exact⟨this.1.sublist (List.take_sublist _ _),this.2.1,λx hx y hy=>this.2.2 x (hsub x hx) y hy⟩
 ·simp only[cE] at h1 h2
  split at h1
  ·rename_i hlt
   rw[if_pos hlt] at h2;exact rb (hI.lh i cs blk h1 h2)
  ·cases h1
 ·have:=hI.gh i o blk h1 h2
  cases o with
  |cells cs=>exact rb this
  |map es=>
   obtain⟨h1,h2,l,clock,h3,h4,h5⟩:=this;exact⟨h1,h2,l,clock,h3,h4,λi e m he hm=>⟨(h5 i e m he hm).1.mono hx,(h5 i e m he hm).2.1.mono hx,(h5 i e m he hm).2.2⟩⟩
  | stk gen xs=>
   obtain⟨h1,h2,h3,h4,h5,cs,T,h6,h7,h8,h9⟩:=this;exact⟨h1,h2,h3,h4,h5,cs,T,h6,h7,h8,λj x hj=>by obtain⟨u,hu,hr⟩:=h9 j x hj;exact⟨u,hu,hr.mono hx⟩⟩
  |bld t=>
   obtain⟨h1,h2,h3,T,hT,h4⟩:=this;refine⟨h1,h2,h3,T,hT,?_⟩;rcases h4 with h4|⟨c,cap,cur,h5,h6,h7,h8⟩
   ·exact .inl h4
   ·exact .inr ⟨c,cap,cur,h5,h6,λh=>h7 (cJ h),h8⟩
def CPost (fi:FI) (M:Mem) (w:World) (n:Nat) (e:ag) (s':St):Exit->Act->World->Prop:=
 λex a' w'=>ex=uU e/\∃M',Inv fi M' w' s' a'/\Kp M w M' w'/\a'.tmps.size=n
def kM (P:Program) (fi:FI) (pg:Prg) (n:Nat):Prop:=
 ∀(N:Nat) (ic:ICode) (c:Code) (s:St) (e:ag) (s':St) (a:Act) (M:Mem) (w:World),ez P fi N ic c=true->aw pg n ic s=some (e,s')->Inv fi M w s a->N<=a.tmps.size->
  c.wp P (CPost fi M w a.tmps.size e s') a w
theorem uV {T:Nat->Prop} (h:∃m,T m):∃m,T m/\∀k,T k->m<=k:=by
 obtain⟨m,hm⟩:=h
 induction m using Nat.strongRecOn with
 | _ m ih=>
  by_cases hx:∃k,k<m/\T k
  ·obtain⟨k,hk,ht⟩:=hx
   exact ih k hk ht
  ·refine⟨m,hm,λk hk=>?_⟩
   by_cases hlt:k<m
   ·exact absurd ⟨k,hlt,hk⟩ hx
   ·omega
theorem CPost.mono {n:Nat} {e:ag} {ex:Exit} {a':Act} {w2:World} {M1:Mem} {w1:World} (hk:Kp M w M1 w1) (h:CPost fi M1 w1 n e s' ex a' w2):CPost fi M w n e s' ex a' w2:=by obtain⟨h1,M',h2,h3,h4⟩:=h;exact⟨h1,M',h2,hk.trans h3,h4⟩
theorem uW (hP:P.follows .mixedOrders=true) {n:Nat} (ih:kM P fi pg n) (hcf:hJ P fi (dG (aw pg n) pg)):kM P fi pg (n+1):=by
 intro N ic
 induction ic with
 |bad=>
  intro c s e s' a M w hm h hI hN;simp[aw] at h
 |cut ic ihc=>
  intro c s e s' a M w hm h hI hN;exact ih N ic c s e s' a M w hm h hI hN
 | post ic ks nl ihc=>
  intro c s e s' a M w hm h hI hN;simp only[ez] at hm;rw[aw] at h;cases ha:aw pg n ic s with
  |none=>simp[ha] at h
  | some x=>
   obtain⟨e1,s1⟩:=x;rw[ha] at h;have hw:=ih N ic c s e1 s1 a M w hm ha hI hN;refine wp_mono hw ?_;rintro ex a' w' ⟨h1,M',h2,h3,h4⟩;cases e1 with
   |normal=>
    simp only[bU,bV] at h;obtain⟨rfl,rfl⟩:=h;obtain⟨k1,k2⟩:=h2.keep ks nl;exact⟨h1,_,k1,h3.trans k2,h4⟩
   |exit i=>
    simp only[bU,bV] at h;obtain⟨rfl,rfl⟩:=h;exact⟨h1,M',h2,h3,h4⟩
   |ret=>
    simp only[bU,bV] at h;obtain⟨rfl,rfl⟩:=h;exact⟨h1,M',h2,h3,h4⟩
 |skip=>
  intro c s e s' a M w hm h hI hN;cases c<;>simp[ez] at hm;simp[aw] at h;obtain⟨rfl,rfl⟩:=h;exact wp_skip ⟨rfl,M,hI,Kp.refl M w,rfl⟩
 |ret=>
  intro c s e s' a M w hm h hI hN;cases c<;>simp[ez] at hm;simp[aw] at h;obtain⟨rfl,rfl⟩:=h;exact wp_ret ⟨rfl,M,hI,Kp.refl M w,rfl⟩
 |exit i=>
  intro c s e s' a M w hm h hI hN;cases c<;>simp[ez] at hm;subst hm;simp[aw] at h;obtain⟨rfl,rfl⟩:=h;exact wp_exit ⟨rfl,M,hI,Kp.refl M w,rfl⟩
 |region is d=>
  intro c s e s' a M w hm h hI hN;cases c<;>simp[ez] at hm;rename_i id ops d';obtain⟨⟨rfl,hops⟩,hd⟩:=hm;simp only[aw,aE,bV] at h;obtain⟨s1,h1,rfl,rfl⟩:=h;cases d with
  |false=>exact wp_region_list (ut hcf hops hI hN h1 (λa' M' w' hI' hk hs=>⟨rfl,M',hI',hk,hs⟩))
  |true=>exact B3 hP hcf hops (by simpa using hd) hI hN h1 (λa' M' w' hI' hk hs=>⟨rfl,M',hI',hk,hs⟩)
 | seq x y _ _=>
  intro c s e s' a M w hm h hI hN;cases c<;>simp[ez] at hm;rename_i c d;rw[aw] at h;refine wp_seq ?_;cases ha:aw pg n x s with
  |none=>simp[ha] at h
  | some r=>
   obtain⟨e1,s1⟩:=r;rw[ha] at h;refine wp_mono (ih N x c s e1 s1 a M w hm.1 ha hI hN) ?_;rintro ex a' w' ⟨h1,M',h2,h3,h4⟩;subst h1;cases e1 with
   |normal=>
    simp only at h;exact wp_mono (ih N y d s1 e s' a' M' w' hm.2 h h2 (by omega)) (λex a2 w2 hq=>by rw[h4] at hq;exact hq.mono h3)
   |exit i=>
    simp only[bU,bV] at h;obtain⟨rfl,rfl⟩:=h;exact⟨rfl,M',h2,h3,h4⟩
   |ret=>
    simp only[bU,bV] at h;obtain⟨rfl,rfl⟩:=h;exact⟨rfl,M',h2,h3,h4⟩
 | cond x u v _ _=>
  intro c s e s' a M w hm h hI hN;cases c<;>simp[ez] at hm;rename_i o c d;rw[aw] at h;split at h
  ·rename_i hx
   exact wp_cond_true (cj hI hm.1.1 hx).bool (ih N u c s e s' a M w hm.1.2 h hI hN)
  ·rename_i hx
   exact wp_cond_false (cj hI hm.1.1 hx).bool (ih N v d s e s' a M w hm.2 h hI hN)
  ·cases h
 | block i x _=>
  intro c s e s' a M w hm h hI hN;cases c<;>simp[ez] at hm;rename_i j c;obtain⟨rfl,hm⟩:=hm;rw[aw] at h;refine wp_block ?_;cases ha:aw pg n x s with
  |none=>simp[ha] at h
  | some r=>
   obtain⟨e1,s1⟩:=r;rw[ha] at h;refine wp_mono (ih N x c s e1 s1 a M w hm ha hI hN) ?_;rintro ex a' w' ⟨h1,M',h2,h3,h4⟩;subst h1;cases e1 with
   |normal=>
    simp only[bU,bV] at h;obtain⟨rfl,rfl⟩:=h;exact⟨rfl,M',h2,h3,h4⟩
   | exit k=>
    simp only at h;simp only[uU,Exit.inBlock];split at h
    ·rename_i hki
     simp only[bU,bV] at h;obtain⟨rfl,rfl⟩:=h;rw[if_pos hki];exact⟨rfl,M',h2,h3,h4⟩
    ·rename_i hki
     simp only[bU,bV] at h;obtain⟨rfl,rfl⟩:=h;rw[if_neg hki];exact⟨rfl,M',h2,h3,h4⟩
   |ret=>
    simp only[bU,bV] at h;obtain⟨rfl,rfl⟩:=h;exact⟨rfl,M',h2,h3,h4⟩
 | loop x _=>
  intro c s e s' a M w hm h hI hN;cases c<;>simp[ez] at hm;rename_i c
  let T:Act->World->Nat->Prop:=λa1 w1 m=>m<=n+1/\∃s1 M1,Inv fi M1 w1 s1 a1/\aw pg m (.loop x) s1=some (e,s')/\Kp M w M1 w1/\a1.tmps.size=a.tmps.size
  refine wp_loop (λa1 w1=>∃m,T a1 w1 m) (λa1 w1=>Classical.epsilon λm=>T a1 w1 m/\∀k,T a1 w1 k->m<=k) ⟨n+1,cQ _,s,M,hI,h,Kp.refl M w,rfl⟩ ?_;intro a1 w1 hT;obtain⟨⟨hle,s1,M1,hI1,hr,hk1,hs1⟩,_⟩:=Classical.epsilon_spec (p:=λm=>T a1 w1 m/\∀k,T a1 w1 k->m<=k) (uV hT);generalize (Classical.epsilon λm=>T a1 w1 m/\∀k,T a1 w1 k->m<=k)=m at hle hr ⊢;cases m with
  |zero=>simp[aw] at hr
  | succ m=>
   rw[aw] at hr;cases ha:aw pg m x s1 with
   |none=>simp[ha] at hr
   | some r=>
    obtain⟨e1,s2⟩:=r;rw[ha] at hr;refine wp_mono (ih N x c s1 e1 s2 a1 M1 w1 hm (fl pg (by omega) ha) hI1 (by omega)) ?_;rintro ex a' w' ⟨h1,M',h2,h3,h4⟩;subst h1;cases e1 with
    |normal=>
     simp only at hr;have hT2:T a' w' m:=⟨by omega,s2,M',h2,hr,hk1.trans h3,h4.trans hs1⟩
     refine⟨⟨m,hT2⟩,?_⟩;have:=(Classical.epsilon_spec (p:=λm=>T a' w' m/\∀k,T a' w' k->m<=k) (uV ⟨m,hT2⟩)).2 m hT2;exact Nat.lt_succ_of_le this
    |exit i=>
     simp only[bU,bV] at hr;obtain⟨rfl,rfl⟩:=hr;exact⟨rfl,M',h2,hk1.trans h3,h4.trans hs1⟩
    |ret=>
     simp only[bU,bV] at hr;obtain⟨rfl,rfl⟩:=hr;exact⟨rfl,M',h2,hk1.trans h3,h4.trans hs1⟩
end
end
section
open Go.RowKit
mutual
def PV.bnd (n:Nat):PV->Bool
 | .agg cs=>f0 n cs
 | .tup cs=>f0 n cs
 | .sl _ _ xs=>f0 n xs
 | .ep e _=>e.bnd n
 | .fn _ cs=>f0 n cs
 | .bfn _ cs=>f0 n cs
 | .sub b _ _ _=>decide (b<n)
 | .bs true b _ _ _=>decide (b<n)
 | .stk b _ _=>decide (b<n)
 | .pstk b _ _=>decide (b<n)
 | .ptr true b _=>decide (b<n)
 | .mp b=>decide (b<n)
 |_=>true
def f0 (n:Nat):List PV->Bool
 |[]=>true
 |c::l=>c.bnd n&&f0 n l
end
section
variable {fi:FI} {M M':Mem} {w w':World} {P:Program} {s s':St} {a:Act} {cf:CallF} {pg:Prg}
theorem iT {n:Nat} {l:List PV} (h:f0 n l=true) {i:Nat} {c:PV} (hc:l[i]?=some c):c.bnd n=true:=by
 induction l generalizing i with
 |nil=>simp at hc
 |cons x l ih=>
  simp only[f0,aY] at h;cases i with
  |zero=>simp at hc;exact hc▸h.1
  |succ i=>exact ih h.2 (by simpa using hc)
theorem jV {n:Nat} {l:List PV} (h:∀(i:Nat) (c:PV),l[i]?=some c->c.bnd n=true):f0 n l=true:=by
 induction l with
 |nil=>rfl
 |cons x l ih=>
  simp only[f0,aY];exact⟨h 0 x rfl,ih λi c hc=>h (i+1) c (by simpa using hc)⟩
theorem uX {n:Nat} {e:PV} (h:e.bnd n=true) {j:Nat} {p:PV} (hp:e.cells[j]?=some p):p.bnd n=true:=by
 cases e with
 |agg cs=>exact iT (l:=cs) (by simpa [PV.bnd] using h) hp
 |_=>
  simp only[PV.cells] at hp;cases j with
  |zero=>simp at hp;exact hp▸h
  |succ j=>simp at hp
theorem uY {n:Nat} {e:PV} (h:∀(j:Nat) (p:PV),e.cells[j]?=some p->p.bnd n=true):e.bnd n=true:=by
 cases e with
 |agg cs=>simp only[PV.bnd];exact jV h
 |_=>exact h 0 _ rfl
theorem RepP.bnd {p:PV} {v:Value} (h:RepP fi M w p v):p.bnd M.gb.length=true:=by
 induction h with
 |agg cs vs hl _ ih=>
  simp only[PV.bnd];exact jV λi c hc=>ih i c _ hc (aA (by rw[hl];exact (aD.1 hc).1))
 |tup cs vs hl _ ih=>
  simp only[PV.bnd];exact jV λi c hc=>ih i c _ hc (aA (by rw[hl];exact (aD.1 hc).1))
 |sl z xs A c b o vf hA hc hz h1 hm _ ih=>
  simp only[PV.bnd];exact jV λi e he=>uY λj p hp=>ih i e j p he hp
 |bs b off n z A c blk hb hA hc=>simpa [PV.bnd] using (aD.1 hb).1
 |ptr b off blk hb=>simpa [PV.bnd] using (aD.1 hb).1
 |ep e off b o vf h1 hm _ ih=>simp only[PV.bnd];exact uY ih
 |mp b blk hb=>simpa [PV.bnd] using (aD.1 hb).1
 |stk b gen n blk c hb hg hA hc=>simpa [PV.bnd] using hb
 |pstk b gen i blk hb hg hA=>simpa [PV.bnd] using hb
 |sub b gen off n blk c A hb hg hA hc hAd=>simpa [PV.bnd] using hb
 |bfn f F cs vs hf hl h1 _ ih=>
  simp only[PV.bnd];exact jV λi c hc=>ih i c _ hc (aA (by rw[hl];exact (aD.1 hc).1))
 |fn f F cs vs hf hl h1 _ ih=>
  simp only[PV.bnd];exact jV λi c hc=>ih i c _ hc (aA (by rw[hl];exact (aD.1 hc).1))
 |_=>rfl
def Mem.cut (M:Mem) (n:Nat):Mem:={M with gb:=M.gb.take n }
theorem RepP.cut {n:Nat} {p:PV} {v:Value} (h:RepP fi M w p v) (hg:p.bnd n=true):RepP fi (M.cut n) w p v:=by
 have tk:∀{b blk:Nat},M.gb[b]?=some blk->b<n->(M.cut n).gb[b]?=some blk:=λh hb=>by simp only[Mem.cut,cE,hb,if_true];exact h
 induction h with
 |und=>exact .und
 |int k n=>exact .int k n
 |bool b=>exact .bool b
 |str s=>exact .str s
 |agg cs vs hl _ ih=>exact .agg cs vs hl λi c v hc hv=>ih i c v hc hv (iT (by simpa [PV.bnd] using hg) hc)
 |tup cs vs hl _ ih=>exact .tup cs vs hl λi c v hc hv=>ih i c v hc hv (iT (by simpa [PV.bnd] using hg) hc)
 |sl z xs A c b o vf hA hc hz h1 hm _ ih=>
  exact .sl z xs A c b o vf hA hc hz h1 hm λi e j p he hp=>ih i e j p he hp (uX (iT (by simpa [PV.bnd] using hg) he) hp)
 |bs b off n z A c blk hb hA hc=>exact .bs b off n z A c blk (tk hb (by simpa [PV.bnd] using hg)) hA hc
 |ptr b off blk hb=>exact .ptr b off blk (tk hb (by simpa [PV.bnd] using hg))
 |nilp=>exact .nilp
 |ep e off b o vf h1 hm _ ih=>exact .ep e off b o vf h1 hm λj p hp=>ih j p hp (uX (by simpa [PV.bnd] using hg) hp)
 |mp b blk hb=>exact .mp b blk (tk hb (by simpa [PV.bnd] using hg))
 |nilm=>exact .nilm
 |nilf=>exact .nilf
 |nils=>exact .nils
 |stk b gen n' blk c hb hg' hA hc=>
  have hbn:b<n:=by simpa [PV.bnd] using hg
  exact .stk b gen n' blk c (by simp only[Mem.cut,cK];omega) hg' hA hc
 |pstk b gen i blk hb hg' hA=>
  have hbn:b<n:=by simpa [PV.bnd] using hg
  exact .pstk b gen i blk (by simp only[Mem.cut,cK];omega) hg' hA
 |sub b gen off n' blk c A hb hg' hA hc hAd=>
  have hbn:b<n:=by simpa [PV.bnd] using hg
  exact .sub b gen off n' blk c A (by simp only[Mem.cut,cK];omega) hg' hA hc hAd
 |bfn f F cs vs hf hl h1 _ ih=>exact .bfn f F cs vs hf hl h1 λi c v hc hv=>ih i c v hc hv (iT (by simpa [PV.bnd] using hg) hc)
 |fn f F cs vs hf hl h1 _ ih=>exact .fn f F cs vs hf hl h1 λi c v hc hv=>ih i c v hc hv (iT (by simpa [PV.bnd] using hg) hc)
 |nilI=>exact .nilI
 |someI t v=>exact .someI t v
 |junk v=>exact .junk v
theorem OwnRep.cut {n:Nat} {l:Loc} {z:Nat} {xs:List PV} {v:Value} (h:OwnRep fi M w l z xs v) (hg:f0 n xs=true):OwnRep fi (M.cut n) w l z xs v:=by
 obtain⟨h1,h2⟩:=h;refine⟨h1.cut (by simpa [PV.bnd] using hg),?_⟩;rcases h2 with h2|⟨b,o,c,cs,e,hv,ho,hh,hs,hk,hb1,hb2⟩
 ·exact .inl h2
 ·exact .inr ⟨b,o,c,cs,e,hv,ho,hh,hs,hk,hb1,λh=>hb2 (cJ h)⟩
theorem RepC.cut {n:Nat} {l:Loc} {p:PV} {v:Value} (h:RepC fi M w l p v) (hg:p.bnd n=true):RepC fi (M.cut n) w l p v:=by
 unfold RepC at *;split at h
 ·exact OwnRep.cut h (by simpa [PV.bnd] using hg)
 ·exact h.cut hg
theorem RepC.bnd {l:Loc} {p:PV} {v:Value} (h:RepC fi M w l p v):p.bnd M.gb.length=true:=by
 unfold RepC at h;split at h
 ·have:=h.1.bnd;simpa [PV.bnd] using this
 ·exact h.bnd
def kN (n:Nat):GObj->Bool
 | .cells cs=>f0 n cs
 | .map es=>es.all λe=>e.1.bnd n&&e.2.bnd n
 | .stk _ _=>true
 | .bld _=>true
theorem RepObj.bnd {i blk:Nat} {o:GObj} (h:RepObj fi M w i blk o):kN M.gb.length o=true:=by
 cases o with
 |cells cs=>
  obtain⟨h1,h2,h3,h4,vs,T,h5,h6,h7⟩:=h;exact jV λi c hc=>(h7 i c _ hc (aA (by rw[h6];exact (aD.1 hc).1))).bnd
 |map es=>
  obtain⟨h1,h2,l,clock,h3,h4,h5⟩:=h;simp only[kN,bS];intro e he;obtain⟨i,hi,rfl⟩:=cH.1 he;have:=h5 i _ _ (aA hi) (aA (by omega));simp[this.1.bnd,this.2.1.bnd]
 |stk gen xs=>rfl
 |bld s=>rfl
theorem RepObj.cut {n i blk:Nat} {o:GObj} (h:RepObj fi M w i blk o) (hb:kN n o=true):RepObj fi (M.cut n) w i blk o:=by
 cases o with
 |cells cs=>
  obtain⟨h1,h2,h3,h4,vs,T,h5,h6,h7⟩:=h;exact⟨h1,h2,h3,h4,vs,T,h5,h6,λi c u hc hu=>(h7 i c u hc hu).cut (iT (l:=cs) hb hc)⟩
 |map es=>
  obtain⟨h1,h2,l,clock,h3,h4,h5⟩:=h;simp only[kN,bS,aY] at hb;refine⟨h1,h2,l,clock,h3,h4,λi e m he hm=>?_⟩;have hbe:=hb e (aP he);exact⟨(h5 i e m he hm).1.cut hbe.1,(h5 i e m he hm).2.1.cut hbe.2,(h5 i e m he hm).2.2⟩
 | stk gen xs=>
  obtain⟨h1,h2,h3,h4,h5,cs,T,h6,h7,h8,h9⟩:=h;exact⟨h1,h2,h3,h4,h5,cs,T,h6,h7,h8,λj x hj=>by obtain⟨u,hu,hr⟩:=h9 j x hj;exact⟨u,hu,iB hr (h5 x (aP hj)) _ _⟩⟩
 |bld s=>
  obtain⟨h1,h2,h3,T,hT,h4⟩:=h;refine⟨h1,h2,h3,T,hT,?_⟩;rcases h4 with h4|⟨c,cap,cur,h5,h6,h7,h8,h9⟩
  ·exact .inl h4
  ·exact .inr ⟨c,cap,cur,h5,h6,h7,λh=>h8 (cJ h),h9⟩
end
mutual
theorem jW (n:Nat):(p:PV)->p.noG=true->p.bnd n=true
 | .agg cs,h=>by simp only[PV.noG] at h;simp only[PV.bnd];exact kO n cs h
 | .tup cs,h=>by simp only[PV.noG] at h;simp only[PV.bnd];exact kO n cs h
 | .sl _ _ xs,h=>by simp only[PV.noG] at h;simp only[PV.bnd];exact kO n xs h
 | .ep e _,h=>by simp only[PV.noG] at h;simp only[PV.bnd];exact jW n e h
 | .fn _ cs,h=>by simp only[PV.noG] at h;simp only[PV.bnd];exact kO n cs h
 | .bfn _ cs,h=>by simp only[PV.noG] at h;simp only[PV.bnd];exact kO n cs h
 | .sub _ _ _ _,h=>by simp[PV.noG] at h
 | .bs _ _ _ _ _,h=>by simp[PV.noG] at h
 | .stk _ _ _,h=>by simp[PV.noG] at h
 | .pstk _ _ _,h=>by simp[PV.noG] at h
 | .ptr _ _ _,h=>by simp[PV.noG] at h
 | .mp _,h=>by simp[PV.noG] at h
 | .und,_=>rfl
 | .int _ _,_=>rfl
 | .bool _,_=>rfl
 | .str _,_=>rfl
 | .nilp,_=>rfl
 | .arr _ _,_=>rfl
 | .junk,_=>rfl
 | .nilm,_=>rfl
 | .nilf,_=>rfl
 | .nils,_=>rfl
 | .nilI,_=>rfl
 | .someI,_=>rfl
theorem kO (n:Nat):(l:List PV)->dL l=true->f0 n l=true
 |[],_=>rfl
 |c::l,h=>by simp only[dL,aY] at h;simp only[f0,aY];exact⟨jW n c h.1,kO n l h.2⟩
end
end
section
open Go.RowKit
variable {v:Value} {p:PV} {fn:Func} {n b k:Nat} {gh:List GObj}
section
variable {fi:FI} {M M':Mem} {w w':World} {P:Program} {s s':St} {a:Act} {cf:CallF} {pg:Prg}
def lQ (P:Program):iO->ResultVar->Bool
 | .t n,.tmp m=>n==m
 | .cell b agg k,.cell c t=>b==c&&fF P t==some agg&&eE P t==some k
 |_,_=>false
def ff (P:Program):List iO->List ResultVar->Bool
 |[],[]=>true
 |r::l,v::m=>lQ P r v&&ff P l m
 |_,_=>false
def jr (tmps:Array Value):ResultVar->Sem Value
 | .tmp t=>pure (tmps.getD t undef)
 | .cell a t=>do loadVar t (<-asAddr (tmps.getD a undef))
theorem B8 (hI:Inv fi M w s a) {r:iO} {v:ResultVar} (hm:lQ P r v=true) (h:au s r=some p):∃u,(jr a.tmps v).run P w= .ok u w/\RepE fi M w (degr p) u:=by
 cases r with
 |t n=>
  cases v<;>simp[lQ] at hm;subst hm;exact⟨_,rfl,(hI.env _ p h).2.degr⟩
 | cell b agg k=>
  cases v<;>simp[lQ] at hm;obtain⟨⟨rfl,ha⟩,hs⟩:=hm;simp only[au] at h;split at h
  ·rename_i g bx off hb
   simp only[aC] at h;obtain⟨cs,hc,hg⟩:=h;have hp:RepE fi M w (.ptr g bx off) (a.tmps.getD b undef):=(hI.env b _ hb).2;obtain⟨blk,hv,⟨_,_,_,h1,vs,T,hh,hl,hvv⟩,_⟩:=nh hI hp hc;obtain⟨hk,hr⟩:=tV hg hl hvv h1;refine⟨_,?_,hr.repE⟩;simp only[jr,hv,asAddr,Sem.run_bind,Sem.run_pure,Result.andThen_ok,ng ha (λ_=>hs) hh hk]
  ·cases h
theorem uZ (hI:Inv fi M w s a):∀{rs:List iO} {vs:List ResultVar} {ps:List PV},ff P rs vs=true->ao s rs=some ps->
  ∃us:List Value,(vs.mapM (jr a.tmps)).run P w= .ok us w/\us.length=ps.length/\∀(i:Nat) (p:PV) (u:Value),ps[i]?=some p->us[i]?=some u->RepE fi M w (degr p) u
 |[],[],ps,_,h=>by simp[ao] at h;subst h;exact⟨[],by simp,rfl,by simp⟩
 |[],_::_,_,hm,_=>by simp[ff] at hm
 |_::_,[],_,hm,_=>by simp[ff] at hm
 |r::rs,v::vs,ps,hm,h=>by
  simp only[ff,aY] at hm;simp only[ao,aC,aE] at h;obtain⟨p,hp,ps',hps,rfl⟩:=h;obtain⟨u,h1,h2⟩:=B8 hI hm.1 hp;obtain⟨us,h3,h4,h5⟩:=uZ hI hm.2 hps;refine⟨u::us,by simp[List.mapM_cons,h1,h3],by simp[h4],λi q x hq hx=>?_⟩;cases i with
  |zero=>simp at hq hx;subst hq;subst hx;exact h2
  |succ i=>exact h5 i q x (by simpa using hq) (by simpa using hx)
theorem u5 {us:List Value} {tmps:Array Value} (h:(fn.results.toList.mapM (jr tmps)).run P w= .ok us w) :
  (Go.results fn tmps).run P w= .ok (match us with|[u]=>u|us=> .tuple us.toArray) w:=by
 have h1:(fn.results.mapM (jr tmps)).run P w= .ok us.toArray w:=by rw[Array.mapM_eq_mapM_toList,map_eq_pure_bind,Sem.run_bind,h];rfl
 have e:Go.results fn tmps=(do let vs <-fn.results.mapM (jr tmps);pure (if h:vs.size=1 then vs[0] else .tuple vs)):=by
  unfold Go.results
  congr 1
 rw[e,Sem.run_bind,h1,Result.andThen_ok,Sem.run_pure]
 match us with
 |[]=>rfl
 |[u]=>rfl
 |u::v::l=>simp
def nw (n:Nat):Loc->Loc
 | .env t i=>if t=n then .res i else .env t i
 |l=>l
theorem B9 (hI:Inv fi M w s a) {own:Bool} {rs:List iO} (hm:ff P rs fn.results.toList=true) {r:PV} (h:results own rs s=some r) (hok:ai r=true) :
  ∃v M1,(Go.results fn a.tmps).run P w= .ok v w/\Inv fi M1 w ⟨[],s.lh,s.gh⟩ ⟨#[],[]⟩/\Kp M w M1 w/\RepAt fi M1 w Loc.res r v:=by
 have hI0:∀f:Loc->Loc,(∀b i,f (.lh b i)= .lh b i)->(∀b i,f (.gh b i)= .gh b i)->Inv fi (M.rel f) w ⟨[],s.lh,s.gh⟩ ⟨#[],[]⟩:=λf h1 h2=>by
  have h0:Inv fi M w ⟨[],s.lh,s.gh⟩ ⟨#[],[]⟩:=⟨λt v hv=>by simp[get] at hv,rfl,hI.lbl,hI.gbl,hI.nodup,hI.lh,hI.gh,hI.gl,hI.immlt,hI.ownlt,hI.gblt⟩
  exact h0.rel f [] (λt v hv=>by simp[get] at hv) h1 h2
 have gen:(ao s rs).map (λvs=>match vs with|[v]=>degr v|vs=> .tup (vs.map degr))=some r->
   ∃v M1,(Go.results fn a.tmps).run P w= .ok v w/\Inv fi M1 w ⟨[],s.lh,s.gh⟩ ⟨#[],[]⟩/\Kp M w M1 w/\RepAt fi M1 w Loc.res r v:=by
  intro h;simp only[aE] at h;obtain⟨ps,hps,hr⟩:=h;obtain⟨us,h1,h2,h3⟩:=uZ (P:=P) hI hm hps;refine⟨_,_,u5 h1,hI0 id (λ_ _=>rfl) (λ_ _=>rfl),Kp.rel M w id,?_⟩;have tupc:(∀v,ps≠[v])->r= .tup (ps.map degr)->RepAt fi (M.rel id) w Loc.res r (.tuple us.toArray):=by intro _ hr';subst hr';refine⟨us,rfl,by simp[h2],λi c u hc hu=>?_⟩;simp only[aB,aE] at hc;obtain⟨p,hp,rfl⟩:=hc;simp only[ai,bS,List.mem_map] at hok;exact (((h3 i p u hp hu).rel id).repP (by simpa [ar] using hok (degr p) ⟨p,aP hp,rfl⟩)).repC
  match ps,us,h2 with
  |[],[],_=>exact tupc (by simp) (by simpa using hr.symm)
  |[p],[u],_=>
   simp only at hr;subst hr;exact ((h3 0 p u rfl rfl).rel id).repAt
  |p::q::l,u::v::m,_=>exact tupc (by simp) (by simpa using hr.symm)
 unfold results at h;split at h
 ·rename_i n
  cases hrv:fn.results.toList with
  |nil=>rw[hrv] at hm;simp[ff] at hm
  | cons x l=>
   rw[hrv] at hm;cases l with
   |cons=>simp[ff] at hm
   |nil=>
    cases x<;>simp[ff,lQ] at hm;subst hm;have h1:(fn.results.toList.mapM (jr a.tmps)).run P w= .ok [a.tmps.getD n undef] w:=by rw[hrv];simp[List.mapM_cons,jr]
    refine⟨_,_,u5 h1,hI0 (nw n) (λ_ _=>rfl) (λ_ _=>rfl),Kp.rel M w (nw n),?_⟩;exact (hI.env n r h).2.rel (nw n) (λi=>by simp[nw])
 ·exact gen h
theorem Inv.toGI (hI:Inv fi M w ⟨[],s.lh,s.gh⟩ ⟨#[],[]⟩):GI fi M.noLb w s.gh:=
 ⟨λt v hv=>by simp[get] at hv,rfl,rfl,hI.gbl,by have:=hI.nodup;rw[cM] at this;simpa [Mem.noLb] using this.2.1,λi cs blk h=>by simp at h,
  λi o blk h1 h2=>(hI.gh i o blk h1 h2).noLb,hI.gl,hI.immlt,hI.ownlt,hI.gblt⟩
theorem Kp.noLb (M:Mem) (w:World):Kp M w M.noLb w:=
 ⟨rfl,rfl,rfl,cQ _,Ext.noLb M w,λ_ _ _ _ _=>rfl,λ_ h=>by simp[Mem.noLb] at h,λ_ h=> .inl h,λ_ _ h=>h,λ_ _ h=> .inl h⟩
theorem GI.cut {gh:List GObj} (hG:GI fi M w gh) (n:Nat) (hb:∀(i:Nat) (o:GObj),(gh.take n)[i]?=some o->kN n o=true):GI fi (M.cut n) w (gh.take n):=
 by
 refine⟨λt v hv=>by simp[get] at hv,rfl,hG.lbl,?_,?_,λi cs blk h=>by simp at h,λi o blk h1 h2=>?_,hG.gl,hG.immlt,hG.ownlt,λb h=>hG.gblt b (cJ h)⟩
 ·have:=hG.gbl
  simp only[Mem.cut,cK];rw[this]
 ·have:=hG.nodup
  rw[cM] at this ⊢;exact⟨this.1,this.2.1.sublist (List.take_sublist _ _),λx hx y hy=>this.2.2 x hx y (cJ hy)⟩
 ·have h1':=h1
  simp only[cE] at h1;simp only[Mem.cut,cE] at h2;split at h1
  ·rename_i hlt
   rw[if_pos hlt] at h2;exact (hG.gh i o blk h1 h2).cut (hb i o h1')
  ·cases h1
theorem RepAt.cut {n:Nat} {mk:Nat->Loc} {p:PV} {v:Value} (h:RepAt fi M w mk p v) (hok:ai p=true) (hg:p.bnd n=true):RepAt fi (M.cut n) w mk p v:=by
 unfold RepAt at *;split at h
 ·exact OwnRep.cut h (by simpa [PV.bnd] using hg)
 ·cases hok
 ·obtain⟨vs,h1,h2,h3⟩:=h
  exact⟨vs,h1,h2,λi c u hc hu=>(h3 i c u hc hu).cut (iT (by simpa [PV.bnd] using hg) hc)⟩
 ·obtain⟨vs,h1,h2,h3⟩:=h
  exact⟨vs,h1,h2,λi c u hc hu=>(h3 i c u hc hu).cut (iT (by simpa [PV.bnd] using hg) hc)⟩
 ·rename_i h3
  exact ((h.repP (qC hok (λcs=>h3 cs))).cut hg).repE
theorem ny {α:Type}:∀{l:List α} {i j:Nat},l.Nodup->l[i]?=l[j]?->i<l.length->i=j
 |[],i,j,_,_,h=>by simp at h
 |x::l,0,0,_,_,_=>rfl
 |x::l,0,j+1,hn,he,_=>by rw[List.nodup_cons] at hn;simp at he;exact absurd (aP he.symm) hn.1
 |x::l,i+1,0,hn,he,_=>by rw[List.nodup_cons] at hn;simp at he;exact absurd (aP he) hn.1
 |x::l,i+1,j+1,hn,he,h=>by rw[List.nodup_cons] at hn;have:=ny hn.2 (by simpa using he) (by simpa using h);omega
def Mem.cutF (M:Mem) (n:Nat):Mem:={M.cut n with imm:=λb k=>M.imm b k\/(∃g,n<=g/\M.gb[g]?=some b/\M.own b=none)\/∃g,n<=g/\M.own b=some (.gh g 0) }
theorem Ext.cutF (M:Mem) (n:Nat) (w:World):Ext (M.cut n) w (M.cutF n) w:=⟨λ_ _ h=>h,λ_ _ h=> .inl h,λ_ _ _=>rfl,λ_ _=>⟨cQ _,λ_=>rfl⟩⟩
theorem OwnRep.cutF {n:Nat} {l:Loc} {z:Nat} {xs:List PV} {v:Value} (h:OwnRep fi (M.cut n) w l z xs v) (hl:∀g,n<=g->l≠ .gh g 0):OwnRep fi (M.cutF n) w l z xs v:=by
 obtain⟨h1,h2⟩:=h;refine⟨h1.mono (Ext.cutF M n w),?_⟩;rcases h2 with h2|⟨b,o,c,cs,e,hv,ho,hh,hs,hk,hb1,hb2⟩
 ·exact .inl h2
 ·refine .inr ⟨b,o,c,cs,e,hv,ho,hh,hs,λk hk2 h=>?_,hb1,hb2⟩
  have ho':M.own b=some l:=ho;rcases h with h|⟨g,_,_,h⟩|⟨g,hg,h⟩
  ·exact hk k hk2 h
  ·rw[h] at ho';cases ho'
  ·rw[h] at ho';exact hl g hg (cW ho').symm
theorem RepC.cutF {n:Nat} {l:Loc} {p:PV} {v:Value} (h:RepC fi (M.cut n) w l p v) (hl:∀g,n<=g->l≠ .gh g 0):RepC fi (M.cutF n) w l p v:=by
 unfold RepC at *;split at h
 ·exact OwnRep.cutF h hl
 ·exact h.mono (Ext.cutF M n w)
theorem RepE.cutF {n:Nat} {p:PV} {v:Value} (h:RepE fi (M.cut n) w p v):RepE fi (M.cutF n) w p v:=by
 unfold RepE at *;split at h
 ·exact h
 ·exact h
 ·exact h.mono (Ext.cutF M n w)
theorem RepAt.cutF {n:Nat} {mk:Nat->Loc} {p:PV} {v:Value} (h:RepAt fi (M.cut n) w mk p v) (hl:∀i g,n<=g->mk i≠ .gh g 0):RepAt fi (M.cutF n) w mk p v:=by
 unfold RepAt at *;split at h
 ·exact OwnRep.cutF h (hl 0)
 ·obtain⟨h0,b,T,c,hv,hc,ho,hh,hk,hb1,hb2⟩:=h
  refine⟨h0,b,T,c,hv,hc,ho,hh,λk hk2=>?_,hb1,hb2⟩;have ho':M.own b=some (mk 0):=ho;rcases hk2 with h|⟨g,_,_,h⟩|⟨g,hg,h⟩
  ·exact hk k h
  ·rw[h] at ho';cases ho'
  ·rw[h] at ho';exact hl 0 g hg (cW ho').symm
 ·obtain⟨vs,h1,h2,h3⟩:=h
  exact⟨vs,h1,h2,λi c u hc hu=>(h3 i c u hc hu).cutF (hl i)⟩
 ·obtain⟨vs,h1,h2,h3⟩:=h
  exact⟨vs,h1,h2,λi c u hc hu=>(h3 i c u hc hu).cutF (hl i)⟩
 ·exact RepE.cutF h
theorem RepObj.cutF {n i blk:Nat} {o:GObj} (hin:i<n) (h:RepObj fi (M.cut n) w i blk o) (hn:∀g,n<=g->M.gb[g]?≠some blk):RepObj fi (M.cutF n) w i blk o:=by
 cases o with
 |cells cs=>
  obtain⟨h1,h2,h3,h4,vs,T,h5,h6,h7⟩:=h;refine⟨h1,λk hk=>?_,h3,h4,vs,T,h5,h6,λi' c u hc hu=>(h7 i' c u hc hu).cutF (λg hg e=>by cases e;omega)⟩;have h3':M.own blk=none:=h3;rcases hk with hk|⟨g,hg,hb,_⟩|⟨g,hg,ho⟩
  ·exact h2 k hk
  ·exact hn g hg hb
  ·rw[h3'] at ho;cases ho
 |map es=>
  obtain⟨h1,h2,l,clock,h3,h4,h5⟩:=h;exact⟨h1,h2,l,clock,h3,h4,λi e m he hm=>⟨(h5 i e m he hm).1.mono (Ext.cutF M n w),(h5 i e m he hm).2.1.mono (Ext.cutF M n w),(h5 i e m he hm).2.2⟩⟩
 | stk gen xs=>
  obtain⟨h1,h2,h3,h4,h5,cs,T,h6,h7,h8,h9⟩:=h;refine⟨h1,h2,h3,λk hk=>?_,h5,cs,T,h6,h7,h8,λj x hj=>?_⟩
  ·have e:M.own (M.st i).2.1=some (Loc.gh i 0):=h3
   rcases hk with hk|⟨g,_,_,ho⟩|⟨g,hg,ho⟩
   ·exact h4 k hk
   ·have ho':M.own (M.st i).2.1=none:=ho
    rw[ho'] at e;cases e
   ·have ho':M.own (M.st i).2.1=some (Loc.gh g 0):=ho
    rw[ho'] at e;cases e;omega
  ·obtain⟨u,hu,hr⟩:=h9 j x hj
   exact⟨u,hu,hr.mono (Ext.cutF M n w)⟩
 | bld t=>
  obtain⟨h1,h2,h3,T,hT,h4⟩:=h;refine⟨h1,λk hk=>?_,h3,T,hT,?_⟩
  ·have h3':M.own blk=none:=h3
   rcases hk with hk|⟨g,hg,hb,_⟩|⟨g,hg,ho⟩
   ·exact h2 k hk
   ·exact hn g hg hb
   ·rw[h3'] at ho;cases ho
  ·rcases h4 with h4|⟨c,cap,cur,h5,h6,h7,h8,h9,h10⟩
   ·exact .inl h4
   ·refine .inr ⟨c,cap,cur,h5,h6,h7,h8,λk hk=>?_,h10⟩
    have e:M.own c=some (Loc.gh i 0):=h6;rcases hk with hk|⟨g,_,_,ho⟩|⟨g,hg,ho⟩
    ·exact h9 k hk
    ·rw[ho] at e;cases e
    ·rw[ho] at e;cases e;omega
theorem GI.cutF {gh:List GObj} (hG:GI fi M w gh) (n:Nat) (hn:n<=gh.length) (hb:∀(i:Nat) (o:GObj),(gh.take n)[i]?=some o->kN n o=true):GI fi (M.cutF n) w (gh.take n):=by
 have hC:=hG.cut n hb;have hnd:=hG.nodup;rw[cM] at hnd;refine⟨λt v hv=>by simp[get] at hv,rfl,hC.lbl,hC.gbl,hC.nodup,λi cs blk h=>by simp at h,λi o blk h1 h2=>RepObj.cutF (by have:=(aD.1 h1).1;rw[cK] at this;omega) (hC.gh i o blk h1 h2) λg hg hgb=>?_,(Ext.cutF M n w).gl hC.gl,λb k hk=>?_,hC.ownlt,hC.gblt⟩
 ·have h2':(M.gb.take n)[i]?=some blk:=h2
  rw[cE] at h2';split at h2'
  ·rename_i hlt
   have e1:=aD.1 hgb;have e2:=aD.1 h2';have:i=g:=ny hnd.2.1 (by rw[h2',hgb]) e2.1;omega
  ·cases h2'
 ·rcases hk with hk|⟨g,_,hgb,_⟩|⟨g,_,ho⟩
  ·exact hC.immlt b k hk
  ·exact hG.gblt b (aP hgb)
  ·exact hG.ownlt b _ ho
theorem qZ {off:Nat} {cs:List PV} (h:gh[b]?=some (.cells cs)) (h1:n<=b) (h2:off+k<=cs.length):frz n gh (.bs true b off k 1)= .sl false 1 (((cs.drop off).take k).map aa):=by simp[frz,h,h1,h2]
theorem re {g:Nat} {xs:List PV} (h:gh[b]?=some (.stk g xs)) (h1:n<=b) (h2:k<=xs.length):frz n gh (.stk b g k)= .sl false 1 (xs.take k):=by simp[frz,h,h1,h2]
theorem kP (n:Nat) (gh:List GObj) (p:PV):frz n gh p=p\/(∃b off k cs,p= .bs true b off k 1/\gh[b]?=some (.cells cs)/\n<=b/\off+k<=cs.length)\/∃b g k xs,p= .stk b g k/\gh[b]?=some (.stk g xs)/\n<=b/\k<=xs.length:=by
 unfold frz;split
 ·rename_i b off k
  split
  ·rename_i cs hc
   split
   ·rename_i h;exact .inr (.inl ⟨b,off,k,cs,rfl,hc,h⟩)
   ·exact .inl rfl
  ·exact .inl rfl
 ·rename_i b g k
  split
  ·rename_i g2 xs hc
   split
   ·rename_i h;exact .inr (.inr ⟨b,g,k,xs,rfl,by rw[hc,h.2.1],h.1,h.2.2⟩)
   ·exact .inl rfl
  ·exact .inl rfl
 ·exact .inl rfl
theorem nA (h:p.one=true):(aa p).cells=[aa p]:=by cases p<;>first|rfl|simp[PV.one] at h
theorem Ca (h:p.one=true):(aa p).one=true:=by cases p<;>first|exact h|rfl
theorem nB (hG:GI fi M w gh) (h:RepP fi M w p v) (hg:(frz n gh p).noG=true):RepP fi (M.cutF n) w (frz n gh p) v:=by
 rcases kP n gh p with e|⟨b,off,k,cs,rfl,hc,hn,hk⟩|⟨b,g,k,xs,rfl,hc,hn,hk⟩
 ·rw[e] at hg ⊢
  exact (h.cut (jW _ _ hg)).mono (Ext.cutF M n w)
 ·rw [qZ hc hn hk] at hg ⊢
  cases h with
  | bs _ _ _ _ A c blk hb hA hcc=>
   obtain⟨_,_,hown,hone,vs,T,hh,hl,hv⟩:=hG.gh b _ blk hc hb;have hlen:(((cs.drop off).take k).map aa).length=k:=by simp;omega
   have hel:∀(i:Nat) (e:PV),(((cs.drop off).take k).map aa)[i]?=some e->∃c u,cs[off+i]?=some c/\e=aa c/\vs[off+i]?=some u/\RepP fi M w (aa c) u/\c.one=true:=by
    intro i e he;simp only[aB,aE,cE] at he;obtain⟨c,hc1,rfl⟩:=he;split at hc1
    ·rw[List.getElem?_drop] at hc1
     have hi:off+i<vs.length:=by have:=(aD.1 hc1).1;omega
     exact⟨c,vs[off+i],hc1,rfl,aA hi,(hv _ _ _ hc1 (aA hi)).degr1,hone c (aP hc1)⟩
    ·cases hc1
   have key:RepP fi (M.cutF n) w (.sl false 1 (((cs.drop off).take k).map aa)) (.slice A (((cs.drop off).take k).map aa).length c):=by
    refine RepP.sl 1 _ A c blk off (λj=>vs.getD (off+j) undef) ?_ (by rw[hlen];exact hcc) ?_ ?_ ?_ ?_
    ·rcases hA with hA|hA
     ·left;subst hA;simp
     ·exact .inr hA
    ·intro e he
     obtain⟨i,hi⟩:=List.mem_iff_getElem?.1 he;obtain⟨c,u,h1,rfl,_,_,h2⟩:=hel i e hi;rw[nA h2];rfl
    ·intro e he
     obtain⟨i,hi⟩:=List.mem_iff_getElem?.1 he;obtain⟨c,u,h1,rfl,_,_,h2⟩:=hel i e hi;simp[ar,nA h2,Ca h2]
    ·intro i e j p he hp
     obtain⟨c,u,h1,rfl,h3,_,h2⟩:=hel i e he;rw[nA h2] at hp;cases j with
     |succ j=>simp at hp
     |zero=>
      refine⟨.inr (.inl ⟨b,hn,hb,hown⟩),?_⟩;rw[cell_of_row w blk _ vs.toArray T (0,0) hh,List.getElem?_toArray,Nat.mul_one,cA,h3];simp[List.getD,h3]
    ·intro i e j p he hp
     obtain⟨c,u,h1,rfl,h3,h4,h2⟩:=hel i e he;rw[nA h2] at hp;cases j with
     |succ j=>simp at hp
     |zero=>
      simp at hp;subst hp;have e2:vs.getD (off+(i*1+0)) undef=u:=by simp[List.getD,h3]
      rw[e2];have hgi:(aa c).noG=true:=gZ (l:=((cs.drop off).take k).map aa) (by simpa [PV.noG] using hg) he;exact (h4.cut (jW _ _ hgi)).mono (Ext.cutF M n w)
   rw[hlen] at key;exact key
 ·rw [re hc hn hk] at hg ⊢
  have hbl:b<M.gb.length:=by rw[hG.gbl];exact (aD.1 hc).1
  obtain⟨_,hgen,hown,_,hfl,cs,T,hh,_,_,hv⟩:=hG.gh b _ _ hc (aA hbl);cases h with
  | stk _ _ _ blk c hb hg' hA hcc=>
   obtain⟨rfl,_⟩:=hA hgen.symm;have hlen:(xs.take k).length=k:=by rw[cK];omega
   have hel:∀(i:Nat) (e:PV),(xs.take k)[i]?=some e->cx e=true/\∃u,cs[i]?=some u/\RepP fi M w e u:=by
    intro i e he;rw[cE] at he;split at he
    ·exact⟨hfl e (aP he),hv i e he⟩
    ·cases he
   have hfc:∀e:PV,cx e=true->e.cells=[e]/\e.one=true/\ar e=true/\e.noG=true:=by intro e he;cases e<;>first|exact⟨rfl,rfl,rfl,rfl⟩|cases he
   have key:RepP fi (M.cutF n) w (.sl false 1 (xs.take k)) (.slice (some ⟨(M.st b).2.1,0,none⟩) (xs.take k).length c):=by
    refine RepP.sl 1 _ _ c (M.st b).2.1 0 (λj=>cs.getD j undef) (.inr rfl) (by rw[hlen];exact hcc) ?_ ?_ ?_ ?_
    ·intro e he
     obtain⟨i,hi⟩:=List.mem_iff_getElem?.1 he;rw[(hfc e (hel i e hi).1).1];rfl
    ·intro e he
     obtain⟨i,hi⟩:=List.mem_iff_getElem?.1 he;exact (hfc e (hel i e hi).1).2.2.1
    ·intro i e j p he hp
     obtain⟨h1,u,h3,_⟩:=hel i e he;rw[(hfc e h1).1] at hp;cases j with
     |succ j=>simp at hp
     |zero=>
      refine⟨.inr (.inr ⟨b,hn,hown⟩),?_⟩;rw[cell_of_row w _ _ cs T (0,0) hh,cR,Nat.mul_one,cA,h3];simp[cL,h3]
    ·intro i e j p he hp
     obtain⟨h1,u,h3,h4⟩:=hel i e he;rw[(hfc e h1).1] at hp;cases j with
     |succ j=>simp at hp
     |zero=>
      simp at hp;subst hp;have e2:cs.getD (i*1+0) undef=u:=by simp[cL,h3]
      rw[e2];exact (h4.cut (jW _ _ (hfc _ h1).2.2.2)).mono (Ext.cutF M n w)
   rw[hlen] at key;exact key
theorem Cb (hG:GI fi M w gh) {mk:Nat->Loc} (hmk:∀i g,n<=g->mk i≠ .gh g 0) (h:RepAt fi M w mk p v) (hok:ai p=true) (hg:(du n gh p).noG=true):RepAt fi (M.cutF n) w mk (du n gh p) v:=by
 by_cases ht:∃cs,p= .tup cs
 ·obtain⟨cs,rfl⟩:=ht
  obtain⟨vs,h1,h2,h3⟩:=h;refine⟨vs,h1,by simpa using h2,λi c u hc hu=>?_⟩;simp only[aB,aE] at hc;obtain⟨c,hc,rfl⟩:=hc;have hgc:(frz n gh c).noG=true:=gZ (l:=cs.map (frz n gh)) (by simpa [PV.noG,du] using hg) (i:=i) (by simp[hc]);have h4:=h3 i c u hc hu;rcases kP n gh c with e|⟨b,off,k,ds,rfl,hd,hn,hk⟩|⟨b,g,k,ds,rfl,hd,hn,hk⟩
  ·rw[e] at hgc ⊢
   exact (h4.cut (jW _ _ hgc)).cutF (hmk i)
  ·exact (nB hG h4 hgc).repC
  ·exact (nB hG h4 hgc).repC
 ·have e0:du n gh p=frz n gh p:=by
   unfold du;split
   ·rename_i vs;exact absurd ⟨vs,rfl⟩ ht
   ·rfl
  rw[e0] at hg ⊢;rcases kP n gh p with e|⟨b,off,k,ds,rfl,hd,hn,hk⟩|⟨b,g,k,ds,rfl,hd,hn,hk⟩
  ·rw[e] at hg ⊢
   exact (h.cut hok (jW _ _ hg)).cutF hmk
  ·exact (nB hG h hg).repE.repAt
  ·exact (nB hG h hg).repE.repAt
theorem Cc (hok:ai p=true):ai (du n gh p)=true:=by
 have h1:∀q,ar q=true->ar (frz n gh q)=true:=λq hq=>by
  rcases kP n gh q with e|⟨b,off,k,ds,rfl,hd,hn,hk⟩|⟨b,g,k,ds,rfl,hd,hn,hk⟩
  ·rw[e];exact hq
  ·rw[qZ hd hn hk];rfl
  ·rw[re hd hn hk];rfl
 cases p with
 |tup vs=>
  simp only[ai,du,bS,List.mem_map] at hok ⊢;rintro _ ⟨q,hq,rfl⟩;exact h1 q (hok q hq)
 |bs g b o k z=>
  have:ar (frz n gh (.bs g b o k z))=true:=h1 _ hok;simp only[du];rcases kP n gh (.bs g b o k z) with e|⟨b,off,k,ds,e,hd,hn,hk⟩|⟨b,g,k,ds,e,_⟩
  ·rw[e];exact hok
  ·cases e;rw[qZ hd hn hk];rfl
  ·cases e
 |stk b g k=>
  simp only[du];rcases kP n gh (.stk b g k) with e|⟨b,off,k,ds,e,hd,hn,hk⟩|⟨b,g,k,ds,e,hd,hn,hk⟩
  ·rw[e];exact hok
  ·cases e
  ·cases e;rw[re hd hn hk];rfl
 |_=>exact hok
theorem u6:∀{vs:List PV} {n t:Nat} {v:PV},get (fd n vs) t=some v->∃i,t=n+i/\vs[i]?=some v
 |[],n,t,v,h=>by simp[fd,get] at h
 | u::vs,n,t,v,h=>by
  simp only[fd,get] at h;split at h
  ·rename_i hnt;cases h;exact⟨0,by omega,rfl⟩
  ·obtain⟨i,h1,h2⟩:=u6 h
   exact⟨i+1,by omega,by simpa using h2⟩
open Classical in
theorem lR {fn:IFunc} {F:Nat} {Fn:Func} {c:Code} (hf:P.funcs[F]?=some Fn) (hb:Fn.body=some c) (hr:ff P fn.res Fn.results.toList=true)
  {vs:List PV} {gh gh':List GObj} {x:ag×St} {r:PV} (hwp:∀(a:Act) (M:Mem) (w:World),Inv fi M w ⟨fd 0 vs,[],gh⟩ a->Fn.ntmps<=a.tmps.size->c.wp P (CPost fi M w a.tmps.size x.1 x.2) a w) (hfin:am fn gh x=some (r,gh')):fO P fi F vs gh r gh':=by
 intro M w args hG hlb hown hlen hrep;obtain⟨e,sf⟩:=x;refine calls_of_wp hf hb ?_;have hsz:(args.toArray++Array.replicate (Fn.ntmps-args.toArray.size) undef).size=args.length+(Fn.ntmps-args.length):=by simp
 have hI:Inv fi M w ⟨fd 0 vs,[],gh⟩ {tmps:=args.toArray++Array.replicate (Fn.ntmps-args.toArray.size) undef,defers:=[] }:=by
  refine⟨λt v hv=>?_,rfl,hG.lbl,hG.gbl,hG.nodup,λi cs blk h=>by simp at h,hG.gh,hG.gl,hG.immlt,hG.ownlt,hG.gblt⟩;obtain⟨i,h1,h2⟩:=u6 hv;rw[cR] at h1;subst h1;have hi:=(aD.1 h2).1;have hi':t<args.length:=by omega
  refine⟨by simp only[hsz];omega,?_⟩;have:=hrep t v args[t] h2 (aA hi');have e2:(args.toArray++Array.replicate (Fn.ntmps-args.toArray.size) undef).getD t undef=args[t]:=by rw[cL,Array.getElem?_append_left (by simpa using hi')];simp[hi']
  rw[e2];exact this.repE.repAt
 refine wp_mono (hwp _ M w hI (by simp only[hsz];omega)) ?_;rintro ex a' w' ⟨h1,M',h2,h3,_⟩
 have key:e= .normal\/e= .ret->∃r0 gh0,am fn gh (e,sf)=some (r0,gh0)/\a'.defers=[]/\∃v,(Go.results Fn a'.tmps).run P w'= .ok v w'/\
   ∃M2,GI fi M2 w' gh0/\M2.lb=[]/\ai r0=true/\RepAt fi M2 w' Loc.res r0 v/\Kp M w M2 w':=by
  intro he;refine⟨r,gh',hfin,h2.defers,?_⟩
  have hfin':(results fn.own fn.res sf).bind (λr=>if ai r then
   (if fn.trunc then if sf.gh.take gh.length=gh/\(du gh.length sf.gh r).noG then some (du gh.length sf.gh r,gh) else none else some (r,sf.gh)) else none)=some (r,gh'):=by
   rcases he with rfl|rfl<;>exact hfin
  rw[aC] at hfin';obtain⟨r1,q1,q2⟩:=hfin';split at q2
  ·rename_i hok
   obtain⟨v,M1,v1,v2,v3,v4⟩:=B9 (P:=P) h2 hr q1 hok;have hG1:GI fi M1.noLb w' sf.gh:=Inv.toGI (s:=sf) v2;have hr1:=v4.noLb hok;have hk1:Kp M w M1.noLb w':=(h3.trans v3).trans (Kp.noLb M1 w');split at q2
   ·split at q2
    ·rename_i hq
     cases q2;have hn:gh.length<=sf.gh.length:=by have:=congrArg List.length hq.1;rw[cK] at this;omega
     refine⟨v,v1,M1.noLb.cutF gh.length,?_,rfl,Cc hok,Cb hG1 (λ_ _ _ e=>by cases e) hr1 hok hq.2,?_⟩
     ·have:=hG1.cutF gh.length hn (λi o ho=>by
       rw[hq.1] at ho;have hi:i<M.gb.length:=by rw[hG.gbl];exact (aD.1 ho).1
       have:=(hG.gh i o _ ho (aA hi)).bnd
       rwa [hG.gbl] at this)
      rwa [hq.1] at this
     ·have hgbl:M.gb.length=gh.length:=hG.gbl
      refine⟨hk1.os,hk1.tape,hk1.output,hk1.size,⟨λi k h=>?_,λb k h=> .inl (hk1.ext.imm b k h),hk1.ext.cell,hk1.ext.st⟩,hk1.block,hk1.lbn,λk h=>hk1.gbn k (cJ h),hk1.ownn,λb k h=>?_⟩
      ·have hi:i<gh.length:=by have h4:=(aD.1 h).1;omega
       have:=hk1.ext.gb i k h;simp only[Mem.cutF,Mem.cut,cE,hi,if_true];exact this
      ·rcases h with h|⟨g,hg,hb,_⟩|⟨g,hg,ho⟩
       ·exact hk1.immn b k h
       rotate_left
       ·rcases Nat.lt_or_ge b w.heap.size with hlt|hge
        ·refine .inr (.inr λe=>?_)
         rw[hk1.ownn b hlt e] at ho;cases ho
        ·exact .inr (.inl hge)
       ·rcases hk1.gbn b (aP hb) with h2|h2|h2
        ·exfalso
         obtain⟨i,hi⟩:=List.mem_iff_getElem?.1 h2;have hi2:=hk1.ext.gb i b hi;have hnd:=hG1.nodup;rw[cM] at hnd;have e1:=aD.1 hb;have e2:=aD.1 hi2;have:i=g:=ny hnd.2.1 (by rw[hi2,hb]) e2.1;have:=(aD.1 hi).1;omega
        ·exact .inr (.inl h2)
        ·exact .inr (.inr h2)
    ·cases q2
   ·cases q2
    exact⟨v,v1,M1.noLb,hG1,rfl,hok,hr1,hk1⟩
  ·cases q2
 cases e with
 |exit i=>simp[am] at hfin
 |normal=>
  obtain⟨r0,gh0,k1,k2,v,k3,M2,k4⟩:=key (.inl rfl);rw[hfin] at k1;cases k1;subst h1;exact⟨k2,v,k3,v,M2,rfl,k4⟩
 |ret=>
  obtain⟨r0,gh0,k1,k2,v,k3,M2,k4⟩:=key (.inr rfl);rw[hfin] at k1;cases k1;subst h1;exact⟨k2,v,k3,v,M2,rfl,k4⟩
theorem Cd {n:Nat} (hc:kM P fi pg n) {fn:IFunc} {F:Nat} {Fn:Func} {c:Code} (hf:P.funcs[F]?=some Fn) (hb:Fn.body=some c) (hm:ez P fi Fn.ntmps fn.body c=true) (hr:ff P fn.res Fn.results.toList=true)
  {vs:List PV} {gh gh':List GObj} {x:ag×St} {r:PV} (hrun:aw pg n fn.body ⟨fd 0 vs,[],gh⟩=some x) (hfin:am fn gh x=some (r,gh')):fO P fi F vs gh r gh':=
 lR hf hb hr (λa M w hI hN=>hc Fn.ntmps fn.body c _ x.1 x.2 a M w hm hrun hI hN) hfin
end
end
section
open Go.RowKit
section
variable {fi:FI} {M M':Mem} {w w':World} {P:Program} {s s':St} {a:Act} {cf:CallF} {pg:Prg}
def u7 (P : Program) (F : Nat) : Prop := ∃ fn c, P.funcs[F]? = some fn ∧ (fn.name == "runtime.NumGoroutine") = false ∧ fn.body = some c
def jX (P:Program) (fi:FI) (pg:Prg):Prop:=
 ∀f F,fi f=some F->u7 P F/\match pg f with
  |some (.code fn)=>∃Fn c,P.funcs[F]?=some Fn/\Fn.body=some c/\ez P fi Fn.ntmps fn.body c=true/\ff P fn.res Fn.results.toList=true
  |some (.lib L)=>∀vs gh r gh',L vs gh=some (r,gh')->(∀p∈vs,ar p=true)->fO P fi F vs gh r gh'
  |none=>True
theorem u9 (hL:jX P fi pg) {n:Nat} (hc:kM P fi pg n):hJ P fi (dG (aw pg n) pg):=by
 intro f vs gh r gh' F h hok hf;obtain⟨h1,h2⟩:=hL f F hf;refine⟨h1,?_⟩;unfold dG at h;cases hp:pg f with
 |none=>rw[hp] at h;cases h
 | some df=>
  cases df with
  |lib L=>
   rw[hp] at h h2;exact h2 vs gh r gh' h hok
  | code fn=>
   rw[hp] at h h2;obtain⟨Fn,c,e1,e2,e3,e4⟩:=h2;simp only at h;split at h
   ·simp only[aC] at h
    obtain⟨x,hx,hfin⟩:=h;exact Cd hc e1 e2 e3 e4 hx hfin
   ·cases h
theorem rf (hP:P.follows .mixedOrders=true) (hL:jX P fi pg):∀n,kM P fi pg n
 |0=>λN ic c s e s' a M w _ h=>by simp[aw] at h
 |n+1=>uW hP (rf hP hL n) (u9 hL (rf hP hL n))
theorem Cf (hP:P.follows .mixedOrders=true) (hL:jX P fi pg) {f:Nat} {vs:List PV} {gh:List GObj} {r:PV} {gh':List GObj} {F:Nat} (h:ac pg f vs gh=some (r,gh')) (hok:∀p∈vs,ar p=true) (hf:fi f=some F) :
  fO P fi F vs gh r gh':=by
 obtain⟨n,hn⟩:=lz pg h;exact (u9 hL (rf hP hL n) f vs gh r gh' F hn hok hf).2
def Mem.start (w:World):Mem:={lb:=[],gb:=[],imm:=λb _=>b<w.heap.size,own:=λ_=>none,st:=λ_=>(0,0,0) }
theorem GI.start (fi:FI) (w:World) (hg:∀x∈fi.gl,x.1<w.heap.size/\w.cell? ⟨x.1,x.2.1,none⟩=x.2.2):GI fi (Mem.start w) w []:=
 ⟨λt v hv=>by simp[get] at hv,rfl,rfl,rfl,by simp[Mem.start],λi cs blk h=>by simp at h,λi o blk h=>by simp at h,λx hx=>⟨(hg x hx).1,(hg x hx).2⟩,λb k h=>h,λb l h=>by simp[Mem.start] at h,λb h=>by simp[Mem.start] at h⟩
theorem Cg (hP:P.follows .mixedOrders=true) (hL:jX P fi pg) {f F:Nat} {vs:List PV} {r:PV} (h:ac pg f vs []=some (r,[])) (hok:∀p∈vs,ar p=true) (hf:fi f=some F) {args:List Value} (hl:args.length=vs.length) (hg:∀x∈fi.gl,x.1<w.heap.size/\w.cell? ⟨x.1,x.2.1,none⟩=x.2.2)
  (hr:∀(i:Nat) (p:PV) (v:Value),vs[i]?=some p->args[i]?=some v->RepP fi (Mem.start w) w p v) :
  Calls P F args.toArray w λe w'=>∃v M',e= .returned v/\ai r=true/\RepAt fi M' w' Loc.res r v/\w'.os=w.os/\w'.tape=w.tape/\w'.output=w.output/\w.heap.size<=w'.heap.size/\∀k,k<w.heap.size->w'.heap[k]?=w.heap[k]?:=by
 refine Calls.mono (Cf hP hL h hok hf (Mem.start w) w args (GI.start fi w hg) rfl (λb l h=>by simp[Mem.start] at h) hl hr) ?_;rintro e w' ⟨v,M',rfl,_,_,h3,h4,h5⟩;exact⟨v,M',rfl,h3,h4,h5.os,h5.tape,h5.output,h5.size,λk hk=>h5.block k hk (by simp[Mem.start]) (by simp[Mem.start]) rfl⟩
end
end
section
open Go.RowKit
section
variable {fi:FI} {M M':Mem} {w w':World} {P:Program} {s s':St} {a:Act} {cf:CallF}
theorem pK (hP:P.follows .mixedOrders=true):∀n,kM P fi (λ_=>none) n
 |0=>λN ic c s e s' a M w _ h=>by simp[aw] at h
 |n+1=>uW hP (pK hP n) (λf vs gh r gh' F h=>by simp[dG] at h)
theorem kp {ops:Array Oper} {Q:Exit->Act->World->Prop} {o:Oper} {rest:List Oper} (h:if Region.wanted o (yielded ops a.tmps) then o.wp P a w (wpList P ops Q rest) Q else wpList P ops Q rest (a.put o.dst undef) w):wpList P ops Q (o::rest) a w:=by
 unfold wpList;split
 ·rename_i hw;rw[if_pos hw] at h;exact .inl h
 ·rename_i hw;rw[if_neg hw] at h;exact h
theorem tw {o:Oper} {d:Nat} {t t2:TypeId} {k:Nat} {e:TypeId} {A:Option Addr} {n c:Nat} (ho:o.op= .binOp .eql t (.tmp k) (.const (.slice none 0 0)) t2) (hd:o.dst=some d) (ht:P.underlying t=some (.slice e)) (hv:a.tmps.getD k undef= .slice A n c)
  {next:Act->World->Prop} {Q:Exit->Act->World->Prop} (hn:next (a.put (some d) (.bool A.isNone)) w):o.wp P a w next Q:=by
 obtain⟨dst,op,ty,pos,aft,gd⟩:=o;simp only at ho hd;subst ho;subst hd;have e1:∀d,(Op.equalIn (d+1) t (.slice A n c) (.slice none 0 0)).run P w= .ok A.isNone w:=λd=>by cases A<;>simp[Op.equalIn,run_underlying ht]
 have e2:(Op.equal t (.slice A n c) (.slice none 0 0)).run P w= .ok A.isNone w:=e1 9999;have h1:a.eval (.tmp k)= .slice A n c:=hv;have hc:a.eval (.const (.slice none 0 0))= .slice none 0 0:=rfl;unfold Oper.wp;have:(execOp a.eval {dst:=some d,op:=Op.binOp .eql t (.tmp k) (.const (.slice none 0 0)) t2,type:=ty,pos:=pos,after:=aft,guard:=gd }).run P w= .ok (.value (.bool A.isNone)) w:=by simp[execOp,h1,hc,eqGuard,binOp,e2]
 rw[this];exact hn
def tz (z:Nat):List IOpG:=[⟨.mv 2 (.c (.sl true z [])),none⟩]
def tA (z bytes:Nat):List IOpG:=[⟨.buildSl 5 z [],none⟩,⟨.mv 6 (.t 0),none⟩,⟨.append 7 z bytes (.t 5) (.t 6),none⟩,⟨.tk 2 7,none⟩]
theorem pL {pg:Prg} (z:Nat) (s:St):aw pg 1 (.region (tz z) false) s=some (.normal,s.put 2 (.sl true z [])):=rfl
theorem Jo {pg:Prg} {z bytes:Nat} {s:St} {o:Bool} {xs:List PV} (h:get s.env 0=some (.sl o z xs)) (hb:xs.length*bytes<=maxBytes) :
  ∃s',aw pg 1 (.region (tA z bytes) false) s=some (.normal,s')/\get s'.env 2=some (.sl true z xs)/\s'.lh=s.lh/\s'.gh=s.gh:=by
 have g1:∀v,get (put s.env 5 v) 0=some (.sl o z xs):=λv=>by rw[eg];simpa using h
 refine⟨⟨put (put (put (put (put (put s.env 5 (.sl true z [])) 6 (.sl false z xs)) 5 (.sl false z [])) 7 (.sl true z xs)) 7 (.sl false z xs)) 2 (.sl true z xs),s.lh,s.gh⟩,?_,by rw[eg];simp,rfl,rfl⟩;simp[aw,tA,dF,opG,ae,cZ,St.put,go,ah,h,eY,eg,degr,hb]
def lw (P:Program) (fi:FI) (z bytes N:Nat):Code->Bool
 | .seq c0 (.seq (.seq (.region _ ops1 false) (.cond (.tmp 4) (.seq c2 .ret) .skip)) (.seq c3 .ret))=>
  ez P fi N (.region (tz z) false) c0&&(ez P fi N (.region (tz z) false) c2&&(ez P fi N (.region (tA z bytes) false) c3 &&
   (match ops1.toList with
    |[o1,o2]=>kB P fi N ops1 ⟨.mv 3 (.t 0),none⟩ o1&&(o2.dst==some 4&&(o2.guard.isNone&&(decide (4<N)&&(match o2.op with
     | .binOp .eql t (.tmp 3) (.const (.slice none 0 0)) _=>(match P.underlying t with|some (.slice _)=>true|_=>false)
     |_=>false))))
    |_=>false)))
 |_=>false
theorem zh (hP:P.follows .mixedOrders=true) {z bytes F:Nat} {Fn:Func} {c:Code} (hf:P.funcs[F]?=some Fn) (hb:Fn.body=some c) (hm:lw P fi z bytes Fn.ntmps c=true) (hr:ff P [.t 2] Fn.results.toList=true)
  {vs:List PV} {gh gh':List GObj} {r:PV} (h:gf z bytes vs gh=some (r,gh')):fO P fi F vs gh r gh':=by
 obtain⟨o,xs,rfl,hbd,rfl,rfl⟩:∃o xs,vs=[.sl o z xs]/\xs.length*bytes<=maxBytes/\r= .sl true z xs/\gh=gh':=by
  unfold gf at h;split at h
  ·rename_i o z' xs
   split at h
   ·rename_i hc
    obtain⟨rfl,hc⟩:=hc;cases h;exact⟨o,xs,rfl,hc,rfl,rfl⟩
   ·cases h
  ·cases h
 let fn:IFunc:={np:=1,res:=[.t 2],own:=true,trunc:=false,body:= .skip }
 refine lR (fn:=fn) (x:=(.ret,⟨[(2,.sl true z xs)],[],gh⟩)) hf hb hr ?_ (by simp[fn,am,results,get,ai,ar,PV.cells,PV.one]);intro a M w hI hN;unfold lw at hm;split at hm
 ·rename_i c0 id1 ops1 c2 c3
  simp only[aY] at hm;obtain⟨m0,m2,m3,m1⟩:=hm;split at m1
  ·rename_i o1 o2 hops
   simp only[aY,cX,aH,Option.isNone_iff_eq_none] at m1;obtain⟨m11,m12,m13,h4,m14⟩:=m1;split at m14
   ·rename_i t t2 hop
    split at m14
    ·rename_i e ht
     have hC:=pK (fi:=fi) hP
     -- the head
     refine wp_seq (wp_mono (hC 9 Fn.ntmps _ c0 _ .normal (St.put ⟨fd 0 [.sl o z xs],[],gh⟩ 2 (.sl true z [])) a M w m0 (fl _ (by omega) (pL z _)) hI hN) ?_);rintro ex a1 w1 ⟨rfl,M1,hI1,hk1,hs1⟩
     show Code.wp P _ _ a1 w1
     refine wp_seq (wp_seq ?_);refine wp_region_list ?_;rw[hops];have hcf:hJ P fi (dG (aw (λ_=>none) 0) (λ_=>none)):=λf vs gh r gh' F h=>by simp[dG] at h
     refine kp (lM hcf hI1 m11 (by omega) (s':=St.put (St.put ⟨fd 0 [.sl o z xs],[],gh⟩ 2 (.sl true z [])) 3 (.sl false z xs)) rfl (λa2 M2 w2 hI2 hk2 hs2=>?_))
     ·have h3:=(hI2.env 3 (.sl false z xs) rfl).2
      obtain⟨A,cc,hv⟩:∃A cc,a2.tmps.getD 3 undef= .slice A xs.length cc:=by
       generalize a2.tmps.getD 3 undef=u at h3;cases (show RepP fi M2 w2 (.sl false z xs) u from h3) with
       |sl _ _ A cc=>exact⟨A,cc,rfl⟩
      have hg:Region.wanted o2 (yielded ops1 a2.tmps)=true:=by unfold Region.wanted;rw[m13]
      refine kp ?_;rw[if_pos hg];refine tw hop m12 ht hv ?_;unfold wpList;have hI3:=hI2.put (d:=4) (by omega) (p:= .bool A.isNone) (v:= .bool A.isNone) ((RepP.bool (fi:=fi) (M:=M2) (w:=w2) A.isNone).repE.repAt);have hs3:(a2.put (some 4) (.bool A.isNone)).tmps.size=a2.tmps.size:=by simp[Act.put]
      have hev:∀b,A.isNone=b->(a2.put (some 4) (.bool A.isNone)).eval (.tmp 4)= .bool b:=by
       intro b hb;have h4':4<a2.tmps.size:=by omega
       subst hb;simp[Act.eval,Act.put,cL,Array.getElem?_setIfInBounds,h4']
      generalize a2.put (some 4) (.bool A.isNone)=a3 at hI3 hs3 hev;cases hA:A with
      | none=>
       have hx:xs=[]:=by
        generalize a2.tmps.getD 3 undef=u at h3 hv;subst hv;subst hA;cases (show RepP fi M2 w2 (.sl false z xs) _ from h3) with
        | sl _ _ _ _ b o' vf hA' => rcases hA' with h|h
                                    ·exact h
                                    ·cases h
       subst hx;refine wp_cond_true (hev true (by rw[hA];rfl)) ?_;refine wp_seq (wp_mono (hC 9 Fn.ntmps _ c2 _ .normal _ a3 M2 w2 m2 (fl _ (by omega) (pL z _)) hI3 (by omega)) ?_);rintro ex a4 w4 ⟨rfl,M4,hI4,hk4,hs4⟩;refine wp_ret ?_;obtain⟨q1,q2⟩:=hI4.keep [2] 0;refine⟨rfl,_,?_,((hk1.trans hk2).trans hk4).trans q2,by omega⟩;exact q1
      |some ad=>
       refine wp_cond_false (hev false (by rw[hA];rfl)) ?_;refine wp_skip ?_
       show Code.wp P _ _ a3 w2
       obtain⟨s',r1,r2,r3,r4⟩:=Jo (pg:=λ_=>none) (bytes:=bytes) (s:=(St.put (St.put ⟨fd 0 [.sl o z xs],[],gh⟩ 2 (.sl true z [])) 3 (.sl false z xs)).put 4 (.bool A.isNone)) (o:=o) (xs:=xs) rfl hbd;refine wp_seq (wp_mono (hC 9 Fn.ntmps _ c3 _ .normal s' a3 M2 w2 m3 (fl _ (by omega) r1) hI3 (by omega)) ?_);rintro ex a4 w4 ⟨rfl,M4,hI4,hk4,hs4⟩;refine wp_ret ?_;obtain⟨q1,q2⟩:=hI4.keep [2] 0;refine⟨rfl,_,?_,((hk1.trans hk2).trans hk4).trans q2,by omega⟩;have e1:Lw.keep 0 [2] s'.env=[(2,.sl true z xs)]:=by simp[Lw.keep,r2,co]
       rw[e1,r3,r4] at q1;exact q1
    ·cases m14
   ·cases m14
  ·cases m1
 ·cases hm
def zi (P:Program) (fi:FI) (z bytes F:Nat):Bool:=
 match P.funcs[F]? with
 |some Fn=>match Fn.body with
  |some c=>lw P fi z bytes Fn.ntmps c&&ff P [.t 2] Fn.results.toList
  |none=>false
 |none=>false
theorem zj (hP:P.follows .mixedOrders=true) {z bytes F:Nat} (h:zi P fi z bytes F=true) (vs:List PV) (gh:List GObj) (r:PV) (gh':List GObj) (hr:gf z bytes vs gh=some (r,gh')):fO P fi F vs gh r gh':=by
 unfold zi at h;cases hF:P.funcs[F]? with
 |none=>rw[hF] at h;cases h
 | some Fn=>
  rw[hF] at h;simp only at h;cases hb:Fn.body with
  |none=>rw[hb] at h;cases h
  |some c=>
   rw[hb] at h;simp only[aY] at h;exact zh hP hF hb h.1 h.2 hr
end
end
section
open Go.RowKit
variable {bytes:Nat} {xs:List PV}
section
variable {fi:FI} {M M':Mem} {w w':World} {P:Program} {s s':St} {a:Act} {cf:CallF}
def m8 (bytes:Nat):List IOpG:=[⟨.buildSlK 5 [],none⟩,⟨.mv 6 (.t 0),none⟩,⟨.appendK 7 bytes (.t 5) (.t 6),none⟩,⟨.tk 2 7,none⟩]
theorem Jp {pg:Prg} {s:St} {o:Bool} (h:get s.env 0=some (.sl o 1 xs)) (hb:xs.length*bytes<=maxBytes) (hf:xs.all cx=true) :
  ∃s',aw pg 1 (.region (m8 bytes) false) s=some (.normal,s')/\get s'.env 2=some (.stk s.gh.length 1 xs.length)/\s'.lh=s.lh/\s'.gh=s.gh++[.stk 1 xs]:=by
 refine⟨⟨put (put (put (put (put s.env 5 (.stk s.gh.length 0 0)) 6 (.sl false 1 xs)) 7 (.stk s.gh.length 1 xs.length)) 7 (.stk s.gh.length 1 xs.length)) 2 (.stk s.gh.length 1 xs.length),s.lh,s.gh++[.stk 1 xs]⟩,?_,by rw[eg];simp,rfl,rfl⟩;simp[aw,m8,dF,opG,ae,cZ,St.put,go,ah,h,eg,degr,hb,hf,gC,gY,-List.all_eq_true]
def tC (P:Program) (fi:FI) (bytes N:Nat):Code->Bool
 | .seq c0 (.seq (.seq (.region k1 ops1 false) (.cond (.tmp 4) (.seq c2 .ret) .skip)) (.seq c3 .ret))=>
  lw P fi 1 bytes N (.seq c0 (.seq (.seq (.region k1 ops1 false) (.cond (.tmp 4) (.seq c2 .ret) .skip)) (.seq c3 .ret)))&&ez P fi N (.region (m8 bytes) false) c3
 |_=>false
theorem Jq {pg:Prg} {s:St} {b gen n:Nat} (h:get s.env 0=some (.stk b gen n)) (hg:s.gh[b]?=some (.stk gen xs)) (hn:n<=xs.length) (hb:n*bytes<=maxBytes) (hf:(xs.take n).all cx=true) :
  ∃s',aw pg 1 (.region (m8 bytes) false) s=some (.normal,s')/\get s'.env 2=some (.stk s.gh.length 1 n)/\s'.lh=s.lh/\s'.gh=s.gh++[.stk 1 (xs.take n)]:=by
 have hbl:b<s.gh.length:=(aD.1 hg).1;have hg2:(s.gh++[GObj.stk 0 []])[b]?=some (.stk gen xs):=by rw[aJ hbl];exact hg
 have hl:(xs.take n).length=n:=by simp;omega
 have hap:(b !=s.gh.length)=true:=by simp;omega
 refine⟨⟨put (put (put (put (put s.env 5 (.stk s.gh.length 0 0)) 6 (.stk b gen n)) 7 (.stk s.gh.length 1 n)) 7 (.stk s.gh.length 1 n)) 2 (.stk s.gh.length 1 n),s.lh,s.gh++[.stk 1 (xs.take n)]⟩,?_,by rw[eg];simp,rfl,rfl⟩;simp[aw,m8,dF,opG,ae,cZ,St.put,go,ah,h,eg,degr,hg2,hn,hl,hb,hf,gC,gY,hap,-List.all_eq_true,-List.length_take]
theorem Jr (hP:P.follows .mixedOrders=true) {bytes F:Nat} {Fn:Func} {c:Code} (hf:P.funcs[F]?=some Fn) (hb:Fn.body=some c) (hm:tC P fi bytes Fn.ntmps c=true) (hr:ff P [.t 2] Fn.results.toList=true)
  {vs:List PV} {gh gh':List GObj} {r:PV} (h:jt bytes vs gh=some (r,gh')):fO P fi F vs gh r gh':=by
 unfold tC at hm;split at hm
 case h_2=>cases hm
 rename_i c0 id1 ops1 c2 c3;simp only[aY] at hm;obtain⟨hm,mK⟩:=hm;unfold jt at h;split at h
 case h_3=>cases h
 case h_2=>
  rename_i b gen n;split at h
  case h_2=>cases h
  rename_i g xs hgb;split at h
  case isFalse=>cases h
  rename_i hc;obtain⟨rfl,hn,hbd,hfl⟩:=hc;cases h
  let fn:IFunc:={np:=1,res:=[.t 2],own:=true,trunc:=false,body:= .skip }
  refine lR (fn:=fn) (x:=(.ret,⟨[(2,.stk gh.length 1 n)],[],gh++[.stk 1 (xs.take n)]⟩)) hf hb hr ?_ (by simp[fn,am,results,get,ai,ar,PV.cells,PV.one]);intro a M w hI hN;unfold lw at hm;simp only[aY] at hm;obtain⟨m0,m2,m3,m1⟩:=hm;split at m1
  case h_2=>cases m1
  rename_i o1 o2 hops;simp only[aY,cX,aH,Option.isNone_iff_eq_none] at m1;obtain⟨m11,m12,m13,h4,m14⟩:=m1;split at m14
  case h_2=>cases m14
  rename_i t t2 hop;split at m14
  case h_2=>cases m14
  rename_i e ht;have hC:=pK (fi:=fi) hP;refine wp_seq (wp_mono (hC 9 Fn.ntmps _ c0 _ .normal (St.put ⟨fd 0 [.stk b g n],[],gh⟩ 2 (.sl true 1 [])) a M w m0 (fl _ (by omega) (pL 1 _)) hI hN) ?_);rintro ex a1 w1 ⟨rfl,M1,hI1,hk1,hs1⟩
  show Code.wp P _ _ a1 w1
  refine wp_seq (wp_seq ?_);refine wp_region_list ?_;rw[hops];have hcf:hJ P fi (dG (aw (λ_=>none) 0) (λ_=>none)):=λf vs gh r gh' F h=>by simp[dG] at h
  refine kp (lM hcf hI1 m11 (by omega) (s':=St.put (St.put ⟨fd 0 [.stk b g n],[],gh⟩ 2 (.sl true 1 [])) 3 (.stk b g n)) rfl (λa2 M2 w2 hI2 hk2 hs2=>?_));have h3:=(hI2.env 3 (.stk b g n) rfl).2;obtain⟨ad,cc,hv⟩:∃ad cc,a2.tmps.getD 3 undef= .slice (some ad) n cc:=by
   generalize a2.tmps.getD 3 undef=u at h3;cases (show RepP fi M2 w2 (.stk b g n) u from h3) with
   |stk _ _ _ blk c hb hg hA hc=>exact⟨_,c,rfl⟩
  have hg:Region.wanted o2 (yielded ops1 a2.tmps)=true:=by unfold Region.wanted;rw[m13]
  refine kp ?_;rw[if_pos hg];refine tw hop m12 ht hv ?_;unfold wpList;have hI3:=hI2.put (d:=4) (by omega) (p:= .bool false) (v:= .bool false) ((RepP.bool (fi:=fi) (M:=M2) (w:=w2) false).repE.repAt);have hs3:(a2.put (some 4) (.bool false)).tmps.size=a2.tmps.size:=by simp[Act.put]
  have hev:(a2.put (some 4) (.bool false)).eval (.tmp 4)= .bool false:=by
   have h4':4<a2.tmps.size:=by omega
   simp[Act.eval,Act.put,cL,Array.getElem?_setIfInBounds,h4']
  show Code.wp P _ _ (a2.put (some 4) (.bool false)) w2
  generalize a2.put (some 4) (.bool false)=a3 at hI3 hs3 hev;refine wp_cond_false hev ?_;refine wp_skip ?_
  show Code.wp P _ _ a3 w2
  obtain⟨s',r1,r2,r3,r4⟩:=Jq (pg:=λ_=>none) (bytes:=bytes) (s:=(St.put (St.put ⟨fd 0 [.stk b g n],[],gh⟩ 2 (.sl true 1 [])) 3 (.stk b g n)).put 4 (.bool false)) (b:=b) (gen:=g) (n:=n) (xs:=xs) rfl hgb hn hbd hfl;refine wp_seq (wp_mono (hC 9 Fn.ntmps _ c3 _ .normal s' a3 M2 w2 mK (fl _ (by omega) r1) hI3 (by omega)) ?_);rintro ex a4 w4 ⟨rfl,M4,hI4,hk4,hs4⟩;refine wp_ret ?_;obtain⟨q1,q2⟩:=hI4.keep [2] 0;refine⟨rfl,_,?_,((hk1.trans hk2).trans hk4).trans q2,by omega⟩;have e1:Lw.keep 0 [2] s'.env=[(2,.stk gh.length 1 n)]:=by simp only[Lw.keep,r2];rfl
  rw[e1,r3,r4] at q1;exact q1
 rename_i o z' xs;by_cases hx:xs=[]
 ·rw[if_pos hx] at h
  exact zh hP hf hb hm hr h
 rw[if_neg hx] at h;split at h
 case isFalse=>cases h
 rename_i hc;obtain⟨rfl,hbd,hfl⟩:=hc;cases h
 let fn:IFunc:={np:=1,res:=[.t 2],own:=true,trunc:=false,body:= .skip }
 refine lR (fn:=fn) (x:=(.ret,⟨[(2,.stk gh.length 1 xs.length)],[],gh++[.stk 1 xs]⟩)) hf hb hr ?_ (by simp[fn,am,results,get,ai,ar,PV.cells,PV.one]);intro a M w hI hN;unfold lw at hm;simp only[aY] at hm;obtain⟨m0,m2,m3,m1⟩:=hm;split at m1
 case h_2=>cases m1
 rename_i o1 o2 hops;simp only[aY,cX,aH,Option.isNone_iff_eq_none] at m1;obtain⟨m11,m12,m13,h4,m14⟩:=m1;split at m14
 case h_2=>cases m14
 rename_i t t2 hop;split at m14
 case h_2=>cases m14
 rename_i e ht;have hC:=pK (fi:=fi) hP;refine wp_seq (wp_mono (hC 9 Fn.ntmps _ c0 _ .normal (St.put ⟨fd 0 [.sl o 1 xs],[],gh⟩ 2 (.sl true 1 [])) a M w m0 (fl _ (by omega) (pL 1 _)) hI hN) ?_);rintro ex a1 w1 ⟨rfl,M1,hI1,hk1,hs1⟩
 show Code.wp P _ _ a1 w1
 refine wp_seq (wp_seq ?_);refine wp_region_list ?_;rw[hops];have hcf:hJ P fi (dG (aw (λ_=>none) 0) (λ_=>none)):=λf vs gh r gh' F h=>by simp[dG] at h
 refine kp (lM hcf hI1 m11 (by omega) (s':=St.put (St.put ⟨fd 0 [.sl o 1 xs],[],gh⟩ 2 (.sl true 1 [])) 3 (.sl false 1 xs)) rfl (λa2 M2 w2 hI2 hk2 hs2=>?_));have h3:=(hI2.env 3 (.sl false 1 xs) rfl).2;obtain⟨ad,cc,hv⟩:∃ad cc,a2.tmps.getD 3 undef= .slice (some ad) xs.length cc:=by
  generalize a2.tmps.getD 3 undef=u at h3;cases (show RepP fi M2 w2 (.sl false 1 xs) u from h3) with
  |sl _ _ A cc b' o' vf hA=>exact⟨_,cc,by rw[hA.resolve_left hx]⟩
 have hg:Region.wanted o2 (yielded ops1 a2.tmps)=true:=by unfold Region.wanted;rw[m13]
 refine kp ?_;rw[if_pos hg];refine tw hop m12 ht hv ?_;unfold wpList;have hI3:=hI2.put (d:=4) (by omega) (p:= .bool false) (v:= .bool false) ((RepP.bool (fi:=fi) (M:=M2) (w:=w2) false).repE.repAt);have hs3:(a2.put (some 4) (.bool false)).tmps.size=a2.tmps.size:=by simp[Act.put]
 have hev:(a2.put (some 4) (.bool false)).eval (.tmp 4)= .bool false:=by
  have h4':4<a2.tmps.size:=by omega
  simp[Act.eval,Act.put,cL,Array.getElem?_setIfInBounds,h4']
 show Code.wp P _ _ (a2.put (some 4) (.bool false)) w2
 generalize a2.put (some 4) (.bool false)=a3 at hI3 hs3 hev;refine wp_cond_false hev ?_;refine wp_skip ?_
 show Code.wp P _ _ a3 w2
 obtain⟨s',r1,r2,r3,r4⟩:=Jp (pg:=λ_=>none) (bytes:=bytes) (s:=(St.put (St.put ⟨fd 0 [.sl o 1 xs],[],gh⟩ 2 (.sl true 1 [])) 3 (.sl false 1 xs)).put 4 (.bool false)) (o:=o) (xs:=xs) rfl hbd hfl;refine wp_seq (wp_mono (hC 9 Fn.ntmps _ c3 _ .normal s' a3 M2 w2 mK (fl _ (by omega) r1) hI3 (by omega)) ?_);rintro ex a4 w4 ⟨rfl,M4,hI4,hk4,hs4⟩;refine wp_ret ?_;obtain⟨q1,q2⟩:=hI4.keep [2] 0;refine⟨rfl,_,?_,((hk1.trans hk2).trans hk4).trans q2,by omega⟩;have e1:Lw.keep 0 [2] s'.env=[(2,.stk gh.length 1 xs.length)]:=by simp only[Lw.keep,r2];rfl
 rw[e1,r3,r4] at q1;exact q1
def zk (P:Program) (fi:FI) (bytes F:Nat):Bool:=
 match P.funcs[F]? with
 |some Fn=>match Fn.body with
  |some c=>tC P fi bytes Fn.ntmps c&&ff P [.t 2] Fn.results.toList
  |none=>false
 |none=>false
theorem Js (hP:P.follows .mixedOrders=true) {F:Nat} (h:zk P fi bytes F=true) (vs:List PV) (gh:List GObj) (r:PV) (gh':List GObj) (hr:jt bytes vs gh=some (r,gh')):fO P fi F vs gh r gh':=by
 unfold zk at h;cases hF:P.funcs[F]? with
 |none=>rw[hF] at h;cases h
 | some Fn=>
  rw[hF] at h;simp only at h;cases hb:Fn.body with
  |none=>rw[hb] at h;cases h
  |some c=>
   rw[hb] at h;simp only[aY] at h;exact Jr hP hF hb h.1 h.2 hr
end
end
end Go.Lw