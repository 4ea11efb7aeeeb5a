/-
  The texts that the proof stands on, part 16.
-/
import Derived.Test.YtmodipglnngghabExploreAllsO
import Derived.Orders
set_option linter.unusedVariables false
set_option linter.unusedSimpArgs false
set_option linter.unnecessarySimpa false

set_option maxRecDepth 100000
set_option maxHeartbeats 4000000
namespace Go.Lw
open Go
section
open Go.RowKit
section
variable {fi:FI} {M M':Mem} {w w':World} {P:Program} {s s' s1 s2 t1 t2:St} {a:Act} {cf:CallF}
def rH (_ _:IOpG):Bool:=false
def rI (p x:IOp):Bool:=
 match p,x with
 | .loadK _ (.t m),.callP _ _ _ ns| .load _ _ _ (.t m),.callP _ _ _ ns| .loadK _ (.t m),.appendP _ _ _ _ ns| .load _ _ _ (.t m),.appendP _ _ _ _ ns=>ns.contains m
 | .loadB _ _ _ _ n,.callP _ _ _ ns| .loadB _ _ _ _ n,.appendP _ _ _ _ ns| .loadKB _ _ n,.callP _ _ _ ns| .loadKB _ _ n,.appendP _ _ _ _ ns=>ns.contains n
 | .loadJ _ _ _ _,.callP _ _ _ _| .loadJ _ _ _ _,.callR _ _ _ _ _=>true
 | .load _ _ _ (.t m),.storeP _ _ _ _ ns=>ns.contains m
 | .loadB _ _ _ _ n,.storeP _ _ _ _ ns=>ns.contains n
 |_,_=>false
def rJ (p x:IOp):Bool:=
 match p,x with
 | .callP _ _ _ ns,.loadB _ _ _ _ n| .callP _ _ _ ns,.loadKB _ _ n=>ns.contains n
 | .callP _ _ _ ns,.load _ _ _ (.t m)| .callP _ _ _ ns,.loadK _ (.t m)=>ns.contains m
 | .callP _ _ _ _,.loadJ _ _ _ _| .callR _ _ _ _ _,.loadJ _ _ _ _=>true
 |_,_=>false
def rK (p x:IOp):Bool:=
 match p,x with
 | .loadTB _ _ m o,.callR _ _ _ n o2=>m==n&&o==o2
 |_,_=>false
def nr (p x:IOpG):Bool:=p.guard.isNone&&x.guard.isNone&&(rI p.op x.op||rJ p.op x.op||rK p.op x.op)
def lz (p x:IOpG):Bool:=fR p x&&(ly (cls p.op) (cls x.op)||rH p x||nr p x)
theorem yn {p x:IOpG} (ha:fR p x=true) (hf:rH p x=true) (h1:opG cf p s=some s1) (h2:opG cf x s1=some s2) :
  ∃t1 t2,opG cf x s=some t1/\opG cf p t1=some t2/\Eqv s2 t2:=by
 cases hf
theorem keptB.symm {e:List (Nat×PV)} {gh gh':List GObj} {n:Nat} (h:keptB e gh gh' n):keptB e gh' gh n:=by
 have key:∀b,b<gh.length/\gh'[b]?=gh[b]?->b<gh'.length/\gh[b]?=gh'[b]?:=λb hb=>
  ⟨(aD.1 (hb.2.trans (aA hb.1))).1,hb.2.symm⟩
 unfold keptB at *;split at h
 ·exact key _ h
 ·exact key _ h
 ·exact key _ h
 ·trivial
 ·exact h.elim
theorem yo {e:List (Nat×PV)} {m b off:Nat} {g:Bool} (h:aj e (.t m)=some (.ptr g b off)):get e m=some (.ptr g b off):=by simp only[aj,aE] at h;obtain⟨v,hv,he⟩:=h;cases v<;>simp[degr] at he;obtain⟨rfl,rfl,rfl⟩:=he;exact hv
theorem yq {e:List (Nat×PV)} {m off:Nat} {p:PV} (h:aj e (.t m)=some (.ep p off)):get e m=some (.ep p off):=by simp only[aj,aE] at h;obtain⟨v,hv,he⟩:=h;cases v<;>simp[degr] at he;obtain⟨rfl,rfl⟩:=he;exact hv
theorem nt {d m:Nat} {t1:St} (h:ae cf s (.loadK d (.t m))=some s') (hm:get t1.env m=get s.env m) (hk:keptB s.env s.gh t1.gh m) :
  ∃v,s'=s.put d v/\ae cf t1 (.loadK d (.t m))=some (t1.put d v):=by simp[ae] at h
theorem lA {d m k:Nat} {agg:Bool} {t1:St} (h:ae cf s (.load d agg k (.t m))=some s') (hm:get t1.env m=get s.env m) (hk:keptB s.env s.gh t1.gh m) :
  ∃v,s'=s.put d v/\ae cf t1 (.load d agg k (.t m))=some (t1.put d v):=by
 have he:aj t1.env (.t m)=aj s.env (.t m):=by simp only[aj,hm]
 simp only[ae,he] at h ⊢;split at h
 ·rename_i g b off hp
  have hg:=yo hp;unfold keptB at hk;rw[hg] at hk;cases g with
  |false=>exact hk.elim
  | true=>
   simp only[aC,aE] at h;obtain⟨cs,hc,v,hv,rfl⟩:=h;refine⟨degr v,rfl,?_⟩;have hc':t1.cellsAt true b=some cs:=by simp only[St.cellsAt,if_true] at hc ⊢;rw[hk.2];exact hc
   simp[hc',hv]
 ·rename_i p off hp
  unfold keptB at hk;rw[yq hp] at hk;exact hk.elim
 ·cases h
theorem lB {d n k:Nat} {agg:Bool} {x:IX} {t1:St} (h:ae cf s (.loadB d agg k x n)=some s') (hx:aj t1.env x=aj s.env x) (hn:get t1.env n=get s.env n) (hk:keptB s.env s.gh t1.gh n) :
  ∃v,s'=s.put d v/\ae cf t1 (.loadB d agg k x n)=some (t1.put d v):=by
 simp only[ae,hx,hn] at h ⊢;split at h
 ·rename_i b off b' o' hp hq
  split at h
  ·rename_i hb
   subst hb;simp only[aC,aE] at h;obtain⟨cs,hc,v,hv,rfl⟩:=h;refine⟨degr v,rfl,?_⟩;unfold keptB at hk;rw[hq] at hk;have hc':t1.cellsAt true b=some cs:=by simp only[St.cellsAt,if_true] at hc ⊢;rw[hk.2];exact hc
   simp[hc',hv]
  ·cases h
 ·simp only[aE] at h
  obtain⟨v,hv,rfl⟩:=h;exact⟨v,rfl,by simp[hv]⟩
 ·cases h
theorem nu {d n:Nat} {x:IX} {t1:St} (h:ae cf s (.loadKB d x n)=some s') (hx:aj t1.env x=aj s.env x) (hn:get t1.env n=get s.env n) (hk:keptB s.env s.gh t1.gh n) :
  ∃v,s'=s.put d v/\ae cf t1 (.loadKB d x n)=some (t1.put d v):=by simp[ae] at h
theorem lC {d k:Nat} {agg:Bool} {x:IX} {t1:St} (h:ae cf s (.loadJ d agg k x)=some s') (hx:aj t1.env x=aj s.env x) (hk:t1.lh=s.lh) :
  ∃v,s'=s.put d v/\ae cf t1 (.loadJ d agg k x)=some (t1.put d v):=by simp[ae] at h
theorem gE {d:Option Nat} {f:Nat} {xs:List IX} {ns:List Nat} (h:ae cf s (.callP d f xs ns)=some s'):s'.lh=s.lh/\∀n∈ns,keptB s.env s.gh s'.gh n:=by simp[ae] at h
theorem rL {d:Option Nat} {f n o2:Nat} {xs:List IX} (h:ae cf s (.callR d f xs n o2)=some s'):s'.lh=s.lh:=by simp[ae] at h
theorem lD {d bytes:Nat} {sx x:IX} {ns:List Nat} (h:ae cf s (.appendP d bytes sx x ns)=some s'):∀n∈ns,keptB s.env s.gh s'.gh n:=by simp[ae] at h
theorem rM {tk:Bool} {k:Nat} {y x:IX} {ns:List Nat} (h:ae cf s (.storeP tk k y x ns)=some s'):∀n∈ns,keptB s.env s.gh s'.gh n:=by
 simp only[ae,aC] at h;obtain⟨s1,_,h3⟩:=h;split at h3
 ·rename_i hk;cases h3;exact hk
 ·cases h3
theorem nv {p x:IOp} {d:Nat} (ha:fR ⟨p,none⟩ ⟨x,none⟩=true) (hd:wr p=[d]) (h1:ae cf s p=some s1) (h2:ae cf s1 x=some s2) {v:PV} (hv:s1=s.put d v)
  (hr:∀t1:St,(∀t∈rd p,get t1.env t=get s.env t)->t1.lh=s2.lh->t1.gh=s2.gh->ae cf t1 p=some (t1.put d v)) :
  ∃t1 t2,ae cf s x=some t1/\ae cf t1 p=some t2/\Eqv s2 t2:=by
 simp only[fR,rdG,bH,aX,bR,Bool.not_eq_true',List.contains_eq_mem,decide_eq_false_iff_not] at ha;obtain⟨a1,a2⟩:=ha;rw[hd] at a1;have a1:=a1 d (by simp);have f2:=λt ht=>jD (t:=t) ⟨x,none⟩ h2 ht
 have e1:s1.lh=s.lh:=by rw[hv];rfl
 have e2:s1.gh=s.gh:=by rw[hv];rfl
 have hg1:∀t,t≠d->get s1.env t=get s.env t:=λt ht=>by rw[hv];simp only[St.put,eN];rw[if_neg (Ne.symm ht)]
 obtain⟨t1,g1,g2,g3⟩:=nn (cf:=cf) x s1 s (λt ht=>(hg1 t (λe=>a1.1 (e▸ht))).symm) (ei e1.symm e2.symm) _ h2;have q:=eu g3.two e1.symm e2.symm;have hp:=hr t1 (λt ht=>by rw[g2 t,if_neg (λhw=>a2 t hw ht)]) q.1 q.2;refine⟨t1,_,g1,hp,λt=>?_,q.1,q.2⟩;simp only[St.put,eN];by_cases hdt:d=t
 ·subst hdt
  rw[if_pos rfl,f2 d a1.2,hv];simp[St.put,eN]
 ·rw[if_neg hdt,g2 t]
  by_cases hw:t∈wr x
  ·rw[if_pos hw]
  ·rw[if_neg hw,f2 t hw,hg1 t (Ne.symm hdt)]
theorem jF {p x:IOp} {d:Nat} (ha:fR ⟨p,none⟩ ⟨x,none⟩=true) (hd:wr x=[d]) (h1:ae cf s p=some s1) (h2:ae cf s1 x=some s2) {v:PV} (hv:s2=s1.put d v) (hr:ae cf s x=some (s.put d v)) :
  ∃t1 t2,ae cf s x=some t1/\ae cf t1 p=some t2/\Eqv s2 t2:=by
 simp only[fR,rdG,bH,aX,bR,Bool.not_eq_true',List.contains_eq_mem,decide_eq_false_iff_not] at ha;obtain⟨a1,a2⟩:=ha;rw[hd] at a2;have a2:=a2 d (by simp);have f1:=λt ht=>jD (t:=t) ⟨p,none⟩ h1 ht
 have hg:∀t,t≠d->get (s.put d v).env t=get s.env t:=λt ht=>by simp only[St.put,eN];rw[if_neg (Ne.symm ht)]
 obtain⟨t2,g1,g2,g3⟩:=nn (cf:=cf) p s (s.put d v) (λt ht=>hg t (λe=>a2 (e▸ht))) (ei rfl rfl) _ h1;have q:=eu g3.two rfl rfl;refine⟨_,t2,hr,g1,λt=>?_,by rw[hv];exact q.1,by rw[hv];exact q.2⟩;rw[g2 t,hv];simp only[St.put,eN];by_cases hw:t∈wr p
 ·rw[if_pos hw]
  have:d≠t:=λe=>by have:=(a1 t hw).2;rw[hd] at this;exact this (by simp[e])
  rw[if_neg this]
 ·rw[if_neg hw]
  by_cases hdt:d=t
  ·rw[if_pos hdt,if_pos hdt]
  ·rw[if_neg hdt,if_neg hdt,f1 t hw]
theorem yr {d m f o2:Nat} {ax:IX} {dd:Option Nat} {xs:List IX} (ha:fR ⟨.loadTB d ax m o2,none⟩ ⟨.callR dd f xs m o2,none⟩=true) (h1:ae cf s (.loadTB d ax m o2)=some s1) (h2:ae cf s1 (.callR dd f xs m o2)=some s2) :
  ∃t1 t2,ae cf s (.callR dd f xs m o2)=some t1/\ae cf t1 (.loadTB d ax m o2)=some t2/\Eqv s2 t2:=by simp[ae] at h1
theorem nw {d:Nat} {v v':PV} (h:s.put d v=s.put d v'):v=v':=by
 have h1:get (s.put d v).env d=get (s.put d v').env d:=by rw[h]
 simpa [St.put,eN] using h1
theorem rN {d:Nat} {a:IX} (h:ae cf s (.loadK d a)=some s'):∃v,s'=s.put d v:=by simp[ae] at h
theorem ny {d k:Nat} {agg:Bool} {a:IX} (h:ae cf s (.load d agg k a)=some s'):∃v,s'=s.put d v:=by
 simp only[ae] at h;split at h
 ·simp only[aC,aE] at h
  obtain⟨_,_,v,_,rfl⟩:=h;exact⟨_,rfl⟩
 ·simp only[aE] at h
  obtain⟨v,_,rfl⟩:=h;exact⟨v,rfl⟩
 ·cases h
theorem nz {d k n:Nat} {agg:Bool} {a:IX} (h:ae cf s (.loadB d agg k a n)=some s'):∃v,s'=s.put d v:=by
 simp only[ae] at h;split at h
 ·split at h
  ·simp only[aC,aE] at h
   obtain⟨_,_,v,_,rfl⟩:=h;exact⟨_,rfl⟩
  ·cases h
 ·simp only[aE] at h
  obtain⟨v,_,rfl⟩:=h;exact⟨v,rfl⟩
 ·cases h
theorem rO {d n:Nat} {a:IX} (h:ae cf s (.loadKB d a n)=some s'):∃v,s'=s.put d v:=by simp[ae] at h
theorem rP {d k:Nat} {agg:Bool} {a:IX} (h:ae cf s (.loadJ d agg k a)=some s'):∃v,s'=s.put d v:=by simp[ae] at h
theorem gG {p x:IOp} {d m:Nat} (ha:fR ⟨p,none⟩ ⟨x,none⟩=true) (hv:∃v,s1=s.put d v) (h1:ae cf s p=some s1) (h2:ae cf s1 x=some s2) (hd:wr p=[d]) (hmd:m≠d) (hk:keptB s1.env s1.gh s2.gh m)
  (hr:∀t1:St,(∀t∈rd p,get t1.env t=get s.env t)->keptB s.env s.gh t1.gh m->∃v,s1=s.put d v/\ae cf t1 p=some (t1.put d v)) :
  ∃t1 t2,ae cf s x=some t1/\ae cf t1 p=some t2/\Eqv s2 t2:=by
 obtain⟨v,hv⟩:=hv;refine nv ha hd h1 h2 hv λt1 hm _ hg=>?_
 have hk':keptB s.env s.gh t1.gh m:=by
  rw[hg];have e:s1.gh=s.gh:=by rw[hv];rfl
  rw[e] at hk;refine jC ?_ hk;rw[hv];simp only[St.put,eN];rw[if_neg (Ne.symm hmd)]
 obtain⟨v',e1,e2⟩:=hr t1 hm hk';rw[nw (hv.symm.trans e1)];exact e2
theorem yt {p x:IOpG} (ha:fR p x=true) (hf:nr p x=true) (h1:opG cf p s=some s1) (h2:opG cf x s1=some s2) :
  ∃t1 t2,opG cf x s=some t1/\opG cf p t1=some t2/\Eqv s2 t2:=by
 obtain⟨po,pg⟩:=p;obtain⟨xo,xg⟩:=x;simp only[nr,aX,Option.isNone_iff_eq_none,Bool.or_eq_true] at hf;obtain⟨⟨rfl,rfl⟩,hf⟩:=hf;have h1':ae cf s po=some s1:=h1;have h2':ae cf s1 xo=some s2:=h2
 show ∃t1 t2,ae cf s xo=some t1/\ae cf t1 po=some t2/\Eqv s2 t2
 have ha':=ha;simp only[fR,rdG,bH,aX,bR,Bool.not_eq_true',List.contains_eq_mem,decide_eq_false_iff_not] at ha';obtain⟨a1,a2⟩:=ha';rcases hf with (hf|hf)|hf
 ·unfold rI at hf
  split at hf<;>try (cases hf;done)
  ·rename_i d m dd f xs ns
   exact gG ha (rN h1') h1' h2' rfl (λe=>(a1 d (by simp[wr,bi])).1 (by simp[rd,<-e];left;simpa using hf)) ((gE h2').2 m (by simpa using hf)) λt1 hm hk=>nt h1' (hm m (by simp[rd,rdX])) hk
  ·rename_i d agg k m dd f xs ns
   exact gG ha (ny h1') h1' h2' rfl (λe=>(a1 d (by simp[wr,bi])).1 (by simp[rd,<-e];left;simpa using hf)) ((gE h2').2 m (by simpa using hf)) λt1 hm hk=>lA h1' (hm m (by simp[rd,rdX])) hk
  ·rename_i d m dd bytes sx x ns
   exact gG ha (rN h1') h1' h2' rfl (λe=>(a1 d (by simp[wr,bi])).1 (by simp[rd,<-e];left;simpa using hf)) (lD h2' m (by simpa using hf)) λt1 hm hk=>nt h1' (hm m (by simp[rd,rdX])) hk
  ·rename_i d agg k m dd bytes sx x ns
   exact gG ha (ny h1') h1' h2' rfl (λe=>(a1 d (by simp[wr,bi])).1 (by simp[rd,<-e];left;simpa using hf)) (lD h2' m (by simpa using hf)) λt1 hm hk=>lA h1' (hm m (by simp[rd,rdX])) hk
  ·rename_i d agg k a n dd f xs ns
   exact gG ha (nz h1') h1' h2' rfl (λe=>(a1 d (by simp[wr,bi])).1 (by simp[rd,<-e];left;simpa using hf)) ((gE h2').2 n (by simpa using hf)) λt1 hm hk=>lB h1' (cg (λt ht=>hm t (by simp[rd,ht]))) (hm n (by simp[rd])) hk
  ·rename_i d agg k a n dd bytes sx x ns
   exact gG ha (nz h1') h1' h2' rfl (λe=>(a1 d (by simp[wr,bi])).1 (by simp[rd,<-e];left;simpa using hf)) (lD h2' n (by simpa using hf)) λt1 hm hk=>lB h1' (cg (λt ht=>hm t (by simp[rd,ht]))) (hm n (by simp[rd])) hk
  ·rename_i d a n dd f xs ns
   exact gG ha (rO h1') h1' h2' rfl (λe=>(a1 d (by simp[wr,bi])).1 (by simp[rd,<-e];left;simpa using hf)) ((gE h2').2 n (by simpa using hf)) λt1 hm hk=>nu h1' (cg (λt ht=>hm t (by simp[rd,ht]))) (hm n (by simp[rd])) hk
  ·rename_i d a n dd bytes sx x ns
   exact gG ha (rO h1') h1' h2' rfl (λe=>(a1 d (by simp[wr,bi])).1 (by simp[rd,<-e];left;simpa using hf)) (lD h2' n (by simpa using hf)) λt1 hm hk=>nu h1' (cg (λt ht=>hm t (by simp[rd,ht]))) (hm n (by simp[rd])) hk
  ·rename_i d agg k a dd f xs ns
   obtain⟨v,hv⟩:=rP h1';refine nv ha (by simp[wr,bi]) h1' h2' hv λt1 hm hl _=>?_
   obtain⟨v',e1,e2⟩:=lC h1' (cg (λt ht=>hm t (by simp[rd,ht]))) (hl.trans ((gE h2').1.trans (by rw[hv];rfl)));rw[nw (hv.symm.trans e1)];exact e2
  ·rename_i d agg k a dd f xs n o2
   obtain⟨v,hv⟩:=rP h1';refine nv ha (by simp[wr,bi]) h1' h2' hv λt1 hm hl _=>?_
   obtain⟨v',e1,e2⟩:=lC h1' (cg (λt ht=>hm t (by simp[rd,ht]))) (hl.trans ((rL h2').trans (by rw[hv];rfl)));rw[nw (hv.symm.trans e1)];exact e2
  ·rename_i d agg k m tk kk y z ns
   exact gG ha (ny h1') h1' h2' rfl (λe=>(a1 d (by simp[wr,bi])).1 (by simp[rd,<-e];left;simpa using hf)) (rM h2' m (by simpa using hf)) λt1 hm hk=>lA h1' (hm m (by simp[rd,rdX])) hk
  ·rename_i d agg k a n tk kk y z ns
   exact gG ha (nz h1') h1' h2' rfl (λe=>(a1 d (by simp[wr,bi])).1 (by simp[rd,<-e];left;simpa using hf)) (rM h2' n (by simpa using hf)) λt1 hm hk=>lB h1' (cg (λt ht=>hm t (by simp[rd,ht]))) (hm n (by simp[rd])) hk
 ·have hx:∀t,t∈rd xo->get s.env t=get s1.env t:=λt ht=>(jD (t:=t) ⟨po,none⟩ h1 (λhw=>(a1 t hw).1 ht)).symm
  unfold rJ at hf;split at hf<;>try (cases hf;done)
  ·rename_i dd f xs ns d agg k a n
   have hn:=hx n (by simp[rd]);obtain⟨v,e1,e2⟩:=lB (t1:=s) h2' (cg (λt ht=>hx t (by simp[rd,ht]))) hn (jC hn.symm ((gE h1').2 n (by simpa using hf)).symm);exact jF ha (by simp[wr,bi]) h1' h2' e1 e2
  ·rename_i dd f xs ns d a n
   have hn:=hx n (by simp[rd]);obtain⟨v,e1,e2⟩:=nu (t1:=s) h2' (cg (λt ht=>hx t (by simp[rd,ht]))) hn (jC hn.symm ((gE h1').2 n (by simpa using hf)).symm);exact jF ha (by simp[wr,bi]) h1' h2' e1 e2
  ·rename_i dd f xs ns d agg k m
   have hn:=hx m (by simp[rd,rdX]);obtain⟨v,e1,e2⟩:=lA (t1:=s) h2' hn (jC hn.symm ((gE h1').2 m (by simpa using hf)).symm);exact jF ha (by simp[wr,bi]) h1' h2' e1 e2
  ·rename_i dd f xs ns d m
   have hn:=hx m (by simp[rd,rdX]);obtain⟨v,e1,e2⟩:=nt (t1:=s) h2' hn (jC hn.symm ((gE h1').2 m (by simpa using hf)).symm);exact jF ha (by simp[wr,bi]) h1' h2' e1 e2
  ·rename_i dd f xs ns d agg k a
   obtain⟨v,e1,e2⟩:=lC (t1:=s) h2' (cg (λt ht=>hx t (by simp[rd,ht]))) (gE h1').1.symm;exact jF ha (by simp[wr,bi]) h1' h2' e1 e2
  ·rename_i dd f xs n o2 d agg k a
   obtain⟨v,e1,e2⟩:=lC (t1:=s) h2' (cg (λt ht=>hx t (by simp[rd,ht]))) (rL h1').symm;exact jF ha (by simp[wr,bi]) h1' h2' e1 e2
 ·unfold rK at hf
  split at hf<;>try (cases hf;done)
  simp only[aX,cQ] at hf;obtain⟨rfl,rfl⟩:=hf;exact yr ha h1' h2'
theorem yu {p x:IOpG} (h:lz p x=true) (h1:opG cf p s=some s1) (h2:opG cf x s1=some s2) :
  ∃t1 t2,opG cf x s=some t1/\opG cf p t1=some t2/\Eqv s2 t2:=by
 simp only[lz,aX,Bool.or_eq_true] at h;rcases h.2 with (h3|h3)|h3
 ·exact ym h.1 h3 h1 h2
 ·exact yn h.1 h3 h1 h2
 ·exact yt h.1 h3 h1 h2
theorem Eqv.refl (s:St):Eqv s s:=⟨λ_=>rfl,rfl,rfl⟩
theorem Eqv.trans (h:Eqv s s1) (h2:Eqv s1 s2):Eqv s s2:=⟨λt=>(h2.1 t).trans (h.1 t),h2.2.1.trans h.2.1,h2.2.2.trans h.2.2⟩
theorem yv {i:IOpG} (h:opG cf i s=some s') (he:Eqv s s2):∃s2',opG cf i s2=some s2'/\Eqv s' s2':=by
 obtain⟨s2',h1,h2,h3⟩:=kA (s2:=s2) i (λt _=>he.1 t) (ei he.2.1 he.2.2) h;refine⟨s2',h1,λt=>?_,eu h3 he.2.1 he.2.2⟩;rw[h2 t];by_cases hw:t∈wr i.op
 ·rw[if_pos hw]
 ·rw[if_neg hw,he.1 t,jD i h hw]
theorem rQ:∀{l:List IOpG} {s s' s2:St},dp cf l s=some s'->Eqv s s2->∃s2',dp cf l s2=some s2'/\Eqv s' s2'
 |[],s,s',s2,h,he=>by simp[dp] at h;subst h;exact⟨s2,rfl,he⟩
 |i::l,s,s',s2,h,he=>by rw[jz,aC] at h;obtain⟨s1,h1,h2⟩:=h;obtain⟨s3,h3,h4⟩:=yv h1 he;obtain⟨s4,h5,h6⟩:=rQ h2 h4;exact⟨s4,by rw[jz,h3];exact h5,h6⟩
theorem rR {x:IOpG} {suf:List IOpG}:∀{pre:List IOpG} {s s':St},dp cf (pre++x::suf) s=some s'->(∀p∈pre,lz p x=true)->
  ∃t1 t',opG cf x s=some t1/\dp cf (pre++suf) t1=some t'/\Eqv s' t'
 |[],s,s',h,_=>by rw[bH,jz,aC] at h;obtain⟨t1,h1,h2⟩:=h;exact⟨t1,s',h1,h2,Eqv.refl s'⟩
 |p::pre,s,s',h,hp=>by rw[bI,jz,aC] at h;obtain⟨s1,h1,h2⟩:=h;obtain⟨s2,s'',h3,h4,h5⟩:=rR h2 (λq hq=>hp q (by simp[hq]));obtain⟨t1,t2,h6,h7,h8⟩:=yu (hp p (by simp)) h1 h3;obtain⟨t',h9,h10⟩:=rQ h4 h8;exact⟨t1,t',h6,by rw[bI,jz,h7];exact h9,h5.trans h10⟩
theorem Inv.eqv (hI:Inv fi M w s a) (h:Eqv s s2):Inv fi M w s2 a where
 env:=λt v hv=>hI.env t v (by rw[<-h.1 t];exact hv)
 defers:=hI.defers
 lbl:=by rw[h.2.1];exact hI.lbl
 gbl:=by rw[h.2.2];exact hI.gbl
 nodup:=hI.nodup
 lh:=by rw[h.2.1];exact hI.lh
 gh:=by rw[h.2.2];exact hI.gh
 gl:=hI.gl
 immlt:=hI.immlt
 ownlt:=hI.ownlt
 gblt:=hI.gblt
theorem Eqv.symm (h:Eqv s s2):Eqv s2 s:=⟨λt=>(h.1 t).symm,h.2.1.symm,h.2.2.symm⟩
end
end
end Go.Lw