/-
  The texts that the proof stands on, part 16.
-/
import Derived.Test.YtmodipglnngghacGreatDoorExploreFindsO
import Derived.Orders
set_option linter.unusedVariables false
set_option linter.unusedSimpArgs false
set_option linter.unnecessarySimpa false

set_option maxRecDepth 100000
set_option maxHeartbeats 4000000
namespace Go.Lw
open Go
section
open Go.RowKit
section
variable {fi:FI} {M M':Mem} {w w':World} {P:Program} {s s' s1 s2 t1 t2:St} {a:Act} {cf:CallF}
def pO (_ _:IOpG):Bool:=false
def pP (p x:IOp):Bool:=
 match p,x with
 | .loadK _ (.t m),.callP _ _ _ ns| .load _ _ _ (.t m),.callP _ _ _ ns| .loadK _ (.t m),.appendP _ _ _ _ ns| .load _ _ _ (.t m),.appendP _ _ _ _ ns=>ns.contains m
 | .loadB _ _ _ _ n,.callP _ _ _ ns| .loadB _ _ _ _ n,.appendP _ _ _ _ ns| .loadKB _ _ n,.callP _ _ _ ns| .loadKB _ _ n,.appendP _ _ _ _ ns=>ns.contains n
 | .loadJ _ _ _ _,.callP _ _ _ _| .loadJ _ _ _ _,.callR _ _ _ _ _=>true
 | .load _ _ _ (.t m),.storeP _ _ _ _ ns=>ns.contains m
 | .loadB _ _ _ _ n,.storeP _ _ _ _ ns=>ns.contains n
 |_,_=>false
def pS (p x:IOp):Bool:=
 match p,x with
 | .callP _ _ _ ns,.loadB _ _ _ _ n| .callP _ _ _ ns,.loadKB _ _ n=>ns.contains n
 | .callP _ _ _ ns,.load _ _ _ (.t m)| .callP _ _ _ ns,.loadK _ (.t m)=>ns.contains m
 | .callP _ _ _ _,.loadJ _ _ _ _| .callR _ _ _ _ _,.loadJ _ _ _ _=>true
 |_,_=>false
def pT (p x:IOp):Bool:=
 match p,x with
 | .loadTB _ _ m o,.callR _ _ _ n o2=>m==n&&o==o2
 |_,_=>false
def mi (p x:IOpG):Bool:=p.guard.isNone&&x.guard.isNone&&(pP p.op x.op||pS p.op x.op||pT p.op x.op)
def kA (p x:IOpG):Bool:=fe p x&&(kz (cls p.op) (cls x.op)||pO p x||mi p x)
theorem wz {p x:IOpG} (ha:fe p x=true) (hf:pO p x=true) (h1:opG cf p s=some s1) (h2:opG cf x s1=some s2) :
  ∃t1 t2,opG cf x s=some t1/\opG cf p t1=some t2/\Eqv s2 t2:=by
 cases hf
theorem keptB.symm {e:List (Nat×PV)} {gh gh':List GObj} {n:Nat} (h:keptB e gh gh' n):keptB e gh' gh n:=by
 have key:∀b,b<gh.length/\gh'[b]?=gh[b]?->b<gh'.length/\gh[b]?=gh'[b]?:=λb hb=>
  ⟨(aD.1 (hb.2.trans (aA hb.1))).1,hb.2.symm⟩
 unfold keptB at *;split at h
 ·exact key _ h
 ·exact key _ h
 ·exact key _ h
 ·trivial
 ·exact h.elim
theorem wA {e:List (Nat×PV)} {m b off:Nat} {g:Bool} (h:ai e (.t m)=some (.ptr g b off)):get e m=some (.ptr g b off):=by simp only[ai,aE] at h;obtain⟨v,hv,he⟩:=h;cases v<;>simp[degr] at he;obtain⟨rfl,rfl,rfl⟩:=he;exact hv
theorem wB {e:List (Nat×PV)} {m off:Nat} {p:PV} (h:ai e (.t m)=some (.ep p off)):get e m=some (.ep p off):=by simp only[ai,aE] at h;obtain⟨v,hv,he⟩:=h;cases v<;>simp[degr] at he;obtain⟨rfl,rfl⟩:=he;exact hv
theorem mj {d m:Nat} {t1:St} (h:ae cf s (.loadK d (.t m))=some s') (hm:get t1.env m=get s.env m) (hk:keptB s.env s.gh t1.gh m) :
  ∃v,s'=s.put d v/\ae cf t1 (.loadK d (.t m))=some (t1.put d v):=by simp[ae] at h
theorem kB {d m k:Nat} {agg:Bool} {t1:St} (h:ae cf s (.load d agg k (.t m))=some s') (hm:get t1.env m=get s.env m) (hk:keptB s.env s.gh t1.gh m) :
  ∃v,s'=s.put d v/\ae cf t1 (.load d agg k (.t m))=some (t1.put d v):=by
 have he:ai t1.env (.t m)=ai s.env (.t m):=by simp only[ai,hm]
 simp only[ae,he] at h ⊢;split at h
 ·rename_i g b off hp
  have hg:=wA hp;unfold keptB at hk;rw[hg] at hk;cases g with
  |false=>exact hk.elim
  | true=>
   simp only[aC,aE] at h;obtain⟨cs,hc,v,hv,rfl⟩:=h;refine⟨degr v,rfl,?_⟩;have hc':t1.cellsAt true b=some cs:=by simp only[St.cellsAt,if_true] at hc ⊢;rw[hk.2];exact hc
   simp[hc',hv]
 ·rename_i p off hp
  unfold keptB at hk;rw[wB hp] at hk;exact hk.elim
 ·cases h
theorem kC {d n k:Nat} {agg:Bool} {x:IX} {t1:St} (h:ae cf s (.loadB d agg k x n)=some s') (hx:ai t1.env x=ai s.env x) (hn:get t1.env n=get s.env n) (hk:keptB s.env s.gh t1.gh n) :
  ∃v,s'=s.put d v/\ae cf t1 (.loadB d agg k x n)=some (t1.put d v):=by simp[ae] at h
theorem ml {d n:Nat} {x:IX} {t1:St} (h:ae cf s (.loadKB d x n)=some s') (hx:ai t1.env x=ai s.env x) (hn:get t1.env n=get s.env n) (hk:keptB s.env s.gh t1.gh n) :
  ∃v,s'=s.put d v/\ae cf t1 (.loadKB d x n)=some (t1.put d v):=by simp[ae] at h
theorem kD {d k:Nat} {agg:Bool} {x:IX} {t1:St} (h:ae cf s (.loadJ d agg k x)=some s') (hx:ai t1.env x=ai s.env x) (hk:t1.lh=s.lh) :
  ∃v,s'=s.put d v/\ae cf t1 (.loadJ d agg k x)=some (t1.put d v):=by simp[ae] at h
theorem fQ {d:Option Nat} {f:Nat} {xs:List IX} {ns:List Nat} (h:ae cf s (.callP d f xs ns)=some s'):s'.lh=s.lh/\∀n∈ns,keptB s.env s.gh s'.gh n:=by simp[ae] at h
theorem pU {d:Option Nat} {f n o2:Nat} {xs:List IX} (h:ae cf s (.callR d f xs n o2)=some s'):s'.lh=s.lh:=by simp[ae] at h
theorem kF {d bytes:Nat} {sx x:IX} {ns:List Nat} (h:ae cf s (.appendP d bytes sx x ns)=some s'):∀n∈ns,keptB s.env s.gh s'.gh n:=by simp[ae] at h
theorem pV {tk:Bool} {k:Nat} {y x:IX} {ns:List Nat} (h:ae cf s (.storeP tk k y x ns)=some s'):∀n∈ns,keptB s.env s.gh s'.gh n:=by
 simp only[ae,aC] at h;obtain⟨s1,_,h3⟩:=h;split at h3
 ·rename_i hk;cases h3;exact hk
 ·cases h3
theorem mm {p x:IOp} {d:Nat} (ha:fe ⟨p,none⟩ ⟨x,none⟩=true) (hd:wr p=[d]) (h1:ae cf s p=some s1) (h2:ae cf s1 x=some s2) {v:PV} (hv:s1=s.put d v)
  (hr:∀t1:St,(∀t∈rd p,get t1.env t=get s.env t)->t1.lh=s2.lh->t1.gh=s2.gh->ae cf t1 p=some (t1.put d v)) :
  ∃t1 t2,ae cf s x=some t1/\ae cf t1 p=some t2/\Eqv s2 t2:=by
 simp only[fe,rdG,bI,aX,bS,Bool.not_eq_true',List.contains_eq_mem,decide_eq_false_iff_not] at ha;obtain⟨a1,a2⟩:=ha;rw[hd] at a1;have a1:=a1 d (by simp);have f2:=λt ht=>iX (t:=t) ⟨x,none⟩ h2 ht
 have e1:s1.lh=s.lh:=by rw[hv];rfl
 have e2:s1.gh=s.gh:=by rw[hv];rfl
 have hg1:∀t,t≠d->get s1.env t=get s.env t:=λt ht=>by rw[hv];simp only[St.put,ec];rw[if_neg (Ne.symm ht)]
 obtain⟨t1,g1,g2,g3⟩:=mg (cf:=cf) x s1 s (λt ht=>(hg1 t (λe=>a1.1 (e▸ht))).symm) (dN e1.symm e2.symm) _ h2;have q:=dP g3.two e1.symm e2.symm;have hp:=hr t1 (λt ht=>by rw[g2 t,if_neg (λhw=>a2 t hw ht)]) q.1 q.2;refine⟨t1,_,g1,hp,λt=>?_,q.1,q.2⟩;simp only[St.put,ec];by_cases hdt:d=t
 ·subst hdt
  rw[if_pos rfl,f2 d a1.2,hv];simp[St.put,ec]
 ·rw[if_neg hdt,g2 t]
  by_cases hw:t∈wr x
  ·rw[if_pos hw]
  ·rw[if_neg hw,f2 t hw,hg1 t (Ne.symm hdt)]
theorem iZ {p x:IOp} {d:Nat} (ha:fe ⟨p,none⟩ ⟨x,none⟩=true) (hd:wr x=[d]) (h1:ae cf s p=some s1) (h2:ae cf s1 x=some s2) {v:PV} (hv:s2=s1.put d v) (hr:ae cf s x=some (s.put d v)) :
  ∃t1 t2,ae cf s x=some t1/\ae cf t1 p=some t2/\Eqv s2 t2:=by
 simp only[fe,rdG,bI,aX,bS,Bool.not_eq_true',List.contains_eq_mem,decide_eq_false_iff_not] at ha;obtain⟨a1,a2⟩:=ha;rw[hd] at a2;have a2:=a2 d (by simp);have f1:=λt ht=>iX (t:=t) ⟨p,none⟩ h1 ht
 have hg:∀t,t≠d->get (s.put d v).env t=get s.env t:=λt ht=>by simp only[St.put,ec];rw[if_neg (Ne.symm ht)]
 obtain⟨t2,g1,g2,g3⟩:=mg (cf:=cf) p s (s.put d v) (λt ht=>hg t (λe=>a2 (e▸ht))) (dN rfl rfl) _ h1;have q:=dP g3.two rfl rfl;refine⟨_,t2,hr,g1,λt=>?_,by rw[hv];exact q.1,by rw[hv];exact q.2⟩;rw[g2 t,hv];simp only[St.put,ec];by_cases hw:t∈wr p
 ·rw[if_pos hw]
  have:d≠t:=λe=>by have:=(a1 t hw).2;rw[hd] at this;exact this (by simp[e])
  rw[if_neg this]
 ·rw[if_neg hw]
  by_cases hdt:d=t
  ·rw[if_pos hdt,if_pos hdt]
  ·rw[if_neg hdt,if_neg hdt,f1 t hw]
theorem wC {d m f o2:Nat} {ax:IX} {dd:Option Nat} {xs:List IX} (ha:fe ⟨.loadTB d ax m o2,none⟩ ⟨.callR dd f xs m o2,none⟩=true) (h1:ae cf s (.loadTB d ax m o2)=some s1) (h2:ae cf s1 (.callR dd f xs m o2)=some s2) :
  ∃t1 t2,ae cf s (.callR dd f xs m o2)=some t1/\ae cf t1 (.loadTB d ax m o2)=some t2/\Eqv s2 t2:=by simp[ae] at h1
theorem mn {d:Nat} {v v':PV} (h:s.put d v=s.put d v'):v=v':=by
 have h1:get (s.put d v).env d=get (s.put d v').env d:=by rw[h]
 simpa [St.put,ec] using h1
theorem pW {d:Nat} {a:IX} (h:ae cf s (.loadK d a)=some s'):∃v,s'=s.put d v:=by simp[ae] at h
theorem mo {d k:Nat} {agg:Bool} {a:IX} (h:ae cf s (.load d agg k a)=some s'):∃v,s'=s.put d v:=by
 simp only[ae] at h;split at h
 ·simp only[aC,aE] at h
  obtain⟨_,_,v,_,rfl⟩:=h;exact⟨_,rfl⟩
 ·simp only[aE] at h
  obtain⟨v,_,rfl⟩:=h;exact⟨v,rfl⟩
 ·cases h
theorem mq {d k n:Nat} {agg:Bool} {a:IX} (h:ae cf s (.loadB d agg k a n)=some s'):∃v,s'=s.put d v:=by simp[ae] at h
theorem pX {d n:Nat} {a:IX} (h:ae cf s (.loadKB d a n)=some s'):∃v,s'=s.put d v:=by simp[ae] at h
theorem pY {d k:Nat} {agg:Bool} {a:IX} (h:ae cf s (.loadJ d agg k a)=some s'):∃v,s'=s.put d v:=by simp[ae] at h
theorem fR {p x:IOp} {d m:Nat} (ha:fe ⟨p,none⟩ ⟨x,none⟩=true) (hv:∃v,s1=s.put d v) (h1:ae cf s p=some s1) (h2:ae cf s1 x=some s2) (hd:wr p=[d]) (hmd:m≠d) (hk:keptB s1.env s1.gh s2.gh m)
  (hr:∀t1:St,(∀t∈rd p,get t1.env t=get s.env t)->keptB s.env s.gh t1.gh m->∃v,s1=s.put d v/\ae cf t1 p=some (t1.put d v)) :
  ∃t1 t2,ae cf s x=some t1/\ae cf t1 p=some t2/\Eqv s2 t2:=by
 obtain⟨v,hv⟩:=hv;refine mm ha hd h1 h2 hv λt1 hm _ hg=>?_
 have hk':keptB s.env s.gh t1.gh m:=by
  rw[hg];have e:s1.gh=s.gh:=by rw[hv];rfl
  rw[e] at hk;refine iW ?_ hk;rw[hv];simp only[St.put,ec];rw[if_neg (Ne.symm hmd)]
 obtain⟨v',e1,e2⟩:=hr t1 hm hk';rw[mn (hv.symm.trans e1)];exact e2
theorem wD {p x:IOpG} (ha:fe p x=true) (hf:mi p x=true) (h1:opG cf p s=some s1) (h2:opG cf x s1=some s2) :
  ∃t1 t2,opG cf x s=some t1/\opG cf p t1=some t2/\Eqv s2 t2:=by
 obtain⟨po,pg⟩:=p;obtain⟨xo,xg⟩:=x;simp only[mi,aX,Option.isNone_iff_eq_none,Bool.or_eq_true] at hf;obtain⟨⟨rfl,rfl⟩,hf⟩:=hf;have h1':ae cf s po=some s1:=h1;have h2':ae cf s1 xo=some s2:=h2
 show ∃t1 t2,ae cf s xo=some t1/\ae cf t1 po=some t2/\Eqv s2 t2
 have ha':=ha;simp only[fe,rdG,bI,aX,bS,Bool.not_eq_true',List.contains_eq_mem,decide_eq_false_iff_not] at ha';obtain⟨a1,a2⟩:=ha';rcases hf with (hf|hf)|hf
 ·unfold pP at hf
  split at hf<;>try (cases hf;done)
  ·rename_i d m dd f xs ns
   exact fR ha (pW h1') h1' h2' rfl (λe=>(a1 d (by simp[wr,ba])).1 (by simp[rd,<-e];left;simpa using hf)) ((fQ h2').2 m (by simpa using hf)) λt1 hm hk=>mj h1' (hm m (by simp[rd,rdX])) hk
  ·rename_i d agg k m dd f xs ns
   exact fR ha (mo h1') h1' h2' rfl (λe=>(a1 d (by simp[wr,ba])).1 (by simp[rd,<-e];left;simpa using hf)) ((fQ h2').2 m (by simpa using hf)) λt1 hm hk=>kB h1' (hm m (by simp[rd,rdX])) hk
  ·rename_i d m dd bytes sx x ns
   exact fR ha (pW h1') h1' h2' rfl (λe=>(a1 d (by simp[wr,ba])).1 (by simp[rd,<-e];left;simpa using hf)) (kF h2' m (by simpa using hf)) λt1 hm hk=>mj h1' (hm m (by simp[rd,rdX])) hk
  ·rename_i d agg k m dd bytes sx x ns
   exact fR ha (mo h1') h1' h2' rfl (λe=>(a1 d (by simp[wr,ba])).1 (by simp[rd,<-e];left;simpa using hf)) (kF h2' m (by simpa using hf)) λt1 hm hk=>kB h1' (hm m (by simp[rd,rdX])) hk
  ·rename_i d agg k a n dd f xs ns
   exact fR ha (mq h1') h1' h2' rfl (λe=>(a1 d (by simp[wr,ba])).1 (by simp[rd,<-e];left;simpa using hf)) ((fQ h2').2 n (by simpa using hf)) λt1 hm hk=>kC h1' (bp (λt ht=>hm t (by simp[rd,ht]))) (hm n (by simp[rd])) hk
  ·rename_i d agg k a n dd bytes sx x ns
   exact fR ha (mq h1') h1' h2' rfl (λe=>(a1 d (by simp[wr,ba])).1 (by simp[rd,<-e];left;simpa using hf)) (kF h2' n (by simpa using hf)) λt1 hm hk=>kC h1' (bp (λt ht=>hm t (by simp[rd,ht]))) (hm n (by simp[rd])) hk
  ·rename_i d a n dd f xs ns
   exact fR ha (pX h1') h1' h2' rfl (λe=>(a1 d (by simp[wr,ba])).1 (by simp[rd,<-e];left;simpa using hf)) ((fQ h2').2 n (by simpa using hf)) λt1 hm hk=>ml h1' (bp (λt ht=>hm t (by simp[rd,ht]))) (hm n (by simp[rd])) hk
  ·rename_i d a n dd bytes sx x ns
   exact fR ha (pX h1') h1' h2' rfl (λe=>(a1 d (by simp[wr,ba])).1 (by simp[rd,<-e];left;simpa using hf)) (kF h2' n (by simpa using hf)) λt1 hm hk=>ml h1' (bp (λt ht=>hm t (by simp[rd,ht]))) (hm n (by simp[rd])) hk
  ·rename_i d agg k a dd f xs ns
   obtain⟨v,hv⟩:=pY h1';refine mm ha (by simp[wr,ba]) h1' h2' hv λt1 hm hl _=>?_
   obtain⟨v',e1,e2⟩:=kD h1' (bp (λt ht=>hm t (by simp[rd,ht]))) (hl.trans ((fQ h2').1.trans (by rw[hv];rfl)));rw[mn (hv.symm.trans e1)];exact e2
  ·rename_i d agg k a dd f xs n o2
   obtain⟨v,hv⟩:=pY h1';refine mm ha (by simp[wr,ba]) h1' h2' hv λt1 hm hl _=>?_
   obtain⟨v',e1,e2⟩:=kD h1' (bp (λt ht=>hm t (by simp[rd,ht]))) (hl.trans ((pU h2').trans (by rw[hv];rfl)));rw[mn (hv.symm.trans e1)];exact e2
  ·rename_i d agg k m tk kk y z ns
   exact fR ha (mo h1') h1' h2' rfl (λe=>(a1 d (by simp[wr,ba])).1 (by simp[rd,<-e];left;simpa using hf)) (pV h2' m (by simpa using hf)) λt1 hm hk=>kB h1' (hm m (by simp[rd,rdX])) hk
  ·rename_i d agg k a n tk kk y z ns
   exact fR ha (mq h1') h1' h2' rfl (λe=>(a1 d (by simp[wr,ba])).1 (by simp[rd,<-e];left;simpa using hf)) (pV h2' n (by simpa using hf)) λt1 hm hk=>kC h1' (bp (λt ht=>hm t (by simp[rd,ht]))) (hm n (by simp[rd])) hk
 ·have hx:∀t,t∈rd xo->get s.env t=get s1.env t:=λt ht=>(iX (t:=t) ⟨po,none⟩ h1 (λhw=>(a1 t hw).1 ht)).symm
  unfold pS at hf;split at hf<;>try (cases hf;done)
  ·rename_i dd f xs ns d agg k a n
   have hn:=hx n (by simp[rd]);obtain⟨v,e1,e2⟩:=kC (t1:=s) h2' (bp (λt ht=>hx t (by simp[rd,ht]))) hn (iW hn.symm ((fQ h1').2 n (by simpa using hf)).symm);exact iZ ha (by simp[wr,ba]) h1' h2' e1 e2
  ·rename_i dd f xs ns d a n
   have hn:=hx n (by simp[rd]);obtain⟨v,e1,e2⟩:=ml (t1:=s) h2' (bp (λt ht=>hx t (by simp[rd,ht]))) hn (iW hn.symm ((fQ h1').2 n (by simpa using hf)).symm);exact iZ ha (by simp[wr,ba]) h1' h2' e1 e2
  ·rename_i dd f xs ns d agg k m
   have hn:=hx m (by simp[rd,rdX]);obtain⟨v,e1,e2⟩:=kB (t1:=s) h2' hn (iW hn.symm ((fQ h1').2 m (by simpa using hf)).symm);exact iZ ha (by simp[wr,ba]) h1' h2' e1 e2
  ·rename_i dd f xs ns d m
   have hn:=hx m (by simp[rd,rdX]);obtain⟨v,e1,e2⟩:=mj (t1:=s) h2' hn (iW hn.symm ((fQ h1').2 m (by simpa using hf)).symm);exact iZ ha (by simp[wr,ba]) h1' h2' e1 e2
  ·rename_i dd f xs ns d agg k a
   obtain⟨v,e1,e2⟩:=kD (t1:=s) h2' (bp (λt ht=>hx t (by simp[rd,ht]))) (fQ h1').1.symm;exact iZ ha (by simp[wr,ba]) h1' h2' e1 e2
  ·rename_i dd f xs n o2 d agg k a
   obtain⟨v,e1,e2⟩:=kD (t1:=s) h2' (bp (λt ht=>hx t (by simp[rd,ht]))) (pU h1').symm;exact iZ ha (by simp[wr,ba]) h1' h2' e1 e2
 ·unfold pT at hf
  split at hf<;>try (cases hf;done)
  simp only[aX,cR] at hf;obtain⟨rfl,rfl⟩:=hf;exact wC ha h1' h2'
theorem wE {p x:IOpG} (h:kA p x=true) (h1:opG cf p s=some s1) (h2:opG cf x s1=some s2) :
  ∃t1 t2,opG cf x s=some t1/\opG cf p t1=some t2/\Eqv s2 t2:=by
 simp only[kA,aX,Bool.or_eq_true] at h;rcases h.2 with (h3|h3)|h3
 ·exact wy h.1 h3 h1 h2
 ·exact wz h.1 h3 h1 h2
 ·exact wD h.1 h3 h1 h2
theorem Eqv.refl (s:St):Eqv s s:=⟨λ_=>rfl,rfl,rfl⟩
theorem Eqv.trans (h:Eqv s s1) (h2:Eqv s1 s2):Eqv s s2:=⟨λt=>(h2.1 t).trans (h.1 t),h2.2.1.trans h.2.1,h2.2.2.trans h.2.2⟩
theorem wF {i:IOpG} (h:opG cf i s=some s') (he:Eqv s s2):∃s2',opG cf i s2=some s2'/\Eqv s' s2':=by
 obtain⟨s2',h1,h2,h3⟩:=jH (s2:=s2) i (λt _=>he.1 t) (dN he.2.1 he.2.2) h;refine⟨s2',h1,λt=>?_,dP h3 he.2.1 he.2.2⟩;rw[h2 t];by_cases hw:t∈wr i.op
 ·rw[if_pos hw]
 ·rw[if_neg hw,he.1 t,iX i h hw]
theorem pZ:∀{l:List IOpG} {s s' s2:St},cw cf l s=some s'->Eqv s s2->∃s2',cw cf l s2=some s2'/\Eqv s' s2'
 |[],s,s',s2,h,he=>by simp[cw] at h;subst h;exact⟨s2,rfl,he⟩
 |i::l,s,s',s2,h,he=>by rw[iT,aC] at h;obtain⟨s1,h1,h2⟩:=h;obtain⟨s3,h3,h4⟩:=wF h1 he;obtain⟨s4,h5,h6⟩:=pZ h2 h4;exact⟨s4,by rw[iT,h3];exact h5,h6⟩
theorem qA {x:IOpG} {suf:List IOpG}:∀{pre:List IOpG} {s s':St},cw cf (pre++x::suf) s=some s'->(∀p∈pre,kA p x=true)->
  ∃t1 t',opG cf x s=some t1/\cw cf (pre++suf) t1=some t'/\Eqv s' t'
 |[],s,s',h,_=>by rw[bI,iT,aC] at h;obtain⟨t1,h1,h2⟩:=h;exact⟨t1,s',h1,h2,Eqv.refl s'⟩
 |p::pre,s,s',h,hp=>by rw[bJ,iT,aC] at h;obtain⟨s1,h1,h2⟩:=h;obtain⟨s2,s'',h3,h4,h5⟩:=qA h2 (λq hq=>hp q (by simp[hq]));obtain⟨t1,t2,h6,h7,h8⟩:=wE (hp p (by simp)) h1 h3;obtain⟨t',h9,h10⟩:=pZ h4 h8;exact⟨t1,t',h6,by rw[bJ,iT,h7];exact h9,h5.trans h10⟩
theorem Inv.eqv (hI:Inv fi M w s a) (h:Eqv s s2):Inv fi M w s2 a where
 env:=λt v hv=>hI.env t v (by rw[<-h.1 t];exact hv)
 defers:=hI.defers
 lbl:=by rw[h.2.1];exact hI.lbl
 gbl:=by rw[h.2.2];exact hI.gbl
 nodup:=hI.nodup
 lh:=by rw[h.2.1];exact hI.lh
 gh:=by rw[h.2.2];exact hI.gh
 gl:=hI.gl
 immlt:=hI.immlt
 ownlt:=hI.ownlt
 gblt:=hI.gblt
theorem Eqv.symm (h:Eqv s s2):Eqv s2 s:=⟨λt=>(h.1 t).symm,h.2.1.symm,h.2.2.symm⟩
end
end
end Go.Lw