/-
  The texts that the proof stands on, part 15.
-/
import Derived.Test.YtmodipglnngghadGreatDoorRestModelsN
import Derived.Orders
set_option linter.unusedVariables false
set_option linter.unusedSimpArgs false
set_option linter.unnecessarySimpa false

set_option maxRecDepth 100000
set_option maxHeartbeats 4000000
namespace Go.Lw
open Go
section
open Go.RowKit
variable {p:IOpG} {x y:IX} {e:fT} {m b off i d k n f o2 d2:Nat} {xs:List IX} {ns:gj} {v:PV} {cs:fw}
section
variable {fi:FI} {M M':Mem} {w w':World} {P:Program} {s s' s1 s2 t1 t2:St} {a:Act} {cf:CallF}
def xF (_ _:IOpG):Bool:=false
def xG (p x:IOp):Bool:=
 match p,x with
 | .loadK _ (.t m),.callP _ _ _ ns| .load _ _ _ (.t m),.callP _ _ _ ns| .loadK _ (.t m),.appendP _ _ _ _ ns| .load _ _ _ (.t m),.appendP _ _ _ _ ns=>ns.contains m
 | .loadB _ _ _ _ n,.callP _ _ _ ns| .loadB _ _ _ _ n,.appendP _ _ _ _ ns| .loadKB _ _ n,.callP _ _ _ ns| .loadKB _ _ n,.appendP _ _ _ _ ns=>ns.contains n
 | .loadJ _ _ _ _,.callP _ _ _ _| .loadJ _ _ _ _,.callR _ _ _ _ _=>true
 | .load _ _ _ (.t m),.storeP _ _ _ _ ns=>ns.contains m
 | .loadB _ _ _ _ n,.storeP _ _ _ _ ns=>ns.contains n
 |_,_=>false
def xH (p x:IOp):Bool:=
 match p,x with
 | .callP _ _ _ ns,.loadB _ _ _ _ n| .callP _ _ _ ns,.loadKB _ _ n=>ns.contains n
 | .callP _ _ _ ns,.load _ _ _ (.t m)| .callP _ _ _ ns,.loadK _ (.t m)=>ns.contains m
 | .callP _ _ _ _,.loadJ _ _ _ _| .callR _ _ _ _ _,.loadJ _ _ _ _=>true
 |_,_=>false
def xI (p x:IOp):Bool:=
 match p,x with
 | .loadTB _ _ m o,.callR _ _ _ n o2=>m==n&&o==o2
 | .box _ true _ _,.alloc _ false _=>true
 |_,_=>false
def tb (p x:IOpG):Bool:=p.guard.isNone&&x.guard.isNone&&(xG p.op x.op||xH p.op x.op||xI p.op x.op)
def qG (p x:IOpG):Bool:=ij p x&&(qF (cls p.op) (cls x.op)||xF p x||tb p x)
theorem Fy {x:IOpG} (ha:ij p x=true) (a:xF p x=true) (c:opG cf p s=some s1) (b:opG cf x s1=some s2) :
  ∃t1 t2,opG cf x s=some t1/\opG cf p t1=some t2/\Eqv s2 t2:=by
 cases a
theorem keptB.symm {e:fT} {d a:fB} {n:Nat} (h:keptB e d a n):keptB e a d n:=by
 have c:∀b,b<d.length/\a[b]?=d[b]?->b<a.length/\d[b]?=a[b]?:=λb f=>
  ⟨(aD.1 (f.2.trans (aA f.1))).1,f.2.symm⟩
 unfold keptB at *;split at h
 ·exact c _ h
 ·exact c _ h
 ·exact c _ h
 ·trivial
 ·exact h.elim
theorem Fz {g:Bool} (h:ai e (.t m)=some (.ptr g b off)):get e m=some (.ptr g b off):=by simp only[ai,aE] at h;obtain⟨v,c,a⟩:=h;cases v<;>simp[degr] at a;obtain⟨rfl,rfl,rfl⟩:=a;exact c
theorem FA {p:PV} (h:ai e (.t m)=some (.ep p off)):get e m=some (.ep p off):=by simp only[ai,aE] at h;obtain⟨v,b,a⟩:=h;cases v<;>simp[degr] at a;obtain⟨rfl,rfl⟩:=a;exact b
theorem FC {a:Nat} (h:ai e (.t m)=some (.pstk b a i)):get e m=some (.pstk b a i):=by simp only[ai,aE] at h;obtain⟨v,d,c⟩:=h;cases v<;>simp[degr] at c;obtain⟨rfl,rfl,rfl⟩:=c;exact d
theorem tc {t1:St} (h:ae cf s (.loadK d (.t m))=some s') (g:get t1.env m=get s.env m) (c:keptB s.env s.gh t1.gh m) :
  ∃v,s'=s.put d v/\ae cf t1 (.loadK d (.t m))=some (t1.put d v):=by
 have j:ai t1.env (.t m)=ai s.env (.t m):=by simp only[ai,g]
 simp only[ae,j] at h ⊢;split at h
 ·rename_i b k i f
  simp only[aE] at h;obtain⟨v,e,rfl⟩:=h;have a:b<s.gh.length/\t1.gh[b]?=s.gh[b]?:=by unfold keptB at c;rw[FC f] at c;exact c
  refine⟨v,rfl,?_⟩;simp only[j6,a.2] at e ⊢;rw[e];rfl
 ·cases h
theorem qH {agg:Bool} {t1:St} (h:ae cf s (.load d agg k (.t m))=some s') (j:get t1.env m=get s.env m) (a:keptB s.env s.gh t1.gh m) :
  ∃v,s'=s.put d v/\ae cf t1 (.load d agg k (.t m))=some (t1.put d v):=by
 have n:ai t1.env (.t m)=ai s.env (.t m):=by simp only[ai,j]
 simp only[ae,n] at h ⊢;split at h
 ·rename_i g b off c
  have l:=Fz c;unfold keptB at a;rw[l] at a;cases g with
  |false=>exact a.elim
  | true=>
   simp only[aC,aE] at h;obtain⟨cs,f,v,i,rfl⟩:=h;refine⟨degr v,rfl,?_⟩;have e:t1.cellsAt true b=some cs:=by simp only[St.cellsAt,if_true] at f ⊢;rw[a.2];exact f
   simp[e,i]
 ·rename_i p off c
  unfold keptB at a;rw[FA c] at a;exact a.elim
 ·cases h
theorem qI {agg:Bool} {t1:St} (h:ae cf s (.loadB d agg k x n)=some s') (g:ai t1.env x=ai s.env x) (hn:get t1.env n=get s.env n) (c:keptB s.env s.gh t1.gh n) :
  ∃v,s'=s.put d v/\ae cf t1 (.loadB d agg k x n)=some (t1.put d v):=by
 simp only[ae,g,hn] at h ⊢;split at h
 ·rename_i b off p l m i
  split at h
  ·rename_i j
   subst j;simp only[aC,aE] at h;obtain⟨cs,f,v,a,rfl⟩:=h;refine⟨degr v,rfl,?_⟩;unfold keptB at c;rw[i] at c;have e:t1.cellsAt true b=some cs:=by simp only[St.cellsAt,if_true] at f ⊢;rw[c.2];exact f
   simp[e,a]
  ·cases h
 ·simp only[aE] at h
  obtain⟨v,a,rfl⟩:=h;exact⟨v,rfl,by simp[a]⟩
 ·cases h
theorem tf {t1:St} (h:ae cf s (.loadKB d x n)=some s') (a:ai t1.env x=ai s.env x) (hn:get t1.env n=get s.env n) (b:keptB s.env s.gh t1.gh n) :
  ∃v,s'=s.put d v/\ae cf t1 (.loadKB d x n)=some (t1.put d v):=by simp[ae] at h
theorem qJ {agg:Bool} {t1:St} (h:ae cf s (.loadJ d agg k x)=some s') (b:ai t1.env x=ai s.env x) (e:t1.lh=s.lh) :
  ∃v,s'=s.put d v/\ae cf t1 (.loadJ d agg k x)=some (t1.put d v):=by
 simp only[ae,b] at h ⊢;split at h
 ·simp only[aC,aE] at h
  obtain⟨cs,a,v,c,rfl⟩:=h;refine⟨degr v,rfl,?_⟩;simp only[St.cellsAt,bR,if_false] at a ⊢;simp[e,a,c]
 ·cases h
theorem jF {d:Option Nat} (h:ae cf s (.callP d f xs ns)=some s'):s'.lh=s.lh/\∀n∈ns,keptB s.env s.gh s'.gh n:=by
 simp only[ae,aC] at h;obtain⟨e,_,s1,a,b⟩:=h;split at b
 ·rename_i c
  cases b;refine⟨?_,c⟩;unfold dN at a;split at a
  ·split at a
   ·simp at a;rw[<-a]
   ·cases a
  ·cases a
 ·cases b
theorem xJ {d:Option Nat} (h:ae cf s (.callR d f xs n o2)=some s'):s'.lh=s.lh:=by
 simp only[ae,aC] at h;obtain⟨c,_,h⟩:=h;split at h
 ·unfold fV at h
  simp only[aC] at h;obtain⟨s1,a,_,_,_,_,_,_,_,_,b⟩:=h;split at b
  ·cases b
   unfold dN at a;split at a
   ·split at a
    ·simp at a;rw[<-a]
    ·cases a
   ·cases a
  ·cases b
 ·cases h
theorem qK {a:Nat} {b:IX} (h:ae cf s (.appendP d a b x ns)=some s'):∀n∈ns,keptB s.env s.gh s'.gh n:=by simp[ae] at h
theorem xK {tk:Bool} (h:ae cf s (.storeP tk k y x ns)=some s'):∀n∈ns,keptB s.env s.gh s'.gh n:=by simp[ae] at h
theorem tg {p x:IOp} {d:Nat} (ha:ij ⟨p,none⟩ ⟨x,none⟩=true) (n:wr p=[d]) (w:ae cf s p=some s1) (h:ae cf s1 x=some s2) {v:PV} (g:s1=s.put d v)
  (hr:∀t1:St,(∀t∈rd p,get t1.env t=get s.env t)->t1.lh=s2.lh->t1.gh=s2.gh->ae cf t1 p=some (t1.put d v)) :
  ∃t1 t2,ae cf s x=some t1/\ae cf t1 p=some t2/\Eqv s2 t2:=by
 simp only[ij,rdG,bF,aS,bV,Bool.not_eq_true',List.contains_eq_mem,decide_eq_false_iff_not] at ha;obtain⟨f,u⟩:=ha;rw[n] at f;have f:=f d bh;have j:=λt a=>mH (t:=t) ⟨x,none⟩ h a
 have l:s1.lh=s.lh:=by rw[g];rfl
 have k:s1.gh=s.gh:=by rw[g];rfl
 have c:∀t,t≠d->get s1.env t=get s.env t:=λt a=>by rw[g];simp only[St.put,dl];rw[if_neg (Ne.symm a)]
 obtain⟨t1,r,i,o⟩:=sZ (cf:=cf) x s1 s (λt a=>(c t (λe=>f.1 (e▸a))).symm) (fD l.symm k.symm) _ h;have q:=fI o.two l.symm k.symm;have m:=hr t1 (λt a=>by rw[i t,if_neg (λhw=>u t hw a)]) q.1 q.2;refine⟨t1,_,r,m,λt=>?_,q.1,q.2⟩;simp only[St.put,dl];by_cases b:d=t
 ·subst b
  rw[if_pos rfl,j d f.2,g];simp[St.put,dl]
 ·rw[if_neg b,i t]
  by_cases hw:t∈wr x
  ·rw[if_pos hw]
  ·rw[if_neg hw,j t hw,c t (Ne.symm b)]
theorem mI {p x:IOp} (ha:ij ⟨p,none⟩ ⟨x,none⟩=true) (g:wr x=[d]) (h:ae cf s p=some s1) (o:ae cf s1 x=some s2) (f:s2=s1.put d v) (hr:ae cf s x=some (s.put d v)) :
  ∃t1 t2,ae cf s x=some t1/\ae cf t1 p=some t2/\Eqv s2 t2:=by
 simp only[ij,rdG,bF,aS,bV,Bool.not_eq_true',List.contains_eq_mem,decide_eq_false_iff_not] at ha;obtain⟨n,c⟩:=ha;rw[g] at c;have c:=c d bh;have m:=λt b=>mH (t:=t) ⟨p,none⟩ h b
 have i:∀t,t≠d->get (s.put d v).env t=get s.env t:=λt b=>by simp only[St.put,dl];rw[if_neg (Ne.symm b)]
 obtain⟨t2,l,k,j⟩:=sZ (cf:=cf) p s (s.put d v) (λt b=>i t (λe=>c (e▸b))) (fD rfl rfl) _ h;have q:=fI j.two rfl rfl;refine⟨_,t2,hr,l,λt=>?_,by rw[f];exact q.1,by rw[f];exact q.2⟩;rw[k t,f];simp only[St.put,dl];by_cases hw:t∈wr p
 ·rw[if_pos hw]
  have:d≠t:=λe=>by have:=(n t hw).2;rw[g] at this;exact this (by simp[e])
  rw[if_neg this]
 ·rw[if_neg hw]
  by_cases a:d=t
  ·rw[if_pos a,if_pos a]
  ·rw[if_neg a,if_neg a,m t hw]
theorem mJ {a:fB} {z:Nat} {ys:fw} {o c:Bool} (h:a[b]?=some (.cells cs)) (d:cs[off]?=some (.sl o z ys)):fC a b off c=some (a.set b (.cells (cs.set off (.sl c z ys)))):=by simp[fC,h,d]
theorem qL {α:Type} {l:List α} {x:α} (h:l[i]?=some x):l.set i x=l:=by
 apply List.ext_getElem?;intro j;rw[cM];by_cases a:i=j
 ·subst a;rw[if_pos rfl,if_pos (aD.1 h).1,h]
 ·rw[if_neg a]
theorem Pe {x:PV} (h:off<cs.length):au cs off [x]=cs.set off x:=by unfold au;rw[List.set_eq_take_append_cons_drop,if_pos h];simp
theorem FD {M:IX} {i:Option Nat} (ha:ij ⟨.loadTB d M m o2,none⟩ ⟨.callR i f xs m o2,none⟩=true) (n:ae cf s (.loadTB d M m o2)=some s1) (D:ae cf s1 (.callR i f xs m o2)=some s2) :
  ∃t1 t2,ae cf s (.callR i f xs m o2)=some t1/\ae cf t1 (.loadTB d M m o2)=some t2/\Eqv s2 t2:=by
 simp only[ij,rdG,bF,aS,bV,Bool.not_eq_true',List.contains_eq_mem,decide_eq_false_iff_not] at ha;obtain⟨a1,a2⟩:=ha;have L:=a1 d (by simp[wr,bq]);simp only[rd,List.mem_cons,not_or] at L;obtain⟨⟨dm,dx⟩,dw⟩:=L;simp only[ae] at n;split at n<;>try (cases n;done)
 rename_i b off b' o hp p;split at n<;>try (cases n;done)
 rename_i al;obtain⟨rfl,rfl⟩:=al;simp only[aC] at n;obtain⟨cs,r,n⟩:=n;split at n<;>try (cases n;done)
 rename_i h z ys c;cases n;have aa:get ((s.setCells true b (au cs (o+o2) [.sl false z ys])).put d (.sl h z ys)).env m=some (fc b o):=by simp only[St.put,dl];rw[if_neg dm,mG];exact p
 have P:ei ((s.setCells true b (au cs (o+o2) [.sl false z ys])).put d (.sl h z ys)).env xs=ei s.env xs:=iH (λt S=>by simp only[St.put,dl];rw[if_neg (λ(e:d=t)=>dx (by rw[e];exact S)),mG]);simp only[ae,aa,P,aC] at D;obtain⟨vs,R,D⟩:=D;have g:s.gh[b]?=some (.cells cs):=by
  simp only[St.cellsAt,if_true] at r;split at r
  ·rename_i hx;cases r;exact hx
  ·cases r
 have k:(o+o2)<cs.length:=(aD.1 c).1;have an:b<s.gh.length:=(aD.1 g).1;have u:((s.setCells true b (au cs (o+o2) [.sl false z ys])).put d (.sl h z ys)).gh=s.gh.set b (.cells (cs.set (o+o2) (.sl false z ys))):=by simp only[St.put,St.setCells,if_true];rw[Pe k]
 have ao:((s.setCells true b (au cs (o+o2) [.sl false z ys])).put d (.sl h z ys)).lh=s.lh:=rfl;unfold fV at D;simp only[aC] at D;obtain⟨s3,C,g1,I,g2,H,r1,c4,x,c5,c6⟩:=D;split at c6
 case isFalse=>cases c6
 rename_i hc;cases c6;obtain⟨k1,k2,O,k4,k5⟩:=hc;rw[u] at I H;have E:∀N,fC (s.gh.set b (.cells (cs.set (o+o2) (.sl false z ys)))) b (o+o2) N=fC s.gh b (o+o2) N:=by intro N;rw[mJ g c,mJ (cs:=cs.set (o+o2) (.sl false z ys)) (o:=false) (z:=z) (ys:=ys) (by simp[an,aw]) (by simp[k])];simp
 rw[E] at I H;have G:g2=s.gh.set b (.cells (cs.set (o+o2) (.sl false z ys))):=by rw[mJ g c] at H;exact (cZ H).symm
 have ab:g1=s.gh.set b (.cells (cs.set (o+o2) (.sl true z ys))):=by rw[mJ g c] at I;exact (cZ I).symm
 -- the call, behind the load
 unfold dN at C;split at C
 case isFalse=>cases C
 rename_i U;rw[u] at C;have e2:s.gh.set b (.cells (cs.set (o+o2) (.sl false z ys)))=g2:=by rw[G]
 rw[e2,c5] at C;simp at C
 -- what the cell holds now
 have B:cs.set (o+o2) (.sl h z ys)=cs:=qL c;have a:(if h then g1 else g2)=s.gh:=by
  cases h
  ·simp only[bR,if_false];rw[G,B];exact qL g
  ·simp only[if_true];rw[ab,B];exact qL g
 have l:cf f vs s.gh=some (if h then r1 else x):=by
  cases h
  ·simp only[bR,if_false] at a ⊢;rw[<-a];exact c5
  ·simp only[if_true] at a ⊢;rw[<-a];exact c4
 generalize A:(if h then r1 else x)=j at l;have F:j.1=x.1:=by rw[<-A];cases h<;>simp[k1]
 have v:j.2[b]?=some (.cells cs):=by
  rw[<-A,<-g,<-a];cases h
  ·simpa using O
  ·simpa using k2
 have w:fC j.2 b (o+o2) false=some x.2:=by
  rw[<-A];cases h
  ·simp only[bR,if_false]
   have e3:x.2[b]?=some (.cells cs):=by rw[O];simp only[bR,if_false] at a;rw[a];exact g
   rw[mJ e3 c,B,qL e3]
  ·simpa using k4
 refine⟨⟨eO s.env i j.1,s.lh,j.2⟩,((⟨eO s.env i j.1,s.lh,j.2⟩:St).setCells true b (au cs (o+o2) [.sl false z ys])).put d (.sl h z ys),?_,?_,?_⟩
 ·simp only[ae,R,p,cJ]
  unfold fV;simp only[dN,if_pos U,l,I,H,c4,c5,cJ];simp[k1,k2,O,k4,k5]
 ·have X:get (eO s.env i j.1) m=some (fc b o):=by
   have:m∉wr (.callR i f xs m o2):=λhw=>a2 m hw (by simp[rd])
   cases i with
   |none=>exact p
   |some q=>
    simp only[eO,dl];rw[if_neg (λe=>this (by simp[wr,bq,e]))];exact p
  have Q:ai (eO s.env i j.1) M=some (fc b (o+o2)):=by
   rw[<-hp];refine ce λt S=>?_
   have:t∉wr (.callR i f xs m o2):=λhw=>a2 t hw (by simp[rd,S])
   cases i with
   |none=>rfl
   |some q=>simp only[eO,dl];rw[if_neg (λe=>this (by simp[wr,bq,e]))]
  have ad:(⟨eO s.env i j.1,s.lh,j.2⟩:St).cellsAt true b=some cs:=by simp only[St.cellsAt,if_true,v]
  simp only[ae,Q,X,ad,cJ,c,cK];simp
 ·have y:s2=⟨eO ((s.setCells true b (au cs (o+o2) [.sl false z ys])).put d (.sl h z ys)).env i x.1,s.lh,x.2⟩:=C.symm
  refine⟨λt=>?_,by rw[y];rfl,?_⟩
  ·rw[y]
   simp only[St.put,mG,F];cases i with
   |none=>rfl
   |some q=>
    have T:q≠d:=λe=>dw (by simp[wr,bq,e])
    simp only[eO,dl];by_cases h3:d=t
    ·subst h3;simp[T]
    ·simp[h3]
  ·rw[y]
   simp only[St.put,St.setCells,if_true];rw[Pe k];rw[mJ v c] at w;exact cZ w
theorem th {a:PV} (h:s.put d v=s.put d a):v=a:=by
 have b:get (s.put d v).env d=get (s.put d a).env d:=by rw[h]
 simpa [St.put,dl] using b
theorem xM {a:IX} (h:ae cf s (.loadK d a)=some s'):∃v,s'=s.put d v:=by
 simp only[ae] at h;split at h
 ·simp only[aE] at h
  obtain⟨v,_,rfl⟩:=h;exact⟨v,rfl⟩
 ·cases h
theorem ti {agg:Bool} {a:IX} (h:ae cf s (.load d agg k a)=some s'):∃v,s'=s.put d v:=by
 simp only[ae] at h;split at h
 ·simp only[aC,aE] at h
  obtain⟨_,_,v,_,rfl⟩:=h;exact⟨_,rfl⟩
 ·simp only[aE] at h
  obtain⟨v,_,rfl⟩:=h;exact⟨v,rfl⟩
 ·cases h
theorem tj {agg:Bool} {a:IX} (h:ae cf s (.loadB d agg k a n)=some s'):∃v,s'=s.put d v:=by
 simp only[ae] at h;split at h
 ·split at h
  ·simp only[aC,aE] at h
   obtain⟨_,_,v,_,rfl⟩:=h;exact⟨_,rfl⟩
  ·cases h
 ·simp only[aE] at h
  obtain⟨v,_,rfl⟩:=h;exact⟨v,rfl⟩
 ·cases h
theorem xN {a:IX} (h:ae cf s (.loadKB d a n)=some s'):∃v,s'=s.put d v:=by simp[ae] at h
theorem xO {agg:Bool} {a:IX} (h:ae cf s (.loadJ d agg k a)=some s'):∃v,s'=s.put d v:=by
 simp only[ae] at h;split at h
 ·simp only[aC,aE] at h
  obtain⟨_,_,v,_,rfl⟩:=h;exact⟨_,rfl⟩
 ·cases h
theorem jG {p x:IOp} {d m:Nat} (ha:ij ⟨p,none⟩ ⟨x,none⟩=true) (a:∃v,s1=s.put d v) (k:ae cf s p=some s1) (j:ae cf s1 x=some s2) (i:wr p=[d]) (b:m≠d) (f:keptB s1.env s1.gh s2.gh m)
  (hr:∀t1:St,(∀t∈rd p,get t1.env t=get s.env t)->keptB s.env s.gh t1.gh m->∃v,s1=s.put d v/\ae cf t1 p=some (t1.put d v)) :
  ∃t1 t2,ae cf s x=some t1/\ae cf t1 p=some t2/\Eqv s2 t2:=by
 obtain⟨v,a⟩:=a;refine tg ha i k j a λt1 g _ h=>?_
 have c:keptB s.env s.gh t1.gh m:=by
  rw[h];have e:s1.gh=s.gh:=by rw[a];rfl
  rw[e] at f;refine lJ ?_ f;rw[a];simp only[St.put,dl];rw[if_neg (Ne.symm b)]
 obtain⟨o,n,l⟩:=hr t1 g c;rw[th (a.symm.trans n)];exact l
theorem FE {d:fT} {P:PV} (g:∀n,y= .t n->n≠d2) (h:f6 e y=some (v,d)) :
  ∃b,f6 (Lw.put e d2 P) y=some (v,b)/\∀t,get b t=if d2=t then some P else get d t:=by
 cases y with
 |t n=>
  have hn:=g n rfl;simp only[f6,aE,bZ] at h;obtain⟨u,j,rfl,rfl⟩:=h;refine⟨_,by simp only[f6,dl];rw[if_neg (Ne.symm hn),j];rfl,λt=>?_⟩;simp only[dl];by_cases a:d2=t
  ·subst a;rw[if_neg hn,if_pos rfl,if_pos rfl]
  ·rw[if_neg a,if_neg a]
 |c u=>
  cases h;exact⟨_,rfl,λt=>dl ..⟩
 |f i=>
  cases h;exact⟨_,rfl,λt=>dl ..⟩
theorem FF {tk:Bool} {z:PV} (w:d≠d2) (p:∀n,y= .t n->n≠d2) (a:ae cf s (.box d true tk y)=some s1) (l:ae cf s1 (.alloc d2 false z)=some s2) :
  ∃t1 t2,ae cf s (.alloc d2 false z)=some t1/\ae cf t1 (.box d true tk y)=some t2/\Eqv s2 t2:=by
 simp only[ae] at a l ⊢;split at l
 case isFalse=>cases l
 rename_i r;cases l;rw[if_pos r];have g:∀(e j:fT) (v P:PV),(∀t,get j t=if d2=t then some P else get e t)->∀t,get (Lw.put j d v) t=get (Lw.put (Lw.put e d v) d2 P) t:=λe j v P h t=>by
  simp only[dl,h];by_cases b:d=t
  ·subst b;rw[if_pos rfl,if_neg (Ne.symm w),if_pos rfl]
  ·rw[if_neg b,if_neg b]
 cases tk with
 |true=>
  simp only[if_true,aC] at a ⊢;obtain⟨⟨v,e⟩,o,a⟩:=a;simp only at a;split at a
  case isFalse=>cases a
  rename_i m;cases a;obtain⟨j,b,q⟩:=FE (P:= ff s.lh.length 0) p o;refine⟨_,_,rfl,⟨(v,j),b,if_pos m⟩,λt=>g _ _ _ _ q t,rfl,rfl⟩
 | false=>
  simp only[bR,if_false,aC] at a ⊢;obtain⟨v,o,a⟩:=a;split at a
  case isFalse=>cases a
  rename_i m;cases a;have b:ai (Lw.put s.env d2 (ff s.lh.length 0)) y=ai s.env y:=ce λt k=>by
   rw[dl,if_neg];intro e;cases y with
   |t n=>simp[rdX] at k;exact p n rfl (by rw[<-k,e])
   |c u=>simp[rdX] at k
   |f i=>simp[rdX] at k
  refine⟨_,_,rfl,⟨v,b.trans o,if_pos m⟩,λt=>g _ _ _ _ (λt=>dl ..) t,rfl,rfl⟩
theorem FG {x:IOpG} (ha:ij p x=true) (g:tb p x=true) (G:opG cf p s=some s1) (L:opG cf x s1=some s2) :
  ∃t1 t2,opG cf x s=some t1/\opG cf p t1=some t2/\Eqv s2 t2:=by
 obtain⟨E,pg⟩:=p;obtain⟨C,N⟩:=x;simp only[tb,aS,Option.isNone_iff_eq_none,Bool.or_eq_true] at g;obtain⟨⟨rfl,rfl⟩,g⟩:=g;have b:ae cf s E=some s1:=G;have c:ae cf s1 C=some s2:=L
 show ∃t1 t2,ae cf s C=some t1/\ae cf t1 E=some t2/\Eqv s2 t2
 have B:=ha;simp only[ij,rdG,bF,aS,bV,Bool.not_eq_true',List.contains_eq_mem,decide_eq_false_iff_not] at B;obtain⟨u,M⟩:=B;rcases g with (g|g)|g
 ·unfold xG at g
  split at g<;>try (cases g;done)
  ·rename_i d m q f xs ns
   exact jG ha (xM b) b c rfl (λe=>(u d (by simp[wr,bq])).1 (by simp[rd,<-e];left;simpa using g)) ((jF c).2 m (by simpa using g)) λt1 h j=>tc b (h m (by simp[rd,rdX])) j
  ·rename_i d agg k m q f xs ns
   exact jG ha (ti b) b c rfl (λe=>(u d (by simp[wr,bq])).1 (by simp[rd,<-e];left;simpa using g)) ((jF c).2 m (by simpa using g)) λt1 h j=>qH b (h m (by simp[rd,rdX])) j
  ·rename_i d m q r D x ns
   exact jG ha (xM b) b c rfl (λe=>(u d (by simp[wr,bq])).1 (by simp[rd,<-e];left;simpa using g)) (qK c m (by simpa using g)) λt1 h j=>tc b (h m (by simp[rd,rdX])) j
  ·rename_i d agg k m q r D x ns
   exact jG ha (ti b) b c rfl (λe=>(u d (by simp[wr,bq])).1 (by simp[rd,<-e];left;simpa using g)) (qK c m (by simpa using g)) λt1 h j=>qH b (h m (by simp[rd,rdX])) j
  ·rename_i d agg k a n q f xs ns
   exact jG ha (tj b) b c rfl (λe=>(u d (by simp[wr,bq])).1 (by simp[rd,<-e];left;simpa using g)) ((jF c).2 n (by simpa using g)) λt1 h j=>qI b (ce (λt i=>h t (by simp[rd,i]))) (h n (by simp[rd])) j
  ·rename_i d agg k a n q r D x ns
   exact jG ha (tj b) b c rfl (λe=>(u d (by simp[wr,bq])).1 (by simp[rd,<-e];left;simpa using g)) (qK c n (by simpa using g)) λt1 h j=>qI b (ce (λt i=>h t (by simp[rd,i]))) (h n (by simp[rd])) j
  ·rename_i d a n q f xs ns
   exact jG ha (xN b) b c rfl (λe=>(u d (by simp[wr,bq])).1 (by simp[rd,<-e];left;simpa using g)) ((jF c).2 n (by simpa using g)) λt1 h j=>tf b (ce (λt i=>h t (by simp[rd,i]))) (h n (by simp[rd])) j
  ·rename_i d a n q r D x ns
   exact jG ha (xN b) b c rfl (λe=>(u d (by simp[wr,bq])).1 (by simp[rd,<-e];left;simpa using g)) (qK c n (by simpa using g)) λt1 h j=>tf b (ce (λt i=>h t (by simp[rd,i]))) (h n (by simp[rd])) j
  ·rename_i d agg k a q f xs ns
   obtain⟨v,A⟩:=xO b;refine tg ha (by simp[wr,bq]) b c A λt1 h F _=>?_
   obtain⟨H,o,l⟩:=qJ b (ce (λt i=>h t (by simp[rd,i]))) (F.trans ((jF c).1.trans (by rw[A];rfl)));rw[th (A.symm.trans o)];exact l
  ·rename_i d agg k a q f xs n o2
   obtain⟨v,A⟩:=xO b;refine tg ha (by simp[wr,bq]) b c A λt1 h F _=>?_
   obtain⟨H,o,l⟩:=qJ b (ce (λt i=>h t (by simp[rd,i]))) (F.trans ((xJ c).trans (by rw[A];rfl)));rw[th (A.symm.trans o)];exact l
  ·rename_i d agg k m tk I y z ns
   exact jG ha (ti b) b c rfl (λe=>(u d (by simp[wr,bq])).1 (by simp[rd,<-e];left;simpa using g)) (xK c m (by simpa using g)) λt1 h j=>qH b (h m (by simp[rd,rdX])) j
  ·rename_i d agg k a n tk I y z ns
   exact jG ha (tj b) b c rfl (λe=>(u d (by simp[wr,bq])).1 (by simp[rd,<-e];left;simpa using g)) (xK c n (by simpa using g)) λt1 h j=>qI b (ce (λt i=>h t (by simp[rd,i]))) (h n (by simp[rd])) j
 ·have w:∀t,t∈rd C->get s.env t=get s1.env t:=λt i=>(mH (t:=t) ⟨E,none⟩ G (λhw=>(u t hw).1 i)).symm
  unfold xH at g;split at g<;>try (cases g;done)
  ·rename_i q f xs ns d agg k a n
   have hn:=w n (by simp[rd]);obtain⟨v,o,l⟩:=qI (t1:=s) c (ce (λt i=>w t (by simp[rd,i]))) hn (lJ hn.symm ((jF b).2 n (by simpa using g)).symm);exact mI ha (by simp[wr,bq]) b c o l
  ·rename_i q f xs ns d a n
   have hn:=w n (by simp[rd]);obtain⟨v,o,l⟩:=tf (t1:=s) c (ce (λt i=>w t (by simp[rd,i]))) hn (lJ hn.symm ((jF b).2 n (by simpa using g)).symm);exact mI ha (by simp[wr,bq]) b c o l
  ·rename_i q f xs ns d agg k m
   have hn:=w m (by simp[rd,rdX]);obtain⟨v,o,l⟩:=qH (t1:=s) c hn (lJ hn.symm ((jF b).2 m (by simpa using g)).symm);exact mI ha (by simp[wr,bq]) b c o l
  ·rename_i q f xs ns d m
   have hn:=w m (by simp[rd,rdX]);obtain⟨v,o,l⟩:=tc (t1:=s) c hn (lJ hn.symm ((jF b).2 m (by simpa using g)).symm);exact mI ha (by simp[wr,bq]) b c o l
  ·rename_i q f xs ns d agg k a
   obtain⟨v,o,l⟩:=qJ (t1:=s) c (ce (λt i=>w t (by simp[rd,i]))) (jF b).1.symm;exact mI ha (by simp[wr,bq]) b c o l
  ·rename_i q f xs n o2 d agg k a
   obtain⟨v,o,l⟩:=qJ (t1:=s) c (ce (λt i=>w t (by simp[rd,i]))) (xJ b).symm;exact mI ha (by simp[wr,bq]) b c o l
 ·unfold xI at g
  split at g<;>try (cases g;done)
  ·simp only[aS,dA] at g
   obtain⟨rfl,rfl⟩:=g;exact FD ha b c
  ·rename_i d tk y d2 z
   exact FF (λe=>(u d (by simp[wr,bq])).2 (by simp[wr,bq,e])) (λn hn e=>M d2 (by simp[wr,bq]) (by rw[hn,e];simp[rd,rdX])) b c
theorem FJ {x:IOpG} (h:qG p x=true) (b:opG cf p s=some s1) (a:opG cf x s1=some s2) :
  ∃t1 t2,opG cf x s=some t1/\opG cf p t1=some t2/\Eqv s2 t2:=by
 simp only[qG,aS,Bool.or_eq_true] at h;rcases h.2 with (h3|h3)|h3
 ·exact swap h.1 h3 b a
 ·exact Fy h.1 h3 b a
 ·exact FG h.1 h3 b a
theorem Eqv.refl (s:St):Eqv s s:=⟨λ_=>rfl,rfl,rfl⟩
theorem Eqv.trans (h:Eqv s s1) (a:Eqv s1 s2):Eqv s s2:=⟨λt=>(a.1 t).trans (h.1 t),a.2.1.trans h.2.1,a.2.2.trans h.2.2⟩
theorem FK {i:IOpG} (h:opG cf i s=some s') (b:Eqv s s2):∃a,opG cf i s2=some a/\Eqv s' a:=by
 obtain⟨a,e,d,c⟩:=n9 (s2:=s2) i (λt _=>b.1 t) (fD b.2.1 b.2.2) h;refine⟨a,e,λt=>?_,fI c b.2.1 b.2.2⟩;rw[d t];by_cases hw:t∈wr i.op
 ·rw[if_pos hw]
 ·rw[if_neg hw,b.1 t,mH i h hw]
theorem xP:∀{l:List IOpG} {s s' s2:St},dt cf l s=some s'->Eqv s s2->∃a,dt cf l s2=some a/\Eqv s' a
 |[],s,s',s2,h,b=>by simp[dt] at h;subst h;exact⟨s2,rfl,b⟩
 |i::l,s,s',s2,h,b=>by rw[mE,aC] at h;obtain⟨s1,k,j⟩:=h;obtain⟨m,g,f⟩:=FK k b;obtain⟨c,e,d⟩:=xP j f;exact⟨c,by rw[mE,g];exact e,d⟩
theorem xQ {x:IOpG} {b:List IOpG}:∀{a:List IOpG} {s s':St},dt cf (a++x::b) s=some s'->(∀p∈a,qG p x=true)->
  ∃t1 c,opG cf x s=some t1/\dt cf (a++b) t1=some c/\Eqv s' c
 |[],s,s',h,_=>by rw[bF,mE,aC] at h;obtain⟨t1,f,d⟩:=h;exact⟨t1,s',f,d,Eqv.refl s'⟩
 |p::a,s,s',h,g=>by rw[bH,mE,aC] at h;obtain⟨s1,f,d⟩:=h;obtain⟨s2,i,u,r,o⟩:=xQ d (λq j=>g q (by simp[j]));obtain⟨t1,t2,n,m,l⟩:=FJ (g p bh) f u;obtain⟨c,k,e⟩:=xP r l;exact⟨t1,c,n,by rw[bH,mE,m];exact k,o.trans e⟩
theorem Inv.eqv (b:Inv fi M w s a) (h:Eqv s s2):Inv fi M w s2 a where
 env:=λt v c=>b.env t v (by rw[<-h.1 t];exact c)
 defers:=b.defers
 lbl:=by rw[h.2.1];exact b.lbl
 gbl:=by rw[h.2.2];exact b.gbl
 nodup:=b.nodup
 lh:=by rw[h.2.1];exact b.lh
 gh:=by rw[h.2.2];exact b.gh
 gl:=b.gl
 immlt:=b.immlt
 ownlt:=b.ownlt
 gblt:=b.gblt
theorem Eqv.symm (h:Eqv s s2):Eqv s2 s:=⟨λt=>(h.1 t).symm,h.2.1.symm,h.2.2.symm⟩
end
end
end Go.Lw