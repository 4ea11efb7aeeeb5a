/-
  The texts that the proof stands on, part 15.
-/
import Derived.Test.YtmodipglnngghabExploreAllsN
import Derived.TacticsIn
set_option linter.unusedVariables false
set_option linter.unusedSimpArgs false
set_option linter.unnecessarySimpa false

set_option maxRecDepth 100000
set_option maxHeartbeats 4000000
namespace Go.Lw
open Go
section
open Go.RowKit
section
variable {fi:FI} {M M':Mem} {w w':World} {P:Program} {s s':St} {a:Act} {cf:CallF}
def ky (ops:Array Oper):Option (Nat×Bool)->Option (Nat×Bool)->Bool
 |none,none=>true
 |some (t,want),some (g,want')=>((ops[g]?).bind (·.dst)==some t)&&(want==want')
 |_,_=>false
def jy (P:Program) (fi:FI) (N:Nat) (ops:Array Oper) (i:IOpG) (o:Oper):Bool:=
 ck P fi i.op o.op&&(o.dst==bi i.op)&&(match bi i.op with|some d=>decide (d<N)|none=>true)&&ky ops i.guard o.guard
def eZ (P:Program) (fi:FI) (N:Nat) (ops:Array Oper):List IOpG->List Oper->Bool
 |[],[]=>true
 |i::is,o::os=>jy P fi N ops i o&&eZ P fi N ops is os
 |_,_=>false
theorem xK {N:Nat} {ops:Array Oper} {i:IOpG} {o:Oper} (h:jy P fi N ops i o=true) :
  ck P fi i.op o.op=true/\o.dst=bi i.op/\(∀d,bi i.op=some d->d<N)/\ky ops i.guard o.guard=true:=by
 simp only[jy,aX,cQ] at h;obtain⟨⟨⟨h1,h2⟩,h3⟩,h4⟩:=h;refine⟨h1,h2,λd hd=>?_,h4⟩;rw[hd] at h3;simpa using h3
noncomputable def opG (cf:CallF) (i:IOpG) (s:St):Option St:=
 match i.guard with
 |none=>ae cf s i.op
 |some (g,want)=>match get s.env g with
  |some (.bool b)=>if b=want then ae cf s i.op else some (dY s i.op)
  |some .und=>some (dY s i.op)
  |_=>none
theorem jz (i:IOpG) (l:List IOpG) (s:St):dp cf (i::l) s=(opG cf i s).bind (dp cf l):=by
 obtain⟨op,gd⟩:=i;cases gd with
 |none=>rfl
 | some q=>
  obtain⟨g,want⟩:=q;simp only[dp,opG];cases hg:get s.env g with
  |none=>rfl
  |some v=>
   cases v<;>simp only[Option.bind_none,cB];split<;>simp
theorem xM (hI:Inv fi M w s a) {i:IOp} (hlt:∀d,bi i=some d->d<a.tmps.size):Inv fi M w (dY s i) (a.put (bi i) undef):=by
 unfold dY;cases hd:bi i with
 |none=>exact hI
 |some d=>exact hI.put (hlt d hd) (RepP.repE .und).repAt
theorem rt {r:Option Nat} {n:Nat} (hcf:hU P fi cf) (hcy:iC P fi cf) (hI:Inv fi M w s a) {N:Nat} {ops:Array Oper} {i:IOpG} {o:Oper} (hm:jy P fi N ops i o=true) (hN:N<=a.tmps.size) (h:opG cf i s=some s')
  {next:Act->World->Prop} {Q:Exit->Act->World->Prop} (hn:∀a' M' w',Inv fi M' w' s' a'->Kp M w M' w'->a'.tmps.size=a.tmps.size->next a' w') :
  if Region.wanted o (yielded ops a.tmps) then o.wpIn (FR r) n P a w next Q else next (a.put o.dst undef) w:=by
 obtain⟨h1,h2,h3,h4⟩:=xK hm;have hlt:∀d,bi i.op=some d->d<a.tmps.size:=λd hd=>aS (h3 d hd) hN
 have hskip:next (a.put o.dst undef) w\/s'≠dY s i.op:=by
  by_cases hs:s'=dY s i.op
  ·left
   subst hs;rw[h2];exact hn _ M w (xM hI hlt) (Kp.refl M w) (by cases bi i.op<;>simp[Act.put])
  ·exact .inr hs
 unfold opG at h;unfold Region.wanted;cases hg:i.guard with
 |none=>
  rw[hg] at h h4;cases hog:o.guard with
  |none=>simp only[if_true];exact rr hcf hcy hI h1 h2 hlt h hn
  |some q=>rw[hog] at h4;simp[ky] at h4
 | some q=>
  obtain⟨g,want⟩:=q;rw[hg] at h h4;cases hog:o.guard with
  |none=>rw[hog] at h4;simp[ky] at h4
  | some q'=>
   obtain⟨j,want'⟩:=q';rw[hog] at h4;simp only[ky,aX,cQ] at h4;obtain⟨hdj,rfl⟩:=h4;simp only at h;have hy:∀v,get s.env g=some v->yielded ops a.tmps j=(match a.tmps.getD g undef with| .bool b=>some b|_=>none):=by intro v hv;have hlt:=(hI.env g v hv).1;simp only[yielded,hdj,cB];simp only[cI,Array.getElem?_eq_getElem hlt,Option.getD_some];split<;>split<;>simp_all
   split at h
   ·rename_i b hb
    have hv:a.tmps.getD g undef= .bool b:=RepE.bool (hI.env g _ hb).2;simp only[hy _ hb,hv];split at h
    ·rename_i hbw
     subst hbw;simp only[beq_self_eq_true,if_true];exact rr hcf hcy hI h1 h2 hlt h hn
    ·rename_i hbw
     cases h;rw[if_neg (by simpa using hbw)];exact hskip.resolve_right (by simp)
   ·rename_i hb
    cases h;have hv:a.tmps.getD g undef=undef:=by have:=(hI.env g _ hb).2;generalize a.tmps.getD g undef=u at this;cases (show RepP fi M w .und u from this);rfl
    simp only[hy _ hb,hv];rw[if_neg (by simp[undef])];exact hskip.resolve_right (by simp)
   ·cases h
theorem ru {r:Option Nat} {n:Nat} (hcf:hU P fi cf) (hcy:iC P fi cf) {N:Nat} {ops:Array Oper} {Q:Exit->Act->World->Prop}:∀{is:List IOpG} {os:List Oper} {M:Mem} {w:World} {s:St} {a:Act},eZ P fi N ops is os=true->Inv fi M w s a->N<=a.tmps.size->dp cf is s=some s'->
  (∀a' M' w',Inv fi M' w' s' a'->Kp M w M' w'->a'.tmps.size=a.tmps.size->Q .normal a' w')->wpListIn (FR r) n P ops Q os a w
 |[],[],M,w,s,a,_,hI,_,h,hn=>by simp[dp] at h;subst h;exact hn a M w hI (Kp.refl M w) rfl
 |[],_::_,_,_,_,_,hm,_,_,_,_=>by simp[eZ] at hm
 |_::_,[],_,_,_,_,hm,_,_,_,_=>by simp[eZ] at hm
 | i::is,o::os,M,w,s,a,hm,hI,hN,h,hn=>by
  simp only[eZ,aX] at hm;rw[jz,aC] at h;obtain⟨s1,h1,h2⟩:=h
  have:=rt (r:=r) (n:=n) (Q:=Q) (next:=wpListIn (FR r) n P ops Q os) hcf hcy hI hm.1 hN h1 (λa' M' w' hI' hk hs=>
   ru hcf hcy hm.2 hI' (by omega) h2 (λa2 M2 w2 hI2 hk2 hs2=>hn a2 M2 w2 hI2 (hk.trans hk2) (hs2.trans hs)))
  unfold wpListIn;split
  ·rename_i hw;rw[if_pos hw] at this;exact this
  ·rename_i hw;rw[if_neg hw] at this;exact⟨λ_ _=>trivial,this⟩
end
end
section
open Go.RowKit
def rdX:IX->List Nat
 | .t n=>[n]
 |_=>[]
def jA (xs:List IX):List Nat:=xs.flatMap rdX
def rdO:Option IX->List Nat
 |some x=>rdX x
 |none=>[]
def gm (ps:List (Nat×Nat×IX)):List Nat:=ps.flatMap λp=>rdX p.2.2
def rd:IOp->List Nat
 | .mv _ x| .clearK x| .box _ _ _ x| .load _ _ _ x| .loadK _ x| .loadH _ x| .loadT _ x| .loadL _ x| .nilc _ x| .eqn _ _ x| .un _ _ x| .conv _ _ x| .faddr _ x _| .field _ _ _ _ x| .len _ _ x| .extract _ x _| .mksl _ _ _ _ _ x| .mkarr _ _ _ _ x| .loadJ _ _ _ x| .boxB _ x=>rdX x
 | .tk _ n| .tkS _ n _=>[n]
 | .pick _ c x y=>rdX c++(rdX x++rdX y)
 | .alloc _ _ _| .mkmap _| .mkbld _| .loadG _ _=>[]
 | .build _ _ ps| .buildT _ _ ps| .buildA _ _ ps=>gm ps
 | .buildSl _ _ xs| .boxSl _ _ xs| .buildSlK _ xs| .mkfn _ _ xs| .mkbf _ _ xs| .maxi _ xs| .call _ _ _ xs| .callF _ _ xs=>jA xs
 | .store _ _ x y| .bin _ _ x y| .eqa _ _ _ x y| .eqb _ _ x y| .iaddr _ _ _ x y| .index _ _ _ _ x y| .indexS _ x y| .lookup _ _ x y _ _| .append _ _ _ x y| .appendN _ _ x y| .appendK _ _ x y| .appendE _ _ x y| .storeK x y=>rdX x++rdX y
 | .slice _ _ x lo hi| .sliceS _ x lo hi=>rdX x++(rdO lo++rdO hi)
 | .mupd _ m k x=>rdX m++(rdX k++rdX x)
 | .callv _ _ f xs| .callE _ f xs| .cally _ f xs=>rdX f++jA xs
 | .loadN _ _ _ x n| .loadB _ _ _ x n| .loadKB _ x n| .loadTB _ x n _=>n::rdX x
 | .callP _ _ xs ns=>ns++jA xs
 | .callR _ _ xs n _=>n::jA xs
 | .appendP _ _ x y ns| .storeP _ _ x y ns=>ns++(rdX x++rdX y)
def wr (i:IOp):List Nat:=
 (bi i).toList++match i with
  | .tk _ n| .tkS _ n _=>[n]
  | .box _ _ true x| .store true _ _ x| .storeP true _ _ x _| .append _ _ _ x _| .appendE _ _ x _=>rdX x
  | .buildT _ _ ps| .buildA _ _ ps=>gm ps
  |_=>[]
def cls:IOp->Nat
 | .box _ false _ _| .alloc _ false _=>3
 | .box _ true _ _| .alloc _ true _| .mksl _ true _ _ _ _=>5
 | .mkmap _| .mkbld _| .boxB _ _| .buildSlK _ _=>4
 | .load _ _ _ _| .loadN _ _ _ _ _| .loadB _ _ _ _ _| .loadJ _ _ _ _| .lookup _ _ _ _ _ _| .callE _ _ _=>2
 | .len _ kd _=>if kd=2 then 2 else 0
 | .loadK _ _| .loadKB _ _ _| .appendE _ _ _ _=>1
 | .callP _ _ _ _| .callR _ _ _ _ _| .buildA _ _ _| .boxSl _ _ _| .cally _ _ _=>5
 | .call _ q _ _| .callv _ q _ _=>if q then 1 else 5
 | .loadL _ _=>6
 | .loadH _ _=>8
 | .loadT _ _| .loadTB _ _ _ _| .appendK _ _ _ _=>7
 | .appendN _ _ _ _| .appendP _ _ _ _ _=>9
 | .store _ _ _ _| .storeP _ _ _ _ _| .mupd _ _ _ _| .storeK _ _| .clearK _=>5
 |_=>0
def GObj.deg:GObj->GObj
 | .cells cs=> .cells (cs.map aa)
 | .map es=> .map es
 | .stk _ _=> .stk 0 []
 | .bld s=> .bld s
 | .lrec st y caps=> .lrec st y caps
def HOk (c:Nat) (s s2:St):Prop:=
 match c with
 |0=>True
 |1=>s2.gh=s.gh
 |2=>(∀(b:Nat) (cs:List PV),s.lh[b]?=some cs->∃cs2,s2.lh[b]?=some cs2/\cs2.map aa=cs.map aa)/\∀(b:Nat) (o:GObj),s.gh[b]?=some o->∃o2,s2.gh[b]?=some o2/\o2.deg=o.deg
 |8=>s2.lh=s.lh
 |_=>s2.lh=s.lh/\s2.gh=s.gh
def HRes (c:Nat) (s s' s2 s2':St):Prop:=
 match c with
 |0|1|2|8=>s'.lh=s.lh/\s'.gh=s.gh/\s2'.lh=s2.lh/\s2'.gh=s2.gh
 |3=>(∃cs,s'.lh=s.lh++[cs])/\s'.gh=s.gh/\s2'.lh=s'.lh/\s2'.gh=s'.gh
 |4=>s'.lh=s.lh/\(∃o,s'.gh=s.gh++[o])/\s2'.lh=s'.lh/\s2'.gh=s'.gh
 |6=>s'.lh.map (List.map aa)=s.lh.map (List.map aa)/\s'.gh=s.gh/\s2'.lh=s'.lh/\s2'.gh=s'.gh
 |7=>s'.lh.map (List.map aa)=s.lh.map (List.map aa)/\s'.gh.map GObj.deg=s.gh.map GObj.deg/\s2'.lh=s'.lh/\s2'.gh=s'.gh
 |9=>s'.lh=s.lh/\(∀(b:Nat) (o:GObj),s.gh[b]?=some o->∃o2,s'.gh[b]?=some o2/\o2.deg=o.deg)/\s2'.lh=s'.lh/\s2'.gh=s'.gh
 |_=>s2'.lh=s'.lh/\s2'.gh=s'.gh
section
variable {s s' s2:St} {cf:CallF}
theorem cg {e e2:List (Nat×PV)} {x:IX} (h:∀t∈rdX x,get e2 t=get e t):aj e2 x=aj e x:=by cases x<;>simp[aj];rw[h _ (by simp[rdX])]
theorem xN {e e2:List (Nat×PV)} {x:IX} (h:∀t∈rdX x,get e2 t=get e t):gA e2 x=gA e x:=by cases x<;>simp[gA];rw[h _ (by simp[rdX])]
theorem jB {e e2:List (Nat×PV)}:∀{xs:List IX},(∀t∈jA xs,get e2 t=get e t)->dn e2 xs=dn e xs
 |[],_=>rfl
 |x::l,h=>by simp only[jA,cK,bY] at h;simp only[dn];rw[cg (λt ht=>h t (.inl ht)),jB (xs:=l) (λt ht=>h t (.inr ht))]
theorem rv {e e2:List (Nat×PV)}:∀{ps:List (Nat×Nat×IX)},(∀t∈gm ps,get e2 t=get e t)->fN e2 ps=fN e ps
 |[],_=>rfl
 |(o,k,x)::l,h=>by simp only[gm,cK,bY] at h;simp only[fN];rw[cg (λt ht=>h t (.inl ht)),rv (ps:=l) (λt ht=>h t (.inr ht))]
theorem rx {e e2:List (Nat×PV)} {d:Nat} {x:Option IX} (h:∀t∈rdO x,get e2 t=get e t):dE e2 d x=dE e d x:=by
 cases x with
 |none=>rfl
 |some x=>simp only[dE];rw[cg h]
def EnvR (W:List Nat) (e' e2 e2':List (Nat×PV)):Prop:=∀t,get e2' t=if t∈W then get e' t else get e2 t
theorem EnvR.put {e e2:List (Nat×PV)} {d:Nat} {v:PV} {W:List Nat} (h:∀t,t∈W↔t=d):EnvR W (put e d v) e2 (put e2 d v):=by
 intro t;rw[eN,eN];by_cases hd:d=t
 ·subst hd;simp[(h d).2 rfl]
 ·have:t∉W:=λhw=>hd ((h t).1 hw).symm
  simp[hd,this]
theorem EnvR.refl {e' e2:List (Nat×PV)} {W:List Nat} (h:∀t,t∉W):EnvR W e' e2 e2:=λt=>by simp[h t]
theorem kz {e e2 e':List (Nat×PV)} {x:IX} {v:PV} (h:∀t∈rdX x,get e2 t=get e t) (ht:dW e x=some (v,e')) :
  ∃e2',dW e2 x=some (v,e2')/\EnvR (rdX x) e' e2 e2':=by
 cases x with
 |t n=>
  simp only[dW,aE,bU] at ht ⊢;obtain⟨v',hv,rfl,rfl⟩:=ht;rw[h n (by simp[rdX])];exact⟨_,⟨v',hv,rfl,rfl⟩,EnvR.put (by simp[rdX])⟩
 |c p=>
  simp only[dW,bS,bU] at ht ⊢;obtain⟨rfl,rfl⟩:=ht;exact⟨_,⟨rfl,rfl⟩,EnvR.refl (by simp[rdX])⟩
 |f id=>
  simp only[dW,bS,bU] at ht ⊢;obtain⟨rfl,rfl⟩:=ht;exact⟨_,⟨rfl,rfl⟩,EnvR.refl (by simp[rdX])⟩
theorem EnvR.trans {W W2:List Nat} {e' e2 e2' e'' e2'':List (Nat×PV)} (h:EnvR W e' e2 e2') (h2:EnvR W2 e'' e2' e2'') (hf:∀t,t∉W2->get e'' t=get e' t):EnvR (W++W2) e'' e2 e2'':=by
 intro t;rw[h2 t,h t];simp only[bY];by_cases hw2:t∈W2
 ·simp[hw2]
 ·by_cases hw:t∈W
  ·simp[hw,hw2,hf t hw2]
  ·simp[hw,hw2]
theorem ry:∀{ps:List (Nat×Nat×IX)} {e e2 e':List (Nat×PV)} {vs:List (Nat×Nat×PV)},(∀t∈gm ps,get e2 t=get e t)->gg e ps=some (vs,e')->
  ∃e2',gg e2 ps=some (vs,e2')/\EnvR (gm ps) e' e2 e2'/\∀t,t∉gm ps->get e' t=get e t
 |[],e,e2,e',vs,_,ht=>by simp only[gg,bS,bU] at ht ⊢;obtain⟨rfl,rfl⟩:=ht;exact⟨_,⟨rfl,rfl⟩,EnvR.refl (by simp[gm]),λ_ _=>rfl⟩
 | (o,k,x)::l,e,e2,e',vs,h,ht=>by
  simp only[gm,cK,bY] at h;simp only[gg,aC,aE,Prod.exists,bU] at ht ⊢;obtain⟨v,e1,h1,vs',e'',h2,rfl,rfl⟩:=ht;obtain⟨e3,t1,t2⟩:=kz (e2:=e2) (λt ht=>h t (.inl ht)) h1;obtain⟨e5,u1,u2⟩:=kz (e2:=e) (λt ht=>rfl) h1;rw[h1] at u1;simp only[bS,bU,true_and] at u1;subst u1;obtain⟨e4,t3,t4,t5⟩:=ry (ps:=l) (e2:=e3) (λt ht=>by
   rw[t2 t];split
   ·rfl
   ·rename_i hx
    rw[u2 t,if_neg hx];exact h t (.inr ht)) h2
  refine⟨e4,⟨v,e3,t1,vs',e4,t3,rfl,rfl⟩,?_,λt ht=>?_⟩
  ·simp only[gm,cK]
   exact t2.trans t4 t5
  ·simp only[gm,cK,bY,not_or] at ht
   rw[t5 t ht.2,u2 t,if_neg ht.1]
end
end
section
open Go.RowKit
section
variable {s s' s2:St} {cf:CallF}
def Fills (cf:CallF) (i:IOp) (d:Nat):Prop:=
 ∀s s2:St,(∀t∈rd i,get s2.env t=get s.env t)->∀s',ae cf s i=some s'->∃v,s'=s.put d v/\ae cf s2 i=some (s2.put d v)
theorem fills_mv {d x}:Fills cf (.mv d x) d:=by intro s s2 ha s' h;have h1:gA s2.env x=gA s.env x:=xN (λt ht=>ha t (by simp[rd,ht]));simp only[ae,h1] at h ⊢;simp only[aE] at h ⊢;obtain⟨v,hv,rfl⟩:=h;exact⟨v,rfl,v,hv,rfl⟩
theorem fills_pick {d c x y}:Fills cf (.pick d c x y) d:=by
 intro s s2 ha s' h;have h1:aj s2.env c=aj s.env c:=cg (λt ht=>ha t (by simp[rd,ht]));have h2:aj s2.env x=aj s.env x:=cg (λt ht=>ha t (by simp[rd,ht]));have h3:aj s2.env y=aj s.env y:=cg (λt ht=>ha t (by simp[rd,ht]));simp only[ae,h1,h2,h3] at h ⊢
 repeat' split at h
 all_goals first
  |(cases h;done)
  |(cases h;exact⟨_,rfl,by simp[*]⟩)
  |(simp only[aE] at h;obtain⟨v,hv,rfl⟩:=h;exact⟨_,rfl,by simp[*]⟩)
  | (simp only[aC] at h;obtain⟨p,hp,q,hq,h⟩:=h;split at h
     ·rename_i hc;cases h;exact⟨_,rfl,by simp[*]⟩
     ·cases h)
theorem fills_build {d z ps}:Fills cf (.build d z ps) d:=by
 intro s s2 ha s' h;have h1:fN s2.env ps=fN s.env ps:=rv (λt ht=>ha t (by simp[rd,ht]));simp only[ae,h1] at h ⊢;simp only[aC] at h ⊢;obtain⟨p,hp,h⟩:=h;split at h
 ·rename_i hc
  simp only[aE] at h;obtain⟨v,hv,rfl⟩:=h;exact⟨_,rfl,p,hp,by rw[if_pos hc,hv];rfl⟩
 ·cases h
theorem fills_buildSl {d z els}:Fills cf (.buildSl d z els) d:=by
 intro s s2 ha s' h;have h1:dn s2.env els=dn s.env els:=jB (λt ht=>ha t (by simp[rd,ht]));simp only[ae,h1] at h ⊢;simp only[aC] at h ⊢;obtain⟨p,hp,h⟩:=h;split at h
 ·rename_i hc;cases h;exact⟨_,rfl,p,hp,by rw[if_pos hc]⟩
 ·cases h
theorem fills_mksl {d z bytes zero l}:Fills cf (.mksl d false z bytes zero l) d:=by
 intro s s2 ha s' h;have h1:aj s2.env l=aj s.env l:=cg (λt ht=>ha t (by simp[rd,ht]));simp only[ae,h1] at h ⊢;split at h
 ·rename_i k n hp
  split at h
  ·rename_i hc
   split at h<;>try (cases h;done)
   rename_i hf;cases h;exact⟨_,rfl,by rw[if_pos hc];simp only[if_pos hf]⟩
  ·cases h
 ·cases h
theorem fills_nilc {d x}:Fills cf (.nilc d x) d:=by
 intro s s2 ha s' h;have h1:aj s2.env x=aj s.env x:=cg (λt ht=>ha t (by simp[rd,ht]));simp only[ae,h1] at h ⊢
 repeat' split at h
 all_goals first
  |(cases h;done)
  |(cases h;exact⟨_,rfl,by simp[*]⟩)
  |(simp only[aE] at h;obtain⟨v,hv,rfl⟩:=h;exact⟨_,rfl,by simp[*]⟩)
  | (simp only[aC] at h;obtain⟨p,hp,q,hq,h⟩:=h;split at h
     ·rename_i hc;cases h;exact⟨_,rfl,by simp[*]⟩
     ·cases h)
theorem fills_bin {d op x y}:Fills cf (.bin d op x y) d:=by intro s s2 ha s' h;have h1:aj s2.env x=aj s.env x:=cg (λt ht=>ha t (by simp[rd,ht]));have h2:aj s2.env y=aj s.env y:=cg (λt ht=>ha t (by simp[rd,ht]));simp only[ae,h1,h2] at h ⊢;simp only[aC,aE] at h ⊢;obtain⟨p,hp,q,hq,v,hv,rfl⟩:=h;exact⟨v,rfl,p,hp,q,hq,v,hv,rfl⟩
theorem fills_eqa {d neg ks x y}:Fills cf (.eqa d neg ks x y) d:=by
 intro s s2 ha s' h;have h1:aj s2.env x=aj s.env x:=cg (λt ht=>ha t (by simp[rd,ht]));have h2:aj s2.env y=aj s.env y:=cg (λt ht=>ha t (by simp[rd,ht]));simp only[ae,h1,h2] at h ⊢
 repeat' split at h
 all_goals first
  |(cases h;done)
  |(cases h;exact⟨_,rfl,by simp[*]⟩)
  |(simp only[aE] at h;obtain⟨v,hv,rfl⟩:=h;exact⟨_,rfl,by simp[*]⟩)
  | (simp only[aC] at h;obtain⟨p,hp,q,hq,h⟩:=h;split at h
     ·rename_i hc;cases h;exact⟨_,rfl,by simp[*]⟩
     ·cases h)
theorem fills_eqb {d neg x y}:Fills cf (.eqb d neg x y) d:=by
 intro s s2 ha s' h;have h1:aj s2.env x=aj s.env x:=cg (λt ht=>ha t (by simp[rd,ht]));have h2:aj s2.env y=aj s.env y:=cg (λt ht=>ha t (by simp[rd,ht]));simp only[ae,h1,h2] at h ⊢
 repeat' split at h
 all_goals first
  |(cases h;done)
  |(cases h;exact⟨_,rfl,by simp[*]⟩)
  |(simp only[aE] at h;obtain⟨v,hv,rfl⟩:=h;exact⟨_,rfl,by simp[*]⟩)
  | (simp only[aC] at h;obtain⟨p,hp,q,hq,h⟩:=h;split at h
     ·rename_i hc;cases h;exact⟨_,rfl,by simp[*]⟩
     ·cases h)
theorem fills_un {d op x}:Fills cf (.un d op x) d:=by intro s s2 ha s' h;have h1:aj s2.env x=aj s.env x:=cg (λt ht=>ha t (by simp[rd,ht]));simp only[ae,h1] at h ⊢;simp only[aC,aE] at h ⊢;obtain⟨p,hp,v,hv,rfl⟩:=h;exact⟨v,rfl,p,hp,v,hv,rfl⟩
theorem fills_mkfn {d f caps}:Fills cf (.mkfn d f caps) d:=by
 intro s s2 ha s' h;have h1:dn s2.env caps=dn s.env caps:=jB (λt ht=>ha t (by simp[rd,ht]));simp only[ae,h1] at h ⊢;simp only[aC] at h ⊢;obtain⟨p,hp,h⟩:=h;split at h
 ·rename_i hc;cases h;exact⟨_,rfl,p,hp,by rw[if_pos hc]⟩
 ·cases h
theorem fills_slice {d z x lo hi}:Fills cf (.slice d z x lo hi) d:=by
 intro s s2 ha s' h;have h1:aj s2.env x=aj s.env x:=cg (λt ht=>ha t (by simp[rd,ht]));have h2:∀n,dE s2.env n lo=dE s.env n lo:=λn=>rx (λt ht=>ha t (by simp[rd,ht]))
 have h3:∀n,dE s2.env n hi=dE s.env n hi:=λn=>rx (λt ht=>ha t (by simp[rd,ht]))
 simp only[ae,h1,h2,h3] at h ⊢
 repeat' split at h
 all_goals first
  |(cases h;done)
  |(cases h;exact⟨_,rfl,by simp[*]⟩)
  |(simp only[aE] at h;obtain⟨v,hv,rfl⟩:=h;exact⟨_,rfl,by simp[*]⟩)
  | (simp only[aC] at h;obtain⟨p,hp,q,hq,h⟩:=h;split at h
     ·rename_i hc;cases h;exact⟨_,rfl,by simp[*]⟩
     ·cases h)
  | (simp only[aC] at h;obtain⟨p,hp,h⟩:=h;split at h
     ·rename_i hc;cases h;exact⟨_,rfl,by simp[*]⟩
     ·cases h)
theorem fills_faddr {d x off}:Fills cf (.faddr d x off) d:=by
 intro s s2 ha s' h;have h1:aj s2.env x=aj s.env x:=cg (λt ht=>ha t (by simp[rd,ht]));simp only[ae,h1] at h ⊢
 repeat' split at h
 all_goals first
  |(cases h;done)
  |(cases h;exact⟨_,rfl,by simp[*]⟩)
  |(simp only[aE] at h;obtain⟨v,hv,rfl⟩:=h;exact⟨_,rfl,by simp[*]⟩)
  | (simp only[aC] at h;obtain⟨p,hp,q,hq,h⟩:=h;split at h
     ·rename_i hc;cases h;exact⟨_,rfl,by simp[*]⟩
     ·cases h)
theorem fills_iaddr {d z arr x i}:Fills cf (.iaddr d z arr x i) d:=by
 intro s s2 ha s' h;have h1:aj s2.env x=aj s.env x:=cg (λt ht=>ha t (by simp[rd,ht]));have h2:aj s2.env i=aj s.env i:=cg (λt ht=>ha t (by simp[rd,ht]));simp only[ae,h1,h2] at h ⊢
 repeat' split at h
 all_goals first
  |(cases h;done)
  |(cases h;exact⟨_,rfl,by simp[*]⟩)
  |(simp only[aE] at h;obtain⟨v,hv,rfl⟩:=h;exact⟨_,rfl,by simp[*]⟩)
  | (simp only[aC] at h;obtain⟨p,hp,q,hq,h⟩:=h;split at h
     ·rename_i hc;cases h;exact⟨_,rfl,by simp[*]⟩
     ·cases h)
theorem fills_index {d z arr agg x i}:Fills cf (.index d z arr agg x i) d:=by
 intro s s2 ha s' h;have h1:aj s2.env x=aj s.env x:=cg (λt ht=>ha t (by simp[rd,ht]));have h2:aj s2.env i=aj s.env i:=cg (λt ht=>ha t (by simp[rd,ht]));simp only[ae,h1,h2] at h ⊢
 repeat' split at h
 all_goals first
  |(cases h;done)
  |(cases h;exact⟨_,rfl,by simp[*]⟩)
  |(simp only[aE] at h;obtain⟨v,hv,rfl⟩:=h;exact⟨_,rfl,by simp[*]⟩)
  | (simp only[aC] at h;obtain⟨p,hp,q,hq,h⟩:=h;split at h
     ·rename_i hc;cases h;exact⟨_,rfl,by simp[*]⟩
     ·cases h)
theorem fills_extract {d x i}:Fills cf (.extract d x i) d:=by
 intro s s2 ha s' h;have h1:aj s2.env x=aj s.env x:=cg (λt ht=>ha t (by simp[rd,ht]));simp only[ae,h1] at h ⊢
 repeat' split at h
 all_goals first
  |(cases h;done)
  |(cases h;exact⟨_,rfl,by simp[*]⟩)
  |(simp only[aE] at h;obtain⟨v,hv,rfl⟩:=h;exact⟨_,rfl,by simp[*]⟩)
  | (simp only[aC] at h;obtain⟨p,hp,q,hq,h⟩:=h;split at h
     ·rename_i hc;cases h;exact⟨_,rfl,by simp[*]⟩
     ·cases h)
end
end
section
open Go.RowKit
section
variable {s s' s2:St} {cf:CallF}
def ec (cf:CallF) (i:IOp):Prop:=
 ∀s s2:St,(∀t∈rd i,get s2.env t=get s.env t)->HOk (cls i) s s2->∀s',ae cf s i=some s'->
  ∃s2',ae cf s2 i=some s2'/\EnvR (wr i) s'.env s2.env s2'.env/\HRes (cls i) s s' s2 s2'
theorem EnvR.congr {W W2:List Nat} {e' e2 e2':List (Nat×PV)} (h:EnvR W e' e2 e2') (hw:∀t,t∈W↔t∈W2):EnvR W2 e' e2 e2':=λt=>by
 rw[h t];by_cases ht:t∈W
 ·simp[ht,(hw t).1 ht]
 ·have:t∉W2:=λh2=>ht ((hw t).2 h2)
  simp[ht,this]
theorem EnvR.put1 {e e2:List (Nat×PV)} (d:Nat) (v:PV):EnvR [d] (Lw.put e d v) e2 (Lw.put e2 d v):=EnvR.put (by simp)
theorem EnvR.thenPut {W:List Nat} {e' e2 e2':List (Nat×PV)} (h:EnvR W e' e2 e2') (d:Nat) (v:PV):EnvR (W++[d]) (Lw.put e' d v) e2 (Lw.put e2' d v):=
 h.trans (EnvR.put1 d v) (λt ht=>by rw[eN];simp at ht;simp[Ne.symm ht])
theorem Fills.local {i:IOp} {d:Nat} (h:Fills cf i d) (hc:cls i=0) (hw:wr i=[d]):ec cf i:=by intro s s2 ha _ s' hs;obtain⟨v,rfl,h2⟩:=h s s2 ha s' hs;refine⟨_,h2,by rw[hw];exact EnvR.put1 d v,?_⟩;rw[hc];exact⟨rfl,rfl,rfl,rfl⟩
theorem xO {d n:Nat}:ec cf (.tk d n):=by intro s s2 ha _ s' h;simp only[ae,aE] at h ⊢;obtain⟨v,hv,rfl⟩:=h;refine⟨_,⟨v,by rw[ha n (by simp[rd])];exact hv,rfl⟩,?_,rfl,rfl,rfl,rfl⟩;exact ((EnvR.put1 (e:=s.env) (e2:=s2.env) n (degr v)).thenPut d v).congr (λt=>by simp[wr,bi];exact or_comm)
theorem xP {d n lo:Nat}:ec cf (.tkS d n lo):=by
 intro s s2 ha _ s' h;simp only[ae] at h ⊢;rw[ha n (by simp[rd])];split at h
 ·rename_i xs hv
  split at h
  ·rename_i hlo
   cases h;refine⟨⟨Lw.put (Lw.put s2.env n (.sl false 1 xs)) d (.sl true 1 (xs.drop lo)),s2.lh,s2.gh⟩,by rw[if_pos hlo],?_,rfl,rfl,rfl,rfl⟩;exact ((EnvR.put1 (e:=s.env) (e2:=s2.env) n (.sl false 1 xs)).thenPut d (.sl true 1 (xs.drop lo))).congr (λt=>by simp[wr,bi];exact or_comm)
  ·cases h
 ·cases h
theorem xQ {d:Nat} {g tk:Bool} {x:IX}:ec cf (.box d g tk x):=by
 intro s s2 ha hh s' h;obtain⟨e2,l2,g2⟩:=s2;have hh':l2=s.lh/\g2=s.gh:=by cases g<;>exact hh
 obtain⟨rfl,rfl⟩:=hh';simp only[ae] at h ⊢;split at h
 ·rename_i htk
  subst htk;simp only[aC,Prod.exists] at h;obtain⟨v,e1,hv,h⟩:=h;split at h
  ·rename_i hok
   cases h;obtain⟨e3,t1,t2⟩:=kz (e2:=e2) (λt ht=>ha t (by simp[rd,ht])) hv;refine⟨gZ ⟨e3,s.lh,s.gh⟩ d g v.cells,by simp[t1,hok],?_,?_⟩
   ·cases g
    ·exact (t2.thenPut d _).congr (λt=>by simp[wr,bi];exact or_comm)
    ·exact (t2.thenPut d _).congr (λt=>by simp[wr,bi];exact or_comm)
   ·cases g
    ·exact⟨⟨v.cells,rfl⟩,rfl,rfl,rfl⟩
    ·exact⟨rfl,rfl⟩
  ·cases h
 ·rename_i htk
  simp only[Bool.not_eq_true] at htk;subst htk;simp only[aC] at h;obtain⟨v,hv,h⟩:=h;split at h
  ·rename_i hok
   cases h;have h1:aj e2 x=some v:=by rw[<-hv];exact cg (λt ht=>ha t (by simp[rd,ht]))
   refine⟨gZ ⟨e2,s.lh,s.gh⟩ d g v.cells,by simp[h1,hok],?_,?_⟩
   ·cases g
    ·exact (EnvR.put1 d _).congr (λt=>by simp[wr,bi])
    ·exact (EnvR.put1 d _).congr (λt=>by simp[wr,bi])
   ·cases g
    ·exact⟨⟨v.cells,rfl⟩,rfl,rfl,rfl⟩
    ·exact⟨rfl,rfl⟩
  ·cases h
theorem xR {d:Nat} {g:Bool} {z:PV}:ec cf (.alloc d g z):=by
 intro s s2 ha hh s' h;obtain⟨e2,l2,g2⟩:=s2;have hh':l2=s.lh/\g2=s.gh:=by cases g<;>exact hh
 obtain⟨rfl,rfl⟩:=hh';simp only[ae] at h ⊢;split at h
 ·rename_i hok
  cases h;refine⟨gZ ⟨e2,s.lh,s.gh⟩ d g z.cells,by rw[if_pos hok],?_,?_⟩
  ·cases g
   ·exact (EnvR.put1 d _).congr (λt=>by simp[wr,bi])
   ·exact (EnvR.put1 d _).congr (λt=>by simp[wr,bi])
  ·cases g
   ·exact⟨⟨z.cells,rfl⟩,rfl,rfl,rfl⟩
   ·exact⟨rfl,rfl⟩
 ·cases h
theorem xS {d:Nat} {z:List PV} {ps:List (Nat×Nat×IX)}:ec cf (.buildT d z ps):=by
 intro s s2 ha _ s' h;simp only[ae,aC,Prod.exists] at h;obtain⟨vs,e1,hv,h⟩:=h;split at h
 ·rename_i hc
  simp only[aE] at h;obtain⟨cs,hcs,rfl⟩:=h;obtain⟨e3,t1,t2,_⟩:=ry (e2:=s2.env) (λt ht=>ha t (by simp[rd,ht])) hv;refine⟨⟨Lw.put e3 d (.agg cs),s2.lh,s2.gh⟩,?_,?_,rfl,rfl,rfl,rfl⟩
  ·simp only[ae,t1,cB]
   rw[if_pos hc,hcs];rfl
  ·exact (t2.thenPut d _).congr (λt=>by simp[wr,bi];exact or_comm)
 ·cases h
theorem rz {g:Bool} {b:Nat} {cs:List PV} (hh:HOk 2 s s2) (h:s.cellsAt g b=some cs):∃cs2,s2.cellsAt g b=some cs2/\cs2.map aa=cs.map aa:=by
 unfold St.cellsAt at *;split at h
 ·rename_i hg
  simp only[hg,if_true];split at h
  ·rename_i cs' hc
   cases h;obtain⟨o2,h1,h2⟩:=hh.2 b _ hc;cases o2 with
   |cells cs2=>
    simp only[GObj.deg,GObj.cells.injEq] at h2;exact⟨cs2,by rw[h1],h2⟩
   |map es=>simp[GObj.deg] at h2
   |stk g xs=>simp[GObj.deg] at h2
   |bld t=>simp[GObj.deg] at h2
   |lrec st y cs=>simp[GObj.deg] at h2
  ·cases h
 ·rename_i hg
  simp only[hg,bO,if_false];exact hh.1 b cs h
theorem rA {b:Nat} {es:List (PV×PV)} (hh:HOk 2 s s2) (h:s.gh[b]?=some (.map es)):s2.gh[b]?=some (.map es):=by
 obtain⟨o2,h1,h2⟩:=hh.2 b _ h;cases o2 with
 |cells cs=>simp[GObj.deg] at h2
 |map es2=>simp only[GObj.deg,GObj.map.injEq] at h2;rw[h1,h2]
 |stk g xs=>simp[GObj.deg] at h2
 |bld t=>simp[GObj.deg] at h2
 |lrec st y cs=>simp[GObj.deg] at h2
theorem rB (v:PV):degr (aa v)=degr v:=by cases v<;>rfl
theorem rC {agg:Bool} {k off:Nat} {cs cs2:List PV} {v:PV} (he:cs2.map aa=cs.map aa) (h:ar agg k off cs=some v):∃v2,ar agg k off cs2=some v2/\degr v2=degr v:=by
 have hl:cs2.length=cs.length:=by rw[<-bB (f:=aa) (as:=cs2),he,bB]
 unfold ar at h ⊢;cases agg with
 | true=>
  simp only[if_true] at h ⊢;split at h
  ·rename_i hk
   cases h;rw[hl,if_pos hk];refine⟨_,rfl,?_⟩;simp only[degr,PV.agg.injEq];rw[List.map_take,List.map_drop,he,List.map_take,List.map_drop]
  ·cases h
 |false=>
  simp only[bO,if_false] at h ⊢;have h1:(cs2.map aa)[off]?=(cs.map aa)[off]?:=by rw[he]
  rw[aB,aB,h] at h1;simp only[cC,aE] at h1;obtain⟨v2,h2,h3⟩:=h1;exact⟨v2,h2,by rw[<-rB v2,h3,rB]⟩
theorem xT {d:Nat} {agg:Bool} {k:Nat} {x:IX}:ec cf (.load d agg k x):=by
 intro s s2 ha hh s' h;have h1:aj s2.env x=aj s.env x:=cg (λt ht=>ha t (by simp[rd,ht]));simp only[ae,h1] at h ⊢;have fin:∀v,s'=s.put d v->∀o,o=some (s2.put d v)->∃s2',o=some s2'/\EnvR (wr (.load d agg k x)) s'.env s2.env s2'.env/\HRes 2 s s' s2 s2':=by rintro v rfl o rfl;exact⟨_,rfl,(EnvR.put1 d v).congr (λt=>by simp[wr,bi]),rfl,rfl,rfl,rfl⟩
 split at h
 ·rename_i g b off hp
  simp only[aC,aE] at h;obtain⟨cs,hc,v,hv,rfl⟩:=h;obtain⟨cs2,hc2,he⟩:=rz hh hc;obtain⟨v2,hv2,he2⟩:=rC he hv;exact fin _ rfl _ (by simp[hc2,hv2,he2])
 ·rename_i e off hp
  simp only[aE] at h;obtain⟨v,hv,rfl⟩:=h;exact fin _ rfl _ (by simp[hv])
 ·cases h
theorem xU {d kn:Nat} {m k:IX} {ok:Bool} {zero:PV}:ec cf (.lookup d kn m k ok zero):=by
 intro s s2 ha hh s' h;have h1:aj s2.env m=aj s.env m:=cg (λt ht=>ha t (by simp[rd,ht]));have h2:aj s2.env k=aj s.env k:=cg (λt ht=>ha t (by simp[rd,ht]));simp only[ae,h1,h2] at h ⊢;have fin:∀v,s'=s.put d v->∀o,o=some (s2.put d v)->∃s2',o=some s2'/\EnvR (wr (.lookup d kn m k ok zero)) s'.env s2.env s2'.env/\HRes 2 s s' s2 s2':=by rintro v rfl o rfl;exact⟨_,rfl,(EnvR.put1 d v).congr (λt=>by simp[wr,bi]),rfl,rfl,rfl,rfl⟩
 split at h
 ·rename_i b kv hp hkv
  split at h
  ·rename_i es hes
   have hes2:=rA hh hes;split at h
   ·cases h
   ·rename_i hki
    split at h
    ·rename_i v hf
     cases h;exact fin _ rfl _ (by simp[hes2,hki,hf])
    ·rename_i hf
     cases h;exact fin _ rfl _ (by simp[hes2,hki,hf])
    ·cases h
  ·cases h
 ·cases h
theorem xV {d kd:Nat} {x:IX}:ec cf (.len d kd x):=by
 intro s s2 ha hh s' h;have h1:aj s2.env x=aj s.env x:=cg (λt ht=>ha t (by simp[rd,ht]));simp only[ae,h1] at h ⊢;have fin:∀v,s'=s.put d v->∀o,o=some (s2.put d v)->∃s2',o=some s2'/\EnvR (wr (.len d kd x)) s'.env s2.env s2'.env/\HRes (if kd=2 then 2 else 0) s s' s2 s2':=by rintro v rfl o rfl;refine⟨_,rfl,(EnvR.put1 d v).congr (λt=>by simp[wr,bi]),?_⟩;split<;>exact⟨rfl,rfl,rfl,rfl⟩
 split at h
 ·rename_i hp;cases h;exact fin _ rfl _ (by simp)
 ·rename_i hp;cases h;exact fin _ rfl _ (by simp)
 ·rename_i hp;cases h;exact fin _ rfl _ (by simp)
 ·rename_i hp;cases h;exact fin _ rfl _ (by simp)
 ·rename_i hp;cases h;exact fin _ rfl _ (by simp)
 ·rename_i hp;cases h;exact fin _ rfl _ (by simp)
 ·rename_i b hp
  split at h
  ·rename_i es hes
   cases h;exact fin _ rfl _ (by simp[rA (show HOk 2 s s2 from hh) hes])
  ·cases h
 ·cases h
theorem xW {d:Nat}:ec cf (.mkmap d):=by intro s s2 ha hh s' h;obtain⟨e2,l2,g2⟩:=s2;obtain⟨rfl,rfl⟩:=hh;simp only[ae,bS] at h;subst h;exact⟨_,rfl,(EnvR.put1 d _).congr (λt=>by simp[wr,bi]),rfl,⟨_,rfl⟩,rfl,rfl⟩
theorem xX {d z bytes:Nat} {g:Bool} {zero:PV} {l:IX}:ec cf (.mksl d g z bytes zero l):=by
 cases g with
 |false=>exact fills_mksl.local rfl rfl
 | true=>
  intro s s2 ha hh s' h;obtain⟨e2,l2,g2⟩:=s2;obtain⟨rfl,rfl⟩:=hh;have h1:aj e2 l=aj s.env l:=cg (λt ht=>ha t (by simp[rd,ht]));simp only[ae,h1] at h ⊢;split at h
  ·rename_i k n hp
   split at h
   ·rename_i hc
    cases h;refine⟨_,by rw[if_pos hc],?_,?_⟩
    ·exact (EnvR.put1 d _).congr (λt=>by simp[wr,bi])
    ·exact⟨rfl,rfl⟩
   ·cases h
  ·cases h
theorem nj (s:St) (g:Bool) (b:Nat) (cs:List PV):(s.setCells g b cs).env=s.env:=by cases g<;>rfl
theorem rD {cs:List PV} {off:Nat} {v:PV} (h:cs[off]?=some v):(ay cs off [aa v]).map aa=cs.map aa:=by
 have hlt:=(aD.1 h).1;apply List.ext_getElem?;intro i;rw[aB,aB,ay,hJ _ _ _ _ (by simp;omega)];by_cases h1:i<off
 ·rw[if_pos h1]
 ·rw[if_neg h1]
  by_cases h2:i=off
  ·subst h2
   have hd:aa (aa v)=aa v:=by cases v<;>rfl
   simp[h,hd]
  ·rw[if_neg (by simp;omega)]
theorem rE {α β:Type} (f:α->β) {l:List α} {b:Nat} {x y:α} (h:l[b]?=some x) (he:f y=f x):(l.set b y).map f=l.map f:=by
 apply List.ext_getElem?;intro k;rw[aB,aB,cE];by_cases hk:b=k
 ·subst hk
  obtain⟨this,rfl⟩:=aD.1 h;simp[this,he]
 ·simp[hk]
theorem xY {d:Nat} {x:IX}:ec cf (.loadT d x):=by
 intro s s2 ha hh s' h;obtain⟨e2,l2,g2⟩:=s2;obtain⟨rfl,rfl⟩:=hh;have h1:aj e2 x=aj s.env x:=cg (λt ht=>ha t (by simp[rd,ht]));simp only[ae,h1] at h ⊢;split at h
 ·rename_i g b off hp
  simp only[aC,aE] at h;obtain⟨cs,hc,v,hv,rfl⟩:=h;have hc2:St.cellsAt ⟨e2,s.lh,s.gh⟩ g b=some cs:=hc;refine⟨(St.setCells ⟨e2,s.lh,s.gh⟩ g b (ay cs off [aa v])).put d v,by simp[hc2,hv],?_,?_⟩
  ·simp only[St.put,nj]
   exact (EnvR.put1 d v).congr (λt=>by simp[wr,bi])
  ·cases g with
   |false=>exact⟨rE (List.map aa) (show s.lh[b]?=some cs from hc) (rD hv),rfl,rfl,rfl⟩
   | true=>
    have hg:s.gh[b]?=some (.cells cs):=by
     simp only[St.cellsAt,if_true] at hc;split at hc
     ·rename_i hx;cases hc;exact hx
     ·cases hc
    exact⟨rfl,rE GObj.deg hg (by simp[GObj.deg,rD hv]),rfl,rfl⟩
 ·cases h
theorem rF {tk:Bool} {k:Nat} {x y:IX}:ec cf (.store tk k x y):=by
 intro s s2 ha hh s' h;obtain⟨e2,l2,g2⟩:=s2;obtain⟨rfl,rfl⟩:=hh;have h1:aj e2 x=aj s.env x:=cg (λt ht=>ha t (by simp[rd,ht]));have h2:aj e2 y=aj s.env y:=cg (λt ht=>ha t (by simp[rd,ht]));simp only[ae,h1,h2] at h ⊢;split at h
 ·rename_i g b off hp
  split at h
  ·rename_i htk
   subst htk;simp only[aC,Prod.exists] at h;obtain⟨v,e1,hv,cs,hc,h⟩:=h;split at h
   ·rename_i hk
    cases h;obtain⟨e3,t1,t2⟩:=kz (e2:=e2) (λt ht=>ha t (by simp[rd,ht])) hv;have hc2:St.cellsAt ⟨e3,s.lh,s.gh⟩ g b=some cs:=hc;refine⟨St.setCells ⟨e3,s.lh,s.gh⟩ g b (ay cs off v.cells),by simp[t1,hc2,hk],?_,?_⟩
    ·simp only[nj]
     exact t2.congr (λt=>by simp[wr,bi])
    ·cases g<;>exact⟨rfl,rfl⟩
   ·cases h
  ·rename_i htk
   simp only[Bool.not_eq_true] at htk;subst htk;simp only[aC] at h;obtain⟨v,hv,cs,hc,h⟩:=h;split at h
   ·rename_i hk
    cases h;have hc2:St.cellsAt ⟨e2,s.lh,s.gh⟩ g b=some cs:=hc;refine⟨St.setCells ⟨e2,s.lh,s.gh⟩ g b (ay cs off v.cells),by simp[hv,hc2,hk],?_,?_⟩
    ·simp only[nj]
     exact EnvR.refl (λt=>by simp[wr,bi])
    ·cases g<;>exact⟨rfl,rfl⟩
   ·cases h
 ·cases h
theorem xZ {kn:Nat} {m k x:IX}:ec cf (.mupd kn m k x):=by
 intro s s2 ha hh s' h;obtain⟨e2,l2,g2⟩:=s2;obtain⟨rfl,rfl⟩:=hh;have h1:aj e2 m=aj s.env m:=cg (λt ht=>ha t (by simp[rd,ht]));have h2:aj e2 k=aj s.env k:=cg (λt ht=>ha t (by simp[rd,ht]));have h3:aj e2 x=aj s.env x:=cg (λt ht=>ha t (by simp[rd,ht]));simp only[ae,h1,h2,h3] at h ⊢;split at h
 ·rename_i b kv v hp hkv hv
  split at h
  ·rename_i es hes
   split at h
   ·rename_i hc
    simp only[aE] at h;obtain⟨es',hs,rfl⟩:=h;refine⟨⟨e2,s.lh,s.gh.set b (.map es')⟩,?_,EnvR.refl (λt=>by simp[wr,bi]),rfl,rfl⟩;rw[if_pos hc,hs];rfl
   ·cases h
  ·cases h
 ·cases h
theorem nk {e e2:List (Nat×PV)} (d:Option Nat) (v:PV):EnvR d.toList (fj e d v) e2 (fj e2 d v):=by
 cases d with
 |none=>exact EnvR.refl (by simp)
 |some d=>exact EnvR.put (by simp)
theorem nm {d:Option Nat} {q:Bool} {f:Nat} {vs:List PV} (hh:HOk (if q then 1 else 5) s s2) (h:eh cf s d q f vs=some s') :
  ∃s2',eh cf s2 d q f vs=some s2'/\EnvR d.toList s'.env s2.env s2'.env/\HRes (if q then 1 else 5) s s' s2 s2':=by
 have hgh:s2.gh=s.gh:=by
  cases q
  ·exact hh.2
  ·exact hh
 unfold eh at h ⊢;split at h
 ·rename_i hok
  rw[if_pos hok,hgh];split at h
  ·rename_i r gh' hc
   split at h
   ·rename_i hq
    subst hq;split at h
    ·rename_i he
     cases h;refine⟨⟨fj s2.env d r,s2.lh,s2.gh⟩,by simp[he,hgh],nk d r,rfl,rfl,rfl,rfl⟩
    ·cases h
   ·rename_i hq
    simp only[Bool.not_eq_true] at hq;subst hq;cases h;exact⟨⟨fj s2.env d r,s2.lh,gh'⟩,by simp,nk d r,hh.1,rfl⟩
  ·cases h
 ·cases h
theorem yd {d:Option Nat} {q:Bool} {f:Nat} {xs:List IX}:ec cf (.call d q f xs):=by intro s s2 ha hh s' h;have h1:dn s2.env xs=dn s.env xs:=jB (λt ht=>ha t (by simp[rd,ht]));simp only[ae,h1,aC] at h ⊢;obtain⟨vs,hv,h⟩:=h;obtain⟨s2',c1,c2,c3⟩:=nm (s2:=s2) hh h;exact⟨s2',⟨vs,hv,c1⟩,by simpa [wr,bi] using c2,c3⟩
theorem ye {d:Option Nat} {q:Bool} {f:IX} {xs:List IX}:ec cf (.callv d q f xs):=by
 intro s s2 ha hh s' h;have h0:aj s2.env f=aj s.env f:=cg (λt ht=>ha t (by simp[rd,ht]));have h1:dn s2.env xs=dn s.env xs:=jB (λt ht=>ha t (by simp[rd,ht]));simp only[ae,h0,h1] at h ⊢;split at h
 ·rename_i f caps hp
  simp only[aC] at h;obtain⟨vs,hv,h⟩:=h;obtain⟨s2',c1,c2,c3⟩:=nm (s2:=s2) hh h;exact⟨s2',by simp[hv,c1],by simpa [wr,bi] using c2,c3⟩
 ·rename_i f caps hp
  simp only[aC] at h;obtain⟨vs,hv,h⟩:=h;obtain⟨s2',c1,c2,c3⟩:=nm (s2:=s2) hh h;exact⟨s2',by simp[hv,c1],by simpa [wr,bi] using c2,c3⟩
 ·cases h
theorem yf {d:Option Nat} {f:IX} {xs:List IX}:ec cf (.cally d f xs):=by
 intro s s2 ha hh s' h;have h0:aj s2.env f=aj s.env f:=cg (λt ht=>ha t (by simp[rd,ht]));have h1:dn s2.env xs=dn s.env xs:=jB (λt ht=>ha t (by simp[rd,ht]));have hgh:s2.gh=s.gh:=hh.2;simp only[ae,h0,h1] at h ⊢;split at h
 ·simp only[aC] at h
  obtain⟨vs,hv,h⟩:=h;unfold doY at h;split at h
  ·rename_i y caps hb
   split at h
   ·rename_i hok
    split at h
    ·rename_i gh' hc
     cases h;exact⟨⟨fj s2.env d (.bool true),s2.lh,gh'⟩,by simp only[hv,cB,doY,hgh,hb,if_pos hok,hc],by simpa [wr,bi] using nk d (.bool true),hh.1,rfl⟩
    ·cases h
   ·cases h
  ·cases h
 ·cases h
theorem yg {d z bytes:Nat} {sx x:IX}:ec cf (.append d z bytes sx x):=by
 intro s s2 ha hh s' h;have h1:aj s2.env x=aj s.env x:=cg (λt ht=>ha t (by simp[rd,ht]));simp only[ae,h1,aC] at h ⊢;obtain⟨xv,hxv,h⟩:=h;cases xv with
 | sl o2 z2 ys=>
  simp only[aC,Prod.exists] at h;obtain⟨v,e1,hv,h⟩:=h;cases v with
  | sl o z1 xs=>
   simp only at h;split at h
   ·rename_i hc
    cases h;obtain⟨e3,t1,t2⟩:=kz (e2:=s2.env) (λt ht=>ha t (by simp[rd,ht])) hv;refine⟨⟨Lw.put e3 d (.sl true z (xs++ys)),s2.lh,s2.gh⟩,⟨_,hxv,by simp only[t1,cB];rw[if_pos hc]⟩,?_,rfl,rfl,rfl,rfl⟩;exact (t2.thenPut d _).congr (λt=>by simp[wr,bi];exact or_comm)
   ·cases h
  |_=>cases h
 |_=>cases h
theorem jC {e e2:List (Nat×PV)} {gh gh':List GObj} {n:Nat} (h:get e2 n=get e n) (hk:keptB e gh gh' n):keptB e2 gh gh' n:=by unfold keptB at *;rw[h];exact hk
theorem yh {d:Nat} {agg:Bool} {k:Nat} {x:IX} {n:Nat}:ec cf (.loadB d agg k x n):=by
 intro s s2 ha hh s' h;have h1:aj s2.env x=aj s.env x:=cg (λt ht=>ha t (by simp[rd,ht]));have h2:get s2.env n=get s.env n:=ha n (by simp[rd]);simp only[ae,h1,h2] at h ⊢;split at h
 ·rename_i b off b' o' hp hq
  split at h
  ·rename_i hne
   simp only[aC,aE] at h;obtain⟨cs,hc,v,hv,rfl⟩:=h;obtain⟨cs2,hc2,he⟩:=rz hh hc;obtain⟨v2,hv2,he2⟩:=rC he hv;refine⟨s2.put d (degr v),by simp[hne,hc2,hv2,he2]<;>(subst hne;simp[hc2,hv2,he2]),(EnvR.put1 d _).congr (λt=>by simp[wr,bi]),rfl,rfl,rfl,rfl⟩
  ·cases h
 ·simp only[aE] at h
  obtain⟨v,hv,rfl⟩:=h;exact⟨s2.put d v,by simp[hv],(EnvR.put1 d v).congr (λt=>by simp[wr,bi]),rfl,rfl,rfl,rfl⟩
 ·cases h
theorem yi {tk:Bool} {k:Nat} {y x:IX} {ns:List Nat}:ec cf (.storeP tk k y x ns):=by
 intro s s2 ha hh s' h;have hg:s2.gh=s.gh:=hh.2;simp only[ae,aC] at h ⊢;obtain⟨s1,h1,h2⟩:=h;split at h2
 ·rename_i hk
  cases h2;obtain⟨s2',c1,c2,c3⟩:=rF (cf:=cf) (tk:=tk) (k:=k) (x:=y) (y:=x) s s2 (λt ht=>ha t (by simp only[rd,bY] at ht ⊢;exact .inr ht)) hh _ h1;have hg':s2'.gh=s'.gh:=c3.2;refine⟨s2',⟨s2',c1,?_⟩,by cases tk<;>exact c2,c3⟩;rw[if_pos (λn hn=>by rw[hg,hg'];exact jC (ha n (by simp[rd,hn])) (hk n hn))]
 ·cases h2
theorem nn (i:IOp):ec cf i:=by
 cases i with
 |callP=>exact λ_ _ _ _ _ h=>by simp[ae] at h
 |cally=>exact yf
 |callR=>exact λ_ _ _ _ _ h=>by simp[ae] at h
 |loadB=>exact yh
 |appendE=>exact λ_ _ _ _ _ h=>by simp[ae] at h
 |loadKB=>exact λ_ _ _ _ _ h=>by simp[ae] at h
 |loadTB=>exact λ_ _ _ _ _ h=>by simp[ae] at h
 |loadJ=>exact λ_ _ _ _ _ h=>by simp[ae] at h
 |appendP=>exact λ_ _ _ _ _ h=>by simp[ae] at h
 |mkarr=>exact λ_ _ _ _ _ h=>by simp[ae] at h
 |buildA=>exact λ_ _ _ _ _ h=>by simp[ae] at h
 |boxSl=>exact λ_ _ _ _ _ h=>by simp[ae] at h
 |tk=>exact xO
 |tkS=>exact xP
 |box=>exact xQ
 |alloc=>exact xR
 |buildT=>exact xS
 |load=>exact xT
 |loadN=>exact λ_ _ _ _ _ h=>by simp[ae] at h
 |lookup=>exact xU
 |len=>exact xV
 |mkmap=>exact xW
 |mkbld=>exact λ_ _ _ _ _ h=>by simp[ae] at h
 |boxB=>exact λ_ _ _ _ _ h=>by simp[ae] at h
 |mksl=>exact xX
 |loadT=>exact xY
 |loadL=>exact λ_ _ _ _ _ h=>by simp[ae] at h
 |store=>exact rF
 |storeP=>exact yi
 |mupd=>exact xZ
 |call=>exact yd
 |callv=>exact ye
 |callF=>exact λ_ _ _ _ _ h=>by simp[ae] at h
 |callE=>exact λ_ _ _ _ _ h=>by simp[ae] at h
 |append=>exact yg
 |appendK=>exact λ_ _ _ _ _ h=>by simp[ae] at h
 |appendN=>exact λ_ _ _ _ _ h=>by simp[ae] at h
 |buildSlK=>exact λ_ _ _ _ _ h=>by simp[ae] at h
 |loadK=>exact λ_ _ _ _ _ h=>by simp[ae] at h
 |loadH=>exact λ_ _ _ _ _ h=>by simp[ae] at h
 |mv=>exact fills_mv.local rfl rfl
 |loadG=>exact λ_ _ _ _ _ h=>by simp[ae] at h
 |pick=>exact fills_pick.local rfl rfl
 |build=>exact fills_build.local rfl rfl
 |buildSl=>exact fills_buildSl.local rfl rfl
 |nilc=>exact fills_nilc.local rfl rfl
 |bin=>exact fills_bin.local rfl rfl
 |eqa=>exact fills_eqa.local rfl rfl
 |eqb=>exact fills_eqb.local rfl rfl
 |eqn=>exact λ_ _ _ _ _ h=>by simp[ae] at h
 |un=>exact fills_un.local rfl rfl
 |conv=>exact λ_ _ _ _ _ h=>by simp[ae] at h
 |mkfn=>exact fills_mkfn.local rfl rfl
 |mkbf=>exact λ_ _ _ _ _ h=>by simp[ae] at h
 |storeK=>exact λ_ _ _ _ _ h=>by simp[ae] at h
 |clearK=>exact λ_ _ _ _ _ h=>by simp[ae] at h
 |slice=>exact fills_slice.local rfl rfl
 |sliceS=>exact λ_ _ _ _ _ h=>by simp[ae] at h
 |faddr=>exact fills_faddr.local rfl rfl
 |field=>exact λ_ _ _ _ _ h=>by simp[ae] at h
 |iaddr=>exact fills_iaddr.local rfl rfl
 |index=>exact fills_index.local rfl rfl
 |indexS=>exact λ_ _ _ _ _ h=>by simp[ae] at h
 |maxi=>exact λ_ _ _ _ _ h=>by simp[ae] at h
 |extract=>exact fills_extract.local rfl rfl
end
end
section
open Go.RowKit
section
variable {s s' s1 s2 t1 t2:St} {cf:CallF}
def je (c:Nat) (s s' s2 s2':St):Prop:=
 match c with
 |0|1|2|8=>s'.lh=s.lh/\s'.gh=s.gh/\s2'.lh=s2.lh/\s2'.gh=s2.gh
 |3=>(∀(b:Nat) (cs:List PV),s.lh[b]?=some cs->s'.lh[b]?=some cs)/\s'.gh=s.gh/\s2'.lh=s'.lh/\s2'.gh=s'.gh
 |4=>s'.lh=s.lh/\(∀(b:Nat) (o:GObj),s.gh[b]?=some o->s'.gh[b]?=some o)/\s2'.lh=s'.lh/\s2'.gh=s'.gh
 |6=>s'.lh.map (List.map aa)=s.lh.map (List.map aa)/\s'.gh=s.gh/\s2'.lh=s'.lh/\s2'.gh=s'.gh
 |7=>s'.lh.map (List.map aa)=s.lh.map (List.map aa)/\s'.gh.map GObj.deg=s.gh.map GObj.deg/\s2'.lh=s'.lh/\s2'.gh=s'.gh
 |9=>s'.lh=s.lh/\(∀(b:Nat) (o:GObj),s.gh[b]?=some o->∃o2,s'.gh[b]?=some o2/\o2.deg=o.deg)/\s2'.lh=s'.lh/\s2'.gh=s'.gh
 |_=>s2'.lh=s'.lh/\s2'.gh=s'.gh
theorem HRes.two {c:Nat} (h:HRes c s s' s2 s1):je c s s' s2 s1:=by
 match c,h with
 |0,h=>exact h
 |1,h=>exact h
 |2,h=>exact h
 |3,⟨⟨cs,h1⟩,h2⟩=>exact⟨λb cs' hb=>by rw[h1,aJ (aD.1 hb).1];exact hb,h2⟩
 |4,⟨h0,⟨o,h1⟩,h2⟩=>exact⟨h0,λb o' hb=>by rw[h1,aJ (aD.1 hb).1];exact hb,h2⟩
 |5,h=>exact h
 |6,h=>exact h
 |7,h=>exact h
 |8,h=>exact h
 |9,h=>exact h
 |n+10,h=>exact h
def rdG (i:IOpG):List Nat:=(match i.guard with|some (g,_)=>[g]|none=>[])++rd i.op
theorem rG {i:IOp} {t:Nat} (h:t∈wr i):bi i=some t\/t∈rd i:=by
 simp only[wr,bY,Option.mem_toList] at h;rcases h with h|h
 ·exact .inl h
 ·right
  split at h<;>first|(simp at h;done)|(simpa [rd] using h)|(simp[rd];first|exact .inl h|exact .inr h|exact h|exact .inr (.inr h))
theorem kA (i:IOpG) (ha:∀t∈rdG i,get s2.env t=get s.env t) (hh:HOk (cls i.op) s s2) (h:opG cf i s=some s') :
  ∃s2',opG cf i s2=some s2'/\EnvR (wr i.op) s'.env s2.env s2'.env/\je (cls i.op) s s' s2 s2':=by
 have hstep:∀s',ae cf s i.op=some s'->∃s2',ae cf s2 i.op=some s2'/\EnvR (wr i.op) s'.env s2.env s2'.env/\je (cls i.op) s s' s2 s2':=λs' hs=>by obtain⟨s2',h1,h2,h3⟩:=nn i.op s s2 (λt ht=>ha t (by simp[rdG,ht])) hh s' hs;exact⟨s2',h1,h2,h3.two⟩
 have hskip:EnvR (wr i.op) (dY s i.op).env s2.env (dY s2 i.op).env/\je (cls i.op) s (dY s i.op) s2 (dY s2 i.op):=by
  refine⟨λt=>?_,?_⟩
  ·by_cases ht:t∈wr i.op
   ·rw[if_pos ht]
    unfold dY;cases hd:bi i.op with
    |none=>
     have:=(rG ht).resolve_left (by simp[hd]);exact ha t (by simp[rdG,this])
    | some d=>
     simp only[St.put,eN];by_cases hdt:d=t
     ·simp[hdt]
     ·have:=(rG ht).resolve_left (by simp[hd,hdt])
      simp only[hdt,if_false];exact ha t (by simp[rdG,this])
   ·rw[if_neg ht]
    unfold dY;cases hd:bi i.op with
    |none=>rfl
    |some d=>
     have:d≠t:=λe=>ht (by subst e;simp[wr,hd])
     simp[St.put,eN,this]
  ·have e1:(dY s i.op).lh=s.lh/\(dY s i.op).gh=s.gh:=by unfold dY;cases bi i.op<;>exact⟨rfl,rfl⟩
   have e2:(dY s2 i.op).lh=s2.lh/\(dY s2 i.op).gh=s2.gh:=by unfold dY;cases bi i.op<;>exact⟨rfl,rfl⟩
   generalize cls i.op=c at hh
   match c,hh with
   |0,_=>exact⟨e1.1,e1.2,e2.1,e2.2⟩
   |1,_=>exact⟨e1.1,e1.2,e2.1,e2.2⟩
   |2,_=>exact⟨e1.1,e1.2,e2.1,e2.2⟩
   |3,⟨h1,h2⟩=>exact⟨λb cs hb=>by rw[e1.1];exact hb,e1.2,by rw[e1.1,e2.1,h1],by rw[e1.2,e2.2,h2]⟩
   |4,⟨h1,h2⟩=>exact⟨e1.1,λb cs hb=>by rw[e1.2];exact hb,by rw[e1.1,e2.1,h1],by rw[e1.2,e2.2,h2]⟩
   |5,⟨h1,h2⟩=>exact⟨by rw[e1.1,e2.1,h1],by rw[e1.2,e2.2,h2]⟩
   |6,⟨h1,h2⟩=>exact⟨by rw[e1.1],e1.2,by rw[e1.1,e2.1,h1],by rw[e1.2,e2.2,h2]⟩
   |7,⟨h1,h2⟩=>exact⟨by rw[e1.1],by rw[e1.2],by rw[e1.1,e2.1,h1],by rw[e1.2,e2.2,h2]⟩
   |8,_=>exact⟨e1.1,e1.2,e2.1,e2.2⟩
   |9,⟨h1,h2⟩=>exact⟨e1.1,λb o hb=>⟨o,by rw[e1.2];exact hb,rfl⟩,by rw[e1.1,e2.1,h1],by rw[e1.2,e2.2,h2]⟩
   |n+10,⟨h1,h2⟩=>exact⟨by rw[e1.1,e2.1,h1],by rw[e1.2,e2.2,h2]⟩
 unfold opG at h ⊢;cases hg:i.guard with
 |none=>rw[hg] at h;exact hstep s' h
 | some q=>
  obtain⟨g,want⟩:=q;rw[hg] at h;have hgg:get s2.env g=get s.env g:=ha g (by simp[rdG,hg]);simp only at h ⊢;rw[hgg];split at h
  ·split at h
   ·rename_i hw
    simp only[hw,if_true];exact hstep s' h
   ·rename_i hw
    cases h;simp only[if_neg hw];exact⟨_,rfl,hskip⟩
  ·cases h
   exact⟨_,rfl,hskip⟩
  ·cases h
theorem jD (i:IOpG) (h:opG cf i s=some s') {t:Nat} (ht:t∉wr i.op):get s'.env t=get s.env t:=by
 have hh:HOk (cls i.op) s s:=by
  generalize cls i.op=c
  match c with
  |0=>trivial
  |1=>rfl
  |2=>exact⟨λ_ cs h=>⟨cs,h,rfl⟩,λ_ o h=>⟨o,h,rfl⟩⟩
  |3|4|5|6|7=>exact⟨rfl,rfl⟩
  |8=>exact (rfl:s.lh=s.lh)
  |9=>exact⟨rfl,rfl⟩
  |n+10=>exact⟨rfl,rfl⟩
 obtain⟨s2',h1,h2,_⟩:=kA (s2:=s) i (λ_ _=>rfl) hh h;rw[h] at h1;cases h1;have:=h2 t
 rwa [if_neg ht] at this
theorem yj (i:IOpG) (h:opG cf i s=some s'):je (cls i.op) s s' s s':=by
 have hh:HOk (cls i.op) s s:=by
  generalize cls i.op=c
  match c with
  |0=>trivial
  |1=>rfl
  |2=>exact⟨λ_ cs h=>⟨cs,h,rfl⟩,λ_ o h=>⟨o,h,rfl⟩⟩
  |3|4|5|6|7=>exact⟨rfl,rfl⟩
  |8=>exact (rfl:s.lh=s.lh)
  |9=>exact⟨rfl,rfl⟩
  |n+10=>exact⟨rfl,rfl⟩
 obtain⟨s2',h1,_,h3⟩:=kA (s2:=s) i (λ_ _=>rfl) hh h;rw[h] at h1;cases h1;exact h3
def ly (p x:Nat):Bool:=p==0||(x==0||((decide (p<=2)&&decide (x<=2))||((p==1&&x==3)||((p==2&&x==3)||((p==2&&x==4)||((p==3&&x==1)||((p==1&&x==6)||((p==6&&x==1)||((p==2&&x==6)||((p==2&&x==7)||((p==6&&x==2)||((p==7&&x==2)||((p==4&&x==8)||((p==8&&x==8)||(p==2&&x==9)))))))))))))))
def fR (p x:IOpG):Bool:=(wr p.op).all (λt=> !(rdG x).contains t&& !(wr x.op).contains t)&&(wr x.op).all (λt=> !(rdG p).contains t)
def Eqv (s s2:St):Prop:=(∀t,get s2.env t=get s.env t)/\s2.lh=s.lh/\s2.gh=s.gh
theorem nq {p x:Nat} (h:ly p x=true):(p=0)\/(x=0)\/(p<=2/\x<=2)\/(p=1/\x=3)\/(p=2/\x=3)\/(p=2/\x=4)\/(p=3/\x=1)\/(p=1/\x=6)\/(p=6/\x=1)\/(p=2/\x=6)\/(p=2/\x=7)\/(p=6/\x=2)\/(p=7/\x=2)\/(p=4/\x=8)\/(p=8/\x=8)\/(p=2/\x=9):=by simpa only[ly,Bool.or_eq_true,aX,cQ,aH] using h
theorem cm {c:Nat} (hc:c<=2) (h:je c s s' s2 s1):s'.lh=s.lh/\s'.gh=s.gh/\s1.lh=s2.lh/\s1.gh=s2.gh:=by
 match c,hc,h with
 |0,_,h=>exact h
 |1,_,h=>exact h
 |2,_,h=>exact h
theorem eu {c:Nat} (h:je c s s' s2 s1) (e1:s2.lh=s.lh) (e2:s2.gh=s.gh):s1.lh=s'.lh/\s1.gh=s'.gh:=by
 match c,h with
 |0,h=>exact⟨by rw[h.2.2.1,e1,h.1],by rw[h.2.2.2,e2,h.2.1]⟩
 |1,h=>exact⟨by rw[h.2.2.1,e1,h.1],by rw[h.2.2.2,e2,h.2.1]⟩
 |2,h=>exact⟨by rw[h.2.2.1,e1,h.1],by rw[h.2.2.2,e2,h.2.1]⟩
 |3,h=>exact h.2.2
 |4,h=>exact h.2.2
 |5,h=>exact h
 |6,h=>exact h.2.2
 |7,h=>exact h.2.2
 |8,h=>exact⟨by rw[h.2.2.1,e1,h.1],by rw[h.2.2.2,e2,h.2.1]⟩
 |9,h=>exact h.2.2
 |n+10,h=>exact h
theorem ei {c:Nat} (e1:s2.lh=s.lh) (e2:s2.gh=s.gh):HOk c s s2:=by
 match c with
 |0=>trivial
 |1=>exact e2
 |2=>exact⟨λb cs h=>⟨cs,by rw[e1];exact h,rfl⟩,λb o h=>⟨o,by rw[e2];exact h,rfl⟩⟩
 |3|4|5|6|7=>exact⟨e1,e2⟩
 |8=>exact e1
 |9=>exact⟨e1,e2⟩
 |n+10=>exact⟨e1,e2⟩
theorem jE {α β:Type} (f:α->β) {l l':List α} (h:l'.map f=l.map f) {b:Nat} {x:α} (hx:l[b]?=some x):∃y,l'[b]?=some y/\f y=f x:=by
 have h1:(l'.map f)[b]?=(l.map f)[b]?:=by rw[h]
 rw[aB,aB,hx] at h1;simpa using h1
theorem ym {p x:IOpG} (ha:fR p x=true) (hc:ly (cls p.op) (cls x.op)=true) (h1:opG cf p s=some s1) (h2:opG cf x s1=some s2) :
  ∃t1 t2,opG cf x s=some t1/\opG cf p t1=some t2/\Eqv s2 t2:=by
 simp only[fR,aX,bR,Bool.not_eq_true',List.contains_eq_mem,decide_eq_false_iff_not] at ha;obtain⟨a1,a2⟩:=ha;have r1:=yj p h1;have f1:=λt ht=>jD (t:=t) p h1 ht
 have f2:=λt ht=>jD (t:=t) x h2 ht
 have hx:HOk (cls x.op) s1 s:=by
  rcases nq hc with e|e|⟨e,_⟩|⟨e,_⟩|⟨e,_⟩|⟨e,_⟩|⟨e,e'⟩|⟨e,_⟩|⟨e,e'⟩|⟨e,_⟩|⟨e,_⟩|⟨e,e'⟩|⟨e,e'⟩|⟨e,e'⟩|⟨e,e'⟩|⟨e,e'⟩
  ·have:=cm (by omega) r1;exact ei this.1.symm this.2.1.symm
  ·rw[e];trivial
  ·have:=cm (by omega) r1;exact ei this.1.symm this.2.1.symm
  ·have:=cm (by omega) r1;exact ei this.1.symm this.2.1.symm
  ·have:=cm (by omega) r1;exact ei this.1.symm this.2.1.symm
  ·have:=cm (by omega) r1;exact ei this.1.symm this.2.1.symm
  ·rw[e] at r1;rw[e'];exact r1.2.1.symm
  ·have:=cm (by omega) r1;exact ei this.1.symm this.2.1.symm
  ·rw[e] at r1;rw[e'];exact r1.2.1.symm
  ·have:=cm (by omega) r1;exact ei this.1.symm this.2.1.symm
  ·have:=cm (by omega) r1;exact ei this.1.symm this.2.1.symm
  ·rw[e] at r1;rw[e'];exact⟨λb cs=>jE _ r1.1.symm,λb o hb=>⟨o,by rw[<-r1.2.1];exact hb,rfl⟩⟩
  ·rw[e] at r1;rw[e'];exact⟨λb cs=>jE _ r1.1.symm,λb o=>jE _ r1.2.1.symm⟩
  ·rw[e] at r1;rw[e'];exact r1.1.symm
  ·rw[e] at r1;rw[e'];exact r1.1.symm
  ·have:=cm (by omega) r1;exact ei this.1.symm this.2.1.symm
 obtain⟨t1,g1,g2,g3⟩:=kA (s2:=s) x (λt ht=>(f1 t (λhw=>(a1 t hw).1 ht)).symm) hx h2;have hp:HOk (cls p.op) s t1:=by
  rcases nq hc with e|e|⟨e,e'⟩|⟨e,e'⟩|⟨e,e'⟩|⟨e,e'⟩|⟨e,e'⟩|⟨e,e'⟩|⟨e,e'⟩|⟨e,e'⟩|⟨e,e'⟩|⟨e,e'⟩|⟨e,e'⟩|⟨e,e'⟩|⟨e,e'⟩|⟨e,e'⟩
  ·rw[e];trivial
  ·have:=cm (by omega) g3;exact ei this.2.2.1 this.2.2.2
  ·have:=cm (by omega) g3;exact ei this.2.2.1 this.2.2.2
  ·rw[e'] at g3
   have:=cm (by omega) r1;rw[e];exact g3.2.2.2.trans (g3.2.1.trans this.2.1)
  ·rw[e'] at g3
   have:=cm (by omega) r1;rw[e];exact⟨λb cs hb=>⟨cs,by rw[g3.2.2.1];exact g3.1 b cs (by rw[this.1];exact hb),rfl⟩,λb o hb=>⟨o,by rw[g3.2.2.2,g3.2.1,this.2.1];exact hb,rfl⟩⟩
  ·rw[e'] at g3
   have:=cm (by omega) r1;rw[e];exact⟨λb cs hb=>⟨cs,by rw[g3.2.2.1,g3.1,this.1];exact hb,rfl⟩,λb o hb=>⟨o,by rw[g3.2.2.2];exact g3.2.1 b o (by rw[this.2.1];exact hb),rfl⟩⟩
  ·have:=cm (by omega) g3;exact ei this.2.2.1 this.2.2.2
  ·rw[e'] at g3
   have:=cm (by omega) r1;rw[e];exact g3.2.2.2.trans (g3.2.1.trans this.2.1)
  ·have:=cm (by omega) g3;exact ei this.2.2.1 this.2.2.2
  ·rw[e'] at g3
   have:=cm (by omega) r1;rw[e];refine⟨λb cs hb=>?_,λb o hb=>⟨o,by rw[g3.2.2.2,g3.2.1,this.2.1];exact hb,rfl⟩⟩;rw[g3.2.2.1];exact jE _ g3.1 (by rw[this.1];exact hb)
  ·rw[e'] at g3
   have:=cm (by omega) r1;rw[e];refine⟨λb cs hb=>?_,λb o hb=>?_⟩
   ·rw[g3.2.2.1];exact jE _ g3.1 (by rw[this.1];exact hb)
   ·rw[g3.2.2.2];exact jE _ g3.2.1 (by rw[this.2.1];exact hb)
  ·have:=cm (by omega) g3;exact ei this.2.2.1 this.2.2.2
  ·have:=cm (by omega) g3;exact ei this.2.2.1 this.2.2.2
  ·rw[e'] at g3;exact ei g3.2.2.1 g3.2.2.2
  ·rw[e'] at g3;exact ei g3.2.2.1 g3.2.2.2
  ·rw[e'] at g3
   have:=cm (by omega) r1;rw[e];exact⟨λb cs hb=>⟨cs,by rw[g3.2.2.1,g3.1,this.1];exact hb,rfl⟩,λb o hb=>by rw[g3.2.2.2];exact g3.2.1 b o (by rw[this.2.1];exact hb)⟩
 obtain⟨t2,k1,k2,k3⟩:=kA (s2:=t1) p (λt ht=>by rw[g2 t,if_neg (λhw=>a2 t hw ht)]) hp h1;refine⟨t1,t2,g1,k1,λt=>?_,?_⟩
 ·rw[k2 t]
  by_cases hw:t∈wr p.op
  ·rw[if_pos hw,f2 t (a1 t hw).2]
  ·rw[if_neg hw,g2 t]
   by_cases hw2:t∈wr x.op
   ·rw[if_pos hw2]
   ·rw[if_neg hw2,f2 t hw2,f1 t hw]
 · -- the boxes
  rcases nq hc with e|e|⟨e,e'⟩|⟨e,e'⟩|⟨e,e'⟩|⟨e,e'⟩|⟨e,e'⟩|⟨e,e'⟩|⟨e,e'⟩|⟨e,e'⟩|⟨e,e'⟩|⟨e,e'⟩|⟨e,e'⟩|⟨e,e'⟩|⟨e,e'⟩|⟨e,e'⟩
  ·have q1:=cm (by omega) r1
   have q2:=cm (by omega) k3;have q3:=eu g3 q1.1.symm q1.2.1.symm;exact⟨q2.2.2.1.trans q3.1,q2.2.2.2.trans q3.2⟩
  ·have q2:=cm (by omega) g3
   have q3:=eu k3 q2.2.2.1 q2.2.2.2;exact⟨q3.1.trans q2.1.symm,q3.2.trans q2.2.1.symm⟩
  ·have q2:=cm (by omega) g3
   have q3:=eu k3 q2.2.2.1 q2.2.2.2;exact⟨q3.1.trans q2.1.symm,q3.2.trans q2.2.1.symm⟩
  ·have q1:=cm (by omega) r1
   have q2:=cm (by omega) k3;have q3:=eu g3 q1.1.symm q1.2.1.symm;exact⟨q2.2.2.1.trans q3.1,q2.2.2.2.trans q3.2⟩
  ·have q1:=cm (by omega) r1
   have q2:=cm (by omega) k3;have q3:=eu g3 q1.1.symm q1.2.1.symm;exact⟨q2.2.2.1.trans q3.1,q2.2.2.2.trans q3.2⟩
  ·have q1:=cm (by omega) r1
   have q2:=cm (by omega) k3;have q3:=eu g3 q1.1.symm q1.2.1.symm;exact⟨q2.2.2.1.trans q3.1,q2.2.2.2.trans q3.2⟩
  ·have q2:=cm (by omega) g3
   have q3:=eu k3 q2.2.2.1 q2.2.2.2;exact⟨q3.1.trans q2.1.symm,q3.2.trans q2.2.1.symm⟩
  ·have q1:=cm (by omega) r1
   have q2:=cm (by omega) k3;have q3:=eu g3 q1.1.symm q1.2.1.symm;exact⟨q2.2.2.1.trans q3.1,q2.2.2.2.trans q3.2⟩
  ·have q2:=cm (by omega) g3
   have q3:=eu k3 q2.2.2.1 q2.2.2.2;exact⟨q3.1.trans q2.1.symm,q3.2.trans q2.2.1.symm⟩
  ·have q1:=cm (by omega) r1
   have q2:=cm (by omega) k3;have q3:=eu g3 q1.1.symm q1.2.1.symm;exact⟨q2.2.2.1.trans q3.1,q2.2.2.2.trans q3.2⟩
  ·have q1:=cm (by omega) r1
   have q2:=cm (by omega) k3;have q3:=eu g3 q1.1.symm q1.2.1.symm;exact⟨q2.2.2.1.trans q3.1,q2.2.2.2.trans q3.2⟩
  ·have q2:=cm (by omega) g3
   have q3:=eu k3 q2.2.2.1 q2.2.2.2;exact⟨q3.1.trans q2.1.symm,q3.2.trans q2.2.1.symm⟩
  ·have q2:=cm (by omega) g3
   have q3:=eu k3 q2.2.2.1 q2.2.2.2;exact⟨q3.1.trans q2.1.symm,q3.2.trans q2.2.1.symm⟩
  ·have q2:=g3
   rw[e'] at q2;have q3:=eu k3 q2.2.2.1 q2.2.2.2;exact⟨q3.1.trans q2.1.symm,q3.2.trans q2.2.1.symm⟩
  ·have q2:=g3
   rw[e'] at q2;have q3:=eu k3 q2.2.2.1 q2.2.2.2;exact⟨q3.1.trans q2.1.symm,q3.2.trans q2.2.1.symm⟩
  ·have q1:=cm (by omega) r1
   have q2:=cm (by omega) k3;have q3:=eu g3 q1.1.symm q1.2.1.symm;exact⟨q2.2.2.1.trans q3.1,q2.2.2.2.trans q3.2⟩
end
end
end Go.Lw