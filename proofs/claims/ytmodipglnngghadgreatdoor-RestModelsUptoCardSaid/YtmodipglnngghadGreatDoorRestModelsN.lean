/-
  The texts that the proof stands on, part 14.
-/
import Derived.Test.YtmodipglnngghadGreatDoorRestModelsM
import Derived.TacticsIn
set_option linter.unusedVariables false
set_option linter.unusedSimpArgs false
set_option linter.unnecessarySimpa false

set_option maxRecDepth 100000
set_option maxHeartbeats 4000000
namespace Go.Lw
open Go
section
open Go.RowKit
section
variable {fi:FI} {M M':Mem} {w w':World} {P:Program} {s s':St} {a:Act} {cf:CallF}
def CV (c:Array Oper):Option (Nat×Bool)->Option (Nat×Bool)->Bool
 |none,none=>true
 |some (t,b),some (g,a)=>((c[g]?).bind (·.dst)==some t)&&(b==a)
 |_,_=>false
def lI (P:Program) (b:FI) (N:Nat) (a:Array Oper) (i:IOpG) (o:Oper):Bool:=
 cj P b i.op o.op&&(o.dst==bq i.op)&&(match bq i.op with|some d=>decide (d<N)|none=>true)&&CV a i.guard o.guard
def iG (P:Program) (b:FI) (N:Nat) (a:Array Oper):List IOpG->List Oper->Bool
 |[],[]=>true
 |i::d,o::c=>lI P b N a i o&&iG P b N a d c
 |_,_=>false
theorem xr {N:Nat} {a:Array Oper} {i:IOpG} {o:Oper} (h:lI P fi N a i o=true) :
  cj P fi i.op o.op=true/\o.dst=bq i.op/\(∀d,bq i.op=some d->d<N)/\CV a i.guard o.guard=true:=by
 simp only[lI,aS,dA] at h;obtain⟨⟨⟨g,f⟩,b⟩,e⟩:=h;refine⟨g,f,λd c=>?_,e⟩;rw[c] at b;simpa using b
noncomputable def opG (c:CallF) (i:IOpG) (s:St):Option St:=
 match i.guard with
 |none=>ae c s i.op
 |some (g,a)=>match get s.env g with
  |some (.bool b)=>if b=a then ae c s i.op else some (eQ s i.op)
  |some .und=>some (eQ s i.op)
  |_=>none
theorem mE (i:IOpG) (l:List IOpG) (s:St):dt cf (i::l) s=(opG cf i s).bind (dt cf l):=by
 obtain⟨op,b⟩:=i;cases b with
 |none=>rfl
 | some q=>
  obtain⟨g,a⟩:=q;simp only[dt,opG];cases c:get s.env g with
  |none=>rfl
  |some v=>
   cases v<;>simp only[Option.bind_none,cJ];split<;>simp
theorem E0 (c:Inv fi M w s a) {i:IOp} (b:∀d,bq i=some d->d<a.tmps.size):Inv fi M w (eQ s i) (a.put (bq i) undef):=by
 unfold eQ;cases e:bq i with
 |none=>exact c
 |some d=>exact c.put (b d e) (RepP.repE .und).repAt
theorem xt {r:Option Nat} {n:Nat} (y:ii P fi cf) (x:sv P fi cf) (p:Inv fi M w s a) {N:Nat} {l:Array Oper} {i:IOpG} {o:Oper} (O:lI P fi N l i o=true) (S:N<=a.tmps.size) (h:opG cf i s=some s')
  {next:Act->World->Prop} {Q:Exit->Act->World->Prop} (hn:∀D M' w',Inv fi M' w' s' D->Kp M w M' w'->D.tmps.size=a.tmps.size->next D w') :
  if Region.wanted o (yielded l a.tmps) then o.wpIn (FR r) n P a w next Q else next (a.put o.dst undef) w:=by
 obtain⟨I,C,T,k⟩:=xr O;have e:∀d,bq i.op=some d->d<a.tmps.size:=λd R=>aO (T d R) S
 have c:next (a.put o.dst undef) w\/s'≠eQ s i.op:=by
  by_cases G:s'=eQ s i.op
  ·left
   subst G;rw[C];exact hn _ M w (E0 p e) (Kp.refl M w) (by cases bq i.op<;>simp[Act.put])
  ·exact .inr G
 unfold opG at h;unfold Region.wanted;cases H:i.guard with
 |none=>
  rw[H] at h k;cases f:o.guard with
  |none=>simp only[if_true];exact xq y x p I C e h hn
  |some q=>rw[f] at k;simp[CV] at k
 | some q=>
  obtain⟨g,E⟩:=q;rw[H] at h k;cases f:o.guard with
  |none=>rw[f] at k;simp[CV] at k
  | some L=>
   obtain⟨j,A⟩:=L;rw[f] at k;simp only[CV,aS,dA] at k;obtain⟨B,rfl⟩:=k;simp only at h;have F:∀v,get s.env g=some v->yielded l a.tmps j=(match a.tmps.getD g undef with| .bool b=>some b|_=>none):=by intro v t;have e:=(p.env g v t).1;simp only[yielded,B,cJ];simp only[cS,Array.getElem?_eq_getElem e,Option.getD_some];split<;>split<;>simp_all
   split at h
   ·rename_i b z
    have t:a.tmps.getD g undef= .bool b:=RepE.bool (p.env g _ z).2;simp only[F _ z,t];split at h
    ·rename_i m
     subst m;simp only[beq_self_eq_true,if_true];exact xq y x p I C e h hn
    ·rename_i m
     cases h;rw[if_neg (by simpa using m)];exact c.resolve_right bh
   ·rename_i z
    cases h;have t:a.tmps.getD g undef=undef:=by have:=(p.env g _ z).2;generalize a.tmps.getD g undef=u at this;cases (show RepP fi M w .und u from this);rfl
    simp only[F _ z,t];rw[if_neg (by simp[undef])];exact c.resolve_right bh
   ·cases h
theorem xu {r:Option Nat} {n:Nat} (e:ii P fi cf) (d:sv P fi cf) {N:Nat} {b:Array Oper} {Q:Exit->Act->World->Prop}:∀{j:List IOpG} {f:List Oper} {M:Mem} {w:World} {s:St} {a:Act},iG P fi N b j f=true->Inv fi M w s a->N<=a.tmps.size->dt cf j s=some s'->
  (∀g M' w',Inv fi M' w' s' g->Kp M w M' w'->g.tmps.size=a.tmps.size->Q .normal g w')->wpListIn (FR r) n P b Q f a w
 |[],[],M,w,s,a,_,q,_,h,hn=>by simp[dt] at h;subst h;exact hn a M w q (Kp.refl M w) rfl
 |[],_::_,_,_,_,_,c,_,_,_,_=>by simp[iG] at c
 |_::_,[],_,_,_,_,c,_,_,_,_=>by simp[iG] at c
 | i::j,o::f,M,w,s,a,c,q,x,h,hn=>by
  simp only[iG,aS] at c;rw[mE,aC] at h;obtain⟨C,z,y⟩:=h
  have:=xt (r:=r) (n:=n) (Q:=Q) (next:=wpListIn (FR r) n P b Q f) e d q c.1 x z (λg M' w' p v u=>
   xu e d c.2 p aj y (λA B t m l k=>hn A B t m (v.trans l) (k.trans u)))
  unfold wpListIn;split
  ·rename_i hw;rw[if_pos hw] at this;exact this
  ·rename_i hw;rw[if_neg hw] at this;exact⟨λ_ _=>trivial,this⟩
end
end
section
open Go.RowKit
variable {e e2:fT} {x:IX}
def rdX:IX->gj
 | .t n=>[n]
 |_=>[]
def mF (a:List IX):gj:=a.flatMap rdX
def rdO:Option IX->gj
 |some x=>rdX x
 |none=>[]
def gK (a:List (Nat×Nat×IX)):gj:=a.flatMap λp=>rdX p.2.2
def rd:IOp->gj
 | .loadM _ _ _ x| .loadS _ _ _ x| .mvS _ x| .lenD _ x| .faddrD _ x _| .mv _ x| .clearK x| .box _ _ _ x| .load _ _ _ x| .loadK _ x| .loadH _ x| .loadT _ x| .loadL _ x| .nilc _ x| .eqn _ _ x| .un _ _ x| .conv _ _ x| .faddr _ x _| .field _ _ _ _ x| .len _ _ x| .extract _ x _| .mksl _ _ _ _ _ x| .mkarr _ _ _ _ x| .loadJ _ _ _ x| .boxB _ x=>rdX x
 | .tk _ n| .tkS _ n _| .mvF _ n=>[n]
 | .pick _ c x y=>rdX c++(rdX x++rdX y)
 | .alloc _ _ _| .mkmap _| .mkbld _| .loadG _ _=>[]
 | .build _ _ d| .buildT _ _ d| .buildA _ _ d=>gK d
 | .buildSlF _ _ a| .buildSl _ _ a| .boxSl _ _ a| .buildSlK _ a| .mkfn _ _ a| .mkbf _ _ a| .maxi _ a| .call _ _ _ a| .callF _ _ a=>mF a
 | .iaddrD _ _ x y| .paddrD _ _ x y| .storeD x y| .store _ _ x y| .bin _ _ x y| .eqa _ _ _ x y| .eqb _ _ x y| .iaddr _ _ _ x y| .index _ _ _ _ x y| .indexS _ x y| .lookup _ _ x y _ _| .append _ _ _ x y| .appendN _ _ x y| .appendK _ _ x y| .appendE _ _ x y| .storeK x y=>rdX x++rdX y
 | .slice _ _ x e g| .sliceS _ x e g=>rdX x++(rdO e++rdO g)
 | .mupd _ m k x=>rdX m++(rdX k++rdX x)
 | .callv _ _ f a| .callE _ f a=>rdX f++mF a
 | .loadN _ _ _ x n| .loadB _ _ _ x n| .loadKB _ x n| .loadTB _ x n _=>n::rdX x
 | .callP _ _ a b=>b++mF a
 | .callR _ _ a n _=>n::mF a
 | .appendP _ _ x y b| .storeP _ _ x y b=>b++(rdX x++rdX y)
def wr (i:IOp):gj:=
 (bq i).toList++match i with
  | .tk _ n| .tkS _ n _=>[n]
  | .box _ _ true x| .store true _ _ x| .storeP true _ _ x _| .append _ _ _ x _| .appendE _ _ x _=>rdX x
  | .buildT _ _ a| .buildA _ _ a=>gK a
  |_=>[]
def cls:IOp->Nat
 | .box _ false _ _| .alloc _ false _=>3
 | .box _ true _ _| .alloc _ true _| .mksl _ true _ _ _ _=>5
 | .mkmap _| .mkbld _| .boxB _ _| .buildSlK _ _=>4
 | .load _ _ _ _| .loadS _ _ _ _| .loadN _ _ _ _ _| .loadB _ _ _ _ _| .loadJ _ _ _ _| .lookup _ _ _ _ _ _| .callE _ _ _=>2
 | .len _ a _=>if a=2 then 2 else 0
 | .loadK _ _| .loadKB _ _ _| .appendE _ _ _ _=>1
 | .callP _ _ _ _| .callR _ _ _ _ _| .buildA _ _ _| .boxSl _ _ _=>5
 | .call _ q _ _| .callv _ q _ _=>if q then 1 else 5
 | .loadL _ _=>6
 | .loadH _ _=>8
 | .loadT _ _| .loadTB _ _ _ _| .appendK _ _ _ _=>7
 | .appendN _ _ _ _| .appendP _ _ _ _ _=>9
 | .loadM _ _ _ _| .storeD _ _| .store _ _ _ _| .storeP _ _ _ _ _| .mupd _ _ _ _| .storeK _ _| .clearK _=>5
 |_=>0
def GObj.deg:GObj->GObj
 | .cells b=> .cells (b.map aw)
 | .map a=> .map a
 | .stk _ _=> .stk 0 []
 | .bld s=> .bld s
 | .trash=> .trash
def HOk (c:Nat) (s a:St):Prop:=
 match c with
 |0=>True
 |1=>a.gh=s.gh
 |2=>(∀(b:Nat) (f:fw),s.lh[b]?=some f->∃d,a.lh[b]?=some d/\d.map aw=f.map aw)/\∀(b:Nat) (o:GObj),s.gh[b]?=some o->∃e,a.gh[b]?=some e/\e.deg=o.deg
 |8=>a.lh=s.lh
 |_=>a.lh=s.lh/\a.gh=s.gh
def HRes (c:Nat) (s d e a:St):Prop:=
 match c with
 |0|1|2|8=>d.lh=s.lh/\d.gh=s.gh/\a.lh=e.lh/\a.gh=e.gh
 |3=>(∃g,d.lh=s.lh++[g])/\d.gh=s.gh/\a.lh=d.lh/\a.gh=d.gh
 |4=>d.lh=s.lh/\(∃o,d.gh=s.gh++[o])/\a.lh=d.lh/\a.gh=d.gh
 |6=>d.lh.map (List.map aw)=s.lh.map (List.map aw)/\d.gh=s.gh/\a.lh=d.lh/\a.gh=d.gh
 |7=>d.lh.map (List.map aw)=s.lh.map (List.map aw)/\d.gh.map GObj.deg=s.gh.map GObj.deg/\a.lh=d.lh/\a.gh=d.gh
 |9=>d.lh=s.lh/\(∀(b:Nat) (o:GObj),s.gh[b]?=some o->∃f,d.gh[b]?=some f/\f.deg=o.deg)/\a.lh=d.lh/\a.gh=d.gh
 |_=>a.lh=d.lh/\a.gh=d.gh
section
variable {s s' s2:St} {cf:CallF}
theorem ce (h:∀t∈rdX x,get e2 t=get e t):ai e2 x=ai e x:=by cases x<;>simp[ai];rw[h _ (by simp[rdX])]
theorem E1 (h:∀t∈rdX x,get e2 t=get e t):gG e2 x=gG e x:=by cases x<;>simp[gG];rw[h _ (by simp[rdX])]
theorem iH {e b:fT}:∀{xs:List IX},(∀t∈mF xs,get b t=get e t)->ei b xs=ei e xs
 |[],_=>rfl
 |x::l,h=>by simp only[mF,cU,cE] at h;simp only[ei];rw[ce (λt a=>h t (.inl a)),iH (xs:=l) (λt a=>h t (.inr a))]
theorem xw {e b:fT}:∀{ps:List (Nat×Nat×IX)},(∀t∈gK ps,get b t=get e t)->iW b ps=iW e ps
 |[],_=>rfl
 |(o,k,x)::l,h=>by simp only[gK,cU,cE] at h;simp only[iW];rw[ce (λt a=>h t (.inl a)),xw (ps:=l) (λt a=>h t (.inr a))]
theorem qE {d:Nat} {x:Option IX} (h:∀t∈rdO x,get e2 t=get e t):eF e2 d x=eF e d x:=by
 cases x with
 |none=>rfl
 |some x=>simp only[eF];rw[ce h]
def EnvR (a:gj) (d c b:fT):Prop:=∀t,get b t=if t∈a then get d t else get c t
theorem EnvR.put {e c:fT} {d:Nat} {v:PV} {a:gj} (h:∀t,t∈a↔t=d):EnvR a (put e d v) c (put c d v):=by
 intro t;rw[dl,dl];by_cases b:d=t
 ·subst b;simp[(h d).2 rfl]
 ·have:t∉a:=λhw=>b ((h t).1 hw).symm
  simp[b,this]
theorem EnvR.refl {c b:fT} {a:gj} (h:∀t,t∉a):EnvR a c b b:=λt=>by simp[h t]
theorem C2 {d:fT} {v:PV} (h:∀t∈rdX x,get e2 t=get e t) (a:f6 e x=some (v,d)) :
  ∃b,f6 e2 x=some (v,b)/\EnvR (rdX x) d e2 b:=by
 cases x with
 |t n=>
  simp only[f6,aE,bZ] at a ⊢;obtain⟨g,i,rfl,rfl⟩:=a;rw[h n (by simp[rdX])];exact⟨_,⟨g,i,rfl,rfl⟩,EnvR.put (by simp[rdX])⟩
 |c p=>
  simp only[f6,bW,bZ] at a ⊢;obtain⟨rfl,rfl⟩:=a;exact⟨_,⟨rfl,rfl⟩,EnvR.refl (by simp[rdX])⟩
 |f j=>
  simp only[f6,bW,bZ] at a ⊢;obtain⟨rfl,rfl⟩:=a;exact⟨_,⟨rfl,rfl⟩,EnvR.refl (by simp[rdX])⟩
theorem EnvR.trans {a g:gj} {j i f d c:fT} (h:EnvR a j i f) (l:EnvR g d f c) (k:∀t,t∉g->get d t=get j t):EnvR (a++g) d i c:=by
 intro t;rw[l t,h t];simp only[cE];by_cases b:t∈g
 ·simp[b]
 ·by_cases hw:t∈a
  ·simp[hw,b,k t b]
  ·simp[hw,b]
theorem xx:∀{ps:List (Nat×Nat×IX)} {e e2 c:fT} {d:List (Nat×Nat×PV)},(∀t∈gK ps,get e2 t=get e t)->iX e ps=some (d,c)->
  ∃b,iX e2 ps=some (d,b)/\EnvR (gK ps) c e2 b/\∀t,t∉gK ps->get c t=get e t
 |[],e,e2,c,d,_,a=>by simp only[iX,bW,bZ] at a ⊢;obtain⟨rfl,rfl⟩:=a;exact⟨_,⟨rfl,rfl⟩,EnvR.refl (by simp[gK]),λ_ _=>rfl⟩
 | (o,k,x)::l,e,e2,c,d,h,a=>by
  simp only[gK,cU,cE] at h;simp only[iX,aC,aE,Prod.exists,bZ] at a ⊢;obtain⟨v,A,i,f,z,y,rfl,rfl⟩:=a;obtain⟨q,u,n⟩:=C2 (e2:=e2) (λt a=>h t (.inl a)) i;obtain⟨e5,g,j⟩:=C2 (e2:=e) (λt a=>rfl) i;rw[i] at g;simp only[bW,bZ,true_and] at g;subst g;obtain⟨p,s,r,m⟩:=xx (ps:=l) (e2:=q) (λt a=>by
   rw[n t];split
   ·rfl
   ·rename_i w
    rw[j t,if_neg w];exact h t (.inr a)) y
  refine⟨p,⟨v,q,u,f,p,s,rfl,rfl⟩,?_,λt a=>?_⟩
  ·simp only[gK,cU]
   exact n.trans r m
  ·simp only[gK,cU,cE,not_or] at a
   rw[m t a.2,j t,if_neg a.1]
end
end
section
open Go.RowKit
section
variable {s s' s2:St} {cf:CallF}
def Fills (a:CallF) (i:IOp) (d:Nat):Prop:=
 ∀s s2:St,(∀t∈rd i,get s2.env t=get s.env t)->∀s',ae a s i=some s'->∃v,s'=s.put d v/\ae a s2 i=some (s2.put d v)
theorem fills_mv {d x}:Fills cf (.mv d x) d:=by intro s s2 ha s' h;have c:gG s2.env x=gG s.env x:=E1 (λt b=>ha t (by simp[rd,b]));simp only[ae,c] at h ⊢;simp only[aE] at h ⊢;obtain⟨v,a,rfl⟩:=h;exact⟨v,rfl,v,a,rfl⟩
theorem fills_mvF {d n}:Fills cf (.mvF d n) d:=by
 intro s s2 ha s' h;have a:get s2.env n=get s.env n:=ha n (by simp[rd]);simp only[ae,a] at h ⊢;split at h
 ·cases h;exact⟨_,rfl,rfl⟩
 ·cases h
theorem fills_mvS {d x}:Fills cf (.mvS d x) d:=by intro s s2 ha s' h;have c:ai s2.env x=ai s.env x:=ce (λt b=>ha t (by simp[rd,b]));simp only[ae,c] at h ⊢;simp only[aE] at h ⊢;obtain⟨v,a,rfl⟩:=h;exact⟨_,rfl,v,a,rfl⟩
theorem fills_lenD {d x}:Fills cf (.lenD d x) d:=by
 intro s s2 ha s' h;have b:ai s2.env x=ai s.env x:=ce (λt a=>ha t (by simp[rd,a]));simp only[ae,b] at h ⊢;split at h
 ·cases h;exact⟨_,rfl,rfl⟩
 ·cases h;exact⟨_,rfl,rfl⟩
 ·cases h
theorem fills_iaddrD {d z x i}:Fills cf (.iaddrD d z x i) d:=by
 intro s s2 ha s' h;have e:ai s2.env x=ai s.env x:=ce (λt a=>ha t (by simp[rd,a]));have c:ai s2.env i=ai s.env i:=ce (λt a=>ha t (by simp[rd,a]));simp only[ae,e,c] at h ⊢;split at h
 ·split at h
  ·rename_i b
   cases h;exact⟨_,rfl,by simp[b]⟩
  ·cases h
 ·cases h
theorem fills_faddrD {d x k}:Fills cf (.faddrD d x k) d:=by
 intro s s2 ha s' h;have c:ai s2.env x=ai s.env x:=ce (λt a=>ha t (by simp[rd,a]));simp only[ae,c] at h ⊢;split at h
 ·split at h
  ·rename_i b
   cases h;exact⟨_,rfl,by simp[b]⟩
  ·cases h
 ·cases h
theorem fills_paddrD {d n x i}:Fills cf (.paddrD d n x i) d:=by
 intro s s2 ha s' h;have e:ai s2.env x=ai s.env x:=ce (λt a=>ha t (by simp[rd,a]));have c:ai s2.env i=ai s.env i:=ce (λt a=>ha t (by simp[rd,a]));simp only[ae,e,c] at h ⊢;split at h
 ·split at h
  ·rename_i b
   cases h;exact⟨_,rfl,by simp[b]⟩
  ·cases h
 ·cases h
theorem fills_loadG {d ss}:Fills cf (.loadG d ss) d:=by intro s s2 ha s' h;simp only[ae,bW] at h ⊢;exact⟨_,h.symm,rfl⟩
theorem fills_pick {d c x y}:Fills cf (.pick d c x y) d:=by
 intro s s2 ha s' h;have f:ai s2.env c=ai s.env c:=ce (λt a=>ha t (by simp[rd,a]));have e:ai s2.env x=ai s.env x:=ce (λt a=>ha t (by simp[rd,a]));have b:ai s2.env y=ai s.env y:=ce (λt a=>ha t (by simp[rd,a]));simp only[ae,f,e,b] at h ⊢
 repeat' split at h
 all_goals first
  |(cases h;done)
  |(cases h;exact⟨_,rfl,by simp[*]⟩)
  |(simp only[aE] at h;obtain⟨v,g,rfl⟩:=h;exact⟨_,rfl,by simp[*]⟩)
  | (simp only[aC] at h;obtain⟨p,j,q,i,h⟩:=h;split at h
     ·rename_i k;cases h;exact⟨_,rfl,by simp[*]⟩
     ·cases h)
theorem fills_build {d z ps}:Fills cf (.build d z ps) d:=by
 intro s s2 ha s' h;have f:iW s2.env ps=iW s.env ps:=xw (λt b=>ha t (by simp[rd,b]));simp only[ae,f] at h ⊢;simp only[aC] at h ⊢;obtain⟨p,c,h⟩:=h;split at h
 ·rename_i e
  simp only[aE] at h;obtain⟨v,a,rfl⟩:=h;exact⟨_,rfl,p,c,by rw[if_pos e,a];rfl⟩
 ·cases h
theorem fills_buildSl {d z els}:Fills cf (.buildSl d z els) d:=by
 intro s s2 ha s' h;have e:ei s2.env els=ei s.env els:=iH (λt a=>ha t (by simp[rd,a]));simp only[ae,e] at h ⊢;simp only[aC] at h ⊢;obtain⟨p,b,h⟩:=h;split at h
 ·rename_i c;cases h;exact⟨_,rfl,p,b,by rw[if_pos c]⟩
 ·cases h
theorem fills_buildSlF {d z els}:Fills cf (.buildSlF d z els) d:=by
 intro s s2 ha s' h;have e:ei s2.env els=ei s.env els:=iH (λt a=>ha t (by simp[rd,a]));simp only[ae,e] at h ⊢;simp only[aC] at h ⊢;obtain⟨p,b,h⟩:=h;split at h
 ·rename_i c;cases h;exact⟨_,rfl,p,b,by rw[if_pos c]⟩
 ·cases h
theorem fills_mksl {d z bytes zero l}:Fills cf (.mksl d false z bytes zero l) d:=by
 intro s s2 ha s' h;have e:ai s2.env l=ai s.env l:=ce (λt a=>ha t (by simp[rd,a]));simp only[ae,e] at h ⊢;split at h
 ·rename_i k n f
  split at h
  ·rename_i c
   split at h<;>try (cases h;done)
   rename_i b;cases h;exact⟨_,rfl,by rw[if_pos c];simp only[if_pos b]⟩
  ·cases h
 ·cases h
theorem fills_nilc {d x}:Fills cf (.nilc d x) d:=by
 intro s s2 ha s' h;have b:ai s2.env x=ai s.env x:=ce (λt a=>ha t (by simp[rd,a]));simp only[ae,b] at h ⊢
 repeat' split at h
 all_goals first
  |(cases h;done)
  |(cases h;exact⟨_,rfl,by simp[*]⟩)
  |(simp only[aE] at h;obtain⟨v,c,rfl⟩:=h;exact⟨_,rfl,by simp[*]⟩)
  | (simp only[aC] at h;obtain⟨p,f,q,e,h⟩:=h;split at h
     ·rename_i g;cases h;exact⟨_,rfl,by simp[*]⟩
     ·cases h)
theorem fills_bin {d op x y}:Fills cf (.bin d op x y) d:=by intro s s2 ha s' h;have g:ai s2.env x=ai s.env x:=ce (λt a=>ha t (by simp[rd,a]));have f:ai s2.env y=ai s.env y:=ce (λt a=>ha t (by simp[rd,a]));simp only[ae,g,f] at h ⊢;simp only[aC,aE] at h ⊢;obtain⟨p,e,q,c,v,b,rfl⟩:=h;exact⟨v,rfl,p,e,q,c,v,b,rfl⟩
theorem fills_eqa {d neg ks x y}:Fills cf (.eqa d neg ks x y) d:=by
 intro s s2 ha s' h;have c:ai s2.env x=ai s.env x:=ce (λt a=>ha t (by simp[rd,a]));have b:ai s2.env y=ai s.env y:=ce (λt a=>ha t (by simp[rd,a]));simp only[ae,c,b] at h ⊢
 repeat' split at h
 all_goals first
  |(cases h;done)
  |(cases h;exact⟨_,rfl,by simp[*]⟩)
  |(simp only[aE] at h;obtain⟨v,e,rfl⟩:=h;exact⟨_,rfl,by simp[*]⟩)
  | (simp only[aC] at h;obtain⟨p,g,q,f,h⟩:=h;split at h
     ·rename_i i;cases h;exact⟨_,rfl,by simp[*]⟩
     ·cases h)
theorem fills_eqb {d neg x y}:Fills cf (.eqb d neg x y) d:=by
 intro s s2 ha s' h;have c:ai s2.env x=ai s.env x:=ce (λt a=>ha t (by simp[rd,a]));have b:ai s2.env y=ai s.env y:=ce (λt a=>ha t (by simp[rd,a]));simp only[ae,c,b] at h ⊢
 repeat' split at h
 all_goals first
  |(cases h;done)
  |(cases h;exact⟨_,rfl,by simp[*]⟩)
  |(simp only[aE] at h;obtain⟨v,e,rfl⟩:=h;exact⟨_,rfl,by simp[*]⟩)
  | (simp only[aC] at h;obtain⟨p,g,q,f,h⟩:=h;split at h
     ·rename_i i;cases h;exact⟨_,rfl,by simp[*]⟩
     ·cases h)
theorem fills_eqn {d neg x}:Fills cf (.eqn d neg x) d:=by
 intro s s2 ha s' h;have b:ai s2.env x=ai s.env x:=ce (λt a=>ha t (by simp[rd,a]));simp only[ae,b] at h ⊢
 repeat' split at h
 all_goals first
  |(cases h;done)
  |(cases h;exact⟨_,rfl,by simp[*]⟩)
  |(simp only[aE] at h;obtain⟨v,c,rfl⟩:=h;exact⟨_,rfl,by simp[*]⟩)
  | (simp only[aC] at h;obtain⟨p,f,q,e,h⟩:=h;split at h
     ·rename_i g;cases h;exact⟨_,rfl,by simp[*]⟩
     ·cases h)
theorem fills_un {d op x}:Fills cf (.un d op x) d:=by intro s s2 ha s' h;have e:ai s2.env x=ai s.env x:=ce (λt b=>ha t (by simp[rd,b]));simp only[ae,e] at h ⊢;simp only[aC,aE] at h ⊢;obtain⟨p,c,v,a,rfl⟩:=h;exact⟨v,rfl,p,c,v,a,rfl⟩
theorem fills_conv {d k x}:Fills cf (.conv d k x) d:=by
 intro s s2 ha s' h;have b:ai s2.env x=ai s.env x:=ce (λt a=>ha t (by simp[rd,a]));simp only[ae,b] at h ⊢
 repeat' split at h
 all_goals first
  |(cases h;done)
  |(cases h;exact⟨_,rfl,by simp[*]⟩)
  |(simp only[aE] at h;obtain⟨v,c,rfl⟩:=h;exact⟨_,rfl,by simp[*]⟩)
  | (simp only[aC] at h;obtain⟨p,f,q,e,h⟩:=h;split at h
     ·rename_i g;cases h;exact⟨_,rfl,by simp[*]⟩
     ·cases h)
theorem fills_mkfn {d f caps}:Fills cf (.mkfn d f caps) d:=by
 intro s s2 ha s' h;have e:ei s2.env caps=ei s.env caps:=iH (λt a=>ha t (by simp[rd,a]));simp only[ae,e] at h ⊢;simp only[aC] at h ⊢;obtain⟨p,b,h⟩:=h;split at h
 ·rename_i c;cases h;exact⟨_,rfl,p,b,by rw[if_pos c]⟩
 ·cases h
theorem fills_mkbf {d f caps}:Fills cf (.mkbf d f caps) d:=by
 intro s s2 ha s' h;have e:ei s2.env caps=ei s.env caps:=iH (λt a=>ha t (by simp[rd,a]));simp only[ae,e] at h ⊢;simp only[aC] at h ⊢;obtain⟨p,b,h⟩:=h;split at h
 ·rename_i c;cases h;exact⟨_,rfl,p,b,by rw[if_pos c]⟩
 ·cases h
theorem fills_slice {d z x lo hi}:Fills cf (.slice d z x lo hi) d:=by
 intro s s2 ha s' h;have g:ai s2.env x=ai s.env x:=ce (λt a=>ha t (by simp[rd,a]));have f:∀n,eF s2.env n lo=eF s.env n lo:=λn=>qE (λt a=>ha t (by simp[rd,a]))
 have e:∀n,eF s2.env n hi=eF s.env n hi:=λn=>qE (λt a=>ha t (by simp[rd,a]))
 simp only[ae,g,f,e] at h ⊢
 repeat' split at h
 all_goals first
  |(cases h;done)
  |(cases h;exact⟨_,rfl,by simp[*]⟩)
  |(simp only[aE] at h;obtain⟨v,i,rfl⟩:=h;exact⟨_,rfl,by simp[*]⟩)
  | (simp only[aC] at h;obtain⟨p,b,q,j,h⟩:=h;split at h
     ·rename_i c;cases h;exact⟨_,rfl,by simp[*]⟩
     ·cases h)
  | (simp only[aC] at h;obtain⟨p,b,h⟩:=h;split at h
     ·rename_i c;cases h;exact⟨_,rfl,by simp[*]⟩
     ·cases h)
theorem fills_sliceS {d x lo hi}:Fills cf (.sliceS d x lo hi) d:=by
 intro s s2 ha s' h;have e:ai s2.env x=ai s.env x:=ce (λt a=>ha t (by simp[rd,a]));have c:∀n,eF s2.env n lo=eF s.env n lo:=λn=>qE (λt a=>ha t (by simp[rd,a]))
 have b:∀n,eF s2.env n hi=eF s.env n hi:=λn=>qE (λt a=>ha t (by simp[rd,a]))
 simp only[ae,e,c,b] at h ⊢
 repeat' split at h
 all_goals first
  |(cases h;done)
  |(cases h;exact⟨_,rfl,by simp[*]⟩)
  |(simp only[aE] at h;obtain⟨v,f,rfl⟩:=h;exact⟨_,rfl,by simp[*]⟩)
  | (simp only[aC] at h;obtain⟨p,i,q,g,h⟩:=h;split at h
     ·rename_i j;cases h;exact⟨_,rfl,by simp[*]⟩
     ·cases h)
theorem fills_faddr {d x off}:Fills cf (.faddr d x off) d:=by
 intro s s2 ha s' h;have b:ai s2.env x=ai s.env x:=ce (λt a=>ha t (by simp[rd,a]));simp only[ae,b] at h ⊢
 repeat' split at h
 all_goals first
  |(cases h;done)
  |(cases h;exact⟨_,rfl,by simp[*]⟩)
  |(simp only[aE] at h;obtain⟨v,c,rfl⟩:=h;exact⟨_,rfl,by simp[*]⟩)
  | (simp only[aC] at h;obtain⟨p,f,q,e,h⟩:=h;split at h
     ·rename_i g;cases h;exact⟨_,rfl,by simp[*]⟩
     ·cases h)
theorem fills_iaddr {d z arr x i}:Fills cf (.iaddr d z arr x i) d:=by
 intro s s2 ha s' h;have c:ai s2.env x=ai s.env x:=ce (λt a=>ha t (by simp[rd,a]));have b:ai s2.env i=ai s.env i:=ce (λt a=>ha t (by simp[rd,a]));simp only[ae,c,b] at h ⊢
 repeat' split at h
 all_goals first
  |(cases h;done)
  |(cases h;exact⟨_,rfl,by simp[*]⟩)
  |(simp only[aE] at h;obtain⟨v,e,rfl⟩:=h;exact⟨_,rfl,by simp[*]⟩)
  | (simp only[aC] at h;obtain⟨p,g,q,f,h⟩:=h;split at h
     ·rename_i j;cases h;exact⟨_,rfl,by simp[*]⟩
     ·cases h)
theorem fills_index {d z arr agg x i}:Fills cf (.index d z arr agg x i) d:=by
 intro s s2 ha s' h;have c:ai s2.env x=ai s.env x:=ce (λt a=>ha t (by simp[rd,a]));have b:ai s2.env i=ai s.env i:=ce (λt a=>ha t (by simp[rd,a]));simp only[ae,c,b] at h ⊢
 repeat' split at h
 all_goals first
  |(cases h;done)
  |(cases h;exact⟨_,rfl,by simp[*]⟩)
  |(simp only[aE] at h;obtain⟨v,e,rfl⟩:=h;exact⟨_,rfl,by simp[*]⟩)
  | (simp only[aC] at h;obtain⟨p,g,q,f,h⟩:=h;split at h
     ·rename_i j;cases h;exact⟨_,rfl,by simp[*]⟩
     ·cases h)
theorem fills_indexS {d x i}:Fills cf (.indexS d x i) d:=by
 intro s s2 ha s' h;have c:ai s2.env x=ai s.env x:=ce (λt a=>ha t (by simp[rd,a]));have b:ai s2.env i=ai s.env i:=ce (λt a=>ha t (by simp[rd,a]));simp only[ae,c,b] at h ⊢
 repeat' split at h
 all_goals first
  |(cases h;done)
  |(cases h;exact⟨_,rfl,by simp[*]⟩)
  |(simp only[aE] at h;obtain⟨v,e,rfl⟩:=h;exact⟨_,rfl,by simp[*]⟩)
  | (simp only[aC] at h;obtain⟨p,g,q,f,h⟩:=h;split at h
     ·rename_i j;cases h;exact⟨_,rfl,by simp[*]⟩
     ·cases h)
theorem fills_extract {d x i}:Fills cf (.extract d x i) d:=by
 intro s s2 ha s' h;have b:ai s2.env x=ai s.env x:=ce (λt a=>ha t (by simp[rd,a]));simp only[ae,b] at h ⊢
 repeat' split at h
 all_goals first
  |(cases h;done)
  |(cases h;exact⟨_,rfl,by simp[*]⟩)
  |(simp only[aE] at h;obtain⟨v,c,rfl⟩:=h;exact⟨_,rfl,by simp[*]⟩)
  | (simp only[aC] at h;obtain⟨p,f,q,e,h⟩:=h;split at h
     ·rename_i g;cases h;exact⟨_,rfl,by simp[*]⟩
     ·cases h)
end
end
section
open Go.RowKit
variable {d n z b k off kn bytes f o2:Nat} {x m sx y:IX} {cs:fw} {v zero:PV} {gh:fB} {xs:List IX} {e e2:fT} {q:Bool}
section
variable {s s' s2:St} {cf:CallF}
def dI (b:CallF) (i:IOp):Prop:=
 ∀s s2:St,(∀t∈rd i,get s2.env t=get s.env t)->HOk (cls i) s s2->∀s',ae b s i=some s'->
  ∃a,ae b s2 i=some a/\EnvR (wr i) s'.env s2.env a.env/\HRes (cls i) s s' s2 a
theorem EnvR.congr {a d:gj} {g f b:fT} (h:EnvR a g f b) (hw:∀t,t∈a↔t∈d):EnvR d g f b:=λt=>by
 rw[h t];by_cases c:t∈a
 ·simp[c,(hw t).1 c]
 ·have:t∉d:=λi=>c ((hw t).2 i)
  simp[c,this]
theorem EnvR.put1 {e e2:fT} (d:Nat) (v:PV):EnvR [d] (Lw.put e d v) e2 (Lw.put e2 d v):=EnvR.put bh
theorem EnvR.thenPut {a:gj} {g f b:fT} (h:EnvR a g f b) (d:Nat) (v:PV):EnvR (a++[d]) (Lw.put g d v) f (Lw.put b d v):=
 h.trans (EnvR.put1 d v) (λt c=>by rw[dl];simp at c;simp[Ne.symm c])
theorem Fills.local {i:IOp} {d:Nat} (h:Fills cf i d) (b:cls i=0) (hw:wr i=[d]):dI cf i:=by intro s s2 ha _ s' a;obtain⟨v,rfl,c⟩:=h s s2 ha s' a;refine⟨_,c,by rw[hw];exact EnvR.put1 d v,?_⟩;rw[b];exact⟨rfl,rfl,rfl,rfl⟩
theorem E2:dI cf (.tk d n):=by intro s s2 ha _ s' h;simp only[ae,aE] at h ⊢;obtain⟨v,a,rfl⟩:=h;refine⟨_,⟨v,by rw[ha n (by simp[rd])];exact a,rfl⟩,?_,rfl,rfl,rfl,rfl⟩;exact ((EnvR.put1 (e:=s.env) (e2:=s2.env) n (degr v)).thenPut d v).congr (λt=>by simp[wr,bq];exact or_comm)
theorem E3 {g tk:Bool}:dI cf (.box d g tk x):=by
 intro s s2 ha l s' h;obtain⟨e2,k,n⟩:=s2;have f:k=s.lh/\n=s.gh:=by cases g<;>exact l
 obtain⟨rfl,rfl⟩:=f;simp only[ae] at h ⊢;split at h
 ·rename_i a
  subst a;simp only[aC,Prod.exists] at h;obtain⟨v,p,c,h⟩:=h;split at h
  ·rename_i b
   cases h;obtain⟨o,j,i⟩:=C2 (e2:=e2) (λt e=>ha t (by simp[rd,e])) c;refine⟨kG ⟨o,s.lh,s.gh⟩ d g v.cells,by simp[j,b],?_,?_⟩
   ·cases g
    ·exact (i.thenPut d _).congr (λt=>by simp[wr,bq];exact or_comm)
    ·exact (i.thenPut d _).congr (λt=>by simp[wr,bq];exact or_comm)
   ·cases g
    ·exact⟨⟨v.cells,rfl⟩,rfl,rfl,rfl⟩
    ·exact⟨rfl,rfl⟩
  ·cases h
 ·rename_i a
  simp only[Bool.not_eq_true] at a;subst a;simp only[aC] at h;obtain⟨v,c,h⟩:=h;split at h
  ·rename_i b
   cases h;have m:ai e2 x=some v:=by rw[<-c];exact ce (λt e=>ha t (by simp[rd,e]))
   refine⟨kG ⟨e2,s.lh,s.gh⟩ d g v.cells,by simp[m,b],?_,?_⟩
   ·cases g
    ·exact (EnvR.put1 d _).congr (λt=>by simp[wr,bq])
    ·exact (EnvR.put1 d _).congr (λt=>by simp[wr,bq])
   ·cases g
    ·exact⟨⟨v.cells,rfl⟩,rfl,rfl,rfl⟩
    ·exact⟨rfl,rfl⟩
  ·cases h
theorem E4 {g:Bool} {z:PV}:dI cf (.alloc d g z):=by
 intro s s2 ha e s' h;obtain⟨e2,c,f⟩:=s2;have b:c=s.lh/\f=s.gh:=by cases g<;>exact e
 obtain⟨rfl,rfl⟩:=b;simp only[ae] at h ⊢;split at h
 ·rename_i a
  cases h;refine⟨kG ⟨e2,s.lh,s.gh⟩ d g z.cells,by rw[if_pos a],?_,?_⟩
  ·cases g
   ·exact (EnvR.put1 d _).congr (λt=>by simp[wr,bq])
   ·exact (EnvR.put1 d _).congr (λt=>by simp[wr,bq])
  ·cases g
   ·exact⟨⟨z.cells,rfl⟩,rfl,rfl,rfl⟩
   ·exact⟨rfl,rfl⟩
 ·cases h
theorem xy {z:fw} {e:List (Nat×Nat×IX)}:dI cf (.buildT d z e):=by
 intro s s2 ha _ s' h;simp only[ae,aC,Prod.exists] at h;obtain⟨k,l,f,h⟩:=h;split at h
 ·rename_i i
  simp only[aE] at h;obtain⟨cs,a,rfl⟩:=h;obtain⟨j,c,b,_⟩:=xx (e2:=s2.env) (λt g=>ha t (by simp[rd,g])) f;refine⟨⟨Lw.put j d (.agg cs),s2.lh,s2.gh⟩,?_,?_,rfl,rfl,rfl,rfl⟩
  ·simp only[ae,c,cJ]
   rw[if_pos i,a];rfl
  ·exact (b.thenPut d _).congr (λt=>by simp[wr,bq];exact or_comm)
 ·cases h
theorem sS {g:Bool} (e:HOk 2 s s2) (h:s.cellsAt g b=some cs):∃a,s2.cellsAt g b=some a/\a.map aw=cs.map aw:=by
 unfold St.cellsAt at *;split at h
 ·rename_i d
  simp only[d,if_true];split at h
  ·rename_i j f
   cases h;obtain⟨o2,i,c⟩:=e.2 b _ f;cases o2 with
   |cells a=>
    simp only[GObj.deg,GObj.cells.injEq] at c;exact⟨a,by rw[i],c⟩
   |map k=>simp[GObj.deg] at c
   |stk g xs=>simp[GObj.deg] at c
   |bld t=>simp[GObj.deg] at c
   |trash=>simp[GObj.deg] at c
  ·cases h
 ·rename_i d
  simp only[d,bR,if_false];exact e.1 b cs h
theorem xz {c:List (PV×PV)} (d:HOk 2 s s2) (h:s.gh[b]?=some (.map c)):s2.gh[b]?=some (.map c):=by
 obtain⟨o2,e,a⟩:=d.2 b _ h;cases o2 with
 |cells cs=>simp[GObj.deg] at a
 |map f=>simp only[GObj.deg,GObj.map.injEq] at a;rw[e,a]
 |stk g xs=>simp[GObj.deg] at a
 |bld t=>simp[GObj.deg] at a
 |trash=>simp[GObj.deg] at a
theorem xA (v:PV):degr (aw v)=degr v:=by cases v<;>rfl
theorem sU {agg:Bool} {a:fw} (c:a.map aw=cs.map aw) (h:dD agg k off cs=some v):∃b,dD agg k off a=some b/\degr b=degr v:=by
 have e:a.length=cs.length:=by rw[<-aW (f:=aw) (as:=a),c,aW]
 unfold dD at h ⊢;cases agg with
 | true=>
  simp only[if_true] at h ⊢;split at h
  ·rename_i g
   cases h;rw[e,if_pos g];refine⟨_,rfl,?_⟩;simp only[degr,PV.agg.injEq];rw[List.map_take,List.map_drop,c,List.map_take,List.map_drop]
  ·cases h
 |false=>
  simp only[bR,if_false] at h ⊢;have d:(a.map aw)[off]?=(cs.map aw)[off]?:=by rw[c]
  rw[aB,aB,h] at d;simp only[cK,aE] at d;obtain⟨b,j,i⟩:=d;exact⟨b,j,by rw[<-xA b,i,xA]⟩
theorem E5 {agg:Bool}:dI cf (.load d agg k x):=by
 intro s s2 ha p s' h;have u:ai s2.env x=ai s.env x:=ce (λt m=>ha t (by simp[rd,m]));simp only[ae,u] at h ⊢;have c:∀v,s'=s.put d v->∀o,o=some (s2.put d v)->∃a,o=some a/\EnvR (wr (.load d agg k x)) s'.env s2.env a.env/\HRes 2 s s' s2 a:=by rintro v rfl o rfl;exact⟨_,rfl,(EnvR.put1 d v).congr (λt=>by simp[wr,bq]),rfl,rfl,rfl,rfl⟩
 split at h
 ·rename_i g b off n
  simp only[aC,aE] at h;obtain⟨cs,r,v,i,rfl⟩:=h;obtain⟨w,l,q⟩:=sS p r;obtain⟨y,f,j⟩:=sU q i;exact c _ rfl _ (by simp[l,f,j])
 ·rename_i e off n
  simp only[aE] at h;obtain⟨v,i,rfl⟩:=h;exact c _ rfl _ (by simp[i])
 ·cases h
theorem Ri {agg:Bool}:dI cf (.loadS d agg k x):=by
 intro s s2 ha p s' h;have u:ai s2.env x=ai s.env x:=ce (λt m=>ha t (by simp[rd,m]));simp only[ae,u] at h ⊢;have c:∀v,s'=s.put d v->∀o,o=some (s2.put d v)->∃a,o=some a/\EnvR (wr (.loadS d agg k x)) s'.env s2.env a.env/\HRes 2 s s' s2 a:=by rintro v rfl o rfl;exact⟨_,rfl,(EnvR.put1 d v).congr (λt=>by simp[wr,bq]),rfl,rfl,rfl,rfl⟩
 split at h
 ·rename_i g b off n
  simp only[aC,aE] at h;obtain⟨cs,r,v,i,rfl⟩:=h;obtain⟨w,l,q⟩:=sS p r;obtain⟨y,f,j⟩:=sU q i;exact c _ rfl _ (by simp[l,f,j])
 ·rename_i e off n
  simp only[aE] at h;obtain⟨v,i,rfl⟩:=h;exact c _ rfl _ (by simp[i])
 ·cases h
theorem Rj {agg:Bool}:dI cf (.loadM d agg k x):=by
 intro s s2 ha f s' h;obtain⟨e2,l,n⟩:=s2;obtain⟨rfl,rfl⟩:=f;have j:ai e2 x=ai s.env x:=ce (λt e=>ha t (by simp[rd,e]));simp only[ae,j] at h ⊢;split at h
 ·rename_i g b off m
  simp only[aC,aE] at h;obtain⟨cs,i,v,c,rfl⟩:=h;have a:St.cellsAt ⟨e2,s.lh,s.gh⟩ g b=some cs:=i;exact⟨St.put ⟨e2,s.lh,s.gh⟩ d (degrF v),by rw[a];simp[c],(EnvR.put1 d _).congr (λt=>by simp[wr,bq]),rfl,rfl⟩
 ·cases h
theorem E6 {k:IX} {ok:Bool}:dI cf (.lookup d kn m k ok zero):=by
 intro s s2 ha n s' h;have q:ai s2.env m=ai s.env m:=ce (λt g=>ha t (by simp[rd,g]));have p:ai s2.env k=ai s.env k:=ce (λt g=>ha t (by simp[rd,g]));simp only[ae,H3,q,p] at h ⊢;have f:∀v,s'=s.put d v->∀o,o=some (s2.put d v)->∃c,o=some c/\EnvR (wr (.lookup d kn m k ok zero)) s'.env s2.env c.env/\HRes 2 s s' s2 c:=by rintro v rfl o rfl;exact⟨_,rfl,(EnvR.put1 d v).congr (λt=>by simp[wr,bq]),rfl,rfl,rfl,rfl⟩
 split at h
 ·rename_i b r u l
  split at h
  ·rename_i w j
   have a:=xz n j;split at h
   ·cases h
   ·rename_i e
    split at h
    ·rename_i v i
     cases h;exact f _ rfl _ (by simp[a,e,i])
    ·rename_i i
     cases h;exact f _ rfl _ (by simp[a,e,i])
    ·cases h
  ·cases h
 ·cases h
theorem E7 {f:Nat}:dI cf (.len d f x):=by
 intro s s2 ha j s' h;have k:ai s2.env x=ai s.env x:=ce (λt i=>ha t (by simp[rd,i]));simp only[ae,iY,k] at h ⊢;have a:∀v,s'=s.put d v->∀o,o=some (s2.put d v)->∃c,o=some c/\EnvR (wr (.len d f x)) s'.env s2.env c.env/\HRes (if f=2 then 2 else 0) s s' s2 c:=by rintro v rfl o rfl;refine⟨_,rfl,(EnvR.put1 d v).congr (λt=>by simp[wr,bq]),?_⟩;split<;>exact⟨rfl,rfl,rfl,rfl⟩
 split at h
 ·rename_i e;cases h;exact a _ rfl _ bh
 ·rename_i e;cases h;exact a _ rfl _ bh
 ·rename_i e;cases h;exact a _ rfl _ bh
 ·rename_i e;cases h;exact a _ rfl _ bh
 ·rename_i e;cases h;exact a _ rfl _ bh
 ·rename_i e;cases h;exact a _ rfl _ bh
 ·rename_i b e
  split at h
  ·rename_i l g
   cases h;exact a _ rfl _ (by simp[xz (show HOk 2 s s2 from j) g])
  ·cases h
 ·cases h
theorem E8:dI cf (.mkmap d):=by intro s s2 ha a s' h;obtain⟨e2,b,c⟩:=s2;obtain⟨rfl,rfl⟩:=a;simp only[ae,bW] at h;subst h;exact⟨_,rfl,(EnvR.put1 d _).congr (λt=>by simp[wr,bq]),rfl,⟨_,rfl⟩,rfl,rfl⟩
theorem E9:dI cf (.boxB d x):=by
 intro s s2 ha b s' h;obtain⟨e2,e,g⟩:=s2;obtain⟨rfl,rfl⟩:=b;have c:ai e2 x=ai s.env x:=ce (λt a=>ha t (by simp[rd,a]));simp only[ae,c] at h ⊢;split at h
 ·rename_i f
  simp only[bW] at h;subst h;exact⟨_,rfl,(EnvR.put1 d _).congr (λt=>by simp[wr,bq]),rfl,⟨_,rfl⟩,rfl,rfl⟩
 ·cases h
theorem Fa {a:List IX}:dI cf (.buildSlK d a):=by
 intro s s2 ha f s' h;obtain⟨e2,j,k⟩:=s2;obtain⟨rfl,rfl⟩:=f;have i:ei e2 a=ei s.env a:=iH (λt e=>ha t (by simp[rd,e]));simp only[ae,i,aC] at h ⊢;obtain⟨b,c,h⟩:=h;split at h
 ·rename_i g
  cases h;refine⟨(⟨e2,s.lh,s.gh++[.stk 0 b]⟩:St).put d (.stk s.gh.length 0 b.length),⟨b,c,by rw[if_pos g]⟩,?_,rfl,⟨_,rfl⟩,rfl,rfl⟩;exact (EnvR.put1 d (.stk s.gh.length 0 b.length)).congr (λt=>by simp[wr,bq])
 ·cases h
theorem xB {g f:Nat} {d c:fw} (h:gh[b]?=some (.stk g d)):(gh.set b (.stk f c)).map GObj.deg=gh.map GObj.deg:=by
 apply List.ext_getElem?;intro j;rw[aB,aB,cM];by_cases a:b=j
 ·subst a
  have e:=(aD.1 h).1;rw[if_pos rfl,if_pos e,h];rfl
 ·simp[a]
theorem Fb:dI cf (.appendK d bytes sx x):=by
 intro s s2 ha k s' h;obtain⟨e2,r,u⟩:=s2;obtain⟨rfl,rfl⟩:=k;have p:ai e2 x=ai s.env x:=ce (λt f=>ha t (by simp[rd,f]));have o:ai e2 sx=ai s.env sx:=ce (λt f=>ha t (by simp[rd,f]));simp only[ae,p,o,aC] at h ⊢;obtain⟨i,e,a,c,h⟩:=h;split at h
 ·rename_i b q n j
  split at h
  ·rename_i g xs l
   split at h
   ·rename_i m
    cases h;refine⟨(⟨e2,s.lh,s.gh.set b (.stk (g+1) (xs.take n++a))⟩:St).put d (.stk b (g+1) (n+a.length)),⟨i,e,a,c,by rw[if_pos m]⟩,(EnvR.put1 d (.stk b (g+1) (n+a.length))).congr (λt=>by simp[wr,bq]),rfl,xB l,rfl,rfl⟩
   ·cases h
  ·cases h
 ·cases h
theorem Fc:dI cf (.loadK d x):=by
 intro s s2 ha e s' h;obtain⟨e2,a,g⟩:=s2;obtain rfl:g=s.gh:=e;have f:ai e2 x=ai s.env x:=ce (λt c=>ha t (by simp[rd,c]));simp only[ae,f] at h ⊢;split at h
 ·simp only[aE] at h
  obtain⟨v,b,rfl⟩:=h;exact⟨(⟨e2,a,s.gh⟩:St).put d v,by simp[b],(EnvR.put1 d v).congr (λt=>by simp[wr,bq]),rfl,rfl,rfl,rfl⟩
 ·cases h
theorem Fd {g:Bool} {l:IX}:dI cf (.mksl d g z bytes zero l):=by
 cases g with
 |false=>exact fills_mksl.local rfl rfl
 | true=>
  intro s s2 ha b s' h;obtain⟨e2,f,j⟩:=s2;obtain⟨rfl,rfl⟩:=b;have e:ai e2 l=ai s.env l:=ce (λt a=>ha t (by simp[rd,a]));simp only[ae,e] at h ⊢;split at h
  ·rename_i k n i
   split at h
   ·rename_i c
    cases h;refine⟨_,by rw[if_pos c],?_,?_⟩
    ·exact (EnvR.put1 d _).congr (λt=>by simp[wr,bq])
    ·exact⟨rfl,rfl⟩
   ·cases h
  ·cases h
theorem mG (s:St) (g:Bool) (b:Nat) (a:fw):(s.setCells g b a).env=s.env:=by cases g<;>rfl
theorem sV (h:cs[off]?=some v):(au cs off [aw v]).map aw=cs.map aw:=by
 have b:=(aD.1 h).1;apply List.ext_getElem?;intro i;rw[aB,aB,au,ja _ _ _ _ (by simp;omega)];by_cases a:i<off
 ·rw[if_pos a]
 ·rw[if_neg a]
  by_cases d:i=off
  ·subst d
   have c:aw (aw v)=aw v:=by cases v<;>rfl
   simp[h,c]
  ·rw[if_neg (by simp;omega)]
theorem sW {α β:Type} (f:α->β) {l:List α} {x y:α} (h:l[b]?=some x) (c:f y=f x):(l.set b y).map f=l.map f:=by
 apply List.ext_getElem?;intro k;rw[aB,aB,cM];by_cases a:b=k
 ·subst a
  obtain⟨this,rfl⟩:=aD.1 h;simp[this,c]
 ·simp[a]
theorem xD:dI cf (.loadT d x):=by
 intro s s2 ha j s' h;obtain⟨e2,m,o⟩:=s2;obtain⟨rfl,rfl⟩:=j;have l:ai e2 x=ai s.env x:=ce (λt i=>ha t (by simp[rd,i]));simp only[ae,l] at h ⊢;split at h
 ·rename_i g b off n
  simp only[aC,aE] at h;obtain⟨cs,a,v,c,rfl⟩:=h;have e:St.cellsAt ⟨e2,s.lh,s.gh⟩ g b=some cs:=a;refine⟨(St.setCells ⟨e2,s.lh,s.gh⟩ g b (au cs off [aw v])).put d v,by simp[e,c],?_,?_⟩
  ·simp only[St.put,mG]
   exact (EnvR.put1 d v).congr (λt=>by simp[wr,bq])
  ·cases g with
   |false=>exact⟨sW (List.map aw) (show s.lh[b]?=some cs from a) (sV c),rfl,rfl,rfl⟩
   | true=>
    have k:s.gh[b]?=some (.cells cs):=by
     simp only[St.cellsAt,if_true] at a;split at a
     ·rename_i f;cases a;exact f
     ·cases a
    exact⟨rfl,sW GObj.deg k (by simp[GObj.deg,sV c]),rfl,rfl⟩
 ·cases h
theorem Fe:dI cf (.loadL d x):=by
 intro s s2 ha f s' h;obtain⟨e2,i,k⟩:=s2;obtain⟨rfl,rfl⟩:=f;have g:ai e2 x=ai s.env x:=ce (λt e=>ha t (by simp[rd,e]));simp only[ae,g] at h ⊢;split at h
 ·rename_i b off j
  simp only[aC,aE] at h;obtain⟨cs,c,v,a,rfl⟩:=h;refine⟨(⟨e2,s.lh.set b (au cs off [aw v]),s.gh⟩:St).put d v,by simp[c,a],(EnvR.put1 d v).congr (λt=>by simp[wr,bq]),sW (List.map aw) c (sV a),rfl,rfl,rfl⟩
 ·cases h
theorem Ff {tk:Bool}:dI cf (.store tk k x y):=by
 intro s s2 ha n s' h;obtain⟨e2,q,u⟩:=s2;obtain⟨rfl,rfl⟩:=n;have p:ai e2 x=ai s.env x:=ce (λt d=>ha t (by simp[rd,d]));have o:ai e2 y=ai s.env y:=ce (λt d=>ha t (by simp[rd,d]));simp only[ae,p,o] at h ⊢;split at h
 ·rename_i g b off r
  split at h
  ·rename_i a
   subst a;simp only[aC,Prod.exists] at h;obtain⟨v,w,e,cs,i,h⟩:=h;split at h
   ·rename_i f
    cases h;obtain⟨j,m,l⟩:=C2 (e2:=e2) (λt d=>ha t (by simp[rd,d])) e;have c:St.cellsAt ⟨j,s.lh,s.gh⟩ g b=some cs:=i;refine⟨St.setCells ⟨j,s.lh,s.gh⟩ g b (au cs off v.cells),by simp[m,c,f],?_,?_⟩
    ·simp only[mG]
     exact l.congr (λt=>by simp[wr,bq])
    ·cases g<;>exact⟨rfl,rfl⟩
   ·cases h
  ·rename_i a
   simp only[Bool.not_eq_true] at a;subst a;simp only[aC] at h;obtain⟨v,e,cs,i,h⟩:=h;split at h
   ·rename_i f
    cases h;have c:St.cellsAt ⟨e2,s.lh,s.gh⟩ g b=some cs:=i;refine⟨St.setCells ⟨e2,s.lh,s.gh⟩ g b (au cs off v.cells),by simp[e,c,f],?_,?_⟩
    ·simp only[mG]
     exact EnvR.refl (λt=>by simp[wr,bq])
    ·cases g<;>exact⟨rfl,rfl⟩
   ·cases h
 ·cases h
theorem Fg {k:IX}:dI cf (.mupd kn m k x):=by
 intro s s2 ha f s' h;obtain⟨e2,o,u⟩:=s2;obtain⟨rfl,rfl⟩:=f;have n:ai e2 m=ai s.env m:=ce (λt a=>ha t (by simp[rd,a]));have l:ai e2 k=ai s.env k:=ce (λt a=>ha t (by simp[rd,a]));have j:ai e2 x=ai s.env x:=ce (λt a=>ha t (by simp[rd,a]));simp only[ae,n,l,j] at h ⊢;split at h
 ·rename_i b p v r e q
  split at h
  ·rename_i w g
   split at h
   ·rename_i i
    simp only[aE] at h;obtain⟨c,d,rfl⟩:=h;refine⟨⟨e2,s.lh,s.gh.set b (.map c)⟩,?_,EnvR.refl (λt=>by simp[wr,bq]),rfl,rfl⟩;rw[if_pos i,d];rfl
   ·cases h
  ·cases h
 ·cases h
theorem sX (d:Option Nat) (v:PV):EnvR d.toList (eO e d v) e2 (eO e2 d v):=by
 cases d with
 |none=>exact EnvR.refl bh
 |some d=>exact EnvR.put bh
theorem n8 {d:Option Nat} {j:fw} (g:HOk (if q then 1 else 5) s s2) (h:dN cf s d q f j=some s') :
  ∃a,dN cf s2 d q f j=some a/\EnvR d.toList s'.env s2.env a.env/\HRes (if q then 1 else 5) s s' s2 a:=by
 have b:s2.gh=s.gh:=by
  cases q
  ·exact g.2
  ·exact g
 unfold dN at h ⊢;split at h
 ·rename_i e
  rw[if_pos e,b];split at h
  ·rename_i r i l
   split at h
   ·rename_i c
    subst c;split at h
    ·rename_i k
     cases h;refine⟨⟨eO s2.env d r,s2.lh,s2.gh⟩,by simp[k,b],sX d r,rfl,rfl,rfl,rfl⟩
    ·cases h
   ·rename_i c
    simp only[Bool.not_eq_true] at c;subst c;cases h;exact⟨⟨eO s2.env d r,s2.lh,i⟩,bh,sX d r,g.1,rfl⟩
  ·cases h
 ·cases h
theorem Fh {d:Option Nat}:dI cf (.call d q f xs):=by intro s s2 ha g s' h;have i:ei s2.env xs=ei s.env xs:=iH (λt e=>ha t (by simp[rd,e]));simp only[ae,i,aC] at h ⊢;obtain⟨b,c,h⟩:=h;obtain⟨a,l,k,j⟩:=n8 (s2:=s2) g h;exact⟨a,⟨b,c,l⟩,by simpa [wr,bq] using k,j⟩
theorem Fi {d:Option Nat} {f:IX}:dI cf (.callv d q f xs):=by
 intro s s2 ha k s' h;have o:ai s2.env f=ai s.env f:=ce (λt e=>ha t (by simp[rd,e]));have n:ei s2.env xs=ei s.env xs:=iH (λt e=>ha t (by simp[rd,e]));simp only[ae,o,n] at h ⊢;split at h
 ·rename_i f b m
  simp only[aC] at h;obtain⟨l,c,h⟩:=h;obtain⟨a,j,i,g⟩:=n8 (s2:=s2) k h;exact⟨a,by simp[c,j],by simpa [wr,bq] using i,g⟩
 ·rename_i f b m
  simp only[aC] at h;obtain⟨l,c,h⟩:=h;obtain⟨a,j,i,g⟩:=n8 (s2:=s2) k h;exact⟨a,by simp[c,j],by simpa [wr,bq] using i,g⟩
 ·cases h
theorem Rk:dI cf (.storeD y x):=by
 intro s s2 ha b s' h;obtain⟨e2,e,g⟩:=s2;obtain⟨rfl,rfl⟩:=b;have d:ai e2 y=ai s.env y:=ce (λt a=>ha t (by simp[rd,a]));have c:ai e2 x=ai s.env x:=ce (λt a=>ha t (by simp[rd,a]));simp only[ae,d,c] at h ⊢;split at h
 ·split at h
  ·rename_i f
   cases h;exact⟨⟨e2,s.lh,s.gh⟩,rfl,EnvR.refl (λt=>by simp[wr,bq]),rfl,rfl⟩
  ·cases h
 ·cases h
theorem Fj:dI cf (.storeK y x):=by
 intro s s2 ha c s' h;obtain⟨e2,k,m⟩:=s2;obtain⟨rfl,rfl⟩:=c;have f:ai e2 y=ai s.env y:=ce (λt a=>ha t (by simp[rd,a]));have e:ai e2 x=ai s.env x:=ce (λt a=>ha t (by simp[rd,a]));simp only[ae,f,e] at h ⊢;split at h
 ·rename_i b j i v _ _
  split at h
  ·rename_i g xs l
   split at h
   ·rename_i d
    cases h;exact⟨⟨e2,s.lh,s.gh.set b (.stk g (xs.set i v))⟩,by rw[if_pos d],EnvR.refl (λt=>by simp[wr,bq]),rfl,rfl⟩
   ·cases h
  ·cases h
 ·cases h
theorem Rl:dI cf (.clearK x):=by
 intro s s2 ha c s' h;obtain⟨e2,i,k⟩:=s2;obtain⟨rfl,rfl⟩:=c;have e:ai e2 x=ai s.env x:=ce (λt a=>ha t (by simp[rd,a]));simp only[ae,e] at h ⊢;split at h
 ·rename_i b f off n _
  split at h
  ·rename_i g xs j
   split at h
   ·rename_i d
    cases h;exact⟨⟨e2,s.lh,s.gh.set b (.stk g (xs.take off++List.replicate n (.int .i64 0)++xs.drop (off+n)))⟩,by rw[if_pos d],EnvR.refl (λt=>by simp[wr,bq]),rfl,rfl⟩
   ·cases h
  ·cases h
 ·cases h
theorem Fk {d:Option Nat}:dI cf (.callF d f xs):=by
 intro s s2 ha k s' h;have j:ei s2.env xs=ei s.env xs:=iH (λt g=>ha t (by simp[rd,g]));simp only[ae,j,aC] at h ⊢;obtain⟨b,c,h⟩:=h;unfold jC at h;split at h
 ·rename_i a
  split at h
  ·rename_i r i
   split at h
   ·rename_i hr
    cases h;refine⟨⟨eO s2.env d r,s2.lh,s2.gh⟩,⟨b,c,?_⟩,by simpa [wr,bq] using sX (e:=s.env) (e2:=s2.env) d r,rfl,rfl,rfl,rfl⟩;unfold jC;rw[if_pos a,i];simp[hr]
   ·cases h
  ·cases h
 ·cases h
theorem Rm {d:fB} (h:∀(b:Nat) (o:GObj),gh[b]?=some o->∃o2,d[b]?=some o2/\o2.deg=o.deg) {u:PV} (c:elP gh v=some u):elP d v=some u:=by
 unfold elP at *;split at c
 ·rename_i b off
  split at c
  ·rename_i cs e
   obtain⟨o2,f,a⟩:=h b _ e;cases o2 with
   |map j=>simp[GObj.deg] at a
   |stk g xs=>simp[GObj.deg] at a
   |bld t=>simp[GObj.deg] at a
   |trash=>simp[GObj.deg] at a
   |cells i=>
    simp only[GObj.deg,GObj.cells.injEq] at a;simp only[f,a];exact c
  ·cases c
 ·exact c
theorem Pd {g a:fB} (h:∀(b:Nat) (o:GObj),g[b]?=some o->∃o2,a[b]?=some o2/\o2.deg=o.deg):∀{f c:fw},nN g f=some c->nN a f=some c
 |[],c,d=>d
 |v::l,c,d=>by simp only[nN,aC,aE] at d ⊢;obtain⟨u,k,e,j,i⟩:=d;exact⟨u,Rm h k,e,Pd h j,i⟩
theorem Rn {d:Option Nat} {f:IX}:dI cf (.callE d f xs):=by
 intro s s2 ha m s' h;have p:ai s2.env f=ai s.env f:=ce (λt c=>ha t (by simp[rd,c]));have o:ei s2.env xs=ei s.env xs:=iH (λt c=>ha t (by simp[rd,c]));simp only[ae,p,o] at h ⊢;split at h
 ·rename_i f a q
  simp only[aC] at h ⊢;obtain⟨i,k,h⟩:=h;unfold qh at h;simp only[aC] at h;obtain⟨j,l,h⟩:=h;have b:nN s2.gh (i++a)=some j:=Pd (show HOk 2 s s2 from m).2 l;split at h
  ·rename_i g
   split at h
   ·rename_i r n
    split at h
    ·rename_i hr
     cases h;refine⟨⟨eO s2.env d r,s2.lh,s2.gh⟩,⟨i,k,?_⟩,by simpa [wr,bq] using sX (e:=s.env) (e2:=s2.env) d r,rfl,rfl,rfl,rfl⟩;unfold qh;simp only[b,cJ];rw[if_pos g,n];simp[hr]
    ·cases h
   ·cases h
  ·cases h
 ·cases h
theorem Fl:dI cf (.append d z bytes sx x):=by
 intro s s2 ha p s' h;have k:ai s2.env x=ai s.env x:=ce (λt b=>ha t (by simp[rd,b]));simp only[ae,k,aC] at h ⊢;obtain⟨e,a,h⟩:=h;cases e with
 | sl o2 m c=>
  simp only[aC,Prod.exists] at h;obtain⟨v,q,i,h⟩:=h;cases v with
  | sl o n xs=>
   simp only at h;split at h
   ·rename_i j
    cases h;obtain⟨l,g,f⟩:=C2 (e2:=s2.env) (λt b=>ha t (by simp[rd,b])) i;refine⟨⟨Lw.put l d (.sl true z (xs++c)),s2.lh,s2.gh⟩,⟨_,a,by simp only[g,cJ];rw[if_pos j]⟩,?_,rfl,rfl,rfl,rfl⟩;exact (f.thenPut d _).congr (λt=>by simp[wr,bq];exact or_comm)
   ·cases h
  |_=>cases h
 |_=>cases h
theorem lJ {a:fB} (h:get e2 n=get e n) (b:keptB e gh a n):keptB e2 gh a n:=by unfold keptB at *;rw[h];exact b
theorem Fm {d:Option Nat} {j:gj}:dI cf (.callP d f xs j):=by
 intro s s2 ha e s' h;have r:ei s2.env xs=ei s.env xs:=iH (λt l=>ha t (by simp[rd,l]));have o:s2.gh=s.gh:=e.2;simp only[ae,r,aC] at h ⊢;obtain⟨i,k,w,p,c⟩:=h;split at c
 ·rename_i m
  cases c;obtain⟨a,v,u,g⟩:=n8 (q:=false) (s2:=s2) e p;refine⟨a,⟨i,k,a,v,?_⟩,by simpa [wr,bq] using u,g⟩;have b:a.gh=s'.gh:=g.2;rw[if_pos (λn hn=>by rw[o,b];exact lJ (ha n (by simp[rd,hn])) (m n hn))]
 ·cases c
theorem Fo {d:Option Nat}:dI cf (.callR d f xs n o2):=by
 intro s s2 ha e s' h;have y:ei s2.env xs=ei s.env xs:=iH (λt l=>ha t (by simp[rd,l]));have x:get s2.env n=get s.env n:=ha n (by simp[rd]);have o:s2.gh=s.gh:=e.2;simp only[ae,y,x,aC] at h ⊢;obtain⟨g,k,h⟩:=h;split at h
 ·rename_i b off F
  unfold fV at h ⊢;simp only[aC,o] at h ⊢;obtain⟨E,w,A,v,z,u,j,r,i,p,c⟩:=h;split at c
  ·rename_i m
   cases c;obtain⟨a,D,C,B⟩:=n8 (q:=false) (s2:=s2) e w;exact⟨a,⟨g,k,a,D,A,v,z,u,j,r,i,p,by rw[if_pos m]⟩,by simpa [wr,bq] using C,B⟩
  ·cases c
 ·cases h
theorem Ro:dI cf (.appendE d bytes sx x):=by
 intro s s2 ha l s' h;obtain⟨e2,j,p⟩:=s2;obtain rfl:p=s.gh:=l;have n:ai e2 x=ai s.env x:=ce (λt c=>ha t (by simp[rd,c]));simp only[ae,n,aC,Prod.exists] at h ⊢;obtain⟨f,b,e,a,v,u,k,h⟩:=h;cases v with
 | sl o r xs=>
  simp only at h;split at h
  ·rename_i m
   cases h;obtain⟨q,i,g⟩:=C2 (e2:=e2) (λt c=>ha t (by simp[rd,c])) k;refine⟨⟨Lw.put q d (dz (xs++e)),j,s.gh⟩,⟨f,b,e,a,_,_,i,by simp only;rw[if_pos m]⟩,?_,rfl,rfl,rfl,rfl⟩;exact (g.thenPut d _).congr (λt=>by simp[wr,bq];exact or_comm)
  ·cases h
 |_=>cases h
theorem Fr:dI cf (.loadTB d x n o2):=by
 intro s s2 ha g s' h;have p:ai s2.env x=ai s.env x:=ce (λt a=>ha t (by simp[rd,a]));have m:get s2.env n=get s.env n:=ha n (by simp[rd]);obtain⟨c,f,u,r⟩:=xD (cf:=cf) (d:=d) (x:=x) s s2 (λt a=>ha t (by simp only[rd,List.mem_cons] at a ⊢;exact .inr a)) g s' (Fq h);refine⟨c,?_,u,r⟩;simp only[ae,p,m] at h f ⊢;split at h
 ·rename_i b off w o k _
  split at h
  ·rename_i l
   rw[if_pos l];rw[k] at f;simp only[aC] at h;obtain⟨cs,i,h⟩:=h;have e:s2.cellsAt true b=some cs:=by have:s2.gh=s.gh:=g.2;simp only[St.cellsAt,this] at i ⊢;exact i
   split at h
   ·rename_i q z v j
    simpa [e,j,aw] using f
   ·cases h
  ·cases h
 ·cases h
theorem Fs {agg:Bool}:dI cf (.loadB d agg k x n):=by
 intro s s2 ha j s' h;have q:ai s2.env x=ai s.env x:=ce (λt i=>ha t (by simp[rd,i]));have p:get s2.env n=get s.env n:=ha n (by simp[rd]);simp only[ae,q,p] at h ⊢;split at h
 ·rename_i b off A w z y
  split at h
  ·rename_i c
   simp only[aC,aE] at h;obtain⟨cs,m,v,g,rfl⟩:=h;obtain⟨r,f,l⟩:=sS j m;obtain⟨u,a,e⟩:=sU l g;refine⟨s2.put d (degr v),by simp[c,f,a,e]<;>(subst c;simp[f,a,e]),(EnvR.put1 d _).congr (λt=>by simp[wr,bq]),rfl,rfl,rfl,rfl⟩
  ·cases h
 ·simp only[aE] at h
  obtain⟨v,g,rfl⟩:=h;exact⟨s2.put d v,by simp[g],(EnvR.put1 d v).congr (λt=>by simp[wr,bq]),rfl,rfl,rfl,rfl⟩
 ·cases h
theorem Ft {agg:Bool}:dI cf (.loadJ d agg k x):=by
 intro s s2 ha i s' h;have m:ai s2.env x=ai s.env x:=ce (λt g=>ha t (by simp[rd,g]));simp only[ae,m] at h ⊢;split at h
 ·rename_i b off p
  simp only[aC,aE] at h;obtain⟨cs,l,v,f,rfl⟩:=h;obtain⟨n,e,j⟩:=sS i l;obtain⟨o,a,c⟩:=sU j f;exact⟨s2.put d (degr v),by simp[e,a,c],(EnvR.put1 d _).congr (λt=>by simp[wr,bq]),rfl,rfl,rfl,rfl⟩
 ·cases h
theorem sZ (i:IOp):dI cf i:=by
 cases i with
 |callP=>exact Fm
 |callR=>exact Fo
 |loadB=>exact Fs
 |appendE=>exact Ro
 |loadKB=>exact λ_ _ _ _ _ h=>by simp[ae] at h
 |loadTB=>exact Fr
 |loadJ=>exact Ft
 |appendP=>exact λ_ _ _ _ _ h=>by simp[ae] at h
 |mkarr=>exact λ_ _ _ _ _ h=>by simp[ae] at h
 |buildA=>exact λ_ _ _ _ _ h=>by simp[ae] at h
 |boxSl=>exact λ_ _ _ _ _ h=>by simp[ae] at h
 |tk=>exact E2
 |tkS=>exact λ_ _ _ _ _ h=>by simp[ae] at h
 |box=>exact E3
 |alloc=>exact E4
 |buildT=>exact xy
 |load=>exact E5
 |loadN=>exact λ_ _ _ _ _ h=>by simp[ae] at h
 |lookup=>exact E6
 |len=>exact E7
 |mkmap=>exact E8
 |mkbld=>exact λ_ _ _ _ _ h=>by simp[ae] at h
 |boxB=>exact E9
 |mksl=>exact Fd
 |loadT=>exact xD
 |loadL=>exact Fe
 |store=>exact Ff
 |storeP=>exact λ_ _ _ _ _ h=>by simp[ae] at h
 |mupd=>exact Fg
 |call=>exact Fh
 |callv=>exact Fi
 |callF=>exact Fk
 |callE=>exact Rn
 |append=>exact Fl
 |appendK=>exact Fb
 |appendN=>exact λ_ _ _ _ _ h=>by simp[ae] at h
 |buildSlK=>exact Fa
 |loadK=>exact Fc
 |loadH=>exact λ_ _ _ _ _ h=>by simp[ae] at h
 |mv=>exact fills_mv.local rfl rfl
 |lenD=>exact fills_lenD.local rfl rfl
 |iaddrD=>exact fills_iaddrD.local rfl rfl
 |faddrD=>exact fills_faddrD.local rfl rfl
 |paddrD=>exact fills_paddrD.local rfl rfl
 |storeD=>exact Rk
 |mvF=>exact fills_mvF.local rfl rfl
 |mvS=>exact fills_mvS.local rfl rfl
 |loadS=>exact Ri
 |loadM=>exact Rj
 |loadG=>exact fills_loadG.local rfl rfl
 |pick=>exact fills_pick.local rfl rfl
 |build=>exact fills_build.local rfl rfl
 |buildSl=>exact fills_buildSl.local rfl rfl
 |buildSlF=>exact fills_buildSlF.local rfl rfl
 |nilc=>exact fills_nilc.local rfl rfl
 |bin=>exact fills_bin.local rfl rfl
 |eqa=>exact fills_eqa.local rfl rfl
 |eqb=>exact fills_eqb.local rfl rfl
 |eqn=>exact fills_eqn.local rfl rfl
 |un=>exact fills_un.local rfl rfl
 |conv=>exact fills_conv.local rfl rfl
 |mkfn=>exact fills_mkfn.local rfl rfl
 |mkbf=>exact fills_mkbf.local rfl rfl
 |storeK=>exact Fj
 |clearK=>exact Rl
 |slice=>exact fills_slice.local rfl rfl
 |sliceS=>exact fills_sliceS.local rfl rfl
 |faddr=>exact fills_faddr.local rfl rfl
 |field=>exact λ_ _ _ _ _ h=>by simp[ae] at h
 |iaddr=>exact fills_iaddr.local rfl rfl
 |index=>exact fills_index.local rfl rfl
 |indexS=>exact fills_indexS.local rfl rfl
 |maxi=>exact λ_ _ _ _ _ h=>by simp[ae] at h
 |extract=>exact fills_extract.local rfl rfl
end
end
section
open Go.RowKit
variable {t c:Nat}
section
variable {s s' s1 s2 t1 t2:St} {cf:CallF}
def lK (c:Nat) (s d e a:St):Prop:=
 match c with
 |0|1|2|8=>d.lh=s.lh/\d.gh=s.gh/\a.lh=e.lh/\a.gh=e.gh
 |3=>(∀(b:Nat) (g:fw),s.lh[b]?=some g->d.lh[b]?=some g)/\d.gh=s.gh/\a.lh=d.lh/\a.gh=d.gh
 |4=>d.lh=s.lh/\(∀(b:Nat) (o:GObj),s.gh[b]?=some o->d.gh[b]?=some o)/\a.lh=d.lh/\a.gh=d.gh
 |6=>d.lh.map (List.map aw)=s.lh.map (List.map aw)/\d.gh=s.gh/\a.lh=d.lh/\a.gh=d.gh
 |7=>d.lh.map (List.map aw)=s.lh.map (List.map aw)/\d.gh.map GObj.deg=s.gh.map GObj.deg/\a.lh=d.lh/\a.gh=d.gh
 |9=>d.lh=s.lh/\(∀(b:Nat) (o:GObj),s.gh[b]?=some o->∃f,d.gh[b]?=some f/\f.deg=o.deg)/\a.lh=d.lh/\a.gh=d.gh
 |_=>a.lh=d.lh/\a.gh=d.gh
theorem HRes.two {c:Nat} (h:HRes c s s' s2 s1):lK c s s' s2 s1:=by
 match c,h with
 |0,h=>exact h
 |1,h=>exact h
 |2,h=>exact h
 |3,⟨⟨j,e⟩,d⟩=>exact⟨λb g a=>by rw[e,aI (aD.1 a).1];exact a,d⟩
 |4,⟨f,⟨o,e⟩,d⟩=>exact⟨f,λb i a=>by rw[e,aI (aD.1 a).1];exact a,d⟩
 |5,h=>exact h
 |6,h=>exact h
 |7,h=>exact h
 |8,h=>exact h
 |9,h=>exact h
 |n+10,h=>exact h
def rdG (i:IOpG):gj:=(match i.guard with|some (g,_)=>[g]|none=>[])++rd i.op
theorem xE {i:IOp} (h:t∈wr i):bq i=some t\/t∈rd i:=by
 simp only[wr,cE,Option.mem_toList] at h;rcases h with h|h
 ·exact .inl h
 ·right
  split at h<;>first|(simp at h;done)|(simpa [rd] using h)|(simp[rd];first|exact .inl h|exact .inr h|exact h|exact .inr (.inr h))
theorem n9 (i:IOpG) (ha:∀t∈rdG i,get s2.env t=get s.env t) (x:HOk (cls i.op) s s2) (h:opG cf i s=some s') :
  ∃j,opG cf i s2=some j/\EnvR (wr i.op) s'.env s2.env j.env/\lK (cls i.op) s s' s2 j:=by
 have m:∀s',ae cf s i.op=some s'->∃j,ae cf s2 i.op=some j/\EnvR (wr i.op) s'.env s2.env j.env/\lK (cls i.op) s s' s2 j:=λs' B=>by obtain⟨j,l,k,C⟩:=sZ i.op s s2 (λt r=>ha t (by simp[rdG,r])) x s' B;exact⟨j,l,k,C.two⟩
 have p:EnvR (wr i.op) (eQ s i.op).env s2.env (eQ s2 i.op).env/\lK (cls i.op) s (eQ s i.op) s2 (eQ s2 i.op):=by
  refine⟨λt=>?_,?_⟩
  ·by_cases r:t∈wr i.op
   ·rw[if_pos r]
    unfold eQ;cases w:bq i.op with
    |none=>
     have:=(xE r).resolve_left (by simp[w]);exact ha t (by simp[rdG,this])
    | some d=>
     simp only[St.put,dl];by_cases u:d=t
     ·simp[u]
     ·have:=(xE r).resolve_left (by simp[w,u])
      simp only[u,if_false];exact ha t (by simp[rdG,this])
   ·rw[if_neg r]
    unfold eQ;cases w:bq i.op with
    |none=>rfl
    |some d=>
     have:d≠t:=λe=>r (by subst e;simp[wr,w])
     simp[St.put,dl,this]
  ·have a:(eQ s i.op).lh=s.lh/\(eQ s i.op).gh=s.gh:=by unfold eQ;cases bq i.op<;>exact⟨rfl,rfl⟩
   have f:(eQ s2 i.op).lh=s2.lh/\(eQ s2 i.op).gh=s2.gh:=by unfold eQ;cases bq i.op<;>exact⟨rfl,rfl⟩
   generalize cls i.op=c at x
   match c,x with
   |0,_=>exact⟨a.1,a.2,f.1,f.2⟩
   |1,_=>exact⟨a.1,a.2,f.1,f.2⟩
   |2,_=>exact⟨a.1,a.2,f.1,f.2⟩
   |3,⟨l,k⟩=>exact⟨λb D v=>by rw[a.1];exact v,a.2,by rw[a.1,f.1,l],by rw[a.2,f.2,k]⟩
   |4,⟨l,k⟩=>exact⟨a.1,λb D v=>by rw[a.2];exact v,by rw[a.1,f.1,l],by rw[a.2,f.2,k]⟩
   |5,⟨l,k⟩=>exact⟨by rw[a.1,f.1,l],by rw[a.2,f.2,k]⟩
   |6,⟨l,k⟩=>exact⟨by rw[a.1],a.2,by rw[a.1,f.1,l],by rw[a.2,f.2,k]⟩
   |7,⟨l,k⟩=>exact⟨by rw[a.1],by rw[a.2],by rw[a.1,f.1,l],by rw[a.2,f.2,k]⟩
   |8,_=>exact⟨a.1,a.2,f.1,f.2⟩
   |9,⟨l,k⟩=>exact⟨a.1,λb o v=>⟨o,by rw[a.2];exact v,rfl⟩,by rw[a.1,f.1,l],by rw[a.2,f.2,k]⟩
   |n+10,⟨l,k⟩=>exact⟨by rw[a.1,f.1,l],by rw[a.2,f.2,k]⟩
 unfold opG at h ⊢;cases z:i.guard with
 |none=>rw[z] at h;exact m s' h
 | some q=>
  obtain⟨g,A⟩:=q;rw[z] at h;have y:get s2.env g=get s.env g:=ha g (by simp[rdG,z]);simp only at h ⊢;rw[y];split at h
  ·split at h
   ·rename_i hw
    simp only[hw,if_true];exact m s' h
   ·rename_i hw
    cases h;simp only[if_neg hw];exact⟨_,rfl,p⟩
  ·cases h
   exact⟨_,rfl,p⟩
  ·cases h
theorem mH (i:IOpG) (h:opG cf i s=some s') (d:t∉wr i.op):get s'.env t=get s.env t:=by
 have e:HOk (cls i.op) s s:=by
  generalize cls i.op=c
  match c with
  |0=>trivial
  |1=>rfl
  |2=>exact⟨λ_ g h=>⟨g,h,rfl⟩,λ_ o h=>⟨o,h,rfl⟩⟩
  |3|4|5|6|7=>exact⟨rfl,rfl⟩
  |8=>exact (rfl:s.lh=s.lh)
  |9=>exact⟨rfl,rfl⟩
  |n+10=>exact⟨rfl,rfl⟩
 obtain⟨b,a,f,_⟩:=n9 (s2:=s) i (λ_ _=>rfl) e h;rw[h] at a;cases a;have:=f t
 rwa [if_neg d] at this
theorem Fw (i:IOpG) (h:opG cf i s=some s'):lK (cls i.op) s s' s s':=by
 have d:HOk (cls i.op) s s:=by
  generalize cls i.op=c
  match c with
  |0=>trivial
  |1=>rfl
  |2=>exact⟨λ_ f h=>⟨f,h,rfl⟩,λ_ o h=>⟨o,h,rfl⟩⟩
  |3|4|5|6|7=>exact⟨rfl,rfl⟩
  |8=>exact (rfl:s.lh=s.lh)
  |9=>exact⟨rfl,rfl⟩
  |n+10=>exact⟨rfl,rfl⟩
 obtain⟨b,a,_,e⟩:=n9 (s2:=s) i (λ_ _=>rfl) d h;rw[h] at a;cases a;exact e
def qF (p x:Nat):Bool:=p==0||(x==0||((decide (p<=2)&&decide (x<=2))||((p==1&&x==3)||((p==2&&x==3)||((p==2&&x==4)||((p==3&&x==1)||((p==1&&x==6)||((p==6&&x==1)||((p==2&&x==6)||((p==2&&x==7)||((p==6&&x==2)||((p==7&&x==2)||((p==4&&x==8)||((p==8&&x==8)||(p==2&&x==9)))))))))))))))
def ij (p x:IOpG):Bool:=(wr p.op).all (λt=> !(rdG x).contains t&& !(wr x.op).contains t)&&(wr x.op).all (λt=> !(rdG p).contains t)
def Eqv (s a:St):Prop:=(∀t,get a.env t=get s.env t)/\a.lh=s.lh/\a.gh=s.gh
theorem ta {p x:Nat} (h:qF p x=true):(p=0)\/(x=0)\/(p<=2/\x<=2)\/(p=1/\x=3)\/(p=2/\x=3)\/(p=2/\x=4)\/(p=3/\x=1)\/(p=1/\x=6)\/(p=6/\x=1)\/(p=2/\x=6)\/(p=2/\x=7)\/(p=6/\x=2)\/(p=7/\x=2)\/(p=4/\x=8)\/(p=8/\x=8)\/(p=2/\x=9):=by simpa only[qF,Bool.or_eq_true,aS,dA,aH] using h
theorem dh (a:c<=2) (h:lK c s s' s2 s1):s'.lh=s.lh/\s'.gh=s.gh/\s1.lh=s2.lh/\s1.gh=s2.gh:=by
 match c,a,h with
 |0,_,h=>exact h
 |1,_,h=>exact h
 |2,_,h=>exact h
theorem fI (h:lK c s s' s2 s1) (b:s2.lh=s.lh) (a:s2.gh=s.gh):s1.lh=s'.lh/\s1.gh=s'.gh:=by
 match c,h with
 |0,h=>exact⟨by rw[h.2.2.1,b,h.1],by rw[h.2.2.2,a,h.2.1]⟩
 |1,h=>exact⟨by rw[h.2.2.1,b,h.1],by rw[h.2.2.2,a,h.2.1]⟩
 |2,h=>exact⟨by rw[h.2.2.1,b,h.1],by rw[h.2.2.2,a,h.2.1]⟩
 |3,h=>exact h.2.2
 |4,h=>exact h.2.2
 |5,h=>exact h
 |6,h=>exact h.2.2
 |7,h=>exact h.2.2
 |8,h=>exact⟨by rw[h.2.2.1,b,h.1],by rw[h.2.2.2,a,h.2.1]⟩
 |9,h=>exact h.2.2
 |n+10,h=>exact h
theorem fD (d:s2.lh=s.lh) (a:s2.gh=s.gh):HOk c s s2:=by
 match c with
 |0=>trivial
 |1=>exact a
 |2=>exact⟨λb e h=>⟨e,by rw[d];exact h,rfl⟩,λb o h=>⟨o,by rw[a];exact h,rfl⟩⟩
 |3|4|5|6|7=>exact⟨d,a⟩
 |8=>exact d
 |9=>exact⟨d,a⟩
 |n+10=>exact⟨d,a⟩
theorem EL {α β:Type} (f:α->β) {l a:List α} (h:a.map f=l.map f) {b:Nat} {x:α} (d:l[b]?=some x):∃y,a[b]?=some y/\f y=f x:=by
 have c:(a.map f)[b]?=(l.map f)[b]?:=by rw[h]
 rw[aB,aB,d] at c;simpa using c
theorem swap {p x:IOpG} (ha:ij p x=true) (n:qF (cls p.op) (cls x.op)=true) (q:opG cf p s=some s1) (r:opG cf x s1=some s2) :
  ∃t1 t2,opG cf x s=some t1/\opG cf p t1=some t2/\Eqv s2 t2:=by
 simp only[ij,aS,bV,Bool.not_eq_true',List.contains_eq_mem,decide_eq_false_iff_not] at ha;obtain⟨y,E⟩:=ha;have g:=Fw p q;have w:=λt m=>mH (t:=t) p q m
 have v:=λt m=>mH (t:=t) x r m
 have B:HOk (cls x.op) s1 s:=by
  rcases ta n with e|e|⟨e,_⟩|⟨e,_⟩|⟨e,_⟩|⟨e,_⟩|⟨e,d⟩|⟨e,_⟩|⟨e,d⟩|⟨e,_⟩|⟨e,_⟩|⟨e,d⟩|⟨e,d⟩|⟨e,d⟩|⟨e,d⟩|⟨e,d⟩
  ·have:=dh aj g;exact fD this.1.symm this.2.1.symm
  ·rw[e];trivial
  ·have:=dh aj g;exact fD this.1.symm this.2.1.symm
  ·have:=dh aj g;exact fD this.1.symm this.2.1.symm
  ·have:=dh aj g;exact fD this.1.symm this.2.1.symm
  ·have:=dh aj g;exact fD this.1.symm this.2.1.symm
  ·rw[e] at g;rw[d];exact g.2.1.symm
  ·have:=dh aj g;exact fD this.1.symm this.2.1.symm
  ·rw[e] at g;rw[d];exact g.2.1.symm
  ·have:=dh aj g;exact fD this.1.symm this.2.1.symm
  ·have:=dh aj g;exact fD this.1.symm this.2.1.symm
  ·rw[e] at g;rw[d];exact⟨λb k=>EL _ g.1.symm,λb o i=>⟨o,by rw[<-g.2.1];exact i,rfl⟩⟩
  ·rw[e] at g;rw[d];exact⟨λb k=>EL _ g.1.symm,λb o=>EL _ g.2.1.symm⟩
  ·rw[e] at g;rw[d];exact g.1.symm
  ·rw[e] at g;rw[d];exact g.1.symm
  ·have:=dh aj g;exact fD this.1.symm this.2.1.symm
 obtain⟨t1,D,u,c⟩:=n9 (s2:=s) x (λt m=>(w t (λhw=>(y t hw).1 m)).symm) B r;have C:HOk (cls p.op) s t1:=by
  rcases ta n with e|e|⟨e,d⟩|⟨e,d⟩|⟨e,d⟩|⟨e,d⟩|⟨e,d⟩|⟨e,d⟩|⟨e,d⟩|⟨e,d⟩|⟨e,d⟩|⟨e,d⟩|⟨e,d⟩|⟨e,d⟩|⟨e,d⟩|⟨e,d⟩
  ·rw[e];trivial
  ·have:=dh aj c;exact fD this.2.2.1 this.2.2.2
  ·have:=dh aj c;exact fD this.2.2.1 this.2.2.2
  ·rw[d] at c
   have:=dh aj g;rw[e];exact c.2.2.2.trans (c.2.1.trans this.2.1)
  ·rw[d] at c
   have:=dh aj g;rw[e];exact⟨λb k i=>⟨k,by rw[c.2.2.1];exact c.1 b k (by rw[this.1];exact i),rfl⟩,λb o i=>⟨o,by rw[c.2.2.2,c.2.1,this.2.1];exact i,rfl⟩⟩
  ·rw[d] at c
   have:=dh aj g;rw[e];exact⟨λb k i=>⟨k,by rw[c.2.2.1,c.1,this.1];exact i,rfl⟩,λb o i=>⟨o,by rw[c.2.2.2];exact c.2.1 b o (by rw[this.2.1];exact i),rfl⟩⟩
  ·have:=dh aj c;exact fD this.2.2.1 this.2.2.2
  ·rw[d] at c
   have:=dh aj g;rw[e];exact c.2.2.2.trans (c.2.1.trans this.2.1)
  ·have:=dh aj c;exact fD this.2.2.1 this.2.2.2
  ·rw[d] at c
   have:=dh aj g;rw[e];refine⟨λb k i=>?_,λb o i=>⟨o,by rw[c.2.2.2,c.2.1,this.2.1];exact i,rfl⟩⟩;rw[c.2.2.1];exact EL _ c.1 (by rw[this.1];exact i)
  ·rw[d] at c
   have:=dh aj g;rw[e];refine⟨λb k i=>?_,λb o i=>?_⟩
   ·rw[c.2.2.1];exact EL _ c.1 (by rw[this.1];exact i)
   ·rw[c.2.2.2];exact EL _ c.2.1 (by rw[this.2.1];exact i)
  ·have:=dh aj c;exact fD this.2.2.1 this.2.2.2
  ·have:=dh aj c;exact fD this.2.2.1 this.2.2.2
  ·rw[d] at c;exact fD c.2.2.1 c.2.2.2
  ·rw[d] at c;exact fD c.2.2.1 c.2.2.2
  ·rw[d] at c
   have:=dh aj g;rw[e];exact⟨λb k i=>⟨k,by rw[c.2.2.1,c.1,this.1];exact i,rfl⟩,λb o i=>by rw[c.2.2.2];exact c.2.1 b o (by rw[this.2.1];exact i)⟩
 obtain⟨t2,A,z,j⟩:=n9 (s2:=t1) p (λt m=>by rw[u t,if_neg (λhw=>E t hw m)]) C q;refine⟨t1,t2,D,A,λt=>?_,?_⟩
 ·rw[z t]
  by_cases hw:t∈wr p.op
  ·rw[if_pos hw,v t (y t hw).2]
  ·rw[if_neg hw,u t]
   by_cases l:t∈wr x.op
   ·rw[if_pos l]
   ·rw[if_neg l,v t l,w t hw]
 · -- the boxes
  rcases ta n with e|e|⟨e,d⟩|⟨e,d⟩|⟨e,d⟩|⟨e,d⟩|⟨e,d⟩|⟨e,d⟩|⟨e,d⟩|⟨e,d⟩|⟨e,d⟩|⟨e,d⟩|⟨e,d⟩|⟨e,d⟩|⟨e,d⟩|⟨e,d⟩
  ·have h:=dh aj g
   have a:=dh aj j;have f:=fI c h.1.symm h.2.1.symm;exact⟨a.2.2.1.trans f.1,a.2.2.2.trans f.2⟩
  ·have a:=dh aj c
   have f:=fI j a.2.2.1 a.2.2.2;exact⟨f.1.trans a.1.symm,f.2.trans a.2.1.symm⟩
  ·have a:=dh aj c
   have f:=fI j a.2.2.1 a.2.2.2;exact⟨f.1.trans a.1.symm,f.2.trans a.2.1.symm⟩
  ·have h:=dh aj g
   have a:=dh aj j;have f:=fI c h.1.symm h.2.1.symm;exact⟨a.2.2.1.trans f.1,a.2.2.2.trans f.2⟩
  ·have h:=dh aj g
   have a:=dh aj j;have f:=fI c h.1.symm h.2.1.symm;exact⟨a.2.2.1.trans f.1,a.2.2.2.trans f.2⟩
  ·have h:=dh aj g
   have a:=dh aj j;have f:=fI c h.1.symm h.2.1.symm;exact⟨a.2.2.1.trans f.1,a.2.2.2.trans f.2⟩
  ·have a:=dh aj c
   have f:=fI j a.2.2.1 a.2.2.2;exact⟨f.1.trans a.1.symm,f.2.trans a.2.1.symm⟩
  ·have h:=dh aj g
   have a:=dh aj j;have f:=fI c h.1.symm h.2.1.symm;exact⟨a.2.2.1.trans f.1,a.2.2.2.trans f.2⟩
  ·have a:=dh aj c
   have f:=fI j a.2.2.1 a.2.2.2;exact⟨f.1.trans a.1.symm,f.2.trans a.2.1.symm⟩
  ·have h:=dh aj g
   have a:=dh aj j;have f:=fI c h.1.symm h.2.1.symm;exact⟨a.2.2.1.trans f.1,a.2.2.2.trans f.2⟩
  ·have h:=dh aj g
   have a:=dh aj j;have f:=fI c h.1.symm h.2.1.symm;exact⟨a.2.2.1.trans f.1,a.2.2.2.trans f.2⟩
  ·have a:=dh aj c
   have f:=fI j a.2.2.1 a.2.2.2;exact⟨f.1.trans a.1.symm,f.2.trans a.2.1.symm⟩
  ·have a:=dh aj c
   have f:=fI j a.2.2.1 a.2.2.2;exact⟨f.1.trans a.1.symm,f.2.trans a.2.1.symm⟩
  ·have a:=c
   rw[d] at a;have f:=fI j a.2.2.1 a.2.2.2;exact⟨f.1.trans a.1.symm,f.2.trans a.2.1.symm⟩
  ·have a:=c
   rw[d] at a;have f:=fI j a.2.2.1 a.2.2.2;exact⟨f.1.trans a.1.symm,f.2.trans a.2.1.symm⟩
  ·have h:=dh aj g
   have a:=dh aj j;have f:=fI c h.1.symm h.2.1.symm;exact⟨a.2.2.1.trans f.1,a.2.2.2.trans f.2⟩
end
end
end Go.Lw