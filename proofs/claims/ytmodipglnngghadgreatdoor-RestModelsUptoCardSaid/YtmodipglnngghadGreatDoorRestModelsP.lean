/-
  The texts that the proof stands on, part 16.
-/
import Derived.Test.YtmodipglnngghadGreatDoorRestModelsC
import Derived.Test.YtmodipglnngghadGreatDoorRestModelsO
import Derived.OrdersIn
set_option linter.unusedVariables false
set_option linter.unusedSimpArgs false
set_option linter.unnecessarySimpa false

set_option maxRecDepth 100000
set_option maxHeartbeats 4000000
namespace Go.Lw
open Go
section
open Go.RowKit
section
variable {fi:FI} {M M':Mem} {w w':World} {P:Program} {s s' s1 s2 t1 t2:St} {a:Act} {cf:CallF}
def nq (a:Array Oper):Nat->Nat->Nat->Bool
 |0,_,_=>false
 |f+1,i,j=>match a[i]? with
  |some o=>o.after.any λe=>Region.binds .any e&&(e.on==j||(decide (j<e.on)&&nq a f e.on j))
  |none=>false
def tq (a:Array Oper) (b:List IOpG):Bool:=
 (List.range a.size).all λi=>
  (match a[i]? with
   |some o=>o.after.all λe=> !Region.binds .any e||decide (e.on<i)
   |none=>true) &&
  (List.range i).all λj=>nq a a.size i j||(match b[j]?,b[i]? with
   |some p,some x=>qG p x
   |_,_=>false)
def nth (a:List IOpG) (j:Nat):IOpG:=(a[j]?).getD ⟨.mkmap 0,none⟩
def rest (b:Array Oper) (a:Array Bool):gj:=(List.range b.size).filter λj=> !a.getD j true
def xR (b:Array Oper) (a:Array Bool):Prop:=
 ∀(i:Nat) (o:Oper) (e:Edge),b[i]?=some o->a.getD i false=true->e∈o.after->Region.binds .any e=true->a.getD e.on false=true
theorem xS {b:Array Oper} {a:Array Bool} (m:xR b a):∀(f i j:Nat),nq b f i j=true->
  (∀o,b[i]?=some o->∀e∈o.after,Region.binds .any e=true->a.getD e.on false=true)->a.getD j false=true
 |0,i,j,h,_=>by simp[nq] at h
 | f+1,i,j,h,p=>by
  simp only[nq] at h;split at h
  ·rename_i o q
   obtain⟨e,r,k⟩:=Array.any_eq_true'.1 h;simp only[aS,Bool.or_eq_true,dA,aH] at k;have l:=p o q e r k.1;rcases k.2 with g|⟨_,g⟩
   ·rw[<-g];exact l
   ·exact xS m f e.on j g (λn c t d s=>m e.on n t c l d s)
  ·cases h
theorem H4 {N:Nat} {a:Array Oper}:∀{c:List IOpG} {b:List Oper},iG P fi N a c b=true->c.length=b.length/\∀(i:Nat) (o:Oper),b[i]?=some o->∃x,c[i]?=some x/\lI P fi N a x o=true
 |[],[],_=>bh
 |[],_::_,h=>by simp[iG] at h
 |_::_,[],h=>by simp[iG] at h
 |x::c,o::b,h=>by
  simp only[iG,aS] at h;obtain⟨g,f⟩:=H4 h.2;refine⟨by simp[g],λi e d=>?_⟩;cases i with
  |zero=>simp at d;subst d;exact⟨x,rfl,h.1⟩
  |succ i=>obtain⟨y,k,j⟩:=f i e (by simpa using d);exact⟨y,by simpa using k,j⟩
theorem Pf {b:Array Oper} {a:Array Bool} {i:Nat} (k:a.size=b.size) (l:i<b.size) (h:a.getD i true=false) :
  ∃c f,rest b a=c++i::f/\rest b (a.setIfInBounds i true)=c++f/\∀j∈c,j<i/\a.getD j true=false:=by
 refine⟨(List.range i).filter λj=> !a.getD j true,(List.range' (i+1) (b.size-i-1)).filter λj=> !a.getD j true,?_,?_,λj d=>?_⟩
 ·have e:List.range b.size=List.range i++i::List.range' (i+1) (b.size-i-1):=by
   rw[List.range_eq_range',List.range_eq_range',<-List.range'_succ,show b.size-i-1+1=b.size-i by omega];have:=List.range'_append_1 (s:=0) (m:=i) (n:=b.size-i);simp only[cX] at this;rw[this];congr 1;omega
  rw[rest,e,List.filter_append,List.filter_cons,h];rfl
 ·have e:List.range b.size=List.range i++i::List.range' (i+1) (b.size-i-1):=by
   rw[List.range_eq_range',List.range_eq_range',<-List.range'_succ,show b.size-i-1+1=b.size-i by omega];have:=List.range'_append_1 (s:=0) (m:=i) (n:=b.size-i);simp only[cX] at this;rw[this];congr 1;omega
  have g:(a.setIfInBounds i true).getD i true=true:=by simp[k,l]
  rw[rest,e,List.filter_append,List.filter_cons,g];simp only[Bool.not_true,bR,if_false]
  congr 1
  ·refine List.filter_congr λj d=>?_
   have:i≠j:=by simp at d;omega
   rw[getD_set_ne true this]
  ·refine List.filter_congr λj d=>?_
   have:i≠j:=by simp[List.mem_range'] at d;omega
   rw[getD_set_ne true this]
 ·simp only[List.mem_filter,List.mem_range,Bool.not_eq_true'] at d
  exact d
theorem FM {r:Option Nat} {n:Nat} (av:ii P fi cf) (ap:sv P fi cf) {N:Nat} {c:Array Oper} {O:List IOpG} {Q:Exit->Act->World->Prop} (hm:iG P fi N c O c.toList=true) (hd:tq c O=true) :
  ∀(f:Nat) (b:Array Bool) (s s1:St) (a:Act) (M:Mem) (w:World),b.size=c.size->xR c b->(rest c b).length<=f->Inv fi M w s a->N<=a.tmps.size->
  dt cf ((rest c b).map (nth O)) s=some s1->(∀L M' w',Inv fi M' w' s1 L->Kp M w M' w'->L.tmps.size=a.tmps.size->Q .normal L w')->wpAnyIn (FR r) n P .any c Q f b a w:=by
 have E:∀(b:Array Bool),b.size=c.size->Region.ready .any c b=[]->rest c b=[]:=by
  intro b C hr;have aB:∀n i,i<n->i<c.size->b.getD i true=true:=by
   intro n
   induction n with
   |zero=>intro i h;omega
   | succ n T=>
    intro i _ m;cases U:b.getD i true with
    |true=>rfl
    | false=>
     have:i∈Region.ready .any c b:=by rw[mem_ready];refine⟨U,c[i],Array.getElem?_eq_getElem m,λe u v=>?_⟩;have A:=bV.1 hd i (by simp[m]);rw[aS,Array.getElem?_eq_getElem m] at A;have z:=Array.all_eq_true_iff_forall_mem.1 A.1 e u;rw[v] at z;simp at z;have y:=T e.on aj aj;have h4:e.on<b.size:=aj;simpa [h4] using y
     rw[hr] at this;cases this
  rw[rest,List.filter_eq_nil_iff];intro i m;simp at m;simp only[aB (i+1) i aj m,Bool.not_true,bR,not_false_eq_true]
 obtain⟨aC,H⟩:=H4 hm;intro f
 induction f with
 | zero=>
  intro b s s1 a M w C t hf R hN d hn;have hr:rest c b=[]:=List.length_eq_zero_iff.1 aj;rw[hr] at d;simp[dt] at d;subst d;refine⟨?_,hn a M w R (Kp.refl M w) rfl⟩;rw[List.eq_nil_iff_forall_not_mem];intro i m;rw[mem_ready] at m;obtain⟨A,o,z,_⟩:=m;have y:i∈rest c b:=by rw[rest,List.mem_filter];exact⟨by simp[(Array.getElem?_eq_some_iff.1 z).1],by rw[A];rfl⟩
  rw[hr] at y;cases y
 | succ f T=>
  intro b s s1 a M w C t hf R hN d hn;refine⟨λhr=>?_,λi m=>?_⟩
  ·rw[E b C hr] at d
   simp[dt] at d;subst d;exact hn a M w R (Kp.refl M w) rfl
  ·rw [mem_ready] at m
   obtain⟨U,o,D,q⟩:=m;have F:i<c.size:=(Array.getElem?_eq_some_iff.1 D).1;obtain⟨aE,aD,e1,e2,e3⟩:=Pf C F U;obtain⟨x,hx,al⟩:=H i o (by simpa using D);have ad:nth O i=x:=by simp[nth,hx]
   rw[e1,bI,bS,ad] at d;obtain⟨u1,u2,A,z,y⟩:=xQ d (λp hp=>by
    obtain⟨j,hj,rfl⟩:=List.mem_map.1 hp;obtain⟨j1,S⟩:=e3 j hj;have I:=bV.1 hd i (by simp[F]);rw[aS] at I;have g:=bV.1 I.2 j (by simp[j1]);rw[Bool.or_eq_true] at g;rcases g with g|g
    ·have:=xS t _ i j g (λo' l e u v=>by rw[D] at l;cases l;exact q e u v)
     have ao:j<b.size:=aj;simp[ao] at this S;rw[this] at S;cases S
    ·split at g
     ·rename_i p' x' ab B
      rw[hx] at B;cases B;simpa [nth,ab] using g
     ·cases g)
   unfold wpOpIn;rw[D]
   have:=xt (r:=r) (n:=n) (Q:=Q) (next:=wpAnyIn (FR r) n P .any c Q f (b.setIfInBounds i true)) av ap R al hN A (λL M' w' aA hk X=>
    T (b.setIfInBounds i true) u1 u2 L M' w' (by simp[C]) (λk o' e l hl u v=>by
     by_cases G:i=k
     ·subst G
      rw[D] at l;cases l;exact getD_set_true (q e u v)
     ·rw[getD_set_ne false G] at hl
      exact getD_set_true (t k o' e l hl u v)) (by rw[e2];rw[e1] at hf;simp at hf ⊢;omega) aA aj (by rw[e2,bI];exact z)
     (λa2 M2 w2 ax an aa=>hn a2 M2 w2 (ax.eqv y.symm) (hk.trans an) (aa.trans X)))
   simp only;split
   ·rename_i hw;rw[if_pos hw] at this;exact this
   ·rename_i hw;rw[if_neg hw] at this;exact⟨λ_ _=>trivial,this⟩
theorem FN (a:List IOpG):(List.range a.length).map (nth a)=a:=by
 apply List.ext_getElem?;intro j;by_cases b:j<a.length
 ·simp[nth,b]
 ·simp[b]
theorem FO {r:Option Nat} {n:Nat} (z:P.follows .mixedOrders=true) (k:ii P fi cf) (g:sv P fi cf) {N q:Nat} {b:Array Oper} {f:List IOpG} {Q:Exit->Act->World->Prop} (m:iG P fi N b f b.toList=true) (y:tq b f=true) (B:Inv fi M w s a) (A:N<=a.tmps.size)
  (h:dt cf f s=some s') (hn:∀d M' w',Inv fi M' w' s' d->Kp M w M' w'->d.tmps.size=a.tmps.size->Q .normal d w'):(Code.region q b true).wpIn (FR r) n P Q a w:=by
 have c:f.length=b.size:=by rw[(H4 m).1];simp
 obtain⟨l,v⟩:=B.drew;refine wpIn_region_any z (FM k g m y b.size _ s s' a M w.drew bh ?_ ?_ l A ?_ (λd M' w' E D C=>hn d M' w' E (v.trans D) C))
 ·intro i o e t u
  have x:=(Array.getElem?_eq_some_iff.1 t).1;simp[x] at u
 ·exact cC (List.length_filter_le _ _) bh
 ·have hr:rest b (Array.replicate b.size false)=List.range b.size:=by
   rw[rest,List.filter_eq_self];intro j p;simp at p;simp[p]
  rw[hr,<-c,FN];exact h
end
end
section
open Go.RowKit
section
variable {fi:FI} {M M':Mem} {w w':World} {P:Program} {s s':St} {a:Act} {cf:CallF}
def xT:IExit->Exit
 | .normal=> .normal
 | .exit i=> .exit i
 | .ret=> .ret
def CPost (d:FI) (M:Mem) (w:World) (n:Nat) (e:IExit) (c:St):Exit->Act->World->Prop:=
 λf b w'=>f=xT e/\∃M',Inv d M' w' c b/\Kp M w M' w'/\b.tmps.size=n
end
end
section
open Go.RowKit
section
variable {fi:FI} {M M':Mem} {w w':World} {P:Program} {s s' s1 s2 t1 t2:St} {a:Act} {cf:CallF} {pg:Prg}
def eh (P:Program) (e:FI) (N:Nat):ICode->Code->Bool
 | .post g _ _,c=>eh P e N g c
 | .lift g _ _,c=>eh P e N g c
 | .cut g,c=>eh P e N g c
 | .bad,_=>true
 | .skip,.skip=>true
 | .region h d,.region _ f k=>d==k&&iG P e N f h f.toList&&(!d||tq f h)
 | .seq a b,.seq x y=>eh P e N a x&&eh P e N b y
 | .cond x a b,.cond o c d=>mX e x o&&eh P e N a c&&eh P e N b d
 | .block i a,.block j c=>i==j&&eh P e N a c
 | .loop a,.loop c=>eh P e N a c
 | .exit i,.exit j=>i==j
 | .ret,.ret=>true
 |_,_=>false
def l9:ICode->Bool
 | .post a _ _| .lift a _ _| .cut a| .block _ a| .loop a=>l9 a
 | .seq a b| .cond _ a b=>l9 a&&l9 b
 |_=>true
theorem qM {c:Nat} {e:fT}:∀{d:gj} {t:Nat} {v:PV},get (keep c d e) t=some v->get e t=some v/\bj c v=true
 |[],t,v,h=>by simp[keep,get] at h
 | k::d,t,v,h=>by
  simp only[keep] at h;cases b:get e k with
  |none=>rw[b] at h;exact qM h
  | some u=>
   rw[b] at h;simp only at h;split at h
   ·rename_i f
    simp only[get] at h;split at h
    ·rename_i a;subst a;cases h;exact⟨b,f⟩
    ·exact qM h
   ·exact qM h
theorem Inv.keep (r:Inv fi M w s a) (ks:gj) (D:Nat) :
  Inv fi {M with lb:=M.lb.take D } w ⟨Lw.keep D ks s.env,s.lh.take D,s.gh⟩ a/\Kp M w {M with lb:=M.lb.take D } w:=by
 have E:Ext M w {M with lb:=M.lb.take D } w:=⟨λ_ _ h=>h,λ_ _ h=>h,λ_ _ _=>rfl,λ_ _=>⟨cW _,λ_=>rfl⟩,λ_ _ _=>rfl⟩
 have q:∀b,b∈M.lb.take D->b∈M.lb:=λb h=>cQ h
 have ow:∀{l:Loc} {z:Nat} {X:fw} {v:Value},OwnRep fi M w l z X v->OwnRep fi {M with lb:=M.lb.take D } w l z X v:=by
  intro l z X v h;obtain⟨g,d⟩:=h;refine⟨g.mono E,?_⟩;rcases d with d|⟨b,o,c,C,e,R,ho,hh,hs,hk,L,I,hn⟩
  ·exact .inl d
  ·exact .inr ⟨b,o,c,C,e,R,ho,hh,hs,hk,λh=>L (q b h),I,hn⟩
 have rc:∀{l:Loc} {p:PV} {v:Value},RepC fi M w l p v->RepC fi {M with lb:=M.lb.take D } w l p v:=by
  intro l p v h;unfold RepC at *;split at h
  ·exact ow h
  ·exact h.mono E
 have rb:∀{mk:Nat->Loc} {f:Nat} {C:fw},RepBox fi M w mk f C->RepBox fi {M with lb:=M.lb.take D } w mk f C:=by intro mk f C h;obtain⟨g,d,B,n,Q,T,F,U,S⟩:=h;exact⟨g,d,B,n,Q,T,F,U,λi c u H G=>rc (S i c u H G)⟩
 refine⟨⟨λt v R=>?_,r.defers,by simp[r.lbl],r.gbl,?_,λi C f g d=>?_,λi o f g d=>?_,r.gl,r.immlt,r.ownlt,r.gblt⟩,
  ⟨rfl,rfl,rfl,cW _,E,λ_ _ _ _ _=>rfl,λk h=> .inl (q k h),λ_ h=> .inl h,λ_ _ h=>h,λ_ _ h=> .inl h,.same rfl⟩⟩
 ·obtain⟨g,d⟩:=qM R
  obtain⟨B,n⟩:=r.env t v g;refine⟨B,?_⟩;unfold RepAt at *;split at n
  ·exact ow n
  ·obtain⟨h0,b,T,c,R,H,ho,hh,hk,L,I⟩:=n
   exact⟨h0,b,T,c,R,H,ho,hh,hk,λh=>L (q b h),I⟩
  ·obtain⟨Q,O,N,e3⟩:=n
   exact⟨Q,O,N,λi c u H G=>rc (e3 i c u H G)⟩
  ·obtain⟨Q,O,N,e3⟩:=n
   exact⟨Q,O,N,λi c u H G=>rc (e3 i c u H G)⟩
  ·unfold RepE at *
   split at n
   ·obtain⟨f,O,N⟩:=n
    simp only[bj,aH] at d;exact⟨f,by simp only[cL,d,if_true];exact O,N⟩
   ·obtain⟨f,A,c,O,N⟩:=n
    simp only[bj,aH] at d;exact⟨f,A,c,by simp only[cL,d,if_true];exact O,N⟩
   ·exact n.mono E
 ·have:=r.nodup
  rw[cT] at this ⊢;exact⟨this.1.sublist (List.take_sublist _ _),this.2.1,λx E y hy=>this.2.2 x (q x E) y hy⟩
 ·simp only[cL] at g d
  split at g
  ·rename_i aa
   rw[if_pos aa] at d;exact rb (r.lh i C f g d)
  ·cases g
 ·have:=r.gh i o f g d
  cases o with
  |cells C=>exact rb this
  |map es=>
   obtain⟨g,d,l,P,B,n,F⟩:=this;exact⟨g,d,l,P,B,n,λi e m he hm=>⟨(F i e m he hm).1.mono E,(F i e m he hm).2.1.mono E,(F i e m he hm).2.2⟩⟩
  | stk al X=>
   obtain⟨g,d,B,n,F,C,T,U,S,h8,h9⟩:=this;exact⟨g,d,B,n,F,C,T,U,S,h8,λj x hj=>by obtain⟨u,G,hr⟩:=h9 j x hj;exact⟨u,G,hr.mono E⟩⟩
  |bld t=>
   obtain⟨g,d,B,T,hT,n⟩:=this;refine⟨g,d,B,T,hT,?_⟩;rcases n with n|⟨c,ad,ab,F,U,S,h8⟩
   ·exact .inl n
   ·exact .inr ⟨c,ad,ab,F,U,λh=>S (cQ h),h8⟩
  |trash=>
   obtain⟨g,d,ht,B⟩:=this;refine⟨g,d,ht,λb k hd=>?_⟩;obtain⟨k1,k2,k3,k4⟩:=B b k hd;exact⟨k1,k2,λh=>k3 (cQ h),k4⟩
def jd (b n:Nat):Loc->Loc
 | .lh a i=>if a=b then .gh n i else .lh a i
 |l=>l
theorem Inv.lift (f:Inv fi M w s a) {ks:gj} {n:Nat} (h:jD ks n s=some s'):∃M',Inv fi M' w s' a/\Kp M w M' w:=by
 unfold jD at h;split at h
 ·rename_i b hb
  split at h
  ·rename_i cs ab
   split at h
   ·rename_i an
    cases h;obtain⟨Q,L,F,O⟩:=f.env n _ hb;obtain⟨q1,q2,q3,q4,vs,T,q5,q6,q7⟩:=f.lh b cs L ab F;obtain⟨m,I⟩:=f.keep ks b;have B:=f.nodup;rw[cT] at B;have al:L∉M.gb:=λX=>B.2.2 L (aL F) L X rfl
    have ad:L∉M.lb.take b:=λR=>by
     obtain⟨i,z⟩:=List.mem_iff_getElem?.1 R;rw[cL] at z;split at z
     ·rename_i ao
      have:=lG B.1 z F;omega
     ·cases z
    let A:Mem:={M with lb:=M.lb.take b }
    let M':Mem:={A.rel (jd b s.gh.length) with gb:=M.gb++[L] }
    have D:Ext (A.rel (jd b s.gh.length)) w M' w:=⟨λi k h=>by
      show (M.gb++[L])[i]?=some k
      have r:M.gb[i]?=some k:=h;rw[aI (aD.1 r).1];exact r,λ_ _ h=>h,λ_ _ _=>rfl,λ_ _=>⟨cW _,λ_=>rfl⟩,λ_ _ _=>rfl⟩
    have g:Good (A.rel (jd b s.gh.length)) w M' w (λ_=>False) (λ_=>False):=
     ⟨D,cW _,λ_ _ h=>h,λx l' r _=>⟨r,rfl,λ_ h=>h,id,λX U=>by
      rcases cE.1 (show x∈M.gb++[L] from U) with d|d
      ·exact X d
      ·simp at d
       subst d;have:(M.own x).map (jd b s.gh.length)=some l':=r;rw[q3] at this;cases this⟩,λx _ _ h=>⟨rfl,λ_ h=>h,h⟩,λ_ _=>rfl⟩
    have aa:∀i j,jd b s.gh.length (Loc.gh i j)=Loc.gh i j:=λ_ _=>rfl
    refine⟨M',⟨λt v E=>?_,f.defers,m.lbl,by simp[M',f.gbl],?_,λi C y q d=>?_,λi o y q d=>?_,f.gl,f.immlt,λx l' r=>?_,λx r=>?_⟩,
     ⟨rfl,rfl,rfl,cW _,(I.ext.trans (Ext.rel A w _)).trans D,λ_ _ _ _ _=>rfl,λk h=> .inl (cQ h),λk h=>?_,λk _ h=>by simp[M',A,Mem.rel,h],λ_ _ h=> .inl h,.same rfl⟩⟩
    ·rw[dl] at E
     split at E
     ·rename_i P
      subst P;cases E;refine⟨Q,?_⟩;rw[O];refine (RepP.ptr _ _ _ ?_).repE.repAt
      show (M.gb++[L])[s.gh.length]?=some L
      rw[aN (by rw[f.gbl];exact cW _),f.gbl];simp
     ·obtain⟨e1,e2⟩:=m.env t v E
      exact⟨e1,(e2.rel (jd b s.gh.length) (mk':=Loc.env t) (λi=>rfl)).good g bh⟩
    ·show (M.lb.take b++(M.gb++[L])).Nodup
     rw[<-aT];refine lF m.nodup (λR=>?_);rcases cE.1 R with d|d
     ·exact ad d
     ·exact al d
    ·have z:i<b:=by
      have:=(aD.1 q).1;simp only[cR] at this;omega
     exact ((m.lh i C y q d).rel (jd b s.gh.length) (λj=>by simp only[jd];rw[if_neg aj])).good g bh bh
    ·have p:(M.gb++[L])[i]?=some y:=d
     by_cases z:i<s.gh.length
     ·rw[aI z] at q
      rw[aI (by rw[f.gbl];exact z)] at p;exact ((m.gh i o y q p).rel (jd b s.gh.length) (aa i)).good g bh bh
     ·have S:=(aD.1 q).1
      simp at S;obtain rfl:i=s.gh.length:=aj;simp at q;subst q;rw[aN (by rw[f.gbl];exact cW _),f.gbl] at p;simp at p;subst p;refine⟨q1,q2,by simp[M',A,Mem.rel,q3],q4,vs,T,q5,q6,λN c u hc hu=>?_⟩;have G:=q7 N c u hc hu;have h4:RepC fi A w (Loc.lh b N) c u:=by
       unfold RepC at G ⊢;split at G
       ·obtain⟨r1,H⟩:=G
        refine⟨r1.mono I.ext,?_⟩;rcases H with H|⟨x,o',c',C,e',z1,z2,z3,z4,z5,z6,z7⟩
        ·exact .inl H
        ·exact .inr ⟨x,o',c',C,e',z1,z2,z3,z4,z5,λh=>z6 (cQ h),z7⟩
       ·exact G.mono I.ext
      exact (h4.rel (jd b s.gh.length) (l':=Loc.gh s.gh.length N) (by simp[jd])).good g bh
    ·simp only[M',A,Mem.rel,aE] at r
     obtain⟨l0,q,_⟩:=r;exact f.ownlt x l0 q
    ·rcases cE.1 (show x∈M.gb++[L] from r) with d|d
     ·exact f.gblt x d
     ·simp at d;subst d;exact q1
    ·rcases cE.1 (show k∈M.gb++[L] from h) with d|d
     ·exact .inl d
     ·simp at d;subst d;exact .inr (.inr (.inr (aL F)))
   ·cases h
  ·cases h
 ·cases h
def mL (P:Program) (d:FI) (pg:Prg) (n:Nat):Prop:=
 ∀(r:Option Nat) (f N:Nat) (b:ICode) (c:Code) (s:St) (e:IExit) (s':St) (a:Act) (M:Mem) (w:World),(r=none\/l9 b=true)->eh P d N b c=true->bf pg n b s=some (e,s')->Inv d M w s a->N<=a.tmps.size->
  c.wpIn (FR r) f P (CPost d M w a.tmps.size e s') a w
theorem xU {T:Nat->Prop} (h:∃m,T m):∃m,T m/\∀k,T k->m<=k:=by
 obtain⟨m,f⟩:=h
 induction m using Nat.strongRecOn with
 | _ m d=>
  by_cases c:∃k,k<m/\T k
  ·obtain⟨k,b,e⟩:=c
   exact d k b e
  ·refine⟨m,f,λk b=>?_⟩
   by_cases a:k<m
   ·exact absurd ⟨k,a,b⟩ c
   ·omega
theorem CPost.mono {n:Nat} {e:IExit} {d:Exit} {f:Act} {b:World} {g:Mem} {c:World} (i:Kp M w g c) (h:CPost fi g c n e s' d f b):CPost fi M w n e s' d f b:=by obtain⟨m,M',l,k,j⟩:=h;exact⟨m,M',l,i.trans k,j⟩
theorem xV (hP:P.follows .mixedOrders=true) {n:Nat} (H:mL P fi pg n) (ab:ii P fi (du (bf pg n) pg)) (aa:sv P fi (du (bf pg n) pg)):mL P fi pg (n+1):=by
 intro r G N I
 induction I with
 |bad=>
  intro c s e s' a M w g b h f l;simp[bf] at h
 |cut I X=>
  intro c s e s' a M w g b h f l;exact H r G N I c s e s' a M w (by simpa [l9] using g) b h f l
 | lift I ks t X=>
  intro c s e s' a M w g b h f l;simp only[eh] at b;rw[bf] at h;cases ha:bf pg n I s with
  |none=>simp[ha] at h
  | some x=>
   obtain⟨C,s1⟩:=x;rw[ha] at h;have hw:=H r G N I c s C s1 a M w (by simpa [l9] using g) b ha f l;refine wpIn_mono hw ?_;rintro ex F w' ⟨B,M',A,z,q⟩;cases C with
   |normal=>
    simp only[aE,bZ] at h;obtain⟨s2,ad,rfl,rfl⟩:=h;obtain⟨M2,k1,k2⟩:=A.lift ad;exact⟨B,M2,k1,z.trans k2,q⟩
   |exit i=>
    simp only[bW,bZ] at h;obtain⟨rfl,rfl⟩:=h;exact⟨B,M',A,z,q⟩
   |ret=>
    simp only[bW,bZ] at h;obtain⟨rfl,rfl⟩:=h;exact⟨B,M',A,z,q⟩
 | post I ks nl X=>
  intro c s e s' a M w g b h f l;simp only[eh] at b;rw[bf] at h;cases ha:bf pg n I s with
  |none=>simp[ha] at h
  | some x=>
   obtain⟨C,s1⟩:=x;rw[ha] at h;have hw:=H r G N I c s C s1 a M w (by simpa [l9] using g) b ha f l;refine wpIn_mono hw ?_;rintro ex F w' ⟨B,M',A,z,q⟩;cases C with
   |normal=>
    simp only[bW,bZ] at h;obtain⟨rfl,rfl⟩:=h;obtain⟨k1,k2⟩:=A.keep ks nl;exact⟨B,_,k1,z.trans k2,q⟩
   |exit i=>
    simp only[bW,bZ] at h;obtain⟨rfl,rfl⟩:=h;exact⟨B,M',A,z,q⟩
   |ret=>
    simp only[bW,bZ] at h;obtain⟨rfl,rfl⟩:=h;exact⟨B,M',A,z,q⟩
 |skip=>
  intro c s e s' a M w g b h f l;cases c<;>simp[eh] at b;simp[bf] at h;obtain⟨rfl,rfl⟩:=h;exact wpIn_skip ⟨rfl,M,f,Kp.refl M w,rfl⟩
 |ret=>
  intro c s e s' a M w g b h f l;cases c<;>simp[eh] at b;simp[bf] at h;obtain⟨rfl,rfl⟩:=h;exact wpIn_ret ⟨rfl,M,f,Kp.refl M w,rfl⟩
 |exit i=>
  intro c s e s' a M w g b h f l;cases c<;>simp[eh] at b;subst b;simp[bf] at h;obtain⟨rfl,rfl⟩:=h;exact wpIn_exit ⟨rfl,M,f,Kp.refl M w,rfl⟩
 |region is d=>
  intro c s e s' a M w g b h f l;cases c<;>simp[eh] at b;rename_i id ao d';obtain⟨⟨rfl,L⟩,hd⟩:=b;simp only[bf,aE,bZ] at h;obtain⟨s1,B,rfl,rfl⟩:=h;cases d with
  |false=>exact wpIn_region_list (xu ab aa L f l B (λF M' w' U hk hs=>⟨rfl,M',U,hk,hs⟩))
  |true=>exact FO hP ab aa L (by simpa using hd) f l B (λF M' w' U hk hs=>⟨rfl,M',U,hk,hs⟩)
 | seq x y _ _=>
  intro c s e s' a M w g b h f l;cases c<;>simp[eh] at b;rename_i c d;rw[bf] at h;refine wpIn_seq ?_;cases ha:bf pg n x s with
  |none=>simp[ha] at h
  | some r=>
   obtain⟨C,s1⟩:=r;rw[ha] at h;refine wpIn_mono (H r G N x c s C s1 a M w (g.imp id λh=>by simp[l9] at h;exact h.1) b.1 ha f l) ?_;rintro ex F w' ⟨B,M',A,z,q⟩;subst B;cases C with
   |normal=>
    simp only at h;exact wpIn_mono (H r G N y d s1 e s' F M' w' (g.imp id λh=>by simp[l9] at h;exact h.2) b.2 h A aj) (λex a2 w2 g=>by rw[q] at g;exact g.mono z)
   |exit i=>
    simp only[bW,bZ] at h;obtain⟨rfl,rfl⟩:=h;exact⟨rfl,M',A,z,q⟩
   |ret=>
    simp only[bW,bZ] at h;obtain⟨rfl,rfl⟩:=h;exact⟨rfl,M',A,z,q⟩
 | cond x u v _ _=>
  intro c s e s' a M w g b h f l;cases c<;>simp[eh] at b;rename_i o c d;rw[bf] at h;split at h
  ·rename_i hx
   exact wpIn_cond_true (bt f b.1.1 hx).bool (H r G N u c s e s' a M w (g.imp id λh=>by simp[l9] at h;exact h.1) b.1.2 h f l)
  ·rename_i hx
   exact wpIn_cond_false (bt f b.1.1 hx).bool (H r G N v d s e s' a M w (g.imp id λh=>by simp[l9] at h;exact h.2) b.2 h f l)
  ·cases h
 | block i x _=>
  intro c s e s' a M w g b h f l;cases c<;>simp[eh] at b;rename_i j c;obtain⟨rfl,b⟩:=b;rw[bf] at h;refine wpIn_block ?_;cases ha:bf pg n x s with
  |none=>simp[ha] at h
  | some r=>
   obtain⟨C,s1⟩:=r;rw[ha] at h;refine wpIn_mono (H r G N x c s C s1 a M w (by simpa [l9] using g) b ha f l) ?_;rintro ex F w' ⟨B,M',A,z,q⟩;subst B;cases C with
   |normal=>
    simp only[bW,bZ] at h;obtain⟨rfl,rfl⟩:=h;exact⟨rfl,M',A,z,q⟩
   | exit k=>
    simp only at h;simp only[xT,Exit.inBlock];split at h
    ·rename_i Q
     simp only[bW,bZ] at h;obtain⟨rfl,rfl⟩:=h;rw[if_pos Q];exact⟨rfl,M',A,z,q⟩
    ·rename_i Q
     simp only[bW,bZ] at h;obtain⟨rfl,rfl⟩:=h;rw[if_neg Q];exact⟨rfl,M',A,z,q⟩
   |ret=>
    simp only[bW,bZ] at h;obtain⟨rfl,rfl⟩:=h;exact⟨rfl,M',A,z,q⟩
 | loop x _=>
  intro c s e s' a M w g b h f l;cases c<;>simp[eh] at b;rename_i c
  let T:Act->World->Nat->Prop:=λE D m=>m<=n+1/\∃s1 M1,Inv fi M1 D s1 E/\bf pg m (.loop x) s1=some (e,s')/\Kp M w M1 D/\E.tmps.size=a.tmps.size
  refine wpIn_loop (λE D=>∃m,T E D m) (λE D=>Classical.epsilon λm=>T E D m/\∀k,T E D k->m<=k) ⟨n+1,cW _,s,M,f,h,Kp.refl M w,rfl⟩ ?_;intro E D hT;obtain⟨⟨al,s1,M1,an,hr,R,O⟩,_⟩:=Classical.epsilon_spec (p:=λm=>T E D m/\∀k,T E D k->m<=k) (xU hT);generalize (Classical.epsilon λm=>T E D m/\∀k,T E D k->m<=k)=m at al hr ⊢;cases m with
  |zero=>simp[bf] at hr
  | succ m=>
   rw[bf] at hr;cases ha:bf pg m x s1 with
   |none=>simp[ha] at hr
   | some r=>
    obtain⟨C,s2⟩:=r;rw[ha] at hr;refine wpIn_mono (H r G N x c s1 C s2 E M1 D (by simpa [l9] using g) b (fH pg aj ha) an aj) ?_;rintro ex F w' ⟨B,M',A,z,q⟩;subst B;cases C with
    |normal=>
     simp only at hr;have S:T F w' m:=⟨aj,s2,M',A,hr,R.trans z,q.trans O⟩
     refine⟨⟨m,S⟩,?_⟩;have:=(Classical.epsilon_spec (p:=λm=>T F w' m/\∀k,T F w' k->m<=k) (xU ⟨m,S⟩)).2 m S;exact Nat.lt_succ_of_le this
    |exit i=>
     simp only[bW,bZ] at hr;obtain⟨rfl,rfl⟩:=hr;exact⟨rfl,M',A,R.trans z,q.trans O⟩
    |ret=>
     simp only[bW,bZ] at hr;obtain⟨rfl,rfl⟩:=hr;exact⟨rfl,M',A,R.trans z,q.trans O⟩
end
end
section
open Go.RowKit
mutual
def PV.bnd (n:Nat):PV->Bool
 | .agg cs=>gO n cs
 | .tup cs=>gO n cs
 | .sl _ _ xs=>gO n xs
 | .ep e _=>e.bnd n
 | .fn _ cs=>gO n cs
 | .bfn _ cs=>gO n cs
 | .fr _ xs=>gO n xs
 | .ol _ xs=>gO n xs
 | .dj g _ _| .djp g _=>decide (g<n)
 | .sub b _ _ _=>decide (b<n)
 | .bs true b _ _ _=>decide (b<n)
 | .stk b _ _=>decide (b<n)
 | .pstk b _ _=>decide (b<n)
 | .ptr true b _=>decide (b<n)
 | .mp b=>decide (b<n)
 |_=>true
def gO (n:Nat):fw->Bool
 |[]=>true
 |c::l=>c.bnd n&&gO n l
end
section
variable {fi:FI} {M M':Mem} {w w':World} {P:Program} {s s':St} {a:Act} {cf:CallF} {pg:Prg}
theorem kb {n:Nat} {l:fw} (h:gO n l=true) {i:Nat} {c:PV} (a:l[i]?=some c):c.bnd n=true:=by
 induction l generalizing i with
 |nil=>simp at a
 |cons x l b=>
  simp only[gO,aS] at h;cases i with
  |zero=>simp at a;exact a▸h.1
  |succ i=>exact b h.2 (by simpa using a)
theorem lM {n:Nat} {l:fw} (h:∀(i:Nat) (c:PV),l[i]?=some c->c.bnd n=true):gO n l=true:=by
 induction l with
 |nil=>rfl
 |cons x l a=>
  simp only[gO,aS];exact⟨h 0 x rfl,a λi c b=>h (i+1) c (by simpa using b)⟩
theorem xW {n:Nat} {e:PV} (h:e.bnd n=true) {j:Nat} {p:PV} (a:e.cells[j]?=some p):p.bnd n=true:=by
 cases e with
 |agg b=>exact kb (l:=b) (by simpa [PV.bnd] using h) a
 |_=>
  simp only[PV.cells] at a;cases j with
  |zero=>simp at a;exact a▸h
  |succ j=>simp at a
theorem xX {n:Nat} {e:PV} (h:∀(j:Nat) (p:PV),e.cells[j]?=some p->p.bnd n=true):e.bnd n=true:=by
 cases e with
 |agg a=>simp only[PV.bnd];exact lM h
 |_=>exact h 0 _ rfl
theorem RepO.bnd {p:PV} {v:Value} (h:RepO fi M w p v) (n:Nat):p.bnd n=true:=by
 induction h with
 |int k n=>rfl
 |bool b=>rfl
 |str s=>rfl
 |sl z g A c b o l t r m u q _ a=>
  simp only[PV.bnd];exact lM λi e f=>xX λj p d=>a i e j p f d
theorem RepP.bnd {p:PV} {v:Value} (h:RepP fi M w p v):p.bnd M.gb.length=true:=by
 induction h with
 |agg B x q _ d=>
  simp only[PV.bnd];exact lM λi c a=>d i c _ a (aA (by rw[q];exact (aD.1 a).1))
 |tup B x q _ d=>
  simp only[PV.bnd];exact lM λi c a=>d i c _ a (aA (by rw[q];exact (aD.1 a).1))
 |sl z C A c b o D t a N y G _ d=>
  simp only[PV.bnd];exact lM λi e I=>xX λj p E=>d i e j p I E
 |bs b m n z A c l k t a=>simpa [PV.bnd] using (aD.1 k).1
 |ptr b m l k=>simpa [PV.bnd] using (aD.1 k).1
 |ep e m b o D y G _ d=>simp only[PV.bnd];exact xX d
 |mp b l k=>simpa [PV.bnd] using (aD.1 k).1
 |stk b u n l c k s t a=>simpa [PV.bnd] using k
 |pstk b u i l k s t=>simpa [PV.bnd] using k
 |sub b u m n l c A k s t a L=>simpa [PV.bnd] using k
 |bfn f F B x H q y _ d=>
  simp only[PV.bnd];exact lM λi c a=>d i c _ a (aA (by rw[q];exact (aD.1 a).1))
 |fn f F B x H q y _ d=>
  simp only[PV.bnd];exact lM λi c a=>d i c _ a (aA (by rw[q];exact (aD.1 a).1))
 |fr z C v _ _ d=>simpa [PV.bnd] using d
 |ol z C v h=>have:=h.bnd M.gb.length;simpa [PV.bnd] using this
 |dj g z n c A s a t=>simpa [PV.bnd] using s
 |djp g r b o s h=>simpa [PV.bnd] using s
 |_=>rfl
def Mem.cut (M:Mem) (n:Nat):Mem:={M with gb:=M.gb.take n }
theorem RepP.cut {n:Nat} {p:PV} {v:Value} (h:RepP fi M w p v) (q:p.bnd n=true):RepP fi (M.cut n) w p v:=by
 have tk:∀{b a:Nat},M.gb[b]?=some a->b<n->(M.cut n).gb[b]?=some a:=λh B=>by simp only[Mem.cut,cL,B,if_true];exact h
 induction h with
 |und=>exact .und
 |int k n=>exact .int k n
 |bool b=>exact .bool b
 |str s=>exact .str s
 |agg I D G _ u=>exact .agg I D G λi c v d E=>u i c v d E (kb (by simpa [PV.bnd] using q) d)
 |tup I D G _ u=>exact .tup I D G λi c v d E=>u i c v d E (kb (by simpa [PV.bnd] using q) d)
 |sl z L A c b o Q x d U H R _ u=>
  exact .sl z L A c b o Q x d U H R λi e j p T O=>u i e j p T O (xW (kb (by simpa [PV.bnd] using q) T) O)
 |bs b l n z A c a B x d=>exact .bs b l n z A c a (tk B (by simpa [PV.bnd] using q)) x d
 |ptr b l a B=>exact .ptr b l a (tk B (by simpa [PV.bnd] using q))
 |nilp=>exact .nilp
 |ep e l b o Q H R _ u=>exact .ep e l b o Q H R λj p O=>u j p O (xW (by simpa [PV.bnd] using q) O)
 |mp b a B=>exact .mp b a (tk B (by simpa [PV.bnd] using q))
 |nilm=>exact .nilm
 |nilf=>exact .nilf
 |nils=>exact .nils
 |stk b y N a c B m x d=>
  have C:b<n:=by simpa [PV.bnd] using q
  exact .stk b y N a c (by simp only[Mem.cut,cR];omega) m x d
 |pstk b y i a B m x=>
  have C:b<n:=by simpa [PV.bnd] using q
  exact .pstk b y i a (by simp only[Mem.cut,cR];omega) m x
 |sub b y l N a c A B m x d S=>
  have C:b<n:=by simpa [PV.bnd] using q
  exact .sub b y l N a c A (by simp only[Mem.cut,cR];omega) m x d S
 |bfn f F I D P G H _ u=>exact .bfn f F I D P G H λi c v d E=>u i c v d E (kb (by simpa [PV.bnd] using q) d)
 |fn f F I D P G H _ u=>exact .fn f F I D P G H λi c v d E=>u i c v d E (kb (by simpa [PV.bnd] using q) d)
 |nilI=>exact .nilI
 |someI t v=>exact .someI t v
 |junk v=>exact .junk v
 |fr z L v _ P u=>exact .fr z L v (u (by simpa [PV.bnd] using q)) P
 |ol z L v h=>exact .ol z L v (h.noG _ _)
 |dj g z N c A m d x=>
  have C:g<n:=by simpa [PV.bnd] using q
  exact .dj g z N c A (by simp only[Mem.cut,cR];omega) d x
 |djp g r b o m h=>
  have C:g<n:=by simpa [PV.bnd] using q
  exact .djp g r b o (by simp only[Mem.cut,cR];omega) h
theorem OwnRep.cut {n:Nat} {l:Loc} {z:Nat} {a:fw} {v:Value} (h:OwnRep fi M w l z a v) (q:gO n a=true):OwnRep fi (M.cut n) w l z a v:=by
 obtain⟨r,g⟩:=h;refine⟨r.cut (by simpa [PV.bnd] using q),?_⟩;rcases g with g|⟨b,o,c,s,e,i,k,p,j,m,f,d,hn⟩
 ·exact .inl g
 ·exact .inr ⟨b,o,c,s,e,i,k,p,j,m,f,λh=>d (cQ h),hn⟩
theorem RepC.cut {n:Nat} {l:Loc} {p:PV} {v:Value} (h:RepC fi M w l p v) (a:p.bnd n=true):RepC fi (M.cut n) w l p v:=by
 unfold RepC at *;split at h
 ·exact OwnRep.cut h (by simpa [PV.bnd] using a)
 ·exact h.cut a
theorem RepC.bnd {l:Loc} {p:PV} {v:Value} (h:RepC fi M w l p v):p.bnd M.gb.length=true:=by
 unfold RepC at h;split at h
 ·have:=h.1.bnd;simpa [PV.bnd] using this
 ·exact h.bnd
def mM (n:Nat):GObj->Bool
 | .cells b=>gO n b
 | .map a=>a.all λe=>e.1.bnd n&&e.2.bnd n
 | .stk _ _=>true
 | .bld _=>true
 | .trash=>true
theorem RepObj.bnd {i b:Nat} {o:GObj} (h:RepObj fi M w i b o):mM M.gb.length o=true:=by
 cases o with
 |cells y=>
  obtain⟨r,q,p,n,v,T,f,m,k⟩:=h;exact lM λi c d=>(k i c _ d (aA (by rw[m];exact (aD.1 d).1))).bnd
 |map x=>
  obtain⟨r,q,l,a,p,n,f⟩:=h;simp only[mM,bV];intro e j;obtain⟨i,g,rfl⟩:=cP.1 j;have:=f i _ _ (aA g) (aA aj);simp[this.1.bnd,this.2.1.bnd]
 |stk t u=>rfl
 |bld s=>rfl
 |trash=>rfl
theorem RepObj.cut {n i y:Nat} {o:GObj} (h:RepObj fi M w i y o) (C:mM n o=true):RepObj fi (M.cut n) w i y o:=by
 cases o with
 |cells G=>
  obtain⟨p,g,f,d,N,T,a,v,t⟩:=h;exact⟨p,g,f,d,N,T,a,v,λi c u L A=>(t i c u L A).cut (kb (l:=G) C L)⟩
 |map es=>
  obtain⟨p,g,l,q,f,d,a⟩:=h;simp only[mM,bV,aS] at C;refine⟨p,g,l,q,f,d,λi e m z B=>?_⟩;have r:=C e (aL z);exact⟨(a i e m z B).1.cut r.1,(a i e m z B).2.1.cut r.2,(a i e m z B).2.2⟩
 | stk aa xs=>
  obtain⟨p,g,f,d,a,G,T,v,t,E,D⟩:=h;exact⟨p,g,f,d,a,G,T,v,t,E,λj x I=>by obtain⟨u,A,hr⟩:=D j x I;exact⟨u,A,kP hr (a x (aL I)) _ _⟩⟩
 |bld s=>
  obtain⟨p,g,f,T,hT,d⟩:=h;refine⟨p,g,f,T,hT,?_⟩;rcases d with d|⟨c,H,F,a,v,t,E,D⟩
  ·exact .inl d
  ·exact .inr ⟨c,H,F,a,v,t,λh=>E (cQ h),D⟩
 |trash=>
  obtain⟨p,g,U,f⟩:=h;refine⟨p,g,U,λb k X=>?_⟩;obtain⟨S,R,Q,P,O⟩:=f b k X;exact⟨S,R,Q,λh=>P (cQ h),O⟩
end
mutual
theorem lN (n:Nat):(p:PV)->p.noG=true->p.bnd n=true
 | .agg cs,h=>by simp only[PV.noG] at h;simp only[PV.bnd];exact s9 n cs h
 | .tup cs,h=>by simp only[PV.noG] at h;simp only[PV.bnd];exact s9 n cs h
 | .sl _ _ xs,h=>by simp only[PV.noG] at h;simp only[PV.bnd];exact s9 n xs h
 | .ep e _,h=>by simp only[PV.noG] at h;simp only[PV.bnd];exact lN n e h
 | .fn _ cs,h=>by simp only[PV.noG] at h;simp only[PV.bnd];exact s9 n cs h
 | .bfn _ cs,h=>by simp only[PV.noG] at h;simp only[PV.bnd];exact s9 n cs h
 | .fr _ xs,h=>by simp only[PV.noG] at h;simp only[PV.bnd];exact s9 n xs h
 | .ol _ xs,h=>by simp only[PV.noG] at h;simp only[PV.bnd];exact s9 n xs h
 | .dj _ _ _,h=>by simp[PV.noG] at h
 | .djp _ _,h=>by simp[PV.noG] at h
 | .sub _ _ _ _,h=>by simp[PV.noG] at h
 | .bs _ _ _ _ _,h=>by simp[PV.noG] at h
 | .stk _ _ _,h=>by simp[PV.noG] at h
 | .pstk _ _ _,h=>by simp[PV.noG] at h
 | .ptr _ _ _,h=>by simp[PV.noG] at h
 | .mp _,h=>by simp[PV.noG] at h
 | .und,_=>rfl
 | .int _ _,_=>rfl
 | .bool _,_=>rfl
 | .str _,_=>rfl
 | .nilp,_=>rfl
 | .arr _ _,_=>rfl
 | .junk,_=>rfl
 | .nilm,_=>rfl
 | .nilf,_=>rfl
 | .nils,_=>rfl
 | .nilI,_=>rfl
 | .someI,_=>rfl
theorem s9 (n:Nat):(l:fw)->eg l=true->gO n l=true
 |[],_=>rfl
 |c::l,h=>by simp only[eg,aS] at h;simp only[gO,aS];exact⟨lN n c h.1,s9 n l h.2⟩
end
end
section
open Go.RowKit
variable {r:j0} {v:ResultVar} {p:PV} {fn:Func} {n b k:Nat} {gh:fB}
section
variable {fi:FI} {M M':Mem} {w w':World} {P:Program} {s s':St} {a:Act} {cf:CallF} {pg:Prg}
def od (P:Program):j0->ResultVar->Bool
 | .t n,.tmp m=>n==m
 | .cell b agg k,.cell c t=>b==c&&fW P t==some agg&&eP P t==some k
 |_,_=>false
def fE (P:Program):List j0->List ResultVar->Bool
 |[],[]=>true
 |r::l,v::m=>od P r v&&fE P l m
 |_,_=>false
def kQ (b:Array Value):ResultVar->Sem Value
 | .tmp t=>pure (b.getD t undef)
 | .cell a t=>do loadVar t (<-asAddr (b.getD a undef))
theorem FP (f:Inv fi M w s a) (c:od P r v=true) (h:am s r=some p):∃u,(kQ a.tmps v).run P w= .ok u w/\RepE fi M w (degr p) u:=by
 cases r with
 |t n=>
  cases v<;>simp[od] at c;subst c;exact⟨_,rfl,(f.env _ p h).2.degr⟩
 | cell b agg k=>
  cases v<;>simp[od] at c;obtain⟨⟨rfl,ha⟩,j⟩:=c;simp only[am] at h;split at h
  ·rename_i g B d z
   simp only[aC] at h;obtain⟨E,y,x⟩:=h;have l:RepE fi M w (.ptr g B d) (a.tmps.getD b undef):=(f.env b _ z).2;obtain⟨C,i,⟨_,_,_,A,D,T,q,m,e⟩,_⟩:=pY f l y;obtain⟨o,hr⟩:=wF x m e A;refine⟨_,?_,hr.repE⟩;simp only[kQ,i,asAddr,Sem.run_bind,Sem.run_pure,Result.andThen_ok,pX ha (λ_=>j) q o]
  ·cases h
theorem xY (l:Inv fi M w s a):∀{f:List j0} {e:List ResultVar} {d:fw},fE P f e=true->ah s f=some d->
  ∃c:gA,(e.mapM (kQ a.tmps)).run P w= .ok c w/\c.length=d.length/\∀(i:Nat) (p:PV) (u:Value),d[i]?=some p->c[i]?=some u->RepE fi M w (degr p) u
 |[],[],d,_,h=>by simp[ah] at h;subst h;exact⟨[],bh,rfl,bh⟩
 |[],_::_,_,b,_=>by simp[fE] at b
 |_::_,[],_,b,_=>by simp[fE] at b
 |r::f,v::e,d,b,h=>by
  simp only[fE,aS] at b;simp only[ah,aC,aE] at h;obtain⟨p,n,m,k,rfl⟩:=h;obtain⟨u,A,z⟩:=FP l b.1 n;obtain⟨c,y,t,o⟩:=xY l b.2 k;refine⟨u::c,by simp[List.mapM_cons,A,y],by simp[t],λi q x j g=>?_⟩;cases i with
  |zero=>simp at j g;subst j;subst g;exact z
  |succ i=>exact o i q x (by simpa using j) (by simpa using g)
theorem Rp (f:Inv fi M w s a) (d:od P r v=true) (h:am s r=some p):∃u,(kQ a.tmps v).run P w= .ok u w/\RepE fi M w (degrF p) u:=by
 cases r with
 |t n=>
  cases v<;>simp[od] at d;subst d;exact⟨_,rfl,(f.env _ p h).2.degrF⟩
 | cell b agg k=>
  cases v<;>simp[od] at d;obtain⟨⟨rfl,ha⟩,o⟩:=d;simp only[am] at h;split at h
  ·rename_i g B e A
   simp only[aC] at h;obtain⟨E,z,j⟩:=h;have q:RepE fi M w (.ptr g B e) (a.tmps.getD b undef):=(f.env b _ A).2;obtain⟨C,m,⟨_,_,_,l,D,T,y,i,c⟩,_⟩:=pY f q z;obtain⟨x,-⟩:=wF j i c l;refine⟨_,?_,(O9 j i c l).repE⟩;simp only[kQ,m,asAddr,Sem.run_bind,Sem.run_pure,Result.andThen_ok,pX ha (λ_=>o) y x]
  ·cases h
theorem Pg (l:Inv fi M w s a):∀{f:List j0} {e:List ResultVar} {d:fw},fE P f e=true->ah s f=some d->
  ∃c:gA,(e.mapM (kQ a.tmps)).run P w= .ok c w/\c.length=d.length/\∀(i:Nat) (p:PV) (u:Value),d[i]?=some p->c[i]?=some u->RepE fi M w (degrF p) u
 |[],[],d,_,h=>by simp[ah] at h;subst h;exact⟨[],bh,rfl,bh⟩
 |[],_::_,_,b,_=>by simp[fE] at b
 |_::_,[],_,b,_=>by simp[fE] at b
 |r::f,v::e,d,b,h=>by
  simp only[fE,aS] at b;simp only[ah,aC,aE] at h;obtain⟨p,n,m,k,rfl⟩:=h;obtain⟨u,A,z⟩:=Rp l b.1 n;obtain⟨c,y,t,o⟩:=Pg l b.2 k;refine⟨u::c,by simp[List.mapM_cons,A,y],by simp[t],λi q x j g=>?_⟩;cases i with
  |zero=>simp at j g;subst j;subst g;exact z
  |succ i=>exact o i q x (by simpa using j) (by simpa using g)
theorem xZ {b:gA} {a:Array Value} (h:(fn.results.toList.mapM (kQ a)).run P w= .ok b w) :
  (Go.results fn a).run P w= .ok (match b with|[u]=>u|b=> .tuple b.toArray) w:=by
 have d:(fn.results.mapM (kQ a)).run P w= .ok b.toArray w:=by rw[Array.mapM_eq_mapM_toList,map_eq_pure_bind,Sem.run_bind,h];rfl
 have e:Go.results fn a=(do let c <-fn.results.mapM (kQ a);pure (if h:c.size=1 then c[0] else .tuple c)):=by
  unfold Go.results
  congr 1
 rw[e,Sem.run_bind,d,Result.andThen_ok,Sem.run_pure]
 match b with
 |[]=>rfl
 |[u]=>rfl
 |u::v::l=>simp
def qN (n:Nat):Loc->Loc
 | .env t i=>if t=n then .res i else .env t i
 |l=>l
theorem FQ (d:Inv fi M w s a) (S:M.ds=[]) {own:Bool} {I:List j0} (o:fE P I fn.results.toList=true) {r:PV} (h:results own I s=some r) (g:af r=true) :
  ∃v C,(Go.results fn a.tmps).run P w= .ok v w/\Inv fi C w ⟨[],s.lh,s.gh⟩ ⟨#[],[]⟩/\Kp M w C w/\RepAt fi C w Loc.res r v:=by
 have z:∀f:Loc->Loc,(∀b i,f (.lh b i)= .lh b i)->(∀b i,f (.gh b i)= .gh b i)->Inv fi (M.rel f) w ⟨[],s.lh,s.gh⟩ ⟨#[],[]⟩:=λf B A=>by
  have h0:Inv fi M w ⟨[],s.lh,s.gh⟩ ⟨#[],[]⟩:=⟨λt v L=>by simp[get] at L,S.symm,d.lbl,d.gbl,d.nodup,d.lh,d.gh,d.gl,d.immlt,d.ownlt,d.gblt⟩
  exact h0.rel f [] (λt v L=>by simp[get] at L) B A
 have T:(ah s I).map (λH=>match H with|[v]=>degr v|H=> .tup (H.map degr))=some r->
   ∃v C,(Go.results fn a.tmps).run P w= .ok v w/\Inv fi C w ⟨[],s.lh,s.gh⟩ ⟨#[],[]⟩/\Kp M w C w/\RepAt fi C w Loc.res r v:=by
  intro h;simp only[aE] at h;obtain⟨F,e,hr⟩:=h;obtain⟨j,B,A,G⟩:=xY (P:=P) d o e;refine⟨_,_,xZ B,z id (λ_ _=>rfl) (λ_ _=>rfl),Kp.rel M w id,?_⟩;have k:(∀v,F≠[v])->r= .tup (F.map degr)->RepAt fi (M.rel id) w Loc.res r (.tuple j.toArray):=by intro _ Q;subst Q;refine⟨j,rfl,by simp[A],λi c u E N=>?_⟩;simp only[aB,aE] at E;obtain⟨p,D,rfl⟩:=E;simp only[af,bV,List.mem_map] at g;exact (((G i p u D N).rel id).repP (by simpa [az] using g (degr p) ⟨p,aL D,rfl⟩)).repC
  match F,j,A with
  |[],[],_=>exact k bh (by simpa using hr.symm)
  |[p],[u],_=>
   simp only at hr;subst hr;exact ((G 0 p u rfl rfl).rel id).repAt
  |p::q::l,u::v::m,_=>exact k bh (by simpa using hr.symm)
 unfold results at h;split at h
 ·rename_i n
  cases y:fn.results.toList with
  |nil=>rw[y] at o;simp[fE] at o
  | cons x l=>
   rw[y] at o;cases l with
   |cons=>simp[fE] at o
   |nil=>
    cases x<;>simp[fE,od] at o;subst o;have B:(fn.results.toList.mapM (kQ a.tmps)).run P w= .ok [a.tmps.getD n undef] w:=by rw[y];simp[List.mapM_cons,kQ]
    refine⟨_,_,xZ B,z (qN n) (λ_ _=>rfl) (λ_ _=>rfl),Kp.rel M w (qN n),?_⟩;exact (d.env n r h).2.rel (qN n) (λi=>by simp[qN])
 ·rename_i r1 r2 rl
  simp only[aE] at h;obtain⟨F,e,rfl⟩:=h;obtain⟨j,B,A,G⟩:=Pg (P:=P) d o e;have R:2<=j.length:=by simp only[ah,aC,aE] at e;obtain⟨p1,-,X,⟨p2,-,U,-,rfl⟩,rfl⟩:=e;rw[A];simp
  have O:=xZ B;refine⟨.tuple j.toArray,_,?_,z id (λ_ _=>rfl) (λ_ _=>rfl),Kp.rel M w id,j,rfl,by simp[A],λi c u E N=>?_⟩
  ·rw[O]
   match j,R with
   |u::v::l,_=>rfl
  ·simp only[aB,aE] at E
   obtain⟨p,D,rfl⟩:=E;simp only[af,bV,List.mem_map] at g;exact (((G i p u D N).rel id).repP (by simpa [az] using g (degrF p) ⟨p,aL D,rfl⟩)).repC
 ·exact T h
theorem Inv.toGI (a:Inv fi M w ⟨[],s.lh,s.gh⟩ ⟨#[],[]⟩):GI fi M.noLb w s.gh:=
 ⟨λt v c=>by simp[get] at c,a.defers,rfl,a.gbl,by have:=a.nodup;rw[cT] at this;simpa [Mem.noLb] using this.2.1,λi f b h=>by simp at h,
  λi o b e d=>(a.gh i o b e d).noLb,a.gl,a.immlt,a.ownlt,a.gblt⟩
theorem Kp.noLb (M:Mem) (w:World):Kp M w M.noLb w:=
 ⟨rfl,rfl,rfl,cW _,Ext.noLb M w,λ_ _ _ _ _=>rfl,λ_ h=>by simp[Mem.noLb] at h,λ_ h=> .inl h,λ_ _ h=>h,λ_ _ h=> .inl h,.same rfl⟩
theorem GI.cut {j:fB} (a:GI fi M w j) (n:Nat) (p:∀(i:Nat) (o:GObj),(j.take n)[i]?=some o->mM n o=true):GI fi (M.cut n) w (j.take n):=
 by
 refine⟨λt v m=>by simp[get] at m,a.defers,a.lbl,?_,?_,λi q d h=>by simp at h,λi o d c f=>?_,a.gl,a.immlt,a.ownlt,λb h=>a.gblt b (cQ h)⟩
 ·have:=a.gbl
  simp only[Mem.cut,cR];rw[this]
 ·have:=a.nodup
  rw[cT] at this ⊢;exact⟨this.1,this.2.1.sublist (List.take_sublist _ _),λx l y k=>this.2.2 x l y (cQ k)⟩
 ·have g:=c
  simp only[cL] at c;simp only[Mem.cut,cL] at f;split at c
  ·rename_i e
   rw[if_pos e] at f;exact (a.gh i o d c f).cut (p i o g)
  ·cases c
theorem RepAt.cut {n:Nat} {mk:Nat->Loc} {p:PV} {v:Value} (h:RepAt fi M w mk p v) (a:af p=true) (e:p.bnd n=true):RepAt fi (M.cut n) w mk p v:=by
 unfold RepAt at *;split at h
 ·exact OwnRep.cut h (by simpa [PV.bnd] using e)
 ·cases a
 ·obtain⟨f,k,j,d⟩:=h
  exact⟨f,k,j,λi c u b g=>(d i c u b g).cut (kb (by simpa [PV.bnd] using e) b)⟩
 ·obtain⟨f,k,j,d⟩:=h
  exact⟨f,k,j,λi c u b g=>(d i c u b g).cut (kb (by simpa [PV.bnd] using e) b)⟩
 ·rename_i d
  exact ((h.repP (sM a (λl=>d l))).cut e).repE
theorem tu {α:Type}:∀{l:List α} {i j:Nat},l.Nodup->l[i]?=l[j]?->i<l.length->i=j
 |[],i,j,_,_,h=>by simp at h
 |x::l,0,0,_,_,_=>rfl
 |x::l,0,j+1,hn,a,_=>by rw[List.nodup_cons] at hn;simp at a;exact absurd (aL a.symm) hn.1
 |x::l,i+1,0,hn,a,_=>by rw[List.nodup_cons] at hn;simp at a;exact absurd (aL a) hn.1
 |x::l,i+1,j+1,hn,a,h=>by rw[List.nodup_cons] at hn;have:=tu hn.2 (by simpa using a) (by simpa using h);omega
def Mem.cutF (M:Mem) (n:Nat):Mem:={M.cut n with imm:=λb k=>M.imm b k\/(∃g,n<=g/\M.gb[g]?=some b/\M.own b=none)\/∃g,n<=g/\M.own b=some (.gh g 0) }
theorem Ext.cutF (M:Mem) (n:Nat) (w:World):Ext (M.cut n) w (M.cutF n) w:=⟨λ_ _ h=>h,λ_ _ h=> .inl h,λ_ _ _=>rfl,λ_ _=>⟨cW _,λ_=>rfl⟩,λ_ _ _=>rfl⟩
theorem OwnRep.cutF {n:Nat} {l:Loc} {z:Nat} {p:fw} {v:Value} (h:OwnRep fi (M.cut n) w l z p v) (t:∀g,n<=g->l≠ .gh g 0):OwnRep fi (M.cutF n) w l z p v:=by
 obtain⟨A,m⟩:=h;refine⟨A.mono (Ext.cutF M n w),?_⟩;rcases m with m|⟨b,o,c,B,e,r,q,x,s,u,j,i,hn⟩
 ·exact .inl m
 ·refine .inr ⟨b,o,c,B,e,r,q,x,s,λk f d h=>?_,j,i,hn⟩
  have a:M.own b=some l:=q;rcases h with h|⟨g,_,_,h⟩|⟨g,y,h⟩
  ·exact u k f d h
  ·rw[h] at a;cases a
  ·rw[h] at a;exact t g y (cZ a).symm
theorem RepC.cutF {n:Nat} {l:Loc} {p:PV} {v:Value} (h:RepC fi (M.cut n) w l p v) (a:∀g,n<=g->l≠ .gh g 0):RepC fi (M.cutF n) w l p v:=by
 unfold RepC at *;split at h
 ·exact OwnRep.cutF h a
 ·exact h.mono (Ext.cutF M n w)
theorem RepE.cutF {n:Nat} {p:PV} {v:Value} (h:RepE fi (M.cut n) w p v):RepE fi (M.cutF n) w p v:=by
 unfold RepE at *;split at h
 ·exact h
 ·exact h
 ·exact h.mono (Ext.cutF M n w)
theorem RepAt.cutF {n:Nat} {mk:Nat->Loc} {p:PV} {v:Value} (h:RepAt fi (M.cut n) w mk p v) (e:∀i g,n<=g->mk i≠ .gh g 0):RepAt fi (M.cutF n) w mk p v:=by
 unfold RepAt at *;split at h
 ·exact OwnRep.cutF h (e 0)
 ·obtain⟨B,b,T,c,x,d,t,z,y,o,m⟩:=h
  refine⟨B,b,T,c,x,d,t,z,λk l=>?_,o,m⟩;have a:M.own b=some (mk 0):=t;rcases l with h|⟨g,_,_,h⟩|⟨g,A,h⟩
  ·exact y k h
  ·rw[h] at a;cases a
  ·rw[h] at a;exact e 0 g A (cZ a).symm
 ·obtain⟨f,s,r,q⟩:=h
  exact⟨f,s,r,λi c u d j=>(q i c u d j).cutF (e i)⟩
 ·obtain⟨f,s,r,q⟩:=h
  exact⟨f,s,r,λi c u d j=>(q i c u d j).cutF (e i)⟩
 ·exact RepE.cutF h
theorem RepObj.cutF {n i p:Nat} {o:GObj} (aa:i<n) (h:RepObj fi (M.cut n) w i p o) (hn:∀g,n<=g->M.gb[g]?≠some p):RepObj fi (M.cutF n) w i p o:=by
 cases o with
 |cells S=>
  obtain⟨y,v,f,s,U,T,r,C,E⟩:=h;refine⟨y,λk d=>?_,f,s,U,T,r,C,λi' c u hc F=>(E i' c u hc F).cutF (λg q e=>by cases e;omega)⟩;have A:M.own p=none:=f;rcases d with d|⟨g,q,I,_⟩|⟨g,q,a⟩
  ·exact v k d
  ·exact hn g q I
  ·rw[A] at a;cases a
 |map es=>
  obtain⟨y,v,l,B,f,s,r⟩:=h;exact⟨y,v,l,B,f,s,λi e m H G=>⟨(r i e m H G).1.mono (Ext.cutF M n w),(r i e m H G).2.1.mono (Ext.cutF M n w),(r i e m H G).2.2⟩⟩
 | stk ab xs=>
  obtain⟨y,v,f,s,r,S,T,C,E,N,L⟩:=h;refine⟨y,v,f,λk d=>?_,r,S,T,C,E,N,λj x hj=>?_⟩
  ·have e:M.own (M.st i).2.1=some (Loc.gh i 0):=f
   rcases d with d|⟨g,_,_,a⟩|⟨g,q,a⟩
   ·exact s k d
   ·have z:M.own (M.st i).2.1=none:=a
    rw[z] at e;cases e
   ·have z:M.own (M.st i).2.1=some (Loc.gh g 0):=a
    rw[z] at e;cases e;omega
  ·obtain⟨u,F,hr⟩:=L j x hj
   exact⟨u,F,hr.mono (Ext.cutF M n w)⟩
 |trash=>
  obtain⟨y,v,ht,f⟩:=h;refine⟨y,v,ht,λb k hd=>?_⟩;obtain⟨R,k2,X⟩:=f b k hd;refine⟨R,λd=>?_,X⟩;have D:M.own b=some (Loc.gh i 0):=R;rcases d with d|⟨g,_,_,a⟩|⟨g,q,a⟩
  ·exact k2 d
  ·rw[D] at a;cases a
  ·rw[D] at a;cases a;omega
 | bld t=>
  obtain⟨y,v,f,T,hT,s⟩:=h;refine⟨y,λk d=>?_,f,T,hT,?_⟩
  ·have A:M.own p=none:=f
   rcases d with d|⟨g,q,I,_⟩|⟨g,q,a⟩
   ·exact v k d
   ·exact hn g q I
   ·rw[A] at a;cases a
  ·rcases s with s|⟨c,Q,P,r,C,E,N,L,O⟩
   ·exact .inl s
   ·refine .inr ⟨c,Q,P,r,C,E,N,λk d=>?_,O⟩
    have e:M.own c=some (Loc.gh i 0):=C;rcases d with d|⟨g,_,_,a⟩|⟨g,q,a⟩
    ·exact L k d
    ·rw[a] at e;cases e
    ·rw[a] at e;cases e;omega
theorem Mark.mono {n m:Nat} {d:Deferred} (h:Mark M w n d) (a:m<=n):Mark M w m d:=by obtain⟨D,c,b⟩:=h;exact⟨D,cC a c,b⟩
theorem x6 {Fn:Func} {R:Ending->World->Prop} {M0:Mem} {w0:World} (h0:∀b k,M0.imm b k->b<w0.heap.size):∀(l:List Deferred) (M':Mem) (w':World) (a:Act),Inv fi M' w' s a->Kp M0 w0 {M' with ds:=M0.ds } w'->M'.ds=l->l.Nodup->(∀d∈l,Mark M' w' w0.heap.size d)->
  (∀(M2:Mem) (G:World),Inv fi M2 G s {a with defers:=[] }->Kp M0 w0 {M2 with ds:=M0.ds } G->LeavesIn (FR none) 0 P Fn a.tmps R [] .returning G)->LeavesInM (FR none) 0 P Fn a.tmps R l .returning w'
 |[],M',w',a,m,j,hd,_,_,O=>by
  have ha:a.defers=[]:=m.defers.trans hd;have:a={a with defers:=[] }:=by rw[<-ha]
  refine O M' w' (by rw[<-this];exact m) ?_;exact j
 | d::l,M',w',a,m,j,hd,hn,X,O=>by
  rw[List.nodup_cons] at hn;obtain⟨D,m1,rfl,F,m4,m5,m6⟩:=X d aZ;generalize x:w'.putObj D (.deferred none)=c;have L:D<w'.heap.size:=(Array.getElem?_eq_some_iff.1 F).1;have f:∀k,k≠D->c.heap[k]?=w'.heap[k]?:=λk h=>by rw[<-x];exact World.putObj_heap_other h
  have n:c.heap.size=w'.heap.size:=by rw[<-x];exact World.putObj_size
  have p:c.heap[D]?=some (.deferred none):=by rw[<-x];exact World.putObj_heap_same L
  have q:∀b k,c.cell? ⟨b,k,none⟩=w'.cell? ⟨b,k,none⟩:=λb k=>by
   by_cases h:b=D
   ·subst h
    simp[World.cell?,p,F]
   ·exact World.cell?_of_block (w:=w') (a:=⟨b,k,none⟩) (f b h)
  have B:∀b k,c.frozen? ⟨b,k,none⟩=w'.frozen? ⟨b,k,none⟩:=λb k=>by
   by_cases h:b=D
   ·subst h
    simp[World.frozen?,p,F]
   ·exact m8 (f b h)
  have r:Ext M' w' {M' with ds:=l } c:=⟨λ_ _ h=>h,λ_ _ h=>h,λb k _=>q b k,λ_ _=>⟨cW _,λ_=>rfl⟩,λb k _=>B b k⟩
  have g:Good M' w' {M' with ds:=l } c (λ_=>False) (λk=>k=D):=⟨r,by rw[n];exact cW _,λ_ _ h=>h,
   λS l' v _=>⟨v,f S (λe=>by subst e;rw[m6] at v;cases v),λ_ h=>h,id,id⟩,λS _ hn h=>⟨f S hn,λ_ h=>h,h⟩,λ_ _=>rfl⟩
  have Q:Inv fi {M' with ds:=l } c s {a with defers:=l }:=
   ⟨λt u U=>⟨(m.env t u U).1,(m.env t u U).2.good g bh⟩,rfl,m.lbl,m.gbl,m.nodup,λi cs z C y=>(m.lh i cs z C y).good g (λe=>by subst e;exact m4 (aL y)) bh,
    λi o z C y=>(m.gh i o z C y).good g (λe=>by subst e;exact m5 (aL y)) bh,r.gl m.gl,λb k h=>by rw[n];exact m.immlt b k h,λb k h=>by rw[n];exact m.ownlt b k h,λb h=>by rw[n];exact m.gblt b h⟩
  have I:∀e∈l,Mark {M' with ds:=l } c w0.heap.size e:=λe he=>by
   obtain⟨E,n1,T,n3,n4,n5,n6⟩:=X e (bC _ he);have H:E≠D:=λh=>by subst h;exact hn.1 (T▸he)
   exact⟨E,n1,T,(f E H).trans n3,n4,n5,n6⟩
  have N:Kp M0 w0 {M' with ds:=M0.ds } c:=by
   refine⟨?_,?_,?_,by rw[n];exact j.size,⟨j.ext.gb,j.ext.imm,λb k h=>(q b k).trans (j.ext.cell b k h),j.ext.st,λb k h=>(B b k).trans (j.ext.fz b k h)⟩,λk A C y h3=>(f k aj).trans (j.block k A C y h3),j.lbn,j.gbn,j.ownn,j.immn,.same rfl⟩
   ·rw[<-x];exact j.os
   ·rw[<-x];exact j.tape
   ·rw[<-x];exact j.output
  refine⟨bh,.inl ⟨D,c,rfl,?_,?_⟩⟩
  ·rw[<-x];exact run_takeDeferred F
  ·exact x6 h0 l {M' with ds:=l } c {a with defers:=l } Q N rfl hn.2 I O
theorem GI.cutF {l:fB} (j:GI fi M w l) (n:Nat) (hn:n<=l.length) (x:∀(i:Nat) (o:GObj),(l.take n)[i]?=some o->mM n o=true):GI fi (M.cutF n) w (l.take n):=by
 have d:=j.cut n x;have f:=j.nodup;rw[cT] at f;refine⟨λt v r=>by simp[get] at r,j.defers,d.lbl,d.gbl,d.nodup,λi B e h=>by simp at h,λi o e q p=>RepObj.cutF (by have:=(aD.1 q).1;rw[cR] at this;omega) (d.gh i o e q p) λg z c=>?_,(Ext.cutF M n w).gl d.gl,λb k m=>?_,d.ownlt,d.gblt⟩
 ·have a:(M.gb.take n)[i]?=some e:=p
  rw[cL] at a;split at a
  ·rename_i u
   have A:=aD.1 c;have y:=aD.1 a;have:i=g:=tu f.2.1 (by rw[a,c]) y.1;omega
  ·cases a
 ·rcases m with m|⟨g,_,c,_⟩|⟨g,_,s⟩
  ·exact d.immlt b k m
  ·exact j.gblt b (aL c)
  ·exact j.ownlt b _ s
theorem tv {a:Nat} {c:fw} (h:gh[b]?=some (.cells c)) (e:n<=b) (d:a+k<=c.length):frz n gh (.bs true b a k 1)= cr (((c.drop a).take k).map aw):=by simp[frz,h,e,d]
theorem Oy {g:Nat} {a:fw} (h:gh[b]?=some (.stk g a)) (d:n<=b) (c:k<=a.length):frz n gh (.stk b g k)= cr (a.take k):=by simp[frz,h,d,c]
theorem mO (n:Nat) (f:fB) (p:PV):frz n f p=p\/(∃b a k d,p= .bs true b a k 1/\f[b]?=some (.cells d)/\n<=b/\a+k<=d.length)\/∃b g k c,p= .stk b g k/\f[b]?=some (.stk g c)/\n<=b/\k<=c.length:=by
 unfold frz;split
 ·rename_i b a k
  split
  ·rename_i d e
   split
   ·rename_i h;exact .inr (.inl ⟨b,a,k,d,rfl,e,h⟩)
   ·exact .inl rfl
  ·exact .inl rfl
 ·rename_i b g k
  split
  ·rename_i i c e
   split
   ·rename_i h;exact .inr (.inr ⟨b,g,k,c,rfl,by rw[e,h.2.1],h.1,h.2.2⟩)
   ·exact .inl rfl
  ·exact .inl rfl
 ·exact .inl rfl
theorem qO (h:p.one=true):(aw p).cells=[aw p]:=by cases p<;>first|rfl|simp[PV.one] at h
theorem FT (h:p.one=true):(aw p).one=true:=by cases p<;>first|exact h|rfl
theorem qP (hG:GI fi M w gh) {v:Value} (h:RepP fi M w p v) (N:(frz n gh p).noG=true):RepP fi (M.cutF n) w (frz n gh p) v:=by
 rcases mO n gh p with e|⟨b,d,k,x,rfl,H,hn,Q⟩|⟨b,g,k,O,rfl,H,hn,Q⟩
 ·rw[e] at N ⊢
  exact (h.cut (lN _ _ N)).mono (Ext.cutF M n w)
 ·rw [tv H hn Q] at N ⊢
  cases h with
  | bs _ _ _ _ A c B hb F E=>
   obtain⟨_,_,s,I,G,T,R,hl,P⟩:=hG.gh b _ B H hb;have m:(((x.drop d).take k).map aw).length=k:=by simp;omega
   have f:∀(i:Nat) (e:PV),(((x.drop d).take k).map aw)[i]?=some e->∃c u,x[d+i]?=some c/\e=aw c/\G[d+i]?=some u/\RepP fi M w (aw c) u/\c.one=true:=by
    intro i e a;simp only[aB,aE,cL] at a;obtain⟨c,q,rfl⟩:=a;split at q
    ·rw[List.getElem?_drop] at q
     have y:d+i<G.length:=by have:=(aD.1 q).1;omega
     exact⟨c,G[d+i],q,rfl,aA y,(P _ _ _ q (aA y)).degr1,I c (aL q)⟩
    ·cases q
   have r:RepP fi (M.cutF n) w (cr (((x.drop d).take k).map aw)) (.slice A (((x.drop d).take k).map aw).length c):=by
    refine RepP.sl 1 _ A c B d (λj=>G.getD (d+j) undef) ?_ (by rw[m];exact E) ?_ ?_ ?_ ?_
    ·rcases F with F|F
     ·left;subst F;simp
     ·exact .inr F
    ·intro e a
     obtain⟨i,y⟩:=List.mem_iff_getElem?.1 a;obtain⟨c,u,D,rfl,_,_,C⟩:=f i e y;rw[qO C];rfl
    ·intro e a
     obtain⟨i,y⟩:=List.mem_iff_getElem?.1 a;obtain⟨c,u,D,rfl,_,_,C⟩:=f i e y;simp[az,qO C,FT C]
    ·intro i e j p a o
     obtain⟨c,u,D,rfl,z,_,C⟩:=f i e a;rw[qO C] at o;cases j with
     |succ j=>simp at o
     |zero=>
      refine⟨.inr (.inl ⟨b,hn,hb,s⟩),?_⟩;rw[cell_of_row w B _ G.toArray T (0,0) R,List.getElem?_toArray,Nat.mul_one,cG,z];simp[List.getD,z]
    ·intro i e j p a o
     obtain⟨c,u,D,rfl,z,h4,C⟩:=f i e a;rw[qO C] at o;cases j with
     |succ j=>simp at o
     |zero=>
      simp at o;subst o;have e2:G.getD (d+(i*1+0)) undef=u:=by simp[List.getD,z]
      rw[e2];have S:(aw c).noG=true:=iZ (l:=((x.drop d).take k).map aw) (by simpa [PV.noG] using N) a;exact (h4.cut (lN _ _ S)).mono (Ext.cutF M n w)
   rw[m] at r;exact r
 ·rw [Oy H hn Q] at N ⊢
  have X:b<M.gb.length:=by rw[hG.gbl];exact (aD.1 H).1
  obtain⟨_,L,s,_,U,x,T,R,_,_,P⟩:=hG.gh b _ _ H (aA X);cases h with
  | stk _ _ _ B c hb aa F E=>
   obtain⟨rfl,_⟩:=F L.symm;have m:(O.take k).length=k:=by rw[cR];omega
   have f:∀(i:Nat) (e:PV),(O.take k)[i]?=some e->co e=true/\∃u,x[i]?=some u/\RepP fi M w e u:=by
    intro i e a;rw[cL] at a;split at a
    ·exact⟨U e (aL a),P i e a⟩
    ·cases a
   have t:∀e:PV,co e=true->e.cells=[e]/\e.one=true/\az e=true/\e.noG=true:=by intro e a;cases e<;>first|exact⟨rfl,rfl,rfl,rfl⟩|cases a
   have r:RepP fi (M.cutF n) w (cr (O.take k)) (.slice (some ⟨(M.st b).2.1,0,none⟩) (O.take k).length c):=by
    refine RepP.sl 1 _ _ c (M.st b).2.1 0 (λj=>x.getD j undef) (.inr rfl) (by rw[m];exact E) ?_ ?_ ?_ ?_
    ·intro e a
     obtain⟨i,y⟩:=List.mem_iff_getElem?.1 a;rw[(t e (f i e y).1).1];rfl
    ·intro e a
     obtain⟨i,y⟩:=List.mem_iff_getElem?.1 a;exact (t e (f i e y).1).2.2.1
    ·intro i e j p a o
     obtain⟨D,u,z,_⟩:=f i e a;rw[(t e D).1] at o;cases j with
     |succ j=>simp at o
     |zero=>
      refine⟨.inr (.inr ⟨b,hn,s⟩),?_⟩;rw[cell_of_row w _ _ x T (0,0) R,cX,Nat.mul_one,cG,z];simp[cS,z]
    ·intro i e j p a o
     obtain⟨D,u,z,h4⟩:=f i e a;rw[(t e D).1] at o;cases j with
     |succ j=>simp at o
     |zero=>
      simp at o;subst o;have e2:x.getD (i*1+0) undef=u:=by simp[cS,z]
      rw[e2];exact (h4.cut (lN _ _ (t _ D).2.2.2)).mono (Ext.cutF M n w)
   rw[m] at r;exact r
theorem FU (m:GI fi M w gh) {mk:Nat->Loc} (f:∀i g,n<=g->mk i≠ .gh g 0) {v:Value} (h:RepAt fi M w mk p v) (r:af p=true) (d:(dp n gh p).noG=true):RepAt fi (M.cutF n) w mk (dp n gh p) v:=by
 by_cases A:∃z,p= .tup z
 ·obtain⟨z,rfl⟩:=A
  obtain⟨o,E,D,C⟩:=h;refine⟨o,E,by simpa using D,λi c u j B=>?_⟩;simp only[aB,aE] at j;obtain⟨c,j,rfl⟩:=j;have a:(frz n gh c).noG=true:=iZ (l:=z.map (frz n gh)) (by simpa [PV.noG,dp] using d) (i:=i) (by simp[j]);have x:=C i c u j B;rcases mO n gh c with e|⟨b,q,k,y,rfl,t,hn,s⟩|⟨b,g,k,y,rfl,t,hn,s⟩
  ·rw[e] at a ⊢
   exact (x.cut (lN _ _ a)).cutF (f i)
  ·exact (qP m x a).repC
  ·exact (qP m x a).repC
 ·have F:dp n gh p=frz n gh p:=by
   unfold dp;split
   ·rename_i o;exact absurd ⟨o,rfl⟩ A
   ·rfl
  rw[F] at d ⊢;rcases mO n gh p with e|⟨b,q,k,y,rfl,t,hn,s⟩|⟨b,g,k,y,rfl,t,hn,s⟩
  ·rw[e] at d ⊢
   exact (h.cut r (lN _ _ d)).cutF f
  ·exact (qP m h d).repE.repAt
  ·exact (qP m h d).repE.repAt
theorem FV (a:af p=true):af (dp n gh p)=true:=by
 have j:∀q,az q=true->az (frz n gh q)=true:=λq i=>by
  rcases mO n gh q with e|⟨b,f,k,h,rfl,d,hn,c⟩|⟨b,g,k,h,rfl,d,hn,c⟩
  ·rw[e];exact i
  ·rw[tv d hn c];rfl
  ·rw[Oy d hn c];rfl
 cases p with
 |tup l=>
  simp only[af,dp,bV,List.mem_map] at a ⊢;rintro _ ⟨q,i,rfl⟩;exact j q (a q i)
 |bs g b o k z=>
  have:az (frz n gh (.bs g b o k z))=true:=j _ a;simp only[dp];rcases mO n gh (.bs g b o k z) with e|⟨b,f,k,h,e,d,hn,c⟩|⟨b,g,k,h,e,_⟩
  ·rw[e];exact a
  ·cases e;rw[tv d hn c];rfl
  ·cases e
 |stk b g k=>
  simp only[dp];rcases mO n gh (.stk b g k) with e|⟨b,f,k,h,e,d,hn,c⟩|⟨b,g,k,h,e,d,hn,c⟩
  ·rw[e];exact a
  ·cases e
  ·cases e;rw[Oy d hn c];rfl
 |_=>exact a
theorem x7:∀{a:fw} {n t:Nat} {v:PV},get (fk n a) t=some v->∃i,t=n+i/\a[i]?=some v
 |[],n,t,v,h=>by simp[fk,get] at h
 | u::a,n,t,v,h=>by
  simp only[fk,get] at h;split at h
  ·rename_i b;cases h;exact⟨0,aj,rfl⟩
  ·obtain⟨i,d,c⟩:=x7 h
   exact⟨i+1,aj,by simpa using c⟩
open Classical in
theorem oe {fn:IFunc} {F:Nat} {Fn:Func} {c:Code} (hf:P.funcs[F]?=some Fn) (hb:Fn.body=some c) (hr:fE P fn.res Fn.results.toList=true)
  {vs:fw} {gh gh':fB} {x:IExit×St} {r:PV} (hwp:∀(a:Act) (M:Mem) (w:World),Inv fi M w ⟨fk 0 vs,[],gh⟩ a->Fn.ntmps<=a.tmps.size->c.wpIn (FR none) 0 P (CPost fi M w a.tmps.size x.1 x.2) a w) (hfin:ag fn gh x=some (r,gh')):eG P fi F vs gh r gh':=by
 intro M w args hG hlb hown hlen hrep;obtain⟨e,sf⟩:=x;refine callsIn_wide.1 (callsIn_of_wp_marks (F:=FR none) (n:=0) hf hb trivial ?_);have hsz:(args.toArray++Array.replicate (Fn.ntmps-args.toArray.size) undef).size=args.length+(Fn.ntmps-args.length):=bh;have hI:Inv fi M w ⟨fk 0 vs,[],gh⟩ {tmps:=args.toArray++Array.replicate (Fn.ntmps-args.toArray.size) undef,defers:=[] }:=by
  refine⟨λt v hv=>?_,hG.defers,hG.lbl,hG.gbl,hG.nodup,λi cs blk h=>by simp at h,hG.gh,hG.gl,hG.immlt,hG.ownlt,hG.gblt⟩;obtain⟨i,h1,h2⟩:=x7 hv;rw[cX] at h1;subst h1;have hi:=(aD.1 h2).1;have hi':t<args.length:=aj;refine⟨by simp only[hsz];omega,?_⟩;have:=hrep t v args[t] h2 (aA hi');have e2:(args.toArray++Array.replicate (Fn.ntmps-args.toArray.size) undef).getD t undef=args[t]:=by rw[cS,Array.getElem?_append_left (by simpa using hi')];simp[hi']
  rw[e2];exact this.repE.repAt
 have key:e= .normal\/e= .ret->∀(a':Act) (M':Mem) (w':World),Inv fi M' w' sf a'->M'.ds=[]->Kp M w M' w'->∃r0 gh0,ag fn gh (e,sf)=some (r0,gh0)/\∃v,(Go.results Fn a'.tmps).run P w'= .ok v w'/\
   ∃M2,GI fi M2 w' gh0/\M2.lb=[]/\af r0=true/\RepAt fi M2 w' Loc.res r0 v/\Kp M w M2 w':=by
  intro he a' M' w' h2 hds' h3;refine⟨r,gh',hfin,?_⟩
  have hfin':(results fn.own fn.res sf).bind (λr=>if af r then
   (if fn.trunc then if sf.gh.take gh.length=gh/\(dp gh.length sf.gh r).noG then some (dp gh.length sf.gh r,gh) else none else some (r,sf.gh)) else none)=some (r,gh'):=by
   rcases he with rfl|rfl<;>exact hfin
  rw[aC] at hfin';obtain⟨r1,q1,q2⟩:=hfin';split at q2
  ·rename_i hok
   obtain⟨v,M1,v1,v2,v3,v4⟩:=FQ (P:=P) h2 hds' hr q1 hok;have hG1:GI fi M1.noLb w' sf.gh:=Inv.toGI (s:=sf) v2;have hr1:=v4.noLb hok;have hk1:Kp M w M1.noLb w':=(h3.trans v3).trans (Kp.noLb M1 w');split at q2
   ·split at q2
    ·rename_i hq
     cases q2;have hn:gh.length<=sf.gh.length:=by have:=congrArg List.length hq.1;rw[cR] at this;omega
     refine⟨v,v1,M1.noLb.cutF gh.length,?_,rfl,FV hok,FU hG1 (λ_ _ _ e=>by cases e) hr1 hok hq.2,?_⟩
     ·have:=hG1.cutF gh.length hn (λi o ho=>by
       rw[hq.1] at ho;have hi:i<M.gb.length:=by rw[hG.gbl];exact (aD.1 ho).1
       have:=(hG.gh i o _ ho (aA hi)).bnd
       rwa [hG.gbl] at this)
      rwa [hq.1] at this
     ·have hgbl:M.gb.length=gh.length:=hG.gbl
      refine⟨hk1.os,hk1.tape,hk1.output,hk1.size,⟨λi k h=>?_,λb k h=> .inl (hk1.ext.imm b k h),hk1.ext.cell,hk1.ext.st,hk1.ext.fz⟩,hk1.block,hk1.lbn,λk h=>hk1.gbn k (cQ h),hk1.ownn,λb k h=>?_,.same (Eq.trans (show M1.noLb.ds=[] from hG1.defers.symm) hG.defers)⟩
      ·have hi:i<gh.length:=by have h4:=(aD.1 h).1;omega
       have:=hk1.ext.gb i k h;simp only[Mem.cutF,Mem.cut,cL,hi,if_true];exact this
      ·rcases h with h|⟨g,hg,hb,_⟩|⟨g,hg,ho⟩
       ·exact hk1.immn b k h
       rotate_left
       ·rcases Nat.lt_or_ge b w.heap.size with hlt|hge
        ·refine .inr (.inr λe=>?_)
         rw[hk1.ownn b hlt e] at ho;cases ho
        ·exact .inr (.inl hge)
       ·rcases hk1.gbn b (aL hb) with h2|h2|h2|h2
        ·exfalso
         obtain⟨i,hi⟩:=List.mem_iff_getElem?.1 h2;have hi2:=hk1.ext.gb i b hi;have hnd:=hG1.nodup;rw[cT] at hnd;have e1:=aD.1 hb;have e2:=aD.1 hi2;have:i=g:=tu hnd.2.1 (by rw[hi2,hb]) e2.1;have:=(aD.1 hi).1;omega
        ·exact .inr (.inl h2)
        ·exact .inr (.inr h2)
        ·rw[hlb] at h2;simp at h2
    ·cases q2
   ·cases q2
    exact⟨v,v1,M1.noLb,hG1,rfl,hok,hr1,hk1⟩
  ·cases q2
 have hds:M.ds=[]:=hG.defers.symm;refine wpIn_mono (hwp _ M w hI (by simp only[hsz];omega)) ?_;rintro ex a0 w0 ⟨h1,M0,h20,h30,_⟩;have hend:e= .normal\/e= .ret->LeavesInM (FR none) 0 P Fn a0.tmps (λe w'=>∃v M',e= .returned v/\GI fi M' w' gh'/\M'.lb=[]/\af r=true/\RepAt fi M' w' Loc.res r v/\Kp M w M' w') a0.defers .returning w0:=by
  intro he;obtain⟨l,z1,z2,z3⟩:=h30.ds;rw[hds,bE] at z1;rw[h20.defers];refine x6 (M0:=M) (w0:=w) hG.immlt _ M0 w0 a0 h20 ⟨h30.os,h30.tape,h30.output,h30.size,⟨h30.ext.gb,h30.ext.imm,h30.ext.cell,h30.ext.st,h30.ext.fz⟩,h30.block,h30.lbn,h30.gbn,h30.ownn,h30.immn,.same rfl⟩ rfl (z1▸z2) (z1▸z3) ?_;intro M' w' h2 h3;have hd':M'.ds=[]:=h2.defers.symm;have h3:Kp M w M' w':=⟨h3.os,h3.tape,h3.output,h3.size,⟨h3.ext.gb,h3.ext.imm,h3.ext.cell,h3.ext.st,h3.ext.fz⟩,h3.block,h3.lbn,h3.gbn,h3.ownn,h3.immn,.same (by rw[hd',hds])⟩
  obtain⟨r0,gh0,k1,v,k3,M2,k4⟩:=key he _ M' w' h2 hd' h3;rw[hfin] at k1;cases k1;exact⟨v,k3,v,M2,rfl,k4⟩
 cases e with
 |exit i=>simp[ag] at hfin
 |normal=>subst h1;exact hend (.inl rfl)
 |ret=>subst h1;exact hend (.inr rfl)
theorem FW {n:Nat} (l:mL P fi pg n) {f:IFunc} {F:Nat} {g:Func} {c:Code} (k:P.funcs[F]?=some g) (m:g.body=some c) (j:eh P fi g.ntmps f.body c=true) (hr:fE P f.res g.results.toList=true)
  {i:fw} {h e:fB} {x:IExit×St} {r:PV} (b:bf pg n f.body ⟨fk 0 i,[],h⟩=some x) (d:ag f h x=some (r,e)):eG P fi F i h r e:=
 oe k m hr (λa M w p o=>l none 0 g.ntmps f.body c _ x.1 x.2 a M w (.inl rfl) j b p o) d
end
end
section
open Go.RowKit
section
variable {fi:FI} {M M':Mem} {w w':World} {P:Program} {s s':St} {a:Act} {cf:CallF} {pg:Prg}
def yd (P : Program) (F : Nat) : Prop := ∃ a c, P.funcs[F]? = some a ∧ (a.name == "runtime.NumGoroutine") = false ∧ a.body = some c
def kR (P:Program) (e:FI) (pg:Prg):Prop:=
 ∀f F,e f=some F->yd P F/\match pg f with
  |some (.code h)=>∃b c,P.funcs[F]?=some b/\b.body=some c/\eh P e b.ntmps h.body c=true/\fE P h.res b.results.toList=true
  |some (.lib L)=>∀d g r a,L d g=some (r,a)->(∀p∈d,az p=true)->eG P e F d g r a
  |_=>pg f=none
theorem ye (m:kR P fi pg) {n:Nat} (l:mL P fi pg n):ii P fi (du (bf pg n) pg):=by
 intro f i p r g F h e k;obtain⟨o,b⟩:=m f F k;refine⟨o,?_⟩;unfold du at h;cases d:pg f with
 |none=>rw[d] at h;cases h
 | some v=>
  cases v with
  |lib L=>
   rw[d] at h b;exact b i p r g h e
  | code w=>
   rw[d] at h b;obtain⟨y,c,u,t,s,q⟩:=b;simp only at h;split at h
   ·simp only[aC] at h
    obtain⟨x,j,a⟩:=h;exact FW l u t s q j a
   ·cases h
theorem tz (b:P.follows .mixedOrders=true) (d:kR P fi pg):∀n,mL P fi pg n
 |0=>λr f N g c s e s' a M w _ _ h=>by simp[bf] at h
 |n+1=>xV b (tz b d n) (ye d (tz b d n)) trivial
theorem oh {w:World} {b k:Nat} {v:Value} (h:w.cell? ⟨b,k,none⟩=some v):b<w.heap.size:=by
 rcases Nat.lt_or_ge b w.heap.size with a|a
 ·exact a
 ·simp[World.cell?,Array.getElem?_eq_none a] at h
def Mem.start (w:World):Mem:={lb:=[],gb:=[],imm:=λb _=>b<w.heap.size,own:=λ_=>none,st:=λ_=>(0,0,0) }
theorem GI.start (e:FI) (w:World) (d:∀x∈e.gl,x.1<w.heap.size/\w.cell? ⟨x.1,x.2.1,none⟩=x.2.2):GI e (Mem.start w) w []:=
 ⟨λt v f=>by simp[get] at f,rfl,rfl,rfl,by simp[Mem.start],λi g a h=>by simp at h,λi o a h=>by simp at h,λx c=>⟨(d x c).1,(d x c).2⟩,λb k h=>h,λb l h=>by simp[Mem.start] at h,λb h=>by simp[Mem.start] at h⟩
end
end
section
open Go.RowKit
mutual
def PV.pl:PV->Bool
 | .int _ _| .bool _| .str _=>true
 | .sl false _ xs=>pls xs
 | .agg cs=>pls cs
 |_=>false
def pls:fw->Bool
 |[]=>true
 |c::l=>c.pl&&pls l
end
theorem Pi {l:fw} (h:pls l=true) {i:Nat} {c:PV} (a:l[i]?=some c):c.pl=true:=by
 induction l generalizing i with
 |nil=>simp at a
 |cons x l b=>
  simp only[pls,aS] at h;cases i with
  |zero=>simp at a;exact a▸h.1
  |succ i=>exact b h.2 (by simpa using a)
theorem Rr {e:PV} (h:e.pl=true) {j:Nat} {p:PV} (a:e.cells[j]?=some p):p.pl=true:=by
 cases e with
 |agg b=>exact Pi (l:=b) (by simpa [PV.pl] using h) a
 |_=>
  simp only[PV.cells] at a;cases j with
  |zero=>simp at a;exact a▸h
  |succ j=>simp at a
theorem Rs {e:PV} (h:az e=true) {j:Nat} {p:PV} (a:e.cells[j]?=some p):p.one=true:=
 bV.1 h p (aL a)
section
variable {fi fi1:FI} {M M' M2 M3 Me:Mem} {w w' w3 we:World} {s:St} {a:Act}
theorem RepP.toO {p:PV} {v:Value} (h:RepP fi M w p v) (f:p.pl=true) (hn:p.one=true) (x:∀b k,M.imm b k->b<fi1.n0):RepO fi1 M w p v:=by
 induction h with
 |int k n=>exact .int k n
 |bool b=>exact .bool b
 |str s=>exact .str s
 |sl z m A c b o q y u t l g _ r=>
  refine .sl z m A c b o q y u t l (λi e j p d a=>⟨x _ _ (g i e j p d a).1,g i e j p d a⟩) (λi e j p d a=>?_);exact r i e j p d a (Rr (Pi (by simpa [PV.pl] using f) d) a) (Rs (l e (aL d)) a)
 |agg=>simp[PV.one] at hn
 |_=>simp[PV.pl] at f
theorem RepO.toFi {p:PV} {v:Value} (h:RepO fi M w p v) (t:∀b k,M.imm b k->b<fi1.n0):RepO fi1 M w p v:=by
 induction h with
 |int k n=>exact .int k n
 |bool b=>exact .bool b
 |str s=>exact .str s
 |sl z g A c b o l u r q x d _ m=>
  exact .sl z g A c b o l u r q x (λi e j p f a=>⟨t _ _ (d i e j p f a).2.1,(d i e j p f a).2⟩) m
def olP:PV->PV
 | .sl _ z a=> .ol z a
 |v=>v
def pr:PV->Bool
 | .int _ _| .bool _| .str _| .ol _ _=>true
 | .sl _ _ a=>pls a
 |_=>false
def N2:PV->Bool
 | .ptr false _ _=>true
 |v=>pr v
def St.old (s:St):St:=⟨s.env.map λq=>(q.1,olP q.2),s.lh.map (List.map olP),[]⟩
theorem get_map (f:PV->PV) (e:fT) (t:Nat):get (e.map λq=>(q.1,f q.2)) t=(get e t).map f:=by
 induction e with
 |nil=>rfl
 |cons q e b=>
  obtain⟨a,v⟩:=q;simp only[bS,get];split
  ·rfl
  ·exact b
def FI.round (a:FI) (b k:Nat) (v:Option Value):FI:=
 {f:=a.f,gl:=(b,k,v)::a.gl,bT:=a.bT,u8:=a.u8,gw:=a.gw,n0:=b+1,dead:=λ_ _=>False,tob:=none,
  gwok:=(λx c=>(a.gwok x c).imp λ_ h=>h.imp λ_ h=>h.imp λ_ h=>⟨bC _ h.1,h.2.1,λi s d=>bC _ (h.2.2 i s d)⟩),
  n0ok:=(.inr ⟨k,v,bh⟩) }
theorem Ext.own0 (M:Mem) (w:World):Ext {M with gb:=[] } w {M with gb:=[],own:=λ_=>none } w:=
 ⟨λ_ _ h=>h,λ_ _ h=>h,λ_ _ _=>rfl,λ_ h=>by simp at h,λ_ _ _=>rfl⟩
theorem RepO.anyM {p:PV} {v:Value} (h:RepO fi M w p v) (r:∀b k,M.imm b k->M'.imm b k):RepO fi M' w p v:=by
 induction h with
 |int k n=>exact .int k n
 |bool b=>exact .bool b
 |str s=>exact .str s
 |sl z g A c b o l u t q x d _ m=>
  exact .sl z g A c b o l u t q x (λi e j p f a=>⟨(d i e j p f a).1,r _ _ (d i e j p f a).2.1,(d i e j p f a).2.2⟩) m
theorem olC {l:Loc} {p:PV} {v:Value} (h:RepC fi M w l p v) (d:pr p=true) (f:∀b k,M.imm b k->b<fi1.n0) (e:∀b k,M.imm b k->M'.imm b k):RepP fi1 M' w (olP p) v:=by
 cases p with
 |int k n=>cases (show RepP fi M w (.int k n) v from h);exact .int k n
 |bool b=>cases (show RepP fi M w (.bool b) v from h);exact .bool b
 |str s=>cases (show RepP fi M w (.str s) v from h);exact .str s
 |ol z a=>
  cases (show RepP fi M w (.ol z a) v from h) with
  |ol _ _ _ c=>exact .ol _ _ _ ((c.toFi f).anyM e)
 | sl o z a=>
  have c:RepP fi M w (.sl false z a) v:=by
   cases o with
   |true=>exact (show OwnRep fi M w l z a v from h).1
   |false=>exact h
  exact .ol _ _ _ ((c.toO (by simpa [PV.pl,pr] using d) rfl f).anyM e)
 |_=>simp[pr] at d
theorem Inv.begin (m:Inv fi M w s a) (B:∀t v,get s.env t=some v->N2 v=true) (H:∀Q∈s.lh,∀c∈Q,pr c=true) {b k:Nat} (I:M.imm b k) (A:∀d r,M.imm d r->d<=b)
  {fi0:FI} (y:∀x∈fi0.gl,x∈fi.gl):Inv (fi0.round b k (w.cell? ⟨b,k,none⟩)) {M with gb:=[],own:=λ_=>none } w s.old a:=by
 have P:∀d r,M.imm d r->d<(fi0.round b k (w.cell? ⟨b,k,none⟩)).n0:=λd r h=>Nat.lt_succ_of_le (A d r h)
 refine⟨λt v h=>?_,m.defers,by simp[St.old,m.lbl],rfl,?_,λi Q f q n=>?_,λi o f q n=>by simp[St.old] at q,λx G=>?_,m.immlt,λ_ _ h=>(by cases h),λd h=>by simp at h⟩
 ·simp only[St.old,get_map,aE] at h
  obtain⟨p,N,rfl⟩:=h;obtain⟨q,n⟩:=m.env t p N;refine⟨q,?_⟩;have l:=B t p N;by_cases L:∃d o,p= .ptr false d o
  ·obtain⟨d,o,rfl⟩:=L
   obtain⟨f,e1,e2⟩:RepE fi M w (.ptr false d o) _:=n;exact RepE.repAt (p:= .ptr false d o) ⟨f,e1,e2⟩
  ·have g:pr p=true:=by
    unfold N2 at l;split at l
    ·exact absurd ⟨_,_,rfl⟩ L
    ·exact l
   have h3:RepC fi M w (Loc.env t 0) p (a.tmps.getD t undef):=by
    cases p with
    |sl o z xs=>cases o<;>exact n
    |int|bool|str|ol=>exact n
    |_=>simp[pr] at g
   exact (olC (M':={M with gb:=[],own:=λ_=>none }) h3 g P (λ_ _ h=>h)).repE.repAt
 ·have:=m.nodup
  rw[cT] at this;simpa using this.1
 ·simp only[St.old,aB,aE] at q
  obtain⟨D,C,rfl⟩:=q;obtain⟨q1,q2,q3,q4,R,T,X,U,S⟩:=m.lh i D f C n;have O:=H D (aL C);refine⟨q1,q2,rfl,λc F=>?_,R,T,X,by simpa using U,λj c u F hu=>?_⟩
  ·obtain⟨E,e,rfl⟩:=List.mem_map.1 F
   have:=O E e;cases E<;>first|rfl|(simp[pr] at this)
  ·simp only[aB,aE] at F
   obtain⟨E,e,rfl⟩:=F;exact (olC (M':={M with gb:=[],own:=λ_=>none }) (S j E u e hu) (O E (aL e)) P (λ_ _ h=>h)).repC
 ·rcases List.mem_cons.1 (show x∈(b,k,w.cell? ⟨b,k,none⟩)::fi0.gl from G) with rfl|G
  ·exact⟨I,rfl⟩
  ·exact m.gl x (y x G)
def N3:PV->Bool
 | .int _ _=>true
 |_=>false
def fx (a:fw):Bool:=a.all λe=>e.cells.all N3
def m9:PV->PV
 | .fr z a=> .dj 0 z a.length
 | .sl _ z _=> .dj 0 z 0
 |v=>v
def hE:PV->Bool
 | .fr _ a=>fx a
 | .sl false _ []=>true
 |_=>false
def hU:PV->PV
 | .sl true z a=>if fx a then .dj 0 z a.length else if a.all hE then .sl false z (a.map m9) else .junk
 | .fr z a=>if fx a then .dj 0 z a.length else if a.all hE then .sl false z (a.map m9) else .junk
 | .sl false z []=> .dj 0 z 0
 | .int k n=> .int k n
 | .bool b=> .bool b
 | .str s=> .str s
 | .ol z a=> .ol z a
 | .ptr false b o=> .ptr false b o
 |_=> .junk
def g7:PV->Bool
 | .int _ _| .bool _| .str _| .ol _ _=>true
 | .sl true _ a| .fr _ a=>fx a||a.all hE
 | .sl false _ []=>true
 |_=>false
def St.thaw (s:St):St:=⟨s.env.map λq=>(q.1,hU q.2),s.lh.map (List.map hU),[.trash]⟩
def il (c:FI) (M:Mem) (w:World) (b k:Nat):Prop:=c.n0<=b/\M.imm b k/\w.frozen? ⟨b,k,none⟩=false/\∃a n,w.cell? ⟨b,k,none⟩=some (.int a n)
def FI.letgo (a:FI) (M:Mem) (w:World) (b:Nat):FI:={a with dead:=il a M w,tob:=w.heap[b]? }
open Classical in
noncomputable def Mem.letgo (M:Mem) (D:Nat->Nat->Prop) (b0:Nat):Mem:=
 {M with gb:=[b0],imm:=λb k=>M.imm b k/\¬D b k,own:=λb=>if ∃k,D b k then some (Loc.gh 0 0) else none }
variable {b0:Nat}
theorem RepO.letgo {p:PV} {v:Value} (h:RepO fi M w p v):RepO (fi.letgo M w b0) (M.letgo (il fi M w) b0) w p v:=by
 induction h with
 |int k n=>exact .int k n
 |bool b=>exact .bool b
 |str s=>exact .str s
 |sl z l A c b o m u t r x f _ q=>
  exact .sl z l A c b o m u t r x (λi e j p g a=>⟨(f i e j p g a).1,⟨(f i e j p g a).2.1,λd=>absurd d.1 (Nat.not_le_of_lt (f i e j p g a).1)⟩,(f i e j p g a).2.2⟩) q
theorem OA {z:Nat} {a:fw} {v:Value} (h:RepP fi M w (.sl false z a) v) (B:fx a=true)
  (C:∀A n c,v= .slice (some A) n c->fi.n0<=A.block/\∀k,k<a.length*z->M.imm A.block (A.off+k)/\w.frozen? ⟨A.block,A.off+k,none⟩=false) :
  RepP (fi.letgo M w b0) (M.letgo (il fi M w) b0) w (.dj 0 z a.length) v:=by
 cases h with
 | sl _ _ A c b o t E D x H y hr=>
  refine .dj 0 z a.length c A (by show 0<1;omega) D ?_;rcases Nat.eq_zero_or_pos a.length with g|g
  ·exact .inl g
  ·have m:=E.resolve_left (λe=>by rw[e] at g;simp at g)
   subst m;refine .inr ⟨b,o,rfl,λk l=>?_⟩;obtain⟨F,s⟩:=C _ _ _ rfl;have j:0<z:=by
    rcases Nat.eq_zero_or_pos z with e|e
    ·subst e;omega
    ·exact e
   have f:k/z<a.length:=Nat.div_lt_of_lt_mul (by rw[Nat.mul_comm];exact l);have d:k%z<(a[k/z]).cells.length:=by rw[x _ (cD f)];exact Nat.mod_lt _ j
   have q:=(y (k/z) _ (k%z) _ (aA f) (aA d)).2;have i:=hr (k/z) _ (k%z) _ (aA f) (aA d);have G:k/z*z+k%z=k:=by rw[Nat.mul_comm,Nat.div_add_mod]
   rw[G] at q i;have r:N3 (a[k/z]).cells[k%z]=true:=by have:=bV.1 B _ (cD f);exact bV.1 this _ (cD d)
   refine⟨F,(s k l).1,(s k l).2,?_⟩;generalize (a[k/z]).cells[k%z]=p at i r;cases p<;>simp[N3] at r;generalize t k=u at q i;cases i;exact⟨_,_,q⟩
theorem Pj {z:Nat} {v:Value} (h:RepP fi M w (.sl false z []) v):RepP (fi.letgo M w b0) (M.letgo (il fi M w) b0) w (.dj 0 z 0) v:=by
 cases h with
 |sl _ _ A c b o d g a e i f hr=>exact .dj 0 z 0 c A (by show 0<1;omega) a (.inl rfl)
theorem Fx {e:PV} (b:hE e=true):e.cells=[e]/\(m9 e).cells=[m9 e]/\az (m9 e)=true:=by
 cases e with
 |fr z a=>exact⟨rfl,rfl,rfl⟩
 |sl o z a=>exact⟨rfl,rfl,rfl⟩
 |_=>simp[hE] at b
theorem Pk {e:PV} {v:Value} (b:hE e=true) (h:RepP fi M w e v):RepP (fi.letgo M w b0) (M.letgo (il fi M w) b0) w (m9 e) v/\∀k n,v≠ .int k n:=by
 cases e with
 |fr z c=>cases h with|fr _ _ _ h d=>exact⟨OA h b d,λk n e=>by subst e;cases h⟩
 | sl o z c=>
  cases o with
  |true=>simp[hE] at b
  |false=>
   cases c with
   |nil=>exact⟨Pj h,λk n e=>by subst e;cases h⟩
   |cons a l=>simp[hE] at b
 |_=>simp[hE] at b
theorem Pm {z:Nat} {l:fw} {v:Value} (h:RepP fi M w (.sl false z l) v) (E:l.all hE=true) :
  RepP (fi.letgo M w b0) (M.letgo (il fi M w) b0) w (.sl false z (l.map m9)) v:=by
 have g:∀e∈l,hE e=true:=bV.1 E;cases h with
 | sl _ _ A c b o y G F C L D hr=>
  have x:(l.map m9).length=l.length:=aW _;have s:∀(i:Nat) (e:PV) (j:Nat) (p:PV),(l.map m9)[i]?=some e->e.cells[j]?=some p->∃f,l[i]?=some f/\hE f=true/\p=m9 f/\j=0:=by
   intro i e j p k r;simp only[aB,aE] at k;obtain⟨f,a,rfl⟩:=k;have q:=g f (aL a);rw[(Fx q).2.1] at r;cases j with
   |zero=>simp at r;exact⟨f,a,q,r.symm,rfl⟩
   |succ j=>simp at r
  rw[<-x];refine .sl z (l.map m9) A c b o y (G.imp (λe=>by rw[e];rfl) id) (by rw[x];exact F) (λe k=>?_) (λe k=>?_) (λi e j p k r=>?_) (λi e j p k r=>?_)
  ·obtain⟨f,a,rfl⟩:=List.mem_map.1 k
   have t:=C _ a;rw[(Fx (g f a)).1] at t;rw[(Fx (g f a)).2.1];exact t
  ·obtain⟨f,a,rfl⟩:=List.mem_map.1 k
   exact (Fx (g f a)).2.2
  ·obtain⟨f,a,q,rfl,rfl⟩:=s i e j p k r
   have m:f.cells[0]?=some f:=by rw[(Fx q).1];rfl
   obtain⟨I,u⟩:=D i _ 0 _ a m;have H:=hr i _ 0 _ a m;refine⟨⟨I,λd=>?_⟩,u⟩;obtain⟨B,n,hn⟩:=d.2.2.2;rw[u] at hn;exact (Pk (b0:=b0) q H).2 B n (cZ hn)
  ·obtain⟨f,a,q,rfl,rfl⟩:=s i e j p k r
   have m:f.cells[0]?=some f:=by rw[(Fx q).1];rfl
   exact (Pk q (hr i _ 0 _ a m)).1
theorem Pn {l:Loc} {p:PV} {v:Value} (h:RepC fi M w l p v) (f:g7 p=true):RepP (fi.letgo M w b0) (M.letgo (il fi M w) b0) w (hU p) v:=by
 cases p with
 |int k n=>cases (show RepP fi M w (.int k n) v from h);exact .int k n
 |bool b=>cases (show RepP fi M w (.bool b) v from h);exact .bool b
 |str s=>cases (show RepP fi M w (.str s) v from h);exact .str s
 |ol z c=>cases (show RepP fi M w (.ol z c) v from h) with|ol _ _ _ m=>exact .ol _ _ _ m.letgo
 | sl o z c=>
  cases o with
  |false=>
   cases c with
   |nil=>exact Pj h
   |cons a l=>simp[g7] at f
  | true=>
   have i:OwnRep fi M w l z c v:=h;simp only[hU];by_cases d:fx c=true
   ·rw[if_pos d];exact OA i.1 d (O8 i)
   ·have e:c.all hE=true:=by simpa [g7,d] using f
    rw[if_neg d,if_pos e];exact Pm i.1 e
 | fr z c=>
  cases (show RepP fi M w (.fr z c) v from h) with
  | fr _ _ _ j g=>
   simp only[hU];by_cases d:fx c=true
   ·rw[if_pos d];exact OA j d g
   ·have e:c.all hE=true:=by simpa [g7,d] using f
    rw[if_neg d,if_pos e];exact Pm j e
 |_=>simp[g7] at f
theorem Inv.thaw (A:Inv fi M w s a) (ab:∀cs∈s.lh,∀c∈cs,g7 c=true) {k0:Nat} (G:M.imm b0 k0) (aa:b0<fi.n0) (ad:∀x∈fi.gl,x.1<fi.n0) :
  Inv (fi.letgo M w b0) (M.letgo (il fi M w) b0) w s.thaw a:=by
 have F:∀b∈M.lb,∀k,¬M.imm b k:=λb H=>by
  obtain⟨i,C,rfl⟩:=cP.1 H;have B:i<s.lh.length:=by rw[<-A.lbl];exact C
  exact (A.lh i _ _ (aA B) (aA C)).2.1
 have U:∀b,b<fi.n0->¬∃k,il fi M w b k:=λb H ⟨k,L⟩=>absurd L.1 aj
 have X:∀b∈M.lb,¬∃k,il fi M w b k:=λb H ⟨k,L⟩=>F b H k L.2.1
 refine⟨λt v h=>?_,A.defers,by simp[St.thaw,A.lbl,Mem.letgo],rfl,?_,λi cs f r B=>?_,λi o f r B=>?_,λx Q=>?_,λb k h=>A.immlt b k h.1,λb l h=>?_,λb h=>?_⟩
 ·simp only[St.thaw,get_map,aE] at h
  obtain⟨p,hp,rfl⟩:=h;obtain⟨r,B⟩:=A.env t p hp;refine⟨r,?_⟩;by_cases E:g7 p=true
  ·refine (Pn (l:=Loc.env t 0) ?_ E).repE.repAt
   cases p with
   |sl o z m=>cases o<;>exact B
   |int|bool|str|ol|fr=>exact B
   |_=>simp[g7] at E
  ·by_cases hq:∃I o,p= .ptr false I o
   ·obtain⟨I,o,rfl⟩:=hq
    obtain⟨f,e1,e2⟩:RepE fi M w (.ptr false I o) _:=B;exact RepE.repAt (p:= .ptr false I o) ⟨f,e1,e2⟩
   ·have:hU p= .junk:=by
     cases p with
     | sl o z m=>
      cases o with
      |true=>
       have h4:¬fx m=true:=λe=>E (by simp[g7,e])
       have h5:¬m.all hE=true:=λe=>E (by simp only[g7,e,Bool.or_true])
       simp only[hU,if_neg h4,if_neg h5]
      |false=>
       cases m with
       |nil=>exact absurd rfl E
       |cons a l=>rfl
     |fr z m=>
      have h4:¬fx m=true:=λe=>E (by simp[g7,e])
      have h5:¬m.all hE=true:=λe=>E (by simp only[g7,e,Bool.or_true])
      simp only[hU,if_neg h4,if_neg h5]
     |ptr g I o=>cases g with
      |true=>rfl
      |false=>exact absurd ⟨I,o,rfl⟩ hq
     |int|bool|str|ol=>simp[g7] at E
     |_=>rfl
    rw[this];exact (RepP.junk _).repE.repAt
 ·have r:=A.nodup
  rw[cT] at r
  show (M.lb++[b0]).Nodup
  rw[cT];refine⟨r.1,bh,λx Q y hy=>?_⟩;simp only[List.mem_singleton] at hy;subst hy;intro e;subst e;exact F _ Q k0 G
 ·simp only[St.thaw,aB,aE] at r
  obtain⟨O,N,rfl⟩:=r;obtain⟨q1,q2,q3,q4,vs,T,q5,q6,q7⟩:=A.lh i O f N B;have hl:=ab O (aL N);refine⟨q1,λk h=>q2 k h.1,if_neg (X f (aL B)),λc S=>?_,vs,T,q5,by simpa using q6,λj c u S hu=>?_⟩
  ·obtain⟨P,D,rfl⟩:=List.mem_map.1 S
   have:=hl P D;cases P with
   | sl o z m=>
    cases o with
    |false=>
     cases m with
     |nil=>rfl
     |cons a l=>simp[g7] at this
    | true=>
     simp only[hU];by_cases C:fx m=true
     ·rw[if_pos C];rfl
     ·have hf:m.all hE=true:=by simpa [g7,C] using this
      rw[if_neg C,if_pos hf];rfl
   | fr z m=>
    simp only[hU];by_cases C:fx m=true
    ·rw[if_pos C];rfl
    ·have hf:m.all hE=true:=by simpa [g7,C] using this
     rw[if_neg C,if_pos hf];rfl
   |int|bool|str|ol=>rfl
   |_=>simp[g7] at this
  ·simp only[aB,aE] at S
   obtain⟨P,D,rfl⟩:=S;exact (Pn (q7 j P u D hu) (hl P (aL D))).repC
 ·cases i with
  |succ i=>simp[St.thaw] at r
  | zero=>
   simp[St.thaw] at r;subst r;have H:f=b0:=by simpa [Mem.letgo] using B.symm
   subst H;refine⟨A.immlt _ _ G,if_neg (U _ aa),rfl,λb k R=>?_⟩;have q:il fi M w b k:=R;refine⟨if_pos ⟨k,q⟩,λh=>h.2 q,λh=>F b h k q.2.1,λh=>?_,q.2.2.1,?_⟩
   ·have:b=f:=by simpa [Mem.letgo] using h
    have:=q.1;omega
   ·obtain⟨kd,n,hn⟩:=q.2.2.2
    unfold World.cell? at hn;split at hn
    ·rename_i c T fr hh
     split at hn
     ·cases hn
     ·exact⟨c,T,fr,hh,(Array.getElem?_eq_some_iff.1 hn).1⟩
    ·cases hn
 ·obtain⟨r,B⟩:=A.gl x Q
  exact⟨⟨r,λd=>absurd d.1 (Nat.not_le_of_lt (ad x Q))⟩,B⟩
 ·by_cases R:∃k,il fi M w b k
  ·obtain⟨k,L⟩:=R;exact A.immlt b k L.2.1
  ·have:(M.letgo (il fi M w) b0).own b=none:=if_neg R
   rw[this] at h;cases h
 ·have:b=b0:=by simpa [Mem.letgo] using h
  subst this;exact A.immlt _ _ G
theorem Kp.round (a:Kp Me we M w) (g:Kp (M.letgo (il fi M w) b0) w M3 w3) (j:Me.gb=[]) (c:∀b,Me.own b=none) (l:∀b k,Me.imm b k->b<fi.n0) (q:w3.heap[b0]?=w.heap[b0]?) :
  Kp Me we {M3 with gb:=[],own:=λ_=>none } w3:=by
 have I:∀b k,il fi M w b k->we.heap.size<=b:=λb k f=>by
  rcases a.immn b k f.2.1 with h|h|h
  ·have:=l b k h;have:=f.1;omega
  ·exact h
  ·exact absurd (c b) h
 have r:∀b,(M.letgo (il fi M w) b0).own b≠none->we.heap.size<=b:=λb h=>by
  by_cases f:∃k,il fi M w b k
  ·obtain⟨k,m⟩:=f;exact I b k m
  ·exact absurd (if_neg f) h
 have o:∀b k,Me.imm b k->(M.letgo (il fi M w) b0).imm b k:=λb k h=>⟨a.ext.imm b k h,λd=>by have:=l b k h;have:=d.1;omega⟩
 refine⟨g.os.trans a.os,g.tape.trans a.tape,g.output.trans a.output,cC a.size g.size,
  ⟨λi k h=>by rw[j] at h;simp at h,λb k h=>g.ext.imm b k (o b k h),λb k h=>(g.ext.cell b k (o b k h)).trans (a.ext.cell b k h),λb h=>by rw[j] at h;simp at h,λb k h=>(g.ext.fz b k (o b k h)).trans (a.ext.fz b k h)⟩,
  λk m y _ _=>?_,λk h=>?_,λk h=>by simp at h,λ_ _ _=>rfl,λb k h=>?_,?_⟩
 ·by_cases s:k=b0
  ·subst s
   rw[q];exact a.block k m y (by rw[j];simp) (c k)
  ·refine (g.block k (aO m a.size) (λh=>?_) (λh=>?_) ?_).trans (a.block k m y (by rw[j];simp) (c k))
   ·rcases a.lbn k h with h|h
    ·exact y h
    ·omega
   ·exact s (by simpa [Mem.letgo] using h)
   ·by_cases h:(M.letgo (il fi M w) b0).own k=none
    ·exact h
    ·have:=r k h;omega
 ·rcases g.lbn k h with h|h
  ·exact a.lbn k h
  ·exact .inr (cC a.size h)
 ·rcases g.immn b k h with h|h|h
  ·rcases a.immn b k h.1 with h|h|h
   ·exact .inl h
   ·exact .inr (.inl h)
   ·exact absurd (c b) h
  ·exact .inr (.inl (cC a.size h))
  ·exact .inr (.inl (r b h))
 ·obtain⟨G,Q,P,C⟩:=a.ds
  obtain⟨F,O,N,B⟩:=g.ds;refine⟨F++G,by rw[show ({M3 with gb:=[],own:=λ_=>none }:Mem).ds=M3.ds from rfl,O,show (M.letgo (il fi M w) b0).ds=M.ds from rfl,Q,aT],cT.2 ⟨N,P,λd f e H z=>?_⟩,λd f=>?_⟩
  ·subst z
   obtain⟨D,v,t,_⟩:=B d f;obtain⟨E,S,A,L,_⟩:=C d H;have:D=E:=by rw[t] at A;cases A;rfl
   have:=(Array.getElem?_eq_some_iff.1 L).1;omega
  ·rcases cE.1 f with f|f
   ·obtain⟨D,v,t,p,u,_⟩:=B d f
    exact⟨D,cC a.size v,t,p,u,bh,rfl⟩
   ·obtain⟨D,v,t,p,u,_⟩:=C d f
    have x:=(Array.getElem?_eq_some_iff.1 p).1;refine⟨D,v,t,?_,λh=>?_,bh,rfl⟩
    ·by_cases s:D=b0
     ·subst s;rw[q];exact p
     ·refine (g.block D x u (λh=>s (by simpa [Mem.letgo] using h)) ?_).trans p
      refine if_neg λ⟨k,m⟩=>?_
      obtain⟨R,n,hn⟩:=m.2.2.2;simp[World.cell?,p] at hn
    ·rcases g.lbn D h with h|h
     ·exact u h
     ·omega
end
end
section
open Go.RowKit
variable {o:gj} {b i j:Nat} {ops:Array Oper} {listed:Array Bool}
def Bef (o:gj) (j i:Nat):Prop:=List.Sublist [j,i] o
theorem Po {a:Nat} (ha:a∈o) (f:b∈o) (e:a≠b):Bef o a b\/Bef o b a:=by
 induction o with
 |nil=>cases ha
 | cons x o g=>
  rcases List.mem_cons.1 ha with d|d
  ·rcases List.mem_cons.1 f with c|c
   ·exact absurd (d.trans c.symm) e
   ·rw[d];exact .inl (List.Sublist.cons_cons _ (List.singleton_sublist.2 c))
  ·rcases List.mem_cons.1 f with c|c
   ·rw[c];exact .inr (List.Sublist.cons_cons _ (List.singleton_sublist.2 d))
   ·exact (g d c).imp (λh=>h.cons _) (λh=>h.cons _)
theorem OB (hn:o.Nodup) {a c:Nat} (e:Bef o a b) (d:Bef o b c):Bef o a c:=by
 induction o with
 |nil=>cases e
 | cons x o f=>
  rw[List.nodup_cons] at hn;unfold Bef at *;cases e with
  |cons _ e=>
   cases d with
   |cons _ d=>exact (f hn.2 e d).cons _
   |cons_cons _ d=>exact absurd (e.subset bh) hn.1
  |cons_cons _ e=>
   cases d with
   |cons _ d=>exact List.Sublist.cons_cons _ (List.singleton_sublist.2 (d.subset bh))
   |cons_cons _ d=>exact absurd (List.singleton_sublist.1 e) hn.1
theorem Rt (hn:(i::o).Nodup) (a:j∈o):¬Bef (i::o) j i:=by
 rw[List.nodup_cons] at hn;intro h;unfold Bef at h;cases h with
 |cons _ h=>exact hn.1 (h.subset bh)
 |cons_cons _ h=>exact hn.1 a
theorem Ru {k:Nat} (h:Bef (i::o) j k) (a:j≠i):Bef o j k:=by
 unfold Bef at *;cases h with
 |cons _ h=>exact h
 |cons_cons _ h=>exact absurd rfl a
section
variable {fi:FI} {M M':Mem} {w w':World} {P:Program} {s s' s1 s2 t1 t2:St} {a:Act} {cf:CallF}
theorem Pp {t:List IOpG}:∀{o L:gj} {s s':St},o.Nodup->L.Nodup->(∀x,x∈L↔x∈o)->(∀j i,Bef L j i->Bef o j i\/qG (nth t j) (nth t i)=true)->
  dt cf (L.map (nth t)) s=some s'->∃m,dt cf (o.map (nth t)) s=some m/\Eqv s' m
 |[],L,s,s',_,_,u,_,h=>by
  have:L=[]:=List.eq_nil_iff_forall_not_mem.2 λx c=>by simpa using (u x).1 c
  subst this;exact⟨s',h,Eqv.refl s'⟩
 | i::o,L,s,s',A,E,u,n,h=>by
  obtain⟨b,a,rfl⟩:=List.append_of_mem ((u i).2 bh);have l:(b++a).Nodup/\i∉b++a:=by
   rw[cT] at E ⊢;obtain⟨F,z,C⟩:=E;rw[List.nodup_cons] at z;refine⟨⟨F,z.2,λx c y G=>C x c y (by simp[G])⟩,λq=>?_⟩;rcases cE.1 q with q|q
   ·exact C i q i bh rfl
   ·exact z.1 q
  have d:∀x,x∈b++a↔x∈o:=λx=>by
   have r:=u x;simp only[cE,List.mem_cons] at r;constructor
   ·intro c
    have g:x≠i:=λe=>l.2 (e▸c)
    have:=r.1 ((cE.1 c).imp id .inr);exact this.resolve_left g
   ·intro c
    have g:x≠i:=λe=>(List.nodup_cons.1 A).1 (e▸c)
    rcases r.2 (.inr c) with f|f|f
    ·exact cE.2 (.inl f)
    ·exact absurd f g
    ·exact cE.2 (.inr f)
  rw[bI,bS] at h;obtain⟨P,O,r,f,N⟩:=xQ h (λp H=>by
   obtain⟨j,D,rfl⟩:=List.mem_map.1 H;have w:Bef (b++i::a) j i:=by obtain⟨R,Q,rfl⟩:=List.append_of_mem D;unfold Bef;rw[aT];refine List.Sublist.trans ?_ (List.sublist_append_right ..);exact List.Sublist.cons_cons _ (List.singleton_sublist.2 bh)
   exact (n j i w).resolve_left (Rt A ((d j).1 (by simp[D]))))
  rw[<-bI] at f;obtain⟨v,M,I⟩:=Pp (List.nodup_cons.1 A).2 l.1 d (λj k w=>by have B:Bef (b++i::a) j k:=List.Sublist.trans w (List.Sublist.append (List.Sublist.refl _) (List.sublist_cons_self ..));refine (n j k B).imp (λh=>Ru h λe=>?_) id;exact l.2 (e▸List.Sublist.subset w bh)) f;exact⟨v,by rw[bS,mE,r];exact M,N.trans I⟩
def VO (a:Array Oper):Array Bool->gj->Prop
 |listed,[]=>rest a listed=[]
 |listed,i::o=>i∈Region.ready .any a listed/\VO a (listed.setIfInBounds i true) o
def wt (a:Array Oper):Bool:=(List.range a.size).all λi=>match a[i]? with
 |some o=>o.after.all λe=> !Region.binds .any e||decide (e.on<i)
 |none=>true
theorem Pq (k:wt ops=true) (p:listed.size=ops.size) (hr:Region.ready .any ops listed=[]):rest ops listed=[]:=by
 have b:∀n i,i<n->i<ops.size->listed.getD i true=true:=by
  intro n
  induction n with
  |zero=>intro i h;omega
  | succ n f=>
   intro i _ a;cases g:listed.getD i true with
   |true=>rfl
   | false=>
    have:i∈Region.ready .any ops listed:=by rw[mem_ready];refine⟨g,ops[i],Array.getElem?_eq_getElem a,λe j l=>?_⟩;have d:=bV.1 k i (by simp[a]);rw[Array.getElem?_eq_getElem a] at d;have c:=Array.all_eq_true_iff_forall_mem.1 d e j;rw[l] at c;simp at c;have o:=f e.on aj aj;have m:e.on<listed.size:=aj;simpa [m] using o
    rw[hr] at this;cases this
 rw[rest,List.filter_eq_nil_iff];intro i a;simp at a;simp only[b (i+1) i aj a,Bool.not_true,bR,not_false_eq_true]
theorem Rv (a:i∈Region.ready .any ops listed):i∈rest ops listed:=by rw[mem_ready] at a;obtain⟨c,o,b,_⟩:=a;rw[rest,List.mem_filter];exact⟨by simp[(Array.getElem?_eq_some_iff.1 b).1],by rw[c];rfl⟩
theorem N4 (f:listed.size=ops.size) (e:i∈Region.ready .any ops listed) :
  ∃b a,rest ops listed=b++i::a/\rest ops (listed.setIfInBounds i true)=b++a/\i<ops.size/\i∉b++a:=by
 have l:=e;rw[mem_ready] at e;obtain⟨j,o,h,_⟩:=e;have c:=(Array.getElem?_eq_some_iff.1 h).1;obtain⟨b,a,k,g,_⟩:=Pf f c j;refine⟨b,a,k,g,c,λd=>?_⟩;rw[<-g,rest,List.mem_filter] at d;have:(listed.setIfInBounds i true).getD i true=true:=by simp[f,c]
 rw[this] at d;simp at d
theorem Rw (j:wt ops=true):∀(a:Nat) (listed:Array Bool),listed.size=ops.size->(rest ops listed).length<=a->∃o,VO ops listed o:=by
 intro a
 induction a with
 |zero=>intro listed b c;exact⟨[],List.length_eq_zero_iff.1 aj⟩
 | succ a g=>
  intro listed b c;cases hr:Region.ready .any ops listed with
  |nil=>exact⟨[],Pq j b hr⟩
  |cons i l=>
   have d:i∈Region.ready .any ops listed:=by rw[hr];simp
   obtain⟨f,e,m,k,_,_⟩:=N4 b d;obtain⟨o,h⟩:=g (listed.setIfInBounds i true) (by simp[b]) (by rw[k];rw[m] at c;simp at c ⊢;omega);exact⟨i::o,d,h⟩
theorem N5 {a:Array Oper}:∀{o:gj} {listed:Array Bool},listed.size=a.size->VO a listed o->o.Nodup/\∀x,x∈o↔x∈rest a listed
 |[],listed,_,h=>⟨List.nodup_nil,λx=>by rw[show rest a listed=[] from h]⟩
 | i::o,listed,d,h=>by
  obtain⟨f,e,l,k,_,b⟩:=N4 d h.1;obtain⟨j,c⟩:=N5 (by simp[d]) h.2;rw[k] at c;refine⟨List.nodup_cons.2 ⟨λg=>b ((c i).1 g),j⟩,λx=>?_⟩;rw[l,List.mem_cons,c x];simp only[cE,List.mem_cons];constructor
  ·rintro (h|h|h)
   ·exact .inr (.inl h)
   ·exact .inl h
   ·exact .inr (.inr h)
  ·rintro (h|h|h)
   ·exact .inr (.inl h)
   ·exact .inl h
   ·exact .inr (.inr h)
theorem Pr {c:Array Oper}:∀{o:gj} {listed:Array Bool},listed.size=c.size->VO c listed o->∀{i:Nat} {op:Oper} {e:Edge},i∈o->c[i]?=some op->e∈op.after->Region.binds .any e=true->e.on∈o->e.on≠i->Bef o e.on i
 |[],_,_,_,i,op,e,b,_,_,_,_,_=>by cases b
 | k::o,listed,l,h,i,op,e,b,f,p,q,m,d=>by
  obtain⟨s,r,D,C,A,t⟩:=N4 l h.1;obtain⟨B,y⟩:=N5 (by simp[l]) h.2;rcases List.mem_cons.1 m with a|a
  ·rw[a] at d ⊢
   rcases List.mem_cons.1 b with b|b
   ·exact absurd b.symm d
   ·exact List.Sublist.cons_cons _ (List.singleton_sublist.2 b)
  ·rcases List.mem_cons.1 b with b|b
   ·subst b
    -- it was ready, so what it waits for was listed
    have hr:=h.1;rw[mem_ready] at hr;obtain⟨_,z,g,n⟩:=hr;rw[f] at g;cases g;have x:=n e p q;have j:=(y e.on).1 a;rw[rest,List.mem_filter] at j;have w:e.on<c.size:=by simpa using j.1
    have v:(listed.setIfInBounds i true).getD e.on true=listed.getD e.on true:=getD_set_ne true (Ne.symm d);rw[v] at j;have u:listed.getD e.on true=listed.getD e.on false:=by simp[l,w]
    rw[u,x] at j;simp at j
   ·exact (Pr (by simp[l]) h.2 b f p q a d).cons _
theorem Ps {a:Array Oper} {o:gj} (hn:o.Nodup) (d:∀x,x∈o↔x<a.size) (k:∀{i:Nat} {op:Oper} {e:Edge},i∈o->a[i]?=some op->e∈op.after->Region.binds .any e=true->e.on∈o->e.on≠i->Bef o e.on i) (n:wt a=true) :
  ∀(f i j:Nat),nq a f i j=true->Bef o j i
 |0,i,j,h=>by simp[nq] at h
 |f+1,i,j,h=>by
  simp only[nq] at h;split at h
  case h_2=>cases h
  rename_i op b;obtain⟨e,m,c⟩:=Array.any_eq_true'.1 h;simp only[aS,Bool.or_eq_true,dA,aH] at c;have l:=(Array.getElem?_eq_some_iff.1 b).1;have r:=bV.1 n i (by simp[l]);rw[b] at r;have q:=Array.all_eq_true_iff_forall_mem.1 r e m;rw[c.1] at q;simp at q;have p:=k ((d i).2 l) b m c.1 ((d e.on).2 aj) aj;rcases c.2 with g|⟨_,g⟩
  ·rw[<-g];exact p
  ·exact OB hn (Ps hn d k n f e.on j g) p
def sortOk (a:Array Oper) (b:List IOpG) (L:gj) (c:List (Nat×Nat)):Bool:=
 decide L.Nodup&&(L.all λi=>decide (i<a.size))&&((List.range a.size).all λi=>L.contains i) &&
 go L
where
 ahead (j i:Nat):Bool:=nq a a.size i j||qG (nth b j) (nth b i)||c.any λp=>(i==p.2||nq a a.size i p.2)&&(j==p.1||nq a a.size p.1 j)
 go:gj->Bool
  |[]=>true
  |j::l=>(l.all λi=>ahead j i)&&go l
theorem Pt {a:Array Oper} {c:List IOpG} {d:List (Nat×Nat)}:∀{L:gj},sortOk.go a c d L=true->∀j i,Bef L j i->sortOk.ahead a c d j i=true
 |[],_,j,i,h=>by cases h
 |k::l,b,j,i,h=>by
  simp only[sortOk.go,aS,bV] at b;unfold Bef at h;cases h with
  |cons _ h=>exact Pt b.2 j i h
  |cons_cons _ h=>exact b.1 i (List.singleton_sublist.1 h)
theorem Rx {a:Array Oper} {q:List IOpG} {L o:gj} {A:List (Nat×Nat)} (C:wt a=true) (v:sortOk a q L A=true) (w:VO a (Array.replicate a.size false) o) (t:∀p∈A,Bef o p.1 p.2)
  (h:dt cf (L.map (nth q)) s=some s'):∃e,dt cf (o.map (nth q)) s=some e/\Eqv s' e:=by
 simp only[sortOk,aS,bV,List.contains_eq_mem,aH,List.mem_range] at v;obtain⟨⟨⟨u,l⟩,k⟩,r⟩:=v;obtain⟨hn,b⟩:=N5 bh w;have hr:rest a (Array.replicate a.size false)=List.range a.size:=by rw[rest,List.filter_eq_self];intro j z;simp at z;simp[z]
 rw[hr] at b;have y:∀x,x∈o↔x<a.size:=λx=>by rw[b x,List.mem_range]
 have B:=@Pr a o _ bh w;have c:=λi j=>Ps hn y B C a.size i j
 refine Pp hn u (λx=>by rw[y];exact⟨l x,k x⟩) (λj i D=>?_) h;have d:=Pt r j i D;simp only[sortOk.ahead,Bool.or_eq_true,List.any_eq_true,aS,dA] at d;rcases d with (d|d)|⟨p,hp,n,m⟩
 ·exact .inl (c i j d)
 ·exact .inr d
 ·refine .inl ?_
  have g:=t p hp;have f:Bef o p.1 i:=by
   rcases n with n|n
   ·rw[n];exact g
   ·exact OB hn g (c i p.2 n)
  rcases m with m|m
  ·rw[m];exact f
  ·exact OB hn (c p.1 j m) f
theorem Ry {r:Option Nat} {n:Nat} (H:ii P fi cf) (F:sv P fi cf) {N:Nat} {p:List IOpG} {Q:Exit->Act->World->Prop} (hm:iG P fi N ops p ops.toList=true) (U:wt ops=true) {G:St->Prop} :
  ∀(b:Nat) (listed:Array Bool) (s:St) (a:Act) (M:Mem) (w:World),listed.size=ops.size->(rest ops listed).length<=b->Inv fi M w s a->N<=a.tmps.size->
  (∀o,VO ops listed o->∃s1,dt cf (o.map (nth p)) s=some s1/\G s1)->(∀s1 d M' w',G s1->Inv fi M' w' s1 d->Kp M w M' w'->d.tmps.size=a.tmps.size->Q .normal d w')->wpAnyIn (FR r) n P .any ops Q b listed a w:=by
 obtain⟨T,m⟩:=H4 hm
 have e:∀(listed:Array Bool) (s:St) (a:Act) (M:Mem) (w:World),rest ops listed=[]->Inv fi M w s a->(∀o,VO ops listed o->∃s1,dt cf (o.map (nth p)) s=some s1/\G s1)->
   (∀s1 d M' w',G s1->Inv fi M' w' s1 d->Kp M w M' w'->d.tmps.size=a.tmps.size->Q .normal d w')->Q .normal a w:=by
  intro listed s a M w hr f c hn;obtain⟨s1,q,h2⟩:=c [] hr;cases q;exact hn _ a M w h2 f (Kp.refl M w) rfl
 intro b
 induction b with
 |zero=>
  intro listed s a M w j E f X c hn;have hr:rest ops listed=[]:=List.length_eq_zero_iff.1 aj;refine⟨?_,e listed s a M w hr f c hn⟩;rw[List.eq_nil_iff_forall_not_mem];intro i l;have:=Rv l;rw[hr] at this;cases this
 | succ b ih=>
  intro listed s a M w j E f X c hn;refine⟨λhr=>e listed s a M w (Pq U j hr) f c hn,λi l=>?_⟩;obtain⟨ab,aa,e1,e2,B,_⟩:=N4 j l;have h:(rest ops (listed.setIfInBounds i true)).length<=b:=by rw[e2];rw[e1] at E;simp at E ⊢;omega
  obtain⟨o,S⟩:∃o,ops[i]?=some o:=⟨_,Array.getElem?_eq_getElem B⟩
  obtain⟨x,hx,A⟩:=m i o (by simpa using S);have k:nth p i=x:=by simp[nth,hx]
  obtain⟨o1,z⟩:=Rw U b (listed.setIfInBounds i true) (by simp[j]) h;obtain⟨u,R,_⟩:=c (i::o1) ⟨l,z⟩;rw[bS,mE,aC,k] at R;obtain⟨u1,q,_⟩:=R;unfold wpOpIn;rw[S]
  have:=xt (r:=r) (n:=n) (Q:=Q) (next:=wpAnyIn (FR r) n P .any ops Q b (listed.setIfInBounds i true)) H F f A X q (λd M' w' L hk g=>
   ih (listed.setIfInBounds i true) u1 d M' w' (by simp[j]) h L aj (λo2 y=>by
    obtain⟨v,O,D⟩:=c (i::o2) ⟨l,y⟩;rw[bS,mE,aC,k] at O;obtain⟨v1,h3,h4⟩:=O;rw[q] at h3;cases h3;exact⟨v,h4,D⟩)
    (λs1 a2 M2 w2 D I C t=>hn s1 a2 M2 w2 D I (hk.trans C) (t.trans g)))
  simp only;split
  ·rename_i hw;rw[if_pos hw] at this;exact this
  ·rename_i hw;rw[if_neg hw] at this;exact⟨λ_ _=>trivial,this⟩
theorem Rz {r:Option Nat} {n:Nat} (p:P.follows .mixedOrders=true) (f:ii P fi cf) (e:sv P fi cf) {N i:Nat} {b:Array Oper} {h:List IOpG} {Q:Exit->Act->World->Prop} (j:iG P fi N b h b.toList=true) (m:wt b=true) {G:St->Prop} (t:Inv fi M w s a) (q:N<=a.tmps.size)
  (c:∀o,VO b (Array.replicate b.size false) o->∃s1,dt cf (o.map (nth h)) s=some s1/\G s1) (hn:∀s1 d M' w',G s1->Inv fi M' w' s1 d->Kp M w M' w'->d.tmps.size=a.tmps.size->Q .normal d w'):(Code.region i b true).wpIn (FR r) n P Q a w:=by
 obtain⟨g,k⟩:=t.drew;refine wpIn_region_any p (Ry f e j m b.size _ s a M w.drew bh ?_ g q c (λs1 d M' w' l x v u=>hn s1 d M' w' l x (k.trans v) u));exact cC (List.length_filter_le _ _) bh
def swB (n b:Nat):Nat:=if b=n then n+1 else if b=n+1 then n else b
def swP (n:Nat):PV->PV
 | .ptr false b o=> .ptr false (swB n b) o
 | .bs false b o k z=> .bs false (swB n b) o k z
 |v=>v
def w7 (a:fw):Bool:=a.all λc=>match c with
 | .sl true _ _=>false
 |_=>true
theorem get_map' (f:PV->PV) (e:fT) (t:Nat):get (e.map λq=>(q.1,f q.2)) t=(get e t).map f:=by
 induction e with
 |nil=>rfl
 |cons q e b=>
  obtain⟨a,v⟩:=q;simp only[bS,get];split
  ·rfl
  ·exact b
theorem OC {L:gj} {p q b:Nat}:(L++[q,p])[swB L.length b]?=(L++[p,q])[b]?:=by
 unfold swB;split
 ·rename_i h;subst h;simp
 ·split
  ·rename_i h;subst h;simp
  ·rename_i d c
   by_cases a:b<L.length
   ·rw[aI a,aI a]
   ·rw[List.getElem?_eq_none (by simp;omega),List.getElem?_eq_none (by simp;omega)]
theorem Inv.swap {l:List fw} {x y:fw} (F:Inv fi M w s a) (hl:s.lh=l++[x,y]) (hx:w7 x=true) (hy:w7 y=true) :
  ∃lb,Inv fi {M with lb } w ⟨s.env.map λq=>(q.1,swP l.length q.2),l++[y,x],s.gh⟩ a/\Kp M w {M with lb } w:=by
 have E:=F.lbl;rw[hl] at E;simp only[aQ,aV,cF] at E;obtain⟨L,p,q,C⟩:∃L p q,M.lb=L++[p,q]:=by
  refine⟨M.lb.take l.length,M.lb[l.length]' aj,M.lb[l.length+1]' aj,?_⟩;apply List.ext_getElem?;intro i;by_cases h:i<l.length
  ·rw[aI (by simp;omega)];simp[h]
  ·rw[aN (by simp;omega)]
   simp only[cR];rw[Nat.min_eq_left aj];rcases Nat.lt_or_ge i (l.length+2) with f|f
   ·have:i=l.length\/i=l.length+1:=aj
    rcases this with rfl|rfl
    ·simp
    ·simp
   ·rw[List.getElem?_eq_none aj,List.getElem?_eq_none (by simp;omega)]
 have hL:L.length=l.length:=by rw[C] at E;simp at E;omega
 refine⟨L++[q,p],?_⟩;have r:Ext M w {M with lb:=L++[q,p] } w:=⟨λ_ _ h=>h,λ_ _ h=>h,λ_ _ _=>rfl,λ_ _=>⟨cW _,λ_=>rfl⟩,λ_ _ _=>rfl⟩
 have B:∀b,b∈L++[q,p]↔b∈M.lb:=λb=>by rw[C];simp only[cE,List.mem_cons,List.not_mem_nil,or_false];exact or_congr_right Or.comm
 have ow:∀{S:Loc} {z:Nat} {xs:fw} {v:Value},OwnRep fi M w S z xs v->OwnRep fi {M with lb:=L++[q,p] } w S z xs v:=by
  intro S z xs v h;obtain⟨g,f⟩:=h;refine⟨g.mono r,?_⟩;rcases f with f|⟨b,o,c,D,e,U,ho,hh,hs,hk,aa,X,hn⟩
  ·exact .inl f
  ·exact .inr ⟨b,o,c,D,e,U,ho,hh,hs,hk,λh=>aa ((B b).1 h),X,hn⟩
 have rc:∀{S:Loc} {p':PV} {v:Value},RepC fi M w S p' v->RepC fi {M with lb:=L++[q,p] } w S p' v:=by
  intro S p' v h;unfold RepC at *;split at h
  ·exact ow h
  ·exact h.mono r
 have rb:∀{mk:Nat->Loc} {d:Nat} {D:fw},RepBox fi M w mk d D->RepBox fi {M with lb:=L++[q,p] } w mk d D:=by intro mk d D h;obtain⟨g,f,H,n,R,T,I,Q,h7⟩:=h;exact⟨g,f,H,n,R,T,I,Q,λi c u N P=>rc (h7 i c u N P)⟩
 -- a box of which none tells who may write behind it may be told at another place
 have ad:∀{mk al:Nat->Loc} {d:Nat} {D:fw},w7 D=true->RepBox fi M w mk d D->RepBox fi {M with lb:=L++[q,p] } w al d D:=by
  intro mk al d D ao h;obtain⟨g,f,H,n,R,T,I,Q,h7⟩:=h;refine⟨g,f,H,n,R,T,I,Q,λi c u N P=>?_⟩;have G:=h7 i c u N P;have h9:=bV.1 ao c (aL N);unfold RepC at G ⊢;split at G
  ·simp at h9
  ·exact G.mono r
 refine⟨⟨λt v U=>?_,F.defers,by simp[hL],F.gbl,?_,λi D d g f=>?_,λi o d g f=>?_,F.gl,F.immlt,F.ownlt,F.gblt⟩,
  ⟨rfl,rfl,rfl,cW _,r,λ_ _ _ _ _=>rfl,λk h=> .inl ((B k).1 h),λ_ h=> .inl h,λ_ _ h=>h,λ_ _ h=> .inl h,.same rfl⟩⟩
 ·rw [get_map'] at U
  simp only[aE] at U;obtain⟨v0,an,rfl⟩:=U;obtain⟨H,n⟩:=F.env t v0 an;refine⟨H,?_⟩;rw[<-hL];unfold RepAt at n;split at n
  ·exact ow n
  ·obtain⟨h0,b,T,c,U,N,ho,hh,hk,aa,X⟩:=n
   exact⟨h0,b,T,c,U,N,ho,hh,hk,λh=>aa ((B b).1 h),X⟩
  ·obtain⟨R,O,e2,e3⟩:=n
   exact⟨R,O,e2,λi c u N P=>rc (e3 i c u N P)⟩
  ·obtain⟨R,O,e2,e3⟩:=n
   exact⟨R,O,e2,λi c u N P=>rc (e3 i c u N P)⟩
  ·rename_i n1 n2 n3 n4
   have I:=n;unfold RepE at n;split at n
   ·obtain⟨d,O,e2⟩:=n
    rw[C] at O;exact⟨d,by rw[<-O];exact OC,e2⟩
   ·obtain⟨d,A,c,O,e2⟩:=n
    rw[C] at O;exact⟨d,A,c,by rw[<-O];exact OC,e2⟩
   ·rename_i m1 m2
    have Q:swP L.length v0=v0:=by
     unfold swP;split
     ·exact absurd rfl (m1 _ _)
     ·exact absurd rfl (m2 _ _ _ _)
     ·rfl
    rw[Q];exact (RepP.mono r n).repE.repAt
 ·have h9:=F.nodup
  rw[C] at h9;refine (List.Perm.nodup_iff ?_).1 h9;exact List.Perm.append_right _ (List.Perm.append_left _ (List.Perm.swap ..))
 ·have O:=@OC L p q (swB L.length i)
  by_cases hi:i<l.length
  ·rw[aI hi] at g
   rw[aI aj] at f;exact rb (F.lh i D d (by rw[hl,aI hi];exact g) (by rw[C,aI aj];exact f))
  ·rw[aN aj] at g
   rw[aN aj,hL] at f;have:i-l.length=0\/i-l.length=1\/2<=i-l.length:=aj;rcases this with h|h|h
   ·rw[h] at g f
    simp at g f;subst g;subst f;exact ad hy (F.lh (l.length+1) y q (by rw[hl,aN aj];simp) (by rw[C,aN aj,hL];simp))
   ·rw[h] at g f
    simp at g f;subst g;subst f;exact ad hx (F.lh l.length x p (by rw[hl,aN aj];simp) (by rw[C,aN aj,hL];simp))
   ·rw[List.getElem?_eq_none (by simp;omega)] at g;cases g
 ·have G:=F.gh i o d g f
  cases o with
  |cells D=>exact rb G
  |map es=>
   obtain⟨g,f,l,ab,H,n,I⟩:=G;exact⟨g,f,l,ab,H,n,λi e m he hm=>⟨(I i e m he hm).1.mono r,(I i e m he hm).2.1.mono r,(I i e m he hm).2.2⟩⟩
  | stk ax xs=>
   obtain⟨g,f,H,n,I,D,T,Q,h7,G,h9⟩:=G;exact⟨g,f,H,n,I,D,T,Q,h7,G,λj x hj=>by obtain⟨u,P,hr⟩:=h9 j x hj;exact⟨u,P,hr.mono r⟩⟩
  |bld t=>
   obtain⟨g,f,H,T,hT,n⟩:=G;refine⟨g,f,H,T,hT,?_⟩;rcases n with n|⟨c,av,ap,I,Q,h7,G⟩
   ·exact .inl n
   ·exact .inr ⟨c,av,ap,I,Q,λh=>h7 ((B _).1 h),G⟩
  |trash=>
   obtain⟨g,f,ht,H⟩:=G;refine⟨g,f,ht,λb k hd=>?_⟩;obtain⟨k1,k2,k3,k4⟩:=H b k hd;exact⟨k1,k2,λh=>k3 ((B b).1 h),k4⟩
end
end
section
open Go.RowKit
section
variable {fi:FI} {M M':Mem} {w w':World} {P:Program} {s s':St} {a:Act} {cf:CallF}
theorem CP (b:P.follows .mixedOrders=true):∀n,mL P fi (λ_=>none) n
 |0=>λr i N j c s e s' a M w _ _ h=>by simp[bf] at h
 |n+1=>xV b (CP b n) (λf g k r d F h=>by simp[du] at h) trivial
theorem vT (g:P.follows .mixedOrders=true) (n N:Nat) (d:ICode) (c:Code) (s:St) (e:IExit) (b:St) (a:Act) (M:Mem) (w:World) (f:eh P fi N d c=true) (h:bf (λ_=>none) n d s=some (e,b)) (j:Inv fi M w s a) (i:N<=a.tmps.size):c.wp P (CPost fi M w a.tmps.size e b) a w:=
 wpIn_wide.1 (CP g n none 0 N d c s e b a M w (.inl rfl) f h j i)
theorem vU (g:ii P fi cf) (r:Inv fi M w s a) {N:Nat} {c:Array Oper} {i:IOp} {o:Oper} (f:i.isY=false) (l:lI P fi N c ⟨i,none⟩ o=true) (p:N<=a.tmps.size) (h:opG cf ⟨i,none⟩ s=some s')
  {b:Act->World->Prop} {Q:Exit->Act->World->Prop} (hn:∀j M' w',Inv fi M' w' s' j->Kp M w M' w'->j.tmps.size=a.tmps.size->b j w') :
  if Region.wanted o (yielded c a.tmps) then o.wp P a w b Q else b (a.put o.dst undef) w:=by
 obtain⟨v,u,t,k⟩:=xr l;have e:o.guard=none:=by
  cases m:o.guard with
  |none=>rfl
  |some q=>rw[m] at k;simp[CV] at k
 unfold Region.wanted;rw[e];simp only[if_true];exact xp g f r v u (λd n=>aO (t d n) p) h hn
theorem ml {b:Array Oper} {Q:Exit->Act->World->Prop} {o:Oper} {rest:List Oper} (h:if Region.wanted o (yielded b a.tmps) then o.wp P a w (wpList P b Q rest) Q else wpList P b Q rest (a.put o.dst undef) w):wpList P b Q (o::rest) a w:=by
 unfold wpList;split
 ·rename_i hw;rw[if_pos hw] at h;exact .inl h
 ·rename_i hw;rw[if_neg hw] at h;exact h
theorem vV {o:Oper} {d:Nat} {t g:TypeId} {k:Nat} {e:TypeId} {A:Option Addr} {n c:Nat} (h:o.op= .binOp .eql t (.tmp k) (.const (.slice none 0 0)) g) (i:o.dst=some d) (m:P.underlying t=some (.slice e)) (l:a.tmps.getD k undef= .slice A n c)
  {b:Act->World->Prop} {Q:Exit->Act->World->Prop} (hn:b (a.put (some d) (.bool A.isNone)) w):o.wp P a w b Q:=by
 obtain⟨dst,op,j,pos,f,r⟩:=o;simp only at h i;subst h;subst i;have u:∀d,(Op.equalIn (d+1) t (.slice A n c) (.slice none 0 0)).run P w= .ok A.isNone w:=λd=>by cases A<;>simp[Op.equalIn,run_underlying m]
 have s:(Op.equal t (.slice A n c) (.slice none 0 0)).run P w= .ok A.isNone w:=u 9999;have q:a.eval (.tmp k)= .slice A n c:=l;have p:a.eval (.const (.slice none 0 0))= .slice none 0 0:=rfl;unfold Oper.wp;have:(execOp a.eval {dst:=some d,op:=Op.binOp .eql t (.tmp k) (.const (.slice none 0 0)) g,type:=j,pos:=pos,after:=f,guard:=r }).run P w= .ok (.value (.bool A.isNone)) w:=by simp[execOp,q,p,eqGuard,binOp,s]
 rw[this];exact hn
def vW (z:Nat):List IOpG:=[⟨.mv 2 (.c (.sl true z [])),none⟩]
def vX (z a:Nat):List IOpG:=[⟨.buildSl 5 z [],none⟩,⟨.mv 6 (.t 0),none⟩,⟨.append 7 z a (.t 5) (.t 6),none⟩,⟨.tk 2 7,none⟩]
theorem sq {pg:Prg} (z:Nat) (s:St):bf pg 1 (.region (vW z) false) s=some (.normal,s.put 2 (.sl true z [])):=rfl
theorem Na {pg:Prg} {z bytes:Nat} {s:St} {o:Bool} {xs:fw} (h:get s.env 0=some (.sl o z xs)) (a:xs.length*bytes<=maxBytes) :
  ∃s',bf pg 1 (.region (vX z bytes) false) s=fg s'/\get s'.env 2=some (.sl true z xs)/\s'.lh=s.lh/\s'.gh=s.gh:=by
 have b:∀v,get (put s.env 5 v) 0=some (.sl o z xs):=λv=>by rw[dl];simpa using h
 refine⟨⟨put (put (put (put (put (put s.env 5 (.sl true z [])) 6 (.sl false z xs)) 5 (.sl false z [])) 7 (.sl true z xs)) 7 (.sl false z xs)) 2 (.sl true z xs),s.lh,s.gh⟩,?_,by rw[dl];simp,rfl,rfl⟩;simp[bf,vX,dt,opG,ae,ei,St.put,gG,ai,h,f6,dl,degr,a]
def nG (P:Program) (c:FI) (z b N:Nat):Code->Bool
 | .seq h (.seq (.seq (.region _ a false) (.cond (.tmp 4) (.seq g .ret) .skip)) (.seq f .ret))=>
  eh P c N (.region (vW z) false) h&&(eh P c N (.region (vW z) false) g&&(eh P c N (.region (vX z b) false) f &&
   (match a.toList with
    |[e,d]=>lI P c N a ⟨.mv 3 (.t 0),none⟩ e&&(d.dst==some 4&&(d.guard.isNone&&(decide (4<N)&&(match d.op with
     | .binOp .eql t (.tmp 3) (.const (.slice none 0 0)) _=>(match P.underlying t with|some (.slice _)=>true|_=>false)
     |_=>false))))
    |_=>false)))
 |_=>false
theorem CQ (hP:P.follows .mixedOrders=true) {z bytes F:Nat} {y:Func} {c:Code} (hf:P.funcs[F]?=some y) (hb:y.body=some c) (E:nG P fi z bytes y.ntmps c=true) (hr:fE P [.t 2] y.results.toList=true)
  {N:fw} {k i:fB} {r:PV} (h:lx z bytes N k=some (r,i)):eG P fi F N k r i:=by
 obtain⟨o,xs,rfl,ap,rfl,rfl⟩:∃o xs,N=[.sl o z xs]/\xs.length*bytes<=maxBytes/\r= .sl true z xs/\k=i:=by
  unfold lx at h;split at h
  ·rename_i o z' xs
   split at h
   ·rename_i hc
    obtain⟨rfl,hc⟩:=hc;cases h;exact⟨o,xs,rfl,hc,rfl,rfl⟩
   ·cases h
  ·cases h
 let fn:IFunc:={np:=1,res:=[.t 2],own:=true,trunc:=false,body:= .skip }
 refine oe (fn:=fn) (x:=(.ret,⟨[(2,.sl true z xs)],[],k⟩)) hf hb hr ?_ (by simp[fn,ag,results,get,af,az,PV.cells,PV.one]);intro a M w hI hN;unfold nG at E;split at E
 ·rename_i c0 aB C c2 c3
  simp only[aS] at E;obtain⟨m0,m2,m3,Q⟩:=E;split at Q
  ·rename_i o1 o2 D
   simp only[aS,dA,aH,Option.isNone_iff_eq_none] at Q;obtain⟨aa,X,U,h4,g⟩:=Q;split at g
   ·rename_i t t2 an
    split at g
    ·rename_i e ht
     have hC:=vT (fi:=fi) hP
     -- the head
     rw[qD];refine wpIn_wide.2 ?_;refine wp_seq (wp_mono (hC 9 y.ntmps _ c0 _ .normal (St.put ⟨fk 0 [.sl o z xs],[],k⟩ 2 (.sl true z [])) a M w m0 (fH _ aj (sq z _)) hI hN) ?_);rintro ex a1 w1 ⟨rfl,M1,av,H,aD⟩
     show Code.wp P _ _ a1 w1
     refine wp_seq (wp_seq ?_);refine wp_region_list ?_;rw[D];have ao:ii P fi (du (bf (λ_=>none) 0) (λ_=>none)):=λf N k r i F h=>by simp[du] at h
     refine ml (vU ao av rfl aa aj (s':=St.put (St.put ⟨fk 0 [.sl o z xs],[],k⟩ 2 (.sl true z [])) 3 (.sl false z xs)) rfl (λj L B I G aC=>?_))
     ·have R:=(I.env 3 (.sl false z xs) rfl).2
      obtain⟨A,S,hv⟩:∃A S,j.tmps.getD 3 undef= .slice A xs.length S:=by
       generalize j.tmps.getD 3 undef=u at R;cases (show RepP fi L B (.sl false z xs) u from R) with
       |sl _ _ A S=>exact⟨A,S,rfl⟩
      have hg:Region.wanted o2 (yielded C j.tmps)=true:=by unfold Region.wanted;rw[U]
      refine ml ?_;rw[if_pos hg];refine vV an X ht hv ?_;unfold wpList;have q:=I.put (d:=4) aj (p:= .bool A.isNone) (v:= .bool A.isNone) ((RepP.bool (fi:=fi) (M:=L) (w:=B) A.isNone).repE.repAt);have al:(j.put (some 4) (.bool A.isNone)).tmps.size=j.tmps.size:=by simp[Act.put]
      have m:∀b,A.isNone=b->(j.put (some 4) (.bool A.isNone)).eval (.tmp 4)= .bool b:=by intro b hb;have aA:4<j.tmps.size:=aj;subst hb;simp[Act.eval,Act.put,cS,Array.getElem?_setIfInBounds,aA]
      generalize j.put (some 4) (.bool A.isNone)=a3 at q al m;cases hA:A with
      | none=>
       have hx:xs=[]:=by
        generalize j.tmps.getD 3 undef=u at R hv;subst hv;subst hA;cases (show RepP fi L B (.sl false z xs) _ from R) with
        | sl _ _ _ _ b o' vf ax=>
          rcases ax with h|h
          ·exact h
          ·cases h
       subst hx;refine wp_cond_true (m true (by rw[hA];rfl)) ?_;refine wp_seq (wp_mono (hC 9 y.ntmps _ c2 _ .normal _ a3 L B m2 (fH _ aj (sq z _)) q aj) ?_);rintro ex a4 w4 ⟨rfl,M4,n,l,ab⟩;refine wp_ret ?_;obtain⟨O,T⟩:=n.keep [2] 0;refine⟨rfl,_,?_,((H.trans G).trans l).trans T,aj⟩;exact O
      |some ad=>
       refine wp_cond_false (m false (by rw[hA];rfl)) ?_;refine wp_skip ?_
       show Code.wp P _ _ a3 B
       obtain⟨s',r1,r2,r3,r4⟩:=Na (pg:=λ_=>none) (bytes:=bytes) (s:=(St.put (St.put ⟨fk 0 [.sl o z xs],[],k⟩ 2 (.sl true z [])) 3 (.sl false z xs)).put 4 (.bool A.isNone)) (o:=o) (xs:=xs) rfl ap;refine wp_seq (wp_mono (hC 9 y.ntmps _ c3 _ .normal s' a3 L B m3 (fH _ aj r1) q aj) ?_);rintro ex a4 w4 ⟨rfl,M4,n,l,ab⟩;refine wp_ret ?_;obtain⟨O,T⟩:=n.keep [2] 0;refine⟨rfl,_,?_,((H.trans G).trans l).trans T,aj⟩;have e1:Lw.keep 0 [2] s'.env=[(2,.sl true z xs)]:=by simp[Lw.keep,r2,bj]
       rw[e1,r3,r4] at O;exact O
    ·cases g
   ·cases g
  ·cases Q
 ·cases E
def CR (P:Program) (d:FI) (z a F:Nat):Bool:=
 match P.funcs[F]? with
 |some b=>match b.body with
  |some c=>nG P d z a b.ntmps c&&fE P [.t 2] b.results.toList
  |none=>false
 |none=>false
theorem CT (i:P.follows .mixedOrders=true) {z a F:Nat} (h:CR P fi z a F=true) (f:fw) (g:fB) (r:PV) (b:fB) (hr:lx z a f g=some (r,b)):eG P fi F f g r b:=by
 unfold CR at h;cases e:P.funcs[F]? with
 |none=>rw[e] at h;cases h
 | some j=>
  rw[e] at h;simp only at h;cases d:j.body with
  |none=>rw[d] at h;cases h
  |some c=>
   rw[d] at h;simp only[aS] at h;exact CQ i e d h.1 h.2 hr
end
end
section
open Go.RowKit
variable {bytes:Nat} {xs:fw}
section
variable {fi:FI} {M M':Mem} {w w':World} {P:Program} {s s':St} {a:Act} {cf:CallF}
def NZ (a:Nat):List IOpG:=[⟨.buildSlK 5 [],none⟩,⟨.mv 6 (.t 0),none⟩,⟨.appendK 7 a (.t 5) (.t 6),none⟩,⟨.tk 2 7,none⟩]
theorem Nb {pg:Prg} {s:St} {o:Bool} (h:get s.env 0=some (.sl o 1 xs)) (b:xs.length*bytes<=maxBytes) (a:xs.all co=true) :
  ∃s',bf pg 1 (.region (NZ bytes) false) s=fg s'/\get s'.env 2=some (.stk s.gh.length 1 xs.length)/\s'.lh=s.lh/\s'.gh=s.gh++[.stk 1 xs]:=by
 refine⟨⟨put (put (put (put (put s.env 5 (.stk s.gh.length 0 0)) 6 (cr xs)) 7 (.stk s.gh.length 1 xs.length)) 7 (.stk s.gh.length 1 xs.length)) 2 (.stk s.gh.length 1 xs.length),s.lh,s.gh++[.stk 1 xs]⟩,?_,by rw[dl];simp,rfl,rfl⟩;simp[bf,NZ,dt,opG,ae,ei,St.put,gG,ai,h,dl,degr,b,a,gH,fO,-List.all_eq_true]
def vY (P:Program) (c:FI) (a N:Nat):Code->Bool
 | .seq g (.seq (.seq (.region e b false) (.cond (.tmp 4) (.seq f .ret) .skip)) (.seq d .ret))=>
  nG P c 1 a N (.seq g (.seq (.seq (.region e b false) (.cond (.tmp 4) (.seq f .ret) .skip)) (.seq d .ret)))&&eh P c N (.region (NZ a) false) d
 |_=>false
theorem Nc {pg:Prg} {s:St} {b gen n:Nat} (h:get s.env 0=some (.stk b gen n)) (e:s.gh[b]?=some (.stk gen xs)) (hn:n<=xs.length) (i:n*bytes<=maxBytes) (g:(xs.take n).all co=true) :
  ∃s',bf pg 1 (.region (NZ bytes) false) s=fg s'/\get s'.env 2=some (.stk s.gh.length 1 n)/\s'.lh=s.lh/\s'.gh=s.gh++[.stk 1 (xs.take n)]:=by
 have c:b<s.gh.length:=(aD.1 e).1;have a:(s.gh++[GObj.stk 0 []])[b]?=some (.stk gen xs):=by rw[aI c];exact e
 have f:(xs.take n).length=n:=by simp;omega
 have d:(b !=s.gh.length)=true:=by simp;omega
 refine⟨⟨put (put (put (put (put s.env 5 (.stk s.gh.length 0 0)) 6 (.stk b gen n)) 7 (.stk s.gh.length 1 n)) 7 (.stk s.gh.length 1 n)) 2 (.stk s.gh.length 1 n),s.lh,s.gh++[.stk 1 (xs.take n)]⟩,?_,by rw[dl];simp,rfl,rfl⟩;simp[bf,NZ,dt,opG,ae,ei,St.put,gG,ai,h,dl,degr,a,hn,f,i,g,gH,fO,d,-List.all_eq_true,-List.length_take]
theorem Nf (hP:P.follows .mixedOrders=true) {bytes F:Nat} {H:Func} {c:Code} (hf:P.funcs[F]?=some H) (hb:H.body=some c) (l:vY P fi bytes H.ntmps c=true) (hr:fE P [.t 2] H.results.toList=true)
  {vs:fw} {k E:fB} {r:PV} (h:gQ bytes vs k=some (r,E)):eG P fi F vs k r E:=by
 unfold vY at l;split at l
 case h_2=>cases l
 rename_i c0 aA G c2 c3;simp only[aS] at l;obtain⟨l,mK⟩:=l;unfold gQ at h;split at h
 case h_3=>cases h
 case h_2=>
  rename_i b gen n;split at h
  case h_2=>cases h
  rename_i g xs ax;split at h
  case isFalse=>cases h
  rename_i hc;obtain⟨rfl,hn,aa,U⟩:=hc;cases h
  let fn:IFunc:={np:=1,res:=[.t 2],own:=true,trunc:=false,body:= .skip }
  refine oe (fn:=fn) (x:=(.ret,⟨[(2,.stk k.length 1 n)],[],k++[.stk 1 (xs.take n)]⟩)) hf hb hr ?_ (by simp[fn,ag,results,get,af,az,PV.cells,PV.one]);intro a M w hI hN;unfold nG at l;simp only[aS] at l;obtain⟨m0,m2,m3,D⟩:=l;split at D
  case h_2=>cases D
  rename_i o1 o2 q;simp only[aS,dA,aH,Option.isNone_iff_eq_none] at D;obtain⟨N,L,I,h4,i⟩:=D;split at i
  case h_2=>cases i
  rename_i t t2 Q;split at i
  case h_2=>cases i
  rename_i e ht;have hC:=vT (fi:=fi) hP;rw[qD];refine wpIn_wide.2 ?_;refine wp_seq (wp_mono (hC 9 H.ntmps _ c0 _ .normal (St.put ⟨fk 0 [.stk b g n],[],k⟩ 2 (dz [])) a M w m0 (fH _ aj (sq 1 _)) hI hN) ?_);rintro ex a1 w1 ⟨rfl,M1,al,T,av⟩
  show Code.wp P _ _ a1 w1
  refine wp_seq (wp_seq ?_);refine wp_region_list ?_;rw[q];have X:ii P fi (du (bf (λ_=>none) 0) (λ_=>none)):=λf vs k r E F h=>by simp[du] at h
  refine ml (vU X al rfl N aj (s':=St.put (St.put ⟨fk 0 [.stk b g n],[],k⟩ 2 (dz [])) 3 (.stk b g n)) rfl (λj M2 m C S ap=>?_));have h3:=(C.env 3 (.stk b g n) rfl).2;obtain⟨ad,cc,hv⟩:∃ad cc,j.tmps.getD 3 undef= .slice (some ad) n cc:=by
   generalize j.tmps.getD 3 undef=u at h3;cases (show RepP fi M2 m (.stk b g n) u from h3) with
   |stk _ _ _ aB c hb hg hA hc=>exact⟨_,c,rfl⟩
  have hg:Region.wanted o2 (yielded G j.tmps)=true:=by unfold Region.wanted;rw[I]
  refine ml ?_;rw[if_pos hg];refine vV Q L ht hv ?_;unfold wpList;have B:=C.put (d:=4) aj (p:= .bool false) (v:= .bool false) ((RepP.bool (fi:=fi) (M:=M2) (w:=m) false).repE.repAt);have O:(j.put (some 4) (.bool false)).tmps.size=j.tmps.size:=by simp[Act.put]
  have y:(j.put (some 4) (.bool false)).eval (.tmp 4)= .bool false:=by have an:4<j.tmps.size:=aj;simp[Act.eval,Act.put,cS,Array.getElem?_setIfInBounds,an]
  show Code.wp P _ _ (j.put (some 4) (.bool false)) m
  generalize j.put (some 4) (.bool false)=a3 at B O y;refine wp_cond_false y ?_;refine wp_skip ?_
  show Code.wp P _ _ a3 m
  obtain⟨s',r1,r2,r3,r4⟩:=Nc (pg:=λ_=>none) (bytes:=bytes) (s:=(St.put (St.put ⟨fk 0 [.stk b g n],[],k⟩ 2 (dz [])) 3 (.stk b g n)).put 4 (.bool false)) (b:=b) (gen:=g) (n:=n) (xs:=xs) rfl ax hn aa U;refine wp_seq (wp_mono (hC 9 H.ntmps _ c3 _ .normal s' a3 M2 m mK (fH _ aj r1) B aj) ?_);rintro ex a4 w4 ⟨rfl,M4,ab,R,ao⟩;refine wp_ret ?_;obtain⟨q1,q2⟩:=ab.keep [2] 0;refine⟨rfl,_,?_,((T.trans S).trans R).trans q2,aj⟩;have e1:Lw.keep 0 [2] s'.env=[(2,.stk k.length 1 n)]:=by simp only[Lw.keep,r2];rfl
  rw[e1,r3,r4] at q1;exact q1
 rename_i o z' xs;by_cases hx:xs=[]
 ·rw[if_pos hx] at h
  exact CQ hP hf hb l hr h
 rw[if_neg hx] at h;split at h
 case isFalse=>cases h
 rename_i hc;obtain⟨rfl,aa,U⟩:=hc;cases h
 let fn:IFunc:={np:=1,res:=[.t 2],own:=true,trunc:=false,body:= .skip }
 refine oe (fn:=fn) (x:=(.ret,⟨[(2,.stk k.length 1 xs.length)],[],k++[.stk 1 xs]⟩)) hf hb hr ?_ (by simp[fn,ag,results,get,af,az,PV.cells,PV.one]);intro a M w hI hN;unfold nG at l;simp only[aS] at l;obtain⟨m0,m2,m3,D⟩:=l;split at D
 case h_2=>cases D
 rename_i o1 o2 q;simp only[aS,dA,aH,Option.isNone_iff_eq_none] at D;obtain⟨N,L,I,h4,i⟩:=D;split at i
 case h_2=>cases i
 rename_i t t2 Q;split at i
 case h_2=>cases i
 rename_i e ht;have hC:=vT (fi:=fi) hP;rw[qD];refine wpIn_wide.2 ?_;refine wp_seq (wp_mono (hC 9 H.ntmps _ c0 _ .normal (St.put ⟨fk 0 [.sl o 1 xs],[],k⟩ 2 (dz [])) a M w m0 (fH _ aj (sq 1 _)) hI hN) ?_);rintro ex a1 w1 ⟨rfl,M1,al,T,av⟩
 show Code.wp P _ _ a1 w1
 refine wp_seq (wp_seq ?_);refine wp_region_list ?_;rw[q];have X:ii P fi (du (bf (λ_=>none) 0) (λ_=>none)):=λf vs k r E F h=>by simp[du] at h
 refine ml (vU X al rfl N aj (s':=St.put (St.put ⟨fk 0 [.sl o 1 xs],[],k⟩ 2 (dz [])) 3 (cr xs)) rfl (λj M2 m C S ap=>?_));have h3:=(C.env 3 (cr xs) rfl).2;obtain⟨ad,cc,hv⟩:∃ad cc,j.tmps.getD 3 undef= .slice (some ad) xs.length cc:=by
  generalize j.tmps.getD 3 undef=u at h3;cases (show RepP fi M2 m (cr xs) u from h3) with
  |sl _ _ A cc b' o' vf hA=>exact⟨_,cc,by rw[hA.resolve_left hx]⟩
 have hg:Region.wanted o2 (yielded G j.tmps)=true:=by unfold Region.wanted;rw[I]
 refine ml ?_;rw[if_pos hg];refine vV Q L ht hv ?_;unfold wpList;have B:=C.put (d:=4) aj (p:= .bool false) (v:= .bool false) ((RepP.bool (fi:=fi) (M:=M2) (w:=m) false).repE.repAt);have O:(j.put (some 4) (.bool false)).tmps.size=j.tmps.size:=by simp[Act.put]
 have y:(j.put (some 4) (.bool false)).eval (.tmp 4)= .bool false:=by have an:4<j.tmps.size:=aj;simp[Act.eval,Act.put,cS,Array.getElem?_setIfInBounds,an]
 show Code.wp P _ _ (j.put (some 4) (.bool false)) m
 generalize j.put (some 4) (.bool false)=a3 at B O y;refine wp_cond_false y ?_;refine wp_skip ?_
 show Code.wp P _ _ a3 m
 obtain⟨s',r1,r2,r3,r4⟩:=Nb (pg:=λ_=>none) (bytes:=bytes) (s:=(St.put (St.put ⟨fk 0 [.sl o 1 xs],[],k⟩ 2 (dz [])) 3 (cr xs)).put 4 (.bool false)) (o:=o) (xs:=xs) rfl aa U;refine wp_seq (wp_mono (hC 9 H.ntmps _ c3 _ .normal s' a3 M2 m mK (fH _ aj r1) B aj) ?_);rintro ex a4 w4 ⟨rfl,M4,ab,R,ao⟩;refine wp_ret ?_;obtain⟨q1,q2⟩:=ab.keep [2] 0;refine⟨rfl,_,?_,((T.trans S).trans R).trans q2,aj⟩;have e1:Lw.keep 0 [2] s'.env=[(2,.stk k.length 1 xs.length)]:=by simp only[Lw.keep,r2];rfl
 rw[e1,r3,r4] at q1;exact q1
def CU (P:Program) (d:FI) (a F:Nat):Bool:=
 match P.funcs[F]? with
 |some b=>match b.body with
  |some c=>vY P d a b.ntmps c&&fE P [.t 2] b.results.toList
  |none=>false
 |none=>false
theorem Ng (g:P.follows .mixedOrders=true) {F:Nat} (h:CU P fi bytes F=true) (e:fw) (f:fB) (r:PV) (a:fB) (hr:gQ bytes e f=some (r,a)):eG P fi F e f r a:=by
 unfold CU at h;cases d:P.funcs[F]? with
 |none=>rw[d] at h;cases h
 | some i=>
  rw[d] at h;simp only at h;cases b:i.body with
  |none=>rw[b] at h;cases h
  |some c=>
   rw[b] at h;simp only[aS] at h;exact Nf g d b h.1 h.2 hr
end
end
end Go.Lw