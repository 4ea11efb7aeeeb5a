/-
  The texts that the proof stands on, part 15.
-/
import Derived.Test.YtmodipglnngghabGreatDoorDecideTextsC
import Derived.Test.YtmodipglnngghabGreatDoorDecideTextsN
import Derived.OrdersIn
set_option linter.unusedVariables false
set_option linter.unusedSimpArgs false
set_option linter.unnecessarySimpa false

set_option maxRecDepth 100000
set_option maxHeartbeats 4000000
namespace Go.Lw
open Go
section
open Go.RowKit
section
variable {fi:FI} {M M':Mem} {w w':World} {P:Program} {s s' s1 s2 t1 t2:St} {a:Act} {cf:CallF}
def oa (a:Array Oper):Nat->Nat->Nat->Bool
 |0,_,_=>false
 |f+1,i,j=>match a[i]? with
  |some o=>o.after.any λe=>Region.binds .any e&&(e.on==j||(decide (j<e.on)&&oa a f e.on j))
  |none=>false
def tq (a:Array Oper) (b:List IOpG):Bool:=
 (List.range a.size).all λi=>
  (match a[i]? with
   |some o=>o.after.all λe=> !Region.binds .any e||decide (e.on<i)
   |none=>true) &&
  (List.range i).all λj=>oa a a.size i j||(match b[j]?,b[i]? with
   |some p,some x=>qG p x
   |_,_=>false)
def nth (a:List IOpG) (j:Nat):IOpG:=(a[j]?).getD ⟨.mkmap 0,none⟩
def rest (b:Array Oper) (a:Array Bool):Oq:=(List.range b.size).filter λj=> !a.getD j true
def xR (b:Array Oper) (a:Array Bool):Prop:=
 ∀(i:Nat) (o:Oper) (e:Edge),b[i]?=some o->a.getD i false=true->e∈o.after->Region.binds .any e=true->a.getD e.on false=true
theorem xS {b:Array Oper} {a:Array Bool} (m:xR b a):∀(f i j:Nat),oa b f i j=true->
  (∀o,b[i]?=some o->∀e∈o.after,Region.binds .any e=true->a.getD e.on false=true)->a.getD j false=true
 |0,i,j,h,_=>by simp[oa] at h
 | f+1,i,j,h,p=>by
  simp only[oa] at h;split at h
  ·rename_i o q
   obtain⟨e,r,k⟩:=Array.any_eq_true'.1 h;simp only[aS,Bool.or_eq_true,cY,aH] at k;have l:=p o q e r k.1;rcases k.2 with g|⟨_,g⟩
   ·rw[<-g];exact l
   ·exact xS m f e.on j g (λn c t d s=>m e.on n t c l d s)
  ·cases h
theorem tt {N:Nat} {a:Array Oper}:∀{c:List IOpG} {b:List Oper},iG P fi N a c b=true->c.length=b.length/\∀(i:Nat) (o:Oper),b[i]?=some o->∃x,c[i]?=some x/\lI P fi N a x o=true
 |[],[],_=>NX
 |[],_::_,h=>by simp[iG] at h
 |_::_,[],h=>by simp[iG] at h
 |x::c,o::b,h=>by
  simp only[iG,aS] at h;obtain⟨g,f⟩:=tt h.2;refine⟨by simp[g],λi e d=>?_⟩;cases i with
  |zero=>simp at d;subst d;exact⟨x,rfl,h.1⟩
  |succ i=>obtain⟨y,k,j⟩:=f i e (by simpa using d);exact⟨y,by simpa using k,j⟩
theorem FL {b:Array Oper} {a:Array Bool} {i:Nat} (k:a.size=b.size) (l:i<b.size) (h:a.getD i true=false) :
  ∃c f,rest b a=c++i::f/\rest b (a.setIfInBounds i true)=c++f/\∀j∈c,j<i/\a.getD j true=false:=by
 refine⟨(List.range i).filter λj=> !a.getD j true,(List.range' (i+1) (b.size-i-1)).filter λj=> !a.getD j true,?_,?_,λj d=>?_⟩
 ·have e:List.range b.size=List.range i++i::List.range' (i+1) (b.size-i-1):=by
   rw[List.range_eq_range',List.range_eq_range',<-List.range'_succ,show b.size-i-1+1=b.size-i by omega];have:=List.range'_append_1 (s:=0) (m:=i) (n:=b.size-i);simp only[cV] at this;rw[this];congr 1;omega
  rw[rest,e,List.filter_append,List.filter_cons,h];rfl
 ·have e:List.range b.size=List.range i++i::List.range' (i+1) (b.size-i-1):=by
   rw[List.range_eq_range',List.range_eq_range',<-List.range'_succ,show b.size-i-1+1=b.size-i by omega];have:=List.range'_append_1 (s:=0) (m:=i) (n:=b.size-i);simp only[cV] at this;rw[this];congr 1;omega
  have g:(a.setIfInBounds i true).getD i true=true:=by simp[k,l]
  rw[rest,e,List.filter_append,List.filter_cons,g];simp only[Bool.not_true,bR,if_false]
  congr 1
  ·refine List.filter_congr λj d=>?_
   have:i≠j:=by simp at d;omega
   rw[getD_set_ne true this]
  ·refine List.filter_congr λj d=>?_
   have:i≠j:=by simp[List.mem_range'] at d;omega
   rw[getD_set_ne true this]
 ·simp only[List.mem_filter,List.mem_range,Bool.not_eq_true'] at d
  exact d
theorem FM {r:Option Nat} {n:Nat} (aA:ii P fi cf) (ax:mC P fi cf) {N:Nat} {c:Array Oper} {O:List IOpG} {Q:Exit->Act->World->Prop} (hm:iG P fi N c O c.toList=true) (hd:tq c O=true) :
  ∀(f:Nat) (b:Array Bool) (s s1:St) (a:Act) (M:Mem) (w:World),b.size=c.size->xR c b->(rest c b).length<=f->Inv fi M w s a->N<=a.tmps.size->
  dt cf ((rest c b).map (nth O)) s=some s1->(∀L M' w',Inv fi M' w' s1 L->Kp M w M' w'->L.tmps.size=a.tmps.size->Q .normal L w')->wpAnyIn (FR r) n P .any c Q f b a w:=by
 have E:∀(b:Array Bool),b.size=c.size->Region.ready .any c b=[]->rest c b=[]:=by
  intro b C hr;have aD:∀n i,i<n->i<c.size->b.getD i true=true:=by
   intro n
   induction n with
   |zero=>intro i h;omega
   | succ n T=>
    intro i _ m;cases U:b.getD i true with
    |true=>rfl
    | false=>
     have:i∈Region.ready .any c b:=by rw[mem_ready];refine⟨U,c[i],Array.getElem?_eq_getElem m,λe u v=>?_⟩;have A:=bV.1 hd i (by simp[m]);rw[aS,Array.getElem?_eq_getElem m] at A;have z:=Array.all_eq_true_iff_forall_mem.1 A.1 e u;rw[v] at z;simp at z;have y:=T e.on NW NW;have h4:e.on<b.size:=NW;simpa [h4] using y
     rw[hr] at this;cases this
  rw[rest,List.filter_eq_nil_iff];intro i m;simp at m;simp only[aD (i+1) i NW m,Bool.not_true,bR,not_false_eq_true]
 obtain⟨aE,H⟩:=tt hm;intro f
 induction f with
 | zero=>
  intro b s s1 a M w C t hf R hN d hn;have hr:rest c b=[]:=List.length_eq_zero_iff.1 NW;rw[hr] at d;simp[dt] at d;subst d;refine⟨?_,hn a M w R (Kp.refl M w) rfl⟩;rw[List.eq_nil_iff_forall_not_mem];intro i m;rw[mem_ready] at m;obtain⟨A,o,z,_⟩:=m;have y:i∈rest c b:=by rw[rest,List.mem_filter];exact⟨by simp[(Array.getElem?_eq_some_iff.1 z).1],by rw[A];rfl⟩
  rw[hr] at y;cases y
 | succ f T=>
  intro b s s1 a M w C t hf R hN d hn;refine⟨λhr=>?_,λi m=>?_⟩
  ·rw[E b C hr] at d
   simp[dt] at d;subst d;exact hn a M w R (Kp.refl M w) rfl
  ·rw [mem_ready] at m
   obtain⟨U,o,D,q⟩:=m;have F:i<c.size:=(Array.getElem?_eq_some_iff.1 D).1;obtain⟨aG,aF,e1,e2,e3⟩:=FL C F U;obtain⟨x,hx,ao⟩:=H i o (by simpa using D);have an:nth O i=x:=by simp[nth,hx]
   rw[e1,bI,bS,an] at d;obtain⟨u1,u2,A,z,y⟩:=xQ d (λp hp=>by
    obtain⟨j,hj,rfl⟩:=List.mem_map.1 hp;obtain⟨j1,S⟩:=e3 j hj;have I:=bV.1 hd i (by simp[F]);rw[aS] at I;have g:=bV.1 I.2 j (by simp[j1]);rw[Bool.or_eq_true] at g;rcases g with g|g
    ·have:=xS t _ i j g (λo' l e u v=>by rw[D] at l;cases l;exact q e u v)
     have av:j<b.size:=NW;simp[av] at this S;rw[this] at S;cases S
    ·split at g
     ·rename_i p' x' al B
      rw[hx] at B;cases B;simpa [nth,al] using g
     ·cases g)
   unfold wpOpIn;rw[D]
   have:=xt (r:=r) (n:=n) (Q:=Q) (next:=wpAnyIn (FR r) n P .any c Q f (b.setIfInBounds i true)) aA ax R ao hN A (λL M' w' aC hk X=>
    T (b.setIfInBounds i true) u1 u2 L M' w' (by simp[C]) (λk o' e l hl u v=>by
     by_cases G:i=k
     ·subst G
      rw[D] at l;cases l;exact getD_set_true (q e u v)
     ·rw[getD_set_ne false G] at hl
      exact getD_set_true (t k o' e l hl u v)) (by rw[e2];rw[e1] at hf;simp at hf ⊢;omega) aC NW (by rw[e2,bI];exact z)
     (λa2 M2 w2 aB ap ad=>hn a2 M2 w2 (aB.eqv y.symm) (hk.trans ap) (ad.trans X)))
   simp only;split
   ·rename_i hw;rw[if_pos hw] at this;exact this
   ·rename_i hw;rw[if_neg hw] at this;exact⟨λ_ _=>trivial,this⟩
theorem FN (a:List IOpG):(List.range a.length).map (nth a)=a:=by
 apply List.ext_getElem?;intro j;by_cases b:j<a.length
 ·simp[nth,b]
 ·simp[b]
theorem FO {r:Option Nat} {n:Nat} (z:P.follows .mixedOrders=true) (k:ii P fi cf) (g:mC P fi cf) {N q:Nat} {b:Array Oper} {f:List IOpG} {Q:Exit->Act->World->Prop} (m:iG P fi N b f b.toList=true) (y:tq b f=true) (B:Inv fi M w s a) (A:N<=a.tmps.size)
  (h:dt cf f s=some s') (hn:∀d M' w',Inv fi M' w' s' d->Kp M w M' w'->d.tmps.size=a.tmps.size->Q .normal d w'):(Code.region q b true).wpIn (FR r) n P Q a w:=by
 have c:f.length=b.size:=by rw[(tt m).1];simp
 obtain⟨l,v⟩:=B.drew;refine wpIn_region_any z (FM k g m y b.size _ s s' a M w.drew NX ?_ ?_ l A ?_ (λd M' w' E D C=>hn d M' w' E (v.trans D) C))
 ·intro i o e t u
  have x:=(Array.getElem?_eq_some_iff.1 t).1;simp[x] at u
 ·exact cA (List.length_filter_le _ _) NX
 ·have hr:rest b (Array.replicate b.size false)=List.range b.size:=by
   rw[rest,List.filter_eq_self];intro j p;simp at p;simp[p]
  rw[hr,<-c,FN];exact h
end
end
section
open Go.RowKit
section
variable {fi:FI} {M M':Mem} {w w':World} {P:Program} {s s':St} {a:Act} {cf:CallF}
def xT:IExit->Exit
 | .normal=> .normal
 | .exit i=> .exit i
 | .ret=> .ret
def CPost (d:FI) (M:Mem) (w:World) (n:Nat) (e:IExit) (c:St):Exit->Act->World->Prop:=
 λf b w'=>f=xT e/\∃M',Inv d M' w' c b/\Kp M w M' w'/\b.tmps.size=n
end
end
section
open Go.RowKit
section
variable {fi:FI} {M M':Mem} {w w':World} {P:Program} {s s' s1 s2 t1 t2:St} {a:Act} {cf:CallF} {pg:Prg}
def eh (P:Program) (e:FI) (N:Nat):ICode->Code->Bool
 | .post g _ _,c=>eh P e N g c
 | .lift g _ _,c=>eh P e N g c
 | .cut g,c=>eh P e N g c
 | .bad,_=>true
 | .skip,.skip=>true
 | .region h d,.region _ f k=>d==k&&iG P e N f h f.toList&&(!d||tq f h)
 | .seq a b,.seq x y=>eh P e N a x&&eh P e N b y
 | .cond x a b,.cond o c d=>mX e x o&&eh P e N a c&&eh P e N b d
 | .block i a,.block j c=>i==j&&eh P e N a c
 | .loop a,.loop c=>eh P e N a c
 | .exit i,.exit j=>i==j
 | .ret,.ret=>true
 |_,_=>false
def ik:ICode->Bool
 | .post a _ _| .lift a _ _| .cut a| .block _ a| .loop a=>ik a
 | .seq a b| .cond _ a b=>ik a&&ik b
 |_=>true
theorem qM {c:Nat} {e:Oo}:∀{d:Oq} {t:Nat} {v:PV},get (keep c d e) t=some v->get e t=some v/\bj c v=true
 |[],t,v,h=>by simp[keep,get] at h
 | k::d,t,v,h=>by
  simp only[keep] at h;cases b:get e k with
  |none=>rw[b] at h;exact qM h
  | some u=>
   rw[b] at h;simp only at h;split at h
   ·rename_i f
    simp only[get] at h;split at h
    ·rename_i a;subst a;cases h;exact⟨b,f⟩
    ·exact qM h
   ·exact qM h
theorem Inv.keep (r:Inv fi M w s a) (ks:Oq) (B:Nat) :
  Inv fi {M with lb:=M.lb.take B } w ⟨Lw.keep B ks s.env,s.lh.take B,s.gh⟩ a/\Kp M w {M with lb:=M.lb.take B } w:=by
 have C:Ext M w {M with lb:=M.lb.take B } w:=⟨λ_ _ h=>h,λ_ _ h=>h,λ_ _ _=>rfl,λ_ _=>⟨cU _,λ_=>rfl⟩⟩
 have q:∀b,b∈M.lb.take B->b∈M.lb:=λb h=>cO h
 have ow:∀{l:Loc} {z:Nat} {U:Ok} {v:Value},OwnRep fi M w l z U v->OwnRep fi {M with lb:=M.lb.take B } w l z U v:=by
  intro l z U v h;obtain⟨n,f⟩:=h;refine⟨n.mono C,?_⟩;rcases f with f|⟨b,o,c,cs,e,Q,ho,hh,hs,hk,I,H⟩
  ·exact .inl f
  ·exact .inr ⟨b,o,c,cs,e,Q,ho,hh,hs,hk,λh=>I (q b h),H⟩
 have X:∀{l:Loc} {p:PV} {v:Value},RepC fi M w l p v->RepC fi {M with lb:=M.lb.take B } w l p v:=by
  intro l p v h;unfold RepC at *;split at h
  ·exact ow h
  ·exact h.mono C
 have rb:∀{mk:Nat->Loc} {d:Nat} {cs:Ok},RepBox fi M w mk d cs->RepBox fi {M with lb:=M.lb.take B } w mk d cs:=by intro mk d cs h;obtain⟨n,f,E,g,P,T,D,S,R⟩:=h;exact⟨n,f,E,g,P,T,D,S,λi c u G F=>X (R i c u G F)⟩
 refine⟨⟨λt v Q=>?_,r.defers,by simp[r.lbl],r.gbl,?_,λi cs d n f=>?_,λi o d n f=>?_,r.gl,r.immlt,r.ownlt,r.gblt⟩,
  ⟨rfl,rfl,rfl,cU _,C,λ_ _ _ _ _=>rfl,λk h=> .inl (q k h),λ_ h=> .inl h,λ_ _ h=>h,λ_ _ h=> .inl h,.same rfl⟩⟩
 ·obtain⟨n,f⟩:=qM Q
  obtain⟨E,g⟩:=r.env t v n;refine⟨E,?_⟩;unfold RepAt at *;split at g
  ·exact ow g
  ·obtain⟨h0,b,T,c,Q,G,ho,hh,hk,I,H⟩:=g
   exact⟨h0,b,T,c,Q,G,ho,hh,hk,λh=>I (q b h),H⟩
  ·obtain⟨P,N,L,e3⟩:=g
   exact⟨P,N,L,λi c u G F=>X (e3 i c u G F)⟩
  ·obtain⟨P,N,L,e3⟩:=g
   exact⟨P,N,L,λi c u G F=>X (e3 i c u G F)⟩
  ·unfold RepE at *
   split at g
   ·obtain⟨d,N,L⟩:=g
    simp only[bj,aH] at f;exact⟨d,by simp only[cK,f,if_true];exact N,L⟩
   ·obtain⟨d,A,c,N,L⟩:=g
    simp only[bj,aH] at f;exact⟨d,A,c,by simp only[cK,f,if_true];exact N,L⟩
   ·exact g.mono C
 ·have:=r.nodup
  rw[cR] at this ⊢;exact⟨this.1.sublist (List.take_sublist _ _),this.2.1,λx C y hy=>this.2.2 x (q x C) y hy⟩
 ·simp only[cK] at n f
  split at n
  ·rename_i ad
   rw[if_pos ad] at f;exact rb (r.lh i cs d n f)
  ·cases n
 ·have:=r.gh i o d n f
  cases o with
  |cells cs=>exact rb this
  |map es=>
   obtain⟨n,f,l,O,E,g,D⟩:=this;exact⟨n,f,l,O,E,g,λi e m he hm=>⟨(D i e m he hm).1.mono C,(D i e m he hm).2.1.mono C,(D i e m he hm).2.2⟩⟩
  | stk ao U=>
   obtain⟨n,f,E,g,D,cs,T,S,R,h8,h9⟩:=this;exact⟨n,f,E,g,D,cs,T,S,R,h8,λj x hj=>by obtain⟨u,F,hr⟩:=h9 j x hj;exact⟨u,F,hr.mono C⟩⟩
  |bld t=>
   obtain⟨n,f,E,T,hT,g⟩:=this;refine⟨n,f,E,T,hT,?_⟩;rcases g with g|⟨c,an,al,D,S,R,h8⟩
   ·exact .inl g
   ·exact .inr ⟨c,an,al,D,S,λh=>R (cO h),h8⟩
def jd (b n:Nat):Loc->Loc
 | .lh a i=>if a=b then .gh n i else .lh a i
 |l=>l
theorem Inv.lift (f:Inv fi M w s a) {ks:Oq} {n:Nat} (h:jD ks n s=some s'):∃M',Inv fi M' w s' a/\Kp M w M' w:=by
 unfold jD at h;split at h
 ·rename_i b hb
  split at h
  ·rename_i cs al
   split at h
   ·rename_i ap
    cases h;obtain⟨Q,L,F,O⟩:=f.env n _ hb;obtain⟨q1,q2,q3,q4,vs,T,q5,q6,q7⟩:=f.lh b cs L al F;obtain⟨m,I⟩:=f.keep ks b;have B:=f.nodup;rw[cR] at B;have ao:L∉M.gb:=λX=>B.2.2 L (aL F) L X rfl
    have an:L∉M.lb.take b:=λR=>by
     obtain⟨i,z⟩:=List.mem_iff_getElem?.1 R;rw[cK] at z;split at z
     ·rename_i av
      have:=lG B.1 z F;omega
     ·cases z
    let A:Mem:={M with lb:=M.lb.take b }
    let M':Mem:={A.rel (jd b s.gh.length) with gb:=M.gb++[L] }
    have D:Ext (A.rel (jd b s.gh.length)) w M' w:=⟨λi k h=>by
      show (M.gb++[L])[i]?=some k
      have r:M.gb[i]?=some k:=h;rw[aI (aD.1 r).1];exact r,λ_ _ h=>h,λ_ _ _=>rfl,λ_ _=>⟨cU _,λ_=>rfl⟩⟩
    have g:Good (A.rel (jd b s.gh.length)) w M' w (λ_=>False) (λ_=>False):=
     ⟨D,cU _,λ_ _ h=>h,λx l' r _=>⟨r,rfl,λ_ h=>h,id,λX U=>by
      rcases cE.1 (show x∈M.gb++[L] from U) with d|d
      ·exact X d
      ·simp at d
       subst d;have:(M.own x).map (jd b s.gh.length)=some l':=r;rw[q3] at this;cases this⟩,λx _ _ h=>⟨rfl,λ_ h=>h,h⟩,λ_ _=>rfl⟩
    have ad:∀i j,jd b s.gh.length (Loc.gh i j)=Loc.gh i j:=λ_ _=>rfl
    refine⟨M',⟨λt v E=>?_,f.defers,m.lbl,by simp[M',f.gbl],?_,λi C y q d=>?_,λi o y q d=>?_,f.gl,f.immlt,λx l' r=>?_,λx r=>?_⟩,
     ⟨rfl,rfl,rfl,cU _,(I.ext.trans (Ext.rel A w _)).trans D,λ_ _ _ _ _=>rfl,λk h=> .inl (cO h),λk h=>?_,λk _ h=>by simp[M',A,Mem.rel,h],λ_ _ h=> .inl h,.same rfl⟩⟩
    ·rw[dl] at E
     split at E
     ·rename_i P
      subst P;cases E;refine⟨Q,?_⟩;rw[O];refine (RepP.ptr _ _ _ ?_).repE.repAt
      show (M.gb++[L])[s.gh.length]?=some L
      rw[aN (by rw[f.gbl];exact cU _),f.gbl];simp
     ·obtain⟨e1,e2⟩:=m.env t v E
      exact⟨e1,(e2.rel (jd b s.gh.length) (mk':=Loc.env t) (λi=>rfl)).good g NX⟩
    ·show (M.lb.take b++(M.gb++[L])).Nodup
     rw[<-aT];refine lF m.nodup (λR=>?_);rcases cE.1 R with d|d
     ·exact an d
     ·exact ao d
    ·have z:i<b:=by
      have:=(aD.1 q).1;simp only[cP] at this;omega
     exact ((m.lh i C y q d).rel (jd b s.gh.length) (λj=>by simp only[jd];rw[if_neg NW])).good g NX NX
    ·have p:(M.gb++[L])[i]?=some y:=d
     by_cases z:i<s.gh.length
     ·rw[aI z] at q
      rw[aI (by rw[f.gbl];exact z)] at p;exact ((m.gh i o y q p).rel (jd b s.gh.length) (ad i)).good g NX NX
     ·have S:=(aD.1 q).1
      simp at S;obtain rfl:i=s.gh.length:=NW;simp at q;subst q;rw[aN (by rw[f.gbl];exact cU _),f.gbl] at p;simp at p;subst p;refine⟨q1,q2,by simp[M',A,Mem.rel,q3],q4,vs,T,q5,q6,λN c u hc hu=>?_⟩;have G:=q7 N c u hc hu;have h4:RepC fi A w (Loc.lh b N) c u:=by
       unfold RepC at G ⊢;split at G
       ·obtain⟨r1,H⟩:=G
        refine⟨r1.mono I.ext,?_⟩;rcases H with H|⟨x,o',c',C,e',z1,z2,z3,z4,z5,z6,z7⟩
        ·exact .inl H
        ·exact .inr ⟨x,o',c',C,e',z1,z2,z3,z4,z5,λh=>z6 (cO h),z7⟩
       ·exact G.mono I.ext
      exact (h4.rel (jd b s.gh.length) (l':=Loc.gh s.gh.length N) (by simp[jd])).good g NX
    ·simp only[M',A,Mem.rel,aE] at r
     obtain⟨l0,q,_⟩:=r;exact f.ownlt x l0 q
    ·rcases cE.1 (show x∈M.gb++[L] from r) with d|d
     ·exact f.gblt x d
     ·simp at d;subst d;exact q1
    ·rcases cE.1 (show k∈M.gb++[L] from h) with d|d
     ·exact .inl d
     ·simp at d;subst d;exact .inr (.inr (.inr (aL F)))
   ·cases h
  ·cases h
 ·cases h
def mL (P:Program) (d:FI) (pg:Prg) (n:Nat):Prop:=
 ∀(r:Option Nat) (f N:Nat) (b:ICode) (c:Code) (s:St) (e:IExit) (s':St) (a:Act) (M:Mem) (w:World),(r=none\/ik b=true)->eh P d N b c=true->bf pg n b s=some (e,s')->Inv d M w s a->N<=a.tmps.size->
  c.wpIn (FR r) f P (CPost d M w a.tmps.size e s') a w
theorem xU {T:Nat->Prop} (h:∃m,T m):∃m,T m/\∀k,T k->m<=k:=by
 obtain⟨m,f⟩:=h
 induction m using Nat.strongRecOn with
 | _ m d=>
  by_cases c:∃k,k<m/\T k
  ·obtain⟨k,b,e⟩:=c
   exact d k b e
  ·refine⟨m,f,λk b=>?_⟩
   by_cases a:k<m
   ·exact absurd ⟨k,a,b⟩ c
   ·omega
theorem CPost.mono {n:Nat} {e:IExit} {c:Exit} {d:Act} {b:World} {f:Mem} {w1:World} (g:Kp M w f w1) (h:CPost fi f w1 n e s' c d b):CPost fi M w n e s' c d b:=by obtain⟨l,M',k,j,i⟩:=h;exact⟨l,M',k,g.trans j,i⟩
theorem xV (hP:P.follows .mixedOrders=true) {n:Nat} (G:mL P fi pg n) (ad:ii P fi (du (bf pg n) pg)) (X:mC P fi (du (bf pg n) pg)):mL P fi pg (n+1):=by
 intro r F N H
 induction H with
 |bad=>
  intro c s e s' a M w g b h f l;simp[bf] at h
 |cut H U=>
  intro c s e s' a M w g b h f l;exact G r F N H c s e s' a M w (by simpa [ik] using g) b h f l
 | lift H ks t U=>
  intro c s e s' a M w g b h f l;simp only[eh] at b;rw[bf] at h;cases ha:bf pg n H s with
  |none=>simp[ha] at h
  | some x=>
   obtain⟨C,s1⟩:=x;rw[ha] at h;have hw:=G r F N H c s C s1 a M w (by simpa [ik] using g) b ha f l;refine wpIn_mono hw ?_;rintro ex E w' ⟨B,M',A,z,q⟩;cases C with
   |normal=>
    simp only[aE,bZ] at h;obtain⟨s2,al,rfl,rfl⟩:=h;obtain⟨M2,k1,k2⟩:=A.lift al;exact⟨B,M2,k1,z.trans k2,q⟩
   |exit i=>
    simp only[bW,bZ] at h;obtain⟨rfl,rfl⟩:=h;exact⟨B,M',A,z,q⟩
   |ret=>
    simp only[bW,bZ] at h;obtain⟨rfl,rfl⟩:=h;exact⟨B,M',A,z,q⟩
 | post H ks nl U=>
  intro c s e s' a M w g b h f l;simp only[eh] at b;rw[bf] at h;cases ha:bf pg n H s with
  |none=>simp[ha] at h
  | some x=>
   obtain⟨C,s1⟩:=x;rw[ha] at h;have hw:=G r F N H c s C s1 a M w (by simpa [ik] using g) b ha f l;refine wpIn_mono hw ?_;rintro ex E w' ⟨B,M',A,z,q⟩;cases C with
   |normal=>
    simp only[bW,bZ] at h;obtain⟨rfl,rfl⟩:=h;obtain⟨k1,k2⟩:=A.keep ks nl;exact⟨B,_,k1,z.trans k2,q⟩
   |exit i=>
    simp only[bW,bZ] at h;obtain⟨rfl,rfl⟩:=h;exact⟨B,M',A,z,q⟩
   |ret=>
    simp only[bW,bZ] at h;obtain⟨rfl,rfl⟩:=h;exact⟨B,M',A,z,q⟩
 |skip=>
  intro c s e s' a M w g b h f l;cases c<;>simp[eh] at b;simp[bf] at h;obtain⟨rfl,rfl⟩:=h;exact wpIn_skip ⟨rfl,M,f,Kp.refl M w,rfl⟩
 |ret=>
  intro c s e s' a M w g b h f l;cases c<;>simp[eh] at b;simp[bf] at h;obtain⟨rfl,rfl⟩:=h;exact wpIn_ret ⟨rfl,M,f,Kp.refl M w,rfl⟩
 |exit i=>
  intro c s e s' a M w g b h f l;cases c<;>simp[eh] at b;subst b;simp[bf] at h;obtain⟨rfl,rfl⟩:=h;exact wpIn_exit ⟨rfl,M,f,Kp.refl M w,rfl⟩
 |region is d=>
  intro c s e s' a M w g b h f l;cases c<;>simp[eh] at b;rename_i id ap d';obtain⟨⟨rfl,I⟩,hd⟩:=b;simp only[bf,aE,bZ] at h;obtain⟨s1,B,rfl,rfl⟩:=h;cases d with
  |false=>exact wpIn_region_list (xu ad X I f l B (λE M' w' S hk hs=>⟨rfl,M',S,hk,hs⟩))
  |true=>exact FO hP ad X I (by simpa using hd) f l B (λE M' w' S hk hs=>⟨rfl,M',S,hk,hs⟩)
 | seq x y _ _=>
  intro c s e s' a M w g b h f l;cases c<;>simp[eh] at b;rename_i c d;rw[bf] at h;refine wpIn_seq ?_;cases ha:bf pg n x s with
  |none=>simp[ha] at h
  | some r=>
   obtain⟨C,s1⟩:=r;rw[ha] at h;refine wpIn_mono (G r F N x c s C s1 a M w (g.imp id λh=>by simp[ik] at h;exact h.1) b.1 ha f l) ?_;rintro ex E w' ⟨B,M',A,z,q⟩;subst B;cases C with
   |normal=>
    simp only at h;exact wpIn_mono (G r F N y d s1 e s' E M' w' (g.imp id λh=>by simp[ik] at h;exact h.2) b.2 h A NW) (λex a2 w2 g=>by rw[q] at g;exact g.mono z)
   |exit i=>
    simp only[bW,bZ] at h;obtain⟨rfl,rfl⟩:=h;exact⟨rfl,M',A,z,q⟩
   |ret=>
    simp only[bW,bZ] at h;obtain⟨rfl,rfl⟩:=h;exact⟨rfl,M',A,z,q⟩
 | cond x u v _ _=>
  intro c s e s' a M w g b h f l;cases c<;>simp[eh] at b;rename_i o c d;rw[bf] at h;split at h
  ·rename_i hx
   exact wpIn_cond_true (bt f b.1.1 hx).bool (G r F N u c s e s' a M w (g.imp id λh=>by simp[ik] at h;exact h.1) b.1.2 h f l)
  ·rename_i hx
   exact wpIn_cond_false (bt f b.1.1 hx).bool (G r F N v d s e s' a M w (g.imp id λh=>by simp[ik] at h;exact h.2) b.2 h f l)
  ·cases h
 | block i x _=>
  intro c s e s' a M w g b h f l;cases c<;>simp[eh] at b;rename_i j c;obtain⟨rfl,b⟩:=b;rw[bf] at h;refine wpIn_block ?_;cases ha:bf pg n x s with
  |none=>simp[ha] at h
  | some r=>
   obtain⟨C,s1⟩:=r;rw[ha] at h;refine wpIn_mono (G r F N x c s C s1 a M w (by simpa [ik] using g) b ha f l) ?_;rintro ex E w' ⟨B,M',A,z,q⟩;subst B;cases C with
   |normal=>
    simp only[bW,bZ] at h;obtain⟨rfl,rfl⟩:=h;exact⟨rfl,M',A,z,q⟩
   | exit k=>
    simp only at h;simp only[xT,Exit.inBlock];split at h
    ·rename_i O
     simp only[bW,bZ] at h;obtain⟨rfl,rfl⟩:=h;rw[if_pos O];exact⟨rfl,M',A,z,q⟩
    ·rename_i O
     simp only[bW,bZ] at h;obtain⟨rfl,rfl⟩:=h;rw[if_neg O];exact⟨rfl,M',A,z,q⟩
   |ret=>
    simp only[bW,bZ] at h;obtain⟨rfl,rfl⟩:=h;exact⟨rfl,M',A,z,q⟩
 | loop x _=>
  intro c s e s' a M w g b h f l;cases c<;>simp[eh] at b;rename_i c
  let T:Act->World->Nat->Prop:=λD w1 m=>m<=n+1/\∃s1 M1,Inv fi M1 w1 s1 D/\bf pg m (.loop x) s1=some (e,s')/\Kp M w M1 w1/\D.tmps.size=a.tmps.size
  refine wpIn_loop (λD w1=>∃m,T D w1 m) (λD w1=>Classical.epsilon λm=>T D w1 m/\∀k,T D w1 k->m<=k) ⟨n+1,cU _,s,M,f,h,Kp.refl M w,rfl⟩ ?_;intro D w1 hT;obtain⟨⟨an,s1,M1,ao,hr,Q,L⟩,_⟩:=Classical.epsilon_spec (p:=λm=>T D w1 m/\∀k,T D w1 k->m<=k) (xU hT);generalize (Classical.epsilon λm=>T D w1 m/\∀k,T D w1 k->m<=k)=m at an hr ⊢;cases m with
  |zero=>simp[bf] at hr
  | succ m=>
   rw[bf] at hr;cases ha:bf pg m x s1 with
   |none=>simp[ha] at hr
   | some r=>
    obtain⟨C,s2⟩:=r;rw[ha] at hr;refine wpIn_mono (G r F N x c s1 C s2 D M1 w1 (by simpa [ik] using g) b (fH pg NW ha) ao NW) ?_;rintro ex E w' ⟨B,M',A,z,q⟩;subst B;cases C with
    |normal=>
     simp only at hr;have R:T E w' m:=⟨NW,s2,M',A,hr,Q.trans z,q.trans L⟩
     refine⟨⟨m,R⟩,?_⟩;have:=(Classical.epsilon_spec (p:=λm=>T E w' m/\∀k,T E w' k->m<=k) (xU ⟨m,R⟩)).2 m R;exact Nat.lt_succ_of_le this
    |exit i=>
     simp only[bW,bZ] at hr;obtain⟨rfl,rfl⟩:=hr;exact⟨rfl,M',A,Q.trans z,q.trans L⟩
    |ret=>
     simp only[bW,bZ] at hr;obtain⟨rfl,rfl⟩:=hr;exact⟨rfl,M',A,Q.trans z,q.trans L⟩
end
end
section
open Go.RowKit
mutual
def PV.bnd (n:Nat):PV->Bool
 | .agg cs=>gO n cs
 | .tup cs=>gO n cs
 | .sl _ _ xs=>gO n xs
 | .ep e _=>e.bnd n
 | .fn _ cs=>gO n cs
 | .bfn _ cs=>gO n cs
 | .sub b _ _ _=>decide (b<n)
 | .bs true b _ _ _=>decide (b<n)
 | .stk b _ _=>decide (b<n)
 | .pstk b _ _=>decide (b<n)
 | .ptr true b _=>decide (b<n)
 | .mp b=>decide (b<n)
 |_=>true
def gO (n:Nat):Ok->Bool
 |[]=>true
 |c::l=>c.bnd n&&gO n l
end
section
variable {fi:FI} {M M':Mem} {w w':World} {P:Program} {s s':St} {a:Act} {cf:CallF} {pg:Prg}
theorem kb {n:Nat} {l:Ok} (h:gO n l=true) {i:Nat} {c:PV} (a:l[i]?=some c):c.bnd n=true:=by
 induction l generalizing i with
 |nil=>simp at a
 |cons x l b=>
  simp only[gO,aS] at h;cases i with
  |zero=>simp at a;exact a▸h.1
  |succ i=>exact b h.2 (by simpa using a)
theorem lM {n:Nat} {l:Ok} (h:∀(i:Nat) (c:PV),l[i]?=some c->c.bnd n=true):gO n l=true:=by
 induction l with
 |nil=>rfl
 |cons x l a=>
  simp only[gO,aS];exact⟨h 0 x rfl,a λi c b=>h (i+1) c (by simpa using b)⟩
theorem xW {n:Nat} {e:PV} (h:e.bnd n=true) {j:Nat} {p:PV} (a:e.cells[j]?=some p):p.bnd n=true:=by
 cases e with
 |agg cs=>exact kb (l:=cs) (by simpa [PV.bnd] using h) a
 |_=>
  simp only[PV.cells] at a;cases j with
  |zero=>simp at a;exact a▸h
  |succ j=>simp at a
theorem xX {n:Nat} {e:PV} (h:∀(j:Nat) (p:PV),e.cells[j]?=some p->p.bnd n=true):e.bnd n=true:=by
 cases e with
 |agg cs=>simp only[PV.bnd];exact lM h
 |_=>exact h 0 _ rfl
theorem RepP.bnd {p:PV} {v:Value} (h:RepP fi M w p v):p.bnd M.gb.length=true:=by
 induction h with
 |agg cs s m _ d=>
  simp only[PV.bnd];exact lM λi c a=>d i c _ a (aA (by rw[m];exact (aD.1 a).1))
 |tup cs s m _ d=>
  simp only[PV.bnd];exact lM λi c a=>d i c _ a (aA (by rw[m];exact (aD.1 a).1))
 |sl z G A c b o x r a H t B _ d=>
  simp only[PV.bnd];exact lM λi e D=>xX λj p y=>d i e j p D y
 |bs b l n z A c k g r a=>simpa [PV.bnd] using (aD.1 g).1
 |ptr b l k g=>simpa [PV.bnd] using (aD.1 g).1
 |ep e l b o x t B _ d=>simp only[PV.bnd];exact xX d
 |mp b k g=>simpa [PV.bnd] using (aD.1 g).1
 |stk b q n k c g u r a=>simpa [PV.bnd] using g
 |pstk b q i k g u r=>simpa [PV.bnd] using g
 |sub b q l n k c A g u r a E=>simpa [PV.bnd] using g
 |bfn f F cs s C m t _ d=>
  simp only[PV.bnd];exact lM λi c a=>d i c _ a (aA (by rw[m];exact (aD.1 a).1))
 |fn f F cs s C m t _ d=>
  simp only[PV.bnd];exact lM λi c a=>d i c _ a (aA (by rw[m];exact (aD.1 a).1))
 |_=>rfl
def Mem.cut (M:Mem) (n:Nat):Mem:={M with gb:=M.gb.take n }
theorem RepP.cut {n:Nat} {p:PV} {v:Value} (h:RepP fi M w p v) (l:p.bnd n=true):RepP fi (M.cut n) w p v:=by
 have tk:∀{b a:Nat},M.gb[b]?=some a->b<n->(M.cut n).gb[b]?=some a:=λh u=>by simp only[Mem.cut,cK,u,if_true];exact h
 induction h with
 |und=>exact .und
 |int k n=>exact .int k n
 |bool b=>exact .bool b
 |str s=>exact .str s
 |agg cs y C _ m=>exact .agg cs y C λi c v d B=>m i c v d B (kb (by simpa [PV.bnd] using l) d)
 |tup cs y C _ m=>exact .tup cs y C λi c v d B=>m i c v d B (kb (by simpa [PV.bnd] using l) d)
 |sl z Q A c b o H x d R D L _ m=>
  exact .sl z Q A c b o H x d R D L λi e j p P E=>m i e j p P E (xW (kb (by simpa [PV.bnd] using l) P) E)
 |bs b g n z A c a u x d=>exact .bs b g n z A c a (tk u (by simpa [PV.bnd] using l)) x d
 |ptr b g a u=>exact .ptr b g a (tk u (by simpa [PV.bnd] using l))
 |nilp=>exact .nilp
 |ep e g b o H D L _ m=>exact .ep e g b o H D L λj p E=>m j p E (xW (by simpa [PV.bnd] using l) E)
 |mp b a u=>exact .mp b a (tk u (by simpa [PV.bnd] using l))
 |nilm=>exact .nilm
 |nilf=>exact .nilf
 |nils=>exact .nils
 |stk b r I a c u q x d=>
  have G:b<n:=by simpa [PV.bnd] using l
  exact .stk b r I a c (by simp only[Mem.cut,cP];omega) q x d
 |pstk b r i a u q x=>
  have G:b<n:=by simpa [PV.bnd] using l
  exact .pstk b r i a (by simp only[Mem.cut,cP];omega) q x
 |sub b r g I a c A u q x d O=>
  have G:b<n:=by simpa [PV.bnd] using l
  exact .sub b r g I a c A (by simp only[Mem.cut,cP];omega) q x d O
 |bfn f F cs y N C D _ m=>exact .bfn f F cs y N C D λi c v d B=>m i c v d B (kb (by simpa [PV.bnd] using l) d)
 |fn f F cs y N C D _ m=>exact .fn f F cs y N C D λi c v d B=>m i c v d B (kb (by simpa [PV.bnd] using l) d)
 |nilI=>exact .nilI
 |someI t v=>exact .someI t v
 |junk v=>exact .junk v
theorem OwnRep.cut {n:Nat} {l:Loc} {z:Nat} {a:Ok} {v:Value} (h:OwnRep fi M w l z a v) (q:gO n a=true):OwnRep fi (M.cut n) w l z a v:=by
 obtain⟨r,g⟩:=h;refine⟨r.cut (by simpa [PV.bnd] using q),?_⟩;rcases g with g|⟨b,o,c,cs,e,i,k,p,j,m,f,d⟩
 ·exact .inl g
 ·exact .inr ⟨b,o,c,cs,e,i,k,p,j,m,f,λh=>d (cO h)⟩
theorem RepC.cut {n:Nat} {l:Loc} {p:PV} {v:Value} (h:RepC fi M w l p v) (a:p.bnd n=true):RepC fi (M.cut n) w l p v:=by
 unfold RepC at *;split at h
 ·exact OwnRep.cut h (by simpa [PV.bnd] using a)
 ·exact h.cut a
theorem RepC.bnd {l:Loc} {p:PV} {v:Value} (h:RepC fi M w l p v):p.bnd M.gb.length=true:=by
 unfold RepC at h;split at h
 ·have:=h.1.bnd;simpa [PV.bnd] using this
 ·exact h.bnd
def mM (n:Nat):GObj->Bool
 | .cells cs=>gO n cs
 | .map a=>a.all λe=>e.1.bnd n&&e.2.bnd n
 | .stk _ _=>true
 | .bld _=>true
theorem RepObj.bnd {i b:Nat} {o:GObj} (h:RepObj fi M w i b o):mM M.gb.length o=true:=by
 cases o with
 |cells cs=>
  obtain⟨r,q,p,n,v,T,f,m,k⟩:=h;exact lM λi c d=>(k i c _ d (aA (by rw[m];exact (aD.1 d).1))).bnd
 |map x=>
  obtain⟨r,q,l,a,p,n,f⟩:=h;simp only[mM,bV];intro e j;obtain⟨i,g,rfl⟩:=cN.1 j;have:=f i _ _ (aA g) (aA NW);simp[this.1.bnd,this.2.1.bnd]
 |stk t u=>rfl
 |bld s=>rfl
theorem RepObj.cut {n i t:Nat} {o:GObj} (h:RepObj fi M w i t o) (A:mM n o=true):RepObj fi (M.cut n) w i t o:=by
 cases o with
 |cells cs=>
  obtain⟨g,f,d,b,H,T,a,r,q⟩:=h;exact⟨g,f,d,b,H,T,a,r,λi c u G y=>(q i c u G y).cut (kb (l:=cs) A G)⟩
 |map O=>
  obtain⟨g,f,l,k,d,b,a⟩:=h;simp only[mM,bV,aS] at A;refine⟨g,f,l,k,d,b,λi e m v z=>?_⟩;have p:=A e (aL v);exact⟨(a i e m v z).1.cut p.1,(a i e m v z).2.1.cut p.2,(a i e m v z).2.2⟩
 | stk L N=>
  obtain⟨g,f,d,b,a,cs,T,r,q,C,B⟩:=h;exact⟨g,f,d,b,a,cs,T,r,q,C,λj x F=>by obtain⟨u,y,hr⟩:=B j x F;exact⟨u,y,kP hr (a x (aL F)) _ _⟩⟩
 |bld s=>
  obtain⟨g,f,d,T,I,b⟩:=h;refine⟨g,f,d,T,I,?_⟩;rcases b with b|⟨c,E,D,a,r,q,C,B⟩
  ·exact .inl b
  ·exact .inr ⟨c,E,D,a,r,q,λh=>C (cO h),B⟩
end
mutual
theorem lN (n:Nat):(p:PV)->p.noG=true->p.bnd n=true
 | .agg cs,h=>by simp only[PV.noG] at h;simp only[PV.bnd];exact mN n cs h
 | .tup cs,h=>by simp only[PV.noG] at h;simp only[PV.bnd];exact mN n cs h
 | .sl _ _ xs,h=>by simp only[PV.noG] at h;simp only[PV.bnd];exact mN n xs h
 | .ep e _,h=>by simp only[PV.noG] at h;simp only[PV.bnd];exact lN n e h
 | .fn _ cs,h=>by simp only[PV.noG] at h;simp only[PV.bnd];exact mN n cs h
 | .bfn _ cs,h=>by simp only[PV.noG] at h;simp only[PV.bnd];exact mN n cs h
 | .sub _ _ _ _,h=>by simp[PV.noG] at h
 | .bs _ _ _ _ _,h=>by simp[PV.noG] at h
 | .stk _ _ _,h=>by simp[PV.noG] at h
 | .pstk _ _ _,h=>by simp[PV.noG] at h
 | .ptr _ _ _,h=>by simp[PV.noG] at h
 | .mp _,h=>by simp[PV.noG] at h
 | .und,_=>rfl
 | .int _ _,_=>rfl
 | .bool _,_=>rfl
 | .str _,_=>rfl
 | .nilp,_=>rfl
 | .arr _ _,_=>rfl
 | .junk,_=>rfl
 | .nilm,_=>rfl
 | .nilf,_=>rfl
 | .nils,_=>rfl
 | .nilI,_=>rfl
 | .someI,_=>rfl
theorem mN (n:Nat):(l:Ok)->dr l=true->gO n l=true
 |[],_=>rfl
 |c::l,h=>by simp only[dr,aS] at h;simp only[gO,aS];exact⟨lN n c h.1,mN n l h.2⟩
end
end
section
open Go.RowKit
variable {v:Value} {p:PV} {fn:Func} {n b k:Nat} {gh:Ol}
section
variable {fi:FI} {M M':Mem} {w w':World} {P:Program} {s s':St} {a:Act} {cf:CallF} {pg:Prg}
def od (P:Program):j0->ResultVar->Bool
 | .t n,.tmp m=>n==m
 | .cell b agg k,.cell c t=>b==c&&fW P t==some agg&&eP P t==some k
 |_,_=>false
def fE (P:Program):List j0->List ResultVar->Bool
 |[],[]=>true
 |r::l,v::m=>od P r v&&fE P l m
 |_,_=>false
def kQ (b:Array Value):ResultVar->Sem Value
 | .tmp t=>pure (b.getD t undef)
 | .cell a t=>do loadVar t (<-asAddr (b.getD a undef))
theorem FP (f:Inv fi M w s a) {r:j0} {v:ResultVar} (c:od P r v=true) (h:am s r=some p):∃u,(kQ a.tmps v).run P w= .ok u w/\RepE fi M w (degr p) u:=by
 cases r with
 |t n=>
  cases v<;>simp[od] at c;subst c;exact⟨_,rfl,(f.env _ p h).2.degr⟩
 | cell b agg k=>
  cases v<;>simp[od] at c;obtain⟨⟨rfl,ha⟩,j⟩:=c;simp only[am] at h;split at h
  ·rename_i g B d z
   simp only[aC] at h;obtain⟨cs,y,x⟩:=h;have l:RepE fi M w (.ptr g B d) (a.tmps.getD b undef):=(f.env b _ z).2;obtain⟨C,i,⟨_,_,_,A,D,T,q,m,e⟩,_⟩:=pY f l y;obtain⟨o,hr⟩:=wF x m e A;refine⟨_,?_,hr.repE⟩;simp only[kQ,i,asAddr,Sem.run_bind,Sem.run_pure,Result.andThen_ok,pX ha (λ_=>j) q o]
  ·cases h
theorem xY (l:Inv fi M w s a):∀{f:List j0} {e:List ResultVar} {d:Ok},fE P f e=true->ah s f=some d->
  ∃c:Ou,(e.mapM (kQ a.tmps)).run P w= .ok c w/\c.length=d.length/\∀(i:Nat) (p:PV) (u:Value),d[i]?=some p->c[i]?=some u->RepE fi M w (degr p) u
 |[],[],d,_,h=>by simp[ah] at h;subst h;exact⟨[],NX,rfl,NX⟩
 |[],_::_,_,b,_=>by simp[fE] at b
 |_::_,[],_,b,_=>by simp[fE] at b
 |r::f,v::e,d,b,h=>by
  simp only[fE,aS] at b;simp only[ah,aC,aE] at h;obtain⟨p,n,m,k,rfl⟩:=h;obtain⟨u,A,z⟩:=FP l b.1 n;obtain⟨c,y,t,o⟩:=xY l b.2 k;refine⟨u::c,by simp[List.mapM_cons,A,y],by simp[t],λi q x j g=>?_⟩;cases i with
  |zero=>simp at j g;subst j;subst g;exact z
  |succ i=>exact o i q x (by simpa using j) (by simpa using g)
theorem xZ {b:Ou} {a:Array Value} (h:(fn.results.toList.mapM (kQ a)).run P w= .ok b w) :
  (Go.results fn a).run P w= .ok (match b with|[u]=>u|b=> .tuple b.toArray) w:=by
 have d:(fn.results.mapM (kQ a)).run P w= .ok b.toArray w:=by rw[Array.mapM_eq_mapM_toList,map_eq_pure_bind,Sem.run_bind,h];rfl
 have e:Go.results fn a=(do let c <-fn.results.mapM (kQ a);pure (if h:c.size=1 then c[0] else .tuple c)):=by
  unfold Go.results
  congr 1
 rw[e,Sem.run_bind,d,Result.andThen_ok,Sem.run_pure]
 match b with
 |[]=>rfl
 |[u]=>rfl
 |u::v::l=>simp
def qN (n:Nat):Loc->Loc
 | .env t i=>if t=n then .res i else .env t i
 |l=>l
theorem FQ (d:Inv fi M w s a) (I:M.ds=[]) {own:Bool} {D:List j0} (j:fE P D fn.results.toList=true) {r:PV} (h:results own D s=some r) (o:af r=true) :
  ∃v k,(Go.results fn a.tmps).run P w= .ok v w/\Inv fi k w ⟨[],s.lh,s.gh⟩ ⟨#[],[]⟩/\Kp M w k w/\RepAt fi k w Loc.res r v:=by
 have y:∀f:Loc->Loc,(∀b i,f (.lh b i)= .lh b i)->(∀b i,f (.gh b i)= .gh b i)->Inv fi (M.rel f) w ⟨[],s.lh,s.gh⟩ ⟨#[],[]⟩:=λf z A=>by
  have S:Inv fi M w ⟨[],s.lh,s.gh⟩ ⟨#[],[]⟩:=⟨λt v F=>by simp[get] at F,I.symm,d.lbl,d.gbl,d.nodup,d.lh,d.gh,d.gl,d.immlt,d.ownlt,d.gblt⟩
  exact S.rel f [] (λt v F=>by simp[get] at F) z A
 have L:(ah s D).map (λB=>match B with|[v]=>degr v|B=> .tup (B.map degr))=some r->
   ∃v k,(Go.results fn a.tmps).run P w= .ok v w/\Inv fi k w ⟨[],s.lh,s.gh⟩ ⟨#[],[]⟩/\Kp M w k w/\RepAt fi k w Loc.res r v:=by
  intro h;simp only[aE] at h;obtain⟨E,H,hr⟩:=h;obtain⟨C,z,A,Q⟩:=xY (P:=P) d j H;refine⟨_,_,xZ z,y id (λ_ _=>rfl) (λ_ _=>rfl),Kp.rel M w id,?_⟩;have e:(∀v,E≠[v])->r= .tup (E.map degr)->RepAt fi (M.rel id) w Loc.res r (.tuple C.toArray):=by intro _ G;subst G;refine⟨C,rfl,by simp[A],λi c u O R=>?_⟩;simp only[aB,aE] at O;obtain⟨p,N,rfl⟩:=O;simp only[af,bV,List.mem_map] at o;exact (((Q i p u N R).rel id).repP (by simpa [az] using o (degr p) ⟨p,aL N,rfl⟩)).repC
  match E,C,A with
  |[],[],_=>exact e NX (by simpa using hr.symm)
  |[p],[u],_=>
   simp only at hr;subst hr;exact ((Q 0 p u rfl rfl).rel id).repAt
  |p::q::l,u::v::m,_=>exact e NX (by simpa using hr.symm)
 unfold results at h;split at h
 ·rename_i n
  cases g:fn.results.toList with
  |nil=>rw[g] at j;simp[fE] at j
  | cons x l=>
   rw[g] at j;cases l with
   |cons=>simp[fE] at j
   |nil=>
    cases x<;>simp[fE,od] at j;subst j;have z:(fn.results.toList.mapM (kQ a.tmps)).run P w= .ok [a.tmps.getD n undef] w:=by rw[g];simp[List.mapM_cons,kQ]
    refine⟨_,_,xZ z,y (qN n) (λ_ _=>rfl) (λ_ _=>rfl),Kp.rel M w (qN n),?_⟩;exact (d.env n r h).2.rel (qN n) (λi=>by simp[qN])
 ·exact L h
theorem Inv.toGI (a:Inv fi M w ⟨[],s.lh,s.gh⟩ ⟨#[],[]⟩):GI fi M.noLb w s.gh:=
 ⟨λt v c=>by simp[get] at c,a.defers,rfl,a.gbl,by have:=a.nodup;rw[cR] at this;simpa [Mem.noLb] using this.2.1,λi cs b h=>by simp at h,
  λi o b e d=>(a.gh i o b e d).noLb,a.gl,a.immlt,a.ownlt,a.gblt⟩
theorem Kp.noLb (M:Mem) (w:World):Kp M w M.noLb w:=
 ⟨rfl,rfl,rfl,cU _,Ext.noLb M w,λ_ _ _ _ _=>rfl,λ_ h=>by simp[Mem.noLb] at h,λ_ h=> .inl h,λ_ _ h=>h,λ_ _ h=> .inl h,.same rfl⟩
theorem GI.cut {j:Ol} (a:GI fi M w j) (n:Nat) (p:∀(i:Nat) (o:GObj),(j.take n)[i]?=some o->mM n o=true):GI fi (M.cut n) w (j.take n):=
 by
 refine⟨λt v m=>by simp[get] at m,a.defers,a.lbl,?_,?_,λi cs d h=>by simp at h,λi o d c f=>?_,a.gl,a.immlt,a.ownlt,λb h=>a.gblt b (cO h)⟩
 ·have:=a.gbl
  simp only[Mem.cut,cP];rw[this]
 ·have:=a.nodup
  rw[cR] at this ⊢;exact⟨this.1,this.2.1.sublist (List.take_sublist _ _),λx l y k=>this.2.2 x l y (cO k)⟩
 ·have g:=c
  simp only[cK] at c;simp only[Mem.cut,cK] at f;split at c
  ·rename_i e
   rw[if_pos e] at f;exact (a.gh i o d c f).cut (p i o g)
  ·cases c
theorem RepAt.cut {n:Nat} {mk:Nat->Loc} {p:PV} {v:Value} (h:RepAt fi M w mk p v) (a:af p=true) (e:p.bnd n=true):RepAt fi (M.cut n) w mk p v:=by
 unfold RepAt at *;split at h
 ·exact OwnRep.cut h (by simpa [PV.bnd] using e)
 ·cases a
 ·obtain⟨f,k,j,d⟩:=h
  exact⟨f,k,j,λi c u b g=>(d i c u b g).cut (kb (by simpa [PV.bnd] using e) b)⟩
 ·obtain⟨f,k,j,d⟩:=h
  exact⟨f,k,j,λi c u b g=>(d i c u b g).cut (kb (by simpa [PV.bnd] using e) b)⟩
 ·rename_i d
  exact ((h.repP (sM a (λcs=>d cs))).cut e).repE
theorem tu {α:Type}:∀{l:List α} {i j:Nat},l.Nodup->l[i]?=l[j]?->i<l.length->i=j
 |[],i,j,_,_,h=>by simp at h
 |x::l,0,0,_,_,_=>rfl
 |x::l,0,j+1,hn,a,_=>by rw[List.nodup_cons] at hn;simp at a;exact absurd (aL a.symm) hn.1
 |x::l,i+1,0,hn,a,_=>by rw[List.nodup_cons] at hn;simp at a;exact absurd (aL a) hn.1
 |x::l,i+1,j+1,hn,a,h=>by rw[List.nodup_cons] at hn;have:=tu hn.2 (by simpa using a) (by simpa using h);omega
def Mem.cutF (M:Mem) (n:Nat):Mem:={M.cut n with imm:=λb k=>M.imm b k\/(∃g,n<=g/\M.gb[g]?=some b/\M.own b=none)\/∃g,n<=g/\M.own b=some (.gh g 0) }
theorem Ext.cutF (M:Mem) (n:Nat) (w:World):Ext (M.cut n) w (M.cutF n) w:=⟨λ_ _ h=>h,λ_ _ h=> .inl h,λ_ _ _=>rfl,λ_ _=>⟨cU _,λ_=>rfl⟩⟩
theorem OwnRep.cutF {n:Nat} {l:Loc} {z:Nat} {p:Ok} {v:Value} (h:OwnRep fi (M.cut n) w l z p v) (t:∀g,n<=g->l≠ .gh g 0):OwnRep fi (M.cutF n) w l z p v:=by
 obtain⟨A,m⟩:=h;refine⟨A.mono (Ext.cutF M n w),?_⟩;rcases m with m|⟨b,o,c,cs,e,r,q,x,s,u,j,i⟩
 ·exact .inl m
 ·refine .inr ⟨b,o,c,cs,e,r,q,x,s,λk f d h=>?_,j,i⟩
  have a:M.own b=some l:=q;rcases h with h|⟨g,_,_,h⟩|⟨g,y,h⟩
  ·exact u k f d h
  ·rw[h] at a;cases a
  ·rw[h] at a;exact t g y (cX a).symm
theorem RepC.cutF {n:Nat} {l:Loc} {p:PV} {v:Value} (h:RepC fi (M.cut n) w l p v) (a:∀g,n<=g->l≠ .gh g 0):RepC fi (M.cutF n) w l p v:=by
 unfold RepC at *;split at h
 ·exact OwnRep.cutF h a
 ·exact h.mono (Ext.cutF M n w)
theorem RepE.cutF {n:Nat} {p:PV} {v:Value} (h:RepE fi (M.cut n) w p v):RepE fi (M.cutF n) w p v:=by
 unfold RepE at *;split at h
 ·exact h
 ·exact h
 ·exact h.mono (Ext.cutF M n w)
theorem RepAt.cutF {n:Nat} {mk:Nat->Loc} {p:PV} {v:Value} (h:RepAt fi (M.cut n) w mk p v) (e:∀i g,n<=g->mk i≠ .gh g 0):RepAt fi (M.cutF n) w mk p v:=by
 unfold RepAt at *;split at h
 ·exact OwnRep.cutF h (e 0)
 ·obtain⟨B,b,T,c,x,d,t,z,y,o,m⟩:=h
  refine⟨B,b,T,c,x,d,t,z,λk l=>?_,o,m⟩;have a:M.own b=some (mk 0):=t;rcases l with h|⟨g,_,_,h⟩|⟨g,A,h⟩
  ·exact y k h
  ·rw[h] at a;cases a
  ·rw[h] at a;exact e 0 g A (cX a).symm
 ·obtain⟨f,s,r,q⟩:=h
  exact⟨f,s,r,λi c u d j=>(q i c u d j).cutF (e i)⟩
 ·obtain⟨f,s,r,q⟩:=h
  exact⟨f,s,r,λi c u d j=>(q i c u d j).cutF (e i)⟩
 ·exact RepE.cutF h
theorem RepObj.cutF {n i d:Nat} {o:GObj} (S:i<n) (h:RepObj fi (M.cut n) w i d o) (hn:∀g,n<=g->M.gb[g]?≠some d):RepObj fi (M.cutF n) w i d o:=by
 cases o with
 |cells cs=>
  obtain⟨z,y,f,q,P,T,p,B,C⟩:=h;refine⟨z,λk a=>?_,f,q,P,T,p,B,λQ c u U D=>(C Q c u U D).cutF (λg r e=>by cases e;omega)⟩;have v:M.own d=none:=f;rcases a with a|⟨g,r,G,_⟩|⟨g,r,b⟩
  ·exact y k a
  ·exact hn g r G
  ·rw[v] at b;cases b
 |map es=>
  obtain⟨z,y,l,A,f,q,p⟩:=h;exact⟨z,y,l,A,f,q,λi e m F E=>⟨(p i e m F E).1.mono (Ext.cutF M n w),(p i e m F E).2.1.mono (Ext.cutF M n w),(p i e m F E).2.2⟩⟩
 | stk ad xs=>
  obtain⟨z,y,f,q,p,cs,T,B,C,I,H⟩:=h;refine⟨z,y,f,λk a=>?_,p,cs,T,B,C,I,λj x R=>?_⟩
  ·have e:M.own (M.st i).2.1=some (Loc.gh i 0):=f
   rcases a with a|⟨g,_,_,b⟩|⟨g,r,b⟩
   ·exact q k a
   ·have s:M.own (M.st i).2.1=none:=b
    rw[s] at e;cases e
   ·have s:M.own (M.st i).2.1=some (Loc.gh g 0):=b
    rw[s] at e;cases e;omega
  ·obtain⟨u,D,hr⟩:=H j x R
   exact⟨u,D,hr.mono (Ext.cutF M n w)⟩
 | bld t=>
  obtain⟨z,y,f,T,X,q⟩:=h;refine⟨z,λk a=>?_,f,T,X,?_⟩
  ·have v:M.own d=none:=f
   rcases a with a|⟨g,r,G,_⟩|⟨g,r,b⟩
   ·exact y k a
   ·exact hn g r G
   ·rw[v] at b;cases b
  ·rcases q with q|⟨c,O,N,p,B,C,I,H,L⟩
   ·exact .inl q
   ·refine .inr ⟨c,O,N,p,B,C,I,λk a=>?_,L⟩
    have e:M.own c=some (Loc.gh i 0):=B;rcases a with a|⟨g,_,_,b⟩|⟨g,r,b⟩
    ·exact H k a
    ·rw[b] at e;cases e
    ·rw[b] at e;cases e;omega
theorem Mark.mono {n m:Nat} {d:Deferred} (h:Mark M w n d) (a:m<=n):Mark M w m d:=by obtain⟨D,c,b⟩:=h;exact⟨D,cA a c,b⟩
theorem x6 {Fn:Func} {R:Ending->World->Prop} {M0:Mem} {w0:World} (h0:∀b k,M0.imm b k->b<w0.heap.size):∀(l:List Deferred) (M':Mem) (w':World) (a:Act),Inv fi M' w' s a->Kp M0 w0 {M' with ds:=M0.ds } w'->M'.ds=l->l.Nodup->(∀d∈l,Mark M' w' w0.heap.size d)->
  (∀(M2:Mem) (B:World),Inv fi M2 B s {a with defers:=[] }->Kp M0 w0 {M2 with ds:=M0.ds } B->LeavesIn (FR none) 0 P Fn a.tmps R [] .returning B)->LeavesInM (FR none) 0 P Fn a.tmps R l .returning w'
 |[],M',w',a,j,f,X,_,_,L=>by
  have ha:a.defers=[]:=j.defers.trans X;have:a={a with defers:=[] }:=by rw[<-ha]
  refine L M' w' (by rw[<-this];exact j) ?_;exact f
 | d::l,M',w',a,j,f,X,hn,T,L=>by
  rw[List.nodup_cons] at hn;obtain⟨D,m1,rfl,C,m4,m5,m6⟩:=T d aZ;generalize v:w'.putObj D (.deferred none)=W;have H:D<w'.heap.size:=(Array.getElem?_eq_some_iff.1 C).1;have c:∀k,k≠D->W.heap[k]?=w'.heap[k]?:=λk h=>by rw[<-v];exact World.putObj_heap_other h
  have m:W.heap.size=w'.heap.size:=by rw[<-v];exact World.putObj_size
  have q:W.heap[D]?=some (.deferred none):=by rw[<-v];exact World.putObj_heap_same H
  have n:∀b k,W.cell? ⟨b,k,none⟩=w'.cell? ⟨b,k,none⟩:=λb k=>by
   by_cases h:b=D
   ·subst h
    simp[World.cell?,q,C]
   ·exact World.cell?_of_block (w:=w') (a:=⟨b,k,none⟩) (c b h)
  have p:Ext M' w' {M' with ds:=l } W:=⟨λ_ _ h=>h,λ_ _ h=>h,λb k _=>n b k,λ_ _=>⟨cU _,λ_=>rfl⟩⟩
  have g:Good M' w' {M' with ds:=l } W (λ_=>False) (λk=>k=D):=⟨p,by rw[m];exact cU _,λ_ _ h=>h,
   λO l' r _=>⟨r,c O (λe=>by subst e;rw[m6] at r;cases r),λ_ h=>h,id,id⟩,λO _ hn h=>⟨c O hn,λ_ h=>h,h⟩,λ_ _=>rfl⟩
  have N:Inv fi {M' with ds:=l } W s {a with defers:=l }:=
   ⟨λt u S=>⟨(j.env t u S).1,(j.env t u S).2.good g NX⟩,rfl,j.lbl,j.gbl,j.nodup,λi cs y A x=>(j.lh i cs y A x).good g (λe=>by subst e;exact m4 (aL x)) NX,
    λi o y A x=>(j.gh i o y A x).good g (λe=>by subst e;exact m5 (aL x)) NX,p.gl j.gl,λb k h=>by rw[m];exact j.immlt b k h,λb k h=>by rw[m];exact j.ownlt b k h,λb h=>by rw[m];exact j.gblt b h⟩
  have G:∀e∈l,Mark {M' with ds:=l } W w0.heap.size e:=λe U=>by
   obtain⟨E,n1,Q,n3,n4,n5,n6⟩:=T e (bC _ U);have F:E≠D:=λh=>by subst h;exact hn.1 (Q▸U)
   exact⟨E,n1,Q,(c E F).trans n3,n4,n5,n6⟩
  have I:Kp M0 w0 {M' with ds:=M0.ds } W:=by
   refine⟨?_,?_,?_,by rw[m];exact f.size,⟨f.ext.gb,f.ext.imm,λb k h=>(n b k).trans (f.ext.cell b k h),f.ext.st⟩,λk z A x h3=>(c k NW).trans (f.block k z A x h3),f.lbn,f.gbn,f.ownn,f.immn,.same rfl⟩
   ·rw[<-v];exact f.os
   ·rw[<-v];exact f.tape
   ·rw[<-v];exact f.output
  refine⟨NX,.inl ⟨D,W,rfl,?_,?_⟩⟩
  ·rw[<-v];exact run_takeDeferred C
  ·exact x6 h0 l {M' with ds:=l } W {a with defers:=l } N I rfl hn.2 G L
theorem GI.cutF {l:Ol} (j:GI fi M w l) (n:Nat) (hn:n<=l.length) (x:∀(i:Nat) (o:GObj),(l.take n)[i]?=some o->mM n o=true):GI fi (M.cutF n) w (l.take n):=by
 have d:=j.cut n x;have f:=j.nodup;rw[cR] at f;refine⟨λt v r=>by simp[get] at r,j.defers,d.lbl,d.gbl,d.nodup,λi cs e h=>by simp at h,λi o e q p=>RepObj.cutF (by have:=(aD.1 q).1;rw[cP] at this;omega) (d.gh i o e q p) λg z c=>?_,(Ext.cutF M n w).gl d.gl,λb k m=>?_,d.ownlt,d.gblt⟩
 ·have a:(M.gb.take n)[i]?=some e:=p
  rw[cK] at a;split at a
  ·rename_i u
   have A:=aD.1 c;have y:=aD.1 a;have:i=g:=tu f.2.1 (by rw[a,c]) y.1;omega
  ·cases a
 ·rcases m with m|⟨g,_,c,_⟩|⟨g,_,s⟩
  ·exact d.immlt b k m
  ·exact j.gblt b (aL c)
  ·exact j.ownlt b _ s
theorem tv {a:Nat} {cs:Ok} (h:gh[b]?=some (.cells cs)) (d:n<=b) (c:a+k<=cs.length):frz n gh (.bs true b a k 1)= NZ (((cs.drop a).take k).map aw):=by simp[frz,h,d,c]
theorem tw {g:Nat} {a:Ok} (h:gh[b]?=some (.stk g a)) (d:n<=b) (c:k<=a.length):frz n gh (.stk b g k)= NZ (a.take k):=by simp[frz,h,d,c]
theorem mO (n:Nat) (e:Ol) (p:PV):frz n e p=p\/(∃b a k cs,p= .bs true b a k 1/\e[b]?=some (.cells cs)/\n<=b/\a+k<=cs.length)\/∃b g k c,p= .stk b g k/\e[b]?=some (.stk g c)/\n<=b/\k<=c.length:=by
 unfold frz;split
 ·rename_i b a k
  split
  ·rename_i cs d
   split
   ·rename_i h;exact .inr (.inl ⟨b,a,k,cs,rfl,d,h⟩)
   ·exact .inl rfl
  ·exact .inl rfl
 ·rename_i b g k
  split
  ·rename_i f c d
   split
   ·rename_i h;exact .inr (.inr ⟨b,g,k,c,rfl,by rw[d,h.2.1],h.1,h.2.2⟩)
   ·exact .inl rfl
  ·exact .inl rfl
 ·exact .inl rfl
theorem qO (h:p.one=true):(aw p).cells=[aw p]:=by cases p<;>first|rfl|simp[PV.one] at h
theorem FT (h:p.one=true):(aw p).one=true:=by cases p<;>first|exact h|rfl
theorem qP (hG:GI fi M w gh) (h:RepP fi M w p v) (L:(frz n gh p).noG=true):RepP fi (M.cutF n) w (frz n gh p) v:=by
 rcases mO n gh p with e|⟨b,d,k,cs,rfl,G,hn,P⟩|⟨b,g,k,N,rfl,G,hn,P⟩
 ·rw[e] at L ⊢
  exact (h.cut (lN _ _ L)).mono (Ext.cutF M n w)
 ·rw [tv G hn P] at L ⊢
  cases h with
  | bs _ _ _ _ A c z X E D=>
   obtain⟨_,_,s,H,F,T,Q,hl,O⟩:=hG.gh b _ z G X;have m:(((cs.drop d).take k).map aw).length=k:=by simp;omega
   have f:∀(i:Nat) (e:PV),(((cs.drop d).take k).map aw)[i]?=some e->∃c u,cs[d+i]?=some c/\e=aw c/\F[d+i]?=some u/\RepP fi M w (aw c) u/\c.one=true:=by
    intro i e a;simp only[aB,aE,cK] at a;obtain⟨c,q,rfl⟩:=a;split at q
    ·rw[List.getElem?_drop] at q
     have x:d+i<F.length:=by have:=(aD.1 q).1;omega
     exact⟨c,F[d+i],q,rfl,aA x,(O _ _ _ q (aA x)).degr1,H c (aL q)⟩
    ·cases q
   have r:RepP fi (M.cutF n) w (NZ (((cs.drop d).take k).map aw)) (.slice A (((cs.drop d).take k).map aw).length c):=by
    refine RepP.sl 1 _ A c z d (λj=>F.getD (d+j) undef) ?_ (by rw[m];exact D) ?_ ?_ ?_ ?_
    ·rcases E with E|E
     ·left;subst E;simp
     ·exact .inr E
    ·intro e a
     obtain⟨i,x⟩:=List.mem_iff_getElem?.1 a;obtain⟨c,u,C,rfl,_,_,B⟩:=f i e x;rw[qO B];rfl
    ·intro e a
     obtain⟨i,x⟩:=List.mem_iff_getElem?.1 a;obtain⟨c,u,C,rfl,_,_,B⟩:=f i e x;simp[az,qO B,FT B]
    ·intro i e j p a o
     obtain⟨c,u,C,rfl,y,_,B⟩:=f i e a;rw[qO B] at o;cases j with
     |succ j=>simp at o
     |zero=>
      refine⟨.inr (.inl ⟨b,hn,X,s⟩),?_⟩;rw[cell_of_row w z _ F.toArray T (0,0) Q,List.getElem?_toArray,Nat.mul_one,cG,y];simp[List.getD,y]
    ·intro i e j p a o
     obtain⟨c,u,C,rfl,y,h4,B⟩:=f i e a;rw[qO B] at o;cases j with
     |succ j=>simp at o
     |zero=>
      simp at o;subst o;have e2:F.getD (d+(i*1+0)) undef=u:=by simp[List.getD,y]
      rw[e2];have R:(aw c).noG=true:=iZ (l:=((cs.drop d).take k).map aw) (by simpa [PV.noG] using L) a;exact (h4.cut (lN _ _ R)).mono (Ext.cutF M n w)
   rw[m] at r;exact r
 ·rw [tw G hn P] at L ⊢
  have U:b<M.gb.length:=by rw[hG.gbl];exact (aD.1 G).1
  obtain⟨_,I,s,_,S,cs,T,Q,_,_,O⟩:=hG.gh b _ _ G (aA U);cases h with
  | stk _ _ _ z c X ad E D=>
   obtain⟨rfl,_⟩:=E I.symm;have m:(N.take k).length=k:=by rw[cP];omega
   have f:∀(i:Nat) (e:PV),(N.take k)[i]?=some e->co e=true/\∃u,cs[i]?=some u/\RepP fi M w e u:=by
    intro i e a;rw[cK] at a;split at a
    ·exact⟨S e (aL a),O i e a⟩
    ·cases a
   have t:∀e:PV,co e=true->e.cells=[e]/\e.one=true/\az e=true/\e.noG=true:=by intro e a;cases e<;>first|exact⟨rfl,rfl,rfl,rfl⟩|cases a
   have r:RepP fi (M.cutF n) w (NZ (N.take k)) (.slice (some ⟨(M.st b).2.1,0,none⟩) (N.take k).length c):=by
    refine RepP.sl 1 _ _ c (M.st b).2.1 0 (λj=>cs.getD j undef) (.inr rfl) (by rw[m];exact D) ?_ ?_ ?_ ?_
    ·intro e a
     obtain⟨i,x⟩:=List.mem_iff_getElem?.1 a;rw[(t e (f i e x).1).1];rfl
    ·intro e a
     obtain⟨i,x⟩:=List.mem_iff_getElem?.1 a;exact (t e (f i e x).1).2.2.1
    ·intro i e j p a o
     obtain⟨C,u,y,_⟩:=f i e a;rw[(t e C).1] at o;cases j with
     |succ j=>simp at o
     |zero=>
      refine⟨.inr (.inr ⟨b,hn,s⟩),?_⟩;rw[cell_of_row w _ _ cs T (0,0) Q,cV,Nat.mul_one,cG,y];simp[cQ,y]
    ·intro i e j p a o
     obtain⟨C,u,y,h4⟩:=f i e a;rw[(t e C).1] at o;cases j with
     |succ j=>simp at o
     |zero=>
      simp at o;subst o;have e2:cs.getD (i*1+0) undef=u:=by simp[cQ,y]
      rw[e2];exact (h4.cut (lN _ _ (t _ C).2.2.2)).mono (Ext.cutF M n w)
   rw[m] at r;exact r
theorem FU (m:GI fi M w gh) {mk:Nat->Loc} (f:∀i g,n<=g->mk i≠ .gh g 0) (h:RepAt fi M w mk p v) (r:af p=true) (d:(dp n gh p).noG=true):RepAt fi (M.cutF n) w mk (dp n gh p) v:=by
 by_cases z:∃cs,p= .tup cs
 ·obtain⟨cs,rfl⟩:=z
  obtain⟨o,D,C,B⟩:=h;refine⟨o,D,by simpa using C,λi c u j A=>?_⟩;simp only[aB,aE] at j;obtain⟨c,j,rfl⟩:=j;have a:(frz n gh c).noG=true:=iZ (l:=cs.map (frz n gh)) (by simpa [PV.noG,dp] using d) (i:=i) (by simp[j]);have x:=B i c u j A;rcases mO n gh c with e|⟨b,q,k,y,rfl,t,hn,s⟩|⟨b,g,k,y,rfl,t,hn,s⟩
  ·rw[e] at a ⊢
   exact (x.cut (lN _ _ a)).cutF (f i)
  ·exact (qP m x a).repC
  ·exact (qP m x a).repC
 ·have E:dp n gh p=frz n gh p:=by
   unfold dp;split
   ·rename_i o;exact absurd ⟨o,rfl⟩ z
   ·rfl
  rw[E] at d ⊢;rcases mO n gh p with e|⟨b,q,k,y,rfl,t,hn,s⟩|⟨b,g,k,y,rfl,t,hn,s⟩
  ·rw[e] at d ⊢
   exact (h.cut r (lN _ _ d)).cutF f
  ·exact (qP m h d).repE.repAt
  ·exact (qP m h d).repE.repAt
theorem FV (a:af p=true):af (dp n gh p)=true:=by
 have j:∀q,az q=true->az (frz n gh q)=true:=λq i=>by
  rcases mO n gh q with e|⟨b,f,k,h,rfl,d,hn,c⟩|⟨b,g,k,h,rfl,d,hn,c⟩
  ·rw[e];exact i
  ·rw[tv d hn c];rfl
  ·rw[tw d hn c];rfl
 cases p with
 |tup l=>
  simp only[af,dp,bV,List.mem_map] at a ⊢;rintro _ ⟨q,i,rfl⟩;exact j q (a q i)
 |bs g b o k z=>
  have:az (frz n gh (.bs g b o k z))=true:=j _ a;simp only[dp];rcases mO n gh (.bs g b o k z) with e|⟨b,f,k,h,e,d,hn,c⟩|⟨b,g,k,h,e,_⟩
  ·rw[e];exact a
  ·cases e;rw[tv d hn c];rfl
  ·cases e
 |stk b g k=>
  simp only[dp];rcases mO n gh (.stk b g k) with e|⟨b,f,k,h,e,d,hn,c⟩|⟨b,g,k,h,e,d,hn,c⟩
  ·rw[e];exact a
  ·cases e
  ·cases e;rw[tw d hn c];rfl
 |_=>exact a
theorem x7:∀{a:Ok} {n t:Nat} {v:PV},get (fk n a) t=some v->∃i,t=n+i/\a[i]?=some v
 |[],n,t,v,h=>by simp[fk,get] at h
 | u::a,n,t,v,h=>by
  simp only[fk,get] at h;split at h
  ·rename_i b;cases h;exact⟨0,NW,rfl⟩
  ·obtain⟨i,d,c⟩:=x7 h
   exact⟨i+1,NW,by simpa using c⟩
open Classical in
theorem oe {fn:IFunc} {F:Nat} {Fn:Func} {c:Code} (hf:P.funcs[F]?=some Fn) (hb:Fn.body=some c) (hr:fE P fn.res Fn.results.toList=true)
  {vs:Ok} {gh gh':Ol} {x:IExit×St} {r:PV} (hwp:∀(a:Act) (M:Mem) (w:World),Inv fi M w ⟨fk 0 vs,[],gh⟩ a->Fn.ntmps<=a.tmps.size->c.wpIn (FR none) 0 P (CPost fi M w a.tmps.size x.1 x.2) a w) (hfin:ag fn gh x=some (r,gh')):eG P fi F vs gh r gh':=by
 intro M w args hG hlb hown hlen hrep;obtain⟨e,sf⟩:=x;refine callsIn_wide.1 (callsIn_of_wp_marks (F:=FR none) (n:=0) hf hb trivial ?_);have hsz:(args.toArray++Array.replicate (Fn.ntmps-args.toArray.size) undef).size=args.length+(Fn.ntmps-args.length):=NX;have hI:Inv fi M w ⟨fk 0 vs,[],gh⟩ {tmps:=args.toArray++Array.replicate (Fn.ntmps-args.toArray.size) undef,defers:=[] }:=by
  refine⟨λt v hv=>?_,hG.defers,hG.lbl,hG.gbl,hG.nodup,λi cs blk h=>by simp at h,hG.gh,hG.gl,hG.immlt,hG.ownlt,hG.gblt⟩;obtain⟨i,h1,h2⟩:=x7 hv;rw[cV] at h1;subst h1;have hi:=(aD.1 h2).1;have hi':t<args.length:=NW;refine⟨by simp only[hsz];omega,?_⟩;have:=hrep t v args[t] h2 (aA hi');have e2:(args.toArray++Array.replicate (Fn.ntmps-args.toArray.size) undef).getD t undef=args[t]:=by rw[cQ,Array.getElem?_append_left (by simpa using hi')];simp[hi']
  rw[e2];exact this.repE.repAt
 have key:e= .normal\/e= .ret->∀(a':Act) (M':Mem) (w':World),Inv fi M' w' sf a'->M'.ds=[]->Kp M w M' w'->∃r0 gh0,ag fn gh (e,sf)=some (r0,gh0)/\∃v,(Go.results Fn a'.tmps).run P w'= .ok v w'/\
   ∃M2,GI fi M2 w' gh0/\M2.lb=[]/\af r0=true/\RepAt fi M2 w' Loc.res r0 v/\Kp M w M2 w':=by
  intro he a' M' w' h2 hds' h3;refine⟨r,gh',hfin,?_⟩
  have hfin':(results fn.own fn.res sf).bind (λr=>if af r then
   (if fn.trunc then if sf.gh.take gh.length=gh/\(dp gh.length sf.gh r).noG then some (dp gh.length sf.gh r,gh) else none else some (r,sf.gh)) else none)=some (r,gh'):=by
   rcases he with rfl|rfl<;>exact hfin
  rw[aC] at hfin';obtain⟨r1,q1,q2⟩:=hfin';split at q2
  ·rename_i hok
   obtain⟨v,M1,v1,v2,v3,v4⟩:=FQ (P:=P) h2 hds' hr q1 hok;have hG1:GI fi M1.noLb w' sf.gh:=Inv.toGI (s:=sf) v2;have hr1:=v4.noLb hok;have hk1:Kp M w M1.noLb w':=(h3.trans v3).trans (Kp.noLb M1 w');split at q2
   ·split at q2
    ·rename_i hq
     cases q2;have hn:gh.length<=sf.gh.length:=by have:=congrArg List.length hq.1;rw[cP] at this;omega
     refine⟨v,v1,M1.noLb.cutF gh.length,?_,rfl,FV hok,FU hG1 (λ_ _ _ e=>by cases e) hr1 hok hq.2,?_⟩
     ·have:=hG1.cutF gh.length hn (λi o ho=>by
       rw[hq.1] at ho;have hi:i<M.gb.length:=by rw[hG.gbl];exact (aD.1 ho).1
       have:=(hG.gh i o _ ho (aA hi)).bnd
       rwa [hG.gbl] at this)
      rwa [hq.1] at this
     ·have hgbl:M.gb.length=gh.length:=hG.gbl
      refine⟨hk1.os,hk1.tape,hk1.output,hk1.size,⟨λi k h=>?_,λb k h=> .inl (hk1.ext.imm b k h),hk1.ext.cell,hk1.ext.st⟩,hk1.block,hk1.lbn,λk h=>hk1.gbn k (cO h),hk1.ownn,λb k h=>?_,.same (Eq.trans (show M1.noLb.ds=[] from hG1.defers.symm) hG.defers)⟩
      ·have hi:i<gh.length:=by have h4:=(aD.1 h).1;omega
       have:=hk1.ext.gb i k h;simp only[Mem.cutF,Mem.cut,cK,hi,if_true];exact this
      ·rcases h with h|⟨g,hg,hb,_⟩|⟨g,hg,ho⟩
       ·exact hk1.immn b k h
       rotate_left
       ·rcases Nat.lt_or_ge b w.heap.size with hlt|hge
        ·refine .inr (.inr λe=>?_)
         rw[hk1.ownn b hlt e] at ho;cases ho
        ·exact .inr (.inl hge)
       ·rcases hk1.gbn b (aL hb) with h2|h2|h2|h2
        ·exfalso
         obtain⟨i,hi⟩:=List.mem_iff_getElem?.1 h2;have hi2:=hk1.ext.gb i b hi;have hnd:=hG1.nodup;rw[cR] at hnd;have e1:=aD.1 hb;have e2:=aD.1 hi2;have:i=g:=tu hnd.2.1 (by rw[hi2,hb]) e2.1;have:=(aD.1 hi).1;omega
        ·exact .inr (.inl h2)
        ·exact .inr (.inr h2)
        ·rw[hlb] at h2;simp at h2
    ·cases q2
   ·cases q2
    exact⟨v,v1,M1.noLb,hG1,rfl,hok,hr1,hk1⟩
  ·cases q2
 have hds:M.ds=[]:=hG.defers.symm;refine wpIn_mono (hwp _ M w hI (by simp only[hsz];omega)) ?_;rintro ex a0 w0 ⟨h1,M0,h20,h30,_⟩;have hend:e= .normal\/e= .ret->LeavesInM (FR none) 0 P Fn a0.tmps (λe w'=>∃v M',e= .returned v/\GI fi M' w' gh'/\M'.lb=[]/\af r=true/\RepAt fi M' w' Loc.res r v/\Kp M w M' w') a0.defers .returning w0:=by
  intro he;obtain⟨l,z1,z2,z3⟩:=h30.ds;rw[hds,bE] at z1;rw[h20.defers];refine x6 (M0:=M) (w0:=w) hG.immlt _ M0 w0 a0 h20 ⟨h30.os,h30.tape,h30.output,h30.size,⟨h30.ext.gb,h30.ext.imm,h30.ext.cell,h30.ext.st⟩,h30.block,h30.lbn,h30.gbn,h30.ownn,h30.immn,.same rfl⟩ rfl (z1▸z2) (z1▸z3) ?_;intro M' w' h2 h3;have hd':M'.ds=[]:=h2.defers.symm;have h3:Kp M w M' w':=⟨h3.os,h3.tape,h3.output,h3.size,⟨h3.ext.gb,h3.ext.imm,h3.ext.cell,h3.ext.st⟩,h3.block,h3.lbn,h3.gbn,h3.ownn,h3.immn,.same (by rw[hd',hds])⟩
  obtain⟨r0,gh0,k1,v,k3,M2,k4⟩:=key he _ M' w' h2 hd' h3;rw[hfin] at k1;cases k1;exact⟨v,k3,v,M2,rfl,k4⟩
 cases e with
 |exit i=>simp[ag] at hfin
 |normal=>subst h1;exact hend (.inl rfl)
 |ret=>subst h1;exact hend (.inr rfl)
theorem FW {n:Nat} (l:mL P fi pg n) {f:IFunc} {F:Nat} {g:Func} {c:Code} (k:P.funcs[F]?=some g) (m:g.body=some c) (j:eh P fi g.ntmps f.body c=true) (hr:fE P f.res g.results.toList=true)
  {i:Ok} {h e:Ol} {x:IExit×St} {r:PV} (b:bf pg n f.body ⟨fk 0 i,[],h⟩=some x) (d:ag f h x=some (r,e)):eG P fi F i h r e:=
 oe k m hr (λa M w p o=>l none 0 g.ntmps f.body c _ x.1 x.2 a M w (.inl rfl) j b p o) d
end
end
section
open Go.RowKit
section
variable {fi:FI} {M M':Mem} {w w':World} {P:Program} {s s':St} {a:Act} {cf:CallF} {pg:Prg}
def yd (P : Program) (F : Nat) : Prop := ∃ a c, P.funcs[F]? = some a ∧ (a.name == "runtime.NumGoroutine") = false ∧ a.body = some c
def kR (P:Program) (e:FI) (pg:Prg):Prop:=
 ∀f F,e f=some F->yd P F/\match pg f with
  |some (.code h)=>∃b c,P.funcs[F]?=some b/\b.body=some c/\eh P e b.ntmps h.body c=true/\fE P h.res b.results.toList=true
  |some (.lib L)=>∀d g r a,L d g=some (r,a)->(∀p∈d,az p=true)->eG P e F d g r a
  |_=>pg f=none
theorem ye (m:kR P fi pg) {n:Nat} (l:mL P fi pg n):ii P fi (du (bf pg n) pg):=by
 intro f i p r g F h e k;obtain⟨o,b⟩:=m f F k;refine⟨o,?_⟩;unfold du at h;cases d:pg f with
 |none=>rw[d] at h;cases h
 | some v=>
  cases v with
  |lib L=>
   rw[d] at h b;exact b i p r g h e
  | code w=>
   rw[d] at h b;obtain⟨y,c,u,t,s,q⟩:=b;simp only at h;split at h
   ·simp only[aC] at h
    obtain⟨x,j,a⟩:=h;exact FW l u t s q j a
   ·cases h
theorem tz (b:P.follows .mixedOrders=true) (d:kR P fi pg):∀n,mL P fi pg n
 |0=>λr f N g c s e s' a M w _ _ h=>by simp[bf] at h
 |n+1=>xV b (tz b d n) (ye d (tz b d n)) trivial
theorem FX (i:P.follows .mixedOrders=true) (e:kR P fi pg) {f:Nat} {b:Ok} {d:Ol} {r:PV} {a:Ol} {F:Nat} (h:ac pg f b d=some (r,a)) (c:∀p∈b,az p=true) (g:fi f=some F) :
  eG P fi F b d r a:=by
 obtain⟨n,hn⟩:=nM pg h;exact (ye e (tz i e n) f b d r a F hn c g).2
theorem oh {w:World} {b k:Nat} {v:Value} (h:w.cell? ⟨b,k,none⟩=some v):b<w.heap.size:=by
 rcases Nat.lt_or_ge b w.heap.size with a|a
 ·exact a
 ·simp[World.cell?,Array.getElem?_eq_none a] at h
def Mem.start (w:World):Mem:={lb:=[],gb:=[],imm:=λb _=>b<w.heap.size,own:=λ_=>none,st:=λ_=>(0,0,0) }
theorem GI.start (e:FI) (w:World) (d:∀x∈e.gl,x.1<w.heap.size/\w.cell? ⟨x.1,x.2.1,none⟩=x.2.2):GI e (Mem.start w) w []:=
 ⟨λt v f=>by simp[get] at f,rfl,rfl,rfl,by simp[Mem.start],λi cs a h=>by simp at h,λi o a h=>by simp at h,λx c=>⟨(d x c).1,(d x c).2⟩,λb k h=>h,λb l h=>by simp[Mem.start] at h,λb h=>by simp[Mem.start] at h⟩
theorem FY (q:P.follows .mixedOrders=true) (s:kR P fi pg) {f F:Nat} {d:Ok} {r:PV} (h:ac pg f d []=some (r,[])) (g:∀p∈d,az p=true) (o:fi f=some F) {a:Ou} (j:a.length=d.length) (n:∀x∈fi.gl,x.1<w.heap.size/\w.cell? ⟨x.1,x.2.1,none⟩=x.2.2)
  (hr:∀(i:Nat) (p:PV) (v:Value),d[i]?=some p->a[i]?=some v->RepP fi (Mem.start w) w p v) :
  Calls P F a.toArray w λe w'=>∃v M',e= .returned v/\af r=true/\RepAt fi M' w' Loc.res r v/\w'.os=w.os/\w'.tape=w.tape/\w'.output=w.output/\w.heap.size<=w'.heap.size/\∀k,k<w.heap.size->w'.heap[k]?=w.heap[k]?:=by
 refine Calls.mono (FX q s h g o (Mem.start w) w a (GI.start fi w n) rfl (λb l h=>by simp[Mem.start] at h) j hr) ?_;rintro e w' ⟨v,M',rfl,_,_,u,t,c⟩;exact⟨v,M',rfl,u,t,c.os,c.tape,c.output,c.size,λk m=>c.block k m (by simp[Mem.start]) (by simp[Mem.start]) rfl⟩
end
end
section
open Go.RowKit
section
variable {fi:FI} {M M':Mem} {w w':World} {P:Program} {s s':St} {a:Act} {cf:CallF}
theorem CP (b:P.follows .mixedOrders=true):∀n,mL P fi (λ_=>none) n
 |0=>λr i N j c s e s' a M w _ _ h=>by simp[bf] at h
 |n+1=>xV b (CP b n) (λf g k r d F h=>by simp[du] at h) trivial
theorem vT (g:P.follows .mixedOrders=true) (n N:Nat) (d:ICode) (c:Code) (s:St) (e:IExit) (b:St) (a:Act) (M:Mem) (w:World) (f:eh P fi N d c=true) (h:bf (λ_=>none) n d s=some (e,b)) (j:Inv fi M w s a) (i:N<=a.tmps.size):c.wp P (CPost fi M w a.tmps.size e b) a w:=
 wpIn_wide.1 (CP g n none 0 N d c s e b a M w (.inl rfl) f h j i)
theorem vU (g:ii P fi cf) (r:Inv fi M w s a) {N:Nat} {c:Array Oper} {i:IOp} {o:Oper} (f:i.isY=false) (l:lI P fi N c ⟨i,none⟩ o=true) (p:N<=a.tmps.size) (h:opG cf ⟨i,none⟩ s=some s')
  {b:Act->World->Prop} {Q:Exit->Act->World->Prop} (hn:∀j M' w',Inv fi M' w' s' j->Kp M w M' w'->j.tmps.size=a.tmps.size->b j w') :
  if Region.wanted o (yielded c a.tmps) then o.wp P a w b Q else b (a.put o.dst undef) w:=by
 obtain⟨v,u,t,k⟩:=xr l;have e:o.guard=none:=by
  cases m:o.guard with
  |none=>rfl
  |some q=>rw[m] at k;simp[mD] at k
 unfold Region.wanted;rw[e];simp only[if_true];exact xp g f r v u (λd n=>aO (t d n) p) h hn
theorem ml {b:Array Oper} {Q:Exit->Act->World->Prop} {o:Oper} {rest:List Oper} (h:if Region.wanted o (yielded b a.tmps) then o.wp P a w (wpList P b Q rest) Q else wpList P b Q rest (a.put o.dst undef) w):wpList P b Q (o::rest) a w:=by
 unfold wpList;split
 ·rename_i hw;rw[if_pos hw] at h;exact .inl h
 ·rename_i hw;rw[if_neg hw] at h;exact h
theorem vV {o:Oper} {d:Nat} {t g:TypeId} {k:Nat} {e:TypeId} {A:Option Addr} {n c:Nat} (h:o.op= .binOp .eql t (.tmp k) (.const (.slice none 0 0)) g) (i:o.dst=some d) (m:P.underlying t=some (.slice e)) (l:a.tmps.getD k undef= .slice A n c)
  {b:Act->World->Prop} {Q:Exit->Act->World->Prop} (hn:b (a.put (some d) (.bool A.isNone)) w):o.wp P a w b Q:=by
 obtain⟨dst,op,j,pos,f,r⟩:=o;simp only at h i;subst h;subst i;have u:∀d,(Op.equalIn (d+1) t (.slice A n c) (.slice none 0 0)).run P w= .ok A.isNone w:=λd=>by cases A<;>simp[Op.equalIn,run_underlying m]
 have s:(Op.equal t (.slice A n c) (.slice none 0 0)).run P w= .ok A.isNone w:=u 9999;have q:a.eval (.tmp k)= .slice A n c:=l;have p:a.eval (.const (.slice none 0 0))= .slice none 0 0:=rfl;unfold Oper.wp;have:(execOp a.eval {dst:=some d,op:=Op.binOp .eql t (.tmp k) (.const (.slice none 0 0)) g,type:=j,pos:=pos,after:=f,guard:=r }).run P w= .ok (.value (.bool A.isNone)) w:=by simp[execOp,q,p,eqGuard,binOp,s]
 rw[this];exact hn
def vW (z:Nat):List IOpG:=[⟨.mv 2 (.c (.sl true z [])),none⟩]
def vX (z a:Nat):List IOpG:=[⟨.buildSl 5 z [],none⟩,⟨.mv 6 (.t 0),none⟩,⟨.append 7 z a (.t 5) (.t 6),none⟩,⟨.tk 2 7,none⟩]
theorem sq {pg:Prg} (z:Nat) (s:St):bf pg 1 (.region (vW z) false) s=some (.normal,s.put 2 (.sl true z [])):=rfl
theorem Na {pg:Prg} {z bytes:Nat} {s:St} {o:Bool} {xs:Ok} (h:get s.env 0=some (.sl o z xs)) (a:xs.length*bytes<=maxBytes) :
  ∃s',bf pg 1 (.region (vX z bytes) false) s=Og s'/\get s'.env 2=some (.sl true z xs)/\s'.lh=s.lh/\s'.gh=s.gh:=by
 have b:∀v,get (put s.env 5 v) 0=some (.sl o z xs):=λv=>by rw[dl];simpa using h
 refine⟨⟨put (put (put (put (put (put s.env 5 (.sl true z [])) 6 (.sl false z xs)) 5 (.sl false z [])) 7 (.sl true z xs)) 7 (.sl false z xs)) 2 (.sl true z xs),s.lh,s.gh⟩,?_,by rw[dl];simp,rfl,rfl⟩;simp[bf,vX,dt,opG,ae,ct,St.put,gG,ai,h,eL,dl,degr,a]
def nG (P:Program) (c:FI) (z b N:Nat):Code->Bool
 | .seq h (.seq (.seq (.region _ a false) (.cond (.tmp 4) (.seq g .ret) .skip)) (.seq f .ret))=>
  eh P c N (.region (vW z) false) h&&(eh P c N (.region (vW z) false) g&&(eh P c N (.region (vX z b) false) f &&
   (match a.toList with
    |[e,d]=>lI P c N a ⟨.mv 3 (.t 0),none⟩ e&&(d.dst==some 4&&(d.guard.isNone&&(decide (4<N)&&(match d.op with
     | .binOp .eql t (.tmp 3) (.const (.slice none 0 0)) _=>(match P.underlying t with|some (.slice _)=>true|_=>false)
     |_=>false))))
    |_=>false)))
 |_=>false
theorem CQ (hP:P.follows .mixedOrders=true) {z bytes F:Nat} {y:Func} {c:Code} (hf:P.funcs[F]?=some y) (hb:y.body=some c) (E:nG P fi z bytes y.ntmps c=true) (hr:fE P [.t 2] y.results.toList=true)
  {N:Ok} {k i:Ol} {r:PV} (h:gy z bytes N k=some (r,i)):eG P fi F N k r i:=by
 obtain⟨o,xs,rfl,ax,rfl,rfl⟩:∃o xs,N=[.sl o z xs]/\xs.length*bytes<=maxBytes/\r= .sl true z xs/\k=i:=by
  unfold gy at h;split at h
  ·rename_i o z' xs
   split at h
   ·rename_i hc
    obtain⟨rfl,hc⟩:=hc;cases h;exact⟨o,xs,rfl,hc,rfl,rfl⟩
   ·cases h
  ·cases h
 let fn:IFunc:={np:=1,res:=[.t 2],own:=true,trunc:=false,body:= .skip }
 refine oe (fn:=fn) (x:=(.ret,⟨[(2,.sl true z xs)],[],k⟩)) hf hb hr ?_ (by simp[fn,ag,results,get,af,az,PV.cells,PV.one]);intro a M w hI hN;unfold nG at E;split at E
 ·rename_i c0 aD C c2 c3
  simp only[aS] at E;obtain⟨m0,m2,m3,Q⟩:=E;split at Q
  ·rename_i o1 o2 D
   simp only[aS,cY,aH,Option.isNone_iff_eq_none] at Q;obtain⟨al,X,U,h4,g⟩:=Q;split at g
   ·rename_i t t2 ap
    split at g
    ·rename_i e ht
     have hC:=vT (fi:=fi) hP
     -- the head
     rw[qD];refine wpIn_wide.2 ?_;refine wp_seq (wp_mono (hC 9 y.ntmps _ c0 _ .normal (St.put ⟨fk 0 [.sl o z xs],[],k⟩ 2 (.sl true z [])) a M w m0 (fH _ NW (sq z _)) hI hN) ?_);rintro ex a1 w1 ⟨rfl,M1,aA,H,aF⟩
     show Code.wp P _ _ a1 w1
     refine wp_seq (wp_seq ?_);refine wp_region_list ?_;rw[D];have av:ii P fi (du (bf (λ_=>none) 0) (λ_=>none)):=λf N k r i F h=>by simp[du] at h
     refine ml (vU av aA rfl al NW (s':=St.put (St.put ⟨fk 0 [.sl o z xs],[],k⟩ 2 (.sl true z [])) 3 (.sl false z xs)) rfl (λj L B I G aE=>?_))
     ·have R:=(I.env 3 (.sl false z xs) rfl).2
      obtain⟨A,S,hv⟩:∃A S,j.tmps.getD 3 undef= .slice A xs.length S:=by
       generalize j.tmps.getD 3 undef=u at R;cases (show RepP fi L B (.sl false z xs) u from R) with
       |sl _ _ A S=>exact⟨A,S,rfl⟩
      have hg:Region.wanted o2 (yielded C j.tmps)=true:=by unfold Region.wanted;rw[U]
      refine ml ?_;rw[if_pos hg];refine vV ap X ht hv ?_;unfold wpList;have q:=I.put (d:=4) NW (p:= .bool A.isNone) (v:= .bool A.isNone) ((RepP.bool (fi:=fi) (M:=L) (w:=B) A.isNone).repE.repAt);have ao:(j.put (some 4) (.bool A.isNone)).tmps.size=j.tmps.size:=by simp[Act.put]
      have m:∀b,A.isNone=b->(j.put (some 4) (.bool A.isNone)).eval (.tmp 4)= .bool b:=by intro b hb;have aC:4<j.tmps.size:=NW;subst hb;simp[Act.eval,Act.put,cQ,Array.getElem?_setIfInBounds,aC]
      generalize j.put (some 4) (.bool A.isNone)=a3 at q ao m;cases hA:A with
      | none=>
       have hx:xs=[]:=by
        generalize j.tmps.getD 3 undef=u at R hv;subst hv;subst hA;cases (show RepP fi L B (.sl false z xs) _ from R) with
        | sl _ _ _ _ b o' vf aB=>
          rcases aB with h|h
          ·exact h
          ·cases h
       subst hx;refine wp_cond_true (m true (by rw[hA];rfl)) ?_;refine wp_seq (wp_mono (hC 9 y.ntmps _ c2 _ .normal _ a3 L B m2 (fH _ NW (sq z _)) q NW) ?_);rintro ex a4 w4 ⟨rfl,M4,n,l,an⟩;refine wp_ret ?_;obtain⟨O,T⟩:=n.keep [2] 0;refine⟨rfl,_,?_,((H.trans G).trans l).trans T,NW⟩;exact O
      |some ad=>
       refine wp_cond_false (m false (by rw[hA];rfl)) ?_;refine wp_skip ?_
       show Code.wp P _ _ a3 B
       obtain⟨s',r1,r2,r3,r4⟩:=Na (pg:=λ_=>none) (bytes:=bytes) (s:=(St.put (St.put ⟨fk 0 [.sl o z xs],[],k⟩ 2 (.sl true z [])) 3 (.sl false z xs)).put 4 (.bool A.isNone)) (o:=o) (xs:=xs) rfl ax;refine wp_seq (wp_mono (hC 9 y.ntmps _ c3 _ .normal s' a3 L B m3 (fH _ NW r1) q NW) ?_);rintro ex a4 w4 ⟨rfl,M4,n,l,an⟩;refine wp_ret ?_;obtain⟨O,T⟩:=n.keep [2] 0;refine⟨rfl,_,?_,((H.trans G).trans l).trans T,NW⟩;have e1:Lw.keep 0 [2] s'.env=[(2,.sl true z xs)]:=by simp[Lw.keep,r2,bj]
       rw[e1,r3,r4] at O;exact O
    ·cases g
   ·cases g
  ·cases Q
 ·cases E
def CR (P:Program) (d:FI) (z a F:Nat):Bool:=
 match P.funcs[F]? with
 |some b=>match b.body with
  |some c=>nG P d z a b.ntmps c&&fE P [.t 2] b.results.toList
  |none=>false
 |none=>false
theorem CT (i:P.follows .mixedOrders=true) {z a F:Nat} (h:CR P fi z a F=true) (f:Ok) (g:Ol) (r:PV) (b:Ol) (hr:gy z a f g=some (r,b)):eG P fi F f g r b:=by
 unfold CR at h;cases e:P.funcs[F]? with
 |none=>rw[e] at h;cases h
 | some j=>
  rw[e] at h;simp only at h;cases d:j.body with
  |none=>rw[d] at h;cases h
  |some c=>
   rw[d] at h;simp only[aS] at h;exact CQ i e d h.1 h.2 hr
end
end
section
open Go.RowKit
variable {bytes:Nat} {xs:Ok}
section
variable {fi:FI} {M M':Mem} {w w':World} {P:Program} {s s':St} {a:Act} {cf:CallF}
def pL (a:Nat):List IOpG:=[⟨.buildSlK 5 [],none⟩,⟨.mv 6 (.t 0),none⟩,⟨.appendK 7 a (.t 5) (.t 6),none⟩,⟨.tk 2 7,none⟩]
theorem Nb {pg:Prg} {s:St} {o:Bool} (h:get s.env 0=some (.sl o 1 xs)) (b:xs.length*bytes<=maxBytes) (a:xs.all co=true) :
  ∃s',bf pg 1 (.region (pL bytes) false) s=Og s'/\get s'.env 2=some (.stk s.gh.length 1 xs.length)/\s'.lh=s.lh/\s'.gh=s.gh++[.stk 1 xs]:=by
 refine⟨⟨put (put (put (put (put s.env 5 (.stk s.gh.length 0 0)) 6 (NZ xs)) 7 (.stk s.gh.length 1 xs.length)) 7 (.stk s.gh.length 1 xs.length)) 2 (.stk s.gh.length 1 xs.length),s.lh,s.gh++[.stk 1 xs]⟩,?_,by rw[dl];simp,rfl,rfl⟩;simp[bf,pL,dt,opG,ae,ct,St.put,gG,ai,h,dl,degr,b,a,gH,fO,-List.all_eq_true]
def vY (P:Program) (c:FI) (a N:Nat):Code->Bool
 | .seq g (.seq (.seq (.region e b false) (.cond (.tmp 4) (.seq f .ret) .skip)) (.seq d .ret))=>
  nG P c 1 a N (.seq g (.seq (.seq (.region e b false) (.cond (.tmp 4) (.seq f .ret) .skip)) (.seq d .ret)))&&eh P c N (.region (pL a) false) d
 |_=>false
theorem Nc {pg:Prg} {s:St} {b gen n:Nat} (h:get s.env 0=some (.stk b gen n)) (e:s.gh[b]?=some (.stk gen xs)) (hn:n<=xs.length) (i:n*bytes<=maxBytes) (g:(xs.take n).all co=true) :
  ∃s',bf pg 1 (.region (pL bytes) false) s=Og s'/\get s'.env 2=some (.stk s.gh.length 1 n)/\s'.lh=s.lh/\s'.gh=s.gh++[.stk 1 (xs.take n)]:=by
 have c:b<s.gh.length:=(aD.1 e).1;have a:(s.gh++[GObj.stk 0 []])[b]?=some (.stk gen xs):=by rw[aI c];exact e
 have f:(xs.take n).length=n:=by simp;omega
 have d:(b !=s.gh.length)=true:=by simp;omega
 refine⟨⟨put (put (put (put (put s.env 5 (.stk s.gh.length 0 0)) 6 (.stk b gen n)) 7 (.stk s.gh.length 1 n)) 7 (.stk s.gh.length 1 n)) 2 (.stk s.gh.length 1 n),s.lh,s.gh++[.stk 1 (xs.take n)]⟩,?_,by rw[dl];simp,rfl,rfl⟩;simp[bf,pL,dt,opG,ae,ct,St.put,gG,ai,h,dl,degr,a,hn,f,i,g,gH,fO,d,-List.all_eq_true,-List.length_take]
theorem Nf (hP:P.follows .mixedOrders=true) {bytes F:Nat} {H:Func} {c:Code} (hf:P.funcs[F]?=some H) (hb:H.body=some c) (l:vY P fi bytes H.ntmps c=true) (hr:fE P [.t 2] H.results.toList=true)
  {vs:Ok} {k E:Ol} {r:PV} (h:gQ bytes vs k=some (r,E)):eG P fi F vs k r E:=by
 unfold vY at l;split at l
 case h_2=>cases l
 rename_i c0 aC G c2 c3;simp only[aS] at l;obtain⟨l,mK⟩:=l;unfold gQ at h;split at h
 case h_3=>cases h
 case h_2=>
  rename_i b gen n;split at h
  case h_2=>cases h
  rename_i g xs aB;split at h
  case isFalse=>cases h
  rename_i hc;obtain⟨rfl,hn,al,U⟩:=hc;cases h
  let fn:IFunc:={np:=1,res:=[.t 2],own:=true,trunc:=false,body:= .skip }
  refine oe (fn:=fn) (x:=(.ret,⟨[(2,.stk k.length 1 n)],[],k++[.stk 1 (xs.take n)]⟩)) hf hb hr ?_ (by simp[fn,ag,results,get,af,az,PV.cells,PV.one]);intro a M w hI hN;unfold nG at l;simp only[aS] at l;obtain⟨m0,m2,m3,D⟩:=l;split at D
  case h_2=>cases D
  rename_i o1 o2 q;simp only[aS,cY,aH,Option.isNone_iff_eq_none] at D;obtain⟨N,L,I,h4,i⟩:=D;split at i
  case h_2=>cases i
  rename_i t t2 Q;split at i
  case h_2=>cases i
  rename_i e ht;have hC:=vT (fi:=fi) hP;rw[qD];refine wpIn_wide.2 ?_;refine wp_seq (wp_mono (hC 9 H.ntmps _ c0 _ .normal (St.put ⟨fk 0 [.stk b g n],[],k⟩ 2 (Oa [])) a M w m0 (fH _ NW (sq 1 _)) hI hN) ?_);rintro ex a1 w1 ⟨rfl,M1,ao,T,aA⟩
  show Code.wp P _ _ a1 w1
  refine wp_seq (wp_seq ?_);refine wp_region_list ?_;rw[q];have X:ii P fi (du (bf (λ_=>none) 0) (λ_=>none)):=λf vs k r E F h=>by simp[du] at h
  refine ml (vU X ao rfl N NW (s':=St.put (St.put ⟨fk 0 [.stk b g n],[],k⟩ 2 (Oa [])) 3 (.stk b g n)) rfl (λj M2 m C S ax=>?_));have h3:=(C.env 3 (.stk b g n) rfl).2;obtain⟨ad,cc,hv⟩:∃ad cc,j.tmps.getD 3 undef= .slice (some ad) n cc:=by
   generalize j.tmps.getD 3 undef=u at h3;cases (show RepP fi M2 m (.stk b g n) u from h3) with
   |stk _ _ _ aD c hb hg hA hc=>exact⟨_,c,rfl⟩
  have hg:Region.wanted o2 (yielded G j.tmps)=true:=by unfold Region.wanted;rw[I]
  refine ml ?_;rw[if_pos hg];refine vV Q L ht hv ?_;unfold wpList;have B:=C.put (d:=4) NW (p:= .bool false) (v:= .bool false) ((RepP.bool (fi:=fi) (M:=M2) (w:=m) false).repE.repAt);have O:(j.put (some 4) (.bool false)).tmps.size=j.tmps.size:=by simp[Act.put]
  have y:(j.put (some 4) (.bool false)).eval (.tmp 4)= .bool false:=by have ap:4<j.tmps.size:=NW;simp[Act.eval,Act.put,cQ,Array.getElem?_setIfInBounds,ap]
  show Code.wp P _ _ (j.put (some 4) (.bool false)) m
  generalize j.put (some 4) (.bool false)=a3 at B O y;refine wp_cond_false y ?_;refine wp_skip ?_
  show Code.wp P _ _ a3 m
  obtain⟨s',r1,r2,r3,r4⟩:=Nc (pg:=λ_=>none) (bytes:=bytes) (s:=(St.put (St.put ⟨fk 0 [.stk b g n],[],k⟩ 2 (Oa [])) 3 (.stk b g n)).put 4 (.bool false)) (b:=b) (gen:=g) (n:=n) (xs:=xs) rfl aB hn al U;refine wp_seq (wp_mono (hC 9 H.ntmps _ c3 _ .normal s' a3 M2 m mK (fH _ NW r1) B NW) ?_);rintro ex a4 w4 ⟨rfl,M4,an,R,av⟩;refine wp_ret ?_;obtain⟨q1,q2⟩:=an.keep [2] 0;refine⟨rfl,_,?_,((T.trans S).trans R).trans q2,NW⟩;have e1:Lw.keep 0 [2] s'.env=[(2,.stk k.length 1 n)]:=by simp only[Lw.keep,r2];rfl
  rw[e1,r3,r4] at q1;exact q1
 rename_i o z' xs;by_cases hx:xs=[]
 ·rw[if_pos hx] at h
  exact CQ hP hf hb l hr h
 rw[if_neg hx] at h;split at h
 case isFalse=>cases h
 rename_i hc;obtain⟨rfl,al,U⟩:=hc;cases h
 let fn:IFunc:={np:=1,res:=[.t 2],own:=true,trunc:=false,body:= .skip }
 refine oe (fn:=fn) (x:=(.ret,⟨[(2,.stk k.length 1 xs.length)],[],k++[.stk 1 xs]⟩)) hf hb hr ?_ (by simp[fn,ag,results,get,af,az,PV.cells,PV.one]);intro a M w hI hN;unfold nG at l;simp only[aS] at l;obtain⟨m0,m2,m3,D⟩:=l;split at D
 case h_2=>cases D
 rename_i o1 o2 q;simp only[aS,cY,aH,Option.isNone_iff_eq_none] at D;obtain⟨N,L,I,h4,i⟩:=D;split at i
 case h_2=>cases i
 rename_i t t2 Q;split at i
 case h_2=>cases i
 rename_i e ht;have hC:=vT (fi:=fi) hP;rw[qD];refine wpIn_wide.2 ?_;refine wp_seq (wp_mono (hC 9 H.ntmps _ c0 _ .normal (St.put ⟨fk 0 [.sl o 1 xs],[],k⟩ 2 (Oa [])) a M w m0 (fH _ NW (sq 1 _)) hI hN) ?_);rintro ex a1 w1 ⟨rfl,M1,ao,T,aA⟩
 show Code.wp P _ _ a1 w1
 refine wp_seq (wp_seq ?_);refine wp_region_list ?_;rw[q];have X:ii P fi (du (bf (λ_=>none) 0) (λ_=>none)):=λf vs k r E F h=>by simp[du] at h
 refine ml (vU X ao rfl N NW (s':=St.put (St.put ⟨fk 0 [.sl o 1 xs],[],k⟩ 2 (Oa [])) 3 (NZ xs)) rfl (λj M2 m C S ax=>?_));have h3:=(C.env 3 (NZ xs) rfl).2;obtain⟨ad,cc,hv⟩:∃ad cc,j.tmps.getD 3 undef= .slice (some ad) xs.length cc:=by
  generalize j.tmps.getD 3 undef=u at h3;cases (show RepP fi M2 m (NZ xs) u from h3) with
  |sl _ _ A cc b' o' vf hA=>exact⟨_,cc,by rw[hA.resolve_left hx]⟩
 have hg:Region.wanted o2 (yielded G j.tmps)=true:=by unfold Region.wanted;rw[I]
 refine ml ?_;rw[if_pos hg];refine vV Q L ht hv ?_;unfold wpList;have B:=C.put (d:=4) NW (p:= .bool false) (v:= .bool false) ((RepP.bool (fi:=fi) (M:=M2) (w:=m) false).repE.repAt);have O:(j.put (some 4) (.bool false)).tmps.size=j.tmps.size:=by simp[Act.put]
 have y:(j.put (some 4) (.bool false)).eval (.tmp 4)= .bool false:=by have ap:4<j.tmps.size:=NW;simp[Act.eval,Act.put,cQ,Array.getElem?_setIfInBounds,ap]
 show Code.wp P _ _ (j.put (some 4) (.bool false)) m
 generalize j.put (some 4) (.bool false)=a3 at B O y;refine wp_cond_false y ?_;refine wp_skip ?_
 show Code.wp P _ _ a3 m
 obtain⟨s',r1,r2,r3,r4⟩:=Nb (pg:=λ_=>none) (bytes:=bytes) (s:=(St.put (St.put ⟨fk 0 [.sl o 1 xs],[],k⟩ 2 (Oa [])) 3 (NZ xs)).put 4 (.bool false)) (o:=o) (xs:=xs) rfl al U;refine wp_seq (wp_mono (hC 9 H.ntmps _ c3 _ .normal s' a3 M2 m mK (fH _ NW r1) B NW) ?_);rintro ex a4 w4 ⟨rfl,M4,an,R,av⟩;refine wp_ret ?_;obtain⟨q1,q2⟩:=an.keep [2] 0;refine⟨rfl,_,?_,((T.trans S).trans R).trans q2,NW⟩;have e1:Lw.keep 0 [2] s'.env=[(2,.stk k.length 1 xs.length)]:=by simp only[Lw.keep,r2];rfl
 rw[e1,r3,r4] at q1;exact q1
def CU (P:Program) (d:FI) (a F:Nat):Bool:=
 match P.funcs[F]? with
 |some b=>match b.body with
  |some c=>vY P d a b.ntmps c&&fE P [.t 2] b.results.toList
  |none=>false
 |none=>false
theorem Ng (g:P.follows .mixedOrders=true) {F:Nat} (h:CU P fi bytes F=true) (e:Ok) (f:Ol) (r:PV) (a:Ol) (hr:gQ bytes e f=some (r,a)):eG P fi F e f r a:=by
 unfold CU at h;cases d:P.funcs[F]? with
 |none=>rw[d] at h;cases h
 | some i=>
  rw[d] at h;simp only at h;cases b:i.body with
  |none=>rw[b] at h;cases h
  |some c=>
   rw[b] at h;simp only[aS] at h;exact Nf g d b h.1 h.2 hr
end
end
end Go.Lw