/-
  The texts that the proof stands on, part 28.
-/
import Derived.Test.YtmodipglnngghabGreatDoorDecideTextsZ1
set_option linter.unusedVariables false
set_option linter.unusedSimpArgs false
set_option linter.unnecessarySimpa false

set_option maxRecDepth 100000
set_option maxHeartbeats 4000000
namespace Go.Lw
open Go
section
attribute [local congr] bu
attribute [local simp] au
def ma (L:List Nd) (d:Oi) (x:Nd):Int:=
 cy x.k x.w (d.getD x.a.toNat 0) (d.getD x.b.toNat 0) (d.getD x.c.toNat 0) x.n (wdJ L x.k 0 x.a) (wdJ L x.k 1 x.b)
def fR (L:List Nd):Oi->Oi->Oi->List Nd->Oi
 |acc,_,_,[]=>acc
 |acc,ss,ks,x::l=>
  if x.k=1 then fR L (acc++[x.n]) ss ks l else if x.k=3 then fR L (acc++[ss.headD 0]) ss.tail ks l
  else if x.k=2 then fR L (acc++[ks.headD 0]) ss ks.tail l else fR L (acc++[ma L acc x]) ss ks l
def InW (L:List Nd) (a:Oi):Prop:=∀j:Nat,j<a.length->0<=a.getD j 0/\a.getD j 0<((2^(wAt L j).toNat:Nat):Int)
structure VGood (L:List Nd) (i:Nat) (acc ss ks:Oi):Prop where
 len:acc.length=i
 inw:InW L acc
 sl:ss.length=(da 3 i (L.drop i)).length
 sw:kE L (da 3 i (L.drop i)) ss=0
 kl:ks.length=(da 2 i (L.drop i)).length
 kw:kE L (da 2 i (L.drop i)) ks=0
theorem At {L:List Nd} {a:Int} {d c:Oi} (e:c.length=(a::d).length) (h:kE L (a::d) c=0) :
  ∃v b,c=v::b/\0<=v/\v<((2^(wAt L a).toNat:Nat):Int)/\b.length=d.length/\kE L d b=0:=by
 cases c with
 |nil=>simp at e
 | cons v b=>
  rw[kE] at h;split at h
  ·rename_i f
   exact⟨v,b,rfl,f.1,f.2,by simpa using e,h⟩
  ·cases h
theorem rL {L:List Nd} {i:Nat} {x:Nd} (a:L[i]?=some x):wAt L (i:Int)=x.w:=by unfold wAt;rw[aK,Int.toNat_natCast,a];rfl
theorem InW.push {L:List Nd} {a:Oi} {i:Nat} {x:Nd} {v:Int} (h:InW L a) (f:a.length=i) (c:L[i]?=some x) (k:0<=v) (g:v<((2^x.w.toNat:Nat):Int)):InW L (a++[v]):=by
 intro j d;rw[aQ,List.length_singleton] at d;by_cases b:j<a.length
 ·have e:(a++[v]).getD j 0=a.getD j 0:=by simp[aK,aI b]
  rw[e];exact h j b
 ·have l:j=i:=NW
  subst l;have e:(a++[v]).getD j 0=v:=by simp[aK,<-f]
  rw[e,rL c];exact⟨k,g⟩
section
variable {L:List Nd} {i:Nat} {acc ss ks:Oi} {x:Nd}
theorem VGood.other (h:VGood L i acc ss ks) (b:L[i]?=some x) (l:x.k≠3) (m:x.k≠2) {v:Int} (j:0<=v) (g:v<((2^x.w.toNat:Nat):Int)):VGood L (i+1) (acc++[v]) ss ks:=by obtain⟨a,rfl⟩:=aD.1 b;obtain⟨f,n,e,d,e5,c⟩:=h;rw[aJ a,da,if_neg l] at e d;rw[aJ a,da,if_neg m] at e5 c;exact⟨by simp[f],n.push f b j g,e,d,e5,c⟩
theorem VGood.state (h:VGood L i acc ss ks) (c:L[i]?=some x) (n:x.k=3):∃v a,ss=v::a/\VGood L (i+1) (acc++[v]) a ks:=by obtain⟨b,rfl⟩:=aD.1 c;obtain⟨j,o,g,f,e5,e⟩:=h;rw[aJ b,da,if_pos n] at g f;rw[aJ b,da,if_neg NW] at e5 e;obtain⟨v,a,rfl,l,d,m,hw⟩:=At g f;rw[rL c] at d;exact⟨v,a,rfl,by simp[j],o.push j c l d,m,hw,e5,e⟩
theorem VGood.input (h:VGood L i acc ss ks) (c:L[i]?=some x) (n:x.k=2):∃v a,ks=v::a/\VGood L (i+1) (acc++[v]) ss a:=by obtain⟨b,rfl⟩:=aD.1 c;obtain⟨j,o,g,f,e5,e⟩:=h;rw[aJ b,da,if_neg NW] at g f;rw[aJ b,da,if_pos n] at e5 e;obtain⟨v,a,rfl,l,d,m,hw⟩:=At e5 e;rw[rL c] at d;exact⟨v,a,rfl,by simp[j],o.push j c l d,g,f,m,hw⟩
structure pf (L:List Nd) (i:Nat) (x:Nd):Prop where
 fit:ir x.k x.w x.n (wdJ L x.k 0 x.a) (wdJ L x.k 1 x.b) (wdJ L x.k 2 x.c)=0
 a:0<=x.a/\x.a<i
 b:0<=x.b/\x.b<i
 c:0<=x.c/\x.c<i
 inn:oV L x
theorem uV (d:L[i]?=some x) (hn:eA L i x=0) (l:¬x.k<=3):pf L i x:=by
 unfold eA at hn;split at hn
 ·omega
 split at hn
 ·omega
 split at hn
 ·omega
 rename_i a;have f:i<=L.length:=Nat.le_of_lt (aD.1 d).1;have c:=ux f a;have b:=(rj hn).1;have e:=uc b;unfold gW eV at a;simp only[not_or] at a;obtain⟨j,h,g⟩:=a;rw[if_pos e] at j;refine⟨hn,NW,?_,?_,c⟩
 ·split at h<;>omega
 ·split at g<;>omega
theorem uW (hn:eA L i x=0) (a:x.k=1):0<=x.n/\x.n<((2^x.w.toNat:Nat):Int):=by
 unfold eA at hn;split at hn
 ·omega
 split at hn
 ·omega
 rw[if_pos NW] at hn;split at hn
 ·omega
 rename_i h;exact aP λb=>h ⟨a,b⟩
theorem JF {k w a b c n w0 w1:Int} (hw:1<=w/\w<=8):0<=cy k w a b c n w0 w1/\cy k w a b c n w0 w1<((2^w.toNat:Nat):Int):=by obtain⟨W,rfl⟩:=JD (show 0<=w by omega);rw[fA k a b c n w0 w1 NW,Int.toNat_natCast];have:(0:Int)<((2^W:Nat):Int):=Int.natCast_pos.2 (Nat.two_pow_pos W);exact⟨Int.emod_nonneg _ NW,Int.emod_lt_of_pos _ this⟩
theorem VGood.op (h:VGood L i acc ss ks) (d:L[i]?=some x) (f:x.k≠3) (g:x.k≠2) (e:pf L i x):VGood L (i+1) (acc++[ma L acc x]) ss ks:=
 have hw:=JF (k:=x.k) (a:=acc.getD x.a.toNat 0) (b:=acc.getD x.b.toNat 0) (c:=acc.getD x.c.toNat 0) (n:=x.n) (w0:=wdJ L x.k 0 x.a) (w1:=wdJ L x.k 1 x.b) (rj e.fit).2.1
 h.other d f g hw.1 hw.2
theorem JG (h:VGood L i acc ss ks) {a:Int} (ha:0<=a/\a<i):0<=acc.getD a.toNat 0/\acc.getD a.toNat 0<((2^(wAt L a).toNat:Nat):Int):=by
 have:=h.inw a.toNat (by rw[h.len];omega)
 rwa [show ((a.toNat:Nat):Int)=a by omega] at this
theorem JH (h:VGood L i acc ss ks) (g:pf L i x) (e:Ol) :
  ac pg 66 [I x.k,I x.w,I (acc.getD x.a.toNat 0),I (acc.getD x.b.toNat 0),I (acc.getD x.c.toNat 0),I x.n,gV L x] e=some (I (ma L acc x),e):=by
 obtain⟨j,hw,f,m,r,s,t,d⟩:=rj g.fit;have o:=uc j;unfold wOk at f m r;rw[if_pos o] at f;refine HE _ _ _ _ _ _ _ _ _ j (JG h g.b).1 (λp=>?_) f (λq=>?_) NW e
 ·unfold b9 at d
  by_cases l:s=6
  ·simp[l] at d;omega
  ·by_cases hn:x.n=0
   ·omega
   ·simp[l,hn] at d
 ·have:1<ar x.k:=by rcases q with h|h<;>rw[h]<;>decide
  rwa [if_pos this] at m
theorem Au {m:Md} {c d:Oi} (a:jq m.nodes (ci m.nodes 3) c=0) (b:jq m.nodes (ci m.nodes 2) d=0):VGood m.nodes 0 [] c d:=by
 unfold jq at a b;split at a
 ·cases a
 split at b
 ·cases b
 exact⟨rfl,λj e=>by simp at e,by rw[bJ];rename_i h _;exact aP h,by rw[bJ];exact a,by rw[bJ];rename_i _ h;exact aP h,by rw[bJ];exact b⟩
theorem Av:∀{l:List Nd} {acc ss ks:Oi},(fR L acc ss ks l).length=acc.length+l.length
 |[],_,_,_=>rfl
 |x::l,acc,ss,ks=>by
  rw[fR]
  repeat' split
  all_goals rw[Av];simp;omega
theorem ph (d:∀(j:Nat) (x:Nd),L[j]?=some x->eA L j x=0):∀k i acc ss ks,i+k=L.length->VGood L i acc ss ks->InW L (fR L acc ss ks (L.drop i))
 |0,i,acc,ss,ks,h,c=>by rw[aM NW];exact c.inw
 | k +1,i,acc,ss,ks,h,c=>by
  have e:i<L.length:=NW;have b:L[i]?=some L[i]:=aA e;have hn:=d i _ b;rw[aJ e,fR];split
  ·rename_i l
   have:=uW hn l;exact ph d k (i+1) _ _ _ NW (c.other b NW NW this.1 this.2)
  ·split
   ·rename_i f
    obtain⟨v,m,rfl,a⟩:=c.state b f;exact ph d k (i+1) _ _ _ NW a
   ·split
    ·rename_i g
     obtain⟨v,n,rfl,a⟩:=c.input b g;exact ph d k (i+1) _ _ _ NW a
    ·rename_i l f g
     have p:¬L[i].k<=3:=by
      intro o;unfold eA at hn;split at hn
      ·omega
      ·omega
     exact ph d k (i+1) _ _ _ NW (c.op b f g (uV b hn p))
end
end
section
attribute [local congr] bu
attribute [local simp] au nkS
section
variable {pre:Ol} {ins:Int} {v:On}
def cI (N:Nat):Nat->Nat->Oi
 |_,0=>[]
 |i,m+1=>((N/2^i%2:Nat):Int)::cI N (i+1) m
def cB (N:Nat):Nat->Nat->On
 |_,0=>[]
 |i,m+1=>decide (N/2^i%2=1)::cB N (i+1) m
theorem lk (N:Nat):∀m i,(cB N i m).length=m
 |0,_=>rfl
 |m+1,i=>by rw[cB,aV,lk N m]
theorem uX (N:Nat):∀m i,num (cB N i m)=N/2^i%2^m
 |0,i=>by simp[cB,num,Nat.mod_one]
 | m+1,i=>by
  rw[cB,num,uX N m,Nat.pow_succ 2 i,<-Nat.div_div_eq_div_mul,Nat.pow_succ 2 m,Nat.mul_comm (2^m) 2,Nat.mod_mul];generalize N/2^i=q;by_cases h:q%2=1
  ·simp[h]
  ·have:q%2=0:=NW
   simp[this]
theorem Aw (a:0<=ins) {A:Om} (N:Nat):∀m i,Ls ins v A (cI N i m) (cB N i m)
 |0,_=>trivial
 |m+1,i=>by
  refine⟨?_,Aw a N m (i+1)⟩;by_cases h:N/2^i%2=1
  ·rw[h,aG rfl];exact oQ a
  ·rw[show N/2^i%2=0 by omega,aF NY];exact oO a
theorem Ax {k w a b c:Int} {N W:Nat} (n:N<256) (hw:W<=8) (G:Ol):∀(m i:Nat) (d:Oi),i+m=W->d.length=i->
  ab pg qde ⟨[(3,Ob),(11,Oa (d.map I)),(50,I (W:Int)),(51,I (i:Int))],[[I k,I w,I a,I b,I c,I (N:Int)]],G⟩=Og ⟨[(11,Oa ((d++cI N i m).map I))],[],G⟩
 |0,i,d,h,_=>by
  have e:¬((i:Nat):Int)<(W:Int):=NW;rw[cI,bE];refine (bn (s1:=?J) (aa ?Z)).trans ?Y
  case Z=>simp[q8q,e];rfl
  case Y=>simp[keep]
 | m+1,i,d,h,ha=>by
  have e:((i:Nat):Int)<(W:Int):=NW;have g:(0:Int)<=(i:Int):=NW;have j:(d.map I).length=i:=by simpa using ha
  have f:(i+1)*8<=maxBytes:=by have:=MB;omega
  have p:=wrS' i NW;have r:N/2^i<=N:=Nat.div_le_self _ _;have o:jI .i64 (kg .i64 (N:Int) (i:Int)) 1=((N/2^i%2:Nat):Int):=by rw[qX _ _ NW,show (1:Int)=((1:Nat):Int) from rfl,tP NW NW,Nat.and_one_is_mod]
  have l:=Ax (k:=k) (w:=w) (a:=a) (b:=b) (c:=c) n hw G m (i+1) (d++[((N/2^i%2:Nat):Int)]) NW (by simp;omega);rw[aT,bI (l₁:=d) (l₂:=[((N/2^i%2:Nat):Int)])] at l;refine ay (s1:=⟨[(3,Ob),(11,Oa (d.map I++[((N/2^i%2:Nat):Int)].map I)),(50,I (W:Int)),(51,I ((i+1:Nat):Int))],[[I k,I w,I a,I b,I c,I (N:Int)]],G⟩) (aa ?K) l
  case K=>
   generalize d.map I=X,N/2^i%2=q at *;simp[q8q,e];simp[g,j,o,f,p]
theorem JI {k w a b c:Int} {N W:Nat} {X e d:Ok} {l j i:Bool} {G:Ol} (h:k=1) (hw:w=(W:Int)) (n:W<=8) (o:N<256) :
  ab pg qa (nkS pre k w a b c N X e d l j i G)=Oh ⟨[(4,NZ ((cI N 0 W).map I))],[],G⟩:=by
 have m:(k==1)=true:=by rw[h];rfl
 clear h;have f:=Ax (k:=k) (w:=w) (a:=a) (b:=b) (c:=c) o n G W 0 [] NW rfl;rw[bF,<-hw] at f;simp only[bU,aR] at f;generalize (cI N 0 W).map I=R at *;have g:ab pg q8r ⟨[(11,Oa R)],[],G⟩=Oh ⟨[(4,NZ R)],[],G⟩:=aa (by simp[q8r]);refine aa ?_;simp[qa,m,f,g]
theorem JJ {H:BC} {A h f:Om} {X a:Ok} {x y c e d:Int} {n i:Nat} (p:i<n) (hn:n<=1000) (k:X[i]?=some (I x)) (j:a[i]?=some (I y))
  (m:ac pg 224 [Oe (pre.length+2) 0,I x,I y] (H.g pre ins A)=some (I e,H.g pre ins h))
  (l:ac pg 49 [Oe (pre.length+1) 0,I c,I (cZ e)] (H.g pre ins h)=some (I d,H.g pre ins f)) :
  evK pg q4z fiK ⟨[(0,(Oe (pre.length+2) 0)),(8,(NZ X)),(9,(NZ a)),(19,(.int .i64 c)),(157,(.int .i64 n)),(158,(.int .i64 i))],[],(H.g pre ins A)⟩=Og ⟨[(0,Oe (pre.length+2) 0),(8,NZ X),(9,NZ a),(19,I d),(157,I n),(158,I ((i+1:Nat):Int))],[],H.g pre ins f⟩:=by
 have b:(i:Int)<(n:Int):=NW;have o:=wrS' i NW;simp[q4z,b,k,j,jo,keptB,rt,List.getElem?_cons_zero,-getElem?_pos,m,kx,l,o]
theorem Ay (f:Ol) (l:(v.length:Int)=ins):∀(rx h a k:Oi) (m cs:On) (A:Om) (c:Int) (o:Bool),ck ins A=0->A.length+4*rx.length<=1000000->k.length=a.length->h.length=rx.length->a.length+rx.length<=1000->
  Ls ins v A rx m->Ls ins v A h cs->Lt ins v A c o->
  ∃t B,(∀H:BC,ab pg q8s ⟨[(0,Oe (f.length+2) 0),(8,LI (a++rx)),(9,LI (k++h)),(19,I c),(157,I ((a.length+rx.length:Nat):Int)),(158,I (a.length:Int))],[],H.g f ins A⟩=Og ⟨[(19,I B)],[],H.g f ins t⟩)/\
   Stp ins A t (4*rx.length)/\Lt ins v t B (eqB m cs o)
 |[],[],a,k,[],[],A,c,o,s,_,_,_,_,_,_,j=>by
  refine⟨A,c,λH=>?_,Stp.refl s,j⟩;have r:¬((a.length:Nat):Int)<((a.length+([]:Oi).length:Nat):Int):=NX;refine (bn (s1:=?J) (aa ?Z)).trans ?Y
  case Z=>simp[q4z,r];rfl
  case Y=>simp[keep]
 |x::rx,y::h,a,k,b::m,e::cs,A,c,o,s,E,F,G,hn,w,u,j=>by
  simp only[aV] at E G hn;obtain⟨A1,d,N,s1,D⟩:=rz f l s NW w.1 u.1;have b1:=s1.2.1;obtain⟨U,S,M,q,C⟩:=jT f l s1.1 NW (j.mono l s1) (D.not s1.1);have X:=q.2.1;have p:=s1.trans q;obtain⟨T,R,Q,P,O⟩:=Ay f l rx h (a++[x]) (k++[y]) m cs U S _ q.1 NW (by simp;omega) NW (by simp;omega) (w.2.mono l p) (u.2.mono l p) C;refine⟨T,R,λH=>?_,(p.trans P).mono (by simp only[aV];omega),O⟩;have L:=JJ (H:=H) (n:=a.length+(x::rx).length) (i:=a.length) NX (by simp only[aV];omega) (get_at (rx:=rx) (x:=x) rfl) (get_at (rx:=h) (x:=y) F) (N H) (M H)
  refine ay (aa L) ?_;have z:=Q H;rw[show (a++[x]).length+rx.length=a.length+(x::rx).length by simp;omega,show (a++[x]).length=a.length+1 by simp,aT a [x] rx,aT k [y] h] at z;exact z
def NS (i:Ol) (h:Int) (v:On) (A:Om) (k w n:Int) (X e d:Oi) (l:Int):Prop:=
 ∃o j m f p,(∀(H:BC) (a b c:Int) (s r q:Bool),ab pg qa (nkS i k w a b c n (X.map I) (e.map I) (d.map I) s r q (H.g i h A))=Oh ⟨[(4,.sl p 1 (j.map I))],[],(H.push f).g i h o⟩)/\
  Stp h A o 5000/\Ls h v o j m/\(m.length:Int)=w/\(num m:Int)=l
theorem uY (pre:Ol) {A:Om} {c f:Nat} {p:PV} {op:Bool->Bool->Bool} (z:(v.length:Int)=ins) (B:az p=true)
  (m:∀(e:Om),ck ins e=0->e.length+c<=1000000->∀(a b:Int) (l k:Bool),Lt ins v e a l->Lt ins v e b k->∃j n,(∀H:BC,ac pg f [p,I a,I b] (H.g pre ins e)=some (I n,H.g pre ins j))/\Stp ins e j c/\Lt ins v j n (op l k))
  (D:ck ins A=0) {xs ys:Oi} {o cs:On} (r:ys.length=xs.length) (hn:xs.length<=1000) (hs:A.length+c*xs.length<=1000000) (y:Ls ins v A xs o) (x:Ls ins v A ys cs) :
  ∃q outs,(∀H:BC,ac pg 222 [LI xs,LI ys,.bfn f [p]] (H.g pre ins A)=some (LI outs,H.g pre ins q))/\Stp ins A q (c*xs.length)/\Ls ins v q outs (List.zipWith op o cs):=by
 obtain⟨u,outs,Q,P,O,N,M⟩:=uo (pre:=pre) (f:=f) (ap:=λ_ w=>[p]++w) (CC:=λ_=>True) (op:=op) (c:=c) z (λe d s h a b l k ha E=>by obtain⟨j,n,L,G,F⟩:=m e s.1 h a b l k ha E;exact⟨j,n,λH _=>L H,G,F⟩) xs ys o cs A 0 (Stp.refl D) r hs y x;refine⟨u xs.length,outs,λH=>?_,N,M⟩;have t:=um (xs:=xs) (ys:=ys) (outs:=outs) (vy:=LI ys) (fn:= .bfn f [p]) (f:=f) (caps:=[p]) (hs:=λi=>H.g pre ins (u i)) hn r P (λi=> .inl rfl) (.inr ⟨rfl,rfl⟩) (by simp only[List.all_cons,List.all_nil,B];rfl) (λi C=>O i C H trivial);simp only[Q] at t;exact t
section
variable {k w n s av bv cv:Int} {X Y Z:Oi} {BX BY BZ:On} {A:Om}
theorem Az {a:Int} {v:On} {A:Om} (e:ck a A=0):∀{X:Oi} {BX:On} {m:Nat},Ls a v A X BX->X.length=m+1->Ls a v A (X.set m (cZ (X.getD m 0))) (gr BX):=by
 intro X BX m h c;have b:gr BX=BX.set m (!BX.getD m false):=by unfold gr;rw[h.len,c,Nat.add_sub_cancel]
 rw[b];clear b
 induction m generalizing X BX with
 |zero=>match X,BX,h with|_::_,_::_,h=>exact⟨h.1.not e,h.2⟩
 |succ m d=>match X,BX,h with|_::_,_::_,h=>exact⟨h.1,d h.2 (by simpa using c)⟩
theorem AA {a:Int} {v:On} {A:Om} {x:Int} {b:Bool} (h:Lt a v A x b):∀n:Nat,Ls a v A (List.replicate n x) (List.replicate n b)
 |0=>trivial
 |n+1=>⟨h,AA h n⟩
theorem JK (d:k=4) (q:(v.length:Int)=ins) (e:ck ins A=0) (t:A.length+5000<=1000000) (hw:1<=w/\w<=8) (g:cn k=some s) (j:b9 s w n BX.length BY.length BZ.length=true) (u:1<=BX.length/\BX.length<=8) (f:Ls ins v A X BX) (h:(num BX:Int)=av) :
  NS pre ins v A k w n X Y Z (cy k w av bv cv n BX.length BY.length):=by
 obtain⟨r,_,_,_⟩:=dX e;obtain⟨W,rfl⟩:∃W:Nat,w=W:=⟨w.toNat,NW⟩
 rw[d,show cn 4=some 1 from rfl] at g;cases g;simp[b9] at j;have i:=f.len;have l:1<=W/\W<=8:=NW;refine⟨A,X.map cZ,BX.map (!·),[],false,λH a b c p o m=>?_,(Stp.refl e).mono NW,f.not e,by simp;omega,?_⟩
 ·rw[fY]
  exact IR d (rA NW _)
 ·rw[d,<-h];exact v4 l NW
theorem JL (e:k=5) (o:(v.length:Int)=ins) (h:ck ins A=0) (B:A.length+5000<=1000000) (hw:1<=w/\w<=8) (g:cn k=some s) (q:b9 s w n BX.length BY.length BZ.length=true) (C:1<=BX.length/\BX.length<=8) (f:Ls ins v A X BX) (j:(num BX:Int)=av) :
  NS pre ins v A k w n X Y Z (cy k w av bv cv n BX.length BY.length):=by
 obtain⟨p,_,_,_⟩:=dX h;obtain⟨W,rfl⟩:∃W:Nat,w=W:=⟨w.toNat,NW⟩
 rw[e,show cn 5=some 1 from rfl] at g;cases g;simp[b9] at q;have m:=f.len;have r:1<=W/\W<=8:=NW;obtain⟨u,d,t,i,l⟩:=uq pre o h (xs:=List.replicate W 0) (ys:=X) (by simp;omega) (by simp;omega) (by simp;omega) (Ls.zeros p.1 W) f;refine⟨u,d,_,[],false,λH a b c z y x=>?_,i.mono (by simp;omega),l,by rw[rn (by simp[zB];omega)];simp[zB],?_⟩
 ·rw[fY]
  exact IS e (ky NW _) (t H)
 ·rw[e,<-j];exact v5 r NW
theorem JM (e:k=6) (i:(v.length:Int)=ins) (l:ck ins A=0) (M:A.length+5000<=1000000) (hw:1<=w/\w<=8) (j:cn k=some s) (y:b9 s w n BX.length BY.length BZ.length=true) (N:1<=BX.length/\BX.length<=8) (h:Ls ins v A X BX) (r:(num BX:Int)=av) (g:Ls ins v A Y BY) (q:(num BY:Int)=bv) :
  NS pre ins v A k w n X Y Z (cy k w av bv cv n BX.length BY.length):=by
 obtain⟨L,_,_,_⟩:=dX l;obtain⟨W,rfl⟩:∃W:Nat,w=W:=⟨w.toNat,NW⟩
 rw[e,show cn 6=some 2 from rfl] at j;cases j;simp[b9] at y;have x:=h.len;have B:1<=W/\W<=8:=NW;have u:=g.len;obtain⟨m,d,E,o,t⟩:=uY pre (c:=1) (f:=49) (p:= Oe (pre.length+1) 0) (op:=(· && ·)) i rfl (λm D C a b P O ha z=>jT pre i D C ha z) l (xs:=X) (ys:=Y) NW NW NW h g;refine⟨m,d,_,[],false,λH a b c I G F=>?_,o.mono NW,t,by rw[nn NW];omega,?_⟩
 ·rw[fY]
  exact IT e jo (E H)
 ·rw[e,<-r,<-q];exact v6 B NW NW
theorem JN (e:k=7) (i:(v.length:Int)=ins) (l:ck ins A=0) (M:A.length+5000<=1000000) (hw:1<=w/\w<=8) (j:cn k=some s) (y:b9 s w n BX.length BY.length BZ.length=true) (N:1<=BX.length/\BX.length<=8) (h:Ls ins v A X BX) (r:(num BX:Int)=av) (g:Ls ins v A Y BY) (q:(num BY:Int)=bv) :
  NS pre ins v A k w n X Y Z (cy k w av bv cv n BX.length BY.length):=by
 obtain⟨L,_,_,_⟩:=dX l;obtain⟨W,rfl⟩:∃W:Nat,w=W:=⟨w.toNat,NW⟩
 rw[e,show cn 7=some 2 from rfl] at j;cases j;simp[b9] at y;have x:=h.len;have B:1<=W/\W<=8:=NW;have u:=g.len;obtain⟨m,d,E,o,t⟩:=uY pre (c:=1) (f:=223) (p:= Oe (pre.length+2) 0) (op:=(· || ·)) i rfl (λm D C a b P O ha z=>rv pre i D C ha z) l (xs:=X) (ys:=Y) NW NW NW h g;refine⟨m,d,_,[],false,λH a b c I G F=>?_,o.mono NW,t,by rw[nn NW];omega,?_⟩
 ·rw[fY]
  exact IU e (E H)
 ·rw[e,<-r,<-q];exact v7 B NW NW
theorem JO (e:k=8) (i:(v.length:Int)=ins) (l:ck ins A=0) (M:A.length+5000<=1000000) (hw:1<=w/\w<=8) (j:cn k=some s) (y:b9 s w n BX.length BY.length BZ.length=true) (N:1<=BX.length/\BX.length<=8) (h:Ls ins v A X BX) (r:(num BX:Int)=av) (g:Ls ins v A Y BY) (q:(num BY:Int)=bv) :
  NS pre ins v A k w n X Y Z (cy k w av bv cv n BX.length BY.length):=by
 obtain⟨L,_,_,_⟩:=dX l;obtain⟨W,rfl⟩:∃W:Nat,w=W:=⟨w.toNat,NW⟩
 rw[e,show cn 8=some 2 from rfl] at j;cases j;simp[b9] at y;have x:=h.len;have B:1<=W/\W<=8:=NW;have u:=g.len;obtain⟨m,d,E,o,t⟩:=uY pre (c:=3) (f:=224) (p:= Oe (pre.length+2) 0) (op:=(· ^^ ·)) i rfl (λm D C a b P O ha z=>rz pre i D C ha z) l (xs:=X) (ys:=Y) NW NW NW h g;refine⟨m,d,_,[],false,λH a b c I G F=>?_,o.mono NW,t,by rw[nn NW];omega,?_⟩
 ·rw[fY]
  exact IW e (E H)
 ·rw[e,<-r,<-q];exact v8 B NW NW
theorem JP (e:k=9) (r:(v.length:Int)=ins) (i:ck ins A=0) (E:A.length+5000<=1000000) (hw:1<=w/\w<=8) (h:cn k=some s) (u:b9 s w n BX.length BY.length BZ.length=true) (F:1<=BX.length/\BX.length<=8) (g:Ls ins v A X BX) (m:(num BX:Int)=av) (f:Ls ins v A Y BY) (l:(num BY:Int)=bv) :
  NS pre ins v A k w n X Y Z (cy k w av bv cv n BX.length BY.length):=by
 obtain⟨t,_,_,_⟩:=dX i;obtain⟨W,rfl⟩:∃W:Nat,w=W:=⟨w.toNat,NW⟩
 rw[e,show cn 9=some 2 from rfl] at h;cases h;simp[b9] at u;have q:=g.len;have x:1<=W/\W<=8:=NW;have p:=f.len;obtain⟨z,d,G,y,j,o,_⟩:=rD pre r i (xs:=X) (ys:=Y) (c:=0) (bc:=false) NW NW NW g f (oO t.1);refine⟨z,d,_,[],false,λH a b c D C B=>?_,j.mono NW,o,by rw[lg NW];omega,?_⟩
 ·rw[fY]
  exact IY e (y H)
 ·rw[e,<-m,<-l];exact v9 x NW NW
theorem JQ (e:k=10) (r:(v.length:Int)=ins) (i:ck ins A=0) (E:A.length+5000<=1000000) (hw:1<=w/\w<=8) (h:cn k=some s) (t:b9 s w n BX.length BY.length BZ.length=true) (F:1<=BX.length/\BX.length<=8) (g:Ls ins v A X BX) (m:(num BX:Int)=av) (f:Ls ins v A Y BY) (l:(num BY:Int)=bv) :
  NS pre ins v A k w n X Y Z (cy k w av bv cv n BX.length BY.length):=by
 obtain⟨D,_,_,_⟩:=dX i;obtain⟨W,rfl⟩:∃W:Nat,w=W:=⟨w.toNat,NW⟩
 rw[e,show cn 10=some 2 from rfl] at h;cases h;simp[b9] at t;have q:=g.len;have u:1<=W/\W<=8:=NW;have p:=f.len;obtain⟨y,d,x,j,o⟩:=uq pre r i (xs:=X) (ys:=Y) NW NW NW g f;refine⟨y,d,_,[],false,λH a b c C B z=>?_,j.mono NW,o,by rw[rn NW];omega,?_⟩
 ·rw[fY]
  exact IZ e (x H)
 ·rw[e,<-m,<-l];exact v10 u NW NW
theorem JR (f:k=11) (t:(v.length:Int)=ins) (j:ck ins A=0) (G:A.length+5000<=1000000) (hw:1<=w/\w<=8) (i:cn k=some s) (u:b9 s w n BX.length BY.length BZ.length=true) (I:1<=BX.length/\BX.length<=8) (h:Ls ins v A X BX) (o:(num BX:Int)=av) (g:Ls ins v A Y BY) (m:(num BY:Int)=bv) :
  NS pre ins v A k w n X Y Z (cy k w av bv cv n BX.length BY.length):=by
 obtain⟨F,_,_,_⟩:=dX j;obtain⟨W,rfl⟩:∃W:Nat,w=W:=⟨w.toNat,NW⟩
 rw[f,show cn 11=some 2 from rfl] at i;cases i;simp[b9] at u;have r:=h.len;have x:1<=W/\W<=8:=NW;have q:=g.len;have E:12*X.length*X.length<=96*8:=Nat.mul_le_mul NW NW;obtain⟨z,e,d,y,l,p⟩:=Ij pre t j (xs:=X) (ys:=Y) NW NW NW h g;refine⟨z,e,_,d,false,λH a b c D C B=>I0 f (y H),l.mono NW,p,by rw[HR NW];omega,?_⟩;rw[f,<-o,<-m];exact v11 x NW NW
theorem JS (e:k=12) (u:(v.length:Int)=ins) (i:ck ins A=0) (L:A.length+5000<=1000000) (hw:1<=w/\w<=8) (h:cn k=some s) (x:b9 s w n BX.length BY.length BZ.length=true) (M:1<=BX.length/\BX.length<=8) (g:Ls ins v A X BX) (m:(num BX:Int)=av) (f:Ls ins v A Y BY) (l:(num BY:Int)=bv) :
  NS pre ins v A k w n X Y Z (cy k w av bv cv n BX.length BY.length):=by
 obtain⟨I,_,_,_⟩:=dX i;obtain⟨W,rfl⟩:∃W:Nat,w=W:=⟨w.toNat,NW⟩
 rw[e,show cn 12=some 2 from rfl] at h;cases h;simp[b9] at x;have t:=g.len;have y:1<=W/\W<=8:=NW;have p:=f.len;have G:21*(X.length+1)*X.length<=189*8:=Nat.mul_le_mul NW NW;obtain⟨B,q,r,d,z,j,o,F⟩:=zJ pre u i (xs:=X) (ys:=Y) NW NW NW g f;refine⟨B,q,_,d,false,λH a b c E D C=>I3 e (z H),j.mono NW,o,by rw[Im NW];omega,?_⟩;rw[e,<-m,<-l];exact v12 y NW NW _ (Ip NW)
theorem JT (e:k=13) (u:(v.length:Int)=ins) (i:ck ins A=0) (L:A.length+5000<=1000000) (hw:1<=w/\w<=8) (h:cn k=some s) (x:b9 s w n BX.length BY.length BZ.length=true) (M:1<=BX.length/\BX.length<=8) (g:Ls ins v A X BX) (m:(num BX:Int)=av) (f:Ls ins v A Y BY) (l:(num BY:Int)=bv) :
  NS pre ins v A k w n X Y Z (cy k w av bv cv n BX.length BY.length):=by
 obtain⟨I,_,_,_⟩:=dX i;obtain⟨W,rfl⟩:∃W:Nat,w=W:=⟨w.toNat,NW⟩
 rw[e,show cn 13=some 2 from rfl] at h;cases h;simp[b9] at x;have t:=g.len;have y:1<=W/\W<=8:=NW;have p:=f.len;have G:21*(X.length+1)*X.length<=189*8:=Nat.mul_le_mul NW NW;obtain⟨B,q,r,d,z,j,F,o⟩:=zJ pre u i (xs:=X) (ys:=Y) NW NW NW g f;refine⟨B,r,_,d,false,λH a b c E D C=>I4 e (z H),j.mono NW,o,by rw[Io NW];omega,?_⟩;rw[e,<-m,<-l];exact v13 y NW NW _ (Iq NW)
theorem JU (f:k=14) (t:(v.length:Int)=ins) (j:ck ins A=0) (G:A.length+5000<=1000000) (hw:1<=w/\w<=8) (i:cn k=some s) (u:b9 s w n BX.length BY.length BZ.length=true) (I:1<=BX.length/\BX.length<=8) (h:Ls ins v A X BX) (o:(num BX:Int)=av) (g:Ls ins v A Y BY) (m:(num BY:Int)=bv) :
  NS pre ins v A k w n X Y Z (cy k w av bv cv n BX.length BY.length):=by
 obtain⟨F,_,_,_⟩:=dX j;obtain⟨W,rfl⟩:∃W:Nat,w=W:=⟨w.toNat,NW⟩
 rw[f,show cn 14=some 2 from rfl] at i;cases i;simp[b9] at u;have r:=h.len;have x:1<=W/\W<=8:=NW;have q:=g.len;have E:3*X.length*Y.length<=24*8:=Nat.mul_le_mul NW NW;obtain⟨z,e,d,y,l,p⟩:=zZ pre t (up:=true) j (xs:=X) (ys:=Y) NW NW NW h g;refine⟨z,e,_,d,false,λH a b c D C B=>I5 f (y H),l.mono NW,p,by rw[ul];omega,?_⟩;rw[f,<-o,<-m];exact v14 x NW
theorem JV (f:k=15) (t:(v.length:Int)=ins) (j:ck ins A=0) (G:A.length+5000<=1000000) (hw:1<=w/\w<=8) (i:cn k=some s) (u:b9 s w n BX.length BY.length BZ.length=true) (I:1<=BX.length/\BX.length<=8) (h:Ls ins v A X BX) (o:(num BX:Int)=av) (g:Ls ins v A Y BY) (m:(num BY:Int)=bv) :
  NS pre ins v A k w n X Y Z (cy k w av bv cv n BX.length BY.length):=by
 obtain⟨F,_,_,_⟩:=dX j;obtain⟨W,rfl⟩:∃W:Nat,w=W:=⟨w.toNat,NW⟩
 rw[f,show cn 15=some 2 from rfl] at i;cases i;simp[b9] at u;have r:=h.len;have x:1<=W/\W<=8:=NW;have q:=g.len;have E:3*X.length*Y.length<=24*8:=Nat.mul_le_mul NW NW;obtain⟨z,e,d,y,l,p⟩:=zZ pre t (up:=false) j (xs:=X) (ys:=Y) NW NW NW h g;refine⟨z,e,_,d,false,λH a b c D C B=>I6 f (y H),l.mono NW,p,by rw[ul];omega,?_⟩;rw[f,<-o,<-m];exact v15 x NW
theorem JW (d:k=16) (t:(v.length:Int)=ins) (i:ck ins A=0) (F:A.length+5000<=1000000) (hw:1<=w/\w<=8) (h:cn k=some s) (x:b9 s w n BX.length BY.length BZ.length=true) (G:1<=BX.length/\BX.length<=8) (g:Ls ins v A X BX) (o:(num BX:Int)=av) (f:Ls ins v A Y BY) (m:(num BY:Int)=bv) :
  NS pre ins v A k w n X Y Z (cy k w av bv cv n BX.length BY.length):=by
 obtain⟨u,_,_,_⟩:=dX i;obtain⟨W,rfl⟩:∃W:Nat,w=W:=⟨w.toNat,NW⟩
 rw[d,show cn 16=some 3 from rfl] at h;cases h;simp[b9] at x;have r:=g.len;have E:1<=W/\W<=8:=NW;have q:=f.len;obtain rfl:W=1:=NW;obtain⟨z,e,y,l,p⟩:=Ay pre t X Y [] [] BX BY A 1 true i NW rfl NW (by simp;omega) g f (oQ u.1);refine⟨z,[e],[eqB BX BY true],[],true,λH a b c D C B=>?_,l.mono NW,⟨p,trivial⟩,rfl,?_⟩
 ·rw[fY]
  have j:=y H;simp only[bF,cF,cV,aR] at j;exact I7 d (by rw[aW];exact j) (aa (by simp[q8t]))
 ·rw[d,<-o,<-m];exact v16 NW
theorem JX (d:k=17) (r:(v.length:Int)=ins) (i:ck ins A=0) (E:A.length+5000<=1000000) (hw:1<=w/\w<=8) (h:cn k=some s) (t:b9 s w n BX.length BY.length BZ.length=true) (F:1<=BX.length/\BX.length<=8) (g:Ls ins v A X BX) (m:(num BX:Int)=av) (f:Ls ins v A Y BY) (l:(num BY:Int)=bv) :
  NS pre ins v A k w n X Y Z (cy k w av bv cv n BX.length BY.length):=by
 obtain⟨C,_,_,_⟩:=dX i;obtain⟨W,rfl⟩:∃W:Nat,w=W:=⟨w.toNat,NW⟩
 rw[d,show cn 17=some 3 from rfl] at h;cases h;simp[b9] at t;have q:=g.len;have D:1<=W/\W<=8:=NW;have p:=f.len;obtain rfl:W=1:=NW;obtain⟨x,e,u,j,o⟩:=ur pre r i (xs:=X) (ys:=Y) NW NW NW g f;refine⟨x,[e],[iO BX BY],[],true,λH a b c B z y=>?_,j.mono NW,⟨o,trivial⟩,rfl,?_⟩
 ·rw[fY]
  exact I8 d (u H)
 ·rw[d,<-m,<-l];exact v17 NW
theorem JY (f:k=18) (y:(v.length:Int)=ins) (d:ck ins A=0) (L:A.length+5000<=1000000) (hw:1<=w/\w<=8) (i:cn k=some s) (z:b9 s w n BX.length BY.length BZ.length=true) (M:1<=BX.length/\BX.length<=8) (h:Ls ins v A X BX) (r:(num BX:Int)=av) (g:Ls ins v A Y BY) (q:(num BY:Int)=bv) :
  NS pre ins v A k w n X Y Z (cy k w av bv cv n BX.length BY.length):=by
 obtain⟨G,_,_,_⟩:=dX d;obtain⟨W,rfl⟩:∃W:Nat,w=W:=⟨w.toNat,NW⟩
 rw[f,show cn 18=some 3 from rfl] at i;cases i;simp[b9] at z;have x:=h.len;have I:1<=W/\W<=8:=NW;have u:=g.len;obtain rfl:W=1:=NW;obtain⟨m,j⟩:∃m,X.length=m+1:=⟨X.length-1,NW⟩
 have o:=Az d h j;have l:=Az d g (m:=m) NW;obtain⟨C,e,B,p,t⟩:=ur pre y d (xs:=X.set m (cZ (X.getD m 0))) (ys:=Y.set m (cZ (Y.getD m 0))) (by simp;omega) (by simp;omega) (by simp;omega) o l;refine⟨C,[e],[iO (gr BX) (gr BY)],[],true,λH a b c F E D=>?_,p.mono (by simp;omega),⟨t,trivial⟩,rfl,?_⟩
 ·rw[fY]
  exact I9 f (zM j NW _) (zM NW NW _) (B H)
 ·rw[f,<-r,<-q];exact v18 NW NW
theorem JZ (f:k=19) (z:(v.length:Int)=ins) (l:ck ins A=0) (M:A.length+5000<=1000000) (hw:1<=w/\w<=8) (j:cn k=some s) (B:b9 s w n BX.length BY.length BZ.length=true) (N:1<=BX.length/\BX.length<=8) (i:Ls ins v A X BX) (r:(num BX:Int)=av) (h:Ls ins v A Y BY) (p:(num BY:Int)=bv) (g:Ls ins v A Z BZ) (o:(num BZ:Int)=cv) :
  NS pre ins v A k w n X Y Z (cy k w av bv cv n BX.length BY.length):=by
 obtain⟨L,_,_,_⟩:=dX l;obtain⟨W,rfl⟩:∃W:Nat,w=W:=⟨w.toNat,NW⟩
 rw[f,show cn 19=some 4 from rfl] at j;cases j;simp[b9] at B;have y:=i.len;have C:1<=W/\W<=8:=NW;have x:=h.len;have u:=g.len;have e:=i.get (k:=0) NW;obtain⟨E,d,D,m,t⟩:=nb pre z l (c:=X.getD 0 0) (xs:=Y) (ys:=Z) NW NW NW e h g;refine⟨E,d,_,pkJ pre (X.getD 0 0),false,λH a b c I G F=>?_,m.mono NW,t,by unfold d9;split<;>omega,?_⟩
 ·refine Ja f (q:=X.getD 0 0) ?_ (D H _ (.inl rfl))
  rw[aB,aK,aA NW];rfl
 ·rw[f,<-r,<-p,<-o];exact v19 C NW NW NW
theorem J0 (d:k=20) (y:(v.length:Int)=ins) (i:ck ins A=0) (C:A.length+5000<=1000000) (hw:1<=w/\w<=8) (h:cn k=some s) (q:b9 s w n BX.length BY.length BZ.length=true) (E:1<=BX.length/\BX.length<=8) (f:Ls ins v A X BX) (l:(num BX:Int)=av) (e:Ls ins v A Y BY) (j:(num BY:Int)=bv) (D:1<=BY.length/\BY.length<=8) :
  NS pre ins v A k w n X Y Z (cy k w av bv cv n BX.length BY.length):=by
 obtain⟨B,_,_,_⟩:=dX i;obtain⟨W,rfl⟩:∃W:Nat,w=W:=⟨w.toNat,NW⟩
 rw[d,show cn 20=some 5 from rfl] at h;cases h;simp[b9] at q;have o:=f.len;have r:1<=W/\W<=8:=NW;have m:=e.len;have p:WI.wrap ((BX.length:Int)+BY.length)=(BX.length:Int)+BY.length:=aq NW NW;have g:BX.length+BY.length=W:=NW;have z:=MB;refine⟨A,Y++X,BY++BX,[],false,λH a b c x u t=>?_,(Stp.refl i).mono NW,e.app f,by simp;omega,?_⟩
 ·rw[fY,bI]
  exact Jb d (zV (fZ Y) (fZ X) (by simp;omega))
 ·rw[d,<-l,<-j];exact v20 r NW
theorem J3 (d:k=21) (x:(v.length:Int)=ins) (i:ck ins A=0) (z:A.length+5000<=1000000) (hw:1<=w/\w<=8) (h:cn k=some s) (o:b9 s w n BX.length BY.length BZ.length=true) (q:1<=BX.length/\BX.length<=8) (g:Ls ins v A X BX) (j:(num BX:Int)=av) :
  NS pre ins v A k w n X Y Z (cy k w av bv cv n BX.length BY.length):=by
 obtain⟨y,_,_,_⟩:=dX i;obtain⟨W,rfl⟩:∃W:Nat,w=W:=⟨w.toNat,NW⟩
 rw[d,show cn 21=some 6 from rfl] at h;cases h;simp[b9] at o;have l:=g.len;have p:1<=W/\W<=8:=NW;obtain⟨N,rfl⟩:∃N:Nat,n=N:=⟨n.toNat,NW⟩
 have m:WI.wrap ((BX.length:Int)-W)=(BX.length:Int)-W:=aq NW NW;have f:N+W<=X.length:=NW;have e:(X.take (N+W)).drop N=(X.drop N).take W:=by rw[List.drop_take,Nat.add_sub_cancel_left]
 refine⟨A,(X.drop N).take W,(BX.drop N).take W,[],false,λH a b c u t r=>?_,(Stp.refl i).mono NW,(g.drop N).take W,by simp;omega,?_⟩
 ·rw[fY,<-e,List.map_drop,List.map_take]
  exact Jc d (N:=N) (W:=W) rfl (by rw[aq NW NW];omega) (by simpa using f)
 ·rw[d,<-j];exact v21 p q.2
theorem J4 (e:k=22) (r:(v.length:Int)=ins) (h:ck ins A=0) (t:A.length+5000<=1000000) (hw:1<=w/\w<=8) (g:cn k=some s) (l:b9 s w n BX.length BY.length BZ.length=true) (u:1<=BX.length/\BX.length<=8) (f:Ls ins v A X BX) (i:(num BX:Int)=av) :
  NS pre ins v A k w n X Y Z (cy k w av bv cv n BX.length BY.length):=by
 obtain⟨j,_,_,_⟩:=dX h;obtain⟨W,rfl⟩:∃W:Nat,w=W:=⟨w.toNat,NW⟩
 rw[e,show cn 22=some 7 from rfl] at g;cases g;simp[b9] at l;have d:=f.len;have m:1<=W/\W<=8:=NW;refine⟨A,X++List.replicate (W-X.length) 0,BX++List.replicate (W-BX.length) false,[],false,λH a b c q p o=>?_,(Stp.refl h).mono NW,f.app (by rw[<-d];exact Ls.zeros j.1 _),by simp;omega,?_⟩
 ·rw[fY]
  exact Jd e (zL NW NW _)
 ·rw[e,<-i];exact v22 m NW
theorem J5 (f:k=23) (x:(v.length:Int)=ins) (h:ck ins A=0) (z:A.length+5000<=1000000) (hw:1<=w/\w<=8) (g:cn k=some s) (o:b9 s w n BX.length BY.length BZ.length=true) (B:1<=BX.length/\BX.length<=8) (d:Ls ins v A X BX) (i:(num BX:Int)=av) :
  NS pre ins v A k w n X Y Z (cy k w av bv cv n BX.length BY.length):=by
 obtain⟨y,_,_,_⟩:=dX h;obtain⟨W,rfl⟩:∃W:Nat,w=W:=⟨w.toNat,NW⟩
 rw[f,show cn 23=some 7 from rfl] at g;cases g;simp[b9] at o;have j:=d.len;have p:1<=W/\W<=8:=NW;obtain⟨m,l⟩:∃m,X.length=m+1:=⟨X.length-1,NW⟩
 have e:=d.get (k:=m) NW;refine⟨A,X++List.replicate (W-X.length) (X.getD m 0),BX++List.replicate (W-BX.length) (BX.getD (BX.length-1) false),[],false,λH a b c u t r=>?_,(Stp.refl h).mono NW,d.app ?_,by simp;omega,?_⟩
 ·rw[fY]
  refine Je f (q:=X.getD m 0) (m:=m) (by simpa using l) NW ?_ (zL NW NW _);rw[aB,aK,aA NW];rfl
 ·rw[show BX.length-1=m by omega,show W-BX.length=W-X.length by omega]
  exact AA e _
 ·rw[f,<-i];exact v23 p NW
end
end
end
section
attribute [local congr] bu
attribute [local simp] au nkS
theorem J6 {l:Ok} {i:Nat} {v:PV} (h:i<l.length):au l i [v]=l.set i v:=by unfold au;rw[List.set_eq_take_append_cons_drop,if_pos h];simp
def rM (b:Oj):Nat->Oi->Ok->Ok
 |_,[],C=>C
 |i,a::l,C=>rM b (i+1) l (C.set i (LI (b.getD a.toNat [])))
def eY (b:Oj) (t j a:Int):Oi:=if j<t then b.getD a.toNat [] else []
def mc (b:List On) (t j a:Int):On:=if j<t then b.getD a.toNat [] else []
section
variable {pre:Ol} {ins:Int} {v:On}
theorem J7 {G:Ol} {p:Ok} {d:Ok} {o:Bool} {m0 u s r q c0 c1 c2:PV} {A:Ok} {k w a b c n y:Int} {t j:Nat} (D:j<t) (C:t<=3) (z:A[j]?=some (I y)) (v:0<=y)
  (m:G[pre.length+2]?=some (.cells [Oe (pre.length+1) 0,m0,u,s,r,q,.sl o 1 p])) (x:p[y.toNat]?=some (NZ d)) :
  evK pg q4y fiK ⟨[(0,(Oe (pre.length+2) 0)),(3,(Ob)),(5,(Oc)),(22,(NZ A)),(23,(.int .i64 t)),(24,(.int .i64 j))],[[(.int .i64 k),(.int .i64 w),(.int .i64 a),(.int .i64 b),(.int .i64 c),(.int .i64 n)],[c0,c1,c2]],G⟩=Og ⟨[(0,Oe (pre.length+2) 0),(3,Ob),(5,Oc),(22,NZ A),(23,I t),(24,I ((j+1:Nat):Int))],[[I k,I w,I a,I b,I c,I n],[c0,c1,c2].set j (NZ d)],G⟩:=by
 have e:(j:Int)<(t:Int):=NW;have B:=wrS' j NW;have h:j<3:=NW;have i:j<=2:=NW;have l:(0:Int)<=(j:Int):=NW;have f:(j:Int)<3:=NW;have g:au [c0,c1,c2] j [NZ d]=[c0,c1,c2].set j (NZ d):=J6 (by simpa using h);simp[q4y,e];simp[z,m,v,x,l,f,i,B,g,-au]
theorem AB {G:Ol} {d:Oj} {o:Bool} {m0 A v u s:PV} {k w a b c n:Int} (f:G[pre.length+2]?=some (.cells [Oe (pre.length+1) 0,m0,A,v,u,s,.sl o 1 (d.map λl=>LI l)])) :
  ∀(rx e:Oi) (C:Ok),C.length=3->e.length+rx.length<=3->(∀y∈rx,0<=y/\y.toNat<d.length)->
  ab pg qdd ⟨[(0,Oe (pre.length+2) 0),(3,Ob),(5,Oc),(22,LI (e++rx)),(23,I ((e.length+rx.length:Nat):Int)),(24,I (e.length:Int))],[[I k,I w,I a,I b,I c,I n],C],G⟩=
   Og ⟨[(0,Oe (pre.length+2) 0),(3,Ob),(5,Oc)],[[I k,I w,I a,I b,I c,I n],rM d e.length rx C],G⟩
 | [],e,C,h,_,_=>by
  match C,h with
  |[c0,c1,c2],_=>
   have g:¬((e.length:Nat):Int)<((e.length+([]:Oi).length:Nat):Int):=NX;refine (bn (s1:=?J) (aa ?Z)).trans ?Y
   case Z=>simp[q4y,g];rfl
   case Y=>simp[keep,rM]
 | y::rx,e,C,h,m,i=>by
  match C,h with
  | [c0,c1,c2],_=>
   obtain⟨r,q⟩:=i y (aZ ..);have E:(d.map λl=>LI l)[y.toNat]?=some (LI (d.getD y.toNat [])):=by rw[aB,aK,aA q];rfl
   have D:=J7 (pre:=pre) (c0:=c0) (c1:=c1) (c2:=c2) (k:=k) (w:=w) (a:=a) (b:=b) (c:=c) (n:=n) (t:=e.length+(y::rx).length) (j:=e.length) NX m (get_at (rx:=rx) (x:=y) rfl) r f E;refine ay (aa D) ?_;simp only[aV] at m;have p:=AB (k:=k) (w:=w) (a:=a) (b:=b) (c:=c) (n:=n) f rx (e++[y]) ([c0,c1,c2].set e.length (LI (d.getD y.toNat []))) NX (by simp;omega) (λz B=>i z (bC _ B));rw[show (e++[y]).length+rx.length=e.length+(y::rx).length by simp;omega,show (e++[y]).length=e.length+1 by simp,aT e [y] rx] at p;exact p
theorem J8 {x:Nd} {o B:Bool} {G A:Ol} {f:Oj} {m0 F E D C:PV} {R:Ok}
  (v:G[pre.length+2]?=some (.cells [Oe (pre.length+1) 0,m0,F,E,D,C,.sl o 1 (f.map λl=>LI l)]))
  (q:∀y∈dG x,0<=y/\y.toNat<f.length)
  (H:∀p m j:Bool,ab pg qa (nkS pre x.k x.w x.a x.b x.c x.n ((eY f (ar x.k) 0 x.a).map I) ((eY f (ar x.k) 1 x.b).map I) ((eY f (ar x.k) 2 x.c).map I) p m j G)=Oh ⟨[(4,.sl B 1 R)],[],A⟩) :
  ac pg 218 [Oe (pre.length+2) 0,bh x] G=some (NZ R,A):=by
 have g:=uw x G;have r:(dG x).length<=3:=by unfold dG;simp;exact Nat.min_le_right _ _
 have u:=AB (pre:=pre) (k:=x.k) (w:=x.w) (a:=x.a) (b:=x.b) (c:=x.c) (n:=x.n) v (dG x) [] [Oa [],Oa [],Oa []] rfl (by simpa using r) q;simp only[bF,cF,cV,aR] at u;have i:∃p m j:Bool,rM f 0 (dG x) [Oa [],Oa [],Oa []]=[.sl p 1 ((eY f (ar x.k) 0 x.a).map I),.sl m 1 ((eY f (ar x.k) 1 x.b).map I),.sl j 1 ((eY f (ar x.k) 2 x.c).map I)]:=by
  unfold dG eY;rcases gD x.k with h|h|h|h<;>rw[h]
  ·exact⟨true,true,true,rfl⟩
  ·exact⟨false,true,true,rfl⟩
  ·exact⟨false,false,true,rfl⟩
  ·exact⟨false,false,false,rfl⟩
 obtain⟨p,m,j,i⟩:=i;rw[i] at u;have t:=H p m j;unfold nkS at t;generalize (eY f (ar x.k) 0 x.a).map I=X,(eY f (ar x.k) 1 x.b).map I=e,(eY f (ar x.k) 2 x.c).map I=d at *;rw[dT] at g ⊢;have z:((dG x).map I).length=(dG x).length:=NX;unfold LI at g u;generalize (dG x).map I=L at *;refine ak (fn:=q50) (s:=⟨[(4,.sl B 1 R)],[],A⟩) rfl rfl (aa ?J) ?Z
 case J=>simp[qdf,q50,g,z,u,t]
 case Z=>simp[ag,results,q50,ah,am,af]
theorem J9 {x:Nd} {n:Nat} (ha:0<=x.a/\x.a.toNat<n) (f:0<=x.b/\x.b.toNat<n) (d:0<=x.c/\x.c.toNat<n):∀y∈dG x,0<=y/\y.toNat<n:=by
 intro y e;unfold dG at e;have:=cO e;simp at this;rcases this with rfl|rfl|rfl
 ·exact ha
 ·exact f
 ·exact d
structure BitsOk (ins:Int) (v:On) (A:Om) (L:List Nd) (bits:Oj) (bvs:List On) (acc:Oi):Prop where
 bl:bvs.length=bits.length
 al:acc.length=bits.length
 ls:∀j,j<bits.length->Ls ins v A (bits.getD j []) (bvs.getD j [])
 wd:∀j,j<bits.length->((bvs.getD j []).length:Int)=wAt L j
 nm:∀j,j<bits.length->(num (bvs.getD j []):Int)=acc.getD j 0
theorem nr {α:Type} {d x:α} {l:List α} {j:Nat}:(l++[x]).getD j d=if j<l.length then l.getD j d else if j=l.length then x else d:=by
 simp only[aK];by_cases h:j<l.length
 ·rw[if_pos h,aI h]
 ·rw[if_neg h,aN NW]
  by_cases a:j=l.length
  ·rw[if_pos a,a,Nat.sub_self];rfl
  ·rw[if_neg a,List.getElem?_eq_none (by simp;omega)];rfl
theorem BitsOk.mono {A e:Om} {L:List Nd} {a:Oj} {b:List On} {d:Oi} {c:Nat} (f:(v.length:Int)=ins) (h:BitsOk ins v A L a b d) (s:Stp ins A e c):BitsOk ins v e L a b d:=
 ⟨h.bl,h.al,λj g=>(h.ls j g).mono f s,h.wd,h.nm⟩
theorem BitsOk.push {A:Om} {L:List Nd} {a:Oj} {e:List On} {f:Oi} (h:BitsOk ins v A L a e f) {d:Oi} {g:On} {c:Int} (m:Ls ins v A d g) (l:(g.length:Int)=wAt L (a.length:Int)) (k:(num g:Int)=c):BitsOk ins v A L (a++[d]) (e++[g]) (f++[c]):=by
 refine⟨by simp[h.bl],by simp[h.al],λj i=>?_,λj i=>?_,λj i=>?_⟩
 all_goals rw[aQ,aV,cF] at i
 ·rw[nr,nr,h.bl]
  by_cases b:j<a.length
  ·rw[if_pos b,if_pos b];exact h.ls j b
  ·rw[if_neg b,if_neg b,if_pos NW,if_pos NW];exact m
 ·rw[nr,h.bl]
  by_cases b:j<a.length
  ·rw[if_pos b];exact h.wd j b
  ·rw[if_neg b,if_pos NW,show j=a.length by omega];exact l
 ·rw[nr,nr,h.bl,h.al]
  by_cases b:j<a.length
  ·rw[if_pos b,if_pos b];exact h.nm j b
  ·rw[if_neg b,if_neg b,if_pos NW,if_pos NW];exact k
theorem uZ {A:Om} {L:List Nd} {b:Oj} {c:List On} {e:Oi} (h:BitsOk ins v A L b c e) {k j a:Int} (ha:0<=a/\a.toNat<b.length) :
  Ls ins v A (eY b (ar k) j a) (mc c (ar k) j a)/\((mc c (ar k) j a).length:Int)=wdJ L k j a/\(j<ar k->(num (mc c (ar k) j a):Int)=e.getD a.toNat 0):=by
 unfold eY mc wdJ;by_cases d:j<ar k
 ·rw[if_pos d,if_pos d,if_pos d]
  have:=h.wd a.toNat ha.2;rw[show ((a.toNat:Nat):Int)=a by omega] at this;exact⟨h.ls _ ha.2,this,λ_=>h.nm _ ha.2⟩
 ·rw[if_neg d,if_neg d,if_neg d]
  exact⟨trivial,rfl,λh=>absurd h d⟩
theorem Ka (H:Ol) (p:(v.length:Int)=ins) {A:Om} {L:List Nd} {i:Oj} {B:List On} {z:Oi} {x:Nd} (h:BitsOk ins v A L i B z) (D:pf L i.length x) (r:ck ins A=0) (t:A.length+5000<=1000000) :
  NS H ins v A x.k x.w x.n (eY i (ar x.k) 0 x.a) (eY i (ar x.k) 1 x.b) (eY i (ar x.k) 2 x.c) (ma L z x):=by
 obtain⟨U,hw,N,M,g2,s,q,m⟩:=rj D.fit;have ha:=D.a;have Q:=D.b;have E:=D.c;obtain⟨o,G,l⟩:=uZ h (k:=x.k) (j:=0) (a:=x.a) ⟨ha.1,NW⟩;obtain⟨y,F,I⟩:=uZ h (k:=x.k) (j:=1) (a:=x.b) ⟨Q.1,NW⟩;obtain⟨T,O,S⟩:=uZ h (k:=x.k) (j:=2) (a:=x.c) ⟨E.1,NW⟩;have P:=uc U;unfold wOk at N M;rw[if_pos P,<-G] at N;rw[<-F] at M;unfold ma;rw[<-G,<-F];rw[<-G,<-F,<-O] at m;replace l:=l P;generalize eY i (ar x.k) 0 x.a=X,eY i (ar x.k) 1 x.b=f,eY i (ar x.k) 2 x.c=d,mc B (ar x.k) 0 x.a=R at *
 generalize mc B (ar x.k) 1 x.b=BY,mc B (ar x.k) 2 x.c=BZ at *;have u:1<=R.length/\R.length<=8:=NW;clear G F O N g2 ha Q E D h;generalize z.getD x.a.toNat 0=av,z.getD x.b.toNat 0=bv,z.getD x.c.toNat 0=cv,x.w=w,x.n=n,x.k=k at *;have C:k=4\/k=5\/k=6\/k=7\/k=8\/k=9\/k=10\/k=11\/k=12\/k=13\/k=14\/k=15\/k=16\/k=17\/k=18\/k=19\/k=20\/k=21\/k=22\/k=23:=NW;have g:6<=k->k<=20->(num BY:Int)=bv:=λh1 h2=>I (by
  unfold ar;repeat' split
  all_goals omega)
 rcases C with e|e|e|e|e|e|e|e|e|e|e|e|e|e|e|e|e|e|e|e
 ·exact JK e p r t hw q m u o l
 ·exact JL e p r t hw q m u o l
 ·exact JM e p r t hw q m u o l y (g NW NW)
 ·exact JN e p r t hw q m u o l y (g NW NW)
 ·exact JO e p r t hw q m u o l y (g NW NW)
 ·exact JP e p r t hw q m u o l y (g NW NW)
 ·exact JQ e p r t hw q m u o l y (g NW NW)
 ·exact JR e p r t hw q m u o l y (g NW NW)
 ·exact JS e p r t hw q m u o l y (g NW NW)
 ·exact JT e p r t hw q m u o l y (g NW NW)
 ·exact JU e p r t hw q m u o l y (g NW NW)
 ·exact JV e p r t hw q m u o l y (g NW NW)
 ·exact JW e p r t hw q m u o l y (g NW NW)
 ·exact JX e p r t hw q m u o l y (g NW NW)
 ·exact JY e p r t hw q m u o l y (g NW NW)
 ·subst e
  exact JZ rfl p r t hw q m u o l y (I NY) T (S NY)
 ·subst e
  rw[if_pos NY] at M;exact J0 rfl p r t hw q m u o l y (I NY) NW
 ·exact J3 e p r t hw q m u o l
 ·exact J4 e p r t hw q m u o l
 ·exact J5 e p r t hw q m u o l
theorem Kb (pre:Ol) {A:Om} {e:Oj} {x:Nd} {h:Int} (t:NS pre ins v A x.k x.w x.n (eY e (ar x.k) 0 x.a) (eY e (ar x.k) 1 x.b) (eY e (ar x.k) 2 x.c) h)
  (j:∀y∈dG x,0<=y/\y.toNat<e.length) :
  ∃p f i d,(∀(H:BC) (o:Bool),H.bits= .sl o 1 (e.map λl=>LI l)->ac pg 218 [Oe (pre.length+2) 0,bh x] (H.g pre ins A)=some (LI f,(H.push d).g pre ins p))/\Stp ins A p 5000/\Ls ins v p f i/\(i.length:Int)=x.w/\(num i:Int)=h:=by
 obtain⟨p,f,i,d,E,D,C,B,z,u⟩:=t;refine⟨p,f,i,d,λH o hH=>?_,C,B,z,u⟩;have m:=jo (pre:=pre) (ins:=ins) (A:=A) (H:=H);rw[hH] at m;exact J8 m j (λs r q=>D H x.a x.b x.c s r q)
end
end
section
variable {N i b ol:Nat} {v:Int} {x:Nd}
attribute [local congr] bu
attribute [local simp] au
def dY (N:Nat) (a:Oi):Oi:=a++List.replicate (N-a.length) 0
theorem u6 {a:Oi} (h:a.length<=N):(dY N a).length=N:=by simp[dY];omega
theorem u7 {b:Oi} {a:Nat} (h:a<b.length):(dY N b)[a]?=some (b.getD a 0):=by unfold dY;rw[aI h,aK,aA h];rfl
theorem Kc {a:Oi} (h:a.length<N):(dY N a).set a.length v=dY N (a++[v]):=by
 unfold dY;rw[List.set_append_right _ _ (cU _),Nat.sub_self,aQ,List.length_singleton];obtain⟨k,b⟩:∃k,N-a.length=k+1:=⟨N-a.length-1,NW⟩
 rw[b,show N-(a.length+1)=k by omega,List.replicate_succ,List.set_cons_zero];simp
theorem Kd {a:Oi} (h:a.length=N):dY N a=a:=by simp[dY,h]
theorem Ke {l:Ok} {v:PV} (h:i<l.length):au l i [v]=l.set i v:=by unfold au;rw[List.set_eq_take_append_cons_drop,if_pos h];simp
def fb (a:Ol) (o:Oi):Ol:=a++[.cells (o.map I),.cells [.bs true a.length 0 o.length 1]]
section
variable {m:Md} {gh:Ol}
theorem AC (o:Oi):(fb gh o)[gh.length]?=some (.cells (o.map I)):=by simp[fb]
theorem AD (o:Oi):(fb gh o)[gh.length+1]?=some (.cells [.bs true gh.length 0 o.length 1]):=by simp[fb]
theorem Kf {o a:Oi} (h:a.length=o.length):(fb gh o).set gh.length (.cells (a.map I))=fb gh a:=by simp[fb,h]
theorem u9 {G:Ol} {o:Oi} {a:Int} (f:G[b+1]?=some (.cells [.bs true b 0 o.length 1])) (g:G[b]?=some (.cells (o.map I))) (ha:0<=a/\a.toNat<o.length) (d:o[a.toNat]?=some v) :
  ac pg 143 [I a,Oe (b+1) 0] G=some (I v,G):=by
 have e:(o.map I)[a.toNat]?=some (I v):=by simp[d]
 have j:(o.map I).length=o.length:=NX;have c:a<(o.length:Int):=NW;obtain⟨i,h⟩:=ha;generalize o.map I=O,o.length=n at *;refine ak (fn:=q5x) (s:=⟨[(3,I v)],[],G⟩) rfl rfl (aa ?J) ?Z
 case J=>simp[qec,q5x,f,g,e,i,h,c]
 case Z=>simp[ag,results,q5x,ah,am,af]
def rN (m:Md) (b c o:Oi) (i:Nat) (a:Ol):St:=
 ⟨[(1,LI b),(2,LI c),(3,Ob),(7,Oe (a.length+1) 0),(8,.fn 143 [Oe (a.length+1) 0]),(17,LN m.nodes),(18,I m.nodes.length),(19,I (i:Int))],[[LN m.nodes,LP m.inits,LP m.nexts,LI m.bads,LI m.holds]],fb a o⟩
attribute [local simp] rN
theorem rO {ss ks:Ok} (c:i<=1000) {G:Ol}:ab pg q9f ⟨[(1,NZ ss),(2,NZ ks),(3,Ob),(7,Oe (b+1) 0),(8,.fn 143 [Oe (b+1) 0]),(17,LN m.nodes),(18,I m.nodes.length),(19,I (i:Int))],[[LN m.nodes,LP m.inits,LP m.nexts,LI m.bads,LI m.holds]],G⟩=
  Og ⟨[(1,NZ ss),(2,NZ ks),(3,Ob),(7,Oe (b+1) 0),(8,.fn 143 [Oe (b+1) 0]),(17,LN m.nodes),(18,I m.nodes.length),(19,I ((i+1:Nat):Int))],[[LN m.nodes,LP m.inits,LP m.nexts,LI m.bads,LI m.holds]],G⟩:=by
 have a:WI.wrap ((i:Int)+1)=((i+1:Nat):Int):=by rw[aq NW NW];omega
 refine aa ?_;simp[q9f,a]
theorem Kg {G q:Ol} {O S d:Ok} (g:(i:Int)<(m.nodes.length:Int)) (u:i<=1000) (r:(m.nodes.map bh)[i]?=some (.agg [I x.k,I x.w,I x.a,I x.b,I x.c,I x.n])) (o:G[b+1]?=some (.cells [.bs true b 0 ol 1])) (p:G[b]?=some (.cells O)) (t:i<ol) (h:O.length=ol) (e:G.set b (.cells (au O i [I v]))=q) (s:v=x.n) (y:decide (x.k=1)=true) :
  evK pg q16 fiK ⟨[(1,(NZ (S))),(2,(NZ (d))),(3,(Ob)),(7,(Oe (b+1) 0)),(8,(.fn 143 [Oe (b+1) 0])),(17,(LN m.nodes)),(18,(.int .i64 m.nodes.length)),(19,(.int .i64 i))],[[(LN m.nodes),(LP m.inits),(LP m.nexts),(LI m.bads),(LI m.holds)]],G⟩=
   Og ⟨[(1,NZ S),(2,NZ d),(3,Ob),(7,Oe (b+1) 0),(8,.fn 143 [Oe (b+1) 0]),(17,LN m.nodes),(18,I m.nodes.length),(19,I ((i+1:Nat):Int))],[[LN m.nodes,LP m.inits,LP m.nexts,LI m.bads,LI m.holds]],q⟩:=by
 simp only[au,aT,bH,bF,aV,cF,cV] at e;have l:(i:Int)<(ol:Int):=NW;have f:i+1<=ol:=NW;have j:=rO (m:=m) (ss:=S) (ks:=d) u (G:=q) (b:=b);subst s;simp[q16,g,r,y,o,p,l,f,h,e,j,-List.getElem?_map]
theorem Kh {G q:Ol} {O S d:Ok} (g:(i:Int)<(m.nodes.length:Int)) (t:i<=1000) (r:(m.nodes.map bh)[i]?=some (.agg [I x.k,I x.w,I x.a,I x.b,I x.c,I x.n])) (o:G[b+1]?=some (.cells [.bs true b 0 ol 1])) (p:G[b]?=some (.cells O)) (s:i<ol) (h:O.length=ol) (e:G.set b (.cells (au O i [I v]))=q) (y:decide (x.k=1)=false) (u:decide (x.k=3)=true) :
  evK pg q16 fiK ⟨[(1,(NZ (I v::S))),(2,(NZ (d))),(3,(Ob)),(7,(Oe (b+1) 0)),(8,(.fn 143 [Oe (b+1) 0])),(17,(LN m.nodes)),(18,(.int .i64 m.nodes.length)),(19,(.int .i64 i))],[[(LN m.nodes),(LP m.inits),(LP m.nexts),(LI m.bads),(LI m.holds)]],G⟩=
   Og ⟨[(1,NZ S),(2,NZ d),(3,Ob),(7,Oe (b+1) 0),(8,.fn 143 [Oe (b+1) 0]),(17,LN m.nodes),(18,I m.nodes.length),(19,I ((i+1:Nat):Int))],[[LN m.nodes,LP m.inits,LP m.nexts,LI m.bads,LI m.holds]],q⟩:=by
 simp only[au,aT,bH,bF,aV,cF,cV] at e;have l:(i:Int)<(ol:Int):=NW;have f:i+1<=ol:=NW;have j:=rO (m:=m) (ss:=S) (ks:=d) t (G:=q) (b:=b);simp[q16,g,r,y,u,o,p,l,f,h,e,j,-List.getElem?_map]
theorem Ki {G q:Ol} {O S d:Ok} (g:(i:Int)<(m.nodes.length:Int)) (t:i<=1000) (r:(m.nodes.map bh)[i]?=some (.agg [I x.k,I x.w,I x.a,I x.b,I x.c,I x.n])) (o:G[b+1]?=some (.cells [.bs true b 0 ol 1])) (p:G[b]?=some (.cells O)) (s:i<ol) (h:O.length=ol) (e:G.set b (.cells (au O i [I v]))=q) (z:decide (x.k=1)=false) (u:decide (x.k=3)=false) (y:decide (x.k=2)=true) :
  evK pg q16 fiK ⟨[(1,(NZ (S))),(2,(NZ (I v::d))),(3,(Ob)),(7,(Oe (b+1) 0)),(8,(.fn 143 [Oe (b+1) 0])),(17,(LN m.nodes)),(18,(.int .i64 m.nodes.length)),(19,(.int .i64 i))],[[(LN m.nodes),(LP m.inits),(LP m.nexts),(LI m.bads),(LI m.holds)]],G⟩=
   Og ⟨[(1,NZ S),(2,NZ d),(3,Ob),(7,Oe (b+1) 0),(8,.fn 143 [Oe (b+1) 0]),(17,LN m.nodes),(18,I m.nodes.length),(19,I ((i+1:Nat):Int))],[[LN m.nodes,LP m.inits,LP m.nexts,LI m.bads,LI m.holds]],q⟩:=by
 simp only[au,aT,bH,bF,aV,cF,cV] at e;have l:(i:Int)<(ol:Int):=NW;have f:i+1<=ol:=NW;have j:=rO (m:=m) (ss:=S) (ks:=d) t (G:=q) (b:=b);simp[q16,g,r,z,y,u,o,p,l,f,h,e,j,-List.getElem?_map]
theorem Kj {b i f:Nat} {G r:Ol} {O S d:Ok} {v:Int} {x:Nd} (h:(i:Int)<(m.nodes.length:Int)) (C:i<=1000) (A:(m.nodes.map bh)[i]?=some (.agg [I x.k,I x.w,I x.a,I x.b,I x.c,I x.n])) (p:G[b+1]?=some (.cells [.bs true b 0 f 1])) (q:G[b]?=some (.cells O)) (B:i<f) (j:O.length=f) (e:G.set b (.cells (au O i [I v]))=r) {u t s z w1 y:Int} (L:decide (x.k=1)=false) (F:decide (x.k=3)=false) (H:decide (x.k=2)=false)
  (P:ac pg 143 [I x.a,Oe (b+1) 0] G=some (I u,G)) (N:ac pg 143 [I x.b,Oe (b+1) 0] G=some (I t,G)) (M:ac pg 143 [I x.c,Oe (b+1) 0] G=some (I s,G))
  (D:ac pg 104 [LN m.nodes,.agg [I x.k,I x.w,I x.a,I x.b,I x.c,I x.n]] G=some (.agg [I z,I w1,I y],G)) (E:ac pg 66 [I x.k,I x.w,I u,I t,I s,I x.n,.agg [I z,I w1,I y]] G=some (I v,G)) :
  evK pg q16 fiK ⟨[(1,(NZ (S))),(2,(NZ (d))),(3,(Ob)),(7,(Oe (b+1) 0)),(8,(.fn 143 [Oe (b+1) 0])),(17,(LN m.nodes)),(18,(.int .i64 m.nodes.length)),(19,(.int .i64 i))],[[(LN m.nodes),(LP m.inits),(LP m.nexts),(LI m.bads),(LI m.holds)]],G⟩=
   Og ⟨[(1,NZ S),(2,NZ d),(3,Ob),(7,Oe (b+1) 0),(8,.fn 143 [Oe (b+1) 0]),(17,LN m.nodes),(18,I m.nodes.length),(19,I ((i+1:Nat):Int))],[[LN m.nodes,LP m.inits,LP m.nexts,LI m.bads,LI m.holds]],r⟩:=by
 simp only[au,aT,bH,bF,aV,cF,cV] at e;have o:(i:Int)<(f:Int):=NW;have g:i+1<=f:=NW;have l:=rO (m:=m) (ss:=S) (ks:=d) C (G:=r) (b:=b);simp[q16,h,A,L,H,F,p,q,P,N,M,D,E,o,g,j,e,l,-List.getElem?_map]
theorem Kk (U:m.nodes.length<=80) (O:∀(j:Nat) (x:Nd),m.nodes[j]?=some x->eA m.nodes j x=0) {d E F:Oi} (C:i<m.nodes.length) (z:VGood m.nodes i d E F) :
  ∃ v r s,VGood m.nodes (i+1) (d++[v]) r s/\fR m.nodes d E F (m.nodes.drop i)=fR m.nodes (d++[v]) r s (m.nodes.drop (i+1))/\
   evK pg q16 fiK ⟨[(1,(LI E)),(2,(LI F)),(3,(Ob)),(7,(Oe (gh.length+1) 0)),(8,(.fn 143 [Oe (gh.length+1) 0])),(17,(LN m.nodes)),(18,(.int .i64 m.nodes.length)),(19,(.int .i64 i))],[[(LN m.nodes),(LP m.inits),(LP m.nexts),(LI m.bads),(LI m.holds)]],(fb gh (dY m.nodes.length d))⟩=
    some (.normal,rN m r s (dY m.nodes.length (d++[v])) (i+1) gh):=by
 have o:(i:Int)<(m.nodes.length:Int):=NW;have f:m.nodes[i]?=some m.nodes[i]:=aA C;have B:(m.nodes.map bh)[i]?=some (bh m.nodes[i]):=by simp[f]
 have hn:=O i _ f;have D:=z.len;rw[aJ C,fR];generalize m.nodes[i]=x at *;rw[dT x] at B;have G:(dY m.nodes.length d).length=m.nodes.length:=u6 NW;have q:i<(dY m.nodes.length d).length:=NW;have h:=AC (gh:=gh) (dY m.nodes.length d);have g:=AD (gh:=gh) (dY m.nodes.length d);have l:∀v:Int,(fb gh (dY m.nodes.length d)).set gh.length (.cells (au ((dY m.nodes.length d).map I) i [I v]))=fb gh (dY m.nodes.length (d++[v])):=λv=>by
  have e:((dY m.nodes.length d).map I).set i (I v)=((dY m.nodes.length d).set i v).map I:=by rw[List.map_set]
  have H:(dY m.nodes.length (d++[v])).length=(dY m.nodes.length d).length:=by rw[u6 (by simp;omega),G]
  rw[Ke (by simpa using q),e,<-D,Kc NW,Kf H]
 have t:((dY m.nodes.length d).map I).length=(dY m.nodes.length d).length:=NX;by_cases y:x.k=1
 ·rw[if_pos y]
  have M:=uW hn y;exact⟨_,_,_,z.other f NW NW M.1 M.2,rfl,Kg o NW B g h q t (l x.n) rfl (aG y)⟩
 ·rw [if_neg y]
  by_cases w:x.k=3
  ·rw[if_pos w]
   obtain⟨v,r,rfl,u⟩:=z.state f w;exact⟨_,_,_,u,rfl,Kh o NW B g h q t (l v) (aF y) (aG w)⟩
  ·rw[if_neg w]
   by_cases A:x.k=2
   ·rw[if_pos A]
    obtain⟨v,s,rfl,u⟩:=z.input f A;exact⟨_,_,_,u,rfl,Ki o NW B g h q t (l v) (aF y) (aF w) (aG A)⟩
   ·rw[if_neg A]
    have Q:¬x.k<=3:=by
     intro P;unfold eA at hn;split at hn
     ·omega
     ·omega
    have p:=uV f hn Q;have L:=zO (gh:=fb gh (dY m.nodes.length d)) p.inn;have N:=JH z p (fb gh (dY m.nodes.length d));have T:=u9 g h ⟨p.a.1,by have:=p.a;omega⟩ (u7 (by have:=p.a;omega));have S:=u9 g h ⟨p.b.1,by have:=p.b;omega⟩ (u7 (by have:=p.b;omega));have R:=u9 g h ⟨p.c.1,by have:=p.c;omega⟩ (u7 (by have:=p.c;omega));rw[dT] at L;unfold gV at L N;exact⟨_,_,_,z.op f w A p,rfl,Kj o NW B g h q t (l (ma m.nodes d x)) (aF y) (aF w) (aF A) T S R L N⟩
theorem AE (g:m.nodes.length<=80) (f:∀(j:Nat) (x:Nd),m.nodes[j]?=some x->eA m.nodes j x=0):∀k i a b c,i+k=m.nodes.length->VGood m.nodes i a b c->
  ab pg q9g (rN m b c (dY m.nodes.length a) i gh)=Og ⟨[(7,Oe (gh.length+1) 0)],[],fb gh (fR m.nodes a b c (m.nodes.drop i))⟩
 |0,i,a,b,c,h,e=>by
  rw[aM NW,fR,Kd (by rw[e.len];omega)];have d:¬(i:Int)<(m.nodes.length:Int):=NW;refine (bn (s1:=?J) (aa ?Z)).trans ?Y
  case Z=>simp[q16,d];rfl
  case Y=>simp[keep,bj]
 |k+1,i,a,b,c,h,e=>by obtain⟨v,l,n,q,p,o⟩:=Kk (gh:=gh) g f (show i<m.nodes.length by omega) e;rw[p];exact ay (aa o) (AE g f k (i+1) _ _ _ NW q)
def gX (m:Md) (a b:Oi):Oi:=fR m.nodes [] a b m.nodes
theorem Kl (n:Nat):List.flatMap PV.cells (List.replicate n (PV.int .i64 0))=(dY n []).map I:=by
 unfold dY;rw[bF,cF,Nat.sub_zero,List.map_replicate]
 induction n with
 |zero=>rfl
 |succ n a=>rw[List.replicate_succ,cS,a];rfl
theorem AF {ss ks:Oi}:(gX m ss ks).length=m.nodes.length:=by unfold gX;rw[Av];simp
theorem Km (a:Oi):frz gh.length (fb gh a) (.bs true gh.length 0 a.length 1)=LI a:=by
 rw[Gg (AC a) (cU _) NX];have e:∀l:Oi,(l.map I).map aw=l.map I:=λl=>by rw[List.map_map];rfl
 have b:(((a.map I).drop 0).take a.length)=a.map I:=by rw[bJ];exact bK NX
 rw[b,e]
theorem Ko {ss ks:Oi} (h:dc m=0) (p:VGood m.nodes 0 [] ss ks):ac pg 139 [dn m,LI ss,LI ks] gh=some (LI (gX m ss ks),gh):=by
 have o:=(kC h).len;have c:=AE (gh:=gh) o (λj x i=>rK h i) m.nodes.length 0 [] ss ks NW p;rw[bJ] at c;change ab pg q9g _=some (_,⟨_,_,fb gh (gX m ss ks)⟩) at c;have k:=AF (m:=m) (ss:=ss) (ks:=ks);have e:=Km (gh:=gh) (gX m ss ks);have hn:=mU (gX m ss ks);have l:(fb gh (gX m ss ks)).take gh.length=gh:=by simp[fb]
 have q:=AD (gh:=gh) (gX m ss ks);have f:ab pg q9h ⟨[(7,Oe (gh.length+1) 0)],[],fb gh (gX m ss ks)⟩=Oh ⟨[(6,.bs true gh.length 0 (gX m ss ks).length 1)],[],fb gh (gX m ss ks)⟩:=by refine aa ?_;simp[q9h,q]
 generalize gX m ss ks=b at *;have n:(m.nodes.length*8<=maxBytes):=(by have:=MB;omega)
 have g:=Kl m.nodes.length;have d:(dY m.nodes.length []).length=m.nodes.length:=u6 NX;unfold rN fb at c;rw[d] at c;simp only[aR] at c;rw[eq];refine ak (fn:=q5w) (s:=⟨[(6,.bs true gh.length 0 b.length 1)],[],fb gh b⟩) rfl rfl (aa ?J) ?Z
 case J=>
  unfold fb at f ⊢;generalize (dY m.nodes.length []).map I=a at *;simp[qeb,q5w,show (m.nodes.length:Int)*8<=(maxBytes:Int) by omega,g,au,c,f]
 case Z=>simp[ag,results,q5w,ah,am,af,e,l,hn]
end
end
section
attribute [local congr] bu
attribute [local simp] au
def dM:Om->Int->Int
 |[],_=> -1
 |p::a,s=>if p.1=s then p.2 else dM a s
def jV (a:Om) (s:Int):Bool:=a.any λp=>decide (p.1=s)
theorem AG (p:Int×Int) (a:Om) (s:Int):jV (p::a) s=(decide (p.1=s)||jV a s):=rfl
section
variable {m:Md} {gh:Ol}
theorem AH:∀{l:Om} {k v:Int},(∀p∈l,p.1≠k)->io l k v=l++[(k,v)]
 |[],_,_,_=>rfl
 |(a,u)::l,k,v,h=>by rw[io,if_neg (λe=>h (a,u) (aZ ..) e.symm),AH λp b=>h p (bC _ b)];rfl
theorem Kq {b:Oi} {a:Int} (h:a.toNat<b.length):(b.map I)[a.toNat]?=some (I (b.getD a.toNat 0)):=by simp[aK,aA h]
theorem AI {m:Md} (d:lW m):m.inits.length<=80/\m.nexts.length<=80:=by
 have b:∀{l:Om},(l.map (·.1)).Nodup->(∀p∈l,c8 m.nodes p.1)->l.length<=80:=λ{l} g c=>by have f:=List.Nodup.length_le_of_subset g (l₂:=(List.range m.nodes.length).map λ(i:Nat)=>(i:Int)) (λa ha=>by obtain⟨p,e,rfl⟩:=List.mem_map.1 ha;have:=c p e;have j:=this.1;have h:=this.2;exact List.mem_map.2 ⟨p.1.toNat,List.mem_range.2 h,NW⟩);have:=d.len;simp at f;omega
 exact⟨b d.nod1 (λp c=>(d.pairs p (cE.2 (.inl c))).1),b d.nod2 (λp c=>(d.pairs p (cE.2 (.inr c))).1)⟩
theorem AJ {L:List Nd}:∀b:Oi,kE L b (List.replicate b.length 0)=0
 |[]=>rfl
 | a::b=>by
  rw[aV,List.replicate_succ,kE,if_pos]
  ·exact AJ b
  ·have:1<=2^(wAt L a).toNat:=Nat.one_le_two_pow
   omega
theorem rP {L:List Nd} (a:Oi):jq L a (List.replicate a.length 0)=0:=by unfold jq;rw[if_neg NX];exact AJ a
def nt (m:Md):Oi:=List.replicate (ci m.nodes 3).length 0
def nu (m:Md):Oi:=List.replicate (ci m.nodes 2).length 0
def jr (m:Md):Oi:=gX m (nt m) (nu m)
theorem pi {m:Md} (a:lW m) (k:Int):(ci m.nodes k).length<=80:=cA (uA _ _ _) a.len
theorem AK {m:Md}:VGood m.nodes 0 [] (nt m) (nu m):=Au (rP _) (rP _)
theorem va {L:List Nd} {b a:Oi} (h:jq L b a=0):a.length=b.length:=by
 unfold jq at h;split at h
 ·cases h
 ·omega
end
end
section
attribute [local congr] bu
attribute [local simp] au
theorem rQ {m:Md} (h:dc m=0):iz m (dU [] m.nodes)=0/\jp m=0:=by
 unfold dc at h;split at h
 ·contradiction
 split at h
 ·contradiction
 split at h
 ·contradiction
 split at h
 ·contradiction
 rename_i a;exact⟨aP a,h⟩
theorem AM {l:List Nd} {f:On} {b:Bool}:∀{d:Om},di l f b d=0->∀p∈d,p.1∈ci l 3
 |[],_,p,a=>by cases a
 | q ::d,h,p,a=>by
  rw[di] at h;split at h
  ·rename_i g
   rcases List.mem_cons.1 a with rfl|a
   ·unfold eW at g
    split at g
    ·contradiction
    rename_i hn;have c:c8 l p.1:=aP λh=>hn (.inl h)
    have e:(l.getD p.1.toNat default).k=3:=aP λh=>hn (.inr (.inr h))
    refine kindF_mem.2 ⟨p.1.toNat,c.2,?_,?_⟩
    ·have:=c.1;omega
    ·rw[aK,aA c.2] at e
     rw[aA c.2];simpa using e
   ·exact AM h p a
  ·contradiction
theorem Kr {a:Om} {s:Int} (h:s∈a.map (·.1)):jV a s=true:=by obtain⟨p,b,rfl⟩:=List.mem_map.1 h;exact List.any_eq_true.2 ⟨p,b,aG rfl⟩
theorem Ks {m:Md} (h:dc m=0):∀s∈ci m.nodes 3,jV m.nexts s=true:=by
 intro s e;refine Kr (aP λhn=>?_);obtain⟨b,c⟩:=rQ h;have f:(ci m.nodes 3).length<=m.nexts.length:=by
  unfold jp at c;split at c
  ·contradiction
  ·omega
 have d:di m.nodes (dU [] m.nodes) false m.nexts=0:=by
  unfold iz at b;split at b
  ·contradiction
  split at b
  ·contradiction
  rename_i i;exact aP i
 have g:(s::m.nexts.map (·.1)).Nodup:=List.nodup_cons.2 ⟨hn,(kC h).nod2⟩;have:=List.Nodup.length_le_of_subset g (l₂:=ci m.nodes 3) (λa ha=>by
  rcases List.mem_cons.1 ha with rfl|ha
  ·exact e
  ·obtain⟨p,b,rfl⟩:=List.mem_map.1 ha
   exact AM d p b)
 simp at this;omega
theorem Kt {m:Md} (h:dc m=0):∀a∈m.bads++m.holds,c8 m.nodes a:=by
 obtain⟨-,b⟩:=rQ h;unfold jp at b;split at b
 ·contradiction
 split at b
 ·contradiction
 rename_i c;intro a ha;exact aP λhn=>c (List.any_eq_true.2 ⟨a,ha,by simp[hn]⟩)
theorem AN {m:Md} (h:dc m=0):m.bads.length<=8/\m.holds.length<=8:=by
 unfold dc at h;split at h
 ·contradiction
 omega
section
variable {m:Md} {gh:Ol}
end
end
section
attribute [local congr] bu
attribute [local simp] au
def iA (L:List Nd):Oi->Oi->On
 |a::c,x::b=>cB x.toNat 0 (wAt L a).toNat++iA L c b
 |_,_=>[]
def jW:Nat->Nat->Oi
 |_,0=>[]
 |p,k+1=>((2*p:Nat):Int)::jW (p+1) k
section
variable {pre:Ol} {ins:Int} {v:On}
theorem AO (f:(v.length:Int)=ins) {A:Om}:∀(c:On) (p:Nat) (rest:On),1<=p->v.drop (p-1)=c++rest->Ls ins v A (jW p c.length) c
 |[],_,_,_,_=>trivial
 | b::c,p,rest,i,h=>by
  have a:p-1<v.length:=by
   rcases Nat.lt_or_ge (p-1) v.length with d|d
   ·exact d
   ·rw[aM d] at h;cases h
  rw[aJ a] at h;simp only[bH,List.cons.injEq] at h;have e:=AO f (A:=A) c (p+1) rest NW (by rw[show p+1-1=p-1+1 by omega];exact h.2);refine⟨⟨?_,?_⟩,e⟩
  ·unfold fF fJ;rw[aH];omega
  ·obtain⟨t,g⟩:=lS (false::v) A
   unfold db;rw[g,show (((2*p:Nat):Int)/2).toNat=p by omega,aF NW];rw[aK,aI (by simp;omega),show p=(p-1)+1 by omega,List.getElem?_cons_succ,aA a,h.1];cases b<;>rfl
def hH (m0 f e d c g:PV) (b:Om) (a:Ol):BC:=⟨m0,f,e,d,c,g,.map (bi b)::a⟩
section
variable {m0 m1 m2 m3 m4 bv b2:PV} {nx nx2:Om} {J J':Ol} {A A':Om}
theorem nw:((hH m0 m1 m2 m3 m4 bv nx J).g pre ins A)[pre.length+2]?=some (.cells [Oe (pre.length+1) 0,m0,m1,m2,m3,m4,bv]):=jo
theorem vb:((hH m0 m1 m2 m3 m4 bv nx J).g pre ins A)[pre.length+3]?=some (.map (bi nx)):=oU (j:=0) rfl
theorem rR:((hH m0 m1 m2 m3 m4 bv nx J).g pre ins A).set (pre.length+2) (.cells [Oe (pre.length+1) 0,m0,m1,m2,m3,m4,b2])=(hH m0 m1 m2 m3 m4 b2 nx J).g pre ins A:=by unfold BC.g hH;rw[List.set_append_right _ _ NW,show pre.length+2-pre.length=2 by omega];rfl
theorem Ku:((hH m0 m1 m2 m3 m4 bv nx J).g pre ins A).set (pre.length+3) (.map (bi nx2))=(hH m0 m1 m2 m3 m4 bv nx2 J).g pre ins A:=by unfold BC.g hH;rw[List.set_append_right _ _ NW,show pre.length+3-pre.length=3 by omega];rfl
theorem AP {L:Ok} {o b:Bool}:fC ((hH m0 m1 m2 m3 m4 (.sl o 1 L) nx J).g pre ins A) (pre.length+2) 6 b=some ((hH m0 m1 m2 m3 m4 (.sl b 1 L) nx J).g pre ins A):=by
 have c:=nw (pre:=pre) (ins:=ins) (A:=A) (m0:=m0) (m1:=m1) (m2:=m2) (m3:=m3) (m4:=m4) (bv:= .sl o 1 L) (nx:=nx) (J:=J);have a:=rR (pre:=pre) (ins:=ins) (A:=A) (m0:=m0) (m1:=m1) (m2:=m2) (m3:=m3) (m4:=m4) (bv:= .sl o 1 L) (b2:= .sl b 1 L) (nx:=nx) (J:=J);unfold fC;rw[c]
 show some (List.set _ _ _)=_
 rw[<-a];rfl
theorem Kv {L:Ok} {r:PV} {env:Oo} {lh:List Ok} {d f:Nat} {a:Ok} {cf:CallF} (b:a.all az=true) (h:∀o,cf f a ((hH m0 m1 m2 m3 m4 (.sl o 1 L) nx J).g pre ins A)=some (r,(hH m0 m1 m2 m3 m4 (.sl o 1 L) nx J').g pre ins A')) :
  fV cf ⟨env,lh,(hH m0 m1 m2 m3 m4 (NZ L) nx J).g pre ins A⟩ (some d) f a (pre.length+2) 6=some ⟨Lw.put env d r,lh,(hH m0 m1 m2 m3 m4 (NZ L) nx J').g pre ins A'⟩:=by
 unfold fV dN;simp only[b,if_true,h false,AP,cH,h true,eO];rw[if_neg NX,cH,if_pos (by simp[nw,AP])]
end
def BR1 (a:Ol) (nI b:Int) (L:List Nd) (m0 f e d c:PV) (i:Nat) (G:Ol):St:=
 ⟨[(1,Ob),(2,Oc),(3,I nI),(4,I b),(5,Oe (a.length+2) 0),(6,.mp (a.length+3)),(48,LN L),(49,I L.length),(50,I (i:Int))],
  [[m0,f,e,d,c],[I 0,.sl true 2 [],I 0,I 0,Oa [],Oa [],Oa [],Oa []]],G⟩
attribute [local simp] BR1
section
variable {m0 m1 m2 m3 m4:PV} {nx:Om} {J J':Ol} {A A':Om} {nI nS:Int} {L:List Nd} {x:Nd} {i:Nat}
theorem AQ {G:Ol} (a:i<=1000):ab pg q8d (BR1 pre nI nS L m0 m1 m2 m3 m4 i G)=some (.normal,BR1 pre nI nS L m0 m1 m2 m3 m4 (i+1) G):=
 aa (by simp[q8d,BR1,wrS' i NW])
theorem Kw {BS:Ok} {out:Oi} (C:i<L.length) (B:L.length<=80) (s:L[i]?=some x) (p:BS.length=i) (t:gx nx x.k=none)
  (h:∀o,ac pg 218 [Oe (pre.length+2) 0,bh x] ((hH m0 m1 m2 m3 m4 (.sl o 1 BS) nx J).g pre ins A)=some (LI out,(hH m0 m1 m2 m3 m4 (.sl o 1 BS) nx J').g pre ins A')) :
  evK pg q36 fiK ⟨[(1,(Ob)),(2,(Oc)),(3,(.int .i64 nI)),(4,(.int .i64 nS)),(5,(Oe (pre.length+2) 0)),(6,(.mp (pre.length+3))),(48,(LN L)),(49,(.int .i64 L.length)),(50,(.int .i64 i))],[[m0,m1,m2,m3,m4],[(.int .i64 0),(.sl true 2 []),(.int .i64 0),(.int .i64 0),(Oa []),(Oa []),(Oa []),(Oa [])]],((hH m0 m1 m2 m3 m4 (Oa BS) nx J).g pre ins A)⟩=
   some (.normal,BR1 pre nI nS L m0 m1 m2 m3 m4 (i+1) ((hH m0 m1 m2 m3 m4 (Oa (BS++[LI out])) nx J').g pre ins A')):=by
 have e:(i:Int)<(L.length:Int):=NW;have f:(L.map bh)[i]?=some (.agg [I x.k,I x.w,I x.a,I x.b,I x.c,I x.n]):=by rw[aB,s];rfl
 have l:(i+1)*24<=maxBytes:=by have:=MB;omega
 have m:=AQ (pre:=pre) (nI:=nI) (nS:=nS) (L:=L) (m0:=m0) (m1:=m1) (m2:=m2) (m3:=m3) (m4:=m4) (i:=i) (G:=(hH m0 m1 m2 m3 m4 (Oa (BS++[LI out])) nx J').g pre ins A') NW;rw[dT] at h;have j:=λ(env:Oo) (lh:List Ok) (d:Nat)=>Kv (env:=env) (lh:=lh) (d:=d) (pre:=pre) (cf:=ac pg) NX h
 have u:=h false;have r:=rR (pre:=pre) (ins:=ins) (A:=A) (m0:=m0) (m1:=m1) (m2:=m2) (m3:=m3) (m4:=m4) (bv:= Oa BS) (b2:= NZ BS) (nx:=nx) (J:=J);have q:=rR (pre:=pre) (ins:=ins) (A:=A') (m0:=m0) (m1:=m1) (m2:=m2) (m3:=m3) (m4:=m4) (bv:= NZ BS) (b2:= Oa (BS++[LI out])) (nx:=nx) (J:=J');have z:=nw (pre:=pre) (ins:=ins) (A:=A) (m0:=m0) (m1:=m1) (m2:=m2) (m3:=m3) (m4:=m4) (bv:= Oa BS) (nx:=nx) (J:=J);have v:=vb (pre:=pre) (ins:=ins) (A:=A) (m0:=m0) (m1:=m1) (m2:=m2) (m3:=m3) (m4:=m4) (bv:= Oa BS) (nx:=nx) (J:=J)
 have y:=nw (pre:=pre) (ins:=ins) (A:=A') (m0:=m0) (m1:=m1) (m2:=m2) (m3:=m3) (m4:=m4) (bv:= NZ BS) (nx:=nx) (J:=J');unfold BR1 at *;unfold LI LN at *;generalize (hH m0 m1 m2 m3 m4 (Oa (BS++[NZ (out.map I)])) nx J').g pre ins A'=E,(hH m0 m1 m2 m3 m4 (NZ BS) nx J').g pre ins A'=F,(hH m0 m1 m2 m3 m4 (NZ BS) nx J).g pre ins A=H,(hH m0 m1 m2 m3 m4 (Oa BS) nx J).g pre ins A=M at *;generalize out.map I=D,L.map bh=LV at *;simp[q36,e]
 simp[f,z,v,t,r,u,j,p,l,y,q,m,au,show Nat.ble 1 2=true from rfl,show Nat.ble 2 2=true from rfl]
theorem AR {G:Ol} {a W:Nat} {x0 x1 x2 x3 x4 x5:Int} (e:a+W<=2000) (hw:W<=8):∀(k j:Nat) (b:Oi),j+k=W->b.length=j->
  ab pg qd4 ⟨[(1,Ob),(2,Oc),(3,I nI),(4,I nS),(5,Oe (pre.length+2) 0),(6,.mp (pre.length+3)),(8,Od),(9,I (a:Int)),(11,Oa (b.map I)),(48,LN L),(49,I L.length),(50,I (i:Int)),(76,I (W:Int)),(77,I (j:Int))],
   [[m0,m1,m2,m3,m4],[I 0,.sl true 2 [],I 0,I 0,Oa [],Oa [],Oa [],Oa []],[I x0,I x1,I x2,I x3,I x4,I x5]],G⟩=
  Og ⟨[(1,Ob),(2,Oc),(3,I nI),(4,I nS),(5,Oe (pre.length+2) 0),(6,.mp (pre.length+3)),(8,Od),(9,I (a:Int)),(11,Oa ((b++jW (a+j) k).map I)),(48,LN L),(49,I L.length),(50,I (i:Int))],
   [[m0,m1,m2,m3,m4],[I 0,.sl true 2 [],I 0,I 0,Oa [],Oa [],Oa [],Oa []],[I x0,I x1,I x2,I x3,I x4,I x5]],G⟩
 |0,j,b,h,_=>by
  have c:¬((j:Nat):Int)<(W:Int):=NW;rw[jW,bE];refine (bn (s1:=?J) (aa ?Z)).trans ?Y
  case Z=>simp[q8b,c];rfl
  case Y=>simp[keep,bj]
 | k+1,j,b,h,ha=>by
  have c:((j:Nat):Int)<(W:Int):=NW;have f:(b.map I).length=j:=by simpa using ha
  have d:(j+1)*8<=maxBytes:=by have:=MB;omega
  have m:=wrS' j NW;have l:WI.wrap (2*WI.wrap ((a:Int)+(j:Int)))=((2*(a+j):Nat):Int):=by rw[aq (n:=(a:Int)+j) NW NW,aq NW NW];omega
  have g:=AR (G:=G) (x0:=x0) (x1:=x1) (x2:=x2) (x3:=x3) (x4:=x4) (x5:=x5) e hw k (j+1) (b++[((2*(a+j):Nat):Int)]) NW (by simp;omega);rw[aT,bI (l₁:=b) (l₂:=[((2*(a+j):Nat):Int)])] at g;refine ay (aa ?K) g
  case K=>
   generalize b.map I=X,((2*(a+j):Nat):Int)=q at *;simp[q8b,c];simp[f,l,d,m]
theorem Kx {G b h:Ol} {BS OUT:Ok} {at' W:Nat} {k c1 c2 c3 c4:Int} {o:Bool} (m:at'+W<=2000) (l:BS.length<=80) (n:G[pre.length+3]?=some (.map (bi nx))) (f:G.set (pre.length+3) (.map (bi (io nx k ((at'+W:Nat):Int))))=b)
  (g:G[pre.length+2]?=some (.cells [Oe (pre.length+1) 0,m0,m1,m2,m3,m4,Oa BS])) (a:pre.length+2<b.length)
  (j:b.set (pre.length+2) (.cells [Oe (pre.length+1) 0,m0,m1,m2,m3,m4,Oa (BS++[NZ OUT])])=h) :
  ab pg q8c ⟨[(1,Ob),(2,Oc),(3,I nI),(4,I nS),(5,Oe (pre.length+2) 0),(6,.mp (pre.length+3)),(8,Od),(9,I (at':Int)),(11,.sl o 1 OUT),(48,LN L),(49,I L.length),(50,I (i:Int))],
   [[m0,m1,m2,m3,m4],[I 0,.sl true 2 [],I 0,I 0,Oa [],Oa [],Oa [],Oa []],[I k,I (W:Int),I c1,I c2,I c3,I c4]],G⟩=
  some (.normal,BR1 pre nI nS L m0 m1 m2 m3 m4 i h):=by
 have p:WI.wrap ((at':Int)+(W:Int))=((at'+W:Nat):Int):=by rw[aq NW NW];omega
 have c:(BS.length+1)*24<=maxBytes:=by have:=MB;omega
 have e:b[pre.length+2]?=some (.cells [Oe (pre.length+1) 0,m0,m1,m2,m3,m4,Oa BS]):=by rw[<-f,List.getElem?_set_ne NW];exact g
 have d:∀x:GObj,(b.set (pre.length+2) x)[pre.length+2]?=some x:=λx=>List.getElem?_set_self a
 refine aa ?_;unfold BR1;generalize ((at'+W:Nat):Int)=q at *;simp[q8c,p,n,f,g,e,d,j,List.getElem?_cons_zero,-getElem?_pos,c,au,eS,show Nat.ble 1 2=true from rfl,show Nat.ble 2 2=true from rfl]
theorem Ky {BS:Ok} {at' W:Nat} (u:i<L.length) (t:L.length<=80) (p:L[i]?=some x) (r:BS.length=i) (q:gx nx x.k=some (at':Int)) (hw:x.w=(W:Int)) (j:W<=8) (h:at'+W<=2000) :
  evK pg q36 fiK ⟨[(1,(Ob)),(2,(Oc)),(3,(.int .i64 nI)),(4,(.int .i64 nS)),(5,(Oe (pre.length+2) 0)),(6,(.mp (pre.length+3))),(48,(LN L)),(49,(.int .i64 L.length)),(50,(.int .i64 i))],[[m0,m1,m2,m3,m4],[(.int .i64 0),(.sl true 2 []),(.int .i64 0),(.int .i64 0),(Oa []),(Oa []),(Oa []),(Oa [])]],((hH m0 m1 m2 m3 m4 (Oa BS) nx J).g pre ins A)⟩=
   some (.normal,BR1 pre nI nS L m0 m1 m2 m3 m4 (i+1) ((hH m0 m1 m2 m3 m4 (Oa (BS++[LI (jW at' W)])) (io nx x.k ((at'+W:Nat):Int)) J).g pre ins A)):=by
 have e:(i:Int)<(L.length:Int):=NW;have d:(L.map bh)[i]?=some (.agg [I x.k,I x.w,I x.a,I x.b,I x.c,I x.n]):=by rw[aB,p];rfl
 have l:=AQ (pre:=pre) (nI:=nI) (nS:=nS) (L:=L) (m0:=m0) (m1:=m1) (m2:=m2) (m3:=m3) (m4:=m4) (i:=i) (G:=(hH m0 m1 m2 m3 m4 (Oa (BS++[LI (jW at' W)])) (io nx x.k ((at'+W:Nat):Int)) J).g pre ins A) NW
 have m:=Kx (pre:=pre) (nI:=nI) (nS:=nS) (L:=L) (m0:=m0) (m1:=m1) (m2:=m2) (m3:=m3) (m4:=m4) (i:=i) (c1:=x.a) (c2:=x.b) (c3:=x.c) (c4:=x.n) (o:=true) (BS:=BS) (OUT:=(jW at' W).map I) (at':=at') (W:=W) (k:=x.k) h NW
  (vb (pre:=pre) (ins:=ins) (A:=A) (m0:=m0) (m1:=m1) (m2:=m2) (m3:=m3) (m4:=m4) (bv:= Oa BS) (nx:=nx) (J:=J)) Ku nw (by rw[rq];omega) rR
 have f:=AR (pre:=pre) (nI:=nI) (nS:=nS) (L:=L) (m0:=m0) (m1:=m1) (m2:=m2) (m3:=m3) (m4:=m4) (i:=i) (G:=(hH m0 m1 m2 m3 m4 (Oa BS) nx J).g pre ins A) (x0:=x.k) (x1:=W) (x2:=x.a) (x3:=x.b) (x4:=x.c) (x5:=x.n) h j W 0 [] NW rfl;simp only[bF,bU,cG,aR] at f;have s:=vb (pre:=pre) (ins:=ins) (A:=A) (m0:=m0) (m1:=m1) (m2:=m2) (m3:=m3) (m4:=m4) (bv:= Oa BS) (nx:=nx) (J:=J);rw[hw] at d;unfold BR1 at *;unfold LI LN at *;generalize (hH m0 m1 m2 m3 m4 (Oa (BS++[NZ ((jW at' W).map I)])) (io nx x.k ((at'+W:Nat):Int)) J).g pre ins A=y at *
 generalize (hH m0 m1 m2 m3 m4 (Oa BS) nx J).g pre ins A=z,(jW at' W).map I=v,L.map bh=LV at *;simp[q36,e];simp[d,s,q,f,m,l,show Nat.ble 1 2=true from rfl,show Nat.ble 2 2=true from rfl]
end
end
end
section
attribute [local congr] bu
attribute [local simp] au
theorem Kz {L:List Nd} {i:Int} {x:Nd} (h:eA L i x=0):1<=x.k/\x.k<24:=by
 unfold eA at h;split at h
 ·omega
 ·omega
section
variable {pre:Ol} {ins:Int} {v:On}
theorem KA {k w n:Int} {X e d:Oi} {A:Om} (g:k=1) (f:ck ins A=0) (hw:1<=w/\w<=8) (hn:0<=n/\n<((2^w.toNat:Nat):Int)):NS pre ins v A k w n X e d n:=by
 obtain⟨h,_,_,_⟩:=dX f;obtain⟨W,rfl⟩:∃W:Nat,w=W:=⟨w.toNat,NW⟩
 obtain⟨N,rfl⟩:∃N:Nat,n=N:=⟨n.toNat,NW⟩
 rw[Int.toNat_natCast] at hn;have m:=fQ (W:=W) NW;refine⟨A,cI N 0 W,cB N 0 W,[],false,λH a b c l j i=>?_,(Stp.refl f).mono NW,Aw h.1 N W 0,by rw[lk],?_⟩
 ·rw[fY]
  exact JI g rfl NW NW
 ·rw[uX,Nat.pow_zero,Nat.div_one,cT NW]
theorem KB {x:Int} {W:Nat} (b:0<=x) (a:x<((2^W:Nat):Int)):(num (cB x.toNat 0 W):Int)=x:=by rw[uX,Nat.pow_zero,Nat.div_one,cT NW];omega
theorem AS {kind:Int} {L:List Nd} {i:Nat} {x:Nd} (b:L[i]?=some x):da kind i (L.drop i)=if x.k=kind then (i:Int)::da kind (i+1) (L.drop (i+1)) else da kind (i+1) (L.drop (i+1)):=by obtain⟨a,rfl⟩:=aD.1 b;rw[aJ a,da]
theorem vc {p W:Nat} {cs rest:On} (d:1<=p) (a:cs.length=W) (e:1<=W) (b:v.length<=1000) (h:v.drop (p-1)=cs++rest):p+W<=2000/\v.drop (p+W-1)=rest:=by have c:=congrArg List.length h;rw[List.length_drop,aQ,a] at c;refine⟨NW,?_⟩;rw[show p+W-1=(p-1)+W by omega,<-List.drop_drop,h,<-a,List.drop_left]
theorem vd (pre:Ol) (hv:(v.length:Int)=ins) {nI nS:Int} {L:List Nd} {m0 m1 m2 m3 m4:PV} {vS:On} (hl:L.length<=80) (hz:∀(j:Nat) (x:Nd),L[j]?=some x->eA L j x=0) (ao:∀(j:Nat) (x:Nd),L[j]?=some x->1<=x.w/\x.w<=8) :
  ∀ (k i:Nat) (U X:Oi) (A:Om) (e:Oj) (N:List On) (q:Oi) (z u:Nat) (J:Ol),i+k=L.length->ck ins A=0->A.length+5000*k+5000<=1000000->e.length=i->
   BitsOk ins v A L e N q->VGood L i q U X->1<=z->1<=u->v.drop (z-1)=iA L (da 2 i (L.drop i)) X++vS->v.drop (u-1)=iA L (da 3 i (L.drop i)) U->
   ∃ A' f m s J',ab pg q4u (BR1 pre nI nS L m0 m1 m2 m3 m4 i ((hH m0 m1 m2 m3 m4 (Oa (e.map λl=>LI l)) [(2,z),(3,u)] J).g pre ins A))=
     Og ⟨[(1,Ob),(2,Oc),(3,I nI),(4,I nS),(5,Oe (pre.length+2) 0)],[[m0,m1,m2,m3,m4],[I 0,.sl true 2 [],I 0,I 0,Oa [],Oa [],Oa [],Oa []]],(hH m0 m1 m2 m3 m4 (Oa (f.map λl=>LI l)) s J').g pre ins A'⟩/\
    Stp ins A A' (5000*k)/\BitsOk ins v A' L f m (fR L q U X (L.drop i))/\f.length=L.length
 | 0,i,U,X,A,e,N,q,z,u,J,h,hc,_,F,hB,_,_,_,_,_=>by
  refine⟨A,e,N,[(2,z),(3,u)],J,?_,Stp.refl hc,?_,NW⟩
  ·have aN:¬(i:Int)<(L.length:Int):=NW
   unfold BR1;refine (bn (s1:=?J) (aa ?Z)).trans ?Y
   case Z=>simp[q36,aN];rfl
   case Y=>simp[keep,bj]
  ·rw[aM NW];exact hB
 | k +1,i,U,X,A,e,N,q,z,u,J,h,hc,hA,F,hB,hg,al,ad,E,D=>by
  have hi:i<L.length:=NW;obtain⟨aR,_,_,_⟩:=dX hc;have O:L[i]?=some L[i]:=aA hi;have hn:=hz i _ O;have hw:=ao i _ O;have aS:=Kz hn;have av:wAt L (e.length:Int)=(L[i]).w:=by rw[F];exact rL O
  have M:=AS (kind:=2) O;have H:=AS (kind:=3) O;rw[aJ hi,fR];generalize L[i]=x at *;have aP:A.length+5000<=1000000:=NW;have an:(e.map λl=>LI l).length=i:=by rw[aW,F]
  have aE:∀P,x.k≠2->x.k≠3->NS pre ins v A x.k x.w x.n (eY e (ar x.k) 0 x.a) (eY e (ar x.k) 1 x.b) (eY e (ar x.k) 2 x.c) P->(∀y∈dG x,0<=y/\y.toNat<e.length)->VGood L (i+1) (q++[P]) U X->
    ∃A' f m s J',ab pg q4u (BR1 pre nI nS L m0 m1 m2 m3 m4 i ((hH m0 m1 m2 m3 m4 (Oa (e.map λl=>LI l)) [(2,z),(3,u)] J).g pre ins A))=
     Og ⟨[(1,Ob),(2,Oc),(3,I nI),(4,I nS),(5,Oe (pre.length+2) 0)],[[m0,m1,m2,m3,m4],[I 0,.sl true 2 [],I 0,I 0,Oa [],Oa [],Oa [],Oa []]],(hH m0 m1 m2 m3 m4 (Oa (f.map λl=>LI l)) s J').g pre ins A'⟩/\
    Stp ins A A' (5000*(k+1))/\BitsOk ins v A' L f m (fR L (q++[P]) U X (L.drop (i+1)))/\f.length=L.length:=by
   intro P T S hN R t;obtain⟨A1,out,ob,J1,f1,s1,l1,w1,n1⟩:=Kb pre hN R;have b1:=s1.2.1;rw[if_neg T] at M;rw[if_neg S] at H;rw[M] at E;rw[H] at D;obtain⟨A2,f,m,s,J',g1,g2,g3,g4⟩:=vd pre hv (nI:=nI) (nS:=nS) (m0:=m0) (m1:=m1) (m2:=m2) (m3:=m3) (m4:=m4) hl hz ao k (i+1) U X A1 (e++[out]) (N++[ob]) (q++[P]) z u (J++J1) NW s1.1 NW (by simp[F]) ((hB.mono hv s1).push l1 (by rw[w1,av]) n1) t al ad E D;refine⟨A2,f,m,s,J',?_,(s1.trans g2).mono (by rw[Nat.mul_succ,Nat.add_comm];exact cU _),g3,g4⟩
   have G:=Kw (pre:=pre) (ins:=ins) (nI:=nI) (nS:=nS) (m0:=m0) (m1:=m1) (m2:=m2) (m3:=m3) (m4:=m4) (nx:=[(2,(z:Int)),(3,(u:Int))]) (J:=J) (J':=J++J1) (A:=A) (A':=A1) (BS:=e.map λl=>LI l) (out:=out) hi hl O an (by
    show (if x.k=2 then _ else if x.k=3 then _ else none)=none
    rw[if_neg T,if_neg S]) (λo=>f1 (hH m0 m1 m2 m3 m4 (.sl o 1 (e.map λl=>LI l)) [(2,z),(3,u)] J) o rfl)
   unfold BR1 at G g1 ⊢;refine ay (aa G) ?_;rw[bI] at g1;exact g1
  split
  ·rename_i h1
   have aC:=uW hn h1;exact aE x.n NW NW (KA h1 hc hw aC) (λy hy=>by unfold dG at hy;rw[zN NW] at hy;cases hy) (hg.other O NW NW aC.1 aC.2)
  ·rename_i h1
   obtain⟨W,hW⟩:∃W:Nat,x.w=W:=⟨x.w.toNat,NW⟩
   have ap:wAt L (i:Int)=W:=by rw[<-F,av,hW]
   have aG:∀(wv:Int) (p:Nat) (rest:On) (B C:Oi) (r:Nat×Nat),x.k=2\/x.k=3->gx [(2,(z:Int)),(3,(u:Int))] x.k=some (p:Int)->1<=p->v.drop (p-1)=cB wv.toNat 0 W++rest->VGood L (i+1) (q++[wv]) B C->io [(2,(z:Int)),(3,(u:Int))] x.k ((p+W:Nat):Int)=[(2,(r.1:Int)),(3,(r.2:Int))]->
     1<=r.1->1<=r.2->v.drop (r.1-1)=iA L (da 2 (i+1) (L.drop (i+1))) C++vS->v.drop (r.2-1)=iA L (da 3 (i+1) (L.drop (i+1))) B->
    ∃A' f m s J',ab pg q4u (BR1 pre nI nS L m0 m1 m2 m3 m4 i ((hH m0 m1 m2 m3 m4 (Oa (e.map λl=>LI l)) [(2,z),(3,u)] J).g pre ins A))=
     Og ⟨[(1,Ob),(2,Oc),(3,I nI),(4,I nS),(5,Oe (pre.length+2) 0)],[[m0,m1,m2,m3,m4],[I 0,.sl true 2 [],I 0,I 0,Oa [],Oa [],Oa [],Oa []]],(hH m0 m1 m2 m3 m4 (Oa (f.map λl=>LI l)) s J').g pre ins A'⟩/\
    Stp ins A A' (5000*(k+1))/\BitsOk ins v A' L f m (fR L (q++[wv]) B C (L.drop (i+1)))/\f.length=L.length:=by
    intro wv p rest B C r aQ hf hp hd t aD aL aK aB ax;obtain⟨aO,_⟩:=vc (W:=W) hp (lk _ _ _) NW NW hd;have aF:=AO hv (A:=A) _ p rest hp hd;rw[lk] at aF;have Q:=t.inw i (by rw[t.len];omega);have aH:=nr (d:=(0:Int)) (x:=wv) (l:=q) (j:=i);rw[if_neg (by rw[hg.len];omega),if_pos hg.len.symm] at aH;rw[aH,ap,Int.toNat_natCast] at Q
    obtain⟨A2,f,m,s,J',g1,g2,g3,g4⟩:=vd pre hv (nI:=nI) (nS:=nS) (m0:=m0) (m1:=m1) (m2:=m2) (m3:=m3) (m4:=m4) hl hz ao k (i+1) B C A (e++[jW p W]) (N++[cB wv.toNat 0 W]) (q++[wv]) r.1 r.2 J NW hc NW (by simp[F]) (hB.push aF (by rw[lk,av,hW]) (KB Q.1 Q.2)) t aL aK aB ax;refine⟨A2,f,m,s,J',?_,g2.mono (Nat.mul_le_mul_left _ (Nat.le_succ k)),g3,g4⟩
    have G:=Ky (pre:=pre) (ins:=ins) (nI:=nI) (nS:=nS) (m0:=m0) (m1:=m1) (m2:=m2) (m3:=m3) (m4:=m4) (nx:=[(2,(z:Int)),(3,(u:Int))]) (J:=J) (A:=A) (BS:=e.map λl=>LI l) (at':=p) (W:=W) hi hl O an hf hW NW aO;rw[aD] at G;unfold BR1 at G g1 ⊢;refine ay (aa G) ?_;rw[bI] at g1;exact g1
   split
   ·rename_i S
    obtain⟨wv,B,rfl,t⟩:=hg.state O S;rw[if_pos S] at H;rw[if_neg NW] at M;rw[H,iA,ap,Int.toNat_natCast] at D;rw[M] at E;obtain⟨_,ax⟩:=vc (W:=W) ad (lk _ _ _) NW NW D;exact aG wv u _ B X (z,u+W) (.inr S) (by rw[S];rfl) ad D t (by rw[S];rfl) al (by show 1<=u+W;omega) E ax
   ·rename_i S
    split
    ·rename_i T
     obtain⟨wv,C,rfl,t⟩:=hg.input O T;rw[if_pos T] at M;rw[if_neg NW] at H;rw[M,iA,ap,Int.toNat_natCast,aT] at E;rw[H] at D;obtain⟨_,aB⟩:=vc (W:=W) al (lk _ _ _) NW NW E;exact aG wv z _ U C (z+W,u) (.inl T) (by rw[T];rfl) al E t (by rw[T];rfl) (by show 1<=z+W;omega) ad aB D
    ·rename_i T
     have ho:=uV O hn NW;have ha:=ho.a;have hb:=ho.b;have aU:=ho.c;have R:∀y∈dG x,0<=y/\y.toNat<e.length:=J9 NW NW NW;have aI:pf L e.length x:=by rw[F];exact ho
     exact aE (ma L q x) T S (Ka pre hv hB aI hc aP) R (hg.op O S T ho)
end
end
section
attribute [local congr] bu
attribute [local simp] au
def LkO (G:Ol) (g:Nat) (s:Int) (o:Option PV):Prop:=∃Q,G[g]?=some (GObj.map Q)/\eD 0 Q (I s)=some o
theorem AT (G:Ol) (a b:Om) (k:Int):LkO (G++[.map (bi a),.map (bi b)]) G.length k ((gx a k).map I):=
 ⟨bi a,NX,yu _ _⟩
theorem KC (G:Ol) (b a:Om) (k:Int):LkO (G++[.map (bi b),.map (bi a)]) (G.length+1) k ((gx a k).map I):=
 ⟨bi a,NX,yu _ _⟩
theorem KD {α:Type} {l:List α} {i j:Nat} (h:l.Nodup) (e:l[i]?=l[j]?) (a:i<l.length):i=j:=(List.getElem?_inj a h).1 e
theorem AU {a:Om} {i:Nat} (hn:(a.map (·.1)).Nodup) (b:i<a.length):io (a.take i) a[i].1 a[i].2=a.take (i+1):=by
 rw[AH]
 ·rw[List.take_succ_eq_append_getElem b]
 ·intro p c
  obtain⟨j,d,rfl⟩:=cN.1 c;rw[cP] at d;rw[List.getElem_take];intro e;have:j=i:=KD (l:=a.map (·.1)) hn (by simp[aA (show j<a.length by omega),aA b,e]) (by simp;omega);omega
theorem rS:∀{ps:Om} {s:Int},gx ps s=if jV ps s then some (dM ps s) else none
 |[],_=>rfl
 |(a,u)::ps,s=>by
  have b:=rS (ps:=ps) (s:=s);rw[gx,AG,dM,b];by_cases h:a=s
  ·rw[if_pos h.symm,aG h,Bool.true_or,if_pos rfl,if_pos h]
  ·rw[if_neg (λe=>h e.symm),aF h,Bool.false_or,if_neg h]
def C0:Ok:=[I 0,.sl true 2 [],I 0,I 0,Oa [],Oa [],Oa [],Oa []]
def C1 (nI e:Int) (a b c d:Ok):Ok:=[I 0,.sl true 2 [],I nI,I e,Oa a,Oa b,Oa c,Oa d]
section
variable {pre:Ol} {m0 m1 m2 m3 m4:PV} {nI nS:Int} {G:Ol} {ps P1 P2:Om}
theorem AW (e:ps.length<=1000) (hn:(ps.map (·.1)).Nodup):∀k i,i+k=ps.length->
  ab pg qd5 ⟨[(1,Ob),(2,Oc),(5,Oe (pre.length+2) 0),(13,Od),(14,.mp G.length),(15,.mp (G.length+1)),(112,LP ps),(113,I ps.length),(114,I (i:Int))],[[m0,m1,m2,m3,m4],C0,C1 nI nS [] [] [] []],G++[.map (bi (ps.take i)),.map (bi P2)]⟩=
   Og ⟨[(1,Ob),(2,Oc),(5,Oe (pre.length+2) 0),(13,Od),(14,.mp G.length),(15,.mp (G.length+1))],[[m0,m1,m2,m3,m4],C0,C1 nI nS [] [] [] []],G++[.map (bi ps),.map (bi P2)]⟩
 |0,i,h=>by
  rw[bK NW];have a:¬(i:Int)<(ps.length:Int):=NW;unfold C0 C1;refine (bn (s1:=?J) (aa ?Z)).trans ?Y
  case Z=>simp[q8e,a];rfl
  case Y=>simp[keep,bj]
 | k+1,i,h=>by
  have c:i<ps.length:=NW;have a:(i:Int)<(ps.length:Int):=NW;have g:=wrS' i NW;have f:(ps.map aj)[i]?=some (.agg [I ps[i].1,I ps[i].2]):=by simp[aA c,aj]
  have d:=AU hn c;have b:=AW e hn k (i+1) NW;unfold C0 C1 LP at b ⊢;refine ay (aa ?K) b
  case K=>
   generalize ps[i].1=p,ps[i].2=q,ps.take (i+1)=j,ps.take i=l,ps.map aj=m at *;simp[q8e,a];simp[f,d,eS,List.set_append_right,g,show Nat.ble 1 3=true from rfl,show Nat.ble 2 3=true from rfl,show Nat.ble 3 3=true from rfl,show Nat.ble 1 4=true from rfl,show Nat.ble 2 4=true from rfl]
theorem AX (e:ps.length<=1000) (hn:(ps.map (·.1)).Nodup):∀k i,i+k=ps.length->
  ab pg qd6 ⟨[(1,Ob),(2,Oc),(5,Oe (pre.length+2) 0),(13,Od),(14,.mp G.length),(15,.mp (G.length+1)),(125,LP ps),(126,I ps.length),(127,I (i:Int))],[[m0,m1,m2,m3,m4],C0,C1 nI nS [] [] [] []],G++[.map (bi P1),.map (bi (ps.take i))]⟩=
   Og ⟨[(1,Ob),(2,Oc),(5,Oe (pre.length+2) 0),(13,Od),(14,.mp G.length),(15,.mp (G.length+1))],[[m0,m1,m2,m3,m4],C0,C1 nI nS [] [] [] []],G++[.map (bi P1),.map (bi ps)]⟩
 |0,i,h=>by
  rw[bK NW];have a:¬(i:Int)<(ps.length:Int):=NW;unfold C0 C1;refine (bn (s1:=?J) (aa ?Z)).trans ?Y
  case Z=>simp[q8f,a];rfl
  case Y=>simp[keep,bj]
 | k+1,i,h=>by
  have c:i<ps.length:=NW;have a:(i:Int)<(ps.length:Int):=NW;have g:=wrS' i NW;have f:(ps.map aj)[i]?=some (.agg [I ps[i].1,I ps[i].2]):=by simp[aA c,aj]
  have d:=AU hn c;have b:=AX e hn k (i+1) NW;unfold C0 C1 LP at b ⊢;refine ay (aa ?K) b
  case K=>
   generalize ps[i].1=p,ps[i].2=q,ps.take (i+1)=j,ps.take i=l,ps.map aj=m at *;simp[q8f,a];simp[f,d,eS,List.set_append_right,g,show Nat.ble 1 3=true from rfl,show Nat.ble 2 3=true from rfl,show Nat.ble 3 3=true from rfl,show Nat.ble 1 4=true from rfl,show Nat.ble 2 4=true from rfl]
variable {g14 g15 l j:Nat} {ST:Ok} {nx bd hd:Ok}
def sE (a:Ol) (c b:Nat) (d:Ok) (l j:Int):Oo:=
 [(1,Ob),(2,Oc),(5,Oe (a.length+2) 0),(13,Od),(14,.mp c),(15,.mp b),(138,NZ d),(139,I l),(140,I j)]
theorem AY {N W:Nat} (m:N<256) (hw:W<=8):∀(k i:Nat) (a:Oi),i+k=W->a.length<=1000+i->
  ab pg qd7 ⟨[(1,Ob),(2,Oc),(5,Oe (pre.length+2) 0),(13,Od),(14,.mp g14),(15,.mp g15),(24,I (N:Int)),(138,NZ ST),(139,I l),(140,I j),(182,I (W:Int)),(183,I (i:Int))],[[m0,m1,m2,m3,m4],C0,C1 nI nS (a.map I) nx bd hd],G⟩=
   Og ⟨sE pre g14 g15 ST l j,[[m0,m1,m2,m3,m4],C0,C1 nI nS ((a++cI N i k).map I) nx bd hd],G⟩
 |0,i,a,h,_=>by
  have b:¬(i:Int)<(W:Int):=NW;rw[cI,bE];unfold C0 C1 sE;refine (bn (s1:=?J) (aa ?Z)).trans ?Y
  case Z=>simp[q8g,b];rfl
  case Y=>simp[keep,bj]
 | k+1,i,a,h,ha=>by
  have b:(i:Int)<(W:Int):=NW;have e:(0:Int)<=(i:Int):=NW;have f:(a.map I).length=a.length:=NX;have d:(a.length+1)*8<=maxBytes:=by have:=MB;omega
  have o:=wrS' i NW;have g:N/2^i<=N:=Nat.div_le_self _ _;have n:jI .i64 (kg .i64 (N:Int) (i:Int)) 1=((N/2^i%2:Nat):Int):=by rw[qX _ _ NW,show (1:Int)=((1:Nat):Int) from rfl,tP NW NW,Nat.and_one_is_mod]
  have c:=AY m hw k (i+1) (a++[((N/2^i%2:Nat):Int)]) NW (by simp;omega);rw[aT,bI (l₁:=a) (l₂:=[((N/2^i%2:Nat):Int)])] at c;unfold C0 C1 sE at c ⊢;refine ay (aa ?K) c
  case K=>
   generalize a.map I=X,N/2^i%2=q at *;simp[q8g,b];simp[e,f,n,d,o]
theorem AZ {W:Nat} (hw:W<=8):∀(k i:Nat) (a:Oi),i+k=W->a.length<=1000+i->
  ab pg qd8 ⟨[(1,Ob),(2,Oc),(5,Oe (pre.length+2) 0),(13,Od),(14,.mp g14),(15,.mp g15),(138,NZ ST),(139,I l),(140,I j),(201,I (W:Int)),(202,I (i:Int))],[[m0,m1,m2,m3,m4],C0,C1 nI nS (a.map I) nx bd hd],G⟩=
   Og ⟨sE pre g14 g15 ST l j,[[m0,m1,m2,m3,m4],C0,C1 nI nS ((a++List.replicate k (-1)).map I) nx bd hd],G⟩
 |0,i,a,h,_=>by
  have b:¬(i:Int)<(W:Int):=NW;rw[List.replicate_zero,bE];unfold C0 C1 sE;refine (bn (s1:=?J) (aa ?Z)).trans ?Y
  case Z=>simp[q8h,b];rfl
  case Y=>simp[keep,bj]
 | k+1,i,a,h,ha=>by
  have b:(i:Int)<(W:Int):=NW;have e:(a.map I).length=a.length:=NX;have d:(a.length+1)*8<=maxBytes:=by have:=MB;omega
  have f:=wrS' i NW;have c:=AZ hw k (i+1) (a++[-1]) NW (by simp;omega);rw[aT,bI (l₁:=a) (l₂:=[-1])] at c;unfold C0 C1 sE at c ⊢;refine ay (aa ?K) c
  case K=>
   generalize a.map I=X at *;simp[q8h,b];simp[e,d,f]
theorem A0 {ini:Ok} (a:j<=1000):ab pg q8j ⟨sE pre g14 g15 ST l j,[[m0,m1,m2,m3,m4],C0,C1 nI nS ini nx bd hd],G⟩=Og ⟨sE pre g14 g15 ST l ((j+1:Nat):Int),[[m0,m1,m2,m3,m4],C0,C1 nI nS ini nx bd hd],G⟩:=by unfold C0 C1 sE;exact aa (by simp[q8j,wrS' j NW])
theorem KE {L:List Nd} {s q:Int} {x:Nd} {W:Nat} {b:Bool} {acc:Oi} (h:0<=s) (g:L[s.toNat]?=some x) (hw:x.w=(W:Int)) (e:W<=8) (ha:acc.length<=1000) :
  ab pg q8i ⟨[(1,Ob),(2,Oc),(5,Oe (pre.length+2) 0),(13,Od),(14,.mp g14),(15,.mp g15),(21,I s),(22,I q),(138,NZ ST),(139,I l),(140,I j),(163,.bool b)],[[LN L,m1,m2,m3,m4],C0,C1 nI nS (acc.map I) nx bd hd],G⟩=
   Og ⟨sE pre g14 g15 ST l j,[[LN L,m1,m2,m3,m4],C0,C1 nI nS ((acc++List.replicate W (-1)).map I) nx bd hd],G⟩:=by
 have f:=AZ (pre:=pre) (m0:=LN L) (m1:=m1) (m2:=m2) (m3:=m3) (m4:=m4) (nI:=nI) (nS:=nS) (G:=G) (g14:=g14) (g15:=g15) (l:=l) (j:=j) (ST:=ST) (nx:=nx) (bd:=bd) (hd:=hd) e W 0 acc NW NW;simp only[aR] at f;have d:(L.map bh)[s.toNat]?=some (.agg [I x.k,I x.w,I x.a,I x.b,I x.c,I x.n]):=by rw[aB,g];rfl
 rw[hw] at d;unfold C0 C1 at *;refine aa ?_;unfold LN at *;generalize L.map bh=LV,(acc++List.replicate W (-1)).map I=i,acc.map I=X at *;simp[q8i,h,d,f]
end
end
def hJ (l:Oi):List (PV×PV):=l.map λa=>(I a,B true)
theorem vk (l:Oi) (k:Int):eD 0 (hJ l) (I k)=some (if k∈l then some (B true) else none):=by
 induction l with
 |nil=>rfl
 |cons a l c=>
  have b:eD 0 (l.map λa=>(I a,B true)) (I k)=some (if k∈l then some (B true) else none):=c;by_cases h:k=a
  ·simp[hJ,eD,dB,h]
  ·simp[hJ,eD,dB,aU h,h,b]
theorem KZ {l:Oi} {k:Int} (c:k∉l):ef 0 (hJ l) (I k) (B true)=some (hJ (l++[k])):=by
 induction l with
 |nil=>rfl
 |cons a l d=>
  have h:k≠a:=λe=>c (by simp[e])
  have b:ef 0 (l.map λa=>(I a,B true)) (I k) (B true)=some (hJ (l++[k])):=d (λf=>c (by simp[f]));simp[hJ,ef,dB,aU h,h] at b ⊢;exact b
def fS (l:List (Int×PV)):List (PV×PV):=l.map λa=>(I a.1,a.2)
def js:List (Int×PV)->Int->Option PV
 |[],_=>none
 |(a,v)::l,k=>if k=a then some v else js l k
def fc:List (Int×PV)->Int->PV->List (Int×PV)
 |[],k,v=>[(k,v)]
 |(a,u)::l,k,v=>if k=a then (k,v)::l else (a,u)::fc l k v
theorem rV (l:List (Int×PV)) (k:Int):eD 0 (fS l) (I k)=some (js l k):=by
 induction l with
 |nil=>rfl
 |cons x l c=>
  obtain⟨a,v⟩:=x;have b:eD 0 (l.map λa=>(I a.1,a.2)) (I k)=some (js l k):=c;by_cases h:k=a
  ·simp[fS,eD,js,dB,h]
  ·simp[fS,eD,js,dB,aU h,h,b]
theorem pm (l:List (Int×PV)) (k:Int) (v:PV):ef 0 (fS l) (I k) v=some (fS (fc l k v)):=by
 induction l with
 |nil=>rfl
 |cons x l c=>
  obtain⟨a,u⟩:=x;have b:ef 0 (l.map λa=>(I a.1,a.2)) (I k) v=some (fS (fc l k v)):=c;by_cases h:k=a
  ·simp[fS,ef,fc,dB,h]
  ·simp[fS,ef,fc,dB,aU h,h,b]
theorem Bh (l:List (Int×PV)) (k:Int) (v:PV) (n:Int):js (fc l k v) n=if n=k then some v else js l n:=by
 induction l with
 |nil=>simp[fc,js]
 | cons x l b=>
  obtain⟨a,u⟩:=x;unfold fc;by_cases h:k=a
  ·subst h
   rw[if_pos rfl];unfold js;by_cases hn:n=k<;>simp[hn]
  ·rw[if_neg h]
   unfold js;by_cases hn:n=a
   ·subst hn
    simp[Ne.symm h]
   ·rw[if_neg hn,if_neg hn,b]
inductive Ro where
 |bx|wm|so|bb|lv|tr|mk
 |cl (i:Nat)
 |wt (n:Int)
 |ex (b:Nat)
 |tm (i:Nat)
 deriving DecidableEq
abbrev Hp:=Ro->Option (Nat×GObj)
def upd (H:Hp) (r:Ro) (x:Nat×GObj):Hp:=λq=>if q=r then some x else H q
theorem ec (H:Hp) (r:Ro) (x:Nat×GObj):upd H r x r=some x:=if_pos rfl
theorem bz (H:Hp) {r q:Ro} (x:Nat×GObj) (h:q≠r):upd H r x q=H q:=if_neg h
structure Rp (H:Hp) (gh:Ol):Prop where
 get:∀{r b o},H r=some (b,o)->hr gh b=some o
 inj:∀{r q b o p},H r=some (b,o)->H q=some (b,p)->r=q
theorem Rp.set {H:Hp} {m:Ol} (h:Rp H m) {r:Ro} {b:Nat} {o:GObj} (i:H r=some (b,o)) (l:GObj):Rp (upd H r (b,l)) (hw m b l) where
 get:=λ{q c p} d=>by
  unfold upd at d;rw[qV];by_cases a:q=r
  ·rw[if_pos a] at d;cases d
   rw[if_pos rfl,h.get i];rfl
  ·rw[if_neg a] at d
   have:b≠c:=λe=>by subst e;exact a (h.inj d i)
   rw[if_neg this];exact h.get d
 inj:=λ{q s c t n} g f=>by
  unfold upd at g f;by_cases k:q=r<;>by_cases j:s=r<;>simp only[k,j,if_true,if_false,bW,bZ] at g f
  ·rw[k,j]
  ·obtain⟨rfl,rfl⟩:=g;exact absurd (h.inj f i) j
  ·obtain⟨rfl,rfl⟩:=f;exact absurd (h.inj g i) k
  ·exact h.inj g f
theorem Rp.new {H:Hp} {b:Ol} (h:Rp H b) (r:Ro) (o:GObj):Rp (upd H r (b.length,o)) (ha b o) where
 get:=λ{q c p} a=>by
  unfold upd at a;rw[oq];by_cases d:q=r
  ·rw[if_pos d] at a;cases a;rw[if_pos rfl]
  ·rw[if_neg d] at a
   have:c<b.length:=kh (h.get a);rw[if_neg (Nat.ne_of_lt this)];exact h.get a
 inj:=λ{q s c k j} f e=>by
  unfold upd at f e;by_cases i:q=r<;>by_cases g:s=r<;>simp only[i,g,if_true,if_false,bW,bZ] at f e
  ·rw[i,g]
  ·obtain⟨rfl,rfl⟩:=f;have:_<b.length:=kh (h.get e);omega
  ·obtain⟨rfl,rfl⟩:=e;have:_<b.length:=kh (h.get f);omega
  ·exact h.inj f e
def ren (H:Hp) (r q:Ro):Hp:=λs=>if s=q then H r else if s=r then none else H s
theorem Rp.ren {H:Hp} {g:Ol} (h:Rp H g) (r q:Ro):Rp (ren H r q) g:=by
 have c:∀{s x},Lw.ren H r q s=some x->H (if s=q then r else s)=some x/\(s=q\/s≠r):=λ{s x} a=>by
  unfold Lw.ren at a;by_cases e:s=q
  ·rw[if_pos e] at a ⊢;exact⟨a,.inl e⟩
  ·rw[if_neg e] at a ⊢
   by_cases d:s=r
   ·rw[if_pos d] at a;cases a
   ·rw[if_neg d] at a;exact⟨a,.inr d⟩
 refine⟨λa=>h.get (c a).1,λ{s t b o p} j i=>?_⟩;obtain⟨n,m⟩:=c j;obtain⟨l,k⟩:=c i;have:=h.inj n l;by_cases f:s=q<;>by_cases d:t=q<;>simp only[f,d,if_true,if_false] at this
 ·rw[f,d]
 ·exact absurd this.symm (k.resolve_left d)
 ·exact absurd this (m.resolve_left f)
 ·exact this
def KV (H:Hp) (r:Ro) (v:PV) (c:Oi):Prop:=
 ∃b a d,v= .stk b a c.length/\H r=some (b,.stk a ((c++d).map I))
def LV (H:Hp) (r:Ro) (v:PV) (a:Oi):Prop:=(a=[]/\v= .nils)\/KV H r v a
def CV (H:Hp) (r:Ro) (v:PV) (a:Oi):Prop:=(a=[]/\v= NZ [])\/KV H r v a
section
variable {H H':Hp} {r:Ro} {v:PV} {xs:Oi}
theorem LV.same (h:LV H r v xs) (e:H' r=H r):LV H' r v xs:=by unfold LV KV;rw[e];exact h
theorem CV.same (h:CV H r v xs) (e:H' r=H r):CV H' r v xs:=by unfold CV KV;rw[e];exact h
theorem LV.one (h:LV H r v xs):PV.one v=true/\degr v=v/\aw v=v/\az v=true/\bj 0 v=true/\PV.cells v=[v]:=by rcases h with ⟨-,rfl⟩|⟨b,a,c,rfl,-⟩<;>exact⟨rfl,rfl,rfl,rfl,rfl,rfl⟩
theorem CV.one (h:CV H r v xs):PV.one v=true/\degr v=v/\aw v=v/\az v=true/\bj 0 v=true/\PV.cells v=[v]:=by rcases h with ⟨-,rfl⟩|⟨b,a,c,rfl,-⟩<;>exact⟨rfl,rfl,rfl,rfl,rfl,rfl⟩
theorem LV.len (h:LV H r v xs):jJ v=some (xs.length:Int):=by rcases h with ⟨rfl,rfl⟩|⟨b,a,c,rfl,-⟩<;>rfl
theorem CV.len (h:CV H r v xs):jJ v=some (xs.length:Int):=by rcases h with ⟨rfl,rfl⟩|⟨b,a,c,rfl,-⟩<;>rfl
end
structure SS where
 (g wm so bb lv n:Nat)
 (sv bv lw:Oi)
 (cp:Ok)
 (ls:Oj)
 (F:List (Int×PV))
 (wl:Int->Oq)
 (tp mp:PV)
 (tr:Oi)
 (mks:Oq)
 (hd:Nat)
 (fr fu:Int)
 (pr:Ok)
 (fa:Bool)
def SS.cs (S:SS):Ok:=[I S.n,Oa S.cp,.mp S.wm,.bs true S.so 0 (S.n+1) 1,.bs true S.bb 0 (S.n+1) 1,.bs true S.lv 0 (S.n+1) 1,S.tp,S.mp,I S.hd,I S.fr,I S.fu,Oa S.pr,B S.fa]
abbrev nI (l:Oq):Oi:=l.map λ(i:Nat)=>(i:Int)
abbrev wv (F:List (Int×PV)) (n:Int):PV:=(js F n).getD .nils
structure SOk (H:Hp) (S:SS):Prop where
 bx:H .bx=some (S.g,.cells S.cs)
 wm:H .wm=some (S.wm,.map (fS S.F))
 so:H .so=some (S.so,.cells (S.sv.map I))
 bb:H .bb=some (S.bb,.cells (S.bv.map I))
 lv:H .lv=some (S.lv,.cells (S.lw.map I))
 svl:S.sv.length=S.n+1
 bvl:S.bv.length=S.n+1
 lwl:S.lw.length=S.n+1
 tr:LV H .tr S.tp S.tr
 mks:LV H .mk S.mp (nI S.mks)
 cll:S.cp.length=S.ls.length
 cl:∀i v k,S.cp[i]?=some v->S.ls[i]?=some k->CV H (.cl i) v k
 wt:∀n,LV H (.wt n) (wv S.F n) (nI (S.wl n))
def apH (c:Ol) (v:PV) (a:Int):Ol:=match v with
 | .stk b _ n=>match hr c b with
  |some (.stk g d)=>hw c b (.stk (g+1) (d.take n++[I a]))
  |_=>c
 |_=>ha c (.stk 0 [I a])
def apV (c:Ol) (v:PV):PV:=match v with
 | .stk b a n=> .stk b (a+1) (n+1)
 |_=> .stk c.length 0 1
theorem LV.app {H:Hp} {r:Ro} {v:PV} {d:Oi} {c:Ol} (h:LV H r v d) (i:Rp H c) (a:Int) (l:(d.length+1)*8<=maxBytes) :
  (∀o,apL c 8 (.sl o 1 [I a]) [I a] v=some (apH c v a,apV c v))/\∃x,Rp (upd H r x) (apH c v a)/\KV (upd H r x) r (apV c v) (d++[a]):=by
 rcases h with ⟨rfl,rfl⟩|⟨b,f,k,rfl,j⟩
 ·refine⟨λo=>?_,(c.length,.stk 0 [I a]),i.new r _,c.length,0,[],rfl,?_⟩
  ·simp only[apL,apV,apH]
   rw[if_pos ⟨NX,by simp[maxBytes],rfl⟩];rfl
  ·rw[ec];rfl
 ·have g:=i.get j
  have e:((d++k).map I).take d.length=d.map I:=by rw[bI,List.take_left' (aW ..)]
  refine⟨λo=>?_,(b,.stk (f+1) (d.map I++[I a])),?_,b,f+1,[],by simp[apV],?_⟩
  ·simp only[apL,show c[b]?=_ from g,fO]
   rw[if_pos ⟨trivial,NX,by simpa using l,NX,NX⟩];simp only[apV,apH,g,e,aV,cF,cV];rfl
  ·have:=i.set j (.stk (f+1) (d.map I++[I a]))
   simp only[apH,g,e];exact this
  ·rw[ec];simp
theorem LV.appx {H:Hp} {r:Ro} {v:PV} {f:Oi} {g:Ol} (h:LV H r v f) (w:Rp H g) {a:Int} {x:Nat×GObj} (z:Rp (upd H r x) (apH g v a)) (y:KV (upd H r x) r (apV g v) (f++[a])) :
  ∀b d n,apV g v= .stk b d n->upd H r x r=some (b,.stk d ((f++[a]).map I)):=by
 intro b d n e;obtain⟨C,p,s,q,k⟩:=y;rw[e] at q;injection q with j i l
 subst j;subst i;have c:=z.get k;rcases h with ⟨rfl,rfl⟩|⟨B,o,t,rfl,u⟩
 ·simp only[apV] at e
  injection e with j i l
  subst j;subst i;have:hr (apH g .nils a) g.length=some (.stk 0 [I a]):=by simp only[apH];exact kW ..
  rw[this] at c;rw[k];injection c with c
  rw[<-c];rfl
 ·simp only[apV] at e
  injection e with j i l
  subst j;subst i;have m:=w.get u;have A:((f++t).map I).take f.length=f.map I:=by rw[bI,List.take_left' (aW ..)]
  simp only[apH,m,A] at c;rw[qW,m] at c;injection c with c
  rw[k,<-c];simp
section
variable {gh:Ol} {n:Int}
attribute [local simp high] fq
attribute [local simp] ft fw
theorem ff {cs:Ok} {i:Nat} {v:PV} (h:i<cs.length):au cs i [v]=cs.set i v:=by unfold au;rw[List.set_eq_take_append_cons_drop,if_pos h];simp
theorem ny (h:n.natAbs<=4611686018427387904):ac pg 187 [I n] gh=some (I n.natAbs,gh):=by
 have hw:WI.wrap (-n)= -n:=aq NW NW;refine ak (fn:=q7t) (s:=⟨[(2,I n.natAbs)],[],gh⟩) rfl rfl (aa ?J) ?Z
 case J=>
  simp[q7t,qg7,nK,hw];omega
 case Z=>simp[ag,results,q7t,ah,am,af]
def isV (a:Oi) (n:Int):Int:=if n<0 then -(a.getD n.natAbs 0) else a.getD n.natAbs 0
theorem rW {H:Hp} {S:SS} (h:SOk H S) (k:Rp H gh) (hn:n.natAbs<=S.n) (p:S.n<=1000000000) (o:∀x∈S.sv,-1<=x/\x<=1):ac pg 174 [Oe S.g 0,I n] gh=some (I (isV S.sv n),gh):=by
 have j:=k.get h.bx;have i:=k.get h.so;obtain⟨x,a⟩:∃x,S.sv[n.natAbs]?=some x:=⟨_,aA (by rw[h.svl];omega)⟩
 have m:S.sv.getD n.natAbs 0=x:=by rw[aK,a];rfl
 have l:=o x (aL a);have hw:WI.wrap (-x)= -x:=aq NW NW;have c:WI.wrap (-n)= -n:=aq NW NW;unfold isV;rw[m];by_cases b:n<0
 ·have f:(-n).toNat=n.natAbs:=NW
  have e: -n<(S.n:Int)+1:=NW;have d:n<=0:=NW;refine ak (fn:=q2q) (s:=?J) rfl rfl (aa ?Z) ?Y
  case Z=>simp[q2q,qbm,j,SS.cs,i,b,hw,c,f,e,d,a];rfl
  case Y=>simp[ag,results,q2q,ah,am,af,b]
 ·have f:n.toNat=n.natAbs:=NW
  have e:n<(S.n:Int)+1:=NW;have d:0<=n:=NW;refine ak (fn:=q2q) (s:=?K) rfl rfl (aa ?V) ?W
  case V=>simp[q2q,qbm,j,SS.cs,i,b,f,e,d,a];rfl
  case W=>simp[ag,results,q2q,ah,am,af,b]
end
section
variable {H:Hp} {gh:Ol} {S:SS} {n a:Int}
attribute [local simp high] fq
attribute [local simp] ft fw
theorem KV.one {H:Hp} {r:Ro} {v:PV} {a:Oi} (h:KV H r v a):az v=true/\PV.cells v=[v]:=by obtain⟨b,c,d,rfl,-⟩:=h;exact⟨rfl,rfl⟩
def SS.put (S:SS) (n a:Int) (tp:PV):SS:=
 {S with sv:=S.sv.set n.natAbs (if n<0 then -1 else 1),bv:=S.bv.set n.natAbs a,lw:=S.lw.set n.natAbs S.mks.length,tp:=tp,tr:=S.tr++[n] }
theorem K0 (h:SOk H S) (t:Rp H gh) (hn:n.natAbs<=S.n) (O:(S.tr.length+1)*8<=maxBytes) :
  ∃y j tp,ab pg qbn ⟨[(0,Oe S.g 0),(1,I n),(2,I a),(6,I n.natAbs)],[],gh⟩=Og ⟨[],[],j⟩/\Rp y j/\
   SOk y {S with bv:=S.bv.set n.natAbs a,lw:=S.lw.set n.natAbs S.mks.length,tp:=tp,tr:=S.tr++[n] }/\∀r,r≠ .bx->r≠ .bb->r≠ .lv->r≠ .tr->y r=H r:=by
 have N:=t.get h.bx;have A:=t.set h.bb (.cells ((S.bv.map I).set n.natAbs (I a)));have l:=A.set (r:= .lv) (by rw[bz _ _ NY];exact h.lv) (.cells ((S.lw.map I).set n.natAbs (I S.mks.length)));generalize P:hw (hw gh S.bb (.cells ((S.bv.map I).set n.natAbs (I a)))) S.lv (.cells ((S.lw.map I).set n.natAbs (I S.mks.length)))=G at l;generalize hH:upd (upd H .bb (S.bb,.cells ((S.bv.map I).set n.natAbs (I a)))) .lv (S.lv,.cells ((S.lw.map I).set n.natAbs (I S.mks.length)))=w at l;have b:∀r,r≠ .bb->r≠ .lv->w r=H r:=λr f d=>by rw[<-hH,bz _ _ d,bz _ _ f]
 obtain⟨ha,x,z,u⟩:=(h.tr.same (b .tr NY NY)).app l n O;have B:=z.set (r:= .bx) (by rw[bz _ _ NY,b _ NY NY];exact h.bx) (.cells {S with tp:=apV G S.tp }.cs);refine⟨_,_,apV G S.tp,aa ?J,B,?_,λr F E D C=>?_⟩
 case J=>
  have p:=l.get (r:= .bx) (by rw[b _ NY NY];exact h.bx);have q:=z.get (r:= .bx) (by rw[bz _ _ NY,b _ NY NY];exact h.bx);have s:=t.get h.bb;have o:=A.get (r:= .lv) (by rw[bz _ _ NY];exact h.lv);have U:n.natAbs<S.n+1:=NW;have T:(n.natAbs:Int)<(S.n:Int)+1:=NW;have L:=h.mks.len;have b:=h.mks.one;have m:=h.tr.one;have M:=u.one;simp[qbn,hn,N,SS.cs,s,o,T,U,h.bvl,h.lwl,L,ff,P,p,ha,q,b,m,M]
 ·have c:∀r,r≠ .bx->r≠ .tr->upd (upd w .tr x) .bx (S.g,.cells {S with tp:=apV G S.tp }.cs) r=w r:=λr f d=>by rw[bz _ _ f,bz _ _ d]
  have e:=λr f d R Q=>(c r f d).trans (b r R Q)
  exact {bx:=ec ..,wm:=(e _ NY NY NY NY).trans h.wm,so:=(e _ NY NY NY NY).trans h.so,bb:=(c _ NY NY).trans (by rw[<-hH,bz _ _ NY,ec];simp),lv:=(c _ NY NY).trans (by rw[<-hH,ec];simp),svl:=h.svl,bvl:=by simpa using h.bvl,lwl:=by simpa using h.lwl,tr:= .inr (by unfold KV at u ⊢;rw[bz _ _ NY];exact u),mks:=h.mks.same (e _ NY NY NY NY),cll:=h.cll,cl:=λi v k f d=>(h.cl i v k f d).same (e _ NX NX NX NX),wt:=λn=>(h.wt n).same (e _ NX NX NX NX) }
 ·rw[bz _ _ F,bz _ _ C,b _ E D]
theorem rX (h:SOk H S) (l:Rp H gh) (hn:n.natAbs<=S.n) (P:S.n<=1000000000) (L:(S.tr.length+1)*8<=maxBytes) :
  ∃f b p,ac pg 175 [Oe S.g 0,I n,I a] gh=some (.tup [],b)/\Rp f b/\SOk f (S.put n a p)/\∀r,r≠ .bx->r≠ .so->r≠ .bb->r≠ .lv->r≠ .tr->f r=H r:=by
 have d:=ny (gh:=gh) (n:=n) NW;have w:=l.get h.bx;have c:=l.get h.so;have x:(n.natAbs:Int)<(S.n:Int)+1:=NW;have y:n.natAbs<S.n+1:=NW
 -- what is put: 1, or -1
 have u:=l.set h.so (.cells ((S.sv.map I).set n.natAbs (I (if n<0 then -1 else 1))));have A:SOk (upd H .so (S.so,.cells ((S.sv.map I).set n.natAbs (I (if n<0 then -1 else 1))))) {S with sv:=S.sv.set n.natAbs (if n<0 then -1 else 1) }:=by
  have e:∀r,r≠ .so->upd H .so (S.so,.cells ((S.sv.map I).set n.natAbs (I (if n<0 then -1 else 1)))) r=H r:=λr hr=>bz _ _ hr
  exact {h with bx:=(e _ NY).trans h.bx,wm:=(e _ NY).trans h.wm,so:=by rw[ec];simp,bb:=(e _ NY).trans h.bb,lv:=(e _ NY).trans h.lv,svl:=by simpa using h.svl,tr:=h.tr.same (e _ NY),mks:=h.mks.same (e _ NY),cl:=λi v k N M=>(h.cl i v k N M).same (e _ NX),wt:=λm=>(h.wt m).same (e _ NX) }
 obtain⟨f,b,p,j,B,z,O⟩:=K0 (n:=n) (a:=a) A u hn L;refine⟨f,b,p,(ip (fn:=q4f) (e:= .normal) (s:=⟨[],[],b⟩) rfl rfl (aa ?J)).trans ?Z,B,z,λr G F E D C=>(O r G E D C).trans (bz _ _ F)⟩
 case Z=>simp[ag,results,q4f,ah,af]
 case J=>
  have t:=u.get (r:= .bx) (by rw[bz _ _ NY];exact h.bx);have q:=(l.set h.so (.cells ((S.sv.map I).set n.natAbs (I 1)))).get (r:= .bx) (by rw[bz _ _ NY];exact h.bx);by_cases o:n<0
  ·rw[if_pos o] at j t
   simp[q4f,qbo,d,hn,y,w,SS.cs,c,x,h.svl,ff,o,q,j]
  ·rw[if_neg o] at j
   simp[q4f,qbo,d,hn,y,w,SS.cs,c,x,h.svl,ff,o,j]
end
section
variable {H:Hp} {gh:Ol} {S:SS}
attribute [local simp high] fq
attribute [local simp] ft fw
def SS.watch (S:SS) (n:Int) (i:Nat) (v:PV):SS:={S with F:=fc S.F n v,wl:=λm=>if m=n then S.wl n++[i] else S.wl m }
theorem vl (l:Oq) (i:Nat):nI l++[(i:Int)]=nI (l++[i]):=by simp[nI]
theorem vm (h:SOk H S) (y:Rp H gh) (n:Int) (i:Nat) (u:((S.wl n).length+1)*8<=maxBytes) :
  ∃c v p,(∀o,apL gh 8 (.sl o 1 [I i]) [I i] (wv S.F n)=some (c,v))/\hr c S.wm=some (.map (fS S.F))/\
  (∀r b o,r≠ .wt n->H r=some (b,o)->hr c b=some o)/\(az v=true/\degr v=v)/\
  Rp p (hw c S.wm (.map (fS (fc S.F n v))))/\SOk p (S.watch n i v)/\∀r,r≠ .wm->r≠ .wt n->p r=H r:=by
 obtain⟨ha,x,d,f⟩:=(h.wt n).app y i (by simpa using u);have l:∀r,r≠ .wt n->upd H (.wt n) x r=H r:=λr hr=>bz _ _ hr
 have q:upd H (.wt n) x .wm=some (S.wm,.map (fS S.F)):=(l _ NX).trans h.wm;have s:=d.set q (.map (fS (fc S.F n (apV gh (wv S.F n)))));have e:∀r,r≠ .wm->r≠ .wt n->upd (upd H (.wt n) x) .wm (S.wm,.map (fS (fc S.F n (apV gh (wv S.F n))))) r=H r:=λr j g=>(bz _ _ j).trans (l r g)
 refine⟨_,_,_,ha,d.get q,λr b o hr w=>d.get ((l r hr).trans w),?_,s,?_,e⟩
 ·obtain⟨b,z,A,t,-⟩:=f;rw[t];exact⟨rfl,rfl⟩
 ·refine {h with bx:=(e _ NX NX).trans h.bx,wm:=ec ..,so:=(e _ NX NX).trans h.so,bb:=(e _ NX NX).trans h.bb,lv:=(e _ NX NX).trans h.lv,tr:=h.tr.same (e _ NX NX),mks:=h.mks.same (e _ NX NX),cl:=λi v k j g=>(h.cl i v k j g).same (e _ NX NX),wt:=λm=>?_ }
  show LV _ _ (wv (fc S.F n (apV gh (wv S.F n))) m) (nI (if m=n then S.wl n++[i] else S.wl m))
  unfold wv;rw[Bh];by_cases a:m=n
  ·subst a
   rw[if_pos rfl,if_pos rfl,<-vl];refine .inr ?_;unfold KV at f ⊢;rw[bz _ _ NX];exact f
  ·rw[if_neg a,if_neg a]
   exact (h.wt m).same (e _ NX (by simpa using a))
def SS.clause (S:SS) (v:PV) (l:Oi):SS:={S with cp:=S.cp++[v],ls:=S.ls++[l] }
theorem K1 (h:SOk H S) (u:Rp H gh) {v:PV} {l:Oi} (n:CV H (.tm 0) v l) :
  ∃f,Rp f (hw gh S.g (.cells (S.clause v l).cs))/\SOk f (S.clause v l)/\(f (.cl S.cp.length)=H (.tm 0))/\∀r,r≠ .bx->r≠ .tm 0->r≠ .cl S.cp.length->f r=H r:=by
 have s:=u.ren (.tm 0) (.cl S.cp.length);have p:∀r,r≠ .tm 0->r≠ .cl S.cp.length->ren H (.tm 0) (.cl S.cp.length) r=H r:=λr d c=>by unfold ren;rw[if_neg c,if_neg d]
 have q:=s.set (r:= .bx) ((p _ NX NX).trans h.bx) (.cells (S.clause v l).cs);have e:∀r,r≠ .bx->r≠ .tm 0->r≠ .cl S.cp.length->upd (ren H (.tm 0) (.cl S.cp.length)) .bx (S.g,.cells (S.clause v l).cs) r=H r:=λr d c w=>(bz _ _ d).trans (p r c w)
 refine⟨_,q,?_,(bz _ _ NX).trans (if_pos rfl),e⟩;refine {h with bx:=ec ..,wm:=(e _ NX NX NX).trans h.wm,so:=(e _ NX NX NX).trans h.so,bb:=(e _ NX NX NX).trans h.bb,lv:=(e _ NX NX NX).trans h.lv,tr:=h.tr.same (e _ NX NX NX),mks:=h.mks.same (e _ NX NX NX),wt:=λm=>(h.wt m).same (e _ NX NX NX),cll:=by simp[SS.clause,h.cll],cl:=λi j k d c=>?_ };have a:(S.cp++[v])[i]?=some j:=d;have b:(S.ls++[l])[i]?=some k:=c;have t:i<(S.cp++[v]).length:=(aD.1 a).1;rw[aQ,List.length_singleton] at t;by_cases o:i=S.cp.length
 ·subst o
  rw[List.getElem?_concat_length] at a;rw[h.cll,List.getElem?_concat_length] at b;cases a;cases b;unfold CV KV at n ⊢;rw[bz _ _ NX,show ren H (.tm 0) (.cl S.cp.length) (.cl S.cp.length)=H (.tm 0) from if_pos rfl];exact n
 ·rw[aI NW] at a
  rw[aI (by rw[<-h.cll];omega)] at b;exact (h.cl i j k a b).same (e _ NX NX (by simpa using o))
end
section
attribute [local simp high] fq
attribute [local simp] ft fw
def iB (c:Int->Oq) (i:Nat):Oi->Int->Oq
 |a::b::_,m=>if m=b then (if b=a then c a++[i] else c b)++[i] else if m=a then c a++[i] else c m
 |_,m=>c m
theorem Bi {H:Hp} {u:Ol} {S:SS} (h:SOk H S) (hR:Rp H u) {v:PV} {l:Oi} (hv:CV H (.tm 0) v l) (hB:(S.cp.length+1)*24<=maxBytes) (hW:∀n,((S.wl n).length+2)*8<=maxBytes) :
  ∃P N F,ac pg 173 [Oe S.g 0,v] u=some (I S.cp.length,N)/\Rp P N/\SOk P {S.clause v l with F:=F,wl:=iB S.wl S.cp.length l }/\P (.cl S.cp.length)=H (.tm 0)/\
   ∀r,r≠ .bx->r≠ .tm 0->r≠ .wm->(∀n,r≠ .wt n)->r≠ .cl S.cp.length->P r=H r:=by
 obtain⟨H1,z,y,f0,f1⟩:=K1 h hR hv;have hg:=hR.get h.bx;have d:=hv.one;have f:=hv.len;have D:∀u:Ol,ab pg qbk ⟨[(5,I S.cp.length)],[],u⟩=Oh ⟨[(4,I S.cp.length)],[],u⟩:=λu=>aa (by simp[qbk])
 by_cases C:1<(l.length:Int)
 ·obtain⟨a,b,c,rfl⟩:∃a b c,l=a::b::c:=by
   rcases l with _|⟨a,_|⟨b,c⟩⟩
   ·simp at C
   ·simp at C
   ·exact⟨a,b,c,rfl⟩
  have ao:=y.cl S.cp.length v (a::b::c) (by simp[SS.clause]) (by simp[SS.clause,h.cll]);obtain⟨bc,w,ys,ad,q⟩:=ao.resolve_left (λe=>by cases e.1);subst ad;generalize hm:(a::b::c).length=m at *;have an:0<m:=NW;have al:1<m:=NW;obtain⟨G,hG⟩:∃G,hw u S.g (GObj.cells (S.clause (.stk bc w m) (a::b::c)).cs)=G:=⟨_,rfl⟩
  rw[hG] at z;simp only[SS.cs,SS.clause] at hG;have M:=z.get q;have L:=z.get y.bx;have E:=z.get y.wm;obtain⟨g1,x,H2,a1,a2,a3,a4,A,O,f2⟩:=vm y z a S.cp.length (by have:=hW a;show ((S.wl a).length+1)*8<=_;omega);obtain⟨G2,t⟩:∃G,hw g1 (S.clause (.stk bc w m) (a::b::c)).wm (GObj.map (fS (fc (S.clause (.stk bc w m) (a::b::c)).F a x)))=G:=⟨_,rfl⟩
  rw[t] at A;have o:H2 (.cl S.cp.length)=_:=(f2 _ NX NX).trans q;have k:=A.get o;have j:=A.get O.bx;have i:=A.get O.wm;obtain⟨g3,v3,H3,b1,b2,b3,b4,r3,s3,f3⟩:=vm O A b S.cp.length (by
   have:=hW a;have:=hW b
   show ((if b=a then S.wl a++[S.cp.length] else S.wl b).length+1)*8<=_
   split<;>(try simp)<;>omega)
  have av:=a3 _ _ _ NX q;have ap:=b3 _ _ _ NX o;have B:=kh M;have p:=kh k;refine⟨H3,_,_,?_,r3,s3,((f3 _ NX NX).trans (f2 _ NX NX)).trans f0,λr X U T R Q=>((f3 r T (R _)).trans (f2 r T (R _))).trans (f1 r X U Q)⟩;refine ak (fn:=q2p) (s:=?J) rfl rfl (aa ?Z) ?Y
  case Z=>
   simp only[SS.clause,SS.watch,SS.cs] at L E j i t a1 a2 b1 b2;have d1:degr (wv S.F a)=wv S.F a:=(y.wt a).one.2.1;have d2:degr (wv (fc S.F a x) b)=wv (fc S.F a x) b:=(O.wt b).one.2.1;have m1:=rV S.F a;have m2:=pm S.F a x;have m3:=rV (fc S.F a x) b;have m4:=pm (fc S.F a x) b v3;simp[q2p,qbl,D,hg,SS.cs,d,f,C,ff,hB,an,al,hG,M,L,E,m1,m2,a1,a2,a4,keptB,d1,d2,B,av,k,j,i,m3,m4,b1,b2,b4,ap,p,t];rfl
  case Y=>simp[ag,results,q2p,ah,am,af];rfl
 ·have e:iB S.wl S.cp.length l=S.wl:=by
   rcases l with _|⟨a,_|⟨b,c⟩⟩
   ·rfl
   ·rfl
   ·simp at C;omega
  refine⟨H1,_,S.F,ak (fn:=q2p) (s:=?K) rfl rfl (aa ?V) ?W,z,by rw[e];exact y,f0,λr X U T R Q=>f1 r X U Q⟩
  case V=>simp[q2p,qbl,D,hg,SS.cs,d,f,C,ff,hB,SS.clause];rfl
  case W=>simp[ag,results,q2p,ah,am,af,SS.cs,SS.clause]
end
section
attribute [local simp high] fq
attribute [local simp] ft fw
def SS.lits (S:SS) (i:Nat) (l:Oi):SS:={S with ls:=S.ls.set i l }
theorem Bj {H:Hp} {p:Ol} {S:SS} (h:SOk H S) (x:Rp H p) {i b a:Nat} {l l' d:Oi} (t:S.ls[i]?=some l) (s:S.cp[i]?=some (.stk b a l.length)) (w:H (.cl i)=some (b,.stk a ((l++d).map I))) (u:l'.length=l.length) :
  ∃g,Rp g (hw p b (.stk a ((l'++d).map I)))/\SOk g (S.lits i l')/\g (.cl i)=some (b,.stk a ((l'++d).map I))/\∀r,r≠ .cl i->g r=H r:=by
 have q:=x.set w (.stk a ((l'++d).map I));have e:∀r,r≠ .cl i->upd H (.cl i) (b,.stk a ((l'++d).map I)) r=H r:=λr hr=>bz _ _ hr
 refine⟨_,q,?_,ec ..,e⟩;refine {h with bx:=(e _ NX).trans h.bx,wm:=(e _ NX).trans h.wm,so:=(e _ NX).trans h.so,bb:=(e _ NX).trans h.bb,lv:=(e _ NX).trans h.lv,tr:=h.tr.same (e _ NX),mks:=h.mks.same (e _ NX),wt:=λm=>(h.wt m).same (e _ NX),cll:=by simp[SS.lits,h.cll],cl:=λj v k o y=>?_ };have c:(S.ls.set i l')[j]?=some k:=y;by_cases n:j=i
 ·subst n
  rw[List.getElem?_set_self (aD.1 t).1] at c;cases c;have f:S.cp[j]?=some v:=o;rw[s] at f;cases f;exact .inr ⟨b,a,d,by rw[u],ec ..⟩
 ·rw[List.getElem?_set_ne (Ne.symm n)] at c
  exact (h.cl j v k o c).same (e _ (by simpa using n))
theorem K4 {l ys:Oi} {j k:Nat} {x y:Int} (b:j<l.length) (a:k<l.length):(((l.map I++ys.map I).set j (I x)).set k (I y))=((l.set j x).set k y++ys).map I:=by rw[List.set_append_left _ _ (by simpa using b),List.set_append_left _ _ (by simpa using a)];simp
theorem kF {l ys:Oi} {k:Nat} {x:Int} (h:l[k]?=some x):((l++ys).map I)[k]?=some (I x):=by rw[aB,aI (aD.1 h).1,h];rfl
section
variable {H:Hp} {gh:Ol} {S:SS} {i b gen:Nat} {l ys:Oi}
theorem K5 (h:SOk H S) (U:Rp H gh) (hN:S.n<=1000000000) (P:∀x∈S.sv,-1<=x/\x<=1) (hl:S.ls[i]?=some l) (hv:S.cp[i]?=some (.stk b gen l.length)) (hb:H (.cl i)=some (b,.stk gen ((l++ys).map I))) (h2:2<=l.length) (D:l.length<=1000000000)
  (hr:∀x∈l,x.natAbs<=S.n) (hW:∀n,0<=isV S.sv n->((S.wl n).length+1)*8<=maxBytes):∀m k,k+m=l.length->2<=k->
  (∃j x y A c F',k<=j/\l[j]?=some x/\l[1]?=some y/\0<=isV S.sv x/\ab pg qc1 ⟨[(0,Oe S.g 0),(1,I i),(5,.stk b gen l.length),(6,I k)],[],gh⟩=Oh ⟨[(4,B true)],[],c⟩/\Rp A c/\
   SOk A {S.lits i ((l.set 1 x).set j y) with F:=F',wl:=λm=>if m=x then S.wl x++[i] else S.wl m }/\∀r,r≠ .cl i->r≠ .wm->r≠ .wt x->A r=H r)\/
  ((∀j x,k<=j->l[j]?=some x->isV S.sv x<0)/\ab pg qc1 ⟨[(0,Oe S.g 0),(1,I i),(5,.stk b gen l.length),(6,I k)],[],gh⟩=Og ⟨[],[],gh⟩):=by
 intro m;have w:=U.get hb
 induction m with
 |zero=>
  intro k hk R;have o:¬(k:Int)<(l.length:Int):=NW;refine .inr ⟨λj x hj p=>?_,(bn (s1:=?J) (aa ?Z)).trans ?Y⟩
  case Z=>simp[q4j,o];rfl
  case Y=>simp
  have:=(aD.1 p).1;omega
 | succ m ih=>
  intro k hk R;have a:k<l.length:=NW;obtain⟨x,p⟩:∃x,l[k]?=some x:=⟨_,aA a⟩
  have t:=rW h U (hr x (aL p)) hN P;have o:(k:Int)<(l.length:Int):=NW;have s:=kF (ys:=ys) p;by_cases E:0<=isV S.sv x
  ·obtain⟨y,hy⟩:∃y,l[1]?=some y:=⟨_,aA NW⟩
   have N:=kF (ys:=ys) hy;have d:=K4 (l:=l) (ys:=ys) (j:=1) (k:=k) (x:=x) (y:=y) NW a;rw[<-bI] at d;obtain⟨H1,q,s1,c1,f1⟩:=Bj h U hl hv hb (l':=(l.set 1 x).set k y) NX;have O:=kF (ys:=ys) (l:=(l.set 1 x).set k y) (k:=1) (x:=x) (by rw[List.getElem?_set_ne NW,List.getElem?_set_self NW]);have c0:1<((l++ys).map I).length:=by simp;omega
   have X:k<((l++ys).map I).length:=by simp;omega
   generalize (l++ys).map I=C,hL:((l.set 1 x).set k y++ys).map I=L at *;obtain⟨G,hG⟩:∃G,hw gh b (.stk gen L)=G:=⟨_,rfl⟩
   rw[hG] at q;have f:=q.get c1;have v:=q.get s1.bx;have u:=q.get s1.wm;obtain⟨g1,v1,H2,a1,a2,a3,a4,r2,s2,f2⟩:=vm s1 q x i (hW x E);have T:=a3 _ _ _ NX c1;have Q:=kh f;refine .inl ⟨k,x,y,H2,_,_,cU _,p,hy,E,(cx (s1:=?K) (aa ?V)).trans ?W,r2,s2,λr p1 p2 p3=>(f2 r p2 p3).trans (f1 r p1)⟩
   case V=>
    have d1:degr (wv S.F x)=wv S.F x:=(s1.wt x).one.2.1;have m1:=rV S.F x;have m2:=pm S.F x v1;have e1:1<l.length:=NW;have e0:0<l.length:=NW;have ei:(1:Int)<(l.length:Int):=NW;simp only[SS.lits,SS.cs] at v u a1 a2;simp[q4j,a,w,t,E,s,N,e1,e0,ei,o,c0,X,d,hG,f,v,u,O,a1,a2,a4,keptB,d1,m1,m2,T,Q,List.getElem?_cons_zero,-getElem?_pos];rfl
   case W=>rfl
  ·have hw:WI.wrap ((k:Int)+1)=((k+1:Nat):Int):=by rw[aq NW NW];simp
   have step:ab pg q4j ⟨[(0,Oe S.g 0),(1,I i),(5,.stk b gen l.length),(6,I k)],[],gh⟩=Og ⟨[(0,Oe S.g 0),(1,I i),(5,.stk b gen l.length),(6,I ((k+1:Nat):Int))],[],gh⟩:=by refine aa ?_;simp only[<-hw];generalize (l++ys).map I=C at *;simp[q4j,a,w,t,E,s]
   rcases ih (k+1) NW NW with ⟨j,x',y,A,c,F',q1,M,q3,q4,q5,q6⟩|⟨q1,M⟩
   ·exact .inl ⟨j,x',y,A,c,F',NW,M,q3,q4,(ay step rfl).trans q5,q6⟩
   ·refine .inr ⟨λj z hj D=>?_,(ay step rfl).trans M⟩
    by_cases e:j=k
    ·subst e;rw[p] at D;cases D;omega
    ·exact q1 j z NW D
theorem K6 (h:SOk H S) (u:Rp H gh) (G:S.n<=1000000000) (k:∀x∈S.sv,-1<=x/\x<=1) (C:S.ls[i]?=some l) (f:S.cp[i]?=some (.stk b gen l.length)) (D:H (.cl i)=some (b,.stk gen ((l++ys).map I))) (L:2<=l.length) (A:l.length<=1000000000)
  (hr:∀x∈l,x.natAbs<=S.n) (E:∀n,0<=isV S.sv n->((S.wl n).length+1)*8<=maxBytes) :
  (∃j x y c a p,2<=j/\l[j]?=some x/\l[1]?=some y/\0<=isV S.sv x/\ac pg 191 [Oe S.g 0,I i] gh=some (B true,a)/\Rp c a/\
   SOk c {S.lits i ((l.set 1 x).set j y) with F:=p,wl:=λm=>if m=x then S.wl x++[i] else S.wl m }/\∀r,r≠ .cl i->r≠ .wm->r≠ .wt x->c r=H r)\/
  ((∀j x,2<=j->l[j]?=some x->isV S.sv x<0)/\ac pg 191 [Oe S.g 0,I i] gh=some (B false,gh)):=by
 have t:=u.get h.bx;have o:∀gh:Ol,ab pg qc2 ⟨[],[],gh⟩=Oh ⟨[(4,B false)],[],gh⟩:=λgh=>aa (by simp[qc2])
 rcases K5 h u G k C f D L A hr E (l.length-2) 2 NW (cU _) with ⟨j,x,y,c,a,p,e,d,z,w,q,v⟩|⟨e,d⟩
 ·rw[show ((2:Nat):Int)=2 from rfl] at q
  refine .inl ⟨j,x,y,c,a,p,e,d,z,w,ak (fn:=q2u) (s:=?J) rfl rfl (aa ?Z) ?Y,v⟩
  case Z=>simp[q2u,qc3,t,SS.cs,f,q];rfl
  case Y=>simp[ag,results,q2u,ah,am,af]
 ·rw[show ((2:Nat):Int)=2 from rfl] at d
  refine .inr ⟨e,ak (fn:=q2u) (s:=?K) rfl rfl (aa ?V) ?W⟩
  case V=>simp[q2u,qc3,t,SS.cs,f,d,o];rfl
  case W=>simp[ag,results,q2u,ah,am,af]
end
end
theorem jt:∀(n:Nat) (l:Oq),l.Nodup->(∀x∈l,x<n)->l.length<=n
 |0,l,_,h=>by
  rcases l with _|⟨x,l⟩
  ·exact cU _
  ·have:=h x NX;omega
 | n+1,l,b,h=>by
  by_cases hn:n∈l
  ·have c:=jt n (l.erase n) (b.erase n) (λx a=>by
    have f:=h x (List.mem_of_mem_erase a);have d:x≠n:=λe=>by subst e;exact (List.Nodup.mem_erase_iff b).1 a |>.1 rfl
    omega)
   rw[List.length_erase_of_mem hn] at c;omega
  ·have c:=jt n l b (λx a=>by
    have f:=h x a;have d:x≠n:=λe=>hn (e▸a)
    omega)
   omega
abbrev Vne (x y:Int):Prop:=x.natAbs≠y.natAbs
def lvl (a:Oq) (p:Nat):Nat:=(a.filter λm=>decide (m<=p)).length
structure TOk (S:SS):Prop where
 nN:S.n<=1000000000
 l0:∀l∈S.ls,∀x∈l,x≠0/\x.natAbs<=S.n
 ld:∀l∈S.ls,l.Pairwise Vne
 t0:∀x∈S.tr,x≠0/\x.natAbs<=S.n
 td:S.tr.Pairwise Vne
 sv:∀x:Int,x≠0->x.natAbs<=S.n->isV S.sv x=if x∈S.tr then 1 else if -x∈S.tr then -1 else 0
 s1:∀x∈S.sv,-1<=x/\x<=1
 lw:∀(p:Nat) x,S.tr[p]?=some x->S.lw.getD x.natAbs 0=(lvl S.mks p:Int)
 ms:S.mks.Pairwise (· < ·)
 mt:∀m∈S.mks,m<S.tr.length/\m<=S.hd
 hd:S.hd<=S.tr.length
 rs:∀(p:Nat) x,S.tr[p]?=some x->p∈S.mks\/∃(i:Nat) (l:Oi),S.bv.getD x.natAbs 0=(i:Int)/\S.ls[i]?=some l/\x∈l/\∀y∈l,y≠x-> -y∈S.tr.take p
 svl:S.sv.length=S.n+1
 bvl:S.bv.length=S.n+1
 lwl:S.lw.length=S.n+1
 lwb:∀x∈S.lw,0<=x/\x<=2000000000
theorem TOk.tlen {S:SS} (h:TOk S):S.tr.length<=S.n:=by
 have g:=jt S.n (S.tr.map λx=>x.natAbs-1) (by
  rw[List.Nodup,List.pairwise_map];refine List.Pairwise.imp_of_mem (λ{a b} ha f c=>?_) h.td;have:=h.t0 a ha;have:=h.t0 b f;unfold Vne at c;omega) (λx e=>by
  obtain⟨y,d,rfl⟩:=List.mem_map.1 e;have:=h.t0 y d;omega)
 simpa using g
theorem Bk {l:Oi} (h:l.Pairwise Vne) {x y:Int} (f:x∈l) (d:y∈l) (e:x.natAbs=y.natAbs):x=y:=by
 obtain⟨i,c,rfl⟩:=cN.1 f;obtain⟨j,b,rfl⟩:=cN.1 d;rw[List.pairwise_iff_getElem] at h;rcases Nat.lt_trichotomy i j with a|a|a
 ·exact absurd e (h i j c b a)
 ·subst a;rfl
 ·exact absurd e.symm (h j i b c a)
theorem mf {l:Oi} {i j:Nat} {a:Int} (b:i<l.length):(l.set i a).getD j 0=if i=j then a else l.getD j 0:=by
 rw[aK,aK,cL];by_cases e:i=j
 ·subst e;rw[if_pos rfl,if_pos rfl,if_pos b];rfl
 ·rw[if_neg e,if_neg e]
theorem TOk.mlen {S:SS} (h:TOk S):S.mks.length<=S.n:=
 cA (jt _ _ (h.ms.imp (λa=>Nat.ne_of_lt a)) λm b=>(h.mt m b).1) h.tlen
theorem TOk.put {S:SS} (h:TOk S) {x a:Int} {tp:PV} (s:x≠0/\x.natAbs<=S.n) (v:x∉S.tr) (t: -x∉S.tr) (hr:∃(i:Nat) (l:Oi),a=(i:Int)/\S.ls[i]?=some l/\x∈l/\∀y∈l,y≠x-> -y∈S.tr):TOk (S.put x a tp):=by
 have d:∀y∈S.tr,y.natAbs≠x.natAbs:=λy c e=>by
  rcases Int.natAbs_eq_natAbs_iff.1 e with e|e
  ·exact v (e▸c)
  ·exact t (e▸c)
 have o:lvl S.mks S.tr.length=S.mks.length:=by unfold lvl;rw[List.filter_eq_self.2 (λm k=>by have:=(h.mt m k).1;simp;omega)]
 refine {nN:=h.nN,l0:=h.l0,ld:=h.ld,ms:=h.ms,t0:=?_,td:=?_,sv:=?_,s1:=?_,lw:=?_,mt:=?_,hd:=?_,rs:=?_,svl:=?_,bvl:=?_,lwl:=?_,lwb:=λy c=>?J }
 case J=>
  rcases List.mem_or_eq_of_mem_set c with c|c
  ·exact h.lwb y c
  ·have:=h.mlen;have:=h.nN;omega
 ·intro y c
  rcases cE.1 c with c|c
  ·exact h.t0 y c
  ·rw[List.mem_singleton.1 c];exact s
 ·show (S.tr++[x]).Pairwise Vne
  rw[List.pairwise_append];exact⟨h.td,List.pairwise_singleton _ _,λy c z u=>by rw[List.mem_singleton.1 u];exact d y c⟩
 ·intro y c g
  show isV (S.sv.set x.natAbs (if x<0 then -1 else 1)) y=if y∈S.tr++[x] then 1 else if -y∈S.tr++[x] then -1 else 0
  have f:=h.sv y c g;unfold isV at f ⊢;rw[mf (by rw[h.svl];omega)];by_cases e:x.natAbs=y.natAbs
  ·rw[if_pos e]
   rcases Int.natAbs_eq_natAbs_iff.1 e with e|e
   ·subst e
    by_cases C:x<0<;>simp[C]
   ·have:y= -x:=NW
    subst this;have: -x∉S.tr++[x]:=λq=>by
     rcases cE.1 q with q|q
     ·exact t q
     ·have:=List.mem_singleton.1 q;omega
    rw[if_neg this,Int.neg_neg,if_pos (show x∈S.tr++[x] by simp)];have:=s.1;split<;>split<;>omega
  ·rw[if_neg e,f]
   have E:y≠x:=λq=>e (by rw[q])
   have D: -y≠x:=λq=>e (by rw[<-q];simp)
   simp only[cE,List.mem_singleton,E,D,or_false]
 ·intro y c
  rcases List.mem_or_eq_of_mem_set c with c|c
  ·exact h.s1 y c
  ·subst c;split<;>omega
 ·intro p y j
  show (S.lw.set x.natAbs S.mks.length).getD y.natAbs 0=(lvl S.mks p:Int)
  rw[mf (by rw[h.lwl];omega)];have b:(S.tr++[x])[p]?=some y:=j;by_cases e:p<S.tr.length
  ·rw[aI e] at b
   rw[if_neg (λq=>d y (aL b) q.symm)];exact h.lw p y b
  ·have r:=(aD.1 b).1
   rw[aQ,List.length_singleton] at r;have:p=S.tr.length:=NW;subst this;rw[List.getElem?_concat_length] at b;cases b;rw[if_pos rfl,o]
 ·intro m k
  have:=h.mt m k
  show m<(S.tr++[x]).length/\m<=S.hd
  rw[aQ];omega
 ·show S.hd<=(S.tr++[x]).length
  have:=h.hd;rw[aQ];omega
 ·intro p y j
  have b:(S.tr++[x])[p]?=some y:=j
  show p∈S.mks\/∃(i:Nat) (l:Oi),(S.bv.set x.natAbs a).getD y.natAbs 0=(i:Int)/\S.ls[i]?=some l/\y∈l/\∀z∈l,z≠y-> -z∈(S.tr++[x]).take p
  rw[mf (by rw[h.bvl];omega)];by_cases e:p<S.tr.length
  ·rw[aI e] at b
   rw[if_neg (λq=>d y (aL b) q.symm),List.take_append_of_le_length NW];exact h.rs p y b
  ·have r:=(aD.1 b).1
   rw[aQ,List.length_singleton] at r;have:p=S.tr.length:=NW;subst this;rw[List.getElem?_concat_length] at b;cases b;obtain⟨i,l,f,B,A,w⟩:=hr;rw[if_pos rfl,List.take_left' rfl];exact .inr ⟨i,l,f,B,A,w⟩
 ·show (S.sv.set _ _).length=_;rw[cM];exact h.svl
 ·show (S.bv.set _ _).length=_;rw[cM];exact h.bvl
 ·show (S.lw.set _ _).length=_;rw[cM];exact h.lwl
theorem TOk.perm {S:SS} (h:TOk S) {i:Nat} {l d:Oi} (n:S.ls[i]?=some l) (g:d.Perm l):TOk (S.lits i d):=by
 have q:l∈S.ls:=aL n;have u:=(aD.1 n).1;refine {h with l0:=?_,ld:=?_,rs:=?_ }
 ·intro k c x f
  rcases List.mem_or_eq_of_mem_set c with c|c
  ·exact h.l0 k c x f
  ·subst c;exact h.l0 l q x (g.mem_iff.1 f)
 ·intro k c
  rcases List.mem_or_eq_of_mem_set c with c|c
  ·exact h.ld k c
  ·subst c;exact (g.pairwise_iff (λ{a b} h=>λe=>h e.symm)).2 (h.ld l q)
 ·intro p x f
  rcases h.rs p x f with m|⟨j,k,m,o,s,r⟩
  ·exact .inl m
  ·by_cases e:j=i
   ·subst e
    rw[n] at o;cases o;exact .inr ⟨j,d,m,by show (S.ls.set j d)[j]?=_;rw[List.getElem?_set_self u],g.mem_iff.2 s,λy t=>r y (g.mem_iff.1 t)⟩
   ·exact .inr ⟨j,k,m,by show (S.ls.set i d)[j]?=_;rw[List.getElem?_set_ne (Ne.symm e)];exact o,s,r⟩
def WOk (d:Oj) (c:Int->Oq):Prop:=∀n,(c n).Nodup/\∀i∈c n,∃a b l,d[i]?=some (a::b::l)/\(n=a\/n=b)
theorem WOk.len {d:Oj} {c:Int->Oq} (h:WOk d c) (n:Int):(c n).length<=d.length:=
 jt _ _ (h n).1 λi e=>by obtain⟨a,b,l,f,-⟩:=(h n).2 i e;exact (aD.1 f).1
structure Step (S S':SS):Prop where
 ad:S'.g=S.g/\S'.wm=S.wm/\S'.so=S.so/\S'.bb=S.bb/\S'.lv=S.lv/\S'.n=S.n
 vs:S'.cp=S.cp/\S'.mp=S.mp/\S'.mks=S.mks/\S'.hd=S.hd/\S'.fr=S.fr/\S'.fu=S.fu/\S'.pr=S.pr/\S'.fa=S.fa
 tr:S.tr <+:S'.tr
 ls:S'.ls.length=S.ls.length
theorem Step.refl (S:SS):Step S S:=⟨⟨rfl,rfl,rfl,rfl,rfl,rfl⟩,⟨rfl,rfl,rfl,rfl,rfl,rfl,rfl,rfl⟩,List.prefix_rfl,rfl⟩
theorem Step.trans {S T U:SS} (h:Step S T) (k:Step T U):Step S U:=by obtain⟨⟨G,F,E,D,C,B⟩,⟨A,z,y,x,w,v,u,t⟩,c,d⟩:=h;obtain⟨⟨s,r,q,p,e5,o⟩,⟨n,m,l,j,f,e,b,a⟩,g,i⟩:=k;exact⟨⟨s.trans G,r.trans F,q.trans E,p.trans D,e5.trans C,o.trans B⟩,⟨n.trans A,m.trans z,l.trans y,j.trans x,f.trans w,e.trans v,b.trans u,a.trans t⟩,c.trans g,i.trans d⟩
theorem KV.apps {H:Hp} {r:Ro} {v:PV} {c:Oi} {g:Ol} (h:KV H r v c) (j:Rp H g) (d:Oi) (n:(c.length+d.length)*8<=maxBytes) {xv:PV} (ha:∀b a k o,v= .stk b a k->H r=some (b,o)->fO b xv=true) :
  ∃l i x,apL g 8 xv (d.map I) v=some (l,i)/\Rp (upd H r x) l/\KV (upd H r x) r i (c++d):=by
 obtain⟨b,a,m,rfl,f⟩:=h;have p:=j.get f;have e:((c++m).map I).take c.length=c.map I:=by rw[bI,List.take_left' (aW ..)]
 refine⟨_,.stk b (a+1) (c.length+d.length),(b,.stk (a+1) (c.map I++d.map I)),?_,j.set f _,b,a+1,[],NX,by rw[ec];simp⟩;simp only[apL,show g[b]?=_ from p,e,aW];rw[if_pos ⟨trivial,NX,n,ha _ _ _ _ rfl f,by simp[bV]⟩];rfl
def SS.kept (S:SS) (n:Int) (a:Oq) (v:PV):SS:={S with F:=fc S.F n v,wl:=λm=>if m=n then a else S.wl m }
theorem Bl {H:Hp} {j:Ol} {S:SS} (h:SOk H S) (q:Rp H j) (n:Int) {a:Oq} {v:PV} (g:LV H (.tm 1) v (nI a)) :
  ∃f,Rp f (hw j S.wm (.map (fS (fc S.F n v))))/\SOk f (S.kept n a v)/\∀r,r≠ .wm->r≠ .wt n->r≠ .tm 1->f r=H r:=by
 have p:=q.ren (.tm 1) (.wt n);have l:∀r,r≠ .wt n->r≠ .tm 1->ren H (.tm 1) (.wt n) r=H r:=λr d c=>by unfold ren;rw[if_neg d,if_neg c]
 have o:=p.set (r:= .wm) ((l _ NX NX).trans h.wm) (.map (fS (fc S.F n v)));have e:∀r,r≠ .wm->r≠ .wt n->r≠ .tm 1->upd (ren H (.tm 1) (.wt n)) .wm (S.wm,.map (fS (fc S.F n v))) r=H r:=λr d c s=>(bz _ _ d).trans (l r c s)
 refine⟨_,o,?_,e⟩;refine {h with bx:=(e _ NX NX NX).trans h.bx,wm:=ec ..,so:=(e _ NX NX NX).trans h.so,bb:=(e _ NX NX NX).trans h.bb,lv:=(e _ NX NX NX).trans h.lv,tr:=h.tr.same (e _ NX NX NX),mks:=h.mks.same (e _ NX NX NX),cl:=λi v k d c=>(h.cl i v k d c).same (e _ NX NX NX),wt:=λm=>?_ }
 show LV _ _ (wv (fc S.F n v) m) (nI (if m=n then a else S.wl m))
 unfold wv;rw[Bh];by_cases b:m=n
 ·subst b
  rw[if_pos rfl,if_pos rfl];unfold LV KV at g ⊢;rw[bz _ _ NX,show ren H (.tm 1) (.wt m) (.wt m)=H (.tm 1) from if_pos rfl];exact g
 ·rw[if_neg b,if_neg b]
  exact (h.wt m).same (e _ NX (by simpa using b) NX)
theorem WOk.move {u:Oj} {C:Int->Oq} {n x a:Int} {i j:Nat} {keep t:Oq} {c:Oi} (h:WOk u λm=>if m=n then keep++i::t else C m) (I:u[i]?=some (a::n::c)) (S:(a::n::c).Pairwise Vne) (hj:2<=j) (P:(a::n::c)[j]?=some x) (O:x≠n) :
  WOk (u.set i (((a::n::c).set 1 x).set j n)) λm=>if m=n then keep++t else if m=x then C x++[i] else C m:=by
 obtain⟨j,rfl⟩:∃k,j=k+2:=⟨j-2,NW⟩
 have B:=(aD.1 I).1;have T:((a::n::c).set 1 x).set (j+2) n=a::x::c.set j n:=rfl;have D:x∈c:=aL (show c[j]?=some x from P);have E:x≠a:=λe=>(List.pairwise_cons.1 S).1 x (bC _ D) (by rw[e])
 have hn:=h n;simp only[if_true] at hn;obtain⟨w,H⟩:=hn;rw[cR] at w;obtain⟨d1,d2,N⟩:=w;obtain⟨X,U⟩:=List.nodup_cons.1 d2;intro m;rw[T];have other:∀k,k≠i->∀b o f,u[k]?=some (b::o::f)->(u.set i (a::x::c.set j n))[k]?=some (b::o::f):=λk d b o f R=>by rw[List.getElem?_set_ne (Ne.symm d)];exact R
 by_cases A:m=n
 ·subst A
  simp only[if_true];refine⟨cR.2 ⟨d1,U,λp G q F=>N p G q (bC _ F)⟩,λk d=>?_⟩;have g:k≠i:=λe=>by
   subst e;rcases cE.1 d with d|d
   ·exact N k d k (aZ ..) rfl
   ·exact X d
  obtain⟨b,o,f,s,r⟩:=H k (by rcases cE.1 d with d|d<;>simp[d]);exact⟨b,o,f,other k g b o f s,r⟩
 ·simp only[if_neg A]
  have z:=h m;simp only[if_neg A] at z;obtain⟨M,L⟩:=z;by_cases y:m=x
  ·subst y
   simp only[if_true];have v:i∉C m:=λQ=>by
    obtain⟨b,o,f,s,r⟩:=L i Q;rw[I] at s;cases s;rcases r with r|r
    ·exact E r
    ·exact A r
   refine⟨cR.2 ⟨M,NX,λp G q F e=>v (by rw[List.mem_singleton.1 F] at e;exact e▸G)⟩,λk d=>?_⟩;rcases cE.1 d with d|d
   ·have g:k≠i:=λe=>v (e▸d)
    obtain⟨b,o,f,s,r⟩:=L k d;exact⟨b,o,f,other k g b o f s,r⟩
   ·rw[List.mem_singleton.1 d]
    exact⟨a,m,_,List.getElem?_set_self B,.inr rfl⟩
  ·simp only[if_neg y]
   refine⟨M,λk d=>?_⟩;obtain⟨b,o,f,s,r⟩:=L k d;by_cases g:k=i
   ·subst g
    rw[I] at s;cases s;exact⟨a,x,_,List.getElem?_set_self B,.inl (r.resolve_right A)⟩
   ·exact⟨b,o,f,other k g b o f s,r⟩
theorem WOk.swap {d:Oj} {g:Int->Oq} {a b:Int} {i:Nat} {c:Oi} (h:WOk d g) (j:d[i]?=some (a::b::c)):WOk (d.set i (b::a::c)) g:=λm=>by
 obtain⟨s,r⟩:=h m;refine⟨s,λk o=>?_⟩;obtain⟨p,q,l,f,n⟩:=r k o;by_cases e:k=i
 ·subst e
  rw[j] at f;cases f;exact⟨_,_,_,List.getElem?_set_self (aD.1 j).1,n.symm⟩
 ·exact⟨p,q,l,by rw[List.getElem?_set_ne (Ne.symm e)];exact f,n⟩
section
attribute [local simp high] fq
attribute [local simp] ft fw
structure Wk (H:Hp) (gh:Ol) (S:SS):Prop where
 ok:SOk H S
 rp:Rp H gh
 tk:TOk S
 lb:S.ls.length<=10000000
abbrev Fx (H a:Hp):Prop:=∀b,a (.ex b)=H (.ex b)
theorem SOk.same {H H':Hp} {S:SS} (h:SOk H S) (e:∀r,(∀i,r≠ .tm i)->H' r=H r):SOk H' S:=
 {h with bx:=(e _ NX).trans h.bx,wm:=(e _ NX).trans h.wm,so:=(e _ NX).trans h.so,bb:=(e _ NX).trans h.bb,lv:=(e _ NX).trans h.lv,tr:=h.tr.same (e _ NX),mks:=h.mks.same (e _ NX),cl:=λi v k b a=>(h.cl i v k b a).same (e _ NX),wt:=λm=>(h.wt m).same (e _ NX) }
def eK (g:Nat) (n:Int) (a v6:PV) (N k:Nat):Oo:=[(0,Oe g 0),(1,I n),(5,a),(6,v6),(16,v6),(17,I N),(18,I k)]
theorem K7 {S:SS} (h:TOk S) {n:Int} (hn: -n∈S.tr):isV S.sv n= -1:=by have a:=h.t0 _ hn;rw[h.sv n NW NW,if_pos hn,if_neg];intro e;have:=Bk h.td e hn NX;omega
section
variable {H:Hp} {gh:Ol} {S:SS} {n a:Int} {i N k bw gw:Nat} {c:Oi} {kp rem pre:Oq} {kv v9:PV} {zs:Oi}
theorem K8 (h:Wk H gh S) (hn: -n∈S.tr) (hW:WOk S.ls λm=>if m=n then kp++i::rem else S.wl m) (X:S.ls[i]?=some (a::n::c)) (hv:S.cp[i]?=some v9) (hk:LV H (.tm 1) kv (nI kp))
  (hw:H (.wt n)=some (bw,.stk gw ((nI (pre++i::rem)++zs).map I))) (aB:pre.length=k) (hN:(pre++i::rem).length=N) (bC:N<=10000000) :
  (∃e aK ao ap B H' A,ab pg q1w ⟨[(0,Oe S.g 0),(1,I n),(5,kv),(6,.stk bw gw N),(7,I k),(8,I i),(9,v9),(16,.stk bw gw N),(17,I N),(18,I k)],[],gh⟩=some (e,⟨aK,[],A⟩)/\
   (e= .exit 1\/e= .normal)/\keep 0 [0,1,5,6,16,17,18] aK=eK S.g n ao (.stk bw gw N) N k/\Wk H' A B/\WOk B.ls (λm=>if m=n then ap++rem else B.wl m)/\LV H' (.tm 1) ao (nI ap)/\Step S B/\H' (.wt n)=H (.wt n)/\Fx H H')\/
  (∃B H' A l,ab pg q1w ⟨[(0,Oe S.g 0),(1,I n),(5,kv),(6,.stk bw gw N),(7,I k),(8,I i),(9,v9),(16,.stk bw gw N),(17,I N),(18,I k)],[],gh⟩=Oh ⟨[(4,I i)],[],A⟩/\
   Wk H' A B/\WOk B.ls B.wl/\Step S B/\Fx H H'/\B.ls[i]?=some l/\n∈l/\∀y∈l,-y∈B.tr):=by
 have d:=h.tk;have hR:=h.rp;have M:=h.ok;have aC:(a::n::c)∈S.ls:=aL X;have aF:=d.ld _ aC;have f:=d.l0 _ aC;obtain⟨b,bg,ys,U,hb⟩:=(M.cl i v9 _ hv X).resolve_left (λe=>by cases e.1);have aP:S.cp[i]?=some (.stk b bg (a::n::c).length):=U▸hv;obtain⟨m,hm⟩:∃m,(a::n::c).length=m:=⟨_,rfl⟩
 rw[hm] at U;subst U;have L:=hR.get hb;have G:=rW M hR (n:=a) (f a NX).2 d.nN d.s1;have bv:=K7 d hn;have aE:((a::n::c).length)<=1000000000:=by
  have h1:=jt S.n (((a::n::c)).map λx=>x.natAbs-1) (by
   rw[List.Nodup,List.pairwise_map];refine List.Pairwise.imp_of_mem (λ{p q} hp hq aS=>?_) aF;have:=f p hp;have:=f q hq;unfold Vne at aS;omega) (λx hx=>by
   obtain⟨y,D,rfl⟩:=List.mem_map.1 hx;have:=f y D;omega)
  have:=d.nN;simp only[aW] at h1;omega
 have bo:=MB;have bs:kp.length+rem.length+1<=S.ls.length:=by have:=hW.len n;simp only[if_true,aQ,aV] at this;omega
 have E:=h.lb;obtain⟨an,T,O,k1⟩:=hk.app hR i (by simp;omega);have s1:SOk (upd H (.tm 1) T) S:=M.same λr hr=>bz _ _ (hr 1)
 have w1:Wk (upd H (.tm 1) T) (apH gh kv i) S:=⟨s1,O,d,E⟩
 have al:LV (upd H (.tm 1) T) (.tm 1) (apV gh kv) (nI (kp++[i])):= .inr (by rw[vl] at k1;exact k1);have ad:WOk S.ls λm=>if m=n then (kp++[i])++rem else S.wl m:=by simpa using hW
 have c0:((a::n::c++ys).map I)[0]?=some (I a):=rfl;have z:=hk.one;obtain⟨b1,aJ,aM,w,ba⟩:=k1;have bk:(nI kp++[(i:Int)]).length=kp.length+1:=NX;have hL:0<m:=by rw[<-hm];simp
 have bd:2<=(a::n::c).length:=NX;have bE:N=k+1+rem.length:=by rw[<-hN,<-aB];simp;omega
 generalize hC:(a::n::c++ys).map I=C,hA:apH gh kv i=G1 at *;by_cases h1:0<isV S.sv a
 ·refine .inl ⟨.exit 1,?J,apV gh kv,kp++[i],S,_,G1,aa ?Z,.inl rfl,?Y,w1,ad,al,Step.refl S,bz _ _ NX,λb=>bz _ _ NX⟩
  case Z=>
   simp[q1w,L,c0,hL,G,h1,an,z,w];rfl
  case Y=>simp[eK,w]
 ·rcases K6 M hR d.nN d.s1 X aP (by rw[hC];exact hb) bd aE (λx hx=>(f x hx).2) (λq hq=>by
   have:=hW.len q;rw[if_neg (λe=>by subst e;omega)] at this;omega) with ⟨j,x,y,H2,g2,F2,q1,q2,q3,q4,q5,r2,s2,f2⟩|⟨q1,q2⟩
  · -- it watches another number from now on
   cases q3;have av:x≠n:=λe=>by subst e;omega
   have ax:=aD.1 q2;have hp:=List.set_set_perm (as:=a::n::c) (i:=1) (j:=j) NX ax.1;rw[ax.2] at hp;have bc:=d.perm X hp;refine .inl ⟨.exit 1,?K,kv,kp,_,H2,g2,aa ?V,.inl rfl,?W,⟨s2,r2,{bc with },by simpa [SS.lits] using E⟩,hW.move X aF q1 q2 av,hk.same (f2 _ NX NX NX),⟨⟨rfl,rfl,rfl,rfl,rfl,rfl⟩,⟨rfl,rfl,rfl,rfl,rfl,rfl,rfl,rfl⟩,List.prefix_rfl,by simp[SS.lits]⟩,f2 _ NX NX (by simpa using λe=>av e.symm),λb=>f2 _ NX NX NX⟩
   case V=>simp[q1w,L,c0,hL,G,h1,z,q5];rfl
   case W=>simp[eK,z]
  ·have P:=rW s1 O (n:=a) (f a NX).2 d.nN d.s1
   have Q:=O.get ((bz _ _ NX).trans hb:upd H (.tm 1) T (.cl i)=_);have aA:isV S.sv a=0\/isV S.sv a<0:=NW
   -- all others are not so
   have u:∀y∈a::n::c,y≠a-> -y∈S.tr:=λy D aN=>by
    rcases List.mem_cons.1 D with rfl|D
    ·exact absurd rfl aN
    rcases List.mem_cons.1 D with rfl|D
    ·exact hn
    obtain⟨j,hj⟩:=List.getElem?_of_mem D;have h5:=q1 (j+2) y NW (by simpa using hj);have h6:=f y (by simp[D]);rw[d.sv y h6.1 h6.2] at h5;split at h5
    ·omega
    ·split at h5
     ·assumption
     ·omega
   rcases aA with h2|h2
   · -- it must be so
    have t:=f a NX;have s:=d.sv a t.1 t.2;rw[h2] at s;have R:a∉S.tr:=λe=>by rw[if_pos e] at s;cases s
    have aI: -a∉S.tr:=λe=>by rw[if_neg R,if_pos e] at s;cases s
    obtain⟨H3,g3,tp,p1,p2,p3,p4⟩:=rX s1 O (n:=a) (a:=i) t.2 d.nN (by have:=d.tlen;have:=d.nN;omega);refine .inl ⟨.normal,?Ja,apV gh kv,kp++[i],_,H3,g3,aa ?Jb,.inr rfl,?Jc,⟨p3,p2,d.put t R aI ⟨i,_,rfl,X,NX,u⟩,E⟩,ad,al.same (p4 _ NX NX NX NX NX),⟨⟨rfl,rfl,rfl,rfl,rfl,rfl⟩,⟨rfl,rfl,rfl,rfl,rfl,rfl,rfl,rfl⟩,List.prefix_append ..,rfl⟩,(p4 _ NX NX NX NX NX).trans (bz _ _ NX),λb=>(p4 _ NX NX NX NX NX).trans (bz _ _ NX)⟩
    case Jb=>simp[q1w,L,c0,hL,G,h1,h2,z,q2,an,w,Q,P,p1];rfl
    case Jc=>simp[eK,w]
   · -- the clause is broken
    have t:=f a NX;have s:=d.sv a t.1 t.2;have bb: -a∈S.tr:=by
     split at s
     ·omega
     ·split at s
      ·assumption
      ·omega
    have aH:upd H (.tm 1) T (.wt n)=some (bw,.stk gw ((nI (pre++i::rem)++zs).map I)):=(bz _ _ NX).trans hw;obtain⟨g2,v2,x2,b2,r2,k2⟩:=KV.apps (v:=apV gh kv) ⟨b1,aJ,aM,w,ba⟩ O (nI rem) (by simp;omega) (xv:= .sub bw gw (k+1) (N-(k+1))) (λb' bl k' o' e1 e2=>by
     have:bw≠b':=λe=>by subst e;exact absurd (O.inj aH e2) NX
     simpa [fO] using this)
    have s2:SOk (upd (upd H (.tm 1) T) (.tm 1) x2) S:=s1.same λr hr=>bz _ _ (hr 1)
    have aG:LV (upd (upd H (.tm 1) T) (.tm 1) x2) (.tm 1) v2 (nI ((kp++[i])++rem)):= .inr (by have:nI ((kp++[i])++rem)=nI kp++[(i:Int)]++nI rem:=NX;rw[this];exact k2);obtain⟨H3,r3,s3,f3⟩:=Bl s2 r2 n aG;have aZ:=O.get s1.bx;have aX:=O.get aH;have aY:=r2.get s2.wm;have aT:=pm S.F n v2;have aR:=aG.one;have aO:WI.wrap ((k:Int)+1)=((k+1:Nat):Int):=by rw[aq NW NW];simp
    have e1:k+1+(N-(k+1))=N:=NW;have e2:k+1<=N:=NW;have e4:(0:Int)<=((k+1:Nat):Int):=NW;have e3:(((nI (pre++i::rem)++zs).map I).drop (k+1)).take (N-(k+1))=(nI rem).map I:=by rw[show nI (pre++i::rem)++zs=nI (pre++[i])++(nI rem++zs) by simp,bI,bI,List.drop_left' (by simp;omega),List.take_left' (by simp;omega)]
    have e5:((nI (pre++i::rem)++zs).map I).length=N+zs.length:=by simp at hN ⊢;omega
    refine .inr ⟨_,H3,_,a::n::c,aa ?Jd,⟨s3,r3,{d with },E⟩,by
     show WOk S.ls λm=>if m=n then (kp++[i])++rem else S.wl m
     exact ad,⟨⟨rfl,rfl,rfl,rfl,rfl,rfl⟩,⟨rfl,rfl,rfl,rfl,rfl,rfl,rfl,rfl⟩,List.prefix_rfl,rfl⟩,λb=>((f3 _ NX NX NX).trans (bz _ _ NX)).trans (bz _ _ NX),X,NX,λy D=>?Je⟩
    case Je=>
     by_cases e:y=a
     ·rw[e];exact bb
     ·exact u y D e
    case Jd=>
     have aU:=al.one;generalize apV gh kv=bm,(nI (pre++i::rem)++zs).map I=C2,(nI rem).map I=R2,k+1=k' at *;have e6:N<=N+zs.length:=NW;simp[q1w,L,c0,hL,G,h1,h2,z,q2,an,aU,b2,Q,P,aZ,SS.cs,aO,e1,e2,e3,e4,e5,e6,aX,aY,aT,aR]
end
end
section
attribute [local simp high] fq
attribute [local simp] ft fw
theorem K9 {g:Nat} {n:Int} {kv v6:PV} {N k:Nat} {gh:Ol} (a:az kv=true/\degr kv=kv/\bj 0 kv=true) (b:degr v6=v6/\bj 0 v6=true) (c:k<=10000000) :
  ab pg q7u ⟨eK g n kv v6 N k,[],gh⟩=Og ⟨eK g n kv v6 N (k+1),[],gh⟩:=by
 have hw:WI.wrap ((k:Int)+1)=((k:Int)+1):=aq NW NW;refine aa ?_;simp[q7u,eK,hw,a,b]
section
variable {n:Int} {N bw gw:Nat}
theorem La {H:Hp} {gh:Ol} {S:SS} {i:Nat} {kp q pre:Oq} {kv:PV} {zs:Oi} (h:Wk H gh S) (hn: -n∈S.tr) (hW:WOk S.ls λm=>if m=n then kp++i::q else S.wl m) (hk:LV H (.tm 1) kv (nI kp))
  (hw:H (.wt n)=some (bw,.stk gw ((nI (pre++i::q)++zs).map I))) (hN:(pre++i::q).length=N) (aH:N<=10000000) :
  (∃o s f p d,ab pg q1l ⟨eK S.g n kv (.stk bw gw N) N pre.length,[],gh⟩=Og ⟨eK S.g n o (.stk bw gw N) N (pre.length+1),[],d⟩/\
   Wk p d f/\WOk f.ls (λm=>if m=n then s++q else f.wl m)/\LV p (.tm 1) o (nI s)/\Step S f/\p (.wt n)=H (.wt n)/\Fx H p)\/
  (∃f p d l,ab pg q1l ⟨eK S.g n kv (.stk bw gw N) N pre.length,[],gh⟩=Oh ⟨[(4,I i)],[],d⟩/\
   Wk p d f/\WOk f.ls f.wl/\Step S f/\Fx H p/\f.ls[i]?=some l/\n∈l/\∀y∈l,-y∈f.tr):=by
 have hR:=h.rp;have w:=h.ok;have hT:=h.tk;have hg:=hR.get w.bx;have Q:=hR.get hw;have c1:((nI (pre++i::q)++zs).map I)[pre.length]?=some (I i):=NX;have O:pre.length<N:=by rw[<-hN];simp
 have A:(pre.length:Int)<(N:Int):=NW;have hd:=hk.one;generalize hC:(nI (pre++i::q)++zs).map I=C at *;have aF:=(hW n).2 i NX;obtain⟨a,b,c,t,aE⟩:=aF;have ax:i<S.cp.length:=by rw[w.cll];exact (aD.1 t).1
 obtain⟨v9,G⟩:∃v,S.cp[i]?=some v:=⟨_,aA ax⟩
 obtain⟨bc,U,B,F,hb⟩:=(w.cl i v9 _ G t).resolve_left (λe=>by cases e.1);have al:S.cp[i]?=some (.stk bc U (a::b::c).length):=F▸G;obtain⟨m,hm⟩:∃m,(a::b::c).length=m:=⟨_,rfl⟩
 rw[hm] at F;subst F;have R:=hR.get hb;have hL:0<m:=by rw[<-hm];simp
 have aI:(1:Int)<m:=by rw[<-hm,aV,aV];omega
 have aJ:1<m:=NW;have c0:((a::b::c++B).map I)[0]?=some (I a):=rfl;have c2:((a::b::c++B).map I)[1]?=some (I b):=rfl;have c3:1<((a::b::c++B).map I).length:=NX;have c4:(((a::b::c++B).map I).set 0 (I b)).set 1 (I a)=(b::a::c++B).map I:=rfl;have L:a≠b:=λe=>by have:=hT.ld _ (aL t);exact (List.pairwise_cons.1 this).1 b NX (by rw[e])
 have aK:=aL t
 -- what comes of the rest, once the second number is n
 have go:∀(x:SS) (X:Hp) (G1:Ol) (a':Int),Wk X G1 x->Step S x->x.tr=S.tr->x.ls[i]?=some (a'::n::c)->(WOk x.ls λm=>if m=n then kp++i::q else x.wl m)->(∀r,(∀j,r≠ .cl j)->X r=H r)->
   (∀r,ab pg q1w ⟨[(0,Oe S.g 0),(1,I n),(5,kv),(6,.stk bw gw N),(7,I pre.length),(8,I i),(9,.stk bc U m),(16,.stk bw gw N),(17,I N),(18,I pre.length)],[],G1⟩=some r->
    ab pg q1l ⟨eK S.g n kv (.stk bw gw N) N pre.length,[],gh⟩=bkK 1 (poK [0,1,5,6,16,17,18] 0 (sqK (evK pg (.cut q7u) (poK [0,1,5,6,16,17,18] 0 fiK)) (poK [0,1,5,6,16,17,18] 0 fiK))) r.1 r.2)->
   (∃o s f p d,ab pg q1l ⟨eK S.g n kv (.stk bw gw N) N pre.length,[],gh⟩=Og ⟨eK S.g n o (.stk bw gw N) N (pre.length+1),[],d⟩/\
    Wk p d f/\WOk f.ls (λm=>if m=n then s++q else f.wl m)/\LV p (.tm 1) o (nI s)/\Step S f/\p (.wt n)=H (.wt n)/\Fx H p)\/
   (∃f p d l,ab pg q1l ⟨eK S.g n kv (.stk bw gw N) N pre.length,[],gh⟩=Oh ⟨[(4,I i)],[],d⟩/\
    Wk p d f/\WOk f.ls f.wl/\Step S f/\Fx H p/\f.ls[i]?=some l/\n∈l/\∀y∈l,-y∈f.tr):=by
  intro x X G1 a' w1 st ht ao aG T z;have aC:x.cp=S.cp:=st.vs.1;have aB:x.g=S.g:=st.ad.1;have P:=K8 w1 (by rw[ht];exact hn) aG ao (by rw[aC];exact G) (hk.same (T _ NX)) (pre:=pre) (zs:=zs) (bw:=bw) (gw:=gw) ((T _ NX).trans (by rw[hC];exact hw)) rfl hN aH;rw[aB] at P;rcases P with ⟨e,aM,o,s,f,p,d,p1,p2,p3,p4,p5,p6,p7,p8,p9⟩|⟨f,p,d,l,p1,p2,p3,p4,p5,p6,p7,p8⟩
  ·have u:=p6.one
   have av:=K9 (g:=S.g) (n:=n) (kv:=o) (v6:= .stk bw gw N) (N:=N) (k:=pre.length) (gh:=d) ⟨u.2.2.2.1,u.2.1,u.2.2.2.2.1⟩ ⟨rfl,rfl⟩ NW;refine .inl ⟨o,s,f,p,d,(z _ p1).trans ?_,p4,p5,p6,st.trans p7,p8.trans (T _ NX),λb=>(p9 b).trans (T _ NX)⟩;have ap:keep 0 [0,1,5,6,16,17,18] (eK S.g n o (.stk bw gw N) N (pre.length+1))=eK S.g n o (.stk bw gw N) N (pre.length+1):=by simp[eK,u]
   rcases p2 with rfl|rfl<;>simp[p3,av,ap]
  ·exact .inr ⟨f,p,d,l,(z _ p1).trans NX,p2,p3,st.trans p4,λb=>(p5 b).trans (T _ NX),p6,p7,p8⟩
 by_cases M:n=a
 ·subst M
  obtain⟨X,r1,s1,b1,f1⟩:=Bj w hR t al hb (l':=b::n::c) NX;refine go (S.lits i (b::n::c)) X _ b ⟨s1,r1,h.tk.perm t (List.Perm.swap n b c),by simpa [SS.lits] using h.lb⟩ ⟨⟨rfl,rfl,rfl,rfl,rfl,rfl⟩,⟨rfl,rfl,rfl,rfl,rfl,rfl,rfl,rfl⟩,List.prefix_rfl,by simp[SS.lits]⟩ rfl (List.getElem?_set_self (aD.1 t).1) (hW.swap t) (λr hr=>f1 r (hr _)) λr hr=>aa ?_
  generalize (b::n::c++B).map I=D,(n::b::c++B).map I=E at *;have c5:0<E.length:=NW;simp[q1l,eK,O,A,Q,c1,hd,hg,SS.cs,G,R,c0,c2,c3,c4,c5,hL,aJ,aI,L,hr,List.getElem?_cons_zero,-getElem?_pos];rfl
 ·have an:n=b:=aE.resolve_left M
  subst an;refine go S H gh a h (Step.refl S) rfl t hW (λr _=>rfl) λr hr=>aa ?_
  simp[q1l,eK,O,A,Q,c1,hd,hg,SS.cs,G,R,c0,hL,L,hr];rfl
end
end
section
variable {n:Int} {gh:Ol}
attribute [local simp high] fq
attribute [local simp] ft fw
theorem Bm {g:Nat} {a v6:PV} {N:Nat} (b:degr a=a/\bj 0 a=true) (c:degr v6=v6/\bj 0 v6=true) :
  ab pg q3l ⟨eK g n a v6 N N,[],gh⟩=Og ⟨[(0,Oe g 0),(1,I n),(5,a)],[],gh⟩:=by
 refine (bn (s1:=⟨[(0,Oe g 0),(1,I n),(5,a),(6,v6),(16,v6),(17,I N),(18,I N),(19,B false)],[],gh⟩) (aa ?_)).trans ?_
 ·simp[q1l,eK]
 ·simp[b]
theorem Bn {n:Int} {N bw gw:Nat} {zs:Oi} (s:N<=10000000):∀(e c r:Oq) (S:SS) (H:Hp) (gh:Ol) (q:PV),Wk H gh S-> -n∈S.tr->(WOk S.ls λm=>if m=n then r++e else S.wl m)->LV H (.tm 1) q (nI r)->
  H (.wt n)=some (bw,.stk gw ((nI (c++e)++zs).map I))->(c++e).length=N->
  (∃k o d f a,ab pg q3l ⟨eK S.g n q (.stk bw gw N) N c.length,[],gh⟩=Og ⟨[(0,Oe S.g 0),(1,I n),(5,k)],[],a⟩/\
   Wk f a d/\WOk d.ls (λm=>if m=n then o else d.wl m)/\LV f (.tm 1) k (nI o)/\Step S d/\Fx H f)\/
  (∃i d f a l,ab pg q3l ⟨eK S.g n q (.stk bw gw N) N c.length,[],gh⟩=Oh ⟨[(4,I (i:Nat))],[],a⟩/\
   Wk f a d/\WOk d.ls d.wl/\Step S d/\Fx H f/\d.ls[i]?=some l/\n∈l/\∀y∈l,-y∈d.tr)
 |[],c,r,S,H,gh,q,h,_,P,v,_,w=>by
  have hp:c.length=N:=by simpa using w
  rw[hp];have X:=v.one;exact .inl ⟨q,r,S,H,gh,Bm ⟨X.2.1,X.2.2.2.2.1⟩ ⟨rfl,rfl⟩,h,by simpa using P,v,Step.refl S,λ_=>rfl⟩
 | i::e,c,r,S,H,gh,q,h,hn,P,v,hw,w=>by
  rcases La (bw:=bw) (gw:=gw) (zs:=zs) h hn P v hw w s with ⟨k,o,d,f,a,u,L,G,F,p,E,t⟩|⟨d,f,a,l,u,L,G,F,p,E,t,p8⟩
  ·have hg:d.g=S.g:=p.ad.1
   have U:=Bn (zs:=zs) (bw:=bw) (gw:=gw) s e (c++[i]) o d f a k L (p.tr.subset hn) G F (by rw[E,hw];simp) (by simpa using w);rw[hg,aQ,List.length_singleton] at U;rcases U with ⟨M,O,R,T,Q,D,C,B,A,z,x⟩|⟨j,R,T,Q,l,D,C,B,A,z,x⟩
   ·exact .inl ⟨M,O,R,T,Q,(ay u rfl).trans D,C,B,A,p.trans z,λb=>(x b).trans (t b)⟩
   ·exact .inr ⟨j,R,T,Q,l,(ay u rfl).trans D,C,B,p.trans A,λb=>(z b).trans (t b),x⟩
  ·exact .inr ⟨i,d,f,a,l,(cx u).trans rfl,L,G,F,p,E,t,p8⟩
theorem Lb {H:Hp} {S:SS} (h:Wk H gh S) (z:WOk S.ls S.wl) (hn: -n∈S.tr) :
  ∃r c e a,ac pg 188 [Oe S.g 0,I n] gh=some (I r,a)/\Wk e a c/\WOk c.ls c.wl/\Step S c/\Fx H e/\
   (r= -1\/∃(i:Nat) (l:Oi),r=(i:Int)/\c.ls[i]?=some l/\n∈l/\∀y∈l,-y∈c.tr):=by
 have p:=h.ok;have hR:=h.rp;have X:=hR.get p.bx;have U:=hR.get p.wm;have hf:=rV S.F n;have o:=p.wt n;have Q:=o.one;have k:=o.len;have an:=z.len n;have al:=h.lb;have ao:degr (wv S.F n)=wv S.F n:=Q.2.1
 have M:∀(c:SS) (e:Hp) (a:Ol) (d:PV) (f:Oq),c.g=S.g->Wk e a c->LV e (.tm 1) d (nI f)->WOk c.ls (λm=>if m=n then f else c.wl m)->
   ∃q A v,ab pg qbz ⟨[(0,Oe S.g 0),(1,I n),(5,d)],[],a⟩=Oh ⟨[(4,I (-1))],[],v⟩/\Wk A v q/\WOk q.ls q.wl/\Step c q/\Fx e A:=by
  intro c e a d f P w u G;obtain⟨H3,r3,s3,f3⟩:=Bl w.ok w.rp n u;have O:=w.rp.get w.ok.bx;have L:=w.rp.get w.ok.wm;have hs:=pm c.F n d;have hd:=u.one;refine⟨_,H3,_,aa ?_,⟨s3,r3,{w.tk with },w.lb⟩,G,⟨⟨rfl,rfl,rfl,rfl,rfl,rfl⟩,⟨rfl,rfl,rfl,rfl,rfl,rfl,rfl,rfl⟩,List.prefix_rfl,rfl⟩,λb=>f3 _ NX NX NX⟩;rw[<-P];simp[qbz,O,SS.cs,L,hs,hd]
 have hl:(∃d f c e a,ab pg q3l ⟨eK S.g n .nils (wv S.F n) (S.wl n).length 0,[],gh⟩=Og ⟨[(0,Oe S.g 0),(1,I n),(5,d)],[],a⟩/\
   Wk e a c/\WOk c.ls (λm=>if m=n then f else c.wl m)/\LV e (.tm 1) d (nI f)/\Step S c/\Fx H e)\/
  (∃i c e a l,ab pg q3l ⟨eK S.g n .nils (wv S.F n) (S.wl n).length 0,[],gh⟩=Oh ⟨[(4,I (i:Nat))],[],a⟩/\
   Wk e a c/\WOk c.ls c.wl/\Step S c/\Fx H e/\c.ls[i]?=some l/\n∈l/\∀y∈l,-y∈c.tr):=by
  rcases o with ⟨T,R⟩|⟨bw,gw,ys,T,R⟩
  ·have e3:S.wl n=[]:=by simpa using T
   rw[R,e3];refine .inl ⟨.nils,[],S,H,gh,Bm ⟨rfl,rfl⟩ ⟨rfl,rfl⟩,h,λm=>?_,.inl ⟨rfl,rfl⟩,Step.refl S,λ_=>rfl⟩;by_cases j:m=n
   ·simp[j]
   ·simp only[if_neg j];exact z m
  ·have:=Bn (zs:=ys) (n:=n) (N:=(S.wl n).length) (bw:=bw) (gw:=gw) NW (S.wl n) [] [] S H gh .nils h hn (λm=>by
    by_cases j:m=n
    ·subst j;simpa using z m
    ·simp only[if_neg j];exact z m) (.inl ⟨rfl,rfl⟩) R rfl
   rw[T];simpa using this
 rcases hl with ⟨d,f,c,e,a,t,E,D,C,x,B⟩|⟨i,c,e,a,l,t,E,D,C,x,B⟩
 ·obtain⟨q,A,v,q1,q2,q3,q4,q5⟩:=M c e a d f x.ad.1 E C D
  refine⟨-1,q,A,v,ak (fn:=q2t) (s:=⟨[(4,I (-1))],[],v⟩) rfl rfl (aa ?J) ?Z,q2,q3,x.trans q4,λb=>(q5 b).trans (B b),.inl rfl⟩
  case J=>
   simp only[eK,show ((0:Nat):Int)=0 from rfl] at t;simp[q2t,qc0,X,SS.cs,U,hf,Q,k,t,q1]
  case Z=>simp[ag,results,q2t,ah,am,af]
 ·refine⟨i,c,e,a,ak (fn:=q2t) (s:=⟨[(4,I i)],[],a⟩) rfl rfl (aa ?Y) ?K,E,D,C,x,.inr ⟨i,l,rfl,B⟩⟩
  case Y=>
   simp only[eK,show ((0:Nat):Int)=0 from rfl] at t;simp[q2t,qc0,X,SS.cs,U,hf,Q,k,t]
  case K=>simp[ag,results,q2t,ah,am,af]
end
end Go.Lw