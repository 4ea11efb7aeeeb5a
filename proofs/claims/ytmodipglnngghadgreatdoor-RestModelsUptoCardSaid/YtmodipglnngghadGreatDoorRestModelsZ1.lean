/-
  The texts that the proof stands on, part 27.
-/
import Derived.Test.YtmodipglnngghadGreatDoorRestModelsZ
set_option linter.unusedVariables false
set_option linter.unusedSimpArgs false
set_option linter.unnecessarySimpa false

set_option maxRecDepth 100000
set_option maxHeartbeats 4000000
namespace Go.Lw
open Go
section
attribute [local congr] bu
attribute [local simp] au
theorem wrS' (n:Nat) (h:n<=1000000):WI.wrap ((n:Int)+1)=((n+1:Nat):Int):=by rw[aq aj aj];omega
theorem get_at {a rx:fq} {x:Int} {i:Nat} (h:a.length=i):((a++x::rx).map I)[i]?=some (I x):=by subst h;simp
theorem fZ (l:fq):eg (l.map I)=true:=by
 induction l with
 |nil=>rfl
 |cons x l a=>simpa using a
def YBk (c:PV) (a:fq) (d:fB):Prop:=c= cr (a.map I)\/∃b,c= .bs true b 0 a.length 1/\d[b]?=some (.cells (a.map I))
section
variable {gh gh':fB}
theorem If {X h:fw} {r:PV} {e:fq} {f:Nat} {a:fw} {p:PV} {v:fw->fw} {x o:Int} {n i:Nat} (B:i<n) (hn:n<=1000) (m:X[i]?=some (I x)) (j:e.length=n) (z:YBk r e gh) (w:h.length=i)
  (A:(p= .fn f a/\v=λs=>s++a)\/(p= .bfn f a/\v=λs=>a++s)) (d:a.all az=true) (t:ac pg f (v [I x,I (e.getD i 0)]) gh=some (I o,gh')) :
  evK pg q1z fiK ⟨[(0,(cr X)),(1,r),(2,p),(7,(dz h)),(10,(.int .i64 n)),(11,(.int .i64 i))],[],gh⟩=fg ⟨[(0,cr X),(1,r),(2,p),(7,dz (h++[I o])),(10,I n),(11,I ((i+1:Nat):Int))],[],gh'⟩:=by
 have c:(i:Int)<(n:Int):=aj;have q:=wrS' i aj;have g:(h.length+1)*8<=maxBytes:=by have:=MB;omega
 have l:(e.map I)[i]?=some (I (e.getD i 0)):=by rw[aB,aK,aA aj];rfl
 generalize e.getD i 0=y at *;rcases A with ⟨rfl,rfl⟩|⟨rfl,rfl⟩
 ·have k:ac pg f (I x::I y::a) gh=some (I o,gh'):=t
  rcases z with rfl|⟨b,rfl,u⟩
  ·generalize e.map I=Y at *
   simp[q1z,c,m,l,lQ d,k,g,q,-List.getElem?_map]
  ·rw[j]
   generalize e.map I=Y at *;simp[q1z,c,m,l,u,lQ d,k,g,q]
 ·rcases z with rfl|⟨b,rfl,u⟩
  ·generalize e.map I=Y at *
   simp[q1z,c,m,l,lQ d,t,g,q,-List.getElem?_map]
  ·rw[j]
   generalize e.map I=Y at *;simp[q1z,c,m,l,u,lQ d,t,g,q]
end
theorem zD {c j a:fq} {r p:PV} {f:Nat} {b:fw} {q:fw->fw} {e:Nat->fB} (s:c.length<=1000) (g:j.length=c.length) (n:a.length=c.length) (v:∀i,YBk r j (e i))
  (t:(p= .fn f b/\q=λl=>l++b)\/(p= .bfn f b/\q=λl=>b++l)) (d:b.all az=true)
  (u:∀i,i<c.length->ac pg f (q [I (c.getD i 0),I (j.getD i 0)]) (e i)=some (I (a.getD i 0),e (i+1))):∀k i,i+k=c.length->
  bm pg qdj ⟨[(0,LI c),(1,r),(2,p),(7,dz ((a.take i).map I)),(10,I c.length),(11,I (i:Int))],[],e i⟩=fg ⟨[(7,dz (a.map I))],[],e c.length⟩
 |0,i,h=>by
  obtain rfl:i=c.length:=aj;rw[bK aj];have m:¬(c.length:Int)<(c.length:Int):=aj;refine (bn (s1:=?J) (bg ?Z)).trans ?Y
  case Z=>simp[q1z,m];rfl
  case Y=>simp[keep]
 | k+1,i,h=>by
  have o:i<c.length:=aj;have w:(c.map I)[i]?=some (I (c.getD i 0)):=by rw[aB,aK,aA o];rfl
  refine ay (bg (If o s w g (v i) (by simp;omega) t d (u i o))) ?_;have x:(a.take i).map I++[I (a.getD i 0)]=(a.take (i+1)).map I:=by
   have:a.take (i+1)=a.take i++[a.getD i 0]:=by rw[List.take_add_one,aK,aA aj];rfl
   rw[this,bI];rfl
  rw[x];exact zD s g n v t d u k (i+1) aj
theorem YBk.st {a:PV} {c:fq} {d:fB} {nl:Nat} (h:YBk a c d):bj nl a=true:=by rcases h with rfl|⟨b,rfl,_⟩<;>rfl
theorem um {xs ys outs:fq} {vy fn:PV} {f:Nat} {caps:fw} {h:fw->fw} {hs:Nat->fB} (m:xs.length<=1000) (d:ys.length=xs.length) (e:outs.length=xs.length) (l:∀i,YBk vy ys (hs i))
  (k:(fn= .fn f caps/\h=λc=>c++caps)\/(fn= .bfn f caps/\h=λc=>caps++c)) (b:caps.all az=true)
  (n:∀i,i<xs.length->ac pg f (h [I (xs.getD i 0),I (ys.getD i 0)]) (hs i)=some (I (outs.getD i 0),hs (i+1))) :
  ac pg 222 [LI xs,vy,fn] (hs 0)=some (LI outs,hs xs.length):=by
 have g:=zD m d e l k b n xs.length 0 aj;simp only[List.take_zero,bU,aR] at g;have j:bm pg q8v ⟨[(7,dz (outs.map I))],[],hs xs.length⟩=fo ⟨[(6,LI outs)],[],hs xs.length⟩:=bg (by simp[q8v]);have a:=(l 0).st (nl:=0);generalize hs xs.length=o,hs 0=p at *;refine ak (fn:=q3q) (s:=⟨[(6,LI outs)],[],o⟩) rfl rfl (bg ?J) ?Z
 case J=>
  rcases k with ⟨rfl,_⟩|⟨rfl,_⟩
  ·simp[q8w,q3q,a,g,j]
  ·simp[q8w,q3q,a,g,j]
 case Z=>simp[ag,results,q3q,ah,am,af]
theorem Ig (a b:Int) (c:fB):ac pg 236 [I a,I b] c=some (I (fa a),c):=by
 refine ak (fn:=q5k) (s:=?J) rfl rfl (bg ?Z) ?Y
 case Z=>simp[qe2,q5k,kx];rfl
 case Y=>simp[ag,results,q5k,ah,am,af]
theorem rA {xs:fq} (b:xs.length<=1000) (a:fB):ac pg 219 [LI xs] a=some (LI (xs.map fa),a):=by
 have h:=um (xs:=xs) (ys:=xs) (outs:=xs.map fa) (vy:=LI xs) (fn:= .fn 236 []) (f:=236) (caps:=[]) (hs:=λ_=>a) b rfl bh (λ_=> .inl rfl) (.inl ⟨rfl,rfl⟩) rfl (λi c=>by
  have e:(xs.map fa).getD i 0=fa (xs.getD i 0):=by simp[aK,aA c]
  rw[e];exact Ig _ _ a)
 generalize xs.map fa=ys at *;refine ak (fn:=q51) (s:=⟨[(2,LI ys)],[],a⟩) rfl rfl (bg ?J) ?Z
 case J=>simp[qdg,q51,h]
 case Z=>simp[ag,results,q51,ah,am,af,fZ]
theorem rC {n:Nat} (h:n<=1000000):(n:Int)*8<=(maxBytes:Int):=by have:=MB;omega
theorem ky {n:Nat} (h:n<=1000000) (b:fB):ac pg 220 [I (n:Int)] b=some (dz ((List.replicate n (0:Int)).map I),b):=by
 refine ak (fn:=q52) (s:=⟨[(2,dz ((List.replicate n (0:Int)).map I))],[],b⟩) rfl rfl (bg ?J) ?Z
 case J=>simp[qdh,q52,rC h]
 case Z=>
  have:=fZ (List.replicate n (0:Int));generalize (List.replicate n (0:Int)).map I=a at *;simp[ag,results,q52,af,this]
section
variable {ins:Int} {v:fS}
theorem uo {pre:fB} (u:(v.length:Int)=ins) {A:fN} {c:Nat} {f:Nat} {ap:BC->fw->fw} {CC:BC->Prop} {op:Bool->Bool->Bool}
  (p:∀j d,Stp ins A j d->j.length+c<=1000000->∀a b G F,Lt ins v j a G->Lt ins v j b F->∃t n,(∀H:BC,CC H->ac pg f (ap H [I a,I b]) (H.g pre ins j)=some (I n,H.g pre ins t))/\Stp ins j t c/\Lt ins v t n (op G F)) :
  ∀ (k m:fq) (r q:fS) (j:fN) (d:Nat),Stp ins A j d->m.length=k.length->j.length+c*k.length<=1000000->Ls ins v j k r->Ls ins v j m q->
   ∃(l:Nat->fN) (h:fq),l 0=j/\h.length=k.length/\(∀i,i<k.length->∀H:BC,CC H->ac pg f (ap H [I (k.getD i 0),I (m.getD i 0)]) (H.g pre ins (l i))=some (I (h.getD i 0),H.g pre ins (l (i+1))))/\
    Stp ins j (l k.length) (c*k.length)/\Ls ins v (l k.length) h (List.zipWith op r q)
 |[],[],[],[],j,d,s,_,_,_,_=>⟨λ_=>j,[],rfl,rfl,λi w=>absurd w bh,Stp.refl s.1,trivial⟩
 | x::k,y::m,b::r,e::q,j,d,s,M,D,C,B=>by
  simp only[aV] at M D;rw[Nat.mul_add,Nat.mul_one] at D;obtain⟨t,n,N,o,L⟩:=p j d s aj x y b e C.1 B.1;have R:=o.2.1;obtain⟨l,h,z,Q,P,E,O⟩:=uo u p k m r q t (d+c) (s.trans o) aj aj (C.2.mono u o) (B.2.mono u o);refine⟨λi=>match i with|0=>j|i+1=>l i,n::h,rfl,by simp[Q],?_,?_,?_⟩
  ·intro i w H hH
   match i with
   |0=>
    have:=N H hH
    show ac pg f (ap H [I x,I y]) (H.g pre ins j)=some (I n,H.g pre ins (l 0))
    rw[z];exact this
   |i+1=>exact P i (by simpa using w) H hH
  ·show Stp ins j (l k.length) _
   rw[z] at *;exact (o.trans E).mono (by rw[aV,Nat.mul_add];omega)
  ·show Ls ins v (l k.length) (n::h) (op b e::List.zipWith op r q)
   exact⟨L.mono u (by rw[<-z] at *;exact E),O⟩
def YB (b:fB) (H:BC) (c:PV) (a:fq):Prop:=c=LI a\/∃j,c= .bs true (b.length+3+j) 0 a.length 1/\H.post[j]?=some (.cells (a.map I))
theorem oU {a:fB} {A:fN} {H:BC} {j:Nat} {x:GObj} (h:H.post[j]?=some x):(H.g a ins A)[a.length+3+j]?=some x:=by unfold BC.g;rw[aN aj,show a.length+3+j-a.length=j+3 by omega];simpa using h
theorem YB.ok {a:fB} {A:fN} {H:BC} {c:PV} {b:fq} (h:YB a H c b):YBk c b (H.g a ins A):=by
 rcases h with rfl|⟨j,rfl,d⟩
 ·exact .inl rfl
 ·exact .inr ⟨_,rfl,oU d⟩
theorem YB.push {b:fB} {H:BC} {f:PV} {e:fq} {a:fB} (h:YB b H f e):YB b (H.push a) f e:=by
 rcases h with rfl|⟨j,rfl,d⟩
 ·exact .inl rfl
 ·refine .inr ⟨j,rfl,?_⟩
  have c:j<H.post.length:=by
   rcases Nat.lt_or_ge j H.post.length with h|h
   ·exact h
   ·rw[List.getElem?_eq_none h] at d;cases d
  show (H.post++a)[j]?=_
  rw[aI c];exact d
def pkJ (a:fB) (c:Int):fB:=[.cells [fc (a.length+2) 0],.cells [I c]]
def kz (b:fB) (a:BC):fw:=[fc (b.length+3+(a.post.length-2)) 0,fc (b.length+3+(a.post.length-1)) 0]
theorem Gh (pre:fB) (z:(v.length:Int)=ins) {A:fN} (hc:cq ins A=0) {c:Int} {bc:Bool} {xs ys:fq} {bs cs:fS} (hs:A.length+3*xs.length<=1000000) (hl:xs.length<=1000) (r:ys.length=xs.length)
  (D:Lt ins v A c bc) (P:Ls ins v A xs bs) (O:Ls ins v A ys cs) :
  ∃N outs,(∀(H:BC) (vy:PV),YB pre H vy ys->ac pg 234 [fc (pre.length+2) 0,I c,LI xs,vy] (H.g pre ins A)=some (LI outs,(H.push (pkJ pre c)).g pre ins N))/\Stp ins A N (3*xs.length)/\Ls ins v N outs (d9 bc bs cs):=by
 have C:∀l d,Stp ins A l d->l.length+3<=1000000->∀a b G F,Lt ins v l a G->Lt ins v l b F->∃w n,(∀k:BC,(∃H:BC,k=H.push (pkJ pre c))->ac pg 237 ((λk y=>y++kz pre k) k [I a,I b]) (k.g pre ins l)=some (I n,k.g pre ins w))/\Stp ins l w 3/\Lt ins v w n ((λp q=>if bc then p else q) G F):=by
  intro l d s E a b G F ha hb;obtain⟨w,n,h1,Q,U⟩:=Ie pre z s.1 E (D.mono z s) ha hb;refine⟨w,n,?_,Q,U⟩;rintro k ⟨H,rfl⟩;have e1:=h1 (H.push (pkJ pre c));have T:((H.push (pkJ pre c)).g pre ins l)[pre.length+3+H.post.length]?=some (.cells [fc (pre.length+2) 0]):=oU (by simp[BC.push,pkJ]);have S:((H.push (pkJ pre c)).g pre ins l)[pre.length+3+(H.post.length+1)]?=some (.cells [I c]):=oU (by simp[BC.push,pkJ]);have t:kz pre (H.push (pkJ pre c))=[fc (pre.length+3+H.post.length) 0,fc (pre.length+3+(H.post.length+1)) 0]:=by simp[kz,BC.push,pkJ]
  show ac pg 237 ([I a,I b]++kz pre (H.push (pkJ pre c))) _=_
  rw[t];generalize pre.length+3+H.post.length=q1,pre.length+3+(H.post.length+1)=R,(H.push (pkJ pre c)).g pre ins l=G1,(H.push (pkJ pre c)).g pre ins w=L at *;refine ak (fn:=q5l) (s:=⟨[(6,I n)],[],L⟩) rfl rfl (bg ?J) ?Z
  case J=>simp[qe3,q5l,T,S,e1]
  case Z=>simp[ag,results,q5l,ah,am,af]
 obtain⟨M,outs,g1,g2,g3,g4,g5⟩:=uo (pre:=pre) (f:=237) (ap:=λk y=>y++kz pre k) (CC:=λk=>∃H:BC,k=H.push (pkJ pre c)) (op:=λp q=>if bc then p else q) z C xs ys bs cs A 0 (Stp.refl hc) r hs P O;refine⟨M xs.length,outs,?_,g4,?_⟩
 ·intro H vy o
  have u:=um (xs:=xs) (ys:=ys) (outs:=outs) (vy:=vy) (fn:= .fn 237 (kz pre (H.push (pkJ pre c)))) (f:=237) (caps:=kz pre (H.push (pkJ pre c))) (hs:=λi=>(H.push (pkJ pre c)).g pre ins (M i)) hl r g2 (λi=>o.push.ok) (.inl ⟨rfl,rfl⟩) rfl (λi hi=>g3 i hi _ ⟨H,rfl⟩);simp only[g1] at u;have aa:=(o.ok (ins:=ins) (A:=A)).st (nl:=0);have t:kz pre (H.push (pkJ pre c))=[fc (pre.length+3+H.post.length) 0,fc (pre.length+3+(H.post.length+1)) 0]:=by simp[kz,BC.push,pkJ]
  have B:(H.push (pkJ pre c)).g pre ins A=H.g pre ins A++[.cells [fc (pre.length+2) 0]]++[.cells [I c]]:=by simp[BC.push,pkJ,BC.g]
  have m:=rq (pre:=pre) (ins:=ins) (A:=A) (H:=H);rw[t,B] at u;generalize (H.push (pkJ pre c)).g pre ins (M xs.length)=L,H.g pre ins A=G1 at *;refine ak (fn:=q3s) (s:=⟨[(8,LI outs)],[],L⟩) rfl rfl (bg ?J) ?Z
  case J=>
   simp only[aT,bH,bF] at u;rw[show pre.length+3+(H.post.length+1)=pre.length+3+H.post.length+1 by omega] at u;generalize pre.length+3+H.post.length=q at *;rcases o with rfl|⟨j,rfl,_⟩
   ·simp[q94,q3s,m,u]
   ·generalize pre.length+3+j=R at *
    simp[q94,q3s,m,u]
  case Z=>simp[ag,results,q3s,ah,am,af]
 ·have x:∀(bs cs:fS),bs.length=cs.length->List.zipWith (λp q=>if bc then p else q) bs cs=d9 bc bs cs:=by
   intro bs
   induction bs with
   |nil=>intro cs h;cases cs with|nil=>cases bc<;>rfl|cons _ _=>cases h
   | cons b bs X=>
    intro cs h;cases cs with
    |nil=>cases h
    |cons e cs=>
     rw[List.zipWith_cons_cons,X cs (by simpa using h)];cases bc<;>rfl
  rw[<-x bs cs (by rw[P.len,O.len,r])];exact g5
end
end
section
attribute [local congr] bu
attribute [local simp] au
section
variable {pre:fB} {ins:Int} {v:fS}
theorem Ih {H:BC} {A q p m l k:fN} {X Y acc:fw} {x y c d o e f j:Int} {n i:Nat} (C:i<n) (hn:n<=1000) (s:X[i]?=some (I x)) (r:Y[i]?=some (I y)) (h:acc.length=i)
  (z:ac pg 224 [fc (pre.length+2) 0,I x,I y] (H.g pre ins A)=some (I d,H.g pre ins q))
  (w:ac pg 224 [fc (pre.length+2) 0,I d,I c] (H.g pre ins q)=some (I o,H.g pre ins p))
  (v:ac pg 49 [fc (pre.length+1) 0,I x,I y] (H.g pre ins p)=some (I e,H.g pre ins m))
  (u:ac pg 49 [fc (pre.length+1) 0,I d,I c] (H.g pre ins m)=some (I f,H.g pre ins l))
  (t:ac pg 223 [fc (pre.length+2) 0,I e,I f] (H.g pre ins l)=some (I j,H.g pre ins k)) :
  evK pg q56 fiK ⟨[(0,(fc (pre.length+2) 0)),(1,(cr X)),(2,(cr Y)),(3,(.int .i64 c)),(10,(dz acc)),(14,(.int .i64 n)),(15,(.int .i64 i))],[],(H.g pre ins A)⟩=fg ⟨[(0,fc (pre.length+2) 0),(1,cr X),(2,cr Y),(3,I j),(10,dz (acc++[I o])),(14,I n),(15,I ((i+1:Nat):Int))],[],H.g pre ins k⟩:=by
 have a:(i:Int)<(n:Int):=aj;have B:=wrS' i aj;have b:(acc.length+1)*8<=maxBytes:=by have:=MB;omega
 simp[q56,a,s,r,z,w,v,u,t,jo,keptB,rt,List.getElem?_cons_zero,-getElem?_pos,b,B]
theorem zE (h:fB) (j:(v.length:Int)=ins):∀(k p a q acc:fq) (u t:fS) (A:fN) (c:Int) (w:Bool),cq ins A=0->A.length+9*k.length<=1000000->q.length=a.length->p.length=k.length->acc.length=a.length->a.length+k.length<=1000->
  Ls ins v A k u->Ls ins v A p t->Lt ins v A c w->
  ∃D l C,(∀H:BC,bm pg qdm ⟨[(0,fc (h.length+2) 0),(1,LI (a++k)),(2,LI (q++p)),(3,I c),(10,dz (acc.map I)),(14,I ((a.length+k.length:Nat):Int)),(15,I (a.length:Int))],[],H.g h ins A⟩=fg ⟨[(3,I C),(10,dz ((acc++l).map I))],[],H.g h ins D⟩)/\
   Stp ins A D (9*k.length)/\Ls ins v D l (eo u t w).1/\Lt ins v D C (eo u t w).2
 |[],[],a,q,acc,[],[],A,c,w,N,_,_,_,_,_,_,_,m=>by
  refine⟨A,[],c,λH=>?_,Stp.refl N,trivial,m⟩;have M:¬((a.length:Nat):Int)<((a.length+([]:fq).length:Nat):Int):=bh;refine (bn (s1:=?J) (bg ?Z)).trans ?Y
  case Z=>simp[q56,M];rfl
  case Y=>simp[keep]
 | x::k,y::p,a,q,acc,b::u,e::t,A,c,w,N,hs,hp,hl,ha,hn,L,G,m=>by
  simp only[aV] at hs hl hn;obtain⟨A1,d,h1,s1,Q⟩:=rz h j N aj L.1 G.1;have b1:=s1.2.1;obtain⟨A2,o,h2,B,l2⟩:=rz h j s1.1 aj Q (m.mono j s1);have b2:=B.2.1;have F:=s1.trans B;obtain⟨A3,e',h3,s,l3⟩:=jT h j B.1 aj (L.1.mono j F) (G.1.mono j F);have b3:=s.2.1;have P:=F.trans s;obtain⟨A4,f,h4,r,X⟩:=jT h j s.1 aj (Q.mono j (B.trans s)) (m.mono j P);have b4:=r.2.1;obtain⟨A5,C,h5,z,U⟩:=rv h j r.1 aj (l3.mono j r) X;have b5:=z.2.1;have E:=(P.trans r).trans z
  obtain⟨A6,l,O,g1,T,g3,g4⟩:=zE h j k p (a++[x]) (q++[y]) (acc++[o]) u t A5 C _ z.1 aj (by simp;omega) aj (by simp;omega) (by simp;omega) (L.2.mono j E) (G.2.mono j E) U;refine⟨A6,o::l,O,λH=>?_,(E.trans T).mono (by simp only[aV];omega),?_,?_⟩
  ·have ex:((a++x::k).map I)[a.length]?=some (I x):=get_at rfl
   have ey:((q++y::p).map I)[a.length]?=some (I y):=get_at hp;have S:=Ih (H:=H) (acc:=acc.map I) (n:=a.length+(x::k).length) (i:=a.length) bh (by simp only[aV];omega) ex ey (by simpa using ha) (h1 H) (h2 H) (h3 H) (h4 H) (h5 H);rw[show acc.map I++[I o]=(acc++[o]).map I by simp] at S;refine ay (bg S) ?_;have R:=g1 H;rw[show (a++[x]).length+k.length=a.length+(x::k).length by simp;omega,show (a++[x]).length=a.length+1 by simp,aT a [x] k,aT q [y] p,aT acc [o] l] at R;exact R
  ·rw[eo]
   exact⟨l2.mono j (((s.trans r).trans z).trans T),g3⟩
  ·rw[eo]
   exact g4
theorem rD (a:fB) (m:(v.length:Int)=ins) {A:fN} (q:cq ins A=0) {xs ys:fq} {c:Int} {h f:fS} {bc:Bool} (n:A.length+9*xs.length<=1000000) (hn:xs.length<=1000) (o:ys.length=xs.length)
  (l:Ls ins v A xs h) (k:Ls ins v A ys f) (i:Lt ins v A c bc) :
  ∃d b e,(∀H:BC,ac pg 225 [fc (a.length+2) 0,LI xs,LI ys,I c] (H.g a ins A)=some (.tup [LI b,I e],H.g a ins d))/\
   Stp ins A d (9*xs.length)/\Ls ins v d b (eo h f bc).1/\Lt ins v d e (eo h f bc).2:=by
 obtain⟨d,b,e,w,u,t,r⟩:=zE a m xs ys [] [] [] h f A c bc q n rfl o rfl (by simpa using hn) l k i;refine⟨d,b,e,λH=>?_,u,t,r⟩;have j:=w H;simp only[bF,bU,cF,cX,aR] at j;have p:bm pg q8x ⟨[(3,I e),(10,dz (b.map I))],[],H.g a ins d⟩=fo ⟨[(8,LI b),(9,I e)],[],H.g a ins d⟩:=bg (by simp[q8x]);generalize H.g a ins d=x at *;generalize H.g a ins A=y at *;refine ak (fn:=q57) (s:=⟨[(8,LI b),(9,I e)],[],x⟩) rfl rfl (bg ?J) ?Z
 case J=>simp[qdn,q57,j,p]
 case Z=>simp[ag,results,q57,ah,am,af]
theorem uq (a:fB) (k:(v.length:Int)=ins) {A:fN} (e:cq ins A=0) {xs ys:fq} {h f:fS} (l:A.length+9*xs.length<=1000000) (hn:xs.length<=1000) (n:ys.length=xs.length)
  (j:Ls ins v A xs h) (i:Ls ins v A ys f) :
  ∃d b,(∀H:BC,ac pg 221 [fc (a.length+2) 0,LI xs,LI ys] (H.g a ins A)=some (LI b,H.g a ins d))/\Stp ins A d (9*xs.length)/\Ls ins v d b (tp h f):=by
 obtain⟨o,_,_,_⟩:=dX e;obtain⟨d,b,z,t,r,q,x⟩:=rD a k e l hn (by simpa using n) j (i.not e) (oQ o.1);refine⟨d,b,λH=>?_,r,q⟩;have p:=rA (xs:=ys) aj (H.g a ins A);have m:=t H;generalize H.g a ins d=u at *;generalize H.g a ins A=y,ys.map fa=w at *;refine ak (fn:=q53) (s:=⟨[(6,LI b)],[],u⟩) rfl rfl (bg ?J) ?Z
 case J=>simp[qdi,q53,p,m]
 case Z=>simp[ag,results,q53,ah,am,af]
theorem ur (a:fB) (m:(v.length:Int)=ins) {A:fN} (d:cq ins A=0) {xs ys:fq} {i f:fS} (o:A.length+9*xs.length<=1000000) (hn:xs.length<=1000) (q:ys.length=xs.length)
  (l:Ls ins v A xs i) (k:Ls ins v A ys f) :
  ∃b n,(∀H:BC,ac pg 232 [fc (a.length+2) 0,LI xs,LI ys] (H.g a ins A)=some (I n,H.g a ins b))/\Stp ins A b (9*xs.length)/\Lt ins v b n (iO i f):=by
 obtain⟨r,_,_,_⟩:=dX d;obtain⟨b,j,h,w,e,z,u⟩:=rD a m d o hn (by simpa using q) l (k.not d) (oQ r.1);refine⟨b,fa h,λH=>?_,e,u.not e.1⟩;have t:=rA (xs:=ys) aj (H.g a ins A);have p:=w H;generalize H.g a ins b=x at *;generalize H.g a ins A=B,ys.map fa=y at *;refine ak (fn:=q5h) (s:=⟨[(6,I (fa h))],[],x⟩) rfl rfl (bg ?J) ?Z
 case J=>simp[qdy,q5h,t,p,kx]
 case Z=>simp[ag,results,q5h,ah,am,af]
theorem Ii {g r q:fB} {X b Y:fq} {a pk:fq} {o:Bool} {c C:Int} {n i ly:Nat} (D:i<ly) (hn:n<=1000) (x:X.length=n) (u:i<=n) (w:(Y.map I)[i]?=some (I c)) (t:ly<=1000)
  (p:ac pg 234 [fc (pre.length+2) 0,I c,LI (List.replicate i 0++X.take (n-i)),LI (List.replicate n 0)] g=some (LI pk,r))
  (y:ac pg 225 [fc (pre.length+2) 0,LI b,LI pk,I 0] r=some (.tup [LI a,I C],q)) :
  evK pg q58 fiK ⟨[(0,(fc (pre.length+2) 0)),(1,(LI X)),(7,(.sl o 1 (b.map I))),(14,(LI Y)),(15,(.int .i64 ly)),(16,(.int .i64 i))],[],g⟩=fg ⟨[(0,fc (pre.length+2) 0),(1,LI X),(7,LI a),(14,LI Y),(15,I ly),(16,I ((i+1:Nat):Int))],[],q⟩:=by
 have e:(i:Int)<(ly:Int):=aj;have B:=wrS' i aj;have m:=ky (n:=i) aj g;have l:=ky (n:=n) aj g;have z:WI.wrap (((n:Nat):Int)-(i:Int))=((n-i:Nat):Int):=by rw[aq aj aj];omega
 have k:(i+(n-i))*8<=maxBytes:=by have:=MB;omega
 have d:n*8<=maxBytes:=by have:=MB;omega
 have A:(X.map I).length=n:=by simpa using x
 have s:(X.map I).take (n-i)=(X.take (n-i)).map I:=bh;have j:((List.replicate i (0:Int)).map I).length=i:=bh;have h:((X.take (n-i)).map I).length=n-i:=by simp;omega
 have f:(List.replicate i (0:Int)++X.take (n-i)).map I=(List.replicate i (0:Int)).map I++(X.take (n-i)).map I:=bh;unfold LI at *;rw[f] at p;generalize (X.take (n-i)).map I=F,X.map I=G,Y.map I=E,pk.map I=L,a.map I=M,b.map I=N,(List.replicate i (0:Int)).map I=RI,(List.replicate n (0:Int)).map I=H at *;have v:i<=n/\n-i<=n:=aj;simp[q58,e,w,m,l,A,z,B,s,j,h,k,d,p,y,v]
theorem zF (e:fB) (r:(v.length:Int)=ins) {X:fq} {z:fS} (hX:X.length<=100):∀(h d:fq) (cs:fS) (A:fN) (f:fq) (B:fS) (o:Bool),cq ins A=0->A.length+12*X.length*h.length<=1000000->d.length+h.length<=X.length->f.length=X.length->
  Ls ins v A X z->Ls ins v A f B->Ls ins v A h cs->
  ∃G l a S,(∀H:BC,bm pg qdo ⟨[(0,fc (e.length+2) 0),(1,LI X),(7,.sl o 1 (f.map I)),(14,LI (d++h)),(15,I ((d.length+h.length:Nat):Int)),(16,I (d.length:Int))],[],H.g e ins A⟩=fg ⟨[(7,.sl S 1 (l.map I))],[],(H.push a).g e ins G⟩)/\
   Stp ins A G (12*X.length*h.length)/\Ls ins v G l (jn z d.length cs B)
 |[],d,[],A,f,B,o,y,_,_,_,_,u,_=>by
  refine⟨A,f,[],o,λH=>?_,Stp.refl y,u⟩;have F:¬((d.length:Nat):Int)<((d.length+([]:fq).length:Nat):Int):=bh;rw[fY];refine (bn (s1:=?J) (bg ?Z)).trans ?Y
  case Z=>simp[q58,F];rfl
  case Y=>simp[keep]
 | c::h,d,b::cs,A,f,B,o,y,O,T,x,q,u,N=>by
  simp only[aV] at O T;rw[Nat.mul_add,Nat.mul_one] at O;obtain⟨p,_,_,_⟩:=dX y;have t:Ls ins v A (List.replicate d.length 0++X.take (X.length-d.length)) (jm z d.length):=by unfold jm;rw[q.len];exact (Ls.zeros p.1 _).app (q.take _)
  have j:(List.replicate d.length (0:Int)++X.take (X.length-d.length)).length=X.length:=by simp;omega
  obtain⟨A1,pk,h1,s1,D⟩:=Gh e r y (c:=c) (bc:=b) (xs:=List.replicate d.length 0++X.take (X.length-d.length)) (ys:=List.replicate X.length 0) (bs:=jm z d.length) (cs:=zB X.length) (by rw[j];omega) (by rw[j];omega) (by rw[j];simp) N.1 t (Ls.zeros p.1 _);rw[j] at s1;have b1:=s1.2.1;have E:pk.length=X.length:=by
   rw[<-D.len];unfold d9;split
   ·rw[zq (by rw[q.len];omega),q.len]
   ·simp[zB]
  obtain⟨A2,k,c2,h2,C,M,_⟩:=rD e r s1.1 (xs:=f) (ys:=pk) (c:=0) (bc:=false) aj aj aj (u.mono r s1) D (oO p.1);have b2:=C.2.1;have w:=s1.trans C;rw[x] at w;have m:k.length=X.length:=by rw[<-M.len,lg (by rw[u.len,D.len,x,E]),u.len,x]
  rw[x] at b2;obtain⟨A3,s,a,R,h3,Q,L⟩:=zF e r hX h (d++[c]) cs A2 k _ false C.1 aj (by simp;omega) m (q.mono r w) M (N.2.mono r w);refine⟨A3,s,pkJ e c++a,R,λH=>?_,(w.trans Q).mono (by rw[aV,Nat.mul_add];omega),?_⟩
  ·have U:=Ii (o:=o) (n:=X.length) (i:=d.length) (ly:=d.length+(c::h).length) (Y:=d++c::h) bh aj rfl aj (get_at rfl) (by simp only[aV];omega) (h1 H _ (.inl rfl)) (h2 (H.push (pkJ e c)))
   refine ay (bg U) ?_;have P:=h3 (H.push (pkJ e c));rw[show (d++[c]).length+h.length=d.length+(c::h).length by simp;omega,show (d++[c]).length=d.length+1 by simp,aT d [c] h,Gb] at P;exact P
  ·rw[jn]
   rw[show (d++[c]).length=d.length+1 by simp] at L;rw[q.len];exact L
theorem Ij (c:fB) (r:(v.length:Int)=ins) {A:fN} (k:cq ins A=0) {xs ys:fq} {h f:fS} (z:A.length+12*xs.length*xs.length<=1000000) (hn:xs.length<=100) (j:ys.length=xs.length)
  (i:Ls ins v A xs h) (q:Ls ins v A ys f) :
  ∃e d b,(∀H:BC,ac pg 226 [fc (c.length+2) 0,LI xs,LI ys] (H.g c ins A)=some (LI d,(H.push b).g c ins e))/\Stp ins A e (12*xs.length*xs.length)/\Ls ins v e d (jn h 0 f (zB h.length)):=by
 obtain⟨u,_,_,_⟩:=dX k;obtain⟨e,d,b,o,x,m,w⟩:=zF c r hn ys [] f A (List.replicate xs.length 0) (zB xs.length) true k (by rw[j];omega) (by simp;omega) bh i (Ls.zeros u.1 _) q;rw[j] at m;refine⟨e,d,b,λH=>?_,m,by rw[i.len];exact w⟩;have l:=x H;simp only[bF,cF,cX,aR] at l;have t:bm pg q8y ⟨[(7,.sl o 1 (d.map I))],[],(H.push b).g c ins e⟩=fo ⟨[(6,LI d)],[],(H.push b).g c ins e⟩:=bg (by simp[q8y]);have p:=ky (n:=xs.length) aj (H.g c ins A);generalize (H.push b).g c ins e=y,H.g c ins A=B at *
 generalize (List.replicate xs.length (0:Int)).map I=a at *;refine ak (fn:=q59) (s:=⟨[(6,LI d)],[],y⟩) rfl rfl (bg ?J) ?Z
 case J=>simp[qdp,q59,p,l,t]
 case Z=>simp[ag,results,q59,ah,am,af]
end
end
section
attribute [local congr] bu
attribute [local simp] au
theorem ut {xs:fq} (h:xs.length<=1000000) (a:fB):ac pg 83 [LI xs] a=some (dz (xs.map I),a):=by have b:=MB;have:ac pg 83 [cr (xs.map I)] a=lx 1 8 [cr (xs.map I)] a:=rfl;rw[this,lx,if_pos ⟨rfl,by rw[aW];omega⟩]
theorem Ik (n:Nat):List.flatMap PV.cells (List.replicate n (PV.int .i64 0))=(List.replicate n (0:Int)).map I:=by
 induction n with
 |zero=>rfl
 |succ n a=>rw[List.replicate_succ,List.replicate_succ,cU,a];rfl
theorem Il {n:Nat} (h:n<=1000000) (a:fB):ac pg 392 [I (n:Int)] a=some (.bs true a.length 0 n 1,a++[.cells ((List.replicate n (0:Int)).map I)]):=by
 refine ak (fn:=q5n) (s:=⟨[(2,.bs true a.length 0 n 1)],[],a++[.cells ((List.replicate n (0:Int)).map I)]⟩) rfl rfl (bg ?J) ?Z
 case J=>
  have:=Ik n;simp[qe5,q5n,rC h,Int.toNat_natCast,this]
 case Z=>simp[ag,results,q5n,af]
def lT:fS->Bool->Bool
 |[],c=>c
 |b::l,c=>lT l (c&& !b)
theorem uv:∀(l:fS) (c:Bool),lT l c=(c&&decide (num l=0))
 |[],c=>by simp[lT,num]
 | b::l,c=>by
  rw[lT,uv l,num];cases b
  ·have:decide (0+2*num l=0)=decide (num l=0):=by congr 1;exact propext ⟨λh=>aj,λh=>aj⟩
   simp only[Bool.not_false,Bool.and_true,bR,if_false];rw[this]
  ·rw[aF (p:=(if true=true then 1 else 0)+2*num l=0) bh]
   simp
def qB (x y:fS):fS:=d9 (lT y true) ((zB x.length).map (!·)) (ovB x.length (y++[false]) x).2
def rB (x y:fS):fS:=d9 (lT y true) x ((ovB x.length (y++[false]) x).1.take x.length)
theorem Im {x y:fS} (h:y.length=x.length):(qB x y).length=x.length:=by
 unfold qB d9;split
 ·simp[zB]
 ·exact (ro (by simp[h]) x).2
theorem Io {x y:fS} (h:y.length=x.length):(rB x y).length=x.length:=by
 unfold rB d9;split
 ·rfl
 ·rw[cR,(ro (by simp[h]) x).1];omega
theorem Ip {x y:fS} (h:y.length=x.length):num (qB x y)=if num y=0 then 2^x.length-1 else num x/num y:=by
 unfold qB d9;rw[uv,Bool.true_and];by_cases a:num y=0
 ·rw[aG a,if_pos rfl,if_pos a]
  have:=oJ (zB x.length);rw[zB,iN,bM] at this;unfold zB;omega
 ·rw[aF a,if_neg a]
  exact (uj h aj x).2
theorem Iq {x y:fS} (h:y.length=x.length):num (rB x y)=if num y=0 then num x else num x%num y:=by
 unfold rB d9;rw[uv,Bool.true_and];by_cases a:num y=0
 ·rw[aG a,if_pos rfl,if_pos a]
 ·rw[aF a,if_neg a]
  have c:=(uj h aj x).1;have b:=cz y;have d:=Nat.mod_lt (num x) (show 0<num y by omega);rw[h] at b
  show num ((ovB x.length (y++[false]) x).1.take x.length)=_
  rw[Of,c,cV aj]
section
variable {pre:fB} {ins:Int} {v:fS}
theorem Ir {A:fN} {H:BC} {x y:GObj} {a:fB}:((H.push (x::a)).g pre ins A).set (pre.length+3+H.post.length) y=(H.push (y::a)).g pre ins A:=by unfold BC.g BC.push;rw[List.set_append_right _ _ aj,show pre.length+3+H.post.length-pre.length=H.post.length+3 by omega];simp
theorem Is {A:fN} {H:BC} {x:GObj} {a:fB}:((H.push (x::a)).g pre ins A)[pre.length+3+H.post.length]?=some x:=oU (by simp[BC.push])
theorem It {u t s q r:fB} {X Y a f S P:fw} {left:fw} {x c:Int} {n i b:Nat} {o:Bool} (v:i<n) (hn:n<=100) (y:X[i]?=some (I x)) (A:left.length=n+1) (p:f.length=n)
  (D:ac pg 232 [fc (pre.length+2) 0,cr (I x::left.take n),cr a] u=some (I c,t))
  (C:ac pg 221 [fc (pre.length+2) 0,cr (I x::left.take n),cr a] t=some (cr S,s))
  (B:ac pg 234 [fc (pre.length+2) 0,I (fa c),cr S,cr (I x::left.take n)] s=some (cr P,q))
  (w:q[b]?=some (.cells f)) (d:q.set b (.cells (f.set i (I (fa c))))=r) :
  evK pg q5a fiK ⟨[(0,(fc (pre.length+2) 0)),(1,(cr X)),(2,(cr Y)),(8,(.int .i64 n)),(9,(.sl o 1 left)),(10,(dz a)),(11,(.bs true b 0 n 1)),(12,(.int .i64 i))],[],u⟩=fg ⟨[(0,fc (pre.length+2) 0),(1,cr X),(2,cr Y),(8,I n),(9,cr P),(10,dz a),(11,.bs true b 0 n 1),(12,I ((i:Int)-1))],[],r⟩:=by
 have m:(0:Int)<=(i:Int):=aj;have E:WI.wrap ((i:Int)-1)=(i:Int)-1:=aq aj aj;have g:au f i [I (fa c)]=f.set i (I (fa c)):=by unfold au;rw[List.set_eq_take_append_cons_drop,if_pos aj];simp
 have k:(left.take n).length=n:=by rw[cR];omega
 have j:(n+1)*8<=maxBytes:=by have:=MB;omega
 have h:n<=n+1:=aj;have l:i+1<=n:=aj;have e:(1+n)*8<=maxBytes:=aj;generalize z:left.take n=T at *;simp[q5a,m,y,A,z,k,j,e,h,l,D,C,B,kx,v,w,p,g,d,E,-au]
theorem Ls.get:∀{xs:fq} {bs:fS} {A:fN} {k:Nat},Ls ins v A xs bs->k<xs.length->Lt ins v A (xs.getD k 0) (bs.getD k false)
 |_::_,_::_,_,0,h,_=>h.1
 |_::xs,_::bs,_,k+1,h,a=>Ls.get (xs:=xs) (bs:=bs) h.2 (by simpa using a)
theorem zG {α:Type} {d:α}:∀{l:List α} {k:Nat},k<l.length->l.drop k=l.getD k d::l.drop (k+1)
 |_::_,0,_=>rfl
 |_::l,k+1,h=>zG (l:=l) (by simpa using h)
theorem zH (pre:fB) (p:(v.length:Int)=ins) {xs ys wide:fq} {h l:fS} {n:Nat} (hn:n<=100) (w:xs.length=n) (r:wide.length=n+1):∀(k:Nat) (A:fN) (left b:fq) (a:fB) (o:Bool),k<=n->cq ins A=0->A.length+21*(n+1)*k<=1000000->left.length=n+1->k+b.length=n->
  Ls ins v A xs h->Ls ins v A wide l->Ls ins v A left (ovB n l (h.drop k)).1->Ls ins v A b (ovB n l (h.drop k)).2->
  ∃ C f m J' F,(∀H:BC,bm pg qdq ⟨[(0,fc (pre.length+2) 0),(1,LI xs),(2,LI ys),(8,I n),(9,.sl o 1 (left.map I)),(10,dz (wide.map I)),(11,.bs true (pre.length+3+H.post.length) 0 n 1),(12,I ((k:Int)-1))],[],(H.push (.cells ((List.replicate k 0++b).map I)::a)).g pre ins A⟩=
    fg ⟨[(0,fc (pre.length+2) 0),(1,LI xs),(2,LI ys),(8,I n),(9,.sl F 1 (f.map I)),(11,.bs true (pre.length+3+H.post.length) 0 n 1)],[],(H.push (.cells (m.map I)::J')).g pre ins C⟩)/\
   Stp ins A C (21*(n+1)*k)/\f.length=n+1/\m.length=n/\Ls ins v C f (ovB n l h).1/\Ls ins v C m (ovB n l h).2
 |0,A,left,b,a,o,_,R,_,P,ho,_,_,X,U=>by
  refine⟨A,left,b,a,o,λH=>?_,Stp.refl R,P,aj,X,U⟩;have O:¬(0:Int)<=((0:Nat):Int)-1:=aj;rw[List.replicate_zero,bF];refine (bn (s1:=?J) (bg ?Z)).trans ?Y
  case Z=>simp[q5a,aF O];rfl
  case Y=>simp[keep]
 | k+1,A,left,b,a,o,hk,R,hs,P,ho,M,hw,X,U=>by
  rw[Nat.mul_add,Nat.mul_one] at hs;have L:=M.get (k:=k) aj;have j:Ls ins v A (xs.getD k 0::left.take n) (h.getD k false::(ovB n l (h.drop (k+1))).1.take n):=⟨L,X.take n⟩
  have d:(xs.getD k 0::left.take n).length=n+1:=by simp;omega
  have aa:h.length=n:=by rw[M.len,w]
  have Q:h.drop k=h.getD k false::h.drop (k+1):=zG aj;obtain⟨A1,u,f1,s1,l1⟩:=ur pre p R (xs:=xs.getD k 0::left.take n) (ys:=wide) (by rw[d];omega) (by rw[d];omega) (by rw[d,r]) j hw;rw[d] at s1;have b1:=s1.2.1;obtain⟨A2,sb,f2,s,G⟩:=uq pre p s1.1 (xs:=xs.getD k 0::left.take n) (ys:=wide) (by rw[d];omega) (by rw[d];omega) (by rw[d,r]) (j.mono p s1) (hw.mono p s1);rw[d] at s;have b2:=s.2.1;have S:l.length=n+1:=by rw[hw.len,r]
  have q:sb.length=n+1:=by rw[<-G.len,rn (by rw[j.len,d,S]),j.len,d]
  obtain⟨A3,pk,f3,t,l3⟩:=Gh pre p s.1 (c:=fa u) (bc:= !iO (h.getD k false::(ovB n l (h.drop (k+1))).1.take n) l) (xs:=sb) (ys:=xs.getD k 0::left.take n) (by rw[q];omega) (by rw[q];omega) (by rw[q,d]) ((l1.not s1.1).mono p s) G (j.mono p (s1.trans s));rw[q] at t;have b3:=t.2.1;have z:=(s1.trans s).trans t
  have y:ovB n l (h.drop k)=(d9 (!iO (h.getD k false::(ovB n l (h.drop (k+1))).1.take n) l) (tp (h.getD k false::(ovB n l (h.drop (k+1))).1.take n) l) (h.getD k false::(ovB n l (h.drop (k+1))).1.take n),(!iO (h.getD k false::(ovB n l (h.drop (k+1))).1.take n) l)::(ovB n l (h.drop (k+1))).2):=by rw[Q,ovB,ovS]
  have N:pk.length=n+1:=by
   rw[<-l3.len];unfold d9;split
   ·rw[G.len,q]
   ·rw[j.len,d]
  obtain⟨A4,f,m,J',F,g1,g2,g3,g4,g5,g6⟩:=zH pre p (ys:=ys) hn w r k A3 pk (fa u::b) (a++pkJ pre (fa u)) false aj t.1 aj N (by simp;omega) (M.mono p z) (hw.mono p z) (by rw[y];exact l3) (by rw[y];exact⟨(l1.not s1.1).mono p (s.trans t),U.mono p z⟩);refine⟨A4,f,m,J',F,λH=>?_,(z.trans g2).mono (by have e:=Nat.mul_add (21*(n+1)) k 1;rw[Nat.mul_one] at e;omega),g3,g4,g5,g6⟩;have hX:(xs.map I)[k]?=some (I (xs.getD k 0)):=by rw[aB,aK,aA aj];rfl
  have eT:(xs.getD k 0::left.take n).map I=I (xs.getD k 0)::(left.map I).take n:=bh;have E:=f1 (H.push (.cells ((List.replicate (k+1) 0++b).map I)::a));have D:=f2 (H.push (.cells ((List.replicate (k+1) 0++b).map I)::a));have B:=f3 (H.push (.cells ((List.replicate (k+1) 0++b).map I)::a)) _ (.inl rfl);rw[Gb,bH] at B;unfold LI at E D B;rw[eT] at E D B;have T:((List.replicate (k+1) (0:Int)++b).map I).length=n:=by simp;omega
  have x:((List.replicate (k+1) (0:Int)++b).map I).set k (I (fa u))=(List.replicate k (0:Int)++fa u::b).map I:=by rw[List.replicate_succ',aT,bI,List.set_append_right _ _ bh,bI];simp
  have hb:=It (pre:=pre) (Y:=ys.map I) (o:=o) (i:=k) aj hn hX (by simpa using P) T E D B Is Ir;rw[x] at hb;rw[show (((k+1:Nat):Int)-1)=(k:Int) by omega];refine ay (bg hb) ?_;exact g1 H
theorem Iu {G g:fB} {V1 V9 Y:fw} {o9:Bool} {m0 o m j h d:PV} {b n k i l:Nat} {c y f:Int} (s:i<l) (hn:l<=1000) (p:Y[i]?=some (I y)) (e:G[pre.length+2]?=some (.cells [fc (pre.length+1) 0,m0,o,m,j,h,d]))
  (q:ac pg 49 [fc (pre.length+1) 0,I c,I (fa y)] G=some (I f,g)) :
  evK pg q5b fiK ⟨[(0,(fc (pre.length+2) 0)),(1,(cr V1)),(8,(.int .i64 n)),(9,(.sl o9 1 V9)),(11,(.bs true b 0 k 1)),(14,(.int .i64 c)),(61,(cr Y)),(62,(.int .i64 l)),(63,(.int .i64 i))],[],G⟩=fg ⟨[(0,fc (pre.length+2) 0),(1,cr V1),(8,I n),(9,.sl o9 1 V9),(11,.bs true b 0 k 1),(14,I f),(61,cr Y),(62,I l),(63,I ((i+1:Nat):Int))],[],g⟩:=by
 have a:(i:Int)<(l:Int):=aj;have r:=wrS' i aj;simp[q5b,a,p,e,kx,q,r]
theorem zI (e:fB) (o:(v.length:Int)=ins) {V1 V9:fw} {o9:Bool} {n k:Nat}:∀(d a:fq) (j:fS) (A:fN) (c:Int) (m:Bool),cq ins A=0->A.length+d.length<=1000000->a.length+d.length<=1000->Ls ins v A d j->Lt ins v A c m->
  ∃ q t,(∀(H:BC) (b:Nat),bm pg qdr ⟨[(0,fc (e.length+2) 0),(1,cr V1),(8,I n),(9,.sl o9 1 V9),(11,.bs true b 0 k 1),(14,I c),(61,LI (a++d)),(62,I ((a.length+d.length:Nat):Int)),(63,I (a.length:Int))],[],H.g e ins A⟩=
    fg ⟨[(0,fc (e.length+2) 0),(1,cr V1),(8,I n),(9,.sl o9 1 V9),(11,.bs true b 0 k 1),(14,I t)],[],H.g e ins q⟩)/\
   Stp ins A q d.length/\Lt ins v q t (lT j m)
 |[],a,[],A,c,m,h,_,_,_,f=>by
  refine⟨A,c,λH b=>?_,Stp.refl h,f⟩;have p:¬((a.length:Nat):Int)<((a.length+([]:fq).length:Nat):Int):=bh;refine (bn (s1:=?J) (bg ?Z)).trans ?Y
  case Z=>simp[q5b,p];rfl
  case Y=>simp[keep]
 |y::d,a,b::j,A,c,m,h,w,z,r,f=>by
  simp only[aV] at w z;obtain⟨N,L,F,s1,u⟩:=jT e o h aj f (r.1.not h);have O:=s1.2.1;obtain⟨M,G,E,D,C⟩:=zI e o d (a++[y]) j N L _ s1.1 aj (by simp;omega) (r.2.mono o s1) u;refine⟨M,G,λH b=>?_,(s1.trans D).mono (by simp only[aV];omega),C⟩;have B:=Iu (V1:=V1) (V9:=V9) (o9:=o9) (b:=b) (n:=n) (k:=k) (l:=a.length+(y::d).length) (i:=a.length) bh (by simp only[aV];omega) (get_at (rx:=d) (x:=y) rfl) jo (F H);refine ay (bg B) ?_;have s:=E H b
  rw[show (a++[y]).length+d.length=a.length+(y::d).length by simp;omega,show (a++[y]).length=a.length+1 by simp,aT a [y] d] at s;exact s
end
end
section
attribute [local congr] bu
attribute [local simp] au
section
variable {pre:fB} {ins:Int} {v:fS}
theorem Iv {G e d:fB} {V1 L Q R:fw} {o9:Bool} {b n:Nat} {c:Int} (hn:n<=1000) (h:L.length=n+1)
  (j:ac pg 234 [fc (pre.length+2) 0,I c,LI ((List.replicate n (0:Int)).map fa),.bs true b 0 n 1] G=some (cr Q,e))
  (i:ac pg 234 [fc (pre.length+2) 0,I c,cr V1,cr (L.take n)] e=some (cr R,d)) :
  bm pg q8z ⟨[(0,fc (pre.length+2) 0),(1,cr V1),(8,I n),(9,.sl o9 1 L),(11,.bs true b 0 n 1),(14,I c)],[],G⟩=fo ⟨[(6,cr Q),(7,cr R)],[],d⟩:=by
 have f:=ky (n:=n) aj G;have g:=rA (xs:=List.replicate n (0:Int)) (by simp;omega) G;have a:n<=n+1:=aj;refine bg ?_;generalize (List.replicate n (0:Int)).map fa=k at *;unfold LI at *;generalize (List.replicate n (0:Int)).map I=m,k.map I=l at *;simp[q8z,f,g,j,i,h,a]
theorem zJ (pre:fB) (f:(v.length:Int)=ins) {A:fN} (hc:cq ins A=0) {xs ys:fq} {y l:fS} (hs:A.length+21*(xs.length+1)*xs.length+7*xs.length<=1000000) (hn:xs.length<=100) (B:ys.length=xs.length)
  (N:Ls ins v A xs y) (G:Ls ins v A ys l) :
  ∃E q r a,(∀H:BC,ac pg 227 [fc (pre.length+2) 0,LI xs,LI ys] (H.g pre ins A)=some (.tup [LI q,LI r],(H.push a).g pre ins E))/\Stp ins A E (21*(xs.length+1)*xs.length+7*xs.length)/\Ls ins v E q (qB y l)/\Ls ins v E r (rB y l):=by
 obtain⟨C,_,_,_⟩:=dX hc;generalize e:xs.length=n at *;have x:y.length=n:=by rw[N.len,e]
 have aa:l.length=n:=by rw[G.len,B]
 have u:y.drop n=[]:=aM aj;have hw:Ls ins v A (ys++[0]) (l++[false]):=G.app ⟨oO C.1,trivial⟩;obtain⟨X,left,d,a,o,f1,z,g1,g2,l1,l2⟩:=zH pre f (ys:=ys) hn e (wide:=ys++[0]) (by simp;omega) n A (List.replicate (n+1) 0) [] [] true (cW _) hc aj bh bh N hw (by rw[u];exact Ls.zeros C.1 _) (by rw[u];trivial);have b1:=z.2.1;obtain⟨A2,c,f2,i,l3⟩:=zI pre f (V1:=xs.map I) (V9:=left.map I) (o9:=o) (n:=n) (k:=n) ys [] l X 1 true z.1 aj (by simp;omega) (G.mono f z) (oQ C.1);rw[B] at i;have b2:=i.2.1;have h:((List.replicate n (0:Int)).map fa).length=n:=bh
 obtain⟨A3,q,f3,j,l4⟩:=Gh pre f i.1 (c:=c) (xs:=(List.replicate n (0:Int)).map fa) (ys:=d) (by rw[h];omega) (by rw[h];omega) (by rw[h,g2]) l3 ((Ls.zeros C.1 n).not i.1) (l2.mono f i);rw[h] at j;have b3:=j.2.1;have t3:=(z.trans i).trans j;obtain⟨U,r,f4,F,l5⟩:=Gh pre f j.1 (c:=c) (xs:=xs) (ys:=left.take n) (by rw[e];omega) aj (by simp;omega) (l3.mono f j) (N.mono f t3) ((l1.mono f (i.trans j)).take n);rw[e] at F;refine⟨U,q,r,.cells (d.map I)::(a++pkJ pre c++pkJ pre c),λH=>?_,(t3.trans F).mono aj,?_,?_⟩
 ·have e1:=f1 H
  have e2:=f2 (H.push (.cells (d.map I)::a)) (pre.length+3+H.post.length);have D:=f3 (H.push (.cells (d.map I)::a)) (.bs true (pre.length+3+H.post.length) 0 d.length 1) (.inr ⟨H.post.length,rfl,by simp[BC.push]⟩);have T:=f4 ((H.push (.cells (d.map I)::a)).push (pkJ pre c)) (LI (left.take n)) (.inl rfl);rw[g2] at D;rw[Gb,Gb] at T;rw[Gb] at D;simp only[bH] at D T;have ek:=Iv (pre:=pre) (V1:=xs.map I) (L:=left.map I) (o9:=o) (b:=pre.length+3+H.post.length) (n:=n) (c:=c) aj (by simpa using g1) D (by rw[<-List.map_take];exact T);have p:=ky (n:=n+1) aj (H.g pre ins A)
  have m:=Il (n:=n) aj (H.g pre ins A);have w:=ut (xs:=ys) aj (H.g pre ins A);have O:(H.push [.cells ((List.replicate n (0:Int)).map I)]).g pre ins A=H.g pre ins A++[.cells ((List.replicate n (0:Int)).map I)]:=by simp[BC.push,BC.g]
  rw[rq,<-O] at m;rw[show ((n+1:Nat):Int)=(n:Int)+1 by omega] at p;have R:WI.wrap ((n:Int)+1)=(n:Int)+1:=aq aj aj;have Q:WI.wrap ((n:Int)-1)=(n:Int)-1:=aq aj aj;have P:(n+1)*8<=maxBytes:=by have:=MB;omega
  have t:(ys.map I).length=n:=by simpa using B
  have M:(xs.map I).length=n:=by simpa using e
  rw[bE,bI,bS,bU] at e1;simp only[bF,cF,cX,aR,B] at e2;have S:bm pg q90 ⟨[(0,fc (pre.length+2) 0),(1,LI xs),(2,LI ys),(8,I n),(9,.sl o 1 (left.map I)),(11,.bs true (pre.length+3+H.post.length) 0 n 1)],[],(H.push (.cells (d.map I)::a)).g pre ins X⟩=fo ⟨[(6,LI q),(7,LI r)],[],(H.push (.cells (d.map I)::(a++pkJ pre c++pkJ pre c))).g pre ins U⟩:=by refine bg ?_;unfold LI at *;generalize ys.map I=YS,xs.map I=XS,left.map I=LS at *;simp[q90,t,e2,ek]
  generalize pre.length+3+H.post.length=b,(H.push (.cells (d.map I)::(a++pkJ pre c++pkJ pre c))).g pre ins U=G4,(H.push (.cells (d.map I)::a)).g pre ins X=G1,(H.push [.cells ((List.replicate n (0:Int)).map I)]).g pre ins A=ab,H.g pre ins A=G0 at *;refine ak (fn:=q5c) (s:=⟨[(6,LI q),(7,LI r)],[],G4⟩) rfl rfl (bg ?J) ?Z
  case J=>
   unfold LI at *;generalize ys.map I=YS,xs.map I=XS,left.map I=LS,(List.replicate (n+1) (0:Int)).map I=Z1 at *;simp[qds,q5c,M,t,R,Q,p,w,m,P,e1,S]
  case Z=>simp[ag,results,q5c,ah,am,af]
 ·unfold qB
  rw[x];exact l4.mono f F
 ·unfold rB
  rw[x];exact l5
theorem Iw {b:fq} {m:Nat} (r:b.length<=1000) (j:m<=b.length) (d:fB):ac pg 228 [LI b,I (m:Int)] d=some (LI (List.replicate m 0++b.take (b.length-m)),d):=by
 have i:=ky (n:=m) aj d;have o:WI.wrap ((b.length:Int)-(m:Int))=((b.length-m:Nat):Int):=by rw[aq aj aj];omega
 have g:(m+(b.length-m))*8<=maxBytes:=by have:=MB;omega
 have c:b.length*8<=maxBytes:=by have:=MB;omega
 have h:=fZ (List.replicate m 0++b.take (b.length-m));have p:(List.replicate m 0++b.take (b.length-m)).map I=(List.replicate m (0:Int)).map I++(b.map I).take (b.length-m):=bh;have hr:((List.replicate m (0:Int)).map I).length=m:=bh;have f:(b.map I).length=b.length:=bh;have e:((b.map I).take (b.length-m)).length=b.length-m:=bh;unfold LI;rw[p] at h ⊢;generalize (List.replicate m (0:Int)).map I=a,b.map I=X at *;generalize l:X.take (b.length-m)=q at *;have k:b.length-m<=b.length:=aj;refine ak (fn:=q5d) (s:=⟨[(4,dz (a++q))],[],d⟩) rfl rfl (bg ?J) ?Z
 case J=>simp[qdt,q5d,i,o,f,l,hr,e,g,c,j]
 case Z=>simp[ag,results,q5d,ah,am,af,h]
theorem Ix {xs:fq} {m:Nat} (q:xs.length<=1000) (k:m<=xs.length) (c:fB):ac pg 230 [LI xs,I (m:Int)] c=some (LI (xs.drop m++List.replicate m 0),c):=by
 have j:=ky (n:=m) aj c;have h:=ut (xs:=xs.drop m) (by simp;omega) c;have g:(xs.length-m+m)*8<=maxBytes:=by have:=MB;omega
 have b:xs.length*8<=maxBytes:=by have:=MB;omega
 have i:=fZ (xs.drop m++List.replicate m 0);have o:(xs.drop m++List.replicate m 0).map I=(xs.drop m).map I++(List.replicate m (0:Int)).map I:=bh;have hr:((List.replicate m (0:Int)).map I).length=m:=bh;have e:(xs.map I).length=xs.length:=bh;have d:((xs.drop m).map I).length=xs.length-m:=bh;have l:(xs.map I).drop m=(xs.drop m).map I:=bh;have f:(xs.map I).take xs.length=xs.map I:=bK aj;unfold LI at *;rw[o] at i ⊢;generalize (List.replicate m (0:Int)).map I=a,(xs.drop m).map I=p,xs.map I=X at *
 refine ak (fn:=q5f) (s:=⟨[(4,dz (p++a))],[],c⟩) rfl rfl (bg ?J) ?Z
 case J=>simp[qdw,q5f,j,h,e,l,f,hr,d,g,b,k]
 case Z=>simp[ag,results,q5f,ah,am,af,i]
theorem zK {b:Int} {w:Nat} (hw:w<=1000) (f:fB):∀(k:Nat) (a:fq) (o:Bool),a.length+k=w->
  bm pg qe0 ⟨[(0,dz (a.map I)),(1,I (w:Int)),(2,I b)],[],f⟩=fg ⟨[(0,dz ((a++List.replicate k b).map I))],[],f⟩
 |0,a,o,h=>by
  have e:¬a.length<w:=aj;have c:(a.map I).length=a.length:=bh;rw[List.replicate_zero,bE];generalize a.map I=X at *;refine (bn (s1:=?J) (bg ?Z)).trans ?Y
  case Z=>simp[q95,c,e];rfl
  case Y=>simp[keep]
 | k+1,a,o,h=>by
  have e:((a.length:Nat):Int)<(w:Int):=aj;have c:(a.map I).length=a.length:=bh;have g:(a.length+1)*8<=maxBytes:=by have:=MB;omega
  have d:a.length<w:=aj;have i:=zK (b:=b) hw f k (a++[b]) o (by simp;omega);rw[aT,show [b]++List.replicate k b=List.replicate (k+1) b by rw[List.replicate_succ];rfl,bI (l₁:=a) (l₂:=[b])] at i;refine ay (s1:=⟨[(0,dz (a.map I++[b].map I)),(1,I (w:Int)),(2,I b)],[],f⟩) (bg ?K) i
  case K=>
   generalize a.map I=X at *;simp[q95,c,d,g]
theorem zL {xs:fq} {w:Nat} {b:Int} (hw:w<=1000) (g:xs.length<=w) (a:fB):ac pg 235 [LI xs,I (w:Int),I b] a=some (LI (xs++List.replicate (w-xs.length) b),a):=by
 have f:=zK (b:=b) hw a (w-xs.length) xs true aj;have c:=ut (xs:=xs) aj a;have e:=fZ (xs++List.replicate (w-xs.length) b);unfold LI at *;generalize (xs++List.replicate (w-xs.length) b).map I=R,xs.map I=X at *;have d:bm pg q96 ⟨[(0,dz R)],[],a⟩=fo ⟨[(6,cr R)],[],a⟩:=bg (by simp[q96]);refine ak (fn:=q5j) (s:=⟨[(6,cr R)],[],a⟩) rfl rfl (bg ?J) ?Z
 case J=>simp[qe1,q5j,c,f,d]
 case Z=>simp[ag,results,q5j,ah,am,af,e]
theorem zM {xs:fq} {n:Nat} (hn:xs.length=n+1) (t:n<=1000) (a:fB):ac pg 233 [LI xs] a=some (LI (xs.set n (fa (xs.getD n 0))),a):=by
 have r:=MB;have e:xs.map I≠[]:=by intro h;have:=congrArg List.length h;simp at this;subst this;simp at hn
 have i:(xs.map I).all co=true:=by rw[bV];intro v o;obtain⟨n,-,rfl⟩:=List.mem_map.1 o;rfl
 have j:ac pg 121 [cr (xs.map I)] a=some (.stk a.length 1 (n+1),a++[.stk 1 (xs.map I)]):=by have:ac pg 121 [cr (xs.map I)] a=gQ 8 [cr (xs.map I)] a:=rfl;rw[this,gQ,if_neg (by simpa using e),if_pos ⟨rfl,by rw[aW];omega,i⟩,aW,hn]
 have u:WI.wrap ((n:Int)+1-1)=(n:Int):=by rw[show (n:Int)+1-1=n by omega];exact aq aj aj
 have k:WI.wrap (n:Int)=(n:Int):=aq aj aj;have l:(xs.map I)[n]?=some (I (xs.getD n 0)):=by rw[aB,aK,aA aj];rfl
 have c:((xs.map I).set n (I (fa (xs.getD n 0))))=(xs.set n (fa (xs.getD n 0))).map I:=by rw[List.map_set]
 have m:=fZ (xs.set n (fa (xs.getD n 0)));have b:(xs.map I).length=n+1:=by simpa using hn
 have d:((xs.set n (fa (xs.getD n 0))).map I).length=n+1:=by simpa using hn
 unfold LI;rw[<-c] at m d ⊢;generalize xs.map I=X,xs.getD n 0=y at *;have p:j6 (a++[.stk 1 X]) a.length 1 n=some (I y):=by simp[j6,l]
 have f:(n:Int)<(n:Int)+1:=aj;have g:∀Y:fw,(a++[GObj.stk 1 Y])[a.length]?=some (.stk 1 Y):=λY=>bh
 refine ak (fn:=q5i) (s:=⟨[(2,.stk a.length 1 (n+1))],[],a++[.stk 1 (X.set n (I (fa y)))]⟩) rfl rfl (bg ?J) ?Z
 case J=>simp[qdz,q5i,j,k,g,l,f,kx,b,co,List.getElem?_cons_zero,-getElem?_pos]
 case Z=>
  have q:frz a.length (a++[.stk 1 (X.set n (I (fa y)))]) (.stk a.length 1 (n+1))= cr (X.set n (I (fa y))):=by rw[Gf (xs:=X.set n (I (fa y))) bh (cW _) aj,bK aj]
  generalize X.set n (I (fa y))=w at *;simp[ag,results,q5i,ah,am,af,q,m]
end
end
section
variable {a w0 w1 w2:Int} {xs:fq} {gh:fB}
attribute [local congr] bu
attribute [local simp] au
structure Nd where
 k:Int
 w:Int
 a:Int
 b:Int
 c:Int
 n:Int
 deriving Inhabited
def nodeV (x:Nd):PV:= .agg [I x.k,I x.w,I x.a,I x.b,I x.c,I x.n]
@[simp] theorem nodeV_a (x : Nd) : az (nodeV x) = true := (rfl)
@[simp] theorem nodeV_d (x : Nd) : degr (nodeV x) = nodeV x := (rfl)
@[simp] theorem nodeV_e (x : Nd) : aw (nodeV x) = nodeV x := (rfl)
@[simp] theorem nodeV_c (x : Nd) : (nodeV x).cells = [I x.k, I x.w, I x.a, I x.b, I x.c, I x.n] := (rfl)
theorem dT (x:Nd):nodeV x= .agg [I x.k,I x.w,I x.a,I x.b,I x.c,I x.n]:=rfl
abbrev LN (l:List Nd):PV:= .sl false 6 (l.map nodeV)
theorem gD (k:Int):ar k=0\/ar k=1\/ar k=2\/ar k=3:=by
 unfold ar
 repeat' split
 all_goals simp
theorem zN {k:Int} (h:1<=k/\k<=3):ar k=0:=by unfold ar;rw[if_pos aj]
def dG (x:Nd):fq:=[x.a,x.b,x.c].take (ar x.k).toNat
theorem uw (x:Nd) (b:fB):ac pg 81 [nodeV x] b=some (LI (dG x),b):=by
 unfold nodeV dG;have a:=iq x.k b;rcases gD x.k with h|h|h|h<;>rw[h] at a ⊢
 ·refine ak (fn:=qt) (s:=?J) rfl rfl (bg ?Z) ?Y
  case Z=>simp[q3z,qt,a];rfl
  case Y=>simp[ag,results,qt,af,get]
 ·refine ak (fn:=qt) (s:=?K) rfl rfl (bg ?V) ?W
  case V=>simp[q3z,qt,a];rfl
  case W=>simp[ag,results,qt,af,get]
 ·refine ak (fn:=qt) (s:=?Ja) rfl rfl (bg ?Jb) ?Jc
  case Jb=>simp[q3z,qt,a];rfl
  case Jc=>simp[ag,results,qt,af,get]
 ·refine ak (fn:=qt) (s:=?Jd) rfl rfl (bg ?Je) ?Jf
  case Je=>simp[q3z,qt,a];rfl
  case Jf=>simp[ag,results,qt,af,get]
theorem Iy (k:Int) (a:fB):ac pg 103 [I k] a=some (B (decide (1<=k/\k<=3)),a):=by
 by_cases h:1<=k
 ·refine ak (fn:=q2d) (s:=?J) rfl rfl (bg ?Z) ?Y
  case Z=>simp[qa5,q2d,h];rfl
  case Y=>simp[ag,results,q2d,ah,am,af,h]
 ·refine ak (fn:=q2d) (s:=?K) rfl rfl (bg ?V) ?W
  case V=>simp[qa5,q2d,h];rfl
  case W=>simp[ag,results,q2d,ah,am,af,h]
def wAt (l:List Nd) (a:Int):Int:=(l.getD a.toNat default).w
def c8 (l:List Nd) (a:Int):Prop:=0<=a/\a.toNat<l.length
instance (l:List Nd) (a:Int):Decidable (c8 l a):=inferInstanceAs (Decidable (_/\_))
theorem iP {l:List Nd} (h:c8 l a):(l.map nodeV)[a.toNat]?=some (nodeV (l.getD a.toNat default)):=by rw[aB,aA h.2];simp[aK,aA h.2]
def nc (l:List Nd) (x:Nd) (g f e:Int) (d:fq) (i:Int) (h:fB):St:=
 ⟨[(0,LN l),(4,eK),(5,eU),(9,LI d),(10,I d.length),(11,I i)],[[I x.k,I x.w,I x.a,I x.b,I x.c,I x.n],[I 0,I 0,I 0],[I g,I f,I e]],h⟩
attribute [local simp] nc
theorem nd {l:List Nd} {x:Nd} {i:Int} (p:i=0\/i=1\/i=2) (g:xs[i.toNat]?=some a) (ha:c8 l a) :
  evK pg q3d fiK ⟨[(0,(LN l)),(4,(eK)),(5,(eU)),(9,(LI xs)),(10,(.int .i64 xs.length)),(11,(.int .i64 i))],[[(.int .i64 x.k),(.int .i64 x.w),(.int .i64 x.a),(.int .i64 x.b),(.int .i64 x.c),(.int .i64 x.n)],[(.int .i64 0),(.int .i64 0),(.int .i64 0)],[(.int .i64 w0),(.int .i64 w1),(.int .i64 w2)]],gh⟩=
   some (.normal,nc l x (if i=0 then wAt l a else w0) (if i=1 then wAt l a else w1) (if i=2 then wAt l a else w2) xs (i+1) gh):=by
 have o:=(aD.1 g).1;have e:i<(xs.length:Int):=aj;have m:(xs.map I)[i.toNat]?=some (I a):=by rw[aB,g];rfl
 have hn:=iP ha;have j:=ha.1;have hw:WI.wrap (i+1)=i+1:=aq aj aj;generalize q:l.getD a.toNat default=d at hn;have h:wAt l a=d.w:=by unfold wAt;rw[q]
 rw[h];rw[dT d] at hn;unfold nc;have r:0<xs.length:=aj;rcases p with rfl|rfl|rfl
 ·have s:xs[0]=a:=(aD.1 g).2
  rw[Int.zero_add] at hw;simp[q3d,r,s,hn,j,hw,au,-List.getElem?_map]
 ·have f:(xs.map I)[1]?=some (I a):=m
  simp[q3d,e,f,hn,j,au,-List.getElem?_map];exact hw
 ·have f:(xs.map I)[2]?=some (I a):=m
  simp[q3d,e,f,hn,j,au,-List.getElem?_map];exact hw
def wdJ (l:List Nd) (k j a:Int):Int:=if j<ar k then wAt l a else 0
structure oV (l:List Nd) (x:Nd):Prop where
 a:0<ar x.k->c8 l x.a
 b:1<ar x.k->c8 l x.b
 c:2<ar x.k->c8 l x.c
def gV (l:List Nd) (x:Nd):PV:= .agg [I (wdJ l x.k 0 x.a),I (wdJ l x.k 1 x.b),I (wdJ l x.k 2 x.c)]
@[simp] theorem widthsV_a (l : List Nd) (x : Nd) : az (gV l x) = true := (rfl)
@[simp] theorem widthsV_d (l : List Nd) (x : Nd) : degr (gV l x) = gV l x := (rfl)
@[simp] theorem widthsV_e (l : List Nd) (x : Nd) : aw (gV l x) = gV l x := (rfl)
@[simp] theorem widthsV_c (l : List Nd) (x : Nd) : (gV l x).cells = [I (wdJ l x.k 0 x.a), I (wdJ l x.k 1 x.b), I (wdJ l x.k 2 x.c)] := (rfl)
theorem rE {l:List Nd} {x:Nd}:bm pg qa6 (nc l x w0 w1 w2 xs xs.length gh)=
  fg ⟨[(4,eK),(5,eU)],[[I x.k,I x.w,I x.a,I x.b,I x.c,I x.n],[I 0,I 0,I 0],[I w0,I w1,I w2]],gh⟩:=by
 refine (bn (s1:=?J) (bg ?Z)).trans ?Y
 case Z=>simp[q3d];rfl
 case Y=>simp[keep,bj]
theorem Iz {l:List Nd} {x:Nd} (h:oV l x):bm pg qa6 (nc l x 0 0 0 (dG x) 0 gh)=
  fg ⟨[(4,eK),(5,eU)],[[I x.k,I x.w,I x.a,I x.b,I x.c,I x.n],[I 0,I 0,I 0],[I (wdJ l x.k 0 x.a),I (wdJ l x.k 1 x.b),I (wdJ l x.k 2 x.c)]],gh⟩:=by
 unfold dG wdJ;rcases gD x.k with d|d|d|d<;>rw[d]
 ·exact rE (xs:=[])
 ·refine ay (bg (nd (a:=x.a) (.inl rfl) rfl (h.a aj))) ?_
  exact rE (xs:=[x.a])
 ·refine ay (bg (nd (a:=x.a) (.inl rfl) rfl (h.a aj))) ?_
  refine ay (bg (nd (a:=x.b) (.inr (.inl rfl)) rfl (h.b aj))) ?_;exact rE (xs:=[x.a,x.b])
 ·refine ay (bg (nd (a:=x.a) (.inl rfl) rfl (h.a aj))) ?_
  refine ay (bg (nd (a:=x.b) (.inr (.inl rfl)) rfl (h.b aj))) ?_;refine ay (bg (nd (a:=x.c) (.inr (.inr rfl)) rfl (h.c aj))) ?_;exact rE (xs:=[x.a,x.b,x.c])
theorem zO {l:List Nd} {x:Nd} (h:oV l x):ac pg 104 [LN l,nodeV x] gh=some (gV l x,gh):=by
 have f:=uw x gh;have e:=Iz (gh:=gh) h;unfold nc at e;have g:=bg (c:=qa7) (s:=⟨[(4,(eK)),(5,(eU))],[[(.int .i64 x.k),(.int .i64 x.w),(.int .i64 x.a),(.int .i64 x.b),(.int .i64 x.c),(.int .i64 x.n)],[(.int .i64 0),(.int .i64 0),(.int .i64 0)],[(.int .i64 (wdJ l x.k 0 x.a)),(.int .i64 (wdJ l x.k 1 x.b)),(.int .i64 (wdJ l x.k 2 x.c))]],gh⟩) (pg:=pg) (by simp[qa7]<;>rfl);unfold nodeV at f;have d:((dG x).map I).length=(dG x).length:=bh;refine ak (fn:=q6p) (s:=?J) rfl rfl (bg ?Z) ?Y
 case Z=>simp[qez,q6p,f,e,g];rfl
 case Y=>simp[ag,results,q6p,ah,am,St.cellsAt,af,gV]
theorem IA {l:List Nd} {x:Nd} (h:oV l x):ac pg 102 [LN l,nodeV x] gh=some (gV l x,gh):=by
 have o:=gp x.k gh
 have i:∀(w0 w1 w2:Int),bm pg q7a ⟨[(4,eK),(5,eU)],[[I x.k,I x.w,I x.a,I x.b,I x.c,I x.n],[I 0,I 0,I 0],[I w0,I w1,I w2]],gh⟩=
   fo ⟨[(4,eK)],[[I x.k,I x.w,I x.a,I x.b,I x.c,I x.n],[I w0,I w1,I w2]],gh⟩:=λw0 w1 w2=>bg (c:=q7a) (s:=⟨[(4,(eK)),(5,(eU))],[[(.int .i64 _),(.int .i64 _),(.int .i64 _),(.int .i64 _),(.int .i64 _),(.int .i64 _)],[(.int .i64 _),(.int .i64 _),(.int .i64 _)],[(.int .i64 _),(.int .i64 _),(.int .i64 _)]],_⟩) (by simp[q7a]<;>rfl)
 have j:∀(w0 w1:Int),bm pg q7b ⟨[(0,LN l),(3,ec),(4,eK),(5,eU),(6,I (ar x.k))],[[I x.k,I x.w,I x.a,I x.b,I x.c,I x.n],[I 0,I 0,I 0],[I w0,I w1,I 0]],gh⟩=
   fo ⟨[(4,eK)],[[I x.k,I x.w,I x.a,I x.b,I x.c,I x.n],[I w0,I w1,I (wdJ l x.k 2 x.c)]],gh⟩:=λw0 w1=>by
  refine bg ?_;unfold wdJ;by_cases f:2<ar x.k
  ·have hn:=iP (h.c f)
   have g:=(h.c f).1;unfold wAt;generalize l.getD x.c.toNat default=d at *;rw[dT d] at hn;simp[q7b,f,hn,g,i,-List.getElem?_map]
  ·simp[q7b,f,i]
 have m:∀(w0:Int),bm pg q7c ⟨[(0,LN l),(3,ec),(4,eK),(5,eU),(6,I (ar x.k))],[[I x.k,I x.w,I x.a,I x.b,I x.c,I x.n],[I 0,I 0,I 0],[I w0,I 0,I 0]],gh⟩=
   fo ⟨[(4,eK)],[[I x.k,I x.w,I x.a,I x.b,I x.c,I x.n],[I w0,I (wdJ l x.k 1 x.b),I (wdJ l x.k 2 x.c)]],gh⟩:=λw0=>by
  refine bg ?_;by_cases f:1<ar x.k
  ·have hn:=iP (h.b f)
   have g:=(h.b f).1;have e:wdJ l x.k 1 x.b=(l.getD x.b.toNat default).w:=by unfold wdJ wAt;rw[if_pos f]
   rw[e];generalize l.getD x.b.toNat default=d at *;rw[dT d] at hn;simp[q7c,f,hn,g,j,-List.getElem?_map]
  ·have e:wdJ l x.k 1 x.b=0:=by unfold wdJ;rw[if_neg f]
   rw[e];simp[q7c,f,j]
 unfold gV;refine ak (fn:=q48) (s:=⟨[(4,eK)],[[I x.k,I x.w,I x.a,I x.b,I x.c,I x.n],[I (wdJ l x.k 0 x.a),I (wdJ l x.k 1 x.b),I (wdJ l x.k 2 x.c)]],gh⟩) rfl rfl (bg ?J) ?Z
 case J=>
  by_cases f:0<ar x.k
  ·have hn:=iP (h.a f)
   have g:=(h.a f).1;have e:wdJ l x.k 0 x.a=(l.getD x.a.toNat default).w:=by unfold wdJ wAt;rw[if_pos f]
   rw[e];generalize l.getD x.a.toNat default=d at *;rw[dT d] at hn;simp[qb5,q48,o,f,hn,g,m,-List.getElem?_map]
  ·have e:wdJ l x.k 0 x.a=0:=by unfold wdJ;rw[if_neg f]
   rw[e];simp[qb5,q48,o,f,m]
 case Z=>simp[ag,results,q48,ah,am,St.cellsAt,af]
end
section
variable {idx:Nat} {j a:Int}
attribute [local congr] bu
attribute [local simp] au
def eV (b k j a:Int):Prop:=if j<ar k then a<0\/b<=a else a≠0
instance (b k j a:Int):Decidable (eV b k j a):=inferInstanceAs (Decidable (if j<ar k then a<0\/b<=a else a≠0))
def gW (d:Int) (x:Nd):Prop:=eV d x.k 0 x.a\/eV d x.k 1 x.b\/eV d x.k 2 x.c
instance (a:Int) (x:Nd):Decidable (gW a x):=inferInstanceAs (Decidable (_\/_))
def eA (l:List Nd) (d:Int) (x:Nd):Int:=
 if x.k<1\/24<=x.k then 7 else if ¬(1<=x.w/\x.w<=8) then 3
 else if x.k<=3 then (if x.k=1/\¬(0<=x.n/\x.n<((2^x.w.toNat:Nat):Int)) then 3 else if (x.k≠1/\x.n≠0)\/x.a≠0\/x.b≠0\/x.c≠0 then 1 else 0)
 else if gW d x then 4 else ir x.k x.w x.n (wdJ l x.k 0 x.a) (wdJ l x.k 1 x.b) (wdJ l x.k 2 x.c)
theorem ux {l:List Nd} {x:Nd} (d:idx<=l.length) (h:¬gW idx x):oV l x:=by
 unfold gW eV at h;simp only[not_or] at h;obtain⟨c,b,a⟩:=h;refine⟨λq=>?_,λq=>?_,λq=>?_⟩
 ·rw[if_pos q] at c
  exact⟨aj,aj⟩
 ·rw[if_pos q] at b
  exact⟨aj,aj⟩
 ·rw[if_pos q] at a
  exact⟨aj,aj⟩
section
variable {l:List Nd} {x:Nd} {gh:fB}
def ne (l:List Nd) (d:Int) (x:Nd) (j:Int) (e:fB):St:=
 ⟨[(0,LN l),(1,I d),(5,ec),(67,dz [I x.a,I x.b,I x.c]),(68,I 3),(69,I j)],[[I x.k,I x.w,I x.a,I x.b,I x.c,I x.n]],e⟩
attribute [local simp] ne
theorem uy {idx:Int} (g:(j=0/\a=x.a)\/(j=1/\a=x.b)\/(j=2/\a=x.c)) :
  evK pg q1q fiK ⟨[(0,(LN l)),(1,(.int .i64 idx)),(5,(ec)),(67,(dz [I x.a,I x.b,I x.c])),(68,(.int .i64 3)),(69,(.int .i64 j))],[[(.int .i64 x.k),(.int .i64 x.w),(.int .i64 x.a),(.int .i64 x.b),(.int .i64 x.c),(.int .i64 x.n)]],gh⟩=if eV idx x.k j a then fo ⟨[(4,I 4)],[],gh⟩ else some (.normal,ne l idx x (j+1) gh):=by
 have hw:(WI.wrap (j+1))=j+1:=aq aj aj;by_cases d:j<ar x.k
 ·have e:=Int.not_le.2 d
  by_cases i:a<0
  ·rw[if_pos (by unfold eV;rw[if_pos d];exact .inl i)]
   rcases g with ⟨rfl,rfl⟩|⟨rfl,rfl⟩|⟨rfl,rfl⟩<;>simp[q1q,iq,d,i]
  ·by_cases f:idx<=a
   ·rw[if_pos (by unfold eV;rw[if_pos d];exact .inr f)]
    rcases g with ⟨rfl,rfl⟩|⟨rfl,rfl⟩|⟨rfl,rfl⟩<;>simp[q1q,iq,d,i,f]
   ·rw[if_neg (by unfold eV;rw[if_pos d];rintro (h|h)<;>contradiction)]
    unfold ne;rcases g with ⟨rfl,rfl⟩|⟨rfl,rfl⟩|⟨rfl,rfl⟩<;>simp[q1q,iq,d,e,i,f]<;>exact hw
 ·have e:=Int.not_lt.1 d
  by_cases f:a=0
  ·rw[if_neg (by unfold eV;rw[if_neg d];exact λh=>h f)]
   unfold ne;rcases g with ⟨rfl,rfl⟩|⟨rfl,rfl⟩|⟨rfl,rfl⟩<;>simp[q1q,iq,d,e,f]<;>exact hw
  ·rw[if_pos (by unfold eV;rw[if_neg d];exact f)]
   rcases g with ⟨rfl,rfl⟩|⟨rfl,rfl⟩|⟨rfl,rfl⟩<;>simp[q1q,iq,d,e,f]
theorem IB {idx:Int}:bm pg qeq (ne l idx x 0 gh)=
  if gW idx x then fo ⟨[(4,I 4)],[],gh⟩ else fg ⟨[(0,LN l),(5,ec)],[[I x.k,I x.w,I x.a,I x.b,I x.c,I x.n]],gh⟩:=by
 have f:=uy (l:=l) (x:=x) (gh:=gh) (idx:=idx) (j:=0) (a:=x.a) bh;have e:=uy (l:=l) (x:=x) (gh:=gh) (idx:=idx) (j:=1) (a:=x.b) bh;have d:=uy (l:=l) (x:=x) (gh:=gh) (idx:=idx) (j:=2) (a:=x.c) bh;by_cases m:eV idx x.k 0 x.a
 ·rw[if_pos m] at f
  rw[if_pos (.inl m)];exact cx (bg f)
 rw[if_neg m] at f;refine ay (bg f) ?_;by_cases i:eV idx x.k 1 x.b
 ·rw[if_pos i] at e
  rw[if_pos (.inr (.inl i))];exact cx (bg e)
 rw[if_neg i] at e;refine ay (bg e) ?_;by_cases g:eV idx x.k 2 x.c
 ·rw[if_pos g] at d
  rw[if_pos (.inr (.inr g))];exact cx (bg d)
 rw[if_neg g] at d;refine ay (bg d) ?_;rw[if_neg (by rintro (h|h|h)<;>contradiction)];refine (bn (s1:=?J) (bg ?Z)).trans ?Y
 case Z=>simp[q1q];rfl
 case Y=>simp[keep,bj]
theorem IC (h:idx<=l.length) (b:Bool):bm pg q6e ⟨[(0,LN l),(1,I idx),(5,ec),(26,B b)],[[I x.k,I x.w,I x.a,I x.b,I x.c,I x.n]],gh⟩=
  fo ⟨[(4,I (if gW idx x then 4 else ir x.k x.w x.n (wdJ l x.k 0 x.a) (wdJ l x.k 1 x.b) (wdJ l x.k 2 x.c)))],[],gh⟩:=by
 refine bg ?_;have d:=IB (l:=l) (x:=x) (gh:=gh) (idx:=idx);unfold ne at d;by_cases e:gW idx x
 ·rw[if_pos e] at d
  simp[q6e,d,e]
 ·rw[if_neg e] at d
  have f:=zO (gh:=gh) (ux h e);have i:=GY x.k x.w x.n (wdJ l x.k 0 x.a) (wdJ l x.k 1 x.b) (wdJ l x.k 2 x.c) gh;unfold gV at f;rw[dT x] at f;have g:=bg (c:=q9u) (s:=⟨[(0,(LN l)),(5,(ec))],[[(.int .i64 x.k),(.int .i64 x.w),(.int .i64 x.a),(.int .i64 x.b),(.int .i64 x.c),(.int .i64 x.n)]],gh⟩) (r:=fo ⟨[(4,I (ir x.k x.w x.n (wdJ l x.k 0 x.a) (wdJ l x.k 1 x.b) (wdJ l x.k 2 x.c)))],[],gh⟩) (pg:=pg) (by simp[q9u,f,i]);simp[q6e,d,e,g]
theorem ID {w:Int} (h:1<=w/\w<=8):eR .i64 1 w=((2^w.toNat:Nat):Int):=by obtain⟨b,a⟩:=h;have:w=1\/w=2\/w=3\/w=4\/w=5\/w=6\/w=7\/w=8:=aj;rcases this with rfl|rfl|rfl|rfl|rfl|rfl|rfl|rfl<;>decide +kernel
theorem IE (z:l[idx]?=some x):ac pg 76 [LN l,I idx] gh=some (I (eA l idx x),gh):=by
 have C:=(aD.1 z).1;have e:(l.map nodeV)[idx]?=some (nodeV x):=by rw[aB,z];rfl
 rw[dT x] at e;have A:=IC (l:=l) (x:=x) (gh:=gh) (idx:=idx) aj;have hw:=kY x.w gh;have d:=Iy x.k gh;have f:bm pg q2c ⟨[(39,B true)],[],gh⟩=fo ⟨[(4,I 1)],[],gh⟩:=bg (c:=q2c) (s:=⟨[(39,(.bool _))],[],_⟩) (by simp[q2c]<;>rfl);have t:bm pg q2c ⟨[(39,B false)],[],gh⟩=fg ⟨[(39,B false)],[],gh⟩:=bg (c:=q2c) (s:=⟨[(39,(.bool _))],[],_⟩) (by simp[q2c]<;>rfl);have y:bm pg q6d ⟨[(39,B false)],[],gh⟩=fo ⟨[(4,I 0)],[],gh⟩:=bg (c:=q6d) (s:=⟨[(39,(.bool _))],[],_⟩) (by simp[q6d]<;>rfl);unfold eA;refine ak (fn:=qd) (s:=⟨[(4,I (eA l idx x))],[],gh⟩) rfl rfl (bg ?J) ?Z
 case Z=>simp[ag,results,qd,ah,am,af,eA]
 case J=>
  unfold eA;by_cases j:x.k<1
  ·simp[qn,qd,e,j,-List.getElem?_map]
  by_cases p:24<=x.k
  ·simp[qn,qd,e,j,p,-List.getElem?_map]
  by_cases g:1<=x.w/\x.w<=8
  ·rw [aG g] at hw
   by_cases o:x.k<=3
   ·rw [aG ⟨aj,o⟩] at d
    by_cases i:x.k=1
    ·have m:=HC x.n x.w aj gh
     rw[ID g] at m;generalize ((2^x.w.toNat:Nat):Int)=T at *;by_cases r:0<=x.n/\x.n<T
     ·rw[aG r] at m
      rw[i] at e d;by_cases ha:x.a=0
      ·by_cases q:x.b=0
       ·by_cases u:x.c=0
        ·simp[qn,qd,e,g,hw,d,i,m,r,ha,q,u,t,y,-List.getElem?_map]
        ·simp[qn,qd,e,g,hw,d,i,m,r,ha,q,u,f,-List.getElem?_map]
       ·simp[qn,qd,e,g,hw,d,i,m,r,ha,q,f,-List.getElem?_map]
      ·simp[qn,qd,e,g,hw,d,i,m,r,ha,f,-List.getElem?_map]
     ·rw[aF r] at m
      rw[i] at e d;simp[qn,qd,e,g,hw,d,i,m,r,-List.getElem?_map]
    ·by_cases hn:x.n=0
     ·by_cases ha:x.a=0
      ·by_cases q:x.b=0
       ·by_cases u:x.c=0
        ·simp[qn,qd,e,j,p,g,hw,o,d,i,hn,ha,q,u,t,y,-List.getElem?_map]
        ·simp[qn,qd,e,j,p,g,hw,o,d,i,hn,ha,q,u,f,-List.getElem?_map]
       ·simp[qn,qd,e,j,p,g,hw,o,d,i,hn,ha,q,f,-List.getElem?_map]
      ·simp[qn,qd,e,j,p,g,hw,o,d,i,hn,ha,f,-List.getElem?_map]
     ·simp[qn,qd,e,j,p,g,hw,o,d,i,hn,f,-List.getElem?_map]
   ·rw[aF (λh=>o h.2)] at d
    have v:=A false;simp[qn,qd,e,j,p,g,hw,o,d,v,-List.getElem?_map]
  ·rw[aF g] at hw
   simp[qn,qd,e,j,p,g,hw,-List.getElem?_map]
def nf (l:List Nd) (d:Int) (x:Nd) (j:Int) (e:fB):St:=
 ⟨[(0,LN l),(1,I d),(5,ec),(6,dz [I x.a,I x.b,I x.c]),(7,I j)],[[I x.k,I x.w,I x.a,I x.b,I x.c,I x.n]],e⟩
attribute [local simp] nf
theorem uz {idx:Int} (p:0<=idx/\idx<=1000000) (g:(j=0/\a=x.a)\/(j=1/\a=x.b)\/(j=2/\a=x.c)) :
  evK pg q2j fiK ⟨[(0,(LN l)),(1,(.int .i64 idx)),(5,(ec)),(6,(dz [I x.a,I x.b,I x.c])),(7,(.int .i64 j))],[[(.int .i64 x.k),(.int .i64 x.w),(.int .i64 x.a),(.int .i64 x.b),(.int .i64 x.c),(.int .i64 x.n)]],gh⟩=if eV idx x.k j a then fo ⟨[(4,I 4)],[],gh⟩ else some (.normal,nf l idx x (j+1) gh):=by
 have hw:(WI.wrap (j+1))=j+1:=aq aj aj;have m:WI.wrap (idx-1)=idx-1:=aq aj aj;have f:=fe a 0 (idx-1) gh;by_cases d:j<ar x.k
 ·have e:=Int.not_le.2 d
  by_cases o:0<=a/\a<=idx-1
  ·rw[aG o] at f
   rw[if_neg (by unfold eV;rw[if_pos d];omega)];unfold nf;rcases g with ⟨rfl,rfl⟩|⟨rfl,rfl⟩|⟨rfl,rfl⟩<;>simp[q2j,gp,d,e,m,f]<;>exact hw
  ·rw[aF o] at f
   rw[if_pos (by unfold eV;rw[if_pos d];omega)];rcases g with ⟨rfl,rfl⟩|⟨rfl,rfl⟩|⟨rfl,rfl⟩<;>simp[q2j,gp,d,m,f]
 ·have e:=Int.not_lt.1 d
  by_cases i:a=0
  ·rw[if_neg (by unfold eV;rw[if_neg d];exact λh=>h i)]
   unfold nf;rcases g with ⟨rfl,rfl⟩|⟨rfl,rfl⟩|⟨rfl,rfl⟩<;>simp[q2j,gp,d,e,i]<;>exact hw
  ·rw[if_pos (by unfold eV;rw[if_neg d];exact i)]
   rcases g with ⟨rfl,rfl⟩|⟨rfl,rfl⟩|⟨rfl,rfl⟩<;>simp[q2j,gp,d,e,i]
theorem IF {idx:Int} (d:0<=idx/\idx<=1000000):bm pg qfl (nf l idx x 0 gh)=
  if gW idx x then fo ⟨[(4,I 4)],[],gh⟩ else fg ⟨[(0,LN l),(5,ec)],[[I x.k,I x.w,I x.a,I x.b,I x.c,I x.n]],gh⟩:=by
 have g:=uz (l:=l) (x:=x) (gh:=gh) (idx:=idx) (j:=0) (a:=x.a) d bh;have f:=uz (l:=l) (x:=x) (gh:=gh) (idx:=idx) (j:=1) (a:=x.b) d bh;have e:=uz (l:=l) (x:=x) (gh:=gh) (idx:=idx) (j:=2) (a:=x.c) d bh;by_cases o:eV idx x.k 0 x.a
 ·rw[if_pos o] at g
  rw[if_pos (.inl o)];exact cx (bg g)
 rw[if_neg o] at g;refine ay (bg g) ?_;by_cases m:eV idx x.k 1 x.b
 ·rw[if_pos m] at f
  rw[if_pos (.inr (.inl m))];exact cx (bg f)
 rw[if_neg m] at f;refine ay (bg f) ?_;by_cases i:eV idx x.k 2 x.c
 ·rw[if_pos i] at e
  rw[if_pos (.inr (.inr i))];exact cx (bg e)
 rw[if_neg i] at e;refine ay (bg e) ?_;rw[if_neg (by rintro (h|h|h)<;>contradiction)];refine (bn (s1:=?J) (bg ?Z)).trans ?Y
 case Z=>simp[q2j];rfl
 case Y=>simp[keep,bj]
theorem IG (e:idx<=l.length) (f:¬gW idx x):bm pg qaz ⟨[(0,LN l),(5,ec)],[[I x.k,I x.w,I x.a,I x.b,I x.c,I x.n]],gh⟩=
  fo ⟨[(4,I (ir x.k x.w x.n (wdJ l x.k 0 x.a) (wdJ l x.k 1 x.b) (wdJ l x.k 2 x.c)))],[],gh⟩:=by
 have d:=IA (gh:=gh) (ux e f);have g:=Hb x.k x.w x.n (wdJ l x.k 0 x.a) (wdJ l x.k 1 x.b) (wdJ l x.k 2 x.c) gh;unfold gV at d;rw[dT x] at d;refine bg ?_;simp[qaz,d,g]
theorem IH (H:l[idx]?=some x) (L:l.length<=1000000):ac pg 72 [LN l,I idx] gh=some (I (eA l idx x),gh):=by
 have M:=(aD.1 H).1;have f:(l.map nodeV)[idx]?=some (nodeV x):=by rw[aB,H];rfl
 rw[dT x] at f;have e:=fe x.k 1 23 gh;have i:=fe x.w 1 8 gh;have y:=IF (l:=l) (x:=x) (gh:=gh) (idx:=idx) aj;unfold nf at y;refine ak (fn:=qe) (s:=⟨[(4,I (eA l idx x))],[],gh⟩) rfl rfl (bg ?J) ?Z
 case Z=>simp[ag,results,qe,ah,am,af]
 case J =>
  unfold eA;by_cases A:1<=x.k/\x.k<=23
  ·rw [aG A] at e
   have m:¬x.k<1:=aj;have q:¬24<=x.k:=aj;by_cases g:1<=x.w/\x.w<=8
   ·rw [aG g] at i
    by_cases p:x.k<=3
    ·by_cases j:x.k=1
     ·obtain⟨T,G,o,C⟩:∃T:Int,((2^x.w.toNat:Nat):Int)=T/\ac pg 27 [I x.w] gh=some (I T,gh)/\WI.wrap (T-1)=T-1:=by
       have o:=HG (k:=x.w.toNat) aj gh;have O:2^x.w.toNat<=2^8:=bQ bz aj;rw[show ((x.w.toNat:Nat):Int)=x.w by omega] at o;generalize 2^x.w.toNat=T at *;exact⟨T,rfl,o,aq aj aj⟩
      rw[G];have u:=fe x.n 0 (T-1) gh;have D:decide (x.k=1)=true:=aG j;have F:(x.k<=3):=p;have E:¬(1<x.k):=aj
      have B:∀r:Int,(if x.k<1\/24<=x.k then 7 else if ¬(1<=x.w/\x.w<=8) then 3
        else if x.k<=3 then (if x.k=1/\¬(0<=x.n/\x.n<T) then 3 else if (x.k≠1/\x.n≠0)\/x.a≠0\/x.b≠0\/x.c≠0 then 1 else 0)
        else if gW idx x then 4 else ir x.k x.w x.n (wdJ l x.k 0 x.a) (wdJ l x.k 1 x.b) (wdJ l x.k 2 x.c))=r->
       (if x.k<1\/24<=x.k then 7 else if ¬(1<=x.w/\x.w<=8) then 3
        else if x.k<=3 then (if x.k=1/\¬(0<=x.n/\x.n<T) then 3 else if (x.k≠1/\x.n≠0)\/x.a≠0\/x.b≠0\/x.c≠0 then 1 else 0)
        else if gW idx x then 4 else ir x.k x.w x.n (wdJ l x.k 0 x.a) (wdJ l x.k 1 x.b) (wdJ l x.k 2 x.c))=r:=λ_ h=>h
      by_cases v:0<=x.n/\x.n<T
      ·rw [aG ⟨v.1,aj⟩] at u
       by_cases ha:x.a=0
       ·by_cases d:x.b=0
        ·by_cases t:x.c=0
         ·rw[B 0 (by simp[j,g,v,ha,d,t])]
          simp[qp,qe,f,e,i,D,F,E,o,C,u,ha,d,t,-List.getElem?_map]
         ·rw[B 1 (by simp[j,g,v,ha,d,t])]
          simp[qp,qe,f,e,i,D,F,E,o,C,u,ha,d,t,-List.getElem?_map]
        ·rw[B 1 (by simp[j,g,v,ha,d])]
         simp[qp,qe,f,e,i,D,F,E,o,C,u,ha,d,-List.getElem?_map]
       ·rw[B 1 (by simp[j,g,v,ha])]
        simp[qp,qe,f,e,i,D,F,E,o,C,u,ha,-List.getElem?_map]
      ·rw[aF aj] at u
       rw[B 3 (by simp[j,g,v])];simp[qp,qe,f,e,i,D,o,C,u,-List.getElem?_map]
     ·have z:1<x.k:=aj
      by_cases hn:x.n=0
      ·by_cases ha:x.a=0
       ·by_cases d:x.b=0
        ·by_cases t:x.c=0
         ·simp[qp,qe,f,m,q,g,e,i,p,j,z,hn,ha,d,t,-List.getElem?_map]
         ·simp[qp,qe,f,m,q,g,e,i,p,j,z,hn,ha,d,t,-List.getElem?_map]
        ·simp[qp,qe,f,m,q,g,e,i,p,j,z,hn,ha,d,-List.getElem?_map]
       ·simp[qp,qe,f,m,q,g,e,i,p,j,z,hn,ha,-List.getElem?_map]
      ·simp[qp,qe,f,m,q,g,e,i,p,j,z,hn,-List.getElem?_map]
    ·have j:x.k≠1:=aj
     by_cases d:gW idx x
     ·rw[if_pos d] at y
      simp[qp,qe,f,m,q,g,e,i,p,j,d,y,-List.getElem?_map]
     ·rw[if_neg d] at y
      have N:=IG (l:=l) (gh:=gh) (idx:=idx) aj d;simp[qp,qe,f,m,q,g,e,i,p,j,d,y,N,-List.getElem?_map]
   ·rw[aF g] at i
    simp[qp,qe,f,m,q,g,e,i,-List.getElem?_map]
  ·rw[aF A] at e
   have m:x.k<1\/24<=x.k:=aj;simp[qp,qe,f,m,e,-List.getElem?_map]
end
end
section
variable {kind a:Int} {b:Nat}
attribute [local congr] bu
attribute [local simp] au
structure Md where
 nodes:List Nd
 inits:fN
 nexts:fN
 bads:fq
 holds:fq
abbrev LP (l:fN):PV:= .sl false 2 (l.map andV)
def e9 (m:Md):PV:= .agg [LN m.nodes,LP m.inits,LP m.nexts,LI m.bads,LI m.holds]
@[simp] theorem modelV_a (m : Md) : az (e9 m) = true := (rfl)
@[simp] theorem modelV_d (m : Md) : degr (e9 m) = e9 m := (rfl)
@[simp] theorem modelV_e (m : Md) : aw (e9 m) = e9 m := (rfl)
@[simp] theorem modelV_c (m : Md) : (e9 m).cells = [LN m.nodes, LP m.inits, LP m.nexts, LI m.bads, LI m.holds] := (rfl)
theorem en (m:Md):e9 m= .agg [LN m.nodes,LP m.inits,LP m.nexts,LI m.bads,LI m.holds]:=rfl
def da (a:Int):Nat->List Nd->fq
 |_,[]=>[]
 |i,x::l=>if x.k=a then (i:Int)::da a (i+1) l else da a (i+1) l
def ci (l:List Nd) (a:Int):fq:=da a 0 l
theorem uA (a:Int):∀(i:Nat) (l:List Nd),(da a i l).length<=l.length
 |_,[]=>cW _
 |i,x::l=>by have:=uA a (i+1) l;rw[da];split<;>simp<;>omega
theorem kindF_mem {kind:Int}:∀{i:Nat} {l:List Nd} {a:Int},a∈da kind i l↔∃j,j<l.length/\a=((i+j:Nat):Int)/\(l[j]?.map (·.k))=some kind
 |i,[],a=>by simp[da]
 | i,x::l,a=>by
  have d:=kindF_mem (kind:=kind) (i:=i+1) (l:=l) (a:=a);rw[da];constructor
  ·intro h
   split at h
   ·rename_i f
    rcases List.mem_cons.1 h with h|h
    ·exact⟨0,bh,by simpa using h,by simp[f]⟩
    ·obtain⟨j,e,c,b⟩:=d.1 h
     exact⟨j+1,by simp;omega,by rw[c];omega,by simpa using b⟩
   ·obtain⟨j,e,c,b⟩:=d.1 h
    exact⟨j+1,by simp;omega,by rw[c];omega,by simpa using b⟩
  ·rintro⟨j,e,c,b⟩
   cases j with
   |zero=>
    simp at b;rw[if_pos b];exact List.mem_cons.2 (.inl (by simpa using c))
   |succ j=>
    have:=d.2 ⟨j,by simpa using e,by rw[c];omega,by simpa using b⟩;split
    ·exact bC _ this
    ·exact this
section
variable {m:Md} {gh:fB}
def kA (l:List Nd) (a:Int) (b:fq) (i:Nat) (c:fB):St:=
 ⟨[(1,I a),(5,dz (b.map I)),(9,LN l),(10,I l.length),(11,I (i:Int))],[],c⟩
attribute [local simp] kA
theorem zP {l:List Nd} {acc:fq} {i:Nat} (b:i<=100000):bm pg qa3 ⟨[(1,I kind),(5,dz (acc.map I)),(9,LN l),(10,I l.length),(11,I (i:Int))],[],gh⟩=some (.normal,kA l kind acc (i+1) gh):=by
 have a:WI.wrap ((i:Int)+1)=((i+1:Nat):Int):=by rw[aq aj aj];omega
 refine bg ?_;simp[qa3,a,kA]
theorem uC {l:List Nd} {kind:Int} (m:l.length<=1000):∀k i (acc:fq),i+k=l.length->acc.length<=i->
  bm pg qex (kA l kind acc i gh)=fg ⟨[(5,dz ((acc++da kind i (l.drop i)).map I))],[],gh⟩
 |0,i,acc,h,_=>by
  rw[aM aj];have a:¬(i:Int)<(l.length:Int):=aj;refine (bn (s1:=?J) (bg ?Z)).trans ?Y
  case Z=>simp[q6n,a];rfl
  case Y=>simp[keep,da,bj]
 | k+1,i,acc,h,ha=>by
  have a:i<l.length:=aj;have c:(i:Int)<(l.length:Int):=aj;have f:(l.map nodeV)[i]?=some (nodeV l[i]):=by simp[aA a]
  rw[dT l[i]] at f;have g:(acc.length+1)*8<=maxBytes:=by have:=MB;omega
  rw[aJ a,da];generalize l[i]=x at *;by_cases d:x.k=kind
  ·rw[if_pos d]
   have b:=zP (gh:=gh) (l:=l) (kind:=kind) (acc:=acc++[(i:Int)]) (i:=i) aj;have e:acc++(i:Int)::da kind (i+1) (l.drop (i+1))=(acc++[(i:Int)])++da kind (i+1) (l.drop (i+1)):=bh;rw[e];refine ay (s1:=kA l kind (acc++[(i:Int)]) (i+1) gh) (bg ?_) (uC m k (i+1) _ aj (by simp;omega));have j:(acc.map I).length=acc.length:=bh;unfold kA at *;simp only[bI,bS,bU] at b ⊢;generalize acc.map I=A at *;simp[q6n,c,f,d,j,g,b,-List.getElem?_map]
  ·rw[if_neg d]
   have b:=zP (gh:=gh) (l:=l) (kind:=kind) (acc:=acc) (i:=i) aj;refine ay (s1:=kA l kind acc (i+1) gh) (bg ?_) (uC m k (i+1) _ aj aj);unfold kA at *;generalize acc.map I=A at *;simp[q6n,c,f,d,b,-List.getElem?_map]
theorem ng (d:m.nodes.length<=1000):ac pg 101 [e9 m,I kind] gh=some (LO (ci m.nodes kind),gh):=by
 have h:=uC (gh:=gh) (l:=m.nodes) (kind:=kind) d m.nodes.length 0 [] aj bh;rw[bJ,bF] at h;unfold kA at h;simp only[bU,aR] at h;have hn:=noGs_ints (da kind 0 m.nodes);have b:(m.nodes.map nodeV).length=m.nodes.length:=bh;have e:=bg (c:=qa4) (s:=⟨[(5,(dz ((da kind 0 m.nodes).map I)))],[],gh⟩) (r:=fo ⟨[(4,dz ((da kind 0 m.nodes).map I))],[],gh⟩) (pg:=pg) (by simp[qa4]);unfold ci;simp only[LO];generalize (da kind 0 m.nodes).map I=a at *;rw[en];refine ak (fn:=q6o) (s:=⟨[(4,dz a)],[],gh⟩) rfl rfl (bg ?J) ?Z
 case J=>simp[qey,q6o,h,e]
 case Z=>simp[ag,results,q6o,ah,am,af,hn]
def lU (s:Int) (x:Nd):Int:=WI.wrap (s+x.w)
def cw (l:List Nd) (a:Int):Int:=(l.filter λx=>decide (x.k=a)).foldl lU 0
theorem rF (L:List Nd) (b:Int):∀(i:Nat) (l:List Nd) (s:Int),l=L.drop i->(da b i l).foldl (λs a=>WI.wrap (s+wAt L a)) s=(l.filter λx=>decide (x.k=b)).foldl lU s
 |_,[],_,_=>rfl
 | i,x::l,s,h=>by
  have e:L[i]?=some x:=by have:=congrArg (·[0]?) h;simpa using this.symm
  have d:l=L.drop (i+1):=by have:=congrArg List.tail h;rw[List.tail_drop] at this;exact this
  have hw:wAt L (i:Int)=x.w:=by unfold wAt;simp[aK,e]
  rw[da,List.filter_cons];by_cases c:x.k=b
  ·rw[if_pos c,if_pos (by simpa using c),List.foldl_cons,List.foldl_cons,hw]
   exact rF L b (i+1) l _ d
  ·rw[if_neg c,if_neg (by simpa using c)]
   exact rF L b (i+1) l s d
def pa (m:Md) (a:fq) (s:Int) (i:Nat) (b:fB):St:=
 ⟨[(2,ec),(5,I s),(8,LI a),(9,I a.length),(10,I (i:Int))],[[LN m.nodes,LP m.inits,LP m.nexts,LI m.bads,LI m.holds]],b⟩
attribute [local simp] pa
theorem zQ {b:fq} (g:∀a∈b,c8 m.nodes a) (j:b.length<=1000):∀k i s,i+k=b.length->
  bm pg qf0 (pa m b s i gh)=fg ⟨[(5,I ((b.drop i).foldl (λs a=>WI.wrap (s+wAt m.nodes a)) s))],[],gh⟩
 |0,i,s,h=>by
  rw[aM aj];have c:¬(i:Int)<(b.length:Int):=aj;refine (bn (s1:=?J) (bg ?Z)).trans ?Y
  case Z=>simp[qa8,c];rfl
  case Y=>simp[keep,bj]
 |k+1,i,s,h=>by
  have c:i<b.length:=aj;have f:(i:Int)<(b.length:Int):=aj;have o:WI.wrap ((i:Int)+1)=((i+1:Nat):Int):=by rw[aq aj aj];omega
  have l:(b.map I)[i]?=some (I b[i]):=by simp[aA c]
  have e:=g _ (cD c);have hn:=iP e;have n:=e.1;rw[aJ c,List.foldl_cons];generalize b[i]=a at *;refine ay (s1:=pa m b (WI.wrap (s+wAt m.nodes a)) (i+1) gh) (bg ?_) (zQ g j k (i+1) _ aj);unfold pa wAt;generalize m.nodes.getD a.toNat default=d at *;rw[dT d] at hn;simp[qa8,f,l,n,hn,o,-List.getElem?_map]
theorem IJ {xs:fq} (b:∀a∈xs,c8 m.nodes a) (d:xs.length<=1000):ac pg 105 [e9 m,LI xs] gh=some (I (xs.foldl (λs a=>WI.wrap (s+wAt m.nodes a)) 0),gh):=by
 have h:=zQ (gh:=gh) b d xs.length 0 0 aj;rw[bJ] at h;unfold pa at h;simp only[aR] at h;generalize xs.foldl (λs a=>WI.wrap (s+wAt m.nodes a)) 0=r at *;have e:=bg (c:=qa9) (s:=⟨[(5,(.int .i64 r))],[],gh⟩) (pg:=pg) (by simp[qa9]<;>rfl);rw[en];refine ak (fn:=q6q) (s:=⟨[(4,I r)],[],gh⟩) rfl rfl (bg ?J) ?Z
 case J=>simp[qf1,q6q,h,e]
 case Z=>simp[ag,results,q6q,ah,am,af]
theorem zR {l:List Nd} (h:a∈ci l kind):c8 l a:=by obtain⟨j,c,b,-⟩:=kindF_mem.1 h;exact⟨aj,aj⟩
theorem zS (c:m.nodes.length<=1000):ac pg 77 [e9 m] gh=some (.tup [I (cw m.nodes 2),I (cw m.nodes 3)],gh):=by
 have b:∀kind,ac pg 105 [e9 m,LI (ci m.nodes kind)] gh=some (I (cw m.nodes kind),gh):=λkind=>by have h:=IJ (m:=m) (gh:=gh) (xs:=ci m.nodes kind) (λa ha=>zR ha) (cC (uA kind 0 m.nodes) c);have e:=rF m.nodes kind 0 m.nodes 0 rfl;unfold ci at h ⊢;rw[e] at h;exact h
 have f:=ng (m:=m) (gh:=gh) (kind:=2) c;have d:=ng (m:=m) (gh:=gh) (kind:=3) c;have i:=b 2;have g:=b 3;rw[en] at *;refine ak (fn:=q6f) (s:=⟨[(2,I (cw m.nodes 2)),(3,I (cw m.nodes 3))],[],gh⟩) rfl rfl (bg ?J) ?Z
 case J=>simp[qer,q6f,f,d,i,g]
 case Z=>simp[ag,results,q6f,ah,am,af]
def pb (f:fS) (x:Nd):Bool:=decide (x.k=2\/x.k=3)||(dG x).any λa=>f.getD a.toNat false
def dU:fS->List Nd->fS
 |f,[]=>f
 |f,x::l=>dU (f++[pb f x]) l
theorem uD:∀(f:fS) (l:List Nd),(dU f l).length=f.length+l.length
 |f,[]=>rfl
 |f,x::l=>by rw[dU,uD];simp;omega
def nh (l:List Nd):Prop:=∀(i:Nat) (x:Nd),l[i]?=some x->∀a∈dG x,0<=a/\a<i
def ckG (a:fB) (m:Md) (f:fS):fB:=a++[.cells [LN m.nodes,LP m.inits,LP m.nexts,LI m.bads,LI m.holds,dz (f.map B)]]
theorem ni {f:fS} (h:a.toNat<f.length):(f.map B)[a.toNat]?=some (B (f.getD a.toNat false)):=by rw[aB,aA h];simp[aK,aA h]
def nj (m:Md) (f:fS) (a:fq) (b:Bool) (i j:Nat) (c:fB):St:=
 ⟨[(0,fc c.length 0),(4,B b),(11,LN m.nodes),(12,I m.nodes.length),(13,I (i:Int)),(26,LI a),(27,I a.length),(28,I (j:Int))],[],ckG c m f⟩
attribute [local simp] nj
theorem zT {f:fS} {d:fq} {i:Nat} (n:∀a∈d,0<=a/\a.toNat<f.length) (q:d.length<=1000):∀k j b,j+k=d.length->
  bm pg q9v (nj m f d b i j gh)=fg ⟨[(0,fc gh.length 0),(4,B (b||(d.drop j).any λa=>f.getD a.toNat false)),(11,LN m.nodes),(12,I m.nodes.length),(13,I (i:Int))],[],ckG gh m f⟩
 |0,j,b,h=>by
  rw[aM aj];have e:¬(j:Int)<(d.length:Int):=aj;refine (bn (s1:=?J) (bg ?Z)).trans ?Y
  case Z=>simp[q6g,e];rfl
  case Y=>simp[keep,bj]
 |k+1,j,b,h=>by
  have e:j<d.length:=aj;have g:(j:Int)<(d.length:Int):=aj;have p:WI.wrap ((j:Int)+1)=((j+1:Nat):Int):=by rw[aq aj aj];omega
  have o:(d.map I)[j]?=some (I d[j]):=by simp[aA e]
  obtain⟨s,r⟩:=n _ (cD e);rw[aJ e,List.any_cons,<-Bool.or_assoc];generalize d[j]=a at *;have l:=ni r;generalize f.getD a.toNat false=c at *;refine ay (s1:=nj m f d (b||c) i (j+1) gh) (bg ?_) (zT n q k (j+1) _ aj);unfold nj ckG;cases b with
  |true=>simp[q6g,g,o,p,-List.getElem?_map]
  |false=>simp[q6g,g,o,s,l,p,-List.getElem?_map]
def lV (m:Md) (f:fS) (i:Nat) (a:fB):St:=
 ⟨[(0,fc a.length 0),(11,LN m.nodes),(12,I m.nodes.length),(13,I (i:Int))],[],ckG a m f⟩
attribute [local simp] lV
theorem zU (y:nh m.nodes) (z:m.nodes.length<=1000):∀k i f,i+k=m.nodes.length->f.length=i->
  bm pg qes (lV m f i gh)=fg ⟨[],[],ckG gh m (dU f (m.nodes.drop i))⟩
 |0,i,f,h,_=>by
  rw[aM aj];have d:¬(i:Int)<(m.nodes.length:Int):=aj;refine (bn (s1:=?J) (bg ?Z)).trans ?Y
  case Z=>simp[q6h,d];rfl
  case Y=>simp[keep,dU]
 | k+1,i,f,h,F=>by
  have d:i<m.nodes.length:=aj;have n:(i:Int)<(m.nodes.length:Int):=aj;have E:WI.wrap ((i:Int)+1)=((i+1:Nat):Int):=by rw[aq aj aj];omega
  have t:(m.nodes.map nodeV)[i]?=some (nodeV m.nodes[i]):=by simp[aA d]
  have r:=y i _ (aA d);rw[aJ d,dU];generalize m.nodes[i]=x at *;rw[dT x] at t;have g:=uw x (ckG gh m f);rw[dT x] at g;have A:(dG x).length<=3:=by unfold dG;simp;omega
  have e:∀b,bm pg q9v (nj m f (dG x) b i 0 gh)=_:=λb=>zT (i:=i) (λa ha=>⟨(r a ha).1,by have:=r a ha;omega⟩) aj (dG x).length 0 b aj
  rw[bJ] at e;generalize q:((dG x).any λa=>f.getD a.toNat false)=c at *;have C:pb f x=(decide (x.k=2\/x.k=3)||c):=by unfold pb;rw[q]
  rw[C];have u:f.length+1<=maxBytes:=by have:=MB;omega
  refine ay (s1:=lV m (f++[decide (x.k=2\/x.k=3)||c]) (i+1) gh) (bg ?_) (zU y z k (i+1) _ aj (by simp;omega));have p:∀b,bm pg q9w ⟨[(0,fc gh.length 0),(4,B b),(11,LN m.nodes),(12,I m.nodes.length),(13,I (i:Int))],[],ckG gh m f⟩=fg ⟨[(0,fc gh.length 0),(11,LN m.nodes),(12,I m.nodes.length),(13,I (i:Int))],[],ckG gh m (f++[b])⟩:=λb=>by refine bg ?_;simp[q9w,ckG,au,u]
  have o:∀b,bm pg q9x ⟨[(0,fc gh.length 0),(11,LN m.nodes),(12,I m.nodes.length),(13,I (i:Int))],[],ckG gh m (f++[b])⟩=some (.normal,lV m (f++[b]) (i+1) gh):=λb=>by refine bg ?_;simp[q9x,E,lV]
  unfold nj at e;simp only[aR] at e;unfold lV at *;generalize ckG gh m f=G at *;by_cases s:x.k=2
  ·have v:decide (x.k=2\/x.k=3)=true:=aG (.inl s)
   have w:decide (x.k=2)=true:=aG s;rw[v];have:=e true;have l:=p (true||c);have j:=o (true||c);generalize ckG gh m (f++[true||c])=D at *;simp only[Bool.true_or] at this l j;simp[q6h,n,t,w,g,this,l,j,-List.getElem?_map]
  ·have w:¬(x.k=2):=s
   have v:decide (x.k=2\/x.k=3)=decide (x.k=3):=by simp[s]
   rw[v];have:=e (decide (x.k=3));have l:=p (decide (x.k=3)||c);have j:=o (decide (x.k=3)||c);generalize ckG gh m (f++[decide (x.k=3)||c])=D at *;simp[q6h,n,t,w,g,this,l,j,-List.getElem?_map]
theorem IK (b:nh m.nodes) (a:m.nodes.length<=1000):ac pg 78 [fc gh.length 0] (ckG gh m [])=some (.tup [],ckG gh m (dU [] m.nodes)):=by have h:=zU (gh:=gh) b a m.nodes.length 0 [] aj rfl;rw[bJ] at h;unfold lV at h;simp only[aR] at h;generalize ckG gh m (dU [] m.nodes)=e at *;have d:=bg (c:=q9y) (s:=⟨[(0,(fc gh.length 0))],[],(ckG gh m [])⟩) (r:=fg ⟨[],[],e⟩) (pg:=pg) (by unfold ckG at h ⊢;simp[q9y,q6i] at h ⊢;simp[h]);rw[ip (fn:=q6i) rfl rfl d];simp[ag,results,q6i,ah,af]
theorem uE {f:fS} {n:Int} {g:fB} (c:g[b]?=some (.cells [LN m.nodes,LP m.inits,LP m.nexts,LI m.bads,LI m.holds,dz (f.map B)])):ac pg 118 [fc b 0,I n] g=some (B (decide (c8 m.nodes n)),g):=by
 by_cases h:0<=n
 ·have e:decide (c8 m.nodes n)=decide (n<(m.nodes.length:Int)):=decide_eq_decide.2 ⟨λa=>by have:=a.2;omega,λa=>⟨h,aj⟩⟩
  rw[e];refine ak (fn:=q2e) (s:=?J) rfl rfl (bg ?Z) ?Y
  case Z=>simp[qaa,q2e,h,c];rfl
  case Y=>simp[ag,results,q2e,ah,am,af]
 ·have e:decide (c8 m.nodes n)=false:=aF λa=>h a.1
  rw[e];refine ak (fn:=q2e) (s:=?K) rfl rfl (bg ?V) ?W
  case V=>simp[qaa,q2e,h];rfl
  case W=>simp[ag,results,q2e,ah,am,af]
def eW (l:List Nd) (f:fS) (a:Bool) (p:Int×Int):Int:=
 if ¬c8 l p.1\/¬c8 l p.2\/(l.getD p.1.toNat default).k≠3 then 5 else if wAt l p.1≠wAt l p.2 then 1 else if a=true/\f.getD p.2.toNat false=true then 4 else 0
theorem IL {f:fS} {init:Bool} {p:Int×Int} {g:fB} (C:f.length=m.nodes.length) (d:g[b]?=some (.cells [LN m.nodes,LP m.inits,LP m.nexts,LI m.bads,LI m.holds,dz (f.map B)])) :
  ac pg 106 [fc b 0,andV p,B init] g=some (I (eW m.nodes f init p),g):=by
 obtain⟨s,n⟩:=p;have i:=uE (n:=s) d;have j:=uE (n:=n) d;rw[mT];unfold eW wAt;simp only;refine ak (fn:=q1c) (s:=⟨[(6,I (eW m.nodes f init (s,n)))],[],g⟩) rfl rfl (bg ?J) ?Z
 case Z=>simp[ag,results,q1c,ah,am,af,eW,wAt]
 case J=>
  unfold eW wAt;simp only;by_cases x:c8 m.nodes s
  ·rw [aG x] at i
   by_cases q:c8 m.nodes n
   ·rw [aG q] at j
    have o:=iP x;have t:=iP q;have r:=x.1;have y:=q.1;have u:=ni (f:=f) (a:=n) (by rw[C];exact q.2);generalize m.nodes.getD s.toNat default=l,m.nodes.getD n.toNat default=A,f.getD n.toNat false=c at *;rw[dT l] at o;rw[dT A] at t;by_cases v:l.k=3
    ·have z:decide (l.k=3)=true:=aG v
     by_cases e:l.w=A.w
     ·rw[if_neg (by rintro (h|h|h)<;>contradiction),if_neg (λh=>h e)]
      have e:decide (l.w=A.w)=true:=aG e;cases init with
      |true=>cases c with
       |true=>(simp[q1r,q1c,i,j,d,r,o,-List.getElem?_map];simp[y,t,d,z,e,u,-List.getElem?_map])
       |false=>(simp[q1r,q1c,i,j,d,r,o,-List.getElem?_map];simp[y,t,d,z,e,u,-List.getElem?_map])
      |false=>(simp[q1r,q1c,i,j,d,r,o,-List.getElem?_map];simp[y,t,d,z,e,-List.getElem?_map])
     ·rw[if_neg (by rintro (h|h|h)<;>contradiction),if_pos e]
      have e:decide (l.w=A.w)=false:=aF e
      (simp[q1r,q1c,i,j,d,r,o,-List.getElem?_map];simp[y,t,d,z,e,-List.getElem?_map])
    ·rw[if_pos (.inr (.inr v))]
     have v:decide (l.k=3)=false:=aF v;simp[q1r,q1c,i,j,d,r,o,v,-List.getElem?_map]
   ·rw[aF q] at j
    rw[if_pos (.inr (.inl q))];simp[q1r,q1c,i,j]
  ·rw[aF x] at i
   rw[if_pos (.inl x)];simp[q1r,q1c,i]
end
end
section
attribute [local congr] bu
attribute [local simp] au
section
variable {m:Md} {gh:fB}
theorem IM {n:Nat} (h:n*8<=maxBytes):ac pg 119 [.nils,I n] gh=some (dz [],gh):=by have:ac pg 119 [.nils,I n] gh=kU 1 8 [.nils,I n] gh:=rfl;rw[this,kU,if_pos ⟨aj,by simpa using h⟩]
theorem zV {X Y:fw} (u:eg X=true) (t:eg Y=true) (h:(X.length+Y.length)*8<=maxBytes):ac pg 107 [cr [cr X,cr Y]] gh=some (cr (X++Y),gh):=by
 have w:=MB;have k:WI.wrap (X.length:Int)=X.length:=aq aj aj;have j:WI.wrap ((X.length:Int)+(Y.length:Int))=((X.length+Y.length:Nat):Int):=by rw[aq aj aj];omega
 have i:WI.wrap (0+1)=1:=bz;have g:WI.wrap 2=2:=bz;have l:¬((X.length:Int)<0):=aj
 have e:bm pg qeh ⟨[(0,cr [cr X,cr Y]),(3,I 0),(9,cr [cr X,cr Y]),(10,I 2),(11,I 0)],[],gh⟩=
   fg ⟨[(0,cr [cr X,cr Y]),(3,I ((X.length+Y.length:Nat):Int))],[],gh⟩:=by
  refine ay (s1:=⟨[(0,cr [cr X,cr Y]),(3,I X.length),(9,cr [cr X,cr Y]),(10,I 2),(11,I 1)],[],gh⟩) (bg ?_) ?_
  ·simp[q64,k,l];exact i
  refine ay (s1:=⟨[(0,cr [cr X,cr Y]),(3,I ((X.length+Y.length:Nat):Int)),(9,cr [cr X,cr Y]),(10,I 2),(11,I 2)],[],gh⟩) (bg ?_) ?_
  ·simp[q64]
   have b:decide ((X.length:Int)+(Y.length:Int)<0)=false:=aF aj;simp[j,b];exact g
  refine (bn (s1:=?Y) (bg ?J)).trans ?Z
  case J=>simp[q64];rfl
  case Z=>simp[keep,bj]
 have d:bm pg qei ⟨[(6,dz []),(25,cr [cr X,cr Y]),(26,I 2),(27,I 0)],[],gh⟩=fg ⟨[(6,dz (X++Y))],[],gh⟩:=by
  refine ay (s1:=⟨[(6,dz X),(25,cr [cr X,cr Y]),(26,I 2),(27,I 1)],[],gh⟩) (bg ?_) ?_
  ·have:X.length*8<=maxBytes:=aj
   simp[q65,this];exact i
  refine ay (s1:=⟨[(6,dz (X++Y)),(25,cr [cr X,cr Y]),(26,I 2),(27,I 2)],[],gh⟩) (bg ?_) ?_
  ·simp[q65,h];exact g
  refine (bn (s1:=?K) (bg ?V)).trans ?W
  case V=>simp[q65];rfl
  case W=>simp[keep,bj]
 have q:=IM (gh:=gh) h;have m:=bg (c:=q9k) (s:=⟨[(6,(dz (X++Y)))],[],gh⟩) (r:=fo ⟨[(2,cr (X++Y))],[],gh⟩) (pg:=pg) (by simp[q9k]);have o:=bg (c:=q9l) (s:=⟨[(0,(cr [cr X,cr Y])),(3,(.int .i64 (((X.length+Y.length:Nat):Int))))],[],gh⟩) (r:=fo ⟨[(2,cr (X++Y))],[],gh⟩) (pg:=pg) (by generalize X.length+Y.length=n at *;simp[q9l,q,d,m]);have hn:eg (X++Y)=true:=by
  have:∀(A B:fw),eg A=true->eg B=true->eg (A++B)=true:=by
   intro A B
   induction A with
   |nil=>intro _ h;exact h
   |cons a A p=>
    intro f v;simp only[Gj,aS] at f;simp[f.1,p f.2 v]
  exact this X Y u t
 refine ak (fn:=q66) (s:=⟨[(2,cr (X++Y))],[],gh⟩) rfl rfl (bg ?J) ?Z
 case J=>
  generalize X.length+Y.length=n at *;simp[qej,q66,e,o]
 case Z=>simp[ag,results,q66,af,hn,get]
def di (l:List Nd) (f:fS) (a:Bool):fN->Int
 |[]=>0
 |p::r=>if eW l f a p=0 then di l f a r else eW l f a p
theorem uF {f:fS}:(ckG gh m f)[gh.length]?=some (.cells [LN m.nodes,LP m.inits,LP m.nexts,LI m.bads,LI m.holds,dz (f.map B)]):=by simp[ckG]
abbrev ld (m:Md):PV:= dz [LP m.inits,LP m.nexts]
def Gi (m:Md) (f:fS) (a:fN) (k j:Nat) (b:fB):St:=
 ⟨[(0,fc b.length 0),(3,I (k:Int)),(23,ld m),(24,I 2),(25,I (k:Int)),(30,LP a),(31,I a.length),(32,I (j:Int))],[],ckG b m f⟩
attribute [local simp] Gi
theorem uH {f:fS} {ps:fN} {k:Nat} (s:f.length=m.nodes.length) (r:Sz ps.length):∀n j,j+n=ps.length->
  bm pg qet (Gi m f ps k j gh)=if di m.nodes f (decide (k=0)) (ps.drop j)=0 then fg ⟨[(0,fc gh.length 0),(23,ld m),(24,I 2),(25,I (k:Int))],[],ckG gh m f⟩
   else fo ⟨[(2,I (di m.nodes f (decide (k=0)) (ps.drop j)))],[],ckG gh m f⟩
 |0,j,h=>by
  rw[aM aj,di,if_pos rfl];have c:¬(j:Int)<(ps.length:Int):=aj;refine (bn (s1:=?J) (bg ?Z)).trans ?Y
  case Z=>simp[q6j,c];rfl
  case Y=>simp[keep,bj]
 | n+1,j,h=>by
  have c:j<ps.length:=aj;have d:(j:Int)<(ps.length:Int):=aj;have t:WI.wrap ((j:Int)+1)=((j+1:Nat):Int):=gv (by simp only[Sz] at r ⊢;omega);have q:(ps.map andV)[j]?=some (andV ps[j]):=by simp[aA c]
  rw[mT] at q;have l:=IL (m:=m) (f:=f) (init:=decide (k=0)) (p:=ps[j]) s (uF (gh:=gh));rw[mT] at l;rw[aJ c,di];generalize ps[j]=p at *;obtain⟨a,b⟩:=p;simp only at q l;have i:((k:Int)==0)=decide (k=0):=by rw[yt];exact decide_eq_decide.2 aj
  obtain⟨g,e⟩:∃g,decide (k=0)=g:=⟨_,rfl⟩
  rw[e] at i l ⊢;by_cases o:eW m.nodes f g (a,b)=0
  ·rw[if_pos o]
   rw[o] at l;refine ay (s1:=Gi m f ps k (j+1) gh) (bg ?_) ?_
   ·unfold Gi
    generalize ckG gh m f=u at *;simp[q6j,i,d,q,l,t,-List.getElem?_map]
   ·rw[<-e]
    exact uH s r n (j+1) aj
  ·rw[if_neg o,if_neg o]
   refine cx (bg ?_);simp[q6j,i,d,q,l,o,-List.getElem?_map]
end
end
section
attribute [local congr] bu
attribute [local simp] au
def lj (b:Bool) (a:fq) (m:Nat):fq:=if b then List.replicate m 0++a.take (a.length-m) else a.drop m++List.replicate m 0
def iQ (a:Bool):Nat:=if a then 228 else 230
theorem IN {up:Bool} {xs:fq} {m:Nat} (c:xs.length<=1000) (b:m<=xs.length) (a:fB):ac pg (iQ up) [LI xs,I (m:Int)] a=some (LI (lj up xs m),a):=by
 cases up
 ·exact Ix c b a
 ·exact Iw c b a
section
variable {pre:fB} {ins:Int} {v:fS}
theorem zW {G b:fB} {X a Y R:fw} {o:Bool} {f i n:Nat} {c:Int} (h:ac pg 234 [fc (pre.length+2) 0,I c,cr a,cr X] G=some (cr R,b)) :
  bm pg q91 ⟨[(0,fc (pre.length+2) 0),(1,cr X),(3,.fn f []),(10,I c),(11,.sl o 1 a),(12,cr Y),(13,I n),(14,I i)],[],G⟩=fg ⟨[(0,fc (pre.length+2) 0),(1,cr R),(3,.fn f []),(12,cr Y),(13,I n),(14,I i)],[],b⟩:=
 bg (by simp[q91,h])
theorem zX {G:fB} {X Y:fw} {f i n:Nat} (a:i<=1000) :
  bm pg q92 ⟨[(0,fc (pre.length+2) 0),(1,cr X),(3,.fn f []),(12,cr Y),(13,I n),(14,I i)],[],G⟩=fg ⟨[(0,fc (pre.length+2) 0),(1,cr X),(3,.fn f []),(12,cr Y),(13,I n),(14,I ((i+1:Nat):Int))],[],G⟩:=
 bg (by simp[q92,wrS' i aj])
theorem IP {G l:fB} {xs q:fq} {Y R:fw} {up:Bool} {i n:Nat} {c:Int} (x:i<n) (hn:n<=8) (w:xs.length<=100) (t:Y[i]?=some (I c)) (j:q=if 2^i<xs.length then lj up xs (2^i) else List.replicate xs.length 0)
  (h:ac pg 234 [fc (pre.length+2) 0,I c,cr (q.map I),cr (xs.map I)] G=some (cr R,l)) :
  evK pg q3r fiK ⟨[(0,(fc (pre.length+2) 0)),(1,(cr (xs.map I))),(3,(.fn (iQ up) [])),(12,(cr Y)),(13,(.int .i64 n)),(14,(.int .i64 i))],[],G⟩=fg ⟨[(0,fc (pre.length+2) 0),(1,cr R),(3,.fn (iQ up) []),(12,cr Y),(13,I n),(14,I ((i+1:Nat):Int))],[],l⟩:=by
 have a:(i:Int)<(n:Int):=aj;have r:=ky (n:=xs.length) aj G;have g:eR .i64 1 (i:Int)=((2^i:Nat):Int):=by rw[ot aj];simp
 have e:(xs.map I).length=xs.length:=bh;have u:(0:Int)<=(i:Int):=aj;by_cases k:2^i<xs.length
 ·rw[if_pos k] at j
  subst j;have s:=IN (up:=up) (xs:=xs) (m:=2^i) aj aj G;have v:((2^i)<xs.length):=aj;generalize 2^i=p at *;have d:=zW (pre:=pre) (Y:=Y) (o:=false) (f:=iQ up) (i:=i) (n:=n) h;have b:=zX (pre:=pre) (G:=l) (X:=R) (Y:=Y) (f:=iQ up) (i:=i) (n:=n) aj;unfold LI at s;generalize (lj up xs p).map I=M,(List.replicate xs.length (0:Int)).map I=Z,xs.map I=X,iQ up=f at *;simp[q3r,a];simp[t,r,g,e,k,s,d,b]
 ·rw[if_neg k] at j
  subst j;have v:¬((2^i)<xs.length):=aj;generalize 2^i=p at *;have d:=zW (pre:=pre) (Y:=Y) (o:=true) (f:=iQ up) (i:=i) (n:=n) h;have b:=zX (pre:=pre) (G:=l) (X:=R) (Y:=Y) (f:=iQ up) (i:=i) (n:=n) aj;generalize (List.replicate xs.length (0:Int)).map I=Z,xs.map I=X,iQ up=f at *;simp[q3r,a];simp[t,r,g,e,k,d,b]
theorem IQ (c:0<=ins) {A:fN} {b:Bool} {a:fq} {d:fS} {n:Nat} (h:Ls ins v A a d):Ls ins v A (if n<a.length then lj b a n else List.replicate a.length 0) (ku b d n):=by
 unfold ku lj;rw[h.len];split
 ·cases b
  ·exact (h.drop _).app (Ls.zeros c _)
  ·exact (Ls.zeros c _).app (h.take _)
 ·exact Ls.zeros c _
theorem rG {b:Bool} {a:fq} {n:Nat}:(if n<a.length then lj b a n else List.replicate a.length 0).length=a.length:=by
 unfold lj;split
 ·cases b
  ·simp;omega
  ·simp;omega
 ·simp
theorem zY (pre:fB) (o:(v.length:Int)=ins) {up:Bool}:∀(f d:fq) (l:fS) (A:fN) (xs:fq) (m:fS),cq ins A=0->A.length+3*xs.length*f.length<=1000000->d.length+f.length<=8->xs.length<=100->
  Ls ins v A xs m->Ls ins v A f l->
  ∃q h a,(∀H:BC,bm pg qdu ⟨[(0,fc (pre.length+2) 0),(1,LI xs),(3,.fn (iQ up) []),(12,LI (d++f)),(13,I ((d.length+f.length:Nat):Int)),(14,I (d.length:Int))],[],H.g pre ins A⟩=fg ⟨[(1,LI h)],[],(H.push a).g pre ins q⟩)/\
   Stp ins A q (3*xs.length*f.length)/\Ls ins v q h (shB up d.length l m)
 |[],d,[],A,xs,m,k,_,_,_,j,_=>by
  refine⟨A,xs,[],λH=>?_,Stp.refl k,j⟩;have p:¬((d.length:Nat):Int)<((d.length+([]:fq).length:Nat):Int):=bh;rw[fY];refine (bn (s1:=?J) (bg ?Z)).trans ?Y
  case Z=>simp[q3r,p];rfl
  case Y=>simp[keep]
 | c::f,d,b::l,A,xs,m,k,u,B,C,j,t=>by
  simp only[aV] at u B;rw[Nat.mul_add,Nat.mul_one] at u;obtain⟨D,_,_,_⟩:=dX k;obtain⟨M,r,G,s1,s⟩:=Gh pre o k (c:=c) (bc:=b) (xs:=if 2^d.length<xs.length then lj up xs (2^d.length) else List.replicate xs.length 0) (ys:=xs) (by rw[rG];omega) (by rw[rG];omega) (by rw[rG]) t.1 (IQ D.1 j) j;rw[rG] at s1;have N:=s1.2.1;have hr:r.length=xs.length:=by
   rw[<-s.len];unfold d9;split
   ·rw[uk,j.len]
   ·rw[j.len]
  obtain⟨L,h,a,F,z,y⟩:=zY pre o (up:=up) f (d++[c]) l M r _ s1.1 (by rw[hr];omega) (by simp;omega) aj s (t.2.mono o s1);rw[hr] at z;refine⟨L,h,pkJ pre c++a,λH=>?_,(s1.trans z).mono (by have e:=Nat.mul_add (3*xs.length) f.length 1;simp only[aV];omega),?_⟩
  ·have E:=IP (pre:=pre) (up:=up) (xs:=xs) (i:=d.length) (n:=d.length+(c::f).length) bh (by simp only[aV];omega) C (get_at (rx:=f) (x:=c) rfl) rfl (G H _ (.inl rfl))
   refine ay (bg E) ?_;have w:=F (H.push (pkJ pre c));rw[show (d++[c]).length+f.length=d.length+(c::f).length by simp;omega,show (d++[c]).length=d.length+1 by simp,aT d [c] f,Gb] at w;exact w
  ·rw[shB]
   rw[show (d++[c]).length=d.length+1 by simp] at y;exact y
theorem zZ (b:fB) (l:(v.length:Int)=ins) {up:Bool} {A:fN} (p:cq ins A=0) {xs ys:fq} {h e:fS} (m:A.length+3*xs.length*ys.length<=1000000) (hn:xs.length<=100) (n:ys.length<=8)
  (k:Ls ins v A xs h) (j:Ls ins v A ys e) :
  ∃d c a,(∀H:BC,ac pg 229 [fc (b.length+2) 0,LI xs,LI ys,.fn (iQ up) []] (H.g b ins A)=some (LI c,(H.push a).g b ins d))/\Stp ins A d (3*xs.length*ys.length)/\Ls ins v d c (shB up 0 e h):=by
 obtain⟨d,c,a,t,r,q⟩:=zY b l (up:=up) ys [] e A xs h p m (by simpa using n) hn k j;refine⟨d,c,a,λH=>?_,r,q⟩;have i:=t H;simp only[bF,cF,cX,aR] at i;have o:bm pg q93 ⟨[(1,LI c)],[],(H.push a).g b ins d⟩=fo ⟨[(8,LI c)],[],(H.push a).g b ins d⟩:=bg (by simp[q93]);generalize (H.push a).g b ins d=u,H.g b ins A=w,iQ up=f at *;refine ak (fn:=q5e) (s:=⟨[(8,LI c)],[],u⟩) rfl rfl (bg ?J) ?Z
 case J=>simp[qdv,q5e,i,o]
 case Z=>simp[ag,results,q5e,ah,am,af]
def nkS (e:fB) (k w a b c n:Int) (X Y d:fw) (h g f:Bool) (G:fB):St:=
 ⟨[(0,fc (e.length+2) 0),(3,ec),(5,eK)],[[I k,I w,I a,I b,I c,I n],[.sl h 1 X,.sl g 1 Y,.sl f 1 d]],G⟩
attribute [local simp] nkS
variable {k w a b c n:Int} {X Y Z:fw} {o0 o1 o2:Bool} {G G2:fB}
theorem IR (d:k=4)
  {R:fw} (h:ac pg 219 [cr X] G=some (cr R,G)) :
  bm pg qa (nkS pre k w a b c n X Y Z o0 o1 o2 G)=fo ⟨[(4,cr R)],[],G⟩:=by
 have g:∀j:Int,j≠4->(k==j)=false:=λj i=>by rw[d];exact aU (λe=>i e.symm)
 have f:(k==4)=true:=by rw[d];rfl
 clear d;refine bg ?_;simp[qa,g 1 bz,f,h]
theorem IS (f:k=5)
  {R d:fw} (m:ac pg 220 [I w] G=some (dz d,G)) (h:ac pg 221 [fc (pre.length+2) 0,cr d,cr X] G=some (cr R,G2)) :
  bm pg qa (nkS pre k w a b c n X Y Z o0 o1 o2 G)=fo ⟨[(4,cr R)],[],G2⟩:=by
 have g:∀j:Int,j≠5->(k==j)=false:=λj l=>by rw[f];exact aU (λe=>l e.symm)
 have i:(k==5)=true:=by rw[f];rfl
 clear f;refine bg ?_;simp[qa,g 1 bz,g 4 bz,i,m,h]
theorem IT (g:k=6)
  {R:fw} {m0 p o m l d:PV} (i:G[pre.length+2]?=some (.cells [fc (pre.length+1) 0,m0,p,o,m,l,d])) (h:ac pg 222 [cr X,cr Y,.bfn 49 [fc (pre.length+1) 0]] G=some (cr R,G2)) :
  bm pg qa (nkS pre k w a b c n X Y Z o0 o1 o2 G)=fo ⟨[(4,cr R)],[],G2⟩:=by
 have f:∀j:Int,j≠6->(k==j)=false:=λj r=>by rw[g];exact aU (λe=>r e.symm)
 have q:(k==6)=true:=by rw[g];rfl
 clear g;refine bg ?_;simp[qa,f 1 bz,f 4 bz,f 5 bz,q,i,h]
theorem IU (f:k=7)
  {R:fw} (h:ac pg 222 [cr X,cr Y,.bfn 223 [fc (pre.length+2) 0]] G=some (cr R,G2)) :
  bm pg qa (nkS pre k w a b c n X Y Z o0 o1 o2 G)=fo ⟨[(4,cr R)],[],G2⟩:=by
 have d:∀j:Int,j≠7->(k==j)=false:=λj i=>by rw[f];exact aU (λe=>i e.symm)
 have g:(k==7)=true:=by rw[f];rfl
 clear f;refine bg ?_;simp[qa,d 1 bz,d 4 bz,d 5 bz,d 6 bz,g,h]
theorem IW (f:k=8)
  {R:fw} (h:ac pg 222 [cr X,cr Y,.bfn 224 [fc (pre.length+2) 0]] G=some (cr R,G2)) :
  bm pg qa (nkS pre k w a b c n X Y Z o0 o1 o2 G)=fo ⟨[(4,cr R)],[],G2⟩:=by
 have d:∀j:Int,j≠8->(k==j)=false:=λj i=>by rw[f];exact aU (λe=>i e.symm)
 have g:(k==8)=true:=by rw[f];rfl
 clear f;refine bg ?_;simp[qa,d 1 bz,d 4 bz,d 5 bz,d 6 bz,d 7 bz,g,h]
theorem IY (f:k=9)
  {R:fw} {l:Int} (h:ac pg 225 [fc (pre.length+2) 0,cr X,cr Y,I 0] G=some (.tup [cr R,I l],G2)) :
  bm pg qa (nkS pre k w a b c n X Y Z o0 o1 o2 G)=fo ⟨[(4,cr R)],[],G2⟩:=by
 have d:∀j:Int,j≠9->(k==j)=false:=λj i=>by rw[f];exact aU (λe=>i e.symm)
 have g:(k==9)=true:=by rw[f];rfl
 clear f;refine bg ?_;simp[qa,d 1 bz,d 4 bz,d 5 bz,d 6 bz,d 7 bz,d 8 bz,g,h]
theorem IZ (f:k=10)
  {R:fw} (h:ac pg 221 [fc (pre.length+2) 0,cr X,cr Y] G=some (cr R,G2)) :
  bm pg qa (nkS pre k w a b c n X Y Z o0 o1 o2 G)=fo ⟨[(4,cr R)],[],G2⟩:=by
 have d:∀j:Int,j≠10->(k==j)=false:=λj i=>by rw[f];exact aU (λe=>i e.symm)
 have g:(k==10)=true:=by rw[f];rfl
 clear f;refine bg ?_;simp[qa,d 1 bz,d 4 bz,d 5 bz,d 6 bz,d 7 bz,d 8 bz,d 9 bz,g,h]
theorem I0 (f:k=11)
  {R:fw} (h:ac pg 226 [fc (pre.length+2) 0,cr X,cr Y] G=some (cr R,G2)) :
  bm pg qa (nkS pre k w a b c n X Y Z o0 o1 o2 G)=fo ⟨[(4,cr R)],[],G2⟩:=by
 have d:∀j:Int,j≠11->(k==j)=false:=λj i=>by rw[f];exact aU (λe=>i e.symm)
 have g:(k==11)=true:=by rw[f];rfl
 clear f;refine bg ?_;simp[qa,d 1 bz,d 4 bz,d 5 bz,d 6 bz,d 7 bz,d 8 bz,d 9 bz,d 10 bz,g,h]
theorem I3 (g:k=12)
  {R d:fw} (h:ac pg 227 [fc (pre.length+2) 0,cr X,cr Y] G=some (.tup [cr R,cr d],G2)) :
  bm pg qa (nkS pre k w a b c n X Y Z o0 o1 o2 G)=fo ⟨[(4,cr R)],[],G2⟩:=by
 have f:∀j:Int,j≠12->(k==j)=false:=λj l=>by rw[g];exact aU (λe=>l e.symm)
 have i:(k==12)=true:=by rw[g];rfl
 clear g;refine bg ?_;simp[qa,f 1 bz,f 4 bz,f 5 bz,f 6 bz,f 7 bz,f 8 bz,f 9 bz,f 10 bz,f 11 bz,i,h]
theorem I4 (g:k=13)
  {R d:fw} (h:ac pg 227 [fc (pre.length+2) 0,cr X,cr Y] G=some (.tup [cr d,cr R],G2)) :
  bm pg qa (nkS pre k w a b c n X Y Z o0 o1 o2 G)=fo ⟨[(4,cr R)],[],G2⟩:=by
 have f:∀j:Int,j≠13->(k==j)=false:=λj l=>by rw[g];exact aU (λe=>l e.symm)
 have i:(k==13)=true:=by rw[g];rfl
 clear g;refine bg ?_;simp[qa,f 1 bz,f 4 bz,f 5 bz,f 6 bz,f 7 bz,f 8 bz,f 9 bz,f 10 bz,f 11 bz,f 12 bz,i,h]
theorem I5 (f:k=14)
  {R:fw} (h:ac pg 229 [fc (pre.length+2) 0,cr X,cr Y,.fn 228 []] G=some (cr R,G2)) :
  bm pg qa (nkS pre k w a b c n X Y Z o0 o1 o2 G)=fo ⟨[(4,cr R)],[],G2⟩:=by
 have d:∀j:Int,j≠14->(k==j)=false:=λj i=>by rw[f];exact aU (λe=>i e.symm)
 have g:(k==14)=true:=by rw[f];rfl
 clear f;refine bg ?_;simp[qa,d 1 bz,d 4 bz,d 5 bz,d 6 bz,d 7 bz,d 8 bz,d 9 bz,d 10 bz,d 11 bz,d 12 bz,d 13 bz,g,h]
theorem I6 (f:k=15)
  {R:fw} (h:ac pg 229 [fc (pre.length+2) 0,cr X,cr Y,.fn 230 []] G=some (cr R,G2)) :
  bm pg qa (nkS pre k w a b c n X Y Z o0 o1 o2 G)=fo ⟨[(4,cr R)],[],G2⟩:=by
 have d:∀j:Int,j≠15->(k==j)=false:=λj i=>by rw[f];exact aU (λe=>i e.symm)
 have g:(k==15)=true:=by rw[f];rfl
 clear f;refine bg ?_;simp[qa,d 1 bz,d 4 bz,d 5 bz,d 6 bz,d 7 bz,d 8 bz,d 9 bz,d 10 bz,d 11 bz,d 12 bz,d 13 bz,d 14 bz,g,h]
theorem I7 (f:k=16)
  {e:Int} (h:bm pg q8s ⟨[(0,fc (pre.length+2) 0),(8,cr X),(9,cr Y),(19,I 1),(157,I (X.length:Int)),(158,I 0)],[],G⟩=fg ⟨[(19,I e)],[],G2⟩) (l:bm pg q8t ⟨[(19,I e)],[],G2⟩=fo ⟨[(4,dz [I e])],[],G2⟩) :
  bm pg qa (nkS pre k w a b c n X Y Z o0 o1 o2 G)=fo ⟨[(4,dz [I e])],[],G2⟩:=by
 have d:∀j:Int,j≠16->(k==j)=false:=λj i=>by rw[f];exact aU (λe=>i e.symm)
 have g:(k==16)=true:=by rw[f];rfl
 clear f;refine bg ?_;simp[qa,d 1 bz,d 4 bz,d 5 bz,d 6 bz,d 7 bz,d 8 bz,d 9 bz,d 10 bz,d 11 bz,d 12 bz,d 13 bz,d 14 bz,d 15 bz,g,h,l]
theorem I8 (f:k=17)
  {e:Int} (h:ac pg 232 [fc (pre.length+2) 0,cr X,cr Y] G=some (I e,G2)) :
  bm pg qa (nkS pre k w a b c n X Y Z o0 o1 o2 G)=fo ⟨[(4,dz [I e])],[],G2⟩:=by
 have d:∀j:Int,j≠17->(k==j)=false:=λj i=>by rw[f];exact aU (λe=>i e.symm)
 have g:(k==17)=true:=by rw[f];rfl
 clear f;refine bg ?_;simp[qa,d 1 bz,d 4 bz,d 5 bz,d 6 bz,d 7 bz,d 8 bz,d 9 bz,d 10 bz,d 11 bz,d 12 bz,d 13 bz,d 14 bz,d 15 bz,d 16 bz,g,h]
theorem I9 (i:k=18)
  {e:Int} {f d:fw} (p:ac pg 233 [cr X] G=some (cr f,G)) (o:ac pg 233 [cr Y] G=some (cr d,G)) (h:ac pg 232 [fc (pre.length+2) 0,cr f,cr d] G=some (I e,G2)) :
  bm pg qa (nkS pre k w a b c n X Y Z o0 o1 o2 G)=fo ⟨[(4,dz [I e])],[],G2⟩:=by
 have g:∀j:Int,j≠18->(k==j)=false:=λj m=>by rw[i];exact aU (λe=>m e.symm)
 have l:(k==18)=true:=by rw[i];rfl
 clear i;refine bg ?_;simp[qa,g 1 bz,g 4 bz,g 5 bz,g 6 bz,g 7 bz,g 8 bz,g 9 bz,g 10 bz,g 11 bz,g 12 bz,g 13 bz,g 14 bz,g 15 bz,g 16 bz,g 17 bz,l,p,o,h]
theorem Ja (f:k=19)
  {R:fw} {q:Int} (i:X[0]?=some (I q)) (h:ac pg 234 [fc (pre.length+2) 0,I q,cr Y,cr Z] G=some (cr R,G2)) :
  bm pg qa (nkS pre k w a b c n X Y Z o0 o1 o2 G)=fo ⟨[(4,cr R)],[],G2⟩:=by
 have d:∀j:Int,j≠19->(k==j)=false:=λj l=>by rw[f];exact aU (λe=>l e.symm)
 have g:(k==19)=true:=by rw[f];rfl
 clear f;refine bg ?_;simp[qa,d 1 bz,d 4 bz,d 5 bz,d 6 bz,d 7 bz,d 8 bz,d 9 bz,d 10 bz,d 11 bz,d 12 bz,d 13 bz,d 14 bz,d 15 bz,d 16 bz,d 17 bz,d 18 bz,g,i,h]
theorem Jb (f:k=20)
  (h:ac pg 107 [cr [cr Y,cr X]] G=some (cr (Y++X),G)) :
  bm pg qa (nkS pre k w a b c n X Y Z o0 o1 o2 G)=fo ⟨[(4,cr (Y++X))],[],G⟩:=by
 have d:∀j:Int,j≠20->(k==j)=false:=λj i=>by rw[f];exact aU (λe=>i e.symm)
 have g:(k==20)=true:=by rw[f];rfl
 clear f;refine bg ?_;simp[qa,d 1 bz,d 4 bz,d 5 bz,d 6 bz,d 7 bz,d 8 bz,d 9 bz,d 10 bz,d 11 bz,d 12 bz,d 13 bz,d 14 bz,d 15 bz,d 16 bz,d 17 bz,d 18 bz,d 19 bz,g,h]
theorem Jc (g:k=21)
  {N W:Nat} (s:n=(N:Int)) (q:WI.wrap (n+w)=((N+W:Nat):Int)) (m:N+W<=X.length) :
  bm pg qa (nkS pre k w a b c n X Y Z o0 o1 o2 G)=fo ⟨[(4,cr ((X.take (N+W)).drop N))],[],G⟩:=by
 have d:∀j:Int,j≠21->(k==j)=false:=λj o=>by rw[g];exact aU (λe=>o e.symm)
 have i:(k==21)=true:=by rw[g];rfl
 clear g;have h:n.toNat=N:=aj;have f:0<=n:=aj;have p:(0:Int)<=((N+W:Nat):Int):=aj;have r:N<=N+W:=aj;have l:N+W-N=W:=aj;refine bg ?_;simp[qa,d 1 bz,d 4 bz,d 5 bz,d 6 bz,d 7 bz,d 8 bz,d 9 bz,d 10 bz,d 11 bz,d 12 bz,d 13 bz,d 14 bz,d 15 bz,d 16 bz,d 17 bz,d 18 bz,d 19 bz,d 20 bz,i,h,f,q,m,-Int.natCast_add]
theorem Jd (f:k=22)
  {R:fw} (h:ac pg 235 [cr X,I w,I 0] G=some (cr R,G)) :
  bm pg qa (nkS pre k w a b c n X Y Z o0 o1 o2 G)=fo ⟨[(4,cr R)],[],G⟩:=by
 have d:∀j:Int,j≠22->(k==j)=false:=λj i=>by rw[f];exact aU (λe=>i e.symm)
 have g:(k==22)=true:=by rw[f];rfl
 clear f;refine bg ?_;simp[qa,d 1 bz,d 4 bz,d 5 bz,d 6 bz,d 7 bz,d 8 bz,d 9 bz,d 10 bz,d 11 bz,d 12 bz,d 13 bz,d 14 bz,d 15 bz,d 16 bz,d 17 bz,d 18 bz,d 19 bz,d 20 bz,d 21 bz,g,h]
theorem Je (i:k=23) {R:fw} {q:Int} {m:Nat} (p:X.length=m+1) (o:m<=100) (l:X[m]?=some (I q)) (h:ac pg 235 [cr X,I w,I q] G=some (cr R,G)) :
  bm pg qa (nkS pre k w a b c n X Y Z o0 o1 o2 G)=fo ⟨[(4,cr R)],[],G⟩:=by
 have d:∀j:Int,j≠23->(k==j)=false:=λj r=>by rw[i];exact aU (λe=>r e.symm)
 have g:WI.wrap ((X.length:Int)-1)=(m:Int):=by rw[aq aj aj];omega
 clear p
 have f:bm pg q8u ⟨[(3,ec),(8,cr X),(223,.bool false)],[[I k,I w,I a,I b,I c,I n]],G⟩=fo ⟨[(4,cr R)],[],G⟩:=
  bg (by simp[q8u,g,l,h])
 clear i;refine bg ?_;simp[qa,d 1 bz,d 4 bz,d 5 bz,d 6 bz,d 7 bz,d 8 bz,d 9 bz,d 10 bz,d 11 bz,d 12 bz,d 13 bz,d 14 bz,d 15 bz,d 16 bz,d 17 bz,d 18 bz,d 19 bz,d 20 bz,d 21 bz,d 22 bz,f]
end
end
section
attribute [local congr] bu
attribute [local simp] au
theorem kB (l:fS) (i:Nat):(num l).testBit i=l.getD i false:=by
 rw[Nat.testBit_eq_decide_div_mod_eq];cases h:l.getD i false with
 |true=>exact aG ((uf l i).1 h)
 |false=>exact aF (λe=>by rw[(uf l i).2 e] at h;cases h)
theorem rH (op:Bool->Bool->Bool) (a:op false false=false):∀{xs ys:fS},xs.length=ys.length->∀i,(List.zipWith op xs ys).getD i false=op (xs.getD i false) (ys.getD i false)
 |[],[],_,i=>by simp[a]
 |x::xs,y::ys,h,0=>rfl
 |x::xs,y::ys,h,i+1=>rH op a (xs:=xs) (ys:=ys) (by simpa using h) i
theorem nn {op:Bool->Bool->Bool} {a b:fS} (h:a.length=b.length):(List.zipWith op a b).length=a.length:=by simp[h]
theorem Jf {b a:fS} (h:b.length=a.length):num (List.zipWith (· && ·) b a)=num b &&&num a:=
 Nat.eq_of_testBit_eq λi=>by rw[kB,rH _ rfl h,Nat.testBit_and,kB,kB]
theorem Jg {b a:fS} (h:b.length=a.length):num (List.zipWith (· || ·) b a)=num b |||num a:=
 Nat.eq_of_testBit_eq λi=>by rw[kB,rH _ rfl h,Nat.testBit_or,kB,kB]
theorem Jh {b a:fS} (h:b.length=a.length):num (List.zipWith (· ^^ ·) b a)=num b ^^^num a:=
 Nat.eq_of_testBit_eq λi=>by rw[kB,rH _ rfl h,Nat.testBit_xor,kB,kB]
def eqB:fS->fS->Bool->Bool
 |x::b,y::a,c=>eqB b a (c&& !(x ^^y))
 |_,_,c=>c
theorem z8:∀{b a:fS} {c:Bool},b.length=a.length->eqB b a c=(c&&decide (num b=num a))
 |[],[],c,_=>by simp[eqB]
 | x::b,y::a,c,h=>by
  rw[eqB,z8 (by simpa using h),num,num];have e:decide ((if x then 1 else 0)+2*num b=(if y then 1 else 0)+2*num a)=(!(x ^^y)&&decide (num b=num a)):=by
   by_cases h:num b=num a
   ·rw[h,aG (p:=num a=num a) rfl]
    cases x<;>cases y<;>simp<;>omega
   ·rw[aF h,Bool.and_false]
    exact aF (by cases x<;>cases y<;>simp<;>omega)
  rw[e];cases c<;>cases (x ^^y)<;>simp
def gr (x:fS):fS:=x.set (x.length-1) (!x.getD (x.length-1) false)
theorem uJ (x:fS):(gr x).length=x.length:=by simp[gr]
theorem Aa {x:fS} {n:Nat} (h:x.length=n+1):num x=num (x.take n)+2^n*(if x.getD n false then 1 else 0)/\num (gr x)=num (x.take n)+2^n*(if x.getD n false then 0 else 1):=by
 have e:∀y:fS,y.length=n+1->num y=num (y.take n)+2^n*(if y.getD n false then 1 else 0):=by
  intro y b;have:=jS (y.take n) (y.drop n);rw[List.take_append_drop,cR,b,Nat.min_eq_left aj] at this;rw[this];have d:y.drop n=[y.getD n false]:=by rw[aJ aj,aM aj,aK,aA aj];rfl
  rw[d];cases y.getD n false<;>simp[num]
 refine⟨e x h,?_⟩;have a:=e (gr x) (by rw[uJ,h]);have c:gr x=x.set n (!x.getD n false):=by unfold gr;rw[h,Nat.add_sub_cancel]
 rw[c] at a ⊢;rw[a,List.take_set_of_le (cW n),aK (l:=x.set n _),List.getElem?_set_self aj];cases x.getD n false<;>rfl
theorem uK {x:fS} {n:Nat} (h:x.length=n+1) (c:n+1<=8):iM (num x) (n+1:Nat)=(num (gr x):Int)-((2^n:Nat):Int):=by
 have a:=cz x;rw[h] at a;rw[HH ⟨aj,c⟩ a];obtain⟨e,d⟩:=Aa h;have f:num (x.take n)<2^n:=by have:=cz (x.take n);rw[cR,h,Nat.min_eq_left aj] at this;exact this
 have b:(2:Nat)^(n+1)=2*2^n:=by rw[Nat.pow_succ,Nat.mul_comm]
 rw[Nat.add_sub_cancel];rw[e,d,b];generalize (2:Nat)^n=P at *;cases x.getD n false
 ·simp;omega
 ·simp;omega
section
variable {W:Nat} {x y z:fS} {b c n w0 w1:Int}
theorem fQ (a:W<=8):2^W<=256:=bQ (n:=2) bz a
theorem v4 (a:1<=W/\W<=8) (d:x.length=W):(num (x.map (!·)):Int)=cy 4 W (num x) b c n w0 w1:=by have h:=cz x;have e:=oJ x;have f:=fQ a.2;rw[d] at h e;rw[fA _ _ _ _ _ _ _ a.2,show dZ 4 (num x) b c n w0 w1=mS .i64 (num x) from rfl,<-HI a h];generalize 2^W=P at *;rw[aq (n:=(P:Int)-1) aj aj,aq aj aj];omega
theorem v5 (a:1<=W/\W<=8) (d:x.length=W):(num (tp (zB W) x):Int)=cy 5 W (num x) b c n w0 w1:=by have h:=cz x;have e:=fQ a.2;rw[d] at h;rw[fA _ _ _ _ _ _ _ a.2,show dZ 5 (num x) b c n w0 w1=WI.wrap (0-(num x:Int)) from rfl,<-HJ a h];rw[uh (by simp[zB,d]),show (zB W).length=W by simp[zB],show num (zB W)=0 from iN W];generalize 2^W=P at *;rw[aq aj aj,Int.tmod_eq_emod_of_nonneg aj,<-(show ((0+P-num x:Nat):Int)=(P:Int)-num x by omega)];exact Int.natCast_emod _ _
theorem v6 (a:1<=W/\W<=8) (e:x.length=W) (d:y.length=W):(num (List.zipWith (· && ·) x y):Int)=cy 6 W (num x) (num y) c n w0 w1:=by have h:=cz x;have f:=cz y;have b:=cz (List.zipWith (· && ·) x y);have g:=fQ a.2;rw[nn aj] at b;rw[e] at h b;rw[d] at f;rw[fA _ _ _ _ _ _ _ a.2,show dZ 6 (num x) (num y) c n w0 w1=jI .i64 (num x) (num y) from rfl,tP aj aj,<-Jf aj];exact (Int.emod_eq_of_lt aj aj).symm
theorem v7 (a:1<=W/\W<=8) (e:x.length=W) (d:y.length=W):(num (List.zipWith (· || ·) x y):Int)=cy 7 W (num x) (num y) c n w0 w1:=by have h:=cz x;have f:=cz y;have b:=cz (List.zipWith (· || ·) x y);have g:=fQ a.2;rw[nn aj] at b;rw[e] at h b;rw[d] at f;rw[fA _ _ _ _ _ _ _ a.2,show dZ 7 (num x) (num y) c n w0 w1=iOr .i64 (num x) (num y) from rfl,tQ aj aj,<-Jg aj];exact (Int.emod_eq_of_lt aj aj).symm
theorem v8 (a:1<=W/\W<=8) (e:x.length=W) (d:y.length=W):(num (List.zipWith (· ^^ ·) x y):Int)=cy 8 W (num x) (num y) c n w0 w1:=by have h:=cz x;have f:=cz y;have b:=cz (List.zipWith (· ^^ ·) x y);have g:=fQ a.2;rw[nn aj] at b;rw[e] at h b;rw[d] at f;rw[fA _ _ _ _ _ _ _ a.2,show dZ 8 (num x) (num y) c n w0 w1=gz .i64 (num x) (num y) from rfl,Gw aj aj,<-Jh aj];exact (Int.emod_eq_of_lt aj aj).symm
theorem v9 (b:1<=W/\W<=8) (a:x.length=W) (d:y.length=W):(num (eo x y false).1:Int)=cy 9 W (num x) (num y) c n w0 w1:=by have h:=cz x;have e:=cz y;have f:=fQ b.2;rw[a] at h;rw[d] at e;rw[fA _ _ _ _ _ _ _ b.2,show dZ 9 (num x) (num y) c n w0 w1=WI.wrap ((num x:Int)+num y) from rfl,zp aj,a,aq aj aj,<-Int.natCast_add];exact Int.natCast_emod _ _
theorem v10 (a:1<=W/\W<=8) (b:x.length=W) (e:y.length=W):(num (tp x y):Int)=cy 10 W (num x) (num y) c n w0 w1:=by have h:=cz x;have d:=cz y;have f:=fQ a.2;rw[b] at h;rw[e] at d;rw[fA _ _ _ _ _ _ _ a.2,show dZ 10 (num x) (num y) c n w0 w1=WI.wrap ((num x:Int)-num y) from rfl,<-HK a h d,uh aj,b];generalize 2^W=P at *;rw[aq (n:=(num x:Int)+P) aj aj,aq aj aj,Int.tmod_eq_emod_of_nonneg aj,<-(show ((num x+P-num y:Nat):Int)=(num x:Int)+P-num y by omega)];exact Int.natCast_emod _ _
theorem v11 (b:1<=W/\W<=8) (a:x.length=W) (d:y.length=W):(num (jn x 0 y (zB x.length)):Int)=cy 11 W (num x) (num y) c n w0 w1:=by have h:=cz x;have f:=cz y;have g:=fQ b.2;rw[a] at h;rw[d] at f;have i:num x*num y<=256*256:=Nat.mul_le_mul aj aj;rw[fA _ _ _ _ _ _ _ b.2,show dZ 11 (num x) (num y) c n w0 w1=WI.wrap ((num x:Int)*num y) from rfl,HQ aj,a];have e:((num x:Int)*num y)=((num x*num y:Nat):Int):=bh;rw[e,aq aj aj];exact Int.natCast_emod _ _
theorem v12 (b:1<=W/\W<=8) (f:x.length=W) (g:y.length=W) (q:Nat) (a:q=if num y=0 then 2^x.length-1 else num x/num y):(q:Int)=cy 12 W (num x) (num y) c n w0 w1:=by
 have h:=cz x;have i:=fQ b.2;rw[f] at h a;rw[fA _ _ _ _ _ _ _ b.2,show dZ 12 (num x) (num y) c n w0 w1=(if (num y:Int)=0 then -1 else WI.wrap (Int.tdiv (num x) (num y))) from rfl];have k:1<=2^W:=Nat.one_le_two_pow;by_cases d:num y=0
 ·rw[if_pos d] at a
  rw[if_pos aj,<-HL b,a];generalize 2^W=P at *;rw[aq aj aj];omega
 ·rw[if_neg d] at a
  rw[if_neg aj,<-HM b h,a];have j:num x/num y<=num x:=Nat.div_le_self _ _;have e:Int.tdiv (num x:Int) (num y)=((num x/num y:Nat):Int):=by rw[Int.tdiv_eq_ediv_of_nonneg aj];simp
  rw[e,aq aj aj]
theorem v13 (b:1<=W/\W<=8) (e:x.length=W) (f:y.length=W) (q:Nat) (a:q=if num y=0 then num x else num x%num y):(q:Int)=cy 13 W (num x) (num y) c n w0 w1:=by
 have h:=cz x;have g:=fQ b.2;rw[e] at h;rw[fA _ _ _ _ _ _ _ b.2,show dZ 13 (num x) (num y) c n w0 w1=(if (num y:Int)=0 then (num x:Int) else Int.tmod (num x) (num y)) from rfl];by_cases d:num y=0
 ·rw[if_pos d] at a
  rw[if_pos aj,a];exact (Int.emod_eq_of_lt aj aj).symm
 ·rw[if_neg d] at a
  rw[if_neg aj,<-HN h,a];rw[Int.tmod_eq_emod_of_nonneg aj];simp
theorem v14 (a:1<=W/\W<=8) (d:x.length=W):(num (shB true 0 y x):Int)=cy 14 W (num x) (num y) c n w0 w1:=by
 have h:=cz x;have i:=fQ a.2;rw[d] at h;rw[fA _ _ _ _ _ _ _ a.2,show dZ 14 (num x) (num y) c n w0 w1=eR .i64 (num x) (num y) from rfl,zt,d,Nat.pow_zero,Nat.one_mul];by_cases g:W<=num y
 ·rw[Int.natCast_pow 2 W]
  have:=GC (A:=num x) (b:=num y) a.2 g;rw[show ((2:Nat):Int)=2 from rfl,this,show num y=W+(num y-W) by omega,Nat.pow_add,<-Nat.mul_assoc,Nat.mul_right_comm,Nat.mul_mod_left];rfl
 ·have f:2^num y<=256:=fQ (W:=num y) aj
  have j:num x*2^num y<=256*256:=Nat.mul_le_mul aj f;rw[<-HO a h aj];have e:((num x:Int)*((2^num y:Nat):Int))=((num x*2^num y:Nat):Int):=bh;rw[e,aq aj aj,Int.tmod_eq_emod_of_nonneg aj];exact Int.natCast_emod _ _
theorem v15 (a:1<=W/\W<=8) (b:x.length=W):(num (shB false 0 y x):Int)=cy 15 W (num x) (num y) c n w0 w1:=by have h:=cz x;have d:=fQ a.2;rw[b] at h;have e:num x/2^num y<=num x:=Nat.div_le_self _ _;rw[fA _ _ _ _ _ _ _ a.2,show dZ 15 (num x) (num y) c n w0 w1=kg .i64 (num x) (num y) from rfl,zu,Nat.pow_zero,Nat.one_mul,qX _ _ aj];generalize num x/2^num y=q at *;exact (Int.emod_eq_of_lt aj aj).symm
theorem rI (b:Bool):(num [b]:Int)=if b then 1 else 0:=by cases b<;>rfl
theorem v16 (a:x.length=y.length):(num [eqB x y true]:Int)=cy 16 (1:Nat) (num x) (num y) c n w0 w1:=by
 rw[fA _ _ _ _ _ _ _ bz,show dZ 16 (num x) (num y) c n w0 w1=(if (num x:Int)=num y then 1 else 0) from rfl,z8 a,Bool.true_and,rI];by_cases h:num x=num y
 ·rw[aG h,if_pos rfl,if_pos aj];rfl
 ·rw[aF h,if_neg bh,if_neg aj];rfl
theorem v17 (a:x.length=y.length):(num [iO x y]:Int)=cy 17 (1:Nat) (num x) (num y) c n w0 w1:=by
 rw[fA _ _ _ _ _ _ _ bz,show dZ 17 (num x) (num y) c n w0 w1=(if (num x:Int)<num y then 1 else 0) from rfl,ug a,rI];by_cases h:num x<num y
 ·rw[aG h,if_pos rfl,if_pos aj];rfl
 ·rw[aF h,if_neg bh,if_neg aj];rfl
theorem v18 (e:1<=x.length/\x.length<=8) (d:x.length=y.length):(num [iO (gr x) (gr y)]:Int)=cy 18 (1:Nat) (num x) (num y) c n (x.length:Nat) (y.length:Nat):=by
 obtain⟨m,b⟩:∃m,x.length=m+1:=⟨x.length-1,aj⟩
 have a:y.length=m+1:=aj;rw[fA _ _ _ _ _ _ _ bz,show dZ 18 (num x) (num y) c n (x.length:Nat) (y.length:Nat)=(if iM (num x) (x.length:Nat)<iM (num y) (y.length:Nat) then 1 else 0) from rfl,ug (by rw[uJ,uJ,d]),rI,b,a,uK b aj,uK a aj];by_cases h:num (gr x)<num (gr y)
 ·rw[aG h,if_pos rfl,if_pos aj];rfl
 ·rw[aF h,if_neg bh,if_neg aj];rfl
theorem v19 (e:1<=W/\W<=8) (d:x.length=1) (c:y.length=W) (a:z.length=W):(num (d9 (x.getD 0 false) y z):Int)=cy 19 W (num x) (num y) (num z) n w0 w1:=by
 have h:=cz y;have f:=cz z;rw[c] at h;rw[a] at f;rw[fA _ _ _ _ _ _ _ e.2,show dZ 19 (num x) (num y) (num z) n w0 w1=(if (num x:Int)=1 then (num y:Int) else num z) from rfl]
 match x,d with
 | [b],_=>
  rw[rI];cases b
  ·show ((num z:Nat):Int)=((num z:Nat):Int)%_
   exact (Int.emod_eq_of_lt aj aj).symm
  ·show ((num y:Nat):Int)=((num y:Nat):Int)%_
   exact (Int.emod_eq_of_lt aj aj).symm
theorem v20 (a:1<=W/\W<=8) (d:x.length+y.length=W):(num (y++x):Int)=cy 20 W (num x) (num y) c n w0 (y.length:Nat):=by
 have h:=cz x;have f:=cz y;have b:=cz (y++x);have g:=fQ a.2;rw[aQ,Nat.add_comm,d] at b;subst d;rw[fA _ _ _ _ _ _ _ a.2,show dZ 20 (num x) (num y) c n w0 (y.length:Nat)=iOr .i64 (eR .i64 (num x) (y.length:Nat)) (num y) from rfl,<-HP h f a.2];rw[jS] at b ⊢;have e:(num x:Int)*((2^y.length:Nat):Int)=((2^y.length*num x:Nat):Int):=by rw[Nat.mul_comm];simp
 rw[e,aq (n:=((2^y.length*num x:Nat):Int)) aj aj,aq aj aj];omega
theorem v21 {N:Nat} (d:1<=W/\W<=8) (a:x.length<=8):(num ((x.drop N).take W):Int)=cy 21 W (num x) b c (N:Nat) w0 w1:=by have h:=cz x;have e:=fQ a;rw[fA _ _ _ _ _ _ _ d.2,show dZ 21 (num x) b c (N:Nat) w0 w1=kg .i64 (num x) (N:Nat) from rfl,qX _ _ aj,Of,zo];exact Int.natCast_emod _ _
theorem v22 (d:1<=W/\W<=8) (a:x.length<=W):(num (x++List.replicate (W-x.length) false):Int)=cy 22 W (num x) b c n w0 w1:=by have h:=cz x;have e:2^x.length<=2^W:=bQ bz a;rw[fA _ _ _ _ _ _ _ d.2,show dZ 22 (num x) b c n w0 w1=(num x:Int) from rfl,jS,iN];rw[Nat.mul_zero,cG];exact (Int.emod_eq_of_lt aj aj).symm
theorem Ab:∀n:Nat,num (List.replicate n true)+1=2^n
 |0=>rfl
 |n+1=>by have:=Ab n;rw[List.replicate_succ,num,Nat.pow_succ];simp;omega
theorem v23 (j:1<=W/\W<=8) (o:1<=x.length/\x.length<=W):(num (x++List.replicate (W-x.length) (x.getD (x.length-1) false)):Int)=cy 23 W (num x) b c n (x.length:Nat) w1:=by
 obtain⟨m,e⟩:∃m,x.length=m+1:=⟨x.length-1,aj⟩
 have h:=cz x;have q:=fQ j.2;obtain⟨d,a⟩:=Aa e;have p:num (x.take m)<2^m:=by have:=cz (x.take m);rw[cR,e,Nat.min_eq_left aj] at this;exact this
 rw[fA _ _ _ _ _ _ _ j.2,show dZ 23 (num x) b c n (x.length:Nat) w1=iM (num x) (x.length:Nat) from rfl,jS,e,uK e aj,Nat.add_sub_cancel];have f:2^(m+1)*2^(W-(m+1))=2^W:=by rw[<-Nat.pow_add];congr 1;omega
 have k:(2:Nat)^(m+1)=2*2^m:=by rw[Nat.pow_succ,Nat.mul_comm]
 have l:2^(m+1)<=2^W:=bQ bz aj;have r:1<=2^m:=Nat.one_le_two_pow;cases i:x.getD m false with
 |false=>
  rw[i] at d a;simp at d a;rw[iN,Nat.mul_zero,cG,d,a];generalize 2^W=P at *;rw[show ((num (x.take m)+2^m:Nat):Int)-((2^m:Nat):Int)=(num (x.take m):Int) by omega];exact (Int.emod_eq_of_lt aj aj).symm
 | true=>
  rw[i] at d a;simp at d a;have hn:=Ab (W-(m+1));have g:2^(m+1)*num (List.replicate (W-(m+1)) true)+2^(m+1)=2^W:=by rw[<-f,<-hn,Nat.mul_add,Nat.mul_one]
  rw[d,a];generalize 2^(m+1)*num (List.replicate (W-(m+1)) true)=Q,2^W=P,2^m=M at *;rw[<-Int.add_emod_right ((num (x.take m):Int)-(M:Int)) (P:Int)];rw[Int.emod_eq_of_lt aj aj];omega
end
end
section
attribute [local congr] bu
attribute [local simp] au
def eX (l:fq):List (PV×PV):=l.map λa=>(I a,B true)
def gE (l:fq) (k:Int):fq:=if k∈l then l else l++[k]
theorem Ji (l:fq) (k:Int):ef 0 (eX l) (I k) (B true)=some (eX (gE l k)):=by
 induction l with
 |nil=>rfl
 | cons a l d=>
  by_cases h:k=a
  ·simp[eX,gE,ef,dB,h]
  ·have b:ef 0 (l.map λa=>(I a,B true)) (I k) (B true)=some (eX (gE l k)):=d
   by_cases c:k∈l
   ·simp[eX,gE,ef,dB,aU h,h,c] at b ⊢
    exact b
   ·simp[eX,gE,ef,dB,aU h,h,c] at b ⊢
    exact b
def fm (l:fq) (a:fq):fq:=a.foldl gE l
theorem Jj (l:fq) (k:Int):(gE l k).length=if k∈l then l.length else l.length+1:=by unfold gE;split<;>simp
theorem Jk {l:fq} {k a:Int}:a∈gE l k↔a∈l\/a=k:=by
 unfold gE;split
 ·rename_i h
  exact⟨.inl,λb=>b.elim id λe=>e▸h⟩
 ·simp
theorem Ac:∀(b l:fq),(fm l b).length<=l.length+b.length/\((fm l b).length=l.length+b.length↔(b.Nodup/\∀a∈b,a∉l))
 |[],l=>by simp[fm]
 | x::b,l=>by
  have f:=Ac b (gE l x);have e:fm l (x::b)=fm (gE l x) b:=rfl;rw[e];have d:=Jj l x;by_cases h:x∈l
  ·rw[if_pos h] at d
   rw[d] at f;refine⟨by simp;omega,⟨λk=>by simp at k;omega,λ⟨_,c⟩=>absurd h (c x bh)⟩⟩
  ·rw[if_neg h] at d
   rw[d] at f;refine⟨by simp;omega,?_⟩;have o:(x::b).length=b.length+1:=rfl;rw[o,show l.length+(b.length+1)=l.length+1+b.length by omega,f.2];simp only[List.nodup_cons,List.mem_cons,Jk];constructor
   ·rintro⟨i,c⟩
    refine⟨⟨λj=>(c x j) (.inr rfl),i⟩,?_⟩;rintro a (rfl|ha)
    ·exact h
    ·exact λg=>c a ha (.inl g)
   ·rintro⟨⟨i,c⟩,n⟩
    refine⟨c,λa ha=>?_⟩;rintro (m|rfl)
    ·exact n a (.inr ha) m
    ·exact i ha
def dK (a:fN):Prop:=¬(a.map (·.1)).Nodup
instance (a:fN):Decidable (dK a):=by unfold dK;exact inferInstance
theorem Ad (a:fN):((fm [] (a.map (·.1))).length<a.length)↔dK a:=by have:=Ac (a.map (·.1)) [];simp at this;unfold dK;rw[<-this.2];omega
section
variable {m:Md} {gh:fB}
theorem Ae {d:fN} {k:Nat} (l:Sz d.length):∀n j (c:fq),j+n=d.length->
  bm pg qev ⟨[(9,LP d),(10,.mp gh.length),(56,ld m),(57,I 2),(58,I (k:Int)),(63,LP d),(64,I d.length),(65,I (j:Int))],[],gh++[.map (eX c)]⟩=
   fg ⟨[(9,LP d),(10,.mp gh.length),(56,ld m),(57,I 2),(58,I (k:Int))],[],gh++[.map (eX (fm c ((d.drop j).map (·.1))))]⟩
 |0,j,c,h=>by
  rw[aM aj];have e:¬(j:Int)<(d.length:Int):=aj;refine (bn (s1:=?J) (bg ?Z)).trans ?Y
  case Z=>simp[qa0,e];rfl
  case Y=>simp[keep,bj,fm]
 |n+1,j,c,h=>by
  have e:j<d.length:=aj;have f:(j:Int)<(d.length:Int):=aj;have q:WI.wrap ((j:Int)+1)=((j+1:Nat):Int):=gv (by simp only[Sz] at l ⊢;omega);have g:(d.map andV)[j]?=some (andV d[j]):=by simp[aA e]
  rw[mT] at g;rw[aJ e];generalize d[j]=p at *;obtain⟨a,b⟩:=p;simp only[bS] at g ⊢;have i:fm c (a::(d.drop (j+1)).map (·.1))=fm (gE c a) ((d.drop (j+1)).map (·.1)):=rfl;rw[i];have o:=Ji c a;refine ay (s1:=⟨[(9,LP d),(10,.mp gh.length),(56,ld m),(57,I 2),(58,I (k:Int)),(63,LP d),(64,I d.length),(65,I ((j+1:Nat):Int))],[],gh++[GObj.map (eX (gE c a))]⟩) (bg ?_) (Ae (k:=k) l n (j+1) (gE c a) aj);simp[qa0,f,g,q,o,-List.getElem?_map]
theorem Af {ps:fN} {k:Nat} (j:(k=0/\ps=m.inits)\/(k=1/\ps=m.nexts)) (o:Sz ps.length) :
  bm pg q3x ⟨[(56,ld m),(57,I 2),(58,I (k:Int))],[],gh⟩=
   if dK ps then fo ⟨[(2,I 6)],[],gh++[.map (eX (fm [] (ps.map (·.1))))]⟩
   else fg ⟨[(56,ld m),(57,I 2),(58,I ((k+1:Nat):Int))],[],gh++[.map (eX (fm [] (ps.map (·.1))))]⟩:=by
 have g:=Ae (m:=m) (gh:=gh) (k:=k) o ps.length 0 [] aj;rw[bJ] at g;simp only[aR] at g;have h:∀l,(eX l).length=l.length:=λl=>by simp[eX]
 have p:decide (((fm [] (ps.map (·.1))).length:Int)<(ps.length:Int))=decide (dK ps):=by have:=Ad ps;exact decide_eq_decide.2 (by rw[<-this];omega)
 have d:decide ((fm [] (ps.map (·.1))).length<ps.length)=decide (dK ps):=decide_eq_decide.2 (Ad ps);have i:eX []=[]:=rfl;rw[i] at g;have q:WI.wrap ((k:Int)+1)=((k+1:Nat):Int):=by rcases j with ⟨rfl,_⟩|⟨rfl,_⟩<;>decide
 have f:([LP m.inits,LP m.nexts]:fw)[k]?=some (LP ps):=by rcases j with ⟨rfl,rfl⟩|⟨rfl,rfl⟩<;>rfl
 have e:(k:Int)<2:=aj;generalize t:fm [] (ps.map (·.1))=A at *
 have a:=bg (c:=qa1) (s:=⟨[(9,(LP ps)),(10,(.mp gh.length)),(56,(ld m)),(57,(.int .i64 2)),(58,(.int .i64 k))],[],(gh++[.map (eX A)])⟩) (pg:=pg)
  (r:=some (if dK ps then .ret else .normal,if dK ps then ⟨[(2,I 6)],[],gh++[.map (eX A)]⟩ else ⟨[(56,ld m),(57,I 2),(58,I (k:Int)),(77,B false)],[],gh++[.map (eX A)]⟩))
  (by simp[qa1,h,d];by_cases b:dK ps<;>simp[b])
 have n:=bg (c:=qa2) (s:=⟨[(56,(ld m)),(57,(.int .i64 2)),(58,(.int .i64 k)),(77,(.bool false))],[],(gh++[.map (eX A)])⟩) (r:=fg ⟨[(56,ld m),(57,I 2),(58,I ((k+1:Nat):Int))],[],gh++[.map (eX A)]⟩) (pg:=pg) (by simp[qa2,q]);by_cases b:dK ps
 ·rw[if_pos b] at a ⊢
  rw[if_pos b] at a;refine bg ?_;simp[q3x,e,f,g,a]
 ·rw[if_neg b] at a ⊢
  rw[if_neg b] at a;refine bg ?_;simp[q3x,e,f,g,a,n]
end
end
section
attribute [local congr] bu
attribute [local simp] au Gi
def iz (m:Md) (f:fS):Int:=
 if di m.nodes f true m.inits≠0 then di m.nodes f true m.inits else if di m.nodes f false m.nexts≠0 then di m.nodes f false m.nexts
 else if dK m.inits\/dK m.nexts then 6 else 0
section
variable {m:Md} {gh:fB}
theorem Jl {f:fS} (j:f.length=m.nodes.length) (q:Sz m.inits.length) (p:Sz m.nexts.length) :
  bm pg qeu ⟨[(0,fc gh.length 0),(23,ld m),(24,I 2),(25,I 0)],[],ckG gh m f⟩=
   if di m.nodes f true m.inits≠0 then fo ⟨[(2,I (di m.nodes f true m.inits))],[],ckG gh m f⟩
   else if di m.nodes f false m.nexts≠0 then fo ⟨[(2,I (di m.nodes f false m.nexts))],[],ckG gh m f⟩
   else fg ⟨[(0,fc gh.length 0)],[],ckG gh m f⟩:=by
 have b:=uH (gh:=gh) (m:=m) (ps:=m.inits) (k:=0) j q m.inits.length 0 aj;have a:=uH (gh:=gh) (m:=m) (ps:=m.nexts) (k:=1) j p m.nexts.length 0 aj;rw[bJ] at b a;unfold Gi at b a;simp only[aR,decide_true] at b a;rw[show decide (1=0)=false from rfl] at a;simp only[Int.natCast_one] at b a;have o:WI.wrap (0+1)=1:=bz;have n:WI.wrap (1+1)=2:=bz;have i:∀x,bm pg q9z ⟨[(0,fc gh.length 0),(23,ld m),(24,I 2),(25,I x)],[],ckG gh m f⟩=fg ⟨[(0,fc gh.length 0),(23,ld m),(24,I 2),(25,I (WI.wrap (x+1)))],[],ckG gh m f⟩:=λx=>by refine bg ?_;simp[q9z]
 generalize ckG gh m f=l at *;by_cases g:di m.nodes f true m.inits=0
 ·rw[if_pos g] at b
  rw[if_neg (λh=>h g)];have d:=i 0;rw[o] at d;refine ay (s1:=⟨[(0,fc gh.length 0),(23,ld m),(24,I 2),(25,I 1)],[],l⟩) (bg (by simp[q3c,b,d])) ?_;by_cases e:di m.nodes f false m.nexts=0
  ·rw[if_pos e] at a
   rw[if_neg (λh=>h e)];have c:=i 1;rw[n] at c;refine ay (s1:=⟨[(0,fc gh.length 0),(23,ld m),(24,I 2),(25,I 2)],[],l⟩) (bg (by simp[q3c,a,c])) ?_;refine (bn (s1:=?J) (bg ?Z)).trans ?Y
   case Z=>simp[q3c];rfl
   case Y=>simp[keep,bj]
  ·rw[if_neg e] at a
   rw[if_pos e];refine cx (bg ?_);simp[q3c,a]
 ·rw[if_neg g] at b
  rw[if_pos g];refine cx (bg ?_);simp[q3c,b]
theorem Jm (i:Sz m.inits.length) (f:Sz m.nexts.length):∃e,
  bm pg qew ⟨[(56,ld m),(57,I 2),(58,I 0)],[],gh⟩=
   if dK m.inits\/dK m.nexts then fo ⟨[(2,I 6)],[],gh++e⟩ else fg ⟨[],[],gh++e⟩:=by
 have b:=Af (gh:=gh) (m:=m) (ps:=m.inits) (k:=0) (.inl ⟨rfl,rfl⟩) i;have a:=λg=>Af (gh:=g) (m:=m) (ps:=m.nexts) (k:=1) (.inr ⟨rfl,rfl⟩) f
 simp only[aR,Int.natCast_one,cX,show ((1+1:Nat):Int)=2 from rfl] at b a;generalize fm [] (m.inits.map (·.1))=A,fm [] (m.nexts.map (·.1))=B at *;by_cases d:dK m.inits
 ·rw[if_pos d] at b
  exact⟨_,by rw[if_pos (.inl d)];exact cx b⟩
 ·rw[if_neg d] at b
  have a:=a (gh++[.map (eX A)]);by_cases c:dK m.nexts
  ·rw[if_pos c] at a
   refine⟨[.map (eX A)]++[.map (eX B)],?_⟩;rw[if_pos (.inr c),<-aT];exact ay b (cx a)
  ·rw[if_neg c] at a
   refine⟨[.map (eX A)]++[.map (eX B)],?_⟩;rw[if_neg (by rintro (h|h)<;>contradiction),<-aT];refine ay b (ay a ((bn (s1:=?J) (bg ?Z)).trans ?Y))
   case Z=>simp[q3x];rfl
   case Y=>simp[keep]
theorem Jn {f:fS} (q:f.length=m.nodes.length) (j:Sz m.inits.length) (i:Sz m.nexts.length) :
  ac pg 79 [fc gh.length 0] (ckG gh m f)=some (I (iz m f),ckG gh m f):=by
 have a:=Jl (gh:=gh) q j i;obtain⟨k,d⟩:=Jm (m:=m) (gh:=ckG gh m f) j i;have b:=uF (gh:=gh) (m:=m) (f:=f);unfold iz;have e:∀g,bm pg q6k ⟨[],[],g⟩=fo ⟨[(2,I 0)],[],g⟩:=λg=>bg (c:=q6k) (s:=⟨[],[],_⟩) (by simp[q6k]<;>rfl)
 have p:bm pg q6l ⟨[(0,fc gh.length 0)],[],ckG gh m f⟩=fo ⟨[(2,I (if dK m.inits\/dK m.nexts then 6 else 0))],[],ckG gh m f++k⟩:=by
  refine bg ?_;generalize ckG gh m f=l at *;have e:=e (l++k);by_cases t:dK m.inits\/dK m.nexts
  ·rw[if_pos t] at d
   simp[q6l,b,d,t]
  ·rw[if_neg t] at d
   simp[q6l,b,d,t,e]
 generalize (if dK m.inits\/dK m.nexts then (6:Int) else 0)=r,ckG gh m f=l at *;by_cases o:di m.nodes f true m.inits=0
 ·rw[if_neg (λh=>h o)] at a ⊢
  by_cases n:di m.nodes f false m.nexts=0
  ·rw[if_neg (λh=>h n)] at a ⊢
   refine ak (fn:=q1b) (s:=?J) rfl rfl (bg ?Z) ?Y
   case Z=>simp[q6m,q1b,b,a,p];rfl
   case Y=>simp[ag,results,q1b,ah,am,af]
  ·rw[if_pos n] at a ⊢
   refine ak (fn:=q1b) (s:=?K) rfl rfl (bg ?V) ?W
   case V=>simp[q6m,q1b,b,a];rfl
   case W=>simp[ag,results,q1b,ah,am,af]
 ·rw[if_pos o] at a ⊢
  refine ak (fn:=q1b) (s:=?Ja) rfl rfl (bg ?Jb) ?Jc
  case Jb=>simp[q6m,q1b,b,a];rfl
  case Jc=>simp[ag,results,q1b,ah,am,af]
def jp (m:Md):Int:=
 if m.nexts.length<(ci m.nodes 3).length then 5 else if (m.bads++m.holds).any (λa=> !decide (c8 m.nodes a)) then 5
 else if (m.bads++m.holds).any (λa=> !decide (wAt m.nodes a=1)) then 1 else 0
theorem Jo {f:fS} {n:Int} {g:fB} {b c:Nat} (h:g[b]?=some (.cells [LN m.nodes,LP m.inits,LP m.nexts,LI m.bads,LI m.holds,dz (f.map B)])) (e:g[c]?=some (.cells [fc b 0])) :
  ac pg 108 [I n,fc c 0] g=some (B (!decide (c8 m.nodes n)),g):=by
 have a:=uE (n:=n) h;generalize decide (c8 m.nodes n)=d at *;refine ak (fn:=q6r) (s:=?J) rfl rfl (bg ?Z) ?Y
 case Z=>simp[qf2,q6r,e,a];rfl
 case Y=>simp[ag,results,q6r,ah,am,af]
theorem Jp {f:fS} {n:Int} {g:fB} {b c:Nat} (e:g[b]?=some (.cells [LN m.nodes,LP m.inits,LP m.nexts,LI m.bads,LI m.holds,dz (f.map B)])) (d:g[c]?=some (.cells [fc b 0])) (hn:c8 m.nodes n) :
  ac pg 109 [I n,fc c 0] g=some (B (!decide (wAt m.nodes n=1)),g):=by
 have a:=iP hn;have h:=hn.1;unfold wAt;generalize m.nodes.getD n.toNat default=i at *;rw[dT i] at a;refine ak (fn:=q6s) (s:=?J) rfl rfl (bg ?Z) ?Y
 case Z=>simp[qf3,q6s,e,d,h,a,-List.getElem?_map];rfl
 case Y=>simp[ag,results,q6s,ah,am,af]
theorem Jq {f:fS} (D:m.nodes.length<=1000) (L:m.bads.length<=100) (H:m.holds.length<=100) :
  ac pg 80 [fc gh.length 0] (ckG gh m f)=some (I (jp m),ckG gh m f):=by
 have E:=uF (gh:=gh) (m:=m) (f:=f);have y:(ckG gh m f).length=gh.length+1:=by simp[ckG]
 generalize ckG gh m f=o at *;obtain⟨e,d⟩:∃e,e=o++[GObj.cells [fc gh.length 0]]:=⟨_,rfl⟩
 have g:e.take o.length=o:=by rw[d];simp
 have l:e[gh.length]?=some (.cells [LN m.nodes,LP m.inits,LP m.nexts,LI m.bads,LI m.holds,dz (f.map B)]):=by rw[d,aI aj];exact E
 have k:e[o.length]?=some (.cells [fc gh.length 0]):=by rw[d];simp
 have r:=ng (m:=m) (gh:=e) (kind:=3) D;rw[en] at r;have v:((m.bads.map I).length+(m.holds.map I).length)*8<=maxBytes:=by have:=MB;simp;omega
 have q:Sz (m.bads++m.holds).length:=by simp only[Sz,aQ];omega
 have i:=zV (gh:=e) (X:=m.bads.map I) (Y:=m.holds.map I) (noGs_ints _) (noGs_ints _) v;rw[<-bI] at i;have w:=tN (xs:=m.bads++m.holds) (c:=108) (caps:=[fc o.length 0]) (gh:=e) (λx _=>Jo (n:=x) l k) rfl q;have t:(∀a∈m.bads++m.holds,c8 m.nodes a)->_:=λhn=>tN (xs:=m.bads++m.holds) (c:=109) (caps:=[fc o.length 0]) (gh:=e) (λx C=>Jp l k (hn x C)) rfl q
 have u:(m.bads++m.holds).any (λa=> !decide (c8 m.nodes a))=false->∀a∈m.bads++m.holds,c8 m.nodes a:=λh a ha=>by have:=List.any_eq_false.1 h a ha;simpa using this
 unfold jp;generalize (m.bads++m.holds).any (λa=> !decide (c8 m.nodes a))=A,(m.bads++m.holds).any (λa=> !decide (wAt m.nodes a=1))=z,G:ci m.nodes 3=b at *;have j:(b.map I).length=b.length:=bh;have F:(m.nexts.map andV).length=m.nexts.length:=bh;simp only[LI] at *;generalize (m.bads++m.holds).map I=M,m.bads.map I=P,m.holds.map I=O,b.map I=Q,m.nexts.map andV=N at *;by_cases p:m.nexts.length<b.length
 ·rw[if_pos p]
  refine ak (fn:=qr) (s:=⟨[(2,I 5)],[],e⟩) rfl rfl (bg ?J) ?Z
  case J=>simp[q3y,qr];rw[<-d];simp[l,k,r,j,p]
  case Z=>simp[ag,results,qr,ah,am,af,g]
 ·rw[if_neg p]
  cases A with
  |true=>
   rw[if_pos rfl];refine ak (fn:=qr) (s:=⟨[(2,I 5)],[],e⟩) rfl rfl (bg ?Y) ?K
   case Y=>simp[q3y,qr];rw[<-d];simp[l,k,r,j,p,i,w]
   case K=>simp[ag,results,qr,ah,am,af,g]
  | false=>
   rw[if_neg bh];have t:=t (u rfl);cases z with
   |true=>
    rw[if_pos rfl];refine ak (fn:=qr) (s:=⟨[(2,I 1)],[],e⟩) rfl rfl (bg ?V) ?W
    case V=>simp[q3y,qr];rw[<-d];simp[l,k,r,j,p,i,w,t]
    case W=>simp[ag,results,qr,ah,am,af,g]
   |false=>
    rw[if_neg bh];refine ak (fn:=qr) (s:=⟨[(2,I 0)],[],e⟩) rfl rfl (bg ?Ja) ?Jb
    case Ja=>simp[q3y,qr];rw[<-d];simp[l,k,r,j,p,i,w,t]
    case Jb=>simp[ag,results,qr,ah,am,af,g]
def fG (L:List Nd):Nat->List Nd->Int
 |_,[]=>0
 |i,x::l=>if eA L i x=0 then fG L (i+1) l else eA L i x
def dc (m:Md):Int:=
 if m.nodes.length>80\/m.bads.length>8\/m.holds.length>8 then 2
 else if fG m.nodes 0 m.nodes≠0 then fG m.nodes 0 m.nodes
 else if cw m.nodes 2>6\/cw m.nodes 3>10 then 2
 else if iz m (dU [] m.nodes)≠0 then iz m (dU [] m.nodes) else jp m
theorem uL {L:List Nd}:∀{i:Nat} {l:List Nd},fG L i l=0->∀j x,l[j]?=some x->eA L ((i+j:Nat):Int) x=0
 |i,y::l,h,0,x,a=>by
  rw[fG] at h;simp at a;subst a;split at h
  ·assumption
  ·contradiction
 | i,y::l,h,j+1,x,a=>by
  rw[fG] at h;split at h
  ·have:=uL h j x (by simpa using a)
   rw[show i+(j+1)=i+1+j by omega];exact this
  ·contradiction
theorem uM {L:List Nd} (h:fG L 0 L=0):nh L:=by
 intro i x l a ha;have b:=uL h i x l;rw[cX] at b;unfold eA at b;split at b
 ·omega
 rename_i m;split at b
 ·omega
 split at b
 ·rename_i d
  unfold dG at ha;rw[zN ⟨aj,d⟩] at ha;simp at ha
 split at b
 ·omega
 rename_i e;unfold gW eV at e;simp only[not_or] at e;obtain⟨j,g,f⟩:=e;unfold dG at ha;rcases gD x.k with c|c|c|c<;>rw[c] at ha j g f<;>simp at ha j g f
 ·subst ha;exact⟨aj,aj⟩
 ·rcases ha with rfl|rfl<;>exact⟨aj,aj⟩
 ·rcases ha with rfl|rfl|rfl<;>exact⟨aj,aj⟩
theorem Ag (d:m.nodes.length<=1000):∀k i,i+k=m.nodes.length->
  bm pg qep ⟨[(1,ec),(27,I m.nodes.length),(28,I (i:Int))],[[LN m.nodes,LP m.inits,LP m.nexts,LI m.bads,LI m.holds]],gh⟩=
   if fG m.nodes i (m.nodes.drop i)=0 then fg ⟨[(1,ec)],[[LN m.nodes,LP m.inits,LP m.nexts,LI m.bads,LI m.holds]],gh⟩
   else fo ⟨[(2,I (fG m.nodes i (m.nodes.drop i)))],[],gh⟩
 |0,i,h=>by
  rw[aM aj,fG,if_pos rfl];have a:¬(i:Int)<(m.nodes.length:Int):=aj;refine (bn (s1:=?J) (bg ?Z)).trans ?Y
  case Z=>simp[q6c,a];rfl
  case Y=>simp[keep,bj]
 | k+1,i,h=>by
  have a:i<m.nodes.length:=aj;have b:(i:Int)<(m.nodes.length:Int):=aj;have e:WI.wrap ((i:Int)+1)=((i+1:Nat):Int):=by rw[aq aj aj];omega
  have hn:=IE (l:=m.nodes) (gh:=gh) (idx:=i) (aA a);rw[aJ a,fG];generalize eA m.nodes (i:Int) m.nodes[i]=r at *;by_cases c:r=0
  ·rw[if_pos c]
   refine ay (s1:=⟨[(1,ec),(27,I m.nodes.length),(28,I ((i+1:Nat):Int))],[[LN m.nodes,LP m.inits,LP m.nexts,LI m.bads,LI m.holds]],gh⟩) (bg ?_) (Ag d k (i+1) aj);simp[q6c,b,hn,c,e]
  ·rw[if_neg c,if_neg c]
   refine cx (bg ?_);simp[q6c,b,hn,c]
theorem Ah (A:Sz m.inits.length) (z:Sz m.nexts.length):ac pg 38 [e9 m] gh=some (I (dc m),gh):=by
 unfold dc;have w:(m.nodes.map nodeV).length=m.nodes.length:=bh;have y:(m.bads.map I).length=m.bads.length:=bh;have x:(m.holds.map I).length=m.holds.length:=bh;rw[en];by_cases t:m.nodes.length>80\/m.bads.length>8\/m.holds.length>8
 ·rw [if_pos t]
  refine ak (fn:=qc) (s:=⟨[(2,I 2)],[],gh⟩) rfl rfl (bg ?J) ?Z
  case Z=>simp[ag,results,qc,ah,am,af]
  case J=>
   by_cases c:(80:Int)<(m.nodes.length:Int)
   ·simp[q1p,qc,c]
   ·by_cases d:(8:Int)<(m.bads.length:Int)
    ·simp[q1p,qc,c,d]
    ·have e:(8:Int)<(m.holds.length:Int):=aj
     simp[q1p,qc,c,d,e]
 ·rw [if_neg t]
  have c:¬(80:Int)<(m.nodes.length:Int):=aj;have d:¬(8:Int)<(m.bads.length:Int):=aj;have e:¬(8:Int)<(m.holds.length:Int):=aj;have b:=Ag (m:=m) (gh:=gh) aj m.nodes.length 0 aj;rw[bJ] at b;simp only[aR] at b;by_cases hn:fG m.nodes 0 m.nodes=0
  ·rw [if_neg (λh=>h hn)]
   rw[if_pos hn] at b;have k:=zS (m:=m) (gh:=gh) aj;rw[en] at k;have a:=IK (m:=m) (gh:=gh) (uM hn) aj;have v:(dU [] m.nodes).length=m.nodes.length:=by simpa using uD [] m.nodes
   have q:=Jn (gh:=gh) v A z;have u:=Jq (m:=m) (gh:=gh) (f:=dU [] m.nodes) aj aj aj;have i:(ckG gh m (dU [] m.nodes)).take gh.length=gh:=by simp[ckG]
   have p:ckG gh m []=gh++[GObj.cells [LN m.nodes,LP m.inits,LP m.nexts,LI m.bads,LI m.holds,dz []]]:=rfl;generalize ckG gh m (dU [] m.nodes)=n,iz m (dU [] m.nodes)=r at *;rw[p] at a;by_cases j:cw m.nodes 2>6\/cw m.nodes 3>10
   ·rw[if_pos j]
    have g:bm pg q1o ⟨[(1,ec)],[[LN m.nodes,LP m.inits,LP m.nexts,LI m.bads,LI m.holds]],gh⟩=fo ⟨[(2,I 2)],[],gh⟩:=by
     refine bg ?_;by_cases l:6<cw m.nodes 2
     ·simp[q1o,k,l]
     ·have o:10<cw m.nodes 3:=aj
      simp[q1o,k,l,o]
    refine ak (fn:=qc) (s:=⟨[(2,I 2)],[],gh⟩) rfl rfl (bg ?Y) ?K
    case K=>simp[ag,results,qc,ah,am,af]
    case Y=>simp[q1p,qc,c,d,e,b,g]
   ·rw[if_neg j]
    have l:¬6<cw m.nodes 2:=aj;have o:¬10<cw m.nodes 3:=aj;by_cases hr:r=0
    ·rw[if_neg (λh=>h hr)]
     have g:bm pg q1o ⟨[(1,ec)],[[LN m.nodes,LP m.inits,LP m.nexts,LI m.bads,LI m.holds]],gh⟩=fo ⟨[(2,I (jp m))],[],n⟩:=by refine bg ?_;simp[q1o,k,l,o,a,q,hr,u]
     refine ak (fn:=qc) (s:=⟨[(2,I (jp m))],[],n⟩) rfl rfl (bg ?V) ?W
     case W=>simp[ag,results,qc,ah,am,af,i]
     case V=>simp[q1p,qc,c,d,e,b,g]
    ·rw[if_pos hr]
     have g:bm pg q1o ⟨[(1,ec)],[[LN m.nodes,LP m.inits,LP m.nexts,LI m.bads,LI m.holds]],gh⟩=fo ⟨[(2,I r)],[],n⟩:=by refine bg ?_;simp[q1o,k,l,o,a,q,hr]
     refine ak (fn:=qc) (s:=⟨[(2,I r)],[],n⟩) rfl rfl (bg ?Ja) ?Jb
     case Jb=>simp[ag,results,qc,ah,am,af,i]
     case Ja=>simp[q1p,qc,c,d,e,b,g]
  ·rw[if_pos hn]
   rw[if_neg hn] at b;generalize fG m.nodes 0 m.nodes=r at *;refine ak (fn:=qc) (s:=⟨[(2,I r)],[],gh⟩) rfl rfl (bg ?Jc) ?Jd
   case Jd=>simp[ag,results,qc,ah,am,af]
   case Jc=>simp[q1p,qc,c,d,e,b]
end
end
section
attribute [local congr] bu
attribute [local simp] au
@[simp] theorem ble11 : Nat.ble 1 1 = true := rfl
section
variable {m:Md} {gh:fB}
def ofL (m:Md) (a:Int):fq:=if dc m=0 then ci m.nodes a else []
theorem uN {kind:Int} (p:m.nodes.length*8<=140737488355328):∀k i (a:fq),i+k=m.nodes.length->a.length<=i->
  bm pg qfj ⟨[(1,I kind),(2,ec),(5,dz (a.map I)),(6,I (i:Int))],[[LN m.nodes,LP m.inits,LP m.nexts,LI m.bads,LI m.holds]],gh⟩=
   fg ⟨[(5,dz ((a++da kind i (m.nodes.drop i)).map I))],[],gh⟩
 |0,i,a,h,_=>by
  rw[aM aj];have c:¬i<m.nodes.length:=aj;refine (bn (s1:=?J) (bg ?Z)).trans ?Y
  case Z=>simp[q75,c];rfl
  case Y=>simp[keep,da,bj]
 | k+1,i,a,h,ha=>by
  have c:i<m.nodes.length:=aj;have f:(i<m.nodes.length):=c;have o:(i:Int)<(m.nodes.length:Int):=aj;have q:WI.wrap ((i:Int)+1)=((i+1:Nat):Int):=gv (by simp only[Sz];omega);have j:(m.nodes.map nodeV)[i]?=some (nodeV m.nodes[i]):=by simp[aA c]
  rw[dT m.nodes[i]] at j;have l:(a.length+1)*8<=maxBytes:=by have:=MB;omega
  rw[aJ c,da];generalize m.nodes[i]=x at *;have b:∀d:fw,bm pg qaw ⟨[(1,I kind),(2,ec),(5,dz d),(6,I (i:Int))],[[LN m.nodes,LP m.inits,LP m.nexts,LI m.bads,LI m.holds]],gh⟩=fg ⟨[(1,I kind),(2,ec),(5,dz d),(6,I ((i+1:Nat):Int))],[[LN m.nodes,LP m.inits,LP m.nexts,LI m.bads,LI m.holds]],gh⟩:=λd=>by refine bg ?_;simp[qaw,q]
  by_cases g:x.k=kind
  ·rw[if_pos g]
   have e:a++(i:Int)::da kind (i+1) (m.nodes.drop (i+1))=(a++[(i:Int)])++da kind (i+1) (m.nodes.drop (i+1)):=bh;rw[e];have b:=b (a.map I++[I (i:Int)]);refine ay (s1:=⟨[(1,I kind),(2,ec),(5,dz ((a++[(i:Int)]).map I)),(6,I ((i+1:Nat):Int))],[[LN m.nodes,LP m.inits,LP m.nexts,LI m.bads,LI m.holds]],gh⟩) (bg ?_) (uN p k (i+1) _ aj (by simp;omega));have n:(a.map I).length=a.length:=bh;simp only[bI,bS,bU] at b ⊢;generalize a.map I=A at *;simp[q75,f,j,g,n,l,b,List.getElem?_cons_zero,-List.getElem?_map,-getElem?_pos]
  ·rw[if_neg g]
   have b:=b (a.map I);refine ay (s1:=⟨[(1,I kind),(2,ec),(5,dz (a.map I)),(6,I ((i+1:Nat):Int))],[[LN m.nodes,LP m.inits,LP m.nexts,LI m.bads,LI m.holds]],gh⟩) (bg ?_) (uN p k (i+1) _ aj aj);generalize a.map I=A at *;simp[q75,f,j,g,b,List.getElem?_cons_zero,-List.getElem?_map,-getElem?_pos]
theorem Jr {kind:Int} (b:m.nodes.length*8<=140737488355328):ac pg 39 [e9 m,I kind] gh=some (LI (ci m.nodes kind),gh):=by
 have h:=uN (gh:=gh) (kind:=kind) b m.nodes.length 0 [] aj bh;rw[bJ,bF] at h;simp only[bU,aR] at h;have hn:=noGs_ints (da kind 0 m.nodes);have d:=bg (c:=qax) (s:=⟨[(5,(dz ((da kind 0 m.nodes).map I)))],[],gh⟩) (r:=fo ⟨[(4,cr ((da kind 0 m.nodes).map I))],[],gh⟩) (pg:=pg) (by simp[qax]);unfold ci;simp only[LI] at *;generalize (da kind 0 m.nodes).map I=a at *;rw[en];refine ak (fn:=q76) (s:=⟨[(4,cr a)],[],gh⟩) rfl rfl (bg ?J) ?Z
 case J=>simp[qfk,q76,h,d]
 case Z=>simp[ag,results,q76,ah,am,af,hn]
theorem uP {kind:Int} (j:m.nodes.length*8<=140737488355328):∀k i s,i+k=m.nodes.length->
  bm pg qfm ⟨[(1,I kind),(2,ec),(5,I s),(6,I (i:Int))],[[LN m.nodes,LP m.inits,LP m.nexts,LI m.bads,LI m.holds]],gh⟩=
   fg ⟨[(5,I (((m.nodes.drop i).filter λx=>decide (x.k=kind)).foldl lU s))],[],gh⟩
 |0,i,s,h=>by
  rw[aM aj];have b:¬i<m.nodes.length:=aj;refine (bn (s1:=?J) (bg ?Z)).trans ?Y
  case Z=>simp[q77,b];rfl
  case Y=>simp[keep,bj]
 | k+1,i,s,h=>by
  have b:i<m.nodes.length:=aj;have c:(i<m.nodes.length):=b;have g:(i:Int)<(m.nodes.length:Int):=aj;have l:WI.wrap ((i:Int)+1)=((i+1:Nat):Int):=gv (by simp only[Sz];omega);have f:(m.nodes.map nodeV)[i]?=some (nodeV m.nodes[i]):=by simp[aA b]
  rw[dT m.nodes[i]] at f;rw[aJ b,List.filter_cons];generalize m.nodes[i]=x at *;have a:∀e,bm pg qb0 ⟨[(1,I kind),(2,ec),(5,I e),(6,I (i:Int))],[[LN m.nodes,LP m.inits,LP m.nexts,LI m.bads,LI m.holds]],gh⟩=fg ⟨[(1,I kind),(2,ec),(5,I e),(6,I ((i+1:Nat):Int))],[[LN m.nodes,LP m.inits,LP m.nexts,LI m.bads,LI m.holds]],gh⟩:=λe=>by refine bg ?_;simp[qb0,l]
  by_cases d:x.k=kind
  ·rw[if_pos (by simpa using d),List.foldl_cons]
   have a:=a (WI.wrap (s+x.w));refine ay (s1:=⟨[(1,I kind),(2,ec),(5,I (lU s x)),(6,I ((i+1:Nat):Int))],[[LN m.nodes,LP m.inits,LP m.nexts,LI m.bads,LI m.holds]],gh⟩) (bg ?_) (uP j k (i+1) _ aj);unfold lU;simp[q77,c,f,d,a,List.getElem?_cons_zero,-List.getElem?_map,-getElem?_pos]
  ·rw[if_neg (by simpa using d)]
   have a:=a s;refine ay (s1:=⟨[(1,I kind),(2,ec),(5,I s),(6,I ((i+1:Nat):Int))],[[LN m.nodes,LP m.inits,LP m.nexts,LI m.bads,LI m.holds]],gh⟩) (bg ?_) (uP j k (i+1) _ aj);simp[q77,c,f,d,a,List.getElem?_cons_zero,-List.getElem?_map,-getElem?_pos]
theorem Ai {kind:Int} (a:m.nodes.length*8<=140737488355328):ac pg 73 [e9 m,I kind] gh=some (I (cw m.nodes kind),gh):=by
 have h:=uP (gh:=gh) (kind:=kind) a m.nodes.length 0 0 aj;rw[bJ] at h;simp only[aR] at h;unfold cw;generalize (m.nodes.filter λx=>decide (x.k=kind)).foldl lU 0=r at *;have b:=bg (c:=qb1) (s:=⟨[(5,(.int .i64 r))],[],gh⟩) (pg:=pg) (by simp[qb1]<;>rfl);rw[en];refine ak (fn:=q78) (s:=⟨[(4,I r)],[],gh⟩) rfl rfl (bg ?J) ?Z
 case J=>simp[qfn,q78,h,b]
 case Z=>simp[ag,results,q78,ah,am,af]
end
end
end Go.Lw