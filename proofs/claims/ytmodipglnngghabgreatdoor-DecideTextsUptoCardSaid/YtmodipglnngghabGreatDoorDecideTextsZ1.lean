/-
  The texts that the proof stands on, part 27.
-/
import Derived.Test.YtmodipglnngghabGreatDoorDecideTextsZ
set_option linter.unusedVariables false
set_option linter.unusedSimpArgs false
set_option linter.unnecessarySimpa false

set_option maxRecDepth 100000
set_option maxHeartbeats 4000000
namespace Go.Lw
open Go
section
attribute [local congr] bu
attribute [local simp] au
section
variable {pre:Ol} {ins:Int} {v:On}
theorem Iv {G e d:Ol} {V1 L Q R:Ok} {o9:Bool} {b n:Nat} {c:Int} (hn:n<=1000) (h:L.length=n+1)
  (j:ac pg 234 [Oe (pre.length+2) 0,I c,LI ((List.replicate n (0:Int)).map cZ),.bs true b 0 n 1] G=some (NZ Q,e))
  (i:ac pg 234 [Oe (pre.length+2) 0,I c,NZ V1,NZ (L.take n)] e=some (NZ R,d)) :
  ab pg q8z ⟨[(0,Oe (pre.length+2) 0),(1,NZ V1),(8,I n),(9,.sl o9 1 L),(11,.bs true b 0 n 1),(14,I c)],[],G⟩=Oh ⟨[(6,NZ Q),(7,NZ R)],[],d⟩:=by
 have f:=ky (n:=n) NW G;have g:=rA (xs:=List.replicate n (0:Int)) (by simp;omega) G;have a:n<=n+1:=NW;refine aa ?_;generalize (List.replicate n (0:Int)).map cZ=k at *;unfold LI at *;generalize (List.replicate n (0:Int)).map I=m,k.map I=l at *;simp[q8z,f,g,j,i,h,a]
theorem zJ (pre:Ol) (f:(v.length:Int)=ins) {A:Om} (hc:ck ins A=0) {xs ys:Oi} {x cs:On} (hs:A.length+21*(xs.length+1)*xs.length+7*xs.length<=1000000) (hn:xs.length<=100) (z:ys.length=xs.length)
  (M:Ls ins v A xs x) (F:Ls ins v A ys cs) :
  ∃D q r a,(∀H:BC,ac pg 227 [Oe (pre.length+2) 0,LI xs,LI ys] (H.g pre ins A)=some (.tup [LI q,LI r],(H.push a).g pre ins D))/\Stp ins A D (21*(xs.length+1)*xs.length+7*xs.length)/\Ls ins v D q (qB x cs)/\Ls ins v D r (rB x cs):=by
 obtain⟨B,_,_,_⟩:=dX hc;generalize e:xs.length=n at *;have w:x.length=n:=by rw[M.len,e]
 have ad:cs.length=n:=by rw[F.len,z]
 have t:x.drop n=[]:=aM NW;have hw:Ls ins v A (ys++[0]) (cs++[false]):=F.app ⟨oO B.1,trivial⟩;obtain⟨U,left,d,a,o,f1,y,g1,g2,l1,l2⟩:=zH pre f (ys:=ys) hn e (wide:=ys++[0]) (by simp;omega) n A (List.replicate (n+1) 0) [] [] true (cU _) hc NW NX NX M hw (by rw[t];exact Ls.zeros B.1 _) (by rw[t];trivial);have b1:=y.2.1;obtain⟨A2,c,f2,i,l3⟩:=zI pre f (V1:=xs.map I) (V9:=left.map I) (o9:=o) (n:=n) (k:=n) ys [] cs U 1 true y.1 NW (by simp;omega) (F.mono f y) (oQ B.1);rw[z] at i;have b2:=i.2.1;have h:((List.replicate n (0:Int)).map cZ).length=n:=NX
 obtain⟨A3,q,f3,j,l4⟩:=nb pre f i.1 (c:=c) (xs:=(List.replicate n (0:Int)).map cZ) (ys:=d) (by rw[h];omega) (by rw[h];omega) (by rw[h,g2]) l3 ((Ls.zeros B.1 n).not i.1) (l2.mono f i);rw[h] at j;have b3:=j.2.1;have X:=(y.trans i).trans j;obtain⟨T,r,f4,E,l5⟩:=nb pre f j.1 (c:=c) (xs:=xs) (ys:=left.take n) (by rw[e];omega) NW (by simp;omega) (l3.mono f j) (M.mono f X) ((l1.mono f (i.trans j)).take n);rw[e] at E;refine⟨T,q,r,.cells (d.map I)::(a++pkJ pre c++pkJ pre c),λH=>?_,(X.trans E).mono NW,?_,?_⟩
 ·have e1:=f1 H
  have e2:=f2 (H.push (.cells (d.map I)::a)) (pre.length+3+H.post.length);have C:=f3 (H.push (.cells (d.map I)::a)) (.bs true (pre.length+3+H.post.length) 0 d.length 1) (.inr ⟨H.post.length,rfl,by simp[BC.push]⟩);have S:=f4 ((H.push (.cells (d.map I)::a)).push (pkJ pre c)) (LI (left.take n)) (.inl rfl);rw[g2] at C;rw[na,na] at S;rw[na] at C;simp only[bH] at C S;have ek:=Iv (pre:=pre) (V1:=xs.map I) (L:=left.map I) (o9:=o) (b:=pre.length+3+H.post.length) (n:=n) (c:=c) NW (by simpa using g1) C (by rw[<-List.map_take];exact S);have m:=ky (n:=n+1) NW (H.g pre ins A)
  have l:=Il (n:=n) NW (H.g pre ins A);have u:=ut (xs:=ys) NW (H.g pre ins A);have N:(H.push [.cells ((List.replicate n (0:Int)).map I)]).g pre ins A=H.g pre ins A++[.cells ((List.replicate n (0:Int)).map I)]:=by simp[BC.push,BC.g]
  rw[rq,<-N] at l;rw[show ((n+1:Nat):Int)=(n:Int)+1 by omega] at m;have Q:WI.wrap ((n:Int)+1)=(n:Int)+1:=aq NW NW;have P:WI.wrap ((n:Int)-1)=(n:Int)-1:=aq NW NW;have O:(n+1)*8<=maxBytes:=by have:=MB;omega
  have p:(ys.map I).length=n:=by simpa using z
  have G:(xs.map I).length=n:=by simpa using e
  rw[bE,bI,bS,bU] at e1;simp only[bF,cF,cV,aR,z] at e2;have R:ab pg q90 ⟨[(0,Oe (pre.length+2) 0),(1,LI xs),(2,LI ys),(8,I n),(9,.sl o 1 (left.map I)),(11,.bs true (pre.length+3+H.post.length) 0 n 1)],[],(H.push (.cells (d.map I)::a)).g pre ins U⟩=Oh ⟨[(6,LI q),(7,LI r)],[],(H.push (.cells (d.map I)::(a++pkJ pre c++pkJ pre c))).g pre ins T⟩:=by refine aa ?_;unfold LI at *;generalize ys.map I=YS,xs.map I=XS,left.map I=LS at *;simp[q90,p,e2,ek]
  generalize pre.length+3+H.post.length=b,(H.push (.cells (d.map I)::(a++pkJ pre c++pkJ pre c))).g pre ins T=G4,(H.push (.cells (d.map I)::a)).g pre ins U=G1,(H.push [.cells ((List.replicate n (0:Int)).map I)]).g pre ins A=al,H.g pre ins A=G0 at *;refine ak (fn:=q5c) (s:=⟨[(6,LI q),(7,LI r)],[],G4⟩) rfl rfl (aa ?J) ?Z
  case J=>
   unfold LI at *;generalize ys.map I=YS,xs.map I=XS,left.map I=LS,(List.replicate (n+1) (0:Int)).map I=Z1 at *;simp[qds,q5c,G,p,Q,P,m,u,l,O,e1,R]
  case Z=>simp[ag,results,q5c,ah,am,af]
 ·unfold qB
  rw[w];exact l4.mono f E
 ·unfold rB
  rw[w];exact l5
theorem Iw {b:Oi} {m:Nat} (r:b.length<=1000) (j:m<=b.length) (d:Ol):ac pg 228 [LI b,I (m:Int)] d=some (LI (List.replicate m 0++b.take (b.length-m)),d):=by
 have i:=ky (n:=m) NW d;have o:WI.wrap ((b.length:Int)-(m:Int))=((b.length-m:Nat):Int):=by rw[aq NW NW];omega
 have g:(m+(b.length-m))*8<=maxBytes:=by have:=MB;omega
 have c:b.length*8<=maxBytes:=by have:=MB;omega
 have h:=fZ (List.replicate m 0++b.take (b.length-m));have p:(List.replicate m 0++b.take (b.length-m)).map I=(List.replicate m (0:Int)).map I++(b.map I).take (b.length-m):=NX;have hr:((List.replicate m (0:Int)).map I).length=m:=NX;have f:(b.map I).length=b.length:=NX;have e:((b.map I).take (b.length-m)).length=b.length-m:=NX;unfold LI;rw[p] at h ⊢;generalize (List.replicate m (0:Int)).map I=a,b.map I=X at *;generalize l:X.take (b.length-m)=q at *;have k:b.length-m<=b.length:=NW;refine ak (fn:=q5d) (s:=⟨[(4,Oa (a++q))],[],d⟩) rfl rfl (aa ?J) ?Z
 case J=>simp[qdt,q5d,i,o,f,l,hr,e,g,c,j]
 case Z=>simp[ag,results,q5d,ah,am,af,h]
theorem Ix {xs:Oi} {m:Nat} (q:xs.length<=1000) (k:m<=xs.length) (c:Ol):ac pg 230 [LI xs,I (m:Int)] c=some (LI (xs.drop m++List.replicate m 0),c):=by
 have j:=ky (n:=m) NW c;have h:=ut (xs:=xs.drop m) (by simp;omega) c;have g:(xs.length-m+m)*8<=maxBytes:=by have:=MB;omega
 have b:xs.length*8<=maxBytes:=by have:=MB;omega
 have i:=fZ (xs.drop m++List.replicate m 0);have o:(xs.drop m++List.replicate m 0).map I=(xs.drop m).map I++(List.replicate m (0:Int)).map I:=NX;have hr:((List.replicate m (0:Int)).map I).length=m:=NX;have e:(xs.map I).length=xs.length:=NX;have d:((xs.drop m).map I).length=xs.length-m:=NX;have l:(xs.map I).drop m=(xs.drop m).map I:=NX;have f:(xs.map I).take xs.length=xs.map I:=bK NW;unfold LI at *;rw[o] at i ⊢;generalize (List.replicate m (0:Int)).map I=a,(xs.drop m).map I=p,xs.map I=X at *
 refine ak (fn:=q5f) (s:=⟨[(4,Oa (p++a))],[],c⟩) rfl rfl (aa ?J) ?Z
 case J=>simp[qdw,q5f,j,h,e,l,f,hr,d,g,b,k]
 case Z=>simp[ag,results,q5f,ah,am,af,i]
theorem zK {b:Int} {w:Nat} (hw:w<=1000) (f:Ol):∀(k:Nat) (a:Oi) (o:Bool),a.length+k=w->
  ab pg qe0 ⟨[(0,Oa (a.map I)),(1,I (w:Int)),(2,I b)],[],f⟩=Og ⟨[(0,Oa ((a++List.replicate k b).map I))],[],f⟩
 |0,a,o,h=>by
  have e:¬a.length<w:=NW;have c:(a.map I).length=a.length:=NX;rw[List.replicate_zero,bE];generalize a.map I=X at *;refine (bn (s1:=?J) (aa ?Z)).trans ?Y
  case Z=>simp[q95,c,e];rfl
  case Y=>simp[keep]
 | k+1,a,o,h=>by
  have e:((a.length:Nat):Int)<(w:Int):=NW;have c:(a.map I).length=a.length:=NX;have g:(a.length+1)*8<=maxBytes:=by have:=MB;omega
  have d:a.length<w:=NW;have i:=zK (b:=b) hw f k (a++[b]) o (by simp;omega);rw[aT,show [b]++List.replicate k b=List.replicate (k+1) b by rw[List.replicate_succ];rfl,bI (l₁:=a) (l₂:=[b])] at i;refine ay (s1:=⟨[(0,Oa (a.map I++[b].map I)),(1,I (w:Int)),(2,I b)],[],f⟩) (aa ?K) i
  case K=>
   generalize a.map I=X at *;simp[q95,c,d,g]
theorem zL {xs:Oi} {w:Nat} {b:Int} (hw:w<=1000) (g:xs.length<=w) (a:Ol):ac pg 235 [LI xs,I (w:Int),I b] a=some (LI (xs++List.replicate (w-xs.length) b),a):=by
 have f:=zK (b:=b) hw a (w-xs.length) xs true NW;have c:=ut (xs:=xs) NW a;have e:=fZ (xs++List.replicate (w-xs.length) b);unfold LI at *;generalize (xs++List.replicate (w-xs.length) b).map I=R,xs.map I=X at *;have d:ab pg q96 ⟨[(0,Oa R)],[],a⟩=Oh ⟨[(6,NZ R)],[],a⟩:=aa (by simp[q96]);refine ak (fn:=q5j) (s:=⟨[(6,NZ R)],[],a⟩) rfl rfl (aa ?J) ?Z
 case J=>simp[qe1,q5j,c,f,d]
 case Z=>simp[ag,results,q5j,ah,am,af,e]
theorem zM {xs:Oi} {n:Nat} (hn:xs.length=n+1) (u:n<=1000) (b:Ol):ac pg 233 [LI xs] b=some (LI (xs.set n (cZ (xs.getD n 0))),b):=by
 have t:=MB;have f:xs.map I≠[]:=by intro h;have:=congrArg List.length h;simp at this;subst this;simp at hn
 have j:(xs.map I).all co=true:=by rw[bV];intro v p;obtain⟨n,-,rfl⟩:=List.mem_map.1 p;rfl
 have k:ac pg 121 [NZ (xs.map I)] b=some (.stk b.length 1 (n+1),b++[.stk 1 (xs.map I)]):=by have:ac pg 121 [NZ (xs.map I)] b=gQ 8 [NZ (xs.map I)] b:=rfl;rw[this,gQ,if_neg (by simpa using f),if_pos ⟨rfl,by rw[aW];omega,j⟩,aW,hn]
 have w:WI.wrap ((n:Int)+1-1)=(n:Int):=by rw[show (n:Int)+1-1=n by omega];exact aq NW NW
 have l:WI.wrap (n:Int)=(n:Int):=aq NW NW;have m:(xs.map I)[n]?=some (I (xs.getD n 0)):=by rw[aB,aK,aA NW];rfl
 have d:((xs.map I).set n (I (cZ (xs.getD n 0))))=(xs.set n (cZ (xs.getD n 0))).map I:=by rw[List.map_set]
 have o:=fZ (xs.set n (cZ (xs.getD n 0)));have c:(xs.map I).length=n+1:=by simpa using hn
 have e:((xs.set n (cZ (xs.getD n 0))).map I).length=n+1:=by simpa using hn
 unfold LI;rw[<-d] at o e ⊢;generalize xs.map I=X,xs.getD n 0=y at *;have q:j6 (b++[.stk 1 X]) b.length 1 n=some (I y):=by simp[j6,m]
 have g:(n:Int)<(n:Int)+1:=NW;have i:∀a:Ok,(b++[GObj.stk 1 a])[b.length]?=some (.stk 1 a):=λa=>NX
 refine ak (fn:=q5i) (s:=⟨[(2,.stk b.length 1 (n+1))],[],b++[.stk 1 (X.set n (I (cZ y)))]⟩) rfl rfl (aa ?J) ?Z
 case J=>simp[qdz,q5i,k,l,i,m,g,kx,c,co,List.getElem?_cons_zero,-getElem?_pos]
 case Z=>
  have r:frz b.length (b++[.stk 1 (X.set n (I (cZ y)))]) (.stk b.length 1 (n+1))= NZ (X.set n (I (cZ y))):=by rw[Gf (xs:=X.set n (I (cZ y))) NX (cU _) NW,bK NW]
  generalize X.set n (I (cZ y))=x at *;simp[ag,results,q5i,ah,am,af,r,o]
end
end
section
variable {a w0 w2:Int} {xs:Oi} {gh:Ol}
attribute [local congr] bu
attribute [local simp] au
structure Nd where
 k:Int
 w:Int
 a:Int
 b:Int
 c:Int
 n:Int
 deriving Inhabited
def bh (x:Nd):PV:= .agg [I x.k,I x.w,I x.a,I x.b,I x.c,I x.n]
@[simp] theorem nodeV_a (x : Nd) : az (bh x) = true := (rfl)
@[simp] theorem nodeV_d (x : Nd) : degr (bh x) = bh x := (rfl)
@[simp] theorem nodeV_e (x : Nd) : aw (bh x) = bh x := (rfl)
@[simp] theorem nodeV_c (x : Nd) : (bh x).cells = [I x.k, I x.w, I x.a, I x.b, I x.c, I x.n] := (rfl)
theorem dT (x:Nd):bh x= .agg [I x.k,I x.w,I x.a,I x.b,I x.c,I x.n]:=rfl
abbrev LN (l:List Nd):PV:= .sl false 6 (l.map bh)
theorem gD (k:Int):ar k=0\/ar k=1\/ar k=2\/ar k=3:=by
 unfold ar
 repeat' split
 all_goals simp
theorem zN {k:Int} (h:1<=k/\k<=3):ar k=0:=by unfold ar;rw[if_pos NW]
def dG (x:Nd):Oi:=[x.a,x.b,x.c].take (ar x.k).toNat
theorem uw (x:Nd) (b:Ol):ac pg 81 [bh x] b=some (LI (dG x),b):=by
 unfold bh dG;have a:=iq x.k b;rcases gD x.k with h|h|h|h<;>rw[h] at a ⊢
 ·refine ak (fn:=qt) (s:=?J) rfl rfl (aa ?Z) ?Y
  case Z=>simp[q3z,qt,a];rfl
  case Y=>simp[ag,results,qt,af,get]
 ·refine ak (fn:=qt) (s:=?K) rfl rfl (aa ?V) ?W
  case V=>simp[q3z,qt,a];rfl
  case W=>simp[ag,results,qt,af,get]
 ·refine ak (fn:=qt) (s:=?Ja) rfl rfl (aa ?Jb) ?Jc
  case Jb=>simp[q3z,qt,a];rfl
  case Jc=>simp[ag,results,qt,af,get]
 ·refine ak (fn:=qt) (s:=?Jd) rfl rfl (aa ?Je) ?Jf
  case Je=>simp[q3z,qt,a];rfl
  case Jf=>simp[ag,results,qt,af,get]
theorem Iy (k:Int) (a:Ol):ac pg 103 [I k] a=some (B (decide (1<=k/\k<=3)),a):=by
 by_cases h:1<=k
 ·refine ak (fn:=q2d) (s:=?J) rfl rfl (aa ?Z) ?Y
  case Z=>simp[qa5,q2d,h];rfl
  case Y=>simp[ag,results,q2d,ah,am,af,h]
 ·refine ak (fn:=q2d) (s:=?K) rfl rfl (aa ?V) ?W
  case V=>simp[qa5,q2d,h];rfl
  case W=>simp[ag,results,q2d,ah,am,af,h]
def wAt (l:List Nd) (a:Int):Int:=(l.getD a.toNat default).w
def c8 (l:List Nd) (a:Int):Prop:=0<=a/\a.toNat<l.length
instance (l:List Nd) (a:Int):Decidable (c8 l a):=inferInstanceAs (Decidable (_/\_))
theorem iP {l:List Nd} (h:c8 l a):(l.map bh)[a.toNat]?=some (bh (l.getD a.toNat default)):=by rw[aB,aA h.2];simp[aK,aA h.2]
def nc (l:List Nd) (x:Nd) (f w1 e:Int) (d:Oi) (i:Int) (g:Ol):St:=
 ⟨[(0,LN l),(4,Oc),(5,Od),(9,LI d),(10,I d.length),(11,I i)],[[I x.k,I x.w,I x.a,I x.b,I x.c,I x.n],[I 0,I 0,I 0],[I f,I w1,I e]],g⟩
attribute [local simp] nc
theorem nd {l:List Nd} {x:Nd} {w1 i:Int} (p:i=0\/i=1\/i=2) (g:xs[i.toNat]?=some a) (ha:c8 l a) :
  evK pg q3d fiK ⟨[(0,(LN l)),(4,(Oc)),(5,(Od)),(9,(LI xs)),(10,(.int .i64 xs.length)),(11,(.int .i64 i))],[[(.int .i64 x.k),(.int .i64 x.w),(.int .i64 x.a),(.int .i64 x.b),(.int .i64 x.c),(.int .i64 x.n)],[(.int .i64 0),(.int .i64 0),(.int .i64 0)],[(.int .i64 w0),(.int .i64 w1),(.int .i64 w2)]],gh⟩=
   some (.normal,nc l x (if i=0 then wAt l a else w0) (if i=1 then wAt l a else w1) (if i=2 then wAt l a else w2) xs (i+1) gh):=by
 have o:=(aD.1 g).1;have e:i<(xs.length:Int):=NW;have m:(xs.map I)[i.toNat]?=some (I a):=by rw[aB,g];rfl
 have hn:=iP ha;have j:=ha.1;have hw:WI.wrap (i+1)=i+1:=aq NW NW;generalize q:l.getD a.toNat default=d at hn;have h:wAt l a=d.w:=by unfold wAt;rw[q]
 rw[h];rw[dT d] at hn;unfold nc;have r:0<xs.length:=NW;rcases p with rfl|rfl|rfl
 ·have s:xs[0]=a:=(aD.1 g).2
  rw[Int.zero_add] at hw;simp[q3d,r,s,hn,j,hw,au,-List.getElem?_map]
 ·have f:(xs.map I)[1]?=some (I a):=m
  simp[q3d,e,f,hn,j,au,-List.getElem?_map];exact hw
 ·have f:(xs.map I)[2]?=some (I a):=m
  simp[q3d,e,f,hn,j,au,-List.getElem?_map];exact hw
def wdJ (l:List Nd) (k j a:Int):Int:=if j<ar k then wAt l a else 0
structure oV (l:List Nd) (x:Nd):Prop where
 a:0<ar x.k->c8 l x.a
 b:1<ar x.k->c8 l x.b
 c:2<ar x.k->c8 l x.c
def gV (l:List Nd) (x:Nd):PV:= .agg [I (wdJ l x.k 0 x.a),I (wdJ l x.k 1 x.b),I (wdJ l x.k 2 x.c)]
@[simp] theorem widthsV_a (l : List Nd) (x : Nd) : az (gV l x) = true := (rfl)
@[simp] theorem widthsV_d (l : List Nd) (x : Nd) : degr (gV l x) = gV l x := (rfl)
@[simp] theorem widthsV_e (l : List Nd) (x : Nd) : aw (gV l x) = gV l x := (rfl)
@[simp] theorem widthsV_c (l : List Nd) (x : Nd) : (gV l x).cells = [I (wdJ l x.k 0 x.a), I (wdJ l x.k 1 x.b), I (wdJ l x.k 2 x.c)] := (rfl)
theorem rE {l:List Nd} {x:Nd} {w1:Int}:ab pg qa6 (nc l x w0 w1 w2 xs xs.length gh)=
  Og ⟨[(4,Oc),(5,Od)],[[I x.k,I x.w,I x.a,I x.b,I x.c,I x.n],[I 0,I 0,I 0],[I w0,I w1,I w2]],gh⟩:=by
 refine (bn (s1:=?J) (aa ?Z)).trans ?Y
 case Z=>simp[q3d];rfl
 case Y=>simp[keep,bj]
theorem Iz {l:List Nd} {x:Nd} (h:oV l x):ab pg qa6 (nc l x 0 0 0 (dG x) 0 gh)=
  Og ⟨[(4,Oc),(5,Od)],[[I x.k,I x.w,I x.a,I x.b,I x.c,I x.n],[I 0,I 0,I 0],[I (wdJ l x.k 0 x.a),I (wdJ l x.k 1 x.b),I (wdJ l x.k 2 x.c)]],gh⟩:=by
 unfold dG wdJ;rcases gD x.k with d|d|d|d<;>rw[d]
 ·exact rE (xs:=[])
 ·refine ay (aa (nd (a:=x.a) (.inl rfl) rfl (h.a NW))) ?_
  exact rE (xs:=[x.a])
 ·refine ay (aa (nd (a:=x.a) (.inl rfl) rfl (h.a NW))) ?_
  refine ay (aa (nd (a:=x.b) (.inr (.inl rfl)) rfl (h.b NW))) ?_;exact rE (xs:=[x.a,x.b])
 ·refine ay (aa (nd (a:=x.a) (.inl rfl) rfl (h.a NW))) ?_
  refine ay (aa (nd (a:=x.b) (.inr (.inl rfl)) rfl (h.b NW))) ?_;refine ay (aa (nd (a:=x.c) (.inr (.inr rfl)) rfl (h.c NW))) ?_;exact rE (xs:=[x.a,x.b,x.c])
theorem zO {l:List Nd} {x:Nd} (h:oV l x):ac pg 104 [LN l,bh x] gh=some (gV l x,gh):=by
 have f:=uw x gh;have e:=Iz (gh:=gh) h;unfold nc at e;have g:=aa (c:=qa7) (s:=⟨[(4,(Oc)),(5,(Od))],[[(.int .i64 x.k),(.int .i64 x.w),(.int .i64 x.a),(.int .i64 x.b),(.int .i64 x.c),(.int .i64 x.n)],[(.int .i64 0),(.int .i64 0),(.int .i64 0)],[(.int .i64 (wdJ l x.k 0 x.a)),(.int .i64 (wdJ l x.k 1 x.b)),(.int .i64 (wdJ l x.k 2 x.c))]],gh⟩) (pg:=pg) (by simp[qa7]<;>rfl);unfold bh at f;have d:((dG x).map I).length=(dG x).length:=NX;refine ak (fn:=q6p) (s:=?J) rfl rfl (aa ?Z) ?Y
 case Z=>simp[qez,q6p,f,e,g];rfl
 case Y=>simp[ag,results,q6p,ah,am,St.cellsAt,af,gV]
theorem IA {l:List Nd} {x:Nd} (h:oV l x):ac pg 102 [LN l,bh x] gh=some (gV l x,gh):=by
 have o:=gp x.k gh
 have i:∀(w0 w1 w2:Int),ab pg q7a ⟨[(4,Oc),(5,Od)],[[I x.k,I x.w,I x.a,I x.b,I x.c,I x.n],[I 0,I 0,I 0],[I w0,I w1,I w2]],gh⟩=
   Oh ⟨[(4,Oc)],[[I x.k,I x.w,I x.a,I x.b,I x.c,I x.n],[I w0,I w1,I w2]],gh⟩:=λw0 w1 w2=>aa (c:=q7a) (s:=⟨[(4,(Oc)),(5,(Od))],[[(.int .i64 _),(.int .i64 _),(.int .i64 _),(.int .i64 _),(.int .i64 _),(.int .i64 _)],[(.int .i64 _),(.int .i64 _),(.int .i64 _)],[(.int .i64 _),(.int .i64 _),(.int .i64 _)]],_⟩) (by simp[q7a]<;>rfl)
 have j:∀(w0 w1:Int),ab pg q7b ⟨[(0,LN l),(3,Ob),(4,Oc),(5,Od),(6,I (ar x.k))],[[I x.k,I x.w,I x.a,I x.b,I x.c,I x.n],[I 0,I 0,I 0],[I w0,I w1,I 0]],gh⟩=
   Oh ⟨[(4,Oc)],[[I x.k,I x.w,I x.a,I x.b,I x.c,I x.n],[I w0,I w1,I (wdJ l x.k 2 x.c)]],gh⟩:=λw0 w1=>by
  refine aa ?_;unfold wdJ;by_cases f:2<ar x.k
  ·have hn:=iP (h.c f)
   have g:=(h.c f).1;unfold wAt;generalize l.getD x.c.toNat default=d at *;rw[dT d] at hn;simp[q7b,f,hn,g,i,-List.getElem?_map]
  ·simp[q7b,f,i]
 have m:∀(w0:Int),ab pg q7c ⟨[(0,LN l),(3,Ob),(4,Oc),(5,Od),(6,I (ar x.k))],[[I x.k,I x.w,I x.a,I x.b,I x.c,I x.n],[I 0,I 0,I 0],[I w0,I 0,I 0]],gh⟩=
   Oh ⟨[(4,Oc)],[[I x.k,I x.w,I x.a,I x.b,I x.c,I x.n],[I w0,I (wdJ l x.k 1 x.b),I (wdJ l x.k 2 x.c)]],gh⟩:=λw0=>by
  refine aa ?_;by_cases f:1<ar x.k
  ·have hn:=iP (h.b f)
   have g:=(h.b f).1;have e:wdJ l x.k 1 x.b=(l.getD x.b.toNat default).w:=by unfold wdJ wAt;rw[if_pos f]
   rw[e];generalize l.getD x.b.toNat default=d at *;rw[dT d] at hn;simp[q7c,f,hn,g,j,-List.getElem?_map]
  ·have e:wdJ l x.k 1 x.b=0:=by unfold wdJ;rw[if_neg f]
   rw[e];simp[q7c,f,j]
 unfold gV;refine ak (fn:=q48) (s:=⟨[(4,Oc)],[[I x.k,I x.w,I x.a,I x.b,I x.c,I x.n],[I (wdJ l x.k 0 x.a),I (wdJ l x.k 1 x.b),I (wdJ l x.k 2 x.c)]],gh⟩) rfl rfl (aa ?J) ?Z
 case J=>
  by_cases f:0<ar x.k
  ·have hn:=iP (h.a f)
   have g:=(h.a f).1;have e:wdJ l x.k 0 x.a=(l.getD x.a.toNat default).w:=by unfold wdJ wAt;rw[if_pos f]
   rw[e];generalize l.getD x.a.toNat default=d at *;rw[dT d] at hn;simp[qb5,q48,o,f,hn,g,m,-List.getElem?_map]
  ·have e:wdJ l x.k 0 x.a=0:=by unfold wdJ;rw[if_neg f]
   rw[e];simp[qb5,q48,o,f,m]
 case Z=>simp[ag,results,q48,ah,am,St.cellsAt,af]
end
section
variable {idx:Nat} {j a:Int}
attribute [local congr] bu
attribute [local simp] au
def eV (b k j a:Int):Prop:=if j<ar k then a<0\/b<=a else a≠0
instance (b k j a:Int):Decidable (eV b k j a):=inferInstanceAs (Decidable (if j<ar k then a<0\/b<=a else a≠0))
def gW (d:Int) (x:Nd):Prop:=eV d x.k 0 x.a\/eV d x.k 1 x.b\/eV d x.k 2 x.c
instance (a:Int) (x:Nd):Decidable (gW a x):=inferInstanceAs (Decidable (_\/_))
def eA (l:List Nd) (d:Int) (x:Nd):Int:=
 if x.k<1\/24<=x.k then 7 else if ¬(1<=x.w/\x.w<=8) then 3
 else if x.k<=3 then (if x.k=1/\¬(0<=x.n/\x.n<((2^x.w.toNat:Nat):Int)) then 3 else if (x.k≠1/\x.n≠0)\/x.a≠0\/x.b≠0\/x.c≠0 then 1 else 0)
 else if gW d x then 4 else ir x.k x.w x.n (wdJ l x.k 0 x.a) (wdJ l x.k 1 x.b) (wdJ l x.k 2 x.c)
theorem ux {l:List Nd} {x:Nd} (d:idx<=l.length) (h:¬gW idx x):oV l x:=by
 unfold gW eV at h;simp only[not_or] at h;obtain⟨c,b,a⟩:=h;refine⟨λq=>?_,λq=>?_,λq=>?_⟩
 ·rw[if_pos q] at c
  exact⟨NW,NW⟩
 ·rw[if_pos q] at b
  exact⟨NW,NW⟩
 ·rw[if_pos q] at a
  exact⟨NW,NW⟩
section
variable {l:List Nd} {x:Nd} {gh:Ol}
def ne (l:List Nd) (d:Int) (x:Nd) (j:Int) (e:Ol):St:=
 ⟨[(0,LN l),(1,I d),(5,Ob),(67,Oa [I x.a,I x.b,I x.c]),(68,I 3),(69,I j)],[[I x.k,I x.w,I x.a,I x.b,I x.c,I x.n]],e⟩
attribute [local simp] ne
theorem uy {idx:Int} (g:(j=0/\a=x.a)\/(j=1/\a=x.b)\/(j=2/\a=x.c)) :
  evK pg q1q fiK ⟨[(0,(LN l)),(1,(.int .i64 idx)),(5,(Ob)),(67,(Oa [I x.a,I x.b,I x.c])),(68,(.int .i64 3)),(69,(.int .i64 j))],[[(.int .i64 x.k),(.int .i64 x.w),(.int .i64 x.a),(.int .i64 x.b),(.int .i64 x.c),(.int .i64 x.n)]],gh⟩=if eV idx x.k j a then Oh ⟨[(4,I 4)],[],gh⟩ else some (.normal,ne l idx x (j+1) gh):=by
 have hw:(WI.wrap (j+1))=j+1:=aq NW NW;by_cases d:j<ar x.k
 ·have e:=Int.not_le.2 d
  by_cases i:a<0
  ·rw[if_pos (by unfold eV;rw[if_pos d];exact .inl i)]
   rcases g with ⟨rfl,rfl⟩|⟨rfl,rfl⟩|⟨rfl,rfl⟩<;>simp[q1q,iq,d,i]
  ·by_cases f:idx<=a
   ·rw[if_pos (by unfold eV;rw[if_pos d];exact .inr f)]
    rcases g with ⟨rfl,rfl⟩|⟨rfl,rfl⟩|⟨rfl,rfl⟩<;>simp[q1q,iq,d,i,f]
   ·rw[if_neg (by unfold eV;rw[if_pos d];rintro (h|h)<;>contradiction)]
    unfold ne;rcases g with ⟨rfl,rfl⟩|⟨rfl,rfl⟩|⟨rfl,rfl⟩<;>simp[q1q,iq,d,e,i,f]<;>exact hw
 ·have e:=Int.not_lt.1 d
  by_cases f:a=0
  ·rw[if_neg (by unfold eV;rw[if_neg d];exact λh=>h f)]
   unfold ne;rcases g with ⟨rfl,rfl⟩|⟨rfl,rfl⟩|⟨rfl,rfl⟩<;>simp[q1q,iq,d,e,f]<;>exact hw
  ·rw[if_pos (by unfold eV;rw[if_neg d];exact f)]
   rcases g with ⟨rfl,rfl⟩|⟨rfl,rfl⟩|⟨rfl,rfl⟩<;>simp[q1q,iq,d,e,f]
theorem IB {idx:Int}:ab pg qeq (ne l idx x 0 gh)=
  if gW idx x then Oh ⟨[(4,I 4)],[],gh⟩ else Og ⟨[(0,LN l),(5,Ob)],[[I x.k,I x.w,I x.a,I x.b,I x.c,I x.n]],gh⟩:=by
 have f:=uy (l:=l) (x:=x) (gh:=gh) (idx:=idx) (j:=0) (a:=x.a) NX;have e:=uy (l:=l) (x:=x) (gh:=gh) (idx:=idx) (j:=1) (a:=x.b) NX;have d:=uy (l:=l) (x:=x) (gh:=gh) (idx:=idx) (j:=2) (a:=x.c) NX;by_cases m:eV idx x.k 0 x.a
 ·rw[if_pos m] at f
  rw[if_pos (.inl m)];exact cx (aa f)
 rw[if_neg m] at f;refine ay (aa f) ?_;by_cases i:eV idx x.k 1 x.b
 ·rw[if_pos i] at e
  rw[if_pos (.inr (.inl i))];exact cx (aa e)
 rw[if_neg i] at e;refine ay (aa e) ?_;by_cases g:eV idx x.k 2 x.c
 ·rw[if_pos g] at d
  rw[if_pos (.inr (.inr g))];exact cx (aa d)
 rw[if_neg g] at d;refine ay (aa d) ?_;rw[if_neg (by rintro (h|h|h)<;>contradiction)];refine (bn (s1:=?J) (aa ?Z)).trans ?Y
 case Z=>simp[q1q];rfl
 case Y=>simp[keep,bj]
theorem IC (h:idx<=l.length) (b:Bool):ab pg q6e ⟨[(0,LN l),(1,I idx),(5,Ob),(26,B b)],[[I x.k,I x.w,I x.a,I x.b,I x.c,I x.n]],gh⟩=
  Oh ⟨[(4,I (if gW idx x then 4 else ir x.k x.w x.n (wdJ l x.k 0 x.a) (wdJ l x.k 1 x.b) (wdJ l x.k 2 x.c)))],[],gh⟩:=by
 refine aa ?_;have d:=IB (l:=l) (x:=x) (gh:=gh) (idx:=idx);unfold ne at d;by_cases e:gW idx x
 ·rw[if_pos e] at d
  simp[q6e,d,e]
 ·rw[if_neg e] at d
  have f:=zO (gh:=gh) (ux h e);have i:=GY x.k x.w x.n (wdJ l x.k 0 x.a) (wdJ l x.k 1 x.b) (wdJ l x.k 2 x.c) gh;unfold gV at f;rw[dT x] at f;have g:=aa (c:=q9u) (s:=⟨[(0,(LN l)),(5,(Ob))],[[(.int .i64 x.k),(.int .i64 x.w),(.int .i64 x.a),(.int .i64 x.b),(.int .i64 x.c),(.int .i64 x.n)]],gh⟩) (r:=Oh ⟨[(4,I (ir x.k x.w x.n (wdJ l x.k 0 x.a) (wdJ l x.k 1 x.b) (wdJ l x.k 2 x.c)))],[],gh⟩) (pg:=pg) (by simp[q9u,f,i]);simp[q6e,d,e,g]
theorem ID {w:Int} (h:1<=w/\w<=8):eR .i64 1 w=((2^w.toNat:Nat):Int):=by obtain⟨b,a⟩:=h;have:w=1\/w=2\/w=3\/w=4\/w=5\/w=6\/w=7\/w=8:=NW;rcases this with rfl|rfl|rfl|rfl|rfl|rfl|rfl|rfl<;>decide +kernel
theorem IE (z:l[idx]?=some x):ac pg 76 [LN l,I idx] gh=some (I (eA l idx x),gh):=by
 have C:=(aD.1 z).1;have e:(l.map bh)[idx]?=some (bh x):=by rw[aB,z];rfl
 rw[dT x] at e;have A:=IC (l:=l) (x:=x) (gh:=gh) (idx:=idx) NW;have hw:=kY x.w gh;have d:=Iy x.k gh;have f:ab pg q2c ⟨[(39,B true)],[],gh⟩=Oh ⟨[(4,I 1)],[],gh⟩:=aa (c:=q2c) (s:=⟨[(39,(.bool _))],[],_⟩) (by simp[q2c]<;>rfl);have t:ab pg q2c ⟨[(39,B false)],[],gh⟩=Og ⟨[(39,B false)],[],gh⟩:=aa (c:=q2c) (s:=⟨[(39,(.bool _))],[],_⟩) (by simp[q2c]<;>rfl);have y:ab pg q6d ⟨[(39,B false)],[],gh⟩=Oh ⟨[(4,I 0)],[],gh⟩:=aa (c:=q6d) (s:=⟨[(39,(.bool _))],[],_⟩) (by simp[q6d]<;>rfl);unfold eA;refine ak (fn:=qd) (s:=⟨[(4,I (eA l idx x))],[],gh⟩) rfl rfl (aa ?J) ?Z
 case Z=>simp[ag,results,qd,ah,am,af,eA]
 case J=>
  unfold eA;by_cases j:x.k<1
  ·simp[qn,qd,e,j,-List.getElem?_map]
  by_cases p:24<=x.k
  ·simp[qn,qd,e,j,p,-List.getElem?_map]
  by_cases g:1<=x.w/\x.w<=8
  ·rw [aG g] at hw
   by_cases o:x.k<=3
   ·rw [aG ⟨NW,o⟩] at d
    by_cases i:x.k=1
    ·have m:=HC x.n x.w NW gh
     rw[ID g] at m;generalize ((2^x.w.toNat:Nat):Int)=T at *;by_cases r:0<=x.n/\x.n<T
     ·rw[aG r] at m
      rw[i] at e d;by_cases ha:x.a=0
      ·by_cases q:x.b=0
       ·by_cases u:x.c=0
        ·simp[qn,qd,e,g,hw,d,i,m,r,ha,q,u,t,y,-List.getElem?_map]
        ·simp[qn,qd,e,g,hw,d,i,m,r,ha,q,u,f,-List.getElem?_map]
       ·simp[qn,qd,e,g,hw,d,i,m,r,ha,q,f,-List.getElem?_map]
      ·simp[qn,qd,e,g,hw,d,i,m,r,ha,f,-List.getElem?_map]
     ·rw[aF r] at m
      rw[i] at e d;simp[qn,qd,e,g,hw,d,i,m,r,-List.getElem?_map]
    ·by_cases hn:x.n=0
     ·by_cases ha:x.a=0
      ·by_cases q:x.b=0
       ·by_cases u:x.c=0
        ·simp[qn,qd,e,j,p,g,hw,o,d,i,hn,ha,q,u,t,y,-List.getElem?_map]
        ·simp[qn,qd,e,j,p,g,hw,o,d,i,hn,ha,q,u,f,-List.getElem?_map]
       ·simp[qn,qd,e,j,p,g,hw,o,d,i,hn,ha,q,f,-List.getElem?_map]
      ·simp[qn,qd,e,j,p,g,hw,o,d,i,hn,ha,f,-List.getElem?_map]
     ·simp[qn,qd,e,j,p,g,hw,o,d,i,hn,f,-List.getElem?_map]
   ·rw[aF (λh=>o h.2)] at d
    have v:=A false;simp[qn,qd,e,j,p,g,hw,o,d,v,-List.getElem?_map]
  ·rw[aF g] at hw
   simp[qn,qd,e,j,p,g,hw,-List.getElem?_map]
def nf (l:List Nd) (d:Int) (x:Nd) (j:Int) (e:Ol):St:=
 ⟨[(0,LN l),(1,I d),(5,Ob),(6,Oa [I x.a,I x.b,I x.c]),(7,I j)],[[I x.k,I x.w,I x.a,I x.b,I x.c,I x.n]],e⟩
attribute [local simp] nf
theorem uz {idx:Int} (p:0<=idx/\idx<=1000000) (g:(j=0/\a=x.a)\/(j=1/\a=x.b)\/(j=2/\a=x.c)) :
  evK pg q2j fiK ⟨[(0,(LN l)),(1,(.int .i64 idx)),(5,(Ob)),(6,(Oa [I x.a,I x.b,I x.c])),(7,(.int .i64 j))],[[(.int .i64 x.k),(.int .i64 x.w),(.int .i64 x.a),(.int .i64 x.b),(.int .i64 x.c),(.int .i64 x.n)]],gh⟩=if eV idx x.k j a then Oh ⟨[(4,I 4)],[],gh⟩ else some (.normal,nf l idx x (j+1) gh):=by
 have hw:(WI.wrap (j+1))=j+1:=aq NW NW;have m:WI.wrap (idx-1)=idx-1:=aq NW NW;have f:=fe a 0 (idx-1) gh;by_cases d:j<ar x.k
 ·have e:=Int.not_le.2 d
  by_cases o:0<=a/\a<=idx-1
  ·rw[aG o] at f
   rw[if_neg (by unfold eV;rw[if_pos d];omega)];unfold nf;rcases g with ⟨rfl,rfl⟩|⟨rfl,rfl⟩|⟨rfl,rfl⟩<;>simp[q2j,gp,d,e,m,f]<;>exact hw
  ·rw[aF o] at f
   rw[if_pos (by unfold eV;rw[if_pos d];omega)];rcases g with ⟨rfl,rfl⟩|⟨rfl,rfl⟩|⟨rfl,rfl⟩<;>simp[q2j,gp,d,m,f]
 ·have e:=Int.not_lt.1 d
  by_cases i:a=0
  ·rw[if_neg (by unfold eV;rw[if_neg d];exact λh=>h i)]
   unfold nf;rcases g with ⟨rfl,rfl⟩|⟨rfl,rfl⟩|⟨rfl,rfl⟩<;>simp[q2j,gp,d,e,i]<;>exact hw
  ·rw[if_pos (by unfold eV;rw[if_neg d];exact i)]
   rcases g with ⟨rfl,rfl⟩|⟨rfl,rfl⟩|⟨rfl,rfl⟩<;>simp[q2j,gp,d,e,i]
theorem IF {idx:Int} (d:0<=idx/\idx<=1000000):ab pg qfl (nf l idx x 0 gh)=
  if gW idx x then Oh ⟨[(4,I 4)],[],gh⟩ else Og ⟨[(0,LN l),(5,Ob)],[[I x.k,I x.w,I x.a,I x.b,I x.c,I x.n]],gh⟩:=by
 have g:=uz (l:=l) (x:=x) (gh:=gh) (idx:=idx) (j:=0) (a:=x.a) d NX;have f:=uz (l:=l) (x:=x) (gh:=gh) (idx:=idx) (j:=1) (a:=x.b) d NX;have e:=uz (l:=l) (x:=x) (gh:=gh) (idx:=idx) (j:=2) (a:=x.c) d NX;by_cases o:eV idx x.k 0 x.a
 ·rw[if_pos o] at g
  rw[if_pos (.inl o)];exact cx (aa g)
 rw[if_neg o] at g;refine ay (aa g) ?_;by_cases m:eV idx x.k 1 x.b
 ·rw[if_pos m] at f
  rw[if_pos (.inr (.inl m))];exact cx (aa f)
 rw[if_neg m] at f;refine ay (aa f) ?_;by_cases i:eV idx x.k 2 x.c
 ·rw[if_pos i] at e
  rw[if_pos (.inr (.inr i))];exact cx (aa e)
 rw[if_neg i] at e;refine ay (aa e) ?_;rw[if_neg (by rintro (h|h|h)<;>contradiction)];refine (bn (s1:=?J) (aa ?Z)).trans ?Y
 case Z=>simp[q2j];rfl
 case Y=>simp[keep,bj]
theorem IG (e:idx<=l.length) (f:¬gW idx x):ab pg qaz ⟨[(0,LN l),(5,Ob)],[[I x.k,I x.w,I x.a,I x.b,I x.c,I x.n]],gh⟩=
  Oh ⟨[(4,I (ir x.k x.w x.n (wdJ l x.k 0 x.a) (wdJ l x.k 1 x.b) (wdJ l x.k 2 x.c)))],[],gh⟩:=by
 have d:=IA (gh:=gh) (ux e f);have g:=Hb x.k x.w x.n (wdJ l x.k 0 x.a) (wdJ l x.k 1 x.b) (wdJ l x.k 2 x.c) gh;unfold gV at d;rw[dT x] at d;refine aa ?_;simp[qaz,d,g]
theorem IH (H:l[idx]?=some x) (L:l.length<=1000000):ac pg 72 [LN l,I idx] gh=some (I (eA l idx x),gh):=by
 have M:=(aD.1 H).1;have f:(l.map bh)[idx]?=some (bh x):=by rw[aB,H];rfl
 rw[dT x] at f;have e:=fe x.k 1 23 gh;have i:=fe x.w 1 8 gh;have y:=IF (l:=l) (x:=x) (gh:=gh) (idx:=idx) NW;unfold nf at y;refine ak (fn:=qe) (s:=⟨[(4,I (eA l idx x))],[],gh⟩) rfl rfl (aa ?J) ?Z
 case Z=>simp[ag,results,qe,ah,am,af]
 case J =>
  unfold eA;by_cases A:1<=x.k/\x.k<=23
  ·rw [aG A] at e
   have m:¬x.k<1:=NW;have q:¬24<=x.k:=NW;by_cases g:1<=x.w/\x.w<=8
   ·rw [aG g] at i
    by_cases p:x.k<=3
    ·by_cases j:x.k=1
     ·obtain⟨T,G,o,C⟩:∃T:Int,((2^x.w.toNat:Nat):Int)=T/\ac pg 27 [I x.w] gh=some (I T,gh)/\WI.wrap (T-1)=T-1:=by
       have o:=HG (k:=x.w.toNat) NW gh;have O:2^x.w.toNat<=2^8:=bQ NY NW;rw[show ((x.w.toNat:Nat):Int)=x.w by omega] at o;generalize 2^x.w.toNat=T at *;exact⟨T,rfl,o,aq NW NW⟩
      rw[G];have u:=fe x.n 0 (T-1) gh;have D:decide (x.k=1)=true:=aG j;have F:(x.k<=3):=p;have E:¬(1<x.k):=NW
      have B:∀r:Int,(if x.k<1\/24<=x.k then 7 else if ¬(1<=x.w/\x.w<=8) then 3
        else if x.k<=3 then (if x.k=1/\¬(0<=x.n/\x.n<T) then 3 else if (x.k≠1/\x.n≠0)\/x.a≠0\/x.b≠0\/x.c≠0 then 1 else 0)
        else if gW idx x then 4 else ir x.k x.w x.n (wdJ l x.k 0 x.a) (wdJ l x.k 1 x.b) (wdJ l x.k 2 x.c))=r->
       (if x.k<1\/24<=x.k then 7 else if ¬(1<=x.w/\x.w<=8) then 3
        else if x.k<=3 then (if x.k=1/\¬(0<=x.n/\x.n<T) then 3 else if (x.k≠1/\x.n≠0)\/x.a≠0\/x.b≠0\/x.c≠0 then 1 else 0)
        else if gW idx x then 4 else ir x.k x.w x.n (wdJ l x.k 0 x.a) (wdJ l x.k 1 x.b) (wdJ l x.k 2 x.c))=r:=λ_ h=>h
      by_cases v:0<=x.n/\x.n<T
      ·rw [aG ⟨v.1,NW⟩] at u
       by_cases ha:x.a=0
       ·by_cases d:x.b=0
        ·by_cases t:x.c=0
         ·rw[B 0 (by simp[j,g,v,ha,d,t])]
          simp[qp,qe,f,e,i,D,F,E,o,C,u,ha,d,t,-List.getElem?_map]
         ·rw[B 1 (by simp[j,g,v,ha,d,t])]
          simp[qp,qe,f,e,i,D,F,E,o,C,u,ha,d,t,-List.getElem?_map]
        ·rw[B 1 (by simp[j,g,v,ha,d])]
         simp[qp,qe,f,e,i,D,F,E,o,C,u,ha,d,-List.getElem?_map]
       ·rw[B 1 (by simp[j,g,v,ha])]
        simp[qp,qe,f,e,i,D,F,E,o,C,u,ha,-List.getElem?_map]
      ·rw[aF NW] at u
       rw[B 3 (by simp[j,g,v])];simp[qp,qe,f,e,i,D,o,C,u,-List.getElem?_map]
     ·have z:1<x.k:=NW
      by_cases hn:x.n=0
      ·by_cases ha:x.a=0
       ·by_cases d:x.b=0
        ·by_cases t:x.c=0
         ·simp[qp,qe,f,m,q,g,e,i,p,j,z,hn,ha,d,t,-List.getElem?_map]
         ·simp[qp,qe,f,m,q,g,e,i,p,j,z,hn,ha,d,t,-List.getElem?_map]
        ·simp[qp,qe,f,m,q,g,e,i,p,j,z,hn,ha,d,-List.getElem?_map]
       ·simp[qp,qe,f,m,q,g,e,i,p,j,z,hn,ha,-List.getElem?_map]
      ·simp[qp,qe,f,m,q,g,e,i,p,j,z,hn,-List.getElem?_map]
    ·have j:x.k≠1:=NW
     by_cases d:gW idx x
     ·rw[if_pos d] at y
      simp[qp,qe,f,m,q,g,e,i,p,j,d,y,-List.getElem?_map]
     ·rw[if_neg d] at y
      have N:=IG (l:=l) (gh:=gh) (idx:=idx) NW d;simp[qp,qe,f,m,q,g,e,i,p,j,d,y,N,-List.getElem?_map]
   ·rw[aF g] at i
    simp[qp,qe,f,m,q,g,e,i,-List.getElem?_map]
  ·rw[aF A] at e
   have m:x.k<1\/24<=x.k:=NW;simp[qp,qe,f,m,e,-List.getElem?_map]
end
end
section
variable {kind a:Int} {b:Nat}
attribute [local congr] bu
attribute [local simp] au
structure Md where
 nodes:List Nd
 inits:Om
 nexts:Om
 bads:Oi
 holds:Oi
abbrev LP (l:Om):PV:= .sl false 2 (l.map aj)
def dn (m:Md):PV:= .agg [LN m.nodes,LP m.inits,LP m.nexts,LI m.bads,LI m.holds]
@[simp] theorem modelV_a (m : Md) : az (dn m) = true := (rfl)
@[simp] theorem modelV_d (m : Md) : degr (dn m) = dn m := (rfl)
@[simp] theorem modelV_e (m : Md) : aw (dn m) = dn m := (rfl)
@[simp] theorem modelV_c (m : Md) : (dn m).cells = [LN m.nodes, LP m.inits, LP m.nexts, LI m.bads, LI m.holds] := (rfl)
theorem eq (m:Md):dn m= .agg [LN m.nodes,LP m.inits,LP m.nexts,LI m.bads,LI m.holds]:=rfl
def da (a:Int):Nat->List Nd->Oi
 |_,[]=>[]
 |i,x::l=>if x.k=a then (i:Int)::da a (i+1) l else da a (i+1) l
def ci (l:List Nd) (a:Int):Oi:=da a 0 l
theorem uA (a:Int):∀(i:Nat) (l:List Nd),(da a i l).length<=l.length
 |_,[]=>cU _
 |i,x::l=>by have:=uA a (i+1) l;rw[da];split<;>simp<;>omega
theorem kindF_mem {kind:Int}:∀{i:Nat} {l:List Nd} {a:Int},a∈da kind i l↔∃j,j<l.length/\a=((i+j:Nat):Int)/\(l[j]?.map (·.k))=some kind
 |i,[],a=>by simp[da]
 | i,x::l,a=>by
  have d:=kindF_mem (kind:=kind) (i:=i+1) (l:=l) (a:=a);rw[da];constructor
  ·intro h
   split at h
   ·rename_i f
    rcases List.mem_cons.1 h with h|h
    ·exact⟨0,NX,by simpa using h,by simp[f]⟩
    ·obtain⟨j,e,c,b⟩:=d.1 h
     exact⟨j+1,by simp;omega,by rw[c];omega,by simpa using b⟩
   ·obtain⟨j,e,c,b⟩:=d.1 h
    exact⟨j+1,by simp;omega,by rw[c];omega,by simpa using b⟩
  ·rintro⟨j,e,c,b⟩
   cases j with
   |zero=>
    simp at b;rw[if_pos b];exact List.mem_cons.2 (.inl (by simpa using c))
   |succ j=>
    have:=d.2 ⟨j,by simpa using e,by rw[c];omega,by simpa using b⟩;split
    ·exact bC _ this
    ·exact this
section
variable {m:Md} {gh:Ol}
def kA (l:List Nd) (a:Int) (b:Oi) (i:Nat) (c:Ol):St:=
 ⟨[(1,I a),(5,Oa (b.map I)),(9,LN l),(10,I l.length),(11,I (i:Int))],[],c⟩
attribute [local simp] kA
theorem zP {l:List Nd} {acc:Oi} {i:Nat} (b:i<=100000):ab pg qa3 ⟨[(1,I kind),(5,Oa (acc.map I)),(9,LN l),(10,I l.length),(11,I (i:Int))],[],gh⟩=some (.normal,kA l kind acc (i+1) gh):=by
 have a:WI.wrap ((i:Int)+1)=((i+1:Nat):Int):=by rw[aq NW NW];omega
 refine aa ?_;simp[qa3,a,kA]
theorem uC {l:List Nd} {kind:Int} (m:l.length<=1000):∀k i (acc:Oi),i+k=l.length->acc.length<=i->
  ab pg qex (kA l kind acc i gh)=Og ⟨[(5,Oa ((acc++da kind i (l.drop i)).map I))],[],gh⟩
 |0,i,acc,h,_=>by
  rw[aM NW];have a:¬(i:Int)<(l.length:Int):=NW;refine (bn (s1:=?J) (aa ?Z)).trans ?Y
  case Z=>simp[q6n,a];rfl
  case Y=>simp[keep,da,bj]
 | k+1,i,acc,h,ha=>by
  have a:i<l.length:=NW;have c:(i:Int)<(l.length:Int):=NW;have f:(l.map bh)[i]?=some (bh l[i]):=by simp[aA a]
  rw[dT l[i]] at f;have g:(acc.length+1)*8<=maxBytes:=by have:=MB;omega
  rw[aJ a,da];generalize l[i]=x at *;by_cases d:x.k=kind
  ·rw[if_pos d]
   have b:=zP (gh:=gh) (l:=l) (kind:=kind) (acc:=acc++[(i:Int)]) (i:=i) NW;have e:acc++(i:Int)::da kind (i+1) (l.drop (i+1))=(acc++[(i:Int)])++da kind (i+1) (l.drop (i+1)):=NX;rw[e];refine ay (s1:=kA l kind (acc++[(i:Int)]) (i+1) gh) (aa ?_) (uC m k (i+1) _ NW (by simp;omega));have j:(acc.map I).length=acc.length:=NX;unfold kA at *;simp only[bI,bS,bU] at b ⊢;generalize acc.map I=A at *;simp[q6n,c,f,d,j,g,b,-List.getElem?_map]
  ·rw[if_neg d]
   have b:=zP (gh:=gh) (l:=l) (kind:=kind) (acc:=acc) (i:=i) NW;refine ay (s1:=kA l kind acc (i+1) gh) (aa ?_) (uC m k (i+1) _ NW NW);unfold kA at *;generalize acc.map I=A at *;simp[q6n,c,f,d,b,-List.getElem?_map]
theorem ng (d:m.nodes.length<=1000):ac pg 101 [dn m,I kind] gh=some (LI (ci m.nodes kind),gh):=by
 have h:=uC (gh:=gh) (l:=m.nodes) (kind:=kind) d m.nodes.length 0 [] NW NX;rw[bJ,bF] at h;unfold kA at h;simp only[bU,aR] at h;have hn:=mU (da kind 0 m.nodes);have b:(m.nodes.map bh).length=m.nodes.length:=NX;have e:=aa (c:=qa4) (s:=⟨[(5,(Oa ((da kind 0 m.nodes).map I)))],[],gh⟩) (r:=Oh ⟨[(4,NZ ((da kind 0 m.nodes).map I))],[],gh⟩) (pg:=pg) (by simp[qa4]);unfold ci;simp only[LI];generalize (da kind 0 m.nodes).map I=a at *;rw[eq];refine ak (fn:=q6o) (s:=⟨[(4,NZ a)],[],gh⟩) rfl rfl (aa ?J) ?Z
 case J=>simp[qey,q6o,h,e]
 case Z=>simp[ag,results,q6o,ah,am,af,hn]
def lU (s:Int) (x:Nd):Int:=WI.wrap (s+x.w)
def cw (l:List Nd) (a:Int):Int:=(l.filter λx=>decide (x.k=a)).foldl lU 0
theorem rF (L:List Nd) (b:Int):∀(i:Nat) (l:List Nd) (s:Int),l=L.drop i->(da b i l).foldl (λs a=>WI.wrap (s+wAt L a)) s=(l.filter λx=>decide (x.k=b)).foldl lU s
 |_,[],_,_=>rfl
 | i,x::l,s,h=>by
  have e:L[i]?=some x:=by have:=congrArg (·[0]?) h;simpa using this.symm
  have d:l=L.drop (i+1):=by have:=congrArg List.tail h;rw[List.tail_drop] at this;exact this
  have hw:wAt L (i:Int)=x.w:=by unfold wAt;simp[aK,e]
  rw[da,List.filter_cons];by_cases c:x.k=b
  ·rw[if_pos c,if_pos (by simpa using c),List.foldl_cons,List.foldl_cons,hw]
   exact rF L b (i+1) l _ d
  ·rw[if_neg c,if_neg (by simpa using c)]
   exact rF L b (i+1) l s d
def pa (m:Md) (a:Oi) (s:Int) (i:Nat) (b:Ol):St:=
 ⟨[(2,Ob),(5,I s),(8,LI a),(9,I a.length),(10,I (i:Int))],[[LN m.nodes,LP m.inits,LP m.nexts,LI m.bads,LI m.holds]],b⟩
attribute [local simp] pa
theorem zQ {b:Oi} (g:∀a∈b,c8 m.nodes a) (j:b.length<=1000):∀k i s,i+k=b.length->
  ab pg qf0 (pa m b s i gh)=Og ⟨[(5,I ((b.drop i).foldl (λs a=>WI.wrap (s+wAt m.nodes a)) s))],[],gh⟩
 |0,i,s,h=>by
  rw[aM NW];have c:¬(i:Int)<(b.length:Int):=NW;refine (bn (s1:=?J) (aa ?Z)).trans ?Y
  case Z=>simp[qa8,c];rfl
  case Y=>simp[keep,bj]
 |k+1,i,s,h=>by
  have c:i<b.length:=NW;have f:(i:Int)<(b.length:Int):=NW;have o:WI.wrap ((i:Int)+1)=((i+1:Nat):Int):=by rw[aq NW NW];omega
  have l:(b.map I)[i]?=some (I b[i]):=by simp[aA c]
  have e:=g _ (cD c);have hn:=iP e;have n:=e.1;rw[aJ c,List.foldl_cons];generalize b[i]=a at *;refine ay (s1:=pa m b (WI.wrap (s+wAt m.nodes a)) (i+1) gh) (aa ?_) (zQ g j k (i+1) _ NW);unfold pa wAt;generalize m.nodes.getD a.toNat default=d at *;rw[dT d] at hn;simp[qa8,f,l,n,hn,o,-List.getElem?_map]
theorem IJ {xs:Oi} (b:∀a∈xs,c8 m.nodes a) (d:xs.length<=1000):ac pg 105 [dn m,LI xs] gh=some (I (xs.foldl (λs a=>WI.wrap (s+wAt m.nodes a)) 0),gh):=by
 have h:=zQ (gh:=gh) b d xs.length 0 0 NW;rw[bJ] at h;unfold pa at h;simp only[aR] at h;generalize xs.foldl (λs a=>WI.wrap (s+wAt m.nodes a)) 0=r at *;have e:=aa (c:=qa9) (s:=⟨[(5,(.int .i64 r))],[],gh⟩) (pg:=pg) (by simp[qa9]<;>rfl);rw[eq];refine ak (fn:=q6q) (s:=⟨[(4,I r)],[],gh⟩) rfl rfl (aa ?J) ?Z
 case J=>simp[qf1,q6q,h,e]
 case Z=>simp[ag,results,q6q,ah,am,af]
theorem zR {l:List Nd} (h:a∈ci l kind):c8 l a:=by obtain⟨j,c,b,-⟩:=kindF_mem.1 h;exact⟨NW,NW⟩
theorem zS (c:m.nodes.length<=1000):ac pg 77 [dn m] gh=some (.tup [I (cw m.nodes 2),I (cw m.nodes 3)],gh):=by
 have b:∀kind,ac pg 105 [dn m,LI (ci m.nodes kind)] gh=some (I (cw m.nodes kind),gh):=λkind=>by have h:=IJ (m:=m) (gh:=gh) (xs:=ci m.nodes kind) (λa ha=>zR ha) (cA (uA kind 0 m.nodes) c);have e:=rF m.nodes kind 0 m.nodes 0 rfl;unfold ci at h ⊢;rw[e] at h;exact h
 have f:=ng (m:=m) (gh:=gh) (kind:=2) c;have d:=ng (m:=m) (gh:=gh) (kind:=3) c;have i:=b 2;have g:=b 3;rw[eq] at *;refine ak (fn:=q6f) (s:=⟨[(2,I (cw m.nodes 2)),(3,I (cw m.nodes 3))],[],gh⟩) rfl rfl (aa ?J) ?Z
 case J=>simp[qer,q6f,f,d,i,g]
 case Z=>simp[ag,results,q6f,ah,am,af]
def pb (f:On) (x:Nd):Bool:=decide (x.k=2\/x.k=3)||(dG x).any λa=>f.getD a.toNat false
def dU:On->List Nd->On
 |f,[]=>f
 |f,x::l=>dU (f++[pb f x]) l
theorem uD:∀(f:On) (l:List Nd),(dU f l).length=f.length+l.length
 |f,[]=>rfl
 |f,x::l=>by rw[dU,uD];simp;omega
def nh (l:List Nd):Prop:=∀(i:Nat) (x:Nd),l[i]?=some x->∀a∈dG x,0<=a/\a<i
def ckG (a:Ol) (m:Md) (f:On):Ol:=a++[.cells [LN m.nodes,LP m.inits,LP m.nexts,LI m.bads,LI m.holds,Oa (f.map B)]]
theorem ni {f:On} (h:a.toNat<f.length):(f.map B)[a.toNat]?=some (B (f.getD a.toNat false)):=by rw[aB,aA h];simp[aK,aA h]
def nj (m:Md) (f:On) (a:Oi) (b:Bool) (i j:Nat) (c:Ol):St:=
 ⟨[(0,Oe c.length 0),(4,B b),(11,LN m.nodes),(12,I m.nodes.length),(13,I (i:Int)),(26,LI a),(27,I a.length),(28,I (j:Int))],[],ckG c m f⟩
attribute [local simp] nj
theorem zT {f:On} {d:Oi} {i:Nat} (n:∀a∈d,0<=a/\a.toNat<f.length) (q:d.length<=1000):∀k j b,j+k=d.length->
  ab pg q9v (nj m f d b i j gh)=Og ⟨[(0,Oe gh.length 0),(4,B (b||(d.drop j).any λa=>f.getD a.toNat false)),(11,LN m.nodes),(12,I m.nodes.length),(13,I (i:Int))],[],ckG gh m f⟩
 |0,j,b,h=>by
  rw[aM NW];have e:¬(j:Int)<(d.length:Int):=NW;refine (bn (s1:=?J) (aa ?Z)).trans ?Y
  case Z=>simp[q6g,e];rfl
  case Y=>simp[keep,bj]
 |k+1,j,b,h=>by
  have e:j<d.length:=NW;have g:(j:Int)<(d.length:Int):=NW;have p:WI.wrap ((j:Int)+1)=((j+1:Nat):Int):=by rw[aq NW NW];omega
  have o:(d.map I)[j]?=some (I d[j]):=by simp[aA e]
  obtain⟨s,r⟩:=n _ (cD e);rw[aJ e,List.any_cons,<-Bool.or_assoc];generalize d[j]=a at *;have l:=ni r;generalize f.getD a.toNat false=c at *;refine ay (s1:=nj m f d (b||c) i (j+1) gh) (aa ?_) (zT n q k (j+1) _ NW);unfold nj ckG;cases b with
  |true=>simp[q6g,g,o,p,-List.getElem?_map]
  |false=>simp[q6g,g,o,s,l,p,-List.getElem?_map]
def lV (m:Md) (f:On) (i:Nat) (a:Ol):St:=
 ⟨[(0,Oe a.length 0),(11,LN m.nodes),(12,I m.nodes.length),(13,I (i:Int))],[],ckG a m f⟩
attribute [local simp] lV
theorem zU (y:nh m.nodes) (z:m.nodes.length<=1000):∀k i f,i+k=m.nodes.length->f.length=i->
  ab pg qes (lV m f i gh)=Og ⟨[],[],ckG gh m (dU f (m.nodes.drop i))⟩
 |0,i,f,h,_=>by
  rw[aM NW];have d:¬(i:Int)<(m.nodes.length:Int):=NW;refine (bn (s1:=?J) (aa ?Z)).trans ?Y
  case Z=>simp[q6h,d];rfl
  case Y=>simp[keep,dU]
 | k+1,i,f,h,F=>by
  have d:i<m.nodes.length:=NW;have n:(i:Int)<(m.nodes.length:Int):=NW;have E:WI.wrap ((i:Int)+1)=((i+1:Nat):Int):=by rw[aq NW NW];omega
  have t:(m.nodes.map bh)[i]?=some (bh m.nodes[i]):=by simp[aA d]
  have r:=y i _ (aA d);rw[aJ d,dU];generalize m.nodes[i]=x at *;rw[dT x] at t;have g:=uw x (ckG gh m f);rw[dT x] at g;have A:(dG x).length<=3:=by unfold dG;simp;omega
  have e:∀b,ab pg q9v (nj m f (dG x) b i 0 gh)=_:=λb=>zT (i:=i) (λa ha=>⟨(r a ha).1,by have:=r a ha;omega⟩) NW (dG x).length 0 b NW
  rw[bJ] at e;generalize q:((dG x).any λa=>f.getD a.toNat false)=c at *;have C:pb f x=(decide (x.k=2\/x.k=3)||c):=by unfold pb;rw[q]
  rw[C];have u:f.length+1<=maxBytes:=by have:=MB;omega
  refine ay (s1:=lV m (f++[decide (x.k=2\/x.k=3)||c]) (i+1) gh) (aa ?_) (zU y z k (i+1) _ NW (by simp;omega));have p:∀b,ab pg q9w ⟨[(0,Oe gh.length 0),(4,B b),(11,LN m.nodes),(12,I m.nodes.length),(13,I (i:Int))],[],ckG gh m f⟩=Og ⟨[(0,Oe gh.length 0),(11,LN m.nodes),(12,I m.nodes.length),(13,I (i:Int))],[],ckG gh m (f++[b])⟩:=λb=>by refine aa ?_;simp[q9w,ckG,au,u]
  have o:∀b,ab pg q9x ⟨[(0,Oe gh.length 0),(11,LN m.nodes),(12,I m.nodes.length),(13,I (i:Int))],[],ckG gh m (f++[b])⟩=some (.normal,lV m (f++[b]) (i+1) gh):=λb=>by refine aa ?_;simp[q9x,E,lV]
  unfold nj at e;simp only[aR] at e;unfold lV at *;generalize ckG gh m f=G at *;by_cases s:x.k=2
  ·have v:decide (x.k=2\/x.k=3)=true:=aG (.inl s)
   have w:decide (x.k=2)=true:=aG s;rw[v];have:=e true;have l:=p (true||c);have j:=o (true||c);generalize ckG gh m (f++[true||c])=D at *;simp only[Bool.true_or] at this l j;simp[q6h,n,t,w,g,this,l,j,-List.getElem?_map]
  ·have w:¬(x.k=2):=s
   have v:decide (x.k=2\/x.k=3)=decide (x.k=3):=by simp[s]
   rw[v];have:=e (decide (x.k=3));have l:=p (decide (x.k=3)||c);have j:=o (decide (x.k=3)||c);generalize ckG gh m (f++[decide (x.k=3)||c])=D at *;simp[q6h,n,t,w,g,this,l,j,-List.getElem?_map]
theorem IK (b:nh m.nodes) (a:m.nodes.length<=1000):ac pg 78 [Oe gh.length 0] (ckG gh m [])=some (.tup [],ckG gh m (dU [] m.nodes)):=by have h:=zU (gh:=gh) b a m.nodes.length 0 [] NW rfl;rw[bJ] at h;unfold lV at h;simp only[aR] at h;generalize ckG gh m (dU [] m.nodes)=e at *;have d:=aa (c:=q9y) (s:=⟨[(0,(Oe gh.length 0))],[],(ckG gh m [])⟩) (r:=Og ⟨[],[],e⟩) (pg:=pg) (by unfold ckG at h ⊢;simp[q9y,q6i] at h ⊢;simp[h]);rw[ip (fn:=q6i) rfl rfl d];simp[ag,results,q6i,ah,af]
theorem uE {f:On} {n:Int} {g:Ol} (c:g[b]?=some (.cells [LN m.nodes,LP m.inits,LP m.nexts,LI m.bads,LI m.holds,Oa (f.map B)])):ac pg 118 [Oe b 0,I n] g=some (B (decide (c8 m.nodes n)),g):=by
 by_cases h:0<=n
 ·have e:decide (c8 m.nodes n)=decide (n<(m.nodes.length:Int)):=decide_eq_decide.2 ⟨λa=>by have:=a.2;omega,λa=>⟨h,NW⟩⟩
  rw[e];refine ak (fn:=q2e) (s:=?J) rfl rfl (aa ?Z) ?Y
  case Z=>simp[qaa,q2e,h,c];rfl
  case Y=>simp[ag,results,q2e,ah,am,af]
 ·have e:decide (c8 m.nodes n)=false:=aF λa=>h a.1
  rw[e];refine ak (fn:=q2e) (s:=?K) rfl rfl (aa ?V) ?W
  case V=>simp[qaa,q2e,h];rfl
  case W=>simp[ag,results,q2e,ah,am,af]
def eW (l:List Nd) (f:On) (a:Bool) (p:Int×Int):Int:=
 if ¬c8 l p.1\/¬c8 l p.2\/(l.getD p.1.toNat default).k≠3 then 5 else if wAt l p.1≠wAt l p.2 then 1 else if a=true/\f.getD p.2.toNat false=true then 4 else 0
theorem IL {f:On} {init:Bool} {p:Int×Int} {g:Ol} (C:f.length=m.nodes.length) (d:g[b]?=some (.cells [LN m.nodes,LP m.inits,LP m.nexts,LI m.bads,LI m.holds,Oa (f.map B)])) :
  ac pg 106 [Oe b 0,aj p,B init] g=some (I (eW m.nodes f init p),g):=by
 obtain⟨s,n⟩:=p;have i:=uE (n:=s) d;have j:=uE (n:=n) d;rw[mT];unfold eW wAt;simp only;refine ak (fn:=q1c) (s:=⟨[(6,I (eW m.nodes f init (s,n)))],[],g⟩) rfl rfl (aa ?J) ?Z
 case Z=>simp[ag,results,q1c,ah,am,af,eW,wAt]
 case J=>
  unfold eW wAt;simp only;by_cases x:c8 m.nodes s
  ·rw [aG x] at i
   by_cases q:c8 m.nodes n
   ·rw [aG q] at j
    have o:=iP x;have t:=iP q;have r:=x.1;have y:=q.1;have u:=ni (f:=f) (a:=n) (by rw[C];exact q.2);generalize m.nodes.getD s.toNat default=l,m.nodes.getD n.toNat default=A,f.getD n.toNat false=c at *;rw[dT l] at o;rw[dT A] at t;by_cases v:l.k=3
    ·have z:decide (l.k=3)=true:=aG v
     by_cases e:l.w=A.w
     ·rw[if_neg (by rintro (h|h|h)<;>contradiction),if_neg (λh=>h e)]
      have e:decide (l.w=A.w)=true:=aG e;cases init with
      |true=>cases c with
       |true=>(simp[q1r,q1c,i,j,d,r,o,-List.getElem?_map];simp[y,t,d,z,e,u,-List.getElem?_map])
       |false=>(simp[q1r,q1c,i,j,d,r,o,-List.getElem?_map];simp[y,t,d,z,e,u,-List.getElem?_map])
      |false=>(simp[q1r,q1c,i,j,d,r,o,-List.getElem?_map];simp[y,t,d,z,e,-List.getElem?_map])
     ·rw[if_neg (by rintro (h|h|h)<;>contradiction),if_pos e]
      have e:decide (l.w=A.w)=false:=aF e
      (simp[q1r,q1c,i,j,d,r,o,-List.getElem?_map];simp[y,t,d,z,e,-List.getElem?_map])
    ·rw[if_pos (.inr (.inr v))]
     have v:decide (l.k=3)=false:=aF v;simp[q1r,q1c,i,j,d,r,o,v,-List.getElem?_map]
   ·rw[aF q] at j
    rw[if_pos (.inr (.inl q))];simp[q1r,q1c,i,j]
  ·rw[aF x] at i
   rw[if_pos (.inl x)];simp[q1r,q1c,i]
end
end
section
attribute [local congr] bu
attribute [local simp] au
section
variable {m:Md} {gh:Ol}
theorem IM {n:Nat} (h:n*8<=maxBytes):ac pg 119 [.nils,I n] gh=some (Oa [],gh):=by have:ac pg 119 [.nils,I n] gh=kU 1 8 [.nils,I n] gh:=rfl;rw[this,kU,if_pos ⟨NW,by simpa using h⟩]
theorem zV {X Y:Ok} (t:dr X=true) (q:dr Y=true) (h:(X.length+Y.length)*8<=maxBytes):ac pg 107 [NZ [NZ X,NZ Y]] gh=some (NZ (X++Y),gh):=by
 have v:=MB;have w1:WI.wrap (X.length:Int)=X.length:=aq NW NW;have j:WI.wrap ((X.length:Int)+(Y.length:Int))=((X.length+Y.length:Nat):Int):=by rw[aq NW NW];omega
 have i:WI.wrap (0+1)=1:=NY;have g:WI.wrap 2=2:=NY;have k:¬((X.length:Int)<0):=NW
 have e:ab pg qeh ⟨[(0,NZ [NZ X,NZ Y]),(3,I 0),(9,NZ [NZ X,NZ Y]),(10,I 2),(11,I 0)],[],gh⟩=
   Og ⟨[(0,NZ [NZ X,NZ Y]),(3,I ((X.length+Y.length:Nat):Int))],[],gh⟩:=by
  refine ay (s1:=⟨[(0,NZ [NZ X,NZ Y]),(3,I X.length),(9,NZ [NZ X,NZ Y]),(10,I 2),(11,I 1)],[],gh⟩) (aa ?_) ?_
  ·simp[q64,w1,k];exact i
  refine ay (s1:=⟨[(0,NZ [NZ X,NZ Y]),(3,I ((X.length+Y.length:Nat):Int)),(9,NZ [NZ X,NZ Y]),(10,I 2),(11,I 2)],[],gh⟩) (aa ?_) ?_
  ·simp[q64]
   have b:decide ((X.length:Int)+(Y.length:Int)<0)=false:=aF NW;simp[j,b];exact g
  refine (bn (s1:=?Y) (aa ?J)).trans ?Z
  case J=>simp[q64];rfl
  case Z=>simp[keep,bj]
 have d:ab pg qei ⟨[(6,Oa []),(25,NZ [NZ X,NZ Y]),(26,I 2),(27,I 0)],[],gh⟩=Og ⟨[(6,Oa (X++Y))],[],gh⟩:=by
  refine ay (s1:=⟨[(6,Oa X),(25,NZ [NZ X,NZ Y]),(26,I 2),(27,I 1)],[],gh⟩) (aa ?_) ?_
  ·have:X.length*8<=maxBytes:=NW
   simp[q65,this];exact i
  refine ay (s1:=⟨[(6,Oa (X++Y)),(25,NZ [NZ X,NZ Y]),(26,I 2),(27,I 2)],[],gh⟩) (aa ?_) ?_
  ·simp[q65,h];exact g
  refine (bn (s1:=?K) (aa ?V)).trans ?W
  case V=>simp[q65];rfl
  case W=>simp[keep,bj]
 have p:=IM (gh:=gh) h;have l:=aa (c:=q9k) (s:=⟨[(6,(Oa (X++Y)))],[],gh⟩) (r:=Oh ⟨[(2,NZ (X++Y))],[],gh⟩) (pg:=pg) (by simp[q9k]);have m:=aa (c:=q9l) (s:=⟨[(0,(NZ [NZ X,NZ Y])),(3,(.int .i64 (((X.length+Y.length:Nat):Int))))],[],gh⟩) (r:=Oh ⟨[(2,NZ (X++Y))],[],gh⟩) (pg:=pg) (by generalize X.length+Y.length=n at *;simp[q9l,p,d,l]);have hn:dr (X++Y)=true:=by
  have:∀(A B:Ok),dr A=true->dr B=true->dr (A++B)=true:=by
   intro A B
   induction A with
   |nil=>intro _ h;exact h
   |cons a A o=>
    intro f u;simp only[Gj,aS] at f;simp[f.1,o f.2 u]
  exact this X Y t q
 refine ak (fn:=q66) (s:=⟨[(2,NZ (X++Y))],[],gh⟩) rfl rfl (aa ?J) ?Z
 case J=>
  generalize X.length+Y.length=n at *;simp[qej,q66,e,m]
 case Z=>simp[ag,results,q66,af,hn,get]
def di (l:List Nd) (f:On) (a:Bool):Om->Int
 |[]=>0
 |p::r=>if eW l f a p=0 then di l f a r else eW l f a p
theorem uF {f:On}:(ckG gh m f)[gh.length]?=some (.cells [LN m.nodes,LP m.inits,LP m.nexts,LI m.bads,LI m.holds,Oa (f.map B)]):=by simp[ckG]
abbrev ga (m:Md):PV:= Oa [LP m.inits,LP m.nexts]
def nk (m:Md) (f:On) (a:Om) (k j:Nat) (b:Ol):St:=
 ⟨[(0,Oe b.length 0),(3,I (k:Int)),(23,ga m),(24,I 2),(25,I (k:Int)),(30,LP a),(31,I a.length),(32,I (j:Int))],[],ckG b m f⟩
attribute [local simp] nk
theorem uH {f:On} {ps:Om} {k:Nat} (s:f.length=m.nodes.length) (r:Sz ps.length):∀n j,j+n=ps.length->
  ab pg qet (nk m f ps k j gh)=if di m.nodes f (decide (k=0)) (ps.drop j)=0 then Og ⟨[(0,Oe gh.length 0),(23,ga m),(24,I 2),(25,I (k:Int))],[],ckG gh m f⟩
   else Oh ⟨[(2,I (di m.nodes f (decide (k=0)) (ps.drop j)))],[],ckG gh m f⟩
 |0,j,h=>by
  rw[aM NW,di,if_pos rfl];have c:¬(j:Int)<(ps.length:Int):=NW;refine (bn (s1:=?J) (aa ?Z)).trans ?Y
  case Z=>simp[q6j,c];rfl
  case Y=>simp[keep,bj]
 | n+1,j,h=>by
  have c:j<ps.length:=NW;have d:(j:Int)<(ps.length:Int):=NW;have t:WI.wrap ((j:Int)+1)=((j+1:Nat):Int):=gv (by simp only[Sz] at r ⊢;omega);have q:(ps.map aj)[j]?=some (aj ps[j]):=by simp[aA c]
  rw[mT] at q;have l:=IL (m:=m) (f:=f) (init:=decide (k=0)) (p:=ps[j]) s (uF (gh:=gh));rw[mT] at l;rw[aJ c,di];generalize ps[j]=p at *;obtain⟨a,b⟩:=p;simp only at q l;have i:((k:Int)==0)=decide (k=0):=by rw[yt];exact decide_eq_decide.2 NW
  obtain⟨g,e⟩:∃g,decide (k=0)=g:=⟨_,rfl⟩
  rw[e] at i l ⊢;by_cases o:eW m.nodes f g (a,b)=0
  ·rw[if_pos o]
   rw[o] at l;refine ay (s1:=nk m f ps k (j+1) gh) (aa ?_) ?_
   ·unfold nk
    generalize ckG gh m f=u at *;simp[q6j,i,d,q,l,t,-List.getElem?_map]
   ·rw[<-e]
    exact uH s r n (j+1) NW
  ·rw[if_neg o,if_neg o]
   refine cx (aa ?_);simp[q6j,i,d,q,l,o,-List.getElem?_map]
end
end
section
attribute [local congr] bu
attribute [local simp] au
def lj (b:Bool) (a:Oi) (m:Nat):Oi:=if b then List.replicate m 0++a.take (a.length-m) else a.drop m++List.replicate m 0
def iQ (a:Bool):Nat:=if a then 228 else 230
theorem IN {up:Bool} {xs:Oi} {m:Nat} (c:xs.length<=1000) (b:m<=xs.length) (a:Ol):ac pg (iQ up) [LI xs,I (m:Int)] a=some (LI (lj up xs m),a):=by
 cases up
 ·exact Ix c b a
 ·exact Iw c b a
section
variable {pre:Ol} {ins:Int} {v:On}
theorem zW {G b:Ol} {X a Y R:Ok} {o:Bool} {f i n:Nat} {c:Int} (h:ac pg 234 [Oe (pre.length+2) 0,I c,NZ a,NZ X] G=some (NZ R,b)) :
  ab pg q91 ⟨[(0,Oe (pre.length+2) 0),(1,NZ X),(3,.fn f []),(10,I c),(11,.sl o 1 a),(12,NZ Y),(13,I n),(14,I i)],[],G⟩=Og ⟨[(0,Oe (pre.length+2) 0),(1,NZ R),(3,.fn f []),(12,NZ Y),(13,I n),(14,I i)],[],b⟩:=
 aa (by simp[q91,h])
theorem zX {G:Ol} {X Y:Ok} {f i n:Nat} (a:i<=1000) :
  ab pg q92 ⟨[(0,Oe (pre.length+2) 0),(1,NZ X),(3,.fn f []),(12,NZ Y),(13,I n),(14,I i)],[],G⟩=Og ⟨[(0,Oe (pre.length+2) 0),(1,NZ X),(3,.fn f []),(12,NZ Y),(13,I n),(14,I ((i+1:Nat):Int))],[],G⟩:=
 aa (by simp[q92,wrS' i NW])
theorem IP {G l:Ol} {xs q:Oi} {Y R:Ok} {up:Bool} {i n:Nat} {c:Int} (x:i<n) (hn:n<=8) (w:xs.length<=100) (t:Y[i]?=some (I c)) (j:q=if 2^i<xs.length then lj up xs (2^i) else List.replicate xs.length 0)
  (h:ac pg 234 [Oe (pre.length+2) 0,I c,NZ (q.map I),NZ (xs.map I)] G=some (NZ R,l)) :
  evK pg q3r fiK ⟨[(0,(Oe (pre.length+2) 0)),(1,(NZ (xs.map I))),(3,(.fn (iQ up) [])),(12,(NZ Y)),(13,(.int .i64 n)),(14,(.int .i64 i))],[],G⟩=Og ⟨[(0,Oe (pre.length+2) 0),(1,NZ R),(3,.fn (iQ up) []),(12,NZ Y),(13,I n),(14,I ((i+1:Nat):Int))],[],l⟩:=by
 have a:(i:Int)<(n:Int):=NW;have r:=ky (n:=xs.length) NW G;have g:eR .i64 1 (i:Int)=((2^i:Nat):Int):=by rw[ot NW];simp
 have e:(xs.map I).length=xs.length:=NX;have u:(0:Int)<=(i:Int):=NW;by_cases k:2^i<xs.length
 ·rw[if_pos k] at j
  subst j;have s:=IN (up:=up) (xs:=xs) (m:=2^i) NW NW G;have v:((2^i)<xs.length):=NW;generalize 2^i=p at *;have d:=zW (pre:=pre) (Y:=Y) (o:=false) (f:=iQ up) (i:=i) (n:=n) h;have b:=zX (pre:=pre) (G:=l) (X:=R) (Y:=Y) (f:=iQ up) (i:=i) (n:=n) NW;unfold LI at s;generalize (lj up xs p).map I=M,(List.replicate xs.length (0:Int)).map I=Z,xs.map I=X,iQ up=f at *;simp[q3r,a];simp[t,r,g,e,k,s,d,b]
 ·rw[if_neg k] at j
  subst j;have v:¬((2^i)<xs.length):=NW;generalize 2^i=p at *;have d:=zW (pre:=pre) (Y:=Y) (o:=true) (f:=iQ up) (i:=i) (n:=n) h;have b:=zX (pre:=pre) (G:=l) (X:=R) (Y:=Y) (f:=iQ up) (i:=i) (n:=n) NW;generalize (List.replicate xs.length (0:Int)).map I=Z,xs.map I=X,iQ up=f at *;simp[q3r,a];simp[t,r,g,e,k,d,b]
theorem IQ (c:0<=ins) {A:Om} {b:Bool} {a:Oi} {d:On} {n:Nat} (h:Ls ins v A a d):Ls ins v A (if n<a.length then lj b a n else List.replicate a.length 0) (ku b d n):=by
 unfold ku lj;rw[h.len];split
 ·cases b
  ·exact (h.drop _).app (Ls.zeros c _)
  ·exact (Ls.zeros c _).app (h.take _)
 ·exact Ls.zeros c _
theorem rG {b:Bool} {a:Oi} {n:Nat}:(if n<a.length then lj b a n else List.replicate a.length 0).length=a.length:=by
 unfold lj;split
 ·cases b
  ·simp;omega
  ·simp;omega
 ·simp
theorem zY (pre:Ol) (m:(v.length:Int)=ins) {up:Bool}:∀(f d:Oi) (cs:On) (A:Om) (xs:Oi) (l:On),ck ins A=0->A.length+3*xs.length*f.length<=1000000->d.length+f.length<=8->xs.length<=100->
  Ls ins v A xs l->Ls ins v A f cs->
  ∃p h a,(∀H:BC,ab pg qdu ⟨[(0,Oe (pre.length+2) 0),(1,LI xs),(3,.fn (iQ up) []),(12,LI (d++f)),(13,I ((d.length+f.length:Nat):Int)),(14,I (d.length:Int))],[],H.g pre ins A⟩=Og ⟨[(1,LI h)],[],(H.push a).g pre ins p⟩)/\
   Stp ins A p (3*xs.length*f.length)/\Ls ins v p h (shB up d.length cs l)
 |[],d,[],A,xs,l,k,_,_,_,j,_=>by
  refine⟨A,xs,[],λH=>?_,Stp.refl k,j⟩;have o:¬((d.length:Nat):Int)<((d.length+([]:Oi).length:Nat):Int):=NX;rw[fY];refine (bn (s1:=?J) (aa ?Z)).trans ?Y
  case Z=>simp[q3r,o];rfl
  case Y=>simp[keep]
 | c::f,d,b::cs,A,xs,l,k,t,z,B,j,s=>by
  simp only[aV] at t z;rw[Nat.mul_add,Nat.mul_one] at t;obtain⟨C,_,_,_⟩:=dX k;obtain⟨L,r,F,s1,q⟩:=nb pre m k (c:=c) (bc:=b) (xs:=if 2^d.length<xs.length then lj up xs (2^d.length) else List.replicate xs.length 0) (ys:=xs) (by rw[rG];omega) (by rw[rG];omega) (by rw[rG]) s.1 (IQ C.1 j) j;rw[rG] at s1;have M:=s1.2.1;have hr:r.length=xs.length:=by
   rw[<-q.len];unfold d9;split
   ·rw[uk,j.len]
   ·rw[j.len]
  obtain⟨G,h,a,E,y,w⟩:=zY pre m (up:=up) f (d++[c]) cs L r _ s1.1 (by rw[hr];omega) (by simp;omega) NW q (s.2.mono m s1);rw[hr] at y;refine⟨G,h,pkJ pre c++a,λH=>?_,(s1.trans y).mono (by have e:=Nat.mul_add (3*xs.length) f.length 1;simp only[aV];omega),?_⟩
  ·have D:=IP (pre:=pre) (up:=up) (xs:=xs) (i:=d.length) (n:=d.length+(c::f).length) NX (by simp only[aV];omega) B (get_at (rx:=f) (x:=c) rfl) rfl (F H _ (.inl rfl))
   refine ay (aa D) ?_;have u:=E (H.push (pkJ pre c));rw[show (d++[c]).length+f.length=d.length+(c::f).length by simp;omega,show (d++[c]).length=d.length+1 by simp,aT d [c] f,na] at u;exact u
  ·rw[shB]
   rw[show (d++[c]).length=d.length+1 by simp] at w;exact w
theorem zZ (b:Ol) (k:(v.length:Int)=ins) {up:Bool} {A:Om} (o:ck ins A=0) {xs ys:Oi} {e cs:On} (l:A.length+3*xs.length*ys.length<=1000000) (hn:xs.length<=100) (m:ys.length<=8)
  (j:Ls ins v A xs e) (i:Ls ins v A ys cs) :
  ∃d c a,(∀H:BC,ac pg 229 [Oe (b.length+2) 0,LI xs,LI ys,.fn (iQ up) []] (H.g b ins A)=some (LI c,(H.push a).g b ins d))/\Stp ins A d (3*xs.length*ys.length)/\Ls ins v d c (shB up 0 cs e):=by
 obtain⟨d,c,a,r,q,p⟩:=zY b k (up:=up) ys [] cs A xs e o l (by simpa using m) hn j i;refine⟨d,c,a,λH=>?_,q,p⟩;have h:=r H;simp only[bF,cF,cV,aR] at h;have n:ab pg q93 ⟨[(1,LI c)],[],(H.push a).g b ins d⟩=Oh ⟨[(8,LI c)],[],(H.push a).g b ins d⟩:=aa (by simp[q93]);generalize (H.push a).g b ins d=t,H.g b ins A=u,iQ up=f at *;refine ak (fn:=q5e) (s:=⟨[(8,LI c)],[],t⟩) rfl rfl (aa ?J) ?Z
 case J=>simp[qdv,q5e,h,n]
 case Z=>simp[ag,results,q5e,ah,am,af]
def nkS (f:Ol) (k w a b c n:Int) (X e d:Ok) (i h g:Bool) (G:Ol):St:=
 ⟨[(0,Oe (f.length+2) 0),(3,Ob),(5,Oc)],[[I k,I w,I a,I b,I c,I n],[.sl i 1 X,.sl h 1 e,.sl g 1 d]],G⟩
attribute [local simp] nkS
variable {k w a b c n:Int} {X Y Z:Ok} {o0 o1 o2:Bool} {G G2:Ol}
theorem IR (d:k=4)
  {R:Ok} (h:ac pg 219 [NZ X] G=some (NZ R,G)) :
  ab pg qa (nkS pre k w a b c n X Y Z o0 o1 o2 G)=Oh ⟨[(4,NZ R)],[],G⟩:=by
 have g:∀j:Int,j≠4->(k==j)=false:=λj i=>by rw[d];exact aU (λe=>i e.symm)
 have f:(k==4)=true:=by rw[d];rfl
 clear d;refine aa ?_;simp[qa,g 1 NY,f,h]
theorem IS (f:k=5)
  {R d:Ok} (m:ac pg 220 [I w] G=some (Oa d,G)) (h:ac pg 221 [Oe (pre.length+2) 0,NZ d,NZ X] G=some (NZ R,G2)) :
  ab pg qa (nkS pre k w a b c n X Y Z o0 o1 o2 G)=Oh ⟨[(4,NZ R)],[],G2⟩:=by
 have g:∀j:Int,j≠5->(k==j)=false:=λj l=>by rw[f];exact aU (λe=>l e.symm)
 have i:(k==5)=true:=by rw[f];rfl
 clear f;refine aa ?_;simp[qa,g 1 NY,g 4 NY,i,m,h]
theorem IT (g:k=6)
  {R:Ok} {m0 p o m l d:PV} (i:G[pre.length+2]?=some (.cells [Oe (pre.length+1) 0,m0,p,o,m,l,d])) (h:ac pg 222 [NZ X,NZ Y,.bfn 49 [Oe (pre.length+1) 0]] G=some (NZ R,G2)) :
  ab pg qa (nkS pre k w a b c n X Y Z o0 o1 o2 G)=Oh ⟨[(4,NZ R)],[],G2⟩:=by
 have f:∀j:Int,j≠6->(k==j)=false:=λj r=>by rw[g];exact aU (λe=>r e.symm)
 have q:(k==6)=true:=by rw[g];rfl
 clear g;refine aa ?_;simp[qa,f 1 NY,f 4 NY,f 5 NY,q,i,h]
theorem IU (f:k=7)
  {R:Ok} (h:ac pg 222 [NZ X,NZ Y,.bfn 223 [Oe (pre.length+2) 0]] G=some (NZ R,G2)) :
  ab pg qa (nkS pre k w a b c n X Y Z o0 o1 o2 G)=Oh ⟨[(4,NZ R)],[],G2⟩:=by
 have d:∀j:Int,j≠7->(k==j)=false:=λj i=>by rw[f];exact aU (λe=>i e.symm)
 have g:(k==7)=true:=by rw[f];rfl
 clear f;refine aa ?_;simp[qa,d 1 NY,d 4 NY,d 5 NY,d 6 NY,g,h]
theorem IW (f:k=8)
  {R:Ok} (h:ac pg 222 [NZ X,NZ Y,.bfn 224 [Oe (pre.length+2) 0]] G=some (NZ R,G2)) :
  ab pg qa (nkS pre k w a b c n X Y Z o0 o1 o2 G)=Oh ⟨[(4,NZ R)],[],G2⟩:=by
 have d:∀j:Int,j≠8->(k==j)=false:=λj i=>by rw[f];exact aU (λe=>i e.symm)
 have g:(k==8)=true:=by rw[f];rfl
 clear f;refine aa ?_;simp[qa,d 1 NY,d 4 NY,d 5 NY,d 6 NY,d 7 NY,g,h]
theorem IY (f:k=9)
  {R:Ok} {l:Int} (h:ac pg 225 [Oe (pre.length+2) 0,NZ X,NZ Y,I 0] G=some (.tup [NZ R,I l],G2)) :
  ab pg qa (nkS pre k w a b c n X Y Z o0 o1 o2 G)=Oh ⟨[(4,NZ R)],[],G2⟩:=by
 have d:∀j:Int,j≠9->(k==j)=false:=λj i=>by rw[f];exact aU (λe=>i e.symm)
 have g:(k==9)=true:=by rw[f];rfl
 clear f;refine aa ?_;simp[qa,d 1 NY,d 4 NY,d 5 NY,d 6 NY,d 7 NY,d 8 NY,g,h]
theorem IZ (f:k=10)
  {R:Ok} (h:ac pg 221 [Oe (pre.length+2) 0,NZ X,NZ Y] G=some (NZ R,G2)) :
  ab pg qa (nkS pre k w a b c n X Y Z o0 o1 o2 G)=Oh ⟨[(4,NZ R)],[],G2⟩:=by
 have d:∀j:Int,j≠10->(k==j)=false:=λj i=>by rw[f];exact aU (λe=>i e.symm)
 have g:(k==10)=true:=by rw[f];rfl
 clear f;refine aa ?_;simp[qa,d 1 NY,d 4 NY,d 5 NY,d 6 NY,d 7 NY,d 8 NY,d 9 NY,g,h]
theorem I0 (f:k=11)
  {R:Ok} (h:ac pg 226 [Oe (pre.length+2) 0,NZ X,NZ Y] G=some (NZ R,G2)) :
  ab pg qa (nkS pre k w a b c n X Y Z o0 o1 o2 G)=Oh ⟨[(4,NZ R)],[],G2⟩:=by
 have d:∀j:Int,j≠11->(k==j)=false:=λj i=>by rw[f];exact aU (λe=>i e.symm)
 have g:(k==11)=true:=by rw[f];rfl
 clear f;refine aa ?_;simp[qa,d 1 NY,d 4 NY,d 5 NY,d 6 NY,d 7 NY,d 8 NY,d 9 NY,d 10 NY,g,h]
theorem I3 (g:k=12)
  {R d:Ok} (h:ac pg 227 [Oe (pre.length+2) 0,NZ X,NZ Y] G=some (.tup [NZ R,NZ d],G2)) :
  ab pg qa (nkS pre k w a b c n X Y Z o0 o1 o2 G)=Oh ⟨[(4,NZ R)],[],G2⟩:=by
 have f:∀j:Int,j≠12->(k==j)=false:=λj l=>by rw[g];exact aU (λe=>l e.symm)
 have i:(k==12)=true:=by rw[g];rfl
 clear g;refine aa ?_;simp[qa,f 1 NY,f 4 NY,f 5 NY,f 6 NY,f 7 NY,f 8 NY,f 9 NY,f 10 NY,f 11 NY,i,h]
theorem I4 (g:k=13)
  {R d:Ok} (h:ac pg 227 [Oe (pre.length+2) 0,NZ X,NZ Y] G=some (.tup [NZ d,NZ R],G2)) :
  ab pg qa (nkS pre k w a b c n X Y Z o0 o1 o2 G)=Oh ⟨[(4,NZ R)],[],G2⟩:=by
 have f:∀j:Int,j≠13->(k==j)=false:=λj l=>by rw[g];exact aU (λe=>l e.symm)
 have i:(k==13)=true:=by rw[g];rfl
 clear g;refine aa ?_;simp[qa,f 1 NY,f 4 NY,f 5 NY,f 6 NY,f 7 NY,f 8 NY,f 9 NY,f 10 NY,f 11 NY,f 12 NY,i,h]
theorem I5 (f:k=14)
  {R:Ok} (h:ac pg 229 [Oe (pre.length+2) 0,NZ X,NZ Y,.fn 228 []] G=some (NZ R,G2)) :
  ab pg qa (nkS pre k w a b c n X Y Z o0 o1 o2 G)=Oh ⟨[(4,NZ R)],[],G2⟩:=by
 have d:∀j:Int,j≠14->(k==j)=false:=λj i=>by rw[f];exact aU (λe=>i e.symm)
 have g:(k==14)=true:=by rw[f];rfl
 clear f;refine aa ?_;simp[qa,d 1 NY,d 4 NY,d 5 NY,d 6 NY,d 7 NY,d 8 NY,d 9 NY,d 10 NY,d 11 NY,d 12 NY,d 13 NY,g,h]
theorem I6 (f:k=15)
  {R:Ok} (h:ac pg 229 [Oe (pre.length+2) 0,NZ X,NZ Y,.fn 230 []] G=some (NZ R,G2)) :
  ab pg qa (nkS pre k w a b c n X Y Z o0 o1 o2 G)=Oh ⟨[(4,NZ R)],[],G2⟩:=by
 have d:∀j:Int,j≠15->(k==j)=false:=λj i=>by rw[f];exact aU (λe=>i e.symm)
 have g:(k==15)=true:=by rw[f];rfl
 clear f;refine aa ?_;simp[qa,d 1 NY,d 4 NY,d 5 NY,d 6 NY,d 7 NY,d 8 NY,d 9 NY,d 10 NY,d 11 NY,d 12 NY,d 13 NY,d 14 NY,g,h]
theorem I7 (f:k=16)
  {e:Int} (h:ab pg q8s ⟨[(0,Oe (pre.length+2) 0),(8,NZ X),(9,NZ Y),(19,I 1),(157,I (X.length:Int)),(158,I 0)],[],G⟩=Og ⟨[(19,I e)],[],G2⟩) (l:ab pg q8t ⟨[(19,I e)],[],G2⟩=Oh ⟨[(4,Oa [I e])],[],G2⟩) :
  ab pg qa (nkS pre k w a b c n X Y Z o0 o1 o2 G)=Oh ⟨[(4,Oa [I e])],[],G2⟩:=by
 have d:∀j:Int,j≠16->(k==j)=false:=λj i=>by rw[f];exact aU (λe=>i e.symm)
 have g:(k==16)=true:=by rw[f];rfl
 clear f;refine aa ?_;simp[qa,d 1 NY,d 4 NY,d 5 NY,d 6 NY,d 7 NY,d 8 NY,d 9 NY,d 10 NY,d 11 NY,d 12 NY,d 13 NY,d 14 NY,d 15 NY,g,h,l]
theorem I8 (f:k=17)
  {e:Int} (h:ac pg 232 [Oe (pre.length+2) 0,NZ X,NZ Y] G=some (I e,G2)) :
  ab pg qa (nkS pre k w a b c n X Y Z o0 o1 o2 G)=Oh ⟨[(4,Oa [I e])],[],G2⟩:=by
 have d:∀j:Int,j≠17->(k==j)=false:=λj i=>by rw[f];exact aU (λe=>i e.symm)
 have g:(k==17)=true:=by rw[f];rfl
 clear f;refine aa ?_;simp[qa,d 1 NY,d 4 NY,d 5 NY,d 6 NY,d 7 NY,d 8 NY,d 9 NY,d 10 NY,d 11 NY,d 12 NY,d 13 NY,d 14 NY,d 15 NY,d 16 NY,g,h]
theorem I9 (g:k=18)
  {e:Int} {d W:Ok} (o:ac pg 233 [NZ X] G=some (NZ d,G)) (m:ac pg 233 [NZ Y] G=some (NZ W,G)) (h:ac pg 232 [Oe (pre.length+2) 0,NZ d,NZ W] G=some (I e,G2)) :
  ab pg qa (nkS pre k w a b c n X Y Z o0 o1 o2 G)=Oh ⟨[(4,Oa [I e])],[],G2⟩:=by
 have f:∀j:Int,j≠18->(k==j)=false:=λj l=>by rw[g];exact aU (λe=>l e.symm)
 have i:(k==18)=true:=by rw[g];rfl
 clear g;refine aa ?_;simp[qa,f 1 NY,f 4 NY,f 5 NY,f 6 NY,f 7 NY,f 8 NY,f 9 NY,f 10 NY,f 11 NY,f 12 NY,f 13 NY,f 14 NY,f 15 NY,f 16 NY,f 17 NY,i,o,m,h]
theorem Ja (f:k=19)
  {R:Ok} {q:Int} (i:X[0]?=some (I q)) (h:ac pg 234 [Oe (pre.length+2) 0,I q,NZ Y,NZ Z] G=some (NZ R,G2)) :
  ab pg qa (nkS pre k w a b c n X Y Z o0 o1 o2 G)=Oh ⟨[(4,NZ R)],[],G2⟩:=by
 have d:∀j:Int,j≠19->(k==j)=false:=λj l=>by rw[f];exact aU (λe=>l e.symm)
 have g:(k==19)=true:=by rw[f];rfl
 clear f;refine aa ?_;simp[qa,d 1 NY,d 4 NY,d 5 NY,d 6 NY,d 7 NY,d 8 NY,d 9 NY,d 10 NY,d 11 NY,d 12 NY,d 13 NY,d 14 NY,d 15 NY,d 16 NY,d 17 NY,d 18 NY,g,i,h]
theorem Jb (f:k=20)
  (h:ac pg 107 [NZ [NZ Y,NZ X]] G=some (NZ (Y++X),G)) :
  ab pg qa (nkS pre k w a b c n X Y Z o0 o1 o2 G)=Oh ⟨[(4,NZ (Y++X))],[],G⟩:=by
 have d:∀j:Int,j≠20->(k==j)=false:=λj i=>by rw[f];exact aU (λe=>i e.symm)
 have g:(k==20)=true:=by rw[f];rfl
 clear f;refine aa ?_;simp[qa,d 1 NY,d 4 NY,d 5 NY,d 6 NY,d 7 NY,d 8 NY,d 9 NY,d 10 NY,d 11 NY,d 12 NY,d 13 NY,d 14 NY,d 15 NY,d 16 NY,d 17 NY,d 18 NY,d 19 NY,g,h]
theorem Jc (g:k=21)
  {N W:Nat} (s:n=(N:Int)) (q:WI.wrap (n+w)=((N+W:Nat):Int)) (m:N+W<=X.length) :
  ab pg qa (nkS pre k w a b c n X Y Z o0 o1 o2 G)=Oh ⟨[(4,NZ ((X.take (N+W)).drop N))],[],G⟩:=by
 have d:∀j:Int,j≠21->(k==j)=false:=λj o=>by rw[g];exact aU (λe=>o e.symm)
 have i:(k==21)=true:=by rw[g];rfl
 clear g;have h:n.toNat=N:=NW;have f:0<=n:=NW;have p:(0:Int)<=((N+W:Nat):Int):=NW;have r:N<=N+W:=NW;have l:N+W-N=W:=NW;refine aa ?_;simp[qa,d 1 NY,d 4 NY,d 5 NY,d 6 NY,d 7 NY,d 8 NY,d 9 NY,d 10 NY,d 11 NY,d 12 NY,d 13 NY,d 14 NY,d 15 NY,d 16 NY,d 17 NY,d 18 NY,d 19 NY,d 20 NY,i,h,f,q,m,-Int.natCast_add]
theorem Jd (f:k=22)
  {R:Ok} (h:ac pg 235 [NZ X,I w,I 0] G=some (NZ R,G)) :
  ab pg qa (nkS pre k w a b c n X Y Z o0 o1 o2 G)=Oh ⟨[(4,NZ R)],[],G⟩:=by
 have d:∀j:Int,j≠22->(k==j)=false:=λj i=>by rw[f];exact aU (λe=>i e.symm)
 have g:(k==22)=true:=by rw[f];rfl
 clear f;refine aa ?_;simp[qa,d 1 NY,d 4 NY,d 5 NY,d 6 NY,d 7 NY,d 8 NY,d 9 NY,d 10 NY,d 11 NY,d 12 NY,d 13 NY,d 14 NY,d 15 NY,d 16 NY,d 17 NY,d 18 NY,d 19 NY,d 20 NY,d 21 NY,g,h]
theorem Je (i:k=23) {R:Ok} {q:Int} {m:Nat} (p:X.length=m+1) (o:m<=100) (l:X[m]?=some (I q)) (h:ac pg 235 [NZ X,I w,I q] G=some (NZ R,G)) :
  ab pg qa (nkS pre k w a b c n X Y Z o0 o1 o2 G)=Oh ⟨[(4,NZ R)],[],G⟩:=by
 have d:∀j:Int,j≠23->(k==j)=false:=λj r=>by rw[i];exact aU (λe=>r e.symm)
 have g:WI.wrap ((X.length:Int)-1)=(m:Int):=by rw[aq NW NW];omega
 clear p
 have f:ab pg q8u ⟨[(3,Ob),(8,NZ X),(223,.bool false)],[[I k,I w,I a,I b,I c,I n]],G⟩=Oh ⟨[(4,NZ R)],[],G⟩:=
  aa (by simp[q8u,g,l,h])
 clear i;refine aa ?_;simp[qa,d 1 NY,d 4 NY,d 5 NY,d 6 NY,d 7 NY,d 8 NY,d 9 NY,d 10 NY,d 11 NY,d 12 NY,d 13 NY,d 14 NY,d 15 NY,d 16 NY,d 17 NY,d 18 NY,d 19 NY,d 20 NY,d 21 NY,d 22 NY,f]
end
end
section
attribute [local congr] bu
attribute [local simp] au
theorem kB (l:On) (i:Nat):(num l).testBit i=l.getD i false:=by
 rw[Nat.testBit_eq_decide_div_mod_eq];cases h:l.getD i false with
 |true=>exact aG ((uf l i).1 h)
 |false=>exact aF (λe=>by rw[(uf l i).2 e] at h;cases h)
theorem rH (op:Bool->Bool->Bool) (a:op false false=false):∀{xs ys:On},xs.length=ys.length->∀i,(List.zipWith op xs ys).getD i false=op (xs.getD i false) (ys.getD i false)
 |[],[],_,i=>by simp[a]
 |x::xs,y::ys,h,0=>rfl
 |x::xs,y::ys,h,i+1=>rH op a (xs:=xs) (ys:=ys) (by simpa using h) i
theorem nn {op:Bool->Bool->Bool} {a b:On} (h:a.length=b.length):(List.zipWith op a b).length=a.length:=by simp[h]
theorem Jf {b a:On} (h:b.length=a.length):num (List.zipWith (· && ·) b a)=num b &&&num a:=
 Nat.eq_of_testBit_eq λi=>by rw[kB,rH _ rfl h,Nat.testBit_and,kB,kB]
theorem Jg {b a:On} (h:b.length=a.length):num (List.zipWith (· || ·) b a)=num b |||num a:=
 Nat.eq_of_testBit_eq λi=>by rw[kB,rH _ rfl h,Nat.testBit_or,kB,kB]
theorem Jh {b a:On} (h:b.length=a.length):num (List.zipWith (· ^^ ·) b a)=num b ^^^num a:=
 Nat.eq_of_testBit_eq λi=>by rw[kB,rH _ rfl h,Nat.testBit_xor,kB,kB]
def eqB:On->On->Bool->Bool
 |x::b,y::a,c=>eqB b a (c&& !(x ^^y))
 |_,_,c=>c
theorem z8:∀{b a:On} {c:Bool},b.length=a.length->eqB b a c=(c&&decide (num b=num a))
 |[],[],c,_=>by simp[eqB]
 | x::b,y::a,c,h=>by
  rw[eqB,z8 (by simpa using h),num,num];have e:decide ((if x then 1 else 0)+2*num b=(if y then 1 else 0)+2*num a)=(!(x ^^y)&&decide (num b=num a)):=by
   by_cases h:num b=num a
   ·rw[h,aG (p:=num a=num a) rfl]
    cases x<;>cases y<;>simp<;>omega
   ·rw[aF h,Bool.and_false]
    exact aF (by cases x<;>cases y<;>simp<;>omega)
  rw[e];cases c<;>cases (x ^^y)<;>simp
def gr (x:On):On:=x.set (x.length-1) (!x.getD (x.length-1) false)
theorem uJ (x:On):(gr x).length=x.length:=by simp[gr]
theorem Aa {x:On} {n:Nat} (h:x.length=n+1):num x=num (x.take n)+2^n*(if x.getD n false then 1 else 0)/\num (gr x)=num (x.take n)+2^n*(if x.getD n false then 0 else 1):=by
 have e:∀y:On,y.length=n+1->num y=num (y.take n)+2^n*(if y.getD n false then 1 else 0):=by
  intro y b;have:=jS (y.take n) (y.drop n);rw[List.take_append_drop,cP,b,Nat.min_eq_left NW] at this;rw[this];have d:y.drop n=[y.getD n false]:=by rw[aJ NW,aM NW,aK,aA NW];rfl
  rw[d];cases y.getD n false<;>simp[num]
 refine⟨e x h,?_⟩;have a:=e (gr x) (by rw[uJ,h]);have c:gr x=x.set n (!x.getD n false):=by unfold gr;rw[h,Nat.add_sub_cancel]
 rw[c] at a ⊢;rw[a,List.take_set_of_le (cU n),aK (l:=x.set n _),List.getElem?_set_self NW];cases x.getD n false<;>rfl
theorem uK {x:On} {n:Nat} (h:x.length=n+1) (c:n+1<=8):iM (num x) (n+1:Nat)=(num (gr x):Int)-((2^n:Nat):Int):=by
 have a:=cz x;rw[h] at a;rw[HH ⟨NW,c⟩ a];obtain⟨e,d⟩:=Aa h;have f:num (x.take n)<2^n:=by have:=cz (x.take n);rw[cP,h,Nat.min_eq_left NW] at this;exact this
 have b:(2:Nat)^(n+1)=2*2^n:=by rw[Nat.pow_succ,Nat.mul_comm]
 rw[Nat.add_sub_cancel];rw[e,d,b];generalize (2:Nat)^n=P at *;cases x.getD n false
 ·simp;omega
 ·simp;omega
section
variable {W:Nat} {x y z:On} {b c n w0 w1:Int}
theorem fQ (a:W<=8):2^W<=256:=bQ (n:=2) NY a
theorem v4 (a:1<=W/\W<=8) (d:x.length=W):(num (x.map (!·)):Int)=cy 4 W (num x) b c n w0 w1:=by have h:=cz x;have e:=oJ x;have f:=fQ a.2;rw[d] at h e;rw[fA _ _ _ _ _ _ _ a.2,show dZ 4 (num x) b c n w0 w1=mS .i64 (num x) from rfl,<-HI a h];generalize 2^W=P at *;rw[aq (n:=(P:Int)-1) NW NW,aq NW NW];omega
theorem v5 (a:1<=W/\W<=8) (d:x.length=W):(num (li (zB W) x):Int)=cy 5 W (num x) b c n w0 w1:=by have h:=cz x;have e:=fQ a.2;rw[d] at h;rw[fA _ _ _ _ _ _ _ a.2,show dZ 5 (num x) b c n w0 w1=WI.wrap (0-(num x:Int)) from rfl,<-HJ a h];rw[uh (by simp[zB,d]),show (zB W).length=W by simp[zB],show num (zB W)=0 from iN W];generalize 2^W=P at *;rw[aq NW NW,Int.tmod_eq_emod_of_nonneg NW,<-(show ((0+P-num x:Nat):Int)=(P:Int)-num x by omega)];exact Int.natCast_emod _ _
theorem v6 (a:1<=W/\W<=8) (e:x.length=W) (d:y.length=W):(num (List.zipWith (· && ·) x y):Int)=cy 6 W (num x) (num y) c n w0 w1:=by have h:=cz x;have f:=cz y;have b:=cz (List.zipWith (· && ·) x y);have g:=fQ a.2;rw[nn NW] at b;rw[e] at h b;rw[d] at f;rw[fA _ _ _ _ _ _ _ a.2,show dZ 6 (num x) (num y) c n w0 w1=jI .i64 (num x) (num y) from rfl,tP NW NW,<-Jf NW];exact (Int.emod_eq_of_lt NW NW).symm
theorem v7 (a:1<=W/\W<=8) (e:x.length=W) (d:y.length=W):(num (List.zipWith (· || ·) x y):Int)=cy 7 W (num x) (num y) c n w0 w1:=by have h:=cz x;have f:=cz y;have b:=cz (List.zipWith (· || ·) x y);have g:=fQ a.2;rw[nn NW] at b;rw[e] at h b;rw[d] at f;rw[fA _ _ _ _ _ _ _ a.2,show dZ 7 (num x) (num y) c n w0 w1=iOr .i64 (num x) (num y) from rfl,tQ NW NW,<-Jg NW];exact (Int.emod_eq_of_lt NW NW).symm
theorem v8 (a:1<=W/\W<=8) (e:x.length=W) (d:y.length=W):(num (List.zipWith (· ^^ ·) x y):Int)=cy 8 W (num x) (num y) c n w0 w1:=by have h:=cz x;have f:=cz y;have b:=cz (List.zipWith (· ^^ ·) x y);have g:=fQ a.2;rw[nn NW] at b;rw[e] at h b;rw[d] at f;rw[fA _ _ _ _ _ _ _ a.2,show dZ 8 (num x) (num y) c n w0 w1=gz .i64 (num x) (num y) from rfl,Gw NW NW,<-Jh NW];exact (Int.emod_eq_of_lt NW NW).symm
theorem v9 (b:1<=W/\W<=8) (a:x.length=W) (d:y.length=W):(num (eo x y false).1:Int)=cy 9 W (num x) (num y) c n w0 w1:=by have h:=cz x;have e:=cz y;have f:=fQ b.2;rw[a] at h;rw[d] at e;rw[fA _ _ _ _ _ _ _ b.2,show dZ 9 (num x) (num y) c n w0 w1=WI.wrap ((num x:Int)+num y) from rfl,zp NW,a,aq NW NW,<-Int.natCast_add];exact Int.natCast_emod _ _
theorem v10 (a:1<=W/\W<=8) (b:x.length=W) (e:y.length=W):(num (li x y):Int)=cy 10 W (num x) (num y) c n w0 w1:=by have h:=cz x;have d:=cz y;have f:=fQ a.2;rw[b] at h;rw[e] at d;rw[fA _ _ _ _ _ _ _ a.2,show dZ 10 (num x) (num y) c n w0 w1=WI.wrap ((num x:Int)-num y) from rfl,<-HK a h d,uh NW,b];generalize 2^W=P at *;rw[aq (n:=(num x:Int)+P) NW NW,aq NW NW,Int.tmod_eq_emod_of_nonneg NW,<-(show ((num x+P-num y:Nat):Int)=(num x:Int)+P-num y by omega)];exact Int.natCast_emod _ _
theorem v11 (b:1<=W/\W<=8) (a:x.length=W) (d:y.length=W):(num (jn x 0 y (zB x.length)):Int)=cy 11 W (num x) (num y) c n w0 w1:=by have h:=cz x;have f:=cz y;have g:=fQ b.2;rw[a] at h;rw[d] at f;have i:num x*num y<=256*256:=Nat.mul_le_mul NW NW;rw[fA _ _ _ _ _ _ _ b.2,show dZ 11 (num x) (num y) c n w0 w1=WI.wrap ((num x:Int)*num y) from rfl,HQ NW,a];have e:((num x:Int)*num y)=((num x*num y:Nat):Int):=NX;rw[e,aq NW NW];exact Int.natCast_emod _ _
theorem v12 (b:1<=W/\W<=8) (f:x.length=W) (g:y.length=W) (q:Nat) (a:q=if num y=0 then 2^x.length-1 else num x/num y):(q:Int)=cy 12 W (num x) (num y) c n w0 w1:=by
 have h:=cz x;have i:=fQ b.2;rw[f] at h a;rw[fA _ _ _ _ _ _ _ b.2,show dZ 12 (num x) (num y) c n w0 w1=(if (num y:Int)=0 then -1 else WI.wrap (Int.tdiv (num x) (num y))) from rfl];have k:1<=2^W:=Nat.one_le_two_pow;by_cases d:num y=0
 ·rw[if_pos d] at a
  rw[if_pos NW,<-HL b,a];generalize 2^W=P at *;rw[aq NW NW];omega
 ·rw[if_neg d] at a
  rw[if_neg NW,<-HM b h,a];have j:num x/num y<=num x:=Nat.div_le_self _ _;have e:Int.tdiv (num x:Int) (num y)=((num x/num y:Nat):Int):=by rw[Int.tdiv_eq_ediv_of_nonneg NW];simp
  rw[e,aq NW NW]
theorem v13 (b:1<=W/\W<=8) (e:x.length=W) (f:y.length=W) (q:Nat) (a:q=if num y=0 then num x else num x%num y):(q:Int)=cy 13 W (num x) (num y) c n w0 w1:=by
 have h:=cz x;have g:=fQ b.2;rw[e] at h;rw[fA _ _ _ _ _ _ _ b.2,show dZ 13 (num x) (num y) c n w0 w1=(if (num y:Int)=0 then (num x:Int) else Int.tmod (num x) (num y)) from rfl];by_cases d:num y=0
 ·rw[if_pos d] at a
  rw[if_pos NW,a];exact (Int.emod_eq_of_lt NW NW).symm
 ·rw[if_neg d] at a
  rw[if_neg NW,<-HN h,a];rw[Int.tmod_eq_emod_of_nonneg NW];simp
theorem v14 (a:1<=W/\W<=8) (d:x.length=W):(num (shB true 0 y x):Int)=cy 14 W (num x) (num y) c n w0 w1:=by
 have h:=cz x;have i:=fQ a.2;rw[d] at h;rw[fA _ _ _ _ _ _ _ a.2,show dZ 14 (num x) (num y) c n w0 w1=eR .i64 (num x) (num y) from rfl,zt,d,Nat.pow_zero,Nat.one_mul];by_cases g:W<=num y
 ·rw[Int.natCast_pow 2 W]
  have:=GC (A:=num x) (b:=num y) a.2 g;rw[show ((2:Nat):Int)=2 from rfl,this,show num y=W+(num y-W) by omega,Nat.pow_add,<-Nat.mul_assoc,Nat.mul_right_comm,Nat.mul_mod_left];rfl
 ·have f:2^num y<=256:=fQ (W:=num y) NW
  have j:num x*2^num y<=256*256:=Nat.mul_le_mul NW f;rw[<-HO a h NW];have e:((num x:Int)*((2^num y:Nat):Int))=((num x*2^num y:Nat):Int):=NX;rw[e,aq NW NW,Int.tmod_eq_emod_of_nonneg NW];exact Int.natCast_emod _ _
theorem v15 (a:1<=W/\W<=8) (b:x.length=W):(num (shB false 0 y x):Int)=cy 15 W (num x) (num y) c n w0 w1:=by have h:=cz x;have d:=fQ a.2;rw[b] at h;have e:num x/2^num y<=num x:=Nat.div_le_self _ _;rw[fA _ _ _ _ _ _ _ a.2,show dZ 15 (num x) (num y) c n w0 w1=kg .i64 (num x) (num y) from rfl,zu,Nat.pow_zero,Nat.one_mul,qX _ _ NW];generalize num x/2^num y=q at *;exact (Int.emod_eq_of_lt NW NW).symm
theorem rI (b:Bool):(num [b]:Int)=if b then 1 else 0:=by cases b<;>rfl
theorem v16 (a:x.length=y.length):(num [eqB x y true]:Int)=cy 16 (1:Nat) (num x) (num y) c n w0 w1:=by
 rw[fA _ _ _ _ _ _ _ NY,show dZ 16 (num x) (num y) c n w0 w1=(if (num x:Int)=num y then 1 else 0) from rfl,z8 a,Bool.true_and,rI];by_cases h:num x=num y
 ·rw[aG h,if_pos rfl,if_pos NW];rfl
 ·rw[aF h,if_neg NX,if_neg NW];rfl
theorem v17 (a:x.length=y.length):(num [iO x y]:Int)=cy 17 (1:Nat) (num x) (num y) c n w0 w1:=by
 rw[fA _ _ _ _ _ _ _ NY,show dZ 17 (num x) (num y) c n w0 w1=(if (num x:Int)<num y then 1 else 0) from rfl,ug a,rI];by_cases h:num x<num y
 ·rw[aG h,if_pos rfl,if_pos NW];rfl
 ·rw[aF h,if_neg NX,if_neg NW];rfl
theorem v18 (e:1<=x.length/\x.length<=8) (d:x.length=y.length):(num [iO (gr x) (gr y)]:Int)=cy 18 (1:Nat) (num x) (num y) c n (x.length:Nat) (y.length:Nat):=by
 obtain⟨m,b⟩:∃m,x.length=m+1:=⟨x.length-1,NW⟩
 have a:y.length=m+1:=NW;rw[fA _ _ _ _ _ _ _ NY,show dZ 18 (num x) (num y) c n (x.length:Nat) (y.length:Nat)=(if iM (num x) (x.length:Nat)<iM (num y) (y.length:Nat) then 1 else 0) from rfl,ug (by rw[uJ,uJ,d]),rI,b,a,uK b NW,uK a NW];by_cases h:num (gr x)<num (gr y)
 ·rw[aG h,if_pos rfl,if_pos NW];rfl
 ·rw[aF h,if_neg NX,if_neg NW];rfl
theorem v19 (e:1<=W/\W<=8) (d:x.length=1) (c:y.length=W) (a:z.length=W):(num (d9 (x.getD 0 false) y z):Int)=cy 19 W (num x) (num y) (num z) n w0 w1:=by
 have h:=cz y;have f:=cz z;rw[c] at h;rw[a] at f;rw[fA _ _ _ _ _ _ _ e.2,show dZ 19 (num x) (num y) (num z) n w0 w1=(if (num x:Int)=1 then (num y:Int) else num z) from rfl]
 match x,d with
 | [b],_=>
  rw[rI];cases b
  ·show ((num z:Nat):Int)=((num z:Nat):Int)%_
   exact (Int.emod_eq_of_lt NW NW).symm
  ·show ((num y:Nat):Int)=((num y:Nat):Int)%_
   exact (Int.emod_eq_of_lt NW NW).symm
theorem v20 (a:1<=W/\W<=8) (d:x.length+y.length=W):(num (y++x):Int)=cy 20 W (num x) (num y) c n w0 (y.length:Nat):=by
 have h:=cz x;have f:=cz y;have b:=cz (y++x);have g:=fQ a.2;rw[aQ,Nat.add_comm,d] at b;subst d;rw[fA _ _ _ _ _ _ _ a.2,show dZ 20 (num x) (num y) c n w0 (y.length:Nat)=iOr .i64 (eR .i64 (num x) (y.length:Nat)) (num y) from rfl,<-HP h f a.2];rw[jS] at b ⊢;have e:(num x:Int)*((2^y.length:Nat):Int)=((2^y.length*num x:Nat):Int):=by rw[Nat.mul_comm];simp
 rw[e,aq (n:=((2^y.length*num x:Nat):Int)) NW NW,aq NW NW];omega
theorem v21 {N:Nat} (d:1<=W/\W<=8) (a:x.length<=8):(num ((x.drop N).take W):Int)=cy 21 W (num x) b c (N:Nat) w0 w1:=by have h:=cz x;have e:=fQ a;rw[fA _ _ _ _ _ _ _ d.2,show dZ 21 (num x) b c (N:Nat) w0 w1=kg .i64 (num x) (N:Nat) from rfl,qX _ _ NW,rl,zo];exact Int.natCast_emod _ _
theorem v22 (d:1<=W/\W<=8) (a:x.length<=W):(num (x++List.replicate (W-x.length) false):Int)=cy 22 W (num x) b c n w0 w1:=by have h:=cz x;have e:2^x.length<=2^W:=bQ NY a;rw[fA _ _ _ _ _ _ _ d.2,show dZ 22 (num x) b c n w0 w1=(num x:Int) from rfl,jS,iN];rw[Nat.mul_zero,cG];exact (Int.emod_eq_of_lt NW NW).symm
theorem Ab:∀n:Nat,num (List.replicate n true)+1=2^n
 |0=>rfl
 |n+1=>by have:=Ab n;rw[List.replicate_succ,num,Nat.pow_succ];simp;omega
theorem v23 (j:1<=W/\W<=8) (o:1<=x.length/\x.length<=W):(num (x++List.replicate (W-x.length) (x.getD (x.length-1) false)):Int)=cy 23 W (num x) b c n (x.length:Nat) w1:=by
 obtain⟨m,e⟩:∃m,x.length=m+1:=⟨x.length-1,NW⟩
 have h:=cz x;have q:=fQ j.2;obtain⟨d,a⟩:=Aa e;have p:num (x.take m)<2^m:=by have:=cz (x.take m);rw[cP,e,Nat.min_eq_left NW] at this;exact this
 rw[fA _ _ _ _ _ _ _ j.2,show dZ 23 (num x) b c n (x.length:Nat) w1=iM (num x) (x.length:Nat) from rfl,jS,e,uK e NW,Nat.add_sub_cancel];have f:2^(m+1)*2^(W-(m+1))=2^W:=by rw[<-Nat.pow_add];congr 1;omega
 have k:(2:Nat)^(m+1)=2*2^m:=by rw[Nat.pow_succ,Nat.mul_comm]
 have l:2^(m+1)<=2^W:=bQ NY NW;have r:1<=2^m:=Nat.one_le_two_pow;cases i:x.getD m false with
 |false=>
  rw[i] at d a;simp at d a;rw[iN,Nat.mul_zero,cG,d,a];generalize 2^W=P at *;rw[show ((num (x.take m)+2^m:Nat):Int)-((2^m:Nat):Int)=(num (x.take m):Int) by omega];exact (Int.emod_eq_of_lt NW NW).symm
 | true=>
  rw[i] at d a;simp at d a;have hn:=Ab (W-(m+1));have g:2^(m+1)*num (List.replicate (W-(m+1)) true)+2^(m+1)=2^W:=by rw[<-f,<-hn,Nat.mul_add,Nat.mul_one]
  rw[d,a];generalize 2^(m+1)*num (List.replicate (W-(m+1)) true)=Q,2^W=P,2^m=M at *;rw[<-Int.add_emod_right ((num (x.take m):Int)-(M:Int)) (P:Int)];rw[Int.emod_eq_of_lt NW NW];omega
end
end
section
attribute [local congr] bu
attribute [local simp] au
def eX (l:Oi):List (PV×PV):=l.map λa=>(I a,B true)
def gE (l:Oi) (k:Int):Oi:=if k∈l then l else l++[k]
theorem Ji (l:Oi) (k:Int):ef 0 (eX l) (I k) (B true)=some (eX (gE l k)):=by
 induction l with
 |nil=>rfl
 | cons a l d=>
  by_cases h:k=a
  ·simp[eX,gE,ef,dB,h]
  ·have b:ef 0 (l.map λa=>(I a,B true)) (I k) (B true)=some (eX (gE l k)):=d
   by_cases c:k∈l
   ·simp[eX,gE,ef,dB,aU h,h,c] at b ⊢
    exact b
   ·simp[eX,gE,ef,dB,aU h,h,c] at b ⊢
    exact b
def fm (l:Oi) (a:Oi):Oi:=a.foldl gE l
theorem Jj (l:Oi) (k:Int):(gE l k).length=if k∈l then l.length else l.length+1:=by unfold gE;split<;>simp
theorem Jk {l:Oi} {k a:Int}:a∈gE l k↔a∈l\/a=k:=by
 unfold gE;split
 ·rename_i h
  exact⟨.inl,λb=>b.elim id λe=>e▸h⟩
 ·simp
theorem Ac:∀(b l:Oi),(fm l b).length<=l.length+b.length/\((fm l b).length=l.length+b.length↔(b.Nodup/\∀a∈b,a∉l))
 |[],l=>by simp[fm]
 | x::b,l=>by
  have f:=Ac b (gE l x);have e:fm l (x::b)=fm (gE l x) b:=rfl;rw[e];have d:=Jj l x;by_cases h:x∈l
  ·rw[if_pos h] at d
   rw[d] at f;refine⟨by simp;omega,⟨λk=>by simp at k;omega,λ⟨_,c⟩=>absurd h (c x NX)⟩⟩
  ·rw[if_neg h] at d
   rw[d] at f;refine⟨by simp;omega,?_⟩;have o:(x::b).length=b.length+1:=rfl;rw[o,show l.length+(b.length+1)=l.length+1+b.length by omega,f.2];simp only[List.nodup_cons,List.mem_cons,Jk];constructor
   ·rintro⟨i,c⟩
    refine⟨⟨λj=>(c x j) (.inr rfl),i⟩,?_⟩;rintro a (rfl|ha)
    ·exact h
    ·exact λg=>c a ha (.inl g)
   ·rintro⟨⟨i,c⟩,n⟩
    refine⟨c,λa ha=>?_⟩;rintro (m|rfl)
    ·exact n a (.inr ha) m
    ·exact i ha
def dK (a:Om):Prop:=¬(a.map (·.1)).Nodup
instance (a:Om):Decidable (dK a):=by unfold dK;exact inferInstance
theorem Ad (a:Om):((fm [] (a.map (·.1))).length<a.length)↔dK a:=by have:=Ac (a.map (·.1)) [];simp at this;unfold dK;rw[<-this.2];omega
section
variable {m:Md} {gh:Ol}
theorem Ae {d:Om} {k:Nat} (l:Sz d.length):∀n j (c:Oi),j+n=d.length->
  ab pg qev ⟨[(9,LP d),(10,.mp gh.length),(56,ga m),(57,I 2),(58,I (k:Int)),(63,LP d),(64,I d.length),(65,I (j:Int))],[],gh++[.map (eX c)]⟩=
   Og ⟨[(9,LP d),(10,.mp gh.length),(56,ga m),(57,I 2),(58,I (k:Int))],[],gh++[.map (eX (fm c ((d.drop j).map (·.1))))]⟩
 |0,j,c,h=>by
  rw[aM NW];have e:¬(j:Int)<(d.length:Int):=NW;refine (bn (s1:=?J) (aa ?Z)).trans ?Y
  case Z=>simp[qa0,e];rfl
  case Y=>simp[keep,bj,fm]
 |n+1,j,c,h=>by
  have e:j<d.length:=NW;have f:(j:Int)<(d.length:Int):=NW;have q:WI.wrap ((j:Int)+1)=((j+1:Nat):Int):=gv (by simp only[Sz] at l ⊢;omega);have g:(d.map aj)[j]?=some (aj d[j]):=by simp[aA e]
  rw[mT] at g;rw[aJ e];generalize d[j]=p at *;obtain⟨a,b⟩:=p;simp only[bS] at g ⊢;have i:fm c (a::(d.drop (j+1)).map (·.1))=fm (gE c a) ((d.drop (j+1)).map (·.1)):=rfl;rw[i];have o:=Ji c a;refine ay (s1:=⟨[(9,LP d),(10,.mp gh.length),(56,ga m),(57,I 2),(58,I (k:Int)),(63,LP d),(64,I d.length),(65,I ((j+1:Nat):Int))],[],gh++[GObj.map (eX (gE c a))]⟩) (aa ?_) (Ae (k:=k) l n (j+1) (gE c a) NW);simp[qa0,f,g,q,o,-List.getElem?_map]
theorem Af {ps:Om} {k:Nat} (j:(k=0/\ps=m.inits)\/(k=1/\ps=m.nexts)) (o:Sz ps.length) :
  ab pg q3x ⟨[(56,ga m),(57,I 2),(58,I (k:Int))],[],gh⟩=
   if dK ps then Oh ⟨[(2,I 6)],[],gh++[.map (eX (fm [] (ps.map (·.1))))]⟩
   else Og ⟨[(56,ga m),(57,I 2),(58,I ((k+1:Nat):Int))],[],gh++[.map (eX (fm [] (ps.map (·.1))))]⟩:=by
 have g:=Ae (m:=m) (gh:=gh) (k:=k) o ps.length 0 [] NW;rw[bJ] at g;simp only[aR] at g;have h:∀l,(eX l).length=l.length:=λl=>by simp[eX]
 have p:decide (((fm [] (ps.map (·.1))).length:Int)<(ps.length:Int))=decide (dK ps):=by have:=Ad ps;exact decide_eq_decide.2 (by rw[<-this];omega)
 have d:decide ((fm [] (ps.map (·.1))).length<ps.length)=decide (dK ps):=decide_eq_decide.2 (Ad ps);have i:eX []=[]:=rfl;rw[i] at g;have q:WI.wrap ((k:Int)+1)=((k+1:Nat):Int):=by rcases j with ⟨rfl,_⟩|⟨rfl,_⟩<;>decide
 have f:([LP m.inits,LP m.nexts]:Ok)[k]?=some (LP ps):=by rcases j with ⟨rfl,rfl⟩|⟨rfl,rfl⟩<;>rfl
 have e:(k:Int)<2:=NW;generalize t:fm [] (ps.map (·.1))=A at *
 have a:=aa (c:=qa1) (s:=⟨[(9,(LP ps)),(10,(.mp gh.length)),(56,(ga m)),(57,(.int .i64 2)),(58,(.int .i64 k))],[],(gh++[.map (eX A)])⟩) (pg:=pg)
  (r:=some (if dK ps then .ret else .normal,if dK ps then ⟨[(2,I 6)],[],gh++[.map (eX A)]⟩ else ⟨[(56,ga m),(57,I 2),(58,I (k:Int)),(77,B false)],[],gh++[.map (eX A)]⟩))
  (by simp[qa1,h,d];by_cases b:dK ps<;>simp[b])
 have n:=aa (c:=qa2) (s:=⟨[(56,(ga m)),(57,(.int .i64 2)),(58,(.int .i64 k)),(77,(.bool false))],[],(gh++[.map (eX A)])⟩) (r:=Og ⟨[(56,ga m),(57,I 2),(58,I ((k+1:Nat):Int))],[],gh++[.map (eX A)]⟩) (pg:=pg) (by simp[qa2,q]);by_cases b:dK ps
 ·rw[if_pos b] at a ⊢
  rw[if_pos b] at a;refine aa ?_;simp[q3x,e,f,g,a]
 ·rw[if_neg b] at a ⊢
  rw[if_neg b] at a;refine aa ?_;simp[q3x,e,f,g,a,n]
end
end
section
attribute [local congr] bu
attribute [local simp] au nk
def iz (m:Md) (f:On):Int:=
 if di m.nodes f true m.inits≠0 then di m.nodes f true m.inits else if di m.nodes f false m.nexts≠0 then di m.nodes f false m.nexts
 else if dK m.inits\/dK m.nexts then 6 else 0
section
variable {m:Md} {gh:Ol}
theorem Jl {f:On} (j:f.length=m.nodes.length) (p:Sz m.inits.length) (o:Sz m.nexts.length) :
  ab pg qeu ⟨[(0,Oe gh.length 0),(23,ga m),(24,I 2),(25,I 0)],[],ckG gh m f⟩=
   if di m.nodes f true m.inits≠0 then Oh ⟨[(2,I (di m.nodes f true m.inits))],[],ckG gh m f⟩
   else if di m.nodes f false m.nexts≠0 then Oh ⟨[(2,I (di m.nodes f false m.nexts))],[],ckG gh m f⟩
   else Og ⟨[(0,Oe gh.length 0)],[],ckG gh m f⟩:=by
 have b:=uH (gh:=gh) (m:=m) (ps:=m.inits) (k:=0) j p m.inits.length 0 NW;have a:=uH (gh:=gh) (m:=m) (ps:=m.nexts) (k:=1) j o m.nexts.length 0 NW;rw[bJ] at b a;unfold nk at b a;simp only[aR,decide_true] at b a;rw[show decide (1=0)=false from rfl] at a;simp only[Int.natCast_one] at b a;have w1:WI.wrap (0+1)=1:=NY;have n:WI.wrap (1+1)=2:=NY;have i:∀x,ab pg q9z ⟨[(0,Oe gh.length 0),(23,ga m),(24,I 2),(25,I x)],[],ckG gh m f⟩=Og ⟨[(0,Oe gh.length 0),(23,ga m),(24,I 2),(25,I (WI.wrap (x+1)))],[],ckG gh m f⟩:=λx=>by refine aa ?_;simp[q9z]
 generalize ckG gh m f=l at *;by_cases g:di m.nodes f true m.inits=0
 ·rw[if_pos g] at b
  rw[if_neg (λh=>h g)];have d:=i 0;rw[w1] at d;refine ay (s1:=⟨[(0,Oe gh.length 0),(23,ga m),(24,I 2),(25,I 1)],[],l⟩) (aa (by simp[q3c,b,d])) ?_;by_cases e:di m.nodes f false m.nexts=0
  ·rw[if_pos e] at a
   rw[if_neg (λh=>h e)];have c:=i 1;rw[n] at c;refine ay (s1:=⟨[(0,Oe gh.length 0),(23,ga m),(24,I 2),(25,I 2)],[],l⟩) (aa (by simp[q3c,a,c])) ?_;refine (bn (s1:=?J) (aa ?Z)).trans ?Y
   case Z=>simp[q3c];rfl
   case Y=>simp[keep,bj]
  ·rw[if_neg e] at a
   rw[if_pos e];refine cx (aa ?_);simp[q3c,a]
 ·rw[if_neg g] at b
  rw[if_pos g];refine cx (aa ?_);simp[q3c,b]
theorem Jm (i:Sz m.inits.length) (f:Sz m.nexts.length):∃e,
  ab pg qew ⟨[(56,ga m),(57,I 2),(58,I 0)],[],gh⟩=
   if dK m.inits\/dK m.nexts then Oh ⟨[(2,I 6)],[],gh++e⟩ else Og ⟨[],[],gh++e⟩:=by
 have b:=Af (gh:=gh) (m:=m) (ps:=m.inits) (k:=0) (.inl ⟨rfl,rfl⟩) i;have a:=λg=>Af (gh:=g) (m:=m) (ps:=m.nexts) (k:=1) (.inr ⟨rfl,rfl⟩) f
 simp only[aR,Int.natCast_one,cV,show ((1+1:Nat):Int)=2 from rfl] at b a;generalize fm [] (m.inits.map (·.1))=A,fm [] (m.nexts.map (·.1))=B at *;by_cases d:dK m.inits
 ·rw[if_pos d] at b
  exact⟨_,by rw[if_pos (.inl d)];exact cx b⟩
 ·rw[if_neg d] at b
  have a:=a (gh++[.map (eX A)]);by_cases c:dK m.nexts
  ·rw[if_pos c] at a
   refine⟨[.map (eX A)]++[.map (eX B)],?_⟩;rw[if_pos (.inr c),<-aT];exact ay b (cx a)
  ·rw[if_neg c] at a
   refine⟨[.map (eX A)]++[.map (eX B)],?_⟩;rw[if_neg (by rintro (h|h)<;>contradiction),<-aT];refine ay b (ay a ((bn (s1:=?J) (aa ?Z)).trans ?Y))
   case Z=>simp[q3x];rfl
   case Y=>simp[keep]
theorem Jn {f:On} (q:f.length=m.nodes.length) (j:Sz m.inits.length) (i:Sz m.nexts.length) :
  ac pg 79 [Oe gh.length 0] (ckG gh m f)=some (I (iz m f),ckG gh m f):=by
 have a:=Jl (gh:=gh) q j i;obtain⟨k,d⟩:=Jm (m:=m) (gh:=ckG gh m f) j i;have b:=uF (gh:=gh) (m:=m) (f:=f);unfold iz;have e:∀g,ab pg q6k ⟨[],[],g⟩=Oh ⟨[(2,I 0)],[],g⟩:=λg=>aa (c:=q6k) (s:=⟨[],[],_⟩) (by simp[q6k]<;>rfl)
 have p:ab pg q6l ⟨[(0,Oe gh.length 0)],[],ckG gh m f⟩=Oh ⟨[(2,I (if dK m.inits\/dK m.nexts then 6 else 0))],[],ckG gh m f++k⟩:=by
  refine aa ?_;generalize ckG gh m f=l at *;have e:=e (l++k);by_cases t:dK m.inits\/dK m.nexts
  ·rw[if_pos t] at d
   simp[q6l,b,d,t]
  ·rw[if_neg t] at d
   simp[q6l,b,d,t,e]
 generalize (if dK m.inits\/dK m.nexts then (6:Int) else 0)=r,ckG gh m f=l at *;by_cases o:di m.nodes f true m.inits=0
 ·rw[if_neg (λh=>h o)] at a ⊢
  by_cases n:di m.nodes f false m.nexts=0
  ·rw[if_neg (λh=>h n)] at a ⊢
   refine ak (fn:=q1b) (s:=?J) rfl rfl (aa ?Z) ?Y
   case Z=>simp[q6m,q1b,b,a,p];rfl
   case Y=>simp[ag,results,q1b,ah,am,af]
  ·rw[if_pos n] at a ⊢
   refine ak (fn:=q1b) (s:=?K) rfl rfl (aa ?V) ?W
   case V=>simp[q6m,q1b,b,a];rfl
   case W=>simp[ag,results,q1b,ah,am,af]
 ·rw[if_pos o] at a ⊢
  refine ak (fn:=q1b) (s:=?Ja) rfl rfl (aa ?Jb) ?Jc
  case Jb=>simp[q6m,q1b,b,a];rfl
  case Jc=>simp[ag,results,q1b,ah,am,af]
def jp (m:Md):Int:=
 if m.nexts.length<(ci m.nodes 3).length then 5 else if (m.bads++m.holds).any (λa=> !decide (c8 m.nodes a)) then 5
 else if (m.bads++m.holds).any (λa=> !decide (wAt m.nodes a=1)) then 1 else 0
theorem Jo {f:On} {n:Int} {g:Ol} {b c:Nat} (h:g[b]?=some (.cells [LN m.nodes,LP m.inits,LP m.nexts,LI m.bads,LI m.holds,Oa (f.map B)])) (e:g[c]?=some (.cells [Oe b 0])) :
  ac pg 108 [I n,Oe c 0] g=some (B (!decide (c8 m.nodes n)),g):=by
 have a:=uE (n:=n) h;generalize decide (c8 m.nodes n)=d at *;refine ak (fn:=q6r) (s:=?J) rfl rfl (aa ?Z) ?Y
 case Z=>simp[qf2,q6r,e,a];rfl
 case Y=>simp[ag,results,q6r,ah,am,af]
theorem Jp {f:On} {n:Int} {g:Ol} {b c:Nat} (e:g[b]?=some (.cells [LN m.nodes,LP m.inits,LP m.nexts,LI m.bads,LI m.holds,Oa (f.map B)])) (d:g[c]?=some (.cells [Oe b 0])) (hn:c8 m.nodes n) :
  ac pg 109 [I n,Oe c 0] g=some (B (!decide (wAt m.nodes n=1)),g):=by
 have a:=iP hn;have h:=hn.1;unfold wAt;generalize m.nodes.getD n.toNat default=i at *;rw[dT i] at a;refine ak (fn:=q6s) (s:=?J) rfl rfl (aa ?Z) ?Y
 case Z=>simp[qf3,q6s,e,d,h,a,-List.getElem?_map];rfl
 case Y=>simp[ag,results,q6s,ah,am,af]
theorem Jq {f:On} (D:m.nodes.length<=1000) (L:m.bads.length<=100) (H:m.holds.length<=100) :
  ac pg 80 [Oe gh.length 0] (ckG gh m f)=some (I (jp m),ckG gh m f):=by
 have E:=uF (gh:=gh) (m:=m) (f:=f);have y:(ckG gh m f).length=gh.length+1:=by simp[ckG]
 generalize ckG gh m f=o at *;obtain⟨e,d⟩:∃e,e=o++[GObj.cells [Oe gh.length 0]]:=⟨_,rfl⟩
 have g:e.take o.length=o:=by rw[d];simp
 have l:e[gh.length]?=some (.cells [LN m.nodes,LP m.inits,LP m.nexts,LI m.bads,LI m.holds,Oa (f.map B)]):=by rw[d,aI NW];exact E
 have k:e[o.length]?=some (.cells [Oe gh.length 0]):=by rw[d];simp
 have r:=ng (m:=m) (gh:=e) (kind:=3) D;rw[eq] at r;have v:((m.bads.map I).length+(m.holds.map I).length)*8<=maxBytes:=by have:=MB;simp;omega
 have q:Sz (m.bads++m.holds).length:=by simp only[Sz,aQ];omega
 have i:=zV (gh:=e) (X:=m.bads.map I) (Y:=m.holds.map I) (mU _) (mU _) v;rw[<-bI] at i;have w:=tN (xs:=m.bads++m.holds) (c:=108) (caps:=[Oe o.length 0]) (gh:=e) (λx _=>Jo (n:=x) l k) rfl q;have t:(∀a∈m.bads++m.holds,c8 m.nodes a)->_:=λhn=>tN (xs:=m.bads++m.holds) (c:=109) (caps:=[Oe o.length 0]) (gh:=e) (λx C=>Jp l k (hn x C)) rfl q
 have u:(m.bads++m.holds).any (λa=> !decide (c8 m.nodes a))=false->∀a∈m.bads++m.holds,c8 m.nodes a:=λh a ha=>by have:=List.any_eq_false.1 h a ha;simpa using this
 unfold jp;generalize (m.bads++m.holds).any (λa=> !decide (c8 m.nodes a))=A,(m.bads++m.holds).any (λa=> !decide (wAt m.nodes a=1))=z,G:ci m.nodes 3=b at *;have j:(b.map I).length=b.length:=NX;have F:(m.nexts.map aj).length=m.nexts.length:=NX;simp only[LI] at *;generalize (m.bads++m.holds).map I=M,m.bads.map I=P,m.holds.map I=O,b.map I=Q,m.nexts.map aj=N at *;by_cases p:m.nexts.length<b.length
 ·rw[if_pos p]
  refine ak (fn:=qr) (s:=⟨[(2,I 5)],[],e⟩) rfl rfl (aa ?J) ?Z
  case J=>simp[q3y,qr];rw[<-d];simp[l,k,r,j,p]
  case Z=>simp[ag,results,qr,ah,am,af,g]
 ·rw[if_neg p]
  cases A with
  |true=>
   rw[if_pos rfl];refine ak (fn:=qr) (s:=⟨[(2,I 5)],[],e⟩) rfl rfl (aa ?Y) ?K
   case Y=>simp[q3y,qr];rw[<-d];simp[l,k,r,j,p,i,w]
   case K=>simp[ag,results,qr,ah,am,af,g]
  | false=>
   rw[if_neg NX];have t:=t (u rfl);cases z with
   |true=>
    rw[if_pos rfl];refine ak (fn:=qr) (s:=⟨[(2,I 1)],[],e⟩) rfl rfl (aa ?V) ?W
    case V=>simp[q3y,qr];rw[<-d];simp[l,k,r,j,p,i,w,t]
    case W=>simp[ag,results,qr,ah,am,af,g]
   |false=>
    rw[if_neg NX];refine ak (fn:=qr) (s:=⟨[(2,I 0)],[],e⟩) rfl rfl (aa ?Ja) ?Jb
    case Ja=>simp[q3y,qr];rw[<-d];simp[l,k,r,j,p,i,w,t]
    case Jb=>simp[ag,results,qr,ah,am,af,g]
def fG (L:List Nd):Nat->List Nd->Int
 |_,[]=>0
 |i,x::l=>if eA L i x=0 then fG L (i+1) l else eA L i x
def dc (m:Md):Int:=
 if m.nodes.length>80\/m.bads.length>8\/m.holds.length>8 then 2
 else if fG m.nodes 0 m.nodes≠0 then fG m.nodes 0 m.nodes
 else if cw m.nodes 2>6\/cw m.nodes 3>10 then 2
 else if iz m (dU [] m.nodes)≠0 then iz m (dU [] m.nodes) else jp m
theorem uL {L:List Nd}:∀{i:Nat} {l:List Nd},fG L i l=0->∀j x,l[j]?=some x->eA L ((i+j:Nat):Int) x=0
 |i,y::l,h,0,x,a=>by
  rw[fG] at h;simp at a;subst a;split at h
  ·assumption
  ·contradiction
 | i,y::l,h,j+1,x,a=>by
  rw[fG] at h;split at h
  ·have:=uL h j x (by simpa using a)
   rw[show i+(j+1)=i+1+j by omega];exact this
  ·contradiction
theorem uM {L:List Nd} (h:fG L 0 L=0):nh L:=by
 intro i x l a ha;have b:=uL h i x l;rw[cV] at b;unfold eA at b;split at b
 ·omega
 rename_i m;split at b
 ·omega
 split at b
 ·rename_i d
  unfold dG at ha;rw[zN ⟨NW,d⟩] at ha;simp at ha
 split at b
 ·omega
 rename_i e;unfold gW eV at e;simp only[not_or] at e;obtain⟨j,g,f⟩:=e;unfold dG at ha;rcases gD x.k with c|c|c|c<;>rw[c] at ha j g f<;>simp at ha j g f
 ·subst ha;exact⟨NW,NW⟩
 ·rcases ha with rfl|rfl<;>exact⟨NW,NW⟩
 ·rcases ha with rfl|rfl|rfl<;>exact⟨NW,NW⟩
theorem Ag (d:m.nodes.length<=1000):∀k i,i+k=m.nodes.length->
  ab pg qep ⟨[(1,Ob),(27,I m.nodes.length),(28,I (i:Int))],[[LN m.nodes,LP m.inits,LP m.nexts,LI m.bads,LI m.holds]],gh⟩=
   if fG m.nodes i (m.nodes.drop i)=0 then Og ⟨[(1,Ob)],[[LN m.nodes,LP m.inits,LP m.nexts,LI m.bads,LI m.holds]],gh⟩
   else Oh ⟨[(2,I (fG m.nodes i (m.nodes.drop i)))],[],gh⟩
 |0,i,h=>by
  rw[aM NW,fG,if_pos rfl];have a:¬(i:Int)<(m.nodes.length:Int):=NW;refine (bn (s1:=?J) (aa ?Z)).trans ?Y
  case Z=>simp[q6c,a];rfl
  case Y=>simp[keep,bj]
 | k+1,i,h=>by
  have a:i<m.nodes.length:=NW;have b:(i:Int)<(m.nodes.length:Int):=NW;have e:WI.wrap ((i:Int)+1)=((i+1:Nat):Int):=by rw[aq NW NW];omega
  have hn:=IE (l:=m.nodes) (gh:=gh) (idx:=i) (aA a);rw[aJ a,fG];generalize eA m.nodes (i:Int) m.nodes[i]=r at *;by_cases c:r=0
  ·rw[if_pos c]
   refine ay (s1:=⟨[(1,Ob),(27,I m.nodes.length),(28,I ((i+1:Nat):Int))],[[LN m.nodes,LP m.inits,LP m.nexts,LI m.bads,LI m.holds]],gh⟩) (aa ?_) (Ag d k (i+1) NW);simp[q6c,b,hn,c,e]
  ·rw[if_neg c,if_neg c]
   refine cx (aa ?_);simp[q6c,b,hn,c]
theorem Ah (A:Sz m.inits.length) (z:Sz m.nexts.length):ac pg 38 [dn m] gh=some (I (dc m),gh):=by
 unfold dc;have w:(m.nodes.map bh).length=m.nodes.length:=NX;have y:(m.bads.map I).length=m.bads.length:=NX;have x:(m.holds.map I).length=m.holds.length:=NX;rw[eq];by_cases t:m.nodes.length>80\/m.bads.length>8\/m.holds.length>8
 ·rw [if_pos t]
  refine ak (fn:=qc) (s:=⟨[(2,I 2)],[],gh⟩) rfl rfl (aa ?J) ?Z
  case Z=>simp[ag,results,qc,ah,am,af]
  case J=>
   by_cases c:(80:Int)<(m.nodes.length:Int)
   ·simp[q1p,qc,c]
   ·by_cases d:(8:Int)<(m.bads.length:Int)
    ·simp[q1p,qc,c,d]
    ·have e:(8:Int)<(m.holds.length:Int):=NW
     simp[q1p,qc,c,d,e]
 ·rw [if_neg t]
  have c:¬(80:Int)<(m.nodes.length:Int):=NW;have d:¬(8:Int)<(m.bads.length:Int):=NW;have e:¬(8:Int)<(m.holds.length:Int):=NW;have b:=Ag (m:=m) (gh:=gh) NW m.nodes.length 0 NW;rw[bJ] at b;simp only[aR] at b;by_cases hn:fG m.nodes 0 m.nodes=0
  ·rw [if_neg (λh=>h hn)]
   rw[if_pos hn] at b;have k:=zS (m:=m) (gh:=gh) NW;rw[eq] at k;have a:=IK (m:=m) (gh:=gh) (uM hn) NW;have v:(dU [] m.nodes).length=m.nodes.length:=by simpa using uD [] m.nodes
   have q:=Jn (gh:=gh) v A z;have u:=Jq (m:=m) (gh:=gh) (f:=dU [] m.nodes) NW NW NW;have i:(ckG gh m (dU [] m.nodes)).take gh.length=gh:=by simp[ckG]
   have p:ckG gh m []=gh++[GObj.cells [LN m.nodes,LP m.inits,LP m.nexts,LI m.bads,LI m.holds,Oa []]]:=rfl;generalize ckG gh m (dU [] m.nodes)=n,iz m (dU [] m.nodes)=r at *;rw[p] at a;by_cases j:cw m.nodes 2>6\/cw m.nodes 3>10
   ·rw[if_pos j]
    have g:ab pg q1o ⟨[(1,Ob)],[[LN m.nodes,LP m.inits,LP m.nexts,LI m.bads,LI m.holds]],gh⟩=Oh ⟨[(2,I 2)],[],gh⟩:=by
     refine aa ?_;by_cases l:6<cw m.nodes 2
     ·simp[q1o,k,l]
     ·have o:10<cw m.nodes 3:=NW
      simp[q1o,k,l,o]
    refine ak (fn:=qc) (s:=⟨[(2,I 2)],[],gh⟩) rfl rfl (aa ?Y) ?K
    case K=>simp[ag,results,qc,ah,am,af]
    case Y=>simp[q1p,qc,c,d,e,b,g]
   ·rw[if_neg j]
    have l:¬6<cw m.nodes 2:=NW;have o:¬10<cw m.nodes 3:=NW;by_cases hr:r=0
    ·rw[if_neg (λh=>h hr)]
     have g:ab pg q1o ⟨[(1,Ob)],[[LN m.nodes,LP m.inits,LP m.nexts,LI m.bads,LI m.holds]],gh⟩=Oh ⟨[(2,I (jp m))],[],n⟩:=by refine aa ?_;simp[q1o,k,l,o,a,q,hr,u]
     refine ak (fn:=qc) (s:=⟨[(2,I (jp m))],[],n⟩) rfl rfl (aa ?V) ?W
     case W=>simp[ag,results,qc,ah,am,af,i]
     case V=>simp[q1p,qc,c,d,e,b,g]
    ·rw[if_pos hr]
     have g:ab pg q1o ⟨[(1,Ob)],[[LN m.nodes,LP m.inits,LP m.nexts,LI m.bads,LI m.holds]],gh⟩=Oh ⟨[(2,I r)],[],n⟩:=by refine aa ?_;simp[q1o,k,l,o,a,q,hr]
     refine ak (fn:=qc) (s:=⟨[(2,I r)],[],n⟩) rfl rfl (aa ?Ja) ?Jb
     case Jb=>simp[ag,results,qc,ah,am,af,i]
     case Ja=>simp[q1p,qc,c,d,e,b,g]
  ·rw[if_pos hn]
   rw[if_neg hn] at b;generalize fG m.nodes 0 m.nodes=r at *;refine ak (fn:=qc) (s:=⟨[(2,I r)],[],gh⟩) rfl rfl (aa ?Jc) ?Jd
   case Jd=>simp[ag,results,qc,ah,am,af]
   case Jc=>simp[q1p,qc,c,d,e,b]
end
end
section
attribute [local congr] bu
attribute [local simp] au
@[simp] theorem ble11 : Nat.ble 1 1 = true := rfl
section
variable {m:Md} {gh:Ol}
theorem uN {kind:Int} (p:m.nodes.length*8<=140737488355328):∀k i (a:Oi),i+k=m.nodes.length->a.length<=i->
  ab pg qfj ⟨[(1,I kind),(2,Ob),(5,Oa (a.map I)),(6,I (i:Int))],[[LN m.nodes,LP m.inits,LP m.nexts,LI m.bads,LI m.holds]],gh⟩=
   Og ⟨[(5,Oa ((a++da kind i (m.nodes.drop i)).map I))],[],gh⟩
 |0,i,a,h,_=>by
  rw[aM NW];have c:¬i<m.nodes.length:=NW;refine (bn (s1:=?J) (aa ?Z)).trans ?Y
  case Z=>simp[q75,c];rfl
  case Y=>simp[keep,da,bj]
 | k+1,i,a,h,ha=>by
  have c:i<m.nodes.length:=NW;have f:(i<m.nodes.length):=c;have o:(i:Int)<(m.nodes.length:Int):=NW;have q:WI.wrap ((i:Int)+1)=((i+1:Nat):Int):=gv (by simp only[Sz];omega);have j:(m.nodes.map bh)[i]?=some (bh m.nodes[i]):=by simp[aA c]
  rw[dT m.nodes[i]] at j;have l:(a.length+1)*8<=maxBytes:=by have:=MB;omega
  rw[aJ c,da];generalize m.nodes[i]=x at *;have b:∀d:Ok,ab pg qaw ⟨[(1,I kind),(2,Ob),(5,Oa d),(6,I (i:Int))],[[LN m.nodes,LP m.inits,LP m.nexts,LI m.bads,LI m.holds]],gh⟩=Og ⟨[(1,I kind),(2,Ob),(5,Oa d),(6,I ((i+1:Nat):Int))],[[LN m.nodes,LP m.inits,LP m.nexts,LI m.bads,LI m.holds]],gh⟩:=λd=>by refine aa ?_;simp[qaw,q]
  by_cases g:x.k=kind
  ·rw[if_pos g]
   have e:a++(i:Int)::da kind (i+1) (m.nodes.drop (i+1))=(a++[(i:Int)])++da kind (i+1) (m.nodes.drop (i+1)):=NX;rw[e];have b:=b (a.map I++[I (i:Int)]);refine ay (s1:=⟨[(1,I kind),(2,Ob),(5,Oa ((a++[(i:Int)]).map I)),(6,I ((i+1:Nat):Int))],[[LN m.nodes,LP m.inits,LP m.nexts,LI m.bads,LI m.holds]],gh⟩) (aa ?_) (uN p k (i+1) _ NW (by simp;omega));have n:(a.map I).length=a.length:=NX;simp only[bI,bS,bU] at b ⊢;generalize a.map I=A at *;simp[q75,f,j,g,n,l,b,List.getElem?_cons_zero,-List.getElem?_map,-getElem?_pos]
  ·rw[if_neg g]
   have b:=b (a.map I);refine ay (s1:=⟨[(1,I kind),(2,Ob),(5,Oa (a.map I)),(6,I ((i+1:Nat):Int))],[[LN m.nodes,LP m.inits,LP m.nexts,LI m.bads,LI m.holds]],gh⟩) (aa ?_) (uN p k (i+1) _ NW NW);generalize a.map I=A at *;simp[q75,f,j,g,b,List.getElem?_cons_zero,-List.getElem?_map,-getElem?_pos]
theorem Jr {kind:Int} (b:m.nodes.length*8<=140737488355328):ac pg 39 [dn m,I kind] gh=some (LI (ci m.nodes kind),gh):=by
 have h:=uN (gh:=gh) (kind:=kind) b m.nodes.length 0 [] NW NX;rw[bJ,bF] at h;simp only[bU,aR] at h;have hn:=mU (da kind 0 m.nodes);have d:=aa (c:=qax) (s:=⟨[(5,(Oa ((da kind 0 m.nodes).map I)))],[],gh⟩) (r:=Oh ⟨[(4,NZ ((da kind 0 m.nodes).map I))],[],gh⟩) (pg:=pg) (by simp[qax]);unfold ci;simp only[LI] at *;generalize (da kind 0 m.nodes).map I=a at *;rw[eq];refine ak (fn:=q76) (s:=⟨[(4,NZ a)],[],gh⟩) rfl rfl (aa ?J) ?Z
 case J=>simp[qfk,q76,h,d]
 case Z=>simp[ag,results,q76,ah,am,af,hn]
theorem uP {kind:Int} (j:m.nodes.length*8<=140737488355328):∀k i s,i+k=m.nodes.length->
  ab pg qfm ⟨[(1,I kind),(2,Ob),(5,I s),(6,I (i:Int))],[[LN m.nodes,LP m.inits,LP m.nexts,LI m.bads,LI m.holds]],gh⟩=
   Og ⟨[(5,I (((m.nodes.drop i).filter λx=>decide (x.k=kind)).foldl lU s))],[],gh⟩
 |0,i,s,h=>by
  rw[aM NW];have b:¬i<m.nodes.length:=NW;refine (bn (s1:=?J) (aa ?Z)).trans ?Y
  case Z=>simp[q77,b];rfl
  case Y=>simp[keep,bj]
 | k+1,i,s,h=>by
  have b:i<m.nodes.length:=NW;have c:(i<m.nodes.length):=b;have g:(i:Int)<(m.nodes.length:Int):=NW;have l:WI.wrap ((i:Int)+1)=((i+1:Nat):Int):=gv (by simp only[Sz];omega);have f:(m.nodes.map bh)[i]?=some (bh m.nodes[i]):=by simp[aA b]
  rw[dT m.nodes[i]] at f;rw[aJ b,List.filter_cons];generalize m.nodes[i]=x at *;have a:∀e,ab pg qb0 ⟨[(1,I kind),(2,Ob),(5,I e),(6,I (i:Int))],[[LN m.nodes,LP m.inits,LP m.nexts,LI m.bads,LI m.holds]],gh⟩=Og ⟨[(1,I kind),(2,Ob),(5,I e),(6,I ((i+1:Nat):Int))],[[LN m.nodes,LP m.inits,LP m.nexts,LI m.bads,LI m.holds]],gh⟩:=λe=>by refine aa ?_;simp[qb0,l]
  by_cases d:x.k=kind
  ·rw[if_pos (by simpa using d),List.foldl_cons]
   have a:=a (WI.wrap (s+x.w));refine ay (s1:=⟨[(1,I kind),(2,Ob),(5,I (lU s x)),(6,I ((i+1:Nat):Int))],[[LN m.nodes,LP m.inits,LP m.nexts,LI m.bads,LI m.holds]],gh⟩) (aa ?_) (uP j k (i+1) _ NW);unfold lU;simp[q77,c,f,d,a,List.getElem?_cons_zero,-List.getElem?_map,-getElem?_pos]
  ·rw[if_neg (by simpa using d)]
   have a:=a s;refine ay (s1:=⟨[(1,I kind),(2,Ob),(5,I s),(6,I ((i+1:Nat):Int))],[[LN m.nodes,LP m.inits,LP m.nexts,LI m.bads,LI m.holds]],gh⟩) (aa ?_) (uP j k (i+1) _ NW);simp[q77,c,f,d,a,List.getElem?_cons_zero,-List.getElem?_map,-getElem?_pos]
theorem Ai {kind:Int} (a:m.nodes.length*8<=140737488355328):ac pg 73 [dn m,I kind] gh=some (I (cw m.nodes kind),gh):=by
 have h:=uP (gh:=gh) (kind:=kind) a m.nodes.length 0 0 NW;rw[bJ] at h;simp only[aR] at h;unfold cw;generalize (m.nodes.filter λx=>decide (x.k=kind)).foldl lU 0=r at *;have b:=aa (c:=qb1) (s:=⟨[(5,(.int .i64 r))],[],gh⟩) (pg:=pg) (by simp[qb1]<;>rfl);rw[eq];refine ak (fn:=q78) (s:=⟨[(4,I r)],[],gh⟩) rfl rfl (aa ?J) ?Z
 case J=>simp[qfn,q78,h,b]
 case Z=>simp[ag,results,q78,ah,am,af]
end
end
section
variable {i:Int} {b:Bool} {x:Nd}
attribute [local congr] bu
attribute [local simp] au
section
variable {m:Md} {gh:Ol}
def fK (c:Prop) [Decidable c] (f:On) (b:Bool) (a:Int):Bool:=if c then b||f.getD a.toNat false else b
theorem Js (f:On) (x:Nd):pb f x=fK (2<ar x.k) f (fK (1<ar x.k) f (fK (0<ar x.k) f (decide (x.k=2\/x.k=3)) x.a) x.b) x.c:=by unfold pb dG fK;rcases gD x.k with h|h|h|h<;>rw[h]<;>simp[Bool.or_assoc]
abbrev br (m:Md):Ok:=[LN m.nodes,LP m.inits,LP m.nexts,LI m.bads,LI m.holds]
theorem Jt {f:On} (c:f.length<=1000) :
  ab pg qb2 ⟨[(1,Ob),(3,Oa (f.map B)),(4,I i),(6,B b)],[br m],gh⟩=Og ⟨[(1,Ob),(3,Oa ((f++[b]).map B)),(4,I i)],[br m],gh⟩:=by
 have a:f.length+1<=maxBytes:=by have:=MB;omega
 refine aa ?_;simp[qb2,a]
theorem Ju {f:On} (j:f.length<=1000) (l:2<ar x.k->0<=x.c/\x.c.toNat<f.length) :
  ab pg q46 ⟨[(1,Ob),(3,Oa (f.map B)),(4,I i),(5,Oc),(6,B b)],[br m,[I x.k,I x.w,I x.a,I x.b,I x.c,I x.n]],gh⟩=
   Og ⟨[(1,Ob),(3,Oa ((f++[fK (2<ar x.k) f b x.c]).map B)),(4,I i)],[br m],gh⟩:=by
 have e:=gp x.k gh;have d:=λq=>Jt (m:=m) (gh:=gh) (i:=i) (b:=q) j
 unfold fK;refine aa ?_;by_cases h:2<ar x.k
 ·obtain⟨p,o⟩:=l h
  have g:=ni o;rw[if_pos h];generalize f.getD x.c.toNat false=c at *;generalize ar x.k=t at *;cases b with
  |true=>
   have d:=d true;simp only[br] at *;simp[q46,e,h,d]
  |false=>
   have d:=d c;simp only[br,Bool.false_or] at *;generalize (f++[c]).map B=r at *;generalize f.map B=F at *;simp[q46,e,h,p,g,d]
 ·rw[if_neg h]
  have d:=d b;generalize ar x.k=t at *;simp only[br] at *;generalize (f++[b]).map B=r at *;generalize f.map B=F at *;simp[q46,e,h,d]
theorem Jv {f:On} (o:f.length<=1000) (q:1<ar x.k->0<=x.b/\x.b.toNat<f.length) (p:2<ar x.k->0<=x.c/\x.c.toNat<f.length) :
  ab pg q47 ⟨[(1,Ob),(3,Oa (f.map B)),(4,I i),(5,Oc),(6,B b)],[br m,[I x.k,I x.w,I x.a,I x.b,I x.c,I x.n]],gh⟩=
   Og ⟨[(1,Ob),(3,Oa ((f++[fK (2<ar x.k) f (fK (1<ar x.k) f b x.b) x.c]).map B)),(4,I i)],[br m],gh⟩:=by
 have g:=gp x.k gh;have d:=λv=>Ju (m:=m) (gh:=gh) (i:=i) (b:=v) o p
 have e:∀c,fK (1<ar x.k) f b c=if 1<ar x.k then b||f.getD c.toNat false else b:=λ_=>rfl
 rw[e];refine aa ?_;by_cases h:1<ar x.k
 ·obtain⟨u,s⟩:=q h
  have j:=ni s;rw[if_pos h];generalize f.getD x.b.toNat false=c at *;cases b with
  |true=>
   have d:=d true;rw[Bool.true_or];generalize fK (2<ar x.k) f true x.c=r at *;simp only[br] at *;generalize ar x.k=t at *;generalize (f++[r]).map B=l at *;generalize f.map B=F at *;simp[q47,g,h,d]
  |false=>
   have d:=d c;rw[Bool.false_or];simp only[br] at *;generalize fK (2<ar x.k) f c x.c=r at *;generalize ar x.k=t at *;generalize (f++[r]).map B=l at *;generalize f.map B=F at *;simp[q47,g,h,u,j,d]
 ·rw[if_neg h]
  have d:=d b;generalize fK (2<ar x.k) f b x.c=r at *;generalize ar x.k=t at *;simp only[br] at *;generalize (f++[r]).map B=l at *;generalize f.map B=F at *;simp[q47,g,h,d]
theorem Aj (E:nh m.nodes) (H:m.nodes.length<=1000):∀k i (f:On),i+k=m.nodes.length->f.length=i->
  ab pg qfo ⟨[(1,Ob),(3,Oa (f.map B)),(4,I (i:Int))],[br m],gh⟩=Og ⟨[(3,Oa ((dU f (m.nodes.drop i)).map B))],[],gh⟩
 |0,i,f,h,_=>by
  rw[aM NW];have j:¬i<m.nodes.length:=NW;refine (bn (s1:=?J) (aa ?Z)).trans ?Y
  case Z=>simp[q2k,j];rfl
  case Y=>simp[keep,dU,bj]
 | k +1,i,f,h,Q=>by
  have j:i<m.nodes.length:=NW;have d:(i<m.nodes.length):=j;have N:WI.wrap ((i:Int)+1)=((i+1:Nat):Int):=by rw[aq NW NW];omega
  have q:(m.nodes.map bh)[i]?=some (bh m.nodes[i]):=by simp[aA j]
  have p:=E i _ (aA j);rw[aJ j,dU,Js];generalize m.nodes[i]=x at *;rw[dT x] at q;have ha:0<ar x.k->0<=x.a/\x.a.toNat<f.length:=λe=>by have:=p x.a (by unfold dG;rcases gD x.k with h|h|h|h<;>rw[h] at e ⊢ <;>simp at e ⊢);omega
  have M:1<ar x.k->0<=x.b/\x.b.toNat<f.length:=λe=>by have:=p x.b (by unfold dG;rcases gD x.k with h|h|h|h<;>rw[h] at e ⊢ <;>simp at e ⊢);omega
  have L:2<ar x.k->0<=x.c/\x.c.toNat<f.length:=λe=>by have:=p x.c (by unfold dG;rcases gD x.k with h|h|h|h<;>rw[h] at e ⊢ <;>simp at e ⊢);omega
  have g:=λP=>Jv (m:=m) (gh:=gh) (i:=(i:Int)) (b:=P) (by omega:f.length<=1000) M L
  have l:∀D:Ok,ab pg qb3 ⟨[(1,Ob),(3,Oa D),(4,I (i:Int))],[br m],gh⟩=Og ⟨[(1,Ob),(3,Oa D),(4,I ((i+1:Nat):Int))],[br m],gh⟩:=λD=>by refine aa ?_;simp[qb3,N]
  have e:=gp x.k gh;refine ay (aa ?_) (Aj E H k (i+1) _ NW (by simp;omega));have O:∀b,fK (0<ar x.k) f b x.a=if 0<ar x.k then b||f.getD x.a.toNat false else b:=λ_=>rfl
  rw[O];simp only[br] at *;by_cases u:x.k=2
  ·have s:decide (x.k=2)=true:=aG u
   have z:decide (x.k=2\/x.k=3)=true:=aG (.inl u);rw[z];have w:(if 0<ar x.k then true||f.getD x.a.toNat false else true)=true:=by split<;>simp
   rw[w];have g:=g true;generalize fK (2<ar x.k) f (fK (1<ar x.k) f true x.b) x.c=r at *;have l:=l ((f++[r]).map B);generalize ar x.k=t at *;generalize (f++[r]).map B=G at *;generalize f.map B=F at *;by_cases o:0<t
   ·simp[q2k,d,q,s,e,o,g,l,List.getElem?_cons_zero,-List.getElem?_map,-getElem?_pos]
   ·simp[q2k,d,q,s,e,o,g,l,List.getElem?_cons_zero,-List.getElem?_map,-getElem?_pos]
  ·have s:¬(x.k=2):=u
   have z:decide (x.k=2\/x.k=3)=decide (x.k=3):=by simp[u]
   rw[z];by_cases o:0<ar x.k
   ·rw[if_pos o]
    obtain⟨C,A⟩:=ha o;have y:=ni A;generalize f.getD x.a.toNat false=c at *;have g:=g (decide (x.k=3)||c);generalize n:decide (x.k=3)=v at *;generalize fK (2<ar x.k) f (fK (1<ar x.k) f (v||c) x.b) x.c=r at *;have l:=l ((f++[r]).map B);generalize ar x.k=t at *;generalize (f++[r]).map B=G at *;generalize f.map B=F at *;cases v with
    |true=>
     rw[Bool.true_or] at g;simp[q2k,d,q,s,e,o,n,g,l,List.getElem?_cons_zero,-List.getElem?_map,-getElem?_pos]
    |false=>
     rw[Bool.false_or] at g;simp[q2k,d,q,s,e,o,n,C,y,g,l,List.getElem?_cons_zero,-List.getElem?_map,-getElem?_pos]
   ·rw[if_neg o]
    have g:=g (decide (x.k=3));generalize n:decide (x.k=3)=v at *;generalize fK (2<ar x.k) f (fK (1<ar x.k) f v x.b) x.c=r at *;have l:=l ((f++[r]).map B);generalize ar x.k=t at *;generalize (f++[r]).map B=G at *;generalize f.map B=F at *;simp[q2k,d,q,s,e,o,n,g,l,List.getElem?_cons_zero,-List.getElem?_map,-getElem?_pos]
theorem Jw (g:nh m.nodes) (e:m.nodes.length<=1000):ac pg 74 [dn m] gh=some (NZ ((dU [] m.nodes).map B),gh):=by
 have h:=Aj (gh:=gh) g e m.nodes.length 0 [] NW rfl;rw[bJ] at h;simp only[bU,aR,br] at h;have hn:dr ((dU [] m.nodes).map B)=true:=by
  generalize dU [] m.nodes=l
  induction l with
  |nil=>rfl
  |cons a l d=>simpa using d
 generalize (dU [] m.nodes).map B=b at *;have f:=aa (c:=qb4) (s:=⟨[(3,(Oa b))],[],gh⟩) (r:=Oh ⟨[(2,NZ b)],[],gh⟩) (pg:=pg) (by simp[qb4]);rw[eq];refine ak (fn:=q79) (s:=⟨[(2,NZ b)],[],gh⟩) rfl rfl (aa ?J) ?Z
 case J=>simp[qfp,q79,h,f]
 case Z=>simp[ag,results,q79,ah,am,af,hn]
end
end
section
attribute [local congr] bu
attribute [local simp] au
def jU:Om->Om->Bool
 |_,[]=>false
 |a,p::l=>a.any (λq=>decide (p.1=q.1))||jU (a++[p]) l
theorem Ak:∀{pre l:Om},jU pre l=false↔((l.map (·.1)).Nodup/\∀p∈l,∀q∈pre,p.1≠q.1)
 |pre,[]=>by simp[jU]
 | pre,p::l=>by
  rw[jU,Bool.or_eq_false_iff,Ak (pre:=pre++[p]) (l:=l)];simp only[List.any_eq_false,bS,List.nodup_cons,List.mem_cons,cE,List.not_mem_nil,or_false,aH];constructor
  ·rintro⟨f,e,c⟩
   refine⟨⟨λg=>?_,e⟩,?_⟩
   ·obtain⟨q,b,d⟩:=List.mem_map.1 g
    exact c q b p (.inr rfl) d
   ·rintro a (rfl|ha) q b
    ·exact f q b
    ·exact c a ha q (.inl b)
  ·rintro⟨⟨f,e⟩,c⟩
   refine⟨λq b=>c p (.inl rfl) q b,e,λa ha q b=>?_⟩;rcases b with b|rfl
   ·exact c a (.inr ha) q b
   ·exact λd=>f (d▸List.mem_map_of_mem ha)
theorem Jx (l:Om):jU [] l=decide (dK l):=by
 have h:=Ak (pre:=[]) (l:=l);unfold dK;cases a:jU [] l with
 |false=>exact (aF λhn=>hn (h.1 a).1).symm
 |true=>
  have:¬jU [] l=false:=by simp[a]
  rw[h] at this;exact (aG (p:=¬(l.map (·.1)).Nodup) λhn=>this ⟨hn,NX⟩).symm
section
variable {m:Md} {gh:Ol}
theorem Al (d:m.nodes.length<=1000):∀k i,i+k=m.nodes.length->
  ab pg qfe ⟨[(1,Ob),(3,I (i:Int))],[br m],gh⟩=
   if fG m.nodes i (m.nodes.drop i)=0 then Og ⟨[(1,Ob)],[br m],gh⟩
   else Oh ⟨[(2,I (fG m.nodes i (m.nodes.drop i)))],[],gh⟩
 |0,i,h=>by
  rw[aM NW,fG,if_pos rfl];have a:¬i<m.nodes.length:=NW;refine (bn (s1:=?J) (aa ?Z)).trans ?Y
  case Z=>simp[q6y,a];rfl
  case Y=>simp[keep,bj]
 | k+1,i,h=>by
  have a:i<m.nodes.length:=NW;have b:(i<m.nodes.length):=a;have e:WI.wrap ((i:Int)+1)=((i+1:Nat):Int):=by rw[aq NW NW];omega
  have hn:=IH (l:=m.nodes) (gh:=gh) (idx:=i) (aA a) NW;rw[aJ a,fG];generalize eA m.nodes (i:Int) m.nodes[i]=r at *;by_cases c:r=0
  ·rw[if_pos c]
   refine ay (s1:=⟨[(1,Ob),(3,I ((i+1:Nat):Int))],[br m],gh⟩) (aa ?_) (Al d k (i+1) NW);simp[q6y,b,hn,c,e]
  ·rw[if_neg c,if_neg c]
   refine cx (aa ?_);simp[q6y,b,hn,c]
theorem uQ (a:m.nodes.length<=1000) (n:Int):ac pg 50 [I n,I 0,I (WI.wrap ((m.nodes.length:Int)-1))] gh=some (B (decide (c8 m.nodes n)),gh):=by have e:WI.wrap ((m.nodes.length:Int)-1)=(m.nodes.length:Int)-1:=aq NW NW;rw[e,fe];have:decide (0<=n/\n<=(m.nodes.length:Int)-1)=decide (c8 m.nodes n):=decide_eq_decide.2 ⟨λh=>⟨h.1,NW⟩,λh=>⟨h.1,by have:=h.2;have:=h.1;omega⟩⟩;rw[this]
theorem uR {f:On} {ps:Om} {k:Nat} (Q:f.length=m.nodes.length) (M:m.nodes.length<=1000) (O:Sz ps.length):∀n j,j+n=ps.length->
  ab pg q6z ⟨[(1,Ob),(5,NZ (f.map B)),(6,I (k:Int)),(7,LP ps),(8,I (j:Int))],[br m],gh⟩=
   if di m.nodes f (decide (k=0)) (ps.drop j)=0 then Og ⟨[(1,Ob),(5,NZ (f.map B)),(6,I (k:Int))],[br m],gh⟩
   else Oh ⟨[(2,I (di m.nodes f (decide (k=0)) (ps.drop j)))],[],gh⟩
 |0,j,h=>by
  rw[aM NW,di,if_pos rfl];have i:¬j<ps.length:=NW;refine (bn (s1:=?J) (aa ?Z)).trans ?Y
  case Z=>simp[q1d];simp[i];rfl
  case Y=>simp[keep,bj]
 | n + 1,j,h=>by
  have i:j<ps.length:=NW;have d:(j<ps.length):=i;have P:(j:Int)<(ps.length:Int):=NW;have R:WI.wrap ((j:Int)+1)=((j+1:Nat):Int):=gv (by simp only[Sz] at O ⊢;omega);have t:(ps.map aj)[j]?=some (aj ps[j]):=by simp[aA i]
  rw[mT] at t;rw[aJ i,di];generalize ps[j]=p at *;obtain⟨a,b⟩:=p;simp only at t;have g:((k:Int)==0)=decide (k=0):=by rw[yt];exact decide_eq_decide.2 NW
  obtain⟨c,x⟩:∃c,decide (k=0)=c:=⟨_,rfl⟩
  rw[x] at g ⊢;have s:=uQ (m:=m) (gh:=gh) M a;have v:=uQ (m:=m) (gh:=gh) M b;have S:(m.nodes.map bh).length=m.nodes.length:=NX;generalize hw:WI.wrap ((m.nodes.length:Int)-1)=w at *
  have e:∀r,r≠0->eW m.nodes f c (a,b)=r->evK pg q1d fiK ⟨[(1,(Ob)),(5,(NZ (f.map B))),(6,(.int .i64 k)),(7,(LP ps)),(8,(.int .i64 j))],[[(LN m.nodes),(LP m.inits),(LP m.nexts),(LI m.bads),(LI m.holds)]],gh⟩=Oh ⟨[(2,I r)],[],gh⟩->
    ab pg q6z ⟨[(1,Ob),(5,NZ (f.map B)),(6,I (k:Int)),(7,LP ps),(8,I (j:Int))],[br m],gh⟩=
   if (if eW m.nodes f c (a,b)=0 then di m.nodes f c (ps.drop (j+1)) else eW m.nodes f c (a,b))=0 then Og ⟨[(1,Ob),(5,NZ (f.map B)),(6,I (k:Int))],[br m],gh⟩
   else Oh ⟨[(2,I (if eW m.nodes f c (a,b)=0 then di m.nodes f c (ps.drop (j+1)) else eW m.nodes f c (a,b)))],[],gh⟩:=by
   intro r hr N T;rw[N,if_neg hr,if_neg hr];exact cx (aa T)
  by_cases G:c8 m.nodes a
  ·rw [aG G] at s
   by_cases C:c8 m.nodes b
   ·rw [aG C] at v
    have q:=iP G;have A:=iP C;have D:=G.1;have L:=C.1;have u:=ni (f:=f) (a:=b) (by rw[Q];exact C.2);by_cases E:(m.nodes.getD a.toNat default).k=3
    ·by_cases o:wAt m.nodes a=wAt m.nodes b
     ·by_cases y:c=true/\f.getD b.toNat false=true
      ·refine e 4 NY (by simp only[eW];rw[if_neg (by rintro (h|h|h)<;>contradiction),if_neg (λh=>h o),if_pos y]) ?_
       obtain⟨rfl,y⟩:=y;rw[y] at u;unfold wAt at o;generalize m.nodes.getD a.toNat default=l,m.nodes.getD b.toNat default=H at *;rw[dT l] at q;rw[dT H] at A;have z:(l.k=3):=E;simp[q1d,g,d,t,hw,s,v,D,L,q,A,z,o,u,List.getElem?_cons_zero,-List.getElem?_map,-getElem?_pos]
      ·have N:eW m.nodes f c (a,b)=0:=by simp only[eW];rw[if_neg (by rintro (h|h|h)<;>contradiction),if_neg (λh=>h o),if_neg y]
       rw[N,if_pos rfl];refine ay (s1:=⟨[(1,Ob),(5,NZ (f.map B)),(6,I (k:Int)),(7,LP ps),(8,I ((j+1:Nat):Int))],[br m],gh⟩) (aa ?_) ?_
       ·unfold wAt at o
        generalize m.nodes.getD a.toNat default=l,m.nodes.getD b.toNat default=H at *;rw[dT l] at q;rw[dT H] at A;have z:(l.k=3):=E;cases c with
        |true=>
         have y:f.getD b.toNat false=false:=by simpa using y
         rw[y] at u;generalize f.map B=F at *;simp[q1d,g,d,t,hw,s,v,D,L,q,A,z,o,u,R,List.getElem?_cons_zero,-List.getElem?_map,-getElem?_pos]
        |false=>
         generalize f.map B=F at *;simp[q1d,g,d,t,hw,s,v,D,L,q,A,z,o,R,List.getElem?_cons_zero,-List.getElem?_map,-getElem?_pos]
       ·rw[<-x]
        exact uR Q M O n (j+1) NW
     ·refine e 1 NY (by simp only[eW];rw[if_neg (by rintro (h|h|h)<;>contradiction),if_pos o]) ?_
      unfold wAt at o;generalize m.nodes.getD a.toNat default=l,m.nodes.getD b.toNat default=H at *;rw[dT l] at q;rw[dT H] at A;have z:(l.k=3):=E;simp[q1d,g,d,t,hw,s,v,D,L,q,A,z,o,List.getElem?_cons_zero,-List.getElem?_map,-getElem?_pos]
    ·refine e 5 NY (by simp only[eW];rw[if_pos (.inr (.inr E))]) ?_
     generalize m.nodes.getD a.toNat default=l at *;rw[dT l] at q;have z:¬(l.k=3):=E;simp[q1d,g,d,t,hw,s,v,D,q,z,List.getElem?_cons_zero,-List.getElem?_map,-getElem?_pos]
   ·rw[aF C] at v
    refine e 5 NY (by simp only[eW];rw[if_pos (.inr (.inl C))]) ?_;simp[q1d,g,d,t,hw,s,v,List.getElem?_cons_zero,-List.getElem?_map,-getElem?_pos]
  ·rw[aF G] at s
   refine e 5 NY (by simp only[eW];rw[if_pos (.inl G)]) ?_;simp[q1d,g,d,t,hw,s,List.getElem?_cons_zero,-List.getElem?_map,-getElem?_pos]
theorem Am {c:Om} {k i:Nat} {s w:Int} (r:Sz c.length) (l:c[i]?=some (s,w)):∀n j,j+n=i->
  ab pg qfg ⟨[(1,Ob),(10,I (k:Int)),(11,LP c),(12,I (i:Int)),(13,I (j:Int))],[br m],gh⟩=
   if ((c.take i).drop j).any (λq=>decide (s=q.1))=true then Oh ⟨[(2,I 6)],[],gh⟩
   else Og ⟨[(1,Ob),(10,I (k:Int)),(11,LP c),(12,I (i:Int))],[br m],gh⟩
 |0,j,h=>by
  have p:=(aD.1 l).1;rw[aM (by simp;omega),List.any_nil,if_neg NX];have e:¬j<i:=NW;refine (bn (s1:=?J) (aa ?Z)).trans ?Y
  case Z=>simp[q70,e];rfl
  case Y=>simp[keep,bj]
 | n+1,j,h=>by
  have p:=(aD.1 l).1;have e:(j:Int)<(i:Int):=NW;have d:j<i:=NW;have u:WI.wrap ((j:Int)+1)=((j+1:Nat):Int):=gv (by simp only[Sz] at r ⊢;omega);have t:j<(c.take i).length:=by simp;omega
  have g:(c.map aj)[j]?=some (aj (c.take i)[j]):=by simp[aA (show j<c.length by omega)]
  have f:(c.map aj)[i]?=some (aj (s,w)):=by simp[l]
  rw[mT] at g f;rw[aJ t,List.any_cons];generalize (c.take i)[j]=q at *;obtain⟨a,b⟩:=q;simp only at g f ⊢;by_cases o:s=a
  ·rw[aG o,Bool.true_or,if_pos rfl]
   refine cx (aa ?_);simp[q70,d,g,f,o,List.getElem?_cons_zero,-List.getElem?_map,-getElem?_pos]
  ·rw[aF o,Bool.false_or]
   refine ay (s1:=⟨[(1,Ob),(10,I (k:Int)),(11,LP c),(12,I (i:Int)),(13,I ((j+1:Nat):Int))],[br m],gh⟩) (aa ?_) (Am r l n (j+1) NW);simp[q70,d,g,f,o,u,List.getElem?_cons_zero,-List.getElem?_map,-getElem?_pos]
theorem uS {ps:Om} {k:Nat} (f:Sz ps.length):∀n i,i+n=ps.length->
  ab pg qas ⟨[(1,Ob),(10,I (k:Int)),(11,LP ps),(12,I (i:Int))],[br m],gh⟩=
   if jU (ps.take i) (ps.drop i)=true then Oh ⟨[(2,I 6)],[],gh⟩ else Og ⟨[(1,Ob),(10,I (k:Int))],[br m],gh⟩
 |0,i,h=>by
  rw[aM NW,jU,if_neg NX];have a:¬i<ps.length:=NW;refine (bn (s1:=?J) (aa ?Z)).trans ?Y
  case Z=>simp[q71];simp[a];rfl
  case Y=>simp[keep,bj]
 | n+1,i,h=>by
  have a:i<ps.length:=NW;have b:(i<ps.length):=a;have p:WI.wrap ((i:Int)+1)=((i+1:Nat):Int):=gv (by simp only[Sz] at f ⊢;omega);have l:ps[i]?=some (ps[i].1,ps[i].2):=aA a;have c:=Am (m:=m) (gh:=gh) (k:=k) f l i 0 NW;rw[bJ] at c;simp only[aR] at c;have e:ps.take i++[ps[i]]=ps.take (i+1):=NX;have o:(ps.map aj).length=ps.length:=NX;rw[aJ a,jU,e];have j:ab pg qar ⟨[(1,Ob),(10,I (k:Int)),(11,LP ps),(12,I (i:Int))],[br m],gh⟩=Og ⟨[(1,Ob),(10,I (k:Int)),(11,LP ps),(12,I ((i+1:Nat):Int))],[br m],gh⟩:=by refine aa ?_;simp[qar,p]
  have d:=uS (k:=k) f n (i+1) NW;cases g:(ps.take i).any (λq=>decide (ps[i].1=q.1)) with
  |true=>
   rw[g,if_pos rfl] at c;rw[Bool.true_or,if_pos rfl];refine cx (aa ?_);simp only[br] at *;simp[q71,b,c]
  |false=>
   rw[g,if_neg NX] at c;rw[Bool.false_or];refine ay (s1:=⟨[(1,Ob),(10,I (k:Int)),(11,LP ps),(12,I ((i+1:Nat):Int))],[br m],gh⟩) (aa ?_) d;simp only[br] at *;simp[q71,b,c,j]
theorem Ao {xs:Oi} (g:m.nodes.length<=1000) (f:Sz xs.length):∀n i,i+n=xs.length->
  ab pg qfi ⟨[(1,Ob),(14,Oa (xs.map I)),(15,I (i:Int))],[br m],gh⟩=
   if (xs.drop i).any (λa=> !decide (c8 m.nodes a))=true then Oh ⟨[(2,I 5)],[],gh⟩ else Og ⟨[(1,Ob),(14,Oa (xs.map I))],[br m],gh⟩
 |0,i,h=>by
  rw[aM NW,List.any_nil,if_neg NX];have b:¬i<xs.length:=NW;refine (bn (s1:=?J) (aa ?Z)).trans ?Y
  case Z=>simp[q72];simp[b];rfl
  case Y=>simp[keep,bj]
 | n+1,i,h=>by
  have b:i<xs.length:=NW;have c:(i<xs.length):=b;have k:WI.wrap ((i:Int)+1)=((i+1:Nat):Int):=gv (by simp only[Sz] at f ⊢;omega);have j:(xs.map I)[i]?=some (I xs[i]):=by simp[aA b]
  have e:=uQ (m:=m) (gh:=gh) g xs[i];generalize hw:WI.wrap ((m.nodes.length:Int)-1)=w at *;have d:=Ao g f n (i+1) NW;rw[aJ b,List.any_cons];generalize xs[i]=a at *;by_cases hn:c8 m.nodes a
  ·rw[aG hn] at e ⊢
   rw[Bool.not_true,Bool.false_or];refine ay (s1:=⟨[(1,Ob),(14,Oa (xs.map I)),(15,I ((i+1:Nat):Int))],[br m],gh⟩) (aa ?_) d;simp[q72,c,j,hw,e,k,List.getElem?_cons_zero,-List.getElem?_map,-getElem?_pos]
  ·rw[aF hn] at e ⊢
   rw[Bool.not_false,Bool.true_or,if_pos rfl];refine cx (aa ?_);simp[q72,c,j,hw,e,List.getElem?_cons_zero,-List.getElem?_map,-getElem?_pos]
theorem Ap {xs:Oi} (hn:∀a∈xs,c8 m.nodes a) (j:Sz xs.length):∀n i,i+n=xs.length->
  ab pg q74 ⟨[(1,Ob),(14,Oa (xs.map I)),(16,I (i:Int))],[br m],gh⟩=
   if (xs.drop i).any (λa=> !decide (wAt m.nodes a=1))=true then Oh ⟨[(2,I 1)],[],gh⟩ else Og ⟨[],[],gh⟩
 |0,i,h=>by
  rw[aM NW,List.any_nil,if_neg NX];have b:¬i<xs.length:=NW;refine (bn (s1:=?J) (aa ?Z)).trans ?Y
  case Z=>simp[q73];simp[b];rfl
  case Y=>simp[keep]
 | n+1,i,h=>by
  have b:i<xs.length:=NW;have e:(i<xs.length):=b;have o:WI.wrap ((i:Int)+1)=((i+1:Nat):Int):=gv (by simp only[Sz] at j ⊢;omega);have k:(xs.map I)[i]?=some (I xs[i]):=by simp[aA b]
  have g:=hn _ (cD b);have f:=iP g;have l:=g.1;have c:=Ap hn j n (i+1) NW;rw[aJ b,List.any_cons];generalize xs[i]=a at *;unfold wAt at c ⊢;generalize m.nodes.getD a.toNat default=d at *;rw[dT d] at f;by_cases hw:d.w=1
  ·rw[aG hw,Bool.not_true,Bool.false_or]
   refine ay (s1:=⟨[(1,Ob),(14,Oa (xs.map I)),(16,I ((i+1:Nat):Int))],[br m],gh⟩) (aa ?_) c;simp[q73,e,k,l,f,hw,o,List.getElem?_cons_zero,-List.getElem?_map,-getElem?_pos]
  ·rw[aF hw,Bool.not_false,Bool.true_or,if_pos rfl]
   refine cx (aa ?_);simp[q73,e,k,l,f,hw,List.getElem?_cons_zero,-List.getElem?_map,-getElem?_pos]
end
end
section
attribute [local congr] bu
attribute [local simp] au
section
variable {m:Md} {gh:Ol}
theorem Jy {f:On} (q:f.length=m.nodes.length) (p:m.nodes.length<=1000) (u:Sz m.inits.length) (t:Sz m.nexts.length) :
  ab pg qff ⟨[(1,Ob),(5,NZ (f.map B)),(6,I 0)],[br m],gh⟩=
   if di m.nodes f true m.inits≠0 then Oh ⟨[(2,I (di m.nodes f true m.inits))],[],gh⟩
   else if di m.nodes f false m.nexts≠0 then Oh ⟨[(2,I (di m.nodes f false m.nexts))],[],gh⟩
   else Og ⟨[(1,Ob)],[br m],gh⟩:=by
 have b:=uR (gh:=gh) (m:=m) (ps:=m.inits) (k:=0) q p u m.inits.length 0 NW;have a:=uR (gh:=gh) (m:=m) (ps:=m.nexts) (k:=1) q p t m.nexts.length 0 NW;rw[bJ] at b a;simp only[aR,decide_true] at b a;rw[show decide (1=0)=false from rfl] at a;simp only[Int.natCast_one] at b a;have w1:WI.wrap (0+1)=1:=NY;have r:WI.wrap (1+1)=2:=NY;generalize f.map B=F at *;have o:∀x,ab pg qaq ⟨[(1,Ob),(5,NZ F),(6,I x)],[br m],gh⟩=Og ⟨[(1,Ob),(5,NZ F),(6,I (WI.wrap (x+1)))],[br m],gh⟩:=λx=>by refine aa ?_;simp[qaq]
 have j:∀x ps e s,ab pg q6z ⟨[(1,Ob),(5,NZ F),(6,I x),(7,LP ps),(8,I 0)],[br m],gh⟩=some (e,s)->ab pg qap ⟨[(1,Ob),(5,NZ F),(6,I x),(7,LP ps)],[br m],gh⟩=some (e,s):=λx ps e s h=>by refine aa ?_;simp only[br] at *;simp[qap,h]
 by_cases n:di m.nodes f true m.inits=0
 ·rw[if_pos n] at b
  rw[if_neg (λh=>h n)];have i:=o 0;rw[w1] at i;have d:=j _ _ _ _ b;refine ay (s1:=⟨[(1,Ob),(5,NZ F),(6,I 1)],[br m],gh⟩) (aa (by simp only[br] at *;simp[q3e,d,i])) ?_;by_cases l:di m.nodes f false m.nexts=0
  ·rw[if_pos l] at a
   rw[if_neg (λh=>h l)];have g:=o 1;rw[r] at g;have c:=j _ _ _ _ a;refine ay (s1:=⟨[(1,Ob),(5,NZ F),(6,I 2)],[br m],gh⟩) (aa (by simp only[br] at *;simp[q3e,c,g])) ?_;refine (bn (s1:=?J) (aa ?Z)).trans ?Y
   case Z=>simp[q3e];rfl
   case Y=>simp[keep,bj]
  ·rw[if_neg l] at a
   rw[if_pos l];have c:=j _ _ _ _ a;refine cx (aa ?_);simp only[br] at *;simp[q3e,c]
 ·rw[if_neg n] at b
  rw[if_pos n];have d:=j _ _ _ _ b;refine cx (aa ?_);simp only[br] at *;simp[q3e,d]
theorem Jz (q:Sz m.inits.length) (p:Sz m.nexts.length) :
  ab pg qfh ⟨[(1,Ob),(10,I 0)],[br m],gh⟩=
   if dK m.inits\/dK m.nexts then Oh ⟨[(2,I 6)],[],gh⟩ else Og ⟨[(1,Ob)],[br m],gh⟩:=by
 have d:=uS (gh:=gh) (m:=m) (ps:=m.inits) (k:=0) q m.inits.length 0 NW;have c:=uS (gh:=gh) (m:=m) (ps:=m.nexts) (k:=1) p m.nexts.length 0 NW;rw[bJ,List.take_zero,Jx] at d c;simp only[aR,Int.natCast_one,aH] at d c;have w1:WI.wrap (0+1)=1:=NY;have o:WI.wrap (1+1)=2:=NY;have n:∀x,ab pg qau ⟨[(1,Ob),(10,I x)],[br m],gh⟩=Og ⟨[(1,Ob),(10,I (WI.wrap (x+1)))],[br m],gh⟩:=λx=>by refine aa ?_;simp[qau]
 have i:∀x ps e s,ab pg qas ⟨[(1,Ob),(10,I x),(11,LP ps),(12,I 0)],[br m],gh⟩=some (e,s)->ab pg qat ⟨[(1,Ob),(10,I x),(11,LP ps)],[br m],gh⟩=some (e,s):=λx ps e s h=>by refine aa ?_;simp only[br] at *;simp[qat,h]
 by_cases l:dK m.inits
 ·rw[if_pos l] at d
  rw[if_pos (.inl l)];have b:=i _ _ _ _ d;refine cx (aa ?_);simp only[br] at *;simp[q3f,b]
 ·rw[if_neg l] at d
  have b:=i _ _ _ _ d;have g:=n 0;rw[w1] at g;refine ay (s1:=⟨[(1,Ob),(10,I 1)],[br m],gh⟩) (aa (by simp only[br] at *;simp[q3f,b,g])) ?_;by_cases j:dK m.nexts
  ·rw[if_pos j] at c
   rw[if_pos (.inr j)];have a:=i _ _ _ _ c;refine cx (aa ?_);simp only[br] at *;simp[q3f,a]
  ·rw[if_neg j] at c
   rw[if_neg (by rintro (h|h)<;>contradiction)];have a:=i _ _ _ _ c;have f:=n 1;rw[o] at f;refine ay (s1:=⟨[(1,Ob),(10,I 2)],[br m],gh⟩) (aa (by simp only[br] at *;simp[q3f,a,f])) ?_;refine (bn (s1:=?J) (aa ?Z)).trans ?Y
   case Z=>simp[q3f];rfl
   case Y=>simp[keep,bj]
def pc (m:Md):Int:=
 if m.nexts.length≠(ci m.nodes 3).length then 5 else if (m.bads++m.holds).any (λa=> !decide (c8 m.nodes a)) then 5
 else if (m.bads++m.holds).any (λa=> !decide (wAt m.nodes a=1)) then 1 else 0
theorem JA (A:m.nodes.length<=1000) (E:m.bads.length<=100) (D:m.holds.length<=100) :
  ab pg q3g ⟨[(1,Ob)],[br m],gh⟩=Oh ⟨[(2,I (pc m))],[],gh⟩:=by
 have o:=Jr (m:=m) (gh:=gh) (kind:=3) NW;rw[eq] at o;have B:=MB;have j:m.bads.length*8<=maxBytes:=NW;have i:(m.bads.length+m.holds.length)*8<=maxBytes:=NW;have n:Sz (m.bads++m.holds).length:=by simp only[Sz,aQ];omega
 have g:=Ao (m:=m) (gh:=gh) (xs:=m.bads++m.holds) A n (m.bads++m.holds).length 0 NW;have d:(∀a∈m.bads++m.holds,c8 m.nodes a)->_:=λhn=>Ap (m:=m) (gh:=gh) (xs:=m.bads++m.holds) hn n (m.bads++m.holds).length 0 NW
 rw[bJ] at g;rw[bJ] at d;simp only[aR] at g d;have w:(m.bads++m.holds).any (λa=> !decide (c8 m.nodes a))=false->∀a∈m.bads++m.holds,c8 m.nodes a:=λh a ha=>by have:=List.any_eq_false.1 h a ha;simpa using this
 unfold pc;generalize (m.bads++m.holds).any (λa=> !decide (c8 m.nodes a))=z,(m.bads++m.holds).any (λa=> !decide (wAt m.nodes a=1))=y,C:ci m.nodes 3=b at *;have f:(b.map I).length=b.length:=NX;have e:(m.nexts.map aj).length=m.nexts.length:=NX;have l:(m.bads.map I).length=m.bads.length:=NX;have k:(m.holds.map I).length=m.holds.length:=NX;have v:=aa (c:=qav) (s:=⟨[],[],gh⟩) (r:=Oh ⟨[(2,I 0)],[],gh⟩) (pg:=pg) (by simp[qav]<;>rfl)
 have q:∀M s,ab pg q74 ⟨[(1,Ob),(14,Oa M),(16,I 0)],[br m],gh⟩=Oh s->ab pg q44 ⟨[(1,Ob),(14,Oa M)],[br m],gh⟩=Oh s:=λM s h=>by simp only[br] at *;refine aa ?_;simp[q44,h]
 have t:∀M,ab pg q74 ⟨[(1,Ob),(14,Oa M),(16,I 0)],[br m],gh⟩=Og ⟨[],[],gh⟩->ab pg q44 ⟨[(1,Ob),(14,Oa M)],[br m],gh⟩=Oh ⟨[(2,I 0)],[],gh⟩:=λM h=>by simp only[br] at *;refine aa ?_;simp[q44,h,v]
 refine aa ?_;simp only[bI] at g d;simp only[LI,br] at *;generalize m.bads.map I=H,m.holds.map I=G,b.map I=L,m.nexts.map aj=F at *;by_cases p:m.nexts.length=b.length
 ·rw[if_neg (λh=>h p)]
  cases z with
  |true=>
   rw[if_pos rfl] at g ⊢;simp[q3g,o,f,e,p,l,k,j,i,g]
  | false=>
   rw[if_neg NX] at g ⊢;have d:=d (w rfl);cases y with
   |true=>
    rw[if_pos rfl] at d ⊢;have u:=q _ _ d;simp[q3g,o,f,e,p,l,k,j,i,g,u]
   |false=>
    rw[if_neg NX] at d ⊢;have u:=t _ d;simp[q3g,o,f,e,p,l,k,j,i,g,u]
 ·rw[if_pos p]
  have x:¬(m.nexts.length:Int)=(b.length:Int):=NW;simp[q3g,o,f,e,x]
theorem JB {f:On} (h:iz m f=0):pc m=jp m:=by
 unfold iz at h;split at h
 ·contradiction
 split at h
 ·contradiction
 rename_i v u;split at h
 ·contradiction
 rename_i t;have s:(m.nexts.map (·.1)).Nodup:=by
  have:=λh=>t (.inr h)
  unfold dK at this;exact aP this
 have o:∀(l:Om),di m.nodes f false l=0->∀p∈l,p.1∈ci m.nodes 3:=by
  intro l
  induction l with
  |nil=>intro _ p b;simp at b
  | cons q l n=>
   intro g p b;rw[di] at g;split at g
   ·rename_i d
    rcases List.mem_cons.1 b with rfl|b
    ·unfold eW at d
     split at d
     ·contradiction
     rename_i hn;have e:c8 m.nodes p.1:=aP λh=>hn (.inl h)
     have i:(m.nodes.getD p.1.toNat default).k=3:=aP λh=>hn (.inr (.inr h))
     refine kindF_mem.2 ⟨p.1.toNat,e.2,?_,?_⟩
     ·have:=e.1;omega
     ·rw[aK,aA e.2] at i
      rw[aA e.2];simpa using i
    ·exact n g p b
   ·contradiction
 have r:m.nexts.length<=(ci m.nodes 3).length:=by have:=List.Nodup.length_le_of_subset s (l₂:=ci m.nodes 3) (λa ha=>by obtain⟨p,b,rfl⟩:=List.mem_map.1 ha;exact o _ (by simpa using u) p b);simpa using this
 unfold pc jp;by_cases j:m.nexts.length=(ci m.nodes 3).length
 ·rw[if_neg (c:=m.nexts.length≠_) (λh=>h j),if_neg (c:=m.nexts.length<_) NW]
 ·rw[if_pos j,if_pos NW]
theorem JC (z:Sz m.inits.length) (y:Sz m.nexts.length):ac pg 36 [dn m] gh=some (I (dc m),gh):=by
 unfold dc;have H:(m.nodes.map bh).length=m.nodes.length:=NX;have M:(m.bads.map I).length=m.bads.length:=NX;have L:(m.holds.map I).length=m.holds.length:=NX;rw[eq];by_cases A:m.nodes.length>80\/m.bads.length>8\/m.holds.length>8
 ·rw [if_pos A]
  refine ak (fn:=qo) (s:=⟨[(2,I 2)],[],gh⟩) rfl rfl (aa ?J) ?Z
  case Z=>simp[ag,results,qo,ah,am,af]
  case J=>
   by_cases j:(80:Int)<(m.nodes.length:Int)
   ·simp[q2h,qo,j]
   ·by_cases n:(8:Int)<(m.bads.length:Int)
    ·simp[q2h,qo,j,n]
    ·have t:(8:Int)<(m.holds.length:Int):=NW
     simp[q2h,qo,j,n,t]
 ·rw [if_neg A]
  have j:¬(80:Int)<(m.nodes.length:Int):=NW;have n:¬(8:Int)<(m.bads.length:Int):=NW;have t:¬(8:Int)<(m.holds.length:Int):=NW;have i:=Al (m:=m) (gh:=gh) NW m.nodes.length 0 NW;rw[bJ] at i;simp only[aR,br] at i;by_cases hn:fG m.nodes 0 m.nodes=0
  ·rw [if_neg (λh=>h hn)]
   rw[if_pos hn] at i;have b:=Ai (m:=m) (gh:=gh) (kind:=2) NW;have c:=Ai (m:=m) (gh:=gh) (kind:=3) NW;have a:=Jw (m:=m) (gh:=gh) (uM hn) NW;rw[eq] at b c a;have G:(dU [] m.nodes).length=m.nodes.length:=by simpa using uD [] m.nodes
   have e:=Jy (gh:=gh) G NW z y;have u:=Jz (m:=m) (gh:=gh) z y;have E:=JA (m:=m) (gh:=gh) NW NW NW;have g:=JB (m:=m) (f:=dU [] m.nodes);unfold iz at g ⊢;simp only[br] at *;generalize (dU [] m.nodes).map B=F,di m.nodes (dU [] m.nodes) true m.inits=D,di m.nodes (dU [] m.nodes) false m.nexts=C at *;by_cases p:cw m.nodes 2>6\/cw m.nodes 3>10
   ·rw[if_pos p]
    have x:ab pg q1j ⟨[(1,Ob)],[[LN m.nodes,LP m.inits,LP m.nexts,LI m.bads,LI m.holds]],gh⟩=Oh ⟨[(2,I 2)],[],gh⟩:=by
     refine aa ?_;by_cases k:6<cw m.nodes 2
     ·simp[q1j,b,k]
     ·have o:10<cw m.nodes 3:=NW
      simp[q1j,b,c,k,o]
    refine ak (fn:=qo) (s:=⟨[(2,I 2)],[],gh⟩) rfl rfl (aa ?Y) ?K
    case K=>simp[ag,results,qo,ah,am,af]
    case Y=>simp[q2h,qo,j,n,t,i,x]
   ·rw [if_neg p]
    have k:¬6<cw m.nodes 2:=NW;have o:¬10<cw m.nodes 3:=NW;have d:∀r,ab pg q1j ⟨[(1,Ob)],[[LN m.nodes,LP m.inits,LP m.nexts,LI m.bads,LI m.holds]],gh⟩=Oh ⟨[(2,I r)],[],gh⟩->ac pg 36 [.agg [LN m.nodes,LP m.inits,LP m.nexts,LI m.bads,LI m.holds]] gh=some (I r,gh):=λr x=>by
     refine ak (fn:=qo) (s:=⟨[(2,I r)],[],gh⟩) rfl rfl (aa ?V) ?W
     case W=>simp[ag,results,qo,ah,am,af]
     case V=>simp[q2h,qo,j,n,t,i,x]
    by_cases l:D=0
    ·rw [if_neg (λh=>h l)] at e
     by_cases q:C=0
     ·rw[if_neg (λh=>h q)] at e
      by_cases v:dK m.inits\/dK m.nexts
      ·rw[if_pos v] at u
       have w:ab pg q45 ⟨[(1,Ob)],[[LN m.nodes,LP m.inits,LP m.nexts,LI m.bads,LI m.holds]],gh⟩=Oh ⟨[(2,I 6)],[],gh⟩:=by refine aa ?_;simp[q45,u]
       simp only[l,q,v,if_true,ne_eq,not_true,if_false];refine d 6 (aa ?_);simp[q1j,b,c,k,o,a,e,w]
      ·rw[if_neg v] at u
       have w:ab pg q45 ⟨[(1,Ob)],[[LN m.nodes,LP m.inits,LP m.nexts,LI m.bads,LI m.holds]],gh⟩=Oh ⟨[(2,I (pc m))],[],gh⟩:=by refine aa ?_;simp[q45,u,E]
       simp only[l,q,v,if_true,ne_eq,not_true,if_false] at g ⊢;rw[<-g trivial];refine d _ (aa ?_);simp[q1j,b,c,k,o,a,e,w]
     ·rw[if_pos q] at e
      simp only[l,q,ne_eq,not_true,not_false_iff,if_false,if_true];refine d _ (aa ?_);simp[q1j,b,c,k,o,a,e]
    ·rw[if_pos l] at e
     simp only[l,ne_eq,not_true,not_false_iff,if_true];refine d _ (aa ?_);simp[q1j,b,c,k,o,a,e]
  ·rw[if_pos hn]
   rw[if_neg hn] at i;generalize fG m.nodes 0 m.nodes=r at *;refine ak (fn:=qo) (s:=⟨[(2,I r)],[],gh⟩) rfl rfl (aa ?Ja) ?Jb
   case Jb=>simp[ag,results,qo,ah,am,af]
   case Ja=>simp[q2h,qo,j,n,t,i]
end
end
section
attribute [local congr] bu
attribute [local simp] au
structure lW (m:Md):Prop where
 len:m.nodes.length<=80
 ahead:nh m.nodes
 pairs:∀p∈m.inits++m.nexts,c8 m.nodes p.1/\c8 m.nodes p.2
 nod1:(m.inits.map (·.1)).Nodup
 nod2:(m.nexts.map (·.1)).Nodup
theorem uU {l:List Nd} {f:On} {a:Bool}:∀{c:Om},di l f a c=0->∀p∈c,c8 l p.1/\c8 l p.2
 |[],_,p,b=>by cases b
 | q ::c,h,p,b=>by
  rw[di] at h;split at h
  ·rename_i d
   rcases List.mem_cons.1 b with rfl|b
   ·unfold eW at d
    split at d
    ·contradiction
    ·rename_i hn
     exact⟨aP λh=>hn (.inl h),aP λh=>hn (.inr (.inl h))⟩
   ·exact uU h p b
  ·contradiction
theorem kC {m:Md} (h:dc m=0):lW m:=by
 unfold dc at h;split at h
 ·contradiction
 rename_i g;split at h
 ·contradiction
 rename_i f;split at h
 ·contradiction
 split at h
 ·contradiction
 rename_i a;have a:iz m (dU [] m.nodes)=0:=aP a;unfold iz at a;split at a
 ·contradiction
 rename_i d;split at a
 ·contradiction
 rename_i c;split at a
 ·contradiction
 rename_i e;have d:=aP d;have c:=aP c;refine⟨NW,uM (aP f),λp b=>?_,?_,?_⟩
 ·rcases cE.1 b with b|b
  ·exact uU d p b
  ·exact uU c p b
 ·exact aP λh=>e (.inl h)
 ·exact aP λh=>e (.inr h)
end
section
attribute [local congr] bu
attribute [local simp] au
theorem JD {x:Int} (h:0<=x):∃n:Nat,x=n:=⟨x.toNat,NW⟩
section
variable (k width n v e a b c w0 w1 w2:Int) (gh:Ol)
end
end
section
attribute [local congr] bu
attribute [local simp] au
def rJ (l:List Nd) (b:Oi):Prop:=∀a∈b,c8 l a/\1<=wAt l a/\wAt l a<=8
def kE (L:List Nd):Oi->Oi->Int
 |a::c,v::b=>if 0<=v/\v<((2^(wAt L a).toNat:Nat):Int) then kE L c b else 3
 |[],_=>0
 |_::_,[]=>0
def jq (L:List Nd) (b a:Oi):Int:=if a.length≠b.length then 2 else kE L b a
section
variable {m:Md} {gh:Ol}
theorem JE {m:Md} (h:dc m=0):fG m.nodes 0 m.nodes=0:=by
 unfold dc at h;split at h
 ·contradiction
 split at h
 ·contradiction
 rename_i a;exact aP a
theorem rK {m:Md} (h:dc m=0) {i:Nat} {x:Nd} (a:m.nodes[i]?=some x):eA m.nodes i x=0:=by
 have:=uL (JE h) i x a
 rwa [cV] at this
theorem Aq {m:Md} (h:dc m=0) {i:Nat} {x:Nd} (b:m.nodes[i]?=some x):1<=x.w/\x.w<=8:=by
 have a:=rK h b;unfold eA at a;split at a
 ·omega
 split at a
 ·omega
 rename_i hw;exact aP hw
theorem Ar {m:Md} (h:dc m=0) {ns:Oi} (hn:∀a∈ns,c8 m.nodes a):rJ m.nodes ns:=by intro a ha;have b:=hn a ha;refine⟨b,?_⟩;unfold wAt;rw[aK,aA b.2];exact Aq h (aA b.2)
theorem pd {m:Md} (h:dc m=0) (a:Int):rJ m.nodes (ci m.nodes a):=Ar h λ_ ha=>zR ha
end
end
end Go.Lw