/-
  The texts that the proof stands on, part 32.
-/
import Derived.Test.YtmodipglnngghabGreatDoorDecideTextsK
import Derived.Test.YtmodipglnngghabGreatDoorDecideTextsQ
import Derived.Test.YtmodipglnngghabGreatDoorDecideTextsZ4
import Derived.Test.YtmodipglnngghabGreatDoorDecideTextsZ5
import Derived.Lib.AtoiAllCases
set_option linter.unusedVariables false
set_option linter.unusedSimpArgs false
set_option linter.unnecessarySimpa false

set_option maxRecDepth 100000
set_option maxHeartbeats 4000000
namespace Go.Lw
open Go
section
variable {n:Int} {x:List UInt8}
attribute [local congr] bu
attribute [local simp] au
theorem B5:∀{a b:Nat},a<=b->(10:Int)^a<=10^b:=by
 intro a b h;have:=bQ (n:=10) NY h;have e:∀k:Nat,((10^k:Nat):Int)=(10:Int)^k:=λk=>NX
 rw[<-e,<-e];exact Int.ofNat_le.2 this
theorem B6:∀(j k u:Nat),u<10^(j+1)->u<10^(k+1)->ez (j+1) u=ez (k+1) u
 |0,k,u,a,_=>by
  have h:u<10:=by simpa using a
  rw[ez,if_pos h,ez,if_pos h]
 | j+1,k,u,a,b=>by
  rw[ez]
  conv=>rhs;rw[ez]
  by_cases h:u<10
  ·rw[if_pos h,if_pos h]
  ·rw[if_neg h,if_neg h]
   cases k with
   |zero=>simp at b;omega
   |succ k=>
    rw[B6 j k (u/10) (by rw[Nat.pow_succ] at a;omega) (by rw[Nat.pow_succ] at b;omega)]
theorem vA:∀(l:List UInt8) (n:Int) (b:UInt8),0<=n->dA n (l++[b])=if dA n l= -1 then -1 else if b.toNat<48\/57<b.toNat then -1 else 10*dA n l+b.toNat-48
 |[],n,b,h=>by
  have hn:¬(dA n []= -1):=by simp only[dA];omega
  rw[if_neg hn];simp only[bF,dA]
 | c::l,n,b,h=>by
  rw[bH];by_cases a:c.toNat<48\/57<c.toNat
  ·rw[mg a,mg a,if_pos rfl]
  ·rw[nD a,nD a]
   exact vA l _ b NW
theorem B7:∀(k u:Nat),u<10^(k+1)->dA 0 (ez (k+1) u)=(u:Int)
 | k,u,h=>by
  rw[ez];by_cases a:u<10
  ·rw[if_pos a]
   have c:(UInt8.ofNat (48+u)).toNat=48+u:=by simp;omega
   rw[nD NW];simp only[dA];omega
  ·rw[if_neg a]
   cases k with
   |zero=>simp at h;omega
   |succ k=>
    have b:=B7 k (u/10) (by rw[Nat.pow_succ] at h;omega);have c:(UInt8.ofNat (48+u%10)).toNat=48+u%10:=by simp;omega
    rw[vA _ _ _ NW,b,if_neg NW,if_neg NW];omega
theorem Mp:∀(k u:Nat),ez (k+1) u≠[]:=by intro k u;rw[ez];split<;>simp
theorem B8:∀(k u:Nat),0<u->u<10^(k+1)->∃b r,ez (k+1) u=b::r/\b≠48
 | k,u,d,h=>by
  rw[ez];by_cases c:u<10
  ·rw[if_pos c]
   refine⟨_,_,rfl,λe=>?_⟩;have a:(UInt8.ofNat (48+u)).toNat=48+u:=by simp;omega
   rw[e] at a;simp at a;omega
  ·rw[if_neg c]
   cases k with
   |zero=>simp at h;omega
   |succ k=>
    obtain⟨b,r,e,a⟩:=B8 k (u/10) NW (by rw[Nat.pow_succ] at h;omega);exact⟨b,r++_,by rw[e];rfl,a⟩
theorem vB (h:0<=n):cm n=ez 20 n.toNat:=by unfold cm;rw[if_neg NW]
theorem Mq (i:0<=n) (k:n<10000000000) (j:(cm n).length<=9):bp (cm n)=n:=by
 rw[vB i] at *;have c:n.toNat<10^20:=aO (by omega:n.toNat<10000000000) NY;have f:=B7 19 n.toNat c;unfold bp;rw[if_neg,f]
 ·omega
 ·rintro (h|h|⟨h,a⟩)
  ·exact Mp 19 _ h
  ·omega
  ·by_cases d:n.toNat=0
   ·rw[d] at h;simp[ez] at h
   ·obtain⟨b,r,e,g⟩:=B8 19 n.toNat NW c
    rw[e] at a;simp at a;exact g a
theorem B9:∀(m:Nat) (l:List UInt8),l.length=m+1->m<=18->0<=dA 0 l->(m=0\/l.head?≠some 48)->ez 20 (dA 0 l).toNat=l/\dA 0 l<10^(m+1)/\(l.head?≠some 48->0<dA 0 l)
 | 0, l,k,_,j,_=>by
  match l,k with
  | [b],_=>
   by_cases o:b.toNat<48\/57<b.toNat
   ·rw[mg o] at j;omega
   ·rw[nD o]
    simp only[dA];have x:(10*0+(b.toNat:Int)-48).toNat=b.toNat-48:=NW;refine⟨?_,NW,λi=>?_⟩
    ·rw[x,ez,if_pos NW]
     have:UInt8.ofNat (48+(b.toNat-48))=b:=by apply UInt8.toNat_inj.1;simp;omega
     rw[this]
    ·have:b.toNat≠48:=λe=>i (by simp;apply UInt8.toNat_inj.1;simpa using e)
     omega
 | m+1,l,k,A,j,i=>by
  have i:l.head?≠some 48:=i.resolve_left NW;obtain⟨q,b,rfl⟩:∃q b,l=q++[b]:=⟨l.dropLast,l.getLast (by intro e;simp[e] at k),(List.dropLast_concat_getLast _).symm⟩
  have s:q.length=m+1:=by simp at k;omega
  have d:q.head?≠some 48:=by
   match q,s with
   |c::q,_=>simpa using i
  rw[vA _ _ _ NW] at j ⊢;split at j
  ·omega
  rename_i f;split at j
  ·omega
  rename_i o;rw[if_neg f,if_neg o];have p:0<=dA 0 q:=by have:=vz (r:=q) (n:=0) NW f;simpa using this
  obtain⟨z,E,t⟩:=B9 m q s NW p (.inr d);have t:=t d;generalize dA 0 q=v at *;have u:(10*v+(b.toNat:Int)-48).toNat=10*v.toNat+(b.toNat-48):=NW;have g:(10:Int)^(m+1+1)=10*10^(m+1):=by rw[Int.pow_succ];omega
  refine⟨?_,by rw[g];omega,λ_=>NW⟩;rw[u,ez,if_neg NW];have y:(10*v.toNat+(b.toNat-48))/10=v.toNat:=NW;have h:(10*v.toNat+(b.toNat-48))%10=b.toNat-48:=NW;have a:v.toNat<10^(18+1):=by have D:(10:Int)^(m+1)<=10^18:=B5 NW;have C:(10:Int)^18=1000000000000000000:=NY;have B:(10:Nat)^(18+1)=10000000000000000000:=NY;omega
  have w:=B6 18 19 v.toNat a (Nat.lt_trans a NY);rw[y,h,w,z];have:UInt8.ofNat (48+(b.toNat-48))=b:=by apply UInt8.toNat_inj.1;simp;omega
  rw[this]
theorem Ca (a:0<=bp x):x=cm (bp x)/\bp x<1000000000/\x.length<=9:=by
 unfold bp at a ⊢;split at a
 ·omega
 rename_i b;rw[if_neg b];simp only[not_or,not_and] at b;obtain⟨g,n,f⟩:=b;have i:x.length≠0:=λe=>g (List.eq_nil_of_length_eq_zero e)
 obtain⟨m,c⟩:∃m,x.length=m+1:=⟨x.length-1,NW⟩
 obtain⟨d,l,-⟩:=B9 m x c NW a (by
  by_cases h:m=0
  ·exact .inl h
  ·exact .inr (f NW))
 refine⟨by rw[vB a,d],?_,NW⟩;have k:(10:Int)^(m+1)<=10^9:=B5 NW;have j:(10:Int)^9=1000000000:=NY;omega
theorem Cc:∀(l:List UInt8) (a:Nat),a<1000000000000000000->∀v,0<=v->dA (a:Int) l=v->v<1000000000000000000->Lib.parseUint10 a l= .ok v.toNat
 |[],a,_,v,f,h,_=>by
  simp only[dA] at h;simp only[Lib.parseUint10]
  congr
  omega
 | c::r,a,ha,v,f,h,g=>by
  by_cases d:c.toNat<48\/57<c.toNat
  ·rw[mg d] at h;omega
  ·rw[nD d] at h
   have e:(10*(a:Int)+c.toNat-48)=((a*10+(c.toNat-48):Nat):Int):=NW;rw[e] at h;have i:=vz (r:=r) (n:=((a*10+(c.toNat-48):Nat):Int)) NW NW;have j:(1:Int)<=10^r.length:=Int.pow_pos NY;have k:((a*10+(c.toNat-48):Nat):Int)*1<=((a*10+(c.toNat-48):Nat):Int)*10^r.length:=Int.mul_le_mul_of_nonneg_left j NW;have b:a*10+(c.toNat-48)<1000000000000000000:=NW;rw[Lib.parseUint10,if_pos NW,if_neg NW,if_neg NW];exact Cc r _ b v f h g
theorem r8 (a:0<=bp x):Lib.atoiAll x= .ok (bp x):=by
 obtain⟨-,d,h⟩:=Ca a;unfold bp at *;split at a
 ·omega
 rename_i b;rw[if_neg b] at d ⊢;simp only[not_or,not_and] at b;obtain⟨g,-,-⟩:=b
 match x,g with
 |c::r,_=>
  have i:¬(c.toNat<48\/57<c.toNat):=λf=>by rw[mg f] at a;omega
  have e:=Cc (c::r) 0 NY (dA 0 (c::r)) a rfl NW;generalize dA 0 (c::r)=v at *;unfold Lib.atoiAll;simp only;rw[if_neg NW];unfold Lib.parseMag;rw[if_neg NX,e];simp only;rw[if_neg NW,if_neg NW,if_neg NW]
  congr
  omega
theorem Cd:∀(k u:Nat),u<10^(k+1)->u<10^(ez (k+1) u).length
 | k,u,h=>by
  rw[ez];by_cases a:u<10
  ·rw[if_pos a];simpa using a
  ·rw[if_neg a]
   cases k with
   |zero=>simp at h;omega
   |succ k=>
    have b:=Cd k (u/10) (by rw[Nat.pow_succ] at h;omega);rw[aQ,List.length_singleton,Nat.pow_succ];omega
theorem Mr {v:Int} (b:0<=v) (g:v<=9223372036854775807) (a:x.length<=9) (c:cm v=x):bp x=v:=by subst c;have d:=Cd 19 v.toNat (Nat.lt_of_le_of_lt (by omega:v.toNat<=9223372036854775807) NY);rw[<-vB b] at d;have e:10^(cm v).length<=10^9:=bQ NY a;have f:(10:Nat)^9=1000000000:=NY;exact Mq b NW a
end
section
attribute [local congr] bu
attribute [local simp] au
def eZ:List (List UInt8)->Option Oi
 |[]=>some []
 |x::r=>if 0<=bp x then (eZ r).map (bp x:: ·) else none
theorem Ch:∀{l:List (List UInt8)} {v:Oi},eZ l=some v->v.length=l.length
 |[],v,h=>by cases h;rfl
 | x::r,v,h=>by
  rw[eZ] at h;split at h
  ·simp only[aE] at h
   obtain⟨u,a,rfl⟩:=h;simp[Ch a]
  ·cases h
def dV (w:List UInt8):List (List UInt8)->Int->Int
 |[],_=> -1
 |x::l,i=>if w=x then i else dV w l (i+1)
section
variable {gh:Ol}
theorem Cj {x:List UInt8} (j:x.length<=3000000):∃v:Int,ac pg 365 [.str (bA x)] gh=some (.tup [I v,B (decide (0<=bp x))],gh)/\(0<=bp x->v=bp x):=by
 have b:=λG=>Mm (gh:=G) j
 have i:((bA x).size:Nat)=x.length:=gS x;have k:(ByteArray.toList (bA x))=(ByteArray.toList (bA x)):=rfl;cases ha:Lib.atoiAll x with
 | ok v=>
  rw[ha] at b;simp only at b;have hr:=Ml ha;have l:=λG=>rZ (gh:=G) (n:=v) hr.1 hr.2
  refine⟨v,?_,λh=>?_⟩
  ·have f:(decide (0<=v)&&(decide (x.length<=9)&&decide (cm v=x)))=decide (0<=bp x):=by
    by_cases a:0<=bp x
    ·have c:=r8 a
     rw[ha] at c;injection c with c
     obtain⟨p,q,o⟩:=Ca a;rw[aG a,aG NW,aG o,aG (by rw[c];exact p.symm)];rfl
    ·rw[aF a]
     by_cases d:0<=v
     ·by_cases e:x.length<=9
      ·by_cases g:cm v=x
       ·exact absurd (by rw[Mr d hr.2 e g];exact d) a
       ·rw[aF g];simp
      ·rw[aF e];simp
     ·rw[aF d];rfl
   refine ak (fn:=q1g) (s:=⟨[(2,I v),(3,B (decide (0<=bp x)))],[],gh⟩) rfl rfl (aa ?J) ?Z
   case J=>
    rw[<-f];have m:(cm v==x)=decide (cm v=x):=by by_cases h:cm v=x<;>simp[h]
    generalize cm v=y at *;simp[q7y,q1g,b,i];by_cases d:0<=v
    ·by_cases e:x.length<=9
     ·simp[d,e,show ((x.length:Nat):Int)<=9 by omega,l,m]
     ·simp[d,e,show ¬((x.length:Nat):Int)<=9 by omega]
    ·simp[d]
   case Z=>simp[ag,results,q1g,ah,am,af]
  ·have c:=r8 h
   rw[ha] at c;injection c
 | range=>
  rw[ha] at b;simp only at b;have a:¬0<=bp x:=λh=>by rw[r8 h] at ha;cases ha
  refine⟨Lib.atoiSat x,?_,λh=>absurd h a⟩;rw[aF a];refine ak (fn:=q1g) (s:=⟨[(2,I (Lib.atoiSat x)),(3,B false)],[],gh⟩) rfl rfl (aa ?Y) ?K
  case Y=>
   simp[q7y,q1g,b]
  case K=>simp[ag,results,q1g,ah,am,af]
 | _=>
  rw[ha] at b;simp only at b;have a:¬0<=bp x:=λh=>by rw[r8 h] at ha;cases ha
  refine⟨0,?_,λh=>absurd h a⟩;rw[aF a];refine ak (fn:=q1g) (s:=⟨[(2,I 0),(3,B false)],[],gh⟩) rfl rfl (aa ?V) ?W
  case V=>
   simp[q7y,q1g,b]
  case W=>simp[ag,results,q1g,ah,am,af]
theorem Ck {many:Int} {b:List (List UInt8)} (p:∀x∈b,x.length<=3000000) (t:b.length<=3000000):∀(k i:Nat) (a:Oi),i+k=b.length->a.length+k<=3000000->
  ab pg qg9 ⟨[(1,I many),(6,Oa (a.map I)),(11,NZ (SL8 b)),(12,I b.length),(13,I (i:Int))],[],gh⟩=
   match eZ (b.drop i) with
   |some v=>Og ⟨[(1,I many),(6,Oa ((a++v).map I))],[],gh⟩
   |none=>Oh ⟨[(4,Oa []),(5,B false)],[],gh⟩
 |0,i,a,h,_=>by
  have c:¬(i:Int)<(b.length:Int):=NW;rw[aM NW,eZ];refine (bn (s1:=?J) (aa ?Z)).trans ?Y
  case Z=>simp[q7x,c];rfl
  case Y=>simp[keep,bj]
 | k+1,i,a,h,ha=>by
  have c:i<b.length:=NW;have f:(i:Int)<(b.length:Int):=NW;have w:WI.wrap ((i:Int)+1)=((i+1:Nat):Int):=by rw[aq NW NW];omega
  have o:(SL8 b)[i]?=some (.str (bA b[i])):=by simp[aA c]
  have hr:=p _ (cD c);rw[aJ c,eZ];generalize b[i]=x at *;obtain⟨v,j,l⟩:=Cj (gh:=gh) hr;have q:=aG f;by_cases g:0<=bp x
  ·obtain rfl:=l g
   rw[if_pos g];rw[aG g] at j;have e:=Ck (many:=many) p t k (i+1) (a++[bp x]) NW (by simp;omega);generalize bp x=u at *;have d:(a.length+1)*8<=maxBytes:=cA (by omega:(a.length+1)*8<=24000000) NY
   have n:(match (eZ (b.drop (i+1))).map (u:: ·) with
    |some v=>Og ⟨[(1,I many),(6,Oa ((a++v).map I))],[],gh⟩
    |none=>Oh ⟨[(4,Oa []),(5,B false)],[],gh⟩)=(match eZ (b.drop (i+1)) with
    |some v=>Og ⟨[(1,I many),(6,Oa (((a++[u])++v).map I))],[],gh⟩
    |none=>Oh ⟨[(4,Oa []),(5,B false)],[],gh⟩):=by
    cases eZ (b.drop (i+1)) with
    |none=>rfl
    |some v=>simp
   refine Eq.trans ?_ n.symm;generalize SL8 b=s at *;refine ay (aa (r:=some (_,⟨[(1,I many),(6,Oa ((a++[u]).map I)),(11,NZ s),(12,I b.length),(13,I ((i+1:Nat):Int))],[],gh⟩)) ?K) e
   case K=>
    generalize ((i+1:Nat):Int)=T,(b.length:Int)=N at *;have m:(a.map I).length=a.length:=aW _;rw[<-m] at d;rw[bI];generalize a.map I=A at *;simp[q7x,q,o,j,d,w]
  ·rw[if_neg g]
   rw[aF g] at j;generalize SL8 b=s at *;refine (cx (aa (r:=some (_,⟨[(4,Oa []),(5,B false)],[],gh⟩)) ?V)).trans ?W
   case V=>
    generalize (b.length:Int)=N,a.map I=A at *;simp[q7x,q,o,j]
   case W=>rfl
theorem Cl {many:Int} {xs:List (List UInt8)} (f:∀x∈xs,x.length<=3000000) (g:xs.length<=3000000) :
  ac pg 362 [NZ (SL8 xs),I many] gh=some (.tup [LI ((eZ xs).getD []),B (match eZ xs with|some v=>decide ((v.length:Int)=many)|none=>false)],gh):=by
 have h:=Ck (gh:=gh) (many:=many) f g xs.length 0 [] NW (by simp;omega);rw[bJ] at h;have b:(SL8 xs).length=xs.length:=aW _;rw[<-b] at h;generalize SL8 xs=j at *;simp only[aR,bU] at h;cases hn:eZ xs with
 |none=>
  rw[hn] at h;simp only at h;refine ak (fn:=q2w) (s:=⟨[(4,Oa []),(5,B false)],[],gh⟩) rfl rfl (aa ?J) ?Z
  case J=>simp[qc7,q2w,h]
  case Z=>simp[ag,results,q2w,ah,am,af]
 | some v=>
  rw[hn] at h;simp only[bF] at h;have d:=Ch hn;have i:ab pg qc6 ⟨[(1,I many),(6,Oa (v.map I))],[],gh⟩=Oh ⟨[(4,NZ (v.map I)),(5,B (decide ((v.length:Int)=many)))],[],gh⟩:=by refine aa ?_;have c:(v.map I).length=v.length:=aW _;have e:((v.length:Int)==many)=decide ((v.length:Int)=many):=rfl;rw[<-c] at e ⊢;generalize v.map I=a at *;simp[qc6,e]
  refine ak (fn:=q2w) (s:=⟨[(4,NZ (v.map I)),(5,B (decide ((v.length:Int)=many)))],[],gh⟩) rfl rfl (aa ?Y) ?K
  case Y=>simp[qc7,q2w,h,i]
  case K=>simp[ag,results,q2w,ah,am,af,pA]
theorem Cm {w:List UInt8} {a:List (List UInt8)} {o:Bool} (l:a.length<=3000000):∀(k i:Nat),i+k=a.length->
  ab pg qeo ⟨[(0,NZ (SL8 a)),(1,.str (bA w)),(7,I a.length),(8,I (i:Int))],[],gh⟩=
   if dV w (a.drop i) i= -1 then Og ⟨[],[],gh⟩ else Oh ⟨[(4,I (dV w (a.drop i) i))],[],gh⟩
 |0,i,h=>by
  have b:¬(i:Int)<(a.length:Int):=NW;rw[aM NW,dV,if_pos rfl];refine (bn (s1:=?J) (aa ?Z)).trans ?Y
  case Z=>simp[q6a,b];rfl
  case Y=>simp[keep]
 | k+1,i,h=>by
  have b:i<a.length:=NW;have d:(i:Int)<(a.length:Int):=NW;have m:WI.wrap ((i:Int)+1)=((i+1:Nat):Int):=by rw[aq NW NW];omega
  have f:(SL8 a)[i]?=some (.str (bA a[i])):=by simp[aA b]
  rw[aJ b,dV];generalize a[i]=x at *;have g:=aG d;by_cases hw:w=x
  ·rw[if_pos hw,if_neg NW]
   have e:(w==x)=true:=by simp[hw]
   generalize SL8 a=j at *;refine cx (aa (r:=some (_,⟨[(4,I (i:Int))],[],gh⟩)) ?K)
   case K=>
    generalize (a.length:Int)=N at *;simp[q6a,g,f,e]
  ·rw[if_neg hw]
   have e:(w==x)=false:=by simp[hw]
   have c:=Cm (w:=w) (o:=o) l k (i+1) NW;rw[show ((i:Int)+1)=((i+1:Nat):Int) by omega];generalize SL8 a=j at *;refine ay (aa (r:=some (_,⟨[(0,NZ j),(1,.str (bA w)),(7,I a.length),(8,I ((i+1:Nat):Int))],[],gh⟩)) ?V) c
   case V=>
    generalize ((i+1:Nat):Int)=T,(a.length:Int)=N at *;simp[q6a,g,f,e,m]
theorem Cn {w:List UInt8} {xs:List (List UInt8)} (d:xs.length<=3000000):ac pg 360 [NZ (SL8 xs),.str (bA w)] gh=some (I (dV w xs 0),gh):=by
 have h:=Cm (gh:=gh) (w:=w) (o:=false) d xs.length 0 NW;rw[bJ] at h;have a:(SL8 xs).length=xs.length:=aW _;rw[<-a] at h;generalize SL8 xs=f at *;simp only[aR] at h;by_cases b:dV w xs 0= -1
 ·rw[if_pos b] at h
  rw[b];have e:ab pg q6b ⟨[],[],gh⟩=Oh ⟨[(4,I (-1))],[],gh⟩:=aa (c:=q6b) (s:=⟨[],[],_⟩) (by simp[q6b]<;>rfl);refine ak (fn:=q2b) (s:=⟨[(4,I (-1))],[],gh⟩) rfl rfl (aa ?J) ?Z
  case J=>simp[q9t,q2b,h,e]
  case Z=>simp[ag,results,q2b,ah,am,af]
 ·rw[if_neg b] at h
  refine ak (fn:=q2b) (s:=⟨[(4,I (dV w xs 0))],[],gh⟩) rfl rfl (aa ?Y) ?K
  case Y=>simp[q9t,q2b,h]
  case K=>simp[ag,results,q2b,ah,am,af]
end
end
section
attribute [local congr] bu
attribute [local simp] au
def fh (m:Md) (r:Int):GObj:= .cells [.sl true 6 (m.nodes.map bh),.sl true 2 (m.inits.map aj),.sl true 2 (m.nexts.map aj),Oa (m.bads.map I),Oa (m.holds.map I),I r]
def Gr (b:Ol) (m:Md) (r:Int) (a:Ol):Ol:=b++fh m r::a
def de (w:List UInt8):Int:=dV w (wordsL.drop 1) 0+1
def ch (k:Int):Int:=1+ar k+(if k=1\/k=21 then 1 else 0)
def iS (k:Int) (v:Oi):Nd:=⟨k,v.getD 0 0,if 0<ar k then v.getD 1 0 else 0,if 1<ar k then v.getD 2 0 else 0,if 2<ar k then v.getD 3 0 else 0,if k=1\/k=21 then v.getD (ch k-1).toNat 0 else 0⟩
def jx (m:Md) (r:Int):List (List UInt8)->Option Nd
 | w::u::rest=>
  if bp w=(m.nodes.length:Int)/\r<=0/\de u≠0 then
   match eZ rest with
   |some v=>if (v.length:Int)=ch (de u) then some (iS (de u) v) else none
   |none=>none
  else none
 |_=>none
theorem sa (m:Md) (r:Int) (w u:List UInt8) (rest:List (List UInt8)):jx m r (w::u::rest)=if bp w=(m.nodes.length:Int)/\r<=0/\de u≠0 then
   match eZ rest with
   |some v=>if (v.length:Int)=ch (de u) then some (iS (de u) v) else none
   |none=>none
  else none:=rfl
theorem vC (w:List UInt8):∀(l:List (List UInt8)) (i:Int),dV w l i= -1\/(i<=dV w l i/\dV w l i<i+l.length)
 |[],i=> .inl rfl
 | x::l,i=>by
  rw[dV];split
  ·right;simp;omega
  ·rcases vC w l (i+1) with h|h
   ·exact .inl h
   ·right;simp;omega
theorem Co (w:List UInt8):0<=de w/\de w<24:=by have h:=vC w (wordsL.drop 1) 0;have e:(wordsL.drop 1).length=23:=rfl;unfold de;omega
section
variable {gh J:Ol} {m:Md} {r:Int}
theorem vD:(Gr gh m r J)[gh.length]?=some (fh m r):=by simp[Gr]
abbrev nst (g:Nat) (L:Nat) (k a t:Int) (i:Nat) (v:Oi) (G:Ol) (cs:Ok):St:=
 ⟨[(0,Oe g 0),(7,I k),(8,I a),(9,NZ (v.map I)),(10,Oe L 0),(11,Oa [Oe L 2,Oe L 3,Oe L 4]),(79,I t),(80,I (i:Int))],[],G++[.cells cs]⟩
theorem sc {g:Nat} {k many t:Int} {i:Nat} {v:Oi} {G:Ol} {cs:Ok} (h:¬(i:Int)<t) :
  ab pg q4p (nst g G.length k many t i v G cs)=Og ⟨[(0,Oe g 0),(7,I k),(8,I many),(9,NZ (v.map I)),(10,Oe G.length 0)],[],G++[.cells cs]⟩:=by
 refine (bn (s1:=?J) (aa ?Z)).trans ?Y
 case Z=>simp[q4o,h];rfl
 case Y=>simp[keep,bj]
theorem nE {g:Nat} {k many t w a b c n:Int} {i:Nat} {v:Oi} {G:Ol} {s:Ot} (h:(i:Int)<t) (A:i<3) (q:i+1<v.length)
  (hr:ab pg q4p (nst g G.length k many t (i+1) v G [I k,I w,if i=0 then I v[i+1] else I a,if i=1 then I v[i+1] else I b,if i=2 then I v[i+1] else I c,I n])=s) (r:s.isSome=true) :
  ab pg q4p (nst g G.length k many t i v G [I k,I w,I a,I b,I c,I n])=s:=by
 obtain⟨s,rfl⟩:=Option.isSome_iff_exists.1 r;have B:=aG h;have j:(v.map I)[i+1]?=some (I v[i+1]):=by simp[aA q]
 have D:WI.wrap (1+(i:Int))=((i+1:Nat):Int):=by rw[aq NW NW];omega
 have C:WI.wrap ((i:Int)+1)=((i+1:Nat):Int):=by rw[aq NW NW];omega
 refine ay (aa ?J) hr
 case J=>
  unfold nst;have f:∀x:PV,(G++[GObj.cells [I k,I w,I a,I b,I c,I n]])[G.length]?=some (.cells [I k,I w,I a,I b,I c,I n]):=λ_=>NX
  have p:∀y:GObj,(G++[GObj.cells [I k,I w,I a,I b,I c,I n]]).set G.length y=G++[y]:=λ_=>NX
  generalize v[i+1]=z,v.map I=d at *;have f:=f (I 0);generalize G++[GObj.cells [I k,I w,I a,I b,I c,I n]]=E at *;have u:i=0\/i=1\/i=2:=NW;have w1:WI.wrap 1=1/\WI.wrap 2=2/\WI.wrap 3=3:=NY;have o:i=0->(0:Int)<t:=λe=>by subst e;exact h
  have m:i=1->(1:Int)<t:=λe=>by subst e;exact h
  have l:i=2->(2:Int)<t:=λe=>by subst e;exact h
  rcases u with rfl|rfl|rfl
  ·simp[q4o,o rfl,w1,j,f,p,au,PV.cells]
  ·simp[q4o,m rfl,w1,j,f,p,au,PV.cells]
  ·simp[q4o,l rfl,w1,j,f,p,au,PV.cells]
theorem Mt {g:Nat} {k many w:Int} {v:Oi} {G:Ol} (o:ar k+1<=(v.length:Int)) :
  ab pg q4p (nst g G.length k many (ar k) 0 v G [I k,I w,I 0,I 0,I 0,I 0])=Og ⟨[(0,Oe g 0),(7,I k),(8,I many),(9,NZ (v.map I)),(10,Oe G.length 0)],[],G++[.cells [I k,I w,I (if 0<ar k then v.getD 1 0 else 0),I (if 1<ar k then v.getD 2 0 else 0),I (if 2<ar k then v.getD 3 0 else 0),I 0]]⟩:=by
 have m:=gD k;generalize ar k=t at *;have e:∀(j:Nat) (h:j<v.length),v.getD j 0=v[j]:=λj h=>by rw[aK,aA h];rfl
 rcases m with rfl|rfl|rfl|rfl
 ·exact sc NW
 ·have d:1<v.length:=NW
  rw[e 1 d];exact nE (i:=0) NW NW d (by simpa using sc (g:=g) (k:=k) (many:=many) (t:=1) (i:=1) (v:=v) (G:=G) (cs:=[I k,I w,I v[1],I 0,I 0,I 0]) NW) rfl
 ·have d:1<v.length:=NW
  have f:2<v.length:=NW;rw[e 1 d,e 2 f];exact nE (i:=0) NW NW d (by simpa using nE (g:=g) (k:=k) (many:=many) (t:=2) (w:=w) (a:=v[1]) (b:=0) (c:=0) (n:=0) (i:=1) (v:=v) (G:=G) NW NW f (by simpa using sc (g:=g) (k:=k) (many:=many) (t:=2) (i:=2) (v:=v) (G:=G) (cs:=[I k,I w,I v[1],I v[2],I 0,I 0]) NW) rfl) rfl
 ·have d:1<v.length:=NW
  have f:2<v.length:=NW;have l:3<v.length:=NW;rw[e 1 d,e 2 f,e 3 l];exact nE (i:=0) NW NW d (by simpa using nE (g:=g) (k:=k) (many:=many) (t:=3) (w:=w) (a:=v[1]) (b:=0) (c:=0) (n:=0) (i:=1) (v:=v) (G:=G) NW NW f (by simpa using nE (g:=g) (k:=k) (many:=many) (t:=3) (w:=w) (a:=v[1]) (b:=v[2]) (c:=0) (n:=0) (i:=2) (v:=v) (G:=G) NW NW l (by simpa using sc (g:=g) (k:=k) (many:=many) (t:=3) (i:=3) (v:=v) (G:=G) (cs:=[I k,I w,I v[1],I v[2],I v[3],I 0]) NW) rfl) rfl) rfl
def eC (m:Md) (x:Nd):Md:={m with nodes:=m.nodes++[x] }
theorem Cp {x:Nd} (p:m.nodes.length<=20000) :
  ab pg qc5 ⟨[(0,Oe gh.length 0),(10,Oe (Gr gh m r J).length 0)],[],Gr gh m r J++[.cells (nC x)]⟩=Oh ⟨[(4,B true)],[],Gr gh (eC m x) r (J++[.cells (nC x)])⟩:=by
 refine aa ?_;have i:Gr gh m r J++[.cells (nC x)]=gh++fh m r::(J++[.cells (nC x)]):=by simp[Gr]
 have h:Gr gh (eC m x) r (J++[.cells (nC x)])=gh++fh (eC m x) r::(J++[.cells (nC x)]):=rfl;have g:∀y:GObj,(gh++y::(J++[.cells (nC x)]))[gh.length]?=some y:=λy=>NX
 have d:∀y:GObj,(gh++y::(J++[.cells (nC x)]))[(Gr gh m r J).length]?=some (.cells (nC x)):=λy=>by
  have:(Gr gh m r J).length=gh.length+(J.length+1):=by simp[Gr]
  rw[this,aN NW];simp
 have f:∀y z:GObj,(gh++y::(J++[.cells (nC x)])).set gh.length z=gh++z::(J++[.cells (nC x)]):=λy z=>NX
 have a:(m.nodes.length+1)*48<=maxBytes:=cA (by omega:(m.nodes.length+1)*48<=20001*48) NY;have c:(m.nodes.map bh).length=m.nodes.length:=aW _;rw[i,h];obtain⟨q,e⟩:∃q:GObj->Ol,q=λy=>gh++y::(J++[.cells (nC x)]):=⟨_,rfl⟩
 have b:∀y,gh++y::(J++[.cells (nC x)])=q y:=λy=>by rw[e]
 simp only[b] at g d f ⊢;clear e b i h;generalize (Gr gh m r J).length=L at *;have j:fh (eC m x) r= .cells [.sl true 6 (m.nodes.map bh++[bh x]),.sl true 2 (m.inits.map aj),.sl true 2 (m.nexts.map aj),Oa (m.bads.map I),Oa (m.holds.map I),I r]:=by simp[fh,eC]
 rw[j];unfold fh;unfold nC at d;rw[<-c] at a;rw[dT];generalize m.nodes.map bh=s at *;generalize m.inits.map aj=o;generalize m.nexts.map aj=n;generalize m.bads.map I=l;generalize m.holds.map I=k;simp[qc5,g,d,f,au,dD,a,aw]
theorem Mu {k many w a b c:Int} {v:Oi} (n:m.nodes.length<=20000) (p:many=ch k) (A:(v.length:Int)=ch k) :
  ab pg q7w ⟨[(0,Oe gh.length 0),(7,I k),(8,I many),(9,NZ (v.map I)),(10,Oe (Gr gh m r J).length 0)],[],Gr gh m r J++[.cells [I k,I w,I a,I b,I c,I 0]]⟩=
   Oh ⟨[(4,B true)],[],Gr gh (eC m ⟨k,w,a,b,c,if k=1\/k=21 then v.getD (ch k-1).toNat 0 else 0⟩) r (J++[.cells (nC ⟨k,w,a,b,c,if k=1\/k=21 then v.getD (ch k-1).toNat 0 else 0⟩)])⟩:=by
 have o:=λG=>Ce (gh:=G) k
 have C:=gD k;refine aa ?_;by_cases h:k=1\/k=21
 ·have f:=Cp (gh:=gh) (J:=J) (r:=r) (x:=⟨k,w,a,b,c,v.getD (ch k-1).toNat 0⟩) n
  rw[if_pos h];have hw:ch k=2+ar k:=by unfold ch;rw[if_pos h];omega
  have t:WI.wrap (many-1)=ch k-1:=by rw[p,aq NW NW]
  have g:(ch k-1).toNat<v.length:=NW;have q:(v.map I)[(ch k-1).toNat]?=some (I (v.getD (ch k-1).toNat 0)):=by rw[aB,aA g,aK,aA g];rfl
  have D:(0:Int)<=ch k-1:=NW;have j:(Gr gh m r J++[GObj.cells [I k,I w,I a,I b,I c,I 0]])[(Gr gh m r J).length]?=some (.cells [I k,I w,I a,I b,I c,I 0]):=NX;have i:∀y:GObj,(Gr gh m r J++[GObj.cells [I k,I w,I a,I b,I c,I 0]]).set (Gr gh m r J).length y=Gr gh m r J++[y]:=λy=>NX
  have e:=aG h;generalize v.getD (ch k-1).toNat 0=z at *;generalize s:(ch k-1).toNat=N,v.map I=d,Gr gh m r J++[GObj.cells [I k,I w,I a,I b,I c,I 0]]=E,decide (k=1\/k=21)=u at *;subst e;unfold nC at f;simp only at f;have l:(1:Int)<=ch k:=NW;simp[q7w,t,o,q,l,s,j,i,au,f]
 ·have f:=Cp (gh:=gh) (J:=J) (r:=r) (x:=⟨k,w,a,b,c,0⟩) n
  rw[if_neg h];have e:=aF h;generalize v.map I=d,decide (k=1\/k=21)=u at *;subst e;unfold nC at f;simp only at f;simp[q7w];simp[o,f]
theorem Mv {k:Int} {ws:List (List UInt8)} (H:m.nodes.length<=20000) (E:∀x∈ws,x.length<=3000000) (A:ws.length<=3000000) (Q:2<=ws.length) :
  ∃N,ab pg q3n ⟨[(0,Oe gh.length 0),(1,NZ (SL8 ws)),(7,I k),(8,I (ch k))],[],Gr gh m r J⟩=
   match (match eZ (ws.drop 2) with|some v=>if (v.length:Int)=ch k then some (iS k v) else none|none=>none) with
   |some x=>Oh ⟨[(4,B true)],[],Gr gh (eC m x) r N⟩
   |none=>Oh ⟨[(4,B false)],[],Gr gh m r J⟩:=by
 have f:=Cl (gh:=Gr gh m r J) (many:=ch k) (xs:=ws.drop 2) (λx u=>E x (List.mem_of_mem_drop u)) (by simp;omega);have P:=gD k;have h:(SL8 ws).drop 2=SL8 (ws.drop 2):=(List.map_drop ..).symm;have C:(SL8 ws).length=ws.length:=aW _;cases hn:eZ (ws.drop 2) with
 |none=>
  refine⟨J,?_⟩;rw[hn] at f;simp only[Option.getD_none,LI,bU] at f ⊢;refine aa ?_;generalize SL8 (ws.drop 2)=D,SL8 ws=W at *;simp[q3n,h,f,show 2<=W.length by omega]
 | some v=>
  rw[hn] at f;simp only[Option.getD_some,LI] at f ⊢;by_cases e:(v.length:Int)=ch k
  ·rw[if_pos e]
   rw[aG e] at f;simp only;have L:=λG=>iq k G
   have i:0<v.length:=by unfold ch at e;split at e<;>omega
   have p:ar k+1<=(v.length:Int):=by unfold ch at e;split at e<;>omega
   have s:(v.map I)[0]?=some (I (v.getD 0 0)):=by rw[aB,aA i,aK,aA i];rfl
   refine⟨J++[.cells (nC (iS k v))],?_⟩;have o:=Mt (g:=gh.length) (k:=k) (many:=ch k) (w:=v.getD 0 0) (v:=v) (G:=Gr gh m r J) p;have t:=Mu (gh:=gh) (J:=J) (r:=r) (m:=m) (k:=k) (many:=ch k) (w:=v.getD 0 0) (a:=if 0<ar k then v.getD 1 0 else 0) (b:=if 1<ar k then v.getD 2 0 else 0) (c:=if 2<ar k then v.getD 3 0 else 0) (v:=v) H rfl e;have M:(⟨k,v.getD 0 0,if 0<ar k then v.getD 1 0 else 0,if 1<ar k then v.getD 2 0 else 0,if 2<ar k then v.getD 3 0 else 0,if k=1\/k=21 then v.getD (ch k-1).toNat 0 else 0⟩:Nd)=iS k v:=rfl;rw[M] at t;refine aa ?_
   have n:∀y:GObj,(Gr gh m r J++[y])[(Gr gh m r J).length]?=some y:=λy=>NX
   have l:∀y z:GObj,(Gr gh m r J++[y]).set (Gr gh m r J).length z=Gr gh m r J++[z]:=λy z=>NX
   generalize (if 0<ar k then v.getD 1 0 else 0)=a,(if 1<ar k then v.getD 2 0 else 0)=b,(if 2<ar k then v.getD 3 0 else 0)=c,v.getD 0 0=O,Gr gh (eC m (iS k v)) r (J++[.cells (nC (iS k v))])=R at *;unfold nst at o;obtain⟨q,F⟩:∃q:GObj->Ol,q=λy=>Gr gh m r J++[y]:=⟨_,rfl⟩
   have j:∀y,Gr gh m r J++[y]=q y:=λy=>by rw[F]
   simp only[j] at o t n l;generalize v.map I=d,SL8 (ws.drop 2)=D,SL8 ws=W at *;simp only[aR] at o;simp[q3n,h,f,L,s,j,n,l,au,o,t,show 2<=W.length by omega]
  ·rw[if_neg e]
   rw[aF e] at f;refine⟨J,?_⟩;simp only;refine aa ?_;generalize SL8 (ws.drop 2)=D,SL8 ws=W,v.map I=d at *;simp[q3n,h,f,show 2<=W.length by omega]
theorem Mw {w:List UInt8} {rest:List (List UInt8)} (hl:m.nodes.length<=20000) (S:∀x∈w::rest,x.length<=3000000) (N:(w::rest).length<=3000000) :
  ∃R,ac pg 361 [Oe gh.length 0,NZ (SL8 (w::rest))] (Gr gh m r J)=
   match jx m r (w::rest) with
   |some x=>some (B true,Gr gh (eC m x) r R)
   |none=>some (B false,Gr gh m r J):=by
 obtain⟨v,j,O⟩:=Cj (gh:=Gr gh m r J) (x:=w) (S w NX);have z:=vD (gh:=gh) (J:=J) (m:=m) (r:=r);unfold fh at z;have g:(m.nodes.map bh).length=m.nodes.length:=aW _
 have c:∀(b:Bool) (G:Ol),ab pg q1m ⟨[(0,Oe gh.length 0),(1,NZ (SL8 (w::rest)))],[],Gr gh m r J⟩=Oh ⟨[(4,B b)],[],G⟩->ac pg 361 [Oe gh.length 0,NZ (SL8 (w::rest))] (Gr gh m r J)=some (B b,G):=λb G h=>
  ak (fn:=q1f) rfl rfl h (by simp[ag,results,q1f,ah,am,af])
 by_cases F:0<=bp w
 ·obtain rfl:=O F
  rw[aG F] at j;by_cases d:bp w=(m.nodes.length:Int)
  ·match rest with
   |[]=>
    refine⟨J,c _ _ (aa ?_)⟩;rw[<-g] at d;generalize m.nodes.map bh=L,bp w=u at *;subst d;simp[q1m,q1f,j,z,dD]
   | u ::rest=>
    by_cases X:r<=0
    ·have y:=λG=>Cn (gh:=G) (w:=u) (xs:=wordsL.drop 1) NY
     have a:((List.map PV.str textWords).take 24).tail=SL8 (wordsL.drop 1):=rfl;have f:¬((rest.length:Int)+1+1<2):=NW;have s:¬(0<r):=NW;have P:=Co u;have Q:WI.wrap (dV u (wordsL.drop 1) 0+1)=de u:=by unfold de at P ⊢;rw[aq NW NW]
     have q:textWords.length=24:=rfl;generalize dV u (wordsL.drop 1) 0=ix at *;by_cases D:de u=0
     ·have l:jx m r (w::u::rest)=none:=by
       rw[sa,if_neg (λh=>h.2.2 D)]
      rw[l];refine⟨J,c _ _ (aa ?_)⟩;rw[<-g] at d;generalize m.nodes.map bh=L,bp w=M at *;subst d;generalize SL8 (wordsL.drop 1)=WL at *;have a:=a;simp[q1m,q1f,j,z,dD,f,s,a,q,y,Q,D]
     ·obtain⟨R,p⟩:=Mv (gh:=gh) (J:=J) (r:=r) (m:=m) (k:=de u) (ws:=w::u::rest) hl S N NX
      have l:jx m r (w::u::rest)=(match eZ ((w::u::rest).drop 2) with|some v=>if (v.length:Int)=ch (de u) then some (iS (de u) v) else none|none=>none):=by rw[sa,if_pos ⟨d,X,D⟩];rfl
      rw[l];refine⟨R,?_⟩;have U:=λG=>iq (de u) G
      have T:=λG=>Ce (gh:=G) (de u)
      have ht:=gD (de u);have i:ch (de u)=1+ar (de u)+(if de u=1\/de u=21 then 1 else 0):=rfl;have C:WI.wrap (1+ar (de u))=1+ar (de u):=aq NW NW;have H:WI.wrap (1+ar (de u)+1)=1+ar (de u)+1:=aq NW NW;have n:∀(b:Bool) (G:Ol),ab pg q3n ⟨[(0,Oe gh.length 0),(1,NZ (SL8 (w::u::rest))),(7,I (de u)),(8,I (ch (de u)))],[],Gr gh m r J⟩=Oh ⟨[(4,B b)],[],G⟩->ac pg 361 [Oe gh.length 0,NZ (SL8 (w::u::rest))] (Gr gh m r J)=some (B b,G):=by
       intro b G p;refine c _ _ (aa ?_);simp only[bS] at p;rw[<-g] at d;generalize m.nodes.map bh=L,bp w=M at *;subst d;generalize SL8 (wordsL.drop 1)=WL at *;have a:=a;generalize ar (de u)=t at *;by_cases E:de u=1\/de u=21
       ·have A:=aG E
        rw[if_pos E] at i;rw[i] at p;generalize decide (de u=1\/de u=21)=bb at *;subst A;simp[q1m,q1f,j,z,dD,f,s,a,q,y,Q,D,U,T,C,H,p]
       ·have A:=aF E
        rw[if_neg E,Int.add_zero] at i;rw[i] at p;generalize decide (de u=1\/de u=21)=bb at *;subst A;simp[q1m,q1f,j,z,dD,f,s,a,q,y,Q,D,U,T,C,H,p]
      generalize (match eZ ((w::u::rest).drop 2) with|some v=>if (v.length:Int)=ch (de u) then some (iS (de u) v) else none|none=>none)=o at *;cases o with
      |none=>exact n _ _ p
      |some x=>exact n _ _ p
    ·have l:jx m r (w::u::rest)=none:=by
      rw[sa,if_neg (λh=>X h.2.1)]
     rw[l];refine⟨J,c _ _ (aa ?_)⟩;rw[<-g] at d;generalize m.nodes.map bh=L,bp w=M at *;subst d;have f:¬((rest.length:Int)+1+1<2):=NW;simp[q1m,q1f,j,z,dD,f,show 0<r by omega]
  ·have l:jx m r (w::rest)=none:=by
    unfold jx;split
    ·rename_i e
     injection e with C H
     subst C;rw[if_neg (λh=>d h.1)]
    ·rfl
   rw[l];refine⟨J,c _ _ (aa ?_)⟩;rw[<-g] at d;generalize m.nodes.map bh=L,bp w=M at *;simp[q1m,q1f,j,z,dD,d]
 ·have l:jx m r (w::rest)=none:=by
   unfold jx;split
   ·rename_i e
    injection e with C H
    subst C;rw[if_neg (λh=>F NW)]
   ·rfl
  rw[l];rw[aF F] at j;refine⟨J,c _ _ (aa ?_)⟩;simp[q1m,q1f,j]
end
end
section
attribute [local congr] bu
attribute [local simp] au
def sortsL:List (List UInt8):=[[],[105,110,105,116],[110,101,120,116],[98,97,100],[104,111,108,100]]
def ed (w:List UInt8):Int:=dV w sortsL 0
def fd (m:Md) (s:Int) (v:Oi):Md:=
 if s=1 then {m with inits:=m.inits++[(v.getD 0 0,v.getD 1 0)] } else if s=2 then {m with nexts:=m.nexts++[(v.getD 0 0,v.getD 1 0)] }
 else if s=3 then {m with bads:=m.bads++[v.getD 0 0] } else {m with holds:=m.holds++[v.getD 0 0] }
def hZ (s:Int):Int:=if 2<s then 1 else 2
def ia (m:Md) (r:Int) (x:List UInt8):Option (Md×Int):=match cu 32 x with
 |[]=>none
 | w::rest=>if ed w<1 then (jx m r (w::rest)).map λx=>(eC m x,r)
  else match eZ rest with
   |some v=>if (v.length:Int)=hZ (ed w)/\r<=ed w then some (fd m (ed w) v,ed w) else none
   |none=>none
structure MdZ (m:Md) (N:Nat):Prop where
 nodes:m.nodes.length<=N
 inits:m.inits.length<=N
 nexts:m.nexts.length<=N
 bads:m.bads.length<=N
 holds:m.holds.length<=N
section
variable {gh J:Ol} {m:Md} {r:Int}
theorem Mx {w:List UInt8} {rest:List (List UInt8)} {s:Int} (p:MdZ m 20000) (S:∀x∈rest,x.length<=3000000) (F:rest.length<=3000000) (X:1<=s) (U:s<=4) :
  ab pg q1e ⟨[(0,Oe gh.length 0),(5,NZ (SL8 (w::rest))),(6,I s),(7,I (hZ s))],[],Gr gh m r J⟩=
   match (match eZ rest with|some v=>if (v.length:Int)=hZ s/\r<=s then some (fd m s v,s) else none|none=>none:Option (Md×Int)) with
   |some (R,Q)=>Oh ⟨[(4,B true)],[],Gr gh R Q J⟩
   |none=>Oh ⟨[(4,B false)],[],Gr gh m r J⟩:=by
 have e:=Cl (gh:=Gr gh m r J) (many:=hZ s) S F;have H:=vD (gh:=gh) (J:=J) (m:=m) (r:=r);unfold fh at H;simp only[SL8,bS] at e ⊢;generalize T:rest.map (λx=>PV.str (bA x))=D at *;cases hn:eZ rest with
 |none=>
  rw[hn] at e;simp only[Option.getD_none,LI,bU] at e ⊢;refine aa ?_;simp[q1e,e]
 | some v=>
  rw[hn] at e;simp only[Option.getD_some,LI] at e ⊢;by_cases i:(v.length:Int)=hZ s
  ·rw [aG i] at e
   by_cases hr:r<=s
   ·rw[if_pos ⟨i,hr⟩]
    simp only;have g:∀G:Ol,ab pg q7v ⟨[],[],G⟩=Oh ⟨[(4,B true)],[],G⟩:=λG=>aa (c:=q7v) (s:=⟨[],[],_⟩) (by simp[q7v]<;>rfl)
    have f:¬s<r:=NW;have o:∀y:GObj,(gh++y::J)[gh.length]?=some y:=λy=>NX
    have n:∀y z:GObj,(gh++y::J).set gh.length z=gh++z::J:=λy z=>NX
    unfold Gr at e ⊢;obtain⟨q,L⟩:∃q:GObj->Ol,q=λy=>gh++y::J:=⟨_,rfl⟩
    have l:∀y,gh++y::J=q y:=λy=>by rw[L]
    simp only[l] at e o n ⊢;clear L l H;have P:((m.inits.map aj).length+1)*16<=maxBytes:=cA (by have:=p.inits;rw[aW];omega:_<=20001*16) NY;have O:((m.nexts.map aj).length+1)*16<=maxBytes:=cA (by have:=p.nexts;rw[aW];omega:_<=20001*16) NY;have N:((m.bads.map I).length+1)*8<=maxBytes:=cA (by have:=p.bads;rw[aW];omega:_<=20001*8) NY;have M:((m.holds.map I).length+1)*8<=maxBytes:=cA (by have:=p.holds;rw[aW];omega:_<=20001*8) NY;refine aa ?_;have j:s=1\/s=2\/s=3\/s=4:=NW;rcases j with rfl|rfl|rfl|rfl
    ·match v,i with
     |[a,b],_=>
      have k:fh (fd m 1 [a,b]) 1= .cells [.sl true 6 (m.nodes.map bh),.sl true 2 (m.inits.map aj++[.agg [I a,I b]]),.sl true 2 (m.nexts.map aj),Oa (m.bads.map I),Oa (m.holds.map I),I 1]:=by simp[fh,fd,aj]
      rw[k];unfold fh at e ⊢;generalize m.nodes.map bh=E,m.inits.map aj=C,m.nexts.map aj=A,m.bads.map I=u,m.holds.map I=t at *;simp only[bS,bU] at e;simp[q1e,e,o,n,dD,f,au,P,aw,g]
    ·match v,i with
     |[a,b],_=>
      have k:fh (fd m 2 [a,b]) 2= .cells [.sl true 6 (m.nodes.map bh),.sl true 2 (m.inits.map aj),.sl true 2 (m.nexts.map aj++[.agg [I a,I b]]),Oa (m.bads.map I),Oa (m.holds.map I),I 2]:=by simp[fh,fd,aj]
      rw[k];unfold fh at e ⊢;generalize m.nodes.map bh=E,m.inits.map aj=C,m.nexts.map aj=A,m.bads.map I=u,m.holds.map I=t at *;simp only[bS,bU] at e;simp[q1e,e,o,n,dD,f,au,O,aw,g]
    ·match v,i with
     |[a],_=>
      have k:fh (fd m 3 [a]) 3= .cells [.sl true 6 (m.nodes.map bh),.sl true 2 (m.inits.map aj),.sl true 2 (m.nexts.map aj),Oa (m.bads.map I++[I a]),Oa (m.holds.map I),I 3]:=by simp[fh,fd]
      rw[k];unfold fh at e ⊢;generalize m.nodes.map bh=E,m.inits.map aj=C,m.nexts.map aj=A,m.bads.map I=u,m.holds.map I=t at *;simp only[bS,bU] at e;simp[q1e,e,o,n,dD,f,au,N,aw,g]
    ·match v,i with
     |[a],_=>
      have k:fh (fd m 4 [a]) 4= .cells [.sl true 6 (m.nodes.map bh),.sl true 2 (m.inits.map aj),.sl true 2 (m.nexts.map aj),Oa (m.bads.map I),Oa (m.holds.map I++[I a]),I 4]:=by simp[fh,fd]
      rw[k];unfold fh at e ⊢;generalize m.nodes.map bh=E,m.inits.map aj=C,m.nexts.map aj=A,m.bads.map I=u,m.holds.map I=t at *;simp only[bS,bU] at e;simp[q1e,e,o,n,dD,f,au,M,aw,g]
   ·rw[if_neg (λh=>hr h.2)]
    simp only;refine aa ?_;generalize v.map I=d at *;simp[q1e,e,H,dD,show s<r by omega]
  ·rw[if_neg (λh=>i h.1)]
   rw[aF i] at e;simp only;refine aa ?_;generalize v.map I=d at *;simp[q1e,e]
theorem My {x:List UInt8} (E:MdZ m 20000) (H:x.length<=2000000) :
  ∃A,ac pg 353 [Oe gh.length 0,.str (bA x)] (Gr gh m r J)=
   match ia m r x with
   |some (D,C)=>some (B true,Gr gh D C A)
   |none=>some (B false,Gr gh m r J):=by
 have d:=λG=>Mn (gh:=G) (c:=32) (x:=x) NW
 have i:=vu 32 x;have f:=lm 32 x;unfold ia;cases k:cu 32 x with
 |nil=>rw[k] at f;simp at f
 | cons w rest=>
  rw[k] at d i f;simp only;have e:=λG=>Cn (gh:=G) (w:=w) (xs:=sortsL) NY
  rw[show dV w sortsL 0=ed w from rfl] at e;have u:=vC w sortsL 0;rw[show dV w sortsL 0=ed w from rfl,show sortsL.length=5 from rfl] at u;have z:SL8 sortsL=[.str ByteArray.empty,.str (⟨#[105,110,105,116]⟩:ByteArray),.str (⟨#[110,101,120,116]⟩:ByteArray),.str (⟨#[98,97,100]⟩:ByteArray),.str (⟨#[104,111,108,100]⟩:ByteArray)]:=rfl;rw[z] at e;have j:(⟨#[32]⟩:ByteArray)=bA [32]:=rfl
  have p:∀(b:Bool) (G:Ol),ab pg q4n ⟨[(0,Oe gh.length 0),(1,.str (bA x))],[],Gr gh m r J⟩=Oh ⟨[(4,B b)],[],G⟩->ac pg 353 [Oe gh.length 0,.str (bA x)] (Gr gh m r J)=some (B b,G):=λb G h=>
   ak (fn:=q3m) rfl rfl h (by simp[ag,results,q3m,ah,am,af])
  generalize ed w=s at *;by_cases n:s<1
  ·rw[if_pos n]
   obtain⟨A,g⟩:=Mw (gh:=gh) (J:=J) (m:=m) (r:=r) (w:=w) (rest:=rest) E.nodes (λy t=>by have:=i y t;omega) NW;refine⟨A,?_⟩;have a:∀(b:Bool) (G:Ol),ac pg 361 [Oe gh.length 0,NZ (SL8 (w::rest))] (Gr gh m r J)=some (B b,G)->ac pg 353 [Oe gh.length 0,.str (bA x)] (Gr gh m r J)=some (B b,G):=by intro b G h;refine p _ _ (aa ?_);simp only[bS] at h d;generalize rest.map (λx=>PV.str (bA x))=R at *;simp[q4n,q3m,j,d,e,n,h]
   cases F:jx m r (w::rest) with
   |none=>rw[F] at g;exact a _ _ g
   |some y=>rw[F] at g;exact a _ _ g
  ·rw[if_neg n]
   have l:=Mx (gh:=gh) (J:=J) (m:=m) (r:=r) (w:=w) (rest:=rest) (s:=s) E (λy t=>by have:=i y (by simp[t]);omega) (by simp at f;omega) NW NW;refine⟨J,?_⟩;have a:∀(b:Bool) (G:Ol),ab pg q1e ⟨[(0,Oe gh.length 0),(5,NZ (SL8 (w::rest))),(6,I s),(7,I (hZ s))],[],Gr gh m r J⟩=Oh ⟨[(4,B b)],[],G⟩->ac pg 353 [Oe gh.length 0,.str (bA x)] (Gr gh m r J)=some (B b,G):=by
    intro b G h;refine p _ _ (aa ?_);unfold hZ at h;simp only[bS] at h d;generalize rest.map (λx=>PV.str (bA x))=R at *;by_cases q:2<s
    ·rw[if_pos q] at h
     simp[q4n,q3m,j,d,e,n,q,h]
    ·rw[if_neg q] at h
     simp[q4n,q3m,j,d,e,n,q,h]
   generalize (match eZ rest with|some v=>if (v.length:Int)=hZ s/\r<=s then some (fd m s v,s) else none|none=>none:Option (Md×Int))=o at *
   match o with
   |none=>exact a _ _ l
   |some (D,C)=>exact a _ _ l
end
end
section
attribute [local congr] bu
attribute [local simp] au
def m0:Md:=⟨[],[],[],[],[]⟩
def pgo:List (List UInt8)->Md->Int->Nat->Nat ⊕ Md
 |[],m,_,_=> .inr m
 |[x],m,_,n=>if x=[] then .inr m else .inl n
 |x::y::t,m,r,n=>match ia m r x with
  |none=> .inl n
  |some (b,a)=>pgo (y::t) b a (n+1)
def ie (s:List UInt8):Md×Int×Int:=if 10000<s.length then (m0,0,2) else match pgo (cu 10 s) m0 0 1 with
 | .inl e=>(m0,(e:Int),1)
 | .inr m=>if dc m=0 then (m,0,0) else (m0,0,dc m)
theorem pB (x:List UInt8) (m:Md) (r:Int) (n:Nat):pgo [x] m r n=if x=[] then .inr m else .inl n:=rfl
theorem sd (x y:List UInt8) (t:List (List UInt8)) (m:Md) (r:Int) (n:Nat):pgo (x::y::t) m r n=match ia m r x with
  |none=> .inl n
  |some (b,a)=>pgo (y::t) b a (n+1):=rfl
theorem vE (N:Nat):MdZ m0 N:=⟨Nat.zero_le _,Nat.zero_le _,Nat.zero_le _,Nat.zero_le _,Nat.zero_le _⟩
theorem pC {m:Md} {N M:Nat} (h:MdZ m N) (k:N<=M):MdZ m M:=⟨cA h.1 k,cA h.2 k,cA h.3 k,cA h.4 k,cA h.5 k⟩
theorem vF {m b:Md} {r c:Int} {x:List UInt8} {N:Nat} (h:MdZ m N) (a:ia m r x=some (b,c)):MdZ b (N+1):=by
 obtain⟨i,g,f,e,d⟩:=h;unfold ia at a;split at a
 ·cases a
 ·split at a
  ·simp only[aE,bZ] at a
   obtain⟨y,-,rfl,-⟩:=a;refine⟨?_,?_,?_,?_,?_⟩<;>simp[eC]<;>omega
  ·split at a
   ·split at a
    ·simp only[bW,bZ] at a
     obtain⟨rfl,-⟩:=a;unfold fd;split
     ·refine⟨?_,?_,?_,?_,?_⟩<;>simp<;>omega
     ·split
      ·refine⟨?_,?_,?_,?_,?_⟩<;>simp<;>omega
      ·split
       ·refine⟨?_,?_,?_,?_,?_⟩<;>simp<;>omega
       ·refine⟨?_,?_,?_,?_,?_⟩<;>simp<;>omega
    ·cases a
   ·cases a
theorem Cq:∀{l:List (List UInt8)} {m b:Md} {r:Int} {n N:Nat},MdZ m N->pgo l m r n= .inr b->MdZ b (N+l.length)
 |[],m,b,r,n,N,h,a=>by cases a;exact h
 |[x],m,b,r,n,N,h,a=>by
  rw[pB] at a;split at a
  ·cases a;exact pC h NX
  ·cases a
 | x::y::t,m,b,r,n,N,h,a=>by
  rw[sd] at a;split at a
  ·cases a
  ·rename_i d c e
   have:=Cq (vF h e) a;exact pC this (by simp;omega)
section
variable {gh:Ol}
abbrev nilM:Ok:=[.sl true 6 [],.sl true 2 [],.sl true 2 [],Oa [],Oa []]
theorem Cr:∀(k:Nat) (s:List UInt8) (m:Md) (r:Int) (J:Ol) (n N:Nat),(cu 10 s).length=k->s.length<=20000->MdZ m N->N+k<=20000->n+k<=1000000->
  ∃(z:Md) (o:Int) (v:Ol),ab pg qg8 ⟨[(0,.str (bA s)),(2,Ob),(5,Oe gh.length 0),(6,I (n:Int))],[nilM],Gr gh m r J⟩=
   match pgo (cu 10 s) m r n with
   | .inl e=>Oh ⟨[(2,Ob),(3,I (e:Int)),(4,I 1)],[nilM],Gr gh z o v⟩
   | .inr j=>Og ⟨[(2,Ob),(5,Oe gh.length 0)],[nilM],Gr gh j o v⟩
 |0,s,_,_,_,_,_,h,_,_,_,_=>by have:=(lm 10 s).1;omega
 | k +1,s,m,r,J,n,N,h,Q,L,R,hn=>by
  have q:ByteArray.empty=bA []:=rfl;by_cases D:s=[]
  ·subst D
   refine⟨m,r,J,?_⟩;rw[show cu 10 []=[[]] from rfl,pB,if_pos rfl];refine (bn (s1:=⟨[(0,.str (bA [])),(2,Ob),(5,Oe gh.length 0),(6,I (n:Int)),(18,B false)],[nilM],Gr gh m r J⟩) (aa ?J)).trans ?Z
   case J=>
    generalize Gr gh m r J=G at *;simp[q4k,q]
   case Z=>simp[keep,bj]
  ·have g:=λG=>Mo (gh:=G) (c:=10) (x:=s) NW
   have f:s.isEmpty=false:=by cases s with
    |nil=>exact absurd rfl D
    |cons a b=>rfl
   have E:(⟨#[10]⟩:ByteArray)=bA [10]:=rfl;have O:WI.wrap ((n:Int)+1)=((n+1:Nat):Int):=by rw[aq NW NW];omega
   rcases Cf 10 s with ⟨F,u⟩|⟨x,rest,F,u,P⟩
   ·refine⟨m,r,J,?_⟩
    rw[u,pB,if_neg D];rw[F] at g;refine cx (aa ?Y)
    case Y=>
     generalize Gr gh m r J=G at *;simp only at g;simp[q4k,q,E,f,g]
   ·rw[F] at g
    simp only at g;have M:x.length+rest.length+1=s.length:=by rw[P];simp;omega
    obtain⟨H,i⟩:=My (gh:=gh) (J:=J) (m:=m) (r:=r) (x:=x) (pC L NW) NW;have A:(cu 10 rest).length=k:=by rw[u] at h;simpa using h
    obtain⟨y,t,l⟩:=Cg 10 rest;rw[u,l,sd];cases C:ia m r x with
    | none=>
     rw[C] at i;refine⟨m,r,J,?_⟩;simp only at i ⊢;refine cx (aa ?K)
     case K=>
      generalize Gr gh m r J=G at *;simp[q4k,q,E,f,g,i]
    | some p=>
     obtain⟨j,w⟩:=p;rw[C] at i;simp only at i ⊢;obtain⟨z,o,v,d⟩:=Cr k rest j w H (n+1) (N+1) A NW (vF L C) NW NW;rw[l] at d;refine⟨z,o,v,?_⟩;refine ay (aa (r:=some (_,⟨[(0,.str (bA rest)),(2,Ob),(5,Oe gh.length 0),(6,I ((n+1:Nat):Int))],[nilM],Gr gh j w H⟩)) ?V) d
     case V=>
      generalize Gr gh j w H=S,Gr gh m r J=G,((n+1:Nat):Int)=T at *;simp[q4k,q,E,f,g,i,O]
theorem Cs {m:Md} {r:Int} {J:Ol}:(Gr gh m r J).take gh.length=gh:=by simp[Gr]
theorem Ct (l:List Nd):dr (l.map bh)=true:=by
 induction l with
 |nil=>rfl
 |cons a l b=>simp[dr,PV.noG,bh,b]
theorem se (l:Om):dr (l.map aj)=true:=by
 induction l with
 |nil=>rfl
 |cons a l b=>simp[dr,PV.noG,aj,b]
theorem Mz {s:List UInt8} (F:s.length<=2000000):ac pg 348 [.str (bA s)] gh=some (.tup [dn (ie s).1,I (ie s).2.1,I (ie s).2.2],gh):=by
 have j:((bA s).size:Nat)=s.length:=gS s;unfold ie;by_cases y:10000<s.length
 ·rw[if_pos y]
  refine ak (fn:=qx) (s:=⟨[(2,Ob),(3,I 0),(4,I 2)],[nilM],gh⟩) rfl rfl (aa ?J) ?Z
  case J=>simp[q4m,qx,j,show (10000:Int)<(s.length:Int) by omega]
  case Z=>simp[ag,results,qx,ah,am,St.cellsAt,af,dn,m0]
 ·rw [if_neg y]
  have D:=lm 10 s;obtain⟨x,f,g,c⟩:=Cr (gh:=gh) (cu 10 s).length s m0 0 [] 1 0 rfl NW (vE 0) NW NW;have d:gh++[GObj.cells [.sl true 6 [],.sl true 2 [],.sl true 2 [],Oa [],Oa [],I 0]]=Gr gh m0 0 []:=rfl;have b:¬(10000:Int)<(s.length:Int):=NW;cases u:pgo (cu 10 s) m0 0 1 with
  |inl e=>
   rw[u] at c;simp only[Int.natCast_one] at c ⊢;have k:=Cs (gh:=gh) (m:=x) (r:=f) (J:=g);generalize Gr gh x f g=a,Gr gh m0 0 []=E at *;refine ak (fn:=qx) (s:=⟨[(2,Ob),(3,I (e:Int)),(4,I 1)],[nilM],a⟩) rfl rfl (aa ?Y) ?K
   case Y=>simp[q4m,qx,j,b,d,c]
   case K=>simp[ag,results,qx,ah,am,St.cellsAt,af,dn,m0,k]
  | inr m=>
   rw[u] at c;simp only[Int.natCast_one] at c ⊢;have h:=Cq (vE 0) u;have i:=Ah (m:=m) (gh:=Gr gh m f g) (by simp only[Sz];have:=h.inits;omega) (by simp only[Sz];have:=h.nexts;omega);have k:=Cs (gh:=gh) (m:=m) (r:=f) (J:=g);have w:=vD (gh:=gh) (m:=m) (r:=f) (J:=g);unfold fh at w;generalize Gr gh m f g=a,Gr gh m0 0 []=E at *;have C:=Ct m.nodes;have w1:=se m.inits;have B:=se m.nexts;have A:=pA m.bads;have z:=pA m.holds;rw[eq] at i;simp only[LN,LP,LI] at i;by_cases l:dc m=0
   ·rw[if_pos l]
    rw[l] at i;rw[eq];simp only[LN,LP,LI];generalize m.nodes.map bh=t,m.inits.map aj=q,m.nexts.map aj=p,m.bads.map I=o,m.holds.map I=n at *;have v:ab pg q4l ⟨[(2,Ob),(5,Oe gh.length 0)],[nilM],a⟩=Oh ⟨[(2,Ob),(3,I 0),(4,I 0)],[[.sl false 6 t,.sl false 2 q,.sl false 2 p,NZ o,NZ n]],a⟩:=by refine aa ?_;simp[q4l,w,dD,i]
    refine ak (fn:=qx) (s:=⟨[(2,Ob),(3,I 0),(4,I 0)],[[.sl false 6 t,.sl false 2 q,.sl false 2 p,NZ o,NZ n]],a⟩) rfl rfl (aa ?V) ?W
    case V=>simp[q4m,qx,j,b,d,c,v]
    case W=>simp[ag,results,qx,ah,am,St.cellsAt,af,k,C,w1,B,A,z]
   ·rw[if_neg l]
    generalize dc m=e,m.nodes.map bh=t,m.inits.map aj=q,m.nexts.map aj=p,m.bads.map I=o,m.holds.map I=n at *;have v:ab pg q4l ⟨[(2,Ob),(5,Oe gh.length 0)],[nilM],a⟩=Oh ⟨[(2,Ob),(3,I 0),(4,I e)],[nilM],a⟩:=by refine aa ?_;simp[q4l,w,dD,i,l]
    refine ak (fn:=qx) (s:=⟨[(2,Ob),(3,I 0),(4,I e)],[nilM],a⟩) rfl rfl (aa ?Ja) ?Jb
    case Ja=>simp[q4m,qx,j,b,d,c,v]
    case Jb=>simp[ag,results,qx,ah,am,St.cellsAt,af,dn,m0,k]
end
end
section
attribute [local congr] bu
attribute [local simp] au
def lp (w:List UInt8):List (List UInt8)->Int->Int->Int
 |[],_,b=>b
 |x::l,i,b=>lp w l (i+1) (if w=x then i else b)
theorem Cu {w:List UInt8}:∀{l:List (List UInt8)} {i:Int},w∉l->dV w l i= -1
 |[],_,_=>rfl
 |x::l,i,h=>by simp only[List.mem_cons,not_or] at h;rw[dV,if_neg h.1];exact Cu h.2
theorem Cv {w:List UInt8}:∀{l:List (List UInt8)} {i b:Int},l.Nodup->0<=i->lp w l i b=if dV w l i= -1 then b else dV w l i
 |[],_,_,_,_=>by simp[lp,dV]
 | x::l,i,b,h,a=>by
  rw[List.nodup_cons] at h;rw[lp,Cv h.2 NW,dV];by_cases hw:w=x
  ·subst hw
   rw[if_pos rfl,if_pos rfl,Cu h.1,if_pos rfl,if_neg NW]
  ·rw[if_neg hw,if_neg hw]
theorem MA (u:List UInt8):lp u (wordsL.drop 1) 1 0=de u:=by
 rw[Cv NY NY];have c:∀(l:List (List UInt8)) (i:Int),0<=i->(dV u l (i+1)= -1/\dV u l i= -1)\/(dV u l (i+1)≠ -1/\dV u l (i+1)=dV u l i+1):=by
  intro l
  induction l with
  |nil=>intro i _;left;exact⟨rfl,rfl⟩
  |cons x l d=>
   intro i h;rw[dV,dV];split
   ·right;exact⟨NW,rfl⟩
   ·exact d (i+1) NW
 have:=c (wordsL.drop 1) 0 NW;rw[show (0:Int)+1=1 from rfl] at this;unfold de;rcases this with ⟨b,a⟩|⟨b,a⟩
 ·rw[if_pos b,a];rfl
 ·rw[if_neg b,a]
abbrev mR (m:Md):Ok:=[.sl true 6 (m.nodes.map bh),.sl true 2 (m.inits.map aj),.sl true 2 (m.nexts.map aj),Oa (m.bads.map I),Oa (m.holds.map I)]
section
variable {gh:Ol} {m:Md} {r:Int}
theorem MC (k:Nat) (h:k<24):wordsL.drop k=jw (k:Int)::wordsL.drop (k+1):=by have a:k<wordsL.length:=h;rw[aJ a];unfold jw;rw[aK,Int.toNat_natCast,aA a];rfl
theorem Cw {L:Ok} {i:Int} {w u:List UInt8} {rest:List (List UInt8)} {M:Ok} {l j g f e:PV} (t:M=[l,j,g,f,e]):∀n k b,k+n=24->1<=k->
  ab pg q7d ⟨[(2,Ob),(5,NZ L),(6,Oc),(7,I r),(8,I i),(9,NZ (SL8 (w::u::rest))),(10,I b),(11,I (k:Nat))],[nilM,M],gh⟩=
   Og ⟨[(2,Ob),(5,NZ L),(6,Oc),(7,I r),(8,I i),(9,NZ (SL8 (w::u::rest))),(10,I (lp u (wordsL.drop k) (k:Nat) b))],[nilM,M],gh⟩
 |0,k,b,h,_=>by
  obtain rfl:k=24:=NW;subst t;rw[show wordsL.drop 24=[] from rfl,lp];refine (bn (s1:=⟨[(2,Ob),(5,NZ L),(6,Oc),(7,I r),(8,I i),(9,NZ (SL8 (w::u::rest))),(10,I b),(11,I ((24:Nat):Int)),(43,B false)],[nilM,[l,j,g,f,e]],gh⟩) (aa ?J)).trans ?Z
  case J=>simp[q49]
  case Z=>simp[keep,bj]
 | n+1,k,b,h,z=>by
  subst t;have v:k<24:=NW;have q:=λG=>Ms (gh:=G) (k:=(k:Int)) NW
  have y:WI.wrap ((k:Int)+1)=((k+1:Nat):Int):=by rw[aq NW NW];omega
  rw[MC k v,lp];have a:=λb=>Cw (L:=L) (i:=i) (w:=w) (u:=u) (rest:=rest) (M:=[l,j,g,f,e]) rfl n (k+1) b NW NW
  rw[show ((k:Nat):Int)+1=((k+1:Nat):Int) by omega];have d:∀b:Int,ab pg qb6 ⟨[(2,Ob),(5,NZ L),(6,Oc),(7,I r),(8,I i),(9,NZ (SL8 (w::u::rest))),(10,I b),(11,I (k:Nat))],[nilM,[l,j,g,f,e]],gh⟩=Og ⟨[(2,Ob),(5,NZ L),(6,Oc),(7,I r),(8,I i),(9,NZ (SL8 (w::u::rest))),(10,I b),(11,I ((k+1:Nat):Int))],[nilM,[l,j,g,f,e]],gh⟩:=λb=>by refine aa ?_;simp[qb6,y]
  have p:(k:Int)<=23:=NW;have o:(1:Int)<(rest.length:Int)+1+1:=NW;by_cases hw:u=jw (k:Int)
  ·rw[if_pos hw]
   have s:(jw (k:Int)==u)=true:=by simp[hw]
   have c:=d (k:Int);have m:=a (k:Int);clear d a hw;generalize jw (k:Int)=W at *;refine ay (aa (r:=some (_,⟨[(2,Ob),(5,NZ L),(6,Oc),(7,I r),(8,I i),(9,NZ (SL8 (w::u::rest))),(10,I (k:Nat)),(11,I ((k+1:Nat):Int))],[nilM,[l,j,g,f,e]],gh⟩)) ?Y) m
   case Y=>
    simp only[bS] at c ⊢;generalize ((k+1:Nat):Int)=T at *;simp[q49,p,o,q,s,c,show Nat.ble 1 2=true from rfl,show Nat.ble 2 2=true from rfl]
  ·rw[if_neg hw]
   have s:(jw (k:Int)==u)=false:=by
    cases x:(jw (k:Int)==u) with
    |false=>rfl
    |true=>exact absurd (by simpa using x:jw (k:Int)=u).symm hw
   have c:=d b;have m:=a b;clear d a hw;generalize jw (k:Int)=W at *;refine ay (aa (r:=some (_,⟨[(2,Ob),(5,NZ L),(6,Oc),(7,I r),(8,I i),(9,NZ (SL8 (w::u::rest))),(10,I b),(11,I ((k+1:Nat):Int))],[nilM,[l,j,g,f,e]],gh⟩)) ?K) m
   case K=>
    simp only[bS] at c ⊢;generalize ((k+1:Nat):Int)=T at *;simp[q49,p,o,q,s,c,show Nat.ble 1 2=true from rfl,show Nat.ble 2 2=true from rfl]
theorem MD {L:Ok} {i:Int} {w:List UInt8} {e d c b a:PV} :
  ab pg q7d ⟨[(2,Ob),(5,NZ L),(6,Oc),(7,I r),(8,I i),(9,NZ (SL8 [w])),(10,I 0),(11,I 1)],[nilM,[e,d,c,b,a]],gh⟩=
   Og ⟨[(2,Ob),(5,NZ L),(6,Oc),(7,I r),(8,I i),(9,NZ (SL8 [w])),(10,I 0)],[nilM,[e,d,c,b,a]],gh⟩:=by
 refine (bn (s1:=⟨[(2,Ob),(5,NZ L),(6,Oc),(7,I r),(8,I i),(9,NZ (SL8 [w])),(10,I 0),(11,I 1),(43,B false)],[nilM,[e,d,c,b,a]],gh⟩) (aa ?J)).trans ?Z
 case J=>simp[q49]
 case Z=>simp[keep,bj]
abbrev v3 (L:Ok) (r i c:Int) (b:List (List UInt8)) (a:Oi) (f:Bool) (k:Nat) (M:Ok) (d:Ol):St:=
 ⟨[(2,Ob),(5,NZ L),(6,Oc),(7,I r),(8,I i),(9,NZ (SL8 b)),(10,I c),(12,Oa (a.map I)),(13,B f),(14,I (k:Nat))],[nilM,M],d⟩
theorem Cx {L:Ok} {i kd:Int} {ws:List (List UInt8)} {M:Ok} {q p o m l:PV} (w:M=[q,p,o,m,l]) (y:ws.length<=100000):∀n k a f,k+n=ws.length->2<=k->a.length<=k->
  ab pg q7e (v3 L r i kd ws a f k M gh)=
   Og ⟨[(2,Ob),(5,NZ L),(6,Oc),(7,I r),(8,I i),(9,NZ (SL8 ws)),(10,I kd),(12,Oa ((a++(ws.drop k).map bp).map I)),(13,B (f&&(ws.drop k).all λx=>decide (0<=bp x)))],[nilM,M],gh⟩
 |0,k,a,f,h,_,_=>by
  subst w;have d:¬k<ws.length:=NW;have j:(SL8 ws).length=ws.length:=aW _;rw[aM NW];rw[<-j] at d;unfold v3;generalize SL8 ws=W,D:a.map I=A at *;refine (bn (s1:=⟨[(2,Ob),(5,NZ L),(6,Oc),(7,I r),(8,I i),(9,NZ W),(10,I kd),(12,Oa A),(13,B f),(14,I (k:Nat)),(56,B false)],[nilM,[q,p,o,m,l]],gh⟩) (aa ?J)).trans ?Z
  case J=>simp[q3h,d]
  case Z=>simp[keep,bj,D]
 | n+1,k,a,f,h,F,ha=>by
  subst w;have d:k<ws.length:=NW;have j:(SL8 ws).length=ws.length:=aW _;have E:WI.wrap ((k:Int)+1)=((k+1:Nat):Int):=by rw[aq NW NW];omega
  have u:(SL8 ws)[k]?=some (.str (bA ws[k])):=by simp[aA d]
  rw[aJ d];generalize ws[k]=x at *;have v:=λG=>vx (gh:=G) (x:=x)
  have c:=Cx (L:=L) (i:=i) (kd:=kd) (ws:=ws) (M:=[q,p,o,m,l]) rfl y n (k+1) (a++[bp x]) (f&&decide (0<=bp x)) NW NW (by simp;omega);rw[bS,List.all_cons,<-Bool.and_assoc];rw[aT,List.singleton_append] at c;generalize bp x=z at *;have g:((a.map I).length+1)*8<=maxBytes:=cA (by rw[aW];omega:_<=800008) NY;have e:=d;rw[<-j] at e;have t:(1:Int)<(k:Int):=NW
  have s:∀(A:Ok) (b:Bool),ab pg q4a ⟨[(2,Ob),(5,NZ L),(6,Oc),(7,I r),(8,I i),(9,NZ (SL8 ws)),(10,I kd),(12,Oa A),(13,B b),(14,I (k:Nat))],[nilM,[q,p,o,m,l]],gh⟩=Og ⟨[(2,Ob),(5,NZ L),(6,Oc),(7,I r),(8,I i),(9,NZ (SL8 ws)),(10,I kd),(12,Oa A),(13,B b),(14,I ((k+1:Nat):Int))],[nilM,[q,p,o,m,l]],gh⟩:=λA b=>by refine aa ?_;simp[q4a,E]
  unfold v3 at *;rw[bI] at c;simp only[bS,bU] at c;refine ay (aa (r:=some (_,⟨[(2,Ob),(5,NZ L),(6,Oc),(7,I r),(8,I i),(9,NZ (SL8 ws)),(10,I kd),(12,Oa (a.map I++[I z])),(13,B (f&&decide (0<=z))),(14,I ((k+1:Nat):Int))],[nilM,[q,p,o,m,l]],gh⟩)) ?Y) c
  case Y=>
   clear c;generalize SL8 ws=W,a.map I=A,((k+1:Nat):Int)=T at *;have C:(k<W.length):=NW;clear e;simp[q3h,degr,C];cases f
   ·simp[t,u,v,g,s,show Nat.ble 1 2=true from rfl,show Nat.ble 2 2=true from rfl]
   ·simp[t,u,v,g,s,show Nat.ble 1 2=true from rfl,show Nat.ble 2 2=true from rfl]
def dq (w:List UInt8):Int:=if ed w<1 then 0 else ed w
theorem vG (w:List UInt8):(w=[105,110,105,116]/\dq w=1/\ed w=1)\/(w=[110,101,120,116]/\dq w=2/\ed w=2)\/(w=[98,97,100]/\dq w=3/\ed w=3)\/(w=[104,111,108,100]/\dq w=4/\ed w=4)\/
  ((w==[105,110,105,116])=false/\(w==[110,101,120,116])=false/\(w==[98,97,100])=false/\(w==[104,111,108,100])=false/\dq w=0/\ed w<1):=by
 by_cases d:w=[105,110,105,116]
 ·left;subst d;exact⟨rfl,NY,NY⟩
 by_cases c:w=[110,101,120,116]
 ·right;left;subst c;exact⟨rfl,NY,NY⟩
 by_cases b:w=[98,97,100]
 ·right;right;left;subst b;exact⟨rfl,NY,NY⟩
 by_cases a:w=[104,111,108,100]
 ·right;right;right;left;subst a;exact⟨rfl,NY,NY⟩
 right;right;right;right;have e:ed w<1:=by unfold ed sortsL;simp only[dV,if_neg d,if_neg c,if_neg b,if_neg a];split<;>decide
 refine⟨by simp[d],by simp[c],by simp[b],by simp[a],?_,e⟩;unfold dq;rw[if_pos e]
def dH (w:List UInt8) (rest:List (List UInt8)):List (List UInt8):=if ed w<1 then rest.drop 1 else rest
theorem ME {L:Ok} {i kd:Int} {w:List UInt8} {rest:List (List UInt8)} {q0 q1 q2 q3 q4:PV} (E:rest.length<=90000) :
  ab pg q7e (v3 L r i kd (w::rest) [] true 1 [q0,q1,q2,q3,q4] gh)=
   Og ⟨[(2,Ob),(5,NZ L),(6,Oc),(7,I r),(8,I i),(9,NZ (SL8 (w::rest))),(10,I kd),(12,Oa (((dH w rest).map bp).map I)),(13,B ((dH w rest).all λx=>decide (0<=bp x)))],[nilM,[q0,q1,q2,q3,q4]],gh⟩:=by
 match rest with
 |[]=>
  have d:dH w []=[]:=by unfold dH;split<;>rfl
  rw[d];unfold v3;refine (bn (s1:=⟨[(2,Ob),(5,NZ L),(6,Oc),(7,I r),(8,I i),(9,NZ (SL8 [w])),(10,I kd),(12,Oa []),(13,B true),(14,I ((1:Nat):Int)),(56,B false)],[nilM,[q0,q1,q2,q3,q4]],gh⟩) (aa ?J)).trans ?Z
  case J=>simp[q3h]
  case Z=>simp[keep,bj]
 | u ::rest=>
  have g:(1:Int)<(rest.length:Int)+1+1:=NW;have D:=λG=>vx (gh:=G) (x:=u)
  have a:=λq f ha=>Cx (gh:=gh) (r:=r) (L:=L) (i:=i) (kd:=kd) (ws:=w::u::rest) (M:=[q0,q1,q2,q3,q4]) rfl (by simp at E ⊢;omega) rest.length 2 q f (by simp;omega) NW ha
  have H:(w::u::rest).drop 2=rest:=rfl;rw[H] at a;have F:WI.wrap 2=2:=NY;have e:∀(A:Ok) (b:Bool),ab pg q4a ⟨[(2,Ob),(5,NZ L),(6,Oc),(7,I r),(8,I i),(9,NZ (SL8 (w::u::rest))),(10,I kd),(12,Oa A),(13,B b),(14,I 1)],[nilM,[q0,q1,q2,q3,q4]],gh⟩=Og ⟨[(2,Ob),(5,NZ L),(6,Oc),(7,I r),(8,I i),(9,NZ (SL8 (w::u::rest))),(10,I kd),(12,Oa A),(13,B b),(14,I ((2:Nat):Int))],[nilM,[q0,q1,q2,q3,q4]],gh⟩:=λA b=>by refine aa ?_;simp[q4a,F]
  have j:(0+1)*8<=maxBytes:=NY;unfold v3 at *
  have c:ed w=1\/ed w=2\/ed w=3\/ed w=4->(w=[105,110,105,116]\/w=[110,101,120,116]\/w=[98,97,100]\/w=[104,111,108,100])->
    ab pg q7e ⟨[(2,Ob),(5,NZ L),(6,Oc),(7,I r),(8,I i),(9,NZ (SL8 (w::u::rest))),(10,I kd),(12,Oa []),(13,B true),(14,I ((1:Nat):Int))],[nilM,[q0,q1,q2,q3,q4]],gh⟩=
     Og ⟨[(2,Ob),(5,NZ L),(6,Oc),(7,I r),(8,I i),(9,NZ (SL8 (w::u::rest))),(10,I kd),(12,Oa (((dH w (u::rest)).map bp).map I)),(13,B ((dH w (u::rest)).all λx=>decide (0<=bp x)))],[nilM,[q0,q1,q2,q3,q4]],gh⟩:=by
   intro O hw;have d:dH w (u::rest)=u::rest:=by unfold dH;rw[if_neg NW]
   rw[d,bS,List.all_cons];have hr:=a [bp u] (decide (0<=bp u)) NX;rw[List.singleton_append] at hr;generalize bp u=z at *;simp only[bS,bU] at hr ⊢;refine ay (aa (r:=some (_,⟨[(2,Ob),(5,NZ L),(6,Oc),(7,I r),(8,I i),(9,NZ (SL8 (w::u::rest))),(10,I kd),(12,Oa [I z]),(13,B (decide (0<=z))),(14,I ((2:Nat):Int))],[nilM,[q0,q1,q2,q3,q4]],gh⟩)) ?Y) hr
   case Y=>
    clear hr a;simp only[bS] at e ⊢;have n:(⟨#[105,110,105,116]⟩:ByteArray)=bA [105,110,105,116]:=rfl;have m:(⟨#[110,101,120,116]⟩:ByteArray)=bA [110,101,120,116]:=rfl;have p:(⟨#[98,97,100]⟩:ByteArray)=bA [98,97,100]:=rfl;have o:(⟨#[104,111,108,100]⟩:ByteArray)=bA [104,111,108,100]:=rfl;simp[q3h,n,m,p,o];rcases hw with rfl|rfl|rfl|rfl<;>simp[g,D,j,e,show Nat.ble 1 2=true from rfl,show Nat.ble 2 2=true from rfl]
  rcases vG w with ⟨h,l,k⟩|⟨h,l,k⟩|⟨h,l,k⟩|⟨h,l,k⟩|⟨C,y,v,t,N,s⟩
  ·exact c NW (by simp[h])
  ·exact c NW (by simp[h])
  ·exact c NW (by simp[h])
  ·exact c NW (by simp[h])
  ·have d:dH w (u::rest)=rest:=by unfold dH;rw[if_pos s];rfl
   rw[d];have hr:=a [] true NX;rw[bF,Bool.true_and] at hr;simp only[bU] at hr ⊢;refine ay (aa (r:=some (_,⟨[(2,Ob),(5,NZ L),(6,Oc),(7,I r),(8,I i),(9,NZ (SL8 (w::u::rest))),(10,I kd),(12,Oa []),(13,B true),(14,I ((2:Nat):Int))],[nilM,[q0,q1,q2,q3,q4]],gh⟩)) ?K) hr
   case K=>
    clear hr a c;simp only[bS] at e ⊢;have n:(⟨#[105,110,105,116]⟩:ByteArray)=bA [105,110,105,116]:=rfl;have m:(⟨#[110,101,120,116]⟩:ByteArray)=bA [110,101,120,116]:=rfl;have p:(⟨#[98,97,100]⟩:ByteArray)=bA [98,97,100]:=rfl;have o:(⟨#[104,111,108,100]⟩:ByteArray)=bA [104,111,108,100]:=rfl;simp[q3h,n,m,p,o];simp[g,C,y,v,t,e,show Nat.ble 1 2=true from rfl,show Nat.ble 2 2=true from rfl]
end
end
section
attribute [local congr] bu
attribute [local simp] au
section
variable {gh:Ol} {m:Md} {L:Ok} {i:Int}
abbrev e5 (L:Ok) (t i:Int):Oo:=[(2,Ob),(5,NZ L),(6,Oc),(7,I t),(8,I i)]
theorem MF {x:Nd} {t:Int} (o:m.nodes.length<=20000) :
  ab pg qb7 ⟨[(2,Ob),(5,NZ L),(6,Oc),(7,I t),(8,I i),(17,Od)],[nilM,mR m,nC x],gh⟩=Og ⟨e5 L t i,[nilM,mR (eC m x)],gh⟩:=by
 have d:((m.nodes.map bh).length+1)*48<=maxBytes:=cA (by rw[aW];omega:_<=20001*48) NY;have e:mR (eC m x)=[.sl true 6 (m.nodes.map bh++[.agg [I x.k,I x.w,I x.a,I x.b,I x.c,I x.n]]),.sl true 2 (m.inits.map aj),.sl true 2 (m.nexts.map aj),Oa (m.bads.map I),Oa (m.holds.map I)]:=by simp[mR,eC,bh]
 rw[e];refine aa ?_;unfold mR;generalize m.nodes.map bh=l,m.inits.map aj=j,m.nexts.map aj=h,m.bads.map I=g,m.holds.map I=f at *;simp[qb7,d]
theorem pD {v:Oi} {j:Nat} (h:j<v.length):(v.map I)[j]?=some (I (v.getD j 0)):=by rw[aB,aA h,aK,aA h];rfl
theorem MG {kd w a b c t:Int} {v:Oi} (E:m.nodes.length<=20000) (C:(v.length:Int)=ch kd) :
  ab pg q4c ⟨[(2,Ob),(5,NZ L),(6,Oc),(7,I t),(8,I i),(10,I kd),(12,Oa (v.map I)),(16,I (ch kd)),(17,Od)],[nilM,mR m,[I kd,I w,I a,I b,I c,I 0]],gh⟩=
   Og ⟨e5 L t i,[nilM,mR (eC m ⟨kd,w,a,b,c,if kd=1\/kd=21 then v.getD (ch kd-1).toNat 0 else 0⟩)],gh⟩:=by
 have D:=gD kd;have f:=λn=>MF (gh:=gh) (m:=m) (L:=L) (i:=i) (t:=t) (x:=⟨kd,w,a,b,c,n⟩) E
 refine aa ?_;by_cases g:kd=1\/kd=21
 ·rw[if_pos g]
  have hw:ch kd=2+ar kd:=by unfold ch;rw[if_pos g];omega
  have r:WI.wrap (ch kd-1)=ch kd-1:=aq NW NW;have p:=pD (v:=v) (j:=(ch kd-1).toNat) NW;have k:(1:Int)<=ch kd:=NW;have e:=f (v.getD (ch kd-1).toNat 0);unfold nC at e;simp only at e;generalize v.getD (ch kd-1).toNat 0=z,v.map I=d at *;generalize mR (eC m ⟨kd,w,a,b,c,z⟩)=F at *;unfold mR at *;generalize m.nodes.map bh=B,m.inits.map aj=A,m.nexts.map aj=y,m.bads.map I=u at *;generalize m.holds.map I=s,G:ch kd=W at *;generalize q:(W-1).toNat=N at *;clear f D hw C;by_cases l:kd=1
  ·simp[q4c,l,r,q,p,k]
   simp[l] at e;simp[e]
  ·have o:kd=21:=g.resolve_left l
   simp[q4c,o,r,q,p,k];simp[o] at e;simp[e]
 ·rw[if_neg g]
  have l:¬kd=1:=λh=>g (.inl h)
  have o:¬kd=21:=λh=>g (.inr h)
  have e:=f 0;unfold nC at e;simp only at e;generalize v.map I=d,mR (eC m ⟨kd,w,a,b,c,0⟩)=F at *;unfold mR at *;generalize m.nodes.map bh=B,m.inits.map aj=A,m.nexts.map aj=y,m.bads.map I=u,m.holds.map I=s at *;simp[q4c,l,o,e]
theorem MH {kd w a b t:Int} {v:Oi} (s:m.nodes.length<=20000) (r:(v.length:Int)=ch kd) :
  ab pg q7f ⟨[(2,Ob),(5,NZ L),(6,Oc),(7,I t),(8,I i),(10,I kd),(12,Oa (v.map I)),(16,I (ch kd)),(17,Od)],[nilM,mR m,[I kd,I w,I a,I b,I 0,I 0]],gh⟩=
   Og ⟨e5 L t i,[nilM,mR (eC m ⟨kd,w,a,b,if 2<ar kd then v.getD 3 0 else 0,if kd=1\/kd=21 then v.getD (ch kd-1).toNat 0 else 0⟩)],gh⟩:=by
 have h:=λG=>gp kd G
 have q:ar kd+1<=ch kd:=by unfold ch;split<;>omega
 have e:=λc=>MG (gh:=gh) (m:=m) (L:=L) (i:=i) (t:=t) (kd:=kd) (w:=w) (a:=a) (b:=b) (c:=c) (v:=v) s r
 refine aa ?_;by_cases f:2<ar kd
 ·rw[if_pos f]
  have u:=pD (v:=v) (j:=3) NW;have g:=e (v.getD 3 0);generalize v.getD 3 0=z,mR (eC m _)=x,v.map I=d at *;unfold mR at *;generalize m.nodes.map bh=p,m.inits.map aj=o,m.nexts.map aj=n,m.bads.map I=l,m.holds.map I=k,ar kd=tk at *;simp[q7f,h,f,u,g]
 ·rw[if_neg f]
  have g:=e 0;generalize mR (eC m _)=x,v.map I=d at *;unfold mR at *;generalize m.nodes.map bh=p,m.inits.map aj=o,m.nexts.map aj=n,m.bads.map I=l,m.holds.map I=k,ar kd=tk at *;simp[q7f,h,f,g]
theorem MI {kd w a t:Int} {v:Oi} (r:m.nodes.length<=20000) (q:(v.length:Int)=ch kd) :
  ab pg q7g ⟨[(2,Ob),(5,NZ L),(6,Oc),(7,I t),(8,I i),(10,I kd),(12,Oa (v.map I)),(16,I (ch kd)),(17,Od)],[nilM,mR m,[I kd,I w,I a,I 0,I 0,I 0]],gh⟩=
   Og ⟨e5 L t i,[nilM,mR (eC m ⟨kd,w,a,if 1<ar kd then v.getD 2 0 else 0,if 2<ar kd then v.getD 3 0 else 0,if kd=1\/kd=21 then v.getD (ch kd-1).toNat 0 else 0⟩)],gh⟩:=by
 have g:=λG=>gp kd G
 have p:ar kd+1<=ch kd:=by unfold ch;split<;>omega
 have d:=λb=>MH (gh:=gh) (m:=m) (L:=L) (i:=i) (t:=t) (kd:=kd) (w:=w) (a:=a) (b:=b) (v:=v) r q
 refine aa ?_;by_cases e:1<ar kd
 ·rw[if_pos e]
  have s:=pD (v:=v) (j:=2) NW;have f:=d (v.getD 2 0);generalize v.getD 2 0=z,mR (eC m _)=u,v.map I=c at *;unfold mR at *;generalize m.nodes.map bh=o,m.inits.map aj=n,m.nexts.map aj=l,m.bads.map I=k,m.holds.map I=h,ar kd=tk at *;simp[q7g,g,e,s,f]
 ·rw[if_neg e]
  have f:=d 0;generalize mR (eC m _)=u,v.map I=c at *;unfold mR at *;generalize m.nodes.map bh=o,m.inits.map aj=n,m.nexts.map aj=l,m.bads.map I=k,m.holds.map I=h,ar kd=tk at *;simp[q7g,g,e,f]
def fL (m:Md) (t a:Int) (v:Oi):Md:=if t=0 then eC m (iS a v) else fd m t v
abbrev iC (i:Int) (a:Ol):Ot:=Oh ⟨[(2,Ob),(3,I (i+1)),(4,I 1)],[nilM],a⟩
theorem MJ {r kd t want:Int} {v:Oi} {b:Bool} (y:MdZ m 20000) (hi:0<=i/\i<=1000000) (ht:0<=t/\t<=4) (hw:want=if t=0 then ch kd else hZ t) :
  ab pg q17 ⟨[(2,Ob),(5,NZ L),(6,Oc),(7,I r),(8,I i),(10,I kd),(12,Oa (v.map I)),(13,B b),(15,I t),(16,I want)],[nilM,mR m],gh⟩=
   if b=true/\(v.length:Int)=want/\r<=t then Og ⟨e5 L t i,[nilM,mR (fL m t kd v)],gh⟩ else iC i gh:=by
 have N:WI.wrap (i+1)=i+1:=aq NW NW;have l:(v.map I).length=v.length:=aW _;by_cases D:b=true
 ·subst D
  by_cases k:(v.length:Int)=want
  ·by_cases hr:r<=t
   ·rw [if_pos ⟨rfl,k,hr⟩]
    have g:¬t<r:=NW;have f:((v.map I).length:Int)=want:=by rw[l];exact k
    refine aa ?_;by_cases M:t=0
    ·subst M
     rw[if_pos rfl] at hw;have P:=λG=>gp kd G
     have U:ar kd+1<=ch kd:=by unfold ch;split<;>omega
     have X:=gD kd;have A:=λw a=>MI (gh:=gh) (m:=m) (L:=L) (i:=i) (t:=0) (kd:=kd) (w:=w) (a:=a) (v:=v) y.nodes NW
     have z:=pD (v:=v) (j:=0) NW;rw[<-hw] at A;have C:fL m 0 kd v=eC m ⟨kd,v.getD 0 0,if 0<ar kd then v.getD 1 0 else 0,if 1<ar kd then v.getD 2 0 else 0,if 2<ar kd then v.getD 3 0 else 0,if kd=1\/kd=21 then v.getD (ch kd-1).toNat 0 else 0⟩:=by unfold fL iS;rw[if_pos rfl]
     rw[C];by_cases E:0<ar kd
     ·rw[if_pos E]
      have H:=pD (v:=v) (j:=1) NW;have F:=A (v.getD 0 0) (v.getD 1 0);rw[<-hw];clear A C;generalize v.getD 0 0=T,v.getD 1 0=O,mR (eC m _)=M2,v.map I=d at *;unfold mR at *;generalize m.nodes.map bh=x,m.inits.map aj=u,m.nexts.map aj=s,m.bads.map I=q,m.holds.map I=p,ar kd=tk at *;simp[q17,f,g,P,E,z,H,F,show Nat.ble 1 2=true from rfl,show Nat.ble 2 2=true from rfl]
     ·rw[if_neg E]
      have F:=A (v.getD 0 0) 0;rw[<-hw];clear A C;generalize v.getD 0 0=T,mR (eC m _)=M2,v.map I=d at *;unfold mR at *;generalize m.nodes.map bh=x,m.inits.map aj=u,m.nexts.map aj=s,m.bads.map I=q,m.holds.map I=p,ar kd=tk at *;simp[q17,f,g,P,E,z,F,show Nat.ble 1 2=true from rfl,show Nat.ble 2 2=true from rfl]
    ·rw[if_neg M] at hw
     have C:fL m t kd v=fd m t v:=by unfold fL;rw[if_neg M]
     rw[C];have O:((m.inits.map aj).length+1)*16<=maxBytes:=cA (by have:=y.inits;rw[aW];omega:_<=20001*16) NY;have S:((m.nexts.map aj).length+1)*16<=maxBytes:=cA (by have:=y.nexts;rw[aW];omega:_<=20001*16) NY;have R:((m.bads.map I).length+1)*8<=maxBytes:=cA (by have:=y.bads;rw[aW];omega:_<=20001*8) NY;have Q:((m.holds.map I).length+1)*8<=maxBytes:=cA (by have:=y.holds;rw[aW];omega:_<=20001*8) NY;have n:t=1\/t=2\/t=3\/t=4:=NW;rcases n with rfl|rfl|rfl|rfl
     ·have e:want=2:=hw
      subst e
      match v,k with
      |[a,c],_=>
       have o:mR (fd m 1 [a,c])=[.sl true 6 (m.nodes.map bh),.sl true 2 (m.inits.map aj++[.agg [I a,I c]]),.sl true 2 (m.nexts.map aj),Oa (m.bads.map I),Oa (m.holds.map I)]:=by simp[mR,fd,aj]
       rw[o];unfold mR;generalize m.nodes.map bh=x,m.inits.map aj=u,m.nexts.map aj=s,m.bads.map I=q,m.holds.map I=p at *;simp[q17,g,O,aw]
     ·have e:want=2:=hw
      subst e
      match v,k with
      |[a,c],_=>
       have o:mR (fd m 2 [a,c])=[.sl true 6 (m.nodes.map bh),.sl true 2 (m.inits.map aj),.sl true 2 (m.nexts.map aj++[.agg [I a,I c]]),Oa (m.bads.map I),Oa (m.holds.map I)]:=by simp[mR,fd,aj]
       rw[o];unfold mR;generalize m.nodes.map bh=x,m.inits.map aj=u,m.nexts.map aj=s,m.bads.map I=q,m.holds.map I=p at *;simp[q17,g,S,aw]
     ·have e:want=1:=hw
      subst e
      match v,k with
      |[a],_=>
       have o:mR (fd m 3 [a])=[.sl true 6 (m.nodes.map bh),.sl true 2 (m.inits.map aj),.sl true 2 (m.nexts.map aj),Oa (m.bads.map I++[I a]),Oa (m.holds.map I)]:=by simp[mR,fd]
       rw[o];unfold mR;generalize m.nodes.map bh=x,m.inits.map aj=u,m.nexts.map aj=s,m.bads.map I=q,m.holds.map I=p at *;simp[q17,g,R,aw]
     ·have e:want=1:=hw
      subst e
      match v,k with
      |[a],_=>
       have o:mR (fd m 4 [a])=[.sl true 6 (m.nodes.map bh),.sl true 2 (m.inits.map aj),.sl true 2 (m.nexts.map aj),Oa (m.bads.map I),Oa (m.holds.map I++[I a])]:=by simp[mR,fd]
       rw[o];unfold mR;generalize m.nodes.map bh=x,m.inits.map aj=u,m.nexts.map aj=s,m.bads.map I=q,m.holds.map I=p at *;simp[q17,g,Q,aw]
   ·rw[if_neg (λh=>hr h.2.2)]
    have f:((v.map I).length:Int)=want:=by rw[l];exact k
    refine aa ?_;generalize v.map I=d at *;simp[q17,f,show t<r by omega,N]
  ·rw[if_neg (λh=>k h.2.1)]
   have f:¬((v.map I).length:Int)=want:=by rw[l];exact k
   refine aa ?_;generalize v.map I=d at *;simp[q17,f,N]
 ·have D:b=false:=by simpa using D
  subst D;rw[if_neg NX];refine aa ?_;generalize v.map I=d at *;simp[q17,N]
def fM (m:Md) (w:List UInt8) (a t:Int) (rest:List (List UInt8)):Bool:=
 let f:=(dH w rest).all λx=>decide (0<=bp x)
 if t=0 then f&&(decide (bp w=(m.nodes.length:Int))&&decide (0<a)) else f
def fU (t a:Int):Int:=if t=0 then ch a else hZ t
theorem ML {r kd t w16:Int} {v:Oi} {w:List UInt8} {rest:List (List UInt8)} (P:MdZ m 20000) (S:0<=i/\i<=1000000) (R:0<=t/\t<=4) (hw:t≠0->w16=hZ t) :
  ab pg q3i ⟨[(2,Ob),(5,NZ L),(6,Oc),(7,I r),(8,I i),(9,NZ (SL8 (w::rest))),(10,I kd),(12,Oa (v.map I)),(13,B ((dH w rest).all λx=>decide (0<=bp x))),(15,I t),(16,I w16)],[nilM,mR m],gh⟩=
   if fM m w kd t rest=true/\(v.length:Int)=fU t kd/\r<=t then Og ⟨e5 L t i,[nilM,mR (fL m t kd v)],gh⟩ else iC i gh:=by
 have o:=λ(b:Bool)=>MJ (gh:=gh) (m:=m) (L:=L) (i:=i) (r:=r) (kd:=kd) (t:=t) (want:=fU t kd) (v:=v) (b:=b) P S R rfl
 have y:(m.nodes.map bh).length=m.nodes.length:=aW _;by_cases l:t=0
 ·have e:fM m w kd t rest=(((dH w rest).all λx=>decide (0<=bp x))&&(decide (bp w=(m.nodes.length:Int))&&decide (0<kd))):=by unfold fM;rw[if_pos l]
  rw[e];have n:fU t kd=ch kd:=by unfold fU;rw[if_pos l]
  rw[n] at o ⊢;generalize ((dH w rest).all λx=>decide (0<=bp x))=f at *;have M:=λG=>vx (gh:=G) (x:=w)
  have A:=λG=>gp kd G
  have Q:=gD kd;have C:WI.wrap (1+ar kd)=1+ar kd:=aq NW NW;have O:WI.wrap (1+ar kd+1)=1+ar kd+1:=aq NW NW
  have N:∀want:Int,ab pg q4b ⟨[(2,Ob),(5,NZ L),(6,Oc),(7,I r),(8,I i),(9,NZ (SL8 (w::rest))),(10,I kd),(12,Oa (v.map I)),(13,B f),(15,I t),(16,I want)],[nilM,mR m],gh⟩=
    Og ⟨[(2,Ob),(5,NZ L),(6,Oc),(7,I r),(8,I i),(10,I kd),(12,Oa (v.map I)),(13,B (f&&(decide (bp w=(m.nodes.length:Int))&&decide (0<kd)))),(15,I t),(16,I want)],[nilM,mR m],gh⟩:=λwant=>by
   refine aa ?_;rw[<-y];unfold mR;generalize v.map I=a,m.nodes.map bh=u,m.inits.map aj=H,m.nexts.map aj=F,m.bads.map I=E,m.holds.map I=D,bp w=z at *;cases f
   ·simp[q4b]
   ·by_cases q:z=(u.length:Int)
    ·simp[q4b,M,q]
    ·simp[q4b,M,q]
  have d:=N (ch kd);have c:=o (f&&(decide (bp w=(m.nodes.length:Int))&&decide (0<kd)));clear N o;generalize (f&&(decide (bp w=(m.nodes.length:Int))&&decide (0<kd)))=T at *;obtain⟨s,p,h⟩:∃s p,(if T=true/\(v.length:Int)=ch kd/\r<=t then Og ⟨e5 L t i,[nilM,mR (fL m t kd v)],gh⟩ else iC i gh)=some (s,p):=by split<;>exact⟨_,_,rfl⟩
  rw[h] at c ⊢;clear h;refine aa ?_;generalize v.map I=a at *;have g:ch kd=1+ar kd+(if kd=1\/kd=21 then 1 else 0):=rfl;unfold mR at *;generalize m.nodes.map bh=u,m.inits.map aj=H,m.nexts.map aj=F,m.bads.map I=E,m.holds.map I=D,ar kd=tk at *;simp only[bS] at d ⊢;subst l;by_cases k:kd=1
  ·rw[if_pos (.inl k)] at g
   rw[g] at d c;subst k;simp[q3i,A,C,O,d,c,show Nat.ble 1 2=true from rfl,show Nat.ble 2 2=true from rfl]
  ·by_cases j:kd=21
   ·rw[if_pos (.inr j)] at g
    rw[g] at d c;subst j;simp[q3i,A,C,O,d,c,show Nat.ble 1 2=true from rfl,show Nat.ble 2 2=true from rfl]
   ·rw[if_neg NW,Int.add_zero] at g
    rw[g] at d c;simp[q3i,A,k,j,C,d,c,show Nat.ble 1 2=true from rfl,show Nat.ble 2 2=true from rfl]
 ·have e:fM m w kd t rest=((dH w rest).all λx=>decide (0<=bp x)):=by unfold fM;rw[if_neg l]
  rw[e];have n:fU t kd=w16:=by unfold fU;rw[if_neg l,hw l]
  rw[n] at o ⊢;generalize ((dH w rest).all λx=>decide (0<=bp x))=f at *;have c:=o f;clear o;obtain⟨s,p,h⟩:∃s p,(if f=true/\(v.length:Int)=w16/\r<=t then Og ⟨e5 L t i,[nilM,mR (fL m t kd v)],gh⟩ else iC i gh)=some (s,p):=by split<;>exact⟨_,_,rfl⟩
  rw[h] at c ⊢;clear h;refine aa ?_;generalize v.map I=a at *;unfold mR at *;generalize m.nodes.map bh=u,m.inits.map aj=H,m.nexts.map aj=F,m.bads.map I=E,m.holds.map I=D at *;simp only[bS];simp[q3i,l,c]
theorem MM {r kd:Int} {v:Oi} {w:List UInt8} {rest:List (List UInt8)} (E:MdZ m 20000) (G:0<=i/\i<=1000000) :
  ab pg qb8 ⟨[(2,Ob),(5,NZ L),(6,Oc),(7,I r),(8,I i),(9,NZ (SL8 (w::rest))),(10,I kd),(12,Oa (v.map I)),(13,B ((dH w rest).all λx=>decide (0<=bp x)))],[nilM,mR m],gh⟩=
   if fM m w kd (dq w) rest=true/\(v.length:Int)=fU (dq w) kd/\r<=dq w then Og ⟨e5 L (dq w) i,[nilM,mR (fL m (dq w) kd v)],gh⟩ else iC i gh:=by
 have s:∀t,0<=t/\t<=4->ab pg q7h ⟨[(2,Ob),(5,NZ L),(6,Oc),(7,I r),(8,I i),(9,NZ (SL8 (w::rest))),(10,I kd),(12,Oa (v.map I)),(13,B ((dH w rest).all λx=>decide (0<=bp x))),(15,I t)],[nilM,mR m],gh⟩=
   if fM m w kd t rest=true/\(v.length:Int)=fU t kd/\r<=t then Og ⟨e5 L t i,[nilM,mR (fL m t kd v)],gh⟩ else iC i gh:=λt F=>by
  have g:=ML (gh:=gh) (m:=m) (L:=L) (i:=i) (r:=r) (kd:=kd) (t:=t) (w16:=hZ t) (v:=v) (w:=w) (rest:=rest) E G F (λ_=>rfl);obtain⟨k,j,d⟩:∃k j,(if fM m w kd t rest=true/\(v.length:Int)=fU t kd/\r<=t then Og ⟨e5 L t i,[nilM,mR (fL m t kd v)],gh⟩ else iC i gh)=some (k,j):=by split<;>exact⟨_,_,rfl⟩
  rw[d] at g ⊢;clear d;refine aa ?_;generalize ((dH w rest).all λx=>decide (0<=bp x))=f,v.map I=a at *;unfold mR at *;generalize m.nodes.map bh=C,m.inits.map aj=A,m.nexts.map aj=z,m.bads.map I=y,m.holds.map I=u at *;simp only[bS] at g ⊢;unfold hZ at g;by_cases c:2<t
  ·rw[if_pos c] at g
   simp[q7h,c,g]
  ·rw[if_neg c] at g
   simp[q7h,c,g]
 have M:(⟨#[105,110,105,116]⟩:ByteArray)=bA [105,110,105,116]:=rfl;have H:(⟨#[110,101,120,116]⟩:ByteArray)=bA [110,101,120,116]:=rfl;have O:(⟨#[98,97,100]⟩:ByteArray)=bA [98,97,100]:=rfl;have N:(⟨#[104,111,108,100]⟩:ByteArray)=bA [104,111,108,100]:=rfl;have b:=s (dq w) (by rcases vG w with ⟨h,e,c⟩|⟨h,e,c⟩|⟨h,e,c⟩|⟨h,e,c⟩|⟨q,p,o,n,l,D⟩<;>omega);clear s;obtain⟨k,j,d⟩:∃k j,(if fM m w kd (dq w) rest=true/\(v.length:Int)=fU (dq w) kd/\r<=dq w then Og ⟨e5 L (dq w) i,[nilM,mR (fL m (dq w) kd v)],gh⟩ else iC i gh)=some (k,j):=by split<;>exact⟨_,_,rfl⟩
 rw[d] at b ⊢;clear d;refine aa ?_;generalize ((dH w rest).all λx=>decide (0<=bp x))=f,v.map I=a at *;unfold mR at *;generalize m.nodes.map bh=C,m.inits.map aj=A,m.nexts.map aj=z,m.bads.map I=y,m.holds.map I=u at *;simp only[bS] at b ⊢;simp[qb8,M,H,O,N];rcases vG w with ⟨h,e,c⟩|⟨h,e,c⟩|⟨h,e,c⟩|⟨h,e,c⟩|⟨q,p,o,n,l,D⟩
 ·rw[e] at b;subst h;simp[b]
 ·rw[e] at b;subst h;simp[b]
 ·rw[e] at b;subst h;simp[b]
 ·rw[e] at b;subst h;simp[b]
 ·rw[l] at b;simp[q,p,o,n,b]
def ig:List (List UInt8)->Int
 |[]=>0
 |u::_=>de u
def lq (m:Md) (r:Int) (w:List UInt8) (rest:List (List UInt8)):Option (Md×Int):=
 if fM m w (ig rest) (dq w) rest=true/\(((dH w rest).map bp).length:Int)=fU (dq w) (ig rest)/\r<=dq w then some (fL m (dq w) (ig rest) ((dH w rest).map bp),dq w) else none
theorem MN {r kd:Int} {w:List UInt8} {rest:List (List UInt8)} (o:MdZ m 20000) (s:0<=i/\i<=1000000) (p:rest.length<=90000) (q:kd=ig rest) :
  ab pg qb9 ⟨[(2,Ob),(5,NZ L),(6,Oc),(7,I r),(8,I i),(9,NZ (SL8 (w::rest))),(10,I kd)],[nilM,mR m],gh⟩=
   match lq m r w rest with
   |some (g,e)=>Og ⟨e5 L e i,[nilM,mR g],gh⟩
   |none=>iC i gh:=by
 have h:=MM (gh:=gh) (m:=m) (L:=L) (i:=i) (r:=r) (kd:=kd) (v:=(dH w rest).map bp) (w:=w) (rest:=rest) o s;have j:=λq0 q1 q2 q3 q4=>ME (gh:=gh) (r:=r) (L:=L) (i:=i) (kd:=kd) (w:=w) (rest:=rest) (q0:=q0) (q1:=q1) (q2:=q2) (q3:=q3) (q4:=q4) p
 have l:(match lq m r w rest with
   |some (g,e)=>Og ⟨e5 L e i,[nilM,mR g],gh⟩
   |none=>iC i gh)=(if fM m w kd (dq w) rest=true/\(((dH w rest).map bp).length:Int)=fU (dq w) kd/\r<=dq w then Og ⟨e5 L (dq w) i,[nilM,mR (fL m (dq w) kd ((dH w rest).map bp))],gh⟩ else iC i gh):=by
  unfold lq;rw[<-q];by_cases b:fM m w kd (dq w) rest=true/\(((dH w rest).map bp).length:Int)=fU (dq w) kd/\r<=dq w
  ·rw[if_pos b,if_pos b]
  ·rw[if_neg b,if_neg b]
 rw[l];clear l;obtain⟨n,k,c⟩:∃n k,(if fM m w kd (dq w) rest=true/\(((dH w rest).map bp).length:Int)=fU (dq w) kd/\r<=dq w then Og ⟨e5 L (dq w) i,[nilM,mR (fL m (dq w) kd ((dH w rest).map bp))],gh⟩ else iC i gh)=some (n,k):=by split<;>exact⟨_,_,rfl⟩
 rw[c] at h ⊢;clear c;refine aa ?_;unfold v3 at j;generalize ((dH w rest).all λx=>decide (0<=bp x))=f,((dH w rest).map bp).map I=a at *;unfold mR at *;have d:=j (.sl true 6 (m.nodes.map bh)) (.sl true 2 (m.inits.map aj)) (.sl true 2 (m.nexts.map aj)) (Oa (m.bads.map I)) (Oa (m.holds.map I));clear j;generalize m.nodes.map bh=q0,m.inits.map aj=q1,m.nexts.map aj=q2,m.bads.map I=q3,m.holds.map I=q4 at *;simp only[bS,bU,Int.natCast_one] at d h ⊢;generalize rest.map (λx=>PV.str (bA x))=R at *
 simp[qb9,d,h]
theorem MO {r:Int} {ls:List (List UInt8)} {j:Nat} {x w:List UInt8} {rest:List (List UInt8)} (H:MdZ m 20000) (hj:j+1<ls.length) (P:ls.length<=100000) (O:ls[j]?=some x) (N:x.length<=80000) (B:cu 32 x=w::rest) :
  ab pg q4d ⟨e5 (SL8 ls) r (j:Nat),[nilM,mR m],gh⟩=
   match lq m r w rest with
   |some (a,y)=>Og ⟨e5 (SL8 ls) y ((j+1:Nat):Int),[nilM,mR a],gh⟩
   |none=>iC (j:Nat) gh:=by
 have o:=lm 32 x;rw[B] at o;simp only[aV] at o;have v:=λG=>B3 (gh:=G) (s:=x) (c:=32) NW
 rw[B] at v;have A:((32:UInt8).toNat:Int)=32:=rfl;simp only[A] at v;have D:(SL8 ls)[j]?=some (.str (bA x)):=by rw[aB,O];rfl
 have z:(SL8 ls).length=ls.length:=aW _;have F:WI.wrap (((SL8 ls).length:Int)-1)=((ls.length-1:Nat):Int):=by rw[z,aq NW NW];omega
 have Q:WI.wrap ((j:Int)+1)=((j+1:Nat):Int):=by rw[aq NW NW];omega
 have E:(j<(ls.length-1)):=NW;have k:=MN (gh:=gh) (m:=m) (L:=SL8 ls) (i:=(j:Nat)) (r:=r) (kd:=ig rest) (w:=w) (rest:=rest) H NW NW rfl
 have q:∀h g f e d:PV,ab pg q7d ⟨[(2,Ob),(5,NZ (SL8 ls)),(6,Oc),(7,I r),(8,I (j:Nat)),(9,NZ (SL8 (w::rest))),(10,I 0),(11,I 1)],[nilM,[h,g,f,e,d]],gh⟩=
   Og ⟨[(2,Ob),(5,NZ (SL8 ls)),(6,Oc),(7,I r),(8,I (j:Nat)),(9,NZ (SL8 (w::rest))),(10,I (ig rest))],[nilM,[h,g,f,e,d]],gh⟩:=λh g f e d=>by
  match rest with
  |[]=>exact MD
  |u::rest=>
   have:=Cw (gh:=gh) (r:=r) (L:=SL8 ls) (i:=(j:Nat)) (w:=w) (u:=u) (rest:=rest) (M:=[h,g,f,e,d]) rfl 23 1 0 NW NW;rw[Int.natCast_one,MA u] at this;exact this
 have l:∀(t:Int) (h g f e d:PV),ab pg qba ⟨[(2,Ob),(5,NZ (SL8 ls)),(6,Oc),(7,I t),(8,I (j:Nat))],[nilM,[h,g,f,e,d]],gh⟩=Og ⟨[(2,Ob),(5,NZ (SL8 ls)),(6,Oc),(7,I t),(8,I ((j+1:Nat):Int))],[nilM,[h,g,f,e,d]],gh⟩:=λt h g f e d=>by refine aa ?_;simp[qba,Q]
 have b:=q (.sl true 6 (m.nodes.map bh)) (.sl true 2 (m.inits.map aj)) (.sl true 2 (m.nexts.map aj)) (Oa (m.bads.map I)) (Oa (m.holds.map I));rw[show (SL8 (w::rest))= .str (bA w)::SL8 rest from rfl] at b k v;generalize SL8 rest=R,SL8 ls=W at *;clear q;cases C:lq m r w rest with
 |none=>
  rw[C] at k;simp only at k ⊢;refine aa ?_;unfold mR at k ⊢;generalize m.nodes.map bh=h,m.inits.map aj=g,m.nexts.map aj=f,m.bads.map I=e,m.holds.map I=d at *;simp[q4d,degr,F,E];simp[D,v,b,k]
 |some p=>
  obtain⟨a,y⟩:=p;rw[C] at k;simp only at k ⊢;refine aa ?_;have n:=l y (.sl true 6 (a.nodes.map bh)) (.sl true 2 (a.inits.map aj)) (.sl true 2 (a.nexts.map aj)) (Oa (a.bads.map I)) (Oa (a.holds.map I));clear l;unfold mR at k ⊢;generalize m.nodes.map bh=h,m.inits.map aj=g,m.nexts.map aj=f,m.bads.map I=e,m.holds.map I=d,a.nodes.map bh=p0,a.inits.map aj=p1,a.nexts.map aj=X,a.bads.map I=U,a.holds.map I=S at *
  generalize ((j+1:Nat):Int)=T at *;simp[q4d,degr,F,E];simp[D,v,b,k,n,show Nat.ble 1 2=true from rfl,show Nat.ble 2 2=true from rfl]
end
end
section
attribute [local congr] bu
attribute [local simp] au
theorem vH:∀l:List (List UInt8),eZ l=if (l.all λx=>decide (0<=bp x))=true then some (l.map bp) else none
 |[]=>rfl
 | x::l=>by
  rw[eZ,vH l,List.all_cons,bS];by_cases h:0<=bp x
  ·rw[if_pos h,aG h,Bool.true_and]
   split<;>rfl
  ·rw[if_neg h,aF h,Bool.false_and]
   rfl
theorem MP {m:Md} {r:Int} {x w:List UInt8} {rest:List (List UInt8)} (A:0<=r) (t:cu 32 x=w::rest):lq m r w rest=ia m r x:=by
 unfold ia;rw[t];simp only;by_cases j:ed w<1
 ·rw [if_pos j]
  have n:dq w=0:=by unfold dq;rw[if_pos j]
  unfold lq;rw[n]
  match rest with
  |[]=>
   have k:fM m w (ig []) 0 []=false:=by unfold fM ig;simp
   rw[if_neg (by rw[k];simp)];rfl
  | u::d=>
   have e:dH w (u::d)=d:=by unfold dH;rw[if_pos j];rfl
   rw[sa,vH,e];have k:fM m w (ig (u::d)) 0 (u::d)=((d.all λx=>decide (0<=bp x))&&(decide (bp w=(m.nodes.length:Int))&&decide (0<de u))):=by unfold fM;rw[if_pos rfl,e];rfl
   rw[k];have y:=Co u;have g:fU 0 (ig (u::d))=ch (de u):=by unfold fU;rw[if_pos rfl];rfl
   have i:fL m 0 (ig (u::d)) (d.map bp)=eC m (iS (de u) (d.map bp)):=by unfold fL;rw[if_pos rfl];rfl
   rw[g,i];generalize (d.all λx=>decide (0<=bp x))=f;generalize d.map bp=v;by_cases l:bp w=(m.nodes.length:Int)/\r<=0/\de u≠0
   ·rw[if_pos l]
    obtain⟨a,b,c⟩:=l;have o:r=0:=NW;subst o;rw[aG a,aG (by omega:0<de u)];cases f
    ·simp
    ·by_cases q:(v.length:Int)=ch (de u)
     ·simp[q]
     ·simp[q]
   ·rw[if_neg l,if_neg]
    ·rfl
    ·rintro⟨p,z,s⟩
     simp only[aS,aH] at p;exact l ⟨p.2.1,s,NW⟩
 ·rw[if_neg j]
  have n:dq w=ed w:=by unfold dq;rw[if_neg j]
  have e:dH w rest=rest:=by unfold dH;rw[if_neg j]
  unfold lq;rw[n,e,vH];have h:ed w≠0:=NW;have k:fM m w (ig rest) (ed w) rest=(rest.all λx=>decide (0<=bp x)):=by unfold fM;rw[if_neg h,e]
  have g:fU (ed w) (ig rest)=hZ (ed w):=by unfold fU;rw[if_neg h]
  have i:fL m (ed w) (ig rest) (rest.map bp)=fd m (ed w) (rest.map bp):=by unfold fL;rw[if_neg h]
  rw[k,g,i];generalize (rest.all λx=>decide (0<=bp x))=f;cases f
  ·simp
  ·simp
theorem MQ {m b:Md} {r a:Int} {x:List UInt8} (c:0<=r) (h:ia m r x=some (b,a)):0<=a:=by
 unfold ia at h;split at h
 ·cases h
 ·split at h
  ·simp only[aE,bZ] at h
   obtain⟨_,_,_,rfl⟩:=h;exact c
  ·split at h
   ·split at h
    ·simp only[bW,bZ] at h
     omega
    ·cases h
   ·cases h
section
variable {gh:Ol}
theorem Cy {ls:List (List UInt8)} {last:List UInt8} (u:ls.length<=10001) (b:ls[ls.length-1]?=some last) (g:∀x∈ls,x.length<=80000):∀k j (m:Md) (r:Int) (N:Nat),j+k+1=ls.length->0<=r->MdZ m N->N+k<=20000->
  (∃e:Nat,pgo (ls.drop j) m r (j+1)= .inl e/\ab pg qbb ⟨e5 (SL8 ls) r (j:Nat),[nilM,mR m],gh⟩=Oh ⟨[(2,Ob),(3,I (e:Int)),(4,I 1)],[nilM],gh⟩)\/
  (∃c:Md,pgo (ls.drop j) m r (j+1)=(if last=[] then .inr c else .inl ls.length)/\MdZ c (N+k)/\ab pg qbb ⟨e5 (SL8 ls) r (j:Nat),[nilM,mR m],gh⟩=Og ⟨[(2,Ob),(5,NZ (SL8 ls)),(6,Oc)],[nilM,mR c],gh⟩)
 | 0,j,m,r,N,h,A,l,G=>by
  right;have z:ls.drop j=[last]:=by
   have a:j<ls.length:=NW;rw[aJ a,aM NW];have:ls[j]?=some last:=by rw[<-b];congr;omega
   rw[aA a] at this;rw[cX this]
  refine⟨m,?_,l,?_⟩
  ·rw[z,pB,show j+1=ls.length by omega]
  ·have v:(SL8 ls).length=ls.length:=aW _
   have L:WI.wrap (((SL8 ls).length:Int)-1)=((ls.length-1:Nat):Int):=by rw[v,aq NW NW];omega
   have H:¬(j<(ls.length-1)):=NW;generalize SL8 ls=W at *;refine (bn (s1:=⟨[(2,Ob),(5,NZ W),(6,Oc),(7,I r),(8,I (j:Nat)),(29,B false)],[nilM,mR m],gh⟩) (aa ?J)).trans ?Z
   case J=>
    simp[q4d,degr,L,H]
   case Z=>simp[keep,bj]
 | k+1,j,m,r,N,h,A,l,G=>by
  have a:j<ls.length:=NW;have E:ls[j]?=some ls[j]:=aA a;have t:=g _ (cD a);obtain⟨w,rest,f⟩:=Cg 32 ls[j];have d:=MO (gh:=gh) (m:=m) (r:=r) (ls:=ls) (j:=j) (x:=ls[j]) (w:=w) (rest:=rest) (pC l NW) NW NW E t f;rw[MP A f] at d;have z:ls.drop j=ls[j]::ls.drop (j+1):=aJ a;have i:j+1<ls.length:=NW;have y:ls.drop (j+1)=ls[j+1]::ls.drop (j+2):=aJ i;have F:pgo (ls.drop j) m r (j+1)=(match ia m r ls[j] with|none=> .inl (j+1)|some (c,o)=>pgo (ls.drop (j+1)) c o (j+1+1)):=by
   rw[z,y,sd]
   all_goals (cases ia m r ls[j]<;>rfl)
  rw[F];cases n:ia m r ls[j] with
  |none=>
   rw[n] at d;left;refine⟨j+1,rfl,?_⟩;exact cx d
  | some p=>
   obtain⟨c,o⟩:=p;rw[n] at d;simp only at d ⊢;rcases Cy u b g k (j+1) c o (N+1) NW (MQ A n) (vF l n) NW with ⟨e,s,q⟩|⟨D,s,q,C⟩
   ·left
    exact⟨e,s,ay d q⟩
   ·right
    exact⟨D,s,pC q NW,ay d C⟩
theorem MR {s:List UInt8} (U:s.length<=2000000):ac pg 370 [.str (bA s)] gh=some (.tup [dn (ie s).1,I (ie s).2.1,I (ie s).2.2],gh):=by
 have r:((bA s).size:Nat)=s.length:=gS s;unfold ie;by_cases N:10000<s.length
 ·rw[if_pos N]
  refine ak (fn:=qi) (s:=⟨[(2,Ob),(3,I 0),(4,I 2)],[nilM],gh⟩) rfl rfl (aa ?J) ?Z
  case J=>simp[q3j,qi,r,show (10000:Int)<(s.length:Int) by omega]
  case Z=>simp[ag,results,qi,ah,am,St.cellsAt,af,dn,m0]
 ·rw [if_neg N]
  have g:¬(10000:Int)<(s.length:Int):=NW;have T:=lm 10 s;have C:=vu 10 s;have u:=λG=>B3 (gh:=G) (s:=s) (c:=10) NW
  have L:((10:UInt8).toNat:Int)=10:=rfl;simp only[L] at u;generalize cu 10 s=ls at *;have E:ls.length-1<ls.length:=NW;have d:ls[ls.length-1]?=some ls[ls.length-1]:=aA E;have y:=Cy (gh:=gh) (ls:=ls) (last:=ls[ls.length-1]) NW d (λx S=>by have:=C x S;omega) (ls.length-1) 0 m0 0 0 NW NW (vE 0) NW;rw[bJ,cV] at y;have D:mR m0=nilM:=rfl;rw[D] at y;have H:(SL8 ls)[ls.length-1]?=some (.str (bA ls[ls.length-1])):=by rw[aB,d];rfl
  generalize ls[ls.length-1]=last at *;have p:(SL8 ls).length=ls.length:=aW _;have A:WI.wrap (((SL8 ls).length:Int)-1)=((ls.length-1:Nat):Int):=by rw[p,aq NW NW];omega
  have v:(0:Int)<=((ls.length-1:Nat):Int):=NW;have o:(((ls.length-1:Nat):Int)).toNat=ls.length-1:=Int.toNat_natCast _;have M:ByteArray.empty=bA []:=rfl;generalize SL8 ls=W at *;simp only[aR] at y;rcases y with ⟨e,B,w⟩|⟨m,B,w,q⟩
  ·rw[B]
   refine ak (fn:=qi) (s:=⟨[(2,Ob),(3,I (e:Int)),(4,I 1)],[nilM],gh⟩) rfl rfl (aa ?Y) ?K
   case Y=>simp[q3j,qi,r,g,u,w]
   case K=>simp[ag,results,qi,ah,am,St.cellsAt,af,dn,m0]
  ·rw [B]
   have f:=JC (m:=m) (gh:=gh) (by simp only[Sz];have:=w.inits;omega) (by simp only[Sz];have:=w.nexts;omega);have R:=Ct m.nodes;have w1:=se m.inits;have Q:=se m.nexts;have P:=pA m.bads;have O:=pA m.holds;rw[eq] at f;simp only[LN,LP,LI] at f;by_cases h:last=[]
   ·rw[if_pos h]
    subst h;simp only;by_cases z:dc m=0
    ·rw[if_pos z]
     rw[z] at f;rw[eq];simp only[LN,LP,LI];unfold mR at q;generalize m.nodes.map bh=n,m.inits.map aj=l,m.nexts.map aj=k,m.bads.map I=j,m.holds.map I=i at *;have t:ab pg q2l ⟨[(2,Ob),(5,NZ W),(6,Oc)],[nilM,[.sl true 6 n,.sl true 2 l,.sl true 2 k,Oa j,Oa i]],gh⟩=Oh ⟨[(2,Ob),(3,I 0),(4,I 0)],[[.sl false 6 n,.sl false 2 l,.sl false 2 k,NZ j,NZ i]],gh⟩:=by refine aa ?_;simp[q2l,M,A,v,o,H,f,aw]
     refine ak (fn:=qi) (s:=⟨[(2,Ob),(3,I 0),(4,I 0)],[[.sl false 6 n,.sl false 2 l,.sl false 2 k,NZ j,NZ i]],gh⟩) rfl rfl (aa ?V) ?W
     case V=>simp[q3j,qi,r,g,u,q,t]
     case W=>simp[ag,results,qi,ah,am,St.cellsAt,af,R,w1,Q,P,O]
    ·rw[if_neg z]
     unfold mR at q;generalize dc m=e,m.nodes.map bh=n,m.inits.map aj=l,m.nexts.map aj=k,m.bads.map I=j,m.holds.map I=i at *;have t:ab pg q2l ⟨[(2,Ob),(5,NZ W),(6,Oc)],[nilM,[.sl true 6 n,.sl true 2 l,.sl true 2 k,Oa j,Oa i]],gh⟩=Oh ⟨[(2,Ob),(3,I 0),(4,I e)],[nilM],gh⟩:=by refine aa ?_;simp[q2l,M,A,v,o,H,f,z,aw]
     refine ak (fn:=qi) (s:=⟨[(2,Ob),(3,I 0),(4,I e)],[nilM],gh⟩) rfl rfl (aa ?Ja) ?Jb
     case Ja=>simp[q3j,qi,r,g,u,q,t]
     case Jb=>simp[ag,results,qi,ah,am,St.cellsAt,af,dn,m0]
   ·rw[if_neg h]
    simp only
    have F:last.isEmpty=false:=by cases last with
     |nil=>exact absurd rfl h
     |cons a b=>rfl
    unfold mR at q;generalize m.nodes.map bh=n,m.inits.map aj=l,m.nexts.map aj=k,m.bads.map I=j,m.holds.map I=i at *;have t:ab pg q2l ⟨[(2,Ob),(5,NZ W),(6,Oc)],[nilM,[.sl true 6 n,.sl true 2 l,.sl true 2 k,Oa j,Oa i]],gh⟩=Oh ⟨[(2,Ob),(3,I (ls.length:Int)),(4,I 1)],[nilM],gh⟩:=by refine aa ?_;rw[p] at A;simp[q2l,M,A,o,H,F,p]
    refine ak (fn:=qi) (s:=⟨[(2,Ob),(3,I (ls.length:Int)),(4,I 1)],[nilM],gh⟩) rfl rfl (aa ?Jc) ?Jd
    case Jc=>simp[q3j,qi,r,g,u,q,t]
    case Jd=>simp[ag,results,qi,ah,am,St.cellsAt,af,dn,m0]
end
end
section
attribute [local congr] bu
attribute [local simp] au
abbrev fN (e:Int):List UInt8:=if e=1 then [115,97,102,101,32] else if e=2 then [117,110,115,97,102,101,32] else [117,110,107,110,111,119,110,32]
def sg (e n:Int) (st:Oi) (a:Oj):List UInt8:=fN e++(cm n++[10])++if e=2 then jZ st a else []
theorem Cz {st:Oi} {a:Oj} (h:OkT st a):pq st a=(jZ st a,0):=by
 have c:∀l:Oi,(∀x∈l,0<=x/\x<=255)->gf l=true:=λl b=>by unfold gf;rw[bV];intro x d;have:=b x d;simp;omega
 unfold pq vr;have f:(a.any λl=>decide (20<l.length))=false:=by rw[List.any_eq_false];intro l b;have:=(h.ib l b).1;simp;omega
 have e:(a.all λl=>gf l)=true:=by rw[bV];exact λl b=>c l (h.ib l b).2
 have i:=h.il;have g:=h.sl;rw[f,e,c st h.sb,aF NW,aF NW];rfl
theorem CA {st:Oi} {b:Oj} (h:OkT st b):(jZ st b).length<=100000:=by
 have d:∀c:Oj,(∀l∈c,l.length<=20)->(c.flatMap (fg inW)).length<=500*c.length:=by
  intro c
  induction c with
  |nil=>intro _;simp
  |cons a c f=>
   intro h;have k:=pu inW a;have j:=h a NX;have i:=f (λl e=>h l (by simp[e]));simp only[cS,aQ,aV];have g:inW.length=2:=rfl;omega
 have k:=pu startW st;have j:=d b λl e=>(h.ib l e).1
 have i:=h.sl;have g:=h.il;have m:startW.length=5:=rfl;unfold jZ;rw[aQ];omega
theorem CD:∀{l:List (List UInt8)} {m:Md} {r:Int} {n k:Nat},pgo l m r n= .inl k->k<=n+l.length
 |[],_,_,_,_,h=>by cases h
 |[x],m,r,n,k,h=>by
  rw[pB] at h;split at h
  ·cases h
  ·injection h with h;subst h;omega
 | x::y::t,m,r,n,k,h=>by
  rw[sd] at h;split at h
  ·injection h with h;subst h;omega
  ·have:=CD h
   simp only[aV] at *;omega
theorem MS {s:List UInt8} (d:s.length<=2000000):((ie s).2.2=0/\dc (ie s).1=0)\/((ie s).2.2≠0/\0<=(ie s).2.1/\(ie s).2.1<=3000000):=by
 have b:=lm 10 s;unfold ie;split
 ·exact .inr ⟨NY,NY,NY⟩
 ·split
  ·rename_i e c
   have:=CD c;refine .inr ⟨(by decide:(1:Int)≠0),?_,?_⟩
   ·show (0:Int)<=(e:Int);omega
   ·show (e:Int)<=3000000;omega
  ·split
   ·rename_i a
    exact .inl ⟨rfl,a⟩
   ·rename_i a
    exact .inr ⟨a,Int.le_refl 0,(by decide:(0:Int)<=3000000)⟩
theorem CE {m:Md} (d:lW m):m.inits.length<=80/\m.nexts.length<=80:=by
 have b:∀{l:Om},(l.map (·.1)).Nodup->(∀p∈l,c8 m.nodes p.1)->l.length<=80:=λ{l} g c=>by have f:=List.Nodup.length_le_of_subset g (l₂:=(List.range m.nodes.length).map λ(i:Nat)=>(i:Int)) (λa ha=>by obtain⟨p,e,rfl⟩:=List.mem_map.1 ha;have:=c p e;have j:=this.1;have h:=this.2;exact List.mem_map.2 ⟨p.1.toNat,List.mem_range.2 h,NW⟩);have:=d.len;simp at f;omega
 exact⟨b d.nod1 (λp c=>(d.pairs p (cE.2 (.inl c))).1),b d.nod2 (λp c=>(d.pairs p (cE.2 (.inr c))).1)⟩
section
variable {gh:Ol} {m:Md} {c:Ci} {fu:Int} {N:Nat}
theorem si (a b:Int):ac pg 249 [I a,I b] gh=some (I (if (1<=a/\a<=40)/\0<=b/\b<=1000000 then 0 else 3),gh):=by
 by_cases c:a<1
 ·rw[if_neg NW]
  refine ak (fn:=qg) (s:=⟨[(4,I 3)],[],gh⟩) rfl rfl (aa ?J) ?Z
  case J=>simp[q3a,qg,c]
  case Z=>simp[ag,results,qg,ah,am,af]
 by_cases d:40<a
 ·rw[if_neg NW]
  refine ak (fn:=qg) (s:=⟨[(4,I 3)],[],gh⟩) rfl rfl (aa ?Y) ?K
  case Y=>simp[q3a,qg,c,d]
  case K=>simp[ag,results,qg,ah,am,af]
 by_cases e:b<0
 ·rw[if_neg NW]
  refine ak (fn:=qg) (s:=⟨[(4,I 3)],[],gh⟩) rfl rfl (aa ?V) ?W
  case V=>simp[q3a,qg,c,d,e]
  case W=>simp[ag,results,qg,ah,am,af]
 by_cases f:1000000<b
 ·rw[if_neg NW]
  refine ak (fn:=qg) (s:=⟨[(4,I 3)],[],gh⟩) rfl rfl (aa ?Ja) ?Jb
  case Ja=>simp[q3a,qg,c,d,e,f]
  case Jb=>simp[ag,results,qg,ah,am,af]
 ·rw[if_pos NW]
  refine ak (fn:=qg) (s:=⟨[(4,I 0)],[],gh⟩) rfl rfl (aa ?Jc) ?Jd
  case Jc=>simp[q3a,qg,c,d,e,f]
  case Jd=>simp[ag,results,qg,ah,am,af]
theorem MT {R:PV} (g:ac pg 38 [dn m] gh=some (I 0,gh)) (hr:(1<=N/\N<=40)/\0<=fu/\fu<=1000000) {e n:Int} {st:Oi} {a:Oj} (h:ac pg 217 [dn m] gh=some (ciV c,gh))
  (i:ac pg 250 [Oe gh.length 0,I (N:Int)] (gh++[.cells (dcC m c fu)])=some (.agg [I e,I n,LI st,LsI a],gh++[.cells (dcC m c fu)])) :
  ac pg 243 [dn m,I (N:Int),I fu] gh=some (.tup [.agg [I e,I n,LI st,LsI a],I 0],gh):=by
 have f:=si (gh:=gh) (N:Int) fu;rw[if_pos NW] at f;have d:=fZ st;have b:=jL a;have j:(gh++[GObj.cells (dcC m c fu)]).take gh.length=gh:=NX;unfold dcC at i j;rw[eq] at g h ⊢;simp only[ciV,LI,LsI] at *;generalize st.map I=S,(a.map λl=>PV.sl false 1 (l.map I))=T at *;refine ak (fn:=q5u) (s:=?J) rfl rfl (aa ?Z) ?Y
 case Z=>simp[qe9,q5u,qe8,g,f,h,i];rfl
 case Y=>simp[ag,results,q5u,ah,am,af,St.cellsAt,d,b]
theorem MU {s:List UInt8} {a:Int} (h:¬((1<=a/\a<=40)/\0<=fu/\fu<=1000000)):ac pg 397 [.str (bA s),I a,I fu] gh=some (.tup [.str (bA []),I 3],gh):=by
 have b:=si (gh:=gh) a fu;rw[if_neg h] at b;refine ak (fn:=qh) (s:=?J) rfl rfl (aa ?Z) ?Y
 case Z=>simp[q3b,qh,b];rfl
 case Y=>simp[ag,results,qh,ah,am,af];rfl
abbrev errW:List UInt8:=[101,114,114,111,114,32]
abbrev vI (n:Int):List UInt8:=errW++cm n++[10]
theorem MV {s:List UInt8} {n e:Int} {v:PV} (hr:(1<=N/\N<=40)/\0<=fu/\fu<=1000000) (g:ac pg 348 [.str (bA s)] gh=some (.tup [dn m,I n,I e],gh)) (k:e≠0) (hn:0<=n/\n<=3000000) :
  ac pg 397 [.str (bA s),I (N:Int),I fu] gh=some (.tup [.str (bA (vI n)),I 0],gh):=by
 have f:=si (gh:=gh) (N:Int) fu;rw[if_pos NW] at f;have j:=rZ (gh:=gh) (n:=n) NW NW;have p:=pp n;have i:=hQ (a:=errW) (b:=cm n) (by simp only[aV,cF];omega);have h:=hQ (a:=errW++cm n) (b:=[10]) (by simp only[aQ,aV,cF];omega);rw[eq] at g;have o:(⟨#[101,114,114,111,114,32]⟩:ByteArray)=bA errW:=rfl;have l:(⟨#[10]⟩:ByteArray)=bA [10]:=rfl;unfold vI;generalize errW++cm n++[10]=X at *;generalize errW++cm n=c at *;generalize cm n=d,errW=W at *;refine ak (fn:=qh) (s:=⟨[(6,.str (bA X)),(7,I 0)],[],gh⟩) rfl rfl (aa ?J) ?Z
 case J=>simp[q3b,qh,f,g,k,j,o,l,i,h]
 case Z=>simp[ag,results,qh,ah,am,af]
theorem MW {s:List UInt8} {D:Int} (hr:(1<=N/\N<=40)/\0<=fu/\fu<=1000000) (p:ac pg 348 [.str (bA s)] gh=some (.tup [dn m,I D,I 0],gh)) {e n:Int} {st:Oi} {ins:Oj} (k:ac pg 217 [dn m] gh=some (ciV c,gh))
  (o:ac pg 250 [Oe gh.length 0,I (N:Int)] (gh++[.cells (dcC m c fu)])=some (.agg [I e,I n,LI st,LsI ins],gh++[.cells (dcC m c fu)])) (h:pz e n st ins) :
  ac pg 397 [.str (bA s),I (N:Int),I fu] gh=some (.tup [.str (bA (sg e n st ins)),I 0],gh):=by
 have j:=si (gh:=gh) (N:Int) fu;rw[if_pos NW] at j;have F:=h.n;have y:=λG=>rZ (gh:=G) (n:=n) NW NW
 have B:=pp n;have A:=λG=>BQ (gh:=G) (st:=st) (ins:=ins) (λx u=>by have:=h.t.sb x u;omega) (λl B x u=>by have:=(h.t.ib l B).2 x u;omega) (by have:=h.t.il;omega)
 rw[Cz h.t] at A;have v:=CA h.t;have w:(gh++[GObj.cells (dcC m c fu)]).take gh.length=gh:=NX;have z:(⟨#[10]⟩:ByteArray)=bA [10]:=rfl;have hw:(fN e).length<=8:=by
  unfold fN;split
  ·simp
  ·split<;>simp
 have r:=hQ (a:=fN e) (b:=cm n) NW;have q:=hQ (a:=fN e++cm n) (b:=[10]) (by simp only[aQ,aV,cF];omega);have E:(fN e++cm n++[10]).length<=100:=by simp only[aQ,aV,cF];omega
 have C:=hQ (a:=fN e++cm n++[10]) (b:=jZ st ins) (cA (Nat.add_le_add E v) NY);rw[eq] at p k;unfold dcC at o;simp only[ciV,LI,LsI,jv] at *;generalize st.map I=S,(ins.map λl=>PV.sl false 1 (l.map I))=T at *;unfold sg;generalize jZ st ins=X,cm n=g at *;rw[<-aT (fN e)];rcases h.e with rfl|rfl|rfl
 ·rw[if_neg NY,bE,show fN 1=[115,97,102,101,32] from rfl] at *
  generalize i:([115,97,102,101,32]:List UInt8)=W at *;have M:(⟨#[115,97,102,101,32]⟩:ByteArray)=bA W:=i▸rfl;generalize W++g++[10]=f at *;refine ak (fn:=qh) (s:=⟨[(6,.str (bA f)),(7,I 0)],[],gh++[.cells (dcC m c fu)]⟩) rfl rfl (aa ?J) ?Z
  case J=>simp[q3b,qh,q5v,j,p,k,o,y,M,z,r,q,dcC]
  case Z=>simp[ag,results,qh,ah,am,af,w]
 ·rw[if_pos rfl,show fN 2=[117,110,115,97,102,101,32] from rfl] at *
  generalize i:([117,110,115,97,102,101,32]:List UInt8)=W at *;have L:(⟨#[117,110,115,97,102,101,32]⟩:ByteArray)=bA W:=i▸rfl;generalize W++g++[10]++X=d at *;generalize W++g++[10]=f at *;refine ak (fn:=qh) (s:=⟨[(6,.str (bA d)),(7,I 0)],[],gh++[.cells (dcC m c fu)]⟩) rfl rfl (aa ?Y) ?K
  case Y=>simp[q3b,qh,q5v,j,p,k,o,y,L,z,r,q,A,C,dcC]
  case K=>simp[ag,results,qh,ah,am,af,w]
 ·rw[if_neg NY,bE,show fN 3=[117,110,107,110,111,119,110,32] from rfl] at *
  generalize i:([117,110,107,110,111,119,110,32]:List UInt8)=W at *;have H:(⟨#[117,110,107,110,111,119,110,32]⟩:ByteArray)=bA W:=i▸rfl;generalize W++g++[10]=f at *;refine ak (fn:=qh) (s:=⟨[(6,.str (bA f)),(7,I 0)],[],gh++[.cells (dcC m c fu)]⟩) rfl rfl (aa ?V) ?W
  case V=>simp[q3b,qh,q5v,j,p,k,o,y,H,z,r,q,dcC]
  case W=>simp[ag,results,qh,ah,am,af,w]
end
end
section
open Go.RowKit
variable {s:List UInt8} {fu:Int} {N:Nat} {m:Md}
attribute [local congr] bu
attribute [local simp] au
theorem vR (x:List UInt8):(ByteArray.toList (bA x)==ByteArray.toList (bA x))=true:=by rw[BU];simp
theorem M6 {a:Int} (h:¬((1<=a/\a<=40)/\0<=fu/\fu<=1000000)):ac pg 396 [.str (bA s),I a,I fu] []=some (B true,[]):=by
 have c:=MU (gh:=[]) (s:=s) h;have f:=vO;have e:=vP;have d:=vQ;have b:(ByteArray.toList (bA [])==ByteArray.toList ByteArray.empty)=true:=vR [];refine ak (fn:=qm) (s:=⟨[(6,B true)],[],[]⟩) rfl rfl (aa ?J) ?Z
 case Z=>simp[ag,results,qm,ah,am,af]
 case J=>
  by_cases g:a<1
  ·simp[q1i,qm,f,e,d,c,g,b]
  by_cases i:40<a
  ·simp[q1i,qm,f,e,d,c,g,i,b]
  by_cases j:fu<0
  ·simp[q1i,qm,f,e,d,c,g,i,j,b]
  have k:1000000<fu:=NW;simp[q1i,qm,f,e,d,c,g,i,j,k,b]
theorem M7 {n e:Int} (hr:(1<=N/\N<=40)/\0<=fu/\fu<=1000000) (o:ac pg 348 [.str (bA s)] []=some (.tup [dn m,I n,I e],[])) (i:ac pg 370 [.str (bA s)] []=some (.tup [dn m,I n,I e],[])) (g:e≠0) (hn:0<=n/\n<=3000000) :
  ac pg 396 [.str (bA s),I (N:Int),I fu] []=some (B true,[]):=by
 have h:=MV (v:= .und) hr o g hn;have r:=vO;have q:=vP;have p:=vQ;have l:=BL (gh:=[]) (n:=n) NW NW;have A:=pp n;have k:=hQ (a:=errW) (b:=cm n) (by simp only[aV,cF];omega);have j:=hQ (a:=errW++cm n) (b:=[10]) (by simp only[aQ,aV,cF];omega);rw[eq] at i;have u:(⟨#[101,114,114,111,114,32]⟩:ByteArray)=bA errW:=rfl;have t:(⟨#[10]⟩:ByteArray)=bA [10]:=rfl;have z:¬(N:Int)<1:=NW;have y:¬(40:Int)<(N:Int):=NW;have x:¬fu<0:=NW;have w:¬1000000<fu:=NW;unfold vI at h;have f:=vR (errW++cm n++[10]);generalize errW++cm n++[10]=X at *;generalize errW++cm n=c at *;generalize cm n=d at *
 generalize errW=W at *;refine ak (fn:=qm) (s:=⟨[(6,B true)],[],[]⟩) rfl rfl (aa ?J) ?Z
 case Z=>simp[ag,results,qm,ah,am,af]
 case J=>simp[q1i,qm,r,q,p,h,i,z,y,x,w,g,l,u,t,k,j,f]
theorem M8 {P:Int} (hr:(1<=N/\N<=40)/\0<=fu/\fu<=1000000) (hP:ac pg 348 [.str (bA s)] []=some (.tup [dn m,I P,I 0],[])) (r:ac pg 370 [.str (bA s)] []=some (.tup [dn m,I P,I 0],[])) (k:dc m=0) :
  ac pg 396 [.str (bA s),I (N:Int),I fu] []=some (B true,[]):=by
 have hM:=Ah (m:=m) (gh:=[]) (by have:=(CE (kC k)).1;simp only[Sz];omega) (by have:=(CE (kC k)).2;simp only[Sz];omega);rw[k] at hM;obtain⟨c,hc,hd⟩:=KY k [];obtain⟨e,n,st,ins,i,j⟩:=Mk (G:=[.cells (dcC m c fu)]) (a:=0) (N:=N) (fu:=fu) k hd NW hr.2 rfl;have q:=MW (gh:=[]) (s:=s) hr hP hc i j;have u:=MT (gh:=[]) (R:= .und) hM hr hc i;have E:=vO;have D:=vP;have C:=vQ;have ad:=j.n;have A:=BL (gh:=[]) (n:=n) NW NW;have U:=pp n
 have Q:=BQ (gh:=[]) (st:=st) (ins:=ins) (λx y=>by have:=j.t.sb x y;omega) (λl U x y=>by have:=(j.t.ib l U).2 x y;omega) (by have:=j.t.il;omega);rw[Cz j.t] at Q;have z:=CA j.t;have F:(⟨#[10]⟩:ByteArray)=bA [10]:=rfl;have hw:(fN e).length<=8:=by
  unfold fN;split
  ·simp
  ·split<;>simp
 have w:=hQ (a:=cm n) (b:=[10]) (by simp only[aV,cF];omega);have v:=hQ (a:=fN e) (b:=cm n++[10]) (by simp only[aQ,aV,cF];omega);have hz:(fN e++(cm n++[10])).length<=100:=by simp only[aQ,aV,cF];omega
 have z3:=hQ (a:=fN e++(cm n++[10])) (b:=jZ st ins) (cA (Nat.add_le_add hz z) NY);have O:¬(N:Int)<1:=NW;have M:¬(40:Int)<(N:Int):=NW;have L:¬fu<0:=NW;have H:¬1000000<fu:=NW;have h:=vR (sg e n st ins);rw[eq] at r u;simp only[LI,LsI,jv] at *;generalize st.map I=S,(ins.map λl=>PV.sl false 1 (l.map I))=T at *;unfold sg at q h;generalize jZ st ins=X,cm n=g at *;refine ak (fn:=qm) (s:=⟨[(6,B true)],[],[]⟩) rfl rfl (aa ?J) ?Z
 case Z=>simp[ag,results,qm,ah,am,af]
 case J=>
  rcases j.e with rfl|rfl|rfl
  ·rw[if_neg NY,bE,show fN 1=[115,97,102,101,32] from rfl] at *
   generalize o:([115,97,102,101,32]:List UInt8)=W at *;have p:(⟨#[115,97,102,101,32]⟩:ByteArray)=bA W:=o▸rfl;generalize W++(g++[10])=f at *;generalize g++[10]=K2 at *;simp[q1i,qm,q62,q61,E,D,C,q,r,u,O,M,L,H,A,p,F,w,v,h]
  ·rw[if_pos rfl,show fN 2=[117,110,115,97,102,101,32] from rfl] at *
   generalize o:([117,110,115,97,102,101,32]:List UInt8)=W at *;have p:(⟨#[117,110,115,97,102,101,32]⟩:ByteArray)=bA W:=o▸rfl;generalize W++(g++[10])++X=d at *;generalize W++(g++[10])=f at *;generalize g++[10]=K2 at *;simp[q1i,qm,q62,q61,E,D,C,q,r,u,O,M,L,H,A,p,F,w,v,Q,z3,h]
  ·rw[if_neg NY,bE,show fN 3=[117,110,107,110,111,119,110,32] from rfl] at *
   generalize o:([117,110,107,110,111,119,110,32]:List UInt8)=W at *;have p:(⟨#[117,110,107,110,111,119,110,32]⟩:ByteArray)=bA W:=o▸rfl;generalize W++(g++[10])=f at *;generalize g++[10]=K2 at *;simp[q1i,qm,q62,q61,E,D,C,q,r,u,O,M,L,H,A,p,F,w,v,h]
theorem CN {c:CS} {p:PV} (h:lO (false,[c]) p):kS c p:=by obtain⟨q,d,e,b,a⟩:=yk h;cases yl a;simp only[List.cons.injEq,and_true] at e;subst e;exact b
abbrev CO:List (Bool×List CS):=[(false,[.str]),(false,[.int]),(false,[.int])]
theorem M9 (c:Ok) (h:im CO c) (hn:eJ c<=1048576):ac pg 396 c []=some (B true,[]):=by
 obtain⟨_,_,rfl,n,h⟩:=tF h;obtain⟨_,_,rfl,m,h⟩:=tF h;obtain⟨_,_,rfl,b,h⟩:=tF h;obtain rfl:=F3 h;obtain⟨a,rfl,-⟩:=yn (CN m);obtain⟨fu,rfl,-⟩:=yn (CN b);obtain⟨q,o,i,b,l⟩:=yk n;cases yl l;simp only[List.cons.injEq,and_true] at i;subst i;unfold kS at b;obtain⟨s,rfl,-⟩:=b;simp only[eJ] at hn;have k:gP (.str s)=s.size+1:=rfl;have d:s=bA s.data.toList:=rfl;have p:s.data.toList.length<=1048576:=by have:s.data.toList.length=s.size:=rfl;omega
 rw[d];by_cases hr:(1<=a/\a<=40)/\0<=fu/\fu<=1000000
 ·obtain⟨N,rfl⟩:∃N:Nat,a=N:=⟨a.toNat,NW⟩
  have f:=Mz (gh:=[]) (s:=s.data.toList) NW;have e:=MR (gh:=[]) (s:=s.data.toList) NW;rcases MS (s:=s.data.toList) NW with ⟨g,j⟩|⟨g,hn⟩
  ·rw[g] at f e
   exact M8 ⟨NW,hr.2⟩ f e j
  ·exact M7 ⟨NW,hr.2⟩ f e g hn
 ·exact M6 hr
end
end Go.Lw