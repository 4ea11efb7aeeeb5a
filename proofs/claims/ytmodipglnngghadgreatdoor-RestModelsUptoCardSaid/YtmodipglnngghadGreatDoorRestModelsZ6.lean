/-
  The texts that the proof stands on, part 32.
-/
import Derived.Test.YtmodipglnngghadGreatDoorRestModelsL
import Derived.Test.YtmodipglnngghadGreatDoorRestModelsQ
import Derived.Test.YtmodipglnngghadGreatDoorRestModelsS
import Derived.Test.YtmodipglnngghadGreatDoorRestModelsZ4
import Derived.Test.YtmodipglnngghadGreatDoorRestModelsZ5
import Derived.Lib.AtoiAllCases
set_option linter.unusedVariables false
set_option linter.unusedSimpArgs false
set_option linter.unnecessarySimpa false

set_option maxRecDepth 100000
set_option maxHeartbeats 4000000
namespace Go.Lw
open Go
section
variable {n:Int} {x:List UInt8}
attribute [local congr] bu
attribute [local simp] au
theorem B5:∀{a b:Nat},a<=b->(10:Int)^a<=10^b:=by
 intro a b h;have:=bQ (n:=10) bz h;have e:∀k:Nat,((10^k:Nat):Int)=(10:Int)^k:=λk=>bh
 rw[<-e,<-e];exact Int.ofNat_le.2 this
theorem B6:∀(j k u:Nat),u<10^(j+1)->u<10^(k+1)->ez (j+1) u=ez (k+1) u
 |0,k,u,a,_=>by
  have h:u<10:=by simpa using a
  rw[ez,if_pos h,ez,if_pos h]
 | j+1,k,u,a,b=>by
  rw[ez]
  conv=>rhs;rw[ez]
  by_cases h:u<10
  ·rw[if_pos h,if_pos h]
  ·rw[if_neg h,if_neg h]
   cases k with
   |zero=>simp at b;omega
   |succ k=>
    rw[B6 j k (u/10) (by rw[Nat.pow_succ] at a;omega) (by rw[Nat.pow_succ] at b;omega)]
theorem vA:∀(l:List UInt8) (n:Int) (b:UInt8),0<=n->fl n (l++[b])=if fl n l= -1 then -1 else if b.toNat<48\/57<b.toNat then -1 else 10*fl n l+b.toNat-48
 |[],n,b,h=>by
  have hn:¬(fl n []= -1):=by simp only[fl];omega
  rw[if_neg hn];simp only[bF,fl]
 | c::l,n,b,h=>by
  rw[bH];by_cases a:c.toNat<48\/57<c.toNat
  ·rw[mg a,mg a,if_pos rfl]
  ·rw[nD a,nD a]
   exact vA l _ b aj
theorem B7:∀(k u:Nat),u<10^(k+1)->fl 0 (ez (k+1) u)=(u:Int)
 | k,u,h=>by
  rw[ez];by_cases a:u<10
  ·rw[if_pos a]
   have c:(UInt8.ofNat (48+u)).toNat=48+u:=by simp;omega
   rw[nD aj];simp only[fl];omega
  ·rw[if_neg a]
   cases k with
   |zero=>simp at h;omega
   |succ k=>
    have b:=B7 k (u/10) (by rw[Nat.pow_succ] at h;omega);have c:(UInt8.ofNat (48+u%10)).toNat=48+u%10:=by simp;omega
    rw[vA _ _ _ aj,b,if_neg aj,if_neg aj];omega
theorem Mp:∀(k u:Nat),ez (k+1) u≠[]:=by intro k u;rw[ez];split<;>simp
theorem B8:∀(k u:Nat),0<u->u<10^(k+1)->∃b r,ez (k+1) u=b::r/\b≠48
 | k,u,d,h=>by
  rw[ez];by_cases c:u<10
  ·rw[if_pos c]
   refine⟨_,_,rfl,λe=>?_⟩;have a:(UInt8.ofNat (48+u)).toNat=48+u:=by simp;omega
   rw[e] at a;simp at a;omega
  ·rw[if_neg c]
   cases k with
   |zero=>simp at h;omega
   |succ k=>
    obtain⟨b,r,e,a⟩:=B8 k (u/10) aj (by rw[Nat.pow_succ] at h;omega);exact⟨b,r++_,by rw[e];rfl,a⟩
theorem vB (h:0<=n):kp n=ez 20 n.toNat:=by unfold kp;rw[if_neg aj]
theorem Mq (i:0<=n) (k:n<10000000000) (j:(kp n).length<=9):bp (kp n)=n:=by
 rw[vB i] at *;have c:n.toNat<10^20:=aO (by omega:n.toNat<10000000000) bz;have f:=B7 19 n.toNat c;unfold bp;rw[if_neg,f]
 ·omega
 ·rintro (h|h|⟨h,a⟩)
  ·exact Mp 19 _ h
  ·omega
  ·by_cases d:n.toNat=0
   ·rw[d] at h;simp[ez] at h
   ·obtain⟨b,r,e,g⟩:=B8 19 n.toNat aj c
    rw[e] at a;simp at a;exact g a
theorem B9:∀(m:Nat) (l:List UInt8),l.length=m+1->m<=18->0<=fl 0 l->(m=0\/l.head?≠some 48)->ez 20 (fl 0 l).toNat=l/\fl 0 l<10^(m+1)/\(l.head?≠some 48->0<fl 0 l)
 | 0, l,k,_,j,_=>by
  match l,k with
  | [b],_=>
   by_cases o:b.toNat<48\/57<b.toNat
   ·rw[mg o] at j;omega
   ·rw[nD o]
    simp only[fl];have x:(10*0+(b.toNat:Int)-48).toNat=b.toNat-48:=aj;refine⟨?_,aj,λi=>?_⟩
    ·rw[x,ez,if_pos aj]
     have:UInt8.ofNat (48+(b.toNat-48))=b:=by apply UInt8.toNat_inj.1;simp;omega
     rw[this]
    ·have:b.toNat≠48:=λe=>i (by simp;apply UInt8.toNat_inj.1;simpa using e)
     omega
 | m+1,l,k,A,j,i=>by
  have i:l.head?≠some 48:=i.resolve_left aj;obtain⟨q,b,rfl⟩:∃q b,l=q++[b]:=⟨l.dropLast,l.getLast (by intro e;simp[e] at k),(List.dropLast_concat_getLast _).symm⟩
  have s:q.length=m+1:=by simp at k;omega
  have d:q.head?≠some 48:=by
   match q,s with
   |c::q,_=>simpa using i
  rw[vA _ _ _ aj] at j ⊢;split at j
  ·omega
  rename_i f;split at j
  ·omega
  rename_i o;rw[if_neg f,if_neg o];have p:0<=fl 0 q:=by have:=vz (r:=q) (n:=0) aj f;simpa using this
  obtain⟨z,E,t⟩:=B9 m q s aj p (.inr d);have t:=t d;generalize fl 0 q=v at *;have u:(10*v+(b.toNat:Int)-48).toNat=10*v.toNat+(b.toNat-48):=aj;have g:(10:Int)^(m+1+1)=10*10^(m+1):=by rw[Int.pow_succ];omega
  refine⟨?_,by rw[g];omega,λ_=>aj⟩;rw[u,ez,if_neg aj];have y:(10*v.toNat+(b.toNat-48))/10=v.toNat:=aj;have h:(10*v.toNat+(b.toNat-48))%10=b.toNat-48:=aj;have a:v.toNat<10^(18+1):=by have D:(10:Int)^(m+1)<=10^18:=B5 aj;have C:(10:Int)^18=1000000000000000000:=bz;have B:(10:Nat)^(18+1)=10000000000000000000:=bz;omega
  have w:=B6 18 19 v.toNat a (Nat.lt_trans a bz);rw[y,h,w,z];have:UInt8.ofNat (48+(b.toNat-48))=b:=by apply UInt8.toNat_inj.1;simp;omega
  rw[this]
theorem Ca (a:0<=bp x):x=kp (bp x)/\bp x<1000000000/\x.length<=9:=by
 unfold bp at a ⊢;split at a
 ·omega
 rename_i b;rw[if_neg b];simp only[not_or,not_and] at b;obtain⟨g,n,f⟩:=b;have i:x.length≠0:=λe=>g (List.eq_nil_of_length_eq_zero e)
 obtain⟨m,c⟩:∃m,x.length=m+1:=⟨x.length-1,aj⟩
 obtain⟨d,l,-⟩:=B9 m x c aj a (by
  by_cases h:m=0
  ·exact .inl h
  ·exact .inr (f aj))
 refine⟨by rw[vB a,d],?_,aj⟩;have k:(10:Int)^(m+1)<=10^9:=B5 aj;have j:(10:Int)^9=1000000000:=bz;omega
theorem Cc:∀(l:List UInt8) (a:Nat),a<1000000000000000000->∀v,0<=v->fl (a:Int) l=v->v<1000000000000000000->Lib.parseUint10 a l= .ok v.toNat
 |[],a,_,v,f,h,_=>by
  simp only[fl] at h;simp only[Lib.parseUint10]
  congr
  omega
 | c::r,a,ha,v,f,h,g=>by
  by_cases d:c.toNat<48\/57<c.toNat
  ·rw[mg d] at h;omega
  ·rw[nD d] at h
   have e:(10*(a:Int)+c.toNat-48)=((a*10+(c.toNat-48):Nat):Int):=aj;rw[e] at h;have i:=vz (r:=r) (n:=((a*10+(c.toNat-48):Nat):Int)) aj aj;have j:(1:Int)<=10^r.length:=Int.pow_pos bz;have k:((a*10+(c.toNat-48):Nat):Int)*1<=((a*10+(c.toNat-48):Nat):Int)*10^r.length:=Int.mul_le_mul_of_nonneg_left j aj;have b:a*10+(c.toNat-48)<1000000000000000000:=aj;rw[Lib.parseUint10,if_pos aj,if_neg aj,if_neg aj];exact Cc r _ b v f h g
theorem Om (a:0<=bp x):Lib.atoiAll x= .ok (bp x):=by
 obtain⟨-,d,h⟩:=Ca a;unfold bp at *;split at a
 ·omega
 rename_i b;rw[if_neg b] at d ⊢;simp only[not_or,not_and] at b;obtain⟨g,-,-⟩:=b
 match x,g with
 |c::r,_=>
  have i:¬(c.toNat<48\/57<c.toNat):=λf=>by rw[mg f] at a;omega
  have e:=Cc (c::r) 0 bz (fl 0 (c::r)) a rfl aj;generalize fl 0 (c::r)=v at *;unfold Lib.atoiAll;simp only;rw[if_neg aj];unfold Lib.parseMag;rw[if_neg bh,e];simp only;rw[if_neg aj,if_neg aj,if_neg aj]
  congr
  omega
theorem Cd:∀(k u:Nat),u<10^(k+1)->u<10^(ez (k+1) u).length
 | k,u,h=>by
  rw[ez];by_cases a:u<10
  ·rw[if_pos a];simpa using a
  ·rw[if_neg a]
   cases k with
   |zero=>simp at h;omega
   |succ k=>
    have b:=Cd k (u/10) (by rw[Nat.pow_succ] at h;omega);rw[aQ,List.length_singleton,Nat.pow_succ];omega
theorem Mr {v:Int} (b:0<=v) (g:v<=9223372036854775807) (a:x.length<=9) (c:kp v=x):bp x=v:=by subst c;have d:=Cd 19 v.toNat (Nat.lt_of_le_of_lt (by omega:v.toNat<=9223372036854775807) bz);rw[<-vB b] at d;have e:10^(kp v).length<=10^9:=bQ bz a;have f:(10:Nat)^9=1000000000:=bz;exact Mq b aj a
end
section
attribute [local congr] bu
attribute [local simp] au
def eZ:List (List UInt8)->Option fq
 |[]=>some []
 |x::r=>if 0<=bp x then (eZ r).map (bp x:: ·) else none
theorem Ch:∀{l:List (List UInt8)} {v:fq},eZ l=some v->v.length=l.length
 |[],v,h=>by cases h;rfl
 | x::r,v,h=>by
  rw[eZ] at h;split at h
  ·simp only[aE] at h
   obtain⟨u,a,rfl⟩:=h;simp[Ch a]
  ·cases h
def dV (w:List UInt8):List (List UInt8)->Int->Int
 |[],_=> -1
 |x::l,i=>if w=x then i else dV w l (i+1)
section
variable {gh:fB}
theorem Cj {x:List UInt8} (j:x.length<=3000000):∃v:Int,ac pg 365 [.str (bA x)] gh=some (.tup [I v,B (decide (0<=bp x))],gh)/\(0<=bp x->v=bp x):=by
 have b:=λG=>Mm (gh:=G) j
 have i:((bA x).size:Nat)=x.length:=gS x;have k:(ByteArray.toList (bA x))=(ByteArray.toList (bA x)):=rfl;cases ha:Lib.atoiAll x with
 | ok v=>
  rw[ha] at b;simp only at b;have hr:=Ml ha;have l:=λG=>rZ (gh:=G) (n:=v) hr.1 hr.2
  refine⟨v,?_,λh=>?_⟩
  ·have f:(decide (0<=v)&&(decide (x.length<=9)&&decide (kp v=x)))=decide (0<=bp x):=by
    by_cases a:0<=bp x
    ·have c:=Om a
     rw[ha] at c;injection c with c
     obtain⟨p,q,o⟩:=Ca a;rw[aG a,aG aj,aG o,aG (by rw[c];exact p.symm)];rfl
    ·rw[aF a]
     by_cases d:0<=v
     ·by_cases e:x.length<=9
      ·by_cases g:kp v=x
       ·exact absurd (by rw[Mr d hr.2 e g];exact d) a
       ·rw[aF g];simp
      ·rw[aF e];simp
     ·rw[aF d];rfl
   refine ak (fn:=q1g) (s:=⟨[(2,I v),(3,B (decide (0<=bp x)))],[],gh⟩) rfl rfl (bg ?J) ?Z
   case J=>
    rw[<-f];have m:(kp v==x)=decide (kp v=x):=by by_cases h:kp v=x<;>simp[h]
    generalize kp v=y at *;simp[q7y,q1g,b,i];by_cases d:0<=v
    ·by_cases e:x.length<=9
     ·simp[d,e,show ((x.length:Nat):Int)<=9 by omega,l,m]
     ·simp[d,e,show ¬((x.length:Nat):Int)<=9 by omega]
    ·simp[d]
   case Z=>simp[ag,results,q1g,ah,am,af]
  ·have c:=Om h
   rw[ha] at c;injection c
 | range=>
  rw[ha] at b;simp only at b;have a:¬0<=bp x:=λh=>by rw[Om h] at ha;cases ha
  refine⟨Lib.atoiSat x,?_,λh=>absurd h a⟩;rw[aF a];refine ak (fn:=q1g) (s:=⟨[(2,I (Lib.atoiSat x)),(3,B false)],[],gh⟩) rfl rfl (bg ?Y) ?K
  case Y=>
   simp[q7y,q1g,b]
  case K=>simp[ag,results,q1g,ah,am,af]
 | _=>
  rw[ha] at b;simp only at b;have a:¬0<=bp x:=λh=>by rw[Om h] at ha;cases ha
  refine⟨0,?_,λh=>absurd h a⟩;rw[aF a];refine ak (fn:=q1g) (s:=⟨[(2,I 0),(3,B false)],[],gh⟩) rfl rfl (bg ?V) ?W
  case V=>
   simp[q7y,q1g,b]
  case W=>simp[ag,results,q1g,ah,am,af]
theorem Ck {many:Int} {b:List (List UInt8)} (p:∀x∈b,x.length<=3000000) (t:b.length<=3000000):∀(k i:Nat) (a:fq),i+k=b.length->a.length+k<=3000000->
  bm pg qg9 ⟨[(1,I many),(6,dz (a.map I)),(11,cr (SL8 b)),(12,I b.length),(13,I (i:Int))],[],gh⟩=
   match eZ (b.drop i) with
   |some v=>fg ⟨[(1,I many),(6,dz ((a++v).map I))],[],gh⟩
   |none=>fo ⟨[(4,dz []),(5,B false)],[],gh⟩
 |0,i,a,h,_=>by
  have c:¬(i:Int)<(b.length:Int):=aj;rw[aM aj,eZ];refine (bn (s1:=?J) (bg ?Z)).trans ?Y
  case Z=>simp[q7x,c];rfl
  case Y=>simp[keep,bj]
 | k+1,i,a,h,ha=>by
  have c:i<b.length:=aj;have f:(i:Int)<(b.length:Int):=aj;have w:WI.wrap ((i:Int)+1)=((i+1:Nat):Int):=by rw[aq aj aj];omega
  have o:(SL8 b)[i]?=some (.str (bA b[i])):=by simp[aA c]
  have hr:=p _ (cD c);rw[aJ c,eZ];generalize b[i]=x at *;obtain⟨v,j,l⟩:=Cj (gh:=gh) hr;have q:=aG f;by_cases g:0<=bp x
  ·obtain rfl:=l g
   rw[if_pos g];rw[aG g] at j;have e:=Ck (many:=many) p t k (i+1) (a++[bp x]) aj (by simp;omega);generalize bp x=u at *;have d:(a.length+1)*8<=maxBytes:=cC (by omega:(a.length+1)*8<=24000000) bz
   have n:(match (eZ (b.drop (i+1))).map (u:: ·) with
    |some v=>fg ⟨[(1,I many),(6,dz ((a++v).map I))],[],gh⟩
    |none=>fo ⟨[(4,dz []),(5,B false)],[],gh⟩)=(match eZ (b.drop (i+1)) with
    |some v=>fg ⟨[(1,I many),(6,dz (((a++[u])++v).map I))],[],gh⟩
    |none=>fo ⟨[(4,dz []),(5,B false)],[],gh⟩):=by
    cases eZ (b.drop (i+1)) with
    |none=>rfl
    |some v=>simp
   refine Eq.trans ?_ n.symm;generalize SL8 b=s at *;refine ay (bg (r:=some (_,⟨[(1,I many),(6,dz ((a++[u]).map I)),(11,cr s),(12,I b.length),(13,I ((i+1:Nat):Int))],[],gh⟩)) ?K) e
   case K=>
    generalize ((i+1:Nat):Int)=T,(b.length:Int)=N at *;have m:(a.map I).length=a.length:=aW _;rw[<-m] at d;rw[bI];generalize a.map I=A at *;simp[q7x,q,o,j,d,w]
  ·rw[if_neg g]
   rw[aF g] at j;generalize SL8 b=s at *;refine (cx (bg (r:=some (_,⟨[(4,dz []),(5,B false)],[],gh⟩)) ?V)).trans ?W
   case V=>
    generalize (b.length:Int)=N,a.map I=A at *;simp[q7x,q,o,j]
   case W=>rfl
theorem Cl {many:Int} {xs:List (List UInt8)} (f:∀x∈xs,x.length<=3000000) (g:xs.length<=3000000) :
  ac pg 362 [cr (SL8 xs),I many] gh=some (.tup [LI ((eZ xs).getD []),B (match eZ xs with|some v=>decide ((v.length:Int)=many)|none=>false)],gh):=by
 have h:=Ck (gh:=gh) (many:=many) f g xs.length 0 [] aj (by simp;omega);rw[bJ] at h;have b:(SL8 xs).length=xs.length:=aW _;rw[<-b] at h;generalize SL8 xs=j at *;simp only[aR,bU] at h;cases hn:eZ xs with
 |none=>
  rw[hn] at h;simp only at h;refine ak (fn:=q2w) (s:=⟨[(4,dz []),(5,B false)],[],gh⟩) rfl rfl (bg ?J) ?Z
  case J=>simp[qc7,q2w,h]
  case Z=>simp[ag,results,q2w,ah,am,af]
 | some v=>
  rw[hn] at h;simp only[bF] at h;have d:=Ch hn;have i:bm pg qc6 ⟨[(1,I many),(6,dz (v.map I))],[],gh⟩=fo ⟨[(4,cr (v.map I)),(5,B (decide ((v.length:Int)=many)))],[],gh⟩:=by refine bg ?_;have c:(v.map I).length=v.length:=aW _;have e:((v.length:Int)==many)=decide ((v.length:Int)=many):=rfl;rw[<-c] at e ⊢;generalize v.map I=a at *;simp[qc6,e]
  refine ak (fn:=q2w) (s:=⟨[(4,cr (v.map I)),(5,B (decide ((v.length:Int)=many)))],[],gh⟩) rfl rfl (bg ?Y) ?K
  case Y=>simp[qc7,q2w,h,i]
  case K=>simp[ag,results,q2w,ah,am,af,wl]
theorem Cm {w:List UInt8} {a:List (List UInt8)} {o:Bool} (l:a.length<=3000000):∀(k i:Nat),i+k=a.length->
  bm pg qeo ⟨[(0,cr (SL8 a)),(1,.str (bA w)),(7,I a.length),(8,I (i:Int))],[],gh⟩=
   if dV w (a.drop i) i= -1 then fg ⟨[],[],gh⟩ else fo ⟨[(4,I (dV w (a.drop i) i))],[],gh⟩
 |0,i,h=>by
  have b:¬(i:Int)<(a.length:Int):=aj;rw[aM aj,dV,if_pos rfl];refine (bn (s1:=?J) (bg ?Z)).trans ?Y
  case Z=>simp[q6a,b];rfl
  case Y=>simp[keep]
 | k+1,i,h=>by
  have b:i<a.length:=aj;have d:(i:Int)<(a.length:Int):=aj;have m:WI.wrap ((i:Int)+1)=((i+1:Nat):Int):=by rw[aq aj aj];omega
  have f:(SL8 a)[i]?=some (.str (bA a[i])):=by simp[aA b]
  rw[aJ b,dV];generalize a[i]=x at *;have g:=aG d;by_cases hw:w=x
  ·rw[if_pos hw,if_neg aj]
   have e:(w==x)=true:=by simp[hw]
   generalize SL8 a=j at *;refine cx (bg (r:=some (_,⟨[(4,I (i:Int))],[],gh⟩)) ?K)
   case K=>
    generalize (a.length:Int)=N at *;simp[q6a,g,f,e]
  ·rw[if_neg hw]
   have e:(w==x)=false:=by simp[hw]
   have c:=Cm (w:=w) (o:=o) l k (i+1) aj;rw[show ((i:Int)+1)=((i+1:Nat):Int) by omega];generalize SL8 a=j at *;refine ay (bg (r:=some (_,⟨[(0,cr j),(1,.str (bA w)),(7,I a.length),(8,I ((i+1:Nat):Int))],[],gh⟩)) ?V) c
   case V=>
    generalize ((i+1:Nat):Int)=T,(a.length:Int)=N at *;simp[q6a,g,f,e,m]
theorem Cn {w:List UInt8} {xs:List (List UInt8)} (d:xs.length<=3000000):ac pg 360 [cr (SL8 xs),.str (bA w)] gh=some (I (dV w xs 0),gh):=by
 have h:=Cm (gh:=gh) (w:=w) (o:=false) d xs.length 0 aj;rw[bJ] at h;have a:(SL8 xs).length=xs.length:=aW _;rw[<-a] at h;generalize SL8 xs=f at *;simp only[aR] at h;by_cases b:dV w xs 0= -1
 ·rw[if_pos b] at h
  rw[b];have e:bm pg q6b ⟨[],[],gh⟩=fo ⟨[(4,I (-1))],[],gh⟩:=bg (c:=q6b) (s:=⟨[],[],_⟩) (by simp[q6b]<;>rfl);refine ak (fn:=q2b) (s:=⟨[(4,I (-1))],[],gh⟩) rfl rfl (bg ?J) ?Z
  case J=>simp[q9t,q2b,h,e]
  case Z=>simp[ag,results,q2b,ah,am,af]
 ·rw[if_neg b] at h
  refine ak (fn:=q2b) (s:=⟨[(4,I (dV w xs 0))],[],gh⟩) rfl rfl (bg ?Y) ?K
  case Y=>simp[q9t,q2b,h]
  case K=>simp[ag,results,q2b,ah,am,af]
end
end
section
attribute [local congr] bu
attribute [local simp] au
def fh (m:Md) (r:Int):GObj:= .cells [.sl true 6 (m.nodes.map nodeV),.sl true 2 (m.inits.map andV),.sl true 2 (m.nexts.map andV),dz (m.bads.map I),dz (m.holds.map I),I r]
def Gr (b:fB) (m:Md) (r:Int) (a:fB):fB:=b++fh m r::a
def de (w:List UInt8):Int:=dV w (wordsL.drop 1) 0+1
def ch (k:Int):Int:=1+ar k+(if k=1\/k=21 then 1 else 0)
def iS (k:Int) (v:fq):Nd:=⟨k,v.getD 0 0,if 0<ar k then v.getD 1 0 else 0,if 1<ar k then v.getD 2 0 else 0,if 2<ar k then v.getD 3 0 else 0,if k=1\/k=21 then v.getD (ch k-1).toNat 0 else 0⟩
def jx (m:Md) (r:Int):List (List UInt8)->Option Nd
 | w::u::rest=>
  if bp w=(m.nodes.length:Int)/\r<=0/\de u≠0 then
   match eZ rest with
   |some v=>if (v.length:Int)=ch (de u) then some (iS (de u) v) else none
   |none=>none
  else none
 |_=>none
theorem On (m:Md) (r:Int) (w u:List UInt8) (rest:List (List UInt8)):jx m r (w::u::rest)=if bp w=(m.nodes.length:Int)/\r<=0/\de u≠0 then
   match eZ rest with
   |some v=>if (v.length:Int)=ch (de u) then some (iS (de u) v) else none
   |none=>none
  else none:=rfl
theorem vC (w:List UInt8):∀(l:List (List UInt8)) (i:Int),dV w l i= -1\/(i<=dV w l i/\dV w l i<i+l.length)
 |[],i=> .inl rfl
 | x::l,i=>by
  rw[dV];split
  ·right;simp;omega
  ·rcases vC w l (i+1) with h|h
   ·exact .inl h
   ·right;simp;omega
theorem Co (w:List UInt8):0<=de w/\de w<24:=by have h:=vC w (wordsL.drop 1) 0;have e:(wordsL.drop 1).length=23:=rfl;unfold de;omega
section
variable {gh J:fB} {m:Md} {r:Int}
theorem vD:(Gr gh m r J)[gh.length]?=some (fh m r):=by simp[Gr]
abbrev nst (g:Nat) (L:Nat) (k a t:Int) (i:Nat) (v:fq) (G:fB) (b:fw):St:=
 ⟨[(0,fc g 0),(7,I k),(8,I a),(9,cr (v.map I)),(10,fc L 0),(11,dz [fc L 2,fc L 3,fc L 4]),(79,I t),(80,I (i:Int))],[],G++[.cells b]⟩
theorem Oo {g:Nat} {k many t:Int} {i:Nat} {v:fq} {G:fB} {cs:fw} (h:¬(i:Int)<t) :
  bm pg q4p (nst g G.length k many t i v G cs)=fg ⟨[(0,fc g 0),(7,I k),(8,I many),(9,cr (v.map I)),(10,fc G.length 0)],[],G++[.cells cs]⟩:=by
 refine (bn (s1:=?J) (bg ?Z)).trans ?Y
 case Z=>simp[q4o,h];rfl
 case Y=>simp[keep,bj]
theorem nE {g:Nat} {k many t w a b c n:Int} {i:Nat} {v:fq} {G:fB} {s:gq} (h:(i:Int)<t) (B:i<3) (r:i+1<v.length)
  (hr:bm pg q4p (nst g G.length k many t (i+1) v G [I k,I w,if i=0 then I v[i+1] else I a,if i=1 then I v[i+1] else I b,if i=2 then I v[i+1] else I c,I n])=s) (u:s.isSome=true) :
  bm pg q4p (nst g G.length k many t i v G [I k,I w,I a,I b,I c,I n])=s:=by
 obtain⟨s,rfl⟩:=Option.isSome_iff_exists.1 u;have C:=aG h;have l:(v.map I)[i+1]?=some (I v[i+1]):=by simp[aA r]
 have E:WI.wrap (1+(i:Int))=((i+1:Nat):Int):=by rw[aq aj aj];omega
 have D:WI.wrap ((i:Int)+1)=((i+1:Nat):Int):=by rw[aq aj aj];omega
 refine ay (bg ?J) hr
 case J=>
  unfold nst;have f:∀x:PV,(G++[GObj.cells [I k,I w,I a,I b,I c,I n]])[G.length]?=some (.cells [I k,I w,I a,I b,I c,I n]):=λ_=>bh
  have q:∀y:GObj,(G++[GObj.cells [I k,I w,I a,I b,I c,I n]]).set G.length y=G++[y]:=λ_=>bh
  generalize v[i+1]=z,v.map I=d at *;have f:=f (I 0);generalize G++[GObj.cells [I k,I w,I a,I b,I c,I n]]=F at *;have A:i=0\/i=1\/i=2:=aj;have j:WI.wrap 1=1/\WI.wrap 2=2/\WI.wrap 3=3:=bz;have p:i=0->(0:Int)<t:=λe=>by subst e;exact h
  have o:i=1->(1:Int)<t:=λe=>by subst e;exact h
  have m:i=2->(2:Int)<t:=λe=>by subst e;exact h
  rcases A with rfl|rfl|rfl
  ·simp[q4o,p rfl,j,l,f,q,au,PV.cells]
  ·simp[q4o,o rfl,j,l,f,q,au,PV.cells]
  ·simp[q4o,m rfl,j,l,f,q,au,PV.cells]
theorem Mt {g:Nat} {k many w:Int} {v:fq} {G:fB} (o:ar k+1<=(v.length:Int)) :
  bm pg q4p (nst g G.length k many (ar k) 0 v G [I k,I w,I 0,I 0,I 0,I 0])=fg ⟨[(0,fc g 0),(7,I k),(8,I many),(9,cr (v.map I)),(10,fc G.length 0)],[],G++[.cells [I k,I w,I (if 0<ar k then v.getD 1 0 else 0),I (if 1<ar k then v.getD 2 0 else 0),I (if 2<ar k then v.getD 3 0 else 0),I 0]]⟩:=by
 have m:=gD k;generalize ar k=t at *;have e:∀(j:Nat) (h:j<v.length),v.getD j 0=v[j]:=λj h=>by rw[aK,aA h];rfl
 rcases m with rfl|rfl|rfl|rfl
 ·exact Oo aj
 ·have d:1<v.length:=aj
  rw[e 1 d];exact nE (i:=0) aj aj d (by simpa using Oo (g:=g) (k:=k) (many:=many) (t:=1) (i:=1) (v:=v) (G:=G) (cs:=[I k,I w,I v[1],I 0,I 0,I 0]) aj) rfl
 ·have d:1<v.length:=aj
  have f:2<v.length:=aj;rw[e 1 d,e 2 f];exact nE (i:=0) aj aj d (by simpa using nE (g:=g) (k:=k) (many:=many) (t:=2) (w:=w) (a:=v[1]) (b:=0) (c:=0) (n:=0) (i:=1) (v:=v) (G:=G) aj aj f (by simpa using Oo (g:=g) (k:=k) (many:=many) (t:=2) (i:=2) (v:=v) (G:=G) (cs:=[I k,I w,I v[1],I v[2],I 0,I 0]) aj) rfl) rfl
 ·have d:1<v.length:=aj
  have f:2<v.length:=aj;have l:3<v.length:=aj;rw[e 1 d,e 2 f,e 3 l];exact nE (i:=0) aj aj d (by simpa using nE (g:=g) (k:=k) (many:=many) (t:=3) (w:=w) (a:=v[1]) (b:=0) (c:=0) (n:=0) (i:=1) (v:=v) (G:=G) aj aj f (by simpa using nE (g:=g) (k:=k) (many:=many) (t:=3) (w:=w) (a:=v[1]) (b:=v[2]) (c:=0) (n:=0) (i:=2) (v:=v) (G:=G) aj aj l (by simpa using Oo (g:=g) (k:=k) (many:=many) (t:=3) (i:=3) (v:=v) (G:=G) (cs:=[I k,I w,I v[1],I v[2],I v[3],I 0]) aj) rfl) rfl) rfl
def eC (m:Md) (x:Nd):Md:={m with nodes:=m.nodes++[x] }
theorem Cp {x:Nd} (p:m.nodes.length<=20000) :
  bm pg qc5 ⟨[(0,fc gh.length 0),(10,fc (Gr gh m r J).length 0)],[],Gr gh m r J++[.cells (nC x)]⟩=fo ⟨[(4,B true)],[],Gr gh (eC m x) r (J++[.cells (nC x)])⟩:=by
 refine bg ?_;have i:Gr gh m r J++[.cells (nC x)]=gh++fh m r::(J++[.cells (nC x)]):=by simp[Gr]
 have h:Gr gh (eC m x) r (J++[.cells (nC x)])=gh++fh (eC m x) r::(J++[.cells (nC x)]):=rfl;have g:∀y:GObj,(gh++y::(J++[.cells (nC x)]))[gh.length]?=some y:=λy=>bh
 have d:∀y:GObj,(gh++y::(J++[.cells (nC x)]))[(Gr gh m r J).length]?=some (.cells (nC x)):=λy=>by
  have:(Gr gh m r J).length=gh.length+(J.length+1):=by simp[Gr]
  rw[this,aN aj];simp
 have f:∀y z:GObj,(gh++y::(J++[.cells (nC x)])).set gh.length z=gh++z::(J++[.cells (nC x)]):=λy z=>bh
 have a:(m.nodes.length+1)*48<=maxBytes:=cC (by omega:(m.nodes.length+1)*48<=20001*48) bz;have c:(m.nodes.map nodeV).length=m.nodes.length:=aW _;rw[i,h];obtain⟨q,e⟩:∃q:GObj->fB,q=λy=>gh++y::(J++[.cells (nC x)]):=⟨_,rfl⟩
 have b:∀y,gh++y::(J++[.cells (nC x)])=q y:=λy=>by rw[e]
 simp only[b] at g d f ⊢;clear e b i h;generalize (Gr gh m r J).length=L at *;have j:fh (eC m x) r= .cells [.sl true 6 (m.nodes.map nodeV++[nodeV x]),.sl true 2 (m.inits.map andV),.sl true 2 (m.nexts.map andV),dz (m.bads.map I),dz (m.holds.map I),I r]:=by simp[fh,eC]
 rw[j];unfold fh;unfold nC at d;rw[<-c] at a;rw[dT];generalize m.nodes.map nodeV=s at *;generalize m.inits.map andV=o;generalize m.nexts.map andV=n;generalize m.bads.map I=l;generalize m.holds.map I=k;simp[qc5,g,d,f,au,dD,a,aw]
theorem Mu {k many w a b c:Int} {v:fq} (n:m.nodes.length<=20000) (p:many=ch k) (A:(v.length:Int)=ch k) :
  bm pg q7w ⟨[(0,fc gh.length 0),(7,I k),(8,I many),(9,cr (v.map I)),(10,fc (Gr gh m r J).length 0)],[],Gr gh m r J++[.cells [I k,I w,I a,I b,I c,I 0]]⟩=
   fo ⟨[(4,B true)],[],Gr gh (eC m ⟨k,w,a,b,c,if k=1\/k=21 then v.getD (ch k-1).toNat 0 else 0⟩) r (J++[.cells (nC ⟨k,w,a,b,c,if k=1\/k=21 then v.getD (ch k-1).toNat 0 else 0⟩)])⟩:=by
 have o:=λG=>Ce (gh:=G) k
 have C:=gD k;refine bg ?_;by_cases h:k=1\/k=21
 ·have f:=Cp (gh:=gh) (J:=J) (r:=r) (x:=⟨k,w,a,b,c,v.getD (ch k-1).toNat 0⟩) n
  rw[if_pos h];have hw:ch k=2+ar k:=by unfold ch;rw[if_pos h];omega
  have t:WI.wrap (many-1)=ch k-1:=by rw[p,aq aj aj]
  have g:(ch k-1).toNat<v.length:=aj;have q:(v.map I)[(ch k-1).toNat]?=some (I (v.getD (ch k-1).toNat 0)):=by rw[aB,aA g,aK,aA g];rfl
  have D:(0:Int)<=ch k-1:=aj;have j:(Gr gh m r J++[GObj.cells [I k,I w,I a,I b,I c,I 0]])[(Gr gh m r J).length]?=some (.cells [I k,I w,I a,I b,I c,I 0]):=bh;have i:∀y:GObj,(Gr gh m r J++[GObj.cells [I k,I w,I a,I b,I c,I 0]]).set (Gr gh m r J).length y=Gr gh m r J++[y]:=λy=>bh
  have e:=aG h;generalize v.getD (ch k-1).toNat 0=z at *;generalize s:(ch k-1).toNat=N,v.map I=d,Gr gh m r J++[GObj.cells [I k,I w,I a,I b,I c,I 0]]=E,decide (k=1\/k=21)=u at *;subst e;unfold nC at f;simp only at f;have l:(1:Int)<=ch k:=aj;simp[q7w,t,o,q,l,s,j,i,au,f]
 ·have f:=Cp (gh:=gh) (J:=J) (r:=r) (x:=⟨k,w,a,b,c,0⟩) n
  rw[if_neg h];have e:=aF h;generalize v.map I=d,decide (k=1\/k=21)=u at *;subst e;unfold nC at f;simp only at f;simp[q7w];simp[o,f]
theorem Mv {k:Int} {ws:List (List UInt8)} (L:m.nodes.length<=20000) (F:∀x∈ws,x.length<=3000000) (C:ws.length<=3000000) (R:2<=ws.length) :
  ∃O,bm pg q3n ⟨[(0,fc gh.length 0),(1,cr (SL8 ws)),(7,I k),(8,I (ch k))],[],Gr gh m r J⟩=
   match (match eZ (ws.drop 2) with|some v=>if (v.length:Int)=ch k then some (iS k v) else none|none=>none) with
   |some x=>fo ⟨[(4,B true)],[],Gr gh (eC m x) r O⟩
   |none=>fo ⟨[(4,B false)],[],Gr gh m r J⟩:=by
 have h:=Cl (gh:=Gr gh m r J) (many:=ch k) (xs:=ws.drop 2) (λx A=>F x (List.mem_of_mem_drop A)) (by simp;omega);have Q:=gD k;have i:(SL8 ws).drop 2=SL8 (ws.drop 2):=(List.map_drop ..).symm;have E:(SL8 ws).length=ws.length:=aW _;cases hn:eZ (ws.drop 2) with
 |none=>
  refine⟨J,?_⟩;rw[hn] at h;simp only[Option.getD_none,LI,bU] at h ⊢;refine bg ?_;generalize SL8 (ws.drop 2)=D,SL8 ws=d at *;simp[q3n,i,h,show 2<=d.length by omega]
 | some v=>
  rw[hn] at h;simp only[Option.getD_some,LI] at h ⊢;by_cases f:(v.length:Int)=ch k
  ·rw[if_pos f]
   rw[aG f] at h;simp only;have M:=λG=>iq k G
   have j:0<v.length:=by unfold ch at f;split at f<;>omega
   have s:ar k+1<=(v.length:Int):=by unfold ch at f;split at f<;>omega
   have t:(v.map I)[0]?=some (I (v.getD 0 0)):=by rw[aB,aA j,aK,aA j];rfl
   refine⟨J++[.cells (nC (iS k v))],?_⟩;have p:=Mt (g:=gh.length) (k:=k) (many:=ch k) (w:=v.getD 0 0) (v:=v) (G:=Gr gh m r J) s;have u:=Mu (gh:=gh) (J:=J) (r:=r) (m:=m) (k:=k) (many:=ch k) (w:=v.getD 0 0) (a:=if 0<ar k then v.getD 1 0 else 0) (b:=if 1<ar k then v.getD 2 0 else 0) (c:=if 2<ar k then v.getD 3 0 else 0) (v:=v) L rfl f;have N:(⟨k,v.getD 0 0,if 0<ar k then v.getD 1 0 else 0,if 1<ar k then v.getD 2 0 else 0,if 2<ar k then v.getD 3 0 else 0,if k=1\/k=21 then v.getD (ch k-1).toNat 0 else 0⟩:Nd)=iS k v:=rfl;rw[N] at u;refine bg ?_
   have o:∀y:GObj,(Gr gh m r J++[y])[(Gr gh m r J).length]?=some y:=λy=>bh
   have n:∀y z:GObj,(Gr gh m r J++[y]).set (Gr gh m r J).length z=Gr gh m r J++[z]:=λy z=>bh
   generalize (if 0<ar k then v.getD 1 0 else 0)=a,(if 1<ar k then v.getD 2 0 else 0)=b,(if 2<ar k then v.getD 3 0 else 0)=c,v.getD 0 0=P,Gr gh (eC m (iS k v)) r (J++[.cells (nC (iS k v))])=S at *;unfold nst at p;obtain⟨q,H⟩:∃q:GObj->fB,q=λy=>Gr gh m r J++[y]:=⟨_,rfl⟩
   have l:∀y,Gr gh m r J++[y]=q y:=λy=>by rw[H]
   simp only[l] at p u o n;generalize v.map I=e,SL8 (ws.drop 2)=D,SL8 ws=d at *;simp only[aR] at p;simp[q3n,i,h,M,t,l,o,n,au,p,u,show 2<=d.length by omega]
  ·rw[if_neg f]
   rw[aF f] at h;refine⟨J,?_⟩;simp only;refine bg ?_;generalize SL8 (ws.drop 2)=D,SL8 ws=d,v.map I=e at *;simp[q3n,i,h,show 2<=d.length by omega]
theorem Mw {w:List UInt8} {rest:List (List UInt8)} (hl:m.nodes.length<=20000) (S:∀x∈w::rest,x.length<=3000000) (N:(w::rest).length<=3000000) :
  ∃R,ac pg 361 [fc gh.length 0,cr (SL8 (w::rest))] (Gr gh m r J)=
   match jx m r (w::rest) with
   |some x=>some (B true,Gr gh (eC m x) r R)
   |none=>some (B false,Gr gh m r J):=by
 obtain⟨v,j,O⟩:=Cj (gh:=Gr gh m r J) (x:=w) (S w bh);have z:=vD (gh:=gh) (J:=J) (m:=m) (r:=r);unfold fh at z;have g:(m.nodes.map nodeV).length=m.nodes.length:=aW _
 have c:∀(b:Bool) (G:fB),bm pg q1m ⟨[(0,fc gh.length 0),(1,cr (SL8 (w::rest)))],[],Gr gh m r J⟩=fo ⟨[(4,B b)],[],G⟩->ac pg 361 [fc gh.length 0,cr (SL8 (w::rest))] (Gr gh m r J)=some (B b,G):=λb G h=>
  ak (fn:=q1f) rfl rfl h (by simp[ag,results,q1f,ah,am,af])
 by_cases F:0<=bp w
 ·obtain rfl:=O F
  rw[aG F] at j;by_cases d:bp w=(m.nodes.length:Int)
  ·match rest with
   |[]=>
    refine⟨J,c _ _ (bg ?_)⟩;rw[<-g] at d;generalize m.nodes.map nodeV=L,bp w=u at *;subst d;simp[q1m,q1f,j,z,dD]
   | u ::rest=>
    by_cases X:r<=0
    ·have y:=λG=>Cn (gh:=G) (w:=u) (xs:=wordsL.drop 1) bz
     have a:((List.map PV.str textWords).take 24).tail=SL8 (wordsL.drop 1):=rfl;have f:¬((rest.length:Int)+1+1<2):=aj;have s:¬(0<r):=aj;have P:=Co u;have Q:WI.wrap (dV u (wordsL.drop 1) 0+1)=de u:=by unfold de at P ⊢;rw[aq aj aj]
     have q:textWords.length=24:=rfl;generalize dV u (wordsL.drop 1) 0=ix at *;by_cases D:de u=0
     ·have l:jx m r (w::u::rest)=none:=by
       rw[On,if_neg (λh=>h.2.2 D)]
      rw[l];refine⟨J,c _ _ (bg ?_)⟩;rw[<-g] at d;generalize m.nodes.map nodeV=L,bp w=M at *;subst d;generalize SL8 (wordsL.drop 1)=WL at *;have a:=a;simp[q1m,q1f,j,z,dD,f,s,a,q,y,Q,D]
     ·obtain⟨R,p⟩:=Mv (gh:=gh) (J:=J) (r:=r) (m:=m) (k:=de u) (ws:=w::u::rest) hl S N bh
      have l:jx m r (w::u::rest)=(match eZ ((w::u::rest).drop 2) with|some v=>if (v.length:Int)=ch (de u) then some (iS (de u) v) else none|none=>none):=by rw[On,if_pos ⟨d,X,D⟩];rfl
      rw[l];refine⟨R,?_⟩;have U:=λG=>iq (de u) G
      have T:=λG=>Ce (gh:=G) (de u)
      have ht:=gD (de u);have i:ch (de u)=1+ar (de u)+(if de u=1\/de u=21 then 1 else 0):=rfl;have C:WI.wrap (1+ar (de u))=1+ar (de u):=aq aj aj;have H:WI.wrap (1+ar (de u)+1)=1+ar (de u)+1:=aq aj aj;have n:∀(b:Bool) (G:fB),bm pg q3n ⟨[(0,fc gh.length 0),(1,cr (SL8 (w::u::rest))),(7,I (de u)),(8,I (ch (de u)))],[],Gr gh m r J⟩=fo ⟨[(4,B b)],[],G⟩->ac pg 361 [fc gh.length 0,cr (SL8 (w::u::rest))] (Gr gh m r J)=some (B b,G):=by
       intro b G p;refine c _ _ (bg ?_);simp only[bS] at p;rw[<-g] at d;generalize m.nodes.map nodeV=L,bp w=M at *;subst d;generalize SL8 (wordsL.drop 1)=WL at *;have a:=a;generalize ar (de u)=t at *;by_cases E:de u=1\/de u=21
       ·have A:=aG E
        rw[if_pos E] at i;rw[i] at p;generalize decide (de u=1\/de u=21)=bb at *;subst A;simp[q1m,q1f,j,z,dD,f,s,a,q,y,Q,D,U,T,C,H,p]
       ·have A:=aF E
        rw[if_neg E,Int.add_zero] at i;rw[i] at p;generalize decide (de u=1\/de u=21)=bb at *;subst A;simp[q1m,q1f,j,z,dD,f,s,a,q,y,Q,D,U,T,C,H,p]
      generalize (match eZ ((w::u::rest).drop 2) with|some v=>if (v.length:Int)=ch (de u) then some (iS (de u) v) else none|none=>none)=o at *;cases o with
      |none=>exact n _ _ p
      |some x=>exact n _ _ p
    ·have l:jx m r (w::u::rest)=none:=by
      rw[On,if_neg (λh=>X h.2.1)]
     rw[l];refine⟨J,c _ _ (bg ?_)⟩;rw[<-g] at d;generalize m.nodes.map nodeV=L,bp w=M at *;subst d;have f:¬((rest.length:Int)+1+1<2):=aj;simp[q1m,q1f,j,z,dD,f,show 0<r by omega]
  ·have l:jx m r (w::rest)=none:=by
    unfold jx;split
    ·rename_i e
     injection e with C H
     subst C;rw[if_neg (λh=>d h.1)]
    ·rfl
   rw[l];refine⟨J,c _ _ (bg ?_)⟩;rw[<-g] at d;generalize m.nodes.map nodeV=L,bp w=M at *;simp[q1m,q1f,j,z,dD,d]
 ·have l:jx m r (w::rest)=none:=by
   unfold jx;split
   ·rename_i e
    injection e with C H
    subst C;rw[if_neg (λh=>F aj)]
   ·rfl
  rw[l];rw[aF F] at j;refine⟨J,c _ _ (bg ?_)⟩;simp[q1m,q1f,j]
end
end
section
attribute [local congr] bu
attribute [local simp] au
def sortsL:List (List UInt8):=[[],[105,110,105,116],[110,101,120,116],[98,97,100],[104,111,108,100]]
def ed (w:List UInt8):Int:=dV w sortsL 0
def fd (m:Md) (s:Int) (v:fq):Md:=
 if s=1 then {m with inits:=m.inits++[(v.getD 0 0,v.getD 1 0)] } else if s=2 then {m with nexts:=m.nexts++[(v.getD 0 0,v.getD 1 0)] }
 else if s=3 then {m with bads:=m.bads++[v.getD 0 0] } else {m with holds:=m.holds++[v.getD 0 0] }
def hZ (s:Int):Int:=if 2<s then 1 else 2
def ia (m:Md) (r:Int) (x:List UInt8):Option (Md×Int):=match cu 32 x with
 |[]=>none
 | w::rest=>if ed w<1 then (jx m r (w::rest)).map λx=>(eC m x,r)
  else match eZ rest with
   |some v=>if (v.length:Int)=hZ (ed w)/\r<=ed w then some (fd m (ed w) v,ed w) else none
   |none=>none
structure MdZ (m:Md) (N:Nat):Prop where
 nodes:m.nodes.length<=N
 inits:m.inits.length<=N
 nexts:m.nexts.length<=N
 bads:m.bads.length<=N
 holds:m.holds.length<=N
section
variable {gh J:fB} {m:Md} {r:Int}
theorem Mx {w:List UInt8} {rest:List (List UInt8)} {s:Int} (p:MdZ m 20000) (S:∀x∈rest,x.length<=3000000) (F:rest.length<=3000000) (X:1<=s) (U:s<=4) :
  bm pg q1e ⟨[(0,fc gh.length 0),(5,cr (SL8 (w::rest))),(6,I s),(7,I (hZ s))],[],Gr gh m r J⟩=
   match (match eZ rest with|some v=>if (v.length:Int)=hZ s/\r<=s then some (fd m s v,s) else none|none=>none:Option (Md×Int)) with
   |some (R,Q)=>fo ⟨[(4,B true)],[],Gr gh R Q J⟩
   |none=>fo ⟨[(4,B false)],[],Gr gh m r J⟩:=by
 have e:=Cl (gh:=Gr gh m r J) (many:=hZ s) S F;have H:=vD (gh:=gh) (J:=J) (m:=m) (r:=r);unfold fh at H;simp only[SL8,bS] at e ⊢;generalize T:rest.map (λx=>PV.str (bA x))=D at *;cases hn:eZ rest with
 |none=>
  rw[hn] at e;simp only[Option.getD_none,LI,bU] at e ⊢;refine bg ?_;simp[q1e,e]
 | some v=>
  rw[hn] at e;simp only[Option.getD_some,LI] at e ⊢;by_cases i:(v.length:Int)=hZ s
  ·rw [aG i] at e
   by_cases hr:r<=s
   ·rw[if_pos ⟨i,hr⟩]
    simp only;have g:∀G:fB,bm pg q7v ⟨[],[],G⟩=fo ⟨[(4,B true)],[],G⟩:=λG=>bg (c:=q7v) (s:=⟨[],[],_⟩) (by simp[q7v]<;>rfl)
    have f:¬s<r:=aj;have o:∀y:GObj,(gh++y::J)[gh.length]?=some y:=λy=>bh
    have n:∀y z:GObj,(gh++y::J).set gh.length z=gh++z::J:=λy z=>bh
    unfold Gr at e ⊢;obtain⟨q,L⟩:∃q:GObj->fB,q=λy=>gh++y::J:=⟨_,rfl⟩
    have l:∀y,gh++y::J=q y:=λy=>by rw[L]
    simp only[l] at e o n ⊢;clear L l H;have P:((m.inits.map andV).length+1)*16<=maxBytes:=cC (by have:=p.inits;rw[aW];omega:_<=20001*16) bz;have O:((m.nexts.map andV).length+1)*16<=maxBytes:=cC (by have:=p.nexts;rw[aW];omega:_<=20001*16) bz;have N:((m.bads.map I).length+1)*8<=maxBytes:=cC (by have:=p.bads;rw[aW];omega:_<=20001*8) bz;have M:((m.holds.map I).length+1)*8<=maxBytes:=cC (by have:=p.holds;rw[aW];omega:_<=20001*8) bz;refine bg ?_;have j:s=1\/s=2\/s=3\/s=4:=aj;rcases j with rfl|rfl|rfl|rfl
    ·match v,i with
     |[a,b],_=>
      have k:fh (fd m 1 [a,b]) 1= .cells [.sl true 6 (m.nodes.map nodeV),.sl true 2 (m.inits.map andV++[.agg [I a,I b]]),.sl true 2 (m.nexts.map andV),dz (m.bads.map I),dz (m.holds.map I),I 1]:=by simp[fh,fd,andV]
      rw[k];unfold fh at e ⊢;generalize m.nodes.map nodeV=E,m.inits.map andV=C,m.nexts.map andV=A,m.bads.map I=u,m.holds.map I=t at *;simp only[bS,bU] at e;simp[q1e,e,o,n,dD,f,au,P,aw,g]
    ·match v,i with
     |[a,b],_=>
      have k:fh (fd m 2 [a,b]) 2= .cells [.sl true 6 (m.nodes.map nodeV),.sl true 2 (m.inits.map andV),.sl true 2 (m.nexts.map andV++[.agg [I a,I b]]),dz (m.bads.map I),dz (m.holds.map I),I 2]:=by simp[fh,fd,andV]
      rw[k];unfold fh at e ⊢;generalize m.nodes.map nodeV=E,m.inits.map andV=C,m.nexts.map andV=A,m.bads.map I=u,m.holds.map I=t at *;simp only[bS,bU] at e;simp[q1e,e,o,n,dD,f,au,O,aw,g]
    ·match v,i with
     |[a],_=>
      have k:fh (fd m 3 [a]) 3= .cells [.sl true 6 (m.nodes.map nodeV),.sl true 2 (m.inits.map andV),.sl true 2 (m.nexts.map andV),dz (m.bads.map I++[I a]),dz (m.holds.map I),I 3]:=by simp[fh,fd]
      rw[k];unfold fh at e ⊢;generalize m.nodes.map nodeV=E,m.inits.map andV=C,m.nexts.map andV=A,m.bads.map I=u,m.holds.map I=t at *;simp only[bS,bU] at e;simp[q1e,e,o,n,dD,f,au,N,aw,g]
    ·match v,i with
     |[a],_=>
      have k:fh (fd m 4 [a]) 4= .cells [.sl true 6 (m.nodes.map nodeV),.sl true 2 (m.inits.map andV),.sl true 2 (m.nexts.map andV),dz (m.bads.map I),dz (m.holds.map I++[I a]),I 4]:=by simp[fh,fd]
      rw[k];unfold fh at e ⊢;generalize m.nodes.map nodeV=E,m.inits.map andV=C,m.nexts.map andV=A,m.bads.map I=u,m.holds.map I=t at *;simp only[bS,bU] at e;simp[q1e,e,o,n,dD,f,au,M,aw,g]
   ·rw[if_neg (λh=>hr h.2)]
    simp only;refine bg ?_;generalize v.map I=d at *;simp[q1e,e,H,dD,show s<r by omega]
  ·rw[if_neg (λh=>i h.1)]
   rw[aF i] at e;simp only;refine bg ?_;generalize v.map I=d at *;simp[q1e,e]
theorem My {x:List UInt8} (E:MdZ m 20000) (H:x.length<=2000000) :
  ∃A,ac pg 353 [fc gh.length 0,.str (bA x)] (Gr gh m r J)=
   match ia m r x with
   |some (D,C)=>some (B true,Gr gh D C A)
   |none=>some (B false,Gr gh m r J):=by
 have d:=λG=>Mn (gh:=G) (c:=32) (x:=x) aj
 have i:=vu 32 x;have f:=lm 32 x;unfold ia;cases k:cu 32 x with
 |nil=>rw[k] at f;simp at f
 | cons w rest=>
  rw[k] at d i f;simp only;have e:=λG=>Cn (gh:=G) (w:=w) (xs:=sortsL) bz
  rw[show dV w sortsL 0=ed w from rfl] at e;have u:=vC w sortsL 0;rw[show dV w sortsL 0=ed w from rfl,show sortsL.length=5 from rfl] at u;have z:SL8 sortsL=[.str ByteArray.empty,.str (⟨#[105,110,105,116]⟩:ByteArray),.str (⟨#[110,101,120,116]⟩:ByteArray),.str (⟨#[98,97,100]⟩:ByteArray),.str (⟨#[104,111,108,100]⟩:ByteArray)]:=rfl;rw[z] at e;have j:(⟨#[32]⟩:ByteArray)=bA [32]:=rfl
  have p:∀(b:Bool) (G:fB),bm pg q4n ⟨[(0,fc gh.length 0),(1,.str (bA x))],[],Gr gh m r J⟩=fo ⟨[(4,B b)],[],G⟩->ac pg 353 [fc gh.length 0,.str (bA x)] (Gr gh m r J)=some (B b,G):=λb G h=>
   ak (fn:=q3m) rfl rfl h (by simp[ag,results,q3m,ah,am,af])
  generalize ed w=s at *;by_cases n:s<1
  ·rw[if_pos n]
   obtain⟨A,g⟩:=Mw (gh:=gh) (J:=J) (m:=m) (r:=r) (w:=w) (rest:=rest) E.nodes (λy t=>by have:=i y t;omega) aj;refine⟨A,?_⟩;have a:∀(b:Bool) (G:fB),ac pg 361 [fc gh.length 0,cr (SL8 (w::rest))] (Gr gh m r J)=some (B b,G)->ac pg 353 [fc gh.length 0,.str (bA x)] (Gr gh m r J)=some (B b,G):=by intro b G h;refine p _ _ (bg ?_);simp only[bS] at h d;generalize rest.map (λx=>PV.str (bA x))=R at *;simp[q4n,q3m,j,d,e,n,h]
   cases F:jx m r (w::rest) with
   |none=>rw[F] at g;exact a _ _ g
   |some y=>rw[F] at g;exact a _ _ g
  ·rw[if_neg n]
   have l:=Mx (gh:=gh) (J:=J) (m:=m) (r:=r) (w:=w) (rest:=rest) (s:=s) E (λy t=>by have:=i y (by simp[t]);omega) (by simp at f;omega) aj aj;refine⟨J,?_⟩;have a:∀(b:Bool) (G:fB),bm pg q1e ⟨[(0,fc gh.length 0),(5,cr (SL8 (w::rest))),(6,I s),(7,I (hZ s))],[],Gr gh m r J⟩=fo ⟨[(4,B b)],[],G⟩->ac pg 353 [fc gh.length 0,.str (bA x)] (Gr gh m r J)=some (B b,G):=by
    intro b G h;refine p _ _ (bg ?_);unfold hZ at h;simp only[bS] at h d;generalize rest.map (λx=>PV.str (bA x))=R at *;by_cases q:2<s
    ·rw[if_pos q] at h
     simp[q4n,q3m,j,d,e,n,q,h]
    ·rw[if_neg q] at h
     simp[q4n,q3m,j,d,e,n,q,h]
   generalize (match eZ rest with|some v=>if (v.length:Int)=hZ s/\r<=s then some (fd m s v,s) else none|none=>none:Option (Md×Int))=o at *
   match o with
   |none=>exact a _ _ l
   |some (D,C)=>exact a _ _ l
end
end
section
attribute [local congr] bu
attribute [local simp] au
def m0:Md:=⟨[],[],[],[],[]⟩
def pgo:List (List UInt8)->Md->Int->Nat->Nat ⊕ Md
 |[],m,_,_=> .inr m
 |[x],m,_,n=>if x=[] then .inr m else .inl n
 |x::y::t,m,r,n=>match ia m r x with
  |none=> .inl n
  |some (b,a)=>pgo (y::t) b a (n+1)
def ie (s:List UInt8):Md×Int×Int:=if 10000<s.length then (m0,0,2) else match pgo (cu 10 s) m0 0 1 with
 | .inl e=>(m0,(e:Int),1)
 | .inr m=>if dc m=0 then (m,0,0) else (m0,0,dc m)
theorem Oq (x:List UInt8) (m:Md) (r:Int) (n:Nat):pgo [x] m r n=if x=[] then .inr m else .inl n:=rfl
theorem OZ (x y:List UInt8) (t:List (List UInt8)) (m:Md) (r:Int) (n:Nat):pgo (x::y::t) m r n=match ia m r x with
  |none=> .inl n
  |some (b,a)=>pgo (y::t) b a (n+1):=rfl
theorem vE (N:Nat):MdZ m0 N:=⟨Nat.zero_le _,Nat.zero_le _,Nat.zero_le _,Nat.zero_le _,Nat.zero_le _⟩
theorem H0 {m:Md} {N M:Nat} (h:MdZ m N) (k:N<=M):MdZ m M:=⟨cC h.1 k,cC h.2 k,cC h.3 k,cC h.4 k,cC h.5 k⟩
theorem vF {m b:Md} {r c:Int} {x:List UInt8} {N:Nat} (h:MdZ m N) (a:ia m r x=some (b,c)):MdZ b (N+1):=by
 obtain⟨i,g,f,e,d⟩:=h;unfold ia at a;split at a
 ·cases a
 ·split at a
  ·simp only[aE,bZ] at a
   obtain⟨y,-,rfl,-⟩:=a;refine⟨?_,?_,?_,?_,?_⟩<;>simp[eC]<;>omega
  ·split at a
   ·split at a
    ·simp only[bW,bZ] at a
     obtain⟨rfl,-⟩:=a;unfold fd;split
     ·refine⟨?_,?_,?_,?_,?_⟩<;>simp<;>omega
     ·split
      ·refine⟨?_,?_,?_,?_,?_⟩<;>simp<;>omega
      ·split
       ·refine⟨?_,?_,?_,?_,?_⟩<;>simp<;>omega
       ·refine⟨?_,?_,?_,?_,?_⟩<;>simp<;>omega
    ·cases a
   ·cases a
theorem Cq:∀{l:List (List UInt8)} {m b:Md} {r:Int} {n N:Nat},MdZ m N->pgo l m r n= .inr b->MdZ b (N+l.length)
 |[],m,b,r,n,N,h,a=>by cases a;exact h
 |[x],m,b,r,n,N,h,a=>by
  rw[Oq] at a;split at a
  ·cases a;exact H0 h bh
  ·cases a
 | x::y::t,m,b,r,n,N,h,a=>by
  rw[OZ] at a;split at a
  ·cases a
  ·rename_i d c e
   have:=Cq (vF h e) a;exact H0 this (by simp;omega)
section
variable {gh:fB}
abbrev nilM:fw:=[.sl true 6 [],.sl true 2 [],.sl true 2 [],dz [],dz []]
theorem Cr:∀(k:Nat) (s:List UInt8) (m:Md) (r:Int) (J:fB) (n N:Nat),(cu 10 s).length=k->s.length<=20000->MdZ m N->N+k<=20000->n+k<=1000000->
  ∃(z:Md) (o:Int) (v:fB),bm pg qg8 ⟨[(0,.str (bA s)),(2,ec),(5,fc gh.length 0),(6,I (n:Int))],[nilM],Gr gh m r J⟩=
   match pgo (cu 10 s) m r n with
   | .inl e=>fo ⟨[(2,ec),(3,I (e:Int)),(4,I 1)],[nilM],Gr gh z o v⟩
   | .inr j=>fg ⟨[(2,ec),(5,fc gh.length 0)],[nilM],Gr gh j o v⟩
 |0,s,_,_,_,_,_,h,_,_,_,_=>by have:=(lm 10 s).1;omega
 | k +1,s,m,r,J,n,N,h,Q,L,R,hn=>by
  have q:ByteArray.empty=bA []:=rfl;by_cases D:s=[]
  ·subst D
   refine⟨m,r,J,?_⟩;rw[show cu 10 []=[[]] from rfl,Oq,if_pos rfl];refine (bn (s1:=⟨[(0,.str (bA [])),(2,ec),(5,fc gh.length 0),(6,I (n:Int)),(18,B false)],[nilM],Gr gh m r J⟩) (bg ?J)).trans ?Z
   case J=>
    generalize Gr gh m r J=G at *;simp[q4k,q]
   case Z=>simp[keep,bj]
  ·have g:=λG=>Mo (gh:=G) (c:=10) (x:=s) aj
   have f:s.isEmpty=false:=by cases s with
    |nil=>exact absurd rfl D
    |cons a b=>rfl
   have E:(⟨#[10]⟩:ByteArray)=bA [10]:=rfl;have O:WI.wrap ((n:Int)+1)=((n+1:Nat):Int):=by rw[aq aj aj];omega
   rcases Cf 10 s with ⟨F,u⟩|⟨x,rest,F,u,P⟩
   ·refine⟨m,r,J,?_⟩
    rw[u,Oq,if_neg D];rw[F] at g;refine cx (bg ?Y)
    case Y=>
     generalize Gr gh m r J=G at *;simp only at g;simp[q4k,q,E,f,g]
   ·rw[F] at g
    simp only at g;have M:x.length+rest.length+1=s.length:=by rw[P];simp;omega
    obtain⟨H,i⟩:=My (gh:=gh) (J:=J) (m:=m) (r:=r) (x:=x) (H0 L aj) aj;have A:(cu 10 rest).length=k:=by rw[u] at h;simpa using h
    obtain⟨y,t,l⟩:=Cg 10 rest;rw[u,l,OZ];cases C:ia m r x with
    | none=>
     rw[C] at i;refine⟨m,r,J,?_⟩;simp only at i ⊢;refine cx (bg ?K)
     case K=>
      generalize Gr gh m r J=G at *;simp[q4k,q,E,f,g,i]
    | some p=>
     obtain⟨j,w⟩:=p;rw[C] at i;simp only at i ⊢;obtain⟨z,o,v,d⟩:=Cr k rest j w H (n+1) (N+1) A aj (vF L C) aj aj;rw[l] at d;refine⟨z,o,v,?_⟩;refine ay (bg (r:=some (_,⟨[(0,.str (bA rest)),(2,ec),(5,fc gh.length 0),(6,I ((n+1:Nat):Int))],[nilM],Gr gh j w H⟩)) ?V) d
     case V=>
      generalize Gr gh j w H=S,Gr gh m r J=G,((n+1:Nat):Int)=T at *;simp[q4k,q,E,f,g,i,O]
theorem Cs {m:Md} {r:Int} {J:fB}:(Gr gh m r J).take gh.length=gh:=by simp[Gr]
theorem Ct (l:List Nd):eg (l.map nodeV)=true:=by
 induction l with
 |nil=>rfl
 |cons a l b=>simp[eg,PV.noG,nodeV,b]
theorem H1 (l:fN):eg (l.map andV)=true:=by
 induction l with
 |nil=>rfl
 |cons a l b=>simp[eg,PV.noG,andV,b]
def NW (m:Md):PV:= .agg [.fr 6 (m.nodes.map nodeV),.fr 2 (m.inits.map andV),.fr 2 (m.nexts.map andV),FI1 m.bads,FI1 m.holds]
theorem Mz {s:List UInt8} (G:s.length<=2000000):ac pg 348 [.str (bA s)] gh=some (.tup [NW (ie s).1,I (ie s).2.1,I (ie s).2.2],gh):=by
 have j:((bA s).size:Nat)=s.length:=gS s;unfold ie;by_cases y:10000<s.length
 ·rw[if_pos y]
  refine ak (fn:=qx) (s:=⟨[(2,ec),(3,I 0),(4,I 2)],[nilM],gh⟩) rfl rfl (bg ?J) ?Z
  case J=>simp[q4m,qx,j,show (10000:Int)<(s.length:Int) by omega]
  case Z=>simp[ag,results,qx,ah,am,St.cellsAt,af,NW,m0]
 ·rw [if_neg y]
  have E:=lm 10 s;obtain⟨x,f,g,c⟩:=Cr (gh:=gh) (cu 10 s).length s m0 0 [] 1 0 rfl aj (vE 0) aj aj;have d:gh++[GObj.cells [.sl true 6 [],.sl true 2 [],.sl true 2 [],dz [],dz [],I 0]]=Gr gh m0 0 []:=rfl;have b:¬(10000:Int)<(s.length:Int):=aj;cases u:pgo (cu 10 s) m0 0 1 with
  |inl e=>
   rw[u] at c;simp only[Int.natCast_one] at c ⊢;have k:=Cs (gh:=gh) (m:=x) (r:=f) (J:=g);generalize Gr gh x f g=a,Gr gh m0 0 []=F at *;refine ak (fn:=qx) (s:=⟨[(2,ec),(3,I (e:Int)),(4,I 1)],[nilM],a⟩) rfl rfl (bg ?Y) ?K
   case Y=>simp[q4m,qx,j,b,d,c]
   case K=>simp[ag,results,qx,ah,am,St.cellsAt,af,NW,m0,k]
  | inr m=>
   rw[u] at c;simp only[Int.natCast_one] at c ⊢;have h:=Cq (vE 0) u;have i:=Ah (m:=m) (gh:=Gr gh m f g) (by simp only[Sz];have:=h.inits;omega) (by simp only[Sz];have:=h.nexts;omega);have k:=Cs (gh:=gh) (m:=m) (r:=f) (J:=g);have w:=vD (gh:=gh) (m:=m) (r:=f) (J:=g);unfold fh at w;generalize Gr gh m f g=a,Gr gh m0 0 []=F at *;have D:=Ct m.nodes;have C:=H1 m.inits;have B:=H1 m.nexts;have A:=wl m.bads;have z:=wl m.holds;rw[en] at i;simp only[LN,LP,LI] at i;by_cases l:dc m=0
   ·rw[if_pos l]
    rw[l] at i;unfold NW;simp only[FI1];generalize m.nodes.map nodeV=t,m.inits.map andV=q,m.nexts.map andV=p,m.bads.map I=o,m.holds.map I=n at *;have v:bm pg q4l ⟨[(2,ec),(5,fc gh.length 0)],[nilM],a⟩=fo ⟨[(2,ec),(3,I 0),(4,I 0)],[[.fr 6 t,.fr 2 q,.fr 2 p,.fr 1 o,.fr 1 n]],a⟩:=by refine bg ?_;simp[q4l,w,dD,i]
    refine ak (fn:=qx) (s:=⟨[(2,ec),(3,I 0),(4,I 0)],[[.fr 6 t,.fr 2 q,.fr 2 p,.fr 1 o,.fr 1 n]],a⟩) rfl rfl (bg ?V) ?W
    case V=>simp[q4m,qx,j,b,d,c,v]
    case W=>simp[ag,results,qx,ah,am,St.cellsAt,af,k,D,C,B,A,z]
   ·rw[if_neg l]
    generalize dc m=e,m.nodes.map nodeV=t,m.inits.map andV=q,m.nexts.map andV=p,m.bads.map I=o,m.holds.map I=n at *;have v:bm pg q4l ⟨[(2,ec),(5,fc gh.length 0)],[nilM],a⟩=fo ⟨[(2,ec),(3,I 0),(4,I e)],[nilM],a⟩:=by refine bg ?_;simp[q4l,w,dD,i,l]
    refine ak (fn:=qx) (s:=⟨[(2,ec),(3,I 0),(4,I e)],[nilM],a⟩) rfl rfl (bg ?Ja) ?Jb
    case Ja=>simp[q4m,qx,j,b,d,c,v]
    case Jb=>simp[ag,results,qx,ah,am,St.cellsAt,af,NW,m0,k]
end
end
section
attribute [local congr] bu
attribute [local simp] au
def lp (w:List UInt8):List (List UInt8)->Int->Int->Int
 |[],_,b=>b
 |x::l,i,b=>lp w l (i+1) (if w=x then i else b)
theorem Cu {w:List UInt8}:∀{l:List (List UInt8)} {i:Int},w∉l->dV w l i= -1
 |[],_,_=>rfl
 |x::l,i,h=>by simp only[List.mem_cons,not_or] at h;rw[dV,if_neg h.1];exact Cu h.2
theorem Cv {w:List UInt8}:∀{l:List (List UInt8)} {i b:Int},l.Nodup->0<=i->lp w l i b=if dV w l i= -1 then b else dV w l i
 |[],_,_,_,_=>by simp[lp,dV]
 | x::l,i,b,h,a=>by
  rw[List.nodup_cons] at h;rw[lp,Cv h.2 aj,dV];by_cases hw:w=x
  ·subst hw
   rw[if_pos rfl,if_pos rfl,Cu h.1,if_pos rfl,if_neg aj]
  ·rw[if_neg hw,if_neg hw]
theorem MA (u:List UInt8):lp u (wordsL.drop 1) 1 0=de u:=by
 rw[Cv bz bz];have c:∀(l:List (List UInt8)) (i:Int),0<=i->(dV u l (i+1)= -1/\dV u l i= -1)\/(dV u l (i+1)≠ -1/\dV u l (i+1)=dV u l i+1):=by
  intro l
  induction l with
  |nil=>intro i _;left;exact⟨rfl,rfl⟩
  |cons x l d=>
   intro i h;rw[dV,dV];split
   ·right;exact⟨aj,rfl⟩
   ·exact d (i+1) aj
 have:=c (wordsL.drop 1) 0 aj;rw[show (0:Int)+1=1 from rfl] at this;unfold de;rcases this with ⟨b,a⟩|⟨b,a⟩
 ·rw[if_pos b,a];rfl
 ·rw[if_neg b,a]
abbrev mR (m:Md):fw:=[.sl true 6 (m.nodes.map nodeV),.sl true 2 (m.inits.map andV),.sl true 2 (m.nexts.map andV),dz (m.bads.map I),dz (m.holds.map I)]
section
variable {gh:fB} {m:Md} {r:Int}
theorem MC (k:Nat) (h:k<24):wordsL.drop k=jw (k:Int)::wordsL.drop (k+1):=by have a:k<wordsL.length:=h;rw[aJ a];unfold jw;rw[aK,Int.toNat_natCast,aA a];rfl
theorem Cw {L:fw} {i:Int} {w u:List UInt8} {rest:List (List UInt8)} {M:fw} {m l j g f:PV} (v:M=[m,l,j,g,f]):∀n k b,k+n=24->1<=k->
  bm pg q7d ⟨[(2,ec),(5,cr L),(6,eK),(7,I r),(8,I i),(9,cr (SL8 (w::u::rest))),(10,I b),(11,I (k:Nat))],[nilM,M],gh⟩=
   fg ⟨[(2,ec),(5,cr L),(6,eK),(7,I r),(8,I i),(9,cr (SL8 (w::u::rest))),(10,I (lp u (wordsL.drop k) (k:Nat) b))],[nilM,M],gh⟩
 |0,k,b,h,_=>by
  obtain rfl:k=24:=aj;subst v;rw[show wordsL.drop 24=[] from rfl,lp];refine (bn (s1:=⟨[(2,ec),(5,cr L),(6,eK),(7,I r),(8,I i),(9,cr (SL8 (w::u::rest))),(10,I b),(11,I ((24:Nat):Int)),(43,B false)],[nilM,[m,l,j,g,f]],gh⟩) (bg ?J)).trans ?Z
  case J=>simp[q49]
  case Z=>simp[keep,bj]
 | n+1,k,b,h,A=>by
  subst v;have x:k<24:=aj;have s:=λG=>Ms (gh:=G) (k:=(k:Int)) aj
  have z:WI.wrap ((k:Int)+1)=((k+1:Nat):Int):=by rw[aq aj aj];omega
  rw[MC k x,lp];have c:=λb=>Cw (L:=L) (i:=i) (w:=w) (u:=u) (rest:=rest) (M:=[m,l,j,g,f]) rfl n (k+1) b aj aj
  rw[show ((k:Nat):Int)+1=((k+1:Nat):Int) by omega];have e:∀b:Int,bm pg qb6 ⟨[(2,ec),(5,cr L),(6,eK),(7,I r),(8,I i),(9,cr (SL8 (w::u::rest))),(10,I b),(11,I (k:Nat))],[nilM,[m,l,j,g,f]],gh⟩=fg ⟨[(2,ec),(5,cr L),(6,eK),(7,I r),(8,I i),(9,cr (SL8 (w::u::rest))),(10,I b),(11,I ((k+1:Nat):Int))],[nilM,[m,l,j,g,f]],gh⟩:=λb=>by refine bg ?_;simp[qb6,z]
  have q:(k:Int)<=23:=aj;have p:(1:Int)<(rest.length:Int)+1+1:=aj;by_cases hw:u=jw (k:Int)
  ·rw[if_pos hw]
   have t:(jw (k:Int)==u)=true:=by simp[hw]
   have d:=e (k:Int);have o:=c (k:Int);clear e c hw;generalize jw (k:Int)=a at *;refine ay (bg (r:=some (_,⟨[(2,ec),(5,cr L),(6,eK),(7,I r),(8,I i),(9,cr (SL8 (w::u::rest))),(10,I (k:Nat)),(11,I ((k+1:Nat):Int))],[nilM,[m,l,j,g,f]],gh⟩)) ?Y) o
   case Y=>
    simp only[bS] at d ⊢;generalize ((k+1:Nat):Int)=T at *;simp[q49,q,p,s,t,d,show Nat.ble 1 2=true from rfl,show Nat.ble 2 2=true from rfl]
  ·rw[if_neg hw]
   have t:(jw (k:Int)==u)=false:=by
    cases y:(jw (k:Int)==u) with
    |false=>rfl
    |true=>exact absurd (by simpa using y:jw (k:Int)=u).symm hw
   have d:=e b;have o:=c b;clear e c hw;generalize jw (k:Int)=a at *;refine ay (bg (r:=some (_,⟨[(2,ec),(5,cr L),(6,eK),(7,I r),(8,I i),(9,cr (SL8 (w::u::rest))),(10,I b),(11,I ((k+1:Nat):Int))],[nilM,[m,l,j,g,f]],gh⟩)) ?K) o
   case K=>
    simp only[bS] at d ⊢;generalize ((k+1:Nat):Int)=T at *;simp[q49,q,p,s,t,d,show Nat.ble 1 2=true from rfl,show Nat.ble 2 2=true from rfl]
theorem MD {L:fw} {i:Int} {w:List UInt8} {e d c b a:PV} :
  bm pg q7d ⟨[(2,ec),(5,cr L),(6,eK),(7,I r),(8,I i),(9,cr (SL8 [w])),(10,I 0),(11,I 1)],[nilM,[e,d,c,b,a]],gh⟩=
   fg ⟨[(2,ec),(5,cr L),(6,eK),(7,I r),(8,I i),(9,cr (SL8 [w])),(10,I 0)],[nilM,[e,d,c,b,a]],gh⟩:=by
 refine (bn (s1:=⟨[(2,ec),(5,cr L),(6,eK),(7,I r),(8,I i),(9,cr (SL8 [w])),(10,I 0),(11,I 1),(43,B false)],[nilM,[e,d,c,b,a]],gh⟩) (bg ?J)).trans ?Z
 case J=>simp[q49]
 case Z=>simp[keep,bj]
abbrev v3 (L:fw) (r i c:Int) (b:List (List UInt8)) (a:fq) (f:Bool) (k:Nat) (M:fw) (d:fB):St:=
 ⟨[(2,ec),(5,cr L),(6,eK),(7,I r),(8,I i),(9,cr (SL8 b)),(10,I c),(12,dz (a.map I)),(13,B f),(14,I (k:Nat))],[nilM,M],d⟩
theorem Cx {L:fw} {i kd:Int} {ws:List (List UInt8)} {M:fw} {s q p o m:PV} (y:M=[s,q,p,o,m]) (C:ws.length<=100000):∀n k c f,k+n=ws.length->2<=k->c.length<=k->
  bm pg q7e (v3 L r i kd ws c f k M gh)=
   fg ⟨[(2,ec),(5,cr L),(6,eK),(7,I r),(8,I i),(9,cr (SL8 ws)),(10,I kd),(12,dz ((c++(ws.drop k).map bp).map I)),(13,B (f&&(ws.drop k).all λx=>decide (0<=bp x)))],[nilM,M],gh⟩
 |0,k,c,f,h,_,_=>by
  subst y;have e:¬k<ws.length:=aj;have l:(SL8 ws).length=ws.length:=aW _;rw[aM aj];rw[<-l] at e;unfold v3;generalize SL8 ws=a,E:c.map I=A at *;refine (bn (s1:=⟨[(2,ec),(5,cr L),(6,eK),(7,I r),(8,I i),(9,cr a),(10,I kd),(12,dz A),(13,B f),(14,I (k:Nat)),(56,B false)],[nilM,[s,q,p,o,m]],gh⟩) (bg ?J)).trans ?Z
  case J=>simp[q3h,e]
  case Z=>simp[keep,bj,E]
 | n+1,k,c,f,h,H,ha=>by
  subst y;have e:k<ws.length:=aj;have l:(SL8 ws).length=ws.length:=aW _;have F:WI.wrap ((k:Int)+1)=((k+1:Nat):Int):=by rw[aq aj aj];omega
  have v:(SL8 ws)[k]?=some (.str (bA ws[k])):=by simp[aA e]
  rw[aJ e];generalize ws[k]=x at *;have w:=λG=>vx (gh:=G) (x:=x)
  have d:=Cx (L:=L) (i:=i) (kd:=kd) (ws:=ws) (M:=[s,q,p,o,m]) rfl C n (k+1) (c++[bp x]) (f&&decide (0<=bp x)) aj aj (by simp;omega);rw[bS,List.all_cons,<-Bool.and_assoc];rw[aT,List.singleton_append] at d;generalize bp x=z at *;have j:((c.map I).length+1)*8<=maxBytes:=cC (by rw[aW];omega:_<=800008) bz;have g:=e;rw[<-l] at g;have u:(1:Int)<(k:Int):=aj
  have t:∀(A:fw) (b:Bool),bm pg q4a ⟨[(2,ec),(5,cr L),(6,eK),(7,I r),(8,I i),(9,cr (SL8 ws)),(10,I kd),(12,dz A),(13,B b),(14,I (k:Nat))],[nilM,[s,q,p,o,m]],gh⟩=fg ⟨[(2,ec),(5,cr L),(6,eK),(7,I r),(8,I i),(9,cr (SL8 ws)),(10,I kd),(12,dz A),(13,B b),(14,I ((k+1:Nat):Int))],[nilM,[s,q,p,o,m]],gh⟩:=λA b=>by refine bg ?_;simp[q4a,F]
  unfold v3 at *;rw[bI] at d;simp only[bS,bU] at d;refine ay (bg (r:=some (_,⟨[(2,ec),(5,cr L),(6,eK),(7,I r),(8,I i),(9,cr (SL8 ws)),(10,I kd),(12,dz (c.map I++[I z])),(13,B (f&&decide (0<=z))),(14,I ((k+1:Nat):Int))],[nilM,[s,q,p,o,m]],gh⟩)) ?Y) d
  case Y=>
   clear d;generalize SL8 ws=a,c.map I=A,((k+1:Nat):Int)=T at *;have D:(k<a.length):=aj;clear g;simp[q3h,degr,D];cases f
   ·simp[u,v,w,j,t,show Nat.ble 1 2=true from rfl,show Nat.ble 2 2=true from rfl]
   ·simp[u,v,w,j,t,show Nat.ble 1 2=true from rfl,show Nat.ble 2 2=true from rfl]
def dq (w:List UInt8):Int:=if ed w<1 then 0 else ed w
theorem vG (w:List UInt8):(w=[105,110,105,116]/\dq w=1/\ed w=1)\/(w=[110,101,120,116]/\dq w=2/\ed w=2)\/(w=[98,97,100]/\dq w=3/\ed w=3)\/(w=[104,111,108,100]/\dq w=4/\ed w=4)\/
  ((w==[105,110,105,116])=false/\(w==[110,101,120,116])=false/\(w==[98,97,100])=false/\(w==[104,111,108,100])=false/\dq w=0/\ed w<1):=by
 by_cases d:w=[105,110,105,116]
 ·left;subst d;exact⟨rfl,bz,bz⟩
 by_cases c:w=[110,101,120,116]
 ·right;left;subst c;exact⟨rfl,bz,bz⟩
 by_cases b:w=[98,97,100]
 ·right;right;left;subst b;exact⟨rfl,bz,bz⟩
 by_cases a:w=[104,111,108,100]
 ·right;right;right;left;subst a;exact⟨rfl,bz,bz⟩
 right;right;right;right;have e:ed w<1:=by unfold ed sortsL;simp only[dV,if_neg d,if_neg c,if_neg b,if_neg a];split<;>decide
 refine⟨by simp[d],by simp[c],by simp[b],by simp[a],?_,e⟩;unfold dq;rw[if_pos e]
def dH (w:List UInt8) (rest:List (List UInt8)):List (List UInt8):=if ed w<1 then rest.drop 1 else rest
theorem ME {L:fw} {i kd:Int} {w:List UInt8} {rest:List (List UInt8)} {q0 q1 q2 q3 q4:PV} (E:rest.length<=90000) :
  bm pg q7e (v3 L r i kd (w::rest) [] true 1 [q0,q1,q2,q3,q4] gh)=
   fg ⟨[(2,ec),(5,cr L),(6,eK),(7,I r),(8,I i),(9,cr (SL8 (w::rest))),(10,I kd),(12,dz (((dH w rest).map bp).map I)),(13,B ((dH w rest).all λx=>decide (0<=bp x)))],[nilM,[q0,q1,q2,q3,q4]],gh⟩:=by
 match rest with
 |[]=>
  have d:dH w []=[]:=by unfold dH;split<;>rfl
  rw[d];unfold v3;refine (bn (s1:=⟨[(2,ec),(5,cr L),(6,eK),(7,I r),(8,I i),(9,cr (SL8 [w])),(10,I kd),(12,dz []),(13,B true),(14,I ((1:Nat):Int)),(56,B false)],[nilM,[q0,q1,q2,q3,q4]],gh⟩) (bg ?J)).trans ?Z
  case J=>simp[q3h]
  case Z=>simp[keep,bj]
 | u ::rest=>
  have g:(1:Int)<(rest.length:Int)+1+1:=aj;have D:=λG=>vx (gh:=G) (x:=u)
  have a:=λq f ha=>Cx (gh:=gh) (r:=r) (L:=L) (i:=i) (kd:=kd) (ws:=w::u::rest) (M:=[q0,q1,q2,q3,q4]) rfl (by simp at E ⊢;omega) rest.length 2 q f (by simp;omega) aj ha
  have H:(w::u::rest).drop 2=rest:=rfl;rw[H] at a;have F:WI.wrap 2=2:=bz;have e:∀(A:fw) (b:Bool),bm pg q4a ⟨[(2,ec),(5,cr L),(6,eK),(7,I r),(8,I i),(9,cr (SL8 (w::u::rest))),(10,I kd),(12,dz A),(13,B b),(14,I 1)],[nilM,[q0,q1,q2,q3,q4]],gh⟩=fg ⟨[(2,ec),(5,cr L),(6,eK),(7,I r),(8,I i),(9,cr (SL8 (w::u::rest))),(10,I kd),(12,dz A),(13,B b),(14,I ((2:Nat):Int))],[nilM,[q0,q1,q2,q3,q4]],gh⟩:=λA b=>by refine bg ?_;simp[q4a,F]
  have j:(0+1)*8<=maxBytes:=bz;unfold v3 at *
  have c:ed w=1\/ed w=2\/ed w=3\/ed w=4->(w=[105,110,105,116]\/w=[110,101,120,116]\/w=[98,97,100]\/w=[104,111,108,100])->
    bm pg q7e ⟨[(2,ec),(5,cr L),(6,eK),(7,I r),(8,I i),(9,cr (SL8 (w::u::rest))),(10,I kd),(12,dz []),(13,B true),(14,I ((1:Nat):Int))],[nilM,[q0,q1,q2,q3,q4]],gh⟩=
     fg ⟨[(2,ec),(5,cr L),(6,eK),(7,I r),(8,I i),(9,cr (SL8 (w::u::rest))),(10,I kd),(12,dz (((dH w (u::rest)).map bp).map I)),(13,B ((dH w (u::rest)).all λx=>decide (0<=bp x)))],[nilM,[q0,q1,q2,q3,q4]],gh⟩:=by
   intro O hw;have d:dH w (u::rest)=u::rest:=by unfold dH;rw[if_neg aj]
   rw[d,bS,List.all_cons];have hr:=a [bp u] (decide (0<=bp u)) bh;rw[List.singleton_append] at hr;generalize bp u=z at *;simp only[bS,bU] at hr ⊢;refine ay (bg (r:=some (_,⟨[(2,ec),(5,cr L),(6,eK),(7,I r),(8,I i),(9,cr (SL8 (w::u::rest))),(10,I kd),(12,dz [I z]),(13,B (decide (0<=z))),(14,I ((2:Nat):Int))],[nilM,[q0,q1,q2,q3,q4]],gh⟩)) ?Y) hr
   case Y=>
    clear hr a;simp only[bS] at e ⊢;have n:(⟨#[105,110,105,116]⟩:ByteArray)=bA [105,110,105,116]:=rfl;have m:(⟨#[110,101,120,116]⟩:ByteArray)=bA [110,101,120,116]:=rfl;have p:(⟨#[98,97,100]⟩:ByteArray)=bA [98,97,100]:=rfl;have o:(⟨#[104,111,108,100]⟩:ByteArray)=bA [104,111,108,100]:=rfl;simp[q3h,n,m,p,o];rcases hw with rfl|rfl|rfl|rfl<;>simp[g,D,j,e,show Nat.ble 1 2=true from rfl,show Nat.ble 2 2=true from rfl]
  rcases vG w with ⟨h,l,k⟩|⟨h,l,k⟩|⟨h,l,k⟩|⟨h,l,k⟩|⟨C,y,v,t,N,s⟩
  ·exact c aj (by simp[h])
  ·exact c aj (by simp[h])
  ·exact c aj (by simp[h])
  ·exact c aj (by simp[h])
  ·have d:dH w (u::rest)=rest:=by unfold dH;rw[if_pos s];rfl
   rw[d];have hr:=a [] true bh;rw[bF,Bool.true_and] at hr;simp only[bU] at hr ⊢;refine ay (bg (r:=some (_,⟨[(2,ec),(5,cr L),(6,eK),(7,I r),(8,I i),(9,cr (SL8 (w::u::rest))),(10,I kd),(12,dz []),(13,B true),(14,I ((2:Nat):Int))],[nilM,[q0,q1,q2,q3,q4]],gh⟩)) ?K) hr
   case K=>
    clear hr a c;simp only[bS] at e ⊢;have n:(⟨#[105,110,105,116]⟩:ByteArray)=bA [105,110,105,116]:=rfl;have m:(⟨#[110,101,120,116]⟩:ByteArray)=bA [110,101,120,116]:=rfl;have p:(⟨#[98,97,100]⟩:ByteArray)=bA [98,97,100]:=rfl;have o:(⟨#[104,111,108,100]⟩:ByteArray)=bA [104,111,108,100]:=rfl;simp[q3h,n,m,p,o];simp[g,C,y,v,t,e,show Nat.ble 1 2=true from rfl,show Nat.ble 2 2=true from rfl]
end
end
section
attribute [local congr] bu
attribute [local simp] au
section
variable {gh:fB} {m:Md} {L:fw} {i:Int}
abbrev e5 (L:fw) (t i:Int):fT:=[(2,ec),(5,cr L),(6,eK),(7,I t),(8,I i)]
theorem MF {x:Nd} {t:Int} (o:m.nodes.length<=20000) :
  bm pg qb7 ⟨[(2,ec),(5,cr L),(6,eK),(7,I t),(8,I i),(17,eU)],[nilM,mR m,nC x],gh⟩=fg ⟨e5 L t i,[nilM,mR (eC m x)],gh⟩:=by
 have d:((m.nodes.map nodeV).length+1)*48<=maxBytes:=cC (by rw[aW];omega:_<=20001*48) bz;have e:mR (eC m x)=[.sl true 6 (m.nodes.map nodeV++[.agg [I x.k,I x.w,I x.a,I x.b,I x.c,I x.n]]),.sl true 2 (m.inits.map andV),.sl true 2 (m.nexts.map andV),dz (m.bads.map I),dz (m.holds.map I)]:=by simp[mR,eC,nodeV]
 rw[e];refine bg ?_;unfold mR;generalize m.nodes.map nodeV=l,m.inits.map andV=j,m.nexts.map andV=h,m.bads.map I=g,m.holds.map I=f at *;simp[qb7,d]
theorem NX {v:fq} {j:Nat} (h:j<v.length):(v.map I)[j]?=some (I (v.getD j 0)):=by rw[aB,aA h,aK,aA h];rfl
theorem MG {kd w a b c t:Int} {v:fq} (F:m.nodes.length<=20000) (D:(v.length:Int)=ch kd) :
  bm pg q4c ⟨[(2,ec),(5,cr L),(6,eK),(7,I t),(8,I i),(10,I kd),(12,dz (v.map I)),(16,I (ch kd)),(17,eU)],[nilM,mR m,[I kd,I w,I a,I b,I c,I 0]],gh⟩=
   fg ⟨e5 L t i,[nilM,mR (eC m ⟨kd,w,a,b,c,if kd=1\/kd=21 then v.getD (ch kd-1).toNat 0 else 0⟩)],gh⟩:=by
 have E:=gD kd;have g:=λn=>MF (gh:=gh) (m:=m) (L:=L) (i:=i) (t:=t) (x:=⟨kd,w,a,b,c,n⟩) F
 refine bg ?_;by_cases k:kd=1\/kd=21
 ·rw[if_pos k]
  have hw:ch kd=2+ar kd:=by unfold ch;rw[if_pos k];omega
  have s:WI.wrap (ch kd-1)=ch kd-1:=aq aj aj;have q:=NX (v:=v) (j:=(ch kd-1).toNat) aj;have l:(1:Int)<=ch kd:=aj;have f:=g (v.getD (ch kd-1).toNat 0);unfold nC at f;simp only at f;generalize v.getD (ch kd-1).toNat 0=z,v.map I=e at *;generalize mR (eC m ⟨kd,w,a,b,c,z⟩)=G at *;unfold mR at *;generalize m.nodes.map nodeV=C,m.inits.map andV=B,m.nexts.map andV=A,m.bads.map I=y at *;generalize m.holds.map I=u,H:ch kd=d at *;generalize r:(d-1).toNat=N at *;clear g E hw D;by_cases o:kd=1
  ·simp[q4c,o,s,r,q,l]
   simp[o] at f;simp[f]
  ·have p:kd=21:=k.resolve_left o
   simp[q4c,p,s,r,q,l];simp[p] at f;simp[f]
 ·rw[if_neg k]
  have o:¬kd=1:=λh=>k (.inl h)
  have p:¬kd=21:=λh=>k (.inr h)
  have f:=g 0;unfold nC at f;simp only at f;generalize v.map I=e,mR (eC m ⟨kd,w,a,b,c,0⟩)=G at *;unfold mR at *;generalize m.nodes.map nodeV=C,m.inits.map andV=B,m.nexts.map andV=A,m.bads.map I=y,m.holds.map I=u at *;simp[q4c,o,p,f]
theorem MH {kd w a b t:Int} {v:fq} (s:m.nodes.length<=20000) (r:(v.length:Int)=ch kd) :
  bm pg q7f ⟨[(2,ec),(5,cr L),(6,eK),(7,I t),(8,I i),(10,I kd),(12,dz (v.map I)),(16,I (ch kd)),(17,eU)],[nilM,mR m,[I kd,I w,I a,I b,I 0,I 0]],gh⟩=
   fg ⟨e5 L t i,[nilM,mR (eC m ⟨kd,w,a,b,if 2<ar kd then v.getD 3 0 else 0,if kd=1\/kd=21 then v.getD (ch kd-1).toNat 0 else 0⟩)],gh⟩:=by
 have h:=λG=>gp kd G
 have q:ar kd+1<=ch kd:=by unfold ch;split<;>omega
 have e:=λc=>MG (gh:=gh) (m:=m) (L:=L) (i:=i) (t:=t) (kd:=kd) (w:=w) (a:=a) (b:=b) (c:=c) (v:=v) s r
 refine bg ?_;by_cases f:2<ar kd
 ·rw[if_pos f]
  have u:=NX (v:=v) (j:=3) aj;have g:=e (v.getD 3 0);generalize v.getD 3 0=z,mR (eC m _)=x,v.map I=d at *;unfold mR at *;generalize m.nodes.map nodeV=p,m.inits.map andV=o,m.nexts.map andV=n,m.bads.map I=l,m.holds.map I=k,ar kd=tk at *;simp[q7f,h,f,u,g]
 ·rw[if_neg f]
  have g:=e 0;generalize mR (eC m _)=x,v.map I=d at *;unfold mR at *;generalize m.nodes.map nodeV=p,m.inits.map andV=o,m.nexts.map andV=n,m.bads.map I=l,m.holds.map I=k,ar kd=tk at *;simp[q7f,h,f,g]
theorem MI {kd w a t:Int} {v:fq} (r:m.nodes.length<=20000) (q:(v.length:Int)=ch kd) :
  bm pg q7g ⟨[(2,ec),(5,cr L),(6,eK),(7,I t),(8,I i),(10,I kd),(12,dz (v.map I)),(16,I (ch kd)),(17,eU)],[nilM,mR m,[I kd,I w,I a,I 0,I 0,I 0]],gh⟩=
   fg ⟨e5 L t i,[nilM,mR (eC m ⟨kd,w,a,if 1<ar kd then v.getD 2 0 else 0,if 2<ar kd then v.getD 3 0 else 0,if kd=1\/kd=21 then v.getD (ch kd-1).toNat 0 else 0⟩)],gh⟩:=by
 have g:=λG=>gp kd G
 have p:ar kd+1<=ch kd:=by unfold ch;split<;>omega
 have d:=λb=>MH (gh:=gh) (m:=m) (L:=L) (i:=i) (t:=t) (kd:=kd) (w:=w) (a:=a) (b:=b) (v:=v) r q
 refine bg ?_;by_cases e:1<ar kd
 ·rw[if_pos e]
  have s:=NX (v:=v) (j:=2) aj;have f:=d (v.getD 2 0);generalize v.getD 2 0=z,mR (eC m _)=u,v.map I=c at *;unfold mR at *;generalize m.nodes.map nodeV=o,m.inits.map andV=n,m.nexts.map andV=l,m.bads.map I=k,m.holds.map I=h,ar kd=tk at *;simp[q7g,g,e,s,f]
 ·rw[if_neg e]
  have f:=d 0;generalize mR (eC m _)=u,v.map I=c at *;unfold mR at *;generalize m.nodes.map nodeV=o,m.inits.map andV=n,m.nexts.map andV=l,m.bads.map I=k,m.holds.map I=h,ar kd=tk at *;simp[q7g,g,e,f]
def kc (m:Md) (t a:Int) (v:fq):Md:=if t=0 then eC m (iS a v) else fd m t v
abbrev iC (i:Int) (a:fB):gq:=fo ⟨[(2,ec),(3,I (i+1)),(4,I 1)],[nilM],a⟩
theorem MJ {r kd t want:Int} {v:fq} {b:Bool} (y:MdZ m 20000) (hi:0<=i/\i<=1000000) (ht:0<=t/\t<=4) (hw:want=if t=0 then ch kd else hZ t) :
  bm pg q17 ⟨[(2,ec),(5,cr L),(6,eK),(7,I r),(8,I i),(10,I kd),(12,dz (v.map I)),(13,B b),(15,I t),(16,I want)],[nilM,mR m],gh⟩=
   if b=true/\(v.length:Int)=want/\r<=t then fg ⟨e5 L t i,[nilM,mR (kc m t kd v)],gh⟩ else iC i gh:=by
 have N:WI.wrap (i+1)=i+1:=aq aj aj;have l:(v.map I).length=v.length:=aW _;by_cases D:b=true
 ·subst D
  by_cases k:(v.length:Int)=want
  ·by_cases hr:r<=t
   ·rw [if_pos ⟨rfl,k,hr⟩]
    have g:¬t<r:=aj;have f:((v.map I).length:Int)=want:=by rw[l];exact k
    refine bg ?_;by_cases M:t=0
    ·subst M
     rw[if_pos rfl] at hw;have P:=λG=>gp kd G
     have U:ar kd+1<=ch kd:=by unfold ch;split<;>omega
     have X:=gD kd;have A:=λw a=>MI (gh:=gh) (m:=m) (L:=L) (i:=i) (t:=0) (kd:=kd) (w:=w) (a:=a) (v:=v) y.nodes aj
     have z:=NX (v:=v) (j:=0) aj;rw[<-hw] at A;have C:kc m 0 kd v=eC m ⟨kd,v.getD 0 0,if 0<ar kd then v.getD 1 0 else 0,if 1<ar kd then v.getD 2 0 else 0,if 2<ar kd then v.getD 3 0 else 0,if kd=1\/kd=21 then v.getD (ch kd-1).toNat 0 else 0⟩:=by unfold kc iS;rw[if_pos rfl]
     rw[C];by_cases E:0<ar kd
     ·rw[if_pos E]
      have H:=NX (v:=v) (j:=1) aj;have F:=A (v.getD 0 0) (v.getD 1 0);rw[<-hw];clear A C;generalize v.getD 0 0=T,v.getD 1 0=O,mR (eC m _)=M2,v.map I=d at *;unfold mR at *;generalize m.nodes.map nodeV=x,m.inits.map andV=u,m.nexts.map andV=s,m.bads.map I=q,m.holds.map I=p,ar kd=tk at *;simp[q17,f,g,P,E,z,H,F,show Nat.ble 1 2=true from rfl,show Nat.ble 2 2=true from rfl]
     ·rw[if_neg E]
      have F:=A (v.getD 0 0) 0;rw[<-hw];clear A C;generalize v.getD 0 0=T,mR (eC m _)=M2,v.map I=d at *;unfold mR at *;generalize m.nodes.map nodeV=x,m.inits.map andV=u,m.nexts.map andV=s,m.bads.map I=q,m.holds.map I=p,ar kd=tk at *;simp[q17,f,g,P,E,z,F,show Nat.ble 1 2=true from rfl,show Nat.ble 2 2=true from rfl]
    ·rw[if_neg M] at hw
     have C:kc m t kd v=fd m t v:=by unfold kc;rw[if_neg M]
     rw[C];have O:((m.inits.map andV).length+1)*16<=maxBytes:=cC (by have:=y.inits;rw[aW];omega:_<=20001*16) bz;have S:((m.nexts.map andV).length+1)*16<=maxBytes:=cC (by have:=y.nexts;rw[aW];omega:_<=20001*16) bz;have R:((m.bads.map I).length+1)*8<=maxBytes:=cC (by have:=y.bads;rw[aW];omega:_<=20001*8) bz;have Q:((m.holds.map I).length+1)*8<=maxBytes:=cC (by have:=y.holds;rw[aW];omega:_<=20001*8) bz;have n:t=1\/t=2\/t=3\/t=4:=aj;rcases n with rfl|rfl|rfl|rfl
     ·have e:want=2:=hw
      subst e
      match v,k with
      |[a,c],_=>
       have o:mR (fd m 1 [a,c])=[.sl true 6 (m.nodes.map nodeV),.sl true 2 (m.inits.map andV++[.agg [I a,I c]]),.sl true 2 (m.nexts.map andV),dz (m.bads.map I),dz (m.holds.map I)]:=by simp[mR,fd,andV]
       rw[o];unfold mR;generalize m.nodes.map nodeV=x,m.inits.map andV=u,m.nexts.map andV=s,m.bads.map I=q,m.holds.map I=p at *;simp[q17,g,O,aw]
     ·have e:want=2:=hw
      subst e
      match v,k with
      |[a,c],_=>
       have o:mR (fd m 2 [a,c])=[.sl true 6 (m.nodes.map nodeV),.sl true 2 (m.inits.map andV),.sl true 2 (m.nexts.map andV++[.agg [I a,I c]]),dz (m.bads.map I),dz (m.holds.map I)]:=by simp[mR,fd,andV]
       rw[o];unfold mR;generalize m.nodes.map nodeV=x,m.inits.map andV=u,m.nexts.map andV=s,m.bads.map I=q,m.holds.map I=p at *;simp[q17,g,S,aw]
     ·have e:want=1:=hw
      subst e
      match v,k with
      |[a],_=>
       have o:mR (fd m 3 [a])=[.sl true 6 (m.nodes.map nodeV),.sl true 2 (m.inits.map andV),.sl true 2 (m.nexts.map andV),dz (m.bads.map I++[I a]),dz (m.holds.map I)]:=by simp[mR,fd]
       rw[o];unfold mR;generalize m.nodes.map nodeV=x,m.inits.map andV=u,m.nexts.map andV=s,m.bads.map I=q,m.holds.map I=p at *;simp[q17,g,R,aw]
     ·have e:want=1:=hw
      subst e
      match v,k with
      |[a],_=>
       have o:mR (fd m 4 [a])=[.sl true 6 (m.nodes.map nodeV),.sl true 2 (m.inits.map andV),.sl true 2 (m.nexts.map andV),dz (m.bads.map I),dz (m.holds.map I++[I a])]:=by simp[mR,fd]
       rw[o];unfold mR;generalize m.nodes.map nodeV=x,m.inits.map andV=u,m.nexts.map andV=s,m.bads.map I=q,m.holds.map I=p at *;simp[q17,g,Q,aw]
   ·rw[if_neg (λh=>hr h.2.2)]
    have f:((v.map I).length:Int)=want:=by rw[l];exact k
    refine bg ?_;generalize v.map I=d at *;simp[q17,f,show t<r by omega,N]
  ·rw[if_neg (λh=>k h.2.1)]
   have f:¬((v.map I).length:Int)=want:=by rw[l];exact k
   refine bg ?_;generalize v.map I=d at *;simp[q17,f,N]
 ·have D:b=false:=by simpa using D
  subst D;rw[if_neg bh];refine bg ?_;generalize v.map I=d at *;simp[q17,N]
def fM (m:Md) (w:List UInt8) (a t:Int) (rest:List (List UInt8)):Bool:=
 let f:=(dH w rest).all λx=>decide (0<=bp x)
 if t=0 then f&&(decide (bp w=(m.nodes.length:Int))&&decide (0<a)) else f
def fU (t a:Int):Int:=if t=0 then ch a else hZ t
theorem ML {r kd t w16:Int} {v:fq} {w:List UInt8} {rest:List (List UInt8)} (P:MdZ m 20000) (S:0<=i/\i<=1000000) (R:0<=t/\t<=4) (hw:t≠0->w16=hZ t) :
  bm pg q3i ⟨[(2,ec),(5,cr L),(6,eK),(7,I r),(8,I i),(9,cr (SL8 (w::rest))),(10,I kd),(12,dz (v.map I)),(13,B ((dH w rest).all λx=>decide (0<=bp x))),(15,I t),(16,I w16)],[nilM,mR m],gh⟩=
   if fM m w kd t rest=true/\(v.length:Int)=fU t kd/\r<=t then fg ⟨e5 L t i,[nilM,mR (kc m t kd v)],gh⟩ else iC i gh:=by
 have o:=λ(b:Bool)=>MJ (gh:=gh) (m:=m) (L:=L) (i:=i) (r:=r) (kd:=kd) (t:=t) (want:=fU t kd) (v:=v) (b:=b) P S R rfl
 have y:(m.nodes.map nodeV).length=m.nodes.length:=aW _;by_cases l:t=0
 ·have e:fM m w kd t rest=(((dH w rest).all λx=>decide (0<=bp x))&&(decide (bp w=(m.nodes.length:Int))&&decide (0<kd))):=by unfold fM;rw[if_pos l]
  rw[e];have n:fU t kd=ch kd:=by unfold fU;rw[if_pos l]
  rw[n] at o ⊢;generalize ((dH w rest).all λx=>decide (0<=bp x))=f at *;have M:=λG=>vx (gh:=G) (x:=w)
  have A:=λG=>gp kd G
  have Q:=gD kd;have C:WI.wrap (1+ar kd)=1+ar kd:=aq aj aj;have O:WI.wrap (1+ar kd+1)=1+ar kd+1:=aq aj aj
  have N:∀want:Int,bm pg q4b ⟨[(2,ec),(5,cr L),(6,eK),(7,I r),(8,I i),(9,cr (SL8 (w::rest))),(10,I kd),(12,dz (v.map I)),(13,B f),(15,I t),(16,I want)],[nilM,mR m],gh⟩=
    fg ⟨[(2,ec),(5,cr L),(6,eK),(7,I r),(8,I i),(10,I kd),(12,dz (v.map I)),(13,B (f&&(decide (bp w=(m.nodes.length:Int))&&decide (0<kd)))),(15,I t),(16,I want)],[nilM,mR m],gh⟩:=λwant=>by
   refine bg ?_;rw[<-y];unfold mR;generalize v.map I=a,m.nodes.map nodeV=u,m.inits.map andV=H,m.nexts.map andV=F,m.bads.map I=E,m.holds.map I=D,bp w=z at *;cases f
   ·simp[q4b]
   ·by_cases q:z=(u.length:Int)
    ·simp[q4b,M,q]
    ·simp[q4b,M,q]
  have d:=N (ch kd);have c:=o (f&&(decide (bp w=(m.nodes.length:Int))&&decide (0<kd)));clear N o;generalize (f&&(decide (bp w=(m.nodes.length:Int))&&decide (0<kd)))=T at *;obtain⟨s,p,h⟩:∃s p,(if T=true/\(v.length:Int)=ch kd/\r<=t then fg ⟨e5 L t i,[nilM,mR (kc m t kd v)],gh⟩ else iC i gh)=some (s,p):=by split<;>exact⟨_,_,rfl⟩
  rw[h] at c ⊢;clear h;refine bg ?_;generalize v.map I=a at *;have g:ch kd=1+ar kd+(if kd=1\/kd=21 then 1 else 0):=rfl;unfold mR at *;generalize m.nodes.map nodeV=u,m.inits.map andV=H,m.nexts.map andV=F,m.bads.map I=E,m.holds.map I=D,ar kd=tk at *;simp only[bS] at d ⊢;subst l;by_cases k:kd=1
  ·rw[if_pos (.inl k)] at g
   rw[g] at d c;subst k;simp[q3i,A,C,O,d,c,show Nat.ble 1 2=true from rfl,show Nat.ble 2 2=true from rfl]
  ·by_cases j:kd=21
   ·rw[if_pos (.inr j)] at g
    rw[g] at d c;subst j;simp[q3i,A,C,O,d,c,show Nat.ble 1 2=true from rfl,show Nat.ble 2 2=true from rfl]
   ·rw[if_neg aj,Int.add_zero] at g
    rw[g] at d c;simp[q3i,A,k,j,C,d,c,show Nat.ble 1 2=true from rfl,show Nat.ble 2 2=true from rfl]
 ·have e:fM m w kd t rest=((dH w rest).all λx=>decide (0<=bp x)):=by unfold fM;rw[if_neg l]
  rw[e];have n:fU t kd=w16:=by unfold fU;rw[if_neg l,hw l]
  rw[n] at o ⊢;generalize ((dH w rest).all λx=>decide (0<=bp x))=f at *;have c:=o f;clear o;obtain⟨s,p,h⟩:∃s p,(if f=true/\(v.length:Int)=w16/\r<=t then fg ⟨e5 L t i,[nilM,mR (kc m t kd v)],gh⟩ else iC i gh)=some (s,p):=by split<;>exact⟨_,_,rfl⟩
  rw[h] at c ⊢;clear h;refine bg ?_;generalize v.map I=a at *;unfold mR at *;generalize m.nodes.map nodeV=u,m.inits.map andV=H,m.nexts.map andV=F,m.bads.map I=E,m.holds.map I=D at *;simp only[bS];simp[q3i,l,c]
theorem Tk {r kd:Int} {v:fq} {w:List UInt8} {rest:List (List UInt8)} (E:MdZ m 20000) (G:0<=i/\i<=1000000) :
  bm pg qb8 ⟨[(2,ec),(5,cr L),(6,eK),(7,I r),(8,I i),(9,cr (SL8 (w::rest))),(10,I kd),(12,dz (v.map I)),(13,B ((dH w rest).all λx=>decide (0<=bp x)))],[nilM,mR m],gh⟩=
   if fM m w kd (dq w) rest=true/\(v.length:Int)=fU (dq w) kd/\r<=dq w then fg ⟨e5 L (dq w) i,[nilM,mR (kc m (dq w) kd v)],gh⟩ else iC i gh:=by
 have s:∀t,0<=t/\t<=4->bm pg q7h ⟨[(2,ec),(5,cr L),(6,eK),(7,I r),(8,I i),(9,cr (SL8 (w::rest))),(10,I kd),(12,dz (v.map I)),(13,B ((dH w rest).all λx=>decide (0<=bp x))),(15,I t)],[nilM,mR m],gh⟩=
   if fM m w kd t rest=true/\(v.length:Int)=fU t kd/\r<=t then fg ⟨e5 L t i,[nilM,mR (kc m t kd v)],gh⟩ else iC i gh:=λt F=>by
  have g:=ML (gh:=gh) (m:=m) (L:=L) (i:=i) (r:=r) (kd:=kd) (t:=t) (w16:=hZ t) (v:=v) (w:=w) (rest:=rest) E G F (λ_=>rfl);obtain⟨k,j,d⟩:∃k j,(if fM m w kd t rest=true/\(v.length:Int)=fU t kd/\r<=t then fg ⟨e5 L t i,[nilM,mR (kc m t kd v)],gh⟩ else iC i gh)=some (k,j):=by split<;>exact⟨_,_,rfl⟩
  rw[d] at g ⊢;clear d;refine bg ?_;generalize ((dH w rest).all λx=>decide (0<=bp x))=f,v.map I=a at *;unfold mR at *;generalize m.nodes.map nodeV=C,m.inits.map andV=A,m.nexts.map andV=z,m.bads.map I=y,m.holds.map I=u at *;simp only[bS] at g ⊢;unfold hZ at g;by_cases c:2<t
  ·rw[if_pos c] at g
   simp[q7h,c,g]
  ·rw[if_neg c] at g
   simp[q7h,c,g]
 have M:(⟨#[105,110,105,116]⟩:ByteArray)=bA [105,110,105,116]:=rfl;have H:(⟨#[110,101,120,116]⟩:ByteArray)=bA [110,101,120,116]:=rfl;have O:(⟨#[98,97,100]⟩:ByteArray)=bA [98,97,100]:=rfl;have N:(⟨#[104,111,108,100]⟩:ByteArray)=bA [104,111,108,100]:=rfl;have b:=s (dq w) (by rcases vG w with ⟨h,e,c⟩|⟨h,e,c⟩|⟨h,e,c⟩|⟨h,e,c⟩|⟨q,p,o,n,l,D⟩<;>omega);clear s;obtain⟨k,j,d⟩:∃k j,(if fM m w kd (dq w) rest=true/\(v.length:Int)=fU (dq w) kd/\r<=dq w then fg ⟨e5 L (dq w) i,[nilM,mR (kc m (dq w) kd v)],gh⟩ else iC i gh)=some (k,j):=by split<;>exact⟨_,_,rfl⟩
 rw[d] at b ⊢;clear d;refine bg ?_;generalize ((dH w rest).all λx=>decide (0<=bp x))=f,v.map I=a at *;unfold mR at *;generalize m.nodes.map nodeV=C,m.inits.map andV=A,m.nexts.map andV=z,m.bads.map I=y,m.holds.map I=u at *;simp only[bS] at b ⊢;simp[qb8,M,H,O,N];rcases vG w with ⟨h,e,c⟩|⟨h,e,c⟩|⟨h,e,c⟩|⟨h,e,c⟩|⟨q,p,o,n,l,D⟩
 ·rw[e] at b;subst h;simp[b]
 ·rw[e] at b;subst h;simp[b]
 ·rw[e] at b;subst h;simp[b]
 ·rw[e] at b;subst h;simp[b]
 ·rw[l] at b;simp[q,p,o,n,b]
def ig:List (List UInt8)->Int
 |[]=>0
 |u::_=>de u
def lq (m:Md) (r:Int) (w:List UInt8) (rest:List (List UInt8)):Option (Md×Int):=
 if fM m w (ig rest) (dq w) rest=true/\(((dH w rest).map bp).length:Int)=fU (dq w) (ig rest)/\r<=dq w then some (kc m (dq w) (ig rest) ((dH w rest).map bp),dq w) else none
theorem MN {r kd:Int} {w:List UInt8} {rest:List (List UInt8)} (o:MdZ m 20000) (s:0<=i/\i<=1000000) (p:rest.length<=90000) (q:kd=ig rest) :
  bm pg qb9 ⟨[(2,ec),(5,cr L),(6,eK),(7,I r),(8,I i),(9,cr (SL8 (w::rest))),(10,I kd)],[nilM,mR m],gh⟩=
   match lq m r w rest with
   |some (g,e)=>fg ⟨e5 L e i,[nilM,mR g],gh⟩
   |none=>iC i gh:=by
 have h:=Tk (gh:=gh) (m:=m) (L:=L) (i:=i) (r:=r) (kd:=kd) (v:=(dH w rest).map bp) (w:=w) (rest:=rest) o s;have j:=λq0 q1 q2 q3 q4=>ME (gh:=gh) (r:=r) (L:=L) (i:=i) (kd:=kd) (w:=w) (rest:=rest) (q0:=q0) (q1:=q1) (q2:=q2) (q3:=q3) (q4:=q4) p
 have l:(match lq m r w rest with
   |some (g,e)=>fg ⟨e5 L e i,[nilM,mR g],gh⟩
   |none=>iC i gh)=(if fM m w kd (dq w) rest=true/\(((dH w rest).map bp).length:Int)=fU (dq w) kd/\r<=dq w then fg ⟨e5 L (dq w) i,[nilM,mR (kc m (dq w) kd ((dH w rest).map bp))],gh⟩ else iC i gh):=by
  unfold lq;rw[<-q];by_cases b:fM m w kd (dq w) rest=true/\(((dH w rest).map bp).length:Int)=fU (dq w) kd/\r<=dq w
  ·rw[if_pos b,if_pos b]
  ·rw[if_neg b,if_neg b]
 rw[l];clear l;obtain⟨n,k,c⟩:∃n k,(if fM m w kd (dq w) rest=true/\(((dH w rest).map bp).length:Int)=fU (dq w) kd/\r<=dq w then fg ⟨e5 L (dq w) i,[nilM,mR (kc m (dq w) kd ((dH w rest).map bp))],gh⟩ else iC i gh)=some (n,k):=by split<;>exact⟨_,_,rfl⟩
 rw[c] at h ⊢;clear c;refine bg ?_;unfold v3 at j;generalize ((dH w rest).all λx=>decide (0<=bp x))=f,((dH w rest).map bp).map I=a at *;unfold mR at *;have d:=j (.sl true 6 (m.nodes.map nodeV)) (.sl true 2 (m.inits.map andV)) (.sl true 2 (m.nexts.map andV)) (dz (m.bads.map I)) (dz (m.holds.map I));clear j;generalize m.nodes.map nodeV=q0,m.inits.map andV=q1,m.nexts.map andV=q2,m.bads.map I=q3,m.holds.map I=q4 at *;simp only[bS,bU,Int.natCast_one] at d h ⊢
 generalize rest.map (λx=>PV.str (bA x))=R at *;simp[qb9,d,h]
theorem MO {r:Int} {ls:List (List UInt8)} {j:Nat} {x w:List UInt8} {rest:List (List UInt8)} (N:MdZ m 20000) (hj:j+1<ls.length) (Q:ls.length<=100000) (P:ls[j]?=some x) (O:x.length<=80000) (C:cu 32 x=w::rest) :
  bm pg q4d ⟨e5 (SL8 ls) r (j:Nat),[nilM,mR m],gh⟩=
   match lq m r w rest with
   |some (b,z)=>fg ⟨e5 (SL8 ls) z ((j+1:Nat):Int),[nilM,mR b],gh⟩
   |none=>iC (j:Nat) gh:=by
 have q:=lm 32 x;rw[C] at q;simp only[aV] at q;have y:=λG=>QC (gh:=G) (s:=x) (c:=32) aj
 rw[C] at y;have B:((32:UInt8).toNat:Int)=32:=rfl;simp only[B] at y;have E:(SL8 ls)[j]?=some (.str (bA x)):=by rw[aB,P];rfl
 have A:(SL8 ls).length=ls.length:=aW _;have H:WI.wrap (((SL8 ls).length:Int)-1)=((ls.length-1:Nat):Int):=by rw[A,aq aj aj];omega
 have S:WI.wrap ((j:Int)+1)=((j+1:Nat):Int):=by rw[aq aj aj];omega
 have F:(j<(ls.length-1)):=aj;have l:=MN (gh:=gh) (m:=m) (L:=SL8 ls) (i:=(j:Nat)) (r:=r) (kd:=ig rest) (w:=w) (rest:=rest) N aj aj rfl
 have v:∀k h g f e:PV,bm pg q7d ⟨[(2,ec),(5,cr (SL8 ls)),(6,eK),(7,I r),(8,I (j:Nat)),(9,cr (SL8 (w::rest))),(10,I 0),(11,I 1)],[nilM,[k,h,g,f,e]],gh⟩=
   fg ⟨[(2,ec),(5,cr (SL8 ls)),(6,eK),(7,I r),(8,I (j:Nat)),(9,cr (SL8 (w::rest))),(10,I (ig rest))],[nilM,[k,h,g,f,e]],gh⟩:=λk h g f e=>by
  match rest with
  |[]=>exact MD
  |u::rest=>
   have:=Cw (gh:=gh) (r:=r) (L:=SL8 ls) (i:=(j:Nat)) (w:=w) (u:=u) (rest:=rest) (M:=[k,h,g,f,e]) rfl 23 1 0 aj aj;rw[Int.natCast_one,MA u] at this;exact this
 have n:∀(t:Int) (k h g f e:PV),bm pg qba ⟨[(2,ec),(5,cr (SL8 ls)),(6,eK),(7,I t),(8,I (j:Nat))],[nilM,[k,h,g,f,e]],gh⟩=fg ⟨[(2,ec),(5,cr (SL8 ls)),(6,eK),(7,I t),(8,I ((j+1:Nat):Int))],[nilM,[k,h,g,f,e]],gh⟩:=λt k h g f e=>by refine bg ?_;simp[qba,S]
 have d:=v (.sl true 6 (m.nodes.map nodeV)) (.sl true 2 (m.inits.map andV)) (.sl true 2 (m.nexts.map andV)) (dz (m.bads.map I)) (dz (m.holds.map I));rw[show (SL8 (w::rest))= .str (bA w)::SL8 rest from rfl] at d l y;generalize SL8 rest=R,SL8 ls=a at *;clear v;cases D:lq m r w rest with
 |none=>
  rw[D] at l;simp only at l ⊢;refine bg ?_;unfold mR at l ⊢;generalize m.nodes.map nodeV=k,m.inits.map andV=h,m.nexts.map andV=g,m.bads.map I=f,m.holds.map I=e at *;simp[q4d,degr,H,F];simp[E,y,d,l]
 |some p=>
  obtain⟨b,z⟩:=p;rw[D] at l;simp only at l ⊢;refine bg ?_;have o:=n z (.sl true 6 (b.nodes.map nodeV)) (.sl true 2 (b.inits.map andV)) (.sl true 2 (b.nexts.map andV)) (dz (b.bads.map I)) (dz (b.holds.map I));clear n;unfold mR at l ⊢;generalize m.nodes.map nodeV=k,m.inits.map andV=h,m.nexts.map andV=g,m.bads.map I=f,m.holds.map I=e,b.nodes.map nodeV=p0,b.inits.map andV=p1,b.nexts.map andV=p2,b.bads.map I=X at *
  generalize b.holds.map I=U,((j+1:Nat):Int)=T at *;simp[q4d,degr,H,F];simp[E,y,d,l,o,show Nat.ble 1 2=true from rfl,show Nat.ble 2 2=true from rfl]
end
end
section
attribute [local congr] bu
attribute [local simp] au
theorem vH:∀l:List (List UInt8),eZ l=if (l.all λx=>decide (0<=bp x))=true then some (l.map bp) else none
 |[]=>rfl
 | x::l=>by
  rw[eZ,vH l,List.all_cons,bS];by_cases h:0<=bp x
  ·rw[if_pos h,aG h,Bool.true_and]
   split<;>rfl
  ·rw[if_neg h,aF h,Bool.false_and]
   rfl
theorem MP {m:Md} {r:Int} {x w:List UInt8} {rest:List (List UInt8)} (A:0<=r) (t:cu 32 x=w::rest):lq m r w rest=ia m r x:=by
 unfold ia;rw[t];simp only;by_cases j:ed w<1
 ·rw [if_pos j]
  have n:dq w=0:=by unfold dq;rw[if_pos j]
  unfold lq;rw[n]
  match rest with
  |[]=>
   have k:fM m w (ig []) 0 []=false:=by unfold fM ig;simp
   rw[if_neg (by rw[k];simp)];rfl
  | u::d=>
   have e:dH w (u::d)=d:=by unfold dH;rw[if_pos j];rfl
   rw[On,vH,e];have k:fM m w (ig (u::d)) 0 (u::d)=((d.all λx=>decide (0<=bp x))&&(decide (bp w=(m.nodes.length:Int))&&decide (0<de u))):=by unfold fM;rw[if_pos rfl,e];rfl
   rw[k];have y:=Co u;have g:fU 0 (ig (u::d))=ch (de u):=by unfold fU;rw[if_pos rfl];rfl
   have i:kc m 0 (ig (u::d)) (d.map bp)=eC m (iS (de u) (d.map bp)):=by unfold kc;rw[if_pos rfl];rfl
   rw[g,i];generalize (d.all λx=>decide (0<=bp x))=f;generalize d.map bp=v;by_cases l:bp w=(m.nodes.length:Int)/\r<=0/\de u≠0
   ·rw[if_pos l]
    obtain⟨a,b,c⟩:=l;have o:r=0:=aj;subst o;rw[aG a,aG (by omega:0<de u)];cases f
    ·simp
    ·by_cases q:(v.length:Int)=ch (de u)
     ·simp[q]
     ·simp[q]
   ·rw[if_neg l,if_neg]
    ·rfl
    ·rintro⟨p,z,s⟩
     simp only[aS,aH] at p;exact l ⟨p.2.1,s,aj⟩
 ·rw[if_neg j]
  have n:dq w=ed w:=by unfold dq;rw[if_neg j]
  have e:dH w rest=rest:=by unfold dH;rw[if_neg j]
  unfold lq;rw[n,e,vH];have h:ed w≠0:=aj;have k:fM m w (ig rest) (ed w) rest=(rest.all λx=>decide (0<=bp x)):=by unfold fM;rw[if_neg h,e]
  have g:fU (ed w) (ig rest)=hZ (ed w):=by unfold fU;rw[if_neg h]
  have i:kc m (ed w) (ig rest) (rest.map bp)=fd m (ed w) (rest.map bp):=by unfold kc;rw[if_neg h]
  rw[k,g,i];generalize (rest.all λx=>decide (0<=bp x))=f;cases f
  ·simp
  ·simp
theorem MQ {m b:Md} {r a:Int} {x:List UInt8} (c:0<=r) (h:ia m r x=some (b,a)):0<=a:=by
 unfold ia at h;split at h
 ·cases h
 ·split at h
  ·simp only[aE,bZ] at h
   obtain⟨_,_,_,rfl⟩:=h;exact c
  ·split at h
   ·split at h
    ·simp only[bW,bZ] at h
     omega
    ·cases h
   ·cases h
section
variable {gh:fB}
theorem Cy {ls:List (List UInt8)} {last:List UInt8} (v:ls.length<=10001) (c:ls[ls.length-1]?=some last) (i:∀x∈ls,x.length<=80000):∀k j (m:Md) (r:Int) (N:Nat),j+k+1=ls.length->0<=r->MdZ m N->N+k<=20000->
  (∃e:Nat,pgo (ls.drop j) m r (j+1)= .inl e/\bm pg qbb ⟨e5 (SL8 ls) r (j:Nat),[nilM,mR m],gh⟩=fo ⟨[(2,ec),(3,I (e:Int)),(4,I 1)],[nilM],gh⟩)\/
  (∃d:Md,pgo (ls.drop j) m r (j+1)=(if last=[] then .inr d else .inl ls.length)/\MdZ d (N+k)/\bm pg qbb ⟨e5 (SL8 ls) r (j:Nat),[nilM,mR m],gh⟩=fg ⟨[(2,ec),(5,cr (SL8 ls)),(6,eK)],[nilM,mR d],gh⟩)
 | 0,j,m,r,N,h,C,n,H=>by
  right;have A:ls.drop j=[last]:=by
   have b:j<ls.length:=aj;rw[aJ b,aM aj];have:ls[j]?=some last:=by rw[<-c];congr;omega
   rw[aA b] at this;rw[cZ this]
  refine⟨m,?_,n,?_⟩
  ·rw[A,Oq,show j+1=ls.length by omega]
  ·have y:(SL8 ls).length=ls.length:=aW _
   have M:WI.wrap (((SL8 ls).length:Int)-1)=((ls.length-1:Nat):Int):=by rw[y,aq aj aj];omega
   have L:¬(j<(ls.length-1)):=aj;generalize SL8 ls=a at *;refine (bn (s1:=⟨[(2,ec),(5,cr a),(6,eK),(7,I r),(8,I (j:Nat)),(29,B false)],[nilM,mR m],gh⟩) (bg ?J)).trans ?Z
   case J=>
    simp[q4d,degr,M,L]
   case Z=>simp[keep,bj]
 | k+1,j,m,r,N,h,C,n,H=>by
  have b:j<ls.length:=aj;have F:ls[j]?=some ls[j]:=aA b;have u:=i _ (cD b);obtain⟨w,rest,g⟩:=Cg 32 ls[j];have f:=MO (gh:=gh) (m:=m) (r:=r) (ls:=ls) (j:=j) (x:=ls[j]) (w:=w) (rest:=rest) (H0 n aj) aj aj F u g;rw[MP C g] at f;have A:ls.drop j=ls[j]::ls.drop (j+1):=aJ b;have l:j+1<ls.length:=aj;have z:ls.drop (j+1)=ls[j+1]::ls.drop (j+2):=aJ l;have G:pgo (ls.drop j) m r (j+1)=(match ia m r ls[j] with|none=> .inl (j+1)|some (d,q)=>pgo (ls.drop (j+1)) d q (j+1+1)):=by
   rw[A,z,OZ]
   all_goals (cases ia m r ls[j]<;>rfl)
  rw[G];cases o:ia m r ls[j] with
  |none=>
   rw[o] at f;left;refine⟨j+1,rfl,?_⟩;exact cx f
  | some p=>
   obtain⟨d,q⟩:=p;rw[o] at f;simp only at f ⊢;rcases Cy v c i k (j+1) d q (N+1) aj (MQ C o) (vF n o) aj with ⟨e,t,s⟩|⟨E,t,s,D⟩
   ·left
    exact⟨e,t,ay f s⟩
   ·right
    exact⟨E,t,H0 s aj,ay f D⟩
theorem MR {s:List UInt8} (hs:s.length<=2000000):ac pg 370 [.str (bA s)] gh=some (.tup [e9 (ie s).1,I (ie s).2.1,I (ie s).2.2],gh):=by
 have t:((bA s).size:Nat)=s.length:=gS s;unfold ie;by_cases O:10000<s.length
 ·rw[if_pos O]
  refine ak (fn:=qi) (s:=⟨[(2,ec),(3,I 0),(4,I 2)],[nilM],gh⟩) rfl rfl (bg ?J) ?Z
  case J=>simp[q3j,qi,t,show (10000:Int)<(s.length:Int) by omega]
  case Z=>simp[ag,results,qi,ah,am,St.cellsAt,af,e9,m0]
 ·rw [if_neg O]
  have h:¬(10000:Int)<(s.length:Int):=aj;have X:=lm 10 s;have D:=vu 10 s;have v:=λG=>QC (gh:=G) (s:=s) (c:=10) aj
  have M:((10:UInt8).toNat:Int)=10:=rfl;simp only[M] at v;generalize cu 10 s=ls at *;have F:ls.length-1<ls.length:=aj;have f:ls[ls.length-1]?=some ls[ls.length-1]:=aA F;have z:=Cy (gh:=gh) (ls:=ls) (last:=ls[ls.length-1]) aj f (λx U=>by have:=D x U;omega) (ls.length-1) 0 m0 0 0 aj aj (vE 0) aj;rw[bJ,cX] at z;have E:mR m0=nilM:=rfl;rw[E] at z;have L:(SL8 ls)[ls.length-1]?=some (.str (bA ls[ls.length-1])):=by rw[aB,f];rfl
  generalize ls[ls.length-1]=last at *;have q:(SL8 ls).length=ls.length:=aW _;have B:WI.wrap (((SL8 ls).length:Int)-1)=((ls.length-1:Nat):Int):=by rw[q,aq aj aj];omega
  have w:(0:Int)<=((ls.length-1:Nat):Int):=aj;have p:(((ls.length-1:Nat):Int)).toNat=ls.length-1:=Int.toNat_natCast _;have N:ByteArray.empty=bA []:=rfl;generalize SL8 ls=d at *;simp only[aR] at z;rcases z with ⟨e,C,y⟩|⟨m,C,y,r⟩
  ·rw[C]
   refine ak (fn:=qi) (s:=⟨[(2,ec),(3,I (e:Int)),(4,I 1)],[nilM],gh⟩) rfl rfl (bg ?Y) ?K
   case Y=>simp[q3j,qi,t,h,v,y]
   case K=>simp[ag,results,qi,ah,am,St.cellsAt,af,e9,m0]
  ·rw [C]
   have g:=JC (m:=m) (gh:=gh) (by simp only[Sz];have:=y.inits;omega) (by simp only[Sz];have:=y.nexts;omega);have T:=Ct m.nodes;have S:=H1 m.inits;have R:=H1 m.nexts;have Q:=wl m.bads;have P:=wl m.holds;rw[en] at g;simp only[LN,LP,LI] at g;by_cases i:last=[]
   ·rw[if_pos i]
    subst i;simp only;by_cases A:dc m=0
    ·rw[if_pos A]
     rw[A] at g;rw[en];simp only[LN,LP,LI];unfold mR at r;generalize m.nodes.map nodeV=o,m.inits.map andV=n,m.nexts.map andV=l,m.bads.map I=k,m.holds.map I=j at *;have u:bm pg q2l ⟨[(2,ec),(5,cr d),(6,eK)],[nilM,[.sl true 6 o,.sl true 2 n,.sl true 2 l,dz k,dz j]],gh⟩=fo ⟨[(2,ec),(3,I 0),(4,I 0)],[[.sl false 6 o,.sl false 2 n,.sl false 2 l,cr k,cr j]],gh⟩:=by refine bg ?_;simp[q2l,N,B,w,p,L,g,aw]
     refine ak (fn:=qi) (s:=⟨[(2,ec),(3,I 0),(4,I 0)],[[.sl false 6 o,.sl false 2 n,.sl false 2 l,cr k,cr j]],gh⟩) rfl rfl (bg ?V) ?W
     case V=>simp[q3j,qi,t,h,v,r,u]
     case W=>simp[ag,results,qi,ah,am,St.cellsAt,af,T,S,R,Q,P]
    ·rw[if_neg A]
     unfold mR at r;generalize dc m=e,m.nodes.map nodeV=o,m.inits.map andV=n,m.nexts.map andV=l,m.bads.map I=k,m.holds.map I=j at *;have u:bm pg q2l ⟨[(2,ec),(5,cr d),(6,eK)],[nilM,[.sl true 6 o,.sl true 2 n,.sl true 2 l,dz k,dz j]],gh⟩=fo ⟨[(2,ec),(3,I 0),(4,I e)],[nilM],gh⟩:=by refine bg ?_;simp[q2l,N,B,w,p,L,g,A,aw]
     refine ak (fn:=qi) (s:=⟨[(2,ec),(3,I 0),(4,I e)],[nilM],gh⟩) rfl rfl (bg ?Ja) ?Jb
     case Ja=>simp[q3j,qi,t,h,v,r,u]
     case Jb=>simp[ag,results,qi,ah,am,St.cellsAt,af,e9,m0]
   ·rw[if_neg i]
    simp only
    have H:last.isEmpty=false:=by cases last with
     |nil=>exact absurd rfl i
     |cons a b=>rfl
    unfold mR at r;generalize m.nodes.map nodeV=o,m.inits.map andV=n,m.nexts.map andV=l,m.bads.map I=k,m.holds.map I=j at *;have u:bm pg q2l ⟨[(2,ec),(5,cr d),(6,eK)],[nilM,[.sl true 6 o,.sl true 2 n,.sl true 2 l,dz k,dz j]],gh⟩=fo ⟨[(2,ec),(3,I (ls.length:Int)),(4,I 1)],[nilM],gh⟩:=by refine bg ?_;rw[q] at B;simp[q2l,N,B,p,L,H,q]
    refine ak (fn:=qi) (s:=⟨[(2,ec),(3,I (ls.length:Int)),(4,I 1)],[nilM],gh⟩) rfl rfl (bg ?Jc) ?Jd
    case Jc=>simp[q3j,qi,t,h,v,r,u]
    case Jd=>simp[ag,results,qi,ah,am,St.cellsAt,af,e9,m0]
end
end
section
attribute [local congr] bu
attribute [local simp] au
abbrev LLI (cls:ft):fw:=cls.map λl=>LI l
section
variable {gh:fB}
theorem QD {v:fq} (b:Sz v.length):∀k i,i+k=v.length->
  bm pg qi1 ⟨[(0,LI v),(1,LI v),(5,I (i:Int))],[],gh⟩=fg ⟨[],[],gh⟩
 |0,i,h=>by
  have a:¬i<v.length:=aj;refine (bn (s1:=?J) (bg ?Z)).trans ?Y
  case Z=>simp[qi0,a];rfl
  case Y=>simp[keep]
 |k+1,i,h=>by
  have a:i<v.length:=aj;have c:WI.wrap ((i:Int)+1)=((i+1:Nat):Int):=gv (by simp only[Sz] at b ⊢;omega);refine ay (s1:=⟨[(0,LI v),(1,LI v),(5,I ((i+1:Nat):Int))],[],gh⟩) (bg ?K) (QD b k (i+1) aj)
  case K=>simp[qi0,a,c]
theorem Ot {v:fq} (a:Sz v.length):ac pg 46 [LI v,LI v] gh=some (B true,gh):=by
 have h:=QD (gh:=gh) a v.length 0 aj;simp only[aR] at h;have b:=bg (c:=qi2) (s:=⟨[],[],gh⟩) (r:=fo ⟨[(4,B true)],[],gh⟩) (pg:=pg) (by simp[qi2]<;>rfl);refine ak (fn:=qi4) (s:=?J) rfl rfl (bg ?Z) ?Y
 case Z=>simp[qi3,qi4,h,b];rfl
 case Y=>simp[ag,results,qi4,ah,am,af]
theorem QE {cls:ft} (c:SL cls) (b:Sz cls.length):∀k i,i+k=cls.length->
  bm pg qog ⟨[(0,cr (LLI cls)),(1,cr (LLI cls)),(5,I (i:Int))],[],gh⟩=fg ⟨[],[],gh⟩
 |0,i,h=>by
  have a:¬i<cls.length:=aj;refine (bn (s1:=?J) (bg ?Z)).trans ?Y
  case Z=>simp[qmk,a];rfl
  case Y=>simp[keep]
 |k+1,i,h=>by
  have a:i<cls.length:=aj;have f:WI.wrap ((i:Int)+1)=((i+1:Nat):Int):=gv (by simp only[Sz] at b ⊢;omega);have d:(cls.map λl=>LI l)[i]?=some (LI cls[i]):=by simp[aA a]
  have e:=Ot (gh:=gh) (c _ (cD a));refine ay (s1:=⟨[(0,cr (LLI cls)),(1,cr (LLI cls)),(5,I ((i+1:Nat):Int))],[],gh⟩) (bg ?K) (QE c b k (i+1) aj)
  case K=>simp[qmk,a,d,e,f,-List.getElem?_map]
theorem QF {cls:ft} (b:SL cls) (a:Sz cls.length):ac pg 95 [cr (LLI cls),cr (LLI cls)] gh=some (B true,gh):=by
 have h:=QE (gh:=gh) b a cls.length 0 aj;simp only[aR] at h;have d:=bg (c:=qml) (s:=⟨[],[],gh⟩) (r:=fo ⟨[(4,B true)],[],gh⟩) (pg:=pg) (by simp[qml]<;>rfl);generalize LLI cls=L at *;refine ak (fn:=ql5) (s:=?J) rfl rfl (bg ?Z) ?Y
 case Z=>simp[qoh,ql5,h,d];rfl
 case Y=>simp[ag,results,ql5,ah,am,af]
end
section
variable {ins:Int} {ands:fN} {gh:fB}
theorem QG (c:Sz ands.length):∀k i,i+k=ands.length->
  bm pg qoa ⟨[(2,ec),(3,eK),(5,I (i:Int))],[[I ins,.sl false 2 (ands.map andV)],[I ins,.sl false 2 (ands.map andV)]],gh⟩=fg ⟨[],[],gh⟩
 |0,i,h=>by
  have a:¬i<ands.length:=aj;refine (bn (s1:=?J) (bg ?Z)).trans ?Y
  case Z=>simp[qma,a];rfl
  case Y=>simp[keep]
 |k+1,i,h=>by have a:i<ands.length:=aj;have d:WI.wrap ((i:Int)+1)=((i+1:Nat):Int):=gv (by simp only[Sz] at c ⊢;omega);have b:=PR ands[i] ands[i].1 ands[i].2;rw[aG rfl] at b;refine ay (s1:=⟨[(2,ec),(3,eK),(5,I ((i+1:Nat):Int))],[[I ins,.sl false 2 (ands.map andV)],[I ins,.sl false 2 (ands.map andV)]],gh⟩) (bg ?_) (QG c k (i+1) aj);simp[qma,a,d,b,mT]
theorem Tl (a:Sz ands.length):ac pg 7 [gu ins ands,gu ins ands] gh=some (B true,gh):=by
 have h:=QG (ins:=ins) (gh:=gh) a ands.length 0 aj;simp only[aR] at h;have b:=bg (c:=qmb) (s:=⟨[],[],gh⟩) (r:=fo ⟨[(4,B true)],[],gh⟩) (pg:=pg) (by simp[qmb]<;>rfl);refine ak (fn:=ql0) (s:=?J) rfl rfl (bg ?Z) ?Y
 case Z=>simp[qob,ql0,h,b];rfl
 case Y=>simp[ag,results,ql0,ah,am,af]
end
section
variable {gh:fB}
theorem QH {l:fN} (e:l.length<=3000000):∀k i,i+k=l.length->
  bm pg qib ⟨[(0,LP l),(1,LP l),(5,I (i:Int))],[],gh⟩=fg ⟨[],[],gh⟩
 |0,i,h=>by
  have a:¬i<(l.map andV).length:=by rw[aW];omega
  simp only[LP];generalize l.map andV=L at *;refine (bn (s1:=⟨[(0,.sl false 2 L),(1,.sl false 2 L),(5,I (i:Int)),(14,B false)],[],gh⟩) (bg ?J)).trans ?Z
  case J=>simp[qia,a]
  case Z=>simp[keep]
 | k+1,i,h=>by
  have a:i<l.length:=aj;have d:(l.map andV).length=l.length:=aW _;have f:(i<((l.map andV).length:Int)):=aj;have c:(l.map andV)[i]?=some (andV l[i]):=by simp[aA a]
  have g:WI.wrap ((i:Int)+1)=((i+1:Nat):Int):=by rw[aq aj aj];omega
  have b:=QH e k (i+1) aj;simp only[LP] at *;generalize l[i]=p,l.map andV=L at *;refine ay (bg (r:=some (_,⟨[(0,.sl false 2 L),(1,.sl false 2 L),(5,I ((i+1:Nat):Int))],[],gh⟩)) ?Y) b
  case Y=>
   generalize ((i+1:Nat):Int)=T at *;simp only[andV] at c;simp[qia,degr,f];simp[c,fj,jB,g]
theorem QI {l:fN} (a:l.length<=3000000):ac pg 354 [LP l,LP l] gh=some (B true,gh):=by
 have h:=QH (gh:=gh) a l.length 0 aj;have b:bm pg qic ⟨[],[],gh⟩=fo ⟨[(4,B true)],[],gh⟩:=bg (c:=qic) (s:=⟨[],[],_⟩) (by simp[qic]<;>rfl);simp only[LP,aR] at *;generalize l.map andV=L at *;refine ak (fn:=qie) (s:=⟨[(4,B true)],[],gh⟩) rfl rfl (bg ?J) ?Z
 case J=>simp[qid,qie,h,b]
 case Z=>simp[ag,results,qie,ah,am,af]
theorem QJ {l:List Nd} (e:l.length<=3000000) {p1 p2 p3 p4 q1 q2 q3 q4:PV}:∀k i,i+k=l.length->
  bm pg qi6 ⟨[(2,ec),(3,eK),(5,I (i:Int))],[[LN l,p1,p2,p3,p4],[LN l,q1,q2,q3,q4]],gh⟩=fg ⟨[],[],gh⟩
 |0,i,h=>by
  have a:¬i<(l.map nodeV).length:=by rw[aW];omega
  simp only[LN];generalize l.map nodeV=L at *;refine (bn (s1:=⟨[(2,ec),(3,eK),(5,I (i:Int)),(49,B false)],[[.sl false 6 L,p1,p2,p3,p4],[.sl false 6 L,q1,q2,q3,q4]],gh⟩) (bg ?J)).trans ?Z
  case J=>simp[qi5,a]
  case Z=>simp[keep]
 | k+1,i,h=>by
  have a:i<l.length:=aj;have d:(l.map nodeV).length=l.length:=aW _;have f:(i<((l.map nodeV).length:Int)):=aj;have c:(l.map nodeV)[i]?=some (nodeV l[i]):=by simp[aA a]
  have g:WI.wrap ((i:Int)+1)=((i+1:Nat):Int):=by rw[aq aj aj];omega
  have b:=QJ e (p1:=p1) (p2:=p2) (p3:=p3) (p4:=p4) (q1:=q1) (q2:=q2) (q3:=q3) (q4:=q4) k (i+1) aj;simp only[LN] at *;generalize l[i]=p,l.map nodeV=L at *;refine ay (bg (r:=some (_,⟨[(2,ec),(3,eK),(5,I ((i+1:Nat):Int))],[[.sl false 6 L,p1,p2,p3,p4],[.sl false 6 L,q1,q2,q3,q4]],gh⟩)) ?Y) b
  case Y=>
   generalize ((i+1:Nat):Int)=T at *;simp only[nodeV] at c;simp[qi5,degr,f];simp[c,fj,jB,g,show Nat.ble 1 2=true from rfl,show Nat.ble 2 2=true from rfl]
theorem QK {m:Md} (h:MdZ m 3000000):ac pg 349 [e9 m,e9 m] gh=some (B true,gh):=by
 have g:=λG=>QI (gh:=G) h.inits
 have f:=λG=>QI (gh:=G) h.nexts
 have e:=λG=>Ot (gh:=G) (v:=m.bads) (by have:=h.bads;simp only[Sz];omega)
 have d:=λG=>Ot (gh:=G) (v:=m.holds) (by have:=h.holds;simp only[Sz];omega)
 have b:=QJ (gh:=gh) h.nodes (p1:=LP m.inits) (p2:=LP m.nexts) (p3:=LI m.bads) (p4:=LI m.holds) (q1:=LP m.inits) (q2:=LP m.nexts) (q3:=LI m.bads) (q4:=LI m.holds) m.nodes.length 0 aj;have a:bm pg qi7 ⟨[],[],gh⟩=fo ⟨[(4,B true)],[],gh⟩:=bg (c:=qi7) (s:=⟨[],[],_⟩) (by simp[qi7]<;>rfl);rw[en];simp only[LN,LP,LI,aR] at *;generalize m.nodes.map nodeV=i,m.inits.map andV=q1,m.nexts.map andV=q2,m.bads.map I=q3,m.holds.map I=q4 at *;refine ak (fn:=qi9) (s:=⟨[(4,B true)],[],gh⟩) rfl rfl (bg ?J) ?Z
 case J=>simp[qi8,qi9,g,f,e,d,b,a]
 case Z=>simp[ag,results,qi9,ah,am,af]
end
end
section
attribute [local congr] bu
attribute [local simp] au
section
variable {gh:fB}
theorem Tm {N A a C D:fw} (o:N.length<=2000000) (n:A.length<=2000000) (m:a.length<=2000000) (l:C.length<=2000000) (k:D.length<=2000000) (f:eg N=true) (e:eg A=true) (d:eg a=true) (c:eg C=true) (b:eg D=true) :
  ac pg 399 [.agg [.sl false 6 N,.sl false 2 A,.sl false 2 a,cr C,cr D]] gh=some (.agg [.sl false 6 N,.sl false 2 A,.sl false 2 a,cr C,cr D],gh):=by
 have j:N.length*48<=maxBytes:=by unfold maxBytes;omega
 have i:A.length*16<=maxBytes:=by unfold maxBytes;omega
 have h:a.length*16<=maxBytes:=by unfold maxBytes;omega
 have g:C.length*8<=maxBytes:=by unfold maxBytes;omega
 have e5:D.length*8<=maxBytes:=by unfold maxBytes;omega
 refine ak (fn:=qkv) (s:=?J) rfl rfl (bg ?Z) ?Y
 case Z=>simp[qkv,qny,j,i,h,g,e5];rfl
 case Y=>simp[ag,results,qkv,ah,am,af,St.cellsAt,f,e,d,c,b]
theorem QL {b:ft} (o:b.length<=2000000) (n:∀l∈b,l.length<=2000000):∀k i,i+k=b.length->
  bm pg qnu ⟨[(0,cr (LLI b)),(3,dz (LLI (b.take i))),(4,I (i:Int))],[],gh⟩=fg ⟨[(3,dz (LLI b))],[],gh⟩
 |0,i,h=>by
  have c:¬i<b.length:=aj;rw[bK aj];refine (bn (s1:=?J) (bg ?Z)).trans ?Y
  case Z=>simp[qm0,c];rfl
  case Y=>simp[keep,bj]
 | k+1,i,h=>by
  have c:i<b.length:=aj;have hw:WI.wrap ((i:Int)+1)=((i+1:Nat):Int):=by rw[aq aj aj];omega
  have f:=QL o n k (i+1) aj;have e:(LLI b)[i]?=some (LI b[i]):=by simp[LLI,c]
  have s:=n _ (cD c);have r:b[i].length*8<=maxBytes:=by unfold maxBytes;omega
  have q:((LLI (b.take i)).length+1)*24<=maxBytes:=by simp[LLI];unfold maxBytes;omega
  have p:LLI (b.take (i+1))=LLI (b.take i)++[LI b[i]]:=by rw[List.take_succ_eq_append_getElem c,LLI,bI];rfl
  have j:(LLI b).length=b.length:=aW _;rw[p] at f;generalize LLI (b.take i)=T,LLI b=a,b[i]=x at *;have m:(x.map I).length*8<=maxBytes:=by simpa using r
  have d:i<a.length:=aj;simp only[LI] at e f;generalize x.map I=X at *;have g:a[i]= cr X:=by rw[aA d] at e;exact cZ e
  refine ay (bg ?K) f
  case K=>simp[qm0,d,j,e,g,m,q,hw,c]
theorem Tn {d:ft} (e:d.length<=2000000) (f:∀l∈d,l.length<=2000000):ac pg 387 [cr (LLI d)] gh=some (cr (LLI d),gh):=by
 have h:=QL (gh:=gh) e f d.length 0 aj;have hn:eg (LLI d)=true:=by
  clear h e f
  induction d with
  |nil=>rfl
  |cons a l g=>
   simp only[LLI,bS,eg,g];simp[PV.noG,LI,wl]
 rw[List.take_zero] at h;simp only[aR,LLI,bU] at h hn ⊢;have i:=λL:fw=>bg (c:=qm1) (s:=⟨[(3,dz L)],[],gh⟩) (r:=fo ⟨[(2,cr L)],[],gh⟩) (pg:=pg) (by simp[qm1]<;>rfl)
 generalize (d.map λl=>LI l)=b at *;refine ak (fn:=qks) (s:=?J) rfl rfl (bg ?Z) ?Y
 case Z=>simp[qks,qnv,h,i];rfl
 case Y=>simp[ag,results,qks,ah,am,af,hn]
end
end
theorem QO {a:fq} {c:fN}:∀{st b:fq},(lw a c st b).length<=st.length
 |[],_=>by simp[lw]
 |s::st,[]=>by simp[lw]
 |s::st,w::d=>by rw[lw,aV,aV];exact Nat.succ_le_succ QO
theorem QP (s:List UInt8):MdZ (ie s).1 3000000:=by
 unfold ie;split
 ·exact vE _
 ·split
  ·exact vE _
  ·rename_i m b
   have h:=Cq (vE 0) b;have a:=lm 10 s;split
   ·exact H0 h aj
   ·exact vE _
theorem QQ {m:Md} (b:dc m=0):∀(a:ft) (x:ft) (s:fq),(∀l∈a,jq m.nodes (ci m.nodes 2) l=0)->jq m.nodes (ci m.nodes 3) s=0->(∀l∈x,l.length<=1000)->
  (∀l∈g9 m (λ(x:ft) s _=>x++[s]) x s a,l.length<=1000)/\(g9 m (λ(x:ft) s _=>x++[s]) x s a).length=x.length+a.length
 |[],x,s,_,_,c=>⟨c,rfl⟩
 | k::a,x,s,f,e,c=>by
  have g:VGood m.nodes 0 [] s k:=Au e (f _ bh);have d:s.length<=1000:=by rw[zd e];exact Qu b 3
  obtain⟨j,i⟩:=QQ b a (x++[s]) (j4 m (gX m s k)) (λl d=>f l (by simp[d])) (OV b (Ok b g) AF) (λl h=>by
   rcases cE.1 h with h|h
   ·exact c l h
   ·rw[List.mem_singleton.1 h];exact d)
  rw[g9];refine⟨j,?_⟩;rw[i];simp;omega
section
attribute [local congr] bu
attribute [local simp] au
def rmR:RPs:=⟨[qnc,qnd],H7,H8,H9,[([0,1,2,3,4,5,6,7,8,9,10,11,12],[(9,10),(3,11)]),([0,1,2,3,4,5,6,7,8,10,9,11,12],[(10,9),(3,11)]),([0,1,2,4,5,6,7,9,10,11,3,8,12],[(9,10),(11,3)]),([0,1,2,4,5,6,7,10,9,11,3,8,12],[(10,9),(11,3)])],[qne,qnf,qng],qnh,qlr,[qnk,qnl,qnm,qnn,qno,qnp,qnq,qnr,qls,qlt],qlu,qnj,qni⟩
structure RmD where
 (mN mA mB mC mD ST INS GA pN pA pB pC pD:fw)
 s:ByteArray
 (gi pe tw:Int)
structure RmX where
 PL:ft
 (i1 i2 i3 h y1 y2 y3 k1 k2 e0 e3 e4:Int)
 (cA yA:fN)
 (cI cN cB cH S3 B3:fq)
 kL:ft
def RmD.E (q:RmD) (i:Int):fT:=[(1,.str q.s),(4,ec),(6,eK),(7,eU),(9,ff 3 0),(10,ff 4 0),(11,.ol 1 q.ST),(12,.ol 1 q.INS),(13,ff 5 0),(15,I q.pe),(16,I q.tw),(17,I i)]
def RmD.X (q:RmD):List fw:=[[.ol 6 q.mN,.ol 2 q.mA,.ol 2 q.mB,.ol 1 q.mC,.ol 1 q.mD],[.ol 1 q.ST,.ol 1 q.INS],[I q.gi,.ol 2 q.GA],[.ol 6 q.mN,.ol 2 q.mA,.ol 2 q.mB,.ol 1 q.mC,.ol 1 q.mD],[I q.gi,.ol 2 q.GA],[.ol 6 q.pN,.ol 2 q.pA,.ol 2 q.pB,.ol 1 q.pC,.ol 1 q.pD]]
def RmD.T (q:RmD) (i:Int):St:=⟨q.E i,q.X,[]⟩
structure F9 (q:RmD) (x:RmX):Prop where
 parse:ac pg 348 [.str q.s] []=some (.tup [.agg [.fr 6 q.pN,.fr 2 q.pA,.fr 2 q.pB,.fr 1 q.pC,.fr 1 q.pD],I x.e0,I q.pe],[])
 play:ac pg 375 [.agg [.sl false 6 q.mN,.sl false 2 q.mA,.sl false 2 q.mB,cr q.mC,cr q.mD],.agg [cr q.ST,cr q.INS]] []=some (.tup [.fr 1 (x.PL.map λl=>FI1 l),I q.tw],[])
 blast:ac pg 214 [.agg [.sl false 6 q.mN,.sl false 2 q.mA,.sl false 2 q.mB,cr q.mC,cr q.mD]] []=some (.tup [.agg [I x.i1,.fr 2 (x.cA.map andV),I x.i2,I x.i3,FI1 x.cI,FI1 x.cN,FI1 x.cB,FI1 x.cH],I x.h],[])
 and:ac pg 1 [.agg [I q.gi,.sl false 2 q.GA],I 2,I 3] []=some (.tup [.agg [I x.y1,.fr 2 (x.yA.map andV)],I x.y2,I x.y3],[])
 cnf:ac pg 16 [.agg [I q.gi,.sl false 2 q.GA],cr [I 2]] []=some (.tup [.agg [I x.k1,.fr 1 (x.kL.map λl=>FI1 l)],I x.k2],[])
 states:ac pg 35 [.agg [.sl false 6 q.mN,.sl false 2 q.mA,.sl false 2 q.mB,cr q.mC,cr q.mD]] []=some (.tup [FI1 x.S3,I x.e3],[])
 beg:ac pg 123 [.agg [.sl false 6 q.mN,.sl false 2 q.mA,.sl false 2 q.mB,cr q.mC,cr q.mD],cr q.ST] []=some (.tup [FI1 x.B3,I x.e4],[])
 same1:ac pg 349 [.agg [.sl false 6 q.pN,.sl false 2 q.pA,.sl false 2 q.pB,cr q.pC,cr q.pD],.agg [.sl false 6 q.pN,.sl false 2 q.pA,.sl false 2 q.pB,cr q.pC,cr q.pD]] []=some (B true,[])
 same2:ac pg 349 [.agg [.sl false 6 q.mN,.sl false 2 q.mA,.sl false 2 q.mB,cr q.mC,cr q.mD],.agg [.sl false 6 q.mN,.sl false 2 q.mA,.sl false 2 q.mB,cr q.mC,cr q.mD]] []=some (B true,[])
 same3:ac pg 46 [cr q.ST,cr q.ST] []=some (B true,[])
 same4:ac pg 95 [cr q.INS,cr q.INS] []=some (B true,[])
 same5:ac pg 7 [.agg [I q.gi,.sl false 2 q.GA],.agg [I q.gi,.sl false 2 q.GA]] []=some (B true,[])
 want:q.tw=0->∃b,ac pg 377 [.agg [.sl false 6 q.mN,.sl false 2 q.mA,.sl false 2 q.mB,cr q.mC,cr q.mD],.agg [cr q.ST,cr q.INS]] []=some (.tup [cr (x.PL.map λl=>LI l),B b],[])
 same6:ac pg 95 [cr (x.PL.map λl=>LI l),cr (x.PL.map λl=>LI l)] []=some (B true,[])
 good:x.h=0->ac pg 213 [.agg [I x.i1,.sl false 2 (x.cA.map andV),I x.i2,I x.i3,LI x.cI,LI x.cN,LI x.cB,LI x.cH]] []=some (I 0,[])
 un:gR q.pN=q.pN/\gR q.pA=q.pA/\gR q.pB=q.pB/\gR q.pC=q.pC/\gR q.pD=q.pD
 int:fx q.pN=true/\fx q.pA=true/\fx q.pB=true/\fx q.pC=true/\fx q.pD=true
 sz:q.pN.length<=1000000000/\q.pA.length<=1000000000/\q.pB.length<=1000000000/\q.pC.length<=1000000000/\q.pD.length<=1000000000
 szc:x.cA.length<=1000000000/\x.cI.length<=1000000000/\x.cN.length<=1000000000/\x.cB.length<=1000000000/\x.cH.length<=1000000000
 szl:x.yA.length<=1000000000/\x.S3.length<=1000000000/\x.B3.length<=1000000000
 szp:x.PL.length<=1000000000/\∀l∈x.PL,l.length<=1000000000
 szk:x.kL.length<=1000000000/\∀l∈x.kL,l.length<=1000000000
theorem In (l:fq):fx (l.map I)=true:=by unfold fx;rw[List.all_map,bV];intro x _;rfl
theorem Oc (l:fN):fx (l.map andV)=true:=by unfold fx;rw[List.all_map,bV];intro x _;rfl
theorem PJ (l:ft):(l.map λl=>FI1 l).all hE=true:=by rw[List.all_map,bV];intro x _;exact In x
theorem RX (l:ft):(l.map λl=>FI1 l).map m9=(l.map List.length).map λn=>PV.dj 0 1 n:=by
 rw[List.map_map,List.map_map];refine List.map_congr_left λx _=>?_
 show PV.dj 0 1 (x.map I).length=_
 rw[aW];rfl
theorem RY {l:ft} (h:fx (l.map λl=>FI1 l)=true):l=[]:=by
 cases l with
 |nil=>rfl
 |cons a l=>simp[fx,N3] at h
theorem RZ (l:ft):hU (.fr 1 (l.map λl=>FI1 l))= cr ((l.map List.length).map λn=>PV.dj 0 1 n)\/l=[]/\hU (.fr 1 (l.map λl=>FI1 l))= .dj 0 1 0:=by
 simp only[hU];by_cases h:fx (l.map λl=>FI1 l)=true
 ·obtain rfl:=RY h
  exact .inr ⟨rfl,rfl⟩
 ·rw[if_neg h,if_pos (PJ l),RX];exact .inl rfl
section
variable {q:RmD} {x:RmX}
def RmX.Y (q:RmD) (x:RmX):List fw:=[[.fr 6 q.pN,.fr 2 q.pA,.fr 2 q.pB,.fr 1 q.pC,.fr 1 q.pD],[I x.i1,.fr 2 (x.cA.map andV),I x.i2,I x.i3,FI1 x.cI,FI1 x.cN,FI1 x.cB,FI1 x.cH],[I x.y1,.fr 2 (x.yA.map andV)],[I x.k1,.fr 1 (x.kL.map λl=>FI1 l)]]
def RmD.U (q:RmD) (x:RmX) (i:Int):St:=⟨q.E i++[(18,ff 6 0),(21,.fr 1 (x.PL.map λl=>FI1 l)),(23,ff 7 0),(25,ff 8 0),(28,ff 9 0),(30,FI1 x.S3),(32,FI1 x.B3),(185,B false)],q.X++RmX.Y q x,[]⟩
theorem R0 (ok:F9 q x) (i:Int):tm pg rmR.bs ⟨q.E i++[(82,B true)],q.X,[]⟩ (q.U x i):=by
 obtain⟨hp,hl,j,ha,hk,hs,hg,s1,s2,s3,s4,s5,hw,s6,hc,hu,-⟩:=ok;obtain⟨R,Q,P,O,M⟩:=hu;have H:=PH x.PL;obtain⟨N,A,F,C,D,w,c,z,m,r,p,o,n,S,s,pe,k⟩:=q;obtain⟨y,i1,i2,i3,h,y1,y2,y3,k1,k2,e0,e3,e4,v,G,cI,t,cB,u,S3,B3,kL⟩:=x;simp only[RmD.T,RmD.U,RmD.E,RmD.X,RmX.Y,bH,bF,LI,FI1] at *;have L:=N9 v;have e:=x9 cI;have d:=x9 t;have g:=x9 cB;have f:=x9 u;generalize (y.map λl=>PV.fr 1 (l.map I))=FL,(y.map λl=>PV.sl false 1 (l.map I))=SL,(kL.map λl=>PV.fr 1 (l.map I))=KL,v.map andV=CA at *
 generalize G.map andV=YA,cI.map I=CI,t.map I=CN,cB.map I=CB,u.map I=CH,S3.map I=SS,B3.map I=BB at *
 refine⟨?J,bg ?Z,?Y,bg ?K,?V,bg ?W,?Ja,bg ?Jb,?Jc,bg ?Jd,?Je,bg ?Jf,?Jg,bg ?Jh,?Ji,bg ?Jj,⟨[(1,.str S),(4,ec),(6,eK),(7,eU),(9,ff 3 0),(10,ff 4 0),(11,.ol 1 w),(12,.ol 1 c),(13,ff 5 0),(15,I pe),(16,I k),(17,I i),(18,ff 6 0),(21,.fr 1 FL),(23,ff 7 0),(24,I h),(25,ff 8 0),(28,ff 9 0),(30,.fr 1 SS),(32,.fr 1 BB)],[[.ol 6 N,.ol 2 A,.ol 2 F,.ol 1 C,.ol 1 D],[.ol 1 w,.ol 1 c],[I s,.ol 2 z],[.ol 6 N,.ol 2 A,.ol 2 F,.ol 1 C,.ol 1 D],[I s,.ol 2 z],[.ol 6 m,.ol 2 r,.ol 2 p,.ol 1 o,.ol 1 n],[.fr 6 m,.fr 2 r,.fr 2 p,.fr 1 o,.fr 1 n],[I i1,.fr 2 CA,I i2,I i3,.fr 1 CI,.fr 1 CN,.fr 1 CB,.fr 1 CH],[I y1,.fr 2 YA],[I k1,.fr 1 KL]],[]⟩,bg ?Jk,_,bg ?Jl,rfl⟩
 case Z=>simp[qnk,hp];rfl
 case K=>simp[qnl,hl];rfl
 case W=>simp[qnm,j];rfl
 case Jb=>simp[qnn,ha];rfl
 case Jd=>simp[qno,hk];rfl
 case Jf=>simp[qnp,hs];rfl
 case Jh=>simp[qnq,hg];rfl
 case Jj=>simp[qnr,R,Q,P,O,M,s1,s2,s3,s4,s5];rfl
 case Jk=>
  by_cases a:k=0
  ·obtain⟨b,j⟩:=hw a
   simp[qls,a,j,H,s6]
  ·simp[qls,a]
 case Jl=>
  by_cases a:h=0
  ·simp[qlt,a,hc a,L,e,d,g,f]
  ·simp[qlt,a]
structure Lv (v:PV):Prop where
 d:degr v=v
 d1:aw v=v
 st:∀n,bj n v=true
 a:az v=true
 c:ac pg 388 [v] [.trash]=some (.tup [],[.trash])
theorem PM {l:ft} (c:l.length<=1000000000) (b:∀x∈l,x.length<=1000000000):Lv (hU (.fr 1 (l.map λl=>FI1 l))):=by
 rcases RZ l with h|⟨rfl,h⟩
 ·rw[h]
  exact⟨rfl,rfl,λ_=>rfl,rfl,RJ (by simpa using c) (λn hn=>by obtain⟨x,a,rfl⟩:=List.mem_map.1 hn;exact b x a)⟩
 ·rw[h]
  exact⟨rfl,rfl,λ_=>rfl,rfl,RK⟩
section
variable {i:Int} {n0 n1 n2 n3 n4 a b c d e na ny m0:Nat} {L K:PV} {i1 i2 i3 y1 k1:Int}
def spX (q:RmD) (m l k j i a b c d h g:Nat) (e:PV) (r p o f n:Int):List fw:=q.X++[[.dj 0 6 m,.dj 0 2 l,.dj 0 2 k,.dj 0 1 j,.dj 0 1 i],[I r,.dj 0 2 h,I p,I o,.dj 0 1 a,.dj 0 1 b,.dj 0 1 c,.dj 0 1 d],[I f,.dj 0 2 g],[I n,e]]
theorem PN (hn:na<=1000000000):∀(k j:Nat),j+k=na->
  bm pg qn8 ⟨q.E i++[(23,ff 7 0),(25,ff 8 0),(28,ff 9 0),(30,.dj 0 1 e),(32,.dj 0 1 m0),(36,I (j:Int))],spX q n0 n1 n2 n3 n4 a b c d na ny K i1 i2 i3 y1 k1,[.trash]⟩=
   fg ⟨q.E i++[(25,ff 8 0),(28,ff 9 0),(30,.dj 0 1 e),(32,.dj 0 1 m0)],spX q n0 n1 n2 n3 n4 a b c d na ny K i1 i2 i3 y1 k1,[.trash]⟩
 |0,j,h=>by
  obtain rfl:j=na:=aj;simp only[RmD.E,RmD.X,spX,bH,bF];refine (bn (s1:=?Z) (bg ?J)).trans ?Y
  case J=>simp[qlp];rfl
  case Y=>simp
 |k+1,j,h=>by
  have f:(j:Int)<(na:Int):=aj;have l:(0:Int)<=(j:Int):=aj;have hw:WI.wrap ((j:Int)+1)=((j+1:Nat):Int):=by rw[aq aj aj];omega
  have g:=PN hn k (j+1) aj;simp only[RmD.E,RmD.X,spX,bH,bF] at g ⊢;refine ay (bg ?J) g
  case J=>simp[qlp,f,l,hw]
theorem PO (hn:ny<=1000000000):∀(k j:Nat),j+k=ny->
  bm pg qn9 ⟨q.E i++[(25,ff 8 0),(28,ff 9 0),(30,.dj 0 1 e),(32,.dj 0 1 m0),(37,I (j:Int))],spX q n0 n1 n2 n3 n4 a b c d na ny K i1 i2 i3 y1 k1,[.trash]⟩=
   fg ⟨q.E i++[(28,ff 9 0),(30,.dj 0 1 e),(32,.dj 0 1 m0)],spX q n0 n1 n2 n3 n4 a b c d na ny K i1 i2 i3 y1 k1,[.trash]⟩
 |0,j,h=>by
  obtain rfl:j=ny:=aj;simp only[RmD.E,RmD.X,spX,bH,bF];refine (bn (s1:=?Z) (bg ?J)).trans ?Y
  case J=>simp[qlq];rfl
  case Y=>simp
 |k+1,j,h=>by
  have f:(j:Int)<(ny:Int):=aj;have l:(0:Int)<=(j:Int):=aj;have hw:WI.wrap ((j:Int)+1)=((j+1:Nat):Int):=by rw[aq aj aj];omega
  have g:=PO hn k (j+1) aj;simp only[RmD.E,RmD.X,spX,bH,bF] at g ⊢;refine ay (bg ?J) g
  case J=>simp[qlq,f,l,hw]
theorem R3 (A:Lv L) (C:Lv K) (T:n0<=1000000000) (S:n1<=1000000000) (R:n2<=1000000000) (Q:n3<=1000000000) (P:n4<=1000000000) (O:a<=1000000000) (N:b<=1000000000) (M:c<=1000000000) (I:d<=1000000000) (H:e<=1000000000) (G:na<=1000000000) (D:ny<=1000000000) (F:m0<=1000000000) :
  bm pg qlu ⟨q.E i++[(18,ff 6 0),(21,L),(23,ff 7 0),(25,ff 8 0),(28,ff 9 0),(30,.dj 0 1 e),(32,.dj 0 1 m0),(185,B false)],spX q n0 n1 n2 n3 n4 a b c d na ny K i1 i2 i3 y1 k1,[.trash]⟩=fg ⟨q.E i,q.X,[.trash]⟩:=by
 have g:=PN (q:=q) (i:=i) (n0:=n0) (n1:=n1) (n2:=n2) (n3:=n3) (n4:=n4) (a:=a) (b:=b) (c:=c) (d:=d) (e:=e) (m0:=m0) (ny:=ny) (K:=K) (i1:=i1) (i2:=i2) (i3:=i3) (y1:=y1) (k1:=k1) G na 0 aj;have f:=PO (q:=q) (i:=i) (n0:=n0) (n1:=n1) (n2:=n2) (n3:=n3) (n4:=n4) (a:=a) (b:=b) (c:=c) (d:=d) (e:=e) (m0:=m0) (na:=na) (K:=K) (i1:=i1) (i2:=i2) (i3:=i3) (y1:=y1) (k1:=k1) D ny 0 aj;have t:=RL T S R Q P;have y:=qm O;have x:=qm N;have w:=qm M;have v:=qm I;have u:=qm H;have z:=qm F;obtain⟨s,r,p,o,n⟩:=A;obtain⟨m,l,k,j,h⟩:=C;simp only[RmD.E,RmD.X,spX,bH,bF,aR] at g f ⊢
 refine bg ?_;simp[qlu,qnb,qna,g,f,t,y,x,w,v,u,z,s,r,p,o,n,m,l,k,j,h]
end
theorem R4 (ok:F9 q x) (i:Int):(q.U x i).thaw=⟨q.E i++[(18,ff 6 0),(21,hU (.fr 1 (x.PL.map λl=>FI1 l))),(23,ff 7 0),(25,ff 8 0),(28,ff 9 0),(30,.dj 0 1 x.S3.length),(32,.dj 0 1 x.B3.length),(185,B false)],
  spX q q.pN.length q.pA.length q.pB.length q.pC.length q.pD.length x.cI.length x.cN.length x.cB.length x.cH.length x.cA.length x.yA.length (hU (.fr 1 (x.kL.map λl=>FI1 l))) x.i1 x.i2 x.i3 x.y1 x.k1,[.trash]⟩:=by
 obtain⟨f,e,d,c,b⟩:=ok.int;have g:∀l:fq,hU (FI1 l)= .dj 0 1 l.length:=λl=>by
  show (if fx (l.map I)=true then _ else _)=_
  rw[if_pos (In l),aW]
 have j:∀l:fN,hU (.fr 2 (l.map andV))= .dj 0 2 l.length:=λl=>by
  show (if fx (l.map andV)=true then _ else _)=_
  rw[if_pos (Oc l),aW]
 have a:∀(z:Nat) (l:fw),fx l=true->hU (.fr z l)= .dj 0 z l.length:=λz l h=>by
  show (if fx l=true then _ else _)=_
  rw[if_pos h]
 have k:∀v,hU (.ol 1 v)= .ol 1 v:=λ_=>rfl
 simp only[RmD.U,St.thaw,RmD.E,RmD.X,RmX.Y,spX,bH,bF,bS,bU,g,j,a _ _ f,a _ _ e,a _ _ d,a _ _ c,a _ _ b];rfl
theorem PP (ok:F9 q x) {i:Int} (m:i<2) (hw:WI.wrap (i+1)=i+1):N7 pg rmR (q.T i) (q.T (i+1)):=by
 refine⟨⟨q.E i++[(82,B true)],q.X,[]⟩,q.U x i,⟨q.E i,q.X,[.trash]⟩,⟨q.E (i+1),q.X,[.trash]⟩,bg ?J,R0 ok i,?Z,?Y,bg ?K,rfl,rfl,rfl⟩
 case J=>simp[rmR,qlr,RmD.T,RmD.E,RmD.X,m]
 case Z=>
  obtain⟨f,e,d,c,b⟩:=ok.int;have n:∀l:fq,g7 (FI1 l)=true:=λl=>by
   show (fx (l.map I)||_)=true
   rw[In];rfl
  have p:∀l:fN,g7 (.fr 2 (l.map andV))=true:=λl=>by
   show (fx (l.map andV)||_)=true
   rw[Oc];rfl
  have a:∀(z:Nat) (l:fw),fx l=true->g7 (.fr z l)=true:=λz l h=>by
   show (fx l||_)=true
   rw[h];rfl
  have o:g7 (.fr 1 (x.kL.map λl=>FI1 l))=true:=by
   show (_||List.all _ hE)=true
   rw[PJ,Bool.or_true]
  simp[RmD.U,RmD.X,RmX.Y,n,p,a _ _ f,a _ _ e,a _ _ d,a _ _ c,a _ _ b,o];simp[g7]
 case Y=>
  rw[R4 ok i];obtain⟨D,C,A,y,w⟩:=ok.sz;obtain⟨v,u,t,s,r⟩:=ok.szc;obtain⟨k,j,g⟩:=ok.szl;exact R3 (PM ok.szp.1 ok.szp.2) (PM ok.szk.1 ok.szk.2) D C A y w u t s r j v k g
 case K=>simp[rmR,qnj,RmD.E,RmD.X,hw]
end
end
section
attribute [local congr] bu
attribute [local simp] au
theorem Od {R:RPs} {l:List IOpG} {s k S:St} (h:bm pg (.post (.region l false) R.dk R.dn) s=fg k) (b:k=S\/∃l x y,k.lh=l++[x,y]/\w7 x=true/\w7 y=true/\(⟨k.env.map λq=>(q.1,swP l.length q.2),l++[y,x],k.gh⟩:St)=S) :
  ∃a,dt (ac pg) l s=some a/\H6 R S a:=by
 rw[nP,Dy] at h;cases c:dt (ac pg) l s with
 |none=>rw[c] at h;simp at h
 |some a=>
  rw[c] at h;simp at h;refine⟨a,rfl,?_⟩;subst h;rcases b with b|⟨l,x,y,g,f,e,d⟩
  ·exact .inl b
  ·exact .inr ⟨l,x,y,g,f,e,d⟩
theorem R5 (o:gj) (_:o.Nodup) (c:∀x,x∈o↔x<rmR.dr.length):∃x∈rmR.Ls,∀p∈x.2,Bef o p.1 p.2:=by
 have m:∀x,x<13->x∈o:=λx b=>(c x).2 b
 rcases Po (m 9 aj) (m 10 aj) aj with e|e<;>rcases Po (m 3 aj) (m 11 aj) aj with d|d
 ·exact⟨_,aZ ..,λp a=>by simp at a;rcases a with rfl|rfl<;>assumption⟩
 ·exact⟨_,bC _ (bC _ (aZ ..)),λp a=>by simp at a;rcases a with rfl|rfl<;>assumption⟩
 ·exact⟨_,bC _ (aZ ..),λp a=>by simp at a;rcases a with rfl|rfl<;>assumption⟩
 ·exact⟨_,bC _ (bC _ (bC _ (aZ ..))),λp a=>by simp at a;rcases a with rfl|rfl<;>assumption⟩
section
variable {q:RmD}
def RmD.M (q:RmD):PV:= .agg [.sl false 6 q.mN,.sl false 2 q.mA,.sl false 2 q.mB,cr q.mC,cr q.mD]
def RmD.P (q:RmD):PV:= .agg [.sl false 6 q.pN,.sl false 2 q.pA,.sl false 2 q.pB,cr q.pC,cr q.pD]
def RmD.T0 (q:RmD):PV:= .agg [cr q.ST,cr q.INS]
structure Ga (q:RmD) (e1:Int):Prop where
 b1:ac pg 37 [] []=some (.bool true,[])
 b2:ac pg 346 [] []=some (.bool true,[])
 b3:ac pg 242 [] []=some (.bool true,[])
 b4:ac pg 5 [] []=some (.bool true,[])
 b5:ac pg 211 [] []=some (.bool true,[])
 cm:ac pg 399 [q.M] []=some (q.M,[])
 cl:ac pg 387 [cr q.INS] []=some (cr q.INS,[])
 pm:ac pg 370 [.str q.s] []=some (.tup [q.P,I e1,I q.pe],[])
 ct:ac pg 376 [q.M,q.T0] []=some (I q.tw,[])
 la:q.GA.length*16<=maxBytes
 ls:q.ST.length*8<=maxBytes
 pl:pls q.mN=true/\pls q.mA=true/\pls q.mB=true/\pls q.mC=true/\pls q.mD=true/\pls q.ST=true/\pls q.INS=true/\pls q.GA=true/\pls q.pN=true/\pls q.pA=true/\pls q.pB=true/\pls q.pC=true/\pls q.pD=true
def RmD.S0 (q:RmD):St:=⟨fk 0 [q.M,.str q.s,q.T0,.agg [I q.gi,.sl false 2 q.GA]],[],[]⟩
def RmD.W3 (q:RmD):List fw:=[[.sl false 6 q.mN,.sl false 2 q.mA,.sl false 2 q.mB,cr q.mC,cr q.mD],[cr q.ST,cr q.INS],[I q.gi,.sl false 2 q.GA]]
def RmD.C4 (q:RmD):fw:=[.sl false 6 q.mN,.sl false 2 q.mA,.sl false 2 q.mB,cr q.mC,cr q.mD]
def RmD.G5 (q:RmD):fw:=[I q.gi,.sl false 2 q.GA]
def RmD.Sa (q:RmD):St:=⟨[(1,.str q.s),(4,ec),(6,eK),(7,eU),(55,B false)],q.W3,[]⟩
def RmD.Sb (q:RmD):St:=⟨[(1,.str q.s),(4,ec),(6,eK),(7,eU),(9,ff 3 0),(10,ff 4 0)],q.W3++[q.C4,q.G5],[]⟩
theorem R6 {a:Int} (ok:Ga q a):tm pg rmR.as q.S0 q.Sa:=by
 obtain⟨f,e,d,c,b,-⟩:=ok;refine⟨?J,bg ?Z,_,bg ?Y,rfl⟩
 case Z=>simp[qnc,RmD.S0,RmD.M,RmD.T0];rfl
 case Y=>simp[qnd,f,e,d,c,b,RmD.Sa,RmD.W3]
theorem R7 {e:Int} (ok:Ga q e):∀x∈rmR.Ls,∃c,dt (ac pg) (x.1.map (nth rmR.dr)) q.Sa=some c/\H6 rmR q.Sb c:=by
 obtain⟨-,-,-,-,-,a,-,-,-,b,-⟩:=ok;intro x d;simp only[RmD.M] at a;simp only[rmR,List.mem_cons,List.not_mem_nil,or_false] at d;rcases d with rfl|rfl|rfl|rfl
 ·refine Od (k:=q.Sb) (bg ?J) (.inl rfl)
  case J=>simp[rmR,nth,H7,H8,H9,RmD.Sa,RmD.Sb,RmD.W3,RmD.C4,RmD.G5,a,b]
 ·refine Od (k:=⟨[(1,.str q.s),(4,ec),(6,eK),(7,eU),(9,ff 4 0),(10,ff 3 0)],q.W3++[q.G5,q.C4],[]⟩) (bg ?Z) (.inr ⟨q.W3,q.G5,q.C4,rfl,rfl,rfl,rfl⟩)
  case Z=>simp[rmR,nth,H7,H8,H9,RmD.Sa,RmD.Sb,RmD.W3,RmD.C4,RmD.G5,a,b]
 ·refine Od (k:=q.Sb) (bg ?Y) (.inl rfl)
  case Y=>simp[rmR,nth,H7,H8,H9,RmD.Sa,RmD.Sb,RmD.W3,RmD.C4,RmD.G5,a,b]
 ·refine Od (k:=⟨[(1,.str q.s),(4,ec),(6,eK),(7,eU),(9,ff 4 0),(10,ff 3 0)],q.W3++[q.G5,q.C4],[]⟩) (bg ?K) (.inr ⟨q.W3,q.G5,q.C4,rfl,rfl,rfl,rfl⟩)
  case K=>simp[rmR,nth,H7,H8,H9,RmD.Sa,RmD.Sb,RmD.W3,RmD.C4,RmD.G5,a,b]
theorem R8 {u:Int} (ok:Ga q u):∃h a,tm pg rmR.as2 q.Sb h/\bm pg rmR.a6 h=fg a/\a.gh=[]/\F5 a=true/\a.old=q.T 0:=by
 obtain⟨-,-,-,-,-,-,v,f,g,-,t,r,p,o,n,m,l,k,j,i,e,d,c,b⟩:=ok;simp only[RmD.M,RmD.P,RmD.T0] at f g
 refine⟨⟨[(1,.str q.s),(4,ec),(6,eK),(7,eU),(9,ff 3 0),(10,ff 4 0),(11,dz q.ST),(12,cr q.INS),(13,ff 5 0),(15,I q.pe),(16,I q.tw)],q.W3++[q.C4,q.G5,[.sl false 6 q.pN,.sl false 2 q.pA,.sl false 2 q.pB,cr q.pC,cr q.pD]],[]⟩,
  ⟨[(1,.str q.s),(4,ec),(6,eK),(7,eU),(9,ff 3 0),(10,ff 4 0),(11,dz q.ST),(12,cr q.INS),(13,ff 5 0),(15,I q.pe),(16,I q.tw),(17,I 0)],q.W3++[q.C4,q.G5,[.sl false 6 q.pN,.sl false 2 q.pA,.sl false 2 q.pB,cr q.pC,cr q.pD]],[]⟩,
  ⟨?J,bg ?Z,?Y,bg ?K,_,bg ?V,rfl⟩,bg ?W,rfl,?Ja,?Jb⟩
 case Z=>simp[qne,RmD.Sb,RmD.W3,RmD.C4,RmD.G5,v,t];rfl
 case K=>simp[qnf,f];rfl
 case V=>simp[qng,g,RmD.W3,RmD.C4,RmD.G5]
 case W=>simp[rmR,qnh,RmD.W3,RmD.C4,RmD.G5]
 case Ja=>
  simp only[RmD.W3,RmD.C4,RmD.G5,F5,bH,bF];simp[N2,pr,r,p,o,n,m,l,k,j,i,e,d,c,b]
 case Jb=>rfl
theorem R9 (q:RmD):bm pg rmR.hd (q.T 2)=some (.exit 0,⟨q.E 2++[(82,B false)],q.X,[]⟩):=by refine bg ?_;simp[rmR,qlr,RmD.T,RmD.E,RmD.X]
theorem Sc:bm pg rmR.k5 ⟨[],[],[]⟩=fo ⟨[(8,.bool true)],[],[]⟩:=by refine bg ?_;simp[rmR,qni]
end
open Go.RowKit in
theorem Sd {q:RmD} {x:RmX} {e1:Int} (pre:Ga q e1) (ok:F9 q x) {fi:FI} {P:Program} {N:Nat} {M:Mem} {w:World} {a:Act} (hP:P.follows .mixedOrders=true) (hL:∀fi',fi.Like fi'->kR P fi' pg) {c:Code} (hm:∀fi',fi.Like fi'->H5 P fi' N rmR c=true)
  (hne:∃x,x∈fi.gl) (hI:Inv fi M w q.S0 a) (hN:N<=a.tmps.size):c.wpIn (FR none) 0 P (CPost fi M w a.tmps.size .ret ⟨[(8,.bool true)],[],[]⟩) a w:=by
 obtain⟨S1,S2,r1,r2,r3,r4,r5⟩:=R8 pre;have c1:=PP ok (i:=0) aj bz;have c2:=PP ok (i:=1) aj bz;exact RF hP hL hm (R6 pre) R5 (R7 pre) r1 r2 r3 r4 (T1:=q.T 1) (T2:=q.T 2) (by rw[r5];exact c1) c2 (R9 q) rfl Sc hne hI hN
end
section
variable {bytes:Nat} {l:List CS} {p:PV}
abbrev Qy:List CS:=[.int,.slice true 16 [.int,.int]]
theorem csOk_slice {g:Bool} (h:kS (.slice g bytes l) p):∃a,p= .sl false l.length a/\a.length*bytes<=reachBytes/\∀e∈a,(g=true/\∃b,e= .agg b/\dE l b)\/(g=false/\dE l [e]):=by unfold kS at h;exact h
theorem Ol:∀{xs:fw},(∀e∈xs,(true=true/\∃f,e= .agg f/\dE [.int,.int] f)\/(true=false/\dE [.int,.int] [e]))->∃c,RA c/\xs=c.map andV
 |[],_=>⟨[],λx h=>(by cases h),rfl⟩
 | e::xs,h=>by
  obtain⟨c,hr,rfl⟩:=Ol (xs:=xs) λe i=>h e (bC _ i)
  rcases h e bh with ⟨-,f,rfl,d⟩|⟨h,-⟩
  ·obtain⟨_,_,rfl,l,d⟩:=yk d
   obtain⟨_,_,rfl,k,d⟩:=yk d;obtain rfl:=yl d;obtain⟨a,rfl,ha⟩:=yn l;obtain⟨b,rfl,j⟩:=yn k;refine⟨(a,b)::c,λx g=>?_,rfl⟩;rcases List.mem_cons.1 g with rfl|g
   ·exact⟨ha,j⟩
   ·exact hr x g
  ·cases h
theorem Tf (h:lO (true,Qy) p):∃b a,p=gu b a/\RA a/\a.length*16<=reachBytes:=by obtain⟨j,rfl,c⟩:=Oz h;obtain⟨_,_,rfl,g,c⟩:=yk c;obtain⟨_,_,rfl,f,c⟩:=yk c;obtain rfl:=yl c;obtain⟨b,rfl,-⟩:=yn g;obtain⟨i,rfl,e,d⟩:=csOk_slice f;obtain⟨a,hr,rfl⟩:=Ol d;exact⟨b,a,rfl,hr,by simpa using e⟩
theorem csOk_slice' {g:Bool} (h:kS (.slice g bytes l) p):∃a,p= .sl false l.length a/\a.length*bytes<=reachBytes/\∀e∈a,(g=true/\∃b,e= .agg b/\dE l b)\/(g=false/\dE l [e]):=by unfold kS at h;exact h
theorem int_list':∀{xs:fw},(∀e∈xs,(false=true/\∃d,e= .agg d/\dE [.int] d)\/(false=false/\dE [.int] [e]))->∃v:fq,nA v/\xs=v.map I
 |[],_=>⟨[],λx h=>(by cases h),rfl⟩
 | e::xs,h=>by
  obtain⟨v,hr,rfl⟩:=int_list' (xs:=xs) λe g=>h e (bC _ g)
  rcases h e bh with ⟨h,-⟩|⟨-,c⟩
  ·cases h
  ·obtain⟨_,_,f,j,c⟩:=yk c
   cases yl c;simp only[List.cons.injEq,and_true] at f;subst f;obtain⟨b,rfl,i⟩:=yn j;refine⟨b::v,λx a=>?_,rfl⟩;rcases List.mem_cons.1 a with rfl|a
   ·exact i
   ·exact hr x a
abbrev Qz:List CS:=[.slice true 48 [.int,.int,.int,.int,.int,.int],.slice true 16 [.int,.int],.slice true 16 [.int,.int],.slice false 8 [.int],.slice false 8 [.int]]
structure Tg (m:Md):Prop where
 nodes:m.nodes.length*48<=reachBytes
 inits:m.inits.length*16<=reachBytes
 nexts:m.nexts.length*16<=reachBytes
 bads:m.bads.length*8<=reachBytes
 holds:m.holds.length*8<=reachBytes
theorem QA:∀{xs:fw},(∀e∈xs,(true=true/\∃b,e= .agg b/\dE [.int,.int,.int,.int,.int,.int] b)\/(true=false/\dE [.int,.int,.int,.int,.int,.int] [e]))->∃l:List Nd,xs=l.map nodeV
 |[],_=>⟨[],rfl⟩
 | e::xs,h=>by
  obtain⟨l,rfl⟩:=QA (xs:=xs) λe c=>h e (bC _ c)
  rcases h e bh with ⟨-,b,rfl,a⟩|⟨h,-⟩
  ·obtain⟨_,_,rfl,k,a⟩:=yk a
   obtain⟨_,_,rfl,j,a⟩:=yk a;obtain⟨_,_,rfl,i,a⟩:=yk a;obtain⟨_,_,rfl,g,a⟩:=yk a;obtain⟨_,_,rfl,f,a⟩:=yk a;obtain⟨_,_,rfl,d,a⟩:=yk a;obtain rfl:=yl a;obtain⟨r,rfl,-⟩:=yn k;obtain⟨q,rfl,-⟩:=yn j;obtain⟨p,rfl,-⟩:=yn i;obtain⟨o,rfl,-⟩:=yn g;obtain⟨n,rfl,-⟩:=yn f;obtain⟨m,rfl,-⟩:=yn d;exact⟨⟨r,q,p,o,n,m⟩::l,rfl⟩
  ·cases h
theorem Th (h:lO (true,Qz) p):∃m,p=e9 m/\Tg m:=by
 obtain⟨D,rfl,a⟩:=Oz h;obtain⟨_,_,rfl,s,a⟩:=yk a;obtain⟨_,_,rfl,r,a⟩:=yk a;obtain⟨_,_,rfl,q,a⟩:=yk a;obtain⟨_,_,rfl,o,a⟩:=yk a;obtain⟨_,_,rfl,n,a⟩:=yk a;obtain rfl:=yl a;obtain⟨C,rfl,x,l⟩:=csOk_slice s;obtain⟨B,rfl,w,k⟩:=csOk_slice r;obtain⟨A,rfl,v,j⟩:=csOk_slice q;obtain⟨z,rfl,u,i⟩:=csOk_slice o;obtain⟨y,rfl,t,g⟩:=csOk_slice n;obtain⟨f,rfl⟩:=QA l;obtain⟨e,-,rfl⟩:=Ol k;obtain⟨d,-,rfl⟩:=Ol j;obtain⟨c,-,rfl⟩:=int_list' i;obtain⟨b,-,rfl⟩:=int_list' g
 exact⟨⟨f,e,d,c,b⟩,rfl,⟨by simpa using x,by simpa using w,by simpa using v,by simpa using u,by simpa using t⟩⟩
theorem list_list' {a:fw} (h:∀e∈a,(false=true/\∃d,e= .agg d/\dE [.slice false 8 [.int]] d)\/(false=false/\dE [.slice false 8 [.int]] [e])):∃cls:ft,a=(cls.map λl=>LI l)/\∀l∈cls,nA l:=by
 induction a with
 |nil=>exact⟨[],rfl,λl h=>by cases h⟩
 | cons x a f=>
  obtain⟨cls,rfl,j⟩:=f λe k=>h e (bC _ k)
  rcases h x (aZ ..) with ⟨c,_⟩|⟨_,c⟩
  ·cases c
  ·obtain⟨_,_,e,m,q⟩:=yk c
   injection e with o n
   subst o;subst n;obtain⟨p,rfl,r,g⟩:=csOk_slice' m;obtain⟨v,i,rfl⟩:=int_list' g;refine⟨v::cls,rfl,λl b=>?_⟩;rcases List.mem_cons.1 b with rfl|b
   ·exact i
   ·exact j l b
abbrev QB:List CS:=[.slice false 8 [.int],.slice false 24 [.slice false 8 [.int]]]
theorem Ti (h:lO (true,QB) p):∃st a,p=jv st a/\nA st/\∀l∈a,nA l:=by obtain⟨n,rfl,b⟩:=Oz h;obtain⟨_,_,rfl,j,b⟩:=yk b;obtain⟨_,_,rfl,i,b⟩:=yk b;obtain rfl:=yl b;obtain⟨m,rfl,g,d⟩:=csOk_slice' j;obtain⟨st,e,rfl⟩:=int_list' d;obtain⟨k,rfl,g,c⟩:=csOk_slice' i;obtain⟨a,rfl,f⟩:=list_list' c;exact⟨st,a,rfl,e,f⟩
theorem Tj {st:fq} {ins:ft} {N:Nat} (h:gP (jv st ins)<=N):st.length<=N/\ins.length<=N/\∀l∈ins,l.length<=N:=by simp only[gP,eJ] at h;have e:=ox (st.map I);have d:=ox (ins.map λl=>LI l);rw[aW] at e d;refine⟨aj,aj,λl a=>?_⟩;have c:=Ph (p:=LI l) (l:=ins.map λl=>LI l) (List.mem_map_of_mem a);have b:=ox (l.map I);rw[aW] at b;simp only[gP] at c;omega
end
theorem Tz (l:List Nd):fx (l.map nodeV)=true:=by unfold fx;rw[List.all_map,bV];intro x _;rfl
theorem TA (l:List Nd):gR (l.map nodeV)=l.map nodeV:=N8 (λ_=>rfl) l
theorem O3:∀l:List Nd,pls (l.map nodeV)=true
 |[]=>rfl
 |x::l=>by rw[bS,pls,O3 l];rfl
theorem H2:∀l:fN,pls (l.map andV)=true
 |[]=>rfl
 |x::l=>by rw[bS,pls,H2 l];rfl
theorem zm:∀l:fq,pls (l.map I)=true
 |[]=>rfl
 |x::l=>by rw[bS,pls,zm l];rfl
theorem QT:∀l:ft,pls (LLI l)=true
 |[]=>rfl
 |x::l=>by
  have b:=zm x;have a:=QT l
  show ((LI x).pl&&pls (LLI l))=true
  rw[a,Bool.and_true];exact b
abbrev QU:List (Bool×List CS):=[(true,Qz),(false,[.str]),(true,QB),(true,Qy)]
def rmQ (m:Md) (s:List UInt8) (st:fq) (a:ft) (gi:Int) (b:fN):RmD:=
 {mN:=m.nodes.map nodeV,mA:=m.inits.map andV,mB:=m.nexts.map andV,mC:=m.bads.map I,mD:=m.holds.map I,ST:=st.map I,INS:=LLI a,GA:=b.map andV,
  pN:=(ie s).1.nodes.map nodeV,pA:=(ie s).1.inits.map andV,pB:=(ie s).1.nexts.map andV,pC:=(ie s).1.bads.map I,pD:=(ie s).1.holds.map I,
  s:=bA s,gi:=gi,pe:=(ie s).2.2,tw:=m7 m st a }
section
variable {m:Md} {s:List UInt8} {st:fq} {ins:ft} {gi:Int} {ga:fN}
theorem TB (h:MdZ m 2000000) (g:s.length<=2000000) (a:st.length<=2000000/\ins.length<=2000000/\∀l∈ins,l.length<=2000000) (i:ga.length<=2000000):Ga (rmQ m s st ins gi ga) (ie s).2.1:=by
 obtain⟨f,e,d,c,b⟩:=h;refine⟨Tw,vP,vQ,Tx,Ty,?_,Tn a.2.1 a.2.2,?_,?_,?_,?_,?_⟩
 ·exact Tm (by simpa [rmQ] using f) (by simpa [rmQ] using e) (by simpa [rmQ] using d) (by simpa [rmQ] using c) (by simpa [rmQ] using b) (Ct _) (H1 _) (H1 _) (wl _) (wl _)
 ·exact MR g
 ·exact S7 (by simp only[Sz];omega) (by simp only[Sz];omega)
 ·simp only[rmQ,aW];unfold maxBytes;omega
 ·simp only[rmQ,aW];unfold maxBytes;omega
 ·exact⟨O3 _,H2 _,H2 _,zm _,zm _,zm _,QT _,H2 _,O3 _,H2 _,H2 _,zm _,zm _⟩
theorem TC:(∀l∈qq m st ins,l.length<=1000)/\(qq m st ins).length<=1000:=by
 unfold qq;by_cases b:m7 m st ins=0
 ·rw[if_pos b]
  have a:=OY b;obtain⟨d,c⟩:=QQ a.chk ins [] (f0 m st) a.inputs (OW a.chk a.start) (λl h=>by cases h);refine⟨d,?_⟩;have:=a.len;rw[wm,c];simp;omega
 ·rw[if_neg b];exact⟨λl h=>(by cases h),bh⟩
theorem TD (a b:Int):(j3 gi ga a b).1.2.length<=1000000:=by
 unfold j3
 repeat' split
 all_goals first|(simp;done)|(show (fy _ _ _ _).1.length<=_;omega)
theorem TE (u:MdZ m 2000000) (t:s.length<=2000000) (q:st.length<=2000000/\ins.length<=2000000/\∀l∈ins,l.length<=2000000) (M:ga.length<=2000000) (hr:RA ga):∃x,F9 (rmQ m s st ins gi ga) x:=by
 obtain⟨k,E,D,C,B⟩:=u;have f:Sz m.inits.length:=by simp only[Sz];omega
 have d:Sz m.nexts.length:=by simp only[Sz];omega
 obtain⟨c,h,j⟩:=Te f d;obtain⟨p,n,o,y,w,i⟩:=RW (gh:=[]) (ins:=gi) hr (r:=2) bz bz;have b:=TC (m:=m) (st:=st) (ins:=ins);have N:=TD (gi:=gi) (ga:=ga) 2 3;obtain⟨L,I,H,G,F⟩:=QP s;have v:(ofL m 3).length<=2000000:=by
  unfold ofL;split
  ·exact cC (uA _ _ _) k
  ·simp
 have z:(Hp m st).length<=2000000:=by
  unfold Hp;split
  ·exact cC QO (cC (uA _ _ _) k)
  ·simp
 refine⟨⟨qq m st ins,c.ins,c.inp,c.st,h,(j3 gi ga 2 3).1.1,(j3 gi ga 2 3).2.1,(j3 gi ga 2 3).2.2,p,o,(ie s).2.1,dc m,Oj m st,c.ands,(j3 gi ga 2 3).1.2,c.inits,c.nexts,c.bads,c.holds,ofL m 3,Hp m st,n⟩,?_⟩
 refine {parse:=Mz t,play:=Tr f d,blast:=j.eq,and:=Sf hr 2 3,cnf:=y,states:=SZ f d,beg:=SR f d,same1:=QK (QP s),same2:=QK ⟨aj,aj,aj,aj,aj⟩,same3:=Ot (by simp only[Sz];omega),same4:=QF (λl a=>by have:=q.2.2 l a;simp only[Sz];omega) (by simp only[Sz];omega),same5:=Tl (by simp only[Sz];omega),want:=?J,same6:=QF (λl a=>by have:=b.1 l a;simp only[Sz];omega) (by have:=b.2;simp only[Sz];omega),good:=λe=>j.ck e,un:=⟨TA _,N9 _,N9 _,x9 _,x9 _⟩,int:=⟨Tz _,Oc _,Oc _,In _,In _⟩,sz:=?Z,szc:=?Y,szl:=?K,szp:=?V,szk:=?W }
 case J=>
  intro g;have g:m7 m st ins=0:=g;have e5:=Tt (gh:=[]) (OY g);have A:qq m st ins=wm m (f0 m st) ins:=by unfold qq;rw[if_pos g]
  rw[<-A] at e5;exact⟨_,e5⟩
 case Z=>simp only[rmQ,aW];omega
 case Y=>
  obtain⟨S,R,Q,P,O⟩:=j.sz;exact⟨by show c.ands.length<=_;omega,by show c.inits.length<=_;omega,by show c.nexts.length<=_;omega,by show c.bads.length<=_;omega,by show c.holds.length<=_;omega⟩
 case K=>exact⟨by show (j3 gi ga 2 3).1.2.length<=_;omega,by show (ofL m 3).length<=_;omega,by show (Hp m st).length<=_;omega⟩
 case V=>exact⟨by have:=b.2;show (qq m st ins).length<=_;omega,λl a=>by have:=b.1 l a;omega⟩
 case W=>exact⟨by show n.length<=_;omega,λl a=>by have:=i l a;omega⟩
end
theorem TF {m:Md} {n:Nat} (hn:gP (e9 m)<=n):MdZ m n:=by have e:=ox (m.nodes.map nodeV);have d:=ox (m.inits.map andV);have c:=ox (m.nexts.map andV);have b:=ox (m.bads.map I);have a:=ox (m.holds.map I);simp only[eJ,gP,aW,e9,LN,LP,LI] at hn e d c b a;exact⟨aj,aj,aj,aj,aj⟩
theorem TG (a:fw) (h:im QU a) (hn:eJ a<=1048576):∃q x b,a=[q.M,.str q.s,q.T0,.agg [I q.gi,.sl false 2 q.GA]]/\Ga q b/\F9 q x:=by
 obtain⟨_,_,rfl,r,h⟩:=tF h;obtain⟨_,_,rfl,p,h⟩:=tF h;obtain⟨_,_,rfl,o,h⟩:=tF h;obtain⟨_,_,rfl,l,h⟩:=tF h;obtain rfl:=F3 h;obtain⟨m,rfl,-⟩:=Th r;obtain⟨st,ins,rfl,-,-⟩:=Ti o;obtain⟨gi,ga,rfl,hr,-⟩:=Tf l;obtain⟨q,v,c,g,t⟩:=yk p;cases yl t;simp only[List.cons.injEq,and_true] at c;subst c;unfold kS at g;obtain⟨s,rfl,-⟩:=g;simp only[eJ] at hn;have k:gP (.str s)=s.size+1:=rfl;have w:s.data.toList.length=s.size:=rfl;have j:s=bA s.data.toList:=rfl;have e:=TF (m:=m) (n:=2000000) aj;have d:=Tj (st:=st) (ins:=ins) (N:=2000000) aj;have f:ga.length<=2000000:=by have b:=ox (ga.map andV);have u:gP (gu gi ga)<=1048576:=aj;simp only[gu,gP,eJ,aW] at b u;omega
 obtain⟨x,i⟩:=TE (gi:=gi) e (s:=s.data.toList) aj d f hr;exact⟨_,x,_,rfl,TB e aj d f,i⟩
section
open Go.RowKit
theorem TH {H:Type} {enc:TypeId×Value->H} {P:Program} {fi:FI} (U:P.follows .mixedOrders=true) (hL:∀g,fi.Like g->kR P g pg) {F n:Nat} {r:Func} {c:Code} (hF:P.funcs[F]?=some r) (T:r.body=some c) (i:fE P [.t 8] r.results.toList=true)
  (N:∀g,fi.Like g->H5 P g r.ntmps rmR c=true) (y:∃x,x∈fi.gl) {p:List TypeId} (G:oi P n p=some QU) {d:World} {o:Nat} {f:gA} {A:List (DataW H)} {D:List MemPlace}
  (hA:DataW.TrodAll enc P d 0 (λ_=>true) true p f A D) (E:∀(j:Nat) t v,p[j]?=some t->f[j]?=some v->Value.okWide P d .any o t v) (hw:(DataW.weightsEach P p A).all (· <=reachBytes)=true) (X:fX A<=1048576) (R:∀x∈fi.gl,x.1<d.heap.size/\d.cell? ⟨x.1,x.2.1,none⟩=x.2.2) :
  Calls P F f.toArray d λe W'=>e= .returned (.bool true)/\Below d.heap.size d W':=by
 obtain⟨C,L,z,O,hr⟩:=yp (fi:=fi) G hA E (by simpa using hw);obtain⟨q,x,e1,rfl,u,ok⟩:=TG C L (cC z X)
 have S:eG P fi F [q.M,.str q.s,q.T0,.agg [I q.gi,.sl false 2 q.GA]] [] (.bool true) []:=
  oe (fn:={np:=4,res:=[.t 8],own:=false,trunc:=true,body:= .skip }) (x:=(.ret,⟨[(8,.bool true)],[],[]⟩)) hF T i (λa M w hI hn=>Sd u ok U hL N y hI hn) rfl
 refine Calls.mono (S (Mem.start d) d f (GI.start fi d R) rfl (λb l h=>by simp[Mem.start] at h) O.symm hr) ?_;rintro e B ⟨v,M',rfl,_,_,_,h4,m⟩;have:RepP fi M' B (.bool true) v:=h4;cases this;exact⟨rfl,⟨m.os,m.tape,m.output,m.size,λk Q=>m.block k Q (by simp[Mem.start]) (by simp[Mem.start]) rfl⟩⟩
end
end Go.Lw