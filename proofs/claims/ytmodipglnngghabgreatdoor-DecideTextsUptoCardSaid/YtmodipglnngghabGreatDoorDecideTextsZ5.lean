/-
  The texts that the proof stands on, part 31.
-/
import Derived.Test.YtmodipglnngghabGreatDoorDecideTextsZ3
import Derived.Laws.Strings
import Derived.KernelRfl
set_option linter.unusedVariables false
set_option linter.unusedSimpArgs false
set_option linter.unnecessarySimpa false

set_option maxRecDepth 100000
set_option maxHeartbeats 4000000
namespace Go.Lw
open Go
section
attribute [local congr] bu
attribute [local simp] au
theorem BU (x y:List UInt8):(ByteArray.toList (bA x)==ByteArray.toList (bA y))=decide (x=y):=by
 rw[ByteArray.toList_eq,ByteArray.toList_eq]
 show (x==y)=_
 by_cases h:x=y<;>simp[h]
theorem Ml {l:List UInt8} {v:Int} (h:Lib.atoiAll l= .ok v): -9223372036854775808<=v/\v<=9223372036854775807:=by
 unfold Lib.atoiAll at h;split at h
 ·cases h
 ·simp only at h
  split at h
  ·cases h
  ·cases h
  ·split at h
   ·cases h
   ·split at h
    ·cases h
    ·injection h with h
     split at h<;>omega
theorem lm (c:UInt8):∀l:List UInt8,1<=(cu c l).length/\(cu c l).length<=l.length+1
 |[]=>by simp[cu]
 | b::r=>by
  have a:=lm c r;rw[cu];split
  ·simp;omega
  ·split
   ·simp
   ·rename_i x l h
    rw[h] at a;simp at a ⊢;omega
theorem vu (c:UInt8):∀l:List UInt8,∀x∈cu c l,x.length<=l.length
 |[],x,h=>by simp[cu] at h;simp[h]
 | b::r,x,h=>by
  have a:=vu c r;rw[cu] at h;split at h
  ·rcases List.mem_cons.1 h with rfl|h
   ·simp
   ·have:=a x h;simp;omega
  ·split at h
   ·simp at h;subst h;simp
   ·rename_i y l d
    rw[d] at a;rcases List.mem_cons.1 h with rfl|h
    ·have:=a y NX;simp;omega
    ·have:=a x (by simp[h]);simp;omega
section
variable {gh:Ol}
theorem Mm {x:List UInt8} (b:x.length<=3000000):ac pg 263 [.str (bA x)] gh=match Lib.atoiAll x with
  | .ok v=>some (.tup [I v,.nilI],gh)
  | .range=>some (.tup [I (Lib.atoiSat x),.someI],gh)
  |_=>some (.tup [I 0,.someI],gh):=by
 have:ac pg 263 [.str (bA x)] gh=libAtoi [.str (bA x)] gh:=rfl;have a:(bA x).size<=281474976710656:=by simp[ByteArray.size];omega
 rw[this,libAtoi,if_pos a];rfl
theorem Mn {c:UInt8} {x:List UInt8} (b:x.length<=3000000):ac pg 262 [.str (bA x),.str (bA [c])] gh=some (NZ ((cu c x).map λx=> .str (bA x)),gh):=by
 have:ac pg 262 [.str (bA x),.str (bA [c])] gh=libSplit [.str (bA x),.str (bA [c])] gh:=rfl;have a:(bA x).size<4294967281:=by simp[ByteArray.size];omega
 rw[this,libSplit];exact if_pos a
theorem Mo {c:UInt8} {x:List UInt8} (b:x.length<=3000000):ac pg 255 [.str (bA x),.str (bA [c])] gh=some (.tup [.str (bA (fp c x).1),.str (bA (fp c x).2.1),.bool (fp c x).2.2],gh):=by
 have:ac pg 255 [.str (bA x),.str (bA [c])] gh=libCut [.str (bA x),.str (bA [c])] gh:=rfl;have a:(bA x).size<4294967281:=by simp[ByteArray.size];omega
 rw[this,libCut];exact if_pos a
end
end
section
attribute [local congr] bu
attribute [local simp] au
theorem vv (s:List UInt8) (n:Nat):(bA s)[n]?=s[n]?:=by
 by_cases h:n<s.length
 ·have a:n<(bA s).size:=by simpa [ByteArray.size] using h
  rw[getElem?_pos (bA s) n a,aA h];rfl
 ·have a:¬n<(bA s).size:=by simpa [ByteArray.size] using h
  rw[getElem?_neg (bA s) n a,List.getElem?_eq_none NW]
theorem BW (s:List UInt8) (i j:Nat):(bA s).extract i j=bA ((s.take j).drop i):=by apply ByteArray.ext;rw[ByteArray.data_extract];simp[List.drop_take]
theorem B0 {c:UInt8}:∀{l:List UInt8},c∉l->cu c l=[l]
 |[],_=>rfl
 |b::l,h=>by simp only[List.mem_cons,not_or] at h;rw[cu,if_neg (Ne.symm h.1),B0 h.2]
theorem B1 {c:UInt8} {q:List UInt8}:∀{p:List UInt8},c∉p->cu c (p++c::q)=p::cu c q
 |[],_=>by simp[cu]
 |b::p,h=>by simp only[List.mem_cons,not_or] at h;rw[bH,cu,if_neg (Ne.symm h.1),B1 h.2]
section
variable {gh:Ol}
abbrev SL8 (a:List (List UInt8)):Ok:=a.map λx=> .str (bA x)
theorem B2 {s:List UInt8} {c:Int} {out:Ok} {f i:Nat} (b:i<=3000000) :
  ab pg qbd ⟨[(0,.str (bA s)),(1,.int .u8 c),(5,Oa out),(6,I f),(7,I i)],[],gh⟩=Og ⟨[(0,.str (bA s)),(1,.int .u8 c),(5,Oa out),(6,I f),(7,I ((i+1:Nat):Int))],[],gh⟩:=by
 have a:WI.wrap ((i:Int)+1)=(i:Int)+1:=aq NW NW;refine aa ?_;simp[qbd,a]
theorem vw {s:List UInt8} {c:UInt8} (C:s.length<=2000000):∀(q a p:List UInt8) (out:List (List UInt8)),c∉p->s=a++(p++q)->out.length<=a.length->
  ∃(d:List (List UInt8)) (f:Nat),ab pg qfr ⟨[(0,.str (bA s)),(1,.int .u8 c.toNat),(5,Oa (SL8 out)),(6,I a.length),(7,I ((a.length+p.length:Nat):Int))],[],gh⟩=
   Og ⟨[(0,.str (bA s)),(5,Oa (SL8 d)),(6,I f)],[],gh⟩/\f<=s.length/\d.length<=s.length/\d++[s.drop f]=out++cu c (p++q)
 | [],a,p,out,n,g,D=>by
  rw[bE] at g ⊢;have l:s.length=a.length+p.length:=by rw[g];simp
  have e:¬(((a.length+p.length:Nat):Int)<(((bA s).size:Nat):Int)):=(by rw[gS];omega)
  refine⟨out,a.length,?_,NW,NW,?_⟩
  ·generalize a.length+p.length=i at *
   refine (bn (s1:=?J) (aa ?Z)).trans ?Y
   case Z=>simp[q7i,e];rfl
   case Y=>simp[keep,bj]
  ·rw[B0 n,g,List.drop_left]
 | b ::q,a,p,out,n,g,D=>by
  have l:s.length=a.length+(p.length+(q.length+1)):=by rw[g];simp
  have e:(((a.length+p.length:Nat):Int)<(((bA s).size:Nat):Int)):=(by rw[gS];omega)
  have E:(bA s)[a.length+p.length]?=some b:=by rw[vv,g,<-aT,aN NX,aQ,Nat.sub_self];rfl
  by_cases x:b=c
  ·subst x
   have k:WI.wrap (((a.length+p.length:Nat):Int)+1)=((a.length+p.length+1:Nat):Int):=gv (by simp only[Sz];omega);have w:(bA s).extract a.length (a.length+p.length)=bA p:=by
    rw[BW,g]
    congr 1
    rw[<-aT,List.take_left' NX,List.drop_left]
   have t:((SL8 out).length+1)*16<=maxBytes:=by have:=MB;rw[aW];omega
   have m:=B2 (gh:=gh) (s:=s) (c:=(b.toNat:Int)) (out:=SL8 (out++[p])) (f:=a.length+p.length+1) (i:=a.length+p.length) NW;obtain⟨d,f,j,B,A,z⟩:=vw (c:=b) C q (a++p++[b]) [] (out++[p]) NX (by rw[g];simp) (by simp;omega);refine⟨d,f,?_,B,A,?_⟩
   ·have y:(a++p++[b]).length=a.length+p.length+1:=by simp;omega
    rw[y] at j;rw[cF,cG] at j;rw[<-j];have o:SL8 (out++[p])=SL8 out++[.str (bA p)]:=by simp[SL8]
    rw[o] at m ⊢;have v:(a.length<=a.length+p.length/\a.length+p.length<=(bA s).size):=⟨NW,by rw[gS];omega⟩
    generalize SL8 out=O,G:a.length+p.length=i at *;obtain⟨u,F⟩:∃u:Int,((i+1:Nat):Int)=u:=⟨_,rfl⟩
    rw[F] at m k ⊢;refine ay (s1:=⟨[(0,.str (bA s)),(1,.int .u8 b.toNat),(5,Oa (O++[.str (bA p)])),(6,I u),(7,I u)],[],gh⟩) (aa ?K) rfl
    case K=>
     simp[q7i,e,E,v,w,t,k,m]
   ·rw[z,bF,B1 n];simp
  ·have r:((b.toNat:Int)==(c.toNat:Int))=false:=by
    apply beq_eq_false_iff_ne.2;intro h;exact x (UInt8.toNat_inj.1 NW)
   have m:=B2 (gh:=gh) (s:=s) (c:=(c.toNat:Int)) (out:=SL8 out) (f:=a.length) (i:=a.length+p.length) NW;obtain⟨d,f,j,B,A,z⟩:=vw (c:=c) C q a (p++[b]) out (by simp[n,Ne.symm x]) (by rw[g];simp) D;refine⟨d,f,?_,B,A,?_⟩
   ·have y:a.length+(p++[b]).length=a.length+p.length+1:=by simp;omega
    rw[y] at j;rw[<-j];generalize SL8 out=O,G:a.length+p.length=i at *;refine ay (s1:=⟨[(0,.str (bA s)),(1,.int .u8 c.toNat),(5,Oa O),(6,I a.length),(7,I ((i+1:Nat):Int))],[],gh⟩) (aa ?V) rfl
    case V=>
     simp[q7i,e,E,r,m]
   ·rw[z];simp
theorem B3 {s:List UInt8} {c:UInt8} (o:s.length<=2000000):ac pg 380 [.str (bA s),.int .u8 c.toNat] gh=some (NZ (SL8 (cu c s)),gh):=by
 obtain⟨b,f,m,t,r,k⟩:=vw (gh:=gh) (c:=c) o s [] [] [] NX rfl NX;simp only[cF,cG,aR,bF,SL8,bU] at m k;have j:(bA s).extract f (bA s).size=bA (s.drop f):=by rw[BW,gS,List.take_length]
 have h:((b.map λx=>PV.str (bA x)).length+1)*16<=maxBytes:=by have:=MB;rw[aW];omega
 have q:SL8 (cu c s)=(b.map λx=>PV.str (bA x))++[.str (bA (s.drop f))]:=by rw[<-k];simp[SL8]
 rw[q];have g:∀e:List (List UInt8),dr (e.map λx=>PV.str (bA x))=true:=by
  intro e
  induction e with
  |nil=>rfl
  |cons a l n=>exact n
 have d:dr ((b.map λx=>PV.str (bA x))++[.str (bA (s.drop f))])=true:=by have:=g (b++[s.drop f]);simpa using this
 have i:f<=(bA s).size:=by rw[gS];omega
 generalize (b.map λx=>PV.str (bA x))=O at *;have p:ab pg qbe ⟨[(0,.str (bA s)),(5,Oa O),(6,I f)],[],gh⟩=Oh ⟨[(4,Oa (O++[.str (bA (s.drop f))]))],[],gh⟩:=by refine aa ?_;simp[qbe,i,j,h]
 refine ak (fn:=q7j) (s:=?J) rfl rfl (aa ?Z) ?Y
 case Z=>simp[qfs,q7j,m,p];rfl
 case Y=>simp[ag,results,q7j,ah,am,af,d]
end
end
section
attribute [local congr] bu
attribute [local simp] au
def dA:Int->List UInt8->Int
 |n,[]=>n
 |n,b::r=>if b.toNat<48\/57<b.toNat then -1 else dA (10*n+b.toNat-48) r
theorem mg {n:Int} {b:UInt8} {r:List UInt8} (h:b.toNat<48\/57<b.toNat):dA n (b::r)= -1:=by rw[dA,if_pos h]
theorem nD {n:Int} {b:UInt8} {r:List UInt8} (h:¬(b.toNat<48\/57<b.toNat)):dA n (b::r)=dA (10*n+b.toNat-48) r:=by rw[dA,if_neg h]
def bp (x:List UInt8):Int:=
 if x=[]\/9<x.length\/(1<x.length/\x.head?=some 48) then -1 else dA 0 x
section
variable {gh:Ol}
theorem B4 {x:List UInt8} (r:x.length<=9):∀(k i:Nat) (n:Int),i+k=x.length->0<=n->n<10^i->
  ab pg qft ⟨[(0,.str (bA x)),(3,I n),(4,I i)],[],gh⟩=
   if dA n (x.drop i)= -1 then Oh ⟨[(2,I (-1))],[],gh⟩ else Og ⟨[(3,I (dA n (x.drop i)))],[],gh⟩
 |0,i,n,t,w,u=>by
  have a:¬(i<((bA x).size)):=(by rw[gS];omega)
  rw[aM NW,dA,if_neg NW];refine (bn (s1:=?J) (aa ?Z)).trans ?Y
  case Z=>simp[q4e,a];rfl
  case Y=>simp[keep,bj]
 | k+1,i,n,t,w,u=>by
  have c:i<x.length:=NW;have a:(i<((bA x).size)):=(by rw[gS];omega)
  have l:(bA x)[i]?=some x[i]:=by rw[vv,aA c]
  have f:(0<=(i:Int)):=NW;rw[aJ c];have z:=(x[i]).toNat_lt;generalize x[i]=b at *;by_cases h:b.toNat<48
  ·rw[mg (.inl h),if_pos rfl]
   have e:(((b.toNat:Nat):Int)<48):=NW;refine cx (aa ?K)
   case K=>simp[q4e,a,f,Int.toNat_natCast,l,e,-getElem?_pos]
  by_cases j:57<b.toNat
  ·rw[mg (.inr j),if_pos rfl]
   have e:¬(((b.toNat:Nat):Int)<48):=NW;have d:(57<((b.toNat:Nat):Int)):=NW;refine cx (aa ?V)
   case V=>simp[q4e,a,f,Int.toNat_natCast,l,e,d,-getElem?_pos]
  rw[nD NW];have e:¬(((b.toNat:Nat):Int)<48):=NW;have d:¬(57<((b.toNat:Nat):Int)):=NW;have y:(10:Int)^i<=1000000000:=by have:∀v:Fin 10,(10:Int)^v.val<=1000000000:=NY;exact this ⟨i,NW⟩
  have s:(10:Int)^(i+1)=10*10^i:=by rw[Int.pow_succ,Int.mul_comm]
  have w1:WI.wrap (10*n)=10*n:=aq NW NW;have p:WI.wrap ((b.toNat:Nat):Int)=((b.toNat:Nat):Int):=aq NW NW;have o:WI.wrap (10*n+((b.toNat:Nat):Int))=10*n+((b.toNat:Nat):Int):=aq NW NW;have m:WI.wrap (10*n+((b.toNat:Nat):Int)-48)=10*n+((b.toNat:Nat):Int)-48:=aq NW NW;have g:WI.wrap ((i:Int)+1)=((i+1:Nat):Int):=gv (by simp only[Sz];omega);have q:=B4 r k (i+1) (10*n+((b.toNat:Nat):Int)-48) NW NW NW;rw[<-q];refine ay (s1:=⟨[(0,.str (bA x)),(3,I (10*n+((b.toNat:Nat):Int)-48)),(4,I ((i+1:Nat):Int))],[],gh⟩) (aa ?W) rfl
  case W=>simp[q4e,a,f,Int.toNat_natCast,l,e,d,w1,p,o,m,g,-getElem?_pos]
theorem vx {x:List UInt8}:ac pg 381 [.str (bA x)] gh=some (I (bp x),gh):=by
 have d:=BU x [];rw[<-pw] at d;unfold bp;by_cases i:x=[]
 ·rw[if_pos (.inl i)]
  rw[aG i] at d;refine ak (fn:=qb) (s:=?J) rfl rfl (aa ?Z) ?Y
  case Z=>simp[q1t,qb,d,i];rfl
  case Y=>simp[ag,results,qb,ah,am,af]
 rw[aF i] at d;by_cases n:9<x.length
 ·rw[if_pos (.inr (.inl n))]
  have f:(9<(((bA x).size:Nat):Int)):=(by rw[gS];omega)
  refine ak (fn:=qb) (s:=?K) rfl rfl (aa ?V) ?W
  case V=>simp[q1t,qb,d,f,show x.isEmpty=false by cases x<;>simp_all];rfl
  case W=>simp[ag,results,qb,ah,am,af]
 have f:¬(9<(((bA x).size:Nat):Int)):=(by rw[gS];omega)
 obtain⟨b,r,rfl⟩:∃b r,x=b::r:=by
  cases x with
  |nil=>exact absurd rfl i
  |cons b r=>exact⟨b,r,rfl⟩
 have m:(bA (b::r))[0]?=some b:=by rw[vv];rfl
 have e:=B4 (gh:=gh) (x:=b::r) NW (b::r).length 0 0 NW NW NY;rw[bJ,aR] at e;by_cases o:1<(b::r).length
 ·have a:(1<(((bA (b::r)).size:Nat):Int)):=(by rw[gS];omega)
  by_cases k:b=48
  ·rw[if_pos (.inr (.inr ⟨o,by rw[k];rfl⟩))]
   have j:(((b.toNat:Nat):Int)==48)=true:=by rw[k];rfl
   refine ak (fn:=qb) (s:=?Ja) rfl rfl (aa ?Jb) ?Jc
   case Jb=>simp[q1t,qb,d,f,a,show decide ((0:Int)<=0)=true from rfl,show (0:Int).toNat=0 from rfl,m,j];rfl
   case Jc=>simp[ag,results,qb,ah,am,af]
  ·rw[if_neg (by
    rintro (h|h|⟨_,h⟩)
    ·exact i h
    ·exact n h
    ·simp at h;exact k h)]
   have j:(((b.toNat:Nat):Int)==48)=false:=beq_eq_false_iff_ne.2 (λh=>k (UInt8.toNat_inj.1 (by show b.toNat=48;omega)));by_cases g:dA 0 (b::r)= -1
   ·rw[if_pos g] at e
    rw[g];refine ak (fn:=qb) (s:=⟨[(2,I (-1))],[],gh⟩) rfl rfl (aa ?Jd) ?Je
    case Jd=>simp[q1t,qb,d,f,a,show decide ((0:Int)<=0)=true from rfl,show (0:Int).toNat=0 from rfl,m,j,e]
    case Je=>simp[ag,results,qb,ah,am,af]
   ·rw[if_neg g] at e
    generalize dA 0 (b::r)=v at *;have l:ab pg q2m ⟨[(3,I v)],[],gh⟩=Oh ⟨[(2,I v)],[],gh⟩:=aa (c:=q2m) (s:=⟨[(3,(.int .i64 _))],[],_⟩) (by simp[q2m]<;>rfl);refine ak (fn:=qb) (s:=⟨[(2,I v)],[],gh⟩) rfl rfl (aa ?Jf) ?Jg
    case Jf=>simp[q1t,qb,d,f,a,show decide ((0:Int)<=0)=true from rfl,show (0:Int).toNat=0 from rfl,m,j,e,l]
    case Jg=>simp[ag,results,qb,ah,am,af]
 ·have a:¬(1<(((bA (b::r)).size:Nat):Int)):=(by rw[gS];omega)
  rw[if_neg (by
   rintro (h|h|⟨h,_⟩)
   ·exact i h
   ·exact n h
   ·exact o h)]
  by_cases g:dA 0 (b::r)= -1
  ·rw[if_pos g] at e
   rw[g];refine ak (fn:=qb) (s:=⟨[(2,I (-1))],[],gh⟩) rfl rfl (aa ?Jh) ?Ji
   case Jh=>simp[q1t,qb,d,f,a,e]
   case Ji=>simp[ag,results,qb,ah,am,af]
  ·rw[if_neg g] at e
   generalize dA 0 (b::r)=v at *;have l:ab pg q2m ⟨[(3,I v)],[],gh⟩=Oh ⟨[(2,I v)],[],gh⟩:=aa (c:=q2m) (s:=⟨[(3,(.int .i64 _))],[],_⟩) (by simp[q2m]<;>rfl);refine ak (fn:=qb) (s:=⟨[(2,I v)],[],gh⟩) rfl rfl (aa ?Jj) ?Jk
   case Jj=>simp[q1t,qb,d,f,a,e,l]
   case Jk=>simp[ag,results,qb,ah,am,af]
end
theorem vz:∀{r:List UInt8} {n:Int},0<=n->dA n r≠ -1->n*10^r.length<=dA n r
 |[],n,d,_=>by simp[dA]
 |b::r,n,d,h=>by
  rw[dA] at h ⊢;split at h
  ·exact absurd rfl h
  rename_i c;rw[if_neg c];have a:=vz (r:=r) (n:=10*n+b.toNat-48) NW h;refine Int.le_trans ?_ a;rw[aV,Int.pow_succ,Int.mul_comm (10^r.length) 10,<-Int.mul_assoc];exact Int.mul_le_mul_of_nonneg_right NW (Int.pow_nonneg NY)
end
section
attribute [local congr] bu
attribute [local simp] au
section
variable {gh:Ol} {m:Md}
theorem Ms {k:Int} (h:1<=k/\k<24):ac pg 379 [I k] gh=some (.str (bA (jw k)),gh):=by
 have b:evK pg qfq fiK ⟨[(0,(.int .i64 k))],[],gh⟩=Oh ⟨[(2,.str (bA (jw k)))],[],gh⟩:=by have a:k=1\/k=2\/k=3\/k=4\/k=5\/k=6\/k=7\/k=8\/k=9\/k=10\/k=11\/k=12\/k=13\/k=14\/k=15\/k=16\/k=17\/k=18\/k=19\/k=20\/k=21\/k=22\/k=23:=NW;rcases a with rfl|rfl|rfl|rfl|rfl|rfl|rfl|rfl|rfl|rfl|rfl|rfl|rfl|rfl|rfl|rfl|rfl|rfl|rfl|rfl|rfl|rfl|rfl<;>rfl
 refine ak (fn:=qbc) rfl rfl (aa b) ?_;simp[ag,results,qbc,ah,am,af]
abbrev nC (x:Nd):Ok:=[I x.k,I x.w,I x.a,I x.b,I x.c,I x.n]
end
end
section
attribute [local congr] bu
attribute [local simp] au
theorem Cf (c:UInt8):∀l:List UInt8,(fp c l=(l,[],false)/\cu c l=[l])\/∃x r,fp c l=(x,r,true)/\cu c l=x::cu c r/\l=x++c::r
 |[]=> .inl ⟨rfl,rfl⟩
 | b::l=>by
  rw[fp,cu];by_cases h:b=c
  ·rw[if_pos h,if_pos h];subst h
   exact .inr ⟨[],l,rfl,rfl,rfl⟩
  ·rw[if_neg h,if_neg h]
   rcases Cf c l with ⟨d,a⟩|⟨x,r,d,a,e⟩
   ·rw[d,a];exact .inl ⟨rfl,rfl⟩
   ·rw[d,a,e];exact .inr ⟨b::x,r,rfl,rfl,rfl⟩
theorem Cg (c:UInt8) (l:List UInt8):∃y t,cu c l=y::t:=by
 have:=(lm c l).1
 match h:cu c l with
 |[]=>rw[h] at this;simp at this
 |y::t=>exact⟨y,t,rfl⟩
section
variable {gh:Ol}
end
end
section
attribute [local congr] bu
attribute [local simp] au
section
variable {gh:Ol}
theorem pA (l:Oi):dr (l.map I)=true:=by
 induction l with
 |nil=>rfl
 |cons a l b=>exact b
end
end
end Go.Lw