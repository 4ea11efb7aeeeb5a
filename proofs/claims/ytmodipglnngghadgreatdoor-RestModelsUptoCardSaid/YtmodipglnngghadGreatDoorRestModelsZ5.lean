/-
  The texts that the proof stands on, part 31.
-/
import Derived.Test.YtmodipglnngghadGreatDoorRestModelsZ3
import Derived.Laws.Strings
import Derived.KernelRfl
set_option linter.unusedVariables false
set_option linter.unusedSimpArgs false
set_option linter.unnecessarySimpa false

set_option maxRecDepth 100000
set_option maxHeartbeats 4000000
namespace Go.Lw
open Go
section
attribute [local congr] bu
attribute [local simp] au
theorem BU (x y:List UInt8):(ByteArray.toList (bA x)==ByteArray.toList (bA y))=decide (x=y):=by
 rw[ByteArray.toList_eq,ByteArray.toList_eq]
 show (x==y)=_
 by_cases h:x=y<;>simp[h]
theorem Ml {l:List UInt8} {v:Int} (h:Lib.atoiAll l= .ok v): -9223372036854775808<=v/\v<=9223372036854775807:=by
 unfold Lib.atoiAll at h;split at h
 ·cases h
 ·simp only at h
  split at h
  ·cases h
  ·cases h
  ·split at h
   ·cases h
   ·split at h
    ·cases h
    ·injection h with h
     split at h<;>omega
theorem lm (c:UInt8):∀l:List UInt8,1<=(cu c l).length/\(cu c l).length<=l.length+1
 |[]=>by simp[cu]
 | b::r=>by
  have a:=lm c r;rw[cu];split
  ·simp;omega
  ·split
   ·simp
   ·rename_i x l h
    rw[h] at a;simp at a ⊢;omega
theorem vu (c:UInt8):∀l:List UInt8,∀x∈cu c l,x.length<=l.length
 |[],x,h=>by simp[cu] at h;simp[h]
 | b::r,x,h=>by
  have a:=vu c r;rw[cu] at h;split at h
  ·rcases List.mem_cons.1 h with rfl|h
   ·simp
   ·have:=a x h;simp;omega
  ·split at h
   ·simp at h;subst h;simp
   ·rename_i y l d
    rw[d] at a;rcases List.mem_cons.1 h with rfl|h
    ·have:=a y bh;simp;omega
    ·have:=a x (by simp[h]);simp;omega
section
variable {gh:fB}
theorem Mm {x:List UInt8} (b:x.length<=3000000):ac pg 263 [.str (bA x)] gh=match Lib.atoiAll x with
  | .ok v=>some (.tup [I v,.nilI],gh)
  | .range=>some (.tup [I (Lib.atoiSat x),.someI],gh)
  |_=>some (.tup [I 0,.someI],gh):=by
 have:ac pg 263 [.str (bA x)] gh=libAtoi [.str (bA x)] gh:=rfl;have a:(bA x).size<=281474976710656:=by simp[ByteArray.size];omega
 rw[this,libAtoi,if_pos a];rfl
theorem Mn {c:UInt8} {x:List UInt8} (b:x.length<=3000000):ac pg 262 [.str (bA x),.str (bA [c])] gh=some (cr ((cu c x).map λx=> .str (bA x)),gh):=by
 have:ac pg 262 [.str (bA x),.str (bA [c])] gh=libSplit [.str (bA x),.str (bA [c])] gh:=rfl;have a:(bA x).size<4294967281:=by simp[ByteArray.size];omega
 rw[this,libSplit];exact if_pos a
theorem Mo {c:UInt8} {x:List UInt8} (b:x.length<=3000000):ac pg 255 [.str (bA x),.str (bA [c])] gh=some (.tup [.str (bA (fp c x).1),.str (bA (fp c x).2.1),.bool (fp c x).2.2],gh):=by
 have:ac pg 255 [.str (bA x),.str (bA [c])] gh=libCut [.str (bA x),.str (bA [c])] gh:=rfl;have a:(bA x).size<4294967281:=by simp[ByteArray.size];omega
 rw[this,libCut];exact if_pos a
end
end
section
attribute [local congr] bu
attribute [local simp] au
theorem vv (s:List UInt8) (n:Nat):(bA s)[n]?=s[n]?:=by
 by_cases h:n<s.length
 ·have a:n<(bA s).size:=by simpa [ByteArray.size] using h
  rw[getElem?_pos (bA s) n a,aA h];rfl
 ·have a:¬n<(bA s).size:=by simpa [ByteArray.size] using h
  rw[getElem?_neg (bA s) n a,List.getElem?_eq_none aj]
theorem BW (s:List UInt8) (i j:Nat):(bA s).extract i j=bA ((s.take j).drop i):=by apply ByteArray.ext;rw[ByteArray.data_extract];simp[List.drop_take]
theorem B0 {c:UInt8}:∀{l:List UInt8},c∉l->cu c l=[l]
 |[],_=>rfl
 |b::l,h=>by simp only[List.mem_cons,not_or] at h;rw[cu,if_neg (Ne.symm h.1),B0 h.2]
theorem B1 {c:UInt8} {q:List UInt8}:∀{p:List UInt8},c∉p->cu c (p++c::q)=p::cu c q
 |[],_=>by simp[cu]
 |b::p,h=>by simp only[List.mem_cons,not_or] at h;rw[bH,cu,if_neg (Ne.symm h.1),B1 h.2]
section
variable {gh:fB}
abbrev SL8 (a:List (List UInt8)):fw:=a.map λx=> .str (bA x)
theorem B2 {s:List UInt8} {c:Int} {out:fw} {f i:Nat} (b:i<=3000000) :
  bm pg qbd ⟨[(0,.str (bA s)),(1,.int .u8 c),(5,dz out),(6,I f),(7,I i)],[],gh⟩=fg ⟨[(0,.str (bA s)),(1,.int .u8 c),(5,dz out),(6,I f),(7,I ((i+1:Nat):Int))],[],gh⟩:=by
 have a:WI.wrap ((i:Int)+1)=(i:Int)+1:=aq aj aj;refine bg ?_;simp[qbd,a]
theorem vw {s:List UInt8} {c:UInt8} (C:s.length<=2000000):∀(q a p:List UInt8) (out:List (List UInt8)),c∉p->s=a++(p++q)->out.length<=a.length->
  ∃(d:List (List UInt8)) (f:Nat),bm pg qfr ⟨[(0,.str (bA s)),(1,.int .u8 c.toNat),(5,dz (SL8 out)),(6,I a.length),(7,I ((a.length+p.length:Nat):Int))],[],gh⟩=
   fg ⟨[(0,.str (bA s)),(5,dz (SL8 d)),(6,I f)],[],gh⟩/\f<=s.length/\d.length<=s.length/\d++[s.drop f]=out++cu c (p++q)
 | [],a,p,out,n,g,D=>by
  rw[bE] at g ⊢;have l:s.length=a.length+p.length:=by rw[g];simp
  have e:¬(((a.length+p.length:Nat):Int)<(((bA s).size:Nat):Int)):=(by rw[gS];omega)
  refine⟨out,a.length,?_,aj,aj,?_⟩
  ·generalize a.length+p.length=i at *
   refine (bn (s1:=?J) (bg ?Z)).trans ?Y
   case Z=>simp[q7i,e];rfl
   case Y=>simp[keep,bj]
  ·rw[B0 n,g,List.drop_left]
 | b ::q,a,p,out,n,g,D=>by
  have l:s.length=a.length+(p.length+(q.length+1)):=by rw[g];simp
  have e:(((a.length+p.length:Nat):Int)<(((bA s).size:Nat):Int)):=(by rw[gS];omega)
  have E:(bA s)[a.length+p.length]?=some b:=by rw[vv,g,<-aT,aN bh,aQ,Nat.sub_self];rfl
  by_cases x:b=c
  ·subst x
   have k:WI.wrap (((a.length+p.length:Nat):Int)+1)=((a.length+p.length+1:Nat):Int):=gv (by simp only[Sz];omega);have w:(bA s).extract a.length (a.length+p.length)=bA p:=by
    rw[BW,g]
    congr 1
    rw[<-aT,List.take_left' bh,List.drop_left]
   have t:((SL8 out).length+1)*16<=maxBytes:=by have:=MB;rw[aW];omega
   have m:=B2 (gh:=gh) (s:=s) (c:=(b.toNat:Int)) (out:=SL8 (out++[p])) (f:=a.length+p.length+1) (i:=a.length+p.length) aj;obtain⟨d,f,j,B,A,z⟩:=vw (c:=b) C q (a++p++[b]) [] (out++[p]) bh (by rw[g];simp) (by simp;omega);refine⟨d,f,?_,B,A,?_⟩
   ·have y:(a++p++[b]).length=a.length+p.length+1:=by simp;omega
    rw[y] at j;rw[cF,cG] at j;rw[<-j];have o:SL8 (out++[p])=SL8 out++[.str (bA p)]:=by simp[SL8]
    rw[o] at m ⊢;have v:(a.length<=a.length+p.length/\a.length+p.length<=(bA s).size):=⟨aj,by rw[gS];omega⟩
    generalize SL8 out=O,G:a.length+p.length=i at *;obtain⟨u,F⟩:∃u:Int,((i+1:Nat):Int)=u:=⟨_,rfl⟩
    rw[F] at m k ⊢;refine ay (s1:=⟨[(0,.str (bA s)),(1,.int .u8 b.toNat),(5,dz (O++[.str (bA p)])),(6,I u),(7,I u)],[],gh⟩) (bg ?K) rfl
    case K=>
     simp[q7i,e,E,v,w,t,k,m]
   ·rw[z,bF,B1 n];simp
  ·have r:((b.toNat:Int)==(c.toNat:Int))=false:=by
    apply beq_eq_false_iff_ne.2;intro h;exact x (UInt8.toNat_inj.1 aj)
   have m:=B2 (gh:=gh) (s:=s) (c:=(c.toNat:Int)) (out:=SL8 out) (f:=a.length) (i:=a.length+p.length) aj;obtain⟨d,f,j,B,A,z⟩:=vw (c:=c) C q a (p++[b]) out (by simp[n,Ne.symm x]) (by rw[g];simp) D;refine⟨d,f,?_,B,A,?_⟩
   ·have y:a.length+(p++[b]).length=a.length+p.length+1:=by simp;omega
    rw[y] at j;rw[<-j];generalize SL8 out=O,G:a.length+p.length=i at *;refine ay (s1:=⟨[(0,.str (bA s)),(1,.int .u8 c.toNat),(5,dz O),(6,I a.length),(7,I ((i+1:Nat):Int))],[],gh⟩) (bg ?V) rfl
    case V=>
     simp[q7i,e,E,r,m]
   ·rw[z];simp
theorem QC {s:List UInt8} {c:UInt8} (o:s.length<=2000000):ac pg 380 [.str (bA s),.int .u8 c.toNat] gh=some (cr (SL8 (cu c s)),gh):=by
 obtain⟨b,f,m,t,r,k⟩:=vw (gh:=gh) (c:=c) o s [] [] [] bh rfl bh;simp only[cF,cG,aR,bF,SL8,bU] at m k;have j:(bA s).extract f (bA s).size=bA (s.drop f):=by rw[BW,gS,List.take_length]
 have h:((b.map λx=>PV.str (bA x)).length+1)*16<=maxBytes:=by have:=MB;rw[aW];omega
 have q:SL8 (cu c s)=(b.map λx=>PV.str (bA x))++[.str (bA (s.drop f))]:=by rw[<-k];simp[SL8]
 rw[q];have g:∀e:List (List UInt8),eg (e.map λx=>PV.str (bA x))=true:=by
  intro e
  induction e with
  |nil=>rfl
  |cons a l n=>exact n
 have d:eg ((b.map λx=>PV.str (bA x))++[.str (bA (s.drop f))])=true:=by have:=g (b++[s.drop f]);simpa using this
 have i:f<=(bA s).size:=by rw[gS];omega
 generalize (b.map λx=>PV.str (bA x))=O at *;have p:bm pg qbe ⟨[(0,.str (bA s)),(5,dz O),(6,I f)],[],gh⟩=fo ⟨[(4,dz (O++[.str (bA (s.drop f))]))],[],gh⟩:=by refine bg ?_;simp[qbe,i,j,h]
 refine ak (fn:=q7j) (s:=?J) rfl rfl (bg ?Z) ?Y
 case Z=>simp[qfs,q7j,m,p];rfl
 case Y=>simp[ag,results,q7j,ah,am,af,d]
end
end
section
attribute [local congr] bu
attribute [local simp] au
def fl:Int->List UInt8->Int
 |n,[]=>n
 |n,b::r=>if b.toNat<48\/57<b.toNat then -1 else fl (10*n+b.toNat-48) r
theorem mg {n:Int} {b:UInt8} {r:List UInt8} (h:b.toNat<48\/57<b.toNat):fl n (b::r)= -1:=by rw[fl,if_pos h]
theorem nD {n:Int} {b:UInt8} {r:List UInt8} (h:¬(b.toNat<48\/57<b.toNat)):fl n (b::r)=fl (10*n+b.toNat-48) r:=by rw[fl,if_neg h]
def bp (x:List UInt8):Int:=
 if x=[]\/9<x.length\/(1<x.length/\x.head?=some 48) then -1 else fl 0 x
section
variable {gh:fB}
theorem B4 {x:List UInt8} (s:x.length<=9):∀(k i:Nat) (n:Int),i+k=x.length->0<=n->n<10^i->
  bm pg qft ⟨[(0,.str (bA x)),(3,I n),(4,I i)],[],gh⟩=
   if fl n (x.drop i)= -1 then fo ⟨[(2,I (-1))],[],gh⟩ else fg ⟨[(3,I (fl n (x.drop i)))],[],gh⟩
 |0,i,n,u,y,w=>by
  have a:¬(i<((bA x).size)):=(by rw[gS];omega)
  rw[aM aj,fl,if_neg aj];refine (bn (s1:=?J) (bg ?Z)).trans ?Y
  case Z=>simp[q4e,a];rfl
  case Y=>simp[keep,bj]
 | k+1,i,n,u,y,w=>by
  have c:i<x.length:=aj;have a:(i<((bA x).size)):=(by rw[gS];omega)
  have l:(bA x)[i]?=some x[i]:=by rw[vv,aA c]
  have f:(0<=(i:Int)):=aj;rw[aJ c];have A:=(x[i]).toNat_lt;generalize x[i]=b at *;by_cases h:b.toNat<48
  ·rw[mg (.inl h),if_pos rfl]
   have e:(((b.toNat:Nat):Int)<48):=aj;refine cx (bg ?K)
   case K=>simp[q4e,a,f,Int.toNat_natCast,l,e,-getElem?_pos]
  by_cases j:57<b.toNat
  ·rw[mg (.inr j),if_pos rfl]
   have e:¬(((b.toNat:Nat):Int)<48):=aj;have d:(57<((b.toNat:Nat):Int)):=aj;refine cx (bg ?V)
   case V=>simp[q4e,a,f,Int.toNat_natCast,l,e,d,-getElem?_pos]
  rw[nD aj];have e:¬(((b.toNat:Nat):Int)<48):=aj;have d:¬(57<((b.toNat:Nat):Int)):=aj;have z:(10:Int)^i<=1000000000:=by have:∀v:Fin 10,(10:Int)^v.val<=1000000000:=bz;exact this ⟨i,aj⟩
  have t:(10:Int)^(i+1)=10*10^i:=by rw[Int.pow_succ,Int.mul_comm]
  have q:WI.wrap (10*n)=10*n:=aq aj aj;have p:WI.wrap ((b.toNat:Nat):Int)=((b.toNat:Nat):Int):=aq aj aj;have o:WI.wrap (10*n+((b.toNat:Nat):Int))=10*n+((b.toNat:Nat):Int):=aq aj aj;have m:WI.wrap (10*n+((b.toNat:Nat):Int)-48)=10*n+((b.toNat:Nat):Int)-48:=aq aj aj;have g:WI.wrap ((i:Int)+1)=((i+1:Nat):Int):=gv (by simp only[Sz];omega);have r:=B4 s k (i+1) (10*n+((b.toNat:Nat):Int)-48) aj aj aj;rw[<-r];refine ay (s1:=⟨[(0,.str (bA x)),(3,I (10*n+((b.toNat:Nat):Int)-48)),(4,I ((i+1:Nat):Int))],[],gh⟩) (bg ?W) rfl
  case W=>simp[q4e,a,f,Int.toNat_natCast,l,e,d,q,p,o,m,g,-getElem?_pos]
theorem vx {x:List UInt8}:ac pg 381 [.str (bA x)] gh=some (I (bp x),gh):=by
 have d:=BU x [];rw[<-pw] at d;unfold bp;by_cases i:x=[]
 ·rw[if_pos (.inl i)]
  rw[aG i] at d;refine ak (fn:=qb) (s:=?J) rfl rfl (bg ?Z) ?Y
  case Z=>simp[q1t,qb,d,i];rfl
  case Y=>simp[ag,results,qb,ah,am,af]
 rw[aF i] at d;by_cases n:9<x.length
 ·rw[if_pos (.inr (.inl n))]
  have f:(9<(((bA x).size:Nat):Int)):=(by rw[gS];omega)
  refine ak (fn:=qb) (s:=?K) rfl rfl (bg ?V) ?W
  case V=>simp[q1t,qb,d,f,show x.isEmpty=false by cases x<;>simp_all];rfl
  case W=>simp[ag,results,qb,ah,am,af]
 have f:¬(9<(((bA x).size:Nat):Int)):=(by rw[gS];omega)
 obtain⟨b,r,rfl⟩:∃b r,x=b::r:=by
  cases x with
  |nil=>exact absurd rfl i
  |cons b r=>exact⟨b,r,rfl⟩
 have m:(bA (b::r))[0]?=some b:=by rw[vv];rfl
 have e:=B4 (gh:=gh) (x:=b::r) aj (b::r).length 0 0 aj aj bz;rw[bJ,aR] at e;by_cases o:1<(b::r).length
 ·have a:(1<(((bA (b::r)).size:Nat):Int)):=(by rw[gS];omega)
  by_cases k:b=48
  ·rw[if_pos (.inr (.inr ⟨o,by rw[k];rfl⟩))]
   have j:(((b.toNat:Nat):Int)==48)=true:=by rw[k];rfl
   refine ak (fn:=qb) (s:=?Ja) rfl rfl (bg ?Jb) ?Jc
   case Jb=>simp[q1t,qb,d,f,a,show decide ((0:Int)<=0)=true from rfl,show (0:Int).toNat=0 from rfl,m,j];rfl
   case Jc=>simp[ag,results,qb,ah,am,af]
  ·rw[if_neg (by
    rintro (h|h|⟨_,h⟩)
    ·exact i h
    ·exact n h
    ·simp at h;exact k h)]
   have j:(((b.toNat:Nat):Int)==48)=false:=beq_eq_false_iff_ne.2 (λh=>k (UInt8.toNat_inj.1 (by show b.toNat=48;omega)));by_cases g:fl 0 (b::r)= -1
   ·rw[if_pos g] at e
    rw[g];refine ak (fn:=qb) (s:=⟨[(2,I (-1))],[],gh⟩) rfl rfl (bg ?Jd) ?Je
    case Jd=>simp[q1t,qb,d,f,a,show decide ((0:Int)<=0)=true from rfl,show (0:Int).toNat=0 from rfl,m,j,e]
    case Je=>simp[ag,results,qb,ah,am,af]
   ·rw[if_neg g] at e
    generalize fl 0 (b::r)=v at *;have l:bm pg q2m ⟨[(3,I v)],[],gh⟩=fo ⟨[(2,I v)],[],gh⟩:=bg (c:=q2m) (s:=⟨[(3,(.int .i64 _))],[],_⟩) (by simp[q2m]<;>rfl);refine ak (fn:=qb) (s:=⟨[(2,I v)],[],gh⟩) rfl rfl (bg ?Jf) ?Jg
    case Jf=>simp[q1t,qb,d,f,a,show decide ((0:Int)<=0)=true from rfl,show (0:Int).toNat=0 from rfl,m,j,e,l]
    case Jg=>simp[ag,results,qb,ah,am,af]
 ·have a:¬(1<(((bA (b::r)).size:Nat):Int)):=(by rw[gS];omega)
  rw[if_neg (by
   rintro (h|h|⟨h,_⟩)
   ·exact i h
   ·exact n h
   ·exact o h)]
  by_cases g:fl 0 (b::r)= -1
  ·rw[if_pos g] at e
   rw[g];refine ak (fn:=qb) (s:=⟨[(2,I (-1))],[],gh⟩) rfl rfl (bg ?Jh) ?Ji
   case Jh=>simp[q1t,qb,d,f,a,e]
   case Ji=>simp[ag,results,qb,ah,am,af]
  ·rw[if_neg g] at e
   generalize fl 0 (b::r)=v at *;have l:bm pg q2m ⟨[(3,I v)],[],gh⟩=fo ⟨[(2,I v)],[],gh⟩:=bg (c:=q2m) (s:=⟨[(3,(.int .i64 _))],[],_⟩) (by simp[q2m]<;>rfl);refine ak (fn:=qb) (s:=⟨[(2,I v)],[],gh⟩) rfl rfl (bg ?Jj) ?Jk
   case Jj=>simp[q1t,qb,d,f,a,e,l]
   case Jk=>simp[ag,results,qb,ah,am,af]
end
theorem vz:∀{r:List UInt8} {n:Int},0<=n->fl n r≠ -1->n*10^r.length<=fl n r
 |[],n,d,_=>by simp[fl]
 |b::r,n,d,h=>by
  rw[fl] at h ⊢;split at h
  ·exact absurd rfl h
  rename_i c;rw[if_neg c];have a:=vz (r:=r) (n:=10*n+b.toNat-48) aj h;refine Int.le_trans ?_ a;rw[aV,Int.pow_succ,Int.mul_comm (10^r.length) 10,<-Int.mul_assoc];exact Int.mul_le_mul_of_nonneg_right aj (Int.pow_nonneg bz)
end
section
attribute [local congr] bu
attribute [local simp] au
section
variable {gh:fB} {m:Md}
theorem Ms {k:Int} (h:1<=k/\k<24):ac pg 379 [I k] gh=some (.str (bA (jw k)),gh):=by
 have b:evK pg qfq fiK ⟨[(0,(.int .i64 k))],[],gh⟩=fo ⟨[(2,.str (bA (jw k)))],[],gh⟩:=by have a:k=1\/k=2\/k=3\/k=4\/k=5\/k=6\/k=7\/k=8\/k=9\/k=10\/k=11\/k=12\/k=13\/k=14\/k=15\/k=16\/k=17\/k=18\/k=19\/k=20\/k=21\/k=22\/k=23:=aj;rcases a with rfl|rfl|rfl|rfl|rfl|rfl|rfl|rfl|rfl|rfl|rfl|rfl|rfl|rfl|rfl|rfl|rfl|rfl|rfl|rfl|rfl|rfl|rfl<;>rfl
 refine ak (fn:=qbc) rfl rfl (bg b) ?_;simp[ag,results,qbc,ah,am,af]
abbrev nC (x:Nd):fw:=[I x.k,I x.w,I x.a,I x.b,I x.c,I x.n]
end
end
section
attribute [local congr] bu
attribute [local simp] au
theorem Cf (c:UInt8):∀l:List UInt8,(fp c l=(l,[],false)/\cu c l=[l])\/∃x r,fp c l=(x,r,true)/\cu c l=x::cu c r/\l=x++c::r
 |[]=> .inl ⟨rfl,rfl⟩
 | b::l=>by
  rw[fp,cu];by_cases h:b=c
  ·rw[if_pos h,if_pos h];subst h
   exact .inr ⟨[],l,rfl,rfl,rfl⟩
  ·rw[if_neg h,if_neg h]
   rcases Cf c l with ⟨d,a⟩|⟨x,r,d,a,e⟩
   ·rw[d,a];exact .inl ⟨rfl,rfl⟩
   ·rw[d,a,e];exact .inr ⟨b::x,r,rfl,rfl,rfl⟩
theorem Cg (c:UInt8) (l:List UInt8):∃y t,cu c l=y::t:=by
 have:=(lm c l).1
 match h:cu c l with
 |[]=>rw[h] at this;simp at this
 |y::t=>exact⟨y,t,rfl⟩
section
variable {gh:fB}
end
end
section
attribute [local congr] bu
attribute [local simp] au
section
variable {gh:fB}
theorem wl (l:fq):eg (l.map I)=true:=by
 induction l with
 |nil=>rfl
 |cons a l b=>exact b
end
end
end Go.Lw