/-
  The texts that the proof stands on, part 30.
-/
import Derived.Test.YtmodipglnngghabGreatDoorDecideTextsZ3
import Derived.KernelRfl
set_option linter.unusedVariables false
set_option linter.unusedSimpArgs false
set_option linter.unnecessarySimpa false

set_option maxRecDepth 100000
set_option maxHeartbeats 4000000
namespace Go.Lw
open Go
section
attribute [local congr] bu
attribute [local simp] au
structure Ci where
 ins:Int
 ands:Om
 inp:Int
 st:Int
 inits:Oi
 nexts:Oi
 bads:Oi
 holds:Oi
abbrev ciV (c:Ci):PV:= .agg [I c.ins,.sl false 2 (c.ands.map aj),I c.inp,I c.st,LI c.inits,LI c.nexts,LI c.bads,LI c.holds]
section
variable {gh:Ol}
end
end
section
attribute [local congr] bu
attribute [local simp] au
def mkR (b:Ol) (a:Int) (cls:Oj) (rest:Ol):Ol:=b++ .cells [I a,Oa (cls.map λl=>LI l)]::rest
def eU (m:Nat) (c:Ci) (f:Int):GObj:= .cells [Oe m 0,I c.ins,.sl false 2 (c.ands.map aj),I c.inp,I c.st,LI c.inits,LI c.nexts,LI c.bads,LI c.holds,I f]
section
variable {gh rest:Ol}
theorem yQ {a:Int} {cls:Oj}:(mkR gh a cls rest)[gh.length]?=some (.cells [I a,Oa (cls.map λl=>LI l)]):=by simp[mkR]
theorem Hj {a:Int} {cls:Oj} {x:GObj}:(mkR gh a cls (x::rest))[gh.length+1]?=some x:=by simp[mkR]
theorem iu {vars:Int} {cls:Oj} {c:Oi} (d:cls.length<=5000000000000):ac pg 91 [Oe gh.length 0,LI c] (mkR gh vars cls rest)=some (.tup [],mkR gh vars (cls++[c]) rest):=by
 have a:(cls.length+1)*24<=maxBytes:=by have:=MB;omega
 have b:=aa (c:=q9b) (s:=⟨[(0,(Oe gh.length 0)),(1,(LI c))],[],(mkR gh vars cls rest)⟩) (r:=Og ⟨[],[],mkR gh vars (cls++[c]) rest⟩) (pg:=pg) (by simp[q9b,q5r,mkR,a,au]);rw[ip (fn:=q5r) rfl rfl b];simp[ag,results,q5r,ah,af]
theorem yR {r a vars:Int} {cls:Oj} (d:cls.length<=5000000000000):ac pg 54 [Oe gh.length 0,I r,I a] (mkR gh vars cls rest)=some (.tup [],mkR gh vars (cls++gq r a) rest):=by
 have b:ab pg q3t ⟨[(0,Oe gh.length 0),(1,I r),(2,I a)],[],mkR gh vars cls rest⟩=Og ⟨[],[],mkR gh vars (cls++gq r a) rest⟩:=by
  refine aa ?_;by_cases b:r=1
  ·simp[q3t,q38,b,gq]
  by_cases e:r=0
  ·have ha:=iu (gh:=gh) (rest:=rest) (vars:=vars) (cls:=cls) (c:=[]) d
   simp only[LI,bU] at ha;simp[q3t,q38,e,gq,ha]
  ·have hn:=ov r a (mkR gh vars cls rest)
   have ha:=iu (gh:=gh) (rest:=rest) (vars:=vars) (cls:=cls) (c:=[dJ r a]) d;simp only[LI,bS,bU] at ha;simp[q3t,q38,b,e,gq,hn,ha]
 rw[ip (fn:=q38) rfl rfl b];simp[ag,results,q38,ah,af]
variable {ins:Int} {ands:Om}
def anR (e:Ol) (d:Int) (a:Om) (c b:Int) (cls:Oj) (rest:Ol) (i:Nat):St:=
 ⟨[(0,Oe e.length 0),(2,I c),(4,Ob),(12,.sl false 2 (a.map aj)),(13,I a.length),(14,I (i:Int))],[[I d,.sl false 2 (a.map aj)]],mkR e b cls rest⟩
attribute [local simp] anR
theorem Hk {d vars:Int} {cls:Oj} {i:Nat} (l:i<ands.length) (t:ands.length<=1000000) (s:cls.length<=900000000) :
  evK pg q5o fiK ⟨[(0,(Oe gh.length 0)),(2,(.int .i64 d)),(4,(Ob)),(12,(.sl false 2 (ands.map aj))),(13,(.int .i64 ands.length)),(14,(.int .i64 i))],[[(.int .i64 ins),(.sl false 2 (ands.map aj))]],(mkR gh vars cls rest)⟩=some (.normal,anR gh ins ands d vars (cls++kZ ins d i ands[i]) rest (i+1)):=by
 have p:WI.wrap ((i:Int)+1)=((i+1:Nat):Int):=by rw[aq NW NW];omega
 have m:(ands.map aj)[i]?=some (.agg [I ands[i].1,I ands[i].2]):=by simp[aA l,aj]
 generalize r:ands[i]=x at *;obtain⟨a,b⟩:=x;have f:(i:Int)<(ands.length:Int):=NW;have k:=ov a d (mkR gh vars cls rest);have j:=ov b d (mkR gh vars cls rest);have h:=iu (gh:=gh) (rest:=rest) (vars:=vars) (cls:=cls) (c:=[cg (nOf ins d i),dJ a d]) NW;have g:=iu (gh:=gh) (rest:=rest) (vars:=vars) (cls:=cls++[[cg (nOf ins d i),dJ a d]]) (c:=[cg (nOf ins d i),dJ b d]) (by simp;omega)
 have e:=iu (gh:=gh) (rest:=rest) (vars:=vars) (cls:=(cls++[[cg (nOf ins d i),dJ a d]])++[[cg (nOf ins d i),dJ b d]]) (c:=[nOf ins d i,cg (dJ a d),cg (dJ b d)]) (by simp;omega);have o:((cls++[[cg (nOf ins d i),dJ a d]])++[[cg (nOf ins d i),dJ b d]])++[[nOf ins d i,cg (dJ a d),cg (dJ b d)]]=cls++kZ ins d i (a,b):=by simp[kZ]
 rw[o] at e;simp only at m;generalize n:nOf ins d i=N,v:dJ a d=A,u:dJ b d=q at *;unfold nOf at n;simp only[LI,bS,bU,cg] at h g e;unfold anR;generalize mkR gh vars (cls++kZ ins d i (a,b)) rest=w,mkR gh vars (cls++[[WI.wrap (-N),A]]++[[WI.wrap (-N),q]]) rest=y,mkR gh vars (cls++[[WI.wrap (-N),A]]) rest=z,mkR gh vars cls rest=C at *;simp[q5o,f,m,k,j,n,h,g,e,p,-List.getElem?_map]
theorem yS {more vars:Int} (b:ands.length<=1000000):∀k i (cls:Oj),i+k=ands.length->cls.length+3*k<=900000000->
  ab pg qe6 (anR gh ins ands more vars cls rest i)=Og ⟨[],[],mkR gh vars (cls++ji ins more i (ands.drop i)) rest⟩
 |0,i,cls,h,_=>by
  rw[aM NW];have a:¬(i:Int)<(ands.length:Int):=NW;refine (bn (s1:=?J) (aa ?Z)).trans ?Y
  case Z=>simp[q5o,a];rfl
  case Y=>simp[keep,ji]
 |k+1,i,cls,h,c=>by have a:i<ands.length:=NW;refine ay (aa (Hk a b NW)) ?_;rw[aJ a,ji,<-aT];exact yS b k (i+1) _ NW (by simp[kZ];omega)
theorem Hl {more vars:Int} {cls:Oj} (b:ands.length<=1000000) (a:cls.length+3*ands.length<=900000000):ac pg 53 [Oe gh.length 0,gu ins ands,I more] (mkR gh vars cls rest)=some (.tup [],mkR gh vars (cls++ji ins more 0 ands) rest):=by
 have h:=yS (gh:=gh) (rest:=rest) (ins:=ins) (more:=more) (vars:=vars) b ands.length 0 cls NW a;rw[bJ] at h;unfold anR at h;simp only[aR] at h;generalize mkR gh vars (cls++ji ins more 0 ands) rest=e,mkR gh vars cls rest=f at *;have d:=aa (c:=q97) (s:=⟨[(0,(Oe gh.length 0)),(1,(.agg [(.int .i64 ins),(.sl false 2 (ands.map aj))])),(2,(.int .i64 more))],[],f⟩) (r:=Og ⟨[],[],e⟩) (pg:=pg) (by simp[q97,q5p,h]);rw[ip (fn:=q5p) rfl rfl d];simp[ag,results,q5p,ah,af]
end
def stE (f a t i:Int):Int:=WI.wrap (WI.wrap (WI.wrap (WI.wrap (t*f)+1)+a)+i)
theorem rh {G:Ol} {u m:Nat} {c:Ci} {f t i:Int} {so:Bool} (a:G[u]?=some (eU m c f)):ac pg 292 [Oe u 0,I t,I i,B so] G=some (I (if so then stE f c.inp t i else cg (stE f c.inp t i)),G):=by
 unfold eU at a;cases so with
 |true=>
  refine ak (fn:=q2y) (s:=?J) rfl rfl (aa ?Z) ?Y
  case Z=>simp[qcu,q2y,a];rfl
  case Y=>simp[ag,results,q2y,ah,am,af,stE]
 |false=>
  refine ak (fn:=q2y) (s:=?K) rfl rfl (aa ?V) ?W
  case V=>simp[qcu,q2y,a];rfl
  case W=>simp[ag,results,q2y,ah,am,af,stE,cg]
def mW (f a t i x:Int):Oj:=
 if x<2 then [[if x=1 then stE f a t i else cg (stE f a t i)]]
 else [[cg (stE f a t i),dJ x (WI.wrap (WI.wrap (t-1)*f))],[stE f a t i,cg (dJ x (WI.wrap (WI.wrap (t-1)*f)))]]
def iv (f a t:Int):Nat->Oi->Oj
 |_,[]=>[]
 |i,x::l=>mW f a t i x++iv f a t (i+1) l
theorem yT (f a t i x:Int):(mW f a t i x).length<=2:=by unfold mW;split<;>simp
theorem ri (f a t:Int):∀(i:Nat) (l:Oi),(iv f a t i l).length<=2*l.length
 |_,[]=>cU _
 |i,x::l=>by have:=yT f a t i x;have:=ri f a t (i+1) l;rw[iv,aQ,aV];omega
theorem yU (f a t:Int):∀(i:Nat) (l:Oi),SL (iv f a t i l)
 |_,[]=>λl h=>by cases h
 | i,x::r=>λl h=>by
  rw[iv] at h;rcases cE.1 h with h|h
  ·unfold mW at h
   split at h
   ·simp at h;subst h;simp
   ·simp at h;rcases h with rfl|rfl<;>simp
  ·exact yU f a t (i+1) r l h
section
variable {gh rest:Ol} {c:Ci} {f vars t:Int}
def W (b:Ol) (a:Int) (cls:Oj) (c:Ci) (f:Int) (rest:Ol):Ol:=mkR b a cls (eU b.length c f::rest)
theorem jj {cls:Oj}:(W gh vars cls c f rest)[gh.length+1]?=some (eU gh.length c f):=Hj
def oy (b:Ol) (a:Int) (cls:Oj) (c:Ci) (f:Int) (rest:Ol) (t:Int) (i:Nat):St:=
 ⟨[(0,Oe (b.length+1) 0),(1,I t),(12,LI c.nexts),(13,I c.nexts.length),(14,I (i:Int))],[],W b a cls c f rest⟩
attribute [local simp] oy
theorem Hm {cls:Oj} {i:Nat} (p:i<c.nexts.length) (E:c.nexts.length<=1000000000) (D:cls.length<=900000000) :
  evK pg q4s fiK ⟨[(0,(Oe (gh.length+1) 0)),(1,(.int .i64 t)),(12,(LI c.nexts)),(13,(.int .i64 c.nexts.length)),(14,(.int .i64 i))],[],(W gh vars cls c f rest)⟩=some (.normal,oy gh vars (cls++mW f c.inp t i c.nexts[i]) c f rest t (i+1)):=by
 have B:WI.wrap ((i:Int)+1)=((i+1:Nat):Int):=by rw[aq NW NW];omega
 have r:(c.nexts.map I)[i]?=some (I c.nexts[i]):=by simp[aA p]
 have b:(i:Int)<(c.nexts.length:Int):=NW;have u:=λ(so:Bool)=>rh (so:=so) (t:=t) (i:=(i:Int)) (jj (gh:=gh) (rest:=rest) (c:=c) (f:=f) (vars:=vars) (cls:=cls))
 have g:=u true;have a:=jj (gh:=gh) (rest:=rest) (c:=c) (f:=f) (vars:=vars) (cls:=cls);unfold oy mW;simp only[if_true,LI] at g ⊢;generalize c.nexts[i]=x at *;have m:=u (decide (x=1));have v:=ov x (WI.wrap (WI.wrap (t-1)*f)) (W gh vars cls c f rest);generalize hn:stE f c.inp t i=n,F:dJ x (WI.wrap (WI.wrap (t-1)*f))=A at *
 have s:∀G:Ol,ab pg qcs ⟨[(0,Oe (gh.length+1) 0),(1,I t),(12,NZ (c.nexts.map I)),(13,I c.nexts.length),(14,I (i:Int))],[],G⟩=Og ⟨[(0,Oe (gh.length+1) 0),(1,I t),(12,NZ (c.nexts.map I)),(13,I c.nexts.length),(14,I ((i+1:Nat):Int))],[],G⟩:=λG=>by refine aa ?_;simp[qcs,B]
 by_cases o:x<2
 ·rw[if_pos o]
  have ha:=iu (gh:=gh) (rest:=eU gh.length c f::rest) (vars:=vars) (cls:=cls) (c:=[if x=1 then n else cg n]) NW;have C:(if decide (x=1)=true then n else cg n)=if x=1 then n else cg n:=by by_cases h:x=1<;>simp[h]
  rw[C] at m;generalize (if x=1 then n else cg n)=y at *;simp only[LI,bS,bU] at ha;have q:ac pg 91 [Oe gh.length 0,NZ [I y]] (W gh vars cls c f rest)=some (.tup [],W gh vars (cls++[[y]]) c f rest):=ha;generalize W gh vars (cls++[[y]]) c f rest=w,W gh vars cls c f rest=z at *;unfold eU at a;simp[q4s,b,r,g,m,o,a,q,s,-List.getElem?_map]
 ·rw[if_neg o]
  have l:=iu (gh:=gh) (rest:=eU gh.length c f::rest) (vars:=vars) (cls:=cls) (c:=[cg n,A]) NW;have e:=iu (gh:=gh) (rest:=eU gh.length c f::rest) (vars:=vars) (cls:=cls++[[cg n,A]]) (c:=[n,cg A]) (by simp;omega);have d:=jj (gh:=gh) (rest:=rest) (c:=c) (f:=f) (vars:=vars) (cls:=cls++[[cg n,A]]);rw[aT] at e;simp only[LI,bS,bU,cg,bH,bF] at l e d ⊢;have k:ac pg 91 [Oe gh.length 0,NZ [I (WI.wrap (-n)),I A]] (W gh vars cls c f rest)=some (.tup [],W gh vars (cls++[[WI.wrap (-n),A]]) c f rest):=l
  have j:ac pg 91 [Oe gh.length 0,NZ [I n,I (WI.wrap (-A))]] (W gh vars (cls++[[WI.wrap (-n),A]]) c f rest)=some (.tup [],W gh vars (cls++[[WI.wrap (-n),A],[n,WI.wrap (-A)]]) c f rest):=e;generalize W gh vars (cls++[[WI.wrap (-n),A],[n,WI.wrap (-A)]]) c f rest=H,W gh vars (cls++[[WI.wrap (-n),A]]) c f rest=w,W gh vars cls c f rest=z at *;unfold eU at a d;simp[q4s,b,r,g,o,a,d,v,k,j,s,-List.getElem?_map]
theorem yV (b:c.nexts.length<=1000000000):∀k i (cls:Oj),i+k=c.nexts.length->cls.length+2*k<=900000000->
  ab pg qgr (oy gh vars cls c f rest t i)=Og ⟨[],[],W gh vars (cls++iv f c.inp t i (c.nexts.drop i)) c f rest⟩
 |0,i,cls,h,_=>by
  rw[aM NW];have a:¬(i:Int)<(c.nexts.length:Int):=NW;refine (bn (s1:=?J) (aa ?Z)).trans ?Y
  case Z=>simp[q4s,a];rfl
  case Y=>simp[keep,iv]
 |k+1,i,cls,h,d=>by have a:i<c.nexts.length:=NW;refine ay (aa (Hm a b NW)) ?_;rw[aJ a,iv,<-aT];exact yV b k (i+1) _ NW (by have:=yT f c.inp t i c.nexts[i];simp only[aQ];omega)
theorem Hn {cls:Oj} (d:c.nexts.length<=1000000000) (b:cls.length+2*c.nexts.length<=900000000):ac pg 291 [Oe (gh.length+1) 0,I t] (W gh vars cls c f rest)=some (.tup [],W gh vars (cls++iv f c.inp t 0 c.nexts) c f rest):=by
 have h:=yV (gh:=gh) (rest:=rest) (vars:=vars) (f:=f) (t:=t) d c.nexts.length 0 cls NW b;have a:=jj (gh:=gh) (rest:=rest) (c:=c) (f:=f) (vars:=vars) (cls:=cls);rw[bJ] at h;unfold oy at h;simp only[aR,LI] at h;generalize W gh vars (cls++iv f c.inp t 0 c.nexts) c f rest=g,W gh vars cls c f rest=i at *;unfold eU at a;have e:=aa (c:=qct) (s:=⟨[(0,(Oe (gh.length+1) 0)),(1,(.int .i64 t))],[],i⟩) (r:=Og ⟨[],[],g⟩) (pg:=pg) (by simp[qct,q87,a,h]);rw[ip (fn:=q87) rfl rfl e];simp[ag,results,q87,ah,af]
def iL (a:Int):Oi->Oi
 |[]=>[]
 |x::l=>if x=0 then iL a l else dJ x a::iL a l
theorem yW (a:Int):∀l:Oi,(iL a l).length<=l.length
 |[]=>cU _
 |x::l=>by have:=yW a l;rw[iL];split<;>simp<;>omega
def lR (a:Int) (l:Oi):Oj:=if 1∈l then [] else [iL a l]
def jN (d:Ol) (a:Int) (cls:Oj) (c:Ci) (f:Int) (rest:Ol) (t:Int) (b:Oi) (i:Nat):St:=
 ⟨[(0,Oe (d.length+1) 0),(1,I t),(4,Oa (b.map I)),(12,LI c.bads),(13,I c.bads.length),(14,I (i:Int))],[],W d a cls c f rest⟩
attribute [local simp] jN
theorem yX {cls:Oj} (z:c.bads.length<=1000000000):∀k i (a:Oi),i+k=c.bads.length->a.length<=i->
  (1∈c.bads.drop i->∃o,ab pg qcw (jN gh vars cls c f rest t a i)=Oh ⟨o,[],W gh vars cls c f rest⟩)/\
  (1∉c.bads.drop i->ab pg qcw (jN gh vars cls c f rest t a i)=Og ⟨[(0,Oe (gh.length+1) 0),(4,Oa ((a++iL (WI.wrap (t*f)) (c.bads.drop i)).map I))],[],W gh vars cls c f rest⟩)
 |0,i,a,h,_=>by
  rw[aM NW];refine⟨λh=>by simp at h,λ_=>?_⟩;have l:¬(i:Int)<(c.bads.length:Int):=NW;refine (bn (s1:=?J) (aa ?Z)).trans ?Y
  case Z=>simp[q2z,l];rfl
  case Y=>simp[keep,iL,bj]
 | k +1,i,a,h,ha=>by
  have G:=MB;have l:i<c.bads.length:=NW;have g:(i:Int)<(c.bads.length:Int):=NW;have F:WI.wrap ((i:Int)+1)=((i+1:Nat):Int):=by rw[aq NW NW];omega
  have p:(c.bads.map I)[i]?=some (I c.bads[i]):=by simp[aA l]
  have v:=jj (gh:=gh) (rest:=rest) (c:=c) (f:=f) (vars:=vars) (cls:=cls);have d:=λm (D:m.length<=i+1)=>yX (cls:=cls) z k (i+1) m NW D
  have w:∀A:Oi,ab pg qcv ⟨[(0,Oe (gh.length+1) 0),(1,I t),(4,Oa (A.map I)),(12,NZ (c.bads.map I)),(13,I c.bads.length),(14,I (i:Int))],[],W gh vars cls c f rest⟩=some (.normal,jN gh vars cls c f rest t A (i+1)):=λA=>by refine aa ?_;simp[qcv,F,jN]
  rw[aJ l];have C:=ov c.bads[i] (WI.wrap (t*f)) (W gh vars cls c f rest);generalize y:c.bads[i]=x at *;by_cases s:x=0
  ·subst s
   have u:(1∈(0:Int)::c.bads.drop (i+1))=(1∈c.bads.drop (i+1)):=NX;rw[u,iL,if_pos rfl];have n:evK pg q2z fiK ⟨[(0,(Oe (gh.length+1) 0)),(1,(.int .i64 t)),(4,(Oa (a.map I))),(12,(LI c.bads)),(13,(.int .i64 c.bads.length)),(14,(.int .i64 i))],[],(W gh vars cls c f rest)⟩=some (.normal,jN gh vars cls c f rest t a (i+1)):=by have b:=w a;unfold jN at b ⊢;generalize W gh vars cls c f rest=E at *;simp[q2z,g,p,b,-List.getElem?_map]
   exact⟨λj=>((d a NW).1 j).imp λo q=>ay (aa n) q,λj=>ay (aa n) ((d a NW).2 j)⟩
  ·by_cases j:x=1
   ·subst j
    refine⟨λ_=>⟨[(0,Oe (gh.length+1) 0),(1,I t),(4,Oa (a.map I)),(6,I 1),(12,LI c.bads),(13,I c.bads.length),(14,I (i:Int)),(32,B true)],cx (aa ?K)⟩,λh=>absurd NX h⟩
    case K=>
     simp[q2z,g,p,-List.getElem?_map]
   ·have u:(1∈x::c.bads.drop (i+1))=(1∈c.bads.drop (i+1)):=by
     have:¬1=x:=λe=>j e.symm
     simp[this]
    rw[u,iL,if_neg s];have n:evK pg q2z fiK ⟨[(0,(Oe (gh.length+1) 0)),(1,(.int .i64 t)),(4,(Oa (a.map I))),(12,(LI c.bads)),(13,(.int .i64 c.bads.length)),(14,(.int .i64 i))],[],(W gh vars cls c f rest)⟩=some (.normal,jN gh vars cls c f rest t (a++[dJ x (WI.wrap (t*f))]) (i+1)):=by have b:=w (a++[dJ x (WI.wrap (t*f))]);have r:(a.length+1)*8<=maxBytes:=NW;unfold jN at b ⊢;generalize W gh vars cls c f rest=E,dJ x (WI.wrap (t*f))=A at *;rw[bI] at b ⊢;unfold eU at v;simp only[bS,bU] at b ⊢;simp[q2z,g,p,s,j,v,C,r,b,-List.getElem?_map]
    have hr:=d (a++[dJ x (WI.wrap (t*f))]) (by simp;omega);rw[aT,bH,bF] at hr;exact⟨λj=>(hr.1 j).imp λo q=>ay (aa n) q,λj=>ay (aa n) (hr.2 j)⟩
theorem Ho {cls:Oj} (j:c.bads.length<=1000000000) (l:cls.length<=900000000):ac pg 293 [Oe (gh.length+1) 0,I t] (W gh vars cls c f rest)=some (.tup [],W gh vars (cls++lR (WI.wrap (t*f)) c.bads) c f rest):=by
 have h:=yX (gh:=gh) (rest:=rest) (vars:=vars) (f:=f) (t:=t) (cls:=cls) j c.bads.length 0 [] NW NX;have b:=jj (gh:=gh) (rest:=rest) (c:=c) (f:=f) (vars:=vars) (cls:=cls);rw[bJ,bF] at h;unfold jN at h;unfold lR;simp only[aR,LI,bU] at h;by_cases a:1∈c.bads
 ·rw[if_pos a,bE]
  obtain⟨i,e⟩:=h.1 a;generalize W gh vars cls c f rest=d at *;unfold eU at b;have a:=aa (c:=q4t) (s:=⟨[(0,(Oe (gh.length+1) 0)),(1,(.int .i64 t))],[],d⟩) (r:=Oh ⟨i,[],d⟩) (pg:=pg) (by simp[q4t,q30,b,e]);rw[ip (fn:=q30) rfl rfl a];simp[ag,results,q30,ah,af]
 ·rw[if_neg a]
  have e:=h.2 a;have ha:ac pg 91 [Oe gh.length 0,LI (iL (WI.wrap (t*f)) c.bads)] (W gh vars cls c f rest)=some (.tup [],W gh vars (cls++[iL (WI.wrap (t*f)) c.bads]) c f rest):=iu NW;simp only[LI] at ha;generalize iL (WI.wrap (t*f)) c.bads=L at *;generalize W gh vars (cls++[L]) c f rest=g,W gh vars cls c f rest=d at *;unfold eU at b;have k:=aa (c:=qcx) (s:=⟨[(0,(Oe (gh.length+1) 0)),(4,(Oa (L.map I)))],[],d⟩) (r:=Og ⟨[],[],g⟩) (pg:=pg) (by simp[qcx,b,ha])
  have a:=aa (c:=q4t) (s:=⟨[(0,(Oe (gh.length+1) 0)),(1,(.int .i64 t))],[],d⟩) (r:=Og ⟨[],[],g⟩) (pg:=pg) (by simp[q4t,q30,b,e,k]);rw[ip (fn:=q30) rfl rfl a];simp[ag,results,q30,ah,af]
end
end
section
attribute [local congr] bu
attribute [local simp] au
def upto (g:Nat->Oj):Nat->Nat->Oj
 |_,0=>[]
 |i,k+1=>g i++upto g (i+1) k
theorem la {g:Nat->Oj} {n:Nat} (h:∀i,(g i).length<=n):∀i k,(upto g i k).length<=n*k
 |_,0=>Nat.zero_le _
 |i,k+1=>by have:=h i;have:=la h (i+1) k;rw[upto,aQ,Nat.mul_succ];omega
theorem oz {g:Nat->Oj} (h:∀i,SL (g i)):∀i k,SL (upto g i k)
 |_,0=>λl h=>by cases h
 |i,k+1=>jM (h i) (oz h (i+1) k)
def jO (f b:Int) (a:Bool):Nat->Oi->Oj
 |_,[]=>[]
 |i,x::l=>(if a=true/\0<=x then [[if x=1 then stE f b 0 i else cg (stE f b 0 i)]] else [])++jO f b a (i+1) l
theorem tW (f b:Int) (a:Bool):∀(i:Nat) (l:Oi),(jO f b a i l).length<=l.length
 |_,[]=>cU _
 |i,x::l=>by have:=tW f b a (i+1) l;rw[jO,aQ,aV];split<;>simp<;>omega
theorem yY (f b:Int) (a:Bool):∀(i:Nat) (l:Oi),SL (jO f b a i l)
 |_,[]=>λl h=>by cases h
 |i,x::r=>by
  rw[jO];refine jM (λl h=>?_) (yY f b a (i+1) r);split at h
  ·simp at h;subst h;simp
  ·cases h
def frE (c:Ci):Int:=WI.wrap (c.ins+c.ands.length)
abbrev jP (c:Ci) (f:Int) (t:Nat):Oj:=ji c.ins (WI.wrap ((t:Int)*f)) 0 c.ands
abbrev jQ (c:Ci) (f:Int) (t:Nat):Oj:=iv f c.inp (t:Int) 0 c.nexts
abbrev kq (c:Ci) (f:Int) (t:Nat):Oj:=iK (WI.wrap ((t:Int)*f)) c.holds
def gU (c:Ci) (f:Int) (N:Nat) (a:Bool):Oj:=
 upto (jP c f) 0 (N+1)++upto (jQ c f) 1 N++jO f c.inp a 0 c.inits++upto (kq c f) 0 (N+1)++lR (WI.wrap ((N:Int)*f)) c.bads
structure CiT (c:Ci):Prop where
 inits:c.inits.length<=1048576
 nexts:c.nexts.length<=1048576
 bads:c.bads.length<=1048576
 holds:c.holds.length<=1048576
structure CiS (c:Ci):Prop extends CiT c where
 ands:c.ands.length<=1000000
section
variable {gh:Ol} {c:Ci} {f vars:Int} {N:Nat} {begun:Bool}
def cC (c:Ci):Ok:=[I c.ins,.sl false 2 (c.ands.map aj),I c.inp,I c.st,LI c.inits,LI c.nexts,LI c.bads,LI c.holds]
theorem yZ (d:CiS c) (l:N<=40):∀k i (cls:Oj),i+k=N+1->cls.length+3000000*k<=800000000->
  ab pg qgf ⟨[(1,I (N:Int)),(2,B begun),(3,Ob),(7,Oe (gh.length+1) 0),(43,I ((N+1:Nat):Int)),(44,I (i:Int))],[cC c],W gh vars cls c f []⟩=
   Og ⟨[(1,I (N:Int)),(2,B begun),(3,Ob),(7,Oe (gh.length+1) 0)],[cC c],W gh vars (cls++upto (jP c f) i k) c f []⟩
 |0,i,cls,h,_=>by
  have a:¬(i:Int)<(N:Int)+1:=NW;refine (bn (s1:=?J) (aa ?Z)).trans ?Y
  case Z=>simp[qcf,a];rfl
  case Y=>simp[keep,upto,bj,cC]
 | k+1,i,cls,h,o=>by
  have a:(i:Int)<(N:Int)+1:=NW;have n:WI.wrap ((i:Int)+1)=((i+1:Nat):Int):=by rw[aq NW NW];omega
  have e:=jj (gh:=gh) (rest:=[]) (c:=c) (f:=f) (vars:=vars) (cls:=cls);have j:ac pg 53 [Oe gh.length 0,gu c.ins c.ands,I (WI.wrap ((i:Int)*f))] (W gh vars cls c f [])=some (.tup [],W gh vars (cls++jP c f i) c f []):=Hl d.ands (by have:=d.ands;omega);have g:(jP c f i).length=3*c.ands.length:=re _ _ _ _;have b:=yZ d l k (i+1) (cls++jP c f i) NW (by have:=d.ands;rw[aQ];omega);rw[upto,<-aT];refine ay (aa (r:=some (_,⟨[(1,I (N:Int)),(2,B begun),(3,Ob),(7,Oe (gh.length+1) 0),(43,I ((N+1:Nat):Int)),(44,I ((i+1:Nat):Int))],[cC c],W gh vars (cls++jP c f i) c f []⟩)) ?K) b
  case K=>
   generalize W gh vars (cls++jP c f i) c f []=p,W gh vars cls c f []=q at *;unfold eU at e;unfold gu at j;have m:=a;simp[qcf,m,e,j,n,cC]
theorem y4 (d:CiS c) (g:N<=40):∀k i (cls:Oj),i+k=N+1->cls.length+3000000*k<=800000000->
  ab pg qch ⟨[(1,I (N:Int)),(2,B begun),(3,Ob),(7,Oe (gh.length+1) 0),(9,I (i:Int))],[cC c],W gh vars cls c f []⟩=
   Og ⟨[(1,I (N:Int)),(2,B begun),(3,Ob),(7,Oe (gh.length+1) 0)],[cC c],W gh vars (cls++upto (jQ c f) i k) c f []⟩
 |0,i,cls,h,_=>by
  have a:¬(i:Int)<=(N:Int):=NW;refine (bn (s1:=?J) (aa ?Z)).trans ?Y
  case Z=>simp[qcg,a];rfl
  case Y=>simp[keep,upto,bj,cC]
 | k+1,i,cls,h,n=>by
  have a:(i:Int)<=(N:Int):=NW;have m:WI.wrap ((i:Int)+1)=((i+1:Nat):Int):=by rw[aq NW NW];omega
  have l:ac pg 291 [Oe (gh.length+1) 0,I (i:Int)] (W gh vars cls c f [])=some (.tup [],W gh vars (cls++jQ c f i) c f []):=Hn (by have:=d.nexts;omega) (by have:=d.nexts;omega);have e:(jQ c f i).length<=2*c.nexts.length:=ri _ _ _ _ _;have b:=y4 d g k (i+1) (cls++jQ c f i) NW (by have:=d.nexts;rw[aQ];omega);rw[upto,<-aT];refine ay (aa (r:=some (_,⟨[(1,I (N:Int)),(2,B begun),(3,Ob),(7,Oe (gh.length+1) 0),(9,I ((i+1:Nat):Int))],[cC c],W gh vars (cls++jQ c f i) c f []⟩)) ?K) b
  case K=>
   generalize W gh vars (cls++jQ c f i) c f []=o,W gh vars cls c f []=p at *;have j:=a;simp[qcg,j,show i<=N by omega,l,m,cC]
theorem tX (m:CiS c):∀k i (cls:Oj),i+k=c.inits.length->cls.length+k<=800000000->
  ab pg qgg ⟨[(1,I (N:Int)),(2,B begun),(3,Ob),(7,Oe (gh.length+1) 0),(70,LI c.inits),(71,I c.inits.length),(72,I (i:Int))],[cC c],W gh vars cls c f []⟩=
   Og ⟨[(1,I (N:Int)),(3,Ob),(7,Oe (gh.length+1) 0)],[cC c],W gh vars (cls++jO f c.inp begun i (c.inits.drop i)) c f []⟩
 |0,i,cls,h,_=>by
  have d:¬(i:Int)<(c.inits.length:Int):=NW;rw[aM NW];refine (bn (s1:=?J) (aa ?Z)).trans ?Y
  case Z=>simp[q4r,d];rfl
  case Y=>simp[keep,jO,bj,cC]
 | k +1,i,cls,h,v=>by
  have d:i<c.inits.length:=NW;have b:(i:Int)<(c.inits.length:Int):=NW;have p:=m.inits;have s:WI.wrap ((i:Int)+1)=((i+1:Nat):Int):=by rw[aq NW NW];omega
  have j:(c.inits.map I)[i]?=some (I c.inits[i]):=by simp[aA d]
  have l:=jj (gh:=gh) (rest:=[]) (c:=c) (f:=f) (vars:=vars) (cls:=cls);rw[aJ d,jO,<-aT];generalize c.inits[i]=x at *;have o:=rh (so:=decide (x=1)) (t:=0) (i:=(i:Int)) l;have u:(if decide (x=1)=true then stE f c.inp 0 i else cg (stE f c.inp 0 i))=if x=1 then stE f c.inp 0 i else cg (stE f c.inp 0 i):=by by_cases h:x=1<;>simp[h]
  rw[u] at o;generalize (if x=1 then stE f c.inp 0 i else cg (stE f c.inp 0 i))=y at *;have ha:ac pg 91 [Oe gh.length 0,LI [y]] (W gh vars cls c f [])=some (.tup [],W gh vars (cls++[[y]]) c f []):=iu NW;have e:∀G:Ol,ab pg qci ⟨[(1,I (N:Int)),(2,B begun),(3,Ob),(7,Oe (gh.length+1) 0),(70,NZ (c.inits.map I)),(71,I c.inits.length),(72,I (i:Int))],[cC c],G⟩=Og ⟨[(1,I (N:Int)),(2,B begun),(3,Ob),(7,Oe (gh.length+1) 0),(70,NZ (c.inits.map I)),(71,I c.inits.length),(72,I ((i+1:Nat):Int))],[cC c],G⟩:=λG=>by refine aa ?_;simp[qci,s,cC]
  simp only[LI,bS,bU] at ha;by_cases g:begun=true/\0<=x
  ·rw[if_pos g]
   have a:=tX m k (i+1) (cls++[[y]]) NW (by simp;omega);refine ay (aa (r:=some (_,⟨[(1,I (N:Int)),(2,B begun),(3,Ob),(7,Oe (gh.length+1) 0),(70,LI c.inits),(71,I c.inits.length),(72,I ((i+1:Nat):Int))],[cC c],W gh vars (cls++[[y]]) c f []⟩)) ?K) a
   case K=>
    obtain⟨rfl,n⟩:=g;generalize W gh vars (cls++[[y]]) c f []=w,W gh vars cls c f []=q at *;unfold eU at l;unfold cC at e ⊢;simp[q4r,b,j,n,l,o,ha,e,show Nat.ble 1 1=true from rfl,-List.getElem?_map]
  ·rw[if_neg g,bE]
   have a:=tX m k (i+1) cls NW NW;refine ay (aa (r:=some (_,⟨[(1,I (N:Int)),(2,B begun),(3,Ob),(7,Oe (gh.length+1) 0),(70,LI c.inits),(71,I c.inits.length),(72,I ((i+1:Nat):Int))],[cC c],W gh vars cls c f []⟩)) ?V) a
   case V=>
    generalize W gh vars cls c f []=q at *;unfold cC at e ⊢;cases begun with
    |true=>
     have n:¬0<=x:=λh=>g ⟨rfl,h⟩
     simp[q4r,b,j,n,e,show Nat.ble 1 1=true from rfl,-List.getElem?_map]
    |false=>simp[q4r,b,j,e,show Nat.ble 1 1=true from rfl,-List.getElem?_map]
theorem y5 (g:CiS c) (o:N<=40) {t:Nat}:∀k i (cls:Oj),i+k=c.holds.length->cls.length+k<=800000000->
  ab pg qgh ⟨[(1,I (N:Int)),(3,Ob),(7,Oe (gh.length+1) 0),(12,I (t:Int)),(95,I ((N+1:Nat):Int)),(96,I (t:Int)),(100,LI c.holds),(101,I c.holds.length),(102,I (i:Int))],[cC c],W gh vars cls c f []⟩=
   Og ⟨[(1,I (N:Int)),(3,Ob),(7,Oe (gh.length+1) 0),(95,I ((N+1:Nat):Int)),(96,I (t:Int))],[cC c],W gh vars (cls++iK (WI.wrap ((t:Int)*f)) (c.holds.drop i)) c f []⟩
 |0,i,cls,h,_=>by
  have a:¬(i:Int)<(c.holds.length:Int):=NW;rw[aM NW];refine (bn (s1:=?J) (aa ?Z)).trans ?Y
  case Z=>simp[qcj,a];rfl
  case Y=>simp[keep,iK,bj,cC]
 | k+1,i,cls,h,q=>by
  have a:i<c.holds.length:=NW;have d:(i:Int)<(c.holds.length:Int):=NW;have n:=g.holds;have p:WI.wrap ((i:Int)+1)=((i+1:Nat):Int):=by rw[aq NW NW];omega
  have j:(c.holds.map I)[i]?=some (I c.holds[i]):=by simp[aA a]
  have e:=jj (gh:=gh) (rest:=[]) (c:=c) (f:=f) (vars:=vars) (cls:=cls);rw[aJ a,iK,<-aT];generalize c.holds[i]=x at *;have m:ac pg 54 [Oe gh.length 0,I x,I (WI.wrap ((t:Int)*f))] (W gh vars cls c f [])=some (.tup [],W gh vars (cls++gq x (WI.wrap ((t:Int)*f))) c f []):=yR NW;have l:=yM x (WI.wrap ((t:Int)*f));have b:=y5 (t:=t) g o k (i+1) (cls++gq x (WI.wrap ((t:Int)*f))) NW (by rw[aQ];omega)
  refine ay (aa (r:=some (_,⟨[(1,I (N:Int)),(3,Ob),(7,Oe (gh.length+1) 0),(12,I (t:Int)),(95,I ((N+1:Nat):Int)),(96,I (t:Int)),(100,LI c.holds),(101,I c.holds.length),(102,I ((i+1:Nat):Int))],[cC c],W gh vars (cls++gq x (WI.wrap ((t:Int)*f))) c f []⟩)) ?K) b
  case K=>
   generalize W gh vars (cls++gq x (WI.wrap ((t:Int)*f))) c f []=s,W gh vars cls c f []=u at *;unfold eU at e;unfold cC;simp[qcj,d,j,e,m,p,show Nat.ble 1 1=true from rfl,-List.getElem?_map]
theorem y6 (g:CiS c) (l:N<=40):∀k i (cls:Oj),i+k=N+1->cls.length+1048576*k<=800000000->
  ab pg qgi ⟨[(1,I (N:Int)),(3,Ob),(7,Oe (gh.length+1) 0),(95,I ((N+1:Nat):Int)),(96,I (i:Int))],[cC c],W gh vars cls c f []⟩=
   Og ⟨[(1,I (N:Int)),(7,Oe (gh.length+1) 0)],[],W gh vars (cls++upto (kq c f) i k) c f []⟩
 |0,i,cls,h,_=>by
  have e:¬(i:Int)<(N:Int)+1:=NW;refine (bn (s1:=?J) (aa ?Z)).trans ?Y
  case Z=>simp[qcl,e];rfl
  case Y=>simp[keep,upto,bj,cC]
 | k+1,i,cls,h,s=>by
  have e:(i:Int)<(N:Int)+1:=NW;have m:=g.holds;have q:WI.wrap ((i:Int)+1)=((i+1:Nat):Int):=by rw[aq NW NW];omega
  have a:=y5 (gh:=gh) (vars:=vars) (f:=f) (N:=N) (t:=i) g l c.holds.length 0 cls NW NW;have j:(kq c f i).length<=c.holds.length:=rf _ _;have d:=y6 g l k (i+1) (cls++kq c f i) NW (by rw[aQ];omega);have n:∀G:Ol,ab pg qck ⟨[(1,I (N:Int)),(3,Ob),(7,Oe (gh.length+1) 0),(95,I ((N+1:Nat):Int)),(96,I (i:Int))],[cC c],G⟩=Og ⟨[(1,I (N:Int)),(3,Ob),(7,Oe (gh.length+1) 0),(95,I ((N+1:Nat):Int)),(96,I ((i+1:Nat):Int))],[cC c],G⟩:=λG=>by refine aa ?_;simp[qck,q,cC]
  rw[upto,<-aT];rw[bJ] at a;refine ay (aa (r:=some (_,⟨[(1,I (N:Int)),(3,Ob),(7,Oe (gh.length+1) 0),(95,I ((N+1:Nat):Int)),(96,I ((i+1:Nat):Int))],[cC c],W gh vars (cls++kq c f i) c f []⟩)) ?K) d
  case K=>
   unfold kq at *;generalize W gh vars (cls++iK (WI.wrap ((i:Int)*f)) c.holds) c f []=p,W gh vars cls c f []=u at *;have b:=n p;unfold cC at a b ⊢;simp only[aR,LI] at a b ⊢;have o:(i:Int)<((N+1:Nat):Int):=NW;generalize ((N+1:Nat):Int)=M at *;simp[qcl,o,a,b,show Nat.ble 1 1=true from rfl]
theorem y7 (a:CiS c) (v:N<=40):ac pg 276 [ciV c,I (N:Int),B begun] gh=some (Oe (gh.length+1) 0,W gh (WI.wrap (frE c*((N+1:Nat):Int))) (gU c (frE c) N begun) c (frE c) []):=by
 have w:WI.wrap ((N:Int)+1)=((N+1:Nat):Int):=by rw[aq NW NW];omega
 generalize C:WI.wrap (frE c*((N+1:Nat):Int))=vars;generalize u:frE c=f at *;have e:=yZ (gh:=gh) (vars:=vars) (f:=f) (begun:=begun) a v (N+1) 0 [] NW (by simp;omega);have X:(upto (jP c f) 0 (N+1)).length<=3000000*(N+1):=la (λi=>by have:=a.ands;rw[re];omega) _ _;rw[bF] at e;generalize L:upto (jP c f) 0 (N+1)=b at *;have m:=y4 (gh:=gh) (vars:=vars) (f:=f) (begun:=begun) a v N 1 b NW NW;have U:(upto (jQ c f) 1 N).length<=2097152*N:=la (λi=>by have:=a.nexts;have:=ri f c.inp i 0 c.nexts;show (iv f c.inp i 0 c.nexts).length<=_;omega) _ _
 generalize H:upto (jQ c f) 1 N=d at *;have j:=tX (gh:=gh) (vars:=vars) (f:=f) (begun:=begun) (N:=N) a c.inits.length 0 (b++d) NW (by have:=a.inits;rw[aQ];omega);have T:=tW f c.inp begun 0 c.inits;rw[bJ] at j;generalize G:jO f c.inp begun 0 c.inits=h at *;have k:=y6 (gh:=gh) (vars:=vars) (f:=f) a v (N+1) 0 (b++d++h) NW (by have:=a.inits;simp only[aQ];omega);have S:(upto (kq c f) 0 (N+1)).length<=1048576*(N+1):=la (λi=>by have:=a.holds;have:=rf (WI.wrap ((i:Int)*f)) c.holds;show (iK _ c.holds).length<=_;omega) _ _;generalize F:upto (kq c f) 0 (N+1)=x at *
 have y:=Ho (gh:=gh) (rest:=[]) (c:=c) (f:=f) (vars:=vars) (t:=(N:Int)) (cls:=b++d++h++x) (by have:=a.bads;omega) (by have:=a.inits;simp only[aQ];omega);have E:gU c f N begun=b++d++h++x++lR (WI.wrap ((N:Int)*f)) c.bads:=by rw[gU,L,H,G,F]
 rw[<-E] at y;generalize gU c f N begun=R,((N+1:Nat):Int)=M at *;have r:W gh vars [] c f []=gh++[.cells [I vars,Oa []],eU gh.length c f]:=rfl;generalize q:W gh vars R c f []=g at *;have D:g.take gh.length=gh:=by rw[<-q];simp[W,mkR]
 generalize W gh vars (b++d++h++x) c f []=O,W gh vars (b++d++h) c f []=P,W gh vars (b++d) c f []=Q,W gh vars b c f []=z at *;have A:ab pg qcm ⟨[(1,I (N:Int)),(7,Oe (gh.length+1) 0)],[],O⟩=Oh ⟨[(6,Oe (gh.length+1) 0)],[],g⟩:=by refine aa ?_;simp[qcm,y]
 have n:ab pg qcn ⟨[(1,I (N:Int)),(3,Ob),(7,Oe (gh.length+1) 0)],[cC c],P⟩=Oh ⟨[(6,Oe (gh.length+1) 0)],[],g⟩:=by refine aa ?_;unfold cC at k;simp only[aR,LI] at k;simp[qcn,w,cC,LI,k,A]
 have o:ab pg qco ⟨[(1,I (N:Int)),(2,B begun),(3,Ob),(7,Oe (gh.length+1) 0)],[cC c],Q⟩=Oh ⟨[(6,Oe (gh.length+1) 0)],[],g⟩:=by refine aa ?_;unfold cC at j n;simp only[aR,LI] at j n;simp[qco,cC,LI,j,n]
 have p:ab pg qcp ⟨[(1,I (N:Int)),(2,B begun),(3,Ob),(7,Oe (gh.length+1) 0)],[cC c],z⟩=Oh ⟨[(6,Oe (gh.length+1) 0)],[],g⟩:=by refine aa ?_;unfold cC at m o;simp only[LI] at m o;have l:ab pg qch ⟨[(1,I (N:Int)),(2,B begun),(3,Ob),(7,Oe (gh.length+1) 0),(9,I 1)],[[I c.ins,.sl false 2 (c.ands.map aj),I c.inp,I c.st,NZ (c.inits.map I),NZ (c.nexts.map I),NZ (c.bads.map I),NZ (c.holds.map I)]],z⟩=_:=m;simp[qcp,cC,LI,l,o]
 unfold cC at e p;rw[r] at e;unfold eU at e;unfold frE at u;simp only[aR,LI] at e p;refine ak (fn:=q83) (s:=⟨[(6,Oe (gh.length+1) 0)],[],g⟩) rfl rfl (aa ?J) ?Z
 case J=>
  simp[qgj,q83,w,u];simp[w,u,C,e,p,au]
 case Z=>simp[ag,results,q83,ah,am,af]
end
end
section
attribute [local congr] bu
attribute [local simp] au
theorem y8 {c:Ci} (b:CiS c) (f:Int) (N:Nat) (a:Bool):SL (gU c f N a):=by
 unfold gU;refine jM (jM (jM (jM (oz (λi=>yO _ _ _ _) _ _) (oz (λi=>yU _ _ _ _ _) _ _)) (yY _ _ _ _ _)) (oz (λi=>yP _ _) _ _)) ?_;intro l h;unfold lR at h;split at h
 ·cases h
 ·rw[List.mem_singleton] at h;subst h
  have:=yW (WI.wrap ((N:Int)*f)) c.bads;have:=b.bads;simp only[Sz];omega
section
variable {gh:Ol} {c:Ci} {begun:Bool}
def oH (c:Ci) (N:Nat) (a:Int) (cls:Oj):PV:=
 if 200000<WI.wrap (frE c*((N+1:Nat):Int)) then .tup [clV 0 [],I 3] else mV a cls
theorem y9 {N f:Nat} {a:Ok} {vars:Int} {cls:Oj} (w:N<=40) (b:a.all az=true) (m:SL cls)
  (i:ac pg f a gh=some (clV vars cls,gh)):ac pg 265 [ciV c,I (N:Int),.fn f a] gh=some (oH c N vars cls,gh):=by
 have j:WI.wrap ((N:Int)+1)=((N+1:Nat):Int):=by rw[aq NW NW];omega
 unfold oH frE;generalize ((N+1:Nat):Int)=M at *;have d:(c.ands.map aj).length=c.ands.length:=aW _;simp only[ciV,LI];generalize v:c.ands.map aj=C,r:c.inits.map I=z,q:c.nexts.map I=y,u:c.bads.map I=B,t:c.holds.map I=A at *;by_cases g:200000<WI.wrap (WI.wrap (c.ins+c.ands.length)*M)
 ·rw[if_pos g]
  refine ak (fn:=q2x) (s:=?J) rfl rfl (aa ?Z) ?Y
  case Z=>simp[qcc,q2x,d,j,g];rfl
  case Y=>simp[ag,results,q2x,ah,am,St.cellsAt,af,clV]
 ·rw[if_neg g]
  have h:=Hg (gh:=gh) (vars:=vars) m;obtain⟨n,k,e,o⟩:=Hi (vars:=vars) (cls:=cls);rw[o] at h ⊢;have hn:=jL k;have p:=jL cls;unfold clV at h i ⊢;generalize (k.map λl=>LI l)=L,(cls.map λl=>LI l)=x at *;refine ak (fn:=q2x) (s:=?K) rfl rfl (aa ?V) ?W
  case V=>simp[qcc,q2x,d,j,g,lQ b,i,h];rfl
  case W=>simp[ag,results,q2x,ah,am,St.cellsAt,af,hn]
theorem Hq {G:Ol} {a b:Nat} {N:Nat} (i:CiS c) (k:N<=40) (ha:G[a]?=some (.cells (cC c))) (j:G[b]?=some (.cells [I (N:Int)])) :
  ac pg 279 [Oe a 0,Oe b 0] G=some (clV (WI.wrap (frE c*((N+1:Nat):Int))) (gU c (frE c) N true),G):=by
 have e:=y7 (gh:=G) (begun:=true) i k;generalize WI.wrap (frE c*((N+1:Nat):Int))=vars,gU c (frE c) N true=R at *;generalize frE c=f at *;have d:=jj (gh:=G) (rest:=[]) (c:=c) (f:=f) (vars:=vars) (cls:=R);have h:(W G vars R c f [])[G.length]?=some (.cells [I vars,Oa (R.map λl=>LI l)]):=yQ;have g:(W G vars R c f []).take G.length=G:=by simp[W,mkR]
 have hn:=jL R;unfold eU at d;unfold cC at ha;unfold clV;simp only[ciV,LI] at e ha;generalize W G vars R c f []=m,(R.map λl=>LI l)=L at *;refine ak (fn:=q84) (s:=?J) rfl rfl (aa ?Z) ?Y
 case Z=>simp[qgk,q84,ha,j,e,d,h];rfl
 case Y=>simp[ag,results,q84,ah,am,St.cellsAt,af,hn,g]
theorem Hr (a:CiS c) {N:Nat} (j:N<=40) (f:Int):(gU c f N begun).length<=800000000:=by
 have h:(upto (jP c f) 0 (N+1)).length<=3000000*(N+1):=la (λi=>by have:=a.ands;rw[re];omega) _ _;have g:(upto (jQ c f) 1 N).length<=2097152*N:=la (λi=>by have:=a.nexts;have:=ri f c.inp i 0 c.nexts;show (iv f c.inp i 0 c.nexts).length<=_;omega) _ _;have e:=tW f c.inp begun 0 c.inits;have d:(upto (kq c f) 0 (N+1)).length<=1048576*(N+1):=la (λi=>by have:=a.holds;have:=rf (WI.wrap ((i:Int)*f)) c.holds;show (iK _ c.holds).length<=_;omega) _ _;have b:(lR (WI.wrap ((N:Int)*f)) c.bads).length<=1:=by unfold lR;split<;>simp
 have:=a.inits;unfold gU;simp only[aQ];omega
end
end
section
attribute [local congr] bu
attribute [local simp] au
theorem Hs (n:Int):WI.wrap (-WI.wrap n)=WI.wrap (-n):=by simp only[IntKind.wrap,IntKind.bits,IntKind.signed];simp;omega
theorem Ht (n:Int):WI.wrap (WI.wrap n)=WI.wrap n:=by simp only[IntKind.wrap,IntKind.bits,IntKind.signed];simp;omega
def kr (a x:Int):Oj:=if x=0 then [] else if x=1 then [[]] else [[cg (dJ x a)]]
def iw (a:Int):Oi->Oj
 |[]=>[]
 |x::l=>kr a x++iw a l
theorem za (a x:Int):(kr a x).length<=1:=by
 unfold kr;split
 ·simp
 ·split<;>simp
theorem tY (a:Int):∀l:Oi,(iw a l).length<=l.length
 |[]=>cU _
 |x::l=>by have:=za a x;have:=tY a l;rw[iw,aQ,aV];omega
theorem Hu (n:Nat) (h:n<1099511627776):gz .i64 (n:Int) 1=if n%2=0 then (n:Int)+1 else (n:Int)-1:=by
 by_cases a:n%2=0
 ·rw[if_pos a]
  exact (tR (A:=n) (B:=n+1) h).2 ⟨NW,NW⟩
 ·rw[if_neg a]
  have:=(tR (A:=n) (B:=n-1) h).2 ⟨NW,NW⟩;rw[this];omega
theorem Hv {x a:Int} (g:0<=x) (h:x<1099511627776):gq (gz .i64 x 1) a=kr a x:=by
 obtain⟨n,rfl⟩:=Int.eq_ofNat_of_zero_le g;have hn:n<1099511627776:=NW;rw[Hu n hn];unfold kr gq;by_cases f:n%2=0
 ·rw[if_pos f]
  by_cases b:n=0
  ·subst b;rfl
  ·rw[if_neg NW,if_neg NW,if_neg NW,if_neg NW]
   unfold cg dJ;have e:Int.tmod ((n:Int)+1) 2=1:=by rw[Int.tmod_eq_emod_of_nonneg NW];omega
   have d:¬Int.tmod (n:Int) 2=1:=by rw[Int.tmod_eq_emod_of_nonneg NW];omega
   have c:Int.tdiv ((n:Int)+1) 2=Int.tdiv (n:Int) 2:=by rw[Int.tdiv_eq_ediv_of_nonneg NW,Int.tdiv_eq_ediv_of_nonneg NW];omega
   rw[if_pos e,if_neg d,c]
 ·rw[if_neg f]
  by_cases b:n=1
  ·subst b;rfl
  ·rw[if_neg NW,if_neg NW,if_neg NW,if_neg NW]
   unfold cg dJ;have e:¬Int.tmod ((n:Int)-1) 2=1:=by rw[Int.tmod_eq_emod_of_nonneg NW];omega
   have d:Int.tmod (n:Int) 2=1:=by rw[Int.tmod_eq_emod_of_nonneg NW];omega
   have c:Int.tdiv ((n:Int)-1) 2=Int.tdiv (n:Int) 2:=by rw[Int.tdiv_eq_ediv_of_nonneg NW,Int.tdiv_eq_ediv_of_nonneg NW];omega
   rw[if_neg e,if_pos d,c,Hs,Int.neg_neg,Ht]
def w1 (v:Int):Int:=WI.wrap (v+1)
def gB (f a t u:Int):Nat->Nat->Int->Oj
 |_,0,_=>[]
 |i,k+1,v=>[cg (w1 v),stE f a t i,stE f a u i]::[cg (w1 v),cg (stE f a t i),cg (stE f a u i)]::gB f a t u (i+1) k (w1 v)
def jk:Nat->Int->Oi
 |0,_=>[]
 |k+1,v=>w1 v::jk k (w1 v)
def jl:Nat->Int->Int
 |0,v=>v
 |k+1,v=>jl k (w1 v)
theorem tZ (f a t u:Int):∀i k v,(gB f a t u i k v).length=2*k
 |_,0,_=>rfl
 |i,k+1,v=>by rw[gB,aV,aV,tZ f a t u (i+1) k];omega
def iy (f a:Int) (st:Nat) (t u:Int) (s:Int×Oj):Int×Oj:=(jl st s.1,s.2++(gB f a t u 0 st s.1++[jk st s.1]))
def gC (f a:Int) (st:Nat) (t:Int):Nat->Nat->Int×Oj->Int×Oj
 |_,0,s=>s
 |u,k+1,s=>gC f a st t (u+1) k (iy f a st t (u:Int) s)
def jR (f a:Int) (st N:Nat):Nat->Nat->Int×Oj->Int×Oj
 |_,0,s=>s
 |t,k+1,s=>jR f a st N (t+1) k (gC f a st (t:Int) (t+1) (N-t) s)
theorem zb {f inp:Int} {st:Nat} {t u:Int} {s:Int×Oj}:(iy f inp st t u s).2.length=s.2.length+(2*st+1):=by unfold iy;simp only[aQ,tZ,aV,cF]
theorem zc {f inp:Int} {st:Nat} {t:Int}:∀u k s,(gC f inp st t u k s).2.length=s.2.length+(2*st+1)*k
 |_,0,_=>rfl
 |u,k+1,s=>by rw[gC,zc (u+1) k,zb,Nat.mul_succ];omega
def prO (m:Nat) (c:Ci):GObj:= .cells [Oe (m+1) 0,I c.ins,.sl false 2 (c.ands.map aj),I c.inp,I c.st,LI c.inits,LI c.nexts,LI c.bads,LI c.holds]
section
variable {gh:Ol} {c:Ci} {f vars:Int} {N:Nat}
def P (b:Ol) (a:Int) (cls:Oj) (c:Ci) (f:Int):Ol:=W b a cls c f [prO b.length c]
theorem mY {cls:Oj}:(P gh vars cls c f)[gh.length+1]?=some (eU gh.length c f):=jj
theorem lc {cls:Oj}:(P gh vars cls c f)[gh.length+2]?=some (prO gh.length c):=by simp[P,W,mkR]
theorem t7 {cls:Oj}:(P gh vars cls c f)[gh.length]?=some (.cells [I vars,Oa (cls.map λl=>LI l)]):=yQ
theorem Hw {cls:Oj} {v:Int}:(P gh vars cls c f).set gh.length (.cells [I v,Oa (cls.map λl=>LI l)])=P gh v cls c f:=by simp[P,W,mkR]
theorem ze {t:Int} (p:c.bads.length<=1048576) (m:∀x∈c.bads,0<=x/\x<1099511627776):∀k i (cls:Oj),i+k=c.bads.length->cls.length+k<=900000000->
  ab pg qf9 ⟨[(0,Oe (gh.length+2) 0),(1,I t),(10,LI c.bads),(11,I c.bads.length),(12,I (i:Int))],[],P gh vars cls c f⟩=
   Og ⟨[],[],P gh vars (cls++iw (WI.wrap (t*f)) (c.bads.drop i)) c f⟩
 |0,i,cls,h,_=>by
  have a:¬(i:Int)<(c.bads.length:Int):=NW;rw[aM NW];refine (bn (s1:=?J) (aa ?Z)).trans ?Y
  case Z=>simp[qai,a];rfl
  case Y=>simp[keep,iw]
 | k+1,i,cls,h,s=>by
  have a:i<c.bads.length:=NW;have d:(i:Int)<(c.bads.length:Int):=NW;have q:WI.wrap ((i:Int)+1)=((i+1:Nat):Int):=by rw[aq NW NW];omega
  have n:(c.bads.map I)[i]?=some (I c.bads[i]):=by simp[aA a]
  have e:=m _ (cD a);have g:=mY (gh:=gh) (c:=c) (f:=f) (vars:=vars) (cls:=cls);have j:=lc (gh:=gh) (c:=c) (f:=f) (vars:=vars) (cls:=cls);rw[aJ a,iw,<-aT];generalize c.bads[i]=x at *;have l:ac pg 54 [Oe gh.length 0,I (gz .i64 x 1),I (WI.wrap (t*f))] (P gh vars cls c f)=some (.tup [],P gh vars (cls++gq (gz .i64 x 1) (WI.wrap (t*f))) c f):=yR NW;rw[Hv e.1 e.2] at l;have o:=za (WI.wrap (t*f)) x;have b:=ze (t:=t) p m k (i+1) (cls++kr (WI.wrap (t*f)) x) NW (by rw[aQ];omega)
  refine ay (aa (r:=some (_,⟨[(0,Oe (gh.length+2) 0),(1,I t),(10,LI c.bads),(11,I c.bads.length),(12,I ((i+1:Nat):Int))],[],P gh vars (cls++kr (WI.wrap (t*f)) x) c f⟩)) ?K) b
  case K=>
   generalize P gh vars (cls++kr (WI.wrap (t*f)) x) c f=u at *;generalize P gh vars cls c f=v at *;unfold eU at g;unfold prO at j;simp[qai,d,n,g,j,l,q,-List.getElem?_map]
theorem Hx {t:Int} {cls:Oj} (d:c.bads.length<=1048576) (e:∀x∈c.bads,0<=x/\x<1099511627776) (b:cls.length+c.bads.length<=900000000) :
  ac pg 277 [Oe (gh.length+2) 0,I t] (P gh vars cls c f)=some (.tup [],P gh vars (cls++iw (WI.wrap (t*f)) c.bads) c f):=by
 have h:=ze (gh:=gh) (vars:=vars) (f:=f) (t:=t) d e c.bads.length 0 cls NW b;have a:=lc (gh:=gh) (c:=c) (f:=f) (vars:=vars) (cls:=cls);rw[bJ] at h;simp only[aR,LI] at h;generalize P gh vars (cls++iw (WI.wrap (t*f)) c.bads) c f=i at *;generalize P gh vars cls c f=j at *;unfold prO at a;have g:=aa (c:=qaj) (s:=⟨[(0,(Oe (gh.length+2) 0)),(1,(.int .i64 t))],[],j⟩) (r:=Og ⟨[],[],i⟩) (pg:=pg) (by simp[qaj,q6v,a,h]);rw[ip (fn:=q6v) rfl rfl g];simp[ag,results,q6v,ah,af]
theorem zf {t u:Int} {st:Nat} (D:c.st=(st:Int)) (H:st<=1048576):∀k i (cls:Oj) (v:Int) (d:Oi),i+k=st->cls.length+2*k<=6000000000->d.length<=i->
  ab pg qfa ⟨[(0,Oe (gh.length+2) 0),(1,I t),(2,I u),(6,Oa (d.map I)),(16,I (st:Int)),(17,I (i:Int))],[],P gh v cls c f⟩=
   Og ⟨[(0,Oe (gh.length+2) 0),(6,Oa ((d++jk k v).map I))],[],P gh (jl k v) (cls++gB f c.inp t u i k v) c f⟩
 |0,i,cls,v,d,h,_,_=>by
  have F:¬(i:Int)<(st:Int):=NW;refine (bn (s1:=?J) (aa ?Z)).trans ?Y
  case Z=>simp[qak,F];rfl
  case Y=>simp[keep,gB,jk,jl]
 | k+1,i,cls,v,d,h,M,ha=>by
  have G:=MB;have z:(i:Int)<(st:Int):=NW;have L:WI.wrap ((i:Int)+1)=((i+1:Nat):Int):=by rw[aq NW NW];omega
  have j:=zf (t:=t) (u:=u) D H k (i+1) (cls++[[cg (w1 v),stE f c.inp t i,stE f c.inp u i],[cg (w1 v),cg (stE f c.inp t i),cg (stE f c.inp u i)]]) (w1 v) (d++[w1 v]) NW (by simp;omega) (by simp;omega);rw[aT,aT,bH,bH,bH,bF,bF] at j;rw[gB,jk,jl];refine ay (aa (r:=some (_,⟨[(0,Oe (gh.length+2) 0),(1,I t),(2,I u),(6,Oa ((d++[w1 v]).map I)),(16,I (st:Int)),(17,I ((i+1:Nat):Int))],[],P gh (w1 v) (cls++[[cg (w1 v),stE f c.inp t i,stE f c.inp u i],[cg (w1 v),cg (stE f c.inp t i),cg (stE f c.inp u i)]]) c f⟩)) ?K) j
  case K=>
   have p:=mY (gh:=gh) (c:=c) (f:=f) (vars:=v) (cls:=cls);have w:=lc (gh:=gh) (c:=c) (f:=f) (vars:=v) (cls:=cls);have y:=t7 (gh:=gh) (c:=c) (f:=f) (vars:=v) (cls:=cls);have n:=Hw (gh:=gh) (c:=c) (f:=f) (vars:=v) (cls:=cls) (v:=w1 v);have e:=mY (gh:=gh) (c:=c) (f:=f) (vars:=w1 v) (cls:=cls);have s:=lc (gh:=gh) (c:=c) (f:=f) (vars:=w1 v) (cls:=cls);have x:=t7 (gh:=gh) (c:=c) (f:=f) (vars:=w1 v) (cls:=cls);have B:=rh (so:=true) (t:=t) (i:=(i:Int)) e;have A:=rh (so:=true) (t:=u) (i:=(i:Int)) e;simp only[if_true] at B A;generalize stE f c.inp t i=a at *
   generalize stE f c.inp u i=b at *;have E:(d.length+1)*8<=maxBytes:=NW;have m:ac pg 91 [Oe gh.length 0,LI [cg (w1 v),a,b]] (P gh (w1 v) cls c f)=some (.tup [],P gh (w1 v) (cls++[[cg (w1 v),a,b]]) c f):=iu NW;have g:ac pg 91 [Oe gh.length 0,LI [cg (w1 v),cg a,cg b]] (P gh (w1 v) (cls++[[cg (w1 v),a,b]]) c f)=some (.tup [],P gh (w1 v) (cls++[[cg (w1 v),a,b]]++[[cg (w1 v),cg a,cg b]]) c f):=iu (by simp;omega);have o:=mY (gh:=gh) (c:=c) (f:=f) (vars:=w1 v) (cls:=cls++[[cg (w1 v),a,b]]);have q:=lc (gh:=gh) (c:=c) (f:=f) (vars:=w1 v) (cls:=cls++[[cg (w1 v),a,b]]);rw[aT] at g;rw[bI]
   simp only[LI,bS,bU,bH,bF] at m g y x n ⊢;generalize P gh (w1 v) (cls++[[cg (w1 v),a,b],[cg (w1 v),cg a,cg b]]) c f=N at *;generalize P gh (w1 v) (cls++[[cg (w1 v),a,b]]) c f=O at *;generalize P gh (w1 v) cls c f=Q at *;generalize P gh v cls c f=R at *;generalize (cls.map λl=>PV.sl false 1 (l.map I))=C at *;unfold eU at p e o;unfold prO at w s q;unfold cg at m g;unfold w1 at *;simp[qak,z,p,e,o,w,s,q,y,x,n,B,A,m,g,E,L,au]
theorem Hy {t u:Int} {st:Nat} {cls:Oj} {v:Int} (d:c.st=(st:Int)) (j:st<=1048576) (i:cls.length+2*st<=6000000000) :
  ac pg 278 [Oe (gh.length+2) 0,I t,I u] (P gh v cls c f)=some (.tup [],P gh (iy f c.inp st t u (v,cls)).1 (iy f c.inp st t u (v,cls)).2 c f):=by
 have h:=zf (gh:=gh) (f:=f) (t:=t) (u:=u) d j st 0 cls v [] NW i NX;have e:=lc (gh:=gh) (c:=c) (f:=f) (vars:=v) (cls:=cls);have b:=mY (gh:=gh) (c:=c) (f:=f) (vars:=jl st v) (cls:=cls++gB f c.inp t u 0 st v);have a:=lc (gh:=gh) (c:=c) (f:=f) (vars:=jl st v) (cls:=cls++gB f c.inp t u 0 st v);have ha:ac pg 91 [Oe gh.length 0,LI (jk st v)] (P gh (jl st v) (cls++gB f c.inp t u 0 st v) c f)=some (.tup [],P gh (jl st v) (cls++gB f c.inp t u 0 st v++[jk st v]) c f):=iu (by rw[aQ,tZ];omega);unfold iy;simp only;rw[aT] at ha;rw[bF] at h;simp only[aR,LI,bU] at h ha
 generalize P gh (jl st v) (cls++(gB f c.inp t u 0 st v++[jk st v])) c f=g at *;generalize P gh (jl st v) (cls++gB f c.inp t u 0 st v) c f=m at *;generalize P gh v cls c f=n at *;generalize (jk st v).map I=L at *;unfold prO at e a;unfold eU at b;rw[d] at e a;have k:ab pg qal ⟨[(0,Oe (gh.length+2) 0),(6,Oa L)],[],m⟩=Og ⟨[],[],g⟩:=by refine aa ?_;simp[qal,a,b,ha]
 have l:=aa (c:=qam) (s:=⟨[(0,(Oe (gh.length+2) 0)),(1,(.int .i64 t)),(2,(.int .i64 u))],[],n⟩) (r:=Og ⟨[],[],g⟩) (pg:=pg) (by simp[qam,q6w,e,h,k]);rw[ip (fn:=q6w) rfl rfl l];simp[ag,results,q6w,ah,af]
abbrev lf (c:Ci) (f:Int) (t:Nat):Oj:=iw (WI.wrap ((t:Int)*f)) c.bads
def mZ (c:Ci) (f a:Int) (N st:Nat):Int×Oj:=jR f c.inp st N 0 (N+1) (a,gU c f N false++upto (lf c f) 0 N)
abbrev pbx (c:Ci):List Ok:=[cC c,[I 0,Oa []]]
theorem zg (g:CiS c) (m:N<=40) (j:∀x∈c.bads,0<=x/\x<1099511627776):∀k i (cls:Oj),i+k=N->cls.length+1048576*k<=850000000->
  ab pg qf5 ⟨[(1,I (N:Int)),(4,Oc),(5,Oe (gh.length+2) 0),(15,I (N:Int)),(16,I (i:Int))],pbx c,P gh vars cls c f⟩=
   Og ⟨[(1,I (N:Int)),(4,Oc),(5,Oe (gh.length+2) 0)],pbx c,P gh vars (cls++upto (lf c f) i k) c f⟩
 |0,i,cls,h,_=>by
  have a:¬(i:Int)<(N:Int):=NW;refine (bn (s1:=?J) (aa ?Z)).trans ?Y
  case Z=>simp[qac,a];rfl
  case Y=>simp[keep,upto,bj,cC]
 | k+1,i,cls,h,p=>by
  have a:(i:Int)<(N:Int):=NW;have d:=g.bads;have o:WI.wrap ((i:Int)+1)=((i+1:Nat):Int):=by rw[aq NW NW];omega
  have l:=Hx (gh:=gh) (vars:=vars) (f:=f) (t:=(i:Int)) (cls:=cls) d j NW;have e:(lf c f i).length<=c.bads.length:=tY _ _;have b:=zg g m j k (i+1) (cls++lf c f i) NW (by rw[aQ];omega);rw[upto,<-aT];refine ay (aa (r:=some (_,⟨[(1,I (N:Int)),(4,Oc),(5,Oe (gh.length+2) 0),(15,I (N:Int)),(16,I ((i+1:Nat):Int))],pbx c,P gh vars (cls++lf c f i) c f⟩)) ?K) b
  case K=>
   unfold lf at *;generalize P gh vars (cls++iw (WI.wrap ((i:Int)*f)) c.bads) c f=q at *;generalize P gh vars cls c f=s at *;have n:=a;simp[qac,n,show i<N by omega,l,o,cC]
theorem zh {t st:Nat} (b:c.st=(st:Int)) (g:st<=1048576) (l:N<=40):∀k u (s:Int×Oj),u+k=N+1->s.2.length+2097153*k<=5900000000->
  ab pg qf6 ⟨[(1,I (N:Int)),(4,Oc),(5,Oe (gh.length+2) 0),(7,I (t:Int)),(8,I (u:Int)),(24,I ((N+1:Nat):Int)),(25,I (t:Int))],pbx c,P gh s.1 s.2 c f⟩=
   Og ⟨[(1,I (N:Int)),(4,Oc),(5,Oe (gh.length+2) 0),(24,I ((N+1:Nat):Int)),(25,I (t:Int))],pbx c,P gh (gC f c.inp st (t:Int) u k s).1 (gC f c.inp st (t:Int) u k s).2 c f⟩
 |0,u,s,h,_=>by
  have a:¬(u:Int)<=(N:Int):=NW;refine (bn (s1:=?J) (aa ?Z)).trans ?Y
  case Z=>simp[qad,a];rfl
  case Y=>simp[keep,gC,bj,cC]
 | k+1,u,s,h,i=>by
  obtain⟨v,cls⟩:=s;have a:(u:Int)<=(N:Int):=NW;have n:WI.wrap ((u:Int)+1)=((u+1:Nat):Int):=by rw[aq NW NW];omega
  simp only at i;have j:=Hy (gh:=gh) (f:=f) (t:=(t:Int)) (u:=(u:Int)) (cls:=cls) (v:=v) b g NW;have e:=zb (f:=f) (inp:=c.inp) (st:=st) (t:=(t:Int)) (u:=(u:Int)) (s:=(v,cls));simp only at e;have d:=zh (t:=t) b g l k (u+1) (iy f c.inp st t u (v,cls)) NW NW;rw[gC];refine ay (aa (r:=some (_,⟨[(1,I (N:Int)),(4,Oc),(5,Oe (gh.length+2) 0),(7,I (t:Int)),(8,I ((u+1:Nat):Int)),(24,I ((N+1:Nat):Int)),(25,I (t:Int))],pbx c,P gh (iy f c.inp st t u (v,cls)).1 (iy f c.inp st t u (v,cls)).2 c f⟩)) ?K) d
  case K=>
   generalize P gh (iy f c.inp st t u (v,cls)).1 (iy f c.inp st t u (v,cls)).2 c f=o at *;generalize P gh v cls c f=p at *;have m:=a;simp[qad,m,show u<=N by omega,j,n,cC]
theorem zi {st:Nat} (e:c.st=(st:Int)) (j:st<=1048576) (l:N<=40):∀k t (s:Int×Oj),t+k=N+1->s.2.length+84000000*k<=5800000000->
  ab pg qf7 ⟨[(1,I (N:Int)),(4,Oc),(5,Oe (gh.length+2) 0),(24,I ((N+1:Nat):Int)),(25,I (t:Int))],pbx c,P gh s.1 s.2 c f⟩=
   Og ⟨[(4,Oc),(5,Oe (gh.length+2) 0)],pbx c,P gh (jR f c.inp st N t k s).1 (jR f c.inp st N t k s).2 c f⟩
 |0,t,s,h,_=>by
  have a:¬(t:Int)<(N:Int)+1:=NW;refine (bn (s1:=?J) (aa ?Z)).trans ?Y
  case Z=>simp[qaf,a];rfl
  case Y=>simp[keep,jR,bj,cC]
 | k+1,t,s,h,q=>by
  have a:(t:Int)<(N:Int)+1:=NW;have n:WI.wrap ((t:Int)+1)=((t+1:Nat):Int):=by rw[aq NW NW];omega
  have d:=zh (gh:=gh) (f:=f) (t:=t) e j l (N-t) (t+1) s NW NW;have i:=zc (f:=f) (inp:=c.inp) (st:=st) (t:=(t:Int)) (t+1) (N-t) s;have u:(2*st+1)*(N-t)<=2097153*40:=Nat.mul_le_mul NW NW;have g:=zi e j l k (t+1) (gC f c.inp st t (t+1) (N-t) s) NW NW;have o:∀G:Ol,ab pg qae ⟨[(1,I (N:Int)),(4,Oc),(5,Oe (gh.length+2) 0),(24,I ((N+1:Nat):Int)),(25,I (t:Int))],pbx c,G⟩=Og ⟨[(1,I (N:Int)),(4,Oc),(5,Oe (gh.length+2) 0),(24,I ((N+1:Nat):Int)),(25,I ((t+1:Nat):Int))],pbx c,G⟩:=λG=>by refine aa ?_;simp[qae,n,pbx,cC]
  rw[jR];refine ay (aa (r:=some (_,⟨[(1,I (N:Int)),(4,Oc),(5,Oe (gh.length+2) 0),(24,I ((N+1:Nat):Int)),(25,I ((t+1:Nat):Int))],pbx c,P gh (gC f c.inp st t (t+1) (N-t) s).1 (gC f c.inp st t (t+1) (N-t) s).2 c f⟩)) ?K) g
  case K=>
   generalize P gh (gC f c.inp st t (t+1) (N-t) s).1 (gC f c.inp st t (t+1) (N-t) s).2 c f=p at *;generalize P gh s.1 s.2 c f=v at *;have b:=o p;unfold pbx cC at d b ⊢;simp only[LI] at d b ⊢;have m:=a;have m:(t:Int)<((N+1:Nat):Int):=NW;generalize ((N+1:Nat):Int)=M at *;generalize ((t+1:Nat):Int)=T at *;simp[qaf,m,n,d,b,show Nat.ble 2 2=true from rfl]
theorem Hz {st:Nat} (g:CiS c) (h:N<=40) (p:c.st=(st:Int)) (z:st<=1048576) (A:∀x∈c.bads,0<=x/\x<1099511627776) :
  ac pg 275 [ciV c,I (N:Int)] gh=some (clV (mZ c (frE c) (WI.wrap (frE c*((N+1:Nat):Int))) N st).1 (mZ c (frE c) (WI.wrap (frE c*((N+1:Nat):Int))) N st).2,gh):=by
 have C:WI.wrap ((N:Int)+1)=((N+1:Nat):Int):=by rw[aq NW NW];omega
 have v:=y7 (gh:=gh) (begun:=false) g h;have u:=Hr (begun:=false) g h (frE c);generalize E:WI.wrap (frE c*((N+1:Nat):Int))=vars at *;generalize F:frE c=f at *;unfold mZ;generalize gU c f N false=R at *;have m:=zg (gh:=gh) (vars:=vars) (f:=f) g h A N 0 R NW NW;have D:(upto (lf c f) 0 N).length<=1048576*N:=la (λi=>by have:=g.bads;have:=tY (WI.wrap ((i:Int)*f)) c.bads;show (iw _ c.bads).length<=_;omega) _ _;generalize upto (lf c f) 0 N=k at *;have e:=zi (gh:=gh) (f:=f) p z h (N+1) 0 (vars,R++k) NW (by simp only[aQ];omega)
 generalize G:(jR f c.inp st N 0 (N+1) (vars,R++k)).1=a at *;generalize H:(jR f c.inp st N 0 (N+1) (vars,R++k)).2=d at *;have r:=mY (gh:=gh) (c:=c) (f:=f) (vars:=a) (cls:=d);have t:=lc (gh:=gh) (c:=c) (f:=f) (vars:=a) (cls:=d);have y:=t7 (gh:=gh) (c:=c) (f:=f) (vars:=a) (cls:=d);have w:(P gh a d c f).take gh.length=gh:=by simp[P,W,mkR]
 have hn:=jL d;have b:W gh vars R c f []++[prO gh.length c]=P gh vars R c f:=by simp[P,W,mkR]
 have q:(W gh vars R c f []).length=gh.length+2:=by simp[W,mkR]
 unfold clV;simp only at e;generalize P gh a d c f=j at *;generalize P gh vars (R++k) c f=B at *;generalize P gh vars R c f=Q at *;generalize W gh vars R c f []=O at *;generalize (d.map λl=>LI l)=L at *;unfold prO at t b;unfold eU at r;have n:ab pg qag ⟨[(4,Oc),(5,Oe (gh.length+2) 0)],pbx c,j⟩=Oh ⟨[(4,Oc)],[cC c,[I a,NZ L]],j⟩:=by refine aa ?_;simp[qag,r,t,y,cC]
 have o:ab pg qah ⟨[(1,I (N:Int)),(4,Oc),(5,Oe (gh.length+2) 0)],pbx c,B⟩=Oh ⟨[(4,Oc)],[cC c,[I a,NZ L]],j⟩:=by refine aa ?_;unfold pbx cC at e n;simp only[aR,LI] at e n;unfold cC;simp only[LI];generalize ((N+1:Nat):Int)=M at *;simp[qah,pbx,cC,LI,C,e,n]
 unfold pbx cC at m o;simp only[ciV,aR,LI] at v m o b ⊢;refine ak (fn:=q6u) (s:=⟨[(4,Oc)],[cC c,[I a,NZ L]],j⟩) rfl rfl (aa ?J) ?Z
 case J=>simp[qf8,q6u,v,q,b,m,o,cC]
 case Z=>simp[ag,results,q6u,ah,am,St.cellsAt,af,hn,w]
end
end
section
attribute [local congr] bu
attribute [local simp] au
section
variable {pre:Ol} {nI nS:Int} {G GM:Ol} {LV a1 a2 a3 a4 BS ST V:Ok} {m0 m1 m2 m3 m4:PV} {bd hd:Ok}
theorem KF {g14 g15 l j W:Nat} {ini nx:Oi} {a:Oi} {s e:Int} {L:List Nd} {x:Nd} {o:Bool} (D:j<l) (H:l<=1000) (p:ST[j]?=some (I s)) (A:0<=s) (z:L[s.toNat]?=some x) (hw:x.w=(W:Int)) (f:W<=8)
  (n:GM[pre.length+2]?=some (.cells [Oe (pre.length+1) 0,LN L,m1,m2,m3,m4,.sl o 1 BS])) (B:LkO GM g15 s (some (I e))) (C:LkO GM g14 s none)
  (h:0<=e) (r:BS[e.toNat]?=some (LI a)) (hn:nx.length+a.length<=1000) (E:ini.length<=1000) :
  evK pg q37 fiK ⟨[(1,(Ob)),(2,(Oc)),(5,(Oe (pre.length+2) 0)),(13,(Od)),(14,(.mp g14)),(15,(.mp g15)),(138,(NZ ST)),(139,(.int .i64 l)),(140,(.int .i64 j))],[[(LN L),m1,m2,m3,m4],[(.int .i64 0),(.sl true 2 []),(.int .i64 0),(.int .i64 0),(Oa []),(Oa []),(Oa []),(Oa [])],[(.int .i64 0),(.sl true 2 []),(.int .i64 nI),(.int .i64 nS),(Oa (ini.map I)),(Oa (nx.map I)),(Oa bd),(Oa hd)]],GM⟩=
   Og ⟨sE pre g14 g15 ST l ((j+1:Nat):Int),[[LN L,m1,m2,m3,m4],C0,C1 nI nS ((ini++List.replicate W (-1)).map I) ((nx++a).map I) bd hd],GM⟩:=by
 have m:(j:Int)<(l:Int):=NW;obtain⟨N,u,t⟩:=B;obtain⟨O,y,v⟩:=C;have k:(nx.length+a.length)*8<=maxBytes:=by have:=MB;omega
 have d:=KE (pre:=pre) (m1:=m1) (m2:=m2) (m3:=m3) (m4:=m4) (nI:=nI) (nS:=nS) (G:=GM) (g14:=g14) (g15:=g15) (l:=l) (j:=j) (ST:=ST) (nx:=(nx++a).map I) (bd:=bd) (hd:=hd) (L:=L) (s:=s) (q:=0) (b:=false) (acc:=ini) A z hw f E;have c:=A0 (pre:=pre) (m0:=LN L) (m1:=m1) (m2:=m2) (m3:=m3) (m4:=m4) (nI:=nI) (nS:=nS) (G:=GM) (g14:=g14) (g15:=g15) (l:=l) (j:=j) (ST:=ST) (ini:=(ini++List.replicate W (-1)).map I) (nx:=(nx++a).map I) (bd:=bd) (hd:=hd) NW;have F:(nx++a).map I=nx.map I++a.map I:=NX;have i:(nx.map I).length=nx.length:=NX;have g:(a.map I).length=a.length:=NX;unfold LI at r
 unfold C0 C1 sE at *;rw[F] at d c ⊢;generalize (ini++List.replicate W (-1)).map I=Q,ini.map I=R,nx.map I=P,a.map I=M at *;unfold LN at *;generalize L.map bh=LV at *;simp[q37,m];simp[p,n,eS,u,t,y,v,h,r,i,g,k,d,c,show Nat.ble 1 3=true from rfl,show Nat.ble 2 3=true from rfl,show Nat.ble 3 3=true from rfl]
theorem KG {g14 g15 l j W N:Nat} {ini nx:Oi} {d F:Oi} {h i:Ok} {s p m:Int} {L:List Nd} {x:Nd} {o:Bool} (ad:j<l) (hl:l<=1000) (E:ST[j]?=some (I s)) (T:0<=s) (S:L[s.toNat]?=some x) (hw:x.w=(W:Int)) (q:W<=8)
  (C:GM[pre.length+2]?=some (.cells [Oe (pre.length+1) 0,LN L,.sl false 2 a1,.sl false 2 a2,NZ a3,NZ a4,.sl o 1 BS])) (U:LkO GM g15 s (some (I p))) (X:LkO GM g14 s (some (I m)))
  (u:0<=p) (M:BS[p.toNat]?=some (LI d)) (hn:nx.length+d.length<=1000) (hi:ini.length<=1000)
  (h3:ac pg 101 [.agg [LN L,.sl false 2 a1,.sl false 2 a2,NZ a3,NZ a4],I 3] GM=some (NZ h,GM)) (h2:ac pg 101 [.agg [LN L,.sl false 2 a1,.sl false 2 a2,NZ a3,NZ a4],I 2] GM=some (NZ i,GM)) (al:h.length<=1000) (an:i.length<=1000)
  (H:ac pg 139 [.agg [LN L,.sl false 2 a1,.sl false 2 a2,NZ a3,NZ a4],NZ (List.replicate h.length (I 0)),NZ (List.replicate i.length (I 0))] GM=some (LI F,GM)) (t:0<=m) (D:(F.map I)[m.toNat]?=some (I (N:Int))) (hN:N<256) :
  evK pg q37 fiK ⟨[(1,(Ob)),(2,(Oc)),(5,(Oe (pre.length+2) 0)),(13,(Od)),(14,(.mp g14)),(15,(.mp g15)),(138,(NZ ST)),(139,(.int .i64 l)),(140,(.int .i64 j))],[[(LN L),(.sl false 2 a1),(.sl false 2 a2),(NZ a3),(NZ a4)],[(.int .i64 0),(.sl true 2 []),(.int .i64 0),(.int .i64 0),(Oa []),(Oa []),(Oa []),(Oa [])],[(.int .i64 0),(.sl true 2 []),(.int .i64 nI),(.int .i64 nS),(Oa (ini.map I)),(Oa (nx.map I)),(Oa bd),(Oa hd)]],GM⟩=
   Og ⟨sE pre g14 g15 ST l ((j+1:Nat):Int),[[LN L,.sl false 2 a1,.sl false 2 a2,NZ a3,NZ a4],C0,C1 nI nS ((ini++cI N 0 W).map I) ((nx++d).map I) bd hd],GM⟩:=by
 have B:(j:Int)<(l:Int):=NW;obtain⟨Q1,P,O⟩:=U;obtain⟨P1,R,Q⟩:=X;have y:(nx.length+d.length)*8<=maxBytes:=by have:=MB;omega
 have e:=AY (pre:=pre) (m0:=LN L) (m1:= .sl false 2 a1) (m2:= .sl false 2 a2) (m3:= NZ a3) (m4:= NZ a4) (nI:=nI) (nS:=nS) (G:=GM) (g14:=g14) (g15:=g15) (l:=l) (j:=j) (ST:=ST) (nx:=(nx++d).map I) (bd:=bd) (hd:=hd) hN q W 0 ini NW NW;simp only[aR] at e;have g:=A0 (pre:=pre) (m0:=LN L) (m1:= .sl false 2 a1) (m2:= .sl false 2 a2) (m3:= NZ a3) (m4:= NZ a4) (nI:=nI) (nS:=nS) (G:=GM) (g14:=g14) (g15:=g15) (l:=l) (j:=j) (ST:=ST) (ini:=(ini++cI N 0 W).map I) (nx:=(nx++d).map I) (bd:=bd) (hd:=hd) NW;have e1:(nx++d).map I=nx.map I++d.map I:=NX;have v:(nx.map I).length=nx.length:=NX
 have r:(d.map I).length=d.length:=NX;have f:(L.map bh)[s.toNat]?=some (.agg [I x.k,I x.w,I x.a,I x.b,I x.c,I x.n]):=by rw[aB,S];rfl
 rw[hw] at f;have z:=rC (n:=h.length) NW;have A:=rC (n:=i.length) NW;unfold LI at M H;unfold C0 C1 sE at *;rw[e1] at e g ⊢;generalize (ini++cI N 0 W).map I=I2,ini.map I=I1,nx.map I=N1,d.map I=V1,F.map I=VI at *;unfold LN at *;generalize L.map bh=LV at *;simp[q37,B];simp[E,C,eS,P,O,R,Q,u,M,v,r,y,h3,h2,z,A,H,t,D,T,f,e,g,co,show Nat.ble 1 3=true from rfl,show Nat.ble 2 3=true from rfl,show Nat.ble 3 3=true from rfl]
theorem KH {l j:Nat} {ini nx bd':Ok} {hd:Ok} {f:Ok} {a g:Int} {h:Ok} {o:Bool} (i:j<l) (q:l<=1000) (m:f[j]?=some (I a)) (ha:0<=a) (e:GM[pre.length+2]?=some (.cells [Oe (pre.length+1) 0,m0,m1,m2,m3,m4,.sl o 1 BS])) (n:BS[a.toNat]?=some (NZ h)) (k:h[0]?=some (I g)) (d:bd'.length=j) :
  evK pg q4v fiK ⟨[(1,(Ob)),(2,(Oc)),(5,(Oe (pre.length+2) 0)),(13,(Od)),(212,(NZ f)),(213,(.int .i64 l)),(214,(.int .i64 j))],[[m0,m1,m2,m3,m4],[(.int .i64 0),(.sl true 2 []),(.int .i64 0),(.int .i64 0),(Oa []),(Oa []),(Oa []),(Oa [])],[(.int .i64 0),(.sl true 2 []),(.int .i64 nI),(.int .i64 nS),(Oa ini),(Oa nx),(Oa bd'),(Oa hd)]],GM⟩=
   Og ⟨[(1,Ob),(2,Oc),(5,Oe (pre.length+2) 0),(13,Od),(212,NZ f),(213,I l),(214,I ((j+1:Nat):Int))],[[m0,m1,m2,m3,m4],C0,C1 nI nS ini nx (bd'++[I g]) hd],GM⟩:=by
 have c:(j:Int)<(l:Int):=NW;have p:=wrS' j NW;have b:(j+1)*8<=maxBytes:=by have:=MB;omega
 unfold C0 C1;simp[q4v,c];simp[m,ha,e,n,k,d,b,p]
theorem KI {l j:Nat} {ini nx bd hd':Ok} {f:Ok} {a g:Int} {h:Ok} {o:Bool} (i:j<l) (q:l<=1000) (m:f[j]?=some (I a)) (ha:0<=a) (e:GM[pre.length+2]?=some (.cells [Oe (pre.length+1) 0,m0,m1,m2,m3,m4,.sl o 1 BS])) (n:BS[a.toNat]?=some (NZ h)) (k:h[0]?=some (I g)) (d:hd'.length=j) :
  evK pg q4w fiK ⟨[(2,(Oc)),(5,(Oe (pre.length+2) 0)),(13,(Od)),(234,(NZ f)),(235,(.int .i64 l)),(236,(.int .i64 j))],[[m0,m1,m2,m3,m4],[(.int .i64 0),(.sl true 2 []),(.int .i64 0),(.int .i64 0),(Oa []),(Oa []),(Oa []),(Oa [])],[(.int .i64 0),(.sl true 2 []),(.int .i64 nI),(.int .i64 nS),(Oa ini),(Oa nx),(Oa bd),(Oa hd')]],GM⟩=
   Og ⟨[(2,Oc),(5,Oe (pre.length+2) 0),(13,Od),(234,NZ f),(235,I l),(236,I ((j+1:Nat):Int))],[[m0,m1,m2,m3,m4],C0,C1 nI nS ini nx bd (hd'++[I g])],GM⟩:=by
 have c:(j:Int)<(l:Int):=NW;have p:=wrS' j NW;have b:(j+1)*8<=maxBytes:=by have:=MB;omega
 unfold C0 C1;simp[q4w,c];simp[m,ha,e,n,k,d,b,p]
def dy (b:Oj) (l:Oi):Oi:=l.map λa=>(b.getD a.toNat []).getD 0 0
theorem rT {b:Oj} {a:Int} (h:0<=a/\a.toNat<b.length):(b.map λl=>LI l)[a.toNat]?=some (NZ ((b.getD a.toNat []).map I)):=by rw[aB,aK,aA h.2];rfl
theorem A7 {l:Oi} (h:l≠[]):(l.map I)[0]?=some (I (l.getD 0 0)):=by
 cases l with
 |nil=>exact absurd rfl h
 |cons x l=>rfl
theorem A8 {b:Oj} {o:Bool} {ini nx hd:Ok} {mk:Oi} (m:mk.length<=1000) (c:GM[pre.length+2]?=some (.cells [Oe (pre.length+1) 0,m0,m1,m2,m3,m4,.sl o 1 (b.map λl=>LI l)]))
  (i:∀a∈mk,(0<=a/\a.toNat<b.length)/\b.getD a.toNat []≠[]):∀k j,j+k=mk.length->
  ab pg qda ⟨[(1,Ob),(2,Oc),(5,Oe (pre.length+2) 0),(13,Od),(212,LI mk),(213,I mk.length),(214,I (j:Int))],[[m0,m1,m2,m3,m4],C0,C1 nI nS ini nx ((dy b (mk.take j)).map I) hd],GM⟩=
   Og ⟨[(1,Ob),(2,Oc),(5,Oe (pre.length+2) 0),(13,Od)],[[m0,m1,m2,m3,m4],C0,C1 nI nS ini nx ((dy b mk).map I) hd],GM⟩
 |0,j,h=>by
  rw[bK NW];have e:¬(j:Int)<(mk.length:Int):=NW;unfold C0 C1;refine (bn (s1:=?J) (aa ?Z)).trans ?Y
  case Z=>simp[q4v,e];rfl
  case Y=>simp[keep,bj]
 | k+1,j,h=>by
  have d:j<mk.length:=NW;obtain⟨n,q⟩:=i _ (cD d);have p:(mk.map I)[j]?=some (I mk[j]):=by rw[aB,aA d];rfl
  have f:=KH (nI:=nI) (nS:=nS) (ini:=ini) (nx:=nx) (hd:=hd) (bd':=(dy b (mk.take j)).map I) d m p n.1 c (rT n) (A7 q) (by simp[dy];omega);have r:(dy b (mk.take j)).map I++[I ((b.getD mk[j].toNat []).getD 0 0)]=(dy b (mk.take (j+1))).map I:=by unfold dy;rw[List.take_succ_eq_append_getElem d,bI,bI];rfl
  rw[r] at f;have g:=A8 (ini:=ini) (nx:=nx) (hd:=hd) m c i k (j+1) NW;unfold C0 C1 at f g ⊢;exact (ay (aa f) g)
theorem A9 {b:Oj} {o:Bool} {ini nx bd:Ok} {mk:Oi} (m:mk.length<=1000) (c:GM[pre.length+2]?=some (.cells [Oe (pre.length+1) 0,m0,m1,m2,m3,m4,.sl o 1 (b.map λl=>LI l)]))
  (i:∀a∈mk,(0<=a/\a.toNat<b.length)/\b.getD a.toNat []≠[]):∀k j,j+k=mk.length->
  ab pg qdb ⟨[(2,Oc),(5,Oe (pre.length+2) 0),(13,Od),(234,LI mk),(235,I mk.length),(236,I (j:Int))],[[m0,m1,m2,m3,m4],C0,C1 nI nS ini nx bd ((dy b (mk.take j)).map I)],GM⟩=
   Og ⟨[(2,Oc),(5,Oe (pre.length+2) 0),(13,Od)],[[m0,m1,m2,m3,m4],C0,C1 nI nS ini nx bd ((dy b mk).map I)],GM⟩
 |0,j,h=>by
  rw[bK NW];have e:¬(j:Int)<(mk.length:Int):=NW;unfold C0 C1;refine (bn (s1:=?J) (aa ?Z)).trans ?Y
  case Z=>simp[q4w,e];rfl
  case Y=>simp[keep,bj]
 | k+1,j,h=>by
  have d:j<mk.length:=NW;obtain⟨n,q⟩:=i _ (cD d);have p:(mk.map I)[j]?=some (I mk[j]):=by rw[aB,aA d];rfl
  have f:=KI (nI:=nI) (nS:=nS) (ini:=ini) (nx:=nx) (bd:=bd) (hd':=(dy b (mk.take j)).map I) d m p n.1 c (rT n) (A7 q) (by simp[dy];omega);have r:(dy b (mk.take j)).map I++[I ((b.getD mk[j].toNat []).getD 0 0)]=(dy b (mk.take (j+1))).map I:=by unfold dy;rw[List.take_succ_eq_append_getElem d,bI,bI];rfl
  rw[r] at f;have g:=A9 (ini:=ini) (nx:=nx) (bd:=bd) m c i k (j+1) NW;unfold C0 C1 at f g ⊢;exact (ay (aa f) g)
end
end
section
attribute [local congr] bu
attribute [local simp] au
def gY (a:Oj) (Q:Om) (st:Oi):Oi:=st.flatMap λs=>a.getD (dM Q s).toNat []
def gZ (L:List Nd) (P:Om) (a:Oi) (st:Oi):Oi:=st.flatMap λs=>if jV P s then cI (a.getD (dM P s).toNat 0).toNat 0 (wAt L s).toNat else List.replicate (wAt L s).toNat (-1)
theorem ve (N:Nat):∀m i,(cI N i m).length=m
 |0,_=>rfl
 |m+1,i=>by rw[cI,aV,ve N m]
structure Ba (L:List Nd) (P Q:Om) (V:Oi) (bits:Oj) (s:Int):Prop where
 s0:0<=s
 s1:s.toNat<L.length
 w:1<=wAt L s/\wAt L s<=8
 hq:jV Q s=true
 q0:0<=dM Q s
 q1:(dM Q s).toNat<bits.length
 ql:(bits.getD (dM Q s).toNat []).length<=8
 p0:jV P s=true->0<=dM P s/\(dM P s).toNat<V.length/\0<=V.getD (dM P s).toNat 0/\V.getD (dM P s).toNat 0<256
section
variable {pre:Ol} {nI nS:Int} {G:Ol} {a1 a2 a3 a4 S3 S2:Ok} {bits:Oj} {o:Bool} {L:List Nd} {P Q:Om} {V:Oi} {st:Oi}
theorem vg (H:st.length<=80) (b:(G++[.map (bi P),.map (bi Q)])[pre.length+2]?=some (.cells [Oe (pre.length+1) 0,LN L,.sl false 2 a1,.sl false 2 a2,NZ a3,NZ a4,.sl o 1 (bits.map λl=>LI l)]))
  (B:ac pg 101 [.agg [LN L,.sl false 2 a1,.sl false 2 a2,NZ a3,NZ a4],I 3] (G++[.map (bi P),.map (bi Q)])=some (NZ S3,(G++[.map (bi P),.map (bi Q)]))) (C:ac pg 101 [.agg [LN L,.sl false 2 a1,.sl false 2 a2,NZ a3,NZ a4],I 2] (G++[.map (bi P),.map (bi Q)])=some (NZ S2,(G++[.map (bi P),.map (bi Q)]))) (d:S3.length<=1000) (e:S2.length<=1000)
  (A:ac pg 139 [.agg [LN L,.sl false 2 a1,.sl false 2 a2,NZ a3,NZ a4],NZ (List.replicate S3.length (I 0)),NZ (List.replicate S2.length (I 0))] (G++[.map (bi P),.map (bi Q)])=some (LI V,(G++[.map (bi P),.map (bi Q)])))
  (t:∀s∈st,Ba L P Q V bits s):∀(k j:Nat) (ini nx:Oi),j+k=st.length->ini.length<=8*j->nx.length<=8*j->
  ab pg qd9 ⟨sE pre G.length (G.length+1) (st.map I) st.length (j:Int),[[LN L,.sl false 2 a1,.sl false 2 a2,NZ a3,NZ a4],C0,C1 nI nS (ini.map I) (nx.map I) [] []],(G++[.map (bi P),.map (bi Q)])⟩=
   Og ⟨[(1,Ob),(2,Oc),(5,Oe (pre.length+2) 0),(13,Od)],[[LN L,.sl false 2 a1,.sl false 2 a2,NZ a3,NZ a4],C0,C1 nI nS ((ini++gZ L P V (st.drop j)).map I) ((nx++gY bits Q (st.drop j)).map I) [] []],(G++[.map (bi P),.map (bi Q)])⟩
 |0,j,ini,nx,h,_,_=>by
  have v:st.drop j=[]:=aM NW;rw[v];have u:¬(j:Int)<(st.length:Int):=NW;unfold gZ gY C0 C1 sE;rw[List.flatMap_nil,List.flatMap_nil,bE,bE];refine (bn (s1:=?J) (aa ?Z)).trans ?Y
  case Z=>simp[q37,u];rfl
  case Y=>simp[keep,bj]
 | k+1,j,ini,nx,h,h1,X=>by
  have n:j<st.length:=NW;have a:=t _ (cD n);have r:(st.map I)[j]?=some (I st[j]):=by rw[aB,aA n];rfl
  rw[aJ n];generalize st[j]=s at *;obtain⟨x,F,R⟩:∃x,L[s.toNat]?=some x/\wAt L s=x.w:=by refine⟨L[s.toNat]'(a.s1),aA a.s1,?_⟩;unfold wAt;rw[aK,aA a.s1];rfl
  obtain⟨W,M⟩:∃W:Nat,x.w=W:=⟨x.w.toNat,by have:=a.w;omega⟩
  have g:W<=8:=by have:=a.w;omega
  have q:(wAt L s).toNat=W:=NW;have S:=a.ql;have m:LkO (G++[.map (bi P),.map (bi Q)]) (G.length+1) s (some (I (dM Q s))):=by have:=KC G P Q s;rw[rS,a.hq] at this;exact this
  cases i:jV P s with
  | false=>
   have c:LkO (G++[.map (bi P),.map (bi Q)]) G.length s none:=by have:=AT G P Q s;rw[rS,i] at this;exact this
   have p:=KF (nI:=nI) (nS:=nS) (bd:=[]) (hd:=[]) (ini:=ini) (nx:=nx) n NW r a.s0 F M g b m c a.q0 (rT ⟨a.q0,a.q1⟩) NW NW;have f:=vg H b B C d e A t k (j+1) (ini++List.replicate W (-1)) (nx++bits.getD (dM Q s).toNat []) NW (by simp;omega) (by rw[aQ];omega);have E:ini++gZ L P V (s::st.drop (j+1))=(ini++List.replicate W (-1))++gZ L P V (st.drop (j+1)):=by unfold gZ;rw[cS,i,q,aT];rfl
   have D:nx++gY bits Q (s::st.drop (j+1))=(nx++bits.getD (dM Q s).toNat [])++gY bits Q (st.drop (j+1)):=by unfold gY;rw[cS,aT]
   rw[E,D];unfold C0 C1 sE at p f ⊢;exact ay (aa p) f
  | true=>
   obtain⟨O,N,U,T⟩:=a.p0 i;have c:LkO (G++[.map (bi P),.map (bi Q)]) G.length s (some (I (dM P s))):=by have:=AT G P Q s;rw[rS,i] at this;exact this
   have z:(V.map I)[(dM P s).toNat]?=some (I (((V.getD (dM P s).toNat 0).toNat:Nat):Int)):=by rw[Kq N];congr 2;omega
   have p:=KG (nI:=nI) (nS:=nS) (bd:=[]) (hd:=[]) (ini:=ini) (nx:=nx) n NW r a.s0 F M g b m c a.q0 (rT ⟨a.q0,a.q1⟩) NW NW B C d e A O z NW;have y:(cI (V.getD (dM P s).toNat 0).toNat 0 W).length=W:=ve _ _ _;have f:=vg H b B C d e A t k (j+1) (ini++cI (V.getD (dM P s).toNat 0).toNat 0 W) (nx++bits.getD (dM Q s).toNat []) NW (by rw[aQ,y];omega) (by rw[aQ];omega);have E:ini++gZ L P V (s::st.drop (j+1))=(ini++cI (V.getD (dM P s).toNat 0).toNat 0 W)++gZ L P V (st.drop (j+1)):=by unfold gZ;rw[cS,i,q,aT];rfl
   have D:nx++gY bits Q (s::st.drop (j+1))=(nx++bits.getD (dM Q s).toNat [])++gY bits Q (st.drop (j+1)):=by unfold gY;rw[cS,aT]
   rw[E,D];unfold C0 C1 sE at p f ⊢;exact ay (aa p) f
variable {A:Om} {ins:Int} {GM:Ol} {m0 m1 m2 m3 m4 bv:PV} {i1 n1 b1 d1:Ok}
theorem KJ (a:GM[pre.length+2]?=some (.cells [Oe (pre.length+1) 0,m0,m1,m2,m3,m4,bv])) (b:GM[pre.length+1]?=some (.cells [I ins,.sl true 2 (A.map aj),.mp pre.length])) :
  ab pg q8k ⟨[(2,Oc),(5,Oe (pre.length+2) 0),(13,Od)],[[m0,m1,m2,m3,m4],C0,C1 nI nS i1 n1 b1 d1],GM⟩=
   Oh ⟨[(2,Oc)],[[m0,m1,m2,m3,m4],[I ins,.sl false 2 (A.map aj),I nI,I nS,NZ i1,NZ n1,NZ b1,NZ d1]],GM⟩:=by
 refine aa ?_;generalize A.map aj=c at *;simp[q8k,C0,C1,a,b]
theorem KK {b:Oi} (c:b.length<=1000) (i:∀a∈b,(0<=a/\a.toNat<bits.length)/\bits.getD a.toNat []≠[])
  (d:GM[pre.length+2]?=some (.cells [Oe (pre.length+1) 0,m0,m1,m2,m3,LI b,.sl o 1 (bits.map λl=>LI l)])) (f:GM[pre.length+1]?=some (.cells [I ins,.sl true 2 (A.map aj),.mp pre.length])) :
  ab pg q8l ⟨[(1,Ob),(2,Oc),(5,Oe (pre.length+2) 0),(13,Od)],[[m0,m1,m2,m3,LI b],C0,C1 nI nS i1 n1 b1 []],GM⟩=
   Oh ⟨[(2,Oc)],[[m0,m1,m2,m3,LI b],[I ins,.sl false 2 (A.map aj),I nI,I nS,NZ i1,NZ n1,NZ b1,LI (dy bits b)]],GM⟩:=by
 have h:=A9 (nI:=nI) (nS:=nS) (ini:=i1) (nx:=n1) (bd:=b1) c d i b.length 0 NW;simp only[List.take_zero,aR,show (dy bits []).map I=[] from rfl] at h;have g:=KJ (nI:=nI) (nS:=nS) (i1:=i1) (n1:=n1) (b1:=b1) (d1:=(dy bits b).map I) d f;have e:(b.map I).length=b.length:=NX;unfold C0 C1 at *;refine aa ?_;unfold LI at *;generalize (dy bits b).map I=F,b.map I=H at *;simp[q8l,e,h,g]
theorem KL {bl hl:Oi} (f:bl.length<=1000) (d:∀a∈bl,(0<=a/\a.toNat<bits.length)/\bits.getD a.toNat []≠[]) (b:hl.length<=1000) (i:∀a∈hl,(0<=a/\a.toNat<bits.length)/\bits.getD a.toNat []≠[])
  (c:GM[pre.length+2]?=some (.cells [Oe (pre.length+1) 0,m0,m1,m2,LI bl,LI hl,.sl o 1 (bits.map λl=>LI l)])) (g:GM[pre.length+1]?=some (.cells [I ins,.sl true 2 (A.map aj),.mp pre.length])) :
  ab pg q8m ⟨[(1,Ob),(2,Oc),(5,Oe (pre.length+2) 0),(13,Od)],[[m0,m1,m2,LI bl,LI hl],C0,C1 nI nS i1 n1 [] []],GM⟩=
   Oh ⟨[(2,Oc)],[[m0,m1,m2,LI bl,LI hl],[I ins,.sl false 2 (A.map aj),I nI,I nS,NZ i1,NZ n1,LI (dy bits bl),LI (dy bits hl)]],GM⟩:=by
 have h:=A8 (nI:=nI) (nS:=nS) (ini:=i1) (nx:=n1) (hd:=[]) f c d bl.length 0 NW;simp only[List.take_zero,aR,show (dy bits []).map I=[] from rfl] at h;have j:=KK (nI:=nI) (nS:=nS) (i1:=i1) (n1:=n1) (b1:=(dy bits bl).map I) b i c g;have e:(bl.map I).length=bl.length:=NX;unfold C0 C1 at *;refine aa ?_;unfold LI at *;generalize (dy bits bl).map I=F,bl.map I=H at *;simp[q8m,e,h,j,bj]
end
end
section
attribute [local congr] bu
attribute [local simp] au
section
variable {pre:Ol} {nI nS ins:Int} {G:Ol} {A:Om} {bits:Oj} {o:Bool} {m:Md}
def jX (m:Md):Ok:=[LN m.nodes,LP m.inits,LP m.nexts,LI m.bads,LI m.holds]
structure pj (m:Md) (bits:Oj):Prop where
 chk:dc m=0
 bl:bits.length=m.nodes.length
 st:∀s∈ci m.nodes 3,Ba m.nodes m.inits m.nexts (jr m) bits s
 mks:∀a∈m.bads++m.holds,(0<=a/\a.toNat<bits.length)/\bits.getD a.toNat []≠[]
def ll (b:Int) (A:Om) (nI c:Int) (m:Md) (a:Oj):Ci:=
 ⟨b,A,nI,c,gZ m.nodes m.inits (jr m) (ci m.nodes 3),gY a m.nexts (ci m.nodes 3),dy a m.bads,dy a m.holds⟩
def md (c:Ci):Ok:=[I c.ins,.sl false 2 (c.ands.map aj),I c.inp,I c.st,LI c.inits,LI c.nexts,LI c.bads,LI c.holds]
theorem KM (h:lW m) (hr:pj m bits) (c:G[pre.length+2]?=some (.cells [Oe (pre.length+1) 0,LN m.nodes,LP m.inits,LP m.nexts,LI m.bads,LI m.holds,.sl o 1 (bits.map λl=>LI l)])) (i:G[pre.length+1]?=some (.cells [I ins,.sl true 2 (A.map aj),.mp pre.length])) :
  ab pg q8n ⟨[(1,Ob),(2,Oc),(5,Oe (pre.length+2) 0),(13,Od),(14,.mp G.length),(15,.mp (G.length+1))],[jX m,C0,C1 nI nS [] [] [] []],G++[.map (bi m.inits),.map (bi m.nexts)]⟩=
   Oh ⟨[(2,Oc)],[jX m,md (ll ins A nI nS m bits)],G++[.map (bi m.inits),.map (bi m.nexts)]⟩:=by
 have hl:=h.len;have g:=pi h 3;have t:=pi h 2;have s:=AN hr.chk;have b:pre.length+2<G.length:=(aD.1 c).1;have d:(G++[.map (bi m.inits),.map (bi m.nexts)])[pre.length+2]?=some (.cells [Oe (pre.length+1) 0,LN m.nodes,LP m.inits,LP m.nexts,LI m.bads,LI m.holds,.sl o 1 (bits.map λl=>LI l)]):=by rw[aI b];exact c
 have k:(G++[.map (bi m.inits),.map (bi m.nexts)])[pre.length+1]?=some (.cells [I ins,.sl true 2 (A.map aj),.mp pre.length]):=by rw[aI NW];exact i
 have j:=ng (m:=m) (kind:=3) (gh:=G++[.map (bi m.inits),.map (bi m.nexts)]) NW;have p:=ng (m:=m) (kind:=2) (gh:=G++[.map (bi m.inits),.map (bi m.nexts)]) NW;have e:=Ko (m:=m) (ss:=nt m) (ks:=nu m) (gh:=G++[.map (bi m.inits),.map (bi m.nexts)]) hr.chk AK;rw[eq] at j p e;have v:LI (nt m)= NZ (List.replicate ((ci m.nodes 3).map I).length (I 0)):=by unfold LI nt;simp
 have w:LI (nu m)= NZ (List.replicate ((ci m.nodes 2).map I).length (I 0)):=by unfold LI nu;simp
 rw[v,w] at e;change _=some (LI (jr m),_) at e;have n:=vg (nI:=nI) (nS:=nS) (bits:=bits) (o:=o) g d j p (by simp;omega) (by simp;omega) e hr.st (ci m.nodes 3).length 0 [] [] NW NX NX;have u:=KL (nI:=nI) (nS:=nS) (i1:=(gZ m.nodes m.inits (jr m) (ci m.nodes 3)).map I) (n1:=(gY bits m.nexts (ci m.nodes 3)).map I) (bl:=m.bads) (hl:=m.holds) NW (λa ha=>hr.mks a (aX _ ha)) NW (λa ha=>hr.mks a (aY _ ha)) d k;simp only[bJ,bF,bU,aR] at n;have f:((ci m.nodes 3).map I).length=(ci m.nodes 3).length:=NX;unfold jX md ll at *;unfold C0 C1 sE at *;simp only;refine aa ?_
 generalize G++[.map (bi m.inits),.map (bi m.nexts)]=C,(gZ m.nodes m.inits (jr m) (ci m.nodes 3))=r,(gY bits m.nexts (ci m.nodes 3))=q at *;unfold LI LN LP at *;generalize r.map I=r,q.map I=q,(ci m.nodes 3).map I=y,(dy bits m.bads).map I=E,(dy bits m.holds).map I=D,m.nodes.map bh=LV,m.inits.map aj=z,m.nexts.map aj=x,m.bads.map I=F,m.holds.map I=B at *;simp[q8n,j,f,n,u]
theorem KN (b:lW m) (hr:pj m bits) (c:G[pre.length+2]?=some (.cells [Oe (pre.length+1) 0,LN m.nodes,LP m.inits,LP m.nexts,LI m.bads,LI m.holds,.sl o 1 (bits.map λl=>LI l)])) (d:G[pre.length+1]?=some (.cells [I ins,.sl true 2 (A.map aj),.mp pre.length])) :
  ab pg q8o ⟨[(1,Ob),(2,Oc),(5,Oe (pre.length+2) 0),(13,Od),(14,.mp G.length),(15,.mp (G.length+1))],[jX m,C0,C1 nI nS [] [] [] []],G++[.map (bi m.inits),.map (bi [])]⟩=
   Oh ⟨[(2,Oc)],[jX m,md (ll ins A nI nS m bits)],G++[.map (bi m.inits),.map (bi m.nexts)]⟩:=by
 have g:=KM (nI:=nI) (nS:=nS) b hr c d;have f:=AI b;have e:=AX (pre:=pre) (m0:=LN m.nodes) (m1:=LP m.inits) (m2:=LP m.nexts) (m3:=LI m.bads) (m4:=LI m.holds) (nI:=nI) (nS:=nS) (G:=G) (ps:=m.nexts) (P1:=m.inits) NW b.nod2 m.nexts.length 0 NW;rw[List.take_zero] at e;simp only[aR] at e;have a:(m.nexts.map aj).length=m.nexts.length:=NX;unfold jX at *;generalize md (ll ins A nI nS m bits)=p at *;unfold C0 C1 at *;refine aa ?_;generalize G++[.map (bi m.inits),.map (bi m.nexts)]=n,G++[.map (bi m.inits),.map (bi [])]=h at *;unfold LI LN LP at *
 generalize m.nodes.map bh=LV,m.inits.map aj=j,m.nexts.map aj=i,m.bads.map I=q,m.holds.map I=k at *;simp[q8o,a,e,g]
theorem KO (c:lW m) (hr:pj m bits) (d:G[pre.length+2]?=some (.cells [Oe (pre.length+1) 0,LN m.nodes,LP m.inits,LP m.nexts,LI m.bads,LI m.holds,.sl o 1 (bits.map λl=>LI l)])) (e:G[pre.length+1]?=some (.cells [I ins,.sl true 2 (A.map aj),.mp pre.length])) :
  ab pg q8p ⟨[(1,Ob),(2,Oc),(3,I nI),(4,I nS),(5,Oe (pre.length+2) 0)],[jX m,C0],G⟩=
   Oh ⟨[(2,Oc)],[jX m,md (ll ins A nI nS m bits)],G++[.map (bi m.inits),.map (bi m.nexts)]⟩:=by
 have g:=KN (nI:=nI) (nS:=nS) c hr d e;have f:=AI c;have a:=AW (pre:=pre) (m0:=LN m.nodes) (m1:=LP m.inits) (m2:=LP m.nexts) (m3:=LI m.bads) (m4:=LI m.holds) (nI:=nI) (nS:=nS) (G:=G) (ps:=m.inits) (P2:=[]) NW c.nod1 m.inits.length 0 NW;rw[List.take_zero] at a;simp only[aR] at a;have b:(m.inits.map aj).length=m.inits.length:=NX;unfold jX at *;generalize md (ll ins A nI nS m bits)=p at *;unfold C0 C1 at *;refine aa ?_;generalize G++[.map (bi m.inits),.map (bi m.nexts)]=n,G++[.map (bi m.inits),.map (bi [])]=h at *;rw[show bi []=[] from rfl] at a
 unfold LI LN LP at *;generalize m.nodes.map bh=LV,m.inits.map aj=j,m.nexts.map aj=i,m.bads.map I=q,m.holds.map I=k at *;simp[q8p,b,a,g]
end
end
section
variable {m:Md} {ss ks:Oi} {ins:Int}
attribute [local congr] bu
attribute [local simp] au
theorem Bb {l:List Nd} {f:On} {b:Bool}:∀{c:Om},di l f b c=0->∀p∈c,wAt l p.1=wAt l p.2
 |[],_,p,a=>by cases a
 | q::c,h,p,a=>by
  rw[di] at h;split at h
  ·rename_i d
   rcases List.mem_cons.1 a with rfl|a
   ·unfold eW at d
    split at d
    ·contradiction
    split at d
    ·contradiction
    rename_i hn;exact aP hn
   ·exact Bb h p a
  ·contradiction
theorem vh:∀{b:Om} {s:Int},jV b s=true->(s,dM b s)∈b
 | (a,u)::b,s,h=>by
  rw[AG] at h;rw[dM];by_cases e:a=s
  ·rw[if_pos e,<-e];exact aZ ..
  ·rw[aF e,Bool.false_or] at h
   rw[if_neg e];exact bC _ (vh h)
theorem KP (h:dc m=0):di m.nodes (dU [] m.nodes) true m.inits=0/\di m.nodes (dU [] m.nodes) false m.nexts=0:=by
 obtain⟨a,_⟩:=rQ h;unfold iz at a;split at a
 ·contradiction
 rename_i c;split at a
 ·contradiction
 rename_i b;exact⟨aP c,aP b⟩
theorem KQ (h:dc m=0):∀a∈m.bads++m.holds,wAt m.nodes a=1:=by
 obtain⟨-,b⟩:=rQ h;unfold jp at b;split at b
 ·contradiction
 split at b
 ·contradiction
 split at b
 ·contradiction
 rename_i c;intro a ha;exact aP λhn=>c (List.any_eq_true.2 ⟨a,ha,by simp[hn]⟩)
def iR (L:List Nd):Oi->Nat
 |[]=>0
 |a::l=>(wAt L a).toNat+iR L l
theorem rU {L:List Nd}:∀{b c:Oi},c.length=b.length->(iA L b c).length=iR L b
 |[],[],_=>rfl
 |a::b,x::c,h=>by rw[iA,aQ,lk,iR,rU (by simpa using h)]
theorem Bc {L:List Nd}:∀{ns:Oi} {s:Int},(∀a∈ns,1<=wAt L a/\wAt L a<=8)->0<=s->s+8*ns.length<=100000->ns.foldl (λs a=>WI.wrap (s+wAt L a)) s=s+iR L ns
 |[],s,_,_,_=>by simp[iR]
 |a::ns,s,h,e,d=>by have ha:=h a (aZ ..);simp only[aV] at d;rw[List.foldl_cons,aq (n:=s+wAt L a) NW NW,Bc (λb c=>h b (bC _ c)) NW NW,iR];omega
theorem me (h:dc m=0) (b:Int):cw m.nodes b=iR m.nodes (ci m.nodes b):=by
 have c:=rF m.nodes b 0 m.nodes 0 rfl;have d:=pi (kC h) b;have hw:=pd h b
 show (List.filter _ _).foldl lU 0=_
 rw[<-c];have:=Bc (L:=m.nodes) (ns:=ci m.nodes b) (s:=0) (λa ha=>(hw a ha).2) NW NW;unfold ci at this ⊢;rw[this,Int.zero_add]
theorem pl (h:dc m=0):cw m.nodes 2<=6/\cw m.nodes 3<=10:=by
 unfold dc at h;split at h
 ·contradiction
 split at h
 ·contradiction
 split at h
 ·contradiction
 omega
def inB (m:Md) (a b:Oi):On:=iA m.nodes (ci m.nodes 2) b++iA m.nodes (ci m.nodes 3) a
def inN (m:Md):Int:=cw m.nodes 2+cw m.nodes 3
theorem KS (h:dc m=0) (a:jq m.nodes (ci m.nodes 3) ss=0) (b:jq m.nodes (ci m.nodes 2) ks=0):((inB m ss ks).length:Int)=inN m:=by unfold inB inN;rw[aQ,rU (va b),rU (va a),me h,me h];omega
theorem vi (h:dc m=0):0<=cw m.nodes 2/\0<=cw m.nodes 3/\0<=inN m/\inN m<=16:=by have c:=me h 2;have b:=me h 3;have a:=pl h;unfold inN;omega
theorem KT (h:0<=ins/\ins<=1000):ck ins []=0:=by unfold ck;rw[if_neg (λq=>q h),if_neg NX,if_pos (by rfl),if_pos NX]
theorem KU (h:dc m=0) {v:On} {A:Om} {b:Oj} {u:List On} {w:Oi} (C:BitsOk ins v A m.nodes b u w) (d:b.length=m.nodes.length):pj m b:=by
 have B:=kC h;obtain⟨E,n⟩:=KP h;have f:∀a:Int,0<=a/\a.toNat<b.length->((b.getD a.toNat []).length:Int)=wAt m.nodes a:=λa ha=>by have D:=C.wd a.toNat ha.2;rw[(C.ls a.toNat ha.2).len,show ((a.toNat:Nat):Int)=a by omega] at D;exact D
 have t:(jr m).length=m.nodes.length:=AF;have r:InW m.nodes (jr m):=ph (λj x F=>rK h F) m.nodes.length 0 [] (nt m) (nu m) NW AK;refine⟨h,d,λs y=>?_,λa ha=>?_⟩
 ·have hw:=pd h 3 s y
  have z:=Ks h s y;have i:=vh z;have c:=(B.pairs _ (aY _ i)).2;have o:=Bb n _ i;have H:=f (dM m.nexts s) ⟨c.1,by rw[d];exact c.2⟩;refine⟨hw.1.1,hw.1.2,hw.2,z,c.1,by rw[d];exact c.2,?_,λI=>?_⟩
  ·have:wAt m.nodes s=wAt m.nodes (dM m.nexts s):=o
   omega
  ·have p:=vh I
   have g:=(B.pairs _ (aX _ p)).2;have l:(dM m.inits s).toNat<(jr m).length:=by rw[t];exact g.2
   have hr:=r _ l;have G:=Ar h (ns:=[dM m.inits s]) (λa ha=>by simp at ha;subst ha;exact g) _ (List.mem_singleton.2 rfl);have k:0<=dM m.inits s:=g.1;rw[show (((dM m.inits s).toNat:Nat):Int)=dM m.inits s by omega] at hr;have q:=fQ (W:=(wAt m.nodes (dM m.inits s)).toNat) NW;exact⟨k,l,hr.1,NW⟩
 ·have hn:=Kt h a ha
  have hw:=KQ h a ha;have hr:0<=a/\a.toNat<b.length:=⟨hn.1,by rw[d];exact hn.2⟩
  refine⟨hr,λe=>?_⟩;have:=f a hr;rw[e,hw] at this;cases this
theorem KW (h:dc m=0) (U:jq m.nodes (ci m.nodes 3) ss=0) (G:jq m.nodes (ci m.nodes 2) ks=0) (pre:Ol) :
  ∃A c i,ac pg 217 [dn m] pre=some (ciV (ll (inN m) A (cw m.nodes 2) (cw m.nodes 3) m c),pre)/\ck (inN m) A=0/\A.length<=400000/\pj m c/\BitsOk (inN m) (inB m ss ks) A m.nodes c i (gX m ss ks):=by
 have hg:=kC h;have hl:=hg.len;have hv:=KS h U G;obtain⟨i2,i3,T,al⟩:=vi h;have O:=KT (ins:=inN m) ⟨T,NW⟩;obtain⟨nI,w⟩:∃n:Nat,cw m.nodes 2=n:=⟨(cw m.nodes 2).toNat,NW⟩
 have N:(inB m ss ks).drop (1+nI-1)=iA m.nodes (da 3 0 (m.nodes.drop 0)) ss:=by have hb:=rU (L:=m.nodes) (va G);have ao:=me h 2;unfold inB;rw[show 1+nI-1=(iA m.nodes (ci m.nodes 2) ks).length by omega,List.drop_left];rfl
 obtain⟨A,c,i,nx,J,t,S,hB,P⟩:=vd pre hv (nI:=cw m.nodes 2) (nS:=cw m.nodes 3) (L:=m.nodes) (m0:=LN m.nodes) (m1:=LP m.inits) (m2:=LP m.nexts) (m3:=LI m.bads) (m4:=LI m.holds) hl (λj x u=>rK h u) (λj x u=>Aq h u) m.nodes.length 0 ss ks [] [] [] [] 1 (1+nI) [] NW O (by simp;omega) rfl
  ⟨rfl,rfl,λj r=>absurd r NX,λj r=>absurd r NX,λj r=>absurd r NX⟩ (Au U G) NW NW rfl N
 have hr:=KU h hB P;refine⟨A,c,i,?_,S.1,by have:=S.2.1;simp at this;omega,hr,hB⟩;have q:=KO (pre:=pre) (nI:=cw m.nodes 2) (nS:=cw m.nodes 3) (ins:=inN m) (A:=A) (o:=true) hg hr (nw (pre:=pre) (ins:=inN m) (A:=A) (m0:=LN m.nodes) (m1:=LP m.inits) (m2:=LP m.nexts) (m3:=LI m.bads) (m4:=LI m.holds) (bv:= Oa (c.map λl=>LI l)) (nx:=nx) (J:=J)) zz;have v:((hH (LN m.nodes) (LP m.inits) (LP m.nexts) (LI m.bads) (LI m.holds) (Oa (c.map λl=>LI l)) nx J).g pre (inN m) A++[GObj.map (bi m.inits),GObj.map (bi m.nexts)]).take pre.length=pre:=by unfold BC.g;simp
 have e:=zS (m:=m) (gh:=pre) NW;have d:=GR (gh:=pre) (ins:=inN m) (ands:=[]) ⟨T,NW⟩ NX NX;have ad:=pl h;have Q:WI.wrap (cw m.nodes 2+cw m.nodes 3)=inN m:=by unfold inN;exact aq NW NW
 have R:WI.wrap (1+cw m.nodes 2)=((1+nI:Nat):Int):=by rw[w,aq NW NW];omega
 have F:(m.nodes.map bh).length=m.nodes.length:=NX;have H:(hH (LN m.nodes) (LP m.inits) (LP m.nexts) (LI m.bads) (LI m.holds) (Oa []) [(2,1),(3,((1+nI:Nat):Int))] []).g pre (inN m) []=mkG pre (inN m) [] (byL (inN m) 0 [])++[.cells [Oe (pre.length+1) 0,LN m.nodes,LP m.inits,LP m.nexts,LI m.bads,LI m.holds,Oa []],.map (bi [(2,1),(3,((1+nI:Nat):Int))])]:=by unfold BC.g hH mkG;simp
 have f:(mkG pre (inN m) [] (byL (inN m) 0 [])).length=pre.length+2:=by unfold mkG;simp
 unfold BR1 at t;simp only[bU,aR,Int.natCast_one] at t;rw[H] at t;rw[eq] at e ⊢;unfold gu at d;simp only[bU] at d;generalize mkG pre (inN m) [] (byL (inN m) 0 [])=X at *;have p:∀(C:GObj) (M:List (PV×PV)),(X++[C,.map M])[pre.length+3]?=some (.map M):=λC M=>by rw[aN NW,f];simp
 have k:∀(C a b:GObj),(X++[C,a]).set (pre.length+3) b=X++[C,b]:=λC a b=>by rw[List.set_append_right _ _ NW,f];simp
 have an:bi []=[]/\bi [(2,1)]=[(I 2,I 1)]:=⟨rfl,rfl⟩
 have E:=yE A;have D:=fZ (gZ m.nodes m.inits (jr m) (ci m.nodes 3));have B:=fZ (gY c m.nexts (ci m.nodes 3));have z:=fZ (dy c m.bads);have y:=fZ (dy c m.holds);unfold md ll jX C0 at *;unfold LI LN LP at *;simp only at q
 show _=some (PV.agg [I (inN m),.sl false 2 (A.map aj),I (cw m.nodes 2),I (cw m.nodes 3),NZ ((gZ m.nodes m.inits (jr m) (ci m.nodes 3)).map I),NZ ((gY c m.nexts (ci m.nodes 3)).map I),NZ ((dy c m.bads).map I),NZ ((dy c m.holds).map I)],pre)
 generalize ((1+nI:Nat):Int)=q3,(hH (.sl false 6 (m.nodes.map bh)) (.sl false 2 (m.inits.map aj)) (.sl false 2 (m.nexts.map aj)) (NZ (m.bads.map I)) (NZ (m.holds.map I)) (Oa (c.map λl=> NZ (l.map I))) nx J).g pre (inN m) A++[GObj.map (bi m.inits),GObj.map (bi m.nexts)]=GE at *;generalize (hH (.sl false 6 (m.nodes.map bh)) (.sl false 2 (m.inits.map aj)) (.sl false 2 (m.nexts.map aj)) (NZ (m.bads.map I)) (NZ (m.holds.map I)) (Oa (c.map λl=> NZ (l.map I))) nx J).g pre (inN m) A=GD,(gZ m.nodes m.inits (jr m) (ci m.nodes 3)).map I=II at *
 generalize (gY c m.nexts (ci m.nodes 3)).map I=NN,(dy c m.bads).map I=FB,(dy c m.holds).map I=FH,A.map aj=AV,m.nodes.map bh=LV,m.inits.map aj=IV,m.nexts.map aj=NV,m.bads.map I=BV,m.holds.map I=HV at *;refine ak (fn:=q4x) (s:=⟨[(2,Oc)],[[.sl false 6 LV,.sl false 2 IV,.sl false 2 NV,NZ BV,NZ HV],[I (inN m),.sl false 2 AV,I (cw m.nodes 2),I (cw m.nodes 3),NZ II,NZ NN,NZ FB,NZ FH]],GE⟩) rfl rfl (aa ?J) ?Z
 case J=>
  simp only[bi,bS,bU] at t;simp[qdc,q4x,e,Q,d,f,p,R,k,F,t,q,ef,eS,dB,show pre.length+2+1=pre.length+3 from rfl]
 case Z=>simp[ag,results,q4x,ah,am,af,St.cellsAt,v,E,D,B,z,y]
end
section
attribute [local congr] bu
attribute [local simp] au
theorem KX {a k:Nat} (b:k<8) (ha:a<2^k):∃c:Nat,iOr .i64 (a:Int) (eR .i64 1 (k:Int))=c/\c<2^(k+1):=by
 have d:2^k<65536:=aO (Nat.pow_lt_pow_right NY b) NY;have e:eR .i64 1 (k:Int)=((2^k:Nat):Int):=by rw[ot NW];simp
 have f:2^k<2^(k+1):=Nat.pow_lt_pow_right NY NW;rw[e,tQ NW d];exact⟨_,rfl,Nat.or_lt_two_pow NW f⟩
section
variable {m:Md} {gh:Ol} {M:Ok} {b nv:Nat} {bs:On}
theorem Bd {A:Ok} {NL:Ok} {x ln:Int} {e i w:Nat} (t:gh[b]?=some (.cells (bs.map B))) (F:bs.length=nv) (p:nv<=1000000000) (H:1<=e) (r:e+w<=nv+1) (hw:w<=8):∀(k j a:Nat),j+k=w->a<2^j->
  ∃c:Nat,c<2^w/\ab pg qgl ⟨[(2,I (e:Int)),(3,.bs true b 0 nv 1),(4,Ob),(9,Oa A),(11,I x),(12,I (a:Int)),(17,NZ NL),(18,I ln),(19,I (i:Int)),(28,I (w:Int)),(29,I (j:Int))],[M],gh⟩=
   Og ⟨[(2,I (e:Int)),(3,.bs true b 0 nv 1),(4,Ob),(9,Oa A),(11,I x),(12,I (c:Int)),(17,NZ NL),(18,I ln),(19,I (i:Int))],[M],gh⟩
 |0,j,a,h,ha=>by
  obtain rfl:j=w:=NW;refine⟨a,ha,(bn (s1:=?J) (aa ?Z)).trans ?Y⟩
  case Z=>simp[q85];rfl
  case Y=>simp
 | k+1,j,a,h,ha=>by
  have l:j<w:=NW;have E:WI.wrap ((e:Int)+(j:Int))=((e+j:Nat):Int):=by rw[aq NW NW];omega
  have D:WI.wrap (((e+j:Nat):Int)-1)=((e+j-1:Nat):Int):=by rw[aq NW NW];omega
  have C:WI.wrap ((j:Int)+1)=((j+1:Nat):Int):=by rw[aq NW NW];omega
  have G:e+j-1<bs.length:=NW;have z:(bs.map B)[e+j-1]?=some (B bs[e+j-1]):=by simp[aA G]
  have n:e+j-1<nv:=NW;have g:e+j-1+1<=nv:=NW;obtain⟨y,O,u⟩:=KX (a:=a) (k:=j) NW ha;have m:(0:Int)<=(j:Int):=NW;have f:=λy N L=>Bd (A:=A) (NL:=NL) (x:=x) (ln:=ln) (i:=i) t F p H r hw k (j+1) y N L
  generalize bs[e+j-1]=v,bs.map B=d at *;generalize e+j-1=q,((e+j:Nat):Int)=P at *;cases v with
  |true=>
   obtain⟨c,s,o⟩:=f y NW u;refine⟨c,s,ay (aa ?K) o⟩
   case K=>simp[q85,qcq,l,E,D,C,t,z,n,g,m,O]
  |false=>
   obtain⟨c,s,o⟩:=f a NW (by rw[Nat.pow_succ];omega);refine⟨c,s,ay (aa ?V) o⟩
   case V=>simp[q85,qcq,l,E,D,C,t,z,n,g,m]
theorem Be {NS:Oi} (hw:rJ m.nodes NS) (hn:NS.length<=1000) (E:gh[b]?=some (.cells (bs.map B))) (C:bs.length=nv) (n:nv<=1000000000):∀(k i fr:Nat) (acc:Oi),i+k=NS.length->acc.length=i->1<=fr->fr+iR m.nodes (NS.drop i)<=nv+1->
  ∃e:Oi,e.length=k/\(∀x∈e,0<=x/\x<=255)/\ab pg qgo ⟨[(2,I (fr:Int)),(3,.bs true b 0 nv 1),(4,Ob),(9,Oa (acc.map I)),(17,LI NS),(18,I NS.length),(19,I (i:Int))],[br m],gh⟩=
   Og ⟨[(9,Oa ((acc++e).map I))],[],gh⟩
 |0,i,fr,acc,h,ha,D,g=>by
  have f:¬i<NS.length:=NW;refine⟨[],rfl,NX,(bn (s1:=?J) (aa ?Z)).trans ?Y⟩
  case Z=>simp[qcr,f];rfl
  case Y=>simp
 | k+1,i,fr,acc,h,ha,D,g=>by
  have f:i<NS.length:=NW;have L:(NS.map I)[i]?=some (I NS[i]):=by simp[aA f]
  obtain⟨o,w1,T⟩:=hw NS[i] (cD f);rw[aJ f,iR] at g;have j:=iP o;have Q:=o.1;have p:(acc.length+1)*8<=maxBytes:=by have:=MB;omega
  have t:(acc.map I).length=acc.length:=NX;have R:WI.wrap ((i:Int)+1)=((i+1:Nat):Int):=by rw[aq NW NW];omega
  have l:=λu v=>Be (fr:=u) (acc:=acc++[v]) hw hn E C n k (i+1)
  unfold wAt at *;generalize m.nodes.getD NS[i].toNat default=x at *;generalize NS[i]=a at *;rw[dT x] at j;obtain⟨W,P⟩:∃W:Nat,x.w=W:=⟨x.w.toNat,NW⟩
  rw[P] at j g;have r:W<=8:=NW;rw[Int.toNat_natCast] at g;have S:WI.wrap ((fr:Int)+(W:Int))=((fr+W:Nat):Int):=by rw[aq NW NW];omega
  obtain⟨c,O,F⟩:=Bd (A:=acc.map I) (NL:=NS.map I) (x:=a) (ln:=NS.length) (i:=i) (M:=br m) (w:=W) E C n D NW r W 0 0 NW NX;have N:c<256:=aO O (cA (bQ NY r) NY);obtain⟨e,H,G,z⟩:=l (fr+W) (c:Int) NW (by simp;omega) NW NW;refine⟨(c:Int)::e,by simp[H],λy s=>?_,?_⟩
  ·rcases List.mem_cons.1 s with rfl|s
   ·omega
   ·exact G y s
  ·rw[show acc++(c:Int)::e=(acc++[(c:Int)])++e by simp]
   rw[bI (l₁:=acc) (l₂:=[(c:Int)])] at z;refine ay (aa ?K) z;simp only[aR] at F;rw[<-t] at p;unfold LI;generalize acc.map I=X,NS.map I=d,((fr+W:Nat):Int)=q at *;simp[qcr,qgm,qgn,f,L,Q,j,F,S,R,p,List.getElem?_cons_zero,-List.getElem?_map,-getElem?_pos]
theorem Bf {kind:Int} {fr:Nat} (h:dc m=0) (p:gh[b]?=some (.cells (bs.map B))) (n:bs.length=nv) (d:nv<=1000000000) (o:1<=fr) (f:fr+iR m.nodes (ci m.nodes kind)<=nv+1) :
  ∃c:Oi,c.length=(ci m.nodes kind).length/\(∀x∈c,0<=x/\x<=255)/\ac pg 280 [dn m,I kind,I (fr:Int),.bs true b 0 nv 1] gh=some (LI c,gh):=by
 have i:=kC h;have q:=pi i kind;have j:=ng (m:=m) (gh:=gh) (kind:=kind) (by have:=i.len;omega);obtain⟨c,l,k,g⟩:=Be (gh:=gh) (pd h kind) NW p n d (ci m.nodes kind).length 0 fr [] NW rfl o (by simpa using f);refine⟨c,l,k,?_⟩;have hn:=fZ c;simp only[bF,bU,aR] at g;rw[eq] at j ⊢;generalize ci m.nodes kind=NS at *;have e:(NS.map I).length=NS.length:=NX;unfold LI at *;generalize c.map I=O,r:NS.map I=a at *;refine ak (fn:=q86) (s:=⟨[(8,NZ O)],[],gh⟩) rfl rfl (aa ?J) ?Z
 case J=>simp[qgq,q86,qgp,j,e,g]
 case Z=>simp[ag,results,q86,ah,am,af,hn]
end
end
structure CiD (m:Md) (c:Ci):Prop extends CiS c where
 st:∃n:Nat,c.st=n/\n<=1048576
 bd:∀x∈c.bads,0<=x/\x<1099511627776
 inp:c.inp=cw m.nodes 2
 ins:c.ins=inN m
theorem vj {α β:Type} {f:α->List β} {k:Nat}:∀{l:List α},(∀a∈l,(f a).length<=k)->(l.flatMap f).length<=k*l.length
 |[],_=>NX
 |a::l,h=>by
  have e:=h a NX;have d:=vj (l:=l) λb c=>h b (by simp[c])
  rw[cS,aQ,aV,Nat.mul_succ];omega
theorem KY {m:Md} (h:dc m=0) (f:Ol):∃c:Ci,ac pg 217 [dn m] f=some (ciV c,f)/\CiD m c:=by
 obtain⟨A,b,v,e,p,D,hr,r⟩:=KW h (rP (L:=m.nodes) (ci m.nodes 3)) (rP (L:=m.nodes) (ci m.nodes 2)) f;have o:=kC h;have C:=pi o 3;have j:=AN h;obtain⟨z,y,B,g⟩:=vi h;have l:=pl h;refine⟨_,e,{inits:=?J,nexts:=?Z,bads:=?Y,holds:=?K,ands:=?V,st:=?W,bd:=?Ja,inp:=rfl,ins:=rfl }⟩
 case J=>
  refine cA (vj (k:=8) λs d=>?_) NW;have:=(hr.st s d).w;split
  ·rw[ve];omega
  ·rw[bM];omega
 case Z=>exact cA (vj (k:=8) λs d=>(hr.st s d).ql) NW
 case Y=>show (dy b m.bads).length<=_;unfold dy;rw[aW];omega
 case K=>show (dy b m.holds).length<=_;unfold dy;rw[aW];omega
 case V=>show A.length<=_;omega
 case W=>exact⟨(cw m.nodes 3).toNat,by show cw m.nodes 3=_;omega,NW⟩
 case Ja=>
  intro x i;obtain⟨a,ha,rfl⟩:=List.mem_map.1 i;obtain⟨⟨F,u⟩,t⟩:=hr.mks a (aX _ ha)
  have n:=(r.ls a.toNat u).get (k:=0) (by cases q:b.getD a.toNat [] with
   |nil=>exact absurd q t
   |cons _ _=>simp)
  have E:=ru p n
  show 0<=(b.getD a.toNat []).getD 0 0/\(b.getD a.toNat []).getD 0 0<_
  omega
section
variable {f vars fu:Int} {N:Nat} {m:Md}
attribute [local congr] bu
attribute [local simp] au
theorem BF (a:Int):∀l:Oi,SL (iw a l)
 |[]=>λl h=>by cases h
 |x::r=>by
  rw[iw];refine jM (λl h=>?_) (BF a r);unfold kr at h;split at h
  ·cases h
  ·split at h<;>simp at h<;>subst h<;>simp
theorem BG (f a t u:Int):∀i k v,SL (gB f a t u i k v)
 |_,0,_=>λl h=>by cases h
 | i,k+1,v=>λl h=>by
  rw[gB] at h;rcases List.mem_cons.1 h with rfl|h
  ·simp
  ·rcases List.mem_cons.1 h with rfl|h
   ·simp
   ·exact BG f a t u (i+1) k (w1 v) l h
theorem diffL_len':∀(k:Nat) (v:Int),(jk k v).length=k
 |0,_=>rfl
 |k+1,v=>by rw[jk,aV,diffL_len']
theorem L8 {a:Int} {st:Nat} {t u:Int} {s:Int×Oj} (b:st<=1048576) (h:SL s.2):SL (iy f a st t u s).2:=by unfold iy;refine jM h (jM (BG _ _ _ _ _ _ _) λl h=>?_);rw[List.mem_singleton] at h;subst h;rw[diffL_len'];simp only[Sz];omega
theorem BH {f b:Int} {st:Nat} {t:Int} (a:st<=1048576):∀u k s,SL s.2->SL (gC f b st t u k s).2
 |_,0,_,h=>h
 |u,k+1,s,h=>by rw[gC];exact BH a (u+1) k _ (L8 a h)
theorem BI {f b:Int} {st N:Nat} (a:st<=1048576):∀t k s,SL s.2->SL (jR f b st N t k s).2
 |_,0,_,h=>h
 |t,k+1,s,h=>by rw[jR];exact BI a (t+1) k _ (BH a _ _ _ h)
section
variable {gh:Ol} {c:Ci}
theorem L9 (b:CiS c) {st:Nat} (a:st<=1048576):SL (mZ c f vars N st).2:=by unfold mZ;exact BI a _ _ _ (jM (y8 b f N false) (oz (λi=>BF _ _) _ _))
theorem Mb {G:Ol} {a b:Nat} (d:CiD m c) (j:N<=40) (ha:G[a]?=some (.cells (cC c))) (h:G[b]?=some (.cells [I (N:Int)])) :
  ∃v L,ac pg 264 [Oe a 0,Oe b 0] G=some (clV v L,G)/\SL L:=by
 obtain⟨st,k,g⟩:=d.st;have e:=Hz (gh:=G) d.toCiS j k g d.bd;have i:=L9 d.toCiS (f:=frE c) (vars:=WI.wrap (frE c*((N+1:Nat):Int))) (N:=N) g;generalize WI.wrap (frE c*((N+1:Nat):Int))=vars at *;generalize mZ c (frE c) vars N st=R at *;refine⟨R.1,R.2,?_,i⟩;have hn:=jL R.2;unfold cC at ha;unfold clV at e ⊢;simp only[ciV,LI] at e ha ⊢;generalize (R.2.map λl=>LI l)=L at *;refine ak (fn:=q6t) (s:=?J) rfl rfl (aa ?Z) ?Y
 case Z=>simp[qf4,q6t,ha,h,e];rfl
 case Y=>simp[ag,results,q6t,ah,am,St.cellsAt,af,hn]
theorem Mc {cls:Oj} (h:iJ vars cls=0):∃n:Nat,vars=n/\n<=200000/\cls.length<=1000000/\∀x∈cls,x.length<=1000000000/\∀y∈x,y≠0/\y.natAbs<=n:=by
 unfold iJ at h;split at h
 ·contradiction
 rename_i j;split at h
 ·contradiction
 rename_i g;refine⟨vars.toNat,NW,NW,NW,?_⟩;clear g;have hw:WI.wrap (-vars)= -vars:=aq NW NW
 induction cls with
 |nil=>intro x b;cases b
 | cons l r c=>
  rw[k0] at h;have a:ko vars l=0:=by
   refine aP λa=>?_
   rw[if_neg a] at h;exact a h
  rw[if_pos a] at h;intro x b;rcases List.mem_cons.1 b with rfl|b
  ·unfold ko at a
   split at a
   ·contradiction
   rename_i i;split at a
   ·contradiction
   rename_i f;refine⟨NW,λy d=>?_⟩;have:¬km vars y=true:=λe=>f (List.any_eq_true.2 ⟨y,d,e⟩)
   simp[km,hw] at this;omega
  ·exact c h x b
theorem BJ {a:Ol} {d:Hp} (h:Fx (H0 gh) d) (e:Rp d a):a.take gh.length=gh:=by
 apply List.ext_getElem?;intro i;by_cases c:i<gh.length
 ·have:=vo h e (b:=i) (o:=gh[i]) (aA c)
  have f:a[i]?=some gh[i]:=this;rw[List.getElem?_take_of_lt c,f,aA c]
 ·rw[List.getElem?_eq_none (by rw[cP];omega),List.getElem?_eq_none NW]
theorem BK {v:Int} {L:Oj} (b:0<=fu/\fu<=1000000) :
  (∃e,e≠0/\oH c N v L= .tup [clV 0 [],I e])\/
  ∃n:Nat,v=n/\n<=200000/\WI.wrap (frE c*((N+1:Nat):Int))<=200000/\oH c N v L= .tup [clV v L,I 0]/\
   ∀G:Ol,∃r h g d f,ac pg 164 [clV v L,I fu] G=some (.agg [I r,aw h,aw g],f)/\Rp d f/\Ans d f n r h g/\Fx (H0 G) d:=by
 unfold oH;by_cases i:200000<WI.wrap (frE c*((N+1:Nat):Int))
 ·exact .inl ⟨3,NY,if_pos i⟩
 ·rw[if_neg i]
  unfold mV;by_cases a:iJ v L=0
  ·rw[if_pos a]
   obtain⟨n,rfl,hn,p,m⟩:=Mc a;refine .inr ⟨n,rfl,hn,NW,rfl,λG=>?_⟩;exact L7 (gh:=G) (n:=n) (fu:=fu) (E:=L.map λl=>LI l) (L:=L) (o:=false) NX (λk x j=>⟨false,by rw[aB,j];rfl⟩) p m NW b
  ·exact .inl ⟨_,a,by rw[if_neg a]⟩
theorem Me (y:CiD m c) (j:N<=40) (i:0<=fu/\fu<=1000000) :
  ∃r,ac pg 257 [ciV c,I (N:Int),I fu] gh=some (I r,gh):=by
 obtain⟨v,L,A,z⟩:=Mb (G:=gh++[.cells (cC c),.cells [I (N:Int)]]) (a:=gh.length) (b:=gh.length+1) y j NX NX;have d:=y9 (c:=c) j NX z A;unfold cC at d;rcases BK (c:=c) (N:=N) (v:=v) (L:=L) i with ⟨e,x,h⟩|⟨n,-,-,-,h,w⟩
 ·rw[h] at d
  refine⟨3,?_⟩;unfold clV at d;simp only[ciV,LI] at d ⊢;refine ak (fn:=q2f) (s:=?J) rfl rfl (aa ?Z) ?Y
  case Z=>simp[qab,q2f,d,x];rfl
  case Y=>simp[ag,results,q2f,ah,am,af]
 ·rw[h] at d
  obtain⟨r,p,o,E,k,f,t,-,q⟩:=w (gh++[.cells (cC c),.cells [I (N:Int)]]);refine⟨r,?_⟩;have u:=BJ q t;have g:k.take gh.length=gh:=by have:=congrArg (List.take gh.length) u;rw[List.take_take] at this;simpa using this
  unfold cC at f;unfold clV at d f;simp only[ciV,LI] at d f ⊢;generalize (L.map λl=>PV.sl false 1 (l.map I))=D,aw p=C,aw o=B at *;refine ak (fn:=q2f) (s:=⟨[(6,I r)],[],k⟩) rfl rfl (aa ?K) ?V
  case K=>simp[qab,q2f,d,f]
  case V=>simp[ag,results,q2f,ah,am,af,g]
end
end
section
attribute [local congr] bu
attribute [local simp] au
structure OkT (st:Oi) (ins:Oj):Prop where
 sl:st.length<=20
 sb:∀x∈st,0<=x/\x<=255
 il:ins.length<=41
 ib:∀l∈ins,l.length<=20/\∀x∈l,0<=x/\x<=255
theorem nB:OkT [] []:=⟨NX,NX,NX,NX⟩
theorem vt {L:List Nd}:∀{ns:Oi},rJ L ns->ns.length<=iR L ns
 |[],_=>cU _
 |a::l,h=>by
  have d:=(h a NX).2;have:=vt (ns:=l) λb c=>h b (by simp[c])
  rw[iR,aV];omega
section
variable {gh G:Ol} {m:Md} {c:Ci} {b nv F N:Nat} {bs:On}
theorem BR {S v1 V2:PV} {CB:Ok} {r:Int} (h:dc m=0) (s:G[b]?=some (.cells (bs.map B))) (p:bs.length=nv) (f:nv<=200000) (L:N<=40) (t:F*(N+1)=nv) (j:cw m.nodes 2<=(F:Int)):∀(k i:Nat) (a:Oj),i+k=N+1->a.length=i->
  ∃c:Oj,c.length=k/\(∀l∈c,l.length<=20/\∀x∈l,0<=x/\x<=255)/\ab pg qge ⟨[(4,Ob),(9,Oc),(12,Of 3 0),(13,Of 4 0),(14,I (F:Int)),(49,I ((N+1:Nat):Int)),(50,I (i:Int))],[br m,[Oa [],Oa []],CB,[I r,.bs true b 0 nv 1,V2],[S,Oa (a.map λl=>LI l)]],G⟩=
   Og ⟨[(9,Oc),(12,Of 3 0),(13,Of 4 0)],[br m,[Oa [],Oa []],CB,[I r,.bs true b 0 nv 1,V2],[S,Oa ((a++c).map λl=>LI l)]],G⟩
 |0,i,a,D,ha=>by
  have d:¬(i:Int)<((N+1:Nat):Int):=NW;refine⟨[],rfl,NX,?_⟩;rw[bE];generalize ((N+1:Nat):Int)=M at *;refine (bn (s1:=?J) (aa ?Z)).trans ?Y
  case Z=>simp[qcd,d];rfl
  case Y=>simp
 | k+1,i,a,D,ha=>by
  have d:(i:Int)<((N+1:Nat):Int):=NW;have E:i*F+F<=nv:=by have:(i+1)*F<=(N+1)*F:=cW F NW;rw[Nat.succ_mul,Nat.mul_comm (N+1) F,t] at this;exact this
  have U:=me h 2;have C:=vt (pd h 2);have z:=pl h;obtain⟨w,T,y,o⟩:=Bf (gh:=G) (kind:=2) (fr:=1+i*F) h s p NW NW NW;obtain⟨c,v,u,n⟩:=BR (S:=S) (v1:=v1) (V2:=V2) (CB:=CB) (r:=r) h s p f L t j k (i+1) (a++[w]) NW (by simp;omega);refine⟨w::c,by simp[v],λl e=>?_,?_⟩
  ·rcases List.mem_cons.1 e with rfl|e
   ·exact⟨NW,y⟩
   ·exact u l e
  ·rw[show a++w::c=(a++[w])++c by simp]
   rw[bI (l₁:=a) (l₂:=[w])] at n;refine ay (aa ?K) n;have Q:WI.wrap ((i:Int)*(F:Int))=((i*F:Nat):Int):=by rw[<-Int.natCast_mul,aq NW NW]
   have P:WI.wrap (1+((i*F:Nat):Int))=((1+i*F:Nat):Int):=by rw[aq NW NW];omega
   have O:WI.wrap ((i:Int)+1)=((i+1:Nat):Int):=by rw[aq NW NW];omega
   have g:((a.map λl=>LI l).length+1)*24<=maxBytes:=by have:=MB;rw[aW];omega
   rw[eq] at o;generalize ((N+1:Nat):Int)=M,((1+i*F:Nat):Int)=q,((i*F:Nat):Int)=R,(a.map λl=>LI l)=A at *;unfold LI at *;generalize H:w.map I=W at *;simp[qcd,d,Q,P,O,o,g,H]
theorem Mg {fu:Int} (h:dc m=0) (x:CiD m c) (X:N<=40) (R:0<=fu/\fu<=1000000) :
  ∃r st k,ac pg 266 [dn m,ciV c,I (N:Int),I fu] gh=some (.tup [I r,jv st k],gh)/\OkT st k:=by
 have h1:=Hq (G:=gh++[.cells (cC c),.cells [I (N:Int)]]) (a:=gh.length) (b:=gh.length+1) x.toCiS X NX NX;have d:=y9 (c:=c) X NX (y8 x.toCiS (frE c) N true) h1;have hI:=x.ins;have hA:=x.ands;obtain⟨i2,i3,i0,ao⟩:=vi h;have al:inN m=cw m.nodes 2+cw m.nodes 3:=rfl;obtain⟨F,hF⟩:∃F:Nat,c.ins+c.ands.length=(F:Int):=⟨(c.ins+c.ands.length).toNat,NW⟩
 have T:frE c=F:=by unfold frE;rw[hF];exact aq NW NW
 have aB:F*(N+1)<=1000016*41:=Nat.mul_le_mul NW NW;have ap:WI.wrap (frE c*((N+1:Nat):Int))=((F*(N+1):Nat):Int):=by rw[T,<-Int.natCast_mul,aq NW NW]
 rw[eq];have U:(c.ands.map aj).length=c.ands.length:=aW _;have A:WI.wrap (c.ins+c.ands.length)=(F:Int):=by rw[hF];exact aq NW NW
 rcases BK (c:=c) (N:=N) (v:=WI.wrap (frE c*((N+1:Nat):Int))) (L:=gU c (frE c) N true) R with ⟨e,he,P⟩|⟨n,hn,E,-,P,hs⟩
 ·rw[P] at d
  refine⟨3,[],[],?_,nB⟩;unfold clV at d;unfold cC at d;simp only[ciV,LI] at d ⊢;refine ak (fn:=q1h) (s:=?J) rfl rfl (aa ?Z) ?Y
  case Z=>simp[q82,q1h,d,he];rfl
  case Y=>simp[ag,results,q1h,ah,am,af,St.cellsAt]
 ·rw[P] at d
  obtain⟨r,v1,v2,H',g,i,z,s3,y⟩:=hs (gh++[.cells (cC c),.cells [I (N:Int)]]);have u:g[gh.length]?=some (.cells (cC c)):=vo y z (b:=gh.length) (by show (gh++_)[gh.length]?=_;simp);have Q:g[gh.length+1]?=some (.cells [I (N:Int)]):=vo y z (b:=gh.length+1) (by show (gh++_)[gh.length+1]?=_;simp);have o:g.take gh.length=gh:=by have:=congrArg (List.take gh.length) (BJ y z);rw[List.take_take] at this;simpa using this
  generalize gU c (frE c) N true=L,WI.wrap (frE c*((N+1:Nat):Int))=j at *;unfold cC at i d u;unfold clV at d i;rcases s3 with ⟨rfl,a2,b,bs,a3,a4,a5⟩|⟨hr,⟨l1,a1⟩,l2,a2⟩
  ·have hb:g[b]?=some (.cells (bs.map B)):=a4
   have t:F*(N+1)=n:=NW;have an:F<=n:=by rw[<-t];exact Nat.le_mul_of_pos_right F NW
   have av:=me h 3;have aA:=vt (pd h 3);have ax:=pl h;have ad:=x.inp;obtain⟨p,hp⟩:∃p:Nat,c.inp=p:=⟨c.inp.toNat,NW⟩
   obtain⟨w,o1,o2,o3⟩:=Bf (gh:=g) (kind:=3) (fr:=1+p) h hb a5 NW NW NW;obtain⟨f,p1,p2,p3⟩:=BR (S:= NZ (w.map I)) (v1:=v1) (V2:= NZ []) (CB:=[I j,NZ (L.map λl=>LI l)]) (r:=1) h hb a5 E X t NW (N+1) 0 [] NW rfl;refine⟨1,w,f,?_,⟨NW,o2,NW,p2⟩⟩;have ew:WI.wrap (1+c.inp)=((1+p:Nat):Int):=by rw[hp,aq NW NW];omega
   have eN:WI.wrap ((N:Int)+1)=((N+1:Nat):Int):=by rw[aq NW NW];omega
   rw[a2,a3] at i;rw[eq] at o3;simp only[bU,bF,aR] at p3;have O:=jL f;have D:=fZ w;simp only[ciV,LI,LsI,jv] at *;generalize (L.map λl=>PV.sl false 1 (l.map I))=L2,(f.map λl=>PV.sl false 1 (l.map I))=O2,w.map I=W2,((N+1:Nat):Int)=M,((1+p:Nat):Int)=q,c.ands.map aj=AV at *;refine ak (fn:=q1h) (s:=⟨[(8,I 1),(9,Oc)],[br m,[NZ W2,NZ O2]],g⟩) rfl rfl (aa ?K) ?V
   case K=>simp[q82,q1h,qce,d,i,u,Q,U,A,ew,eN,o3,p3]
   case V=>simp[ag,results,q1h,ah,am,af,St.cellsAt,o,O,D]
  ·refine⟨r,[],[],?_,nB⟩
   rw[a1,a2] at i;have C:¬r=1:=NW;simp only[ciV,LI,LsI,jv,bU] at *;generalize (L.map λl=>PV.sl false 1 (l.map I))=L2 at *;refine ak (fn:=q1h) (s:=⟨[(8,I r),(9,Oc)],[br m,[NZ [],NZ []]],g⟩) rfl rfl (aa ?W) ?Ja
   case W=>simp[q82,q1h,qce,d,i,C]
   case Ja=>simp[ag,results,q1h,ah,am,af,St.cellsAt,o]
end
end
section
attribute [local congr] bu
attribute [local simp] au
def dcC (m:Md) (c:Ci) (a:Int):Ok:=[LN m.nodes,LP m.inits,LP m.nexts,LI m.bads,LI m.holds,I c.ins,.sl false 2 (c.ands.map aj),I c.inp,I c.st,LI c.inits,LI c.nexts,LI c.bads,LI c.holds,I a]
structure pz (e n:Int) (st:Oi) (ins:Oj):Prop where
 e:e=1\/e=2\/e=3
 n:0<=n/\n<=40
 t:OkT st ins
section
variable {gh G:Ol} {m:Md} {c:Ci} {fu:Int} {N a:Nat} {q:Bool}
theorem Mh (h:dc m=0) (j:CiD m c) (k:N<=40) (f:0<=fu/\fu<=1000000) (g:G[a]?=some (.cells (dcC m c fu))) :
  (∃st b,ac pg 258 [Oe a 0,I (N:Int)] G=some (.tup [.agg [I 2,I (N:Int),LI st,LsI b],B true],G)/\OkT st b)\/
  ∃ok,ac pg 258 [Oe a 0,I (N:Int)] G=some (.tup [.agg [I 0,I 0,NZ [],NZ []],B ok],G):=by
 obtain⟨r,st,b,i,n⟩:=Mg (gh:=G) h j k f;have e:=fZ st;have d:=jL b;unfold dcC at g;rw[eq] at i;simp only[ciV,LI,LsI,jv] at *;by_cases hr:r=1
 ·subst hr
  refine .inl ⟨st,b,?_,n⟩;generalize st.map I=S,(b.map λl=>PV.sl false 1 (l.map I))=T at *;refine ak (fn:=q26) (s:=?J) rfl rfl (aa ?Z) ?Y
  case Z=>simp[q9e,q26,g,i];rfl
  case Y=>simp[ag,results,q26,ah,am,af,St.cellsAt,e,d]
 ·refine .inr ⟨decide (r=2),?_⟩
  generalize st.map I=S,(b.map λl=>PV.sl false 1 (l.map I))=T at *;refine ak (fn:=q26) (s:=?K) rfl rfl (aa ?V) ?W
  case V=>simp[q9e,q26,g,i,hr];rfl
  case W=>simp[ag,results,q26,ah,am,af,St.cellsAt]
def rnS (q:Bool) (a:Nat) (N:Nat) (b:Int) (i:Nat) (G:Ol):St:=⟨[(0,Oe a 0),(4,Ob),(5,Oc),(6,I b),(13,I ((N+1:Nat):Int)),(14,I (i:Int))],[[I 0,I 0,Oa [],Oa []],[I 3,I (N:Int),.sl q 1 [],.sl q 1 []]],G⟩
def rnK (q:Bool) (a:Nat) (N:Nat) (b:Int) (i:Nat) (G:Ol):St:=⟨[(0,Oe a 0),(4,Ob),(5,Oc),(6,I b),(8,Od),(13,I ((N+1:Nat):Int)),(14,I (i:Int)),(54,B false)],[[I 0,I 0,Oa [],Oa []],[I 3,I (N:Int),.sl q 1 [],.sl q 1 []],[I 0,I 0,NZ [],NZ []]],G⟩
def rnE (o:Bool) (e n:Int) (st:Oi) (a:Oj) (G:Ol):St:=⟨[(4,Ob)],[[I e,I n,.sl o 1 (st.map I),.sl o 1 (a.map λl=>LI l)]],G⟩
theorem Mi {safe:Int} {i:Nat} (h:dc m=0) (k:CiD m c) (u:N<=40) (g:0<=fu/\fu<=1000000) (r:G[a]?=some (.cells (dcC m c fu))) (t:i<=N) (j:0<=safe/\safe<=40) :
  (∃o e n st b,ab pg q24 ⟨[(0,Oe a 0),(4,Ob),(5,Oc),(6,I safe),(7,I (i:Int)),(13,I ((N+1:Nat):Int)),(14,I (i:Int))],[[I 0,I 0,Oa [],Oa []],[I 3,I (N:Int),.sl q 1 [],.sl q 1 []]],G⟩=some (.ret,rnE o e n st b G)/\pz e n st b)\/
  ab pg q24 ⟨[(0,Oe a 0),(4,Ob),(5,Oc),(6,I safe),(7,I (i:Int)),(13,I ((N+1:Nat):Int)),(14,I (i:Int))],[[I 0,I 0,Oa [],Oa []],[I 3,I (N:Int),.sl q 1 [],.sl q 1 []]],G⟩=some (.normal,rnK q a N safe i G):=by
 generalize p:((N+1:Nat):Int)=M at *;by_cases f:0<safe
 ·refine .inl ⟨true,1,safe,[],[],aa ?_,⟨.inl rfl,j,nB⟩⟩
  simp[q24,rnE,f]
 ·rcases Mh (N:=i) h k NW g r with ⟨st,b,d,s⟩|⟨ok,d⟩
  ·refine .inl ⟨false,2,i,st,b,aa ?_,⟨.inr (.inl rfl),NW,s⟩⟩
   simp only[LI,LsI,rnE] at *;generalize st.map I=S,(b.map λl=>PV.sl false 1 (l.map I))=T at *;simp[q24,f,d]
  ·cases ok with
   |true=>
    refine .inr (aa ?_);simp[q24,rnK,f,d,p]
   |false=>
    refine .inl ⟨false,3,N,[],[],aa ?_,⟨.inr (.inr rfl),NW,nB⟩⟩;simp[q24,rnE,f,d]
theorem Mj {safe:Int} {i:Nat} (h:dc m=0) (B:CiD m c) (H:N<=40) (u:0<=fu/\fu<=1000000) (l:G[a]?=some (.cells (dcC m c fu))) (C:i<=N) (A:0<=safe/\safe<=40) :
  (∃o e n st d,evK pg qq fiK (rnS q a N safe i G)=some (.ret,rnE o e n st d G)/\pz e n st d)\/
  ∃g,(0<=g/\g<=40)/\evK pg qq fiK (rnS q a N safe i G)=some (.normal,rnS q a N g (i+1) G):=by
 have f:(i:Int)<((N+1:Nat):Int):=NW;have z:WI.wrap ((i:Int)+1)=((i+1:Nat):Int):=by rw[aq NW NW];omega
 have b:=λ(s:Int) y=>Mi (q:=q) (safe:=s) h B H u l C y
 obtain⟨r,v⟩:=Me (gh:=G) (fu:=fu) (N:=i) B NW u;unfold dcC at l;simp only[ciV,rnS,rnK] at *;have O:=λ(s:Int)=>b s
 generalize L:((N+1:Nat):Int)=M at *;by_cases F:0<i/\safe=0
 ·obtain⟨k,rfl⟩:=F
  have I:(0:Int)<(i:Int):=NW;by_cases w:r=2
  ·rcases b i NW with ⟨o,e,n,st,d,j,t⟩|j
   ·refine .inl ⟨o,e,n,st,d,?_,t⟩
    generalize rnE o e n st d G=E at *;simp[qq,f,k,l,v,w,j]
   ·refine .inr ⟨i,NW,?_⟩
    simp[qq,q3u,f,k,l,v,w,j,z]
  ·by_cases x:r=3
   ·refine .inl ⟨false,3,N,[],[],?_,⟨.inr (.inr rfl),NW,nB⟩⟩
    simp[qq,rnE,f,k,l,v,x]
   ·rcases b 0 NW with ⟨o,e,n,st,d,j,t⟩|j
    ·refine .inl ⟨o,e,n,st,d,?_,t⟩
     generalize rnE o e n st d G=E at *;simp[qq,f,k,l,v,w,x,j]
    ·refine .inr ⟨0,NW,?_⟩
     simp[qq,q3u,f,k,l,v,w,x,j,z]
 ·have D:i=0\/¬safe=0:=NW
  rcases b safe A with ⟨o,e,n,st,d,j,t⟩|j
  ·refine .inl ⟨o,e,n,st,d,?_,t⟩
   generalize rnE o e n st d G=E at *;rcases Nat.eq_zero_or_pos i with p|p
   ·subst p
    simp only[aR] at *;simp[qq,f,j]
   ·have k:¬safe=0:=NW
    simp[qq,f,p,k,j]
  ·refine .inr ⟨safe,A,?_⟩
   rcases Nat.eq_zero_or_pos i with p|p
   ·subst p
    simp only[aR] at *;simp[qq,q3u,f,j,show WI.wrap 1=1 by decide]
   ·have k:¬safe=0:=NW
    simp[qq,q3u,f,p,k,j,z]
theorem BT (h:dc m=0) (r:CiD m c) (t:N<=40) (d:0<=fu/\fu<=1000000) (u:G[a]?=some (.cells (dcC m c fu))):∀(k i:Nat) (safe:Int),i+k=N+1->(0<=safe/\safe<=40)->
  (∃o e n st b,ab pg q9c (rnS q a N safe i G)=some (.ret,rnE o e n st b G)/\pz e n st b)\/
  ab pg q9c (rnS q a N safe i G)=Og ⟨[(4,Ob),(5,Oc)],[[I 0,I 0,Oa [],Oa []],[I 3,I (N:Int),.sl q 1 [],.sl q 1 []]],G⟩
 |0,i,safe,x,p=>by
  have j:¬(i:Int)<((N+1:Nat):Int):=NW;refine .inr ?_;unfold rnS;generalize ((N+1:Nat):Int)=M at *;refine (bn (s1:=?J) (aa ?Z)).trans ?Y
  case Z=>simp[qq,j];rfl
  case Y=>simp
 | k+1,i,safe,x,p=>by
  rcases Mj (safe:=safe) h r t d u (by omega:i<=N) p with ⟨o,e,n,st,b,l,f⟩|⟨v,l,f⟩
  ·exact .inl ⟨o,e,n,st,b,cx (aa l),f⟩
  ·rcases BT h r t d u k (i+1) v NW l with ⟨o,e,n,st,b,g,w⟩|g
   ·exact .inl ⟨o,e,n,st,b,(ay (aa f) g),w⟩
   ·exact .inr (ay (aa f) g)
theorem Mk (h:dc m=0) (k:CiD m c) (p:N<=40) (g:0<=fu/\fu<=1000000) (r:G[a]?=some (.cells (dcC m c fu))) :
  ∃e n st b,ac pg 250 [Oe a 0,I (N:Int)] G=some (.agg [I e,I n,LI st,LsI b],G)/\pz e n st b:=by
 have j:WI.wrap ((N:Int)+1)=((N+1:Nat):Int):=by rw[aq NW NW];omega
 rcases BT (q:=true) h k p g r (N+1) 0 0 NW NW with ⟨o,e,n,st,b,i,t⟩|i
 ·refine⟨e,n,st,b,?_,t⟩
  have f:=fZ st;have d:=jL b;simp only[rnS,rnE,aR,LI,LsI] at *;generalize ((N+1:Nat):Int)=M,st.map I=S,(b.map λl=>PV.sl false 1 (l.map I))=T at *;refine ak (fn:=q25) (s:=⟨[(4,Ob)],[[I e,I n,.sl o 1 S,.sl o 1 T]],G⟩) rfl rfl (aa ?J) ?Z
  case J=>simp[q9d,q25,j,i]
  case Z=>simp[ag,results,q25,ah,am,af,St.cellsAt,f,d]
 ·refine⟨3,N,[],[],?_,⟨.inr (.inr rfl),NW,nB⟩⟩
  simp only[rnS,aR] at *;generalize ((N+1:Nat):Int)=M at *;refine ak (fn:=q25) (s:=⟨[(4,Ob)],[[I 3,I (N:Int),NZ [],NZ []]],G⟩) rfl rfl (aa ?Y) ?K
  case Y=>simp[q9d,q25,qea,j,i]
  case K=>simp[ag,results,q25,ah,am,af,St.cellsAt]
end
end
end Go.Lw