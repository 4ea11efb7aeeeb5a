/-
  The texts that the proof stands on, part 21.
-/
import Derived.Test.YtmodipglnngghacGreatDoorExploreFindsT
import Derived.Sort.Grow
set_option linter.unusedVariables false
set_option linter.unusedSimpArgs false
set_option linter.unnecessarySimpa false

set_option maxRecDepth 100000
set_option maxHeartbeats 4000000
namespace Go.Lw
open Go
section
open Go.Sort
section
variable {fi:FI} {M M':Mem} {w w' W:World} {P:Program}
theorem tU {b k:Nat} (h:W.heap[b]?=w.heap[b]?):W.cell? ⟨b,k,none⟩=w.cell? ⟨b,k,none⟩:=by simp[World.cell?,h]
end
end
section
variable {ins:Int} {ands:List (Int×Int)} {gh:List GObj}
end
theorem csOk_slice {g:Bool} {bytes:Nat} {l:List CS} {p:PV} (h:fT (.slice g bytes l) p):∃xs,p= .sl false l.length xs/\xs.length*bytes<=reachBytes/\∀e∈xs,(g=true/\∃ps,e= .agg ps/\bm l ps)\/(g=false/\bm l [e]):=by unfold fT at h;exact h
theorem nq:∀{xs:List PV},(∀e∈xs,(true=true/\∃ps,e= .agg ps/\bm [.int,.int] ps)\/(true=false/\bm [.int,.int] [e]))->∃ands,RA ands/\xs=ands.map bj
 |[],_=>⟨[],λx h=>(by cases h),rfl⟩
 | e::xs,h=>by
  obtain⟨ands,hr,rfl⟩:=nq (xs:=xs) λe he=>h e (bG _ he)
  rcases h e (by simp) with ⟨-,ps,rfl,hp⟩|⟨h,-⟩
  ·obtain⟨_,_,rfl,g0,hp⟩:=dV hp
   obtain⟨_,_,rfl,g1,hp⟩:=dV hp;obtain rfl:=je hp;obtain⟨a,rfl,ha⟩:=fU g0;obtain⟨b,rfl,hb⟩:=fU g1;refine⟨(a,b)::ands,λx hx=>?_,rfl⟩;rcases List.mem_cons.1 hx with rfl|hx
   ·exact⟨ha,hb⟩
   ·exact hr x hx
  ·cases h
section
variable {ins:Int} {ands:List (Int×Int)} {gh:List GObj}
end
def RI (l:List Int):Prop:=∀x∈l,-9223372036854775808<=x/\x<=9223372036854775807
theorem int_list:∀{xs:List PV},(∀e∈xs,(false=true/\∃ps,e= .agg ps/\bm [.int] ps)\/(false=false/\bm [.int] [e]))->∃v:List Int,RI v/\xs=v.map I
 |[],_=>⟨[],λx h=>(by cases h),rfl⟩
 | e::xs,h=>by
  obtain⟨v,hr,rfl⟩:=int_list (xs:=xs) λe he=>h e (bG _ he)
  rcases h e (by simp) with ⟨h,-⟩|⟨-,hp⟩
  ·cases h
  ·obtain⟨_,_,e1,g0,hp⟩:=dV hp
   cases je hp;simp only[List.cons.injEq,and_true] at e1;subst e1;obtain⟨b,rfl,hb⟩:=fU g0;refine⟨b::v,λx hx=>?_,rfl⟩;rcases List.mem_cons.1 hx with rfl|hx
   ·exact hb
   ·exact hr x hx
def toggleM:Md:=⟨[⟨1,1,0,0,0,0⟩,⟨3,1,0,0,0,0⟩,⟨4,1,1,0,0,0⟩],[(1,0)],[(1,2)],[1],[]⟩
section
variable {m:Md} {gh:List GObj}
theorem zY:af pg 75 [] gh=some (dI toggleM,gh):=by
 refine aw (fn:=q3q) (s:=?s1) rfl rfl (q95_ ?h1) ?r1
 case h1=>simp only[q95];rfl
 case r1=>simp[au,results,q3q,av,ay,al,St.cellsAt,ch,toggleM,eg,iC]
end
abbrev sg:List CS:=[.slice true 48 [.int,.int,.int,.int,.int,.int],.slice true 16 [.int,.int],.slice true 16 [.int,.int],.slice false 8 [.int],.slice false 8 [.int]]
structure nr (m:Md):Prop where
 nodes:m.nodes.length*48<=reachBytes
 inits:m.inits.length*16<=reachBytes
 nexts:m.nexts.length*16<=reachBytes
 bads:m.bads.length*8<=reachBytes
 holds:m.holds.length*8<=reachBytes
theorem sh:∀{xs:List PV},(∀e∈xs,(true=true/\∃ps,e= .agg ps/\bm [.int,.int,.int,.int,.int,.int] ps)\/(true=false/\bm [.int,.int,.int,.int,.int,.int] [e]))->∃l:List Nd,xs=l.map bu
 |[],_=>⟨[],rfl⟩
 | e::xs,h=>by
  obtain⟨l,rfl⟩:=sh (xs:=xs) λe he=>h e (bG _ he)
  rcases h e (by simp) with ⟨-,ps,rfl,hp⟩|⟨h,-⟩
  ·obtain⟨_,_,rfl,g0,hp⟩:=dV hp
   obtain⟨_,_,rfl,g1,hp⟩:=dV hp;obtain⟨_,_,rfl,g2,hp⟩:=dV hp;obtain⟨_,_,rfl,g3,hp⟩:=dV hp;obtain⟨_,_,rfl,g4,hp⟩:=dV hp;obtain⟨_,_,rfl,g5,hp⟩:=dV hp;obtain rfl:=je hp;obtain⟨a0,rfl,-⟩:=fU g0;obtain⟨a1,rfl,-⟩:=fU g1;obtain⟨a2,rfl,-⟩:=fU g2;obtain⟨a3,rfl,-⟩:=fU g3;obtain⟨a4,rfl,-⟩:=fU g4;obtain⟨a5,rfl,-⟩:=fU g5;exact⟨⟨a0,a1,a2,a3,a4,a5⟩::l,rfl⟩
  ·cases h
theorem zZ {p:PV} (h:gr (true,sg) p):∃m,p=dI m/\nr m:=by
 obtain⟨ps,rfl,hp⟩:=qW h;obtain⟨_,_,rfl,g0,hp⟩:=dV hp;obtain⟨_,_,rfl,g1,hp⟩:=dV hp;obtain⟨_,_,rfl,g2,hp⟩:=dV hp;obtain⟨_,_,rfl,g3,hp⟩:=dV hp;obtain⟨_,_,rfl,g4,hp⟩:=dV hp;obtain rfl:=je hp;obtain⟨x0,rfl,b0,h0⟩:=csOk_slice g0;obtain⟨x1,rfl,b1,h1⟩:=csOk_slice g1;obtain⟨x2,rfl,b2,h2⟩:=csOk_slice g2;obtain⟨x3,rfl,b3,h3⟩:=csOk_slice g3;obtain⟨x4,rfl,b4,h4⟩:=csOk_slice g4;obtain⟨l0,rfl⟩:=sh h0;obtain⟨l1,-,rfl⟩:=nq h1;obtain⟨l2,-,rfl⟩:=nq h2;obtain⟨l3,-,rfl⟩:=int_list h3;obtain⟨l4,-,rfl⟩:=int_list h4
 exact⟨⟨l0,l1,l2,l3,l4⟩,rfl,⟨by simpa using b0,by simpa using b1,by simpa using b2,by simpa using b3,by simpa using b4⟩⟩
structure jX (m:Md):Prop where
 len:m.nodes.length<=80
 ahead:lj m.nodes
 pairs:∀p∈m.inits++m.nexts,cz m.nodes p.1/\cz m.nodes p.2
 nod1:(m.inits.map (·.1)).Nodup
 nod2:(m.nexts.map (·.1)).Nodup
theorem nt {l:List Nd} {f:List Bool} {init:Bool}:∀{ps:List (Int×Int)},du l f init ps=0->∀p∈ps,cz l p.1/\cz l p.2
 |[],_,p,hp=>by cases hp
 | q ::ps,h,p,hp=>by
  rw[du] at h;split at h
  ·rename_i h0
   rcases List.mem_cons.1 hp with rfl|hp
   ·unfold fH at h0
    split at h0
    ·contradiction
    ·rename_i hn
     exact⟨aU λh=>hn (.inl h),aU λh=>hn (.inr (.inl h))⟩
   ·exact nt h p hp
  ·contradiction
theorem ez {m:Md} (h:az m=0):jX m:=by
 unfold az at h;split at h
 ·contradiction
 rename_i h1;split at h
 ·contradiction
 rename_i h2;split at h
 ·contradiction
 split at h
 ·contradiction
 rename_i h4;have h4:fY m (dY [] m.nodes)=0:=aU h4;unfold fY at h4;split at h4
 ·contradiction
 rename_i e1;split at h4
 ·contradiction
 rename_i e2;split at h4
 ·contradiction
 rename_i e3;have e1:=aU e1;have e2:=aU e2;refine⟨by omega,sd (aU h2),λp hp=>?_,?_,?_⟩
 ·rcases bZ.1 hp with hp|hp
  ·exact nt e1 p hp
  ·exact nt e2 p hp
 ·exact aU λh=>e3 (.inl h)
 ·exact aU λh=>e3 (.inr h)
theorem Aa {x:Int} (h:0<=x):∃n:Nat,x=n:=⟨x.toNat,by omega⟩
section
variable (k width n v e a b c w0 w1 w2:Int) (gh:List GObj)
end
def hE (l:List Nd) (ns:List Int):Prop:=∀a∈ns,cz l a/\1<=wAt l a/\wAt l a<=8
def di (L:List Nd):List Int->List Int->Int
 |a::ns,v::vs=>if 0<=v/\v<((2^(wAt L a).toNat:Nat):Int) then di L ns vs else 3
 |[],_=>0
 |_::_,[]=>0
def bn (L:List Nd) (ns vs:List Int):Int:=if vs.length≠ns.length then 2 else di L ns vs
section
variable {m:Md} {gh:List GObj}
def lm (m:Md) (ns vs:List Int) (i:Nat) (gh:List GObj):St:=
 ⟨[(2,LI vs),(3,.ptr false 0 0),(14,LI ns),(15,I ns.length),(16,I (i:Int))],[[LN m.nodes,LP m.inits,LP m.nexts,LI m.bads,LI m.holds]],gh⟩
theorem si {ns vs:List Int} (hx:hE m.nodes ns) (hl:ns.length<=1000) (hv:vs.length=ns.length):∀k i,i+k=ns.length->
  ac pg q2y (lm m ns vs i gh)=if di m.nodes (ns.drop i) (vs.drop i)=0 then some (.normal,⟨[],[],gh⟩) else some (.ret,⟨[(6,I (di m.nodes (ns.drop i) (vs.drop i)))],[],gh⟩)
 |0,i,h=>by
  rw[aQ (by omega),di,if_pos rfl];have hlt:¬(i:Int)<(ns.length:Int):=by omega
  refine (cX (s1:=?s1) (q5g ?h1)).trans ?r1
  case h1=>simp only[aF hlt,dJ];rfl
  case r1=>simp[keep]
 | k+1,i,h=>by
  have hlt:i<ns.length:=by omega
  have hltI:(i:Int)<(ns.length:Int):=by omega
  have hlv:i<vs.length:=by omega
  have e2:WI.wrap ((i:Int)+1)=((i+1:Nat):Int):=by rw[cS (by omega) (by omega)];omega
  have hg:(ns.map I)[i]?=some (I ns[i]):=by simp[aA hlt]
  have hgv:(vs.map I)[i]?=some (I vs[i]):=by simp[aA hlv]
  obtain⟨hno,hw⟩:=hx _ (bY hlt);have hn:=gB hno;have h0:=hno.1;rw[aL hlt,aL hlv,di];have hIW:=rI vs[i] (wAt m.nodes ns[i]) (by omega) gh;rw[rR hw] at hIW;generalize ns[i]=a at *;generalize vs[i]=v at *;unfold wAt at *;generalize hd:m.nodes.getD a.toNat default=d at *;rw[eg d] at hn;by_cases hc:0<=v/\v<((2^d.w.toNat:Nat):Int)
  ·rw[aG hc] at hIW
   rw[if_pos hc];refine bq (s1:=lm m ns vs (i+1) gh) (q5g ?_) (si hx hl hv k (i+1) (by omega));unfold lm;simp[hltI,hg,hgv,h0,hn,hIW,e2,-List.getElem?_map]
  ·rw[aF hc] at hIW
   rw[if_neg hc,if_neg (by decide)];refine eF (q5g ?_);simp[hltI,hg,hgv,h0,hn,hIW,-List.getElem?_map]
theorem nu {ns vs:List Int} (hx:hE m.nodes ns) (hl:ns.length<=1000):af pg 135 [dI m,LI ns,LI vs] gh=some (I (bn m.nodes ns vs),gh):=by
 rw[ch];unfold bn;by_cases hv:vs.length=ns.length
 ·rw[if_neg (by omega)]
  have h:=si (gh:=gh) hx hl hv ns.length 0 (by omega);rw[bM,bM] at h;unfold lm at h;simp only[aW] at h;have hk:=qbs (pg:=pg) (gh:=gh) rfl;by_cases hz:di m.nodes ns vs=0
  ·rw[if_pos hz] at h
   rw[hz];refine aw (fn:=qp) (s:=⟨[(6,I 0)],[],gh⟩) rfl rfl (q5h ?h1) ?r1
   case h1=>simp[hv,h,hk]
   case r1=>simp[au,results,qp,av,ay,al]
  ·rw[if_neg hz] at h
   generalize di m.nodes ns vs=r at *;refine aw (fn:=qp) (s:=⟨[(6,I r)],[],gh⟩) rfl rfl (q5h ?h2) ?r2
   case h2=>simp[hv,h]
   case r2=>simp[au,results,qp,av,ay,al]
 ·rw[if_pos hv]
  have hd:decide ((vs.length:Int)=(ns.length:Int))=false:=aF (by omega);refine aw (fn:=qp) (s:=⟨[(6,I 2)],[],gh⟩) rfl rfl (q5h ?h3) ?r3
  case h3=>simp[hd]
  case r3=>simp[au,results,qp,av,ay,al]
theorem Ab {m:Md} (h:az m=0):eJ m.nodes 0 m.nodes=0:=by
 unfold az at h;split at h
 ·contradiction
 split at h
 ·contradiction
 rename_i h2;exact aU h2
theorem sj {m:Md} (h:az m=0) {i:Nat} {x:Nd} (hx:m.nodes[i]?=some x):dH m.nodes i x=0:=by
 have:=ll (Ab h) i x hx
 rwa [cO] at this
theorem Ac {m:Md} (h:az m=0) {i:Nat} {x:Nd} (hx:m.nodes[i]?=some x):1<=x.w/\x.w<=8:=by
 have h0:=sj h hx;unfold dH at h0;split at h0
 ·omega
 split at h0
 ·omega
 rename_i hw;exact aU hw
theorem Ad {m:Md} (h:az m=0) {ns:List Int} (hn:∀a∈ns,cz m.nodes a):hE m.nodes ns:=by intro a ha;have hno:=hn a ha;refine⟨hno,?_⟩;unfold wAt;rw[aM,aA hno.2];exact Ac h (aA hno.2)
theorem iD {m:Md} (h:az m=0) (kind:Int):hE m.nodes (am m.nodes kind):=Ad h λ_ ha=>rU ha
theorem sk {vs:List Int} (h:vs.length*8<=maxBytes):af pg 142 [LI vs] gh=some (LI (List.replicate vs.length 0),gh):=by
 have e:∀n:Nat,List.map I (List.replicate n 0)=List.replicate n (I 0):=λn=>List.map_replicate
 simp only[LI,e];have hn:cU (List.replicate vs.length (PV.int IntKind.i64 0))=true:=by
  have:=noGs_ints (List.replicate vs.length 0)
  rwa [e] at this
 have hI:decide ((vs.length:Int)*8<=(maxBytes:Int))=true:=aG (by omega);refine aw (fn:=q35) (s:=?s1) rfl rfl (qbu ?h1) ?r1
 case h1=>simp[iw,hI,dU];rfl
 case r1=>simp[au,results,q35,av,ay,al,hn]
end
def ln (L:List Nd) (acc:List Int) (x:Nd):Int:=
 iB x.k x.w (acc.getD x.a.toNat 0) (acc.getD x.b.toNat 0) (acc.getD x.c.toNat 0) x.n (wdJ L x.k 0 x.a) (wdJ L x.k 1 x.b)
def eQ (L:List Nd):List Int->List Int->List Int->List Nd->List Int
 |acc,_,_,[]=>acc
 |acc,ss,ks,x::l=>
  if x.k=1 then eQ L (acc++[x.n]) ss ks l else if x.k=3 then eQ L (acc++[ss.headD 0]) ss.tail ks l
  else if x.k=2 then eQ L (acc++[ks.headD 0]) ss ks.tail l else eQ L (acc++[ln L acc x]) ss ks l
def InW (L:List Nd) (acc:List Int):Prop:=∀j:Nat,j<acc.length->0<=acc.getD j 0/\acc.getD j 0<((2^(wAt L j).toNat:Nat):Int)
structure VGood (L:List Nd) (i:Nat) (acc ss ks:List Int):Prop where
 len:acc.length=i
 inw:InW L acc
 sl:ss.length=(dc 3 i (L.drop i)).length
 sw:di L (dc 3 i (L.drop i)) ss=0
 kl:ks.length=(dc 2 i (L.drop i)).length
 kw:di L (dc 2 i (L.drop i)) ks=0
theorem nv {L:List Nd} {a:Int} {ns vs:List Int} (hl:vs.length=(a::ns).length) (h:di L (a::ns) vs=0) :
  ∃v vs',vs=v::vs'/\0<=v/\v<((2^(wAt L a).toNat:Nat):Int)/\vs'.length=ns.length/\di L ns vs'=0:=by
 cases vs with
 |nil=>simp at hl
 | cons v vs'=>
  rw[di] at h;split at h
  ·rename_i hc
   exact⟨v,vs',rfl,hc.1,hc.2,by simpa using hl,h⟩
  ·cases h
theorem nw {L:List Nd} {i:Nat} {x:Nd} (hx:L[i]?=some x):wAt L (i:Int)=x.w:=by unfold wAt;rw[aM,Int.toNat_natCast,hx];rfl
theorem InW.push {L:List Nd} {acc:List Int} {i:Nat} {x:Nd} {v:Int} (h:InW L acc) (hi:acc.length=i) (hx:L[i]?=some x) (h0:0<=v) (h1:v<((2^x.w.toNat:Nat):Int)):InW L (acc++[v]):=by
 intro j hj;rw[aV,List.length_singleton] at hj;by_cases he:j<acc.length
 ·have e:(acc++[v]).getD j 0=acc.getD j 0:=by simp[aM,aJ he]
  rw[e];exact h j he
 ·have ej:j=i:=by omega
  subst ej;have e:(acc++[v]).getD j 0=v:=by simp[aM,<-hi]
  rw[e,nw hx];exact⟨h0,h1⟩
section
variable {L:List Nd} {i:Nat} {acc ss ks:List Int} {x:Nd}
theorem VGood.other (h:VGood L i acc ss ks) (hx:L[i]?=some x) (h3:x.k≠3) (h2:x.k≠2) {v:Int} (v0:0<=v) (v1:v<((2^x.w.toNat:Nat):Int)):VGood L (i+1) (acc++[v]) ss ks:=by obtain⟨hlt,rfl⟩:=aD.1 hx;obtain⟨e1,e2,e3,e4,e5,e6⟩:=h;rw[aL hlt,dc,if_neg h3] at e3 e4;rw[aL hlt,dc,if_neg h2] at e5 e6;exact⟨by simp[e1],e2.push e1 hx v0 v1,e3,e4,e5,e6⟩
theorem VGood.state (h:VGood L i acc ss ks) (hx:L[i]?=some x) (h3:x.k=3):∃v ss',ss=v::ss'/\VGood L (i+1) (acc++[v]) ss' ks:=by obtain⟨hlt,rfl⟩:=aD.1 hx;obtain⟨e1,e2,e3,e4,e5,e6⟩:=h;rw[aL hlt,dc,if_pos h3] at e3 e4;rw[aL hlt,dc,if_neg (by omega)] at e5 e6;obtain⟨v,ss',rfl,v0,v1,hl,hw⟩:=nv e3 e4;rw[nw hx] at v1;exact⟨v,ss',rfl,by simp[e1],e2.push e1 hx v0 v1,hl,hw,e5,e6⟩
theorem VGood.input (h:VGood L i acc ss ks) (hx:L[i]?=some x) (h2:x.k=2):∃v ks',ks=v::ks'/\VGood L (i+1) (acc++[v]) ss ks':=by obtain⟨hlt,rfl⟩:=aD.1 hx;obtain⟨e1,e2,e3,e4,e5,e6⟩:=h;rw[aL hlt,dc,if_neg (by omega)] at e3 e4;rw[aL hlt,dc,if_pos h2] at e5 e6;obtain⟨v,ks',rfl,v0,v1,hl,hw⟩:=nv e5 e6;rw[nw hx] at v1;exact⟨v,ks',rfl,by simp[e1],e2.push e1 hx v0 v1,e3,e4,hl,hw⟩
structure ny (L:List Nd) (i:Nat) (x:Nd):Prop where
 fit:gX x.k x.w x.n (wdJ L x.k 0 x.a) (wdJ L x.k 1 x.b) (wdJ L x.k 2 x.c)=0
 a:0<=x.a/\x.a<i
 b:0<=x.b/\x.b<i
 c:0<=x.c/\x.c<i
 inn:ld L x
theorem sm (hx:L[i]?=some x) (hn:dH L i x=0) (hk:¬x.k<=3):ny L i x:=by
 unfold dH at hn;split at hn
 ·omega
 split at hn
 ·omega
 split at hn
 ·omega
 rename_i hb;have hi:i<=L.length:=Nat.le_of_lt (aD.1 hx).1;have hin:=rQ hi hb;have hk':=(m9 hn).1;have ht:=rJ hk';unfold gC ew at hb;simp only[not_or] at hb;obtain⟨b0,b1,b2⟩:=hb;rw[if_pos ht] at b0;refine⟨hn,by omega,?_,?_,hin⟩
 ·split at b1<;>omega
 ·split at b2<;>omega
theorem sn (hn:dH L i x=0) (hk:x.k=1):0<=x.n/\x.n<((2^x.w.toNat:Nat):Int):=by
 unfold dH at hn;split at hn
 ·omega
 split at hn
 ·omega
 rw[if_pos (by omega)] at hn;split at hn
 ·omega
 rename_i h;exact aU λh2=>h ⟨hk,h2⟩
theorem Ae {k w a b c n w0 w1:Int} (hw:1<=w/\w<=8):0<=iB k w a b c n w0 w1/\iB k w a b c n w0 w1<((2^w.toNat:Nat):Int):=by obtain⟨W,rfl⟩:=Aa (show 0<=w by omega);rw[z8 k a b c n w0 w1 (by omega),Int.toNat_natCast];have:(0:Int)<((2^W:Nat):Int):=Int.natCast_pos.2 (Nat.two_pow_pos W);exact⟨Int.emod_nonneg _ (by omega),Int.emod_lt_of_pos _ this⟩
theorem VGood.op (h:VGood L i acc ss ks) (hx:L[i]?=some x) (h3:x.k≠3) (h2:x.k≠2) (ho:ny L i x):VGood L (i+1) (acc++[ln L acc x]) ss ks:=
 have hw:=Ae (k:=x.k) (a:=acc.getD x.a.toNat 0) (b:=acc.getD x.b.toNat 0) (c:=acc.getD x.c.toNat 0) (n:=x.n) (w0:=wdJ L x.k 0 x.a) (w1:=wdJ L x.k 1 x.b) (m9 ho.fit).2.1
 h.other hx h3 h2 hw.1 hw.2
theorem Af (h:VGood L i acc ss ks) {a:Int} (ha:0<=a/\a<i):0<=acc.getD a.toNat 0/\acc.getD a.toNat 0<((2^(wAt L a).toNat:Nat):Int):=by
 have:=h.inw a.toNat (by rw[h.len];omega)
 rwa [show ((a.toNat:Nat):Int)=a by omega] at this
theorem Ag (h:VGood L i acc ss ks) (ho:ny L i x) (gh:List GObj) :
  af pg 66 [I x.k,I x.w,I (acc.getD x.a.toNat 0),I (acc.getD x.b.toNat 0),I (acc.getD x.c.toNat 0),I x.n,jT L x] gh=some (I (ln L acc x),gh):=by
 obtain⟨hk,hw,g0,g1,g2,s,hs,hf⟩:=m9 ho.fit;have ht:=rJ hk;unfold wOk at g0 g1 g2;rw[if_pos ht] at g0;refine zt _ _ _ _ _ _ _ _ _ hk (Af h ho.b).1 (λh21=>?_) g0 (λh1=>?_) (by omega) gh
 ·unfold eu at hf
  by_cases h6:s=6
  ·simp[h6] at hf;omega
  ·by_cases hn:x.n=0
   ·omega
   ·simp[h6,hn] at hf
 ·have:1<dp x.k:=by rcases h1 with h|h<;>rw[h]<;>decide
  rwa [if_pos this] at g1
theorem jY {m:Md} {ss ks:List Int} (hs:bn m.nodes (am m.nodes 3) ss=0) (hk:bn m.nodes (am m.nodes 2) ks=0):VGood m.nodes 0 [] ss ks:=by
 unfold bn at hs hk;split at hs
 ·cases hs
 split at hk
 ·cases hk
 exact⟨rfl,λj hj=>by simp at hj,by rw[bM];rename_i h _;exact aU h,by rw[bM];exact hs,by rw[bM];rename_i _ h;exact aU h,by rw[bM];exact hk⟩
theorem so:∀{l:List Nd} {acc ss ks:List Int},(eQ L acc ss ks l).length=acc.length+l.length
 |[],_,_,_=>rfl
 |x::l,acc,ss,ks=>by
  rw[eQ]
  repeat' split
  all_goals rw[so];simp;omega
theorem jZ (hz:∀(j:Nat) (x:Nd),L[j]?=some x->dH L j x=0):∀k i acc ss ks,i+k=L.length->VGood L i acc ss ks->InW L (eQ L acc ss ks (L.drop i))
 |0,i,acc,ss,ks,h,hg=>by rw[aQ (by omega)];exact hg.inw
 | k +1,i,acc,ss,ks,h,hg=>by
  have hlt:i<L.length:=by omega
  have hx:L[i]?=some L[i]:=aA hlt;have hn:=hz i _ hx;rw[aL hlt,eQ];split
  ·rename_i h1
   have:=sn hn h1;exact jZ hz k (i+1) _ _ _ (by omega) (hg.other hx (by omega) (by omega) this.1 this.2)
  ·split
   ·rename_i h3
    obtain⟨v,ss',rfl,hg'⟩:=hg.state hx h3;exact jZ hz k (i+1) _ _ _ (by omega) hg'
   ·split
    ·rename_i h2
     obtain⟨v,ks',rfl,hg'⟩:=hg.input hx h2;exact jZ hz k (i+1) _ _ _ (by omega) hg'
    ·rename_i h1 h3 h2
     have hk:¬L[i].k<=3:=by
      intro hle;unfold dH at hn;split at hn
      ·omega
      ·omega
     exact jZ hz k (i+1) _ _ _ (by omega) (hg.op hx h3 h2 (sm hx hn hk))
end
def cY (N:Nat) (acc:List Int):List Int:=acc++List.replicate (N-acc.length) 0
theorem nz {N:Nat} {acc:List Int} (h:acc.length<=N):(cY N acc).length=N:=by simp[cY];omega
theorem nA {N:Nat} {acc:List Int} {a:Nat} (h:a<acc.length):(cY N acc)[a]?=some (acc.getD a 0):=by unfold cY;rw[aJ h,aM,aA h];rfl
theorem Ah {N:Nat} {acc:List Int} {v:Int} (h:acc.length<N):(cY N acc).set acc.length v=cY N (acc++[v]):=by
 unfold cY;rw[List.set_append_right _ _ (cN _),Nat.sub_self,aV,List.length_singleton];obtain⟨k,hk⟩:∃k,N-acc.length=k+1:=⟨N-acc.length-1,by omega⟩
 rw[hk,show N-(acc.length+1)=k by omega,List.replicate_succ,List.set_cons_zero];simp
theorem Ai {N:Nat} {acc:List Int} (h:acc.length=N):cY N acc=acc:=by simp[cY,h]
theorem Aj {l:List PV} {i:Nat} {v:PV} (h:i<l.length):ar l i [v]=l.set i v:=by unfold ar;rw[List.set_eq_take_append_cons_drop,if_pos h];simp
def dz (gh:List GObj) (o:List Int):List GObj:=gh++[.cells (o.map I),.cells [.bs true gh.length 0 o.length 1]]
section
variable {m:Md} {gh:List GObj}
theorem sq (o:List Int):(dz gh o)[gh.length]?=some (.cells (o.map I)):=by simp[dz]
theorem sr (o:List Int):(dz gh o)[gh.length+1]?=some (.cells [.bs true gh.length 0 o.length 1]):=by simp[dz]
theorem Ak {o o2:List Int} (h:o2.length=o.length):(dz gh o).set gh.length (.cells (o2.map I))=dz gh o2:=by simp[dz,h]
theorem nB {G:List GObj} {b:Nat} {o:List Int} {a:Int} {v:Int} (h1:G[b+1]?=some (.cells [.bs true b 0 o.length 1])) (h0:G[b]?=some (.cells (o.map I))) (ha:0<=a/\a.toNat<o.length) (hv:o[a.toNat]?=some v) :
  af pg 143 [I a,.ptr true (b+1) 0] G=some (I v,G):=by
 have hg:(o.map I)[a.toNat]?=some (I v):=by simp[hv]
 have hl:(o.map I).length=o.length:=by simp
 have hlt:a<(o.length:Int):=by omega
 obtain⟨e0,e1⟩:=ha;generalize o.map I=O at *;generalize o.length=n at *;refine aw (fn:=q36) (s:=⟨[(3,I v)],[],G⟩) rfl rfl (qbz ?h1) ?r1
 case h1=>simp[h1,h0,hg,e0,e1,hlt]
 case r1=>simp[au,results,q36,av,ay,al]
def nC (m:Md) (ss ks o:List Int) (i:Nat) (gh:List GObj):St:=
 ⟨[(1,LI ss),(2,LI ks),(3,.ptr false 0 0),(7,.ptr true (gh.length+1) 0),(8,.fn 143 [.ptr true (gh.length+1) 0]),(17,LN m.nodes),(18,I m.nodes.length),(19,I (i:Int))],[[LN m.nodes,LP m.inits,LP m.nexts,LI m.bads,LI m.holds]],dz gh o⟩
theorem lp {ss ks:List PV} {i:Nat} (hi:i<=1000) {G:List GObj} {b:Nat}:ac pg qq ⟨[(1,.sl false 1 ss),(2,.sl false 1 ks),(3,.ptr false 0 0),(7,.ptr true (b+1) 0),(8,.fn 143 [.ptr true (b+1) 0]),(17,LN m.nodes),(18,I m.nodes.length),(19,I (i:Int))],[[LN m.nodes,LP m.inits,LP m.nexts,LI m.bads,LI m.holds]],G⟩=
  some (.normal,⟨[(1,.sl false 1 ss),(2,.sl false 1 ks),(3,.ptr false 0 0),(7,.ptr true (b+1) 0),(8,.fn 143 [.ptr true (b+1) 0]),(17,LN m.nodes),(18,I m.nodes.length),(19,I ((i+1:Nat):Int))],[[LN m.nodes,LP m.inits,LP m.nexts,LI m.bads,LI m.holds]],G⟩):=by
 have e2:WI.wrap ((i:Int)+1)=((i+1:Nat):Int):=by rw[cS (by omega) (by omega)];omega
 refine qbv ?_;simp[e2]
theorem lq {R:Type} {l:List Nd} {i:Nat} {e:PV} (hx:(l.map bu)[i]?=some e) (f:PV->Option R):idX 6 none (degr (LN l)) (i:Int) f=f (.ep e 0):=by simp[hx,-List.getElem?_map]
theorem lr {R:Type} {a b c d e f:PV} (L:List (List PV)) (G:List GObj) (k:PV->Option R):ldX L G true 6 (degr (.ep (.agg [a,b,c,d,e,f]) 0)) k=k (.agg [a,b,c,d,e,f]):=by simp
theorem Al {b i ol:Nat} {G G2:List GObj} {O S K:List PV} {v:Int} {x:Nd} (hltI:(i:Int)<(m.nodes.length:Int)) (hi:i<=1000) (hx:(m.nodes.map bu)[i]?=some (.agg [I x.k,I x.w,I x.a,I x.b,I x.c,I x.n])) (hG1:G[b+1]?=some (.cells [.bs true b 0 ol 1])) (hG0:G[b]?=some (.cells O)) (hoi:i<ol) (hml:O.length=ol) (hset:G.set b (.cells (ar O i [I v]))=G2) (hv:v=x.n) (d1:decide (x.k=1)=true) :
  qj pg (.sl false 1 (S)) (.sl false 1 (K)) (b+1) 0 (.fn 143 [.ptr true (b+1) 0]) (LN m.nodes) m.nodes.length i (LN m.nodes) (LP m.inits) (LP m.nexts) (LI m.bads) (LI m.holds) G=
   some (.normal,⟨[(1,.sl false 1 S),(2,.sl false 1 K),(3,.ptr false 0 0),(7,.ptr true (b+1) 0),(8,.fn 143 [.ptr true (b+1) 0]),(17,LN m.nodes),(18,I m.nodes.length),(19,I ((i+1:Nat):Int))],[[LN m.nodes,LP m.inits,LP m.nexts,LI m.bads,LI m.holds]],G2⟩):=by
 have hil:(i:Int)<(ol:Int):=by omega
 have hoi2:i+1<=ol:=by omega
 have hk1:=lp (m:=m) (ss:=S) (ks:=K) hi (G:=G2) (b:=b);subst hv;rw[qj,aG hltI,la,lq hx,lr,lc];simp[d1,hG1,hG0,hil,hoi2,hml,hset,hk1,-List.getElem?_map]
theorem Am {b i ol:Nat} {G G2:List GObj} {O S K:List PV} {v:Int} {x:Nd} (hltI:(i:Int)<(m.nodes.length:Int)) (hi:i<=1000) (hx:(m.nodes.map bu)[i]?=some (.agg [I x.k,I x.w,I x.a,I x.b,I x.c,I x.n])) (hG1:G[b+1]?=some (.cells [.bs true b 0 ol 1])) (hG0:G[b]?=some (.cells O)) (hoi:i<ol) (hml:O.length=ol) (hset:G.set b (.cells (ar O i [I v]))=G2) (d1:decide (x.k=1)=false) (d3:decide (x.k=3)=true) :
  qj pg (.sl false 1 (I v::S)) (.sl false 1 (K)) (b+1) 0 (.fn 143 [.ptr true (b+1) 0]) (LN m.nodes) m.nodes.length i (LN m.nodes) (LP m.inits) (LP m.nexts) (LI m.bads) (LI m.holds) G=
   some (.normal,⟨[(1,.sl false 1 S),(2,.sl false 1 K),(3,.ptr false 0 0),(7,.ptr true (b+1) 0),(8,.fn 143 [.ptr true (b+1) 0]),(17,LN m.nodes),(18,I m.nodes.length),(19,I ((i+1:Nat):Int))],[[LN m.nodes,LP m.inits,LP m.nexts,LI m.bads,LI m.holds]],G2⟩):=by
 have hil:(i:Int)<(ol:Int):=by omega
 have hoi2:i+1<=ol:=by omega
 have hk1:=lp (m:=m) (ss:=S) (ks:=K) hi (G:=G2) (b:=b);rw[qj,aG hltI,la,lq hx,lr,lc];simp[d1,d3,hG1,hG0,hil,hoi2,hml,hset,hk1,-List.getElem?_map]
theorem Ao {b i ol:Nat} {G G2:List GObj} {O S K:List PV} {v:Int} {x:Nd} (hltI:(i:Int)<(m.nodes.length:Int)) (hi:i<=1000) (hx:(m.nodes.map bu)[i]?=some (.agg [I x.k,I x.w,I x.a,I x.b,I x.c,I x.n])) (hG1:G[b+1]?=some (.cells [.bs true b 0 ol 1])) (hG0:G[b]?=some (.cells O)) (hoi:i<ol) (hml:O.length=ol) (hset:G.set b (.cells (ar O i [I v]))=G2) (d1:decide (x.k=1)=false) (d3:decide (x.k=3)=false) (d2:decide (x.k=2)=true) :
  qj pg (.sl false 1 (S)) (.sl false 1 (I v::K)) (b+1) 0 (.fn 143 [.ptr true (b+1) 0]) (LN m.nodes) m.nodes.length i (LN m.nodes) (LP m.inits) (LP m.nexts) (LI m.bads) (LI m.holds) G=
   some (.normal,⟨[(1,.sl false 1 S),(2,.sl false 1 K),(3,.ptr false 0 0),(7,.ptr true (b+1) 0),(8,.fn 143 [.ptr true (b+1) 0]),(17,LN m.nodes),(18,I m.nodes.length),(19,I ((i+1:Nat):Int))],[[LN m.nodes,LP m.inits,LP m.nexts,LI m.bads,LI m.holds]],G2⟩):=by
 have hil:(i:Int)<(ol:Int):=by omega
 have hoi2:i+1<=ol:=by omega
 have hk1:=lp (m:=m) (ss:=S) (ks:=K) hi (G:=G2) (b:=b);rw[qj,aG hltI,la,lq hx,lr,lc];simp[d1,d2,d3,hG1,hG0,hil,hoi2,hml,hset,hk1,-List.getElem?_map]
theorem Ap {b i ol:Nat} {G G2:List GObj} {O S K:List PV} {v:Int} {x:Nd} (hltI:(i:Int)<(m.nodes.length:Int)) (hi:i<=1000) (hx:(m.nodes.map bu)[i]?=some (.agg [I x.k,I x.w,I x.a,I x.b,I x.c,I x.n])) (hG1:G[b+1]?=some (.cells [.bs true b 0 ol 1])) (hG0:G[b]?=some (.cells O)) (hoi:i<ol) (hml:O.length=ol) (hset:G.set b (.cells (ar O i [I v]))=G2) {ya yb yc w0 w1 w2:Int} (d1:decide (x.k=1)=false) (d3:decide (x.k=3)=false) (d2:decide (x.k=2)=false)
  (ca:af pg 143 [I x.a,.ptr true (b+1) 0] G=some (I ya,G)) (cb:af pg 143 [I x.b,.ptr true (b+1) 0] G=some (I yb,G)) (cc:af pg 143 [I x.c,.ptr true (b+1) 0] G=some (I yc,G))
  (hW:af pg 104 [LN m.nodes,.agg [I x.k,I x.w,I x.a,I x.b,I x.c,I x.n]] G=some (.agg [I w0,I w1,I w2],G)) (hR:af pg 66 [I x.k,I x.w,I ya,I yb,I yc,I x.n,.agg [I w0,I w1,I w2]] G=some (I v,G)) :
  qj pg (.sl false 1 (S)) (.sl false 1 (K)) (b+1) 0 (.fn 143 [.ptr true (b+1) 0]) (LN m.nodes) m.nodes.length i (LN m.nodes) (LP m.inits) (LP m.nexts) (LI m.bads) (LI m.holds) G=
   some (.normal,⟨[(1,.sl false 1 S),(2,.sl false 1 K),(3,.ptr false 0 0),(7,.ptr true (b+1) 0),(8,.fn 143 [.ptr true (b+1) 0]),(17,LN m.nodes),(18,I m.nodes.length),(19,I ((i+1:Nat):Int))],[[LN m.nodes,LP m.inits,LP m.nexts,LI m.bads,LI m.holds]],G2⟩):=by
 have hil:(i:Int)<(ol:Int):=by omega
 have hoi2:i+1<=ol:=by omega
 have hk1:=lp (m:=m) (ss:=S) (ks:=K) hi (G:=G2) (b:=b);rw[qj,aG hltI,la,lq hx,lr,lc];simp[d1,d2,d3,hG1,hG0,ca,cb,cc,hW,hR,hil,hoi2,hml,hset,hk1,-List.getElem?_map]
theorem Aq (hl:m.nodes.length<=80) (hz:∀(j:Nat) (x:Nd),m.nodes[j]?=some x->dH m.nodes j x=0) {i:Nat} {acc ss ks:List Int} (hlt:i<m.nodes.length) (hg:VGood m.nodes i acc ss ks) :
  ∃ v ss' ks',VGood m.nodes (i+1) (acc++[v]) ss' ks'/\eQ m.nodes acc ss ks (m.nodes.drop i)=eQ m.nodes (acc++[v]) ss' ks' (m.nodes.drop (i+1))/\
   qj pg (LI ss) (LI ks) (gh.length+1) 0 (.fn 143 [.ptr true (gh.length+1) 0]) (LN m.nodes) m.nodes.length i (LN m.nodes) (LP m.inits) (LP m.nexts) (LI m.bads) (LI m.holds) (dz gh (cY m.nodes.length acc))=
    some (.normal,nC m ss' ks' (cY m.nodes.length (acc++[v])) (i+1) gh):=by
 have hltI:(i:Int)<(m.nodes.length:Int):=by omega
 have hx0:m.nodes[i]?=some m.nodes[i]:=aA hlt;have hx:(m.nodes.map bu)[i]?=some (bu m.nodes[i]):=by simp[hx0]
 have hn:=hz i _ hx0;have hlen:=hg.len;rw[aL hlt,eQ];generalize m.nodes[i]=x at *;rw[eg x] at hx;have hol:(cY m.nodes.length acc).length=m.nodes.length:=nz (by omega);have hoi:i<(cY m.nodes.length acc).length:=by omega
 have hG0:=sq (gh:=gh) (cY m.nodes.length acc);have hG1:=sr (gh:=gh) (cY m.nodes.length acc);have hset:∀v:Int,(dz gh (cY m.nodes.length acc)).set gh.length (.cells (ar ((cY m.nodes.length acc).map I) i [I v]))=dz gh (cY m.nodes.length (acc++[v])):=λv=>by
  have e:((cY m.nodes.length acc).map I).set i (I v)=((cY m.nodes.length acc).set i v).map I:=by rw[List.map_set]
  have hlv:(cY m.nodes.length (acc++[v])).length=(cY m.nodes.length acc).length:=by rw[nz (by simp;omega),hol]
  rw[Aj (by simpa using hoi),e,<-hlen,Ah (by omega),Ak hlv]
 have hml:((cY m.nodes.length acc).map I).length=(cY m.nodes.length acc).length:=by simp
 by_cases h1:x.k=1
 ·rw[if_pos h1]
  have hc:=sn hn h1;exact⟨_,_,_,hg.other hx0 (by omega) (by omega) hc.1 hc.2,rfl,Al hltI (by omega) hx hG1 hG0 hoi hml (hset x.n) rfl (aG h1)⟩
 ·rw [if_neg h1]
  by_cases h3:x.k=3
  ·rw[if_pos h3]
   obtain⟨v,ss',rfl,hg'⟩:=hg.state hx0 h3;exact⟨_,_,_,hg',rfl,Am hltI (by omega) hx hG1 hG0 hoi hml (hset v) (aF h1) (aG h3)⟩
  ·rw[if_neg h3]
   by_cases h2:x.k=2
   ·rw[if_pos h2]
    obtain⟨v,ks',rfl,hg'⟩:=hg.input hx0 h2;exact⟨_,_,_,hg',rfl,Ao hltI (by omega) hx hG1 hG0 hoi hml (hset v) (aF h1) (aF h3) (aG h2)⟩
   ·rw[if_neg h2]
    have hk:¬x.k<=3:=by
     intro hle;unfold dH at hn;split at hn
     ·omega
     ·omega
    have ho:=sm hx0 hn hk;have hW:=rP (gh:=dz gh (cY m.nodes.length acc)) ho.inn;have hR:=Ag hg ho (dz gh (cY m.nodes.length acc));have ca:=nB hG1 hG0 ⟨ho.a.1,by have:=ho.a;omega⟩ (nA (by have:=ho.a;omega));have cb:=nB hG1 hG0 ⟨ho.b.1,by have:=ho.b;omega⟩ (nA (by have:=ho.b;omega));have cc:=nB hG1 hG0 ⟨ho.c.1,by have:=ho.c;omega⟩ (nA (by have:=ho.c;omega));rw[eg] at hW;unfold jT at hW hR;exact⟨_,_,_,hg.op hx0 h3 h2 ho,rfl,Ap hltI (by omega) hx hG1 hG0 hoi hml (hset (ln m.nodes acc x)) (aF h1) (aF h3) (aF h2) ca cb cc hW hR⟩
theorem su (hl:m.nodes.length<=80) (hz:∀(j:Nat) (x:Nd),m.nodes[j]?=some x->dH m.nodes j x=0):∀k i acc ss ks,i+k=m.nodes.length->VGood m.nodes i acc ss ks->
  ac pg q2a (nC m ss ks (cY m.nodes.length acc) i gh)=some (.normal,⟨[(7,.ptr true (gh.length+1) 0)],[],dz gh (eQ m.nodes acc ss ks (m.nodes.drop i))⟩)
 |0,i,acc,ss,ks,h,hg=>by
  rw[aQ (by omega),eQ,Ai (by rw[hg.len];omega)];have hlt:¬(i:Int)<(m.nodes.length:Int):=by omega
  refine (cX (s1:=?s1) (qj_ ?h1)).trans ?r1
  case h1=>simp only[qj,aF hlt,dJ];rfl
  case r1=>simp[keep,bo]
 |k+1,i,acc,ss,ks,h,hg=>by obtain⟨v,ss',ks',h1,h2,h3⟩:=Aq (gh:=gh) hl hz (show i<m.nodes.length by omega) hg;rw[h2];exact bq (qj_ h3) (su hl hz k (i+1) _ _ _ (by omega) h1)
def bi (m:Md) (ss ks:List Int):List Int:=eQ m.nodes [] ss ks m.nodes
theorem Ar (n:Nat):List.flatMap PV.cells (List.replicate n (PV.int .i64 0))=(cY n []).map I:=by
 unfold cY;rw[bI,cA,Nat.sub_zero,List.map_replicate]
 induction n with
 |zero=>rfl
 |succ n ih=>rw[List.replicate_succ,cL,ih];rfl
theorem iE {ss ks:List Int}:(bi m ss ks).length=m.nodes.length:=by unfold bi;rw[so];simp
theorem As (xs:List Int):frz gh.length (dz gh xs) (.bs true gh.length 0 xs.length 1)=LI xs:=by
 rw[y0 (sq xs) (cN _) (by simp)];have e:∀l:List Int,(l.map I).map aa=l.map I:=λl=>by rw[List.map_map];rfl
 have e2:(((xs.map I).drop 0).take xs.length)=xs.map I:=by rw[bM];exact bN (by simp)
 rw[e2,e]
theorem nD {ss ks:List Int} (h:az m=0) (hg:VGood m.nodes 0 [] ss ks):af pg 139 [dI m,LI ss,LI ks] gh=some (LI (bi m ss ks),gh):=by
 have hl:=(ez h).len;have hlp:=su (gh:=gh) hl (λj x hx=>sj h hx) m.nodes.length 0 [] ss ks (by omega) hg;rw[bM] at hlp;change ac pg q2a _=some (_,⟨_,_,dz gh (bi m ss ks)⟩) at hlp;have hvl:=iE (m:=m) (ss:=ss) (ks:=ks);have hfz:=As (gh:=gh) (bi m ss ks);have hn:=noGs_ints (bi m ss ks);have ht:(dz gh (bi m ss ks)).take gh.length=gh:=by simp[dz]
 have g1:=sr (gh:=gh) (bi m ss ks);have k2:ac pg q2b ⟨[(7,.ptr true (gh.length+1) 0)],[],dz gh (bi m ss ks)⟩=some (.ret,⟨[(6,.bs true gh.length 0 (bi m ss ks).length 1)],[],dz gh (bi m ss ks)⟩):=by refine qbw ?_;simp[g1]
 generalize bi m ss ks=V at *;have hmx:decide ((m.nodes.length:Int)*8<=(maxBytes:Int))=true:=aG (by have:=MB;omega);have hz:=Ar m.nodes.length;have hol:(cY m.nodes.length []).length=m.nodes.length:=nz (by simp);unfold nC dz at hlp;rw[hol] at hlp;simp only[aW] at hlp;rw[ch];refine aw (fn:=q31) (s:=⟨[(6,.bs true gh.length 0 V.length 1)],[],dz gh V⟩) rfl rfl (qbx ?h1) ?r1
 case h1=>
  unfold dz at k2 ⊢;generalize (cY m.nodes.length []).map I=Z at *;simp[iw,hmx,hz,ar,hlp,k2]
 case r1=>simp[au,results,q31,av,ay,al,hfz,ht,hn]
end
def fj:List (Int×Int)->Int->Int
 |[],_=> -1
 |p::ps,s=>if p.1=s then p.2 else fj ps s
def fI (ps:List (Int×Int)) (s:Int):Bool:=ps.any λp=>decide (p.1=s)
theorem sv (p:Int×Int) (ps:List (Int×Int)) (s:Int):fI (p::ps) s=(decide (p.1=s)||fI ps s):=rfl
theorem nE:∀{ps:List (Int×Int)} {s:Int},fI ps s=true->(s,fj ps s)∈ps
 |[],_,h=>by cases h
 | p::ps,s,h=>by
  rw[fj];by_cases hp:p.1=s
  ·rw[if_pos hp,<-hp];exact bF ..
  ·rw[if_neg hp]
   rw[sv,Bool.or_eq_true] at h;rcases h with h|h
   ·exact absurd (by simpa using h) hp
   ·exact bG _ (nE h)
section
variable {m:Md} {gh:List GObj}
def byM (V:List Int) (ps:List (Int×Int)):List (Int×Int):=ps.map λp=>(p.1,V.getD p.2.toNat 0)
theorem sy:∀{l:List (Int×Int)} {k v:Int},(∀p∈l,p.1≠k)->dW l k v=l++[(k,v)]
 |[],_,_,_=>rfl
 |(a,u)::l,k,v,h=>by rw[dW,if_neg (λe=>h (a,u) (bF ..) e.symm),sy λp hp=>h p (bG _ hp)];rfl
theorem sz {V:List Int} {ps:List (Int×Int)} {i:Nat} (hn:(ps.map (·.1)).Nodup) (hi:i<ps.length):dW (byM V (ps.take i)) ps[i].1 (V.getD ps[i].2.toNat 0)=byM V (ps.take (i+1)):=by
 rw[sy]
 ·rw[List.take_succ_eq_append_getElem hi];unfold byM;rw[bK];rfl
 ·intro p hp
  obtain⟨q,hq,rfl⟩:=List.mem_map.1 hp;obtain⟨j,hj,rfl⟩:=cG.1 hq;rw[cI] at hj;rw[List.getElem_take];intro e;have e:ps[j].1=ps[i].1:=e;have:j=i:=kI (l:=ps.map (·.1)) hn (by simp[aA (show j<ps.length by omega),aA hi,e]) (by simp;omega);omega
theorem nF {V:List Int}:∀{ps:List (Int×Int)} {s:Int},bl (byM V ps) s=if fI ps s then some (V.getD (fj ps s).toNat 0) else none
 |[],_=>rfl
 |p::ps,s=>by
  have ih:=nF (V:=V) (ps:=ps) (s:=s);change (if s=p.1 then _ else bl (byM V ps) s)=_;rw[sv,fj,ih];by_cases h:p.1=s
  ·rw[if_pos h.symm,aG h,Bool.true_or,if_pos rfl,if_pos h]
  ·rw[if_neg (λe=>h e.symm),aF h,Bool.false_or,if_neg h]
def hH (V:List Int) (ps:List (Int×Int)):List Int->List Int->List Int
 |s::ss,w::ws=>(if fI ps s then V.getD (fj ps s).toNat 0 else w)::hH V ps ss ws
 |_,_=>[]
theorem lu {V:List Int} {a:Int} (h:a.toNat<V.length):(V.map I)[a.toNat]?=some (I (V.getD a.toNat 0)):=by simp[aM,aA h]
theorem sA {V wish st:List Int} {ps:List (Int×Int)} (hl:Sz ps.length) (hn:(ps.map (·.1)).Nodup) (hp:∀p∈ps,0<=p.2/\p.2.toNat<V.length):∀k i,i+k=ps.length->
  ac pg q26 ⟨[(1,LI wish),(5,LI st),(6,LI V),(7,.mp gh.length),(26,LP ps),(27,I ps.length),(28,I (i:Int))],[],gh++[.map (bf (byM V (ps.take i)))]⟩=
   some (.normal,⟨[(1,LI wish),(5,LI st),(7,.mp gh.length)],[],gh++[.map (bf (byM V ps))]⟩)
 |0,i,h=>by
  rw[bN (by omega)];have hlt:¬(i:Int)<(ps.length:Int):=by omega
  refine (cX (s1:=?s1) (q96 ?h1)).trans ?r1
  case h1=>simp only[aF hlt,dJ];rfl
  case r1=>simp[keep,bo]
 |k+1,i,h=>by
  have hlt:i<ps.length:=by omega
  have hltI:(i:Int)<(ps.length:Int):=by omega
  have e2:WI.wrap ((i:Int)+1)=((i+1:Nat):Int):=iA (by simp only[Sz] at hl ⊢;omega);have hg:(ps.map bj)[i]?=some (bj ps[i]):=by simp[aA hlt]
  have hs:=sz (V:=V) hn hlt;obtain⟨q0,q1⟩:=hp _ (bY hlt);have hv:=lu q1;refine bq (s1:=⟨[(1,LI wish),(5,LI st),(6,LI V),(7,.mp gh.length),(26,LP ps),(27,I ps.length),(28,I ((i+1:Nat):Int))],[],gh++[GObj.map (bf (byM V (ps.take (i+1))))]⟩) (q96 ?_) (sA hl hn hp k (i+1) (by omega));generalize ps[i]=p at *;rw[iC] at hg;generalize V.getD p.2.toNat 0=v at *;generalize byM V (ps.take (i+1))=M2 at *;generalize byM V (ps.take i)=M1 at *;have hmu:=λf=>mY (R:=ag×St) gh M1 p.1 v f
  rw[hs] at hmu;simp[hltI,hg,q0,hv,e2,hmu,-List.getElem?_map,-iz,-rA]
theorem sB (acc:List Int) (v:Int):(acc++[v]).map I=acc.map I++[I v]:=by simp
theorem At {wish st:List Int} {M:List (Int×Int)} {A:List PV} {i:Nat} (hi:i<=1000) :
  ac pg q1b ⟨[(1,LI wish),(7,.mp gh.length),(10,.sl true 1 A),(41,LI st),(42,I st.length),(43,I (i:Int))],[],gh++[.map (bf M)]⟩=
   some (.normal,⟨[(1,LI wish),(7,.mp gh.length),(10,.sl true 1 A),(41,LI st),(42,I st.length),(43,I ((i+1:Nat):Int))],[],gh++[.map (bf M)]⟩):=by
 have e2:WI.wrap ((i:Int)+1)=((i+1:Nat):Int):=by rw[cS (by omega) (by omega)];omega
 refine qc1 ?_;simp[e2]
theorem Au {wish st:List Int} {M:List (Int×Int)} {A:List PV} {i:Nat} {v:Int} (hA:(A.length+1)*8<=maxBytes) :
  ac pg q1a ⟨[(1,LI wish),(7,.mp gh.length),(10,.sl true 1 A),(13,I v),(41,LI st),(42,I st.length),(43,I (i:Int))],[],gh++[.map (bf M)]⟩=
   some (.normal,⟨[(1,LI wish),(7,.mp gh.length),(10,.sl true 1 (A++[I v])),(41,LI st),(42,I st.length),(43,I (i:Int))],[],gh++[.map (bf M)]⟩):=by
 refine qc0 ?_;simp[hA]
theorem sC {V wish st:List Int} {ps:List (Int×Int)} (hl:st.length<=1000) (hw:wish.length=st.length):∀k i acc,i+k=st.length->acc.length<=i->
  ac pg q27 ⟨[(1,LI wish),(7,.mp gh.length),(10,.sl true 1 (acc.map I)),(41,LI st),(42,I st.length),(43,I (i:Int))],[],gh++[.map (bf (byM V ps))]⟩=
   some (.normal,⟨[(10,.sl true 1 ((acc++hH V ps (st.drop i) (wish.drop i)).map I))],[],gh++[.map (bf (byM V ps))]⟩)
 |0,i,acc,h,_=>by
  rw[aQ (by omega),aQ (show wish.length<=i by omega),hH,bH];have hlt:¬(i:Int)<(st.length:Int):=by omega
  refine (cX (s1:=?s1) (q97 ?h1)).trans ?r1
  case h1=>simp only[aF hlt,dJ];rfl
  case r1=>simp[keep,bo]
  all_goals (intros;simp_all)
 | k+1,i,acc,h,ha=>by
  have hlt:i<st.length:=by omega
  have hlw:i<wish.length:=by omega
  have hltI:(i:Int)<(st.length:Int):=by omega
  have hg:(st.map I)[i]?=some (I st[i]):=by simp[aA hlt]
  have hgw:(wish.map I)[i]?=some (I wish[i]):=by simp[aA hlw]
  have hmx:((acc.map I).length+1)*8<=maxBytes:=by have:=MB;simp;omega
  rw[aL hlt,aL hlw,hH,List.append_cons acc];refine bq (s1:=⟨[(1,LI wish),(7,.mp gh.length),(10,.sl true 1 ((acc++[if fI ps st[i] then V.getD (fj ps st[i]).toNat 0 else wish[i]]).map I)),(41,LI st),(42,I st.length),(43,I ((i+1:Nat):Int))],[],gh++[GObj.map (bf (byM V ps))]⟩) (q97 ?_) (sC hl hw k (i+1) _ (by omega) (by simp;omega));have hf:=nF (V:=V) (ps:=ps) (s:=st[i]);rw[sB];generalize acc.map I=A at *;generalize byM V ps=M at *;generalize wish[i]=w at *;generalize st[i]=a at *;have hlk:=λf=>rF (R:=ag×St) gh M a f
  have k2:=λv=>Au (gh:=gh) (wish:=wish) (st:=st) (M:=M) (i:=i) (v:=v) hmx
  have k3:=λv=>At (gh:=gh) (wish:=wish) (st:=st) (M:=M) (A:=A++[I v]) (i:=i) (by omega)
  cases hh:fI ps a with
  |true=>
   rw[hh,if_pos rfl] at hf;rw[if_pos rfl];generalize V.getD (fj ps a).toNat 0=v at *;rw[hf] at hlk;simp[hltI,hg,hlk,k2,k3,-List.getElem?_map,-iz]
  |false=>
   rw[hh,if_neg (by decide)] at hf;rw[if_neg (by decide)];rw[hf] at hlk;simp[hltI,hg,hgw,hlk,k2,k3,-List.getElem?_map,-iz]
theorem sD {m:Md} (hm:jX m):m.inits.length<=80/\m.nexts.length<=80:=by
 have len1:∀{l:List (Int×Int)},(l.map (·.1)).Nodup->(∀p∈l,cz m.nodes p.1)->l.length<=80:=λ{l} hd hp=>by have hs:=List.Nodup.length_le_of_subset hd (l₂:=(List.range m.nodes.length).map λ(i:Nat)=>(i:Int)) (λa ha=>by obtain⟨p,hp',rfl⟩:=List.mem_map.1 ha;have:=hp p hp';have h3:=this.1;have h4:=this.2;exact List.mem_map.2 ⟨p.1.toNat,List.mem_range.2 h4,by omega⟩);have:=hm.len;simp at hs;omega
 exact⟨len1 hm.nod1 (λp hp=>(hm.pairs p (bZ.2 (.inl hp))).1),len1 hm.nod2 (λp hp=>(hm.pairs p (bZ.2 (.inr hp))).1)⟩
theorem sE {L:List Nd}:∀ns:List Int,di L ns (List.replicate ns.length 0)=0
 |[]=>rfl
 | a::ns=>by
  rw[bB,List.replicate_succ,di,if_pos]
  ·exact sE ns
  ·have:1<=2^(wAt L a).toNat:=Nat.one_le_two_pow
   omega
theorem sF {L:List Nd} (ns:List Int):bn L ns (List.replicate ns.length 0)=0:=by unfold bn;rw[if_neg (by simp)];exact sE ns
def lw (m:Md):List Int:=List.replicate (am m.nodes 3).length 0
def lx (m:Md):List Int:=List.replicate (am m.nodes 2).length 0
def fZ (m:Md):List Int:=bi m (lw m) (lx m)
def dl (m:Md) (wish:List Int):List Int:=hH (fZ m) m.inits (am m.nodes 3) wish
theorem hJ {m:Md} (hm:jX m) (k:Int):(am m.nodes k).length<=80:=bX (jV _ _ _) hm.len
theorem sG {m:Md}:VGood m.nodes 0 [] (lw m) (lx m):=jY (sF _) (sF _)
theorem Av {m:Md} (hm:jX m):∀p∈m.inits,0<=p.2/\p.2.toNat<(fZ m).length:=λp hp=>by have:=(hm.pairs p (bZ.2 (.inl hp))).2;unfold fZ;rw[iE];exact this
theorem sH {wish:List Int} (h:az m=0) (hw:wish.length=(am m.nodes 3).length):af pg 136 [dI m,LI wish] gh=some (LI (dl m wish),gh):=by
 have hm:=ez h;have hl:=hm.len;have hpl:=(sD hm).1;have o3:=fG (m:=m) (gh:=gh) (kind:=3) (by omega);have o2:=fG (m:=m) (gh:=gh) (kind:=2) (by omega);have hmx:=MB;have l3:=hJ hm 3;have l2:=hJ hm 2;have z3:=sk (gh:=gh) (vs:=am m.nodes 3) (by omega);have z2:=sk (gh:=gh) (vs:=am m.nodes 2) (by omega);have hr:=nD (gh:=gh) h sG;have h1:=sA (gh:=gh) (wish:=wish) (st:=am m.nodes 3) (by simp only[Sz];omega) hm.nod1 (Av hm) m.inits.length 0 (by omega);have h2:=sC (gh:=gh) (V:=fZ m) (ps:=m.inits) (by omega) hw (am m.nodes 3).length 0 [] (by omega) (by simp);rw[bM,bM,bI] at h2
 simp only[List.take_zero,bR,aW] at h1 h2;change ac pg q26 ⟨_,_,gh++[GObj.map []]⟩=_ at h1;change af pg 142 _ _=some (LI (lw m),gh) at z3;change af pg 142 _ _=some (LI (lx m),gh) at z2;change af pg 139 _ _=some (LI (fZ m),gh) at hr;change ac pg q27 _=some (_,⟨[(_,.sl true 1 ((dl m wish).map I))],_,_⟩) at h2;have hn:=noGs_ints (dl m wish);generalize dl m wish=F at *;generalize fZ m=V at *;generalize lw m=Z3 at *;generalize lx m=Z2 at *;generalize bf (byM V m.inits)=MM at *
 have k4:ac pg q28 ⟨[(10,.sl true 1 (F.map I))],[],gh++[GObj.map MM]⟩=some (.ret,⟨[(4,.sl false 1 (F.map I))],[],gh++[GObj.map MM]⟩):=by refine qc2 ?_;simp
 have k1:ac pg q29 ⟨[(1,LI wish),(5,LI (am m.nodes 3)),(7,.mp gh.length)],[],gh++[GObj.map MM]⟩=some (.ret,⟨[(4,.sl false 1 (F.map I))],[],gh++[GObj.map MM]⟩):=by refine qc3 ?_;simp[h2,k4]
 rw[ch] at *;refine aw (fn:=q30) (s:=⟨[(4,.sl false 1 (F.map I))],[],gh++[GObj.map MM]⟩) rfl rfl (qc4 ?h1) ?r1
 case h1=>simp[o3,o2,z3,z2,hr,h1,k1]
 case r1=>simp[au,results,q30,av,ay,al,hn]
def jn (m:Md) (wish:List Int):Int:=if az m=0 then bn m.nodes (am m.nodes 3) wish else az m
theorem Aw {L:List Nd} {ns vs:List Int} (h:bn L ns vs=0):vs.length=ns.length:=by
 unfold bn at h;split at h
 ·cases h
 ·omega
end
theorem nG {m:Md} (h:az m=0):fY m (dY [] m.nodes)=0/\gZ m=0:=by
 unfold az at h;split at h
 ·contradiction
 split at h
 ·contradiction
 split at h
 ·contradiction
 split at h
 ·contradiction
 rename_i h4;exact⟨aU h4,h⟩
theorem sI {l:List Nd} {f:List Bool} {b:Bool}:∀{ps:List (Int×Int)},du l f b ps=0->∀p∈ps,p.1∈am l 3
 |[],_,p,hp=>by cases hp
 | q ::ps,h,p,hp=>by
  rw[du] at h;split at h
  ·rename_i h0
   rcases List.mem_cons.1 hp with rfl|hp
   ·unfold fH at h0
    split at h0
    ·contradiction
    rename_i hn;have hi:cz l p.1:=aU λh=>hn (.inl h)
    have hk:(l.getD p.1.toNat default).k=3:=aU λh=>hn (.inr (.inr h))
    refine kindF_mem.2 ⟨p.1.toNat,hi.2,?_,?_⟩
    ·have:=hi.1;omega
    ·rw[aM,aA hi.2] at hk
     rw[aA hi.2];simpa using hk
   ·exact sI h p hp
  ·contradiction
theorem Ax {ps:List (Int×Int)} {s:Int} (h:s∈ps.map (·.1)):fI ps s=true:=by obtain⟨p,hp,rfl⟩:=List.mem_map.1 h;exact List.any_eq_true.2 ⟨p,hp,aG rfl⟩
theorem sJ {m:Md} (h:az m=0):∀s∈am m.nodes 3,fI m.nexts s=true:=by
 intro s hs;refine Ax (aU λhn=>?_);obtain⟨hp,hk⟩:=nG h;have hle:(am m.nodes 3).length<=m.nexts.length:=by
  unfold gZ at hk;split at hk
  ·contradiction
  ·omega
 have hz:du m.nodes (dY [] m.nodes) false m.nexts=0:=by
  unfold fY at hp;split at hp
  ·contradiction
  split at hp
  ·contradiction
  rename_i h2;exact aU h2
 have hd:(s::m.nexts.map (·.1)).Nodup:=List.nodup_cons.2 ⟨hn,(ez h).nod2⟩;have:=List.Nodup.length_le_of_subset hd (l₂:=am m.nodes 3) (λa ha=>by
  rcases List.mem_cons.1 ha with rfl|ha
  ·exact hs
  ·obtain⟨p,hp,rfl⟩:=List.mem_map.1 ha
   exact sI hz p hp)
 simp at this;omega
theorem sK {m:Md} (h:az m=0):∀a∈m.bads++m.holds,cz m.nodes a:=by
 obtain⟨-,hk⟩:=nG h;unfold gZ at hk;split at hk
 ·contradiction
 split at hk
 ·contradiction
 rename_i h2;intro a ha;exact aU λhn=>h2 (List.any_eq_true.2 ⟨a,ha,by simp[hn]⟩)
theorem Ay {m:Md} (h:az m=0):m.bads.length<=8/\m.holds.length<=8:=by
 unfold az at h;split at h
 ·contradiction
 omega
def jo (V:List Int) (ps:List (Int×Int)) (st:List Int):List Int:=st.map λs=>V.getD (fj ps s).toNat 0
def dA (m:Md) (V:List Int):List Int:=jo V m.nexts (am m.nodes 3)
theorem Az (V:List Int) (ps:List (Int×Int)) (s:Int) (st:List Int):jo V ps (s::st)=V.getD (fj ps s).toNat 0::jo V ps st:=rfl
section
variable {m:Md} {gh:List GObj}
theorem sM {V:List Int} {ps:List (Int×Int)} (hl:Sz ps.length) (hn:(ps.map (·.1)).Nodup) (hp:∀p∈ps,0<=p.2/\p.2.toNat<V.length):∀k i,i+k=ps.length->
  ac pg q2c ⟨[(1,LI V),(2,.ptr false 0 0),(5,.mp gh.length),(13,LP ps),(14,I ps.length),(15,I (i:Int))],[[LN m.nodes,LP m.inits,LP m.nexts,LI m.bads,LI m.holds]],gh++[.map (bf (byM V (ps.take i)))]⟩=
   some (.normal,⟨[(2,.ptr false 0 0),(5,.mp gh.length)],[[LN m.nodes,LP m.inits,LP m.nexts,LI m.bads,LI m.holds]],gh++[.map (bf (byM V ps))]⟩)
 |0,i,h=>by
  rw[bN (by omega)];have hlt:¬(i:Int)<(ps.length:Int):=by omega
  refine (cX (s1:=?s1) (q98 ?h1)).trans ?r1
  case h1=>simp only[aF hlt,dJ];rfl
  case r1=>simp[keep,bo]
 |k+1,i,h=>by
  have hlt:i<ps.length:=by omega
  have hltI:(i:Int)<(ps.length:Int):=by omega
  have e2:WI.wrap ((i:Int)+1)=((i+1:Nat):Int):=iA (by simp only[Sz] at hl ⊢;omega);have hg:(ps.map bj)[i]?=some (bj ps[i]):=by simp[aA hlt]
  have hs:=sz (V:=V) hn hlt;obtain⟨q0,q1⟩:=hp _ (bY hlt);have hv:=lu q1;refine bq (s1:=⟨[(1,LI V),(2,.ptr false 0 0),(5,.mp gh.length),(13,LP ps),(14,I ps.length),(15,I ((i+1:Nat):Int))],[[LN m.nodes,LP m.inits,LP m.nexts,LI m.bads,LI m.holds]],gh++[GObj.map (bf (byM V (ps.take (i+1))))]⟩) (q98 ?_) (sM hl hn hp k (i+1) (by omega));generalize ps[i]=p at *;rw[iC] at hg;generalize V.getD p.2.toNat 0=v at *;generalize byM V (ps.take (i+1))=M2 at *;generalize byM V (ps.take i)=M1 at *;have hmu:=λf=>mY (R:=ag×St) gh M1 p.1 v f
  rw[hs] at hmu;simp[hltI,hg,q0,hv,e2,hmu,-List.getElem?_map,-iz,-rA]
theorem sN {V st:List Int} {ps:List (Int×Int)} (hl:st.length<=1000) (hall:∀s∈st,fI ps s=true):∀k i acc,i+k=st.length->acc.length<=i->
  ac pg q2d ⟨[(5,.mp gh.length),(8,.sl true 1 (acc.map I)),(29,LI st),(30,I st.length),(31,I (i:Int))],[],gh++[.map (bf (byM V ps))]⟩=
   some (.normal,⟨[(8,.sl true 1 ((acc++jo V ps (st.drop i)).map I))],[],gh++[.map (bf (byM V ps))]⟩)
 |0,i,acc,h,_=>by
  rw[aQ (by omega)];have hlt:¬(i:Int)<(st.length:Int):=by omega
  refine (cX (s1:=?s1) (q99 ?h1)).trans ?r1
  case h1=>simp only[aF hlt,dJ];rfl
  case r1=>simp[keep,bo,jo]
 | k+1,i,acc,h,ha=>by
  have hlt:i<st.length:=by omega
  have hltI:(i:Int)<(st.length:Int):=by omega
  have e2:WI.wrap ((i:Int)+1)=((i+1:Nat):Int):=by rw[cS (by omega) (by omega)];omega
  have hg:(st.map I)[i]?=some (I st[i]):=by simp[aA hlt]
  have hmx:((acc.map I).length+1)*8<=maxBytes:=by have:=MB;simp;omega
  have hf:=nF (V:=V) (ps:=ps) (s:=st[i]);rw[hall _ (bY hlt),if_pos rfl] at hf;rw[aL hlt,Az,List.append_cons acc];refine bq (s1:=⟨[(5,.mp gh.length),(8,.sl true 1 ((acc++[V.getD (fj ps st[i]).toNat 0]).map I)),(29,LI st),(30,I st.length),(31,I ((i+1:Nat):Int))],[],gh++[GObj.map (bf (byM V ps))]⟩) (q99 ?_) (sN hl hall k (i+1) _ (by omega) (by simp;omega));rw[sB];generalize acc.map I=A at *;generalize byM V ps=M at *;generalize V.getD (fj ps st[i]).toNat 0=v at *;generalize st[i]=a at *;have hlk:=λf=>rF (R:=ag×St) gh M a f
  rw[hf] at hlk;simp[hltI,hg,hlk,hmx,e2,-List.getElem?_map,-iz]
theorem AA {m:Md} {V:List Int} (hm:jX m) (hV:V.length=m.nodes.length):∀p∈m.nexts,0<=p.2/\p.2.toNat<V.length:=λp hp=>by have:=(hm.pairs p (bZ.2 (.inr hp))).2;rw[hV];exact this
theorem sO {V:List Int} (h:az m=0) (hV:V.length=m.nodes.length):af pg 140 [dI m,LI V] gh=some (LI (dA m V),gh):=by
 have hm:=ez h;have hl:=hm.len;have hpl:=(sD hm).2;have o3:=fG (m:=m) (gh:=gh++[GObj.map (bf (byM V m.nexts))]) (kind:=3) (by omega);have l3:=hJ hm 3;have h1:=sM (m:=m) (gh:=gh) (V:=V) (by simp only[Sz];omega) hm.nod2 (AA hm hV) m.nexts.length 0 (by omega);have h2:=sN (gh:=gh) (V:=V) (ps:=m.nexts) (by omega) (sJ h) (am m.nodes 3).length 0 [] (by omega) (by simp);rw[bM,bI] at h2;simp only[List.take_zero,bR,aW] at h1 h2;change ac pg q2c ⟨_,_,gh++[GObj.map []]⟩=_ at h1;change ac pg q2d _=some (_,⟨[(_,.sl true 1 ((dA m V).map I))],_,_⟩) at h2;have hn:=noGs_ints (dA m V);generalize dA m V=F at *
 generalize bf (byM V m.nexts)=MM at *;have k2:ac pg q2e ⟨[(8,.sl true 1 (F.map I))],[],gh++[GObj.map MM]⟩=some (.ret,⟨[(4,.sl false 1 (F.map I))],[],gh++[GObj.map MM]⟩):=by refine qc5 ?_;simp
 rw[ch] at *;have k1:ac pg q2f ⟨[(2,.ptr false 0 0),(5,.mp gh.length)],[[LN m.nodes,LP m.inits,LP m.nexts,LI m.bads,LI m.holds]],gh++[GObj.map MM]⟩=some (.ret,⟨[(4,.sl false 1 (F.map I))],[],gh++[GObj.map MM]⟩):=by refine qc6 ?_;simp[o3,h2,k2]
 refine aw (fn:=q32) (s:=⟨[(4,.sl false 1 (F.map I))],[],gh++[GObj.map MM]⟩) rfl rfl (qc7 ?h1) ?r1
 case h1=>simp[h1,k1]
 case r1=>simp[au,results,q32,av,ay,al,hn]
def hU (V:List Int) (a:Int):Bool:=decide (V.getD a.toNat 0=1)
theorem sP {V l:List Int} {b7:Bool} (hl:l.length<=1000) (hp:∀a∈l,0<=a/\a.toNat<V.length):∀k i b6,i+k=l.length->
  ac pg q2g ⟨[(1,LI V),(2,.ptr false 0 0),(6,B b6),(7,B b7),(13,LI l),(14,I l.length),(15,I (i:Int))],[[LN m.nodes,LP m.inits,LP m.nexts,LI m.bads,LI m.holds]],gh⟩=
   some (.normal,⟨[(1,LI V),(2,.ptr false 0 0),(6,B (b6&&(l.drop i).all (hU V))),(7,B b7)],[[LN m.nodes,LP m.inits,LP m.nexts,LI m.bads,LI m.holds]],gh⟩)
 |0,i,b6,h=>by
  rw[aQ (by omega)];have hlt:¬(i:Int)<(l.length:Int):=by omega
  refine (cX (s1:=?s1) (q9a ?h1)).trans ?r1
  case h1=>simp only[aF hlt,dJ];rfl
  case r1=>simp[keep,bo]
 |k+1,i,b6,h=>by
  have hlt:i<l.length:=by omega
  have hltI:(i:Int)<(l.length:Int):=by omega
  have e2:WI.wrap ((i:Int)+1)=((i+1:Nat):Int):=by rw[cS (by omega) (by omega)];omega
  have hg:(l.map I)[i]?=some (I l[i]):=by simp[aA hlt]
  obtain⟨q0,q1⟩:=hp _ (bY hlt);have hv:=lu q1;rw[aL hlt,List.all_cons,<-Bool.and_assoc];refine bq (s1:=⟨[(1,LI V),(2,.ptr false 0 0),(6,B (b6&&hU V l[i])),(7,B b7),(13,LI l),(14,I l.length),(15,I ((i+1:Nat):Int))],[[LN m.nodes,LP m.inits,LP m.nexts,LI m.bads,LI m.holds]],gh⟩) (q9a ?_) (sP hl hp k (i+1) _ (by omega));unfold hU;generalize l[i]=a at *;generalize V.getD a.toNat 0=v at *;cases b6
  ·simp[hltI,hg,e2,-List.getElem?_map]
  ·simp[hltI,hg,q0,hv,e2,-List.getElem?_map]
theorem sS {V l:List Int} {b6:Bool} (hl:l.length<=1000) (hp:∀a∈l,0<=a/\a.toNat<V.length):∀k i b7,i+k=l.length->
  ac pg q2h ⟨[(1,LI V),(6,B b6),(7,B b7),(29,LI l),(30,I l.length),(31,I (i:Int))],[],gh⟩=
   some (.normal,⟨[(6,B b6),(7,B (b7||(l.drop i).any (hU V)))],[],gh⟩)
 |0,i,b7,h=>by
  rw[aQ (by omega)];have hlt:¬(i:Int)<(l.length:Int):=by omega
  refine (cX (s1:=?s1) (q9b ?h1)).trans ?r1
  case h1=>simp only[aF hlt,dJ];rfl
  case r1=>simp[keep,bo]
 |k+1,i,b7,h=>by
  have hlt:i<l.length:=by omega
  have hltI:(i:Int)<(l.length:Int):=by omega
  have e2:WI.wrap ((i:Int)+1)=((i+1:Nat):Int):=by rw[cS (by omega) (by omega)];omega
  have hg:(l.map I)[i]?=some (I l[i]):=by simp[aA hlt]
  obtain⟨q0,q1⟩:=hp _ (bY hlt);have hv:=lu q1;rw[aL hlt,List.any_cons,<-Bool.or_assoc];refine bq (s1:=⟨[(1,LI V),(6,B b6),(7,B (b7||hU V l[i])),(29,LI l),(30,I l.length),(31,I ((i+1:Nat):Int))],[],gh⟩) (q9b ?_) (sS hl hp k (i+1) _ (by omega));unfold hU;generalize l[i]=a at *;generalize V.getD a.toNat 0=v at *;cases b7
  ·simp[hltI,hg,q0,hv,e2,-List.getElem?_map]
  ·simp[hltI,hg,e2,-List.getElem?_map]
def dZ (m:Md) (V:List Int):Bool:=m.holds.all (hU V)
def eK (m:Md) (V:List Int):Bool:=m.bads.any (hU V)
theorem AB {m:Md} {V:List Int} (h:az m=0) (hV:V.length=m.nodes.length):(∀a∈m.bads,0<=a/\a.toNat<V.length)/\(∀a∈m.holds,0<=a/\a.toNat<V.length):=by rw[hV];exact⟨λa ha=>sK h a (bZ.2 (.inl ha)),λa ha=>sK h a (bZ.2 (.inr ha))⟩
theorem sT {V:List Int} (h:az m=0) (hV:V.length=m.nodes.length):af pg 141 [dI m,LI V] gh=some (.tup [B (dZ m V),B (eK m V)],gh):=by
 obtain⟨lb,lh⟩:=Ay h;obtain⟨ib,ih⟩:=AB h hV;have h1:=sP (m:=m) (gh:=gh) (b7:=false) (by omega) ih m.holds.length 0 true (by omega);rw[bM,Bool.true_and] at h1;change ac pg q2g _=some (_,⟨[_,_,(_,B (dZ m V)),_],_,_⟩) at h1;have h2:=sS (gh:=gh) (b6:=dZ m V) (by omega) ib m.bads.length 0 false (by omega);rw[bM,Bool.false_or] at h2;change ac pg q2h _=some (_,⟨[_,(_,B (eK m V))],_,_⟩) at h2;simp only[aW] at h1 h2;generalize dZ m V=b at *;generalize eK m V=c at *;have k2:=qc8 (pg:=pg) (gh:=gh) (b6:=b) (b7:=c) rfl
 have k1:ac pg q2i ⟨[(1,LI V),(2,.ptr false 0 0),(6,B b),(7,B false)],[[LN m.nodes,LP m.inits,LP m.nexts,LI m.bads,LI m.holds]],gh⟩=some (.ret,⟨[(4,B b),(5,B c)],[],gh⟩):=by refine qc9 ?_;simp[h2,k2]
 rw[ch];refine aw (fn:=q34) (s:=⟨[(4,B b),(5,B c)],[],gh⟩) rfl rfl (qca ?h1) ?r1
 case h1=>simp[h1,k1]
 case r1=>simp[au,results,q34,av,ay,al]
end
section
variable {m:Md}
theorem j0 {ss ks:List Int} (h:az m=0) (hg:VGood m.nodes 0 [] ss ks):InW m.nodes (bi m ss ks):=by
 have hz:∀(j:Nat) (x:Nd),m.nodes[j]?=some x->dH m.nodes j x=0:=by
  intro j x hx;have hn:eJ m.nodes 0 m.nodes=0:=by
   unfold az at h;split at h
   ·contradiction
   split at h
   ·contradiction
   rename_i h2;exact aU h2
  have:=ll hn j x hx
  rwa [cO] at this
 have:=jZ hz m.nodes.length 0 [] ss ks (by omega) hg
 rwa [bM] at this
theorem nH {l:List Nd} {f:List Bool} {b:Bool}:∀{ps:List (Int×Int)},du l f b ps=0->∀p∈ps,wAt l p.1=wAt l p.2
 |[],_,p,hp=>by cases hp
 | q::ps,h,p,hp=>by
  rw[du] at h;split at h
  ·rename_i h0
   rcases List.mem_cons.1 hp with rfl|hp
   ·unfold fH at h0
    split at h0
    ·contradiction
    split at h0
    ·contradiction
    rename_i h2;exact aU h2
   ·exact nH h p hp
  ·contradiction
theorem AC (h:az m=0):∀p∈m.inits++m.nexts,wAt m.nodes p.1=wAt m.nodes p.2:=by
 obtain⟨hp,-⟩:=nG h;unfold fY at hp;split at hp
 ·contradiction
 rename_i h1;split at hp
 ·contradiction
 rename_i h2;intro p hm;rcases bZ.1 hm with hm|hm
 ·exact nH (aU h1) p hm
 ·exact nH (aU h2) p hm
theorem sU (h:az m=0) {V:List Int} (hV:InW m.nodes V) (hl:V.length=m.nodes.length) {p:Int×Int} (hp:p∈m.inits++m.nexts):0<=V.getD p.2.toNat 0/\V.getD p.2.toNat 0<((2^(wAt m.nodes p.1).toNat:Nat):Int):=by
 have h2:=((ez h).pairs p hp).2;rw[AC h p hp];have:=hV p.2.toNat (by rw[hl];exact h2.2)
 rwa [show ((p.2.toNat:Nat):Int)=p.2 from Int.toNat_of_nonneg h2.1] at this
theorem lz (h:az m=0) {V:List Int} (hV:InW m.nodes V) (hl:V.length=m.nodes.length):bn m.nodes (am m.nodes 3) (dA m V)=0:=by
 have hall:=sJ h;unfold bn dA jo;rw[if_neg (by simp)];generalize am m.nodes 3=st at *
 induction st with
 |nil=>rfl
 |cons s st ih=>
  rw[bQ,di,if_pos]
  ·exact ih λa ha=>hall a (by simp[ha])
  ·exact sU h hV hl (bZ.2 (.inr (nE (hall s (by simp)))))
theorem nJ (h:az m=0) {wish:List Int} (hw:bn m.nodes (am m.nodes 3) wish=0):bn m.nodes (am m.nodes 3) (dl m wish)=0:=by
 have hV:InW m.nodes (fZ m):=j0 h sG;have hl:(fZ m).length=m.nodes.length:=iE;unfold bn at hw;split at hw
 ·cases hw
 rename_i hlen;have hlen:wish.length=(am m.nodes 3).length:=aU hlen;unfold dl;generalize am m.nodes 3=st at *;have key:∀(st wish:List Int),wish.length=st.length->di m.nodes st wish=0->(hH (fZ m) m.inits st wish).length=st.length/\di m.nodes st (hH (fZ m) m.inits st wish)=0:=by
  intro st
  induction st with
  |nil=>intro w _ _;cases w<;>exact⟨rfl,rfl⟩
  | cons s st ih=>
   intro w hl2 hf;obtain⟨v,vs,rfl,h0,h1,h2,h3⟩:=nv hl2 hf;obtain⟨i1,i2⟩:=ih vs h2 h3;rw[hH];refine⟨by simp[i1],?_⟩;rw[di,if_pos]
   ·exact i2
   ·by_cases hh:fI m.inits s=true
    ·rw[if_pos hh]
     exact sU h hV hl (bZ.2 (.inl (nE hh)))
    ·rw[if_neg hh];exact⟨h0,h1⟩
 obtain⟨k1,k2⟩:=key st wish hlen hw;unfold bn;rw[if_neg (by simp[k1])];exact k2
def f0 (m:Md):List (List Int)->Int
 |[]=>0
 |l::ls=>if bn m.nodes (am m.nodes 2) l=0 then f0 m ls else bn m.nodes (am m.nodes 2) l
def eM (m:Md) (st:List Int) (ins:List (List Int)):Int:=
 if az m≠0 then az m else if ins.length<1\/41<ins.length then 2 else if bn m.nodes (am m.nodes 3) st≠0 then bn m.nodes (am m.nodes 3) st else f0 m ins
structure nK (m:Md) (st:List Int) (ins:List (List Int)):Prop where
 chk:az m=0
 len:1<=ins.length/\ins.length<=41
 start:bn m.nodes (am m.nodes 3) st=0
 inputs:∀l∈ins,bn m.nodes (am m.nodes 2) l=0
theorem sV:∀{ls:List (List Int)},f0 m ls=0->∀l∈ls,bn m.nodes (am m.nodes 2) l=0
 |[],_,l,h=>by cases h
 | a::ls,h,l,hl=>by
  rw[f0] at h;split at h
  ·rename_i h0
   rcases List.mem_cons.1 hl with rfl|hl
   ·exact h0
   ·exact sV h l hl
  ·contradiction
theorem nM {st:List Int} {ins:List (List Int)} (h:eM m st ins=0):nK m st ins:=by
 unfold eM at h;split at h
 ·contradiction
 rename_i h1;split at h
 ·contradiction
 rename_i h2;split at h
 ·contradiction
 rename_i h3;exact⟨aU h1,by omega,aU h3,sV h⟩
variable {gh:List GObj}
theorem sW {ins:List (List Int)} (hm:az m=0) (hn:ins.length<=1000):∀(k i:Nat),i+k=ins.length->
  ac pg q4o ⟨[(2,.ptr false 0 0),(35,LsI ins),(36,I ins.length),(37,I i)],[[LN m.nodes,LP m.inits,LP m.nexts,LI m.bads,LI m.holds]],gh⟩=
   if f0 m (ins.drop i)=0 then some (.normal,⟨[],[],gh⟩) else some (.ret,⟨[(4,I (f0 m (ins.drop i)))],[],gh⟩)
 |0,i,hk=>by
  have hlt:¬(i:Int)<(ins.length:Int):=by omega
  rw[aQ (by omega),f0,if_pos rfl];refine (cX (s1:=?s1) (q5j ?h1)).trans ?r1
  case h1=>simp only[aF hlt,dJ];rfl
  case r1=>simp[keep,bo]
 | k+1,i,hk=>by
  have hlt:i<ins.length:=by omega
  have hltI:(i:Int)<(ins.length:Int):=by omega
  have hx:(ins.map λl=>LI l)[i]?=some (LI ins[i]):=by simp[hlt]
  have hwr:WI.wrap ((i:Int)+1)=((i+1:Nat):Int):=iA (by simp only[Sz];omega);have ih:=sW (ins:=ins) hm hn k (i+1) (by omega);have hmm:=ez hm;have hl:=hmm.len;have o2:=fG (m:=m) (gh:=gh) (kind:=2) (by omega);have l2:(am m.nodes 2).length<=1000:=bX (jV _ _ _) (by omega);have hw:=nu (m:=m) (gh:=gh) (ns:=am m.nodes 2) (vs:=ins[i]) (iD hm 2) l2;rw[aL hlt,f0];generalize f0 m (ins.drop (i+1))=rest at *;generalize bn m.nodes (am m.nodes 2) ins[i]=e at *;generalize ins[i]=l at *;generalize am m.nodes 2=K at *;obtain⟨u,hu⟩:∃u:Int,((i+1:Nat):Int)=u:=⟨_,rfl⟩
  rw[hu] at hwr ih;rw[ch] at o2 hw;simp only[LsI,LI] at *;have hlI:ins.length=(ins.map λl=>PV.sl false 1 (l.map I)).length:=(bC _).symm;rw[hlI] at ih hltI ⊢;generalize (ins.map λl=>PV.sl false 1 (l.map I))=L at *;generalize l.map I=lL at *;generalize K.map I=kL at *;generalize m.bads.map I=bL at *;generalize m.holds.map I=hL at *;generalize m.nodes.map bu=nL at *;generalize m.inits.map bj=iL at *;generalize m.nexts.map bj=xL at *;by_cases h0:e=0
  ·subst h0
   rw[if_pos rfl];refine bq (q5j ?h3) ih
   case h3=>simp[hltI,hx,o2,hw,hwr]
  ·rw[if_neg h0,if_neg h0]
   refine eF (q5j ?h2)
   case h2=>simp[hltI,hx,o2,hw,h0]
theorem AD (hm:az m=0) (k:Int):(am m.nodes k).length<=1000:=by have hl:=(ez hm).len;exact bX (jV _ _ _) (by omega)
theorem sX {st:List Int} {ins:List (List Int)} (h1:Sz m.inits.length) (h2:Sz m.nexts.length):af pg 248 [dI m,ek st ins] gh=some (I (eM m st ins),gh):=by
 have hc:=nn (gh:=gh) h1 h2;have hlI:(ins.map λl=>LI l).length=ins.length:=bC _;unfold eM;by_cases h0:az m=0
 ·rw [if_neg (by omega)]
  rw[h0] at hc;by_cases hn:ins.length<1\/41<ins.length
  ·rw[if_pos hn]
   rw[ch] at *;simp only[ek,LsI,LI] at *;by_cases hn1:ins.length<1
   ·have d1:decide ((ins.length:Int)<1)=true:=aG (by omega)
    rw[<-hlI] at d1;generalize (ins.map λl=>PV.sl false 1 (l.map I))=L at *;generalize st.map I=sL at *;refine aw (fn:=qe) (s:=?s1) rfl rfl (q18 ?h1) ?r1
    case h1=>simp[hc,d1];rfl
    case r1=>simp[au,results,qe,av,ay,al]
   ·have d1:decide ((ins.length:Int)<1)=false:=aF (by omega)
    have d2:decide (41<(ins.length:Int))=true:=aG (by omega);rw[<-hlI] at d1 d2;generalize (ins.map λl=>PV.sl false 1 (l.map I))=L at *;generalize st.map I=sL at *;refine aw (fn:=qe) (s:=?s2) rfl rfl (q18 ?h2) ?r2
    case h2=>simp[hc,d1,d2];rfl
    case r2=>simp[au,results,qe,av,ay,al]
  ·rw[if_neg hn]
   have hmm:=ez h0;have hl:=hmm.len;have o3:=fG (m:=m) (gh:=gh) (kind:=3) (by omega);have hw:=nu (m:=m) (gh:=gh) (ns:=am m.nodes 3) (vs:=st) (iD h0 3) (AD h0 3);have f1:=sW (gh:=gh) (ins:=ins) h0 (by omega) ins.length 0 (by omega);rw[bM,aW] at f1;have d1:decide ((ins.length:Int)<1)=false:=aF (by omega);have d2:decide (41<(ins.length:Int))=false:=aF (by omega);generalize bn m.nodes (am m.nodes 3) st=e at *;generalize f0 m ins=r at *;generalize am m.nodes 3=K at *;rw[<-hlI] at d1 d2 f1;rw[ch] at *;simp only[ek,LsI,LI] at *;generalize (ins.map λl=>PV.sl false 1 (l.map I))=L at *
   generalize st.map I=sL at *;generalize K.map I=kL at *;generalize m.bads.map I=bL at *;generalize m.holds.map I=hL at *;generalize m.nodes.map bu=nL at *;generalize m.inits.map bj=iL at *;generalize m.nexts.map bj=xL at *;by_cases he:e=0
   ·subst he
    rw[if_neg (by omega)];by_cases hr:r=0
    ·subst hr
     rw[if_pos rfl] at f1;have k1:ac pg q2p ⟨[],[],gh⟩=some (.ret,⟨[(4,I 0)],[],gh⟩):=qcb rfl;refine aw (fn:=qe) (s:=?s3) rfl rfl (q18 ?h3) ?r3
     case h3=>simp[hc,d1,d2,o3,hw,f1,k1];rfl
     case r3=>simp[au,results,qe,av,ay,al]
    ·rw[if_neg hr] at f1
     refine aw (fn:=qe) (s:=?s4) rfl rfl (q18 ?h4) ?r4
     case h4=>simp[hc,d1,d2,o3,hw,f1];rfl
     case r4=>simp[au,results,qe,av,ay,al]
   ·rw[if_pos he]
    refine aw (fn:=qe) (s:=?s5) rfl rfl (q18 ?h5) ?r5
    case h5=>simp[hc,d1,d2,o3,hw,he];rfl
    case r5=>simp[au,results,qe,av,ay,al]
 ·rw[if_pos h0]
  generalize az m=e at *;rw[ch] at *;simp only[ek,LsI,LI] at *;generalize (ins.map λl=>PV.sl false 1 (l.map I))=L at *;refine aw (fn:=qe) (s:=?s6) rfl rfl (q18 ?h6) ?r6
  case h6=>simp[hc,h0];rfl
  case r6=>simp[au,results,qe,av,ay,al]
end
def bz (L:List Nd):List Int->Nat
 |[]=>0
 |a::l=>(wAt L a).toNat+bz L l
theorem sY {L:List Nd}:∀{ns:List Int} {s:Int},(∀a∈ns,1<=wAt L a/\wAt L a<=8)->0<=s->s+8*ns.length<=100000->ns.foldl (λs a=>WI.wrap (s+wAt L a)) s=s+bz L ns
 |[],s,_,_,_=>by simp[bz]
 |a::ns,s,h,h0,h1=>by have ha:=h a (bF ..);simp only[bB] at h1;rw[List.foldl_cons,cS (n:=s+wAt L a) (by omega) (by omega),sY (λb hb=>h b (bG _ hb)) (by omega) (by omega),bz];omega
theorem sZ {m:Md} (h:az m=0) (kind:Int):eP m.nodes kind=bz m.nodes (am m.nodes kind):=by
 have hf:=lg m.nodes kind 0 m.nodes 0 rfl;have hl:=hJ (ez h) kind;have hw:=iD h kind
 show (List.filter _ _).foldl ng 0=_
 rw[<-hf];have:=sY (L:=m.nodes) (ns:=am m.nodes kind) (s:=0) (λa ha=>(hw a ha).2) (by omega) (by omega);unfold am at this ⊢;rw[this,Int.zero_add]
theorem jp {m:Md} (h:az m=0):bz m.nodes (am m.nodes 2)<=6/\bz m.nodes (am m.nodes 3)<=10:=by
 have h2:=sZ h 2;have h3:=sZ h 3;unfold az at h;split at h
 ·contradiction
 split at h
 ·contradiction
 split at h
 ·contradiction
 omega
def dB (L:List Nd):List Int->List Int->Nat
 |a::ns,x::xs=>x.toNat+2^(wAt L a).toNat*dB L ns xs
 |_,_=>0
def cZ (L:List Nd):List Int->Nat->List Int
 |[],_=>[]
 |a::ns,v=>((v%2^(wAt L a).toNat:Nat):Int)::cZ L ns (v/2^(wAt L a).toNat)
theorem nN {L:List Nd}:∀{ns:List Int} {v:Nat},(cZ L ns v).length=ns.length
 |[],_=>rfl
 |_::ns,v=>by simp[cZ,nN (ns:=ns)]
theorem lA {L:List Nd}:∀{ns xs:List Int},di L ns xs=0->dB L ns xs<2^bz L ns
 |[],xs,_=>by cases xs<;>simp[dB,bz]
 |a::ns,[],_=>by simp only[dB];exact Nat.two_pow_pos _
 | a::ns,x::xs,h=>by
  rw[di] at h;split at h
  ·rename_i hc
   have:=lA h;have h1:x.toNat<2^(wAt L a).toNat:=by omega
   rw[dB,bz,Nat.pow_add]
   calc x.toNat+2^(wAt L a).toNat*dB L ns xs<2^(wAt L a).toNat*(dB L ns xs+1):=by rw[Nat.mul_add];omega
    _<=_:=Nat.mul_le_mul_left _ this
  ·cases h
theorem s9 {L:List Nd}:∀{ns:List Int} {v:Nat},di L ns (cZ L ns v)=0
 |[],v=>rfl
 |a::ns,v=>by have:v%2^(wAt L a).toNat<2^(wAt L a).toNat:=Nat.mod_lt _ (Nat.two_pow_pos _);rw[cZ,di,if_pos (by omega)];exact s9
theorem nO {L:List Nd}:∀{ns xs:List Int},xs.length=ns.length->di L ns xs=0->cZ L ns (dB L ns xs)=xs
 |[],[],_,_=>rfl
 | a::ns,x::xs,hl,h=>by
  rw[di] at h;split at h
  ·rename_i hc
   have h1:x.toNat<2^(wAt L a).toNat:=by omega
   have hp:=Nat.two_pow_pos (wAt L a).toNat;rw[dB,cZ,Nat.add_mul_mod_self_left,cM h1,Nat.add_mul_div_left _ _ hp,Nat.div_eq_of_lt h1,cO,nO (by simpa using hl) h];rw[Int.toNat_of_nonneg hc.1]
  ·cases h
theorem lB {L:List Nd} {ns vs:List Int} (h:bn L ns vs=0):vs.length=ns.length/\di L ns vs=0:=by
 unfold bn at h;split at h
 ·cases h
 ·rename_i hl;exact⟨aU hl,h⟩
theorem iF {L:List Nd} (ns:List Int) (v:Nat):bn L ns (cZ L ns v)=0:=by unfold bn;rw[if_neg (by simp[nN])];exact s9
theorem ta {A b:Nat} (h:A*2^b<65536) (hb:b<=16):cW .i64 (A:Int) (b:Int)=(A*2^b:Nat):=by
 unfold cW;have e:(A:Int)*2^(min (b:Int).toNat IntKind.i64.bits)=((A*2^b:Nat):Int):=by
  have:min (b:Int).toNat IntKind.i64.bits=b:=by
   show min (b:Int).toNat 64=b
   simp;omega
  rw[this];simp
 rw[e];exact cS (by omega) (by omega)
theorem AE {k x t:Nat} (hk:k<2^t) (h:x*2^t+k<65536) (ht:t<=16):iOr .i64 (k:Int) (cW .i64 (x:Int) (t:Int))=((k+2^t*x:Nat):Int):=by rw[ta (by omega) ht,zw (by omega) (by omega)];have:=Nat.two_pow_add_eq_or_of_lt hk x;rw[Nat.or_comm,Nat.mul_comm x,<-this,Nat.add_comm]
section
variable {m:Md} {gh:List GObj}
structure XSt where
 deep:List (Int×Int)
 queue:List (List Int)
 reached:Int
 far:Int
 bad:Bool
 badAt:Int
def xC (m:Md) (b:Nat) (X:XSt):List PV:=
 [LN m.nodes,LP m.inits,LP m.nexts,LI m.bads,LI m.holds,.mp b,.sl true 1 (X.queue.map λl=>LI l),I X.reached,I X.far,B X.bad,I X.badAt]
def lC (g0:Nat) (m:Md) (s:List Int) (ns:List Int) (k t i:Nat) (gh:List GObj):St:=
 ⟨[(0,.ptr true g0 0),(1,LI s),(5,I (k:Int)),(6,I (t:Int)),(13,LI ns),(14,I ns.length),(15,I (i:Int))],[],gh⟩
theorem tc {g0 b:Nat} {X:XSt} (hb:gh[g0]?=some (.cells (xC m b X))) {ns s:List Int} (hx:hE m.nodes ns) (hl:ns.length<=1000) (hv:s.length=ns.length):∀k i (c t:Nat),i+k=ns.length->di m.nodes (ns.drop i) (s.drop i)=0->c<2^t->t+bz m.nodes (ns.drop i)<=10->
  ac pg q3n (lC g0 m s ns c t i gh)=some (.normal,⟨[(5,I ((c+2^t*dB m.nodes (ns.drop i) (s.drop i):Nat):Int))],[],gh⟩)
 | 0,i,c,t,h,_,_,_=>by
  rw[aQ (by omega),dB,Nat.mul_zero,cB]
  ·have hlt:¬(i:Int)<(ns.length:Int):=by omega
   refine (cX (s1:=?s1) (q9c ?h1)).trans ?r1
   case h1=>simp only[aF hlt,dJ];rfl
   case r1=>simp[keep,bo]
  ·simp
 | k +1,i,c,t,h,hw,hc,ht=>by
  have hlt:i<ns.length:=by omega
  have hltI:(i:Int)<(ns.length:Int):=by omega
  have hlv:i<s.length:=by omega
  have e2:WI.wrap ((i:Int)+1)=((i+1:Nat):Int):=by rw[cS (by omega) (by omega)];omega
  have hg:(ns.map I)[i]?=some (I ns[i]):=by simp[aA hlt]
  have hgv:(s.map I)[i]?=some (I s[i]):=by simp[aA hlv]
  obtain⟨hno,hwd⟩:=hx _ (bY hlt);have hn:=gB hno;have h0:=hno.1;rw[aL hlt,aL hlv] at hw ⊢;rw[aL hlt,bz] at ht;rw[di] at hw;rw[dB];split at hw
  ·rename_i hvc
   have hnx:s[i].toNat<2^(wAt m.nodes ns[i]).toNat:=by omega
   have hnum:=lA hw;have hxe:((s[i].toNat:Nat):Int)=s[i]:=Int.toNat_of_nonneg hvc.1;have hwe:(((wAt m.nodes ns[i]).toNat:Nat):Int)=wAt m.nodes ns[i]:=Int.toNat_of_nonneg (by omega);have hp10:2^t*2^(wAt m.nodes ns[i]).toNat<=1024:=by
    rw[<-Nat.pow_add];have h5:t+(wAt m.nodes ns[i]).toNat<=10:=by omega
    exact bO (n:=2) (by decide) h5
   have hc2:c+2^t*s[i].toNat<2^(t+(wAt m.nodes ns[i]).toNat):=by
    rw[Nat.pow_add]
    calc c+2^t*s[i].toNat<2^t*(s[i].toNat+1):=by rw[Nat.mul_add];omega
     _<=_:=Nat.mul_le_mul_left _ hnx
   have hor:=AE (x:=s[i].toNat) hc (by rw[Nat.pow_add] at hc2;rw[Nat.mul_comm];omega) (by omega);have ih:=tc hb hx hl hv k (i+1) (c+2^t*s[i].toNat) (t+(wAt m.nodes ns[i]).toNat) (by omega) hw hc2 (by omega);have hfin:c+2^t*(s[i].toNat+2^(wAt m.nodes ns[i]).toNat*dB m.nodes (ns.drop (i+1)) (s.drop (i+1)))=c+2^t*s[i].toNat+2^(t+(wAt m.nodes ns[i]).toNat)*dB m.nodes (ns.drop (i+1)) (s.drop (i+1)):=by rw[Nat.pow_add,Nat.mul_add,Nat.mul_assoc];omega
   rw[hfin];generalize c+2^t*s[i].toNat+2^(t+(wAt m.nodes ns[i]).toNat)*dB m.nodes (ns.drop (i+1)) (s.drop (i+1))=R at *;rw[hxe] at hor;have hat:WI.wrap ((t:Int)+wAt m.nodes ns[i])=((t+(wAt m.nodes ns[i]).toNat:Nat):Int):=by rw[cS (by omega) (by omega)];omega
   generalize c+2^t*s[i].toNat=c2 at *;generalize t+(wAt m.nodes ns[i]).toNat=t2 at *;generalize ns[i]=a at *;generalize s[i]=v at *;refine bq (s1:=lC g0 m s ns c2 t2 (i+1) gh) (q9c ?_) ih;unfold lC;unfold wAt at *;generalize hd:m.nodes.getD a.toNat default=d at *;rw[eg d] at hn;simp only[xC] at hb;simp[hltI,hg,hgv,h0,hn,hb,e2,hor,hat,-List.getElem?_map]
  ·cases hw
theorem nP {g0 b:Nat} {X:XSt} (hb:gh[g0]?=some (.cells (xC m b X))) (hm:az m=0) {s:List Int} (hs:bn m.nodes (am m.nodes 3) s=0) :
  af pg 269 [.ptr true g0 0,LI s] gh=some (I (dB m.nodes (am m.nodes 3) s:Nat),gh):=by
 obtain⟨h1,h2⟩:=lB hs;have hl:=hJ (ez hm) 3;have h:=tc hb (iD hm 3) (by omega) h1 _ 0 0 0 (cO _) (by simpa using h2) (by decide) (by simpa using (jp hm).2);simp only[bM,cO,Nat.pow_zero,Nat.one_mul] at h;unfold lC at h;simp only[aW] at h;have ho:=fG (gh:=gh) (m:=m) (kind:=3) (by have:=(ez hm).len;omega);have hk:=qcc (pg:=pg) (gh:=gh) (x5:=(dB m.nodes (am m.nodes 3) s:Nat)) rfl;generalize dB m.nodes (am m.nodes 3) s=N at *;generalize am m.nodes 3=K at *;rw[ch] at ho;simp only[xC] at hb;simp only[LI] at *;have hlK:K.length=(K.map I).length:=(bC _).symm;rw[hlK] at h;generalize s.map I=sL at *
 generalize K.map I=kL at *;refine aw (fn:=q3p) (s:=⟨[(4,I N)],[],gh⟩) rfl rfl (qcd ?h1) ?r1
 case h1=>simp[hb,ho,h,hk]
 case r1=>simp[au,results,q3p,av,ay,al]
end
section
variable {m:Md} {gh:List GObj}
def bv (m:Md) (s:List Int):Nat:=dB m.nodes (am m.nodes 3) s
def dO (m:Md) (X:XSt) (s:List Int) (d:Int):XSt:=
 match bl X.deep (bv m s) with
 |some _=>X
 |none=>{X with deep:=dW X.deep (bv m s) d,queue:=X.queue++[s],reached:=WI.wrap (X.reached+1),far:=d }
def putX (b g0:Nat) (m:Md) (X:XSt) (gh:List GObj):List GObj:=(gh.set b (.map (bf X.deep))).set g0 (.cells (xC m b X))
structure XAt (b g0:Nat) (m:Md) (X:XSt) (gh:List GObj):Prop where
 map:gh[b]?=some (.map (bf X.deep))
 box:gh[g0]?=some (.cells (xC m b X))
 ne:b≠g0
theorem nQ {α:Type} {l:List α} {i:Nat} {x:α} (h:l[i]?=some x):l.set i x=l:=by
 apply List.ext_getElem?;intro j;rw[cF];split
 ·rename_i hij
  subst hij;split
  ·exact h.symm
  ·rename_i hlt;rw[List.getElem?_eq_none (by omega)] at h;cases h
 ·rfl
theorem XAt.self {b g0:Nat} {X:XSt} (h:XAt b g0 m X gh):putX b g0 m X gh=gh:=by unfold putX;rw[nQ h.map,nQ h.box]
theorem XAt.put {b g0:Nat} {X:XSt} (h:XAt b g0 m X gh) (Y:XSt):XAt b g0 m Y (putX b g0 m Y gh):=by
 have h1:=(aD.1 h.map).1;have h2:=(aD.1 h.box).1;refine⟨?_,?_,h.ne⟩
 ·unfold putX
  rw[List.getElem?_set_ne h.ne.symm,List.getElem?_set_self h1]
 ·unfold putX
  rw[List.getElem?_set_self (by simpa using h2)]
theorem nR {b g0:Nat} {X:XSt}:(putX b g0 m X gh).length=gh.length:=by simp[putX]
theorem dR {b g0 i:Nat} {X:XSt} (h1:i≠b) (h2:i≠g0):(putX b g0 m X gh)[i]?=gh[i]?:=by unfold putX;rw[List.getElem?_set_ne (Ne.symm h2),List.getElem?_set_ne (Ne.symm h1)]
theorem nT {b g0:Nat} {X Y:XSt} (hne:b≠g0):putX b g0 m Y (putX b g0 m X gh)=putX b g0 m Y gh:=by unfold putX;have h1:=List.set_comm (l:=gh.set b (GObj.map (bf X.deep))) (GObj.cells (xC m b X)) (GObj.map (bf Y.deep)) (Ne.symm hne);rw[h1,List.set_set,List.set_set]
theorem td {b g0:Nat} {X:XSt} (h:XAt b g0 m X gh) (hm:az m=0) {s:List Int} (hs:bn m.nodes (am m.nodes 3) s=0) {d:Int} (hq:X.queue.length<=1000000) :
  af pg 394 [.ptr true g0 0,LI s,I d] gh=some (.tup [],putX b g0 m (dO m X s d) gh):=by
 have hk:=nP h.box hm hs;have h1:=h.map;have h2:=h.box;have hne:=h.ne;have hself:=h.self;unfold dO
 show _=some (PV.tup [],putX b g0 m (match bl X.deep (bv m s) with|some _=>X|none=>_) gh)
 rw[show dB m.nodes (am m.nodes 3) s=bv m s from rfl] at hk;generalize bv m s=K at *;cases hf:bl X.deep K with
 | some v=>
  simp only;rw[hself];simp only[xC] at h2;have h3:=q9d (pg:=pg) (gh:=gh) (g0:=g0) (o0:=0) (v1:=LI s) (x2:=d) (e:= .ret) (s:=⟨[(0,.ptr true g0 0),(1,LI s),(2,I d),(6,I K),(21,B true)],[],gh⟩) (by generalize X.queue.map (λl=>LI l)=Q at *;generalize m.nodes.map bu=nL at *;simp only[LI] at *;generalize s.map I=sL at *;simp[hk,h1,h2,hf,-iz,iz]);rw[gz (fn:=q1d) rfl rfl h3];simp[au,results,q1d,av,al]
 | none=>
  simp only;unfold putX;have hlt:=(aD.1 h2).1;have hs1:∀C,((gh.set b (.map (bf (dW X.deep K d)))).set g0 (.cells C))[g0]?=some (.cells C):=λC=>List.getElem?_set_self (by simpa using hlt)
  have h2':(gh.set b (.map (bf (dW X.deep K d))))[g0]?=some (.cells (xC m b X)):=by rw[List.getElem?_set_ne hne];exact h2
  have hq2:(X.queue.length+1)*24<=maxBytes:=by have:=MB;omega
  obtain⟨X1,X2,X3,X4,X5,X6⟩:=X;simp only[xC] at *;have hsn:((X2++[s]).map λl=>LI l)=(X2.map λl=>LI l)++[LI s]:=by simp
  rw[hsn];have hql:X2.length=(X2.map λl=>LI l).length:=(bC _).symm;rw[hql] at hq2;generalize X2.map (λl=>LI l)=Q at *;simp only[LP,LN,LI] at *;generalize s.map I=sL at *;generalize m.nodes.map bu=nL at *;generalize m.inits.map bj=iL at *;generalize m.nexts.map bj=xL at *;generalize m.bads.map I=bL at *;generalize m.holds.map I=hL at *
  have h3:=q9d (pg:=pg) (gh:=gh) (g0:=g0) (o0:=0) (v1:= .sl false 1 sL) (x2:=d) (e:= .normal) (s:=⟨[],[],(gh.set b (.map (bf (dW X1 K d)))).set g0 (.cells [.sl false 6 nL,.sl false 2 iL,.sl false 2 xL,.sl false 1 bL,.sl false 1 hL,.mp b,.sl true 1 (Q++[.sl false 1 sL]),I (WI.wrap (X3+1)),I d,B X5,I X6])⟩) (by simp[hk,h1,h2,h2',hf,hs1,hq2,ar]);rw[gz (fn:=q1d) rfl rfl h3];simp[au,results,q1d,av,al]
end
section
variable {m:Md} {gh:List GObj}
abbrev mCs (m:Md):List PV:=[LN m.nodes,LP m.inits,LP m.nexts,LI m.bads,LI m.holds]
def lD (gh:List GObj) (m:Md) (ns:List Int):List GObj:=gh++[.cells (mCs m),.cells [LI ns]]
theorem tf {kind:Int} (hl:m.nodes.length<=1000):af pg 259 [dI m,I kind] gh=some (.fn 267 [.ptr true (gh.length+1) 0,.ptr true gh.length 0],lD gh m (am m.nodes kind)):=by
 have ho:=fG (gh:=gh++[.cells (mCs m)]) (m:=m) (kind:=kind) hl;unfold lD;generalize am m.nodes kind=K at *;rw[ch] at ho ⊢;unfold mCs at *;simp only[LP,LN,LI] at *;generalize K.map I=kL at *;generalize m.nodes.map bu=nL at *;generalize m.inits.map bj=iL at *;generalize m.nexts.map bj=xL at *;generalize m.bads.map I=bL at *;generalize m.holds.map I=hL at *;refine aw (fn:=q3d) (s:=⟨[(4,.fn 267 [.ptr true (gh.length+1) 0,.ptr true gh.length 0])],[],gh++[.cells [.sl false 6 nL,.sl false 2 iL,.sl false 2 xL,.sl false 1 bL,.sl false 1 hL],.cells [.sl false 1 kL]]⟩) rfl rfl (qcg ?h1) ?r1
 case h1=>simp[ho,ar]
 case r1=>
  have hok:al (.fn 267 [.ptr true (gh.length+1) 0,.ptr true gh.length 0])=true:=rfl;simp[au,results,q3d,av,ay,hok]
def vx1 (rb g1 g2:Nat) (ns:List Int) (t i:Nat) (gh:List GObj):St:=
 ⟨[(0,.yl rb),(1,.ptr true g1 0),(2,.ptr true g2 0),(4,I (t:Int)),(12,LI ns),(13,I ns.length),(14,I (i:Int))],[],gh⟩
theorem tg {rb g1 g2:Nat} (h2:gh[g2]?=some (.cells (mCs m))) {ns:List Int} (hx:hE m.nodes ns) (hl:ns.length<=1000):∀k i (t:Nat),i+k=ns.length->t+8*k<=10000->
  ac pg q3e (vx1 rb g1 g2 ns t i gh)=some (.normal,⟨[(0,.yl rb),(1,.ptr true g1 0),(2,.ptr true g2 0),(4,I ((t+bz m.nodes (ns.drop i):Nat):Int))],[],gh⟩)
 |0,i,t,h,_=>by
  rw[aQ (by omega),bz,cB];have hlt:¬(i:Int)<(ns.length:Int):=by omega
  refine (cX (s1:=?s1) (q9e ?h1)).trans ?r1
  case h1=>simp only[aF hlt,dJ];rfl
  case r1=>simp[keep,bo]
 |k+1,i,t,h,ht=>by
  have hlt:i<ns.length:=by omega
  have hltI:(i:Int)<(ns.length:Int):=by omega
  have e2:WI.wrap ((i:Int)+1)=((i+1:Nat):Int):=by rw[cS (by omega) (by omega)];omega
  have hg:(ns.map I)[i]?=some (I ns[i]):=by simp[aA hlt]
  obtain⟨hno,hwd⟩:=hx _ (bY hlt);have hn:=gB hno;have h0:=hno.1;rw[aL hlt,bz];have ih:=tg (rb:=rb) (g1:=g1) h2 hx hl k (i+1) (t+(wAt m.nodes ns[i]).toNat) (by omega) (by omega);have hat:WI.wrap ((t:Int)+wAt m.nodes ns[i])=((t+(wAt m.nodes ns[i]).toNat:Nat):Int):=by rw[cS (by omega) (by omega)];omega
  rw[<-Nat.add_assoc];generalize t+(wAt m.nodes ns[i]).toNat=t2 at *;generalize t2+bz m.nodes (ns.drop (i+1))=R at *;generalize ns[i]=a at *;refine bq (s1:=vx1 rb g1 g2 ns t2 (i+1) gh) (q9e ?_) ih;unfold vx1;unfold wAt at *;generalize hd:m.nodes.getD a.toNat default=d at *;rw[eg d] at hn;simp[hltI,hg,h0,hn,h2,e2,hat,-List.getElem?_map]
def vx3 (rb g1 g2:Nat) (N v0:Int) (ns acc:List Int) (v i:Nat) (gh:List GObj):St:=
 ⟨[(0,.yl rb),(1,.ptr true g1 0),(2,.ptr true g2 0),(7,I (v:Int)),(8,.sl true 1 (acc.map I)),(28,I N),(29,I v0),(33,LI ns),(34,I ns.length),(35,I (i:Int))],[],gh⟩
theorem th {rb g1 g2:Nat} {N v0:Int} (h2:gh[g2]?=some (.cells (mCs m))) {ns:List Int} (hx:hE m.nodes ns) (hl:ns.length<=1000):∀k i (v:Nat) (acc:List Int),i+k=ns.length->v<65536->acc.length<=i->
  ac pg q3f (vx3 rb g1 g2 N v0 ns acc v i gh)=some (.normal,⟨[(0,.yl rb),(1,.ptr true g1 0),(2,.ptr true g2 0),(8,.sl true 1 ((acc++cZ m.nodes (ns.drop i) v).map I)),(28,I N),(29,I v0)],[],gh⟩)
 |0,i,v,acc,h,_,_=>by
  rw[aQ (by omega),cZ,bH];have hlt:¬(i:Int)<(ns.length:Int):=by omega
  refine (cX (s1:=?s1) (q9f ?h1)).trans ?r1
  case h1=>simp only[aF hlt,dJ];rfl
  case r1=>simp[keep,bo]
 | k+1,i,v,acc,h,hv,ha=>by
  have hlt:i<ns.length:=by omega
  have hltI:(i:Int)<(ns.length:Int):=by omega
  have e2:WI.wrap ((i:Int)+1)=((i+1:Nat):Int):=by rw[cS (by omega) (by omega)];omega
  have hg:(ns.map I)[i]?=some (I ns[i]):=by simp[aA hlt]
  obtain⟨hno,hwd⟩:=hx _ (bY hlt);have hn:=gB hno;have h0:=hno.1;have hmx:(acc.length+1)*8<=maxBytes:=by have:=MB;omega
  rw[aL hlt,cZ];have hwn:(((wAt m.nodes ns[i]).toNat:Nat):Int)=wAt m.nodes ns[i]:=Int.toNat_of_nonneg (by omega);have hw8:(wAt m.nodes ns[i]).toNat<=8:=by omega
  have hmask:=rL hw8;have hand:=rK (v:Int) hw8;have hshr:=zz v (wAt m.nodes ns[i]).toNat (by omega);rw[<-hmask,hwn] at hand;rw[hwn] at hshr;have hand2:(v:Int)%(2:Int)^(wAt m.nodes ns[i]).toNat=((v%2^(wAt m.nodes ns[i]).toNat:Nat):Int):=by simp
  rw[hand2] at hand;have ih:=th (rb:=rb) (g1:=g1) (N:=N) (v0:=v0) h2 hx hl k (i+1) (v/2^(wAt m.nodes ns[i]).toNat) (acc++[((v%2^(wAt m.nodes ns[i]).toNat:Nat):Int)]) (by omega) (Nat.lt_of_le_of_lt (Nat.div_le_self _ _) hv) (by simp;omega);rw[aY,List.singleton_append] at ih;have hnn:0<=wAt m.nodes ns[i]:=by omega
  generalize (acc++((v%2^(wAt m.nodes ns[i]).toNat:Nat):Int)::cZ m.nodes (ns.drop (i+1)) (v/2^(wAt m.nodes ns[i]).toNat)).map I=R at *;generalize v%2^(wAt m.nodes ns[i]).toNat=d1 at *;generalize v/2^(wAt m.nodes ns[i]).toNat=d2 at *;generalize ns[i]=a at *;refine bq (s1:=vx3 rb g1 g2 N v0 ns (acc++[(d1:Int)]) d2 (i+1) gh) (q9f ?_) ih;unfold vx3;have hal:(acc.map I).length=acc.length:=by simp
  simp only[bK,bQ,bR];generalize acc.map I=A at *;unfold wAt at *;generalize hd:m.nodes.getD a.toNat default=d at *;rw[eg d] at hn;simp[hltI,hg,h0,hn,h2,e2,hand,hshr,hnn,hal,hmx,-List.getElem?_map]
def dC {X:Type} (f:X->Nat->X):Nat->X->Nat->X
 |0,x,_=>x
 |k+1,x,v=>dC f k (f x v) (v+1)
variable {X:Type} {G:X->List GObj} {f:X->Nat->X} {Q:Nat->X->Prop} {rb g1 g2 y:Nat} {caps:List PV} {ns:List Int}
structure lE (m:Md) (G:X->List GObj) (f:X->Nat->X) (Q:Nat->X->Prop) (rb g1 g2 y:Nat) (caps:List PV) (ns:List Int):Prop where
 okc:caps.all ah=true
 lrc:∀v x,Q v x->(G x)[rb]?=some (.lrec 1 y caps)
 b1:∀v x,Q v x->(G x)[g1]?=some (.cells [LI ns])
 b2:∀v x,Q v x->(G x)[g2]?=some (.cells (mCs m))
 wd:hE m.nodes ns
 len:ns.length<=1000
 bits:bz m.nodes ns<=10
 step:∀v x,v<2^bz m.nodes ns->Q v x->af pg y (caps++[LI (cZ m.nodes ns v)]++[.yl rb]) (G x)=some (B true,G (f x v))/\Q (v+1) (f x v)
theorem ti (hv:lE m G f Q rb g1 g2 y caps ns):∀k v x,v+k=2^bz m.nodes ns->Q v x->
  ac pg q3h ⟨[(0,.yl rb),(1,.ptr true g1 0),(2,.ptr true g2 0),(28,I ((2^bz m.nodes ns:Nat):Int)),(29,I (v:Int))],[],G x⟩=some (.normal,⟨[],[],G (dC f k x v)⟩)
 |0,v,x,h,_=>by
  rw[dC];have hlt:¬(v:Int)<((2^bz m.nodes ns:Nat):Int):=by omega
  generalize ((2^bz m.nodes ns:Nat):Int)=N at *;refine (cX (s1:=?s1) (q9g ?h1)).trans ?r1
  case h1=>simp only[aF hlt,dJ];rfl
  case r1=>simp[keep]
 | k+1,v,x,h,hQ=>by
  have hp:2^bz m.nodes ns<=2^10:=bO (by decide) hv.bits;have hltN:v<2^bz m.nodes ns:=by omega
  have hltI:(v:Int)<((2^bz m.nodes ns:Nat):Int):=by omega
  have e2:WI.wrap ((v:Int)+1)=((v+1:Nat):Int):=by rw[cS (by omega) (by omega)];omega
  obtain⟨hs,hQ2⟩:=hv.step v x hltN hQ;have hr:=hv.lrc v x hQ;have hb1:=hv.b1 v x hQ;have hl3:=th (rb:=rb) (g1:=g1) (N:=((2^bz m.nodes ns:Nat):Int)) (v0:=v) (hv.b2 v x hQ) hv.wd hv.len ns.length 0 v [] (by omega) (by omega) (by simp);have ih:=ti hv k (v+1) (f x v) (by omega) hQ2;rw[dC];rw[bM,bI] at hl3;unfold vx3 at hl3;simp only[bR,aW] at hl3;have hyl:=λ(F:List GObj->Option (ag×St))=>yZ (f:=F) hr hv.okc (vs:=[LI (cZ m.nodes ns v)]) (by simp[ah,PV.cells,PV.one]) hs
  generalize dC f k (f x v) (v+1)=Rx at *;generalize cZ m.nodes ns v=dg at *;generalize f x v=x2 at *;generalize ((2^bz m.nodes ns:Nat):Int)=N at *;obtain⟨u,hu⟩:∃u:Int,((v+1:Nat):Int)=u:=⟨_,rfl⟩
  rw[hu] at e2 ih;simp only[LI] at *;have hlI:ns.length=(ns.map I).length:=(bC _).symm;rw[hlI] at hl3;generalize ns.map I=nL at *;generalize dg.map I=dL at *;have hk2:=qch (pg:=pg) (gh:=G x) (v0:= .yl rb) (g1:=g1) (o1:=0) (g2:=g2) (o2:=0) (v8:= .sl true 1 dL) (x28:=N) (x29:=v) (e:= .normal) (s:=⟨[(0,.yl rb),(1,.ptr true g1 0),(2,.ptr true g2 0),(28,I N),(29,I v),(60,B false)],[],G x2⟩) (by simp[hyl])
  have hk3:=qci (pg:=pg) (gh:=G x2) (v0:= .yl rb) (g1:=g1) (o1:=0) (g2:=g2) (o2:=0) (x28:=N) (x29:=v) (b60:=false) (e:= .normal) (s:=⟨[(0,.yl rb),(1,.ptr true g1 0),(2,.ptr true g2 0),(28,I N),(29,I u)],[],G x2⟩) (by simp[e2]);refine bq (q9g ?h3) ih
  case h3=>simp[hltI,hb1,hl3,hk2,hk3]
theorem tj (hv:lE m G f Q rb g1 g2 y caps ns) {x:X} (hQ:Q 0 x):af pg 267 [.yl rb,.ptr true g1 0,.ptr true g2 0] (G x)=some (.tup [],G (dC f (2^bz m.nodes ns) x 0)):=by
 have h1:=tg (rb:=rb) (g1:=g1) (hv.b2 0 x hQ) hv.wd hv.len ns.length 0 0 (by omega) (by have:=hv.len;omega);have h2:=ti hv (2^bz m.nodes ns) 0 x (by omega) hQ;have hb1:=hv.b1 0 x hQ;have hsh:cW .i64 1 ((bz m.nodes ns:Nat):Int)=((2^bz m.nodes ns:Nat):Int):=by have hp:2^bz m.nodes ns<=2^10:=bO (by decide) hv.bits;have:=ta (A:=1) (b:=bz m.nodes ns) (by omega) (by have:=hv.bits;omega);simpa using this
 unfold vx1 at h1;rw[bM,cO] at h1;simp only[aW] at h1 h2;have hnn:(0:Int)<=((bz m.nodes ns:Nat):Int):=by omega
 generalize dC f (2^bz m.nodes ns) x 0=Rx at *;generalize ((2^bz m.nodes ns:Nat):Int)=N at *;generalize ((bz m.nodes ns:Nat):Int)=bt at *;simp only[LI] at *;have hlI:ns.length=(ns.map I).length:=(bC _).symm;rw[hlI] at h1;generalize ns.map I=nL at *;have hk1:=qcj (pg:=pg) (gh:=G x) (v0:= .yl rb) (g1:=g1) (o1:=0) (g2:=g2) (o2:=0) (x4:=bt) (e:= .normal) (s:=⟨[],[],G Rx⟩) (by simp[hsh,h2,hnn]);have h3:=qck (pg:=pg) (gh:=G x) (v0:= .yl rb) (g1:=g1) (o1:=0) (g2:=g2) (o2:=0) (e:= .normal) (s:=⟨[],[],G Rx⟩) (by simp[hb1,h1,hk1]);rw[gz (fn:=q3j) rfl rfl h3];simp[au,results,q3j,av,al]
end
section
variable {m:Md} {gh:List GObj}
def fk (m:Md) (s:List Int) (deep:Int) (X:XSt) (k:List Int):XSt:=
 if dZ m (bi m s k) then
  dO m (if eK m (bi m s k)&& !X.bad then {X with bad:=true,badAt:=deep } else X) (dA m (bi m s k)) (WI.wrap (deep+1))
 else X
structure RAt (b g0:Nat) (m:Md) (X:XSt) (s:List Int) (deep:Int) (i:Nat) (G:List GObj):Prop extends XAt b g0 m X G where
 c2:G[i]?=some (.cells [.ptr true g0 0])
 c3:G[i+1]?=some (.cells [LI s])
 c4:G[i+2]?=some (.cells [I deep])
 b2:b<i
 b3:g0<i
theorem RAt.put {b g0 i:Nat} {X:XSt} {s:List Int} {deep:Int} {G:List GObj} (h:RAt b g0 m X s deep i G) (Y:XSt):RAt b g0 m Y s deep i (putX b g0 m Y G):=by have h2:=h.b2;have h3:=h.b3;exact⟨h.toXAt.put Y,by rw[dR (by omega) (by omega)];exact h.c2,by rw[dR (by omega) (by omega)];exact h.c3,by rw[dR (by omega) (by omega)];exact h.c4,h2,h3⟩
theorem tl {b g0 i:Nat} {X:XSt} {s:List Int} {deep:Int} {G:List GObj} (h:RAt b g0 m X s deep i G) (hm:az m=0) {V:List Int} (hV:V.length=m.nodes.length) (hw:bn m.nodes (am m.nodes 3) (dA m V)=0) (hq:X.queue.length<=1000000) :
  ac pg q14 ⟨[(2,.ptr true i 0),(4,.ptr true (i+2) 0),(6,LI V)],[],G⟩=some (.normal,⟨[],[],putX b g0 m (dO m X (dA m V) (WI.wrap (deep+1))) G⟩):=by
 have e1:=sO (gh:=G) hm hV;have e2:=td h.toXAt hm hw (d:=WI.wrap (deep+1)) hq;have h1:=h.box;have h2:=h.c2;have h4:=h.c4;generalize putX b g0 m (dO m X (dA m V) (WI.wrap (deep+1))) G=R at *;generalize dA m V=nx at *;rw[ch] at e1;simp only[xC] at h1;simp only[LP,LN,LI] at *;generalize X.queue.map (λl=>PV.sl false 1 (l.map I))=Q at *;generalize nx.map I=nL' at *;generalize V.map I=vL at *;generalize m.nodes.map bu=nL at *;generalize m.inits.map bj=iL at *;generalize m.nexts.map bj=xL at *;generalize m.bads.map I=bL at *;generalize m.holds.map I=hL at *;refine qcl ?_
 simp[h1,h2,h4,e1,e2]
theorem tm {b g0 i:Nat} {X:XSt} {G:List GObj} {t:Bool} {a:Int} (h:XAt b g0 m X G):putX b g0 m {X with bad:=t,badAt:=a } G=G.set g0 (.cells (xC m b {X with bad:=t,badAt:=a })):=by unfold putX;rw[nQ h.map]
theorem AF {b g0 i:Nat} {X:XSt} {s:List Int} {deep:Int} {G:List GObj} (h:RAt b g0 m X s deep i G) (hm:az m=0) (hs:bn m.nodes (am m.nodes 3) s=0) {k:List Int} (hk:bn m.nodes (am m.nodes 2) k=0) (hq:X.queue.length<=1000000) :
  ∃e lh,ac pg q3k ⟨[(2,.ptr true i 0),(3,.ptr true (i+1) 0),(4,.ptr true (i+2) 0),(5,LI k)],[],G⟩=some (.normal,⟨e,lh,putX b g0 m (fk m s deep X k) G⟩):=by
 have hg:=jY hs hk;have hV:(bi m s k).length=m.nodes.length:=iE;have e1:=nD (gh:=G) hm hg;have e2:=sT (gh:=G) hm hV;have hnx:=lz hm (j0 hm hg) hV;have hself:=h.toXAt.self;have hlt:=(aD.1 h.box).1;have hi2:=(aD.1 h.c2).1;have hi4:=(aD.1 h.c4).1;have h3':=h.b3;unfold fk;cases hh:dZ m (bi m s k) with
 |false=>
  rw[if_neg (by simp),hself];rw[hh] at e2;have h1:=h.box;have h2:=h.c2;have h3:=h.c3;refine⟨_,_,q5l (e:= .normal) (s:=⟨[(2,.ptr true i 0),(4,.ptr true (i+2) 0),(6,LI (bi m s k)),(8,B (eK m (bi m s k))),(40,B true)],[],G⟩) ?_⟩;generalize eK m (bi m s k)=bb at *;generalize bi m s k=V at *;rw[ch] at e1 e2;simp only[xC] at h1;simp only[LP,LN,LI] at *;generalize X.queue.map (λl=>PV.sl false 1 (l.map I))=Q at *;generalize V.map I=vL at *;generalize s.map I=sL at *;generalize k.map I=kL at *;generalize m.nodes.map bu=nL at *;generalize m.inits.map bj=iL at *;generalize m.nexts.map bj=xL at *
  generalize m.bads.map I=bL at *;generalize m.holds.map I=hL at *;simp[h1,h2,h3,e1,e2]
 | true=>
  rw[if_pos rfl];rw[hh] at e2;cases hb:(eK m (bi m s k)&& !X.bad) with
  |true=>
   rw[if_pos rfl];simp only[aX,Bool.not_eq_true'] at hb;obtain⟨hb1,hb2⟩:=hb;rw[hb1] at e2;have hR:=h.put {X with bad:=true,badAt:=deep };rw[tm (i:=i) h.toXAt] at hR;have hk1:=tl hR hm hV hnx hq;have hpp:=nT (m:=m) (gh:=G) (X:={X with bad:=true,badAt:=deep }) (Y:=dO m {X with bad:=true,badAt:=deep } (dA m (bi m s k)) (WI.wrap (deep+1))) h.ne;rw[tm (i:=i) h.toXAt] at hpp;rw[hpp] at hk1;generalize putX b g0 m (dO m {X with bad:=true,badAt:=deep } (dA m (bi m s k)) (WI.wrap (deep+1))) G=R at *;have h1:=h.box;have h2:=h.c2;have h3:=h.c3;have h4:=h.c4
   have hs1:∀C,(G.set g0 (.cells C))[g0]?=some (.cells C):=λC=>List.getElem?_set_self hlt
   have hs2:∀C,(G.set g0 (.cells C))[i]?=some (.cells [.ptr true g0 0]):=λC=>by rw[List.getElem?_set_ne (by omega)];exact h2
   have hs4:∀C,(G.set g0 (.cells C))[i+2]?=some (.cells [I deep]):=λC=>by rw[List.getElem?_set_ne (by omega)];exact h4
   refine⟨_,_,q5l (e:= .normal) (s:=⟨[],[],R⟩) ?_⟩;generalize bi m s k=V at *;have hkb2:=λ(C:List PV) (y:Option (ag×St))=>rB (gh:=G) (gh':=G.set g0 (.cells C)) (b:=i) (o:=0) (x:=y) hi2 (by rw[hs2,h2])
   have hkb4:=λ(C:List PV) (y:Option (ag×St))=>rB (gh:=G) (gh':=G.set g0 (.cells C)) (b:=i+2) (o:=0) (x:=y) hi4 (by rw[hs4,h4])
   rw[ch] at e1 e2;simp only[xC] at h1 hk1;rw[hb2] at h1;simp only[LP,LN,LI] at *;generalize X.queue.map (λl=>PV.sl false 1 (l.map I))=Q at *;generalize V.map I=vL at *;generalize s.map I=sL at *;generalize k.map I=kL at *;generalize m.nodes.map bu=nL at *;generalize m.inits.map bj=iL at *;generalize m.nexts.map bj=xL at *;generalize m.bads.map I=bL at *;generalize m.holds.map I=hL at *;simp[h1,h2,h3,h4,e1,e2,hs1,hs2,hkb2,hkb4,ar,hk1]
  | false=>
   rw[if_neg (by simp)];have hk1:=tl h hm hV hnx hq;generalize putX b g0 m (dO m X (dA m (bi m s k)) (WI.wrap (deep+1))) G=R at *;have h1:=h.box;have h2:=h.c2;have h3:=h.c3;refine⟨_,_,q5l (e:= .normal) (s:=⟨[],[],R⟩) ?_⟩;generalize eK m (bi m s k)=bb at *;generalize bi m s k=V at *;rw[ch] at e1 e2;simp only[xC] at h1;simp only[LP,LN,LI] at *;generalize X.queue.map (λl=>PV.sl false 1 (l.map I))=Q at *;generalize V.map I=vL at *;generalize s.map I=sL at *;generalize k.map I=kL at *;generalize m.nodes.map bu=nL at *;generalize m.inits.map bj=iL at *
   generalize m.nexts.map bj=xL at *;generalize m.bads.map I=bL at *;generalize m.holds.map I=hL at *;cases bb with
   |false=>simp[h1,h2,h3,e1,e2,hk1]
   |true=>
    have hb2:X.bad=true:=by simpa using hb
    rw[hb2] at h1;simp[h1,h2,h3,e1,e2,hk1]
end
section
variable {m:Md} {gh:List GObj}
theorem lF {b g0 i:Nat} {X:XSt} {o:GObj} (h1:i≠b) (h2:i≠g0):(putX b g0 m X gh).set i o=putX b g0 m X (gh.set i o):=by unfold putX;have e1:=List.set_comm (l:=gh.set b (GObj.map (bf X.deep))) (GObj.cells (xC m b X)) o (Ne.symm h2);have e2:=List.set_comm (l:=gh) (GObj.map (bf X.deep)) o (Ne.symm h1);rw[e1,e2]
theorem lG {α:Type} (l:List α) (a o:α):(l++[a]).set l.length o=l++[o]:=by simp
theorem tp (X:XSt) (s:List Int) (d:Int):(dO m X s d).queue.length<=X.queue.length+1:=by
 unfold dO;split
 ·omega
 ·simp
theorem AG (s:List Int) (deep:Int) (X:XSt) (k:List Int):(fk m s deep X k).queue.length<=X.queue.length+1:=by
 unfold fk;split
 ·refine bX (tp _ _ _) ?_
  split<;>simp
 ·omega
def j3 (m:Md) (s:List Int) (deep:Int) (X:XSt) (v:Nat):XSt:=fk m s deep X (cZ m.nodes (am m.nodes 2) v)
def eR (m:Md) (s:List Int) (deep:Int) (X:XSt):XSt:=dC (j3 m s deep) (2^bz m.nodes (am m.nodes 2)) X 0
def cm (m:Md) (g0:Nat) (s:List Int) (deep:Int) (gh:List GObj):List GObj:=
 gh++[.cells [.ptr true g0 0],.cells [LI s],.cells [I deep],.cells (mCs m),.cells [LI (am m.nodes 2)]]
abbrev dS (L:Nat):List PV:=[.ptr true L 0,.ptr true (L+1) 0,.ptr true (L+2) 0]
theorem tq {g0:Nat} {s:List Int} {deep:Int}:(cm m g0 s deep gh).length=gh.length+5:=by simp[cm]
theorem AH {b g0:Nat} {X:XSt} (hb:b<gh.length) (hg0:g0<gh.length) (hne:b≠g0) (hm:az m=0) {s:List Int} (hs:bn m.nodes (am m.nodes 3) s=0) {deep:Int} (hq:X.queue.length<=1000000) {k:List Int} (hk:bn m.nodes (am m.nodes 2) k=0) :
  af pg 395 (dS gh.length++[LI k]++[.yl (gh.length+5)]) (putX b g0 m X (cm m g0 s deep gh++[.lrec 1 395 (dS gh.length)]))=some (B true,putX b g0 m (fk m s deep X k) (cm m g0 s deep gh++[.lrec 1 395 (dS gh.length)])):=by
 have hl:=tq (m:=m) (gh:=gh) (g0:=g0) (s:=s) (deep:=deep);have hset:∀(Y:XSt) (o o':GObj),(putX b g0 m Y (cm m g0 s deep gh++[o])).set (gh.length+5) o'=putX b g0 m Y (cm m g0 s deep gh++[o']):=λY o o'=>by rw[lF (by omega) (by omega),<-hl,lG]
 have hget:∀(Y:XSt) (o:GObj),(putX b g0 m Y (cm m g0 s deep gh++[o]))[gh.length+5]?=some o:=λY o=>by rw[dR (by omega) (by omega),<-hl];simp
 have hR:RAt b g0 m X s deep gh.length (putX b g0 m X (cm m g0 s deep gh++[.lrec 2 395 (dS gh.length)])):=by
  refine⟨⟨?_,?_,hne⟩,?_,?_,?_,hb,hg0⟩
  ·unfold putX
   rw[List.getElem?_set_ne hne.symm,List.getElem?_set_self (by simp[cm];omega)]
  ·unfold putX
   rw[List.getElem?_set_self (by simp[cm];omega)]
  ·rw[dR (by omega) (by omega)];simp[cm]
  ·rw[dR (by omega) (by omega)];simp[cm]
  ·rw[dR (by omega) (by omega)];simp[cm]
 obtain⟨e,lh,hbody⟩:=AF hR hm hs hk hq;rw[nT hne] at hbody;have has:=qcm (pg:=pg) (gh:=putX b g0 m X (cm m g0 s deep gh++[.lrec 1 395 (dS gh.length)])) (g2:=gh.length) (o2:=0) (g3:=gh.length+1) (o3:=0) (g4:=gh.length+2) (o4:=0) (v22:=LI k) (e:= .normal) (s:=⟨[(2,.ptr true gh.length 0),(3,.ptr true (gh.length+1) 0),(4,.ptr true (gh.length+2) 0),(5,LI k)],[],putX b g0 m X (cm m g0 s deep gh++[.lrec 1 395 (dS gh.length)])⟩) (by simp)
 have has2:ac pg qt.as ⟨(qt.ks++[qt.t]).zip (dS gh.length++[LI k]++[.yl (gh.length+5)]),[],putX b g0 m X (cm m g0 s deep gh++[.lrec 1 395 (dS gh.length)])⟩=some (.normal,⟨[(2,.ptr true gh.length 0),(3,.ptr true (gh.length+1) 0),(4,.ptr true (gh.length+2) 0),(5,LI k)],[],putX b g0 m X (cm m g0 s deep gh++[.lrec 1 395 (dS gh.length)])⟩):=by simpa [qt] using has
 have:=rD (pg:=pg) (y:=395) (b:=gh.length+5) (Y:=qt) (caps:=dS gh.length) (v:=LI k) (gh:=putX b g0 m X (cm m g0 s deep gh++[.lrec 1 395 (dS gh.length)]))
  (s1:=⟨[(2,.ptr true gh.length 0),(3,.ptr true (gh.length+1) 0),(4,.ptr true (gh.length+2) 0),(5,LI k)],[],putX b g0 m X (cm m g0 s deep gh++[.lrec 1 395 (dS gh.length)])⟩) (s2:=⟨e,lh,putX b g0 m (fk m s deep X k) (cm m g0 s deep gh++[.lrec 2 395 (dS gh.length)])⟩) rfl rfl (hget X _) has2 (hget X _) (by
  simp only[hset];exact hbody) (hget _ _)
 rw[this];simp only[hset]
theorem AI {b g0:Nat} {X:XSt} (h:XAt b g0 m X gh) (hm:az m=0) {s:List Int} (hs:bn m.nodes (am m.nodes 3) s=0) {deep:Int} (hd:bl X.deep (bv m s)=some deep) (hq:X.queue.length<=900000) :
  af pg 268 [.ptr true g0 0,LI s] gh=some (.tup [],putX b g0 m (eR m s deep X) (cm m g0 s deep gh++[.lrec 0 395 (dS gh.length)])):=by
 have hb:=(aD.1 h.map).1;have hg0:=(aD.1 h.box).1;have hne:=h.ne;have hl:=tq (m:=m) (gh:=gh) (g0:=g0) (s:=s) (deep:=deep);have hset:∀(Y:XSt) (o o':GObj),(putX b g0 m Y (cm m g0 s deep gh++[o])).set (gh.length+5) o'=putX b g0 m Y (cm m g0 s deep gh++[o']):=λY o o'=>by rw[lF (by omega) (by omega),<-hl,lG]
 have hget:∀(Y:XSt) (o:GObj),(putX b g0 m Y (cm m g0 s deep gh++[o]))[gh.length+5]?=some o:=λY o=>by rw[dR (by omega) (by omega),<-hl];simp
 have hself:∀(o:GObj),putX b g0 m X (cm m g0 s deep gh++[o])=cm m g0 s deep gh++[o]:=λo=>by
  refine XAt.self ⟨?_,?_,hne⟩
  ·rw[aJ (by omega)];unfold cm;rw[aJ hb];exact h.map
  ·rw[aJ (by omega)];unfold cm;rw[aJ hg0];exact h.box
 have hbl:=(jp hm).1;have hp:2^bz m.nodes (am m.nodes 2)<=2^6:=bO (by decide) hbl;have hv:lE m (λx=>putX b g0 m x (cm m g0 s deep gh++[.lrec 1 395 (dS gh.length)])) (j3 m s deep) (λv x=>x.queue.length<=900000+v) (gh.length+5) (gh.length+4) (gh.length+3) 395 (dS gh.length) (am m.nodes 2):=by
  refine⟨rfl,λv x _=>hget x _,λv x _=>?_,λv x _=>?_,iD hm 2,by have:=hJ (ez hm) 2;omega,by omega,λv x hlt hQ=>⟨?_,?_⟩⟩
  ·show (putX _ _ _ _ _)[_]?=_
   rw[dR (by omega) (by omega)];simp[cm]
  ·show (putX _ _ _ _ _)[_]?=_
   rw[dR (by omega) (by omega)];simp[cm]
  ·exact AH hb hg0 hne hm hs (by omega) (iF _ _)
  ·exact bX (AG _ _ _ _) (by omega)
 have hvec:=tj hv (x:=X) (by omega);simp only[hself] at hvec;have hrf:=rC (pg:=pg) (g:= .t 21) (y:=395) (F:=267) (ks:=[2,3,4]) (e:=[(2,.ptr true gh.length 0),(3,.ptr true (gh.length+1) 0),(4,.ptr true (gh.length+2) 0),(21,.fn 267 [.ptr true (gh.length+4) 0,.ptr true (gh.length+3) 0])]) (lh:=[]) (gh:=cm m g0 s deep gh) (caps:=[.ptr true (gh.length+4) 0,.ptr true (gh.length+3) 0]) (vs:=dS gh.length) rfl rfl rfl (by rw[hl];exact hvec) (by rw[hl];exact hget _ _);rw[hl,hset] at hrf
 have hkey:=nP (gh:=gh++[.cells [.ptr true g0 0],.cells [LI s]]) (g0:=g0) (b:=b) (X:=X) (by rw[aJ hg0];exact h.box) hm hs;rw[show dB m.nodes (am m.nodes 3) s=bv m s from rfl] at hkey;have hvs:=tf (gh:=gh++[.cells [.ptr true g0 0],.cells [LI s],.cells [I deep]]) (m:=m) (kind:=2) (by have:=(ez hm).len;omega);unfold lD at hvs;have e0:gh++[GObj.cells [.ptr true g0 0],.cells [LI s],.cells [I deep]]++[.cells (mCs m),.cells [LI (am m.nodes 2)]]=cm m g0 s deep gh:=by simp[cm]
 rw[e0] at hvs;rw[show dC (j3 m s deep) (2^bz m.nodes (am m.nodes 2)) X 0=eR m s deep X from rfl] at hrf;have h1:=h.box;have h2:=h.map;have hm1:(gh++[GObj.cells [.ptr true g0 0],.cells [LI s]])[b]?=some (.map (bf X.deep)):=by rw[aJ hb];exact h2
 have hx1:(gh++[GObj.cells [.ptr true g0 0],.cells [LI s]])[g0]?=some (.cells (xC m b X)):=by rw[aJ hg0];exact h1
 have hx2:(gh++[GObj.cells [.ptr true g0 0],.cells [LI s],.cells [I deep]])[g0]?=some (.cells (xC m b X)):=by rw[aJ hg0];exact h1
 generalize putX b g0 m (eR m s deep X) (cm m g0 s deep gh++[.lrec 0 395 (dS gh.length)])=R at *;generalize cm m g0 s deep gh=V at *;have hrf2:ac pg q3l ⟨[(2,.ptr true gh.length 0),(3,.ptr true (gh.length+1) 0),(4,.ptr true (gh.length+2) 0),(21,.fn 267 [.ptr true (gh.length+4) 0,.ptr true (gh.length+3) 0])],[],V⟩=some (.normal,⟨[],[],R⟩):=by
  show ac pg (.post (.rangeF (.t 21) 395 [2,3,4]) [] 0) _=_
  rw[ij,hrf];rfl
 rw[ch] at hvs;simp only[xC] at hx1 hx2;generalize bv m s=K at *;simp only[LP,LN,LI] at *;generalize X.queue.map (λl=>PV.sl false 1 (l.map I))=Q at *;generalize s.map I=sL at *;generalize m.nodes.map bu=nL at *;generalize m.inits.map bj=iL at *;generalize m.nexts.map bj=xL at *;generalize m.bads.map I=bL at *;generalize m.holds.map I=hL at *;have h3:=qcn (pg:=pg) (gh:=gh) (g0:=g0) (o0:=0) (v1:= .sl false 1 sL) (e:= .normal) (s:=⟨[],[],R⟩) (by simp[hm1,hx1,hx2,hkey,hd,hvs,hrf2]);rw[gz (fn:=q3m) rfl rfl h3];simp[au,results,q3m,av,al]
end
theorem iG:∀{l:List (Int×Int)} {k v:Int},bl l k=none->dW l k v=l++[(k,v)]
 |[],_,_,_=>rfl
 | (a,u)::l,k,v,h=>by
  simp only[bl] at h;split at h
  ·cases h
  ·rename_i hk
   simp only[dW];rw[if_neg hk,iG h];rfl
theorem nU:∀{l:List (Int×Int)} {k v q:Int},bl (l++[(k,v)]) q=match bl l q with
  |some d=>some d
  |none=>if q=k then some v else none
 |[],k,v,q=>by simp[bl]
 |(a,u)::l,k,v,q=>by
  simp only[bJ,bl];split
  ·rfl
  ·exact nU
theorem findI_none:∀{l:List (Int×Int)} {k:Int},bl l k=none↔∀p∈l,p.1≠k
 |[],k=>by simp[bl]
 | (a,u)::l,k=>by
  simp only[bl,List.mem_cons];by_cases h:k=a
  ·simp[h]
  ·rw[if_neg h,findI_none]
   constructor
   ·intro h2 p hp
    rcases hp with rfl|hp
    ·exact λe=>h e.symm
    ·exact h2 p hp
   ·exact λh2 p hp=>h2 p (.inr hp)
theorem iH:∀{l:List (Int×Int)} {k d:Int},bl l k=some d->(k,d)∈l
 |[],_,_,h=>by simp[bl] at h
 |(a,u)::l,k,d,h=>by
  simp only[bl] at h;split at h
  ·rename_i hk;cases h;subst hk;exact bF
  ·exact bG _ (iH h)
section
variable {m:Md} {gh:List GObj}
def SOk (m:Md) (s:List Int):Prop:=bn m.nodes (am m.nodes 3) s=0
def nS (m:Md):Nat:=2^bz m.nodes (am m.nodes 3)
def nI (m:Md):Nat:=2^bz m.nodes (am m.nodes 2)
theorem jq {s:List Int} (h:SOk m s):bv m s<nS m:=lA (lB h).2
structure XInv (m:Md) (X:XSt):Prop where
 q:∀s∈X.queue,SOk m s/\bl X.deep (bv m s)≠none
 keys:∀p∈X.deep,∃k:Nat,p.1=k/\k<nS m
 nd:(X.deep.map (·.1)).Nodup
theorem XInv.len {X:XSt} (h:XInv m X):X.deep.length<=nS m:=by have h1:=List.Nodup.length_le_of_subset h.nd (l₂:=(List.range (nS m)).map λ(k:Nat)=>(k:Int)) (λa ha=>by obtain⟨p,hp,rfl⟩:=List.mem_map.1 ha;obtain⟨k,hk,hlt⟩:=h.keys p hp;exact List.mem_map.2 ⟨k,by simpa using hlt,hk.symm⟩);simpa using h1
theorem XInv.come {X:XSt} (h:XInv m X) {s:List Int} (hs:SOk m s) (d:Int):XInv m (dO m X s d):=by
 unfold dO;split
 ·exact h
 ·rename_i hf
  rw[iG hf];refine⟨λt ht=>?_,λp hp=>?_,?_⟩
  ·rcases bZ.1 ht with ht|ht
   ·obtain⟨h1,h2⟩:=h.q t ht
    refine⟨h1,?_⟩;rw[nU];split
    ·simp
    ·rename_i h3;exact absurd h3 h2
   ·simp at ht
    subst ht;refine⟨hs,?_⟩;rw[nU,hf];simp
  ·rcases bZ.1 hp with hp|hp
   ·exact h.keys p hp
   ·simp at hp
    subst hp;exact⟨_,rfl,jq hs⟩
  ·rw[bK,cK]
   refine⟨h.nd,by simp,λa ha b hb=>?_⟩;simp at hb;subst hb;obtain⟨p,hp,rfl⟩:=List.mem_map.1 ha;exact findI_none.1 hf p hp
theorem XInv.bad {X:XSt} (h:XInv m X) (t:Bool) (a:Int):XInv m {X with bad:=t,badAt:=a }:=⟨h.q,h.keys,h.nd⟩
theorem XInv.pop {X:XSt} {s:List Int} {q:List (List Int)} (h:XInv m X) (hq:X.queue=s::q):XInv m {X with queue:=q }:=⟨λt ht=>h.q t (by rw[hq];exact bG _ ht),h.keys,h.nd⟩
theorem lH (hm:az m=0) {s k:List Int} (hs:SOk m s) (hk:bn m.nodes (am m.nodes 2) k=0):SOk m (dA m (bi m s k)):=
 lz hm (j0 hm (jY hs hk)) iE
theorem XInv.vis (hm:az m=0) {X:XSt} (h:XInv m X) {s:List Int} (hs:SOk m s) {k:List Int} (hk:bn m.nodes (am m.nodes 2) k=0) (deep:Int):XInv m (fk m s deep X k):=by
 unfold fk;split
 ·refine XInv.come ?_ (lH hm hs hk) _
  split
  ·exact h.bad _ _
  ·exact h
 ·exact h
theorem j4 {X:Type} {P:X->Prop} {f:X->Nat->X} (h:∀x v,P x->P (f x v)):∀(k:Nat) (x:X) (v:Nat),P x->P (dC f k x v)
 |0,x,v,hx=>hx
 |k+1,x,v,hx=>j4 h k (f x v) (v+1) (h x v hx)
theorem XInv.all (hm:az m=0) {X:XSt} (h:XInv m X) {s:List Int} (hs:SOk m s) (deep:Int):XInv m (eR m s deep X):=
 j4 (P:=XInv m) (λx v hx=>hx.vis hm hs (iF _ v) deep) _ _ _ h
def d9 (m:Md) (X:XSt):Nat:=nS m-X.deep.length+X.queue.length
theorem nV {X:XSt} (h:XInv m X) {s:List Int} (hs:SOk m s) (d:Int):d9 m (dO m X s d)=d9 m X:=by
 have hc:=(h.come hs d).len;unfold d9;unfold dO at *;split
 ·rfl
 ·rename_i hf
  simp only[hf,iG hf] at hc;rw[iG hf];simp at hc ⊢;omega
theorem AJ (hm:az m=0) {X:XSt} (h:XInv m X) {s:List Int} (hs:SOk m s) {k:List Int} (hk:bn m.nodes (am m.nodes 2) k=0) (deep:Int):d9 m (fk m s deep X k)=d9 m X:=by
 unfold fk;split
 ·split
  ·rw[nV (h.bad _ _) (lH hm hs hk)];rfl
  ·exact nV h (lH hm hs hk) _
 ·rfl
theorem AK (hm:az m=0) {X:XSt} (h:XInv m X) {s:List Int} (hs:SOk m s) (deep:Int):d9 m (eR m s deep X)=d9 m X:=
 (j4 (P:=λx=>XInv m x/\d9 m x=d9 m X) (λx v hx=>⟨hx.1.vis hm hs (iF _ v) deep,(AJ hm hx.1 hs (iF _ v) deep).trans hx.2⟩) _ X 0 ⟨h,rfl⟩).2
def eS (m:Md):Nat->XSt->XSt
 |0,X=>X
 |n+1,X=>match X.queue with
  |[]=>X
  |s::q=>eS m n (eR m s ((bl X.deep (bv m s)).getD 0) {X with queue:=q })
structure Fr (b g0:Nat) (G G':List GObj):Prop where
 len:G.length<=G'.length
 get:∀i,i<G.length->i≠b->i≠g0->G'[i]?=G[i]?
theorem Fr.trans {b g0:Nat} {G G' G'':List GObj} (h:Fr b g0 G G') (k:Fr b g0 G' G''):Fr b g0 G G'':=
 ⟨bX h.len k.len,λi hi h1 h2=>(k.get i (aS hi h.len) h1 h2).trans (h.get i hi h1 h2)⟩
theorem Fr.putX {b g0:Nat} {G:List GObj} (X:XSt) (l:List GObj):Fr b g0 G (putX b g0 m X (G++l)):=
 ⟨by rw[nR];simp,λi hi h1 h2=>by rw[dR h1 h2,aJ hi]⟩
theorem XAt.app {b g0:Nat} {X Y:XSt} {G:List GObj} (h:XAt b g0 m X G) (l:List GObj):XAt b g0 m Y (Lw.putX b g0 m Y (G++l)):=by have h1:=(aD.1 h.map).1;have h2:=(aD.1 h.box).1;exact XAt.put (X:=X) ⟨by rw[aJ h1];exact h.map,by rw[aJ h2];exact h.box,h.ne⟩ Y
theorem AL (hm:az m=0) {b g0 i3:Nat} (h1:i3≠b) (h2:i3≠g0):∀(n:Nat) (X:XSt) (G:List GObj),n<=100000->d9 m X<=n->XInv m X->XAt b g0 m X G->G[i3]?=some (.cells [.ptr true g0 0])->
  ∃G',ac pg q39 ⟨[(3,.ptr true i3 0)],[],G⟩=some (.normal,⟨[(3,.ptr true i3 0)],[],G'⟩)/\XAt b g0 m (eS m n X) G'/\Fr b g0 G G'/\XInv m (eS m n X)/\(eS m n X).queue=[]:=by
 intro n
 induction n with
 | zero=>
  intro X G hn hp hI hX h3;have hq:X.queue=[]:=by unfold d9 at hp;exact List.length_eq_zero_iff.1 (by omega)
  refine⟨G,?_,hX,⟨cN _,λ_ _ _ _=>rfl⟩,hI,hq⟩;have hb:=hX.box;simp only[xC,hq,bR] at hb;refine (cX (s1:=⟨[(3,.ptr true i3 0),(23,B false)],[],G⟩) (q5m ?h1)).trans ?r1
  case h1=>simp[h3,hb]
  case r1=>simp[keep,bo]
 | succ n ih=>
  intro X G hn hp hI hX h3;cases hq:X.queue with
  | nil=>
   refine⟨G,?_,?_,⟨cN _,λ_ _ _ _=>rfl⟩,?_,?_⟩
   ·have hb:=hX.box
    simp only[xC,hq,bR] at hb;refine (cX (s1:=⟨[(3,.ptr true i3 0),(23,B false)],[],G⟩) (q5m ?h1)).trans ?r1
    case h1=>simp[h3,hb]
    case r1=>simp[keep,bo]
   ·simp only[eS,hq];exact hX
   ·simp only[eS,hq];exact hI
   ·simp only[eS,hq]
  | cons s q=>
   obtain⟨hs,hd⟩:=hI.q s (by rw[hq];exact bF);obtain⟨d,hd⟩:=Option.ne_none_iff_exists'.1 hd;have hIp:=hI.pop hq;have hlen:=hI.len;have hn10:nS m<=1024:=by have:=bO (n:=2) (by decide) (jp hm).2;exact this
   have hpot:d9 m {X with queue:=q }+1=d9 m X:=by unfold d9;rw[hq];simp;omega
   have hql:q.length<=100000:=by have:d9 m X=nS m-X.deep.length+X.queue.length:=rfl;rw[hq] at this;simp at this;omega
   have hb:=hX.box;have hbl:=(aD.1 hX.box).1;have hX2:XAt b g0 m {X with queue:=q } (G.set g0 (.cells (xC m b {X with queue:=q }))):=by refine⟨?_,List.getElem?_set_self hbl,hX.ne⟩;rw[List.getElem?_set_ne hX.ne.symm];exact hX.map
   have hv:=AI hX2 hm hs (deep:=d) hd (by show q.length<=900000;omega);generalize hG2:putX b g0 m (eR m s d {X with queue:=q }) (cm m g0 s d (G.set g0 (.cells (xC m b {X with queue:=q })))++[.lrec 0 395 (dS (G.set g0 (.cells (xC m b {X with queue:=q }))).length)])=G2 at hv;have hX3:XAt b g0 m (eR m s d {X with queue:=q }) G2:=by rw[<-hG2];unfold cm;rw[aY];exact hX2.app _
   have hF:Fr b g0 G G2:=by
    have:Fr b g0 (G.set g0 (.cells (xC m b {X with queue:=q }))) G2:=by rw[<-hG2];unfold cm;rw[aY];exact Fr.putX _ _
    refine⟨by have:=this.len;simpa using this,λi hi h1 h2=>?_⟩;rw[this.get i (by simpa using hi) h1 h2,List.getElem?_set_ne (Ne.symm h2)]
   have h3':G2[i3]?=some (.cells [.ptr true g0 0]):=by rw[hF.get i3 (aD.1 h3).1 h1 h2];exact h3
   obtain⟨G',r1,r2,r3,r4,r5⟩:=ih (eR m s d {X with queue:=q }) G2 (by omega) (by rw[AK hm hIp hs];omega) (hIp.all hm hs d) hX3 h3';have hbe:eS m (n+1) X=eS m n (eR m s d {X with queue:=q }):=by simp only[eS,hq,hd,Option.getD_some]
   rw[hbe];refine⟨G',?_,r2,hF.trans r3,r4,r5⟩;refine bq (s1:=⟨[(3,.ptr true i3 0)],[],G2⟩) (q5m ?_) r1;obtain⟨X1,X2,X3,X4,X5,X6⟩:=X;simp only at hq;subst hq;simp only[xC,bQ] at hb hv;have hs1:∀C,(G.set g0 (.cells C))[g0]?=some (.cells C):=λC=>List.getElem?_set_self hbl
   have hs3:∀C,(G.set g0 (.cells C))[i3]?=some (.cells [.ptr true g0 0]):=λC=>by rw[List.getElem?_set_ne (Ne.symm h2)];exact h3
   simp only[LP,LN,LI] at *;generalize q.map (λl=>PV.sl false 1 (l.map I))=Q at *;generalize s.map I=sL at *;generalize m.nodes.map bu=nL at *;generalize m.inits.map bj=iL at *;generalize m.nexts.map bj=xL at *;generalize m.bads.map I=bL at *;generalize m.holds.map I=hL at *;simp[h3,hb,hs1,hs3,hv,ar]
def ga (m:Md) (x:XSt) (v:Nat):XSt:=dO m x (dl m (cZ m.nodes (am m.nodes 3) v)) 0
def xs0:XSt:=⟨[],[],0,0,false,0⟩
def eT (m:Md):XSt:=dC (ga m) (nS m) xs0 0
def e9 (m:Md):XSt:=eS m 2048 (eT m)
theorem j5 (hm:az m=0) (v:Nat):SOk m (dl m (cZ m.nodes (am m.nodes 3) v)):=nJ hm (iF _ v)
theorem tr:XInv m xs0:=⟨λs hs=>by simp[xs0] at hs,λp hp=>by simp[xs0] at hp,by simp[xs0]⟩
theorem tt (hm:az m=0):XInv m (eT m):=
 j4 (P:=XInv m) (λx v hx=>hx.come (j5 hm v) 0) _ _ _ tr
theorem AM (hm:az m=0):d9 m (eT m)=nS m:=
 (j4 (P:=λx=>XInv m x/\d9 m x=nS m) (λx v hx=>⟨hx.1.come (j5 hm v) 0,(nV hx.1 (j5 hm v) 0).trans hx.2⟩) _ xs0 0 ⟨tr,by simp[d9,xs0]⟩).2
def exG (gh:List GObj) (m:Md):List GObj:=
 gh++[.cells (mCs m),.map (bf []),.cells (xC m (gh.length+1) xs0),.cells [.ptr true (gh.length+2) 0],.cells (mCs m),.cells [LI (am m.nodes 3)]]
abbrev exC (L:Nat):List PV:=[.ptr true L 0,.ptr true (L+3) 0]
theorem tu:(exG gh m).length=gh.length+6:=by simp[exG]
theorem AN (hm:az m=0) {X:XSt} (hq:X.queue.length<=1000000) (v:Nat) :
  af pg 393 (exC gh.length++[LI (cZ m.nodes (am m.nodes 3) v)]++[.yl (gh.length+6)]) (putX (gh.length+1) (gh.length+2) m X (exG gh m++[.lrec 1 393 (exC gh.length)]))=some (B true,putX (gh.length+1) (gh.length+2) m (ga m X v) (exG gh m++[.lrec 1 393 (exC gh.length)])):=by
 have hl:=tu (m:=m) (gh:=gh);have hset:∀(Y:XSt) (o o':GObj),(putX (gh.length+1) (gh.length+2) m Y (exG gh m++[o])).set (gh.length+6) o'=putX (gh.length+1) (gh.length+2) m Y (exG gh m++[o']):=λY o o'=>by rw[lF (by omega) (by omega),<-hl,lG]
 have hget:∀(Y:XSt) (o:GObj),(putX (gh.length+1) (gh.length+2) m Y (exG gh m++[o]))[gh.length+6]?=some o:=λY o=>by rw[dR (by omega) (by omega),<-hl];simp
 have hX:XAt (gh.length+1) (gh.length+2) m X (putX (gh.length+1) (gh.length+2) m X (exG gh m++[.lrec 2 393 (exC gh.length)])):=
  XAt.put (X:=xs0) ⟨by simp[exG,xs0],by simp[exG],by omega⟩ X
 have e1:=sH (gh:=putX (gh.length+1) (gh.length+2) m X (exG gh m++[.lrec 2 393 (exC gh.length)])) hm (nN (L:=m.nodes) (ns:=am m.nodes 3) (v:=v));have e2:=td hX hm (j5 hm v) (d:=0) hq;rw[nT (by omega)] at e2;have g0:(putX (gh.length+1) (gh.length+2) m X (exG gh m++[.lrec 2 393 (exC gh.length)]))[gh.length]?=some (.cells (mCs m)):=by rw[dR (by omega) (by omega)];simp[exG]
 have g3:(putX (gh.length+1) (gh.length+2) m X (exG gh m++[.lrec 2 393 (exC gh.length)]))[gh.length+3]?=some (.cells [.ptr true (gh.length+2) 0]):=by rw[dR (by omega) (by omega)];simp[exG]
 have has:=qco (pg:=pg) (gh:=putX (gh.length+1) (gh.length+2) m X (exG gh m++[.lrec 1 393 (exC gh.length)])) (g1:=gh.length) (o1:=0) (g3:=gh.length+3) (o3:=0) (v12:=LI (cZ m.nodes (am m.nodes 3) v)) (e:= .normal) (s:=⟨[(1,.ptr true gh.length 0),(3,.ptr true (gh.length+3) 0),(4,LI (cZ m.nodes (am m.nodes 3) v))],[],putX (gh.length+1) (gh.length+2) m X (exG gh m++[.lrec 1 393 (exC gh.length)])⟩) (by simp)
 have has2:ac pg qr.as ⟨(qr.ks++[qr.t]).zip (exC gh.length++[LI (cZ m.nodes (am m.nodes 3) v)]++[.yl (gh.length+6)]),[],putX (gh.length+1) (gh.length+2) m X (exG gh m++[.lrec 1 393 (exC gh.length)])⟩=some (.normal,⟨[(1,.ptr true gh.length 0),(3,.ptr true (gh.length+3) 0),(4,LI (cZ m.nodes (am m.nodes 3) v))],[],putX (gh.length+1) (gh.length+2) m X (exG gh m++[.lrec 1 393 (exC gh.length)])⟩):=by simpa [qr] using has
 have hbody:ac pg q37 ⟨[(1,.ptr true gh.length 0),(3,.ptr true (gh.length+3) 0),(4,LI (cZ m.nodes (am m.nodes 3) v))],[],putX (gh.length+1) (gh.length+2) m X (exG gh m++[.lrec 2 393 (exC gh.length)])⟩=some (.normal,⟨[],[],putX (gh.length+1) (gh.length+2) m (ga m X v) (exG gh m++[.lrec 2 393 (exC gh.length)])⟩):=by
  unfold ga;generalize putX (gh.length+1) (gh.length+2) m (dO m X (dl m (cZ m.nodes (am m.nodes 3) v)) 0) (exG gh m++[.lrec 2 393 (exC gh.length)])=R at *;generalize putX (gh.length+1) (gh.length+2) m X (exG gh m++[.lrec 2 393 (exC gh.length)])=G at *;generalize dl m (cZ m.nodes (am m.nodes 3) v)=F at *;generalize cZ m.nodes (am m.nodes 3) v=W at *;rw[ch] at e1;unfold mCs at g0;simp only[LP,LN,LI] at *;generalize F.map I=fL at *;generalize W.map I=wL at *;generalize m.nodes.map bu=nL at *;generalize m.inits.map bj=iL at *;generalize m.nexts.map bj=xL at *;generalize m.bads.map I=bL at *
  generalize m.holds.map I=hL at *;refine qcp ?_;simp[g0,g3,e1,e2]
 have:=rD (pg:=pg) (y:=393) (b:=gh.length+6) (Y:=qr) (caps:=exC gh.length) (v:=LI (cZ m.nodes (am m.nodes 3) v)) (gh:=putX (gh.length+1) (gh.length+2) m X (exG gh m++[.lrec 1 393 (exC gh.length)]))
  (s1:=⟨[(1,.ptr true gh.length 0),(3,.ptr true (gh.length+3) 0),(4,LI (cZ m.nodes (am m.nodes 3) v))],[],putX (gh.length+1) (gh.length+2) m X (exG gh m++[.lrec 1 393 (exC gh.length)])⟩) (s2:=⟨[],[],putX (gh.length+1) (gh.length+2) m (ga m X v) (exG gh m++[.lrec 2 393 (exC gh.length)])⟩) rfl rfl (hget X _) has2 (hget X _) (by
  simp only[hset];exact hbody) (hget _ _)
 rw[this];simp only[hset]
theorem nW (hm:az m=0):∃G',af pg 251 [dI m] gh=some (.ptr true (gh.length+2) 0,G')/\XAt (gh.length+1) (gh.length+2) m (e9 m) G'/\(∀i,i<gh.length->G'[i]?=gh[i]?)/\gh.length<=G'.length/\XInv m (e9 m)/\(e9 m).queue=[]:=by
 have hl:=tu (m:=m) (gh:=gh);have hset:∀(Y:XSt) (o o':GObj),(putX (gh.length+1) (gh.length+2) m Y (exG gh m++[o])).set (gh.length+6) o'=putX (gh.length+1) (gh.length+2) m Y (exG gh m++[o']):=λY o o'=>by rw[lF (by omega) (by omega),<-hl,lG]
 have hget:∀(Y:XSt) (o:GObj),(putX (gh.length+1) (gh.length+2) m Y (exG gh m++[o]))[gh.length+6]?=some o:=λY o=>by rw[dR (by omega) (by omega),<-hl];simp
 have hX0:∀o,XAt (gh.length+1) (gh.length+2) m xs0 (exG gh m++[o]):=λo=>⟨by simp[exG,xs0],by simp[exG],by omega⟩
 have hself:∀(o:GObj),putX (gh.length+1) (gh.length+2) m xs0 (exG gh m++[o])=exG gh m++[o]:=λo=>(hX0 o).self
 have hbl:=(jp hm).2;have hp:2^bz m.nodes (am m.nodes 3)<=2^10:=bO (by decide) hbl;have hv:lE m (λx=>putX (gh.length+1) (gh.length+2) m x (exG gh m++[.lrec 1 393 (exC gh.length)])) (ga m) (λv x=>x.queue.length<=v) (gh.length+6) (gh.length+5) (gh.length+4) 393 (exC gh.length) (am m.nodes 3):=by
  refine⟨rfl,λv x _=>hget x _,λv x _=>?_,λv x _=>?_,iD hm 3,by have:=hJ (ez hm) 3;omega,by omega,λv x hlt hQ=>⟨?_,?_⟩⟩
  ·show (putX _ _ _ _ _)[_]?=_
   rw[dR (by omega) (by omega)];simp[exG]
  ·show (putX _ _ _ _ _)[_]?=_
   rw[dR (by omega) (by omega)];simp[exG]
  ·exact AN hm (by omega) v
  ·exact bX (tp _ _ _) (by omega)
 have hvec:=tj hv (x:=xs0) (by simp[xs0]);simp only[hself] at hvec;have hrf:=rC (pg:=pg) (g:= .t 11) (y:=393) (F:=267) (ks:=[1,3]) (e:=[(1,.ptr true gh.length 0),(3,.ptr true (gh.length+3) 0),(11,.fn 267 [.ptr true (gh.length+5) 0,.ptr true (gh.length+4) 0])]) (lh:=[]) (gh:=exG gh m) (caps:=[.ptr true (gh.length+5) 0,.ptr true (gh.length+4) 0]) (vs:=exC gh.length) rfl rfl rfl (by rw[hl];exact hvec) (by rw[hl];exact hget _ _);rw[hl,hset] at hrf;rw[show dC (ga m) (2^bz m.nodes (am m.nodes 3)) xs0 0=eT m from rfl] at hrf
 have hXi:XAt (gh.length+1) (gh.length+2) m (eT m) (putX (gh.length+1) (gh.length+2) m (eT m) (exG gh m++[.lrec 0 393 (exC gh.length)])):=(hX0 _).put _;have h3:(putX (gh.length+1) (gh.length+2) m (eT m) (exG gh m++[.lrec 0 393 (exC gh.length)]))[gh.length+3]?=some (.cells [.ptr true (gh.length+2) 0]):=by rw[dR (by omega) (by omega)];simp[exG]
 obtain⟨G',r1,r2,r3,r4,r5⟩:=AL hm (by omega) (by omega) 2048 (eT m) _ (by omega) (by rw[AM hm];unfold nS;omega) (tt hm) hXi h3;refine⟨G',?_,r2,λi hi=>?_,?_,r4,r5⟩
 ·have hG3:G'[gh.length+3]?=some (.cells [.ptr true (gh.length+2) 0]):=by
   rw[r3.get _ (aD.1 h3).1 (by omega) (by omega)];exact h3
  have hk2:=qcq (pg:=pg) (gh:=G') (g3:=gh.length+3) (o3:=0) (e:= .ret) (s:=⟨[(2,.ptr true (gh.length+2) 0)],[],G'⟩) (by simp[hG3]);have hk1:=qcr (pg:=pg) (gh:=putX (gh.length+1) (gh.length+2) m (eT m) (exG gh m++[.lrec 0 393 (exC gh.length)])) (g3:=gh.length+3) (o3:=0) (e:= .ret) (s:=⟨[(2,.ptr true (gh.length+2) 0)],[],G'⟩) (by simp[r1,hk2]);have hvs:=tf (gh:=gh++[.cells (mCs m),.map (bf []),.cells (xC m (gh.length+1) xs0),.cells [.ptr true (gh.length+2) 0]]) (m:=m) (kind:=3) (by have:=(ez hm).len;omega);unfold lD at hvs
  have e0:gh++[GObj.cells (mCs m),.map (bf []),.cells (xC m (gh.length+1) xs0),.cells [.ptr true (gh.length+2) 0]]++[.cells (mCs m),.cells [LI (am m.nodes 3)]]=exG gh m:=by simp[exG]
  rw[e0] at hvs;generalize putX (gh.length+1) (gh.length+2) m (eT m) (exG gh m++[.lrec 0 393 (exC gh.length)])=G1 at *;generalize exG gh m=G0 at *;have hrf2:ac pg q38 ⟨[(1,.ptr true gh.length 0),(3,.ptr true (gh.length+3) 0),(11,.fn 267 [.ptr true (gh.length+5) 0,.ptr true (gh.length+4) 0])],[],G0⟩=some (.normal,⟨[(3,.ptr true (gh.length+3) 0)],[],G1⟩):=by
   show ac pg (.post (.rangeF (.t 11) 393 [1,3]) [3] 0) _=_
   rw[ij,hrf];rfl
  rw[ch] at hvs ⊢;simp only[xC,xs0,bR,bf] at hvs;unfold mCs at hvs;simp only[LP,LN,LI] at *;generalize m.nodes.map bu=nL at *;generalize m.inits.map bj=iL at *;generalize m.nexts.map bj=xL at *;generalize m.bads.map I=bL at *;generalize m.holds.map I=hL at *;refine aw (fn:=q3c) (s:=⟨[(2,.ptr true (gh.length+2) 0)],[],G'⟩) rfl rfl (qcs ?h1) ?r1
  case h1=>simp[ar,hvs,hrf2,hk1]
  case r1=>simp[au,results,q3c,av,ay,al]
 ·rw[r3.get i (by rw[nR];simp[exG];omega) (by omega) (by omega),dR (by omega) (by omega)]
  unfold exG;rw[aY,aJ hi]
 ·have:=r3.len
  rw[nR] at this;simp[exG] at this;omega
end
section
variable {m:Md} {gh:List GObj}
abbrev j6 (m:Md) (s:Nat):List Int:=cZ m.nodes (am m.nodes 3) s
abbrev gD (m:Md) (i:Nat):List Int:=cZ m.nodes (am m.nodes 2) i
def vN (m:Md) (s i:Nat):List Int:=bi m (j6 m s) (gD m i)
def toN (m:Md) (s i:Nat):Int:=if dZ m (vN m s i) then (bv m (dA m (vN m s i)):Nat) else -1
def bdN (m:Md) (s i:Nat):Bool:=eK m (vN m s i)&&dZ m (vN m s i)
theorem AO (h:az m=0) (s i:Nat):InW m.nodes (vN m s i):=j0 h (jY (iF _ _) (iF _ _))
theorem AP (s i:Nat):(vN m s i).length=m.nodes.length:=iE
theorem AQ (h:az m=0) (s i:Nat):SOk m (dA m (vN m s i)):=lz h (AO h s i) (AP s i)
end
section
variable {m:Md} {gh:List GObj}
def gc (m:Md) (n:Nat) (s:Nat) (o:List Int) (i:Nat):List Int:=if 0<=toN m s i/\o.getD (toN m s i).toNat 0<0 then o.set (toN m s i).toNat ((n+1:Nat):Int) else o
def gE (m:Md) (n:Nat) (o:List Int) (s:Nat):List Int:=if o.getD s 0=n then dC (gc m n s) (nI m) o 0 else o
def jr (m:Md) (o:List Int) (n:Nat):List Int:=dC (gE m n) (nS m) o 0
theorem AR {n s i:Nat} {o:List Int}:(gc m n s o i).length=o.length:=by unfold gc;split<;>simp
theorem tv (h:az m=0) (s i:Nat) (h0:0<=toN m s i):(toN m s i).toNat<nS m:=by
 have hK:=jq (AQ h s i);revert h0;unfold toN;split
 ·intro _;simpa using hK
 ·intro h0;omega
end
section
variable {m:Md}
def RN (m:Md):Nat->Nat->Prop
 |0,u=>∃v,v<nS m/\bv m (dl m (j6 m v))=u
 |n+1,u=>∃s i,s<nS m/\i<nI m/\RN m n s/\toN m s i=(u:Int)
def Dist (m:Md) (d u:Nat):Prop:=RN m d u/\∀e,e<d->¬RN m e u
theorem RN.lt (h:az m=0):∀{n u:Nat},RN m n u->u<nS m
 |0,u,⟨v,_,hv⟩=>hv▸jq (j5 h v)
 |n+1,u,⟨s,i,_,_,_,hu⟩=>by have:=tv h s i (by omega);omega
theorem Dist.uniq {d e u:Nat} (h:Dist m d u) (k:Dist m e u):d=e:=by
 rcases Nat.lt_trichotomy d e with hl|hl|hl
 ·exact absurd h.1 (k.2 d hl)
 ·exact hl
 ·exact absurd k.1 (h.2 e hl)
theorem Dist.prev {d u:Nat} (h:Dist m (d+1) u):∃s i,s<nS m/\i<nI m/\Dist m d s/\toN m s i=(u:Int):=by obtain⟨⟨s,i,hs,hi,hr,ht⟩,h2⟩:=h;exact⟨s,i,hs,hi,⟨hr,λe he hr2=>h2 (e+1) (by omega) ⟨s,i,hs,hi,hr2,ht⟩⟩,ht⟩
theorem Dist.chain (hc:az m=0):∀{d u:Nat},Dist m d u->∃l:List Nat,l.length=d+1/\l.Nodup/\∀w∈l,w<nS m/\∃e,e<=d/\Dist m e w
 |0,u,h=>⟨[u],rfl,by simp,λw hw=>by simp at hw;subst hw;exact⟨RN.lt hc h.1,0,cN _,h⟩⟩
 | d+1,u,h=>by
  obtain⟨s,i,_,_,hs,_⟩:=h.prev;obtain⟨l,h1,h2,h3⟩:=Dist.chain hc hs;refine⟨u::l,by simp[h1],List.nodup_cons.2 ⟨λhu=>?_,h2⟩,λw hw=>?_⟩
  ·obtain⟨_,e,he,hd⟩:=h3 u hu
   have:=h.uniq hd;omega
  ·rcases List.mem_cons.1 hw with rfl|hw
   ·exact⟨RN.lt hc h.1,d+1,cN _,h⟩
   ·obtain⟨h4,e,he,hd⟩:=h3 w hw
    exact⟨h4,e,by omega,hd⟩
theorem Dist.lt (hc:az m=0) {d u:Nat} (h:Dist m d u):d<nS m:=by obtain⟨l,h1,h2,h3⟩:=h.chain hc;have:=List.Nodup.length_le_of_subset h2 (l₂:=List.range (nS m)) (λw hw=>by simpa using (h3 w hw).1);simp at this;omega
theorem RN.dist:∀{n u:Nat},RN m n u->∃d,d<=n/\Dist m d u:=by
 intro n
 induction n using Nat.strongRecOn with
 | ind n ih=>
  intro u h;by_cases hx:∃e,e<n/\RN m e u
  ·obtain⟨e,he,hr⟩:=hx
   obtain⟨d,hd,hD⟩:=ih e he hr;exact⟨d,by omega,hD⟩
  ·exact⟨n,cN _,h,λe he hr=>hx ⟨e,he,hr⟩⟩
theorem AS {o:List Int} {t u:Nat} {x:Int}:(o.set t x).getD u 0=if t=u/\t<o.length then x else o.getD u 0:=by
 simp only[aM,cF];by_cases h1:t=u
 ·subst h1
  by_cases h2:t<o.length
  ·simp[h2]
  ·simp[h2]
 ·simp[h1]
def Mid (m:Md) (n:Nat) (o0:List Int) (P:Nat->Prop) (o:List Int):Prop:=
 o.length=nS m/\∀u,u<nS m->(0<=o0.getD u 0->o.getD u 0=o0.getD u 0)/\(o0.getD u 0<0->P u->o.getD u 0=((n+1:Nat):Int))/\(o0.getD u 0<0->¬P u->o.getD u 0= -1)
theorem Mid.congr {n:Nat} {o0 o:List Int} {P Q:Nat->Prop} (h:Mid m n o0 P o) (hpq:∀u,P u↔Q u):Mid m n o0 Q o:=
 ⟨h.1,λu hu=>⟨(h.2 u hu).1,λa b=>(h.2 u hu).2.1 a ((hpq u).2 b),λa b=>(h.2 u hu).2.2 a (λc=>b ((hpq u).1 c))⟩⟩
theorem Mid.one (hc:az m=0) {n s i:Nat} {o0 o:List Int} {P:Nat->Prop} (h:Mid m n o0 P o):Mid m n o0 (λu=>P u\/toN m s i=(u:Int)) (gc m n s o i):=by
 refine⟨by rw[AR];exact h.1,λu hu=>?_⟩;obtain⟨h1,h2,h3⟩:=h.2 u hu;unfold gc;split
 ·rename_i hh
  obtain⟨ht,hneg⟩:=hh;have htl:=tv hc s i ht;rw[AS,h.1];by_cases hu2:(toN m s i).toNat=u
  ·rw[if_pos ⟨hu2,htl⟩]
   rw[hu2] at hneg;refine⟨λh0=>?_,λ_ _=>rfl,λ_ hp=>absurd (.inr (by omega)) hp⟩;rw[h1 h0] at hneg;omega
  ·rw[if_neg (λhh=>hu2 hh.1)]
   refine⟨h1,λh0 hp=>?_,λh0 hp=>h3 h0 (λhp2=>hp (.inl hp2))⟩;rcases hp with hp|hp
   ·exact h2 h0 hp
   ·omega
 ·rename_i hh
  refine⟨h1,λh0 hp=>?_,λh0 hp=>h3 h0 (λhp2=>hp (.inl hp2))⟩;by_cases hpu:P u
  ·exact h2 h0 hpu
  ·rcases hp with hp|hp
   ·exact h2 h0 hp
   ·exfalso
    refine hh ⟨by omega,?_⟩;have e:(toN m s i).toNat=u:=by omega
    rw[e,h3 h0 hpu];omega
theorem Mid.row (hc:az m=0) {n s:Nat} {o0:List Int}:∀(k v:Nat) (o:List Int) (P:Nat->Prop),Mid m n o0 P o->Mid m n o0 (λu=>P u\/∃i,v<=i/\i<v+k/\toN m s i=(u:Int)) (dC (gc m n s) k o v)
 |0,v,o,P,h=>h.congr λu=>⟨.inl,λhp=>hp.elim id (λ⟨i,h1,h2,_⟩=>by omega)⟩
 | k+1,v,o,P,h=>by
  rw[show dC (gc m n s) (k+1) o v=dC (gc m n s) k (gc m n s o v) (v+1) from rfl];refine (Mid.row hc k (v+1) _ _ (h.one hc (s:=s) (i:=v))).congr λu=>⟨λhp=>?_,λhp=>?_⟩
  ·rcases hp with (hp|hp)|⟨i,h1,h2,h3⟩
   ·exact .inl hp
   ·exact .inr ⟨v,cN _,by omega,hp⟩
   ·exact .inr ⟨i,by omega,by omega,h3⟩
  ·rcases hp with hp|⟨i,h1,h2,h3⟩
   ·exact .inl (.inl hp)
   ·by_cases hi:i=v
    ·subst hi;exact .inl (.inr h3)
    ·exact .inr ⟨i,by omega,by omega,h3⟩
theorem Mid.all (hc:az m=0) {n:Nat} {o0:List Int}:∀(k v:Nat) (o:List Int) (P:Nat->Prop),v+k=nS m->Mid m n o0 P o->Mid m n o0 (λu=>P u\/∃s,v<=s/\s<nS m/\o0.getD s 0=n/\∃i,i<nI m/\toN m s i=(u:Int)) (dC (gE m n) k o v)
 |0,v,o,P,_,h=>h.congr λu=>⟨.inl,λhp=>hp.elim id (λ⟨i,h1,h2,_⟩=>by omega)⟩
 | k +1,v,o,P,hv,h=>by
  rw[show dC (gE m n) (k+1) o v=dC (gE m n) k (gE m n o v) (v+1) from rfl];have hs:o.getD v 0=n↔o0.getD v 0=n:=by
   obtain⟨h1,h2,h3⟩:=h.2 v (by omega);by_cases h0:0<=o0.getD v 0
   ·rw[h1 h0]
   ·by_cases hp:P v
    ·rw[h2 (by omega) hp];omega
    ·rw[h3 (by omega) hp];omega
  by_cases ho:o0.getD v 0=n
  ·have e:gE m n o v=dC (gc m n v) (nI m) o 0:=by unfold gE;rw[if_pos (hs.2 ho)]
   rw[e];refine (Mid.all hc k (v+1) _ _ (by omega) (Mid.row hc (s:=v) (nI m) 0 o P h)).congr λu=>⟨λhp=>?_,λhp=>?_⟩
   ·rcases hp with (hp|⟨i,h1,h2,h3⟩)|⟨s,h1,h2,h3⟩
    ·exact .inl hp
    ·exact .inr ⟨v,cN _,by omega,ho,i,by omega,h3⟩
    ·exact .inr ⟨s,by omega,h2,h3⟩
   ·rcases hp with hp|⟨s,h1,h2,h3,i,h4,h5⟩
    ·exact .inl (.inl hp)
    ·by_cases hi:s=v
     ·subst hi;exact .inl (.inr ⟨i,by omega,by omega,h5⟩)
     ·exact .inr ⟨s,by omega,h2,h3,i,h4,h5⟩
  ·have e:gE m n o v=o:=by unfold gE;rw[if_neg (λhh=>ho (hs.1 hh))]
   rw[e];refine (Mid.all hc k (v+1) _ _ (by omega) h).congr λu=>⟨λhp=>?_,λhp=>?_⟩
   ·rcases hp with hp|⟨s,h1,h2,h3⟩
    ·exact .inl hp
    ·exact .inr ⟨s,by omega,h2,h3⟩
   ·rcases hp with hp|⟨s,h1,h2,h3,h4⟩
    ·exact .inl hp
    ·by_cases hi:s=v
     ·subst hi;exact absurd h3 ho
     ·exact .inr ⟨s,by omega,h2,h3,h4⟩
def Lay (m:Md) (n:Nat) (o:List Int):Prop:=o.length=nS m/\∀u,u<nS m->(o.getD u 0= -1\/0<=o.getD u 0/\o.getD u 0<=n)/\∀d,d<=n->(o.getD u 0=(d:Int)↔Dist m d u)
theorem Lay.next (hc:az m=0) {n:Nat} {o:List Int} (h:Lay m n o):Lay m (n+1) (jr m o n):=by
 have h0:Mid m n o (λ_=>False) o:=⟨h.1,λu hu=>⟨λ_=>rfl,λ_ hp=>hp.elim,λhn _=>by
  rcases (h.2 u hu).1 with h1|h1
  ·exact h1
  ·omega⟩⟩
 have hM:=Mid.all hc (nS m) 0 o _ (by omega) h0;refine⟨hM.1,λu hu=>?_⟩;obtain⟨h1,h2,h3⟩:=hM.2 u hu;change ((jr m o n).getD u 0= -1\/_)/\_;change 0<=o.getD u 0->(jr m o n).getD u 0=_ at h1;change o.getD u 0<0->_->(jr m o n).getD u 0=_ at h2;change o.getD u 0<0->_->(jr m o n).getD u 0=_ at h3;obtain⟨g1,g2⟩:=h.2 u hu;generalize (jr m o n).getD u 0=x at *;have key:Dist m (n+1) u↔o.getD u 0<0/\(False\/∃s,0<=s/\s<nS m/\o.getD s 0=n/\∃i,i<nI m/\toN m s i=(u:Int)):=by
  constructor
  ·intro hd
   obtain⟨s,i,hs,hi,hD,ht⟩:=hd.prev;refine⟨?_,.inr ⟨s,by omega,hs,((h.2 s hs).2 n (cN _)).2 hD,i,hi,ht⟩⟩;rcases g1 with g1|g1
   ·omega
   ·exfalso
    have:=(g2 (o.getD u 0).toNat (by omega)).1 (by omega);have:=this.uniq hd;omega
  ·rintro⟨hn,hp|⟨s,_,hs,hon,i,hi,ht⟩⟩
   ·exact hp.elim
   ·have hD:=((h.2 s hs).2 n (cN _)).1 hon
    refine⟨⟨s,i,hs,hi,hD.1,ht⟩,λe he hr=>?_⟩;obtain⟨d,hd,hD2⟩:=hr.dist;have:=(g2 d (by omega)).2 hD2;omega
 refine⟨?_,λd hd=>?_⟩
 ·by_cases h0:0<=o.getD u 0
  ·rw[h1 h0];omega
  ·by_cases hp:(False\/∃s,0<=s/\s<nS m/\o.getD s 0=n/\∃i,i<nI m/\toN m s i=(u:Int))
   ·rw[h2 (by omega) hp];omega
   ·rw[h3 (by omega) hp];omega
 ·by_cases h0:0<=o.getD u 0
  ·rw[h1 h0]
   by_cases hdn:d<=n
   ·exact g2 d hdn
   ·obtain rfl:d=n+1:=by omega
    rw[key];omega
  ·by_cases hp:(False\/∃s,0<=s/\s<nS m/\o.getD s 0=n/\∃i,i<nI m/\toN m s i=(u:Int))
   ·rw[h2 (by omega) hp]
    by_cases hdn:d<=n
    ·have:=g2 d hdn
     constructor
     ·intro he;omega
     ·intro hD;have:=this.2 hD;omega
    ·obtain rfl:d=n+1:=by omega
     rw[key];exact⟨λ_=>⟨by omega,hp⟩,λ_=>rfl⟩
   ·rw[h3 (by omega) hp]
    constructor
    ·intro he;omega
    ·intro hD
     exfalso;by_cases hdn:d<=n
     ·have:=(g2 d hdn).2 hD;omega
     ·obtain rfl:d=n+1:=by omega
      exact hp (key.1 hD).2
end
section
variable {m:Md}
def stX (m:Md) (T:Nat->Option (List Int)) (bdF:Nat->Bool) (e dd:Int) (X:XSt) (i:Nat):XSt:=
 match T i with
 |none=>X
 |some s=>dO m (if bdF i&& !X.bad then {X with bad:=true,badAt:=dd } else X) s e
structure Gr (m:Md) (T:Nat->Option (List Int)) (bdF:Nat->Bool) (e dd:Int) (v k:Nat) (X Y:XSt) (l:List (Int×Int)) (w:List (List Int)):Prop where
 deep:Y.deep=X.deep++l
 new:∀q∈l,q.2=e/\∃i s,v<=i/\i<v+k/\T i=some s/\q.1=(bv m s:Nat)
 queue:Y.queue=X.queue++w
 keys:w.map (λs=>((bv m s:Nat):Int))=l.map (·.1)
 cov:∀i s,v<=i->i<v+k->T i=some s->bl Y.deep (bv m s)≠none
 reached:X.deep.length+l.length<=100000->X.reached=(X.deep.length:Int)->Y.reached=(Y.deep.length:Int)
 far:Y.far=if l=[] then X.far else e
 bad:Y.bad=true↔X.bad=true\/∃i,v<=i/\i<v+k/\bdF i=true
 at1:X.bad=true->Y.badAt=X.badAt
 at2:X.bad=false->Y.bad=true->Y.badAt=dd
 at3:Y.bad=false->Y.badAt=X.badAt
theorem nX {l l2:List (Int×Int)} {q:Int} {d:Int} (h:bl l q=some d):bl (l++l2) q=some d:=by
 induction l with
 |nil=>cases h
 |cons p l ih=>
  obtain⟨a,u⟩:=p;simp only[bJ,bl] at h ⊢;split
  ·rename_i hq;rw[if_pos hq] at h;exact h
  ·rename_i hq;rw[if_neg hq] at h;exact ih h
theorem AT {l l2:List (Int×Int)} {q:Int} (h:bl l q=none):bl (l++l2) q=bl l2 q:=by
 induction l with
 |nil=>rfl
 |cons p l ih=>
  obtain⟨a,u⟩:=p;simp only[bJ,bl] at h ⊢;split
  ·rename_i hq;rw[if_pos hq] at h;cases h
  ·rename_i hq;rw[if_neg hq] at h;exact ih h
theorem Gr.zero {T:Nat->Option (List Int)} {bdF:Nat->Bool} {e dd:Int} {v:Nat} {X:XSt}:Gr m T bdF e dd v 0 X X [] [] where
 deep:=by simp
 new:=by simp
 queue:=by simp
 keys:=rfl
 cov:=λi s h1 h2=>by omega
 reached:=λ_ h=>h
 far:=by simp
 bad:=⟨.inl,λh=>h.elim id λ⟨i,h1,h2,_⟩=>by omega⟩
 at1:=λ_=>rfl
 at2:=λh1 h2=>by rw[h1] at h2;cases h2
 at3:=λ_=>rfl
theorem Gr.one {T:Nat->Option (List Int)} {bdF:Nat->Bool} {e dd:Int} {v:Nat} {X:XSt} (hb:T v=none->bdF v=false):∃l w,Gr m T bdF e dd v 1 X (stX m T bdF e dd X v) l w:=by
 have hv:∀i,v<=i->i<v+1->i=v:=λi h1 h2=>by omega
 unfold stX;cases hT:T v with
 |none=>
  have hb:=hb hT;refine⟨[],[],⟨by simp,by simp,by simp,rfl,λi s h1 h2 h3=>?_,λ_ h=>h,by simp,⟨.inl,λh=>h.elim id λ⟨i,h1,h2,h3⟩=>?_⟩,λ_=>rfl,λh1 h2=>?_,λ_=>rfl⟩⟩
  ·rw[hv i h1 h2,hT] at h3;cases h3
  ·rw[hv i h1 h2,hb] at h3;cases h3
  ·rw[h1] at h2;cases h2
 | some s=>
  show ∃l w,Gr m T bdF e dd v 1 X (dO m (if bdF v&& !X.bad then {X with bad:=true,badAt:=dd } else X) s e) l w
  have base:∀X':XSt,X'.deep=X.deep->X'.queue=X.queue->X'.reached=X.reached->X'.far=X.far->(X'.bad=true↔X.bad=true\/bdF v=true)->(X.bad=true->X'.badAt=X.badAt)->(X.bad=false->X'.bad=true->X'.badAt=dd)->(X'.bad=false->X'.badAt=X.badAt)->
    ∃l w,Gr m T bdF e dd v 1 X (dO m X' s e) l w:=by
   intro X' e1 e2 e3 e4 e5 e6 e7 e8;have hbad:(X'.bad=true↔X.bad=true\/∃i,v<=i/\i<v+1/\bdF i=true):=by
    rw[e5];constructor
    ·rintro (h|h)
     ·exact .inl h
     ·exact .inr ⟨v,cN _,by omega,h⟩
    ·rintro (h|⟨i,h1,h2,h3⟩)
     ·exact .inl h
     ·exact .inr (hv i h1 h2▸h3)
   unfold dO;cases hf:bl X'.deep (bv m s) with
   |some d=>
    refine⟨[],[],⟨by simp[e1],by simp,by simp[e2],rfl,λi s' h1 h2 h3=>?_,λ_ h=>by rw[e3,e1];exact h,by simp[e4],hbad,e6,e7,e8⟩⟩;rw[hv i h1 h2,hT] at h3;cases h3
    show bl X'.deep _≠none
    rw[hf];simp
   | none=>
    refine⟨[((bv m s:Nat),e)],[s],⟨?_,λq hq=>?_,?_,rfl,λi s' h1 h2 h3=>?_,λhle h=>?_,by simp,hbad,e6,e7,e8⟩⟩
    ·show dW X'.deep _ _=_
     rw[iG hf,e1]
    ·simp at hq
     subst hq;exact⟨rfl,v,s,cN _,by omega,hT,rfl⟩
    ·show X'.queue++[s]=_
     rw[e2]
    ·rw[hv i h1 h2,hT] at h3
     cases h3
     show bl (dW X'.deep _ _) _≠none
     rw[iG hf,AT hf];simp[bl]
    ·show WI.wrap (X'.reached+1)=((dW X'.deep _ _).length:Int)
     rw[iG hf,e3,h,e1];simp at hle;rw[cS (by omega) (by omega)];simp
  refine base _ ?_ ?_ ?_ ?_ ?_ ?_ ?_ ?_
  ·split<;>rfl
  ·split<;>rfl
  ·split<;>rfl
  ·split<;>rfl
  ·cases h1:bdF v<;>cases h2:X.bad<;>simp[h2]
  ·intro h2;simp[h2]
  ·intro h2;cases h1:bdF v<;>simp[h2]
  ·cases h1:bdF v<;>cases h2:X.bad<;>simp[h2]
theorem Gr.trans {T:Nat->Option (List Int)} {bdF:Nat->Bool} {e dd:Int} {v k:Nat} {X Y Z:XSt} {l l2:List (Int×Int)} {w w2:List (List Int)} (h:Gr m T bdF e dd v 1 X Y l w) (g:Gr m T bdF e dd (v+1) k Y Z l2 w2):Gr m T bdF e dd v (k+1) X Z (l++l2) (w++w2) where
 deep:=by rw[g.deep,h.deep,aY]
 new:=λq hq=>by
  rcases bZ.1 hq with hq|hq
  ·obtain⟨h1,i,s,h2,h3,h4⟩:=h.new q hq
   exact⟨h1,i,s,h2,by omega,h4⟩
  ·obtain⟨h1,i,s,h2,h3,h4⟩:=g.new q hq
   exact⟨h1,i,s,by omega,by omega,h4⟩
 queue:=by rw[g.queue,h.queue,aY]
 keys:=by rw[bK,bK,h.keys,g.keys]
 cov:=λi s h1 h2 h3=>by
  by_cases hi:i<v+1
  ·have:=h.cov i s h1 hi h3
   obtain⟨d,hd⟩:=Option.ne_none_iff_exists'.1 this;rw[g.deep,nX hd];simp
  ·exact g.cov i s (by omega) (by omega) h3
 reached:=λhle hr=>by simp at hle;refine g.reached ?_ (h.reached (by omega) hr);rw[h.deep];simp;omega
 far:=by
  rw[g.far,h.far];cases l2 with
  |nil=>simp
  |cons a l2=>simp
 bad:=by
  rw[g.bad,h.bad];constructor
  ·rintro ((h1|⟨i,h1,h2,h3⟩)|⟨i,h1,h2,h3⟩)
   ·exact .inl h1
   ·exact .inr ⟨i,h1,by omega,h3⟩
   ·exact .inr ⟨i,by omega,by omega,h3⟩
  ·rintro (h1|⟨i,h1,h2,h3⟩)
   ·exact .inl (.inl h1)
   ·by_cases hi:i<v+1
    ·exact .inl (.inr ⟨i,h1,hi,h3⟩)
    ·exact .inr ⟨i,by omega,by omega,h3⟩
 at1:=λh1=>by rw[g.at1 (h.bad.2 (.inl h1)),h.at1 h1]
 at2:=λh1 h2=>by
  cases hy:Y.bad with
  |true=>rw[g.at1 hy];exact h.at2 h1 hy
  |false=>exact g.at2 hy h2
 at3:=λh1=>by
  have hy:Y.bad=false:=by
   cases hy:Y.bad with
   |false=>rfl
   |true=>rw[g.bad.2 (.inl hy)] at h1;cases h1
  rw[g.at3 h1,h.at3 hy]
theorem Gr.fold {T:Nat->Option (List Int)} {bdF:Nat->Bool} {e dd:Int} (hb:∀v,T v=none->bdF v=false):∀(k v:Nat) (X:XSt),∃l w,Gr m T bdF e dd v k X (dC (stX m T bdF e dd) k X v) l w
 |0,v,X=>⟨[],[],Gr.zero⟩
 |k+1,v,X=>by obtain⟨l,w,h⟩:=Gr.one (m:=m) (T:=T) (bdF:=bdF) (e:=e) (dd:=dd) (v:=v) (X:=X) (hb v);obtain⟨l2,w2,g⟩:=Gr.fold hb k (v+1) (stX m T bdF e dd X v);exact⟨l++l2,w++w2,h.trans g⟩
def tV (m:Md) (s:List Int) (v:Nat):Option (List Int):=if dZ m (bi m s (gD m v)) then some (dA m (bi m s (gD m v))) else none
def bV (m:Md) (s:List Int) (v:Nat):Bool:=eK m (bi m s (gD m v))&&dZ m (bi m s (gD m v))
theorem AU (s:List Int) (d:Int):j3 m s d=stX m (tV m s) (bV m s) (WI.wrap (d+1)) d:=by
 funext X v
 unfold j3 fk stX tV bV;cases h:dZ m (bi m s (gD m v)) with
 |false=>simp[h]
 |true=>simp[h]
theorem AV:ga m=stX m (λv=>some (dl m (j6 m v))) (λ_=>false) 0 0:=by
 funext X v
 unfold ga stX;simp
theorem lI {s:List Int} (h:SOk m s):j6 m (bv m s)=s:=by obtain⟨h1,h2⟩:=lB h;exact nO h1 h2
theorem tw {s:List Int} (h:SOk m s) (v:Nat):(∀t,tV m s v=some t->toN m (bv m s) v=(bv m t:Nat))/\(∀u:Nat,toN m (bv m s) v=u->∃t,tV m s v=some t/\bv m t=u):=by
 have e:=lI h;unfold tV toN vN;rw[e];cases hh:dZ m (bi m s (gD m v)) with
 |false=>simp
 |true=>
  simp;omega
theorem tx {s:List Int} (h:SOk m s) (v:Nat):bV m s v=bdN m (bv m s) v:=by unfold bV bdN vN;rw[lI h]
def gf (m:Md) (k:Int):Prop:=∃i,i<nI m/\bdN m k.toNat i=true
structure Bf (m:Md) (X:XSt) (p:Nat):Prop where
 inv:XInv m X
 le:p<=X.deep.length
 dep:∀q∈X.deep,q.2<=(p:Int)
 que:X.queue.map (λs=>((bv m s:Nat):Int))=(X.deep.drop p).map (·.1)
 sound:∀q∈X.deep,∃n:Nat,q.2=n/\RN m n q.1.toNat
 sorted:X.deep.Pairwise λa b=>a.2<=b.2
 closed:∀j k d,j<p->X.deep[j]?=some (k,d)->∀i,i<nI m->∀u:Nat,toN m k.toNat i=u->∃d',bl X.deep u=some d'/\d'<=d+1
 init:∀u:Nat,RN m 0 u->bl X.deep u=some 0
 bound:∀a,X.deep[p]?=some a->∀q∈X.deep,q.2<=a.2+1
 reached:X.reached=(X.deep.length:Int)
 far:(∀q∈X.deep,q.2<=X.far)/\(X.deep=[]/\X.far=0\/∃q∈X.deep,q.2=X.far)
 bad:X.bad=true↔∃q∈X.deep.take p,gf m q.1
 badAt:X.bad=true->(∃q∈X.deep.take p,gf m q.1/\q.2=X.badAt)/\∀q∈X.deep.take p,gf m q.1->X.badAt<=q.2
 at0:X.bad=false->X.badAt=0
theorem tz:∀{l:List (Int×Int)} {k d:Int},(l.map (·.1)).Nodup->(k,d)∈l->bl l k=some d
 |[],_,_,_,h=>by simp at h
 | (a,u)::l,k,d,hn,h=>by
  rw[bQ,List.nodup_cons] at hn;simp only[bl];rcases List.mem_cons.1 h with h2|h2
  ·cases h2;simp
  ·rw[if_neg (λe=>hn.1 (List.mem_map.2 ⟨(k,d),h2,e⟩))]
   exact tz hn.2 h2
theorem Bf.begin (hc:az m=0):Bf m (eT m) 0:=by
 have hI:=tt hc;obtain⟨l,w,g⟩:=Gr.fold (m:=m) (T:=λv=>some (dl m (j6 m v))) (bdF:=λ_=>false) (e:=0) (dd:=0) (λ_ _=>rfl) (nS m) 0 xs0;rw[<-AV] at g;rw[show dC (ga m) (nS m) xs0 0=eT m from rfl] at g;have hd:(eT m).deep=l:=by rw[g.deep];rfl
 have hlen:=hI.len;have hN:nS m<=1024:=bO (n:=2) (by decide) (jp hc).2;have h0:∀q∈(eT m).deep,q.2=0:=λq hq=>(g.new q (hd▸hq)).1
 refine⟨hI,Nat.zero_le _,λq hq=>by rw[h0 q hq];exact Int.le_refl _,?_,λq hq=>?_,?_,λj k d hj=>by omega,λu hu=>?_,λa ha q hq=>?_,?_,⟨λq hq=>?_,?_⟩,?_,λhb=>?_,λhb=>?_⟩
 ·rw[g.queue,hd]
  simpa [xs0] using g.keys
 ·obtain⟨h1,i,s,_,h2,h3,h4⟩:=g.new q (hd▸hq)
  refine⟨0,by omega,i,by omega,?_⟩;cases h3;rw[h4];simp
 ·refine List.pairwise_of_forall_mem_list λa ha b hb=>?_
  rw[h0 a ha,h0 b hb];exact Int.le_refl _
 ·obtain⟨v,hv,hk⟩:=hu
  have:=g.cov v _ (Nat.zero_le _) (by omega) rfl;obtain⟨d,hd2⟩:=Option.ne_none_iff_exists'.1 this;rw[hk] at hd2;have:=h0 _ (iH hd2);simp at this;rw[hd2,this]
 ·rw[h0 q hq,h0 a (aP ha)];omega
 ·refine g.reached ?_ rfl
  rw[hd] at hlen;simp[xs0];omega
 ·rw[h0 q hq,g.far]
  split<;>simp[xs0]
 ·by_cases hl:l=[]
  ·left
   rw[g.far,hd,if_pos hl];exact⟨hl,rfl⟩
  ·right
   rw[g.far,hd,if_neg hl];obtain⟨a,ha⟩:=List.exists_mem_of_ne_nil l hl;exact⟨a,ha,(g.new a ha).1⟩
 ·rw[g.bad];simp[xs0]
 ·have:=g.bad.1 hb;simp[xs0] at this
 ·rw[g.at3 hb];rfl
theorem Bf.step (hc:az m=0) {X:XSt} {p:Nat} (h:Bf m X p) {s:List Int} {q:List (List Int)} (hq:X.queue=s::q) :
  Bf m (eR m s ((bl X.deep (bv m s)).getD 0) {X with queue:=q }) (p+1):=by
 have hN:nS m<=1024:=bO (n:=2) (by decide) (jp hc).2;have hs:=(h.inv.q s (by rw[hq];exact bF)).1;have hks:=jq hs;have hque:=h.que;rw[hq,bQ] at hque;have hpl:p<X.deep.length:=by
  rcases Nat.lt_or_ge p X.deep.length with h1|h1
  ·exact h1
  ·rw[aQ h1] at hque;cases hque
 rw[aL hpl,bQ,List.cons.injEq] at hque;obtain⟨hk1,hque⟩:=hque;have hget:X.deep[p]?=some X.deep[p]:=aA hpl;have hmem:X.deep[p]∈X.deep:=bY hpl;obtain⟨⟨ks,d0⟩,hA⟩:∃a,X.deep[p]=a:=⟨_,rfl⟩
 rw[hA] at hk1 hget hmem;simp only at hk1;subst hk1;rw[tz h.inv.nd hmem,Option.getD_some];obtain⟨n,hn,hrn⟩:=h.sound _ hmem;simp only at hn hrn;rw[Int.toNat_natCast] at hrn;have hdp:=h.dep _ hmem;have hlen:=h.inv.len;have hle:=h.le;simp only at hdp;have hw:WI.wrap (d0+1)=d0+1:=cS (by omega) (by omega);have hbound:=h.bound _ hget;simp only at hbound;obtain⟨l,w,g⟩:=Gr.fold (m:=m) (T:=tV m s) (bdF:=bV m s) (e:=d0+1) (dd:=d0) (λv hv=>by
  unfold tV at hv;unfold bV;split at hv
  ·cases hv
  ·rename_i hh;simp[hh]) (nI m) 0 {X with queue:=q }
 have hI':XInv m (eR m s d0 {X with queue:=q }):=(h.inv.pop hq).all hc hs d0;have e0:=AU (m:=m) s d0;rw[hw] at e0;rw[<-e0] at g;change Gr m _ _ _ _ 0 (nI m) _ (eR m s d0 {X with queue:=q }) l w at g;generalize eR m s d0 {X with queue:=q }=Y at *;have gd:Y.deep=X.deep++l:=g.deep;have hlen':=hI'.len;have hYlen:Y.deep.length=X.deep.length+l.length:=by rw[gd];simp
 have hYp:Y.deep[p]?=some (((bv m s:Nat):Int),d0):=by rw[gd,aJ hpl];exact hget
 have hall:∀a∈Y.deep,a.2<=d0+1:=λa ha=>by
  rw[gd] at ha;rcases bZ.1 ha with ha|ha
  ·exact hbound a ha
  ·rw[(g.new a ha).1];exact Int.le_refl _
 have hsort:Y.deep.Pairwise λa b=>a.2<=b.2:=by
  rw[gd,List.pairwise_append];refine⟨h.sorted,List.pairwise_of_forall_mem_list λa ha b hb=>?_,λa ha b hb=>?_⟩
  ·rw[(g.new a ha).1,(g.new b hb).1];exact Int.le_refl _
  ·rw[(g.new b hb).1];exact hbound a ha
 have htake:Y.deep.take (p+1)=X.deep.take p++[(((bv m s:Nat):Int),d0)]:=by rw[gd,List.take_append_of_le_length (by omega),List.take_add_one,hget];rfl
 have hbk:gf m ((bv m s:Nat):Int)↔∃i,0<=i/\i<0+nI m/\bV m s i=true:=by
  unfold gf;rw[Int.toNat_natCast];constructor
  ·rintro⟨i,h1,h2⟩;exact⟨i,by omega,by omega,by rw[tx hs];exact h2⟩
  ·rintro⟨i,_,h1,h2⟩;exact⟨i,by omega,by rw[<-tx hs];exact h2⟩
 have hbad:Y.bad=true↔X.bad=true\/gf m ((bv m s:Nat):Int):=by rw[hbk];exact g.bad
 have hle0:∀a∈X.deep.take p,a.2<=d0:=λa ha=>by have hs2:=h.sorted;rw[<-List.take_append_drop p X.deep,List.pairwise_append] at hs2;refine hs2.2.2 a ha (((bv m s:Nat):Int),d0) ?_;rw[aL hpl,hA];exact bF
 refine⟨hI',by omega,λa ha=>?_,?_,λa ha=>?_,hsort,λj k d hj hjd i hi u hu=>?_,λu hu=>?_,λa ha b hb=>?_,?_,⟨λa ha=>?_,?_⟩,?_,λhb=>?_,λhb=>?_⟩
 ·have:=hall a ha
  omega
 ·rw[g.queue,gd,List.drop_append_of_le_length (by omega),bK,bK,g.keys]
  show q.map _++_=_
  rw[hque]
 ·rw[gd] at ha
  rcases bZ.1 ha with ha|ha
  ·exact h.sound a ha
  ·obtain⟨h1,i,t,_,h2,h3,h4⟩:=g.new a ha
   refine⟨n+1,by omega,bv m s,i,hks,by omega,hrn,?_⟩;rw[(tw hs i).1 t h3,h4];simp
 ·by_cases hjp:j<p
  ·rw[gd,aJ (by omega)] at hjd
   obtain⟨d',h1,h2⟩:=h.closed j k d hjp hjd i hi u hu;exact⟨d',by rw[gd];exact nX h1,h2⟩
  ·obtain rfl:j=p:=by omega
   rw[hYp] at hjd;cases hjd;rw[Int.toNat_natCast] at hu;obtain⟨t,h1,h2⟩:=(tw hs i).2 u hu;have:=g.cov i t (Nat.zero_le _) (by omega) h1;obtain⟨d',hd'⟩:=Option.ne_none_iff_exists'.1 this;rw[h2] at hd';exact⟨d',hd',hall _ (iH hd')⟩
 ·rw[gd];exact nX (h.init u hu)
 ·have h1:=hall b hb
  have h2:d0<=a.2:=by obtain⟨hlt,ha⟩:=aD.1 ha;obtain⟨hlt2,hp⟩:=aD.1 hYp;have:=List.pairwise_iff_getElem.1 hsort p (p+1) hlt2 hlt (by omega);rw[ha,hp] at this;exact this
  omega
 ·exact g.reached (by show X.deep.length+_<=_;omega) h.reached
 ·rw[g.far]
  split
  ·rename_i hl
   rw[gd,hl,bH] at ha;exact h.far.1 a ha
  ·exact hall a ha
 ·rw[g.far]
  by_cases hl:l=[]
  ·rw[if_pos hl,gd,hl,bH]
   exact h.far.2
  ·rw[if_neg hl]
   obtain⟨a,ha⟩:=List.exists_mem_of_ne_nil l hl;exact .inr ⟨a,by rw[gd];exact bE _ ha,(g.new a ha).1⟩
 ·rw[hbad,h.bad,htake]
  constructor
  ·rintro (⟨a,h1,h2⟩|h1)
   ·exact⟨a,bD _ h1,h2⟩
   ·exact⟨(((bv m s:Nat):Int),d0),bE _ bF,h1⟩
  ·rintro⟨a,h1,h2⟩
   rcases bZ.1 h1 with h1|h1
   ·exact .inl ⟨a,h1,h2⟩
   ·simp at h1;subst h1;exact .inr h2
 ·rw[htake]
  cases hx:X.bad with
  | true=>
   rw[g.at1 hx];obtain⟨⟨a,h1,h2,h3⟩,h4⟩:=h.badAt hx;refine⟨⟨a,bD _ h1,h2,h3⟩,λb hb1 hb2=>?_⟩;rcases bZ.1 hb1 with hb1|hb1
   ·exact h4 b hb1 hb2
   ·simp at hb1;subst hb1
    have:=hle0 a h1
    show X.badAt<=d0
    omega
  | false=>
   rw[g.at2 hx hb];rw[hbad,hx] at hb;have hb:=hb.resolve_left (by simp);refine⟨⟨(((bv m s:Nat):Int),d0),bE _ bF,hb,rfl⟩,λb hb1 hb2=>?_⟩;rcases bZ.1 hb1 with hb1|hb1
   ·have:=h.bad.2 ⟨b,hb1,hb2⟩
    rw[hx] at this;cases this
   ·simp at hb1;subst hb1;exact Int.le_refl _
 ·rw[g.at3 hb]
  have hx:X.bad=false:=by
   cases hx:X.bad with
   |false=>rfl
   |true=>rw[hbad.2 (.inl hx)] at hb;cases hb
  exact h.at0 hx
theorem Bf.run (hc:az m=0):∀(n:Nat) (X:XSt) (p:Nat),Bf m X p->∃p',Bf m (eS m n X) p'
 |0,X,p,h=>⟨p,h⟩
 |n+1,X,p,h=>by
  cases hq:X.queue with
  |nil=>simp only[eS,hq];exact⟨p,h⟩
  |cons s q=>simp only[eS,hq];exact Bf.run hc n _ _ (h.step hc hq)
structure AW (m:Md) (X:XSt):Prop where
 inv:XInv m X
 find:∀(u:Nat) (d:Int),bl X.deep u=some d↔∃n:Nat,d=n/\Dist m n u
 reached:X.reached=(X.deep.length:Int)
 far:(∀q∈X.deep,q.2<=X.far)/\(X.deep=[]/\X.far=0\/∃q∈X.deep,q.2=X.far)
 bad:X.bad=true↔∃q∈X.deep,gf m q.1
 badAt:X.bad=true->(∃q∈X.deep,gf m q.1/\q.2=X.badAt)/\∀q∈X.deep,gf m q.1->X.badAt<=q.2
 at0:X.bad=false->X.badAt=0
theorem AX (hc:az m=0):(e9 m).queue=[]:=by obtain⟨_,_,_,_,_,_,h⟩:=nW (gh:=[]) hc;exact h
theorem tA (hc:az m=0):AW m (e9 m):=by
 obtain⟨p,h⟩:=Bf.run hc 2048 _ _ (Bf.begin hc);change Bf m (e9 m) p at h;have hq:=AX hc;generalize e9 m=X at *;have hp:X.deep.length<=p:=by have:=h.que;rw[hq] at this;have:=congrArg List.length this;simp at this;omega
 have htake:X.deep.take p=X.deep:=bN hp;have hbad:=h.bad;have hbadAt:=h.badAt;rw[htake] at hbad hbadAt;have comp:∀n u,RN m n u->∃d,bl X.deep u=some d/\d<=(n:Int):=by
  intro n
  induction n with
  |zero=>exact λu hu=>⟨0,h.init u hu,by simp⟩
  |succ n ih=>
   rintro u ⟨s,i,hs,hi,hr,ht⟩;obtain⟨d,h1,h2⟩:=ih s hr;obtain⟨j,hj⟩:=List.mem_iff_getElem?.1 (iH h1);have hjl:=(aD.1 hj).1;obtain⟨d',h3,h4⟩:=h.closed j _ _ (by omega) hj i hi u (by rw[Int.toNat_natCast];exact ht);exact⟨d',h3,by omega⟩
 have snd:∀(u:Nat) (d:Int),bl X.deep u=some d->∃n:Nat,d=n/\RN m n u:=λu d hd=>by obtain⟨n,h1,h2⟩:=h.sound _ (iH hd);rw[Int.toNat_natCast] at h2;exact⟨n,h1,h2⟩
 refine⟨h.inv,λu d=>⟨λhd=>?_,?_⟩,h.reached,h.far,hbad,hbadAt,h.at0⟩
 ·obtain⟨n,h1,h2⟩:=snd u d hd
  refine⟨n,h1,h2,λe he hr=>?_⟩;obtain⟨d',h3,h4⟩:=comp e u hr;rw[hd] at h3;cases h3;omega
 ·rintro⟨n,rfl,hD⟩
  obtain⟨d',h3,h4⟩:=comp n u hD.1;obtain⟨k,h5,h6⟩:=snd u d' h3;have:¬k<n:=λhk=>hD.2 k hk h6
  rw[h3]
  congr 1
  omega
end
section
variable {m:Md} {gh:List GObj}
abbrev lJ (X:XSt):PV:= .agg [I X.reached,I X.far,B X.bad,I X.badAt]
def dT (m:Md):XSt:=if az m=0 then e9 m else xs0
def lK (m:Md) (s:List Int):Bool:=if jn m s=0 then (bl (e9 m).deep (bv m s)).isSome else false
theorem tC {G:List GObj} (h:∀i,i<gh.length->G[i]?=gh[i]?) (hl:gh.length<=G.length):G.take gh.length=gh:=by
 apply List.ext_getElem?;intro i;rw[cE];split
 ·rename_i hi;exact h i hi
 ·rename_i hi;rw[List.getElem?_eq_none (by omega)]
theorem tD (h1:Sz m.inits.length) (h2:Sz m.nexts.length):af pg 244 [dI m] gh=some (.tup [lJ (dT m),I (az m)],gh):=by
 have hc:=nn (m:=m) (gh:=gh) h1 h2;unfold dT;by_cases h:az m=0
 ·rw[if_pos h]
  obtain⟨G',r1,r2,r3,r4,_⟩:=nW (gh:=gh) h;have ht:=tC r3 r4;have hb:=r2.box;rw[h] at hc ⊢;generalize e9 m=X at *;simp only[xC] at hb;rw[ch] at *;simp only[LP,LN,LI] at *;generalize X.queue.map (λl=>PV.sl false 1 (l.map I))=Q at *;generalize m.nodes.map bu=nL at *;generalize m.inits.map bj=iL at *;generalize m.nexts.map bj=xL at *;generalize m.bads.map I=bL at *;generalize m.holds.map I=hL at *
  refine aw (fn:=q1c) (s:=⟨[(2,.ptr false 1 0),(3,I 0)],[[.sl false 6 nL,.sl false 2 iL,.sl false 2 xL,.sl false 1 bL,.sl false 1 hL],[I X.reached,I X.far,B X.bad,I X.badAt]],G'⟩) rfl rfl (q9h ?h1) ?r1
  case h1=>simp[hc,r1,hb]
  case r1=>simp[au,results,q1c,av,ay,al,St.cellsAt,ht]
 ·rw[if_neg h]
  generalize az m=e at *;rw[ch] at *;refine aw (fn:=q1c) (s:=⟨[(2,.ptr false 1 0),(3,I e)],[[LN m.nodes,LP m.inits,LP m.nexts,LI m.bads,LI m.holds],[I 0,I 0,B false,I 0]],gh⟩) rfl rfl (q9h ?h2) ?r2
  case h2=>simp[hc,h]
  case r2=>simp[au,results,q1c,av,ay,al,St.cellsAt,xs0]
theorem AY {s:List Int} (h1:Sz m.inits.length) (h2:Sz m.nexts.length):af pg 319 [dI m,LI s] gh=some (.tup [B (lK m s),I (jn m s)],gh):=by
 have hc:=nn (m:=m) (gh:=gh) h1 h2;unfold lK jn;by_cases h:az m=0
 ·rw[if_pos h]
  have hm:=ez h;have hl:=hm.len;have o3:=fG (m:=m) (gh:=gh) (kind:=3) (by omega);have w3:=nu (gh:=gh) (vs:=s) (iD h 3) (bX (hJ hm 3) (by omega));by_cases he:bn m.nodes (am m.nodes 3) s=0
  ·obtain⟨G',r1,r2,r3,r4,_⟩:=nW (gh:=gh) h
   have ht:=tC r3 r4;have hb:=r2.box;have hmp:=r2.map;have hk:=nP r2.box h he;rw[show dB m.nodes (am m.nodes 3) s=bv m s from rfl] at hk;rw[h] at hc;rw[he] at w3 ⊢;rw[if_pos rfl];generalize bv m s=K at *;generalize e9 m=X at *;generalize am m.nodes 3=S at *;simp only[xC] at hb;rw[ch] at *;simp only[LP,LN,LI] at *;generalize X.queue.map (λl=>PV.sl false 1 (l.map I))=Q at *;generalize s.map I=sL at *;generalize S.map I=SL at *;generalize m.nodes.map bu=nL at *;generalize m.inits.map bj=iL at *;generalize m.nexts.map bj=xL at *;generalize m.bads.map I=bL at *
   generalize m.holds.map I=hL at *;have hk1:ac pg qu ⟨[(1,.sl false 1 sL),(2,.ptr false 0 0),(6,I 0)],[[.sl false 6 nL,.sl false 2 iL,.sl false 2 xL,.sl false 1 bL,.sl false 1 hL]],gh⟩=some (.ret,⟨[(4,B (bl X.deep K).isSome),(5,I 0)],[],G'⟩):=by refine q5n ?_;cases hf:bl X.deep K<;>simp[r1,hb,hmp,hk,hf]
   refine aw (fn:=qv) (s:=⟨[(4,B (bl X.deep K).isSome),(5,I 0)],[],G'⟩) rfl rfl (q5o ?h1) ?r1
   case h1=>simp[hc,o3,w3,hk1]
   case r1=>simp[au,results,qv,av,ay,al,ht]
  ·rw[if_neg he]
   rw[h] at hc;generalize bn m.nodes (am m.nodes 3) s=e at *;generalize am m.nodes 3=S at *;rw[ch] at *;simp only[LP,LN,LI] at *;generalize s.map I=sL at *;generalize S.map I=SL at *;generalize m.nodes.map bu=nL at *;generalize m.inits.map bj=iL at *;generalize m.nexts.map bj=xL at *;generalize m.bads.map I=bL at *;generalize m.holds.map I=hL at *;have hk1:ac pg qu ⟨[(1,.sl false 1 sL),(2,.ptr false 0 0),(6,I e)],[[.sl false 6 nL,.sl false 2 iL,.sl false 2 xL,.sl false 1 bL,.sl false 1 hL]],gh⟩=some (.ret,⟨[(4,B false),(5,I e)],[],gh⟩):=by refine q5n ?_;simp[he]
   refine aw (fn:=qv) (s:=⟨[(4,B false),(5,I e)],[],gh⟩) rfl rfl (q5o ?h2) ?r2
   case h2=>simp[hc,o3,w3,hk1]
   case r2=>simp[au,results,qv,av,ay,al]
 ·rw[if_neg h]
  rw[if_neg h];generalize az m=e at *;rw[ch] at *;simp only[LP,LN,LI] at *;generalize s.map I=sL at *;generalize m.nodes.map bu=nL at *;generalize m.inits.map bj=iL at *;generalize m.nexts.map bj=xL at *;generalize m.bads.map I=bL at *;generalize m.holds.map I=hL at *;have hk1:ac pg qu ⟨[(1,.sl false 1 sL),(2,.ptr false 0 0),(6,I e)],[[.sl false 6 nL,.sl false 2 iL,.sl false 2 xL,.sl false 1 bL,.sl false 1 hL]],gh⟩=some (.ret,⟨[(4,B false),(5,I e)],[],gh⟩):=by refine q5n ?_;simp[h]
  refine aw (fn:=qv) (s:=⟨[(4,B false),(5,I e)],[],gh⟩) rfl rfl (q5o ?h3) ?r3
  case h3=>simp[hc,h,hk1]
  case r3=>simp[au,results,qv,av,ay,al]
end
theorem AZ {m:Md} (hm:nr m):Sz m.inits.length/\Sz m.nexts.length:=by have h1:=hm.inits;have h2:=hm.nexts;have:reachBytes=140737488351232:=rfl;simp only[Sz];omega
def dK {X:Type} (m:Md) (step:X->List Int->List Int->X):X->List Int->List (List Int)->X
 |x,_,[]=>x
 |x,s,k::ks=>dK m step (step x s (bi m s k)) (dA m (bi m s k)) ks
section
variable {m:Md} {X:Type} {G:X->List GObj} {step:X->List Int->List Int->X} {μ:X->Nat} {f:Nat} {cs:List PV}
theorem tE (hcs:cs.all ah=true) (hc:∀x s V,V.length=m.nodes.length->μ x<=100->af pg f ([LI s,LI V]++cs) (G x)=some (.tup [],G (step x s V))) (hμ:∀x s V,μ (step x s V)<=μ x+1)
  {ins:List (List Int)} (hm:az m=0) (hk:∀l∈ins,bn m.nodes (am m.nodes 2) l=0) (hn:ins.length<=1000):∀(k i:Nat) (x:X) (s:List Int),i+k=ins.length->μ x+k<=101->bn m.nodes (am m.nodes 3) s=0->
  ac pg q4q ⟨[(2,.fn f cs),(3,.ptr false 0 0),(6,LI s),(15,LsI ins),(16,I ins.length),(17,I i)],[[LN m.nodes,LP m.inits,LP m.nexts,LI m.bads,LI m.holds]],G x⟩=some (.normal,⟨[],[],G (dK m step x s (ins.drop i))⟩)
 |0,i,x,s,hi,_,_=>by
  have hlt:¬(i:Int)<(ins.length:Int):=by omega
  rw[aQ (by omega),dK];refine (cX (s1:=?s1) (q9k ?h1)).trans ?r1
  case h1=>simp only[aF hlt,dJ];rfl
  case r1=>simp[keep,bo]
 | k+1,i,x,s,hi,hx0,hs=>by
  have hlt:i<ins.length:=by omega
  have hltI:(i:Int)<(ins.length:Int):=by omega
  have hx:(ins.map λl=>LI l)[i]?=some (LI ins[i]):=by simp[hlt]
  have hwr:WI.wrap ((i:Int)+1)=((i+1:Nat):Int):=iA (by simp only[Sz];omega);have hg:VGood m.nodes 0 [] s ins[i]:=jY hs (hk _ (bY hlt));have hV:(bi m s ins[i]).length=m.nodes.length:=iE;have e1:=nD (gh:=G x) hm hg;have e2:=hc x s (bi m s ins[i]) hV (by omega);have e3:=sO (gh:=G (step x s (bi m s ins[i]))) hm hV;have hnx:=lz hm (j0 hm hg) hV;have hmu:=hμ x s (bi m s ins[i]);have ih:=tE hcs hc hμ hm hk hn k (i+1) (step x s (bi m s ins[i])) (dA m (bi m s ins[i])) (by omega) (by omega) hnx;have ha:=λ(y:Option (ag×St))=>jQ (x:=y) hcs
  rw[aL hlt,dK];generalize dK m step (step x s (bi m s ins[i])) (dA m (bi m s ins[i])) (ins.drop (i+1))=R at *;generalize step x s (bi m s ins[i])=y at *;generalize dA m (bi m s ins[i])=nx at *;generalize bi m s ins[i]=V at *;generalize ins[i]=l at *;obtain⟨u,hu⟩:∃u:Int,((i+1:Nat):Int)=u:=⟨_,rfl⟩
  rw[hu] at hwr ih;rw[ch] at *;simp only[LsI,LI] at *;have hlI:ins.length=(ins.map λl=>PV.sl false 1 (l.map I)).length:=(bC _).symm;rw[hlI] at ih hltI ⊢;generalize (ins.map λl=>PV.sl false 1 (l.map I))=L at *;generalize l.map I=lL at *;generalize V.map I=vL at *;generalize s.map I=sL at *;generalize nx.map I=nL' at *;generalize m.bads.map I=bL at *;generalize m.holds.map I=hL at *;generalize m.nodes.map bu=nL at *;generalize m.inits.map bj=iL at *;generalize m.nexts.map bj=xL at *;refine bq (q9k ?h3) ih
  case h3=>
   simp only[bJ,bI] at e2;simp[hltI,hx,e1,ha,e2,e3,hwr]
theorem tF (hcs:cs.all ah=true)
  (hc:∀x s V,V.length=m.nodes.length->μ x<=100->af pg f ([LI s,LI V]++cs) (G x)=some (.tup [],G (step x s V))) (hμ:∀x s V,μ (step x s V)<=μ x+1)
  {st:List Int} {ins:List (List Int)} (ht:nK m st ins) {x:X} (hx:μ x=0) :
  af pg 253 [dI m,ek st ins,.fn f cs] (G x)=some (.tup [],G (dK m step x (dl m st) ins)):=by
 have h1:=sH (gh:=G x) ht.chk (Aw ht.start);have h2:=tE hcs hc hμ ht.chk ht.inputs (by have:=ht.len;omega) ins.length 0 x (dl m st) (by omega) (by have:=ht.len;omega) (nJ ht.chk ht.start);rw[bM,aW] at h2;generalize dK m step x (dl m st) ins=R at *;generalize dl m st=F at *;have hlI:(ins.map λl=>LI l).length=ins.length:=bC _;rw[<-hlI] at h2;rw[ch] at *;simp only[ek,LsI,LI] at *;generalize (ins.map λl=>PV.sl false 1 (l.map I))=L at *;generalize st.map I=sL at *;generalize F.map I=fL at *
 have h3:ac pg q4r ⟨[(0,.agg [LN m.nodes,LP m.inits,LP m.nexts,LI m.bads,LI m.holds]),(1,.agg [.sl false 1 sL,.sl false 1 L]),(2,.fn f cs)],[],G x⟩=some (.normal,⟨[],[],G R⟩):=by refine qcu ?_;simp[h1,h2]
 rw[gz (fn:=q4s) rfl rfl h3];simp[au,results,q4s,av,al]
end
def nZ (m:Md) (s:List Int) (ks:List (List Int)):List (List Int):=dK m (λ(x:List (List Int)) s _=>x++[s]) [] s ks
def lM (m:Md) (s:List Int) (ks:List (List Int)):Bool×Bool:=dK m (λ(x:Bool×Bool) _ V=>(x.1&&dZ m V,eK m V)) (true,false) s ks
def fJ (m:Md) (st:List Int) (ins:List (List Int)):List (List Int):=if eM m st ins=0 then nZ m (dl m st) ins else []
def iI (m:Md) (st:List Int) (ins:List (List Int)):Bool:=if eM m st ins=0 then (lM m (dl m st) ins).1&&(lM m (dl m st) ins).2 else false
section
variable {m:Md} {gh:List GObj}
def plG (gh:List GObj) (x:List (List Int)):List GObj:=gh++[.cells [.sl true 1 (x.map λl=>LI l)]]
theorem A5 {x:List (List Int)} {s V:List Int} (hx:x.length<=100):af pg 382 ([LI s,LI V]++[.ptr true gh.length 0]) (plG gh x)=some (.tup [],plG gh (x++[s])):=by
 have hmx:(x.length+1)*24<=maxBytes:=by have:=MB;omega
 have h1:=qcx (pg:=pg) (gh:=plG gh x) (v0:=LI s) (v1:=LI V) (g2:=gh.length) (o2:=0) (e:= .normal) (s:=⟨[],[],plG gh (x++[s])⟩) (by simp[plG,hmx,ar]);simp only[bJ,bI];rw[gz (fn:=q4t) rfl rfl h1];simp[au,results,q4t,av,al]
theorem noGs_ints' (l:List Int):cU (l.map I)=true:=by
 induction l with
 |nil=>rfl
 |cons a l ih=>exact ih
theorem A6 (P:List (List Int)):cU (P.map λl=>LI l)=true:=by
 induction P with
 |nil=>rfl
 |cons a P ih=>
  rw[bQ,rE,ih,y1,noGs_ints'];rfl
theorem A7 {st:List Int} {ins:List (List Int)} (h1:Sz m.inits.length) (h2:Sz m.nexts.length):af pg 375 [dI m,ek st ins] gh=some (.tup [LsI (fJ m st ins),I (eM m st ins)],gh):=by
 have hc:=sX (gh:=gh) (st:=st) (ins:=ins) h1 h2;unfold fJ;by_cases h0:eM m st ins=0
 ·rw[if_pos h0]
  have ht:=nM h0;have hp:=tF (m:=m) (X:=List (List Int)) (G:=plG gh) (step:=λx s _=>x++[s]) (μ:=List.length) (f:=382) (cs:=[.ptr true gh.length 0]) (by simp) (λx s V _ hx=>A5 hx) (λx s V=>by simp) ht (x:=[]) rfl;change af pg 253 _ _=some (_,plG gh (nZ m (dl m st) ins)) at hp;rw[h0] at hc ⊢;generalize nZ m (dl m st) ins=P at *;rw[ch] at *;have hnb:cU (P.map λl=>LI l)=true:=A6 P;simp only[ek,LsI,LI,plG,bR] at *;generalize (ins.map λl=>PV.sl false 1 (l.map I))=L at *;generalize (P.map λl=>PV.sl false 1 (l.map I))=pL at *;generalize st.map I=sL at *
  refine aw (fn:=q1l) (s:=?s1) rfl rfl (q9l ?h1) ?r1
  case h1=>simp[hc,hp];rfl
  case r1=>simp[au,results,q1l,av,ay,al,hnb]
 ·rw[if_neg h0]
  generalize eM m st ins=e at *;rw[ch] at *;simp only[ek,LsI,LI] at *;generalize (ins.map λl=>PV.sl false 1 (l.map I))=L at *;generalize st.map I=sL at *;refine aw (fn:=q1l) (s:=?s2) rfl rfl (q9l ?h2) ?r2
  case h2=>simp[hc,h0];rfl
  case r2=>simp[au,results,q1l,av,ay,al]
def bdG (gh:List GObj) (m:Md) (x:Bool×Bool):List GObj:=gh++[.cells [LN m.nodes,LP m.inits,LP m.nexts,LI m.bads,LI m.holds],.cells [B x.1],.cells [B x.2]]
theorem A8 {x:Bool×Bool} {s V:List Int} (hm:az m=0) (hV:V.length=m.nodes.length):af pg 252 ([LI s,LI V]++[.ptr true gh.length 0,.ptr true (gh.length+1) 0,.ptr true (gh.length+2) 0]) (bdG gh m x)=some (.tup [],bdG gh m (x.1&&dZ m V,eK m V)):=by
 have hk:=sT (gh:=bdG gh m x) hm hV;rw[ch] at hk;obtain⟨a,b⟩:=x;simp only[bdG] at *;generalize dZ m V=h at *;generalize eK m V=d at *;simp only[LI,LN,LP] at *;generalize V.map I=vL at *;generalize s.map I=sL at *;generalize m.bads.map I=bL at *;generalize m.holds.map I=hL at *;generalize m.nodes.map bu=nL at *;generalize m.inits.map bj=iL at *;generalize m.nexts.map bj=xL at *
 have h1:=qd0 (pg:=pg) (gh:=gh++[.cells [.sl false 6 nL,.sl false 2 iL,.sl false 2 xL,.sl false 1 bL,.sl false 1 hL],.cells [B a],.cells [B b]]) (v0:= .sl false 1 sL) (v1:= .sl false 1 vL) (g2:=gh.length) (o2:=0) (g3:=gh.length+1) (o3:=0) (g4:=gh.length+2) (o4:=0) (e:= .normal)
  (s:=⟨[],[],gh++[.cells [.sl false 6 nL,.sl false 2 iL,.sl false 2 xL,.sl false 1 bL,.sl false 1 hL],.cells [B (a&&h)],.cells [B d]]⟩) (by
  cases a<;>simp[hk,ar])
 simp only[bJ,bI];rw[gz (fn:=q4p) rfl rfl h1];simp[au,results,q4p,av,al]
theorem A9 {st:List Int} {ins:List (List Int)} (h1:Sz m.inits.length) (h2:Sz m.nexts.length):af pg 245 [dI m,ek st ins] gh=some (.tup [B (iI m st ins),I (eM m st ins)],gh):=by
 have hc:=sX (gh:=gh++[.cells [LN m.nodes,LP m.inits,LP m.nexts,LI m.bads,LI m.holds]]) (st:=st) (ins:=ins) h1 h2;unfold iI;by_cases h0:eM m st ins=0
 ·rw[if_pos h0]
  have ht:=nM h0;have hp:=tF (m:=m) (X:=Bool×Bool) (G:=bdG gh m) (step:=λx _ V=>(x.1&&dZ m V,eK m V)) (μ:=λ_=>0) (f:=252) (cs:=[.ptr true gh.length 0,.ptr true (gh.length+1) 0,.ptr true (gh.length+2) 0]) (by simp) (λx s V hV _=>A8 ht.chk hV) (λx s V=>by simp) ht (x:=(true,false)) rfl;change af pg 253 _ _=some (_,bdG gh m (lM m (dl m st) ins)) at hp;rw[h0] at hc ⊢;generalize lM m (dl m st) ins=ab at *;obtain⟨a,b⟩:=ab;rw[ch] at *;simp only[ek,LsI,LI,LN,LP,bdG] at *;generalize (ins.map λl=>PV.sl false 1 (l.map I))=L at *;generalize st.map I=sL at *;generalize m.bads.map I=bL at *
  generalize m.holds.map I=hL at *;generalize m.nodes.map bu=nL at *;generalize m.inits.map bj=iL at *;generalize m.nexts.map bj=xL at *;refine aw (fn:=q1k) (s:=⟨[(4,B (a&&b)),(5,I 0)],[],gh++[.cells [.sl false 6 nL,.sl false 2 iL,.sl false 2 xL,.sl false 1 bL,.sl false 1 hL],.cells [B a],.cells [B b]]⟩) rfl rfl (q9m ?h1) ?r1
  case h1=>
   have e2:gh.length+1+1=gh.length+2:=rfl;cases a<;>simp[hc,hp,ar,e2]
  case r1=>simp[au,results,q1k,av,ay,al]
 ·rw[if_neg h0]
  generalize eM m st ins=e at *;rw[ch] at *;simp only[ek,LsI,LI] at *;generalize (ins.map λl=>PV.sl false 1 (l.map I))=L at *;generalize st.map I=sL at *;refine aw (fn:=q1k) (s:=?s2) rfl rfl (q9m ?h2) ?r2
  case h2=>simp[hc,h0];rfl
  case r2=>simp[au,results,q1k,av,ay,al]
end
section
open Go.RowKit
theorem csOk_slice' {g:Bool} {bytes:Nat} {l:List CS} {p:PV} (h:fT (.slice g bytes l) p):∃xs,p= .sl false l.length xs/\xs.length*bytes<=reachBytes/\∀e∈xs,(g=true/\∃ps,e= .agg ps/\bm l ps)\/(g=false/\bm l [e]):=by unfold fT at h;exact h
theorem int_list':∀{xs:List PV},(∀e∈xs,(false=true/\∃ps,e= .agg ps/\bm [.int] ps)\/(false=false/\bm [.int] [e]))->∃v:List Int,ly v/\xs=v.map I
 |[],_=>⟨[],λx h=>(by cases h),rfl⟩
 | e::xs,h=>by
  obtain⟨v,hr,rfl⟩:=int_list' (xs:=xs) λe he=>h e (bG _ he)
  rcases h e (by simp) with ⟨h,-⟩|⟨-,hp⟩
  ·cases h
  ·obtain⟨_,_,e1,g0,hp⟩:=dV hp
   cases je hp;simp only[List.cons.injEq,and_true] at e1;subst e1;obtain⟨b,rfl,hb⟩:=fU g0;refine⟨b::v,λx hx=>?_,rfl⟩;rcases List.mem_cons.1 hx with rfl|hx
   ·exact hb
   ·exact hr x hx
theorem list_list' {xs:List PV} (h:∀e∈xs,(false=true/\∃ps,e= .agg ps/\bm [.slice false 8 [.int]] ps)\/(false=false/\bm [.slice false 8 [.int]] [e])):∃cls:List (List Int),xs=(cls.map λl=>LI l)/\∀l∈cls,ly l:=by
 induction xs with
 |nil=>exact⟨[],rfl,λl h=>by cases h⟩
 | cons x xs ih=>
  obtain⟨cls,rfl,hs⟩:=ih λe he=>h e (bG _ he)
  rcases h x (bF ..) with ⟨h1,_⟩|⟨_,h1⟩
  ·cases h1
  ·obtain⟨_,_,e,g0,hp⟩:=dV h1
   injection e with e1 e2
   subst e1;subst e2;obtain⟨ys,rfl,hb,hy⟩:=csOk_slice' g0;obtain⟨v,hv,rfl⟩:=int_list' hy;refine⟨v::cls,rfl,λl hl=>?_⟩;rcases List.mem_cons.1 hl with rfl|hl
   ·exact hv
   ·exact hs l hl
abbrev tN:List CS:=[.slice false 8 [.int],.slice false 24 [.slice false 8 [.int]]]
theorem Bh {p:PV} (h:gr (true,tN) p):∃st ins,p=ek st ins/\ly st/\∀l∈ins,ly l:=by obtain⟨ps,rfl,hp⟩:=qW h;obtain⟨_,_,rfl,g0,hp⟩:=dV hp;obtain⟨_,_,rfl,g1,hp⟩:=dV hp;obtain rfl:=je hp;obtain⟨xs,rfl,hb,hx⟩:=csOk_slice' g0;obtain⟨st,hs,rfl⟩:=int_list' hx;obtain⟨ys,rfl,hb,hy⟩:=csOk_slice' g1;obtain⟨ins,rfl,hi⟩:=list_list' hy;exact⟨st,ins,rfl,hs,hi⟩
end
theorem toggle_foundF:az toggleM=0/\(dT toggleM).reached=2/\(dT toggleM).far=1/\(dT toggleM).bad=true/\(dT toggleM).badAt=1:=by decide +kernel
theorem Bi {gh:List GObj}:af pg 241 [] gh=some (B true,gh):=by
 have ht:=zY (gh:=gh);have hX:=tD (gh:=gh) (m:=toggleM) (by decide) (by decide);rw[toggle_foundF.1] at hX;unfold lJ at hX;rw[toggle_foundF.2.1,toggle_foundF.2.2.1,toggle_foundF.2.2.2.1,toggle_foundF.2.2.2.2] at hX;rw[ch] at *;generalize toggleM.nodes.map bu=N at *;generalize toggleM.inits.map bj=N1 at *;generalize toggleM.nexts.map bj=N2 at *;simp only[LI] at *;generalize toggleM.bads.map I=N3 at *;generalize toggleM.holds.map I=N4 at *;refine aw (fn:=q3r) (s:=⟨[(0,B true)],[],gh⟩) rfl rfl (qd2 ?h1) ?r1
 case h1=>simp[ht,hX]
 case r1=>simp[au,results,q3r,av,ay,al]
section
variable {m:Md}
theorem tP {k:List Int} (hk:bn m.nodes (am m.nodes 2) k=0):∃v,v<nI m/\gD m v=k:=by obtain⟨h1,h2⟩:=lB hk;exact⟨dB m.nodes (am m.nodes 2) k,lA h2,nO h1 h2⟩
theorem tQ {s k:List Int} (hs:SOk m s) {v:Nat} (hv:gD m v=k):vN m (bv m s) v=bi m s k:=by unfold vN;rw[lI hs,hv]
def mSt (m:Md):Bool×Bool->List Int->List Int->Bool×Bool:=λx _ V=>(x.1&&dZ m V,eK m V)
def sSt:List (List Int)->List Int->List Int->List (List Int):=λx s _=>x++[s]
theorem tR:∀(ks:List (List Int)) (s:List Int) (x:Bool×Bool),(dK m (mSt m) x s ks).1=true->x.1=true
 |[],s,x,h=>h
 |k::ks,s,x,h=>by rw[dK] at h;have:=tR ks _ _ h;unfold mSt at this;simp only[aX] at this;exact this.1
theorem tS (hc:az m=0):∀(ks:List (List Int)) (s:List Int) (n:Nat) (x:Bool×Bool) (y:List (List Int)),ks≠[]->(∀k∈ks,bn m.nodes (am m.nodes 2) k=0)->SOk m s->RN m n (bv m s)->(dK m (mSt m) x s ks).1=true->(dK m (mSt m) x s ks).2=true->
  ∃t,(dK m sSt y s ks).getLast?=some t/\(dK m sSt y s ks).length=y.length+ks.length/\SOk m t/\RN m (n+ks.length-1) (bv m t)/\gf m ((bv m t:Nat):Int)
 |[],_,_,_,_,h,_,_,_,_,_=>absurd rfl h
 |[k],s,n,x,y,_,hk,hs,hr,h1,h2=>by obtain⟨v,hv1,hv2⟩:=tP (hk k (by simp));simp only[dK,mSt,aX] at h1 h2;refine⟨s,by simp[dK,sSt],by simp[dK,sSt],hs,by simpa using hr,v,hv1,?_⟩;rw[Int.toNat_natCast];unfold bdN;rw[tQ hs hv2,h2,h1.2];rfl
 | k::k2::ks,s,n,x,y,_,hk,hs,hr,h1,h2=>by
  obtain⟨v,hv1,hv2⟩:=tP (hk k (by simp));rw[dK] at h1 h2;have hh:dZ m (bi m s k)=true:=by have:=tR _ _ _ h1;unfold mSt at this;simp only[aX] at this;exact this.2
  have hn:=lH hc hs (hk k (by simp));have hr2:RN m (n+1) (bv m (dA m (bi m s k))):=by refine⟨bv m s,v,jq hs,hv1,hr,?_⟩;unfold toN;rw[tQ hs hv2,if_pos hh]
  obtain⟨t,g1,g2,g3,g4,g5⟩:=tS hc (k2::ks) _ (n+1) _ (sSt y s (bi m s k)) (by simp) (λl hl=>hk l (by simp only[List.mem_cons] at hl ⊢;exact .inr hl)) hn hr2 h1 h2;have ey:(sSt y s (bi m s k)).length=y.length+1:=by simp[sSt]
  rw[dK];refine⟨t,g1,by rw[g2,ey];simp;omega,g3,?_,g5⟩;simp only[bB] at g4 ⊢;rw[show n+(ks.length+1+1)-1=n+1+(ks.length+1)-1 by omega];exact g4
theorem finds (hc:az m=0) {st:List Int} {ins:List (List Int)} (ht:nK m st ins) (hb:iI m st ins=true) (h0:eM m st ins=0) :
  (dT m).bad=true/\(dT m).badAt<=((ins.length-1:Nat):Int)/\∃t,(fJ m st ins)[(fJ m st ins).length-1]?=some t/\(fJ m st ins).length=ins.length/\jn m t=0/\lK m t=true:=by
 have hF:=tA hc;have e:dT m=e9 m:=by unfold dT;rw[if_pos hc]
 have hfirst:=nJ hc ht.start;have hr0:RN m 0 (bv m (dl m st)):=⟨bv m st,jq ht.start,by rw[lI ht.start]⟩
 have hne:ins≠[]:=by have:=ht.len;intro h;rw[h] at this;simp at this
 unfold iI at hb;rw[if_pos h0] at hb;simp only[aX] at hb;obtain⟨t,g1,g2,g3,g4,g5⟩:=tS hc ins _ 0 (true,false) [] hne ht.inputs hfirst hr0 hb.1 hb.2;rw[cO] at g4;have eL:fJ m st ins=dK m sSt [] (dl m st) ins:=by unfold fJ;rw[if_pos h0];rfl
 obtain⟨d,hd1,hd2⟩:=g4.dist;have hf:=(hF.find _ _).2 ⟨d,rfl,hd2⟩;have hbad:=hF.bad.2 ⟨_,iH hf,g5⟩;have hbe:jn m t=0:=by unfold jn;rw[if_pos hc];exact g3
 rw[e,eL];refine⟨hbad,?_,t,by rw[<-List.getLast?_eq_getElem?];exact g1,by simpa using g2,hbe,?_⟩
 ·have:=(hF.badAt hbad).2 _ (iH hf) g5
  simp only at this;omega
 ·unfold lK
  rw[if_pos hbe,hf];rfl
end
abbrev tT:List (Bool×List CS):=[(true,sg),(true,tN)]
theorem Bj {m:Md} {st:List Int} {ins:List (List Int)} (hm:nr m):af pg 378 [dI m,ek st ins] []=some (B true,[]):=by
 obtain⟨h1,h2⟩:=AZ hm;have hX:=tD (m:=m) (gh:=[]) h1 h2;have hB:=A9 (m:=m) (gh:=[]) (st:=st) (ins:=ins) h1 h2;have hP:=A7 (m:=m) (gh:=[]) (st:=st) (ins:=ins) h1 h2;have hC:=λt=>AY (m:=m) (gh:=[]) (s:=t) h1 h2
 have bg:=Bi (gh:=[]);have tb:=Bg;by_cases h0:eM m st ins=0
 ·have ht:=nM h0
  have hc:=ht.chk;have hlen:=ht.len;rw[hc] at hX;rw[h0] at hB hP;have hF:=tA hc;have e:dT m=e9 m:=by unfold dT;rw[if_pos hc]
  have hfar:(dT m).bad=true->¬(dT m).far<(dT m).badAt:=λhb=>by rw[e] at hb ⊢;obtain⟨⟨q,q1,_,q3⟩,_⟩:=hF.badAt hb;have:=hF.far.1 q q1;omega
  have hw1:WI.wrap ((ins.length:Int)-1)=((ins.length-1:Nat):Int):=by rw[cS (by omega) (by omega)];omega
  have hlm:(ins.map λl=>LI l).length=ins.length:=by simp
  unfold lJ at hX;by_cases hb:iI m st ins=true
  ·obtain⟨f1,f2,t,f3,f4,f5,f6⟩:=finds hc ht hb h0
   have hC:=hC t;rw[f5,f6] at hC;rw[hb] at hB;have hfar:=hfar f1;have hn2:¬((ins.length-1:Nat):Int)<(dT m).badAt:=by omega
   rw[f1] at hX;clear hF e;generalize dT m=X at *;have hpl:((fJ m st ins).map λl=>LI l).length=ins.length:=by simp[f4]
   have hpg:((fJ m st ins).map λl=>LI l)[ins.length-1]?=some (LI t):=by rw[<-f4,aB,f3];rfl
   have hll:decide (ins.length-1<((fJ m st ins).map λl=>LI l).length)=true:=aG (by omega);have hz:ins.length≠0:=by omega
   rw[ch] at *;simp only[ek,LsI,LI,LN,LP] at *;generalize (fJ m st ins).map (λl=>PV.sl false 1 (l.map I))=pL at *;generalize (ins.map λl=>PV.sl false 1 (l.map I))=iL at *;generalize ins.length=n at *;refine aw (fn:=qw) (s:=⟨[(4,B true)],[],[]⟩) rfl rfl (q5p ?h1) ?r1
   case h1=>simp[bg,tb,hX,hB,hP,hC,hfar,hlm,hw1,hn2,hpl,hz,hpg,hll,-List.getElem?_map]
   case r1=>simp[au,results,qw,av,ay,al]
  ·have hb:iI m st ins=false:=by simpa using hb
   rw[hb] at hB;clear hF e;generalize dT m=X at *;rw[ch] at *;simp only[ek,LsI,LI,LN,LP] at *;generalize (ins.map λl=>PV.sl false 1 (l.map I))=iL at *;refine aw (fn:=qw) (s:=⟨[(4,B true)],[],[]⟩) rfl rfl (q5p ?h2) ?r2
   case h2=>
    cases hx:X.bad with
    |false=>rw[hx] at hX;simp[bg,tb,hX,hB]
    |true=>rw[hx] at hX;simp[bg,tb,hX,hB,hfar hx]
   case r2=>simp[au,results,qw,av,ay,al]
 ·generalize hb:iI m st ins=b at *
  unfold lJ at hX;generalize dT m=X at *;generalize az m=c at *;generalize eM m st ins=e at *;rw[ch] at *;simp only[ek,LsI,LI,LN,LP] at *;generalize (ins.map λl=>PV.sl false 1 (l.map I))=iL at *;refine aw (fn:=qw) (s:=⟨[(4,B true)],[],[]⟩) rfl rfl (q5p ?h3) ?r3
  case h3=>
   by_cases hc:c=0
   ·subst hc
    simp[bg,tb,hX,hB,h0]
   ·simp[bg,tb,hX,hB,h0,hc]
  case r3=>simp[au,results,qw,av,ay,al]
theorem Bk (qs:List PV) (h:eY tT qs) (_hn:dj qs<=1048576):af pg 378 qs []=some (B true,[]):=by obtain⟨_,_,rfl,h0,h⟩:=qV h;obtain⟨_,_,rfl,h1,h⟩:=qV h;obtain rfl:=wZ h;obtain⟨m,rfl,hm⟩:=zZ h0;obtain⟨st,ins,rfl,-,-⟩:=Bh h1;exact Bj hm
end Go.Lw