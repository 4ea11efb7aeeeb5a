/-
  The texts that the proof stands on, part 29.
-/
import Derived.Test.YtmodipglnngghadGreatDoorRestModelsZ2
set_option linter.unusedVariables false
set_option linter.unusedSimpArgs false
set_option linter.unnecessarySimpa false

set_option maxRecDepth 100000
set_option maxHeartbeats 4000000
namespace Go.Lw
open Go
section
attribute [local congr] bu
attribute [local simp] au
section
variable {L:List Nd} {i:Nat} {acc ss ks:fq} {x:Nd}
theorem SC {k e a b c n g f i:Int} (z:ir k e n g f i=0) (u:0<=a/\a<((2^g.toNat:Nat):Int)) (F:0<=b) (t:1<ar k->b<((2^f.toNat:Nat):Int)) (E:0<=c) (r:2<ar k->c<((2^i.toNat:Nat):Int)) (gh:fB) :
  ac pg 28 [I k,I e,I a,I b,I c,I n,.agg [I g,I f,I i]] gh=some (I (cy k e a b c n g f),gh):=by
 obtain⟨p,hw,w,o,v,s,y,j⟩:=rj z;have x:=Kn p;unfold wOk at w o v;rw[if_pos x] at w;have hn:0<=n:=by
  unfold b9 at j;by_cases q:s=6
  ·simp[q] at j;omega
  ·by_cases hn:n=0
   ·omega
   ·simp[q,hn] at j
 have m:0<=f:=by split at o<;>omega
 have l:0<=i:=by split at v<;>omega
 obtain⟨d,rfl⟩:=JD (show 0<=e by omega);obtain⟨A,rfl⟩:=JD u.1;obtain⟨B,rfl⟩:=JD F;obtain⟨C,rfl⟩:=JD E;obtain⟨N,rfl⟩:=JD hn;obtain⟨L,rfl⟩:=JD (show 0<=g by omega);obtain⟨H,rfl⟩:=JD m;obtain⟨G,rfl⟩:=JD l;rw[Int.toNat_natCast] at u t r;have D:=SA (gh:=gh) (A:=A) (B:=B) (C:=C) p y j aj aj (λh=>by rw[if_pos h] at o;omega) aj (λh=>by have:=t h;omega) (λh=>by have:=r h;omega);refine ak (fn:=qme) rfl rfl D ?J;simp[ag,results,qme,ah,am,af]
theorem SD (h:VGood L i acc ss ks) (d:pf L i x) (e:fB) :
  ac pg 28 [I x.k,I x.w,I (acc.getD x.a.toNat 0),I (acc.getD x.b.toNat 0),I (acc.getD x.c.toNat 0),I x.n,gV L x] e=some (I (ma L acc x),e):=by
 have l:=Kn (rj d.fit).1;have j:=JG h d.a;have g:=JG h d.b;have f:=JG h d.c;refine SC d.fit ⟨j.1,?_⟩ g.1 (λo=>?_) f.1 (λm=>?_) e
 ·rw[show wdJ L x.k 0 x.a=wAt L x.a from if_pos l];exact j.2
 ·rw[show wdJ L x.k 1 x.b=wAt L x.b from if_pos o];exact g.2
 ·rw[show wdJ L x.k 2 x.c=wAt L x.c from if_pos m];exact f.2
end
section
variable {m:Md} {gh:fB}
theorem SE {b i s k e:Nat} {G j:fB} {O S d:fw} {v:Int} {x:Nd} (t:(i:Int)<(m.nodes.length:Int)) (A:i<=1000) (C:s<=1000) (D:k<=1000) (u:(m.nodes.map nodeV)[i]?=some (.agg [I x.k,I x.w,I x.a,I x.b,I x.c,I x.n])) (r:G[b]?=some (.cells O)) (z:i<e) (l:O.length=e) (f:G.set b (.cells (au O i [I v]))=j) (y:v=x.n) (B:decide (x.k=1)=true) :
  evK pg qk0 fiK ⟨[(1,(cr S)),(2,(cr d)),(3,(ec)),(7,(.bs true b 0 e 1)),(8,(.int .i64 s)),(9,(.int .i64 k)),(10,(.int .i64 i))],[[(LN m.nodes),(LP m.inits),(LP m.nexts),(LI m.bads),(LI m.holds)]],G⟩=
   fg ⟨[(1,cr S),(2,cr d),(3,ec),(7,.bs true b 0 e 1),(8,I ((s:Nat))),(9,I ((k:Nat))),(10,I (((i+1:Nat):Int)))],[[LN m.nodes,LP m.inits,LP m.nexts,LI m.bads,LI m.holds]],j⟩:=by
 have q:(i:Int)<(e:Int):=aj;have g:i+1<=e:=aj;have h:bm pg qk5 ⟨[(1,cr S),(2,cr d),(3,ec),(7,.bs true b 0 e 1),(8,I ((s:Nat))),(9,I ((k:Nat))),(10,I (i))],[[LN m.nodes,LP m.inits,LP m.nexts,LI m.bads,LI m.holds]],j⟩=fg ⟨[(1,cr S),(2,cr d),(3,ec),(7,.bs true b 0 e 1),(8,I ((s:Nat))),(9,I ((k:Nat))),(10,I (((i+1:Nat):Int)))],[[LN m.nodes,LP m.inits,LP m.nexts,LI m.bads,LI m.holds]],j⟩:=by refine bg ?_;simp[qk5,wrS _ A]
 push_cast at h
 subst y;unfold LI LN LP at *;have o:i<(m.nodes.map nodeV).length:=by rw[aW];omega
 have p:=aG o;generalize m.nodes.map nodeV=F,m.inits.map andV=H,m.nexts.map andV=E,m.bads.map I=M,m.holds.map I=L at *;simp only[au,aV,cF,cX,aT,bH,bF] at f;simp[qk0,p,u,B,r,q,g,l,f,h,-getElem?_pos,-getElem?_neg,List.getElem?_cons_zero,List.getElem?_cons_succ]
theorem SF {b i s k e:Nat} {G j:fB} {O S d:fw} {v:Int} {x:Nd} (t:(i:Int)<(m.nodes.length:Int)) (A:i<=1000) (E:s<=1000) (z:k<=1000) (u:(m.nodes.map nodeV)[i]?=some (.agg [I x.k,I x.w,I x.a,I x.b,I x.c,I x.n])) (r:G[b]?=some (.cells O)) (y:i<e) (l:O.length=e) (f:G.set b (.cells (au O i [I v]))=j) (B:d[k]?=some (I v)) (D:decide (x.k=1)=false) (C:decide (x.k=2)=true) :
  evK pg qk0 fiK ⟨[(1,(cr S)),(2,(cr d)),(3,(ec)),(7,(.bs true b 0 e 1)),(8,(.int .i64 s)),(9,(.int .i64 k)),(10,(.int .i64 i))],[[(LN m.nodes),(LP m.inits),(LP m.nexts),(LI m.bads),(LI m.holds)]],G⟩=
   fg ⟨[(1,cr S),(2,cr d),(3,ec),(7,.bs true b 0 e 1),(8,I ((s:Nat))),(9,I (((k+1:Nat):Int))),(10,I (((i+1:Nat):Int)))],[[LN m.nodes,LP m.inits,LP m.nexts,LI m.bads,LI m.holds]],j⟩:=by
 have q:(i:Int)<(e:Int):=aj;have g:i+1<=e:=aj;have h:bm pg qk5 ⟨[(1,cr S),(2,cr d),(3,ec),(7,.bs true b 0 e 1),(8,I ((s:Nat))),(9,I (((k+1:Nat):Int))),(10,I (i))],[[LN m.nodes,LP m.inits,LP m.nexts,LI m.bads,LI m.holds]],j⟩=fg ⟨[(1,cr S),(2,cr d),(3,ec),(7,.bs true b 0 e 1),(8,I ((s:Nat))),(9,I (((k+1:Nat):Int))),(10,I (((i+1:Nat):Int)))],[[LN m.nodes,LP m.inits,LP m.nexts,LI m.bads,LI m.holds]],j⟩:=by refine bg ?_;simp[qk5,wrS _ A]
 push_cast at h
 unfold LI LN LP at *;have o:i<(m.nodes.map nodeV).length:=by rw[aW];omega
 have p:=aG o;generalize m.nodes.map nodeV=H,m.inits.map andV=L,m.nexts.map andV=F,m.bads.map I=N,m.holds.map I=M at *;simp only[au,aV,cF,cX,aT,bH,bF] at f;simp[qk0,p,u,D,C,B,wrS _ z,r,q,g,l,f,h,-getElem?_pos,-getElem?_neg,List.getElem?_cons_zero,List.getElem?_cons_succ]
theorem SG {b i s k e:Nat} {G j:fB} {O S d:fw} {v:Int} {x:Nd} (t:(i:Int)<(m.nodes.length:Int)) (A:i<=1000) (y:s<=1000) (F:k<=1000) (u:(m.nodes.map nodeV)[i]?=some (.agg [I x.k,I x.w,I x.a,I x.b,I x.c,I x.n])) (r:G[b]?=some (.cells O)) (z:i<e) (l:O.length=e) (f:G.set b (.cells (au O i [I v]))=j) (B:S[s]?=some (I v)) (E:decide (x.k=1)=false) (D:decide (x.k=2)=false) (C:decide (x.k=3)=true) :
  evK pg qk0 fiK ⟨[(1,(cr S)),(2,(cr d)),(3,(ec)),(7,(.bs true b 0 e 1)),(8,(.int .i64 s)),(9,(.int .i64 k)),(10,(.int .i64 i))],[[(LN m.nodes),(LP m.inits),(LP m.nexts),(LI m.bads),(LI m.holds)]],G⟩=
   fg ⟨[(1,cr S),(2,cr d),(3,ec),(7,.bs true b 0 e 1),(8,I (((s+1:Nat):Int))),(9,I ((k:Nat))),(10,I (((i+1:Nat):Int)))],[[LN m.nodes,LP m.inits,LP m.nexts,LI m.bads,LI m.holds]],j⟩:=by
 have q:(i:Int)<(e:Int):=aj;have g:i+1<=e:=aj;have h:bm pg qk5 ⟨[(1,cr S),(2,cr d),(3,ec),(7,.bs true b 0 e 1),(8,I (((s+1:Nat):Int))),(9,I ((k:Nat))),(10,I (i))],[[LN m.nodes,LP m.inits,LP m.nexts,LI m.bads,LI m.holds]],j⟩=fg ⟨[(1,cr S),(2,cr d),(3,ec),(7,.bs true b 0 e 1),(8,I (((s+1:Nat):Int))),(9,I ((k:Nat))),(10,I (((i+1:Nat):Int)))],[[LN m.nodes,LP m.inits,LP m.nexts,LI m.bads,LI m.holds]],j⟩:=by refine bg ?_;simp[qk5,wrS _ A]
 push_cast at h
 unfold LI LN LP at *;have o:i<(m.nodes.map nodeV).length:=by rw[aW];omega
 have p:=aG o;generalize m.nodes.map nodeV=L,m.inits.map andV=M,m.nexts.map andV=H,m.bads.map I=P,m.holds.map I=N at *;simp only[au,aV,cF,cX,aT,bH,bF] at f;simp[qk0,p,u,E,D,C,B,wrS _ y,r,q,g,l,f,h,-getElem?_pos,-getElem?_neg,List.getElem?_cons_zero,List.getElem?_cons_succ]
theorem SH {b i s k e:Nat} {G j:fB} {O S d:fw} {v:Int} {x:Nd} (C:(i:Int)<(m.nodes.length:Int)) (F:i<=1000) (hs:s<=1000) (hk:k<=1000) (D:(m.nodes.map nodeV)[i]?=some (.agg [I x.k,I x.w,I x.a,I x.b,I x.c,I x.n])) (r:G[b]?=some (.cells O)) (E:i<e) (l:O.length=e) (f:G.set b (.cells (au O i [I v]))=j) {y u t B A z:Int} (X:decide (x.k=1)=false) (U:decide (x.k=2)=false) (T:decide (x.k=3)=false)
  (ha:0<=x.a/\x.a<(e:Int)) (L:0<=x.b/\x.b<(e:Int)) (H:0<=x.c/\x.c<(e:Int)) (R:O[x.a.toNat]?=some (I y)) (Q:O[x.b.toNat]?=some (I u)) (P:O[x.c.toNat]?=some (I t))
  (M:ac pg 102 [LN m.nodes,.agg [I x.k,I x.w,I x.a,I x.b,I x.c,I x.n]] G=some (.agg [I B,I A,I z],G)) (N:ac pg 28 [I x.k,I x.w,I y,I u,I t,I x.n,.agg [I B,I A,I z]] G=some (I v,G)) :
  evK pg qk0 fiK ⟨[(1,(cr S)),(2,(cr d)),(3,(ec)),(7,(.bs true b 0 e 1)),(8,(.int .i64 s)),(9,(.int .i64 k)),(10,(.int .i64 i))],[[(LN m.nodes),(LP m.inits),(LP m.nexts),(LI m.bads),(LI m.holds)]],G⟩=
   fg ⟨[(1,cr S),(2,cr d),(3,ec),(7,.bs true b 0 e 1),(8,I ((s:Nat))),(9,I ((k:Nat))),(10,I (((i+1:Nat):Int)))],[[LN m.nodes,LP m.inits,LP m.nexts,LI m.bads,LI m.holds]],j⟩:=by
 have q:(i:Int)<(e:Int):=aj;have g:i+1<=e:=aj;have h:bm pg qk5 ⟨[(1,cr S),(2,cr d),(3,ec),(7,.bs true b 0 e 1),(8,I ((s:Nat))),(9,I ((k:Nat))),(10,I (i))],[[LN m.nodes,LP m.inits,LP m.nexts,LI m.bads,LI m.holds]],j⟩=fg ⟨[(1,cr S),(2,cr d),(3,ec),(7,.bs true b 0 e 1),(8,I ((s:Nat))),(9,I ((k:Nat))),(10,I (((i+1:Nat):Int)))],[[LN m.nodes,LP m.inits,LP m.nexts,LI m.bads,LI m.holds]],j⟩:=by refine bg ?_;simp[qk5,wrS _ F]
 push_cast at h
 obtain⟨a0,a1⟩:=ha;obtain⟨b0,b1⟩:=L;obtain⟨c0,c1⟩:=H;unfold LI LN LP at *;have o:i<(m.nodes.map nodeV).length:=by rw[aW];omega
 have p:=aG o;generalize m.nodes.map nodeV=LV,m.inits.map andV=IV,m.nexts.map andV=NV,m.bads.map I=BV,m.holds.map I=HV at *;simp only[au,aV,cF,cX,aT,bH,bF] at f;simp[qk0,p,D,X,U,T,a0,a1,b0,b1,c0,c1,R,Q,P,M,N,r,q,g,l,f,h,-getElem?_pos,-getElem?_neg,List.getElem?_cons_zero,List.getElem?_cons_succ]
def voG (a:fB) (o:fq):fB:=a++[.cells (o.map I)]
theorem P3 (o:fq):(voG gh o)[gh.length]?=some (.cells (o.map I)):=by simp[voG]
theorem SI {o a:fq}:(voG gh o).set gh.length (.cells (a.map I))=voG gh a:=by simp[voG]
def KV (m:Md) (b c:fq) (o:fq) (s k i:Nat) (a:fB):St:=
 ⟨[(1,LI b),(2,LI c),(3,ec),(7,.bs true a.length 0 o.length 1),(8,I (s:Nat)),(9,I (k:Nat)),(10,I ((i:Nat):Int))],[[LN m.nodes,LP m.inits,LP m.nexts,LI m.bads,LI m.holds]],voG a o⟩
attribute [local simp] KV
theorem P4 {l:fq} {s:Nat} {v:Int} {r:fq} (h:l.drop s=v::r):l[s]?=some v/\r=l.drop (s+1):=by
 have a:s<l.length:=aP λb=>by rw[aM aj] at h;cases h
 rw[aJ a] at h;cases h;exact⟨aA a,rfl⟩
theorem SJ (hl:m.nodes.length<=80) (hz:∀(j:Nat) (x:Nd),m.nodes[j]?=some x->eA m.nodes j x=0) {i s k:Nat} {d u w:fq} (D:i<m.nodes.length) (hs:s<=i) (hk:k<=i) (z:VGood m.nodes i d (u.drop s) (w.drop k)) :
  ∃ v G H,G<=i+1/\H<=i+1/\VGood m.nodes (i+1) (d++[v]) (u.drop G) (w.drop H)/\fR m.nodes d (u.drop s) (w.drop k) (m.nodes.drop i)=fR m.nodes (d++[v]) (u.drop G) (w.drop H) (m.nodes.drop (i+1))/\
   evK pg qk0 fiK ⟨[(1,(LI u)),(2,(LI w)),(3,(ec)),(7,(.bs true gh.length 0 (dY m.nodes.length d).length 1)),(8,(.int .i64 s)),(9,(.int .i64 k)),(10,(.int .i64 i))],[[(LN m.nodes),(LP m.inits),(LP m.nexts),(LI m.bads),(LI m.holds)]],(voG gh (dY m.nodes.length d))⟩=
    some (.normal,KV m u w (dY m.nodes.length (d++[v])) G H (i+1) gh):=by
 have h:(i:Int)<(m.nodes.length:Int):=aj;have f:m.nodes[i]?=some m.nodes[i]:=aA D;have C:(m.nodes.map nodeV)[i]?=some (nodeV m.nodes[i]):=by simp[f]
 have hn:=hz i _ f;have E:=z.len;rw[aJ D,fR];generalize m.nodes[i]=x at *;rw[dT x] at C;have L:(dY m.nodes.length d).length=m.nodes.length:=u6 aj;have l:i<(dY m.nodes.length d).length:=aj;have r:=P3 (gh:=gh) (dY m.nodes.length d);have q:∀v:Int,(dY m.nodes.length (d++[v])).length=(dY m.nodes.length d).length:=λv=>by rw[u6 (by simp;omega),L]
 have g:∀v:Int,(voG gh (dY m.nodes.length d)).set gh.length (.cells (au ((dY m.nodes.length d).map I) i [I v]))=voG gh (dY m.nodes.length (d++[v])):=λv=>by
  have e:((dY m.nodes.length d).map I).set i (I v)=((dY m.nodes.length d).set i v).map I:=by rw[List.map_set]
  rw[Ke (by simpa using l),e,<-E,Kc aj,SI]
 have p:((dY m.nodes.length d).map I).length=(dY m.nodes.length d).length:=bh;unfold KV;by_cases t:x.k=1
 ·rw[if_pos t]
  have P:=uW hn t;refine⟨_,s,k,aj,aj,z.other f aj aj P.1 P.2,rfl,?_⟩;rw[q];exact SE h aj aj aj C r l p (g x.n) rfl (aG t)
 ·rw [if_neg t]
  by_cases A:x.k=3
  ·rw[if_pos A]
   obtain⟨v,R,e,o⟩:=z.state f A;obtain⟨O,F⟩:=P4 e;rw[e,List.headD_cons,List.tail_cons,F];rw[F] at o;refine⟨_,s+1,k,aj,aj,o,rfl,?_⟩;rw[q];exact SG h aj aj aj C r l p (g v) (by simp[O]) (aF t) (aF aj) (aG A)
  ·rw[if_neg A]
   by_cases B:x.k=2
   ·rw[if_pos B]
    obtain⟨v,X,e,o⟩:=z.input f B;obtain⟨O,F⟩:=P4 e;rw[e,List.headD_cons,List.tail_cons,F];rw[F] at o;refine⟨_,s,k+1,aj,aj,o,rfl,?_⟩;rw[q];exact SF h aj aj aj C r l p (g v) (by simp[O]) (aF t) (aG B)
   ·rw[if_neg B]
    have M:¬x.k<=3:=by
     intro aa;unfold eA at hn;split at hn
     ·omega
     ·omega
    have y:=uV f hn M;have N:=IA (gh:=voG gh (dY m.nodes.length d)) y.inn;have Q:=SD z y (voG gh (dY m.nodes.length d));have U:=y.a;have T:=y.b;have S:=y.c;have ca:((dY m.nodes.length d).map I)[x.a.toNat]?=some (I (d.getD x.a.toNat 0)):=by rw[aB,u7 aj];rfl
    have cb:((dY m.nodes.length d).map I)[x.b.toNat]?=some (I (d.getD x.b.toNat 0)):=by rw[aB,u7 aj];rfl
    have cc:((dY m.nodes.length d).map I)[x.c.toNat]?=some (I (d.getD x.c.toNat 0)):=by rw[aB,u7 aj];rfl
    rw[dT] at N;unfold gV at N Q;refine⟨_,s,k,aj,aj,z.op f A B y,rfl,?_⟩;rw[q];exact SH h aj aj aj C r l p (g (ma m.nodes d x)) (aF t) (aF B) (aF A) ⟨U.1,aj⟩ ⟨T.1,aj⟩ ⟨S.1,aj⟩ ca cb cc N Q
theorem P5 (d:m.nodes.length<=80) (c:∀(j:Nat) (x:Nd),m.nodes[j]?=some x->eA m.nodes j x=0) {ss ks:fq}:∀n i s k acc,i+n=m.nodes.length->s<=i->k<=i->VGood m.nodes i acc (ss.drop s) (ks.drop k)->
  bm pg qmq (KV m ss ks (dY m.nodes.length acc) s k i gh)=fg ⟨[(7,.bs true gh.length 0 (fR m.nodes acc (ss.drop s) (ks.drop k) (m.nodes.drop i)).length 1)],[],voG gh (fR m.nodes acc (ss.drop s) (ks.drop k) (m.nodes.drop i))⟩
 |0,i,s,k,acc,h,_,_,b=>by
  rw[aM (show m.nodes.length<=i by omega),fR,Kd (by rw[b.len];omega)];have a:¬i<m.nodes.length:=aj;refine (bn (s1:=?J) (bg ?Z)).trans ?Y
  case Z=>simp[qk0,a];rfl
  case Y=>simp[keep,bj]
 |n+1,i,s,k,acc,h,g,l,b=>by obtain⟨v,e,f,t,r,q,p,o⟩:=SJ (gh:=gh) d c (show i<m.nodes.length by omega) g l b;rw[p];exact ay (bg o) (P5 d c n (i+1) e f _ aj t r q)
theorem SK (a:fq):frz gh.length (voG gh a) (.bs true gh.length 0 a.length 1)=LI a:=by
 rw[Gg (P3 a) (cW _) bh];have e:∀l:fq,(l.map I).map aw=l.map I:=λl=>by rw[List.map_map];rfl
 have b:(((a.map I).drop 0).take a.length)=a.map I:=by rw[bJ];exact bK bh
 rw[b,e]
theorem P6 {ss ks:fq} (h:dc m=0) (p:VGood m.nodes 0 [] ss ks):ac pg 132 [e9 m,LI ss,LI ks] gh=some (LI (gX m ss ks),gh):=by
 have o:=(kC h).len;have d:=P5 (gh:=gh) (ss:=ss) (ks:=ks) o (λj x l=>rK h l) m.nodes.length 0 0 0 [] aj (cW _) (cW _) (by simpa using p);simp only[bJ] at d;change bm pg qmq _=some (_,⟨[(_,.bs _ _ _ (gX m ss ks).length _)],_,voG gh (gX m ss ks)⟩) at d;have g:=SK (gh:=gh) (gX m ss ks);have hn:=noGs_ints (gX m ss ks);have n:(voG gh (gX m ss ks)).take gh.length=gh:=by simp[voG]
 generalize gX m ss ks=b at *;have i:=bg (c:=qmr) (s:=⟨[(7,(.bs true gh.length 0 b.length 1))],[],(voG gh b)⟩) (r:=fo ⟨[(6,.bs true gh.length 0 b.length 1)],[],voG gh b⟩) (pg:=pg) (by simp[qmr]);have f:(m.nodes.length:Int)*8<=(maxBytes:Int):=by have:=MB;omega
 have k:=Kl m.nodes.length;have e:(dY m.nodes.length []).length=m.nodes.length:=u6 bh;unfold KV at d;rw[e] at d;simp only[aR] at d;rw[en];refine ak (fn:=qlb) (s:=⟨[(6,.bs true gh.length 0 b.length 1)],[],voG gh b⟩) rfl rfl (bg ?J) ?Z
 case J=>
  unfold voG at d i ⊢;generalize (dY m.nodes.length []).map I=a at *;simp[qol,qlb,f,k,d,i]
 case Z=>simp[ag,results,qlb,ah,am,af,g,n,hn]
end
end
section
attribute [local congr] bu
attribute [local simp] au
section
variable {m:Md} {gh:fB}
def Lr (m:Md) (a b:fq) (i:Nat) (c:fB):St:=
 ⟨[(2,LI b),(3,ec),(14,LI a),(15,I a.length),(16,I (i:Int))],[[LN m.nodes,LP m.inits,LP m.nexts,LI m.bads,LI m.holds]],c⟩
attribute [local simp] Lr
theorem P7 {b f:fq} (p:rJ m.nodes b) (t:b.length<=1000) (s:f.length=b.length):∀k i,i+k=b.length->
  bm pg qgw (Lr m b f i gh)=if kE m.nodes (b.drop i) (f.drop i)=0 then fg ⟨[],[],gh⟩ else fo ⟨[(6,I (kE m.nodes (b.drop i) (f.drop i)))],[],gh⟩
 |0,i,h=>by
  rw[aM aj,kE,if_pos rfl];have c:¬(i:Int)<(b.length:Int):=aj;refine (bn (s1:=?J) (bg ?Z)).trans ?Y
  case Z=>simp[qgv,c];rfl
  case Y=>simp[keep]
 | k+1,i,h=>by
  have c:i<b.length:=aj;have g:(i:Int)<(b.length:Int):=aj;have l:i<f.length:=aj;have u:WI.wrap ((i:Int)+1)=((i+1:Nat):Int):=by rw[aq aj aj];omega
  have q:(b.map I)[i]?=some (I b[i]):=by simp[aA c]
  have n:(f.map I)[i]?=some (I f[i]):=by simp[aA l]
  obtain⟨j,hw⟩:=p _ (cD c);have hn:=iP j;have r:=j.1;rw[aJ c,aJ l,kE];have e:=HC f[i] (wAt m.nodes b[i]) aj gh;rw[ID hw] at e;generalize b[i]=a,f[i]=v at *;unfold wAt at *;generalize x:m.nodes.getD a.toNat default=d at *;rw[dT d] at hn;by_cases o:0<=v/\v<((2^d.w.toNat:Nat):Int)
  ·rw[aG o] at e
   rw[if_pos o];refine ay (s1:=Lr m b f (i+1) gh) (bg ?_) (P7 p t s k (i+1) aj);unfold Lr;simp[qgv,g,q,n,r,hn,e,u,-List.getElem?_map]
  ·rw[aF o] at e
   rw[if_neg o,if_neg bz];refine cx (bg ?_);simp[qgv,g,q,n,r,hn,e,-List.getElem?_map]
theorem OR {ns vs:fq} (d:rJ m.nodes ns) (e:ns.length<=1000):ac pg 135 [e9 m,LI ns,LI vs] gh=some (I (jq m.nodes ns vs),gh):=by
 rw[en];unfold jq;by_cases a:vs.length=ns.length
 ·rw[if_neg aj]
  have h:=P7 (gh:=gh) d e a ns.length 0 aj;rw[bJ,bJ] at h;unfold Lr at h;simp only[aR] at h;have f:=bg (c:=qgx) (s:=⟨[],[],gh⟩) (pg:=pg) (by simp[qgx]<;>rfl);by_cases b:kE m.nodes ns vs=0
  ·rw[if_pos b] at h
   rw[b];refine ak (fn:=qgz) (s:=⟨[(6,I 0)],[],gh⟩) rfl rfl (bg ?J) ?Z
   case J=>simp[qgy,qgz,a,h,f]
   case Z=>simp[ag,results,qgz,ah,am,af]
  ·rw[if_neg b] at h
   generalize kE m.nodes ns vs=r at *;refine ak (fn:=qgz) (s:=⟨[(6,I r)],[],gh⟩) rfl rfl (bg ?Y) ?K
   case Y=>simp[qgy,qgz,a,h]
   case K=>simp[ag,results,qgz,ah,am,af]
 ·rw[if_pos a]
  have g:¬(vs.length:Int)=(ns.length:Int):=aj;refine ak (fn:=qgz) (s:=⟨[(6,I 2)],[],gh⟩) rfl rfl (bg ?V) ?W
  case V=>simp[qgy,qgz,g]
  case W=>simp[ag,results,qgz,ah,am,af]
theorem P8 {e c:fq} (q:rJ m.nodes e) (A:e.length<=1000) (y:c.length=e.length):∀k i,i+k=e.length->
  bm pg qoj ⟨[(2,LI c),(3,ec),(7,LI e),(8,I (i:Int))],[[LN m.nodes,LP m.inits,LP m.nexts,LI m.bads,LI m.holds]],gh⟩=
   if kE m.nodes (e.drop i) (c.drop i)=0 then fg ⟨[],[],gh⟩ else fo ⟨[(6,I (kE m.nodes (e.drop i) (c.drop i)))],[],gh⟩
 |0,i,h=>by
  rw[aM aj,kE,if_pos rfl];have f:¬i<c.length:=aj;refine (bn (s1:=?J) (bg ?Z)).trans ?Y
  case Z=>simp[ql7,f];rfl
  case Y=>simp[keep]
 | k+1,i,h=>by
  have f:i<e.length:=aj;have j:i<c.length:=aj;have r:(i:Int)<(c.length:Int):=aj;have g:decide (i<c.length)=true:=aG j;have C:WI.wrap ((i:Int)+1)=((i+1:Nat):Int):=by rw[aq aj aj];omega
  have s:(e.map I)[i]?=some (I e[i]):=by simp[aA f]
  have o:(c.map I)[i]?=some (I c[i]):=by simp[aA j]
  obtain⟨n,hw⟩:=q _ (cD f);have hn:=iP n;have x:=n.1;rw[aJ f,aJ j,kE];generalize e[i]=a,c[i]=v at *;unfold wAt at *;generalize E:m.nodes.getD a.toNat default=d at *;rw[dT d] at hn;obtain⟨b,B⟩:=JD (show 0<=d.w by omega);rw[B] at hn hw;have u:=HG (show b<=61 by omega) gh;have D:2^b<=256:=jf aj;have z:1<=2^b:=Nat.one_le_two_pow;have l:WI.wrap (((2^b:Nat):Int)-1)=((2^b:Nat):Int)-1:=aq aj aj;have p:=fe v 0 (((2^b:Nat):Int)-1) gh;rw[show d.w.toNat=b by omega];generalize ((2^b:Nat):Int)=P at *;by_cases t:0<=v/\v<P
  ·rw[aG (show 0<=v/\v<=P-1 by omega)] at p
   rw[if_pos t];refine ay (s1:=⟨[(2,LI c),(3,ec),(7,LI e),(8,I ((i+1:Nat):Int))],[[LN m.nodes,LP m.inits,LP m.nexts,LI m.bads,LI m.holds]],gh⟩) (bg ?_) (P8 q A y k (i+1) aj);simp[ql7,g,s,o,x,hn,u,l,p,C,-List.getElem?_map,-getElem?_pos,List.getElem?_cons_zero,List.getElem?_cons_succ]
  ·rw[aF (show ¬(0<=v/\v<=P-1) by omega)] at p
   rw[if_neg t,if_neg bz];refine cx (bg ?_);simp[ql7,g,s,o,x,hn,u,l,p,-List.getElem?_map,-getElem?_pos,List.getElem?_cons_zero,List.getElem?_cons_succ]
theorem P9 {kind:Int} {vs:fq} (g:m.nodes.length<=1000) (f:rJ m.nodes (ci m.nodes kind)):ac pg 124 [e9 m,I kind,LI vs] gh=some (I (jq m.nodes (ci m.nodes kind) vs),gh):=by
 have e:=Jr (m:=m) (gh:=gh) (kind:=kind) aj;have i:(ci m.nodes kind).length<=1000:=cC (uA _ _ _) g;rw[en] at *;unfold jq;generalize ci m.nodes kind=a at *;by_cases b:vs.length=a.length
 ·rw[if_neg aj]
  have h:=P8 (gh:=gh) f i b a.length 0 aj;rw[bJ,bJ] at h;simp only[aR] at h;have j:=bg (c:=qmm) (s:=⟨[],[],gh⟩) (pg:=pg) (by simp[qmm]<;>rfl);by_cases d:kE m.nodes a vs=0
  ·rw[if_pos d] at h
   rw[d];refine ak (fn:=qk3) (s:=⟨[(6,I 0)],[],gh⟩) rfl rfl (bg ?J) ?Z
   case J=>simp[ql8,qk3,e,b,h,j]
   case Z=>simp[ag,results,qk3,ah,am,af]
  ·rw[if_neg d] at h
   generalize kE m.nodes a vs=r at *;refine ak (fn:=qk3) (s:=⟨[(6,I r)],[],gh⟩) rfl rfl (bg ?Y) ?K
   case Y=>simp[ql8,qk3,e,b,h]
   case K=>simp[ag,results,qk3,ah,am,af]
 ·rw[if_pos b]
  have k:¬(vs.length:Int)=(a.length:Int):=aj;refine ak (fn:=qk3) (s:=⟨[(6,I 2)],[],gh⟩) rfl rfl (bg ?V) ?W
  case V=>simp[ql8,qk3,e,k]
  case W=>simp[ag,results,qk3,ah,am,af]
theorem Qa {vs:fq} (h:vs.length*8<=maxBytes):ac pg 142 [LI vs] gh=some (LI (List.replicate vs.length 0),gh):=by
 have e:∀n:Nat,List.map I (List.replicate n 0)=List.replicate n (I 0):=λn=>List.map_replicate
 simp only[LI,e];have hn:eg (List.replicate vs.length (PV.int IntKind.i64 0))=true:=by
  have:=noGs_ints (List.replicate vs.length 0)
  rwa [e] at this
 have a:(vs.length:Int)*8<=(maxBytes:Int):=aj;refine ak (fn:=qhr) (s:=?J) rfl rfl (bg ?Z) ?Y
 case Z=>simp[qhq,qhr,a,co];rfl
 case Y=>simp[ag,results,qhr,ah,am,af,hn]
end
section
variable {L:List Nd} {i:Nat} {acc ss ks:fq} {x:Nd}
end
end
section
variable {s:Int} {i:Nat}
attribute [local congr] bu
attribute [local simp] au
theorem OS:∀{a:fN} {s:Int},jV a s=false->dM a s= -1
 |[],_,_=>rfl
 |p::a,s,h=>by rw[AG,Bool.or_eq_false_iff] at h;rw[dM,if_neg (by simpa using h.1)];exact OS h.2
theorem Gn:∀{a:fN} {s:Int},jV a s=true->(s,dM a s)∈a
 |[],_,h=>by cases h
 | p::a,s,h=>by
  rw[dM];by_cases b:p.1=s
  ·rw[if_pos b,<-b];exact aZ ..
  ·rw[if_neg b]
   rw[AG,Bool.or_eq_true] at h;rcases h with h|h
   ·exact absurd (by simpa using h) b
   ·exact bC _ (Gn h)
section
variable {m:Md} {gh:fB}
theorem Qb {a:fN} {s:Int} (g:Sz a.length):∀k i,i+k=a.length->
  bm pg qoo ⟨[(0,LP a),(1,I s),(5,I (i:Int))],[],gh⟩=if jV (a.drop i) s then fo ⟨[(4,I (dM (a.drop i) s))],[],gh⟩ else fg ⟨[],[],gh⟩
 |0,i,h=>by
  rw[aM aj];have b:¬i<a.length:=aj;refine (bn (s1:=?J) (bg ?Z)).trans ?Y
  case Z=>simp[qlg,b];rfl
  case Y=>simp[keep,jV]
 | k+1,i,h=>by
  have b:i<a.length:=aj;have c:decide (i<a.length)=true:=aG b;have j:WI.wrap ((i:Int)+1)=((i+1:Nat):Int):=gv (by simp only[Sz] at g ⊢;omega);have e:(a.map andV)[i]?=some (andV a[i]):=by simp[aA b]
  rw[aJ b,AG,dM];generalize a[i]=p at *;rw[mT] at e;by_cases d:p.1=s
  ·have f:(p.1=s):=d
   rw[if_pos d,aG d,Bool.true_or,if_pos rfl];refine cx (bg ?_);simp[qlg,c,e,f,-List.getElem?_map,-getElem?_pos,List.getElem?_cons_zero,List.getElem?_cons_succ]
  ·have f:¬(p.1=s):=d
   rw[if_neg d,aF d,Bool.false_or];refine ay (s1:=⟨[(0,LP a),(1,I s),(5,I ((i+1:Nat):Int))],[],gh⟩) (bg ?_) (Qb g k (i+1) aj);simp[qlg,c,e,f,j,-List.getElem?_map,-getElem?_pos,List.getElem?_cons_zero,List.getElem?_cons_succ]
theorem Qc {a:fN} (d:Sz a.length):ac pg 137 [LP a,I s] gh=some (I (dM a s),gh):=by
 have h:=Qb (gh:=gh) (s:=s) d a.length 0 aj;rw[bJ] at h;simp only[aR] at h;have e:=bg (c:=qmz) (s:=⟨[],[],gh⟩) (pg:=pg) (by simp[qmz]<;>rfl);cases b:jV a s with
 |true=>
  rw[b,if_pos rfl] at h;refine ak (fn:=qki) (s:=⟨[(4,I (dM a s))],[],gh⟩) rfl rfl (bg ?J) ?Z
  case J=>simp[qn0,qki,h]
  case Z=>simp[ag,results,qki,ah,am,af]
 |false=>
  rw[b,if_neg bz] at h;rw[OS b];refine ak (fn:=qki) (s:=⟨[(4,I (-1))],[],gh⟩) rfl rfl (bg ?Y) ?K
  case Y=>simp[qn0,qki,h,e]
  case K=>simp[ag,results,qki,ah,am,af]
theorem Qd {α:Type}:∀{l:List α} {i j:Nat},l.Nodup->l[i]?=l[j]?->i<l.length->i=j
 |[],i,j,_,_,h=>by simp at h
 |x::l,0,0,_,_,_=>rfl
 |x::l,0,j+1,hn,a,_=>by rw[List.nodup_cons] at hn;simp at a;exact absurd (aL a.symm) hn.1
 |x::l,i+1,0,hn,a,_=>by rw[List.nodup_cons] at hn;simp at a;exact absurd (aL a) hn.1
 |x::l,i+1,j+1,hn,a,h=>by rw[List.nodup_cons] at hn;have:=Qd hn.2 (by simpa using a) (by simpa using h);omega
def byM (a:fq) (b:fN):fN:=b.map λp=>(p.1,a.getD p.2.toNat 0)
theorem Qe {V:fq} {a:fN} (hn:(a.map (·.1)).Nodup) (b:i<a.length):io (byM V (a.take i)) a[i].1 (V.getD a[i].2.toNat 0)=byM V (a.take (i+1)):=by
 rw[AH]
 ·rw[List.take_succ_eq_append_getElem b];unfold byM;rw[bI];rfl
 ·intro p d
  obtain⟨q,c,rfl⟩:=List.mem_map.1 d;obtain⟨j,f,rfl⟩:=cP.1 c;rw[cR] at f;rw[List.getElem_take];intro e;have e:a[j].1=a[i].1:=e;have:j=i:=Qd (l:=a.map (·.1)) hn (by simp[aA (show j<a.length by omega),aA b,e]) (by simp;omega);omega
theorem OT {V:fq}:∀{ps:fN} {s:Int},gx (byM V ps) s=if jV ps s then some (V.getD (dM ps s).toNat 0) else none
 |[],_=>rfl
 |p::ps,s=>by
  have a:=OT (V:=V) (ps:=ps) (s:=s);change (if s=p.1 then _ else gx (byM V ps) s)=_;rw[AG,dM,a];by_cases h:p.1=s
  ·rw[if_pos h.symm,aG h,Bool.true_or,if_pos rfl,if_pos h]
  ·rw[if_neg (λe=>h e.symm),aF h,Bool.false_or,if_neg h]
def lw (a:fq) (b:fN):fq->fq->fq
 |s::d,w::c=>(if jV b s then a.getD (dM b s).toNat 0 else w)::lw a b d c
 |_,_=>[]
theorem Qf {V wish st:fq} {a:fN} (e:Sz a.length) (hn:(a.map (·.1)).Nodup) (d:∀p∈a,0<=p.2/\p.2.toNat<V.length):∀k i,i+k=a.length->
  bm pg qh1 ⟨[(1,LI wish),(5,LO st),(6,LI V),(7,.mp gh.length),(26,LP a),(27,I a.length),(28,I (i:Int))],[],gh++[.map (b8 (byM V (a.take i)))]⟩=
   fg ⟨[(1,LI wish),(5,LO st),(7,.mp gh.length)],[],gh++[.map (b8 (byM V a))]⟩
 |0,i,h=>by
  rw[bK aj];have b:¬(i:Int)<(a.length:Int):=aj;refine (bn (s1:=?J) (bg ?Z)).trans ?Y
  case Z=>simp[qh0,b];rfl
  case Y=>simp[keep,bj]
 |k+1,i,h=>by
  have b:i<a.length:=aj;have c:(i:Int)<(a.length:Int):=aj;have n:WI.wrap ((i:Int)+1)=((i+1:Nat):Int):=gv (by simp only[Sz] at e ⊢;omega);have f:(a.map andV)[i]?=some (andV a[i]):=by simp[aA b]
  have m:=Qe (V:=V) hn b;obtain⟨j,g⟩:=d _ (cD b);have l:=Kq g;refine ay (s1:=⟨[(1,LI wish),(5,LO st),(6,LI V),(7,.mp gh.length),(26,LP a),(27,I a.length),(28,I ((i+1:Nat):Int))],[],gh++[GObj.map (b8 (byM V (a.take (i+1))))]⟩) (bg ?_) (Qf e hn d k (i+1) aj);generalize a[i]=p at *;rw[mT] at f;generalize V.getD p.2.toNat 0=v,byM V (a.take (i+1))=o,byM V (a.take i)=q at *;simp[qh0,c,f,j,l,n,m,-List.getElem?_map]
theorem Oi (a:fq) (v:Int):(a++[v]).map I=a.map I++[I v]:=bh
theorem SM {wish st:fq} {M:fN} {A:fw} (b:i<=1000) :
  bm pg qh3 ⟨[(1,LI wish),(7,.mp gh.length),(10,dz A),(41,LI st),(42,I st.length),(43,I (i:Int))],[],gh++[.map (b8 M)]⟩=
   fg ⟨[(1,LI wish),(7,.mp gh.length),(10,dz A),(41,LI st),(42,I st.length),(43,I ((i+1:Nat):Int))],[],gh++[.map (b8 M)]⟩:=by
 have a:WI.wrap ((i:Int)+1)=((i+1:Nat):Int):=by rw[aq aj aj];omega
 refine bg ?_;simp[qh3,a]
theorem SN {wish st:fq} {M:fN} {A:fw} {v:Int} (a:(A.length+1)*8<=maxBytes) :
  bm pg qh2 ⟨[(1,LI wish),(7,.mp gh.length),(10,dz A),(13,I v),(41,LI st),(42,I st.length),(43,I (i:Int))],[],gh++[.map (b8 M)]⟩=
   fg ⟨[(1,LI wish),(7,.mp gh.length),(10,dz (A++[I v])),(41,LI st),(42,I st.length),(43,I (i:Int))],[],gh++[.map (b8 M)]⟩:=by
 refine bg ?_;simp[qh2,a]
theorem Qg {V wish st:fq} {ps:fN} (p:st.length<=1000) (hw:wish.length=st.length):∀k i b,i+k=st.length->b.length<=i->
  bm pg qh5 ⟨[(1,LI wish),(7,.mp gh.length),(10,dz (b.map I)),(41,LI st),(42,I st.length),(43,I (i:Int))],[],gh++[.map (b8 (byM V ps))]⟩=
   fg ⟨[(10,dz ((b++lw V ps (st.drop i) (wish.drop i)).map I))],[],gh++[.map (b8 (byM V ps))]⟩
 |0,i,b,h,_=>by
  rw[aM aj,aM (show wish.length<=i by omega),lw,bE];have c:¬(i:Int)<(st.length:Int):=aj;refine (bn (s1:=?J) (bg ?Z)).trans ?Y
  case Z=>simp[qh4,c];rfl
  case Y=>simp[keep,bj]
  all_goals (intros;simp_all)
 | k+1,i,b,h,ha=>by
  have c:i<st.length:=aj;have e:i<wish.length:=aj;have d:(i:Int)<(st.length:Int):=aj;have o:(st.map I)[i]?=some (I st[i]):=by simp[aA c]
  have j:(wish.map I)[i]?=some (I wish[i]):=by simp[aA e]
  have g:((b.map I).length+1)*8<=maxBytes:=by have:=MB;simp;omega
  rw[aJ c,aJ e,lw,List.append_cons b];refine ay (s1:=⟨[(1,LI wish),(7,.mp gh.length),(10,dz ((b++[if jV ps st[i] then V.getD (dM ps st[i]).toNat 0 else wish[i]]).map I)),(41,LI st),(42,I st.length),(43,I ((i+1:Nat):Int))],[],gh++[GObj.map (b8 (byM V ps))]⟩) (bg ?_) (Qg p hw k (i+1) _ aj (by simp;omega));have f:=OT (V:=V) (ps:=ps) (s:=st[i]);rw[Oi];generalize b.map I=A,byM V ps=M,wish[i]=w,st[i]=a at *;have m:=λv=>SN (gh:=gh) (wish:=wish) (st:=st) (M:=M) (i:=i) (v:=v) g
  have l:=λv=>SM (gh:=gh) (wish:=wish) (st:=st) (M:=M) (A:=A++[I v]) (i:=i) aj
  cases n:jV ps a with
  |true=>
   rw[n,if_pos rfl] at f;rw[if_pos rfl];generalize V.getD (dM ps a).toNat 0=v at *;simp[qh4,d,o,f,m,l,-List.getElem?_map]
  |false=>
   rw[n,if_neg bz] at f;rw[if_neg bz];simp[qh4,d,o,j,f,m,l,-List.getElem?_map]
def f0 (m:Md) (a:fq):fq:=lw (jr m) m.inits (ci m.nodes 3) a
theorem Qh {m:Md} (b:lW m):∀p∈m.inits,0<=p.2/\p.2.toNat<(jr m).length:=λp a=>by have:=(b.pairs p (cE.2 (.inl a))).2;unfold jr;rw[AF];exact this
theorem Qi {wish:fq} (h:dc m=0) (hw:wish.length=(ci m.nodes 3).length):ac pg 136 [e9 m,LI wish] gh=some (LO (f0 m wish),gh):=by
 have a:=kC h;have q:=a.len;have l:=(AI a).1;have g:=ng (m:=m) (gh:=gh) (kind:=3) aj;have i:=ng (m:=m) (gh:=gh) (kind:=2) aj;have n:=MB;have o:=pi a 3;have p:=pi a 2;have e:=Qa (gh:=gh) (vs:=ci m.nodes 3) aj;have f:=Qa (gh:=gh) (vs:=ci m.nodes 2) aj;have hr:=Ko (gh:=gh) h AK;have d:=Qf (gh:=gh) (wish:=wish) (st:=ci m.nodes 3) (by simp only[Sz];omega) a.nod1 (Qh a) m.inits.length 0 aj;have c:=Qg (gh:=gh) (V:=jr m) (ps:=m.inits) aj hw (ci m.nodes 3).length 0 [] aj bh;rw[bJ,bJ,bF] at c;simp only[List.take_zero,bU,aR] at d c
 change bm pg qh1 ⟨_,_,gh++[GObj.map []]⟩=_ at d;change ac pg 142 _ _=some (LI (nt m),gh) at e;change ac pg 142 _ _=some (LI (nu m),gh) at f;change ac pg 139 _ _=some (LI (jr m),gh) at hr;change bm pg qh5 _=some (_,⟨[(_,dz ((f0 m wish).map I))],_,_⟩) at c;have hn:=noGs_ints (f0 m wish);generalize f0 m wish=F,jr m=V,nt m=r,nu m=t at *;generalize b8 (byM V m.inits)=b at *;have j:bm pg qh6 ⟨[(10,dz (F.map I))],[],gh++[GObj.map b]⟩=fo ⟨[(4,dz (F.map I))],[],gh++[GObj.map b]⟩:=by refine bg ?_;simp[qh6]
 have k:bm pg qh7 ⟨[(1,LI wish),(5,LO (ci m.nodes 3)),(7,.mp gh.length)],[],gh++[GObj.map b]⟩=fo ⟨[(4,dz (F.map I))],[],gh++[GObj.map b]⟩:=by refine bg ?_;simp[qh7,c,j]
 rw[en] at *;refine ak (fn:=qh9) (s:=⟨[(4,dz (F.map I))],[],gh++[GObj.map b]⟩) rfl rfl (bg ?J) ?Z
 case J=>simp[qh8,qh9,g,i,e,f,hr,d,k]
 case Z=>simp[ag,results,qh9,ah,am,af,hn]
theorem SO {ps:fN} (b:∀p∈ps,0<=p.2):decide (0<=dM ps s)=jV ps s:=by
 cases a:jV ps s with
 |true=>exact aG (b _ (Gn a))
 |false=>rw[OS a];rfl
theorem SP {wish st V:fq} {A:fw} (b:i<=1000) :
  bm pg qmn ⟨[(1,LI wish),(2,ec),(5,LI st),(6,LI V),(7,dz A),(8,I (i:Int))],[[LN m.nodes,LP m.inits,LP m.nexts,LI m.bads,LI m.holds]],gh⟩=
   fg ⟨[(1,LI wish),(2,ec),(5,LI st),(6,LI V),(7,dz A),(8,I ((i+1:Nat):Int))],[[LN m.nodes,LP m.inits,LP m.nexts,LI m.bads,LI m.holds]],gh⟩:=by
 have a:WI.wrap ((i:Int)+1)=((i+1:Nat):Int):=by rw[aq aj aj];omega
 refine bg ?_;simp[qmn,a]
theorem Qj {V wish st:fq} (B:st.length<=1000) (hw:wish.length=st.length) (u:Sz m.inits.length) (l:∀p∈m.inits,0<=p.2/\p.2.toNat<V.length):∀k i b,i+k=st.length->b.length<=i->
  bm pg qmo ⟨[(1,LI wish),(2,ec),(5,LI st),(6,LI V),(7,dz (b.map I)),(8,I (i:Int))],[[LN m.nodes,LP m.inits,LP m.nexts,LI m.bads,LI m.holds]],gh⟩=
   fg ⟨[(7,dz ((b++lw V m.inits (st.drop i) (wish.drop i)).map I))],[],gh⟩
 |0,i,b,h,_=>by
  rw[aM aj,aM (show wish.length<=i by omega),lw,bE];have c:¬i<st.length:=aj;refine (bn (s1:=?J) (bg ?Z)).trans ?Y
  case Z=>simp[ql9,c];rfl
  case Y=>simp[keep,bj]
  all_goals (intros;simp_all)
 | k+1,i,b,h,ha=>by
  have c:i<st.length:=aj;have f:i<wish.length:=aj;have d:decide (i<st.length)=true:=aG c;have x:(st.map I)[i]?=some (I st[i]):=by simp[aA c]
  have q:(wish.map I)[i]?=some (I wish[i]):=by simp[aA f]
  have e:((b.map I).length+1)*8<=maxBytes:=by have:=MB;simp;omega
  rw[aJ c,aJ f,lw,List.append_cons b];refine ay (s1:=⟨[(1,LI wish),(2,ec),(5,LI st),(6,LI V),(7,dz ((b++[if jV m.inits st[i] then V.getD (dM m.inits st[i]).toNat 0 else wish[i]]).map I)),(8,I ((i+1:Nat):Int))],[[LN m.nodes,LP m.inits,LP m.nexts,LI m.bads,LI m.holds]],gh⟩) (bg ?_) (Qj B hw u l k (i+1) _ aj (by simp;omega));have y:=Qc (gh:=gh) (s:=st[i]) u;have j:=SO (ps:=m.inits) (s:=st[i]) (λp g=>(l p g).1);rw[Oi];generalize b.map I=A,wish[i]=w,st[i]=a at *
  have r:=λv=>SP (m:=m) (gh:=gh) (wish:=wish) (st:=st) (V:=V) (A:=A++[I v]) (i:=i) aj
  cases o:jV m.inits a with
  |true=>
   rw[if_pos rfl];have g:=l _ (Gn o);have t:=Kq g.2;have z:=g.1;rw[o] at j;simp only at z t;generalize V.getD (dM m.inits a).toNat 0=v at *;generalize dM m.inits a=n at *;simp[ql9,d,x,y,j,z,t,e,r,-List.getElem?_map,-getElem?_pos,List.getElem?_cons_zero,List.getElem?_cons_succ]
  |false=>
   rw[if_neg bz];rw[o] at j;generalize dM m.inits a=n at *;simp[ql9,d,x,q,y,j,e,r,-List.getElem?_map,-getElem?_pos,List.getElem?_cons_zero,List.getElem?_cons_succ]
theorem SQ {a:fq} (h:dc m=0) (hw:a.length=(ci m.nodes 3).length):ac pg 125 [e9 m,LI a] gh=some (LI (f0 m a),gh):=by
 have b:=kC h;have x:=b.len;have l:=(AI b).1;have f:=Jr (m:=m) (gh:=gh) (kind:=3) aj;have g:=Jr (m:=m) (gh:=gh) (kind:=2) aj;have o:=MB;have v:=pi b 3;have w:=pi b 2;have hr:=P6 (gh:=gh) h AK;have d:=Qj (m:=m) (gh:=gh) (V:=jr m) aj hw (by simp only[Sz];omega) (Qh b) (ci m.nodes 3).length 0 [] aj bh;rw[bJ,bJ,bF] at d;simp only[bU,aR] at d;change ac pg 132 _ _=some (LI (jr m),gh) at hr;change bm pg qmo _=some (_,⟨[(_,dz ((f0 m a).map I))],_,_⟩) at d;have hn:=noGs_ints (f0 m a)
 have e:∀n:Nat,List.map I (List.replicate n 0)=List.replicate n (I 0):=λn=>List.map_replicate
 unfold nt nu at hr;simp only[LI,e] at hr d hn f g ⊢;generalize (f0 m a).map I=F at *;have p:((ci m.nodes 3).length:Int)*8<=(maxBytes:Int):=aj;have q:((ci m.nodes 2).length:Int)*8<=(maxBytes:Int):=aj;have i:((ci m.nodes 3).map I).length=(ci m.nodes 3).length:=bh;have j:((ci m.nodes 2).map I).length=(ci m.nodes 2).length:=bh;generalize (ci m.nodes 3).map I=y,(ci m.nodes 2).map I=z,(ci m.nodes 3).length=t,(ci m.nodes 2).length=u at *;subst i j
 have k:=bg (c:=qmp) (s:=⟨[(7,(dz F))],[],gh⟩) (r:=fo ⟨[(4,cr F)],[],gh⟩) (pg:=pg) (by simp[qmp]);rw[en] at *;refine ak (fn:=qla) (s:=⟨[(4,cr F)],[],gh⟩) rfl rfl (bg ?J) ?Z
 case J=>simp[qok,qla,f,g,p,q,co,hr,d,k]
 case Z=>simp[ag,results,qla,ah,am,af,hn]
def Oj (m:Md) (a:fq):Int:=if dc m=0 then jq m.nodes (ci m.nodes 3) a else dc m
def Hp (m:Md) (a:fq):fq:=if Oj m a=0 then f0 m a else []
theorem SR {a:fq} (l:Sz m.inits.length) (k:Sz m.nexts.length):ac pg 123 [e9 m,LI a] gh=some (.tup [FI1 (Hp m a),I (Oj m a)],gh):=by
 have d:=Ah (m:=m) (gh:=gh) l k;unfold Hp Oj;by_cases h:dc m=0
 ·rw[if_pos h]
  have i:=kC h;have n:=i.len;have g:=ng (m:=m) (gh:=gh) (kind:=3) aj;have f:=OR (gh:=gh) (vs:=a) (pd h 3) (cC (pi i 3) aj);rw[h] at d;by_cases c:jq m.nodes (ci m.nodes 3) a=0
  ·have j:=Qi (gh:=gh) h (zd c)
   rw[c] at f ⊢;rw[if_pos rfl];have hn:=noGs_ints (f0 m a);simp only[LI,LO,FI1] at j hn ⊢;generalize (f0 m a).map I=F at *;rw[en] at *;have b:bm pg qk9 ⟨[(1,cr (a.map I)),(2,ec),(6,I 0)],[[LN m.nodes,LP m.inits,LP m.nexts,LI m.bads,LI m.holds]],gh⟩=fo ⟨[(4,dz F),(5,I 0)],[],gh⟩:=by refine bg ?_;simp[qk9,j]
   refine ak (fn:=qk2) (s:=⟨[(4,dz F),(5,I 0)],[],gh⟩) rfl rfl (bg ?J) ?Z
   case J=>simp[qkq,qk2,d,g,f,b]
   case Z=>simp[ag,results,qk2,ah,am,af,hn]
  ·rw[if_neg c]
   generalize jq m.nodes (ci m.nodes 3) a=e at *;rw[en] at *;have b:bm pg qk9 ⟨[(1,LI a),(2,ec),(6,I e)],[[LN m.nodes,LP m.inits,LP m.nexts,LI m.bads,LI m.holds]],gh⟩=fo ⟨[(4,dz []),(5,I e)],[],gh⟩:=by refine bg ?_;simp[qk9,c]
   refine ak (fn:=qk2) (s:=⟨[(4,dz []),(5,I e)],[],gh⟩) rfl rfl (bg ?Y) ?K
   case Y=>simp[qkq,qk2,d,g,f,b]
   case K=>simp[ag,results,qk2,ah,am,af]
 ·rw[if_neg h,if_neg h]
  generalize dc m=e at *;rw[en] at *;have b:bm pg qk9 ⟨[(1,LI a),(2,ec),(6,I e)],[[LN m.nodes,LP m.inits,LP m.nexts,LI m.bads,LI m.holds]],gh⟩=fo ⟨[(4,dz []),(5,I e)],[],gh⟩:=by refine bg ?_;simp[qk9,h]
  refine ak (fn:=qk2) (s:=⟨[(4,dz []),(5,I e)],[],gh⟩) rfl rfl (bg ?V) ?W
  case V=>simp[qkq,qk2,d,h,b]
  case W=>simp[ag,results,qk2,ah,am,af]
end
end
section
attribute [local congr] bu
attribute [local simp] au
def tr (a:fq) (b:fN) (st:fq):fq:=st.map λs=>a.getD (dM b s).toNat 0
def j4 (m:Md) (a:fq):fq:=tr a m.nexts (ci m.nodes 3)
theorem Qk (a:fq) (b:fN) (s:Int) (st:fq):tr a b (s::st)=a.getD (dM b s).toNat 0::tr a b st:=rfl
section
variable {m:Md} {gh:fB}
theorem Ql {V:fq} {a:fN} (e:Sz a.length) (hn:(a.map (·.1)).Nodup) (d:∀p∈a,0<=p.2/\p.2.toNat<V.length):∀k i,i+k=a.length->
  bm pg qhb ⟨[(1,LI V),(2,ec),(5,.mp gh.length),(13,LP a),(14,I a.length),(15,I (i:Int))],[[LN m.nodes,LP m.inits,LP m.nexts,LI m.bads,LI m.holds]],gh++[.map (b8 (byM V (a.take i)))]⟩=
   fg ⟨[(2,ec),(5,.mp gh.length)],[[LN m.nodes,LP m.inits,LP m.nexts,LI m.bads,LI m.holds]],gh++[.map (b8 (byM V a))]⟩
 |0,i,h=>by
  rw[bK aj];have b:¬(i:Int)<(a.length:Int):=aj;refine (bn (s1:=?J) (bg ?Z)).trans ?Y
  case Z=>simp[qha,b];rfl
  case Y=>simp[keep,bj]
 |k+1,i,h=>by
  have b:i<a.length:=aj;have c:(i:Int)<(a.length:Int):=aj;have o:WI.wrap ((i:Int)+1)=((i+1:Nat):Int):=gv (by simp only[Sz] at e ⊢;omega);have f:(a.map andV)[i]?=some (andV a[i]):=by simp[aA b]
  have n:=Qe (V:=V) hn b;obtain⟨j,g⟩:=d _ (cD b);have l:=Kq g;refine ay (s1:=⟨[(1,LI V),(2,ec),(5,.mp gh.length),(13,LP a),(14,I a.length),(15,I ((i+1:Nat):Int))],[[LN m.nodes,LP m.inits,LP m.nexts,LI m.bads,LI m.holds]],gh++[GObj.map (b8 (byM V (a.take (i+1))))]⟩) (bg ?_) (Ql e hn d k (i+1) aj);generalize a[i]=p at *;rw[mT] at f;generalize V.getD p.2.toNat 0=v,byM V (a.take (i+1))=q,byM V (a.take i)=r at *;simp[qha,c,f,j,l,o,n,-List.getElem?_map]
theorem Qm {V st:fq} {ps:fN} (j:st.length<=1000) (d:∀s∈st,jV ps s=true):∀k i b,i+k=st.length->b.length<=i->
  bm pg qhd ⟨[(5,.mp gh.length),(8,dz (b.map I)),(29,LO st),(30,I st.length),(31,I (i:Int))],[],gh++[.map (b8 (byM V ps))]⟩=
   fg ⟨[(8,dz ((b++tr V ps (st.drop i)).map I))],[],gh++[.map (b8 (byM V ps))]⟩
 |0,i,b,h,_=>by
  rw[aM aj];have c:¬(i:Int)<(st.length:Int):=aj;refine (bn (s1:=?J) (bg ?Z)).trans ?Y
  case Z=>simp[qhc,c];rfl
  case Y=>simp[keep,bj,tr]
 | k+1,i,b,h,ha=>by
  have c:i<st.length:=aj;have e:(i:Int)<(st.length:Int):=aj;have m:WI.wrap ((i:Int)+1)=((i+1:Nat):Int):=by rw[aq aj aj];omega
  have l:(st.map I)[i]?=some (I st[i]):=by simp[aA c]
  have f:((b.map I).length+1)*8<=maxBytes:=by have:=MB;simp;omega
  have g:=OT (V:=V) (ps:=ps) (s:=st[i]);rw[d _ (cD c),if_pos rfl] at g;rw[aJ c,Qk,List.append_cons b];refine ay (s1:=⟨[(5,.mp gh.length),(8,dz ((b++[V.getD (dM ps st[i]).toNat 0]).map I)),(29,LO st),(30,I st.length),(31,I ((i+1:Nat):Int))],[],gh++[GObj.map (b8 (byM V ps))]⟩) (bg ?_) (Qm j d k (i+1) _ aj (by simp;omega));rw[Oi];generalize b.map I=A,byM V ps=M at *;generalize V.getD (dM ps st[i]).toNat 0=v at *;generalize st[i]=a at *;simp[qhc,e,l,g,f,m,-List.getElem?_map]
theorem Qn {m:Md} {a:fq} (c:lW m) (d:a.length=m.nodes.length):∀p∈m.nexts,0<=p.2/\p.2.toNat<a.length:=λp b=>by have:=(c.pairs p (cE.2 (.inr b))).2;rw[d];exact this
theorem SU {V:fq} (h:dc m=0) (j:V.length=m.nodes.length):ac pg 140 [e9 m,LI V] gh=some (LO (j4 m V),gh):=by
 have a:=kC h;have l:=a.len;have i:=(AI a).2;have e:=ng (m:=m) (gh:=gh++[GObj.map (b8 (byM V m.nexts))]) (kind:=3) aj;have k:=pi a 3;have d:=Ql (m:=m) (gh:=gh) (V:=V) (by simp only[Sz];omega) a.nod2 (Qn a j) m.nexts.length 0 aj;have c:=Qm (gh:=gh) (V:=V) (ps:=m.nexts) aj (Ks h) (ci m.nodes 3).length 0 [] aj bh;rw[bJ,bF] at c;simp only[List.take_zero,bU,aR] at d c;change bm pg qhb ⟨_,_,gh++[GObj.map []]⟩=_ at d;change bm pg qhd _=some (_,⟨[(_,dz ((j4 m V).map I))],_,_⟩) at c;have hn:=noGs_ints (j4 m V);generalize j4 m V=F,b8 (byM V m.nexts)=b at *
 have f:bm pg qhe ⟨[(8,dz (F.map I))],[],gh++[GObj.map b]⟩=fo ⟨[(4,dz (F.map I))],[],gh++[GObj.map b]⟩:=by refine bg ?_;simp[qhe]
 rw[en] at *;have g:bm pg qhf ⟨[(2,ec),(5,.mp gh.length)],[[LN m.nodes,LP m.inits,LP m.nexts,LI m.bads,LI m.holds]],gh++[GObj.map b]⟩=fo ⟨[(4,dz (F.map I))],[],gh++[GObj.map b]⟩:=by refine bg ?_;simp[qhf,e,c,f]
 refine ak (fn:=qhh) (s:=⟨[(4,dz (F.map I))],[],gh++[GObj.map b]⟩) rfl rfl (bg ?J) ?Z
 case J=>simp[qhg,qhh,d,g]
 case Z=>simp[ag,results,qhh,ah,am,af,hn]
theorem Qo {V st:fq} (r:st.length<=1000) (j:Sz m.nexts.length) (o:∀p∈m.nexts,0<=p.2/\p.2.toNat<V.length) (d:∀s∈st,jV m.nexts s=true):∀k i b,i+k=st.length->b.length<=i->
  bm pg qmt ⟨[(1,LI V),(2,ec),(5,LI st),(6,dz (b.map I)),(7,I (i:Int))],[[LN m.nodes,LP m.inits,LP m.nexts,LI m.bads,LI m.holds]],gh⟩=
   fg ⟨[(6,dz ((b++tr V m.nexts (st.drop i)).map I))],[],gh⟩
 |0,i,b,h,_=>by
  rw[aM aj];have c:¬i<st.length:=aj;refine (bn (s1:=?J) (bg ?Z)).trans ?Y
  case Z=>simp[qms,c];rfl
  case Y=>simp[keep,bj,tr]
 | k+1,i,b,h,ha=>by
  have c:i<st.length:=aj;have e:decide (i<st.length)=true:=aG c;have x:WI.wrap ((i:Int)+1)=((i+1:Nat):Int):=by rw[aq aj aj];omega
  have u:(st.map I)[i]?=some (I st[i]):=by simp[aA c]
  have f:((b.map I).length+1)*8<=maxBytes:=by have:=MB;simp;omega
  rw[aJ c,Qk,List.append_cons b];refine ay (s1:=⟨[(1,LI V),(2,ec),(5,LI st),(6,dz ((b++[V.getD (dM m.nexts st[i]).toNat 0]).map I)),(7,I ((i+1:Nat):Int))],[[LN m.nodes,LP m.inits,LP m.nexts,LI m.bads,LI m.holds]],gh⟩) (bg ?_) (Qo r j o d k (i+1) _ aj (by simp;omega));have w:=Qc (gh:=gh) (s:=st[i]) j;have t:=d _ (cD c);rw[Oi];generalize b.map I=A,st[i]=a at *;have l:=o _ (Gn t);have g:=Kq l.2;have q:=l.1;simp only at q g;generalize V.getD (dM m.nexts a).toNat 0=v at *;generalize dM m.nexts a=n at *
  simp[qms,e,u,w,q,g,f,x,-List.getElem?_map,-getElem?_pos,List.getElem?_cons_zero,List.getElem?_cons_succ]
theorem SV {V:fq} (h:dc m=0) (g:V.length=m.nodes.length):ac pg 133 [e9 m,LI V] gh=some (LI (j4 m V),gh):=by
 have b:=kC h;have j:=b.len;have f:=(AI b).2;have d:=Jr (m:=m) (gh:=gh) (kind:=3) aj;have i:=pi b 3;have a:=Qo (m:=m) (gh:=gh) (V:=V) aj (by simp only[Sz];omega) (Qn b g) (Ks h) (ci m.nodes 3).length 0 [] aj bh;rw[bJ,bF] at a;simp only[bU,aR] at a;change bm pg qmt _=some (_,⟨[(_,dz ((j4 m V).map I))],_,_⟩) at a;have hn:=noGs_ints (j4 m V);simp only[LI] at a d hn ⊢;generalize (j4 m V).map I=F,(ci m.nodes 3).map I=k at *;have e:=bg (c:=qmu) (s:=⟨[(6,(dz F))],[],gh⟩) (r:=fo ⟨[(4,cr F)],[],gh⟩) (pg:=pg) (by simp[qmu]);rw[en] at *
 refine ak (fn:=qlc) (s:=⟨[(4,cr F)],[],gh⟩) rfl rfl (bg ?J) ?Z
 case J=>simp[qom,qlc,d,a,e]
 case Z=>simp[ag,results,qlc,ah,am,af,hn]
def wk (b:fq) (a:Int):Bool:=decide (b.getD a.toNat 0=1)
def nv (m:Md) (a:fq):Bool:=m.holds.all (wk a)
def qg (m:Md) (a:fq):Bool:=m.bads.any (wk a)
theorem SW {m:Md} {b:fq} (h:dc m=0) (c:b.length=m.nodes.length):(∀a∈m.bads,0<=a/\a.toNat<b.length)/\(∀a∈m.holds,0<=a/\a.toNat<b.length):=by rw[c];exact⟨λa ha=>Kt h a (cE.2 (.inl ha)),λa ha=>Kt h a (cE.2 (.inr ha))⟩
theorem Qp {b:fq} {b7:Bool} (o:m.holds.length<=1000) (f:∀a∈m.holds,0<=a/\a.toNat<b.length):∀k i e,i+k=m.holds.length->
  bm pg qmv ⟨[(1,LI b),(2,ec),(6,B e),(7,B b7),(8,I (i:Int))],[[LN m.nodes,LP m.inits,LP m.nexts,LI m.bads,LI m.holds]],gh⟩=
   fg ⟨[(1,LI b),(2,ec),(6,B (e&&(m.holds.drop i).all (wk b))),(7,B b7)],[[LN m.nodes,LP m.inits,LP m.nexts,LI m.bads,LI m.holds]],gh⟩
 |0,i,e,h=>by
  rw[aM aj];have c:¬i<m.holds.length:=aj;refine (bn (s1:=?J) (bg ?Z)).trans ?Y
  case Z=>simp[qld,c];rfl
  case Y=>simp[keep,bj]
 |k+1,i,e,h=>by
  have c:i<m.holds.length:=aj;have d:decide (i<m.holds.length)=true:=aG c;have g:WI.wrap ((i:Int)+1)=((i+1:Nat):Int):=by rw[aq aj aj];omega
  have p:(m.holds.map I)[i]?=some (I m.holds[i]):=by simp[aA c]
  obtain⟨l,j⟩:=f _ (cD c);have n:=Kq j;rw[aJ c,List.all_cons,<-Bool.and_assoc];refine ay (s1:=⟨[(1,LI b),(2,ec),(6,B (e&&wk b m.holds[i])),(7,B b7),(8,I ((i+1:Nat):Int))],[[LN m.nodes,LP m.inits,LP m.nexts,LI m.bads,LI m.holds]],gh⟩) (bg ?_) (Qp o f k (i+1) _ aj);unfold wk;generalize m.holds[i]=a at *;generalize b.getD a.toNat 0=v at *;cases e
  ·simp[qld,d,g,-List.getElem?_map,-getElem?_pos,List.getElem?_cons_zero,List.getElem?_cons_succ]
  ·simp[qld,d,p,l,n,g,-List.getElem?_map,-getElem?_pos,List.getElem?_cons_zero,List.getElem?_cons_succ]
theorem Qq {b:fq} {b6:Bool} (o:m.bads.length<=1000) (f:∀a∈m.bads,0<=a/\a.toNat<b.length):∀k i e,i+k=m.bads.length->
  bm pg qmw ⟨[(1,LI b),(2,ec),(6,B b6),(7,B e),(9,I (i:Int))],[[LN m.nodes,LP m.inits,LP m.nexts,LI m.bads,LI m.holds]],gh⟩=
   fg ⟨[(6,B b6),(7,B (e||(m.bads.drop i).any (wk b)))],[],gh⟩
 |0,i,e,h=>by
  rw[aM aj];have c:¬i<m.bads.length:=aj;refine (bn (s1:=?J) (bg ?Z)).trans ?Y
  case Z=>simp[qle,c];rfl
  case Y=>simp[keep,bj]
 |k+1,i,e,h=>by
  have c:i<m.bads.length:=aj;have d:decide (i<m.bads.length)=true:=aG c;have g:WI.wrap ((i:Int)+1)=((i+1:Nat):Int):=by rw[aq aj aj];omega
  have p:(m.bads.map I)[i]?=some (I m.bads[i]):=by simp[aA c]
  obtain⟨l,j⟩:=f _ (cD c);have n:=Kq j;rw[aJ c,List.any_cons,<-Bool.or_assoc];refine ay (s1:=⟨[(1,LI b),(2,ec),(6,B b6),(7,B (e||wk b m.bads[i])),(9,I ((i+1:Nat):Int))],[[LN m.nodes,LP m.inits,LP m.nexts,LI m.bads,LI m.holds]],gh⟩) (bg ?_) (Qq o f k (i+1) _ aj);unfold wk;generalize m.bads[i]=a at *;generalize b.getD a.toNat 0=v at *;cases e
  ·simp[qle,d,p,l,n,g,-List.getElem?_map,-getElem?_pos,List.getElem?_cons_zero,List.getElem?_cons_succ]
  ·simp[qle,d,g,-List.getElem?_map,-getElem?_pos,List.getElem?_cons_zero,List.getElem?_cons_succ]
theorem SX {a:fq} (h:dc m=0) (k:a.length=m.nodes.length):ac pg 134 [e9 m,LI a] gh=some (.tup [B (nv m a),B (qg m a)],gh):=by
 obtain⟨n,l⟩:=AN h;obtain⟨j,i⟩:=SW h k;have e:=Qp (m:=m) (gh:=gh) (b7:=false) aj i m.holds.length 0 true aj;rw[bJ,Bool.true_and] at e;change bm pg qmv _=some (_,⟨[_,_,(_,B (nv m a)),_],_,_⟩) at e;have d:=Qq (m:=m) (gh:=gh) (b6:=nv m a) aj j m.bads.length 0 false aj;rw[bJ,Bool.false_or] at d;change bm pg qmw _=some (_,⟨[_,(_,B (qg m a))],_,_⟩) at d;simp only[aR] at e d;generalize nv m a=b,qg m a=c at *;have f:=bg (c:=qmx) (s:=⟨[(6,(.bool b)),(7,(.bool c))],[],gh⟩) (pg:=pg) (by simp[qmx]<;>rfl)
 have g:bm pg qmy ⟨[(1,LI a),(2,ec),(6,B b),(7,B false)],[[LN m.nodes,LP m.inits,LP m.nexts,LI m.bads,LI m.holds]],gh⟩=fo ⟨[(4,B b),(5,B c)],[],gh⟩:=by refine bg ?_;simp[qmy,d,f]
 rw[en];refine ak (fn:=qlf) (s:=⟨[(4,B b),(5,B c)],[],gh⟩) rfl rfl (bg ?J) ?Z
 case J=>simp[qon,qlf,e,g]
 case Z=>simp[ag,results,qlf,ah,am,af]
theorem SY {kind:Int} (g:Sz m.inits.length) (f:Sz m.nexts.length):ac pg 71 [e9 m,I kind] gh=some (.tup [FI1 (ofL m kind),I (dc m)],gh):=by
 have c:=Ah (m:=m) (gh:=gh) g f;unfold ofL;by_cases b:dc m=0
 ·have e:m.nodes.length<=1000:=by
   unfold dc at b;split at b
   ·contradiction
   ·omega
  have d:=ng (m:=m) (gh:=gh) (kind:=kind) e;have hn:=noGs_ints (ci m.nodes kind);rw[en] at *;rw[if_pos b];generalize dc m=r at *;subst b;simp only[LI,LO,FI1] at *;generalize (ci m.nodes kind).map I=a at *;refine ak (fn:=qkd) (s:=⟨[(4,dz a),(5,I 0)],[],gh⟩) rfl rfl (bg ?J) ?Z
  case J=>simp[qm8,qkd,c,d]
  case Z=>simp[ag,results,qkd,ah,am,af,hn]
 ·rw[en] at *
  rw[if_neg b];generalize dc m=r at *;refine ak (fn:=qkd) (s:=⟨[(4,dz []),(5,I r)],[],gh⟩) rfl rfl (bg ?Y) ?K
  case Y=>simp[qm8,qkd,c,b]
  case K=>simp[ag,results,qkd,ah,am,af]
theorem SZ (d:Sz m.inits.length) (c:Sz m.nexts.length):ac pg 35 [e9 m] gh=some (.tup [FI1 (ofL m 3),I (dc m)],gh):=by
 have b:=SY (m:=m) (gh:=gh) (kind:=3) d c;have hn:=noGs_ints (ofL m 3);rw[en] at *;simp only[LI,FI1] at *;generalize (ofL m 3).map I=a at *;refine ak (fn:=qkx) (s:=⟨[(2,.fr 1 a),(3,I (dc m))],[],gh⟩) rfl rfl (bg ?J) ?Z
 case J=>simp[qo6,qkx,b]
 case Z=>simp[ag,results,qkx,ah,am,af,hn]
end
end
section
attribute [local congr] bu
attribute [local simp] au
section
variable {m:Md}
theorem Ok {a b:fq} (h:dc m=0) (e:VGood m.nodes 0 [] a b):InW m.nodes (gX m a b):=by
 have c:∀(j:Nat) (x:Nd),m.nodes[j]?=some x->eA m.nodes j x=0:=by
  intro j x d;have hn:fG m.nodes 0 m.nodes=0:=by
   unfold dc at h;split at h
   ·contradiction
   split at h
   ·contradiction
   rename_i f;exact aP f
  have:=uL hn j x d
  rwa [cX] at this
 have:=ph c m.nodes.length 0 [] a b aj e
 rwa [bJ] at this
theorem OU {l:List Nd} {f:fS} {b:Bool}:∀{c:fN},di l f b c=0->∀p∈c,wAt l p.1=wAt l p.2
 |[],_,p,a=>by cases a
 | q::c,h,p,a=>by
  rw[di] at h;split at h
  ·rename_i d
   rcases List.mem_cons.1 a with rfl|a
   ·unfold eW at d
    split at d
    ·contradiction
    split at d
    ·contradiction
    rename_i e;exact aP e
   ·exact OU h p a
  ·contradiction
theorem S4 (h:dc m=0):∀p∈m.inits++m.nexts,wAt m.nodes p.1=wAt m.nodes p.2:=by
 obtain⟨b,-⟩:=rQ h;unfold iz at b;split at b
 ·contradiction
 rename_i d;split at b
 ·contradiction
 rename_i c;intro p a;rcases cE.1 a with a|a
 ·exact OU (aP d) p a
 ·exact OU (aP c) p a
theorem Qr (h:dc m=0) {a:fq} (e:InW m.nodes a) (d:a.length=m.nodes.length) {p:Int×Int} (b:p∈m.inits++m.nexts):0<=a.getD p.2.toNat 0/\a.getD p.2.toNat 0<((2^(wAt m.nodes p.1).toNat:Nat):Int):=by
 have c:=((kC h).pairs p b).2;rw[S4 h p b];have:=e p.2.toNat (by rw[d];exact c.2)
 rwa [show ((p.2.toNat:Nat):Int)=p.2 from Int.toNat_of_nonneg c.1] at this
theorem OV (h:dc m=0) {b:fq} (f:InW m.nodes b) (e:b.length=m.nodes.length):jq m.nodes (ci m.nodes 3) (j4 m b)=0:=by
 have c:=Ks h;unfold jq j4 tr;rw[if_neg bh];generalize ci m.nodes 3=st at *
 induction st with
 |nil=>rfl
 |cons s st d=>
  rw[bS,kE,if_pos]
  ·exact d λa ha=>c a (by simp[ha])
  ·exact Qr h f e (cE.2 (.inr (Gn (c s bh))))
theorem OW (h:dc m=0) {a:fq} (hw:jq m.nodes (ci m.nodes 3) a=0):jq m.nodes (ci m.nodes 3) (f0 m a)=0:=by
 have p:InW m.nodes (jr m):=Ok h AK;have n:(jr m).length=m.nodes.length:=AF;unfold jq at hw;split at hw
 ·cases hw
 rename_i b;have b:a.length=(ci m.nodes 3).length:=aP b;unfold f0;generalize ci m.nodes 3=st at *;have c:∀(st a:fq),a.length=st.length->kE m.nodes st a=0->(lw (jr m) m.inits st a).length=st.length/\kE m.nodes st (lw (jr m) m.inits st a)=0:=by
  intro st
  induction st with
  |nil=>intro w _ _;cases w<;>exact⟨rfl,rfl⟩
  | cons s st j=>
   intro w d o;obtain⟨v,f,rfl,u,t,r,q⟩:=At d o;obtain⟨l,k⟩:=j f r q;rw[lw];refine⟨by simp[l],?_⟩;rw[kE,if_pos]
   ·exact k
   ·by_cases e:jV m.inits s=true
    ·rw[if_pos e]
     exact Qr h p n (cE.2 (.inl (Gn e)))
    ·rw[if_neg e];exact⟨u,t⟩
 obtain⟨i,g⟩:=c st a b hw;unfold jq;rw[if_neg (by simp[i])];exact g
def g8 (m:Md):ft->Int
 |[]=>0
 |l::a=>if jq m.nodes (ci m.nodes 2) l=0 then g8 m a else jq m.nodes (ci m.nodes 2) l
def m7 (m:Md) (st:fq) (a:ft):Int:=
 if dc m≠0 then dc m else if a.length<1\/41<a.length then 2 else if jq m.nodes (ci m.nodes 3) st≠0 then jq m.nodes (ci m.nodes 3) st else g8 m a
structure OX (m:Md) (st:fq) (ins:ft):Prop where
 chk:dc m=0
 len:1<=ins.length/\ins.length<=41
 start:jq m.nodes (ci m.nodes 3) st=0
 inputs:∀l∈ins,jq m.nodes (ci m.nodes 2) l=0
theorem Qs:∀{b:ft},g8 m b=0->∀l∈b,jq m.nodes (ci m.nodes 2) l=0
 |[],_,l,h=>by cases h
 | a::b,h,l,c=>by
  rw[g8] at h;split at h
  ·rename_i d
   rcases List.mem_cons.1 c with rfl|c
   ·exact d
   ·exact Qs h l c
  ·contradiction
theorem OY {st:fq} {a:ft} (h:m7 m st a=0):OX m st a:=by
 unfold m7 at h;split at h
 ·contradiction
 rename_i c;split at h
 ·contradiction
 rename_i d;split at h
 ·contradiction
 rename_i b;exact⟨aP c,aj,aP b,Qs h⟩
variable {gh:fB}
theorem Qt {ins:ft} (n:dc m=0) (hn:ins.length<=1000):∀(k i:Nat),i+k=ins.length->
  bm pg qjg ⟨[(2,ec),(35,LsI ins),(36,I ins.length),(37,I i)],[[LN m.nodes,LP m.inits,LP m.nexts,LI m.bads,LI m.holds]],gh⟩=
   if g8 m (ins.drop i)=0 then fg ⟨[],[],gh⟩ else fo ⟨[(4,I (g8 m (ins.drop i)))],[],gh⟩
 |0,i,s=>by
  have c:¬(i:Int)<(ins.length:Int):=aj;rw[aM aj,g8,if_pos rfl];refine (bn (s1:=?J) (bg ?Z)).trans ?Y
  case Z=>simp[qjf,c];rfl
  case Y=>simp[keep,bj]
 | k+1,i,s=>by
  have c:i<ins.length:=aj;have b:(i:Int)<(ins.length:Int):=aj;have p:(ins.map λl=>LI l)[i]?=some (LI ins[i]):=by simp[c]
  have d:WI.wrap ((i:Int)+1)=((i+1:Nat):Int):=gv (by simp only[Sz];omega);have h:=Qt (ins:=ins) n hn k (i+1) aj;have j:=kC n;have z:=j.len;have g:=ng (m:=m) (gh:=gh) (kind:=2) aj;have q:(ci m.nodes 2).length<=1000:=cC (uA _ _ _) aj;have hw:=OR (m:=m) (gh:=gh) (ns:=ci m.nodes 2) (vs:=ins[i]) (pd n 2) q;rw[aJ c,g8];generalize g8 m (ins.drop (i+1))=rest,jq m.nodes (ci m.nodes 2) ins[i]=e at *;generalize ins[i]=l,ci m.nodes 2=a at *;obtain⟨u,r⟩:∃u:Int,((i+1:Nat):Int)=u:=⟨_,rfl⟩
  rw[r] at d h;rw[en] at g hw;simp only[LsI,LI,LO,LN,LP] at *;have o:ins.length=(ins.map λl=>PV.sl false 1 (l.map I)).length:=(aW _).symm;rw[o] at h b ⊢;generalize (ins.map λl=>PV.sl false 1 (l.map I))=L at *;generalize l.map I=w,a.map I=x,m.bads.map I=bL,m.holds.map I=A,m.nodes.map nodeV=v,m.inits.map andV=y,m.nexts.map andV=t at *;by_cases f:e=0
  ·subst f
   rw[if_pos rfl];refine ay (bg ?K) h
   case K=>simp[qjf,b,p,g,hw,d]
  ·rw[if_neg f,if_neg f]
   refine cx (bg ?V)
   case V=>simp[qjf,b,p,g,hw,f]
theorem Qu (a:dc m=0) (k:Int):(ci m.nodes k).length<=1000:=by have b:=(kC a).len;exact cC (uA _ _ _) aj
theorem S5 {st:fq} {ins:ft} (u:Sz m.inits.length) (t:Sz m.nexts.length):ac pg 248 [e9 m,jv st ins] gh=some (I (m7 m st ins),gh):=by
 have f:=Ah (gh:=gh) u t;have d:(ins.map λl=>LI l).length=ins.length:=aW _;unfold m7;by_cases g:dc m=0
 ·rw [if_neg aj]
  rw[g] at f;by_cases hn:ins.length<1\/41<ins.length
  ·rw[if_pos hn]
   rw[en] at *;simp only[jv,LsI,LI,LO,LN,LP] at *;by_cases q:ins.length<1
   ·have b:((ins.length:Int)<1):=aj
    rw[<-d] at b;generalize (ins.map λl=>PV.sl false 1 (l.map I))=L,st.map I=o at *;refine ak (fn:=qjj) (s:=?J) rfl rfl (bg ?Z) ?Y
    case Z=>simp[qji,qjj,f,b];rfl
    case Y=>simp[ag,results,qjj,ah,am,af]
   ·have b:¬((ins.length:Int)<1):=aj
    have h:(41<(ins.length:Int)):=aj;rw[<-d] at b h;generalize (ins.map λl=>PV.sl false 1 (l.map I))=L,st.map I=o at *;refine ak (fn:=qjj) (s:=?K) rfl rfl (bg ?V) ?W
    case V=>simp[qji,qjj,f,b,h];rfl
    case W=>simp[ag,results,qjj,ah,am,af]
  ·rw[if_neg hn]
   have k:=kC g;have z:=k.len;have j:=ng (m:=m) (gh:=gh) (kind:=3) aj;have hw:=OR (m:=m) (gh:=gh) (ns:=ci m.nodes 3) (vs:=st) (pd g 3) (Qu g 3);have i:=Qt (gh:=gh) (ins:=ins) g aj ins.length 0 aj;rw[bJ,aR] at i;have b:¬((ins.length:Int)<1):=aj;have h:¬(41<(ins.length:Int)):=aj;generalize jq m.nodes (ci m.nodes 3) st=e,g8 m ins=r at *;generalize ci m.nodes 3=a at *;rw[<-d] at b h i;rw[en] at *;simp only[jv,LsI,LI,LO,LN,LP] at *;generalize (ins.map λl=>PV.sl false 1 (l.map I))=L,st.map I=o,a.map I=x at *
   generalize m.bads.map I=bL,m.holds.map I=A,m.nodes.map nodeV=w,m.inits.map andV=y,m.nexts.map andV=v at *;by_cases n:e=0
   ·subst n
    rw[if_neg aj];by_cases hr:r=0
    ·subst hr
     rw[if_pos rfl] at i;have p:bm pg qjh ⟨[],[],gh⟩=fo ⟨[(4,I 0)],[],gh⟩:=bg (c:=qjh) (s:=⟨[],[],_⟩) (by simp[qjh]<;>rfl);refine ak (fn:=qjj) (s:=?Ja) rfl rfl (bg ?Jb) ?Jc
     case Jb=>simp[qji,qjj,f,b,h,j,hw,i,p];rfl
     case Jc=>simp[ag,results,qjj,ah,am,af]
    ·rw[if_neg hr] at i
     refine ak (fn:=qjj) (s:=?Jd) rfl rfl (bg ?Je) ?Jf
     case Je=>simp[qji,qjj,f,b,h,j,hw,i];rfl
     case Jf=>simp[ag,results,qjj,ah,am,af]
   ·rw[if_pos n]
    refine ak (fn:=qjj) (s:=?Jg) rfl rfl (bg ?Jh) ?Ji
    case Jh=>simp[qji,qjj,f,b,h,j,hw,n];rfl
    case Ji=>simp[ag,results,qjj,ah,am,af]
 ·rw[if_pos g]
  generalize dc m=e at *;rw[en] at *;simp only[jv,LsI,LI,LO,LN,LP] at *;generalize (ins.map λl=>PV.sl false 1 (l.map I))=L at *;refine ak (fn:=qjj) (s:=?Jj) rfl rfl (bg ?Jk) ?Jl
  case Jk=>simp[qji,qjj,f,g];rfl
  case Jl=>simp[ag,results,qjj,ah,am,af]
theorem S6 {st:fq} {a:ft} (p:dc m=0) (hn:a.length<=1000):∀(k i:Nat) (e:Int),i+k=a.length->
  bm pg qlj ⟨[(2,ec),(3,eK),(5,I e),(6,I i)],[[LN m.nodes,LP m.inits,LP m.nexts,LI m.bads,LI m.holds],[LI st,LsI a]],gh⟩=
   fg ⟨[(5,I (if e=0 then g8 m (a.drop i) else e))],[],gh⟩:=by
 intro k;have c:∀(i:Nat) (e:Int),e≠0\/a.length<=i->bm pg qlj ⟨[(2,ec),(3,eK),(5,I e),(6,I i)],[[LN m.nodes,LP m.inits,LP m.nexts,LI m.bads,LI m.holds],[LI st,LsI a]],gh⟩=fg ⟨[(5,I e)],[],gh⟩:=by
  intro i e h;have b:(a.map λl=>LI l).length=a.length:=aW _;simp only[LsI,LI,LO,LN,LP] at *;by_cases f:i<a.length
  ·have w:e≠0:=h.resolve_right aj
   have v:(e==0)=false:=by simp[w]
   have d:(i<a.length):=aj;rw[<-b] at d;generalize (a.map λl=>PV.sl false 1 (l.map I))=L at *;refine (bn (s1:=?J) (bg ?Z)).trans ?Y
   case Z=>simp[qkl,d,v];rfl
   case Y=>simp[keep,bj]
  ·have d:¬(i<a.length):=aj
   rw[<-b] at d;generalize (a.map λl=>PV.sl false 1 (l.map I))=L at *;refine (bn (s1:=?K) (bg ?V)).trans ?W
   case V=>simp[qkl,d];rfl
   case W=>simp[keep,bj]
 induction k with
 |zero=>
  intro i e t;rw[c i e (.inr aj),aM aj];by_cases o:e=0
  ·rw[if_pos o,o];rfl
  ·rw[if_neg o]
 | succ k q=>
  intro i e t;by_cases n:e≠0
  ·rw[if_neg n];exact c i e (.inl n)
  have o:e=0:=aj;subst o;rw[if_pos rfl];have f:i<a.length:=aj;have r:(a.map λl=>LI l)[i]?=some (LI a[i]):=by simp[f]
  have j:WI.wrap ((i:Int)+1)=((i+1:Nat):Int):=gv (by simp only[Sz];omega);have D:=(kC p).len;have hw:=P9 (m:=m) (gh:=gh) (kind:=2) (vs:=a[i]) aj (pd p 2);have g:=q (i+1) (jq m.nodes (ci m.nodes 2) a[i]) aj;rw[aJ f,g8];generalize jq m.nodes (ci m.nodes 2) a[i]=e,g8 m (a.drop (i+1))=rest at *;generalize a[i]=l at *;obtain⟨u,s⟩:∃u:Int,((i+1:Nat):Int)=u:=⟨_,rfl⟩
  rw[s] at j g;have b:(a.map λl=>LI l).length=a.length:=aW _;have d:(i<a.length):=aj;rw[<-b] at d;rw[en] at hw;simp only[LsI,LI,LO,LN,LP] at *;generalize (a.map λl=>PV.sl false 1 (l.map I))=L at *;generalize l.map I=B,st.map I=z,m.bads.map I=bL,m.holds.map I=E,m.nodes.map nodeV=A,m.inits.map andV=C,m.nexts.map andV=y at *;refine ay (bg ?Ja) g
  case Ja=>
   have x:decide (i<L.length)=true:=aG d;simp[qkl,x,r,hw,j,-getElem?_pos,List.getElem?_cons_zero,List.getElem?_cons_succ]
theorem S7 {st:fq} {a:ft} (z:Sz m.inits.length) (y:Sz m.nexts.length):ac pg 376 [e9 m,jv st a] gh=some (I (m7 m st a),gh):=by
 have k:=JC (gh:=gh) z y;have j:(a.map λl=>LI l).length=a.length:=aW _;have i:=fe (a.length:Int) 1 41 gh;have x:∀e:Int,bm pg qlk ⟨[(5,I e)],[],gh⟩=fo ⟨[(4,I e)],[],gh⟩:=λe=>bg (c:=qlk) (s:=⟨[(5,(.int .i64 _))],[],_⟩) (by simp[qlk]<;>rfl)
 have w:∀e:Int,(dc m=0/\a.length<=1000)\/e≠0->bm pg qn2 ⟨[(2,ec),(3,eK),(5,I e)],[[LN m.nodes,LP m.inits,LP m.nexts,LI m.bads,LI m.holds],[LI st,LsI a]],gh⟩=fo ⟨[(4,I (if e=0 then g8 m a else e))],[],gh⟩:=by
  intro e u;have A:bm pg qlj ⟨[(2,ec),(3,eK),(5,I e),(6,I 0)],[[LN m.nodes,LP m.inits,LP m.nexts,LI m.bads,LI m.holds],[LI st,LsI a]],gh⟩=fg ⟨[(5,I (if e=0 then g8 m a else e))],[],gh⟩:=by
   by_cases h:dc m=0/\a.length<=1000
   ·exact S6 (gh:=gh) (st:=st) h.1 h.2 a.length 0 e aj
   ·have f:e≠0:=u.resolve_left h
    rw[if_neg f];have i:(e==0)=false:=by simp[f]
    simp only[LsI,LI,LO,LN,LP] at *;generalize (a.map λl=>PV.sl false 1 (l.map I))=L at *;by_cases d:0<L.length
    ·refine (bn (s1:=?J) (bg ?Z)).trans ?Y
     case Z=>simp[qkl,d,i];rfl
     case Y=>simp[keep,bj]
    ·refine (bn (s1:=?K) (bg ?V)).trans ?W
     case V=>simp[qkl,d];rfl
     case W=>simp[keep,bj]
  generalize (if e=0 then g8 m a else e)=r at *;have o:=x r;simp only[LsI,LI,LO,LN,LP] at *;generalize (a.map λl=>PV.sl false 1 (l.map I))=L at *;exact bg (by simp[qn2,A,o])
 have p:∀e:Int,(dc m=0/\a.length<=1000)\/e≠0->bm pg qll ⟨[(2,ec),(3,eK),(5,I e)],[[LN m.nodes,LP m.inits,LP m.nexts,LI m.bads,LI m.holds],[LI st,LsI a]],gh⟩=fo ⟨[(4,I (if e≠0 then e else if jq m.nodes (ci m.nodes 3) st≠0 then jq m.nodes (ci m.nodes 3) st else g8 m a))],[],gh⟩:=by
  intro e u;refine bg ?_;by_cases f:e=0
  ·subst f
   have t:=u.resolve_right aj;have B:=(kC t.1).len;have hw:=P9 (m:=m) (gh:=gh) (kind:=3) (vs:=st) aj (pd t.1 3);rw[if_neg aj];generalize jq m.nodes (ci m.nodes 3) st=e at *;have g:=w e (.inl t);have q:(if e=0 then g8 m a else e)=(if e≠0 then e else g8 m a):=by by_cases h:e=0<;>simp[h]
   rw[q] at g;generalize (if e≠0 then e else g8 m a)=r at *;rw[en] at hw;simp only[LsI,LI,LO,LN,LP] at *;generalize (a.map λl=>PV.sl false 1 (l.map I))=L,st.map I=n at *;simp[qll,hw,g]
  ·have g:=w e (.inr f)
   rw[if_neg f] at g;rw[if_pos f];have v:(e==0)=false:=by simp[f]
   simp only[LsI,LI,LO,LN,LP] at *;generalize (a.map λl=>PV.sl false 1 (l.map I))=L at *;simp[qll,v,g]
 unfold m7;by_cases f:dc m=0
 ·rw[if_neg aj]
  rw[f] at k;by_cases hn:a.length<1\/41<a.length
  ·have b:=p 2 (.inr aj)
   rw[if_pos aj] at b;rw[if_pos hn];rw[aF (show ¬(1<=(a.length:Int)/\(a.length:Int)<=41) by omega),<-j] at i;rw[en] at *;simp only[jv,LsI,LI,LO,LN,LP] at *;generalize (a.map λl=>PV.sl false 1 (l.map I))=L,st.map I=n at *;refine ak (fn:=qk4) (s:=?Ja) rfl rfl (bg ?Jb) ?Jc
   case Jb=>simp[qlm,qk4,k,i,b];rfl
   case Jc=>simp[ag,results,qk4,ah,am,af]
  ·have b:=p 0 (.inl ⟨f,aj⟩)
   rw[if_neg aj] at b;rw[if_neg hn];generalize (if jq m.nodes (ci m.nodes 3) st≠0 then jq m.nodes (ci m.nodes 3) st else g8 m a)=r at *;rw[aG (show 1<=(a.length:Int)/\(a.length:Int)<=41 by omega),<-j] at i;rw[en] at *;simp only[jv,LsI,LI,LO,LN,LP] at *;generalize (a.map λl=>PV.sl false 1 (l.map I))=L,st.map I=n at *;refine ak (fn:=qk4) (s:=?Jd) rfl rfl (bg ?Je) ?Jf
   case Je=>simp[qlm,qk4,k,i,b];rfl
   case Jf=>simp[ag,results,qk4,ah,am,af]
 ·have b:=p (dc m) (.inr f)
  rw[if_pos f] at b ⊢;generalize dc m=e at *;rw[en] at *;simp only[jv,LsI,LI,LO,LN,LP] at *;generalize (a.map λl=>PV.sl false 1 (l.map I))=L,st.map I=n at *;refine ak (fn:=qk4) (s:=?Jg) rfl rfl (bg ?Jh) ?Ji
  case Jh=>simp[qlm,qk4,k,f,b];rfl
  case Ji=>simp[ag,results,qk4,ah,am,af]
end
end
section
attribute [local congr] bu
attribute [local simp] au
section
variable {gh:fB}
theorem Ce (k:Int):ac pg 352 [I k] gh=some (B (decide (k=1\/k=21)),gh):=by
 by_cases a:k=1
 ·subst a
  refine ak (fn:=q2v) (s:=?J) rfl rfl (bg ?Z) ?Y
  case Z=>simp[qc4,q2v];rfl
  case Y=>simp[ag,results,q2v,ah,am,af]
 ·refine ak (fn:=q2v) (s:=?K) rfl rfl (bg ?V) ?W
  case V=>simp[qc4,q2v,a];rfl
  case W=>simp[ag,results,q2v,ah,am,af,a]
def jw (k:Int):List UInt8:=wordsL.getD k.toNat []
variable {m:Md}
end
end
section
attribute [local congr] bu
attribute [local simp] au
def g9 {X:Type} (m:Md) (a:X->fq->fq->X):X->fq->ft->X
 |x,_,[]=>x
 |x,s,k::b=>g9 m a (a x s (gX m s k)) (j4 m (gX m s k)) b
section
variable {m:Md} {X:Type} {G:X->fB} {step:X->fq->fq->X} {μ:X->Nat} {f:Nat} {cs:fw}
theorem QM (h:cs.all az=true) (v:∀x s a,a.length=m.nodes.length->μ x<=100->ac pg f ([FI1 s,LI a]++cs) (G x)=some (.tup [],G (step x s a))) (q:∀x s a,μ (step x s a)<=μ x+1)
  {b:ft} (g:dc m=0) (r:∀l∈b,jq m.nodes (ci m.nodes 2) l=0) (hn:b.length<=1000):∀(k i:Nat) (x:X) (s:fq),i+k=b.length->μ x+k<=101->jq m.nodes (ci m.nodes 3) s=0->
  bm pg qjn ⟨[(2,.fn f cs),(3,ec),(6,LO s),(15,LsI b),(16,I b.length),(17,I i)],[[LN m.nodes,LP m.inits,LP m.nexts,LI m.bads,LI m.holds]],G x⟩=fg ⟨[],[],G (g9 m step x s (b.drop i))⟩
 |0,i,x,s,H,_,_=>by
  have c:¬(i:Int)<(b.length:Int):=aj;rw[aM aj,g9];refine (bn (s1:=?J) (bg ?Z)).trans ?Y
  case Z=>simp[qjm,c];rfl
  case Y=>simp[keep,bj]
 | k+1,i,x,s,H,B,E=>by
  have c:i<b.length:=aj;have d:(i:Int)<(b.length:Int):=aj;have C:(b.map λl=>LI l)[i]?=some (LI b[i]):=by simp[c]
  have e:WI.wrap ((i:Int)+1)=((i+1:Nat):Int):=gv (by simp only[Sz];omega);have t:VGood m.nodes 0 [] s b[i]:=Au E (r _ (cD c));have p:(gX m s b[i]).length=m.nodes.length:=AF;have N:=Ko (gh:=G x) g t;have w:=v x s (gX m s b[i]) p aj;have M:=SU (gh:=G (step x s (gX m s b[i]))) g p;have n:=OV g (Ok g t) p;have F:=q x s (gX m s b[i]);have j:=QM h v q g r hn k (i+1) (step x s (gX m s b[i])) (j4 m (gX m s b[i])) aj aj n;have ha:=h;rw[aJ c,g9];generalize g9 m step (step x s (gX m s b[i])) (j4 m (gX m s b[i])) (b.drop (i+1))=R at *
  generalize step x s (gX m s b[i])=y,j4 m (gX m s b[i])=z at *;generalize gX m s b[i]=a at *;generalize b[i]=l at *;obtain⟨u,D⟩:∃u:Int,((i+1:Nat):Int)=u:=⟨_,rfl⟩
  rw[D] at e j;rw[en] at *;simp only[LsI,LI,LO,FI1,LN,LP] at *;have o:b.length=(b.map λl=>PV.sl false 1 (l.map I)).length:=(aW _).symm;rw[o] at j d ⊢;generalize (b.map λl=>PV.sl false 1 (l.map I))=L at *;generalize l.map I=T,a.map I=P,s.map I=Q,z.map I=A,m.bads.map I=bL,m.holds.map I=hL,m.nodes.map nodeV=S,m.inits.map andV=U,m.nexts.map andV=O at *;refine ay (bg ?K) j
  case K=>
   simp only[bH,bF] at w;simp[qjm,d,C,N,ha,w,M,e]
theorem To (e:cs.all az=true)
  (j:∀x s a,a.length=m.nodes.length->μ x<=100->ac pg f ([FI1 s,LI a]++cs) (G x)=some (.tup [],G (step x s a))) (i:∀x s a,μ (step x s a)<=μ x+1)
  {st:fq} {b:ft} (c:OX m st b) {x:X} (o:μ x=0) :
  ac pg 253 [e9 m,jv st b,.fn f cs] (G x)=some (.tup [],G (g9 m step x (f0 m st) b)):=by
 have n:=Qi (gh:=G x) c.chk (zd c.start);have g:=QM e j i c.chk c.inputs (by have:=c.len;omega) b.length 0 x (f0 m st) aj (by have:=c.len;omega) (OW c.chk c.start);rw[bJ,aR] at g;generalize g9 m step x (f0 m st) b=R at *;generalize f0 m st=F at *;have d:(b.map λl=>LI l).length=b.length:=aW _;rw[<-d] at g;rw[en] at *;simp only[jv,LsI,LI,LO,LN,LP] at *;generalize (b.map λl=>PV.sl false 1 (l.map I))=L,st.map I=h,F.map I=p at *
 have k:bm pg qjo ⟨[(0,.agg [LN m.nodes,LP m.inits,LP m.nexts,LI m.bads,LI m.holds]),(1,.agg [cr h,cr L]),(2,.fn f cs)],[],G x⟩=fg ⟨[],[],G R⟩:=by refine bg ?_;simp[qjo,qjp,n,g]
 rw[ip (fn:=qjp) rfl rfl k];simp[ag,results,qjp,ah,af]
end
def wm (m:Md) (s:fq) (a:ft):ft:=g9 m (λ(x:ft) s _=>x++[s]) [] s a
def NY (m:Md) (s:fq) (b:ft):Bool×Bool:=g9 m (λ(x:Bool×Bool) _ a=>(x.1&&nv m a,qg m a)) (true,false) s b
def qq (m:Md) (st:fq) (a:ft):ft:=if m7 m st a=0 then wm m (f0 m st) a else []
section
variable {m:Md} {gh:fB}
def plG (a:fB) (x:ft):fB:=a++[.cells [dz (x.map λl=>FI1 l)]]
theorem Tp {x:ft} {s a:fq} (e:x.length<=100):ac pg 382 ([FI1 s,LI a]++[fc gh.length 0]) (plG gh x)=some (.tup [],plG gh (x++[s])):=by
 have b:(x.length+1)*24<=maxBytes:=by have:=MB;omega
 have d:=bg (c:=qn7) (s:=⟨[(0,FI1 s),(1,LI a),(2,fc gh.length 0)],[],plG gh x⟩) (r:=fg ⟨[],[],plG gh (x++[s])⟩) (pg:=pg) (by simp[qn7,qlo,plG,b,au]);simp only[bH,bF];rw[ip (fn:=qlo) rfl rfl d];simp[ag,results,qlo,ah,af]
theorem noGs_ints' (l:fq):eg (l.map I)=true:=by
 induction l with
 |nil=>rfl
 |cons a l b=>exact b
theorem Tq (P:ft):eg (P.map λl=>LI l)=true:=by
 induction P with
 |nil=>rfl
 |cons a P b=>
  rw[bS,Gj,b,RG,noGs_ints'];rfl
theorem Tr {st:fq} {ins:ft} (n:Sz m.inits.length) (k:Sz m.nexts.length):ac pg 375 [e9 m,jv st ins] gh=some (.tup [.fr 1 ((qq m st ins).map λl=>FI1 l),I (m7 m st ins)],gh):=by
 have d:=S5 (gh:=gh) (st:=st) (ins:=ins) n k;unfold qq;by_cases b:m7 m st ins=0
 ·rw[if_pos b]
  have j:=OY b;have g:=To (m:=m) (X:=ft) (G:=plG gh) (step:=λx s _=>x++[s]) (μ:=List.length) (f:=382) (cs:=[fc gh.length 0]) bh (λx s a _ i=>Tp i) (λx s a=>bh) j (x:=[]) rfl;change ac pg 253 _ _=some (_,plG gh (wm m (f0 m st) ins)) at g;rw[b] at d ⊢;generalize wm m (f0 m st) ins=P at *;rw[en] at *;have c:=OH P;simp only[jv,LsI,LI,LO,LN,LP,FI1,plG,bU] at *;generalize (ins.map λl=>PV.sl false 1 (l.map I))=L,(P.map λl=>PV.fr 1 (l.map I))=o,st.map I=h at *;refine ak (fn:=qkj) (s:=?J) rfl rfl (bg ?Z) ?Y
  case Z=>simp[qn6,qkj,d,g];rfl
  case Y=>simp[ag,results,qkj,ah,am,af,c]
 ·rw[if_neg b]
  generalize m7 m st ins=e at *;rw[en] at *;simp only[jv,LsI,LI,LO,LN,LP] at *;generalize (ins.map λl=>PV.sl false 1 (l.map I))=L,st.map I=h at *;refine ak (fn:=qkj) (s:=?K) rfl rfl (bg ?V) ?W
  case V=>simp[qn6,qkj,d,b];rfl
  case W=>simp[ag,results,qkj,ah,am,af]
theorem QN {st:fq} {d:ft} (h:dc m=0) (t:∀l∈d,jq m.nodes (ci m.nodes 2) l=0) (hn:d.length<=1000):∀(k i:Nat) (x:ft) (y:Bool×Bool) (s:fq),i+k=d.length->x.length+k<=2000->jq m.nodes (ci m.nodes 3) s=0->
  bm pg qn4 ⟨[(2,ec),(3,eK),(6,dz (x.map λl=>LI l)),(7,LI s),(8,B y.1),(9,B y.2),(10,I i)],[[LN m.nodes,LP m.inits,LP m.nexts,LI m.bads,LI m.holds],[LI st,LsI d]],gh⟩=
   fg ⟨[(6,dz ((g9 m (λ(x:ft) s _=>x++[s]) x s (d.drop i)).map λl=>LI l)),(8,B (g9 m (λ(x:Bool×Bool) _ c=>(x.1&&nv m c,qg m c)) y s (d.drop i)).1),(9,B (g9 m (λ(x:Bool×Bool) _ c=>(x.1&&nv m c,qg m c)) y s (d.drop i)).2)],[],gh⟩
 |0,i,x,y,s,G,_,_=>by
  have e:¬(i<d.length):=aj;have g:(d.map λl=>LI l).length=d.length:=aW _;rw[aM aj,g9,g9];rw[<-g] at e;obtain⟨a,b⟩:=y;simp only[LsI,LI,LO,LN,LP] at *;generalize (d.map λl=>PV.sl false 1 (l.map I))=L,(x.map λl=>PV.sl false 1 (l.map I))=w at *;refine (bn (s1:=?J) (bg ?Z)).trans ?Y
  case Z=>simp[qn3,e];rfl
  case Y=>simp[keep,bj]
 | k+1,i,x,y,s,G,C,F=>by
  have e:i<d.length:=aj;have D:(d.map λl=>LI l)[i]?=some (LI d[i]):=by simp[e]
  have j:WI.wrap ((i:Int)+1)=((i+1:Nat):Int):=gv (by simp only[Sz];omega);have v:VGood m.nodes 0 [] s d[i]:=Au F (t _ (cD e));have r:(gX m s d[i]).length=m.nodes.length:=AF;have N:=P6 (gh:=gh) h v;have M:=SX (gh:=gh) h r;have H:=SV (gh:=gh) h r;have p:=OV h (Ok h v) r;have n:=QN (st:=st) h t hn k (i+1) (x++[s]) (y.1&&nv m (gX m s d[i]),qg m (gX m s d[i])) (j4 m (gX m s d[i])) aj (by simp;omega) p;have q:((x.map λl=>LI l).length+1)*24<=maxBytes:=by have:=MB;rw[aW];omega
  have o:((x++[s]).map λl=>LI l)=(x.map λl=>LI l)++[LI s]:=bh;rw[aJ e,g9,g9];generalize (g9 m (λ(x:ft) s _=>x++[s]) (x++[s]) (j4 m (gX m s d[i])) (d.drop (i+1)))=R1,(g9 m (λ(x:Bool×Bool) _ c=>(x.1&&nv m c,qg m c)) (y.1&&nv m (gX m s d[i]),qg m (gX m s d[i])) (j4 m (gX m s d[i])) (d.drop (i+1)))=R2 at *;rw[o] at n;obtain⟨a,b⟩:=y;simp only at n ⊢;generalize nv m (gX m s d[i])=U,qg m (gX m s d[i])=bb at *;generalize j4 m (gX m s d[i])=z at *;generalize gX m s d[i]=c at *;generalize d[i]=l at *
  obtain⟨u,E⟩:∃u:Int,((i+1:Nat):Int)=u:=⟨_,rfl⟩
  rw[E] at j n;rw[en] at *;simp only[LsI,LI,LO,LN,LP] at *;have f:(i<d.length):=aj;have g:d.length=(d.map λl=>PV.sl false 1 (l.map I)).length:=(aW _).symm;rw[g] at f;generalize (d.map λl=>PV.sl false 1 (l.map I))=L,(x.map λl=>PV.sl false 1 (l.map I))=oL at *;generalize l.map I=S,c.map I=P,s.map I=Q,z.map I=A,m.bads.map I=bL,m.holds.map I=X,m.nodes.map nodeV=R,m.inits.map andV=T,m.nexts.map andV=w at *
  refine ay (bg ?K) n
  case K=>
   have O:decide (i<L.length)=true:=by simpa using f
   cases a<;>simp[qn3,O,D,q,N,M,H,j]
theorem Tt {st:fq} {c:ft} (d:OX m st c):ac pg 377 [e9 m,jv st c] gh=some (.tup [LsI (wm m (f0 m st) c),B ((NY m (f0 m st) c).1&&(NY m (f0 m st) c).2)],gh):=by
 have i:=SQ (gh:=gh) d.chk (zd d.start);have f:=QN (gh:=gh) (st:=st) d.chk d.inputs (by have:=d.len;omega) c.length 0 [] (true,false) (f0 m st) aj (by have:=d.len;simp;omega) (OW d.chk d.start);rw[bJ,aR] at f;change bm pg qn4 _=some (_,⟨[(_,dz ((wm m (f0 m st) c).map λl=>LI l)),(_,B (NY m (f0 m st) c).1),(_,B (NY m (f0 m st) c).2)],_,_⟩) at f;generalize NY m (f0 m st) c=j at *;obtain⟨a,b⟩:=j;generalize wm m (f0 m st) c=P at *;have e:=Tq P;generalize f0 m st=F at *;rw[en] at *;simp only[jv,LsI,LI,LO,LN,LP,bU] at *
 generalize (c.map λl=>PV.sl false 1 (l.map I))=L,(P.map λl=>PV.sl false 1 (l.map I))=g,st.map I=k,F.map I=n at *;have h:bm pg qn5 ⟨[(6,dz g),(8,B a),(9,B b)],[],gh⟩=fo ⟨[(4,cr g),(5,B (a&&b))],[],gh⟩:=by refine bg ?_;cases a<;>simp[qn5]
 refine ak (fn:=qln) (s:=?J) rfl rfl (bg ?Z) ?Y
 case Z=>simp[qor,qln,i,f,h];rfl
 case Y=>simp[ag,results,qln,ah,am,af,e]
end
end
end Go.Lw