/-
  The texts that the proof stands on, part 28.
-/
import Derived.Test.YtmodipglnngghadGreatDoorRestModelsZ1
set_option linter.unusedVariables false
set_option linter.unusedSimpArgs false
set_option linter.unnecessarySimpa false

set_option maxRecDepth 100000
set_option maxHeartbeats 4000000
namespace Go.Lw
open Go
section
variable {i:Int} {b:Bool} {x:Nd}
attribute [local congr] bu
attribute [local simp] au
section
variable {m:Md} {gh:fB}
def fK (c:Prop) [Decidable c] (f:fS) (b:Bool) (a:Int):Bool:=if c then b||f.getD a.toNat false else b
theorem Js (f:fS) (x:Nd):pb f x=fK (2<ar x.k) f (fK (1<ar x.k) f (fK (0<ar x.k) f (decide (x.k=2\/x.k=3)) x.a) x.b) x.c:=by unfold pb dG fK;rcases gD x.k with h|h|h|h<;>rw[h]<;>simp[Bool.or_assoc]
abbrev br (m:Md):fw:=[LN m.nodes,LP m.inits,LP m.nexts,LI m.bads,LI m.holds]
theorem Jt {f:fS} (c:f.length<=1000) :
  bm pg qb2 ⟨[(1,ec),(3,dz (f.map B)),(4,I i),(6,B b)],[br m],gh⟩=fg ⟨[(1,ec),(3,dz ((f++[b]).map B)),(4,I i)],[br m],gh⟩:=by
 have a:f.length+1<=maxBytes:=by have:=MB;omega
 refine bg ?_;simp[qb2,a]
theorem Ju {f:fS} (j:f.length<=1000) (l:2<ar x.k->0<=x.c/\x.c.toNat<f.length) :
  bm pg q46 ⟨[(1,ec),(3,dz (f.map B)),(4,I i),(5,eK),(6,B b)],[br m,[I x.k,I x.w,I x.a,I x.b,I x.c,I x.n]],gh⟩=
   fg ⟨[(1,ec),(3,dz ((f++[fK (2<ar x.k) f b x.c]).map B)),(4,I i)],[br m],gh⟩:=by
 have e:=gp x.k gh;have d:=λq=>Jt (m:=m) (gh:=gh) (i:=i) (b:=q) j
 unfold fK;refine bg ?_;by_cases h:2<ar x.k
 ·obtain⟨p,o⟩:=l h
  have g:=ni o;rw[if_pos h];generalize f.getD x.c.toNat false=c at *;generalize ar x.k=t at *;cases b with
  |true=>
   have d:=d true;simp only[br] at *;simp[q46,e,h,d]
  |false=>
   have d:=d c;simp only[br,Bool.false_or] at *;generalize (f++[c]).map B=r at *;generalize f.map B=F at *;simp[q46,e,h,p,g,d]
 ·rw[if_neg h]
  have d:=d b;generalize ar x.k=t at *;simp only[br] at *;generalize (f++[b]).map B=r at *;generalize f.map B=F at *;simp[q46,e,h,d]
theorem Jv {f:fS} (o:f.length<=1000) (q:1<ar x.k->0<=x.b/\x.b.toNat<f.length) (p:2<ar x.k->0<=x.c/\x.c.toNat<f.length) :
  bm pg q47 ⟨[(1,ec),(3,dz (f.map B)),(4,I i),(5,eK),(6,B b)],[br m,[I x.k,I x.w,I x.a,I x.b,I x.c,I x.n]],gh⟩=
   fg ⟨[(1,ec),(3,dz ((f++[fK (2<ar x.k) f (fK (1<ar x.k) f b x.b) x.c]).map B)),(4,I i)],[br m],gh⟩:=by
 have g:=gp x.k gh;have d:=λv=>Ju (m:=m) (gh:=gh) (i:=i) (b:=v) o p
 have e:∀c,fK (1<ar x.k) f b c=if 1<ar x.k then b||f.getD c.toNat false else b:=λ_=>rfl
 rw[e];refine bg ?_;by_cases h:1<ar x.k
 ·obtain⟨u,s⟩:=q h
  have j:=ni s;rw[if_pos h];generalize f.getD x.b.toNat false=c at *;cases b with
  |true=>
   have d:=d true;rw[Bool.true_or];generalize fK (2<ar x.k) f true x.c=r at *;simp only[br] at *;generalize ar x.k=t at *;generalize (f++[r]).map B=l at *;generalize f.map B=F at *;simp[q47,g,h,d]
  |false=>
   have d:=d c;rw[Bool.false_or];simp only[br] at *;generalize fK (2<ar x.k) f c x.c=r at *;generalize ar x.k=t at *;generalize (f++[r]).map B=l at *;generalize f.map B=F at *;simp[q47,g,h,u,j,d]
 ·rw[if_neg h]
  have d:=d b;generalize fK (2<ar x.k) f b x.c=r at *;generalize ar x.k=t at *;simp only[br] at *;generalize (f++[r]).map B=l at *;generalize f.map B=F at *;simp[q47,g,h,d]
theorem Aj (E:nh m.nodes) (H:m.nodes.length<=1000):∀k i (f:fS),i+k=m.nodes.length->f.length=i->
  bm pg qfo ⟨[(1,ec),(3,dz (f.map B)),(4,I (i:Int))],[br m],gh⟩=fg ⟨[(3,dz ((dU f (m.nodes.drop i)).map B))],[],gh⟩
 |0,i,f,h,_=>by
  rw[aM aj];have j:¬i<m.nodes.length:=aj;refine (bn (s1:=?J) (bg ?Z)).trans ?Y
  case Z=>simp[q2k,j];rfl
  case Y=>simp[keep,dU,bj]
 | k +1,i,f,h,Q=>by
  have j:i<m.nodes.length:=aj;have d:(i<m.nodes.length):=j;have N:WI.wrap ((i:Int)+1)=((i+1:Nat):Int):=by rw[aq aj aj];omega
  have q:(m.nodes.map nodeV)[i]?=some (nodeV m.nodes[i]):=by simp[aA j]
  have p:=E i _ (aA j);rw[aJ j,dU,Js];generalize m.nodes[i]=x at *;rw[dT x] at q;have ha:0<ar x.k->0<=x.a/\x.a.toNat<f.length:=λe=>by have:=p x.a (by unfold dG;rcases gD x.k with h|h|h|h<;>rw[h] at e ⊢ <;>simp at e ⊢);omega
  have M:1<ar x.k->0<=x.b/\x.b.toNat<f.length:=λe=>by have:=p x.b (by unfold dG;rcases gD x.k with h|h|h|h<;>rw[h] at e ⊢ <;>simp at e ⊢);omega
  have L:2<ar x.k->0<=x.c/\x.c.toNat<f.length:=λe=>by have:=p x.c (by unfold dG;rcases gD x.k with h|h|h|h<;>rw[h] at e ⊢ <;>simp at e ⊢);omega
  have g:=λP=>Jv (m:=m) (gh:=gh) (i:=(i:Int)) (b:=P) (by omega:f.length<=1000) M L
  have l:∀D:fw,bm pg qb3 ⟨[(1,ec),(3,dz D),(4,I (i:Int))],[br m],gh⟩=fg ⟨[(1,ec),(3,dz D),(4,I ((i+1:Nat):Int))],[br m],gh⟩:=λD=>by refine bg ?_;simp[qb3,N]
  have e:=gp x.k gh;refine ay (bg ?_) (Aj E H k (i+1) _ aj (by simp;omega));have O:∀b,fK (0<ar x.k) f b x.a=if 0<ar x.k then b||f.getD x.a.toNat false else b:=λ_=>rfl
  rw[O];simp only[br] at *;by_cases u:x.k=2
  ·have s:decide (x.k=2)=true:=aG u
   have z:decide (x.k=2\/x.k=3)=true:=aG (.inl u);rw[z];have w:(if 0<ar x.k then true||f.getD x.a.toNat false else true)=true:=by split<;>simp
   rw[w];have g:=g true;generalize fK (2<ar x.k) f (fK (1<ar x.k) f true x.b) x.c=r at *;have l:=l ((f++[r]).map B);generalize ar x.k=t at *;generalize (f++[r]).map B=G at *;generalize f.map B=F at *;by_cases o:0<t
   ·simp[q2k,d,q,s,e,o,g,l,List.getElem?_cons_zero,-List.getElem?_map,-getElem?_pos]
   ·simp[q2k,d,q,s,e,o,g,l,List.getElem?_cons_zero,-List.getElem?_map,-getElem?_pos]
  ·have s:¬(x.k=2):=u
   have z:decide (x.k=2\/x.k=3)=decide (x.k=3):=by simp[u]
   rw[z];by_cases o:0<ar x.k
   ·rw[if_pos o]
    obtain⟨C,A⟩:=ha o;have y:=ni A;generalize f.getD x.a.toNat false=c at *;have g:=g (decide (x.k=3)||c);generalize n:decide (x.k=3)=v at *;generalize fK (2<ar x.k) f (fK (1<ar x.k) f (v||c) x.b) x.c=r at *;have l:=l ((f++[r]).map B);generalize ar x.k=t at *;generalize (f++[r]).map B=G at *;generalize f.map B=F at *;cases v with
    |true=>
     rw[Bool.true_or] at g;simp[q2k,d,q,s,e,o,n,g,l,List.getElem?_cons_zero,-List.getElem?_map,-getElem?_pos]
    |false=>
     rw[Bool.false_or] at g;simp[q2k,d,q,s,e,o,n,C,y,g,l,List.getElem?_cons_zero,-List.getElem?_map,-getElem?_pos]
   ·rw[if_neg o]
    have g:=g (decide (x.k=3));generalize n:decide (x.k=3)=v at *;generalize fK (2<ar x.k) f (fK (1<ar x.k) f v x.b) x.c=r at *;have l:=l ((f++[r]).map B);generalize ar x.k=t at *;generalize (f++[r]).map B=G at *;generalize f.map B=F at *;simp[q2k,d,q,s,e,o,n,g,l,List.getElem?_cons_zero,-List.getElem?_map,-getElem?_pos]
theorem Jw (g:nh m.nodes) (e:m.nodes.length<=1000):ac pg 74 [e9 m] gh=some (cr ((dU [] m.nodes).map B),gh):=by
 have h:=Aj (gh:=gh) g e m.nodes.length 0 [] aj rfl;rw[bJ] at h;simp only[bU,aR,br] at h;have hn:eg ((dU [] m.nodes).map B)=true:=by
  generalize dU [] m.nodes=l
  induction l with
  |nil=>rfl
  |cons a l d=>simpa using d
 generalize (dU [] m.nodes).map B=b at *;have f:=bg (c:=qb4) (s:=⟨[(3,(dz b))],[],gh⟩) (r:=fo ⟨[(2,cr b)],[],gh⟩) (pg:=pg) (by simp[qb4]);rw[en];refine ak (fn:=q79) (s:=⟨[(2,cr b)],[],gh⟩) rfl rfl (bg ?J) ?Z
 case J=>simp[qfp,q79,h,f]
 case Z=>simp[ag,results,q79,ah,am,af,hn]
end
end
section
attribute [local congr] bu
attribute [local simp] au
def jU:fN->fN->Bool
 |_,[]=>false
 |a,p::l=>a.any (λq=>decide (p.1=q.1))||jU (a++[p]) l
theorem Ak:∀{pre l:fN},jU pre l=false↔((l.map (·.1)).Nodup/\∀p∈l,∀q∈pre,p.1≠q.1)
 |pre,[]=>by simp[jU]
 | pre,p::l=>by
  rw[jU,Bool.or_eq_false_iff,Ak (pre:=pre++[p]) (l:=l)];simp only[List.any_eq_false,bS,List.nodup_cons,List.mem_cons,cE,List.not_mem_nil,or_false,aH];constructor
  ·rintro⟨f,e,c⟩
   refine⟨⟨λg=>?_,e⟩,?_⟩
   ·obtain⟨q,b,d⟩:=List.mem_map.1 g
    exact c q b p (.inr rfl) d
   ·rintro a (rfl|ha) q b
    ·exact f q b
    ·exact c a ha q (.inl b)
  ·rintro⟨⟨f,e⟩,c⟩
   refine⟨λq b=>c p (.inl rfl) q b,e,λa ha q b=>?_⟩;rcases b with b|rfl
   ·exact c a (.inr ha) q b
   ·exact λd=>f (d▸List.mem_map_of_mem ha)
theorem Jx (l:fN):jU [] l=decide (dK l):=by
 have h:=Ak (pre:=[]) (l:=l);unfold dK;cases a:jU [] l with
 |false=>exact (aF λhn=>hn (h.1 a).1).symm
 |true=>
  have:¬jU [] l=false:=by simp[a]
  rw[h] at this;exact (aG (p:=¬(l.map (·.1)).Nodup) λhn=>this ⟨hn,bh⟩).symm
section
variable {m:Md} {gh:fB}
theorem Al (d:m.nodes.length<=1000):∀k i,i+k=m.nodes.length->
  bm pg qfe ⟨[(1,ec),(3,I (i:Int))],[br m],gh⟩=
   if fG m.nodes i (m.nodes.drop i)=0 then fg ⟨[(1,ec)],[br m],gh⟩
   else fo ⟨[(2,I (fG m.nodes i (m.nodes.drop i)))],[],gh⟩
 |0,i,h=>by
  rw[aM aj,fG,if_pos rfl];have a:¬i<m.nodes.length:=aj;refine (bn (s1:=?J) (bg ?Z)).trans ?Y
  case Z=>simp[q6y,a];rfl
  case Y=>simp[keep,bj]
 | k+1,i,h=>by
  have a:i<m.nodes.length:=aj;have b:(i<m.nodes.length):=a;have e:WI.wrap ((i:Int)+1)=((i+1:Nat):Int):=by rw[aq aj aj];omega
  have hn:=IH (l:=m.nodes) (gh:=gh) (idx:=i) (aA a) aj;rw[aJ a,fG];generalize eA m.nodes (i:Int) m.nodes[i]=r at *;by_cases c:r=0
  ·rw[if_pos c]
   refine ay (s1:=⟨[(1,ec),(3,I ((i+1:Nat):Int))],[br m],gh⟩) (bg ?_) (Al d k (i+1) aj);simp[q6y,b,hn,c,e]
  ·rw[if_neg c,if_neg c]
   refine cx (bg ?_);simp[q6y,b,hn,c]
theorem uQ (a:m.nodes.length<=1000) (n:Int):ac pg 50 [I n,I 0,I (WI.wrap ((m.nodes.length:Int)-1))] gh=some (B (decide (c8 m.nodes n)),gh):=by have e:WI.wrap ((m.nodes.length:Int)-1)=(m.nodes.length:Int)-1:=aq aj aj;rw[e,fe];have:decide (0<=n/\n<=(m.nodes.length:Int)-1)=decide (c8 m.nodes n):=decide_eq_decide.2 ⟨λh=>⟨h.1,aj⟩,λh=>⟨h.1,by have:=h.2;have:=h.1;omega⟩⟩;rw[this]
theorem uR {f:fS} {ps:fN} {k:Nat} (Q:f.length=m.nodes.length) (M:m.nodes.length<=1000) (O:Sz ps.length):∀n j,j+n=ps.length->
  bm pg q6z ⟨[(1,ec),(5,cr (f.map B)),(6,I (k:Int)),(7,LP ps),(8,I (j:Int))],[br m],gh⟩=
   if di m.nodes f (decide (k=0)) (ps.drop j)=0 then fg ⟨[(1,ec),(5,cr (f.map B)),(6,I (k:Int))],[br m],gh⟩
   else fo ⟨[(2,I (di m.nodes f (decide (k=0)) (ps.drop j)))],[],gh⟩
 |0,j,h=>by
  rw[aM aj,di,if_pos rfl];have i:¬j<ps.length:=aj;refine (bn (s1:=?J) (bg ?Z)).trans ?Y
  case Z=>simp[q1d];simp[i];rfl
  case Y=>simp[keep,bj]
 | n + 1,j,h=>by
  have i:j<ps.length:=aj;have d:(j<ps.length):=i;have P:(j:Int)<(ps.length:Int):=aj;have R:WI.wrap ((j:Int)+1)=((j+1:Nat):Int):=gv (by simp only[Sz] at O ⊢;omega);have t:(ps.map andV)[j]?=some (andV ps[j]):=by simp[aA i]
  rw[mT] at t;rw[aJ i,di];generalize ps[j]=p at *;obtain⟨a,b⟩:=p;simp only at t;have g:((k:Int)==0)=decide (k=0):=by rw[yt];exact decide_eq_decide.2 aj
  obtain⟨c,x⟩:∃c,decide (k=0)=c:=⟨_,rfl⟩
  rw[x] at g ⊢;have s:=uQ (m:=m) (gh:=gh) M a;have v:=uQ (m:=m) (gh:=gh) M b;have S:(m.nodes.map nodeV).length=m.nodes.length:=bh;generalize hw:WI.wrap ((m.nodes.length:Int)-1)=w at *
  have e:∀r,r≠0->eW m.nodes f c (a,b)=r->evK pg q1d fiK ⟨[(1,(ec)),(5,(cr (f.map B))),(6,(.int .i64 k)),(7,(LP ps)),(8,(.int .i64 j))],[[(LN m.nodes),(LP m.inits),(LP m.nexts),(LI m.bads),(LI m.holds)]],gh⟩=fo ⟨[(2,I r)],[],gh⟩->
    bm pg q6z ⟨[(1,ec),(5,cr (f.map B)),(6,I (k:Int)),(7,LP ps),(8,I (j:Int))],[br m],gh⟩=
   if (if eW m.nodes f c (a,b)=0 then di m.nodes f c (ps.drop (j+1)) else eW m.nodes f c (a,b))=0 then fg ⟨[(1,ec),(5,cr (f.map B)),(6,I (k:Int))],[br m],gh⟩
   else fo ⟨[(2,I (if eW m.nodes f c (a,b)=0 then di m.nodes f c (ps.drop (j+1)) else eW m.nodes f c (a,b)))],[],gh⟩:=by
   intro r hr N T;rw[N,if_neg hr,if_neg hr];exact cx (bg T)
  by_cases G:c8 m.nodes a
  ·rw [aG G] at s
   by_cases C:c8 m.nodes b
   ·rw [aG C] at v
    have q:=iP G;have A:=iP C;have D:=G.1;have L:=C.1;have u:=ni (f:=f) (a:=b) (by rw[Q];exact C.2);by_cases E:(m.nodes.getD a.toNat default).k=3
    ·by_cases o:wAt m.nodes a=wAt m.nodes b
     ·by_cases y:c=true/\f.getD b.toNat false=true
      ·refine e 4 bz (by simp only[eW];rw[if_neg (by rintro (h|h|h)<;>contradiction),if_neg (λh=>h o),if_pos y]) ?_
       obtain⟨rfl,y⟩:=y;rw[y] at u;unfold wAt at o;generalize m.nodes.getD a.toNat default=l,m.nodes.getD b.toNat default=H at *;rw[dT l] at q;rw[dT H] at A;have z:(l.k=3):=E;simp[q1d,g,d,t,hw,s,v,D,L,q,A,z,o,u,List.getElem?_cons_zero,-List.getElem?_map,-getElem?_pos]
      ·have N:eW m.nodes f c (a,b)=0:=by simp only[eW];rw[if_neg (by rintro (h|h|h)<;>contradiction),if_neg (λh=>h o),if_neg y]
       rw[N,if_pos rfl];refine ay (s1:=⟨[(1,ec),(5,cr (f.map B)),(6,I (k:Int)),(7,LP ps),(8,I ((j+1:Nat):Int))],[br m],gh⟩) (bg ?_) ?_
       ·unfold wAt at o
        generalize m.nodes.getD a.toNat default=l,m.nodes.getD b.toNat default=H at *;rw[dT l] at q;rw[dT H] at A;have z:(l.k=3):=E;cases c with
        |true=>
         have y:f.getD b.toNat false=false:=by simpa using y
         rw[y] at u;generalize f.map B=F at *;simp[q1d,g,d,t,hw,s,v,D,L,q,A,z,o,u,R,List.getElem?_cons_zero,-List.getElem?_map,-getElem?_pos]
        |false=>
         generalize f.map B=F at *;simp[q1d,g,d,t,hw,s,v,D,L,q,A,z,o,R,List.getElem?_cons_zero,-List.getElem?_map,-getElem?_pos]
       ·rw[<-x]
        exact uR Q M O n (j+1) aj
     ·refine e 1 bz (by simp only[eW];rw[if_neg (by rintro (h|h|h)<;>contradiction),if_pos o]) ?_
      unfold wAt at o;generalize m.nodes.getD a.toNat default=l,m.nodes.getD b.toNat default=H at *;rw[dT l] at q;rw[dT H] at A;have z:(l.k=3):=E;simp[q1d,g,d,t,hw,s,v,D,L,q,A,z,o,List.getElem?_cons_zero,-List.getElem?_map,-getElem?_pos]
    ·refine e 5 bz (by simp only[eW];rw[if_pos (.inr (.inr E))]) ?_
     generalize m.nodes.getD a.toNat default=l at *;rw[dT l] at q;have z:¬(l.k=3):=E;simp[q1d,g,d,t,hw,s,v,D,q,z,List.getElem?_cons_zero,-List.getElem?_map,-getElem?_pos]
   ·rw[aF C] at v
    refine e 5 bz (by simp only[eW];rw[if_pos (.inr (.inl C))]) ?_;simp[q1d,g,d,t,hw,s,v,List.getElem?_cons_zero,-List.getElem?_map,-getElem?_pos]
  ·rw[aF G] at s
   refine e 5 bz (by simp only[eW];rw[if_pos (.inl G)]) ?_;simp[q1d,g,d,t,hw,s,List.getElem?_cons_zero,-List.getElem?_map,-getElem?_pos]
theorem Am {c:fN} {k i:Nat} {s w:Int} (r:Sz c.length) (l:c[i]?=some (s,w)):∀n j,j+n=i->
  bm pg qfg ⟨[(1,ec),(10,I (k:Int)),(11,LP c),(12,I (i:Int)),(13,I (j:Int))],[br m],gh⟩=
   if ((c.take i).drop j).any (λq=>decide (s=q.1))=true then fo ⟨[(2,I 6)],[],gh⟩
   else fg ⟨[(1,ec),(10,I (k:Int)),(11,LP c),(12,I (i:Int))],[br m],gh⟩
 |0,j,h=>by
  have p:=(aD.1 l).1;rw[aM (by simp;omega),List.any_nil,if_neg bh];have e:¬j<i:=aj;refine (bn (s1:=?J) (bg ?Z)).trans ?Y
  case Z=>simp[q70,e];rfl
  case Y=>simp[keep,bj]
 | n+1,j,h=>by
  have p:=(aD.1 l).1;have e:(j:Int)<(i:Int):=aj;have d:j<i:=aj;have u:WI.wrap ((j:Int)+1)=((j+1:Nat):Int):=gv (by simp only[Sz] at r ⊢;omega);have t:j<(c.take i).length:=by simp;omega
  have g:(c.map andV)[j]?=some (andV (c.take i)[j]):=by simp[aA (show j<c.length by omega)]
  have f:(c.map andV)[i]?=some (andV (s,w)):=by simp[l]
  rw[mT] at g f;rw[aJ t,List.any_cons];generalize (c.take i)[j]=q at *;obtain⟨a,b⟩:=q;simp only at g f ⊢;by_cases o:s=a
  ·rw[aG o,Bool.true_or,if_pos rfl]
   refine cx (bg ?_);simp[q70,d,g,f,o,List.getElem?_cons_zero,-List.getElem?_map,-getElem?_pos]
  ·rw[aF o,Bool.false_or]
   refine ay (s1:=⟨[(1,ec),(10,I (k:Int)),(11,LP c),(12,I (i:Int)),(13,I ((j+1:Nat):Int))],[br m],gh⟩) (bg ?_) (Am r l n (j+1) aj);simp[q70,d,g,f,o,u,List.getElem?_cons_zero,-List.getElem?_map,-getElem?_pos]
theorem uS {ps:fN} {k:Nat} (f:Sz ps.length):∀n i,i+n=ps.length->
  bm pg qas ⟨[(1,ec),(10,I (k:Int)),(11,LP ps),(12,I (i:Int))],[br m],gh⟩=
   if jU (ps.take i) (ps.drop i)=true then fo ⟨[(2,I 6)],[],gh⟩ else fg ⟨[(1,ec),(10,I (k:Int))],[br m],gh⟩
 |0,i,h=>by
  rw[aM aj,jU,if_neg bh];have a:¬i<ps.length:=aj;refine (bn (s1:=?J) (bg ?Z)).trans ?Y
  case Z=>simp[q71];simp[a];rfl
  case Y=>simp[keep,bj]
 | n+1,i,h=>by
  have a:i<ps.length:=aj;have b:(i<ps.length):=a;have p:WI.wrap ((i:Int)+1)=((i+1:Nat):Int):=gv (by simp only[Sz] at f ⊢;omega);have l:ps[i]?=some (ps[i].1,ps[i].2):=aA a;have c:=Am (m:=m) (gh:=gh) (k:=k) f l i 0 aj;rw[bJ] at c;simp only[aR] at c;have e:ps.take i++[ps[i]]=ps.take (i+1):=bh;have o:(ps.map andV).length=ps.length:=bh;rw[aJ a,jU,e];have j:bm pg qar ⟨[(1,ec),(10,I (k:Int)),(11,LP ps),(12,I (i:Int))],[br m],gh⟩=fg ⟨[(1,ec),(10,I (k:Int)),(11,LP ps),(12,I ((i+1:Nat):Int))],[br m],gh⟩:=by refine bg ?_;simp[qar,p]
  have d:=uS (k:=k) f n (i+1) aj;cases g:(ps.take i).any (λq=>decide (ps[i].1=q.1)) with
  |true=>
   rw[g,if_pos rfl] at c;rw[Bool.true_or,if_pos rfl];refine cx (bg ?_);simp only[br] at *;simp[q71,b,c]
  |false=>
   rw[g,if_neg bh] at c;rw[Bool.false_or];refine ay (s1:=⟨[(1,ec),(10,I (k:Int)),(11,LP ps),(12,I ((i+1:Nat):Int))],[br m],gh⟩) (bg ?_) d;simp only[br] at *;simp[q71,b,c,j]
theorem Ao {xs:fq} (g:m.nodes.length<=1000) (f:Sz xs.length):∀n i,i+n=xs.length->
  bm pg qfi ⟨[(1,ec),(14,dz (xs.map I)),(15,I (i:Int))],[br m],gh⟩=
   if (xs.drop i).any (λa=> !decide (c8 m.nodes a))=true then fo ⟨[(2,I 5)],[],gh⟩ else fg ⟨[(1,ec),(14,dz (xs.map I))],[br m],gh⟩
 |0,i,h=>by
  rw[aM aj,List.any_nil,if_neg bh];have b:¬i<xs.length:=aj;refine (bn (s1:=?J) (bg ?Z)).trans ?Y
  case Z=>simp[q72];simp[b];rfl
  case Y=>simp[keep,bj]
 | n+1,i,h=>by
  have b:i<xs.length:=aj;have c:(i<xs.length):=b;have k:WI.wrap ((i:Int)+1)=((i+1:Nat):Int):=gv (by simp only[Sz] at f ⊢;omega);have j:(xs.map I)[i]?=some (I xs[i]):=by simp[aA b]
  have e:=uQ (m:=m) (gh:=gh) g xs[i];generalize hw:WI.wrap ((m.nodes.length:Int)-1)=w at *;have d:=Ao g f n (i+1) aj;rw[aJ b,List.any_cons];generalize xs[i]=a at *;by_cases hn:c8 m.nodes a
  ·rw[aG hn] at e ⊢
   rw[Bool.not_true,Bool.false_or];refine ay (s1:=⟨[(1,ec),(14,dz (xs.map I)),(15,I ((i+1:Nat):Int))],[br m],gh⟩) (bg ?_) d;simp[q72,c,j,hw,e,k,List.getElem?_cons_zero,-List.getElem?_map,-getElem?_pos]
  ·rw[aF hn] at e ⊢
   rw[Bool.not_false,Bool.true_or,if_pos rfl];refine cx (bg ?_);simp[q72,c,j,hw,e,List.getElem?_cons_zero,-List.getElem?_map,-getElem?_pos]
theorem Ap {xs:fq} (hn:∀a∈xs,c8 m.nodes a) (j:Sz xs.length):∀n i,i+n=xs.length->
  bm pg q74 ⟨[(1,ec),(14,dz (xs.map I)),(16,I (i:Int))],[br m],gh⟩=
   if (xs.drop i).any (λa=> !decide (wAt m.nodes a=1))=true then fo ⟨[(2,I 1)],[],gh⟩ else fg ⟨[],[],gh⟩
 |0,i,h=>by
  rw[aM aj,List.any_nil,if_neg bh];have b:¬i<xs.length:=aj;refine (bn (s1:=?J) (bg ?Z)).trans ?Y
  case Z=>simp[q73];simp[b];rfl
  case Y=>simp[keep]
 | n+1,i,h=>by
  have b:i<xs.length:=aj;have e:(i<xs.length):=b;have o:WI.wrap ((i:Int)+1)=((i+1:Nat):Int):=gv (by simp only[Sz] at j ⊢;omega);have k:(xs.map I)[i]?=some (I xs[i]):=by simp[aA b]
  have g:=hn _ (cD b);have f:=iP g;have l:=g.1;have c:=Ap hn j n (i+1) aj;rw[aJ b,List.any_cons];generalize xs[i]=a at *;unfold wAt at c ⊢;generalize m.nodes.getD a.toNat default=d at *;rw[dT d] at f;by_cases hw:d.w=1
  ·rw[aG hw,Bool.not_true,Bool.false_or]
   refine ay (s1:=⟨[(1,ec),(14,dz (xs.map I)),(16,I ((i+1:Nat):Int))],[br m],gh⟩) (bg ?_) c;simp[q73,e,k,l,f,hw,o,List.getElem?_cons_zero,-List.getElem?_map,-getElem?_pos]
  ·rw[aF hw,Bool.not_false,Bool.true_or,if_pos rfl]
   refine cx (bg ?_);simp[q73,e,k,l,f,hw,List.getElem?_cons_zero,-List.getElem?_map,-getElem?_pos]
end
end
section
attribute [local congr] bu
attribute [local simp] au
section
variable {m:Md} {gh:fB}
theorem Jy {f:fS} (q:f.length=m.nodes.length) (p:m.nodes.length<=1000) (v:Sz m.inits.length) (u:Sz m.nexts.length) :
  bm pg qff ⟨[(1,ec),(5,cr (f.map B)),(6,I 0)],[br m],gh⟩=
   if di m.nodes f true m.inits≠0 then fo ⟨[(2,I (di m.nodes f true m.inits))],[],gh⟩
   else if di m.nodes f false m.nexts≠0 then fo ⟨[(2,I (di m.nodes f false m.nexts))],[],gh⟩
   else fg ⟨[(1,ec)],[br m],gh⟩:=by
 have b:=uR (gh:=gh) (m:=m) (ps:=m.inits) (k:=0) q p v m.inits.length 0 aj;have a:=uR (gh:=gh) (m:=m) (ps:=m.nexts) (k:=1) q p u m.nexts.length 0 aj;rw[bJ] at b a;simp only[aR,decide_true] at b a;rw[show decide (1=0)=false from rfl] at a;simp only[Int.natCast_one] at b a;have t:WI.wrap (0+1)=1:=bz;have r:WI.wrap (1+1)=2:=bz;generalize f.map B=F at *;have o:∀x,bm pg qaq ⟨[(1,ec),(5,cr F),(6,I x)],[br m],gh⟩=fg ⟨[(1,ec),(5,cr F),(6,I (WI.wrap (x+1)))],[br m],gh⟩:=λx=>by refine bg ?_;simp[qaq]
 have j:∀x ps e s,bm pg q6z ⟨[(1,ec),(5,cr F),(6,I x),(7,LP ps),(8,I 0)],[br m],gh⟩=some (e,s)->bm pg qap ⟨[(1,ec),(5,cr F),(6,I x),(7,LP ps)],[br m],gh⟩=some (e,s):=λx ps e s h=>by refine bg ?_;simp only[br] at *;simp[qap,h]
 by_cases n:di m.nodes f true m.inits=0
 ·rw[if_pos n] at b
  rw[if_neg (λh=>h n)];have i:=o 0;rw[t] at i;have d:=j _ _ _ _ b;refine ay (s1:=⟨[(1,ec),(5,cr F),(6,I 1)],[br m],gh⟩) (bg (by simp only[br] at *;simp[q3e,d,i])) ?_;by_cases l:di m.nodes f false m.nexts=0
  ·rw[if_pos l] at a
   rw[if_neg (λh=>h l)];have g:=o 1;rw[r] at g;have c:=j _ _ _ _ a;refine ay (s1:=⟨[(1,ec),(5,cr F),(6,I 2)],[br m],gh⟩) (bg (by simp only[br] at *;simp[q3e,c,g])) ?_;refine (bn (s1:=?J) (bg ?Z)).trans ?Y
   case Z=>simp[q3e];rfl
   case Y=>simp[keep,bj]
  ·rw[if_neg l] at a
   rw[if_pos l];have c:=j _ _ _ _ a;refine cx (bg ?_);simp only[br] at *;simp[q3e,c]
 ·rw[if_neg n] at b
  rw[if_pos n];have d:=j _ _ _ _ b;refine cx (bg ?_);simp only[br] at *;simp[q3e,d]
theorem Jz (r:Sz m.inits.length) (q:Sz m.nexts.length) :
  bm pg qfh ⟨[(1,ec),(10,I 0)],[br m],gh⟩=
   if dK m.inits\/dK m.nexts then fo ⟨[(2,I 6)],[],gh⟩ else fg ⟨[(1,ec)],[br m],gh⟩:=by
 have d:=uS (gh:=gh) (m:=m) (ps:=m.inits) (k:=0) r m.inits.length 0 aj;have c:=uS (gh:=gh) (m:=m) (ps:=m.nexts) (k:=1) q m.nexts.length 0 aj;rw[bJ,List.take_zero,Jx] at d c;simp only[aR,Int.natCast_one,aH] at d c;have p:WI.wrap (0+1)=1:=bz;have o:WI.wrap (1+1)=2:=bz;have n:∀x,bm pg qau ⟨[(1,ec),(10,I x)],[br m],gh⟩=fg ⟨[(1,ec),(10,I (WI.wrap (x+1)))],[br m],gh⟩:=λx=>by refine bg ?_;simp[qau]
 have i:∀x ps e s,bm pg qas ⟨[(1,ec),(10,I x),(11,LP ps),(12,I 0)],[br m],gh⟩=some (e,s)->bm pg qat ⟨[(1,ec),(10,I x),(11,LP ps)],[br m],gh⟩=some (e,s):=λx ps e s h=>by refine bg ?_;simp only[br] at *;simp[qat,h]
 by_cases l:dK m.inits
 ·rw[if_pos l] at d
  rw[if_pos (.inl l)];have b:=i _ _ _ _ d;refine cx (bg ?_);simp only[br] at *;simp[q3f,b]
 ·rw[if_neg l] at d
  have b:=i _ _ _ _ d;have g:=n 0;rw[p] at g;refine ay (s1:=⟨[(1,ec),(10,I 1)],[br m],gh⟩) (bg (by simp only[br] at *;simp[q3f,b,g])) ?_;by_cases j:dK m.nexts
  ·rw[if_pos j] at c
   rw[if_pos (.inr j)];have a:=i _ _ _ _ c;refine cx (bg ?_);simp only[br] at *;simp[q3f,a]
  ·rw[if_neg j] at c
   rw[if_neg (by rintro (h|h)<;>contradiction)];have a:=i _ _ _ _ c;have f:=n 1;rw[o] at f;refine ay (s1:=⟨[(1,ec),(10,I 2)],[br m],gh⟩) (bg (by simp only[br] at *;simp[q3f,a,f])) ?_;refine (bn (s1:=?J) (bg ?Z)).trans ?Y
   case Z=>simp[q3f];rfl
   case Y=>simp[keep,bj]
def pc (m:Md):Int:=
 if m.nexts.length≠(ci m.nodes 3).length then 5 else if (m.bads++m.holds).any (λa=> !decide (c8 m.nodes a)) then 5
 else if (m.bads++m.holds).any (λa=> !decide (wAt m.nodes a=1)) then 1 else 0
theorem JA (A:m.nodes.length<=1000) (E:m.bads.length<=100) (D:m.holds.length<=100) :
  bm pg q3g ⟨[(1,ec)],[br m],gh⟩=fo ⟨[(2,I (pc m))],[],gh⟩:=by
 have o:=Jr (m:=m) (gh:=gh) (kind:=3) aj;rw[en] at o;have B:=MB;have j:m.bads.length*8<=maxBytes:=aj;have i:(m.bads.length+m.holds.length)*8<=maxBytes:=aj;have n:Sz (m.bads++m.holds).length:=by simp only[Sz,aQ];omega
 have g:=Ao (m:=m) (gh:=gh) (xs:=m.bads++m.holds) A n (m.bads++m.holds).length 0 aj;have d:(∀a∈m.bads++m.holds,c8 m.nodes a)->_:=λhn=>Ap (m:=m) (gh:=gh) (xs:=m.bads++m.holds) hn n (m.bads++m.holds).length 0 aj
 rw[bJ] at g;rw[bJ] at d;simp only[aR] at g d;have w:(m.bads++m.holds).any (λa=> !decide (c8 m.nodes a))=false->∀a∈m.bads++m.holds,c8 m.nodes a:=λh a ha=>by have:=List.any_eq_false.1 h a ha;simpa using this
 unfold pc;generalize (m.bads++m.holds).any (λa=> !decide (c8 m.nodes a))=z,(m.bads++m.holds).any (λa=> !decide (wAt m.nodes a=1))=y,C:ci m.nodes 3=b at *;have f:(b.map I).length=b.length:=bh;have e:(m.nexts.map andV).length=m.nexts.length:=bh;have l:(m.bads.map I).length=m.bads.length:=bh;have k:(m.holds.map I).length=m.holds.length:=bh;have v:=bg (c:=qav) (s:=⟨[],[],gh⟩) (r:=fo ⟨[(2,I 0)],[],gh⟩) (pg:=pg) (by simp[qav]<;>rfl)
 have q:∀M s,bm pg q74 ⟨[(1,ec),(14,dz M),(16,I 0)],[br m],gh⟩=fo s->bm pg q44 ⟨[(1,ec),(14,dz M)],[br m],gh⟩=fo s:=λM s h=>by simp only[br] at *;refine bg ?_;simp[q44,h]
 have t:∀M,bm pg q74 ⟨[(1,ec),(14,dz M),(16,I 0)],[br m],gh⟩=fg ⟨[],[],gh⟩->bm pg q44 ⟨[(1,ec),(14,dz M)],[br m],gh⟩=fo ⟨[(2,I 0)],[],gh⟩:=λM h=>by simp only[br] at *;refine bg ?_;simp[q44,h,v]
 refine bg ?_;simp only[bI] at g d;simp only[LI,br] at *;generalize m.bads.map I=H,m.holds.map I=G,b.map I=L,m.nexts.map andV=F at *;by_cases p:m.nexts.length=b.length
 ·rw[if_neg (λh=>h p)]
  cases z with
  |true=>
   rw[if_pos rfl] at g ⊢;simp[q3g,o,f,e,p,l,k,j,i,g]
  | false=>
   rw[if_neg bh] at g ⊢;have d:=d (w rfl);cases y with
   |true=>
    rw[if_pos rfl] at d ⊢;have u:=q _ _ d;simp[q3g,o,f,e,p,l,k,j,i,g,u]
   |false=>
    rw[if_neg bh] at d ⊢;have u:=t _ d;simp[q3g,o,f,e,p,l,k,j,i,g,u]
 ·rw[if_pos p]
  have x:¬(m.nexts.length:Int)=(b.length:Int):=aj;simp[q3g,o,f,e,x]
theorem JB {f:fS} (h:iz m f=0):pc m=jp m:=by
 unfold iz at h;split at h
 ·contradiction
 split at h
 ·contradiction
 rename_i v u;split at h
 ·contradiction
 rename_i t;have s:(m.nexts.map (·.1)).Nodup:=by
  have:=λh=>t (.inr h)
  unfold dK at this;exact aP this
 have o:∀(l:fN),di m.nodes f false l=0->∀p∈l,p.1∈ci m.nodes 3:=by
  intro l
  induction l with
  |nil=>intro _ p b;simp at b
  | cons q l n=>
   intro g p b;rw[di] at g;split at g
   ·rename_i d
    rcases List.mem_cons.1 b with rfl|b
    ·unfold eW at d
     split at d
     ·contradiction
     rename_i hn;have e:c8 m.nodes p.1:=aP λh=>hn (.inl h)
     have i:(m.nodes.getD p.1.toNat default).k=3:=aP λh=>hn (.inr (.inr h))
     refine kindF_mem.2 ⟨p.1.toNat,e.2,?_,?_⟩
     ·have:=e.1;omega
     ·rw[aK,aA e.2] at i
      rw[aA e.2];simpa using i
    ·exact n g p b
   ·contradiction
 have r:m.nexts.length<=(ci m.nodes 3).length:=by have:=List.Nodup.length_le_of_subset s (l₂:=ci m.nodes 3) (λa ha=>by obtain⟨p,b,rfl⟩:=List.mem_map.1 ha;exact o _ (by simpa using u) p b);simpa using this
 unfold pc jp;by_cases j:m.nexts.length=(ci m.nodes 3).length
 ·rw[if_neg (c:=m.nexts.length≠_) (λh=>h j),if_neg (c:=m.nexts.length<_) aj]
 ·rw[if_pos j,if_pos aj]
theorem JC (z:Sz m.inits.length) (y:Sz m.nexts.length):ac pg 36 [e9 m] gh=some (I (dc m),gh):=by
 unfold dc;have H:(m.nodes.map nodeV).length=m.nodes.length:=bh;have M:(m.bads.map I).length=m.bads.length:=bh;have L:(m.holds.map I).length=m.holds.length:=bh;rw[en];by_cases A:m.nodes.length>80\/m.bads.length>8\/m.holds.length>8
 ·rw [if_pos A]
  refine ak (fn:=qo) (s:=⟨[(2,I 2)],[],gh⟩) rfl rfl (bg ?J) ?Z
  case Z=>simp[ag,results,qo,ah,am,af]
  case J=>
   by_cases j:(80:Int)<(m.nodes.length:Int)
   ·simp[q2h,qo,j]
   ·by_cases n:(8:Int)<(m.bads.length:Int)
    ·simp[q2h,qo,j,n]
    ·have t:(8:Int)<(m.holds.length:Int):=aj
     simp[q2h,qo,j,n,t]
 ·rw [if_neg A]
  have j:¬(80:Int)<(m.nodes.length:Int):=aj;have n:¬(8:Int)<(m.bads.length:Int):=aj;have t:¬(8:Int)<(m.holds.length:Int):=aj;have i:=Al (m:=m) (gh:=gh) aj m.nodes.length 0 aj;rw[bJ] at i;simp only[aR,br] at i;by_cases hn:fG m.nodes 0 m.nodes=0
  ·rw [if_neg (λh=>h hn)]
   rw[if_pos hn] at i;have b:=Ai (m:=m) (gh:=gh) (kind:=2) aj;have c:=Ai (m:=m) (gh:=gh) (kind:=3) aj;have a:=Jw (m:=m) (gh:=gh) (uM hn) aj;rw[en] at b c a;have G:(dU [] m.nodes).length=m.nodes.length:=by simpa using uD [] m.nodes
   have e:=Jy (gh:=gh) G aj z y;have u:=Jz (m:=m) (gh:=gh) z y;have E:=JA (m:=m) (gh:=gh) aj aj aj;have g:=JB (m:=m) (f:=dU [] m.nodes);unfold iz at g ⊢;simp only[br] at *;generalize (dU [] m.nodes).map B=F,di m.nodes (dU [] m.nodes) true m.inits=D,di m.nodes (dU [] m.nodes) false m.nexts=C at *;by_cases p:cw m.nodes 2>6\/cw m.nodes 3>10
   ·rw[if_pos p]
    have x:bm pg q1j ⟨[(1,ec)],[[LN m.nodes,LP m.inits,LP m.nexts,LI m.bads,LI m.holds]],gh⟩=fo ⟨[(2,I 2)],[],gh⟩:=by
     refine bg ?_;by_cases k:6<cw m.nodes 2
     ·simp[q1j,b,k]
     ·have o:10<cw m.nodes 3:=aj
      simp[q1j,b,c,k,o]
    refine ak (fn:=qo) (s:=⟨[(2,I 2)],[],gh⟩) rfl rfl (bg ?Y) ?K
    case K=>simp[ag,results,qo,ah,am,af]
    case Y=>simp[q2h,qo,j,n,t,i,x]
   ·rw [if_neg p]
    have k:¬6<cw m.nodes 2:=aj;have o:¬10<cw m.nodes 3:=aj;have d:∀r,bm pg q1j ⟨[(1,ec)],[[LN m.nodes,LP m.inits,LP m.nexts,LI m.bads,LI m.holds]],gh⟩=fo ⟨[(2,I r)],[],gh⟩->ac pg 36 [.agg [LN m.nodes,LP m.inits,LP m.nexts,LI m.bads,LI m.holds]] gh=some (I r,gh):=λr x=>by
     refine ak (fn:=qo) (s:=⟨[(2,I r)],[],gh⟩) rfl rfl (bg ?V) ?W
     case W=>simp[ag,results,qo,ah,am,af]
     case V=>simp[q2h,qo,j,n,t,i,x]
    by_cases l:D=0
    ·rw [if_neg (λh=>h l)] at e
     by_cases q:C=0
     ·rw[if_neg (λh=>h q)] at e
      by_cases v:dK m.inits\/dK m.nexts
      ·rw[if_pos v] at u
       have w:bm pg q45 ⟨[(1,ec)],[[LN m.nodes,LP m.inits,LP m.nexts,LI m.bads,LI m.holds]],gh⟩=fo ⟨[(2,I 6)],[],gh⟩:=by refine bg ?_;simp[q45,u]
       simp only[l,q,v,if_true,ne_eq,not_true,if_false];refine d 6 (bg ?_);simp[q1j,b,c,k,o,a,e,w]
      ·rw[if_neg v] at u
       have w:bm pg q45 ⟨[(1,ec)],[[LN m.nodes,LP m.inits,LP m.nexts,LI m.bads,LI m.holds]],gh⟩=fo ⟨[(2,I (pc m))],[],gh⟩:=by refine bg ?_;simp[q45,u,E]
       simp only[l,q,v,if_true,ne_eq,not_true,if_false] at g ⊢;rw[<-g trivial];refine d _ (bg ?_);simp[q1j,b,c,k,o,a,e,w]
     ·rw[if_pos q] at e
      simp only[l,q,ne_eq,not_true,not_false_iff,if_false,if_true];refine d _ (bg ?_);simp[q1j,b,c,k,o,a,e]
    ·rw[if_pos l] at e
     simp only[l,ne_eq,not_true,not_false_iff,if_true];refine d _ (bg ?_);simp[q1j,b,c,k,o,a,e]
  ·rw[if_pos hn]
   rw[if_neg hn] at i;generalize fG m.nodes 0 m.nodes=r at *;refine ak (fn:=qo) (s:=⟨[(2,I r)],[],gh⟩) rfl rfl (bg ?Ja) ?Jb
   case Jb=>simp[ag,results,qo,ah,am,af]
   case Ja=>simp[q2h,qo,j,n,t,i]
end
end
section
attribute [local congr] bu
attribute [local simp] au
structure lW (m:Md):Prop where
 len:m.nodes.length<=80
 ahead:nh m.nodes
 pairs:∀p∈m.inits++m.nexts,c8 m.nodes p.1/\c8 m.nodes p.2
 nod1:(m.inits.map (·.1)).Nodup
 nod2:(m.nexts.map (·.1)).Nodup
theorem uU {l:List Nd} {f:fS} {a:Bool}:∀{c:fN},di l f a c=0->∀p∈c,c8 l p.1/\c8 l p.2
 |[],_,p,b=>by cases b
 | q ::c,h,p,b=>by
  rw[di] at h;split at h
  ·rename_i d
   rcases List.mem_cons.1 b with rfl|b
   ·unfold eW at d
    split at d
    ·contradiction
    ·rename_i hn
     exact⟨aP λh=>hn (.inl h),aP λh=>hn (.inr (.inl h))⟩
   ·exact uU h p b
  ·contradiction
theorem kC {m:Md} (h:dc m=0):lW m:=by
 unfold dc at h;split at h
 ·contradiction
 rename_i g;split at h
 ·contradiction
 rename_i f;split at h
 ·contradiction
 split at h
 ·contradiction
 rename_i a;have a:iz m (dU [] m.nodes)=0:=aP a;unfold iz at a;split at a
 ·contradiction
 rename_i d;split at a
 ·contradiction
 rename_i c;split at a
 ·contradiction
 rename_i e;have d:=aP d;have c:=aP c;refine⟨aj,uM (aP f),λp b=>?_,?_,?_⟩
 ·rcases cE.1 b with b|b
  ·exact uU d p b
  ·exact uU c p b
 ·exact aP λh=>e (.inl h)
 ·exact aP λh=>e (.inr h)
end
section
attribute [local congr] bu
attribute [local simp] au
theorem JD {x:Int} (h:0<=x):∃n:Nat,x=n:=⟨x.toNat,aj⟩
section
variable (k width n v e a b c w0 w1 w2:Int) (gh:fB)
end
end
section
attribute [local congr] bu
attribute [local simp] au
def rJ (l:List Nd) (b:fq):Prop:=∀a∈b,c8 l a/\1<=wAt l a/\wAt l a<=8
def kE (L:List Nd):fq->fq->Int
 |a::c,v::b=>if 0<=v/\v<((2^(wAt L a).toNat:Nat):Int) then kE L c b else 3
 |[],_=>0
 |_::_,[]=>0
def jq (L:List Nd) (b a:fq):Int:=if a.length≠b.length then 2 else kE L b a
section
variable {m:Md} {gh:fB}
theorem JE {m:Md} (h:dc m=0):fG m.nodes 0 m.nodes=0:=by
 unfold dc at h;split at h
 ·contradiction
 split at h
 ·contradiction
 rename_i a;exact aP a
theorem rK {m:Md} (h:dc m=0) {i:Nat} {x:Nd} (a:m.nodes[i]?=some x):eA m.nodes i x=0:=by
 have:=uL (JE h) i x a
 rwa [cX] at this
theorem Aq {m:Md} (h:dc m=0) {i:Nat} {x:Nd} (b:m.nodes[i]?=some x):1<=x.w/\x.w<=8:=by
 have a:=rK h b;unfold eA at a;split at a
 ·omega
 split at a
 ·omega
 rename_i hw;exact aP hw
theorem Ar {m:Md} (h:dc m=0) {ns:fq} (hn:∀a∈ns,c8 m.nodes a):rJ m.nodes ns:=by intro a ha;have b:=hn a ha;refine⟨b,?_⟩;unfold wAt;rw[aK,aA b.2];exact Aq h (aA b.2)
theorem pd {m:Md} (h:dc m=0) (a:Int):rJ m.nodes (ci m.nodes a):=Ar h λ_ ha=>zR ha
end
end
section
attribute [local congr] bu
attribute [local simp] au
def ma (L:List Nd) (d:fq) (x:Nd):Int:=
 cy x.k x.w (d.getD x.a.toNat 0) (d.getD x.b.toNat 0) (d.getD x.c.toNat 0) x.n (wdJ L x.k 0 x.a) (wdJ L x.k 1 x.b)
def fR (L:List Nd):fq->fq->fq->List Nd->fq
 |acc,_,_,[]=>acc
 |acc,ss,ks,x::l=>
  if x.k=1 then fR L (acc++[x.n]) ss ks l else if x.k=3 then fR L (acc++[ss.headD 0]) ss.tail ks l
  else if x.k=2 then fR L (acc++[ks.headD 0]) ss ks.tail l else fR L (acc++[ma L acc x]) ss ks l
def InW (L:List Nd) (a:fq):Prop:=∀j:Nat,j<a.length->0<=a.getD j 0/\a.getD j 0<((2^(wAt L j).toNat:Nat):Int)
structure VGood (L:List Nd) (i:Nat) (acc ss ks:fq):Prop where
 len:acc.length=i
 inw:InW L acc
 sl:ss.length=(da 3 i (L.drop i)).length
 sw:kE L (da 3 i (L.drop i)) ss=0
 kl:ks.length=(da 2 i (L.drop i)).length
 kw:kE L (da 2 i (L.drop i)) ks=0
theorem At {L:List Nd} {a:Int} {d c:fq} (e:c.length=(a::d).length) (h:kE L (a::d) c=0) :
  ∃v b,c=v::b/\0<=v/\v<((2^(wAt L a).toNat:Nat):Int)/\b.length=d.length/\kE L d b=0:=by
 cases c with
 |nil=>simp at e
 | cons v b=>
  rw[kE] at h;split at h
  ·rename_i f
   exact⟨v,b,rfl,f.1,f.2,by simpa using e,h⟩
  ·cases h
theorem rL {L:List Nd} {i:Nat} {x:Nd} (a:L[i]?=some x):wAt L (i:Int)=x.w:=by unfold wAt;rw[aK,Int.toNat_natCast,a];rfl
theorem InW.push {L:List Nd} {a:fq} {i:Nat} {x:Nd} {v:Int} (h:InW L a) (f:a.length=i) (c:L[i]?=some x) (k:0<=v) (g:v<((2^x.w.toNat:Nat):Int)):InW L (a++[v]):=by
 intro j d;rw[aQ,List.length_singleton] at d;by_cases b:j<a.length
 ·have e:(a++[v]).getD j 0=a.getD j 0:=by simp[aK,aI b]
  rw[e];exact h j b
 ·have l:j=i:=aj
  subst l;have e:(a++[v]).getD j 0=v:=by simp[aK,<-f]
  rw[e,rL c];exact⟨k,g⟩
section
variable {L:List Nd} {i:Nat} {acc ss ks:fq} {x:Nd}
theorem VGood.other (h:VGood L i acc ss ks) (b:L[i]?=some x) (l:x.k≠3) (m:x.k≠2) {v:Int} (j:0<=v) (g:v<((2^x.w.toNat:Nat):Int)):VGood L (i+1) (acc++[v]) ss ks:=by obtain⟨a,rfl⟩:=aD.1 b;obtain⟨f,n,e,d,e5,c⟩:=h;rw[aJ a,da,if_neg l] at e d;rw[aJ a,da,if_neg m] at e5 c;exact⟨by simp[f],n.push f b j g,e,d,e5,c⟩
theorem VGood.state (h:VGood L i acc ss ks) (c:L[i]?=some x) (n:x.k=3):∃v a,ss=v::a/\VGood L (i+1) (acc++[v]) a ks:=by obtain⟨b,rfl⟩:=aD.1 c;obtain⟨j,o,g,f,e5,e⟩:=h;rw[aJ b,da,if_pos n] at g f;rw[aJ b,da,if_neg aj] at e5 e;obtain⟨v,a,rfl,l,d,m,hw⟩:=At g f;rw[rL c] at d;exact⟨v,a,rfl,by simp[j],o.push j c l d,m,hw,e5,e⟩
theorem VGood.input (h:VGood L i acc ss ks) (c:L[i]?=some x) (n:x.k=2):∃v a,ks=v::a/\VGood L (i+1) (acc++[v]) ss a:=by obtain⟨b,rfl⟩:=aD.1 c;obtain⟨j,o,g,f,e5,e⟩:=h;rw[aJ b,da,if_neg aj] at g f;rw[aJ b,da,if_pos n] at e5 e;obtain⟨v,a,rfl,l,d,m,hw⟩:=At e5 e;rw[rL c] at d;exact⟨v,a,rfl,by simp[j],o.push j c l d,g,f,m,hw⟩
structure pf (L:List Nd) (i:Nat) (x:Nd):Prop where
 fit:ir x.k x.w x.n (wdJ L x.k 0 x.a) (wdJ L x.k 1 x.b) (wdJ L x.k 2 x.c)=0
 a:0<=x.a/\x.a<i
 b:0<=x.b/\x.b<i
 c:0<=x.c/\x.c<i
 inn:oV L x
theorem uV (d:L[i]?=some x) (hn:eA L i x=0) (l:¬x.k<=3):pf L i x:=by
 unfold eA at hn;split at hn
 ·omega
 split at hn
 ·omega
 split at hn
 ·omega
 rename_i a;have f:i<=L.length:=Nat.le_of_lt (aD.1 d).1;have c:=ux f a;have b:=(rj hn).1;have e:=Kn b;unfold gW eV at a;simp only[not_or] at a;obtain⟨j,h,g⟩:=a;rw[if_pos e] at j;refine⟨hn,aj,?_,?_,c⟩
 ·split at h<;>omega
 ·split at g<;>omega
theorem uW (hn:eA L i x=0) (a:x.k=1):0<=x.n/\x.n<((2^x.w.toNat:Nat):Int):=by
 unfold eA at hn;split at hn
 ·omega
 split at hn
 ·omega
 rw[if_pos aj] at hn;split at hn
 ·omega
 rename_i h;exact aP λb=>h ⟨a,b⟩
theorem JF {k w a b c n w0 w1:Int} (hw:1<=w/\w<=8):0<=cy k w a b c n w0 w1/\cy k w a b c n w0 w1<((2^w.toNat:Nat):Int):=by obtain⟨d,rfl⟩:=JD (show 0<=w by omega);rw[fA k a b c n w0 w1 aj,Int.toNat_natCast];have:(0:Int)<((2^d:Nat):Int):=Int.natCast_pos.2 (Nat.two_pow_pos d);exact⟨Int.emod_nonneg _ aj,Int.emod_lt_of_pos _ this⟩
theorem VGood.op (h:VGood L i acc ss ks) (d:L[i]?=some x) (f:x.k≠3) (g:x.k≠2) (e:pf L i x):VGood L (i+1) (acc++[ma L acc x]) ss ks:=
 have hw:=JF (k:=x.k) (a:=acc.getD x.a.toNat 0) (b:=acc.getD x.b.toNat 0) (c:=acc.getD x.c.toNat 0) (n:=x.n) (w0:=wdJ L x.k 0 x.a) (w1:=wdJ L x.k 1 x.b) (rj e.fit).2.1
 h.other d f g hw.1 hw.2
theorem JG (h:VGood L i acc ss ks) {a:Int} (ha:0<=a/\a<i):0<=acc.getD a.toNat 0/\acc.getD a.toNat 0<((2^(wAt L a).toNat:Nat):Int):=by
 have:=h.inw a.toNat (by rw[h.len];omega)
 rwa [show ((a.toNat:Nat):Int)=a by omega] at this
theorem JH (h:VGood L i acc ss ks) (g:pf L i x) (e:fB) :
  ac pg 66 [I x.k,I x.w,I (acc.getD x.a.toNat 0),I (acc.getD x.b.toNat 0),I (acc.getD x.c.toNat 0),I x.n,gV L x] e=some (I (ma L acc x),e):=by
 obtain⟨j,hw,f,m,r,s,t,d⟩:=rj g.fit;have o:=Kn j;unfold wOk at f m r;rw[if_pos o] at f;refine HE _ _ _ _ _ _ _ _ _ j (JG h g.b).1 (λp=>?_) f (λq=>?_) aj e
 ·unfold b9 at d
  by_cases l:s=6
  ·simp[l] at d;omega
  ·by_cases hn:x.n=0
   ·omega
   ·simp[l,hn] at d
 ·have:1<ar x.k:=by rcases q with h|h<;>rw[h]<;>decide
  rwa [if_pos this] at m
theorem Au {m:Md} {c d:fq} (a:jq m.nodes (ci m.nodes 3) c=0) (b:jq m.nodes (ci m.nodes 2) d=0):VGood m.nodes 0 [] c d:=by
 unfold jq at a b;split at a
 ·cases a
 split at b
 ·cases b
 exact⟨rfl,λj e=>by simp at e,by rw[bJ];rename_i h _;exact aP h,by rw[bJ];exact a,by rw[bJ];rename_i _ h;exact aP h,by rw[bJ];exact b⟩
theorem Av:∀{l:List Nd} {acc ss ks:fq},(fR L acc ss ks l).length=acc.length+l.length
 |[],_,_,_=>rfl
 |x::l,acc,ss,ks=>by
  rw[fR]
  repeat' split
  all_goals rw[Av];simp;omega
theorem ph (d:∀(j:Nat) (x:Nd),L[j]?=some x->eA L j x=0):∀k i acc ss ks,i+k=L.length->VGood L i acc ss ks->InW L (fR L acc ss ks (L.drop i))
 |0,i,acc,ss,ks,h,c=>by rw[aM aj];exact c.inw
 | k +1,i,acc,ss,ks,h,c=>by
  have e:i<L.length:=aj;have b:L[i]?=some L[i]:=aA e;have hn:=d i _ b;rw[aJ e,fR];split
  ·rename_i l
   have:=uW hn l;exact ph d k (i+1) _ _ _ aj (c.other b aj aj this.1 this.2)
  ·split
   ·rename_i f
    obtain⟨v,m,rfl,a⟩:=c.state b f;exact ph d k (i+1) _ _ _ aj a
   ·split
    ·rename_i g
     obtain⟨v,n,rfl,a⟩:=c.input b g;exact ph d k (i+1) _ _ _ aj a
    ·rename_i l f g
     have p:¬L[i].k<=3:=by
      intro o;unfold eA at hn;split at hn
      ·omega
      ·omega
     exact ph d k (i+1) _ _ _ aj (c.op b f g (uV b hn p))
end
end
section
attribute [local congr] bu
attribute [local simp] au nkS
section
variable {pre:fB} {ins:Int} {v:fS}
def cI (N:Nat):Nat->Nat->fq
 |_,0=>[]
 |i,m+1=>((N/2^i%2:Nat):Int)::cI N (i+1) m
def cB (N:Nat):Nat->Nat->fS
 |_,0=>[]
 |i,m+1=>decide (N/2^i%2=1)::cB N (i+1) m
theorem lk (N:Nat):∀m i,(cB N i m).length=m
 |0,_=>rfl
 |m+1,i=>by rw[cB,aV,lk N m]
theorem uX (N:Nat):∀m i,num (cB N i m)=N/2^i%2^m
 |0,i=>by simp[cB,num,Nat.mod_one]
 | m+1,i=>by
  rw[cB,num,uX N m,Nat.pow_succ 2 i,<-Nat.div_div_eq_div_mul,Nat.pow_succ 2 m,Nat.mul_comm (2^m) 2,Nat.mod_mul];generalize N/2^i=q;by_cases h:q%2=1
  ·simp[h]
  ·have:q%2=0:=aj
   simp[this]
theorem Aw (a:0<=ins) {A:fN} (N:Nat):∀m i,Ls ins v A (cI N i m) (cB N i m)
 |0,_=>trivial
 |m+1,i=>by
  refine⟨?_,Aw a N m (i+1)⟩;by_cases h:N/2^i%2=1
  ·rw[h,aG rfl];exact oQ a
  ·rw[show N/2^i%2=0 by omega,aF bz];exact oO a
theorem Ax {k w a b c:Int} {N d:Nat} (o:N<256) (hw:d<=8) (G:fB):∀(m i:Nat) (e:fq),i+m=d->e.length=i->
  bm pg qde ⟨[(3,ec),(11,dz (e.map I)),(50,I (d:Int)),(51,I (i:Int))],[[I k,I w,I a,I b,I c,I (N:Int)]],G⟩=fg ⟨[(11,dz ((e++cI N i m).map I))],[],G⟩
 |0,i,e,h,_=>by
  have f:¬((i:Nat):Int)<(d:Int):=aj;rw[cI,bE];refine (bn (s1:=?J) (bg ?Z)).trans ?Y
  case Z=>simp[q8q,f];rfl
  case Y=>simp[keep]
 | m+1,i,e,h,ha=>by
  have f:((i:Nat):Int)<(d:Int):=aj;have j:(0:Int)<=(i:Int):=aj;have l:(e.map I).length=i:=by simpa using ha
  have g:(i+1)*8<=maxBytes:=by have:=MB;omega
  have r:=wrS' i aj;have s:N/2^i<=N:=Nat.div_le_self _ _;have p:jI .i64 (kg .i64 (N:Int) (i:Int)) 1=((N/2^i%2:Nat):Int):=by rw[qX _ _ aj,show (1:Int)=((1:Nat):Int) from rfl,tP aj aj,Nat.and_one_is_mod]
  have n:=Ax (k:=k) (w:=w) (a:=a) (b:=b) (c:=c) o hw G m (i+1) (e++[((N/2^i%2:Nat):Int)]) aj (by simp;omega);rw[aT,bI (l₁:=e) (l₂:=[((N/2^i%2:Nat):Int)])] at n;refine ay (s1:=⟨[(3,ec),(11,dz (e.map I++[((N/2^i%2:Nat):Int)].map I)),(50,I (d:Int)),(51,I ((i+1:Nat):Int))],[[I k,I w,I a,I b,I c,I (N:Int)]],G⟩) (bg ?K) n
  case K=>
   generalize e.map I=X,N/2^i%2=q at *;simp[q8q,f];simp[j,l,p,g,r]
theorem JI {k w a b c:Int} {N e:Nat} {X Y d:fw} {l j i:Bool} {G:fB} (h:k=1) (hw:w=(e:Int)) (n:e<=8) (o:N<256) :
  bm pg qa (nkS pre k w a b c N X Y d l j i G)=fo ⟨[(4,cr ((cI N 0 e).map I))],[],G⟩:=by
 have m:(k==1)=true:=by rw[h];rfl
 clear h;have f:=Ax (k:=k) (w:=w) (a:=a) (b:=b) (c:=c) o n G e 0 [] aj rfl;rw[bF,<-hw] at f;simp only[bU,aR] at f;generalize (cI N 0 e).map I=R at *;have g:bm pg q8r ⟨[(11,dz R)],[],G⟩=fo ⟨[(4,cr R)],[],G⟩:=bg (by simp[q8r]);refine bg ?_;simp[qa,m,f,g]
theorem JJ {H:BC} {A f d:fN} {X Y:fw} {x y c e b:Int} {n i:Nat} (o:i<n) (hn:n<=1000) (j:X[i]?=some (I x)) (h:Y[i]?=some (I y))
  (l:ac pg 224 [fc (pre.length+2) 0,I x,I y] (H.g pre ins A)=some (I e,H.g pre ins f))
  (k:ac pg 49 [fc (pre.length+1) 0,I c,I (fa e)] (H.g pre ins f)=some (I b,H.g pre ins d)) :
  evK pg q4z fiK ⟨[(0,(fc (pre.length+2) 0)),(8,(cr X)),(9,(cr Y)),(19,(.int .i64 c)),(157,(.int .i64 n)),(158,(.int .i64 i))],[],(H.g pre ins A)⟩=fg ⟨[(0,fc (pre.length+2) 0),(8,cr X),(9,cr Y),(19,I b),(157,I n),(158,I ((i+1:Nat):Int))],[],H.g pre ins d⟩:=by
 have a:(i:Int)<(n:Int):=aj;have m:=wrS' i aj;simp[q4z,a,j,h,jo,keptB,rt,List.getElem?_cons_zero,-getElem?_pos,l,kx,k,m]
theorem Ay (f:fB) (l:(v.length:Int)=ins):∀(rx h a k:fq) (o m:fS) (A:fN) (c:Int) (p:Bool),cq ins A=0->A.length+4*rx.length<=1000000->k.length=a.length->h.length=rx.length->a.length+rx.length<=1000->
  Ls ins v A rx o->Ls ins v A h m->Lt ins v A c p->
  ∃u C,(∀H:BC,bm pg q8s ⟨[(0,fc (f.length+2) 0),(8,LI (a++rx)),(9,LI (k++h)),(19,I c),(157,I ((a.length+rx.length:Nat):Int)),(158,I (a.length:Int))],[],H.g f ins A⟩=fg ⟨[(19,I C)],[],H.g f ins u⟩)/\
   Stp ins A u (4*rx.length)/\Lt ins v u C (eqB o m p)
 |[],[],a,k,[],[],A,c,p,t,_,_,_,_,_,_,j=>by
  refine⟨A,c,λH=>?_,Stp.refl t,j⟩;have s:¬((a.length:Nat):Int)<((a.length+([]:fq).length:Nat):Int):=bh;refine (bn (s1:=?J) (bg ?Z)).trans ?Y
  case Z=>simp[q4z,s];rfl
  case Y=>simp[keep]
 |x::rx,y::h,a,k,b::o,e::m,A,c,p,t,F,G,L,hn,z,w,j=>by
  simp only[aV] at F L hn;obtain⟨A1,d,O,s1,E⟩:=rz f l t aj z.1 w.1;have b1:=s1.2.1;obtain⟨X,T,N,r,D⟩:=jT f l s1.1 aj (j.mono l s1) (E.not s1.1);have b2:=r.2.1;have q:=s1.trans r;obtain⟨U,S,R,Q,P⟩:=Ay f l rx h (a++[x]) (k++[y]) o m X T _ r.1 aj (by simp;omega) aj (by simp;omega) (z.2.mono l q) (w.2.mono l q) D;refine⟨U,S,λH=>?_,(q.trans Q).mono (by simp only[aV];omega),P⟩;have M:=JJ (H:=H) (n:=a.length+(x::rx).length) (i:=a.length) bh (by simp only[aV];omega) (get_at (rx:=rx) (x:=x) rfl) (get_at (rx:=h) (x:=y) G) (O H) (N H)
  refine ay (bg M) ?_;have B:=R H;rw[show (a++[x]).length+rx.length=a.length+(x::rx).length by simp;omega,show (a++[x]).length=a.length+1 by simp,aT a [x] rx,aT k [y] h] at B;exact B
def NS (h:fB) (f:Int) (v:fS) (A:fN) (k w n:Int) (X Y d:fq) (j:Int):Prop:=
 ∃m i l e o,(∀(H:BC) (a b c:Int) (r q p:Bool),bm pg qa (nkS h k w a b c n (X.map I) (Y.map I) (d.map I) r q p (H.g h f A))=fo ⟨[(4,.sl o 1 (i.map I))],[],(H.push e).g h f m⟩)/\
  Stp f A m 5000/\Ls f v m i l/\(l.length:Int)=w/\(num l:Int)=j
theorem uY (pre:fB) {A:fN} {c f:Nat} {p:PV} {op:Bool->Bool->Bool} (B:(v.length:Int)=ins) (C:az p=true)
  (m:∀(e:fN),cq ins e=0->e.length+c<=1000000->∀(a b:Int) (l k:Bool),Lt ins v e a l->Lt ins v e b k->∃j n,(∀H:BC,ac pg f [p,I a,I b] (H.g pre ins e)=some (I n,H.g pre ins j))/\Stp ins e j c/\Lt ins v j n (op l k))
  (E:cq ins A=0) {xs ys:fq} {q o:fS} (t:ys.length=xs.length) (hn:xs.length<=1000) (hs:A.length+c*xs.length<=1000000) (z:Ls ins v A xs q) (y:Ls ins v A ys o) :
  ∃r outs,(∀H:BC,ac pg 222 [LI xs,LI ys,.bfn f [p]] (H.g pre ins A)=some (LI outs,H.g pre ins r))/\Stp ins A r (c*xs.length)/\Ls ins v r outs (List.zipWith op q o):=by
 obtain⟨w,outs,R,Q,P,O,N⟩:=uo (pre:=pre) (f:=f) (ap:=λ_ x=>[p]++x) (CC:=λ_=>True) (op:=op) (c:=c) B (λe d s h a b l k ha F=>by obtain⟨j,n,M,L,G⟩:=m e s.1 h a b l k ha F;exact⟨j,n,λH _=>M H,L,G⟩) xs ys q o A 0 (Stp.refl E) t hs z y;refine⟨w xs.length,outs,λH=>?_,O,N⟩;have u:=um (xs:=xs) (ys:=ys) (outs:=outs) (vy:=LI ys) (fn:= .bfn f [p]) (f:=f) (caps:=[p]) (hs:=λi=>H.g pre ins (w i)) hn t Q (λi=> .inl rfl) (.inr ⟨rfl,rfl⟩) (by simp only[List.all_cons,List.all_nil,C];rfl) (λi D=>P i D H trivial);simp only[R] at u;exact u
section
variable {k w n s av bv cv:Int} {X Y Z:fq} {BX BY BZ:fS} {A:fN}
theorem Az {a:Int} {v:fS} {A:fN} (e:cq a A=0):∀{X:fq} {BX:fS} {m:Nat},Ls a v A X BX->X.length=m+1->Ls a v A (X.set m (fa (X.getD m 0))) (gr BX):=by
 intro X BX m h c;have b:gr BX=BX.set m (!BX.getD m false):=by unfold gr;rw[h.len,c,Nat.add_sub_cancel]
 rw[b];clear b
 induction m generalizing X BX with
 |zero=>match X,BX,h with|_::_,_::_,h=>exact⟨h.1.not e,h.2⟩
 |succ m d=>match X,BX,h with|_::_,_::_,h=>exact⟨h.1,d h.2 (by simpa using c)⟩
theorem AA {a:Int} {v:fS} {A:fN} {x:Int} {b:Bool} (h:Lt a v A x b):∀n:Nat,Ls a v A (List.replicate n x) (List.replicate n b)
 |0=>trivial
 |n+1=>⟨h,AA h n⟩
theorem JK (e:k=4) (r:(v.length:Int)=ins) (f:cq ins A=0) (u:A.length+5000<=1000000) (hw:1<=w/\w<=8) (h:cn k=some s) (l:b9 s w n BX.length BY.length BZ.length=true) (x:1<=BX.length/\BX.length<=8) (g:Ls ins v A X BX) (i:(num BX:Int)=av) :
  NS pre ins v A k w n X Y Z (cy k w av bv cv n BX.length BY.length):=by
 obtain⟨t,_,_,_⟩:=dX f;obtain⟨d,rfl⟩:∃d:Nat,w=d:=⟨w.toNat,aj⟩
 rw[e,show cn 4=some 1 from rfl] at h;cases h;simp[b9] at l;have j:=g.len;have m:1<=d/\d<=8:=aj;refine⟨A,X.map fa,BX.map (!·),[],false,λH a b c q p o=>?_,(Stp.refl f).mono aj,g.not f,by simp;omega,?_⟩
 ·rw[fY]
  exact IR e (rA aj _)
 ·rw[e,<-i];exact v4 m aj
theorem JL (f:k=5) (p:(v.length:Int)=ins) (i:cq ins A=0) (C:A.length+5000<=1000000) (hw:1<=w/\w<=8) (h:cn k=some s) (r:b9 s w n BX.length BY.length BZ.length=true) (D:1<=BX.length/\BX.length<=8) (g:Ls ins v A X BX) (l:(num BX:Int)=av) :
  NS pre ins v A k w n X Y Z (cy k w av bv cv n BX.length BY.length):=by
 obtain⟨q,_,_,_⟩:=dX i;obtain⟨d,rfl⟩:∃d:Nat,w=d:=⟨w.toNat,aj⟩
 rw[f,show cn 5=some 1 from rfl] at h;cases h;simp[b9] at r;have o:=g.len;have t:1<=d/\d<=8:=aj;obtain⟨x,e,u,j,m⟩:=uq pre p i (xs:=List.replicate d 0) (ys:=X) (by simp;omega) (by simp;omega) (by simp;omega) (Ls.zeros q.1 d) g;refine⟨x,e,_,[],false,λH a b c B z y=>?_,j.mono (by simp;omega),m,by rw[rn (by simp[zB];omega)];simp[zB],?_⟩
 ·rw[fY]
  exact IS f (ky aj _) (u H)
 ·rw[f,<-l];exact v5 t aj
theorem JM (g:k=6) (j:(v.length:Int)=ins) (m:cq ins A=0) (N:A.length+5000<=1000000) (hw:1<=w/\w<=8) (l:cn k=some s) (z:b9 s w n BX.length BY.length BZ.length=true) (O:1<=BX.length/\BX.length<=8) (i:Ls ins v A X BX) (t:(num BX:Int)=av) (h:Ls ins v A Y BY) (r:(num BY:Int)=bv) :
  NS pre ins v A k w n X Y Z (cy k w av bv cv n BX.length BY.length):=by
 obtain⟨M,_,_,_⟩:=dX m;obtain⟨d,rfl⟩:∃d:Nat,w=d:=⟨w.toNat,aj⟩
 rw[g,show cn 6=some 2 from rfl] at l;cases l;simp[b9] at z;have y:=i.len;have C:1<=d/\d<=8:=aj;have x:=h.len;obtain⟨o,e,F,q,u⟩:=uY pre (c:=1) (f:=49) (p:= fc (pre.length+1) 0) (op:=(· && ·)) j rfl (λo E D a b Q P ha B=>jT pre j E D ha B) m (xs:=X) (ys:=Y) aj aj aj i h;refine⟨o,e,_,[],false,λH a b c L I G=>?_,q.mono aj,u,by rw[nn aj];omega,?_⟩
 ·rw[fY]
  exact IT g jo (F H)
 ·rw[g,<-t,<-r];exact v6 C aj aj
theorem JN (g:k=7) (j:(v.length:Int)=ins) (m:cq ins A=0) (N:A.length+5000<=1000000) (hw:1<=w/\w<=8) (l:cn k=some s) (z:b9 s w n BX.length BY.length BZ.length=true) (O:1<=BX.length/\BX.length<=8) (i:Ls ins v A X BX) (t:(num BX:Int)=av) (h:Ls ins v A Y BY) (r:(num BY:Int)=bv) :
  NS pre ins v A k w n X Y Z (cy k w av bv cv n BX.length BY.length):=by
 obtain⟨M,_,_,_⟩:=dX m;obtain⟨d,rfl⟩:∃d:Nat,w=d:=⟨w.toNat,aj⟩
 rw[g,show cn 7=some 2 from rfl] at l;cases l;simp[b9] at z;have y:=i.len;have C:1<=d/\d<=8:=aj;have x:=h.len;obtain⟨o,e,F,q,u⟩:=uY pre (c:=1) (f:=223) (p:= fc (pre.length+2) 0) (op:=(· || ·)) j rfl (λo E D a b Q P ha B=>rv pre j E D ha B) m (xs:=X) (ys:=Y) aj aj aj i h;refine⟨o,e,_,[],false,λH a b c L I G=>?_,q.mono aj,u,by rw[nn aj];omega,?_⟩
 ·rw[fY]
  exact IU g (F H)
 ·rw[g,<-t,<-r];exact v7 C aj aj
theorem JO (g:k=8) (j:(v.length:Int)=ins) (m:cq ins A=0) (N:A.length+5000<=1000000) (hw:1<=w/\w<=8) (l:cn k=some s) (z:b9 s w n BX.length BY.length BZ.length=true) (O:1<=BX.length/\BX.length<=8) (i:Ls ins v A X BX) (t:(num BX:Int)=av) (h:Ls ins v A Y BY) (r:(num BY:Int)=bv) :
  NS pre ins v A k w n X Y Z (cy k w av bv cv n BX.length BY.length):=by
 obtain⟨M,_,_,_⟩:=dX m;obtain⟨d,rfl⟩:∃d:Nat,w=d:=⟨w.toNat,aj⟩
 rw[g,show cn 8=some 2 from rfl] at l;cases l;simp[b9] at z;have y:=i.len;have C:1<=d/\d<=8:=aj;have x:=h.len;obtain⟨o,e,F,q,u⟩:=uY pre (c:=3) (f:=224) (p:= fc (pre.length+2) 0) (op:=(· ^^ ·)) j rfl (λo E D a b Q P ha B=>rz pre j E D ha B) m (xs:=X) (ys:=Y) aj aj aj i h;refine⟨o,e,_,[],false,λH a b c L I G=>?_,q.mono aj,u,by rw[nn aj];omega,?_⟩
 ·rw[fY]
  exact IW g (F H)
 ·rw[g,<-t,<-r];exact v8 C aj aj
theorem JP (f:k=9) (t:(v.length:Int)=ins) (j:cq ins A=0) (F:A.length+5000<=1000000) (hw:1<=w/\w<=8) (i:cn k=some s) (x:b9 s w n BX.length BY.length BZ.length=true) (G:1<=BX.length/\BX.length<=8) (h:Ls ins v A X BX) (o:(num BX:Int)=av) (g:Ls ins v A Y BY) (m:(num BY:Int)=bv) :
  NS pre ins v A k w n X Y Z (cy k w av bv cv n BX.length BY.length):=by
 obtain⟨u,_,_,_⟩:=dX j;obtain⟨d,rfl⟩:∃d:Nat,w=d:=⟨w.toNat,aj⟩
 rw[f,show cn 9=some 2 from rfl] at i;cases i;simp[b9] at x;have r:=h.len;have y:1<=d/\d<=8:=aj;have q:=g.len;obtain⟨B,e,I,z,l,p,_⟩:=rD pre t j (xs:=X) (ys:=Y) (c:=0) (bc:=false) aj aj aj h g (oO u.1);refine⟨B,e,_,[],false,λH a b c E D C=>?_,l.mono aj,p,by rw[lg aj];omega,?_⟩
 ·rw[fY]
  exact IY f (z H)
 ·rw[f,<-o,<-m];exact v9 y aj aj
theorem JQ (f:k=10) (t:(v.length:Int)=ins) (j:cq ins A=0) (F:A.length+5000<=1000000) (hw:1<=w/\w<=8) (i:cn k=some s) (u:b9 s w n BX.length BY.length BZ.length=true) (G:1<=BX.length/\BX.length<=8) (h:Ls ins v A X BX) (o:(num BX:Int)=av) (g:Ls ins v A Y BY) (m:(num BY:Int)=bv) :
  NS pre ins v A k w n X Y Z (cy k w av bv cv n BX.length BY.length):=by
 obtain⟨E,_,_,_⟩:=dX j;obtain⟨d,rfl⟩:∃d:Nat,w=d:=⟨w.toNat,aj⟩
 rw[f,show cn 10=some 2 from rfl] at i;cases i;simp[b9] at u;have r:=h.len;have x:1<=d/\d<=8:=aj;have q:=g.len;obtain⟨z,e,y,l,p⟩:=uq pre t j (xs:=X) (ys:=Y) aj aj aj h g;refine⟨z,e,_,[],false,λH a b c D C B=>?_,l.mono aj,p,by rw[rn aj];omega,?_⟩
 ·rw[fY]
  exact IZ f (y H)
 ·rw[f,<-o,<-m];exact v10 x aj aj
theorem JR (g:k=11) (u:(v.length:Int)=ins) (l:cq ins A=0) (I:A.length+5000<=1000000) (hw:1<=w/\w<=8) (j:cn k=some s) (x:b9 s w n BX.length BY.length BZ.length=true) (L:1<=BX.length/\BX.length<=8) (i:Ls ins v A X BX) (p:(num BX:Int)=av) (h:Ls ins v A Y BY) (o:(num BY:Int)=bv) :
  NS pre ins v A k w n X Y Z (cy k w av bv cv n BX.length BY.length):=by
 obtain⟨G,_,_,_⟩:=dX l;obtain⟨d,rfl⟩:∃d:Nat,w=d:=⟨w.toNat,aj⟩
 rw[g,show cn 11=some 2 from rfl] at j;cases j;simp[b9] at x;have t:=i.len;have y:1<=d/\d<=8:=aj;have r:=h.len;have F:12*X.length*X.length<=96*8:=Nat.mul_le_mul aj aj;obtain⟨B,f,e,z,m,q⟩:=Ij pre u l (xs:=X) (ys:=Y) aj aj aj i h;refine⟨B,f,_,e,false,λH a b c E D C=>I0 g (z H),m.mono aj,q,by rw[HR aj];omega,?_⟩;rw[g,<-p,<-o];exact v11 y aj aj
theorem JS (f:k=12) (x:(v.length:Int)=ins) (j:cq ins A=0) (M:A.length+5000<=1000000) (hw:1<=w/\w<=8) (i:cn k=some s) (y:b9 s w n BX.length BY.length BZ.length=true) (N:1<=BX.length/\BX.length<=8) (h:Ls ins v A X BX) (o:(num BX:Int)=av) (g:Ls ins v A Y BY) (m:(num BY:Int)=bv) :
  NS pre ins v A k w n X Y Z (cy k w av bv cv n BX.length BY.length):=by
 obtain⟨L,_,_,_⟩:=dX j;obtain⟨d,rfl⟩:∃d:Nat,w=d:=⟨w.toNat,aj⟩
 rw[f,show cn 12=some 2 from rfl] at i;cases i;simp[b9] at y;have u:=h.len;have z:1<=d/\d<=8:=aj;have t:=g.len;have I:21*(X.length+1)*X.length<=189*8:=Nat.mul_le_mul aj aj;obtain⟨C,q,r,e,B,l,p,G⟩:=zJ pre x j (xs:=X) (ys:=Y) aj aj aj h g;refine⟨C,q,_,e,false,λH a b c F E D=>I3 f (B H),l.mono aj,p,by rw[Im aj];omega,?_⟩;rw[f,<-o,<-m];exact v12 z aj aj _ (Ip aj)
theorem JT (f:k=13) (x:(v.length:Int)=ins) (j:cq ins A=0) (M:A.length+5000<=1000000) (hw:1<=w/\w<=8) (i:cn k=some s) (y:b9 s w n BX.length BY.length BZ.length=true) (N:1<=BX.length/\BX.length<=8) (h:Ls ins v A X BX) (o:(num BX:Int)=av) (g:Ls ins v A Y BY) (m:(num BY:Int)=bv) :
  NS pre ins v A k w n X Y Z (cy k w av bv cv n BX.length BY.length):=by
 obtain⟨L,_,_,_⟩:=dX j;obtain⟨d,rfl⟩:∃d:Nat,w=d:=⟨w.toNat,aj⟩
 rw[f,show cn 13=some 2 from rfl] at i;cases i;simp[b9] at y;have u:=h.len;have z:1<=d/\d<=8:=aj;have t:=g.len;have I:21*(X.length+1)*X.length<=189*8:=Nat.mul_le_mul aj aj;obtain⟨C,q,r,e,B,l,G,p⟩:=zJ pre x j (xs:=X) (ys:=Y) aj aj aj h g;refine⟨C,r,_,e,false,λH a b c F E D=>I4 f (B H),l.mono aj,p,by rw[Io aj];omega,?_⟩;rw[f,<-o,<-m];exact v13 z aj aj _ (Iq aj)
theorem JU (g:k=14) (u:(v.length:Int)=ins) (l:cq ins A=0) (I:A.length+5000<=1000000) (hw:1<=w/\w<=8) (j:cn k=some s) (x:b9 s w n BX.length BY.length BZ.length=true) (L:1<=BX.length/\BX.length<=8) (i:Ls ins v A X BX) (p:(num BX:Int)=av) (h:Ls ins v A Y BY) (o:(num BY:Int)=bv) :
  NS pre ins v A k w n X Y Z (cy k w av bv cv n BX.length BY.length):=by
 obtain⟨G,_,_,_⟩:=dX l;obtain⟨d,rfl⟩:∃d:Nat,w=d:=⟨w.toNat,aj⟩
 rw[g,show cn 14=some 2 from rfl] at j;cases j;simp[b9] at x;have t:=i.len;have y:1<=d/\d<=8:=aj;have r:=h.len;have F:3*X.length*Y.length<=24*8:=Nat.mul_le_mul aj aj;obtain⟨B,f,e,z,m,q⟩:=zZ pre u (up:=true) l (xs:=X) (ys:=Y) aj aj aj i h;refine⟨B,f,_,e,false,λH a b c E D C=>I5 g (z H),m.mono aj,q,by rw[OJ];omega,?_⟩;rw[g,<-p,<-o];exact v14 y aj
theorem JV (g:k=15) (u:(v.length:Int)=ins) (l:cq ins A=0) (I:A.length+5000<=1000000) (hw:1<=w/\w<=8) (j:cn k=some s) (x:b9 s w n BX.length BY.length BZ.length=true) (L:1<=BX.length/\BX.length<=8) (i:Ls ins v A X BX) (p:(num BX:Int)=av) (h:Ls ins v A Y BY) (o:(num BY:Int)=bv) :
  NS pre ins v A k w n X Y Z (cy k w av bv cv n BX.length BY.length):=by
 obtain⟨G,_,_,_⟩:=dX l;obtain⟨d,rfl⟩:∃d:Nat,w=d:=⟨w.toNat,aj⟩
 rw[g,show cn 15=some 2 from rfl] at j;cases j;simp[b9] at x;have t:=i.len;have y:1<=d/\d<=8:=aj;have r:=h.len;have F:3*X.length*Y.length<=24*8:=Nat.mul_le_mul aj aj;obtain⟨B,f,e,z,m,q⟩:=zZ pre u (up:=false) l (xs:=X) (ys:=Y) aj aj aj i h;refine⟨B,f,_,e,false,λH a b c E D C=>I6 g (z H),m.mono aj,q,by rw[OJ];omega,?_⟩;rw[g,<-p,<-o];exact v15 y aj
theorem JW (f:k=16) (u:(v.length:Int)=ins) (j:cq ins A=0) (G:A.length+5000<=1000000) (hw:1<=w/\w<=8) (i:cn k=some s) (y:b9 s w n BX.length BY.length BZ.length=true) (I:1<=BX.length/\BX.length<=8) (h:Ls ins v A X BX) (p:(num BX:Int)=av) (g:Ls ins v A Y BY) (o:(num BY:Int)=bv) :
  NS pre ins v A k w n X Y Z (cy k w av bv cv n BX.length BY.length):=by
 obtain⟨x,_,_,_⟩:=dX j;obtain⟨d,rfl⟩:∃d:Nat,w=d:=⟨w.toNat,aj⟩
 rw[f,show cn 16=some 3 from rfl] at i;cases i;simp[b9] at y;have t:=h.len;have F:1<=d/\d<=8:=aj;have r:=g.len;obtain rfl:d=1:=aj;obtain⟨B,e,z,m,q⟩:=Ay pre u X Y [] [] BX BY A 1 true j aj rfl aj (by simp;omega) h g (oQ x.1);refine⟨B,[e],[eqB BX BY true],[],true,λH a b c E D C=>?_,m.mono aj,⟨q,trivial⟩,rfl,?_⟩
 ·rw[fY]
  have l:=z H;simp only[bF,cF,cX,aR] at l;exact I7 f (by rw[aW];exact l) (bg (by simp[q8t]))
 ·rw[f,<-p,<-o];exact v16 aj
theorem JX (f:k=17) (t:(v.length:Int)=ins) (j:cq ins A=0) (F:A.length+5000<=1000000) (hw:1<=w/\w<=8) (i:cn k=some s) (u:b9 s w n BX.length BY.length BZ.length=true) (G:1<=BX.length/\BX.length<=8) (h:Ls ins v A X BX) (o:(num BX:Int)=av) (g:Ls ins v A Y BY) (m:(num BY:Int)=bv) :
  NS pre ins v A k w n X Y Z (cy k w av bv cv n BX.length BY.length):=by
 obtain⟨D,_,_,_⟩:=dX j;obtain⟨d,rfl⟩:∃d:Nat,w=d:=⟨w.toNat,aj⟩
 rw[f,show cn 17=some 3 from rfl] at i;cases i;simp[b9] at u;have r:=h.len;have E:1<=d/\d<=8:=aj;have q:=g.len;obtain rfl:d=1:=aj;obtain⟨y,e,x,l,p⟩:=ur pre t j (xs:=X) (ys:=Y) aj aj aj h g;refine⟨y,[e],[iO BX BY],[],true,λH a b c C B z=>?_,l.mono aj,⟨p,trivial⟩,rfl,?_⟩
 ·rw[fY]
  exact I8 f (x H)
 ·rw[f,<-o,<-m];exact v17 aj
theorem JY (g:k=18) (z:(v.length:Int)=ins) (f:cq ins A=0) (M:A.length+5000<=1000000) (hw:1<=w/\w<=8) (j:cn k=some s) (B:b9 s w n BX.length BY.length BZ.length=true) (N:1<=BX.length/\BX.length<=8) (i:Ls ins v A X BX) (t:(num BX:Int)=av) (h:Ls ins v A Y BY) (r:(num BY:Int)=bv) :
  NS pre ins v A k w n X Y Z (cy k w av bv cv n BX.length BY.length):=by
 obtain⟨I,_,_,_⟩:=dX f;obtain⟨d,rfl⟩:∃d:Nat,w=d:=⟨w.toNat,aj⟩
 rw[g,show cn 18=some 3 from rfl] at j;cases j;simp[b9] at B;have y:=i.len;have L:1<=d/\d<=8:=aj;have x:=h.len;obtain rfl:d=1:=aj;obtain⟨m,l⟩:∃m,X.length=m+1:=⟨X.length-1,aj⟩
 have p:=Az f i l;have o:=Az f h (m:=m) aj;obtain⟨D,e,C,q,u⟩:=ur pre z f (xs:=X.set m (fa (X.getD m 0))) (ys:=Y.set m (fa (Y.getD m 0))) (by simp;omega) (by simp;omega) (by simp;omega) p o;refine⟨D,[e],[iO (gr BX) (gr BY)],[],true,λH a b c G F E=>?_,q.mono (by simp;omega),⟨u,trivial⟩,rfl,?_⟩
 ·rw[fY]
  exact I9 g (zM l aj _) (zM aj aj _) (C H)
 ·rw[g,<-t,<-r];exact v18 aj aj
theorem JZ (g:k=19) (B:(v.length:Int)=ins) (m:cq ins A=0) (N:A.length+5000<=1000000) (hw:1<=w/\w<=8) (l:cn k=some s) (C:b9 s w n BX.length BY.length BZ.length=true) (O:1<=BX.length/\BX.length<=8) (j:Ls ins v A X BX) (t:(num BX:Int)=av) (i:Ls ins v A Y BY) (r:(num BY:Int)=bv) (h:Ls ins v A Z BZ) (p:(num BZ:Int)=cv) :
  NS pre ins v A k w n X Y Z (cy k w av bv cv n BX.length BY.length):=by
 obtain⟨M,_,_,_⟩:=dX m;obtain⟨d,rfl⟩:∃d:Nat,w=d:=⟨w.toNat,aj⟩
 rw[g,show cn 19=some 4 from rfl] at l;cases l;simp[b9] at C;have z:=j.len;have D:1<=d/\d<=8:=aj;have y:=i.len;have x:=h.len;have f:=j.get (k:=0) aj;obtain⟨F,e,E,o,u⟩:=Gh pre B m (c:=X.getD 0 0) (xs:=Y) (ys:=Z) aj aj aj f i h;refine⟨F,e,_,pkJ pre (X.getD 0 0),false,λH a b c L I G=>?_,o.mono aj,u,by unfold d9;split<;>omega,?_⟩
 ·refine Ja g (q:=X.getD 0 0) ?_ (E H _ (.inl rfl))
  rw[aB,aK,aA aj];rfl
 ·rw[g,<-t,<-r,<-p];exact v19 D aj aj aj
theorem J0 (e:k=20) (z:(v.length:Int)=ins) (j:cq ins A=0) (D:A.length+5000<=1000000) (hw:1<=w/\w<=8) (i:cn k=some s) (r:b9 s w n BX.length BY.length BZ.length=true) (F:1<=BX.length/\BX.length<=8) (g:Ls ins v A X BX) (m:(num BX:Int)=av) (f:Ls ins v A Y BY) (l:(num BY:Int)=bv) (E:1<=BY.length/\BY.length<=8) :
  NS pre ins v A k w n X Y Z (cy k w av bv cv n BX.length BY.length):=by
 obtain⟨C,_,_,_⟩:=dX j;obtain⟨d,rfl⟩:∃d:Nat,w=d:=⟨w.toNat,aj⟩
 rw[e,show cn 20=some 5 from rfl] at i;cases i;simp[b9] at r;have p:=g.len;have t:1<=d/\d<=8:=aj;have o:=f.len;have q:WI.wrap ((BX.length:Int)+BY.length)=(BX.length:Int)+BY.length:=aq aj aj;have h:BX.length+BY.length=d:=aj;have B:=MB;refine⟨A,Y++X,BY++BX,[],false,λH a b c y x u=>?_,(Stp.refl j).mono aj,f.app g,by simp;omega,?_⟩
 ·rw[fY,bI]
  exact Jb e (zV (fZ Y) (fZ X) (by simp;omega))
 ·rw[e,<-m,<-l];exact v20 t aj
theorem J3 (d:k=21) (x:(v.length:Int)=ins) (i:cq ins A=0) (z:A.length+5000<=1000000) (hw:1<=w/\w<=8) (h:cn k=some s) (o:b9 s w n BX.length BY.length BZ.length=true) (q:1<=BX.length/\BX.length<=8) (g:Ls ins v A X BX) (j:(num BX:Int)=av) :
  NS pre ins v A k w n X Y Z (cy k w av bv cv n BX.length BY.length):=by
 obtain⟨y,_,_,_⟩:=dX i;obtain⟨W,rfl⟩:∃W:Nat,w=W:=⟨w.toNat,aj⟩
 rw[d,show cn 21=some 6 from rfl] at h;cases h;simp[b9] at o;have l:=g.len;have p:1<=W/\W<=8:=aj;obtain⟨N,rfl⟩:∃N:Nat,n=N:=⟨n.toNat,aj⟩
 have m:WI.wrap ((BX.length:Int)-W)=(BX.length:Int)-W:=aq aj aj;have f:N+W<=X.length:=aj;have e:(X.take (N+W)).drop N=(X.drop N).take W:=by rw[List.drop_take,Nat.add_sub_cancel_left]
 refine⟨A,(X.drop N).take W,(BX.drop N).take W,[],false,λH a b c u t r=>?_,(Stp.refl i).mono aj,(g.drop N).take W,by simp;omega,?_⟩
 ·rw[fY,<-e,List.map_drop,List.map_take]
  exact Jc d (N:=N) (W:=W) rfl (by rw[aq aj aj];omega) (by simpa using f)
 ·rw[d,<-j];exact v21 p q.2
theorem J4 (f:k=22) (t:(v.length:Int)=ins) (i:cq ins A=0) (u:A.length+5000<=1000000) (hw:1<=w/\w<=8) (h:cn k=some s) (m:b9 s w n BX.length BY.length BZ.length=true) (x:1<=BX.length/\BX.length<=8) (g:Ls ins v A X BX) (j:(num BX:Int)=av) :
  NS pre ins v A k w n X Y Z (cy k w av bv cv n BX.length BY.length):=by
 obtain⟨l,_,_,_⟩:=dX i;obtain⟨d,rfl⟩:∃d:Nat,w=d:=⟨w.toNat,aj⟩
 rw[f,show cn 22=some 7 from rfl] at h;cases h;simp[b9] at m;have e:=g.len;have o:1<=d/\d<=8:=aj;refine⟨A,X++List.replicate (d-X.length) 0,BX++List.replicate (d-BX.length) false,[],false,λH a b c r q p=>?_,(Stp.refl i).mono aj,g.app (by rw[<-e];exact Ls.zeros l.1 _),by simp;omega,?_⟩
 ·rw[fY]
  exact Jd f (zL aj aj _)
 ·rw[f,<-j];exact v22 o aj
theorem J5 (g:k=23) (y:(v.length:Int)=ins) (i:cq ins A=0) (B:A.length+5000<=1000000) (hw:1<=w/\w<=8) (h:cn k=some s) (p:b9 s w n BX.length BY.length BZ.length=true) (C:1<=BX.length/\BX.length<=8) (e:Ls ins v A X BX) (j:(num BX:Int)=av) :
  NS pre ins v A k w n X Y Z (cy k w av bv cv n BX.length BY.length):=by
 obtain⟨z,_,_,_⟩:=dX i;obtain⟨d,rfl⟩:∃d:Nat,w=d:=⟨w.toNat,aj⟩
 rw[g,show cn 23=some 7 from rfl] at h;cases h;simp[b9] at p;have l:=e.len;have r:1<=d/\d<=8:=aj;obtain⟨m,o⟩:∃m,X.length=m+1:=⟨X.length-1,aj⟩
 have f:=e.get (k:=m) aj;refine⟨A,X++List.replicate (d-X.length) (X.getD m 0),BX++List.replicate (d-BX.length) (BX.getD (BX.length-1) false),[],false,λH a b c x u t=>?_,(Stp.refl i).mono aj,e.app ?_,by simp;omega,?_⟩
 ·rw[fY]
  refine Je g (q:=X.getD m 0) (m:=m) (by simpa using o) aj ?_ (zL aj aj _);rw[aB,aK,aA aj];rfl
 ·rw[show BX.length-1=m by omega,show d-BX.length=d-X.length by omega]
  exact AA f _
 ·rw[g,<-j];exact v23 r aj
end
end
end
section
attribute [local congr] bu
attribute [local simp] au nkS
theorem J6 {l:fw} {i:Nat} {v:PV} (h:i<l.length):au l i [v]=l.set i v:=by unfold au;rw[List.set_eq_take_append_cons_drop,if_pos h];simp
def rM (b:ft):Nat->fq->fw->fw
 |_,[],C=>C
 |i,a::l,C=>rM b (i+1) l (C.set i (LI (b.getD a.toNat [])))
def eY (b:ft) (t j a:Int):fq:=if j<t then b.getD a.toNat [] else []
def mc (b:List fS) (t j a:Int):fS:=if j<t then b.getD a.toNat [] else []
section
variable {pre:fB} {ins:Int} {v:fS}
theorem J7 {G:fB} {p:fw} {d:fw} {o:Bool} {m0 u s r q c0 c1 c2:PV} {A:fw} {k w a b c n y:Int} {t j:Nat} (D:j<t) (C:t<=3) (z:A[j]?=some (I y)) (v:0<=y)
  (m:G[pre.length+2]?=some (.cells [fc (pre.length+1) 0,m0,u,s,r,q,.sl o 1 p])) (x:p[y.toNat]?=some (cr d)) :
  evK pg q4y fiK ⟨[(0,(fc (pre.length+2) 0)),(3,(ec)),(5,(eK)),(22,(cr A)),(23,(.int .i64 t)),(24,(.int .i64 j))],[[(.int .i64 k),(.int .i64 w),(.int .i64 a),(.int .i64 b),(.int .i64 c),(.int .i64 n)],[c0,c1,c2]],G⟩=fg ⟨[(0,fc (pre.length+2) 0),(3,ec),(5,eK),(22,cr A),(23,I t),(24,I ((j+1:Nat):Int))],[[I k,I w,I a,I b,I c,I n],[c0,c1,c2].set j (cr d)],G⟩:=by
 have e:(j:Int)<(t:Int):=aj;have B:=wrS' j aj;have h:j<3:=aj;have i:j<=2:=aj;have l:(0:Int)<=(j:Int):=aj;have f:(j:Int)<3:=aj;have g:au [c0,c1,c2] j [cr d]=[c0,c1,c2].set j (cr d):=J6 (by simpa using h);simp[q4y,e];simp[z,m,v,x,l,f,i,B,g,-au]
theorem AB {G:fB} {d:ft} {o:Bool} {m0 A v u s:PV} {k w a b c n:Int} (f:G[pre.length+2]?=some (.cells [fc (pre.length+1) 0,m0,A,v,u,s,.sl o 1 (d.map λl=>LI l)])) :
  ∀(rx e:fq) (C:fw),C.length=3->e.length+rx.length<=3->(∀y∈rx,0<=y/\y.toNat<d.length)->
  bm pg qdd ⟨[(0,fc (pre.length+2) 0),(3,ec),(5,eK),(22,LI (e++rx)),(23,I ((e.length+rx.length:Nat):Int)),(24,I (e.length:Int))],[[I k,I w,I a,I b,I c,I n],C],G⟩=
   fg ⟨[(0,fc (pre.length+2) 0),(3,ec),(5,eK)],[[I k,I w,I a,I b,I c,I n],rM d e.length rx C],G⟩
 | [],e,C,h,_,_=>by
  match C,h with
  |[c0,c1,c2],_=>
   have g:¬((e.length:Nat):Int)<((e.length+([]:fq).length:Nat):Int):=bh;refine (bn (s1:=?J) (bg ?Z)).trans ?Y
   case Z=>simp[q4y,g];rfl
   case Y=>simp[keep,rM]
 | y::rx,e,C,h,m,i=>by
  match C,h with
  | [c0,c1,c2],_=>
   obtain⟨r,q⟩:=i y (aZ ..);have E:(d.map λl=>LI l)[y.toNat]?=some (LI (d.getD y.toNat [])):=by rw[aB,aK,aA q];rfl
   have D:=J7 (pre:=pre) (c0:=c0) (c1:=c1) (c2:=c2) (k:=k) (w:=w) (a:=a) (b:=b) (c:=c) (n:=n) (t:=e.length+(y::rx).length) (j:=e.length) bh m (get_at (rx:=rx) (x:=y) rfl) r f E;refine ay (bg D) ?_;simp only[aV] at m;have p:=AB (k:=k) (w:=w) (a:=a) (b:=b) (c:=c) (n:=n) f rx (e++[y]) ([c0,c1,c2].set e.length (LI (d.getD y.toNat []))) bh (by simp;omega) (λz B=>i z (bC _ B));rw[show (e++[y]).length+rx.length=e.length+(y::rx).length by simp;omega,show (e++[y]).length=e.length+1 by simp,aT e [y] rx] at p;exact p
theorem J8 {x:Nd} {o A:Bool} {G z:fB} {e:ft} {m0 E D C B:PV} {R:fw}
  (u:G[pre.length+2]?=some (.cells [fc (pre.length+1) 0,m0,E,D,C,B,.sl o 1 (e.map λl=>LI l)]))
  (p:∀y∈dG x,0<=y/\y.toNat<e.length)
  (F:∀m j i:Bool,bm pg qa (nkS pre x.k x.w x.a x.b x.c x.n ((eY e (ar x.k) 0 x.a).map I) ((eY e (ar x.k) 1 x.b).map I) ((eY e (ar x.k) 2 x.c).map I) m j i G)=fo ⟨[(4,.sl A 1 R)],[],z⟩) :
  ac pg 218 [fc (pre.length+2) 0,nodeV x] G=some (cr R,z):=by
 have f:=uw x G;have q:(dG x).length<=3:=by unfold dG;simp;exact Nat.min_le_right _ _
 have t:=AB (pre:=pre) (k:=x.k) (w:=x.w) (a:=x.a) (b:=x.b) (c:=x.c) (n:=x.n) u (dG x) [] [dz [],dz [],dz []] rfl (by simpa using q) p;simp only[bF,cF,cX,aR] at t;have g:∃m j i:Bool,rM e 0 (dG x) [dz [],dz [],dz []]=[.sl m 1 ((eY e (ar x.k) 0 x.a).map I),.sl j 1 ((eY e (ar x.k) 1 x.b).map I),.sl i 1 ((eY e (ar x.k) 2 x.c).map I)]:=by
  unfold dG eY;rcases gD x.k with h|h|h|h<;>rw[h]
  ·exact⟨true,true,true,rfl⟩
  ·exact⟨false,true,true,rfl⟩
  ·exact⟨false,false,true,rfl⟩
  ·exact⟨false,false,false,rfl⟩
 obtain⟨m,j,i,g⟩:=g;rw[g] at t;have r:=F m j i;unfold nkS at r;generalize (eY e (ar x.k) 0 x.a).map I=X,(eY e (ar x.k) 1 x.b).map I=Y,(eY e (ar x.k) 2 x.c).map I=d at *;rw[dT] at f ⊢;have v:((dG x).map I).length=(dG x).length:=bh;unfold LI at f t;generalize (dG x).map I=H at *;refine ak (fn:=q50) (s:=⟨[(4,.sl A 1 R)],[],z⟩) rfl rfl (bg ?J) ?Z
 case J=>simp[qdf,q50,f,v,t,r]
 case Z=>simp[ag,results,q50,ah,am,af]
theorem J9 {x:Nd} {n:Nat} (ha:0<=x.a/\x.a.toNat<n) (f:0<=x.b/\x.b.toNat<n) (d:0<=x.c/\x.c.toNat<n):∀y∈dG x,0<=y/\y.toNat<n:=by
 intro y e;unfold dG at e;have:=cQ e;simp at this;rcases this with rfl|rfl|rfl
 ·exact ha
 ·exact f
 ·exact d
structure BitsOk (ins:Int) (v:fS) (A:fN) (L:List Nd) (bits:ft) (bvs:List fS) (acc:fq):Prop where
 bl:bvs.length=bits.length
 al:acc.length=bits.length
 ls:∀j,j<bits.length->Ls ins v A (bits.getD j []) (bvs.getD j [])
 wd:∀j,j<bits.length->((bvs.getD j []).length:Int)=wAt L j
 nm:∀j,j<bits.length->(num (bvs.getD j []):Int)=acc.getD j 0
theorem nr {α:Type} {d x:α} {l:List α} {j:Nat}:(l++[x]).getD j d=if j<l.length then l.getD j d else if j=l.length then x else d:=by
 simp only[aK];by_cases h:j<l.length
 ·rw[if_pos h,aI h]
 ·rw[if_neg h,aN aj]
  by_cases a:j=l.length
  ·rw[if_pos a,a,Nat.sub_self];rfl
  ·rw[if_neg a,List.getElem?_eq_none (by simp;omega)];rfl
theorem BitsOk.mono {A e:fN} {L:List Nd} {a:ft} {b:List fS} {d:fq} {c:Nat} (f:(v.length:Int)=ins) (h:BitsOk ins v A L a b d) (s:Stp ins A e c):BitsOk ins v e L a b d:=
 ⟨h.bl,h.al,λj g=>(h.ls j g).mono f s,h.wd,h.nm⟩
theorem BitsOk.push {A:fN} {L:List Nd} {a:ft} {e:List fS} {f:fq} (h:BitsOk ins v A L a e f) {d:fq} {g:fS} {c:Int} (m:Ls ins v A d g) (l:(g.length:Int)=wAt L (a.length:Int)) (k:(num g:Int)=c):BitsOk ins v A L (a++[d]) (e++[g]) (f++[c]):=by
 refine⟨by simp[h.bl],by simp[h.al],λj i=>?_,λj i=>?_,λj i=>?_⟩
 all_goals rw[aQ,aV,cF] at i
 ·rw[nr,nr,h.bl]
  by_cases b:j<a.length
  ·rw[if_pos b,if_pos b];exact h.ls j b
  ·rw[if_neg b,if_neg b,if_pos aj,if_pos aj];exact m
 ·rw[nr,h.bl]
  by_cases b:j<a.length
  ·rw[if_pos b];exact h.wd j b
  ·rw[if_neg b,if_pos aj,show j=a.length by omega];exact l
 ·rw[nr,nr,h.bl,h.al]
  by_cases b:j<a.length
  ·rw[if_pos b,if_pos b];exact h.nm j b
  ·rw[if_neg b,if_neg b,if_pos aj,if_pos aj];exact k
theorem uZ {A:fN} {L:List Nd} {b:ft} {c:List fS} {e:fq} (h:BitsOk ins v A L b c e) {k j a:Int} (ha:0<=a/\a.toNat<b.length) :
  Ls ins v A (eY b (ar k) j a) (mc c (ar k) j a)/\((mc c (ar k) j a).length:Int)=wdJ L k j a/\(j<ar k->(num (mc c (ar k) j a):Int)=e.getD a.toNat 0):=by
 unfold eY mc wdJ;by_cases d:j<ar k
 ·rw[if_pos d,if_pos d,if_pos d]
  have:=h.wd a.toNat ha.2;rw[show ((a.toNat:Nat):Int)=a by omega] at this;exact⟨h.ls _ ha.2,this,λ_=>h.nm _ ha.2⟩
 ·rw[if_neg d,if_neg d,if_neg d]
  exact⟨trivial,rfl,λh=>absurd h d⟩
theorem Ka (G:fB) (o:(v.length:Int)=ins) {A:fN} {L:List Nd} {g:ft} {z:List fS} {y:fq} {x:Nd} (h:BitsOk ins v A L g z y) (C:pf L g.length x) (q:cq ins A=0) (r:A.length+5000<=1000000) :
  NS G ins v A x.k x.w x.n (eY g (ar x.k) 0 x.a) (eY g (ar x.k) 1 x.b) (eY g (ar x.k) 2 x.c) (ma L y x):=by
 obtain⟨T,hw,M,I,U,s,p,l⟩:=rj C.fit;have ha:=C.a;have P:=C.b;have D:=C.c;obtain⟨m,F,i⟩:=uZ h (k:=x.k) (j:=0) (a:=x.a) ⟨ha.1,aj⟩;obtain⟨u,E,H⟩:=uZ h (k:=x.k) (j:=1) (a:=x.b) ⟨P.1,aj⟩;obtain⟨S,N,R⟩:=uZ h (k:=x.k) (j:=2) (a:=x.c) ⟨D.1,aj⟩;have O:=Kn T;unfold wOk at M I;rw[if_pos O,<-F] at M;rw[<-E] at I;unfold ma;rw[<-F,<-E];rw[<-F,<-E,<-N] at l;replace i:=i O;generalize eY g (ar x.k) 0 x.a=X,eY g (ar x.k) 1 x.b=Y,eY g (ar x.k) 2 x.c=d,mc z (ar x.k) 0 x.a=Q at *
 generalize mc z (ar x.k) 1 x.b=BY,mc z (ar x.k) 2 x.c=BZ at *;have t:1<=Q.length/\Q.length<=8:=aj;clear F E N M U ha P D C h;generalize y.getD x.a.toNat 0=av,y.getD x.b.toNat 0=bv,y.getD x.c.toNat 0=cv,x.w=w,x.n=n,x.k=k at *;have B:k=4\/k=5\/k=6\/k=7\/k=8\/k=9\/k=10\/k=11\/k=12\/k=13\/k=14\/k=15\/k=16\/k=17\/k=18\/k=19\/k=20\/k=21\/k=22\/k=23:=aj;have f:6<=k->k<=20->(num BY:Int)=bv:=λh1 h2=>H (by
  unfold ar;repeat' split
  all_goals omega)
 rcases B with e|e|e|e|e|e|e|e|e|e|e|e|e|e|e|e|e|e|e|e
 ·exact JK e o q r hw p l t m i
 ·exact JL e o q r hw p l t m i
 ·exact JM e o q r hw p l t m i u (f aj aj)
 ·exact JN e o q r hw p l t m i u (f aj aj)
 ·exact JO e o q r hw p l t m i u (f aj aj)
 ·exact JP e o q r hw p l t m i u (f aj aj)
 ·exact JQ e o q r hw p l t m i u (f aj aj)
 ·exact JR e o q r hw p l t m i u (f aj aj)
 ·exact JS e o q r hw p l t m i u (f aj aj)
 ·exact JT e o q r hw p l t m i u (f aj aj)
 ·exact JU e o q r hw p l t m i u (f aj aj)
 ·exact JV e o q r hw p l t m i u (f aj aj)
 ·exact JW e o q r hw p l t m i u (f aj aj)
 ·exact JX e o q r hw p l t m i u (f aj aj)
 ·exact JY e o q r hw p l t m i u (f aj aj)
 ·subst e
  exact JZ rfl o q r hw p l t m i u (H bz) S (R bz)
 ·subst e
  rw[if_pos bz] at I;exact J0 rfl o q r hw p l t m i u (H bz) aj
 ·exact J3 e o q r hw p l t m i
 ·exact J4 e o q r hw p l t m i
 ·exact J5 e o q r hw p l t m i
theorem Kb (pre:fB) {A:fN} {e:ft} {x:Nd} {h:Int} (t:NS pre ins v A x.k x.w x.n (eY e (ar x.k) 0 x.a) (eY e (ar x.k) 1 x.b) (eY e (ar x.k) 2 x.c) h)
  (j:∀y∈dG x,0<=y/\y.toNat<e.length) :
  ∃p f i d,(∀(H:BC) (o:Bool),H.bits= .sl o 1 (e.map λl=>LI l)->ac pg 218 [fc (pre.length+2) 0,nodeV x] (H.g pre ins A)=some (LI f,(H.push d).g pre ins p))/\Stp ins A p 5000/\Ls ins v p f i/\(i.length:Int)=x.w/\(num i:Int)=h:=by
 obtain⟨p,f,i,d,E,D,C,B,z,u⟩:=t;refine⟨p,f,i,d,λH o hH=>?_,C,B,z,u⟩;have m:=jo (pre:=pre) (ins:=ins) (A:=A) (H:=H);rw[hH] at m;exact J8 m j (λs r q=>D H x.a x.b x.c s r q)
end
end
section
variable {N i b ol:Nat} {v:Int} {x:Nd}
attribute [local congr] bu
attribute [local simp] au
def dY (N:Nat) (a:fq):fq:=a++List.replicate (N-a.length) 0
theorem u6 {a:fq} (h:a.length<=N):(dY N a).length=N:=by simp[dY];omega
theorem u7 {b:fq} {a:Nat} (h:a<b.length):(dY N b)[a]?=some (b.getD a 0):=by unfold dY;rw[aI h,aK,aA h];rfl
theorem Kc {a:fq} (h:a.length<N):(dY N a).set a.length v=dY N (a++[v]):=by
 unfold dY;rw[List.set_append_right _ _ (cW _),Nat.sub_self,aQ,List.length_singleton];obtain⟨k,b⟩:∃k,N-a.length=k+1:=⟨N-a.length-1,aj⟩
 rw[b,show N-(a.length+1)=k by omega,List.replicate_succ,List.set_cons_zero];simp
theorem Kd {a:fq} (h:a.length=N):dY N a=a:=by simp[dY,h]
theorem Ke {l:fw} {v:PV} (h:i<l.length):au l i [v]=l.set i v:=by unfold au;rw[List.set_eq_take_append_cons_drop,if_pos h];simp
def fb (a:fB) (o:fq):fB:=a++[.cells (o.map I),.cells [.bs true a.length 0 o.length 1]]
section
variable {m:Md} {gh:fB}
theorem AC (o:fq):(fb gh o)[gh.length]?=some (.cells (o.map I)):=by simp[fb]
theorem AD (o:fq):(fb gh o)[gh.length+1]?=some (.cells [.bs true gh.length 0 o.length 1]):=by simp[fb]
theorem Kf {o a:fq} (h:a.length=o.length):(fb gh o).set gh.length (.cells (a.map I))=fb gh a:=by simp[fb,h]
theorem u9 {G:fB} {o:fq} {a:Int} (f:G[b+1]?=some (.cells [.bs true b 0 o.length 1])) (g:G[b]?=some (.cells (o.map I))) (ha:0<=a/\a.toNat<o.length) (d:o[a.toNat]?=some v) :
  ac pg 143 [I a,fc (b+1) 0] G=some (I v,G):=by
 have e:(o.map I)[a.toNat]?=some (I v):=by simp[d]
 have j:(o.map I).length=o.length:=bh;have c:a<(o.length:Int):=aj;obtain⟨i,h⟩:=ha;generalize o.map I=O,o.length=n at *;refine ak (fn:=q5x) (s:=⟨[(3,I v)],[],G⟩) rfl rfl (bg ?J) ?Z
 case J=>simp[qec,q5x,f,g,e,i,h,c]
 case Z=>simp[ag,results,q5x,ah,am,af]
def rN (m:Md) (b c o:fq) (i:Nat) (a:fB):St:=
 ⟨[(1,LI b),(2,LI c),(3,ec),(7,fc (a.length+1) 0),(8,.fn 143 [fc (a.length+1) 0]),(17,LN m.nodes),(18,I m.nodes.length),(19,I (i:Int))],[[LN m.nodes,LP m.inits,LP m.nexts,LI m.bads,LI m.holds]],fb a o⟩
attribute [local simp] rN
theorem rO {ss ks:fw} (c:i<=1000) {G:fB}:bm pg q9f ⟨[(1,cr ss),(2,cr ks),(3,ec),(7,fc (b+1) 0),(8,.fn 143 [fc (b+1) 0]),(17,LN m.nodes),(18,I m.nodes.length),(19,I (i:Int))],[[LN m.nodes,LP m.inits,LP m.nexts,LI m.bads,LI m.holds]],G⟩=
  fg ⟨[(1,cr ss),(2,cr ks),(3,ec),(7,fc (b+1) 0),(8,.fn 143 [fc (b+1) 0]),(17,LN m.nodes),(18,I m.nodes.length),(19,I ((i+1:Nat):Int))],[[LN m.nodes,LP m.inits,LP m.nexts,LI m.bads,LI m.holds]],G⟩:=by
 have a:WI.wrap ((i:Int)+1)=((i+1:Nat):Int):=by rw[aq aj aj];omega
 refine bg ?_;simp[q9f,a]
theorem Kg {G q:fB} {O S d:fw} (g:(i:Int)<(m.nodes.length:Int)) (u:i<=1000) (r:(m.nodes.map nodeV)[i]?=some (.agg [I x.k,I x.w,I x.a,I x.b,I x.c,I x.n])) (o:G[b+1]?=some (.cells [.bs true b 0 ol 1])) (p:G[b]?=some (.cells O)) (t:i<ol) (h:O.length=ol) (e:G.set b (.cells (au O i [I v]))=q) (s:v=x.n) (y:decide (x.k=1)=true) :
  evK pg q16 fiK ⟨[(1,(cr (S))),(2,(cr (d))),(3,(ec)),(7,(fc (b+1) 0)),(8,(.fn 143 [fc (b+1) 0])),(17,(LN m.nodes)),(18,(.int .i64 m.nodes.length)),(19,(.int .i64 i))],[[(LN m.nodes),(LP m.inits),(LP m.nexts),(LI m.bads),(LI m.holds)]],G⟩=
   fg ⟨[(1,cr S),(2,cr d),(3,ec),(7,fc (b+1) 0),(8,.fn 143 [fc (b+1) 0]),(17,LN m.nodes),(18,I m.nodes.length),(19,I ((i+1:Nat):Int))],[[LN m.nodes,LP m.inits,LP m.nexts,LI m.bads,LI m.holds]],q⟩:=by
 simp only[au,aT,bH,bF,aV,cF,cX] at e;have l:(i:Int)<(ol:Int):=aj;have f:i+1<=ol:=aj;have j:=rO (m:=m) (ss:=S) (ks:=d) u (G:=q) (b:=b);subst s;simp[q16,g,r,y,o,p,l,f,h,e,j,-List.getElem?_map]
theorem Kh {G q:fB} {O S d:fw} (g:(i:Int)<(m.nodes.length:Int)) (t:i<=1000) (r:(m.nodes.map nodeV)[i]?=some (.agg [I x.k,I x.w,I x.a,I x.b,I x.c,I x.n])) (o:G[b+1]?=some (.cells [.bs true b 0 ol 1])) (p:G[b]?=some (.cells O)) (s:i<ol) (h:O.length=ol) (e:G.set b (.cells (au O i [I v]))=q) (y:decide (x.k=1)=false) (u:decide (x.k=3)=true) :
  evK pg q16 fiK ⟨[(1,(cr (I v::S))),(2,(cr (d))),(3,(ec)),(7,(fc (b+1) 0)),(8,(.fn 143 [fc (b+1) 0])),(17,(LN m.nodes)),(18,(.int .i64 m.nodes.length)),(19,(.int .i64 i))],[[(LN m.nodes),(LP m.inits),(LP m.nexts),(LI m.bads),(LI m.holds)]],G⟩=
   fg ⟨[(1,cr S),(2,cr d),(3,ec),(7,fc (b+1) 0),(8,.fn 143 [fc (b+1) 0]),(17,LN m.nodes),(18,I m.nodes.length),(19,I ((i+1:Nat):Int))],[[LN m.nodes,LP m.inits,LP m.nexts,LI m.bads,LI m.holds]],q⟩:=by
 simp only[au,aT,bH,bF,aV,cF,cX] at e;have l:(i:Int)<(ol:Int):=aj;have f:i+1<=ol:=aj;have j:=rO (m:=m) (ss:=S) (ks:=d) t (G:=q) (b:=b);simp[q16,g,r,y,u,o,p,l,f,h,e,j,-List.getElem?_map]
theorem Ki {G q:fB} {O S d:fw} (g:(i:Int)<(m.nodes.length:Int)) (t:i<=1000) (r:(m.nodes.map nodeV)[i]?=some (.agg [I x.k,I x.w,I x.a,I x.b,I x.c,I x.n])) (o:G[b+1]?=some (.cells [.bs true b 0 ol 1])) (p:G[b]?=some (.cells O)) (s:i<ol) (h:O.length=ol) (e:G.set b (.cells (au O i [I v]))=q) (z:decide (x.k=1)=false) (u:decide (x.k=3)=false) (y:decide (x.k=2)=true) :
  evK pg q16 fiK ⟨[(1,(cr (S))),(2,(cr (I v::d))),(3,(ec)),(7,(fc (b+1) 0)),(8,(.fn 143 [fc (b+1) 0])),(17,(LN m.nodes)),(18,(.int .i64 m.nodes.length)),(19,(.int .i64 i))],[[(LN m.nodes),(LP m.inits),(LP m.nexts),(LI m.bads),(LI m.holds)]],G⟩=
   fg ⟨[(1,cr S),(2,cr d),(3,ec),(7,fc (b+1) 0),(8,.fn 143 [fc (b+1) 0]),(17,LN m.nodes),(18,I m.nodes.length),(19,I ((i+1:Nat):Int))],[[LN m.nodes,LP m.inits,LP m.nexts,LI m.bads,LI m.holds]],q⟩:=by
 simp only[au,aT,bH,bF,aV,cF,cX] at e;have l:(i:Int)<(ol:Int):=aj;have f:i+1<=ol:=aj;have j:=rO (m:=m) (ss:=S) (ks:=d) t (G:=q) (b:=b);simp[q16,g,r,z,y,u,o,p,l,f,h,e,j,-List.getElem?_map]
theorem Kj {b i f:Nat} {G r:fB} {O S d:fw} {v:Int} {x:Nd} (h:(i:Int)<(m.nodes.length:Int)) (D:i<=1000) (B:(m.nodes.map nodeV)[i]?=some (.agg [I x.k,I x.w,I x.a,I x.b,I x.c,I x.n])) (p:G[b+1]?=some (.cells [.bs true b 0 f 1])) (q:G[b]?=some (.cells O)) (C:i<f) (j:O.length=f) (e:G.set b (.cells (au O i [I v]))=r) {u t s A z y:Int} (M:decide (x.k=1)=false) (H:decide (x.k=3)=false) (L:decide (x.k=2)=false)
  (Q:ac pg 143 [I x.a,fc (b+1) 0] G=some (I u,G)) (P:ac pg 143 [I x.b,fc (b+1) 0] G=some (I t,G)) (N:ac pg 143 [I x.c,fc (b+1) 0] G=some (I s,G))
  (E:ac pg 104 [LN m.nodes,.agg [I x.k,I x.w,I x.a,I x.b,I x.c,I x.n]] G=some (.agg [I A,I z,I y],G)) (F:ac pg 66 [I x.k,I x.w,I u,I t,I s,I x.n,.agg [I A,I z,I y]] G=some (I v,G)) :
  evK pg q16 fiK ⟨[(1,(cr (S))),(2,(cr (d))),(3,(ec)),(7,(fc (b+1) 0)),(8,(.fn 143 [fc (b+1) 0])),(17,(LN m.nodes)),(18,(.int .i64 m.nodes.length)),(19,(.int .i64 i))],[[(LN m.nodes),(LP m.inits),(LP m.nexts),(LI m.bads),(LI m.holds)]],G⟩=
   fg ⟨[(1,cr S),(2,cr d),(3,ec),(7,fc (b+1) 0),(8,.fn 143 [fc (b+1) 0]),(17,LN m.nodes),(18,I m.nodes.length),(19,I ((i+1:Nat):Int))],[[LN m.nodes,LP m.inits,LP m.nexts,LI m.bads,LI m.holds]],r⟩:=by
 simp only[au,aT,bH,bF,aV,cF,cX] at e;have o:(i:Int)<(f:Int):=aj;have g:i+1<=f:=aj;have l:=rO (m:=m) (ss:=S) (ks:=d) D (G:=r) (b:=b);simp[q16,h,B,M,L,H,p,q,Q,P,N,E,F,o,g,j,e,l,-List.getElem?_map]
theorem Kk (U:m.nodes.length<=80) (O:∀(j:Nat) (x:Nd),m.nodes[j]?=some x->eA m.nodes j x=0) {d E F:fq} (C:i<m.nodes.length) (z:VGood m.nodes i d E F) :
  ∃ v r s,VGood m.nodes (i+1) (d++[v]) r s/\fR m.nodes d E F (m.nodes.drop i)=fR m.nodes (d++[v]) r s (m.nodes.drop (i+1))/\
   evK pg q16 fiK ⟨[(1,(LI E)),(2,(LI F)),(3,(ec)),(7,(fc (gh.length+1) 0)),(8,(.fn 143 [fc (gh.length+1) 0])),(17,(LN m.nodes)),(18,(.int .i64 m.nodes.length)),(19,(.int .i64 i))],[[(LN m.nodes),(LP m.inits),(LP m.nexts),(LI m.bads),(LI m.holds)]],(fb gh (dY m.nodes.length d))⟩=
    some (.normal,rN m r s (dY m.nodes.length (d++[v])) (i+1) gh):=by
 have o:(i:Int)<(m.nodes.length:Int):=aj;have f:m.nodes[i]?=some m.nodes[i]:=aA C;have B:(m.nodes.map nodeV)[i]?=some (nodeV m.nodes[i]):=by simp[f]
 have hn:=O i _ f;have D:=z.len;rw[aJ C,fR];generalize m.nodes[i]=x at *;rw[dT x] at B;have G:(dY m.nodes.length d).length=m.nodes.length:=u6 aj;have q:i<(dY m.nodes.length d).length:=aj;have h:=AC (gh:=gh) (dY m.nodes.length d);have g:=AD (gh:=gh) (dY m.nodes.length d);have l:∀v:Int,(fb gh (dY m.nodes.length d)).set gh.length (.cells (au ((dY m.nodes.length d).map I) i [I v]))=fb gh (dY m.nodes.length (d++[v])):=λv=>by
  have e:((dY m.nodes.length d).map I).set i (I v)=((dY m.nodes.length d).set i v).map I:=by rw[List.map_set]
  have H:(dY m.nodes.length (d++[v])).length=(dY m.nodes.length d).length:=by rw[u6 (by simp;omega),G]
  rw[Ke (by simpa using q),e,<-D,Kc aj,Kf H]
 have t:((dY m.nodes.length d).map I).length=(dY m.nodes.length d).length:=bh;by_cases y:x.k=1
 ·rw[if_pos y]
  have M:=uW hn y;exact⟨_,_,_,z.other f aj aj M.1 M.2,rfl,Kg o aj B g h q t (l x.n) rfl (aG y)⟩
 ·rw [if_neg y]
  by_cases w:x.k=3
  ·rw[if_pos w]
   obtain⟨v,r,rfl,u⟩:=z.state f w;exact⟨_,_,_,u,rfl,Kh o aj B g h q t (l v) (aF y) (aG w)⟩
  ·rw[if_neg w]
   by_cases A:x.k=2
   ·rw[if_pos A]
    obtain⟨v,s,rfl,u⟩:=z.input f A;exact⟨_,_,_,u,rfl,Ki o aj B g h q t (l v) (aF y) (aF w) (aG A)⟩
   ·rw[if_neg A]
    have Q:¬x.k<=3:=by
     intro P;unfold eA at hn;split at hn
     ·omega
     ·omega
    have p:=uV f hn Q;have L:=zO (gh:=fb gh (dY m.nodes.length d)) p.inn;have N:=JH z p (fb gh (dY m.nodes.length d));have T:=u9 g h ⟨p.a.1,by have:=p.a;omega⟩ (u7 (by have:=p.a;omega));have S:=u9 g h ⟨p.b.1,by have:=p.b;omega⟩ (u7 (by have:=p.b;omega));have R:=u9 g h ⟨p.c.1,by have:=p.c;omega⟩ (u7 (by have:=p.c;omega));rw[dT] at L;unfold gV at L N;exact⟨_,_,_,z.op f w A p,rfl,Kj o aj B g h q t (l (ma m.nodes d x)) (aF y) (aF w) (aF A) T S R L N⟩
theorem AE (g:m.nodes.length<=80) (f:∀(j:Nat) (x:Nd),m.nodes[j]?=some x->eA m.nodes j x=0):∀k i a b c,i+k=m.nodes.length->VGood m.nodes i a b c->
  bm pg q9g (rN m b c (dY m.nodes.length a) i gh)=fg ⟨[(7,fc (gh.length+1) 0)],[],fb gh (fR m.nodes a b c (m.nodes.drop i))⟩
 |0,i,a,b,c,h,e=>by
  rw[aM aj,fR,Kd (by rw[e.len];omega)];have d:¬(i:Int)<(m.nodes.length:Int):=aj;refine (bn (s1:=?J) (bg ?Z)).trans ?Y
  case Z=>simp[q16,d];rfl
  case Y=>simp[keep,bj]
 |k+1,i,a,b,c,h,e=>by obtain⟨v,l,n,q,p,o⟩:=Kk (gh:=gh) g f (show i<m.nodes.length by omega) e;rw[p];exact ay (bg o) (AE g f k (i+1) _ _ _ aj q)
def gX (m:Md) (a b:fq):fq:=fR m.nodes [] a b m.nodes
theorem Kl (n:Nat):List.flatMap PV.cells (List.replicate n (PV.int .i64 0))=(dY n []).map I:=by
 unfold dY;rw[bF,cF,Nat.sub_zero,List.map_replicate]
 induction n with
 |zero=>rfl
 |succ n a=>rw[List.replicate_succ,cU,a];rfl
theorem AF {ss ks:fq}:(gX m ss ks).length=m.nodes.length:=by unfold gX;rw[Av];simp
theorem Km (a:fq):frz gh.length (fb gh a) (.bs true gh.length 0 a.length 1)=LI a:=by
 rw[Gg (AC a) (cW _) bh];have e:∀l:fq,(l.map I).map aw=l.map I:=λl=>by rw[List.map_map];rfl
 have b:(((a.map I).drop 0).take a.length)=a.map I:=by rw[bJ];exact bK bh
 rw[b,e]
theorem Ko {ss ks:fq} (h:dc m=0) (p:VGood m.nodes 0 [] ss ks):ac pg 139 [e9 m,LI ss,LI ks] gh=some (LI (gX m ss ks),gh):=by
 have o:=(kC h).len;have c:=AE (gh:=gh) o (λj x i=>rK h i) m.nodes.length 0 [] ss ks aj p;rw[bJ] at c;change bm pg q9g _=some (_,⟨_,_,fb gh (gX m ss ks)⟩) at c;have k:=AF (m:=m) (ss:=ss) (ks:=ks);have e:=Km (gh:=gh) (gX m ss ks);have hn:=noGs_ints (gX m ss ks);have l:(fb gh (gX m ss ks)).take gh.length=gh:=by simp[fb]
 have q:=AD (gh:=gh) (gX m ss ks);have f:bm pg q9h ⟨[(7,fc (gh.length+1) 0)],[],fb gh (gX m ss ks)⟩=fo ⟨[(6,.bs true gh.length 0 (gX m ss ks).length 1)],[],fb gh (gX m ss ks)⟩:=by refine bg ?_;simp[q9h,q]
 generalize gX m ss ks=b at *;have n:(m.nodes.length*8<=maxBytes):=(by have:=MB;omega)
 have g:=Kl m.nodes.length;have d:(dY m.nodes.length []).length=m.nodes.length:=u6 bh;unfold rN fb at c;rw[d] at c;simp only[aR] at c;rw[en];refine ak (fn:=q5w) (s:=⟨[(6,.bs true gh.length 0 b.length 1)],[],fb gh b⟩) rfl rfl (bg ?J) ?Z
 case J=>
  unfold fb at f ⊢;generalize (dY m.nodes.length []).map I=a at *;simp[qeb,q5w,show (m.nodes.length:Int)*8<=(maxBytes:Int) by omega,g,au,c,f]
 case Z=>simp[ag,results,q5w,ah,am,af,e,l,hn]
theorem wrS (n:Nat) (h:n<=1000):WI.wrap ((n:Int)+1)=((n+1:Nat):Int):=by rw[aq aj aj];omega
end
end
section
attribute [local congr] bu
attribute [local simp] au
def dM:fN->Int->Int
 |[],_=> -1
 |p::a,s=>if p.1=s then p.2 else dM a s
def jV (a:fN) (s:Int):Bool:=a.any λp=>decide (p.1=s)
theorem AG (p:Int×Int) (a:fN) (s:Int):jV (p::a) s=(decide (p.1=s)||jV a s):=rfl
section
variable {m:Md} {gh:fB}
theorem AH:∀{l:fN} {k v:Int},(∀p∈l,p.1≠k)->io l k v=l++[(k,v)]
 |[],_,_,_=>rfl
 |(a,u)::l,k,v,h=>by rw[io,if_neg (λe=>h (a,u) (aZ ..) e.symm),AH λp b=>h p (bC _ b)];rfl
theorem Kq {b:fq} {a:Int} (h:a.toNat<b.length):(b.map I)[a.toNat]?=some (I (b.getD a.toNat 0)):=by simp[aK,aA h]
theorem AI {m:Md} (d:lW m):m.inits.length<=80/\m.nexts.length<=80:=by
 have b:∀{l:fN},(l.map (·.1)).Nodup->(∀p∈l,c8 m.nodes p.1)->l.length<=80:=λ{l} g c=>by have f:=List.Nodup.length_le_of_subset g (l₂:=(List.range m.nodes.length).map λ(i:Nat)=>(i:Int)) (λa ha=>by obtain⟨p,e,rfl⟩:=List.mem_map.1 ha;have:=c p e;have j:=this.1;have h:=this.2;exact List.mem_map.2 ⟨p.1.toNat,List.mem_range.2 h,aj⟩);have:=d.len;simp at f;omega
 exact⟨b d.nod1 (λp c=>(d.pairs p (cE.2 (.inl c))).1),b d.nod2 (λp c=>(d.pairs p (cE.2 (.inr c))).1)⟩
theorem AJ {L:List Nd}:∀b:fq,kE L b (List.replicate b.length 0)=0
 |[]=>rfl
 | a::b=>by
  rw[aV,List.replicate_succ,kE,if_pos]
  ·exact AJ b
  ·have:1<=2^(wAt L a).toNat:=Nat.one_le_two_pow
   omega
theorem rP {L:List Nd} (a:fq):jq L a (List.replicate a.length 0)=0:=by unfold jq;rw[if_neg bh];exact AJ a
def nt (m:Md):fq:=List.replicate (ci m.nodes 3).length 0
def nu (m:Md):fq:=List.replicate (ci m.nodes 2).length 0
def jr (m:Md):fq:=gX m (nt m) (nu m)
theorem pi {m:Md} (a:lW m) (k:Int):(ci m.nodes k).length<=80:=cC (uA _ _ _) a.len
theorem AK {m:Md}:VGood m.nodes 0 [] (nt m) (nu m):=Au (rP _) (rP _)
theorem zd {L:List Nd} {b a:fq} (h:jq L b a=0):a.length=b.length:=by
 unfold jq at h;split at h
 ·cases h
 ·omega
end
end
section
attribute [local congr] bu
attribute [local simp] au
theorem rQ {m:Md} (h:dc m=0):iz m (dU [] m.nodes)=0/\jp m=0:=by
 unfold dc at h;split at h
 ·contradiction
 split at h
 ·contradiction
 split at h
 ·contradiction
 split at h
 ·contradiction
 rename_i a;exact⟨aP a,h⟩
theorem AM {l:List Nd} {f:fS} {b:Bool}:∀{d:fN},di l f b d=0->∀p∈d,p.1∈ci l 3
 |[],_,p,a=>by cases a
 | q ::d,h,p,a=>by
  rw[di] at h;split at h
  ·rename_i g
   rcases List.mem_cons.1 a with rfl|a
   ·unfold eW at g
    split at g
    ·contradiction
    rename_i hn;have c:c8 l p.1:=aP λh=>hn (.inl h)
    have e:(l.getD p.1.toNat default).k=3:=aP λh=>hn (.inr (.inr h))
    refine kindF_mem.2 ⟨p.1.toNat,c.2,?_,?_⟩
    ·have:=c.1;omega
    ·rw[aK,aA c.2] at e
     rw[aA c.2];simpa using e
   ·exact AM h p a
  ·contradiction
theorem Kr {a:fN} {s:Int} (h:s∈a.map (·.1)):jV a s=true:=by obtain⟨p,b,rfl⟩:=List.mem_map.1 h;exact List.any_eq_true.2 ⟨p,b,aG rfl⟩
theorem Ks {m:Md} (h:dc m=0):∀s∈ci m.nodes 3,jV m.nexts s=true:=by
 intro s e;refine Kr (aP λhn=>?_);obtain⟨b,c⟩:=rQ h;have f:(ci m.nodes 3).length<=m.nexts.length:=by
  unfold jp at c;split at c
  ·contradiction
  ·omega
 have d:di m.nodes (dU [] m.nodes) false m.nexts=0:=by
  unfold iz at b;split at b
  ·contradiction
  split at b
  ·contradiction
  rename_i i;exact aP i
 have g:(s::m.nexts.map (·.1)).Nodup:=List.nodup_cons.2 ⟨hn,(kC h).nod2⟩;have:=List.Nodup.length_le_of_subset g (l₂:=ci m.nodes 3) (λa ha=>by
  rcases List.mem_cons.1 ha with rfl|ha
  ·exact e
  ·obtain⟨p,b,rfl⟩:=List.mem_map.1 ha
   exact AM d p b)
 simp at this;omega
theorem Kt {m:Md} (h:dc m=0):∀a∈m.bads++m.holds,c8 m.nodes a:=by
 obtain⟨-,b⟩:=rQ h;unfold jp at b;split at b
 ·contradiction
 split at b
 ·contradiction
 rename_i c;intro a ha;exact aP λhn=>c (List.any_eq_true.2 ⟨a,ha,by simp[hn]⟩)
theorem AN {m:Md} (h:dc m=0):m.bads.length<=8/\m.holds.length<=8:=by
 unfold dc at h;split at h
 ·contradiction
 omega
section
variable {m:Md} {gh:fB}
end
end
section
attribute [local congr] bu
attribute [local simp] au
def iA (L:List Nd):fq->fq->fS
 |a::c,x::b=>cB x.toNat 0 (wAt L a).toNat++iA L c b
 |_,_=>[]
def jW:Nat->Nat->fq
 |_,0=>[]
 |p,k+1=>((2*p:Nat):Int)::jW (p+1) k
section
variable {pre:fB} {ins:Int} {v:fS}
theorem AO (f:(v.length:Int)=ins) {A:fN}:∀(c:fS) (p:Nat) (rest:fS),1<=p->v.drop (p-1)=c++rest->Ls ins v A (jW p c.length) c
 |[],_,_,_,_=>trivial
 | b::c,p,rest,i,h=>by
  have a:p-1<v.length:=by
   rcases Nat.lt_or_ge (p-1) v.length with d|d
   ·exact d
   ·rw[aM d] at h;cases h
  rw[aJ a] at h;simp only[bH,List.cons.injEq] at h;have e:=AO f (A:=A) c (p+1) rest aj (by rw[show p+1-1=p-1+1 by omega];exact h.2);refine⟨⟨?_,?_⟩,e⟩
  ·unfold fF fJ;rw[aH];omega
  ·obtain⟨t,g⟩:=lS (false::v) A
   unfold db;rw[g,show (((2*p:Nat):Int)/2).toNat=p by omega,aF aj];rw[aK,aI (by simp;omega),show p=(p-1)+1 by omega,List.getElem?_cons_succ,aA a,h.1];cases b<;>rfl
def hH (m0 f e d c g:PV) (b:fN) (a:fB):BC:=⟨m0,f,e,d,c,g,.map (b8 b)::a⟩
section
variable {m0 m1 m2 m3 m4 bv b2:PV} {nx nx2:fN} {J J':fB} {A A':fN}
theorem nw:((hH m0 m1 m2 m3 m4 bv nx J).g pre ins A)[pre.length+2]?=some (.cells [fc (pre.length+1) 0,m0,m1,m2,m3,m4,bv]):=jo
theorem OK:((hH m0 m1 m2 m3 m4 bv nx J).g pre ins A)[pre.length+3]?=some (.map (b8 nx)):=oU (j:=0) rfl
theorem rR:((hH m0 m1 m2 m3 m4 bv nx J).g pre ins A).set (pre.length+2) (.cells [fc (pre.length+1) 0,m0,m1,m2,m3,m4,b2])=(hH m0 m1 m2 m3 m4 b2 nx J).g pre ins A:=by unfold BC.g hH;rw[List.set_append_right _ _ aj,show pre.length+2-pre.length=2 by omega];rfl
theorem Ku:((hH m0 m1 m2 m3 m4 bv nx J).g pre ins A).set (pre.length+3) (.map (b8 nx2))=(hH m0 m1 m2 m3 m4 bv nx2 J).g pre ins A:=by unfold BC.g hH;rw[List.set_append_right _ _ aj,show pre.length+3-pre.length=3 by omega];rfl
theorem AP {L:fw} {o b:Bool}:fC ((hH m0 m1 m2 m3 m4 (.sl o 1 L) nx J).g pre ins A) (pre.length+2) 6 b=some ((hH m0 m1 m2 m3 m4 (.sl b 1 L) nx J).g pre ins A):=by
 have c:=nw (pre:=pre) (ins:=ins) (A:=A) (m0:=m0) (m1:=m1) (m2:=m2) (m3:=m3) (m4:=m4) (bv:= .sl o 1 L) (nx:=nx) (J:=J);have a:=rR (pre:=pre) (ins:=ins) (A:=A) (m0:=m0) (m1:=m1) (m2:=m2) (m3:=m3) (m4:=m4) (bv:= .sl o 1 L) (b2:= .sl b 1 L) (nx:=nx) (J:=J);unfold fC;rw[c]
 show some (List.set _ _ _)=_
 rw[<-a];rfl
theorem Kv {L:fw} {r:PV} {env:fT} {lh:List fw} {d f:Nat} {a:fw} {cf:CallF} (b:a.all az=true) (h:∀o,cf f a ((hH m0 m1 m2 m3 m4 (.sl o 1 L) nx J).g pre ins A)=some (r,(hH m0 m1 m2 m3 m4 (.sl o 1 L) nx J').g pre ins A')) :
  fV cf ⟨env,lh,(hH m0 m1 m2 m3 m4 (cr L) nx J).g pre ins A⟩ (some d) f a (pre.length+2) 6=some ⟨Lw.put env d r,lh,(hH m0 m1 m2 m3 m4 (cr L) nx J').g pre ins A'⟩:=by
 unfold fV dN;simp only[b,if_true,h false,AP,cJ,h true,eO];rw[if_neg bh,cJ,if_pos (by simp[nw,AP])]
end
def BR1 (a:fB) (c b:Int) (L:List Nd) (m0 g f e d:PV) (i:Nat) (G:fB):St:=
 ⟨[(1,ec),(2,eK),(3,I c),(4,I b),(5,fc (a.length+2) 0),(6,.mp (a.length+3)),(48,LN L),(49,I L.length),(50,I (i:Int))],
  [[m0,g,f,e,d],[I 0,.sl true 2 [],I 0,I 0,dz [],dz [],dz [],dz []]],G⟩
attribute [local simp] BR1
section
variable {m0 m1 m2 m3 m4:PV} {nx:fN} {J J':fB} {A A':fN} {nI nS:Int} {L:List Nd} {x:Nd} {i:Nat}
theorem AQ {G:fB} (a:i<=1000):bm pg q8d (BR1 pre nI nS L m0 m1 m2 m3 m4 i G)=some (.normal,BR1 pre nI nS L m0 m1 m2 m3 m4 (i+1) G):=
 bg (by simp[q8d,BR1,wrS' i aj])
theorem Kw {BS:fw} {out:fq} (C:i<L.length) (B:L.length<=80) (s:L[i]?=some x) (p:BS.length=i) (t:gx nx x.k=none)
  (h:∀o,ac pg 218 [fc (pre.length+2) 0,nodeV x] ((hH m0 m1 m2 m3 m4 (.sl o 1 BS) nx J).g pre ins A)=some (LI out,(hH m0 m1 m2 m3 m4 (.sl o 1 BS) nx J').g pre ins A')) :
  evK pg q36 fiK ⟨[(1,(ec)),(2,(eK)),(3,(.int .i64 nI)),(4,(.int .i64 nS)),(5,(fc (pre.length+2) 0)),(6,(.mp (pre.length+3))),(48,(LN L)),(49,(.int .i64 L.length)),(50,(.int .i64 i))],[[m0,m1,m2,m3,m4],[(.int .i64 0),(.sl true 2 []),(.int .i64 0),(.int .i64 0),(dz []),(dz []),(dz []),(dz [])]],((hH m0 m1 m2 m3 m4 (dz BS) nx J).g pre ins A)⟩=
   some (.normal,BR1 pre nI nS L m0 m1 m2 m3 m4 (i+1) ((hH m0 m1 m2 m3 m4 (dz (BS++[LI out])) nx J').g pre ins A')):=by
 have e:(i:Int)<(L.length:Int):=aj;have f:(L.map nodeV)[i]?=some (.agg [I x.k,I x.w,I x.a,I x.b,I x.c,I x.n]):=by rw[aB,s];rfl
 have l:(i+1)*24<=maxBytes:=by have:=MB;omega
 have m:=AQ (pre:=pre) (nI:=nI) (nS:=nS) (L:=L) (m0:=m0) (m1:=m1) (m2:=m2) (m3:=m3) (m4:=m4) (i:=i) (G:=(hH m0 m1 m2 m3 m4 (dz (BS++[LI out])) nx J').g pre ins A') aj;rw[dT] at h;have j:=λ(env:fT) (lh:List fw) (d:Nat)=>Kv (env:=env) (lh:=lh) (d:=d) (pre:=pre) (cf:=ac pg) bh h
 have u:=h false;have r:=rR (pre:=pre) (ins:=ins) (A:=A) (m0:=m0) (m1:=m1) (m2:=m2) (m3:=m3) (m4:=m4) (bv:= dz BS) (b2:= cr BS) (nx:=nx) (J:=J);have q:=rR (pre:=pre) (ins:=ins) (A:=A') (m0:=m0) (m1:=m1) (m2:=m2) (m3:=m3) (m4:=m4) (bv:= cr BS) (b2:= dz (BS++[LI out])) (nx:=nx) (J:=J');have z:=nw (pre:=pre) (ins:=ins) (A:=A) (m0:=m0) (m1:=m1) (m2:=m2) (m3:=m3) (m4:=m4) (bv:= dz BS) (nx:=nx) (J:=J);have v:=OK (pre:=pre) (ins:=ins) (A:=A) (m0:=m0) (m1:=m1) (m2:=m2) (m3:=m3) (m4:=m4) (bv:= dz BS) (nx:=nx) (J:=J)
 have y:=nw (pre:=pre) (ins:=ins) (A:=A') (m0:=m0) (m1:=m1) (m2:=m2) (m3:=m3) (m4:=m4) (bv:= cr BS) (nx:=nx) (J:=J');unfold BR1 at *;unfold LI LN at *;generalize (hH m0 m1 m2 m3 m4 (dz (BS++[cr (out.map I)])) nx J').g pre ins A'=F,(hH m0 m1 m2 m3 m4 (cr BS) nx J').g pre ins A'=H,(hH m0 m1 m2 m3 m4 (cr BS) nx J).g pre ins A=M,(hH m0 m1 m2 m3 m4 (dz BS) nx J).g pre ins A=N at *;generalize out.map I=D,L.map nodeV=E at *;simp[q36,e]
 simp[f,z,v,t,r,u,j,p,l,y,q,m,au,show Nat.ble 1 2=true from rfl,show Nat.ble 2 2=true from rfl]
theorem AR {G:fB} {b a:Nat} {x0 x1 x2 x3 x4 x5:Int} (f:b+a<=2000) (hw:a<=8):∀(k j:Nat) (c:fq),j+k=a->c.length=j->
  bm pg qd4 ⟨[(1,ec),(2,eK),(3,I nI),(4,I nS),(5,fc (pre.length+2) 0),(6,.mp (pre.length+3)),(8,eU),(9,I (b:Int)),(11,dz (c.map I)),(48,LN L),(49,I L.length),(50,I (i:Int)),(76,I (a:Int)),(77,I (j:Int))],
   [[m0,m1,m2,m3,m4],[I 0,.sl true 2 [],I 0,I 0,dz [],dz [],dz [],dz []],[I x0,I x1,I x2,I x3,I x4,I x5]],G⟩=
  fg ⟨[(1,ec),(2,eK),(3,I nI),(4,I nS),(5,fc (pre.length+2) 0),(6,.mp (pre.length+3)),(8,eU),(9,I (b:Int)),(11,dz ((c++jW (b+j) k).map I)),(48,LN L),(49,I L.length),(50,I (i:Int))],
   [[m0,m1,m2,m3,m4],[I 0,.sl true 2 [],I 0,I 0,dz [],dz [],dz [],dz []],[I x0,I x1,I x2,I x3,I x4,I x5]],G⟩
 |0,j,c,h,_=>by
  have d:¬((j:Nat):Int)<(a:Int):=aj;rw[jW,bE];refine (bn (s1:=?J) (bg ?Z)).trans ?Y
  case Z=>simp[q8b,d];rfl
  case Y=>simp[keep,bj]
 | k+1,j,c,h,ha=>by
  have d:((j:Nat):Int)<(a:Int):=aj;have g:(c.map I).length=j:=by simpa using ha
  have e:(j+1)*8<=maxBytes:=by have:=MB;omega
  have o:=wrS' j aj;have m:WI.wrap (2*WI.wrap ((b:Int)+(j:Int)))=((2*(b+j):Nat):Int):=by rw[aq (n:=(b:Int)+j) aj aj,aq aj aj];omega
  have l:=AR (G:=G) (x0:=x0) (x1:=x1) (x2:=x2) (x3:=x3) (x4:=x4) (x5:=x5) f hw k (j+1) (c++[((2*(b+j):Nat):Int)]) aj (by simp;omega);rw[aT,bI (l₁:=c) (l₂:=[((2*(b+j):Nat):Int)])] at l;refine ay (bg ?K) l
  case K=>
   generalize c.map I=X,((2*(b+j):Nat):Int)=q at *;simp[q8b,d];simp[g,m,e,o]
theorem Kx {G b h:fB} {BS OUT:fw} {at' W:Nat} {k c1 c2 c3 c4:Int} {o:Bool} (m:at'+W<=2000) (l:BS.length<=80) (n:G[pre.length+3]?=some (.map (b8 nx))) (f:G.set (pre.length+3) (.map (b8 (io nx k ((at'+W:Nat):Int))))=b)
  (g:G[pre.length+2]?=some (.cells [fc (pre.length+1) 0,m0,m1,m2,m3,m4,dz BS])) (a:pre.length+2<b.length)
  (j:b.set (pre.length+2) (.cells [fc (pre.length+1) 0,m0,m1,m2,m3,m4,dz (BS++[cr OUT])])=h) :
  bm pg q8c ⟨[(1,ec),(2,eK),(3,I nI),(4,I nS),(5,fc (pre.length+2) 0),(6,.mp (pre.length+3)),(8,eU),(9,I (at':Int)),(11,.sl o 1 OUT),(48,LN L),(49,I L.length),(50,I (i:Int))],
   [[m0,m1,m2,m3,m4],[I 0,.sl true 2 [],I 0,I 0,dz [],dz [],dz [],dz []],[I k,I (W:Int),I c1,I c2,I c3,I c4]],G⟩=
  some (.normal,BR1 pre nI nS L m0 m1 m2 m3 m4 i h):=by
 have p:WI.wrap ((at':Int)+(W:Int))=((at'+W:Nat):Int):=by rw[aq aj aj];omega
 have c:(BS.length+1)*24<=maxBytes:=by have:=MB;omega
 have e:b[pre.length+2]?=some (.cells [fc (pre.length+1) 0,m0,m1,m2,m3,m4,dz BS]):=by rw[<-f,List.getElem?_set_ne aj];exact g
 have d:∀x:GObj,(b.set (pre.length+2) x)[pre.length+2]?=some x:=λx=>List.getElem?_set_self a
 refine bg ?_;unfold BR1;generalize ((at'+W:Nat):Int)=q at *;simp[q8c,p,n,f,g,e,d,j,List.getElem?_cons_zero,-getElem?_pos,c,au,eS,show Nat.ble 1 2=true from rfl,show Nat.ble 2 2=true from rfl]
theorem Ky {BS:fw} {at' W:Nat} (u:i<L.length) (t:L.length<=80) (p:L[i]?=some x) (r:BS.length=i) (q:gx nx x.k=some (at':Int)) (hw:x.w=(W:Int)) (j:W<=8) (h:at'+W<=2000) :
  evK pg q36 fiK ⟨[(1,(ec)),(2,(eK)),(3,(.int .i64 nI)),(4,(.int .i64 nS)),(5,(fc (pre.length+2) 0)),(6,(.mp (pre.length+3))),(48,(LN L)),(49,(.int .i64 L.length)),(50,(.int .i64 i))],[[m0,m1,m2,m3,m4],[(.int .i64 0),(.sl true 2 []),(.int .i64 0),(.int .i64 0),(dz []),(dz []),(dz []),(dz [])]],((hH m0 m1 m2 m3 m4 (dz BS) nx J).g pre ins A)⟩=
   some (.normal,BR1 pre nI nS L m0 m1 m2 m3 m4 (i+1) ((hH m0 m1 m2 m3 m4 (dz (BS++[LI (jW at' W)])) (io nx x.k ((at'+W:Nat):Int)) J).g pre ins A)):=by
 have e:(i:Int)<(L.length:Int):=aj;have d:(L.map nodeV)[i]?=some (.agg [I x.k,I x.w,I x.a,I x.b,I x.c,I x.n]):=by rw[aB,p];rfl
 have l:=AQ (pre:=pre) (nI:=nI) (nS:=nS) (L:=L) (m0:=m0) (m1:=m1) (m2:=m2) (m3:=m3) (m4:=m4) (i:=i) (G:=(hH m0 m1 m2 m3 m4 (dz (BS++[LI (jW at' W)])) (io nx x.k ((at'+W:Nat):Int)) J).g pre ins A) aj
 have m:=Kx (pre:=pre) (nI:=nI) (nS:=nS) (L:=L) (m0:=m0) (m1:=m1) (m2:=m2) (m3:=m3) (m4:=m4) (i:=i) (c1:=x.a) (c2:=x.b) (c3:=x.c) (c4:=x.n) (o:=true) (BS:=BS) (OUT:=(jW at' W).map I) (at':=at') (W:=W) (k:=x.k) h aj
  (OK (pre:=pre) (ins:=ins) (A:=A) (m0:=m0) (m1:=m1) (m2:=m2) (m3:=m3) (m4:=m4) (bv:= dz BS) (nx:=nx) (J:=J)) Ku nw (by rw[rq];omega) rR
 have f:=AR (pre:=pre) (nI:=nI) (nS:=nS) (L:=L) (m0:=m0) (m1:=m1) (m2:=m2) (m3:=m3) (m4:=m4) (i:=i) (G:=(hH m0 m1 m2 m3 m4 (dz BS) nx J).g pre ins A) (x0:=x.k) (x1:=W) (x2:=x.a) (x3:=x.b) (x4:=x.c) (x5:=x.n) h j W 0 [] aj rfl;simp only[bF,bU,cG,aR] at f;have s:=OK (pre:=pre) (ins:=ins) (A:=A) (m0:=m0) (m1:=m1) (m2:=m2) (m3:=m3) (m4:=m4) (bv:= dz BS) (nx:=nx) (J:=J);rw[hw] at d;unfold BR1 at *;unfold LI LN at *;generalize (hH m0 m1 m2 m3 m4 (dz (BS++[cr ((jW at' W).map I)])) (io nx x.k ((at'+W:Nat):Int)) J).g pre ins A=z at *
 generalize (hH m0 m1 m2 m3 m4 (dz BS) nx J).g pre ins A=B,(jW at' W).map I=v,L.map nodeV=y at *;simp[q36,e];simp[d,s,q,f,m,l,show Nat.ble 1 2=true from rfl,show Nat.ble 2 2=true from rfl]
end
end
end
section
attribute [local congr] bu
attribute [local simp] au
theorem Kz {L:List Nd} {i:Int} {x:Nd} (h:eA L i x=0):1<=x.k/\x.k<24:=by
 unfold eA at h;split at h
 ·omega
 ·omega
section
variable {pre:fB} {ins:Int} {v:fS}
theorem KA {k w n:Int} {X Y d:fq} {A:fN} (f:k=1) (e:cq ins A=0) (hw:1<=w/\w<=8) (hn:0<=n/\n<((2^w.toNat:Nat):Int)):NS pre ins v A k w n X Y d n:=by
 obtain⟨g,_,_,_⟩:=dX e;obtain⟨W,rfl⟩:∃W:Nat,w=W:=⟨w.toNat,aj⟩
 obtain⟨N,rfl⟩:∃N:Nat,n=N:=⟨n.toNat,aj⟩
 rw[Int.toNat_natCast] at hn;have l:=fQ (W:=W) aj;refine⟨A,cI N 0 W,cB N 0 W,[],false,λH a b c j i h=>?_,(Stp.refl e).mono aj,Aw g.1 N W 0,by rw[lk],?_⟩
 ·rw[fY]
  exact JI f rfl aj aj
 ·rw[uX,Nat.pow_zero,Nat.div_one,cV aj]
theorem KB {x:Int} {a:Nat} (c:0<=x) (b:x<((2^a:Nat):Int)):(num (cB x.toNat 0 a):Int)=x:=by rw[uX,Nat.pow_zero,Nat.div_one,cV aj];omega
theorem AS {kind:Int} {L:List Nd} {i:Nat} {x:Nd} (b:L[i]?=some x):da kind i (L.drop i)=if x.k=kind then (i:Int)::da kind (i+1) (L.drop (i+1)) else da kind (i+1) (L.drop (i+1)):=by obtain⟨a,rfl⟩:=aD.1 b;rw[aJ a,da]
theorem OL {p W:Nat} {b rest:fS} (e:1<=p) (a:b.length=W) (f:1<=W) (c:v.length<=1000) (h:v.drop (p-1)=b++rest):p+W<=2000/\v.drop (p+W-1)=rest:=by have d:=congrArg List.length h;rw[List.length_drop,aQ,a] at d;refine⟨aj,?_⟩;rw[show p+W-1=(p-1)+W by omega,<-List.drop_drop,h,<-a,List.drop_left]
theorem vd (pre:fB) (hv:(v.length:Int)=ins) {nI nS:Int} {L:List Nd} {m0 m1 m2 m3 m4:PV} {vS:fS} (hl:L.length<=80) (hz:∀(j:Nat) (x:Nd),L[j]?=some x->eA L j x=0) (al:∀(j:Nat) (x:Nd),L[j]?=some x->1<=x.w/\x.w<=8) :
  ∀ (k i:Nat) (X ks:fq) (A:fN) (e:ft) (N:List fS) (q:fq) (z u:Nat) (J:fB),i+k=L.length->cq ins A=0->A.length+5000*k+5000<=1000000->e.length=i->
   BitsOk ins v A L e N q->VGood L i q X ks->1<=z->1<=u->v.drop (z-1)=iA L (da 2 i (L.drop i)) ks++vS->v.drop (u-1)=iA L (da 3 i (L.drop i)) X->
   ∃ A' f m s J',bm pg q4u (BR1 pre nI nS L m0 m1 m2 m3 m4 i ((hH m0 m1 m2 m3 m4 (dz (e.map λl=>LI l)) [(2,z),(3,u)] J).g pre ins A))=
     fg ⟨[(1,ec),(2,eK),(3,I nI),(4,I nS),(5,fc (pre.length+2) 0)],[[m0,m1,m2,m3,m4],[I 0,.sl true 2 [],I 0,I 0,dz [],dz [],dz [],dz []]],(hH m0 m1 m2 m3 m4 (dz (f.map λl=>LI l)) s J').g pre ins A'⟩/\
    Stp ins A A' (5000*k)/\BitsOk ins v A' L f m (fR L q X ks (L.drop i))/\f.length=L.length
 | 0,i,X,ks,A,e,N,q,z,u,J,h,hc,_,F,hB,_,_,_,_,_=>by
  refine⟨A,e,N,[(2,z),(3,u)],J,?_,Stp.refl hc,?_,aj⟩
  ·have aK:¬(i:Int)<(L.length:Int):=aj
   unfold BR1;refine (bn (s1:=?J) (bg ?Z)).trans ?Y
   case Z=>simp[q36,aK];rfl
   case Y=>simp[keep,bj]
  ·rw[aM aj];exact hB
 | k +1,i,X,ks,A,e,N,q,z,u,J,h,hc,hA,F,hB,hg,ab,aa,E,D=>by
  have hi:i<L.length:=aj;obtain⟨aP,_,_,_⟩:=dX hc;have O:L[i]?=some L[i]:=aA hi;have hn:=hz i _ O;have hw:=al i _ O;have aQ:=Kz hn;have ao:wAt L (e.length:Int)=(L[i]).w:=by rw[F];exact rL O
  have M:=AS (kind:=2) O;have H:=AS (kind:=3) O;rw[aJ hi,fR];generalize L[i]=x at *;have aN:A.length+5000<=1000000:=aj;have ad:(e.map λl=>LI l).length=i:=by rw[aW,F]
  have aC:∀Q,x.k≠2->x.k≠3->NS pre ins v A x.k x.w x.n (eY e (ar x.k) 0 x.a) (eY e (ar x.k) 1 x.b) (eY e (ar x.k) 2 x.c) Q->(∀y∈dG x,0<=y/\y.toNat<e.length)->VGood L (i+1) (q++[Q]) X ks->
    ∃A' f m s J',bm pg q4u (BR1 pre nI nS L m0 m1 m2 m3 m4 i ((hH m0 m1 m2 m3 m4 (dz (e.map λl=>LI l)) [(2,z),(3,u)] J).g pre ins A))=
     fg ⟨[(1,ec),(2,eK),(3,I nI),(4,I nS),(5,fc (pre.length+2) 0)],[[m0,m1,m2,m3,m4],[I 0,.sl true 2 [],I 0,I 0,dz [],dz [],dz [],dz []]],(hH m0 m1 m2 m3 m4 (dz (f.map λl=>LI l)) s J').g pre ins A'⟩/\
    Stp ins A A' (5000*(k+1))/\BitsOk ins v A' L f m (fR L (q++[Q]) X ks (L.drop (i+1)))/\f.length=L.length:=by
   intro Q U T hN S t;obtain⟨A1,out,ob,J1,f1,s1,l1,w1,n1⟩:=Kb pre hN S;have b1:=s1.2.1;rw[if_neg U] at M;rw[if_neg T] at H;rw[M] at E;rw[H] at D;obtain⟨A2,f,m,s,J',g1,g2,g3,g4⟩:=vd pre hv (nI:=nI) (nS:=nS) (m0:=m0) (m1:=m1) (m2:=m2) (m3:=m3) (m4:=m4) hl hz al k (i+1) X ks A1 (e++[out]) (N++[ob]) (q++[Q]) z u (J++J1) aj s1.1 aj (by simp[F]) ((hB.mono hv s1).push l1 (by rw[w1,ao]) n1) t ab aa E D;refine⟨A2,f,m,s,J',?_,(s1.trans g2).mono (by rw[Nat.mul_succ,Nat.add_comm];exact cW _),g3,g4⟩
   have G:=Kw (pre:=pre) (ins:=ins) (nI:=nI) (nS:=nS) (m0:=m0) (m1:=m1) (m2:=m2) (m3:=m3) (m4:=m4) (nx:=[(2,(z:Int)),(3,(u:Int))]) (J:=J) (J':=J++J1) (A:=A) (A':=A1) (BS:=e.map λl=>LI l) (out:=out) hi hl O ad (by
    show (if x.k=2 then _ else if x.k=3 then _ else none)=none
    rw[if_neg U,if_neg T]) (λo=>f1 (hH m0 m1 m2 m3 m4 (.sl o 1 (e.map λl=>LI l)) [(2,z),(3,u)] J) o rfl)
   unfold BR1 at G g1 ⊢;refine ay (bg G) ?_;rw[bI] at g1;exact g1
  split
  ·rename_i h1
   have ax:=uW hn h1;exact aC x.n aj aj (KA h1 hc hw ax) (λy hy=>by unfold dG at hy;rw[zN aj] at hy;cases hy) (hg.other O aj aj ax.1 ax.2)
  ·rename_i h1
   obtain⟨W,hW⟩:∃W:Nat,x.w=W:=⟨x.w.toNat,aj⟩
   have an:wAt L (i:Int)=W:=by rw[<-F,ao,hW]
   have aE:∀(P:Int) (p:Nat) (rest:fS) (B C:fq) (r:Nat×Nat),x.k=2\/x.k=3->gx [(2,(z:Int)),(3,(u:Int))] x.k=some (p:Int)->1<=p->v.drop (p-1)=cB P.toNat 0 W++rest->VGood L (i+1) (q++[P]) B C->io [(2,(z:Int)),(3,(u:Int))] x.k ((p+W:Nat):Int)=[(2,(r.1:Int)),(3,(r.2:Int))]->
     1<=r.1->1<=r.2->v.drop (r.1-1)=iA L (da 2 (i+1) (L.drop (i+1))) C++vS->v.drop (r.2-1)=iA L (da 3 (i+1) (L.drop (i+1))) B->
    ∃A' f m s J',bm pg q4u (BR1 pre nI nS L m0 m1 m2 m3 m4 i ((hH m0 m1 m2 m3 m4 (dz (e.map λl=>LI l)) [(2,z),(3,u)] J).g pre ins A))=
     fg ⟨[(1,ec),(2,eK),(3,I nI),(4,I nS),(5,fc (pre.length+2) 0)],[[m0,m1,m2,m3,m4],[I 0,.sl true 2 [],I 0,I 0,dz [],dz [],dz [],dz []]],(hH m0 m1 m2 m3 m4 (dz (f.map λl=>LI l)) s J').g pre ins A'⟩/\
    Stp ins A A' (5000*(k+1))/\BitsOk ins v A' L f m (fR L (q++[P]) B C (L.drop (i+1)))/\f.length=L.length:=by
    intro P p rest B C r aO hf hp hd t aB aI aH av ap;obtain⟨aL,_⟩:=OL (W:=W) hp (lk _ _ _) aj aj hd;have aD:=AO hv (A:=A) _ p rest hp hd;rw[lk] at aD;have R:=t.inw i (by rw[t.len];omega);have aF:=nr (d:=(0:Int)) (x:=P) (l:=q) (j:=i);rw[if_neg (by rw[hg.len];omega),if_pos hg.len.symm] at aF;rw[aF,an,Int.toNat_natCast] at R
    obtain⟨A2,f,m,s,J',g1,g2,g3,g4⟩:=vd pre hv (nI:=nI) (nS:=nS) (m0:=m0) (m1:=m1) (m2:=m2) (m3:=m3) (m4:=m4) hl hz al k (i+1) B C A (e++[jW p W]) (N++[cB P.toNat 0 W]) (q++[P]) r.1 r.2 J aj hc aj (by simp[F]) (hB.push aD (by rw[lk,ao,hW]) (KB R.1 R.2)) t aI aH av ap;refine⟨A2,f,m,s,J',?_,g2.mono (Nat.mul_le_mul_left _ (Nat.le_succ k)),g3,g4⟩
    have G:=Ky (pre:=pre) (ins:=ins) (nI:=nI) (nS:=nS) (m0:=m0) (m1:=m1) (m2:=m2) (m3:=m3) (m4:=m4) (nx:=[(2,(z:Int)),(3,(u:Int))]) (J:=J) (A:=A) (BS:=e.map λl=>LI l) (at':=p) (W:=W) hi hl O ad hf hW aj aL;rw[aB] at G;unfold BR1 at G g1 ⊢;refine ay (bg G) ?_;rw[bI] at g1;exact g1
   split
   ·rename_i T
    obtain⟨P,B,rfl,t⟩:=hg.state O T;rw[if_pos T] at H;rw[if_neg aj] at M;rw[H,iA,an,Int.toNat_natCast] at D;rw[M] at E;obtain⟨_,ap⟩:=OL (W:=W) aa (lk _ _ _) aj aj D;exact aE P u _ B ks (z,u+W) (.inr T) (by rw[T];rfl) aa D t (by rw[T];rfl) ab (by show 1<=u+W;omega) E ap
   ·rename_i T
    split
    ·rename_i U
     obtain⟨P,C,rfl,t⟩:=hg.input O U;rw[if_pos U] at M;rw[if_neg aj] at H;rw[M,iA,an,Int.toNat_natCast,aT] at E;rw[H] at D;obtain⟨_,av⟩:=OL (W:=W) ab (lk _ _ _) aj aj E;exact aE P z _ X C (z+W,u) (.inl U) (by rw[U];rfl) ab E t (by rw[U];rfl) (by show 1<=z+W;omega) aa av D
    ·rename_i U
     have ho:=uV O hn aj;have ha:=ho.a;have hb:=ho.b;have aR:=ho.c;have S:∀y∈dG x,0<=y/\y.toNat<e.length:=J9 aj aj aj;have aG:pf L e.length x:=by rw[F];exact ho
     exact aC (ma L q x) U T (Ka pre hv hB aG hc aN) S (hg.op O T U ho)
end
end
section
attribute [local congr] bu
attribute [local simp] au
def LkO (G:fB) (g:Nat) (s:Int) (o:Option PV):Prop:=∃Q,G[g]?=some (GObj.map Q)/\eD 0 Q (I s)=some o
theorem AT (G:fB) (a b:fN) (k:Int):LkO (G++[.map (b8 a),.map (b8 b)]) G.length k ((gx a k).map I):=
 ⟨b8 a,bh,yu _ _⟩
theorem KC (G:fB) (b a:fN) (k:Int):LkO (G++[.map (b8 b),.map (b8 a)]) (G.length+1) k ((gx a k).map I):=
 ⟨b8 a,bh,yu _ _⟩
theorem KD {α:Type} {l:List α} {i j:Nat} (h:l.Nodup) (e:l[i]?=l[j]?) (a:i<l.length):i=j:=(List.getElem?_inj a h).1 e
theorem AU {a:fN} {i:Nat} (hn:(a.map (·.1)).Nodup) (b:i<a.length):io (a.take i) a[i].1 a[i].2=a.take (i+1):=by
 rw[AH]
 ·rw[List.take_succ_eq_append_getElem b]
 ·intro p c
  obtain⟨j,d,rfl⟩:=cP.1 c;rw[cR] at d;rw[List.getElem_take];intro e;have:j=i:=KD (l:=a.map (·.1)) hn (by simp[aA (show j<a.length by omega),aA b,e]) (by simp;omega);omega
theorem rS:∀{ps:fN} {s:Int},gx ps s=if jV ps s then some (dM ps s) else none
 |[],_=>rfl
 |(a,u)::ps,s=>by
  have b:=rS (ps:=ps) (s:=s);rw[gx,AG,dM,b];by_cases h:a=s
  ·rw[if_pos h.symm,aG h,Bool.true_or,if_pos rfl,if_pos h]
  ·rw[if_neg (λe=>h e.symm),aF h,Bool.false_or,if_neg h]
def C0:fw:=[I 0,.sl true 2 [],I 0,I 0,dz [],dz [],dz [],dz []]
def C1 (f e:Int) (a b c d:fw):fw:=[I 0,.sl true 2 [],I f,I e,dz a,dz b,dz c,dz d]
section
variable {pre:fB} {m0 m1 m2 m3 m4:PV} {nI nS:Int} {G:fB} {ps P1 P2:fN}
theorem AW (e:ps.length<=1000) (hn:(ps.map (·.1)).Nodup):∀k i,i+k=ps.length->
  bm pg qd5 ⟨[(1,ec),(2,eK),(5,fc (pre.length+2) 0),(13,eU),(14,.mp G.length),(15,.mp (G.length+1)),(112,LP ps),(113,I ps.length),(114,I (i:Int))],[[m0,m1,m2,m3,m4],C0,C1 nI nS [] [] [] []],G++[.map (b8 (ps.take i)),.map (b8 P2)]⟩=
   fg ⟨[(1,ec),(2,eK),(5,fc (pre.length+2) 0),(13,eU),(14,.mp G.length),(15,.mp (G.length+1))],[[m0,m1,m2,m3,m4],C0,C1 nI nS [] [] [] []],G++[.map (b8 ps),.map (b8 P2)]⟩
 |0,i,h=>by
  rw[bK aj];have a:¬(i:Int)<(ps.length:Int):=aj;unfold C0 C1;refine (bn (s1:=?J) (bg ?Z)).trans ?Y
  case Z=>simp[q8e,a];rfl
  case Y=>simp[keep,bj]
 | k+1,i,h=>by
  have c:i<ps.length:=aj;have a:(i:Int)<(ps.length:Int):=aj;have g:=wrS' i aj;have f:(ps.map andV)[i]?=some (.agg [I ps[i].1,I ps[i].2]):=by simp[aA c,andV]
  have d:=AU hn c;have b:=AW e hn k (i+1) aj;unfold C0 C1 LP at b ⊢;refine ay (bg ?K) b
  case K=>
   generalize ps[i].1=p,ps[i].2=q,ps.take (i+1)=j,ps.take i=l,ps.map andV=m at *;simp[q8e,a];simp[f,d,eS,List.set_append_right,g,show Nat.ble 1 3=true from rfl,show Nat.ble 2 3=true from rfl,show Nat.ble 3 3=true from rfl,show Nat.ble 1 4=true from rfl,show Nat.ble 2 4=true from rfl]
theorem AX (e:ps.length<=1000) (hn:(ps.map (·.1)).Nodup):∀k i,i+k=ps.length->
  bm pg qd6 ⟨[(1,ec),(2,eK),(5,fc (pre.length+2) 0),(13,eU),(14,.mp G.length),(15,.mp (G.length+1)),(125,LP ps),(126,I ps.length),(127,I (i:Int))],[[m0,m1,m2,m3,m4],C0,C1 nI nS [] [] [] []],G++[.map (b8 P1),.map (b8 (ps.take i))]⟩=
   fg ⟨[(1,ec),(2,eK),(5,fc (pre.length+2) 0),(13,eU),(14,.mp G.length),(15,.mp (G.length+1))],[[m0,m1,m2,m3,m4],C0,C1 nI nS [] [] [] []],G++[.map (b8 P1),.map (b8 ps)]⟩
 |0,i,h=>by
  rw[bK aj];have a:¬(i:Int)<(ps.length:Int):=aj;unfold C0 C1;refine (bn (s1:=?J) (bg ?Z)).trans ?Y
  case Z=>simp[q8f,a];rfl
  case Y=>simp[keep,bj]
 | k+1,i,h=>by
  have c:i<ps.length:=aj;have a:(i:Int)<(ps.length:Int):=aj;have g:=wrS' i aj;have f:(ps.map andV)[i]?=some (.agg [I ps[i].1,I ps[i].2]):=by simp[aA c,andV]
  have d:=AU hn c;have b:=AX e hn k (i+1) aj;unfold C0 C1 LP at b ⊢;refine ay (bg ?K) b
  case K=>
   generalize ps[i].1=p,ps[i].2=q,ps.take (i+1)=j,ps.take i=l,ps.map andV=m at *;simp[q8f,a];simp[f,d,eS,List.set_append_right,g,show Nat.ble 1 3=true from rfl,show Nat.ble 2 3=true from rfl,show Nat.ble 3 3=true from rfl,show Nat.ble 1 4=true from rfl,show Nat.ble 2 4=true from rfl]
variable {g14 g15 l j:Nat} {ST:fw} {nx bd hd:fw}
def sE (a:fB) (c b:Nat) (d:fw) (l j:Int):fT:=
 [(1,ec),(2,eK),(5,fc (a.length+2) 0),(13,eU),(14,.mp c),(15,.mp b),(138,dz d),(139,I l),(140,I j)]
theorem AY {N a:Nat} (n:N<256) (hw:a<=8):∀(k i:Nat) (b:fq),i+k=a->b.length<=1000+i->
  bm pg qd7 ⟨[(1,ec),(2,eK),(5,fc (pre.length+2) 0),(13,eU),(14,.mp g14),(15,.mp g15),(24,I (N:Int)),(138,dz ST),(139,I l),(140,I j),(182,I (a:Int)),(183,I (i:Int))],[[m0,m1,m2,m3,m4],C0,C1 nI nS (b.map I) nx bd hd],G⟩=
   fg ⟨sE pre g14 g15 ST l j,[[m0,m1,m2,m3,m4],C0,C1 nI nS ((b++cI N i k).map I) nx bd hd],G⟩
 |0,i,b,h,_=>by
  have c:¬(i:Int)<(a:Int):=aj;rw[cI,bE];unfold C0 C1 sE;refine (bn (s1:=?J) (bg ?Z)).trans ?Y
  case Z=>simp[q8g,c];rfl
  case Y=>simp[keep,bj]
 | k+1,i,b,h,ha=>by
  have c:(i:Int)<(a:Int):=aj;have f:(0:Int)<=(i:Int):=aj;have g:(b.map I).length=b.length:=bh;have e:(b.length+1)*8<=maxBytes:=by have:=MB;omega
  have p:=wrS' i aj;have m:N/2^i<=N:=Nat.div_le_self _ _;have o:jI .i64 (kg .i64 (N:Int) (i:Int)) 1=((N/2^i%2:Nat):Int):=by rw[qX _ _ aj,show (1:Int)=((1:Nat):Int) from rfl,tP aj aj,Nat.and_one_is_mod]
  have d:=AY n hw k (i+1) (b++[((N/2^i%2:Nat):Int)]) aj (by simp;omega);rw[aT,bI (l₁:=b) (l₂:=[((N/2^i%2:Nat):Int)])] at d;unfold C0 C1 sE at d ⊢;refine ay (bg ?K) d
  case K=>
   generalize b.map I=X,N/2^i%2=q at *;simp[q8g,c];simp[f,g,o,e,p]
theorem AZ {a:Nat} (hw:a<=8):∀(k i:Nat) (b:fq),i+k=a->b.length<=1000+i->
  bm pg qd8 ⟨[(1,ec),(2,eK),(5,fc (pre.length+2) 0),(13,eU),(14,.mp g14),(15,.mp g15),(138,dz ST),(139,I l),(140,I j),(201,I (a:Int)),(202,I (i:Int))],[[m0,m1,m2,m3,m4],C0,C1 nI nS (b.map I) nx bd hd],G⟩=
   fg ⟨sE pre g14 g15 ST l j,[[m0,m1,m2,m3,m4],C0,C1 nI nS ((b++List.replicate k (-1)).map I) nx bd hd],G⟩
 |0,i,b,h,_=>by
  have c:¬(i:Int)<(a:Int):=aj;rw[List.replicate_zero,bE];unfold C0 C1 sE;refine (bn (s1:=?J) (bg ?Z)).trans ?Y
  case Z=>simp[q8h,c];rfl
  case Y=>simp[keep,bj]
 | k+1,i,b,h,ha=>by
  have c:(i:Int)<(a:Int):=aj;have f:(b.map I).length=b.length:=bh;have e:(b.length+1)*8<=maxBytes:=by have:=MB;omega
  have g:=wrS' i aj;have d:=AZ hw k (i+1) (b++[-1]) aj (by simp;omega);rw[aT,bI (l₁:=b) (l₂:=[-1])] at d;unfold C0 C1 sE at d ⊢;refine ay (bg ?K) d
  case K=>
   generalize b.map I=X at *;simp[q8h,c];simp[f,e,g]
theorem A0 {ini:fw} (a:j<=1000):bm pg q8j ⟨sE pre g14 g15 ST l j,[[m0,m1,m2,m3,m4],C0,C1 nI nS ini nx bd hd],G⟩=fg ⟨sE pre g14 g15 ST l ((j+1:Nat):Int),[[m0,m1,m2,m3,m4],C0,C1 nI nS ini nx bd hd],G⟩:=by unfold C0 C1 sE;exact bg (by simp[q8j,wrS' j aj])
theorem KE {L:List Nd} {s q:Int} {x:Nd} {d:Nat} {b:Bool} {acc:fq} (i:0<=s) (h:L[s.toNat]?=some x) (hw:x.w=(d:Int)) (f:d<=8) (ha:acc.length<=1000) :
  bm pg q8i ⟨[(1,ec),(2,eK),(5,fc (pre.length+2) 0),(13,eU),(14,.mp g14),(15,.mp g15),(21,I s),(22,I q),(138,dz ST),(139,I l),(140,I j),(163,.bool b)],[[LN L,m1,m2,m3,m4],C0,C1 nI nS (acc.map I) nx bd hd],G⟩=
   fg ⟨sE pre g14 g15 ST l j,[[LN L,m1,m2,m3,m4],C0,C1 nI nS ((acc++List.replicate d (-1)).map I) nx bd hd],G⟩:=by
 have g:=AZ (pre:=pre) (m0:=LN L) (m1:=m1) (m2:=m2) (m3:=m3) (m4:=m4) (nI:=nI) (nS:=nS) (G:=G) (g14:=g14) (g15:=g15) (l:=l) (j:=j) (ST:=ST) (nx:=nx) (bd:=bd) (hd:=hd) f d 0 acc aj aj;simp only[aR] at g;have e:(L.map nodeV)[s.toNat]?=some (.agg [I x.k,I x.w,I x.a,I x.b,I x.c,I x.n]):=by rw[aB,h];rfl
 rw[hw] at e;unfold C0 C1 at *;refine bg ?_;unfold LN at *;generalize L.map nodeV=o,(acc++List.replicate d (-1)).map I=m,acc.map I=X at *;simp[q8i,i,e,g]
end
end
section
variable {A i w W:Nat}
attribute [local congr] bu
attribute [local simp] au
theorem Oh (h:A<65536) (c:i<=61) (a:fB):ac pg 97 [I A,I i] a=some (I ((A/2^i%2:Nat):Int),a):=by
 have j:(2:Nat)^i≠0:=by have:=Nat.one_le_two_pow (n:=i);omega
 have f:A/2^i<=A:=Nat.div_le_self _ _;have b:Int.tmod (WI.wrap (Int.tdiv (A:Int) ((2^i:Nat):Int))) 2=((A/2^i%2:Nat):Int):=by have g:Int.tdiv (A:Int) ((2^i:Nat):Int)=((A/2^i:Nat):Int):=(Int.ofNat_tdiv _ _).symm;rw[g];generalize A/2^i=q at f;rw[aq aj aj];exact (Int.ofNat_tmod _ 2).symm
 have e:(((2^i:Nat):Int)≠0):=aj;refine ak (fn:=ql6) (s:=⟨[(4,I ((A/2^i%2:Nat):Int))],[],a⟩) rfl rfl (bg ?J) ?Z
 case J=>
  have d:=HG c a;rw[Int.tdiv_eq_ediv_of_nonneg (Int.natCast_nonneg A)] at b;generalize ((A/2^i%2:Nat):Int)=Q,((2^i:Nat):Int)=P at *;simp[qoi,ql6,d,e,b]
 case Z=>simp[ag,results,ql6,ah,am,af]
theorem ON (b:Bool) (a:fB):ac pg 68 [B b] a=some (I (if b then 1 else 0),a):=by
 cases b
 ·refine ak (fn:=qkg) (s:=?J) rfl rfl (bg ?Z) ?Y
  case Z=>simp[qmi,qkg];rfl
  case Y=>simp[ag,results,qkg,ah,am,af]
 ·refine ak (fn:=qkg) (s:=?K) rfl rfl (bg ?V) ?W
  case V=>simp[qmi,qkg];rfl
  case W=>simp[ag,results,qkg,ah,am,af]
theorem Sn (hw:1<=w/\w<=8) (a:A<2^w):A/2^(w-1)%2=if 2^(w-1)<=A then 1 else 0:=by rcases rk hw with rfl|rfl|rfl|rfl|rfl|rfl|rfl|rfl<;>simp at a ⊢ <;>split<;>omega
theorem OO (hw:1<=w/\w<=8) (e:A<2^w) (a:fB):ac pg 69 [I A,I w] a=some (I (iM A w),a):=by
 have k:=jf hw.2;have f:WI.wrap ((w:Int)-1)=((w-1:Nat):Int):=by rw[aq aj aj];omega
 have c:=HH hw e;have d:=Sn hw e;have j:WI.wrap ((A:Int)-((2^w:Nat):Int))=(A:Int)-((2^w:Nat):Int):=aq aj aj;by_cases h:2^(w-1)<=A
 ·rw[if_pos h] at c d
  refine ak (fn:=qkh) (s:=⟨[(4,I (iM A w))],[],a⟩) rfl rfl (bg ?J) ?Z
  case J=>
   have b:=Oh (A:=A) (i:=w-1) aj aj a;have g:=HG (show w<=61 by omega) a;rw[d] at b;rw[c];generalize ((2^w:Nat):Int)=P,((w-1:Nat):Int)=u at *;simp[qmj,qkh,f,b,g,j]
  case Z=>simp[ag,results,qkh,ah,am,af]
 ·rw[if_neg h] at c d
  refine ak (fn:=qkh) (s:=⟨[(4,I (iM A w))],[],a⟩) rfl rfl (bg ?Y) ?K
  case Y=>
   have b:=Oh (A:=A) (i:=w-1) aj aj a;rw[d] at b;rw[c];generalize ((w-1:Nat):Int)=u at *;simp[qmj,qkh,f,b]
  case K=>simp[ag,results,qkh,ah,am,af]
theorem So {B:Nat} (k j h g:Int) (s:Int) (v:A<65536) (t:B<65536) (q:i<w) (hw:w<=8) (f:fB) :
  evK pg ql3 fiK ⟨[(0,(.int .i64 A)),(1,(.int .i64 B)),(2,(.int .i64 w)),(7,(ec)),(9,(.int .i64 s)),(10,(.int .i64 i))],[[(.int .i64 k),(.int .i64 j),(.int .i64 h),(.int .i64 g)]],f⟩=fg ⟨[(0,I A),(1,I B),(2,I w),(7,ec),(9,I (WI.wrap (s+WI.wrap (tbl k j h g (A/2^i%2) (B/2^i%2)*((2^i:Nat):Int))))),(10,I ((i+1:Nat):Int))],[[I k,I j,I h,I g]],f⟩:=by
 have p:(i:Int)<(w:Int):=aj;have x:WI.wrap ((i:Int)+1)=((i+1:Nat):Int):=by rw[aq aj aj];omega
 have b:A/2^i%2=0\/A/2^i%2=1:=aj;have a:B/2^i%2=0\/B/2^i%2=1:=aj;have e:=Oh (i:=i) v aj f;have d:=Oh (i:=i) t aj f;have r:=HG (show i<=61 by omega) f;have o:WI.wrap 0=0:=bz;have n:WI.wrap 1=1:=bz;have m:WI.wrap 2=2:=bz;have l:WI.wrap 3=3:=bz;have c:i<w:=q;generalize ((2^i:Nat):Int)=P,((i+1:Nat):Int)=u at *;rcases b with b|b<;>rcases a with a|a<;>rw[b] at e<;>rw[a] at d<;>rw[b,a]<;>simp[ql3,c,x,e,d,r,tbl,o,n,m,l]
theorem P0 {A B w R:Nat} (d c b a:Int) (k:A<65536) (j:B<65536) (hw:w<=8) (g:∀i,tbl d c b a (A/2^i%2) (B/2^i%2)=((R/2^i%2:Nat):Int)) (f:fB) :
  ∀m i,i+m=w->bm pg qoe ⟨[(0,I A),(1,I B),(2,I w),(7,ec),(9,I ((R%2^i:Nat):Int)),(10,I i)],[[I d,I c,I b,I a]],f⟩=fg ⟨[(9,I ((R%2^w:Nat):Int))],[],f⟩
 |0,i,h=>by
  obtain rfl:i=w:=aj;refine (bn (s1:=?J) (bg ?Z)).trans ?Y
  case Z=>simp[ql3,Int.lt_irrefl,decide_false];rfl
  case Y=>rfl
 | m+1,i,h=>by
  refine ay (bg (So d c b a _ k j aj hw f)) ?K;have e:WI.wrap (((R%2^i:Nat):Int)+WI.wrap (tbl d c b a (A/2^i%2) (B/2^i%2)*((2^i:Nat):Int)))=((R%2^(i+1):Nat):Int):=by have o:=jf (show i<=8 by omega);have l:R%2^i<2^i:=Nat.mod_lt _ (by have:=Nat.one_le_two_pow (n:=i);omega);rw[g i,<-Int.natCast_mul,Nat.mod_pow_succ,Nat.mul_comm (R/2^i%2)];have p:2^i*(R/2^i%2)<=256*1:=Nat.mul_le_mul o aj;generalize R%2^i=x at l ⊢;generalize 2^i*(R/2^i%2)=y at p ⊢;generalize 2^i=q at o l;rw[aq (n:=(y:Int)) aj aj,aq aj aj];omega
  rw[e];exact P0 d c b a k j hw g f m (i+1) aj
theorem OP {B R:Nat} (f e d b:Int) (l:A<65536) (k:B<65536) (hw:w<=8) (j:∀i,tbl f e d b (A/2^i%2) (B/2^i%2)=((R/2^i%2:Nat):Int)) (a:fB) :
  ac pg 67 [I A,I B,I w,.agg [I f,I e,I d,I b]] a=some (I ((R%2^w:Nat):Int),a):=by
 have g:=P0 f e d b l k hw j a w 0 aj;rw[Nat.pow_zero,Nat.mod_one] at g;have h:=bg (c:=qmh) (s:=⟨[(9,(.int .i64 (((R%2^w:Nat):Int))))],[],a⟩) (r:=fo ⟨[(8,I ((R%2^w:Nat):Int))],[],a⟩) (pg:=pg) (by simp[qmh]<;>rfl);refine ak (fn:=ql4) (s:=⟨[(8,I ((R%2^w:Nat):Int))],[],a⟩) rfl rfl (bg ?J) ?Z
 case J=>
  simp only[aR] at g;generalize ((R%2^w:Nat):Int)=Q at *;simp[qof,ql4,g,h]
 case Z=>simp[ag,results,ql4,ah,am,af]
theorem Sp (A B i:Nat):tbl 0 0 0 1 (A/2^i%2) (B/2^i%2)=(((A &&&B)/2^i%2:Nat):Int):=by rw[<-Nat.toNat_testBit,<-Nat.toNat_testBit,<-Nat.toNat_testBit,Nat.testBit_and];cases A.testBit i<;>cases B.testBit i<;>rfl
theorem Sq (A B i:Nat):tbl 0 1 1 1 (A/2^i%2) (B/2^i%2)=(((A |||B)/2^i%2:Nat):Int):=by rw[<-Nat.toNat_testBit,<-Nat.toNat_testBit,<-Nat.toNat_testBit,Nat.testBit_or];cases A.testBit i<;>cases B.testBit i<;>rfl
theorem Sr (A B i:Nat):tbl 0 1 1 0 (A/2^i%2) (B/2^i%2)=(((A ^^^B)/2^i%2:Nat):Int):=by rw[<-Nat.toNat_testBit,<-Nat.toNat_testBit,<-Nat.toNat_testBit,Nat.testBit_xor];cases A.testBit i<;>cases B.testBit i<;>rfl
theorem Ss {B:Nat} (a:1<=W/\W<=8) (c:A<2^W) (b:B<2^W):Int.tmod (WI.wrap ((A:Int)+B)) ((2^W:Nat):Int)=WI.wrap ((A:Int)+B)%((2^W:Nat):Int):=by have d:=jf a.2;rw[aq aj aj,ud _ _ aj]
theorem Su {B:Nat} (a:1<=W/\W<=8) (c:A<2^W) (b:B<2^W):Int.tmod (WI.wrap ((A:Int)*B)) ((2^W:Nat):Int)=WI.wrap ((A:Int)*B)%((2^W:Nat):Int):=by have f:=jf a.2;have d:A*B<=256*256:=Nat.mul_le_mul aj aj;have e:(A:Int)*B=((A*B:Nat):Int):=bh;rw[e,aq aj aj,ud _ _ aj]
theorem Sv {B:Nat} (a:1<=W/\W<=8) (d:A<2^W):WI.wrap (Int.tdiv (A:Int) ((2^B:Nat):Int))=kg .i64 A B%((2^W:Nat):Int):=by have e:=jf a.2;have b:A/2^B<=A:=Nat.div_le_self _ _;have c:Int.tdiv (A:Int) ((2^B:Nat):Int)=((A/2^B:Nat):Int):=(Int.ofNat_tdiv _ _).symm;rw[qX _ _ aj,c];generalize A/2^B=q at b;rw[aq aj aj,ue aj aj]
theorem Sw {B:Nat} (c:A<2^W) (a:W<=8) (b:W<=B):kg .i64 A B%((2^W:Nat):Int)=0:=by have d:=jf a;rw[qX _ _ aj,Nat.div_eq_of_lt (aO c (bQ bz b))];simp
theorem Sx {N:Nat} (c:1<=W/\W<=8) (d:A<256):Int.tmod (WI.wrap (Int.tdiv (A:Int) ((2^N:Nat):Int))) ((2^W:Nat):Int)=kg .i64 A N%((2^W:Nat):Int):=by have a:A/2^N<=A:=Nat.div_le_self _ _;have b:Int.tdiv (A:Int) ((2^N:Nat):Int)=((A/2^N:Nat):Int):=(Int.ofNat_tdiv _ _).symm;rw[qX _ _ aj,b];generalize A/2^N=q at a;rw[aq aj aj,ud _ _ aj]
theorem Sy {a:Nat} (b:1<=W/\W<=8) (d:1<=a/\a<=W) (c:A<2^a):Int.tmod (WI.wrap (iM A a+((2^W:Nat):Int))) ((2^W:Nat):Int)=iM A a%((2^W:Nat):Int):=by have f:=jf b.2;have e:2^a<=2^W:=bQ bz d.2;rw[HH aj c];split<;>rw[aq aj aj,ud _ _ aj,Int.add_emod_right]
theorem OQ (a:Nat):(((2^a:Nat):Int)≠0):=by have:=Nat.one_le_two_pow (n:=a);omega
theorem SA {k:Int} {c A B C N e d v:Nat} {gh:fB} {s:Int} (O:4<=k/\k<24) (H:cn k=some s) (g:b9 s c N e d v=true) (j:1<=c/\c<=8) (y:1<=e/\e<=8) (F:1<ar k->1<=d/\d<=8)
  (o:A<2^e) (p:1<ar k->B<2^d) (E:2<ar k->C<2^v) :
  bm pg qjv ⟨[(0,I k),(1,I c),(2,I A),(3,I B),(4,I C),(5,I N),(6,.agg [I e,I d,I v])],[],gh⟩=fo ⟨[(14,I (cy k c A B C N e d))],[],gh⟩:=by
 rw[fA _ _ _ _ _ _ _ j.2];have f:=HG (show c<=61 by omega) gh;have t:=OQ c;have M:=jf j.2;have L:=jf y.2;refine bg ?_;have:k=4\/k=5\/k=6\/k=7\/k=8\/k=9\/k=10\/k=11\/k=12\/k=13\/k=14\/k=15\/k=16\/k=17\/k=18\/k=19\/k=20\/k=21\/k=22\/k=23:=aj;rcases this with rfl|rfl|rfl|rfl|rfl|rfl|rfl|rfl|rfl|rfl|rfl|rfl|rfl|rfl|rfl|rfl|rfl|rfl|rfl|rfl
 all_goals cases H
 all_goals simp[b9] at g
 ·obtain rfl:e=c:=aj
  rw[show dZ 4 (A:Int) B C N e d=mS .i64 A from rfl,<-HI j o];generalize ((2^e:Nat):Int)=P at *;simp[qjv,f]
 ·obtain rfl:e=c:=aj
  rw[show dZ 5 (A:Int) B C N e d=WI.wrap (0-(A:Int)) from rfl,<-HJ j o];generalize ((2^e:Nat):Int)=P at *;simp[qjv,f,t]
 ·obtain⟨-,l,q⟩:=g
  obtain rfl:e=c:=aj;obtain rfl:d=e:=aj;have p:=p bz;have i:=OP (w:=d) 0 0 0 1 aj aj j.2 (Sp A B) gh;rw[show dZ 6 (A:Int) B C N d d=jI .i64 A B from rfl,tP aj aj,<-Int.natCast_emod];generalize ((A &&&B)%2^d:Nat)=Q,((2^d:Nat):Int)=P at *;simp[qjv,f,i]
 ·obtain⟨-,l,q⟩:=g
  obtain rfl:e=c:=aj;obtain rfl:d=e:=aj;have p:=p bz;have i:=OP (w:=d) 0 1 1 1 aj aj j.2 (Sq A B) gh;rw[show dZ 7 (A:Int) B C N d d=iOr .i64 A B from rfl,tQ aj aj,<-Int.natCast_emod];generalize ((A |||B)%2^d:Nat)=Q,((2^d:Nat):Int)=P at *;simp[qjv,f,i]
 ·obtain⟨-,l,q⟩:=g
  obtain rfl:e=c:=aj;obtain rfl:d=e:=aj;have p:=p bz;have i:=OP (w:=d) 0 1 1 0 aj aj j.2 (Sr A B) gh;rw[show dZ 8 (A:Int) B C N d d=gz .i64 A B from rfl,Gw aj aj,<-Int.natCast_emod];generalize ((A ^^^B)%2^d:Nat)=Q,((2^d:Nat):Int)=P at *;simp[qjv,f,i]
 ·obtain⟨-,l,q⟩:=g
  obtain rfl:e=c:=aj;obtain rfl:d=e:=aj;rw[show dZ 9 (A:Int) B C N d d=WI.wrap ((A:Int)+B) from rfl,<-Ss j o (p bz)];generalize ((2^d:Nat):Int)=P at *;simp[qjv,f,t]
 ·obtain⟨-,l,q⟩:=g
  obtain rfl:e=c:=aj;obtain rfl:d=e:=aj;rw[show dZ 10 (A:Int) B C N d d=WI.wrap ((A:Int)-B) from rfl,<-HK j o (p bz)];generalize ((2^d:Nat):Int)=P at *;simp[qjv,f,t]
 ·obtain⟨-,l,q⟩:=g
  obtain rfl:e=c:=aj;obtain rfl:d=e:=aj;rw[show dZ 11 (A:Int) B C N d d=WI.wrap ((A:Int)*B) from rfl,<-Su j o (p bz)];generalize ((2^d:Nat):Int)=P at *;simp[qjv,f,t]
 ·obtain⟨-,l,q⟩:=g
  obtain rfl:e=c:=aj;obtain rfl:d=e:=aj;by_cases i:B=0
  ·subst i
   rw[show dZ 12 (A:Int) ((0:Nat):Int) C N d d= -1 from rfl,<-HL j];generalize ((2^d:Nat):Int)=P at *;simp[qjv,f]
  ·rw[show dZ 12 (A:Int) B C N d d=if (B:Int)=0 then -1 else WI.wrap (Int.tdiv A B) from rfl,if_neg aj,<-HM j o]
   generalize ((2^d:Nat):Int)=P at *;simp[qjv,f,i]
 ·obtain⟨-,l,q⟩:=g
  obtain rfl:e=c:=aj;obtain rfl:d=e:=aj;by_cases i:B=0
  ·subst i
   rw[show dZ 13 (A:Int) ((0:Nat):Int) C N d d=A from rfl,ue aj aj];generalize ((2^d:Nat):Int)=P at *;simp[qjv,f]
  ·rw[show dZ 13 (A:Int) B C N d d=if (B:Int)=0 then (A:Int) else Int.tmod A B from rfl,if_neg aj,<-HN o]
   generalize ((2^d:Nat):Int)=P at *;simp[qjv,f,i]
 ·obtain⟨-,l,q⟩:=g
  obtain rfl:e=c:=aj;obtain rfl:d=e:=aj;rw[show dZ 14 (A:Int) B C N d d=eR .i64 A B from rfl];by_cases i:d<=B
  ·rw[oI,GC j.2 i]
   generalize ((2^d:Nat):Int)=P at *;simp[qjv,f,i]
  ·have m:=HG (show B<=61 by omega) gh
   rw[<-HO j o aj];generalize ((2^d:Nat):Int)=P,((2^B:Nat):Int)=z at *;simp[qjv,f,m,t,i]
 ·obtain⟨-,l,q⟩:=g
  obtain rfl:e=c:=aj;obtain rfl:d=e:=aj;rw[show dZ 15 (A:Int) B C N d d=kg .i64 A B from rfl];by_cases i:d<=B
  ·rw[Sw o j.2 i]
   generalize ((2^d:Nat):Int)=P at *;simp[qjv,f,i]
  ·have m:=HG (show B<=61 by omega) gh
   have r:=OQ B;rw[<-Sv j o];generalize ((2^d:Nat):Int)=P,((2^B:Nat):Int)=z at *;simp[qjv,f,m,r,i]
 ·obtain⟨-,l,q⟩:=g
  obtain rfl:c=1:=aj;simp only[Int.natCast_one] at f ⊢;have n:=ON (decide ((A:Int)=B)) gh;rw[show dZ 16 (A:Int) B C N e d=if (A:Int)=B then 1 else 0 from rfl];by_cases h:A=B
  ·subst h
   simp at n;simp[qjv,f,n]
  ·have G:¬(A:Int)=B:=aj
   simp[G] at n;simp[qjv,f,n,G]
 ·obtain⟨-,l,q⟩:=g
  obtain rfl:c=1:=aj;simp only[Int.natCast_one] at f ⊢;have n:=ON (decide ((A:Int)<B)) gh;rw[show dZ 17 (A:Int) B C N e d=if (A:Int)<B then 1 else 0 from rfl];by_cases h:A<B
  ·simp[h] at n
   simp[qjv,f,n,h]
  ·simp[h] at n
   simp[qjv,f,n,h]
 ·obtain⟨-,l,q⟩:=g
  obtain rfl:c=1:=aj;simp only[Int.natCast_one] at f ⊢;have x:=OO y o gh;have D:=OO (F bz) (p bz) gh;have n:=ON (decide (iM A e<iM B d)) gh;rw[show dZ 18 (A:Int) B C N e d=if iM A e<iM B d then 1 else 0 from rfl];generalize iM A e=a,iM B d=b at *;by_cases h:a<b
  ·simp[h] at n
   simp[qjv,f,x,D,n,h]
  ·simp[h] at n
   simp[qjv,f,x,D,n,h]
 ·obtain⟨-,l,q,T⟩:=g
  obtain rfl:d=c:=aj;obtain rfl:v=d:=aj;have p:=p bz;have E:=E bz;rw[show dZ 19 (A:Int) B C N e v=if (A:Int)=1 then (B:Int) else C from rfl];by_cases h:(A:Int)=1
  ·rw[if_pos h,ue aj aj]
   generalize ((2^v:Nat):Int)=P at *;simp[qjv,f,h]
  ·rw[if_neg h,ue aj aj]
   generalize ((2^v:Nat):Int)=P at *;simp[qjv,f,h]
 ·obtain⟨-,l⟩:=g
  have S:=F bz;rw[aq aj aj] at l;obtain rfl:c=e+d:=aj;have m:=HG (show d<=61 by omega) gh;rw[show dZ 20 (A:Int) B C N e d=iOr .i64 (eR .i64 A d) B from rfl,<-HP o (p bz) j.2];generalize ((2^(e+d):Nat):Int)=P,((2^d:Nat):Int)=z,((e+d:Nat):Int)=u at *;simp[qjv,f,m]
 ·rw[aq aj aj] at g
  have m:=HG (show N<=61 by omega) gh;have r:=OQ N;rw[show dZ 21 (A:Int) B C N e d=kg .i64 A N from rfl,<-Sx j aj];generalize ((2^c:Nat):Int)=P,((2^N:Nat):Int)=z at *;simp[qjv,f,m,t,r]
 ·obtain⟨-,l⟩:=g
  have R:2^e<=2^c:=bQ bz aj;rw[show dZ 22 (A:Int) B C N e d=A from rfl,ue aj aj];generalize ((2^c:Nat):Int)=P at *;simp[qjv,f]
 ·obtain⟨-,l⟩:=g
  have x:=OO y o gh;rw[show dZ 23 (A:Int) B C N e d=iM A e from rfl,<-Sy j aj o];generalize iM A e=a,((2^c:Nat):Int)=P at *;simp[qjv,f,x,t]
end
section
variable {gh:fB}
theorem rZ {n:Int} (b: -9223372036854775808<=n) (a:n<=9223372036854775807):ac pg 260 [I n] gh=some (.str (bA (kp n)),gh):=by have:ac pg 260 [I n] gh=libItoa [I n] gh:=rfl;rw[this,libItoa,if_pos ⟨b,a⟩]
abbrev nA (l:fq):Prop:=∀n∈l,-9223372036854775808<=n/\n<=9223372036854775807
end
section
attribute [local congr] bu
attribute [local simp] au
abbrev LsI (a:ft):PV:= cr (a.map λl=>LI l)
abbrev jv (st:fq) (a:ft):PV:= .agg [LI st,LsI a]
theorem pw:ByteArray.empty=bA []:=rfl
section
variable {gh:fB}
end
end
end Go.Lw