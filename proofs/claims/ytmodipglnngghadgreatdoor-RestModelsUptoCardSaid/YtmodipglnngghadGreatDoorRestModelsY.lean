/-
  The texts that the proof stands on, part 25.
-/
import Derived.Test.YtmodipglnngghadGreatDoorRestModelsV
import Derived.Shelf.Strings.BuilderX
import Derived.Shelf.RegionOpenPlain
import Derived.Lib.Builder
import Derived.Lib.AppendStr
import Derived.Lib.UnsafeStr
set_option linter.unusedVariables false
set_option linter.unusedSimpArgs false
set_option linter.unnecessarySimpa false

set_option maxRecDepth 100000
set_option maxHeartbeats 4000000
namespace Go.Lw
open Go
section
open Go.Sort Go.Shelf Go.Proofs Go.RowKit
variable {b j k n:Nat} {F:FuncId}
section
variable {P:Program} {w:World}
theorem Nz {t u ty e:TypeId} {i:TypeInfo} (o:P.underlying t=some (.slice e)) (m:P.underlying u=some .string) (p:P.info? e=some i) (q:i.zero=some (.int .u8 0)) (a:i.size=1) (d:i.bytes=1)
  {v:Value} {n:Nat} {l:gA} (b:w.ownsRow 0 e 1 v n l) (s:ByteArray) (G:s.size≠0) (D:n+s.size<=140737488355328) :
  ∃j k,(Builtin.append_ #[t,u] ty #[v,.string s]).run P w= .ok j k/\k.ownsRow 0 e 1 j (n+s.size) (l++Lib.strCells s)/\w.grownBy k v.ownBlock/\(j.ownBlock=v.ownBlock\/j.ownBlock=some w.heap.size):=by
 have x:n+s.size<=maxLen:=by unfold maxLen;omega
 obtain⟨j,k,f,F,E,-⟩:=Lib.run_append_own_string (P:=P) w 0 t u ty e i o m p q a d v n l b s x D (Nat.zero_le _);refine⟨j,k,f,F,E,?_⟩;rcases b.2 with ⟨rfl,rfl⟩|⟨g,h,y,rfl,_,A,z,C,B,r⟩
 ·have hr:=run_append_nil_string (P:=P) w t u ty e i (.int .u8 0) o m p q s aj aj (by rw[d];omega)
  rw[hr] at f;cases f;exact .inr rfl
 ·by_cases c:n+s.size<=h
  ·have hr:=Lib.run_append_room_string (P:=P) w t u ty e i o m p a g n h y A s c aj
   rw[hr] at f;cases f;exact .inl rfl
  ·have hr:=Lib.run_append_grow_string (P:=P) w t u ty e i (.int .u8 0) o m p q ⟨g,0,none⟩ n h l (by rw[a];exact b.1) (b.cells (g:=g) rfl) s aj aj (by rw[d];exact growslice_fits aj aj)
   rw[hr] at f;cases f;exact .inr rfl
theorem NA {g:Array Oper} {rest:List Oper} {o:Oper} {a:Act} {Q:Exit->Act->World->Prop} (l:o.guard=none) (q x:Operand) (t u:TypeId)
  (C:o.op= .call {callee:= .builtin .append,args:= #[q,x],argTypes:= #[t,u] })
  {e:TypeId} {i:TypeInfo} (A:P.underlying t=some (.slice e)) (z:P.underlying u=some .string) (D:P.info? e=some i) (r:i.zero=some (.int .u8 0)) (c:i.size=1) (m:i.bytes=1)
  (v:Value) (n:Nat) (p:gA) (B:a.eval q=v) (j:w.ownsRow 0 e 1 v n p) (s:ByteArray) (y:a.eval x= .string s) (k:s.size≠0) (E:n+s.size<=140737488355328)
  (h:∀d f,f.ownsRow 0 e 1 d (n+s.size) (p++Lib.strCells s)->w.grownBy f v.ownBlock->(d.ownBlock=v.ownBlock\/d.ownBlock=some w.heap.size)->wpList P g Q rest (a.put o.dst d) f):wpList P g Q (o::rest) a w:=by
 refine wpList_plain l λb F=>?_
 obtain⟨d,f,hr,I,H,G⟩:=Nz (P:=P) (w:=w) (ty:=o.type) A z D r c m j s k E;unfold Oper.wp execOp;simp only[C,resolve,invoke,builtin,Sem.run_bind,Sem.run_pure,Result.andThen_ok,List.map_toArray,bS,bU,B,y,hr];exact F _ _ (h d f I H G)
end
structure Rest (w W:World) (b:Nat) (og:Option Nat):Prop where
 os:W.os=w.os
 tape:W.tape=w.tape
 output:W.output=w.output
 size:w.heap.size<=W.heap.size
 block:∀k,k<w.heap.size->k≠b->some k≠og->W.heap[k]?=w.heap[k]?
theorem mm {w:World} {o:Obj} (h:w.heap[b]?=some o):b<w.heap.size:=(Array.getElem?_eq_some_iff.1 h).1
theorem N0 {w:World} {x:Value} (h:k≠b):(w.setCell ⟨b,j,none⟩ x).heap[k]?=w.heap[k]?:=by simp[World.setCell,Array.getElem?_modify,Ne.symm h]
def C9 (w:World) (T c:TypeId) (b n:Nat) (p v:Value) (a:gA):Prop:=
 w.heap[b]?=some (.cells #[p,v] T (0,0))/\(p= .pointer none\/p= .pointer (some ⟨b,0,none⟩))/\w.ownsRow 0 c 1 v n a
def Da (w c:World) (T e:TypeId) (b n:Nat) (v:Value) (d:gA):Prop:=
 ∃a,c.heap[b]?=some (.cells #[.pointer (some ⟨b,0,none⟩),a] T (0,0))/\c.ownsRow 0 e 1 a n d/\(a.ownBlock=v.ownBlock\/∃g,a.ownBlock=some g/\w.heap.size<=g)/\Rest w c b v.ownBlock
def Db (P:Program) (F:FuncId) (c:TypeId) (f:List TypeId):Prop:=
 ∀T∈f,∀(b n:Nat) (p v:Value) (a:gA) (s:ByteArray) (w:World),C9 w T c b n p v a->s.size≠0->n+s.size<=140737488355328->
  Calls P F #[.pointer (some ⟨b,0,none⟩),.string s] w λe d=>e= .returned (.tuple #[.int .i64 s.size,.nilIface])/\Da w d T c b (n+s.size) v (a++Lib.strCells s)
def Dc (P:Program) (F:FuncId) (d:TypeId) (g:List TypeId):Prop:=
 ∀T∈g,∀(b n:Nat) (p v:Value) (a:gA) (c:Int) (w:World),C9 w T d b n p v a->n+1<=140737488355328->
  Calls P F #[.pointer (some ⟨b,0,none⟩),.int .u8 c] w λe f=>e= .returned .nilIface/\Da w f T d b (n+1) v (a++[.int .u8 c])
def Dd (P:Program) (F:FuncId) (f:TypeId):Prop:=
 (∀(T:TypeId) (b:Nat) (p:Value) (w:World),w.heap[b]?=some (.cells #[p,.slice none 0 0] T (0,0))->Calls P F #[.pointer (some ⟨b,0,none⟩)] w λe d=>e= .returned (.string .empty)/\d=w.drew)/\
 ∀(T:TypeId) (b g a:Nat) (p:Value) (l:List UInt8) (c:Array Value) (w:World),w.heap[b]?=some (.cells #[p,.slice (some ⟨g,0,none⟩) l.length a] T (0,0))->w.heap[g]?=some (.cells c f (0,0))->l≠[]->l.length<=a->a<=maxLen->c.size=a->
  (∀j x,l[j]?=some x->w.cell? ((⟨g,0,none⟩:Addr).add j)=some (.int .u8 x.toNat))->
  Calls P F #[.pointer (some ⟨b,0,none⟩)] w λe d=>e= .returned (.string ⟨l.toArray⟩)/\d=w.drew.freeze ⟨g,0,none⟩ l.length
section
variable {fi:FI} {P:Program} {ρ:Ren} {M:Mem} {w W:World} {gh:fB}
theorem NB (s:ByteArray):i7 s=Lib.strCells s:=rfl
theorem De (s t:ByteArray):i7 (s++t)=i7 s++Lib.strCells t:=by
 unfold i7 Lib.strCells;rw[<-bI]
 congr 1
 first
  |done
  |(show ((s++t).data).toList=_;rw[ByteArray.data_append];simp)
theorem Df (s t:ByteArray):(s++t).size=s.size+t.size:=ByteArray.size_append
theorem GI.rebld (d:GI fi M w gh) (B:M.lb=[]) {b c:Nat} {t t':ByteArray} (E:gh[b]?=some (.bld t)) (m:M.gb[b]?=some c) {N:Option Nat} (n:Rest w W c N)
  (f:∀g,N=some g->M.own g=some (Loc.gh b 0)/\g∉M.gb/\∀k,¬M.imm g k) {g r:Nat} {u:Array Value} {T:TypeId} (hT:T∈fi.bT)
  (hW:W.heap[c]?=some (.cells #[.pointer (some ⟨c,0,none⟩),.slice (some ⟨g,0,none⟩) t'.size r] T (0,0))) (hg:N=some g\/w.heap.size<=g) (F:W.heap[g]?=some (.cells u fi.u8 (0,0)))
  (h0:t'.size≠0) (S:t'.size<=r) (h2:r<=maxLen) (h3:u.size=r) (h4:u.toList.take t'.size=i7 t') :
  ∃x,GI fi x W (gh.set b (.bld t'))/\Kp M w x W/\x.lb=[]:=by
 have R:b<gh.length:=(aD.1 E).1;obtain⟨o1,O,X,-⟩:RepBld fi M w b c t:=d.gh b _ _ E m;have y:w.heap.size<=g->M.own g=none/\g∉M.gb/\∀k,¬M.imm g k:=λh=>by
  refine⟨?_,λhm=>absurd (d.gblt g hm) aj,λk L=>absurd (d.immlt g k L) aj⟩;cases I:M.own g with
  |none=>rfl
  |some l=>exact absurd (d.ownlt g l I) aj
 have D:g∉M.gb/\∀k,¬M.imm g k:=by
  rcases hg with h|h
  ·exact (f g h).2
  ·exact (y h).2
 have C:M.own g=some (Loc.gh b 0)\/M.own g=none/\w.heap.size<=g:=by
  rcases hg with h|h
  ·exact .inl (f g h).1
  ·exact .inr ⟨(y h).1,h⟩
 let x:Mem:={M with own:=λk=>if k=g then some (Loc.gh b 0) else M.own k }
 have A:∀k l,M.own k=some l->x.own k=some l:=λk l h=>by
  show (if k=g then some (Loc.gh b 0) else M.own k)=some l
  by_cases e:k=g
  ·subst e
   rw[if_pos rfl];rcases C with z|⟨z,_⟩
   ·rw[z] at h;exact h
   ·rw[z] at h;cases h
  ·rw[if_neg e];exact h
 have own0:∀k,k<w.heap.size->M.own k=none->x.own k=none:=λk L h=>by
  show (if k=g then some (Loc.gh b 0) else M.own k)=none
  rw[if_neg (λe=>?_)]
  ·exact h
  ·subst e
   rcases C with z|⟨_,z⟩
   ·rw[z] at h;cases h
   ·omega
 have U:Good M w x W (λl=>l=Loc.gh b 0) (λk=>k=c):=by
  refine⟨⟨λ_ _ h=>h,λ_ _ h=>h,λa k h=>?_,λ_ _=>⟨cW _,λ_=>rfl⟩,λa k h=>m8 (n.block a (d.immlt a k h) (λe=>O k (by rw[<-e];exact h)) (λe=>(f a e.symm).2.2 k h))⟩,n.size,λ_ _ h=>h,λa l h hl=>?_,λa hb hx h=>?_,λ_ _=>rfl⟩
  ·refine pM (n.block a (d.immlt a k h) (λe=>O k (by rw[<-e];exact h)) (λe=>(f a e.symm).2.2 k h))
  ·refine⟨A _ _ h,n.block a (d.ownlt a l h) (λe=>?_) (λe=>?_),λ_ h=>h,id,id⟩
   ·rw[e,X] at h;cases h
   ·have:=(f a e.symm).1;rw[this] at h;cases h;exact hl rfl
  ·refine⟨n.block a hb hx (λe=>?_),λ_ h=>h,own0 a hb h⟩
   have:=(f a e.symm).1;rw[this] at h;cases h
 have k:Kp M w x W:=by
  refine⟨n.os,n.tape,n.output,n.size,U.ext,λi hi hl Q I=>n.block i hi (λe=>Q ?_) (λe=>?_),λ_ h=> .inl h,λ_ h=> .inl h,λk L h=>own0 k L h,λ_ _ h=> .inl h,.same rfl⟩
  ·rw[e];exact aL m
  ·have:=(f i e.symm).1;rw[this] at I;cases I
 refine⟨x,⟨λt v h=>by simp[get] at h,d.defers,d.lbl,by simpa using d.gbl,d.nodup,λi cs c h=>by simp at h,λi o H p G=>?_,U.ext.gl d.gl,λa j h=>aO (d.immlt a j h) n.size,λa l h=>?_,λa h=>aO (d.gblt a h) n.size⟩,k,B⟩
 ·simp only at p
  rw[cM] at p;by_cases s:b=i
  ·subst s
   rw[if_pos rfl,if_pos R] at p;cases p;have eb:H=c:=by have:M.gb[b]?=some H:=G;rw[m] at this;exact (cZ this).symm
   subst eb;refine⟨aO o1 n.size,O,own0 _ o1 X,T,hT,.inr ⟨g,r,u,hW,?_,by show g∉M.lb;rw[B];simp,D.1,D.2,F,h0,S,h2,h3,h4⟩⟩
   show (if g=g then some (Loc.gh b 0) else M.own g)=_
   rw[if_pos rfl]
  ·rw[if_neg s] at p
   have q:M.gb[i]?=some H:=G;refine (d.gh i o H p q).good U (λe=>?_) (λj h=>by injection h with S h2;exact s S.symm);have P:M.gb.Nodup:=(cT.1 d.nodup).2.1;have e':H=c:=e;rw[e'] at q;exact s (lG P m q)
 ·have:(if a=g then some (Loc.gh b 0) else M.own a)=some l:=h
  by_cases e:a=g
  ·subst e
   exact mm F
  ·rw[if_neg e] at this
   exact aO (d.ownlt a l this) n.size
theorem Dg {a:Nat} {t:ByteArray} (h:RepBld fi M w b a t):∃T∈fi.bT,∃p v,w.heap[a]?=some (.cells #[p,v] T (0,0))/\(p= .pointer none\/p= .pointer (some ⟨a,0,none⟩))/\w.ownsRow 0 fi.u8 1 v t.size (i7 t)/\
  (∀g,v.ownBlock=some g->M.own g=some (Loc.gh b 0)/\g∉M.gb/\∀k,¬M.imm g k):=by
 obtain⟨_,_,_,T,n,d⟩:=h;rcases d with ⟨rfl,d⟩|⟨g,m,l,s,r,y,q,o,j,x,i,f,u,e⟩
 ·exact⟨T,n,_,_,d,.inl rfl,⟨rfl,.inl ⟨rfl,rfl⟩⟩,λg c=>by simp[Value.ownBlock] at c⟩
 ·refine⟨T,n,_,_,s,.inr rfl,⟨by rw[NB,Lib.strCells_length,Nat.mul_one],.inr ⟨g,m,l,rfl,Nat.zero_le _,j,i,f,aj,by rw[Nat.mul_one];exact e⟩⟩,λz c=>?_⟩
  simp only[Value.ownBlock,bW] at c;subst c;exact⟨r,q,o⟩
theorem NC (hF:Db P F fi.u8 fi.bT) (L:fw) (U:fB) (r:PV) (q:fB) (h:libWS L U=some (r,q)):eG P fi F L U r q:=by
 intro M w i S D Q m d;unfold libWS at h;split at h
 ·rename_i b s
  split at h
  case h_2=>cases h
  rename_i t o;split at h
  case isFalse=>cases h
  rename_i u;cases h;obtain⟨O,N,rfl⟩:∃O N,i=[O,N]:=by
   match i,m with
   |[a,b],_=>exact⟨a,b,rfl⟩
  have y:=d 0 _ _ rfl rfl;have x:=d 1 _ _ rfl rfl;cases x;cases y with
  |ptr _ _ I f=>
  have A:RepBld fi M w b I t:=S.gh b _ _ o f;obtain⟨T,R,p,v,hb,X,l,B⟩:=Dg A;refine (hF T R _ _ p v _ s w ⟨hb,X,l⟩ u.1 u.2).mono ?_;rintro e w' ⟨rfl,v',G,j,z,hR⟩;rcases j.2 with ⟨_,h0⟩|⟨g,ad,ab,rfl,_,hg,C,E,aa,k⟩
  ·have:=u.1;omega
  have c:=Df t s;obtain⟨M',H,hK,n⟩:=GI.rebld (t':=t++s) S D o f hR B R (by rw[c];exact G) (by
   rcases z with e|e
   ·exact .inl e.symm
   ·obtain⟨g',e,h⟩:=e;simp only[Value.ownBlock,bW] at e;exact .inr aj) hg (by rw[c];have:=u.1;omega) (by rw[c];exact C) E aj (by
   rw[c,De];rw[Nat.mul_one] at k;exact k)
  exact⟨_,M',rfl,H,n,rfl,su (.int _ _) .nilI,hK⟩
 ·cases h
theorem Dh {g:Nat} (h:k≠g):(w.freeze ⟨g,0,none⟩ n).heap[k]?=w.heap[k]?:=by
 unfold World.freeze;split
 ·rfl
 ·simp[Array.getElem?_modify,Ne.symm h]
theorem ND {g:Nat}:(w.freeze ⟨g,0,none⟩ n).cell? ⟨k,j,none⟩=w.cell? ⟨k,j,none⟩:=by
 by_cases h:k=g
 ·subst h
  unfold World.freeze;split
  ·rfl
  ·simp only[World.cell?,Array.getElem?_modify,if_true]
   cases w.heap[k]? with
   |none=>rfl
   |some o=>cases o<;>rfl
 ·exact pM (Dh h)
theorem NE {g:Nat}:(w.freeze ⟨g,0,none⟩ n).heap.size=w.heap.size:=by
 unfold World.freeze;split
 ·rfl
 ·simp
theorem NF {a:Addr}:(w.freeze a n).os=w.os/\(w.freeze a n).tape=w.tape/\(w.freeze a n).output=w.output:=by unfold World.freeze;split<;>exact⟨rfl,rfl,rfl⟩
theorem NG (hF:Dd P F fi.u8) (vs:fw) (gh:fB) (r:PV) (ax:fB) (h:libBS vs gh=some (r,ax)):eG P fi F vs gh r ax:=by
 intro M w aM n al aL ad X;unfold libBS at h;split at h
 ·rename_i b
  split at h
  case h_2=>cases h
  rename_i t an;cases h;obtain⟨v0,rfl⟩:=List.length_eq_one_iff.1 ad;have aI:=X 0 _ _ rfl rfl;cases aI with
  |ptr _ _ f m=>
  have av:b<gh.length:=(aD.1 an).1;have aJ:RepBld fi M w b f t:=n.gh b _ _ an m;obtain⟨o1,o2,o3,T,hT,h4⟩:=aJ;have aa:M.gb.Nodup:=(cT.1 n.nodup).2.1;rcases h4 with ⟨rfl,h4⟩|⟨g,aC,aA,q5,S,q7,q8,q9,O,N,U,aH,aG,aF⟩
  ·refine (hF.1 _ _ _ _ h4).mono ?_
   rintro e w' ⟨rfl,rfl⟩
   have R:Good M w M w.drew (λ_=>False) (λk=>k=f):=
    ⟨⟨λ_ _ h=>h,λ_ _ h=>h,λ_ _ _=>rfl,λ_ _=>⟨cW _,λ_=>rfl⟩,λ_ _ _=>rfl⟩,cW _,λ_ _ h=>h,λq l h _=>⟨h,rfl,λ_ h=>h,id,id⟩,λq hb _ h=>⟨rfl,λ_ h=>h,h⟩,λ_ _=>rfl⟩
   have k:Kp M w M w.drew:=⟨rfl,rfl,rfl,cW _,R.ext,λ_ _ _ _ _=>rfl,λ_ h=> .inl h,λ_ h=> .inl h,λ_ _ h=>h,λ_ _ h=> .inl h,.same rfl⟩
   refine⟨_,M,rfl,⟨λt v h=>by simp[get] at h,n.defers,n.lbl,by simpa using n.gbl,n.nodup,λi cs f h=>by simp at h,λi o bk a A=>?_,R.ext.gl n.gl,n.immlt,n.ownlt,n.gblt⟩,al,rfl,(RepP.str _).repE.repAt,k⟩;simp only at a;rw[cM] at a;by_cases y:b=i
   ·subst y
    rw[if_pos rfl,if_pos av] at a;cases a;rw[m] at A;cases A;refine⟨o1,o2,o3,λc d=>by
     rcases List.mem_cons.1 d with rfl|d
     ·rfl
     ·rw[List.mem_singleton] at d;subst d;rfl,[.pointer none,.slice none 0 0],T,h4,rfl,λi c u d B=>?_⟩
    match i,d,B with
    |0,d,B=>cases d;cases B;exact (RepP.nilp).repC
    |1,d,B=>cases d;cases B;exact (show RepP fi M w.drew (cr []) (.slice none 0 0) from .sl 1 [] none 0 0 0 (λ_=>undef) (.inl rfl) bh bh bh bh bh).repC
   ·rw[if_neg y] at a
    exact (n.gh i o bk a A).good R (λe=>by subst e;exact y (lG aa m A)) (λj h=>h)
  ·have D:∀j x,t.data.toList[j]?=some x->w.cell? ((⟨g,0,none⟩:Addr).add j)=some (.int .u8 x.toNat):=λj x I=>by
    have hj:j<t.size:=by have:=(aD.1 I).1;rw[Array.length_toList] at this;exact this
    have e1:aA.toList[j]?=some (.int .u8 x.toNat):=by
     have:(aA.toList.take t.size)[j]?=some (.int .u8 x.toNat):=by rw[aF];unfold i7;rw[aB,I];rfl
     rw[cL,if_pos hj] at this;exact this
    rw[Addr.add_lit];simp only[World.cell?,O,cX];simpa using e1
   have C:t.data.toList.length=t.size:=Array.length_toList;refine (hF.2 _ _ _ _ _ t.data.toList _ _ (by rw[C];exact q5) O (λe=>N (by rw[<-C,e];rfl)) (by rw[C];exact U) aH aG D).mono ?_;rintro e w' ⟨rfl,rfl⟩;rw[C];generalize hW:w.drew.freeze ⟨g,0,none⟩ t.size=W;have s:∀k,k≠g->W.heap[k]?=w.heap[k]?:=λk Q=>by rw[<-hW,Dh Q];rfl
   have ap:∀k j,W.cell? ⟨k,j,none⟩=w.cell? ⟨k,j,none⟩:=λk j=>by rw[<-hW,ND];rfl
   have G:W.heap.size=w.heap.size:=by rw[<-hW,NE];rfl
   obtain⟨f1,f2,f3⟩:W.os=w.os/\W.tape=w.tape/\W.output=w.output:=by rw[<-hW];exact NF
   have aK:g<w.heap.size:=mm O;have ao:g≠f:=λe=>by rw[e,o3] at S;cases S
   let M':Mem:={M with imm:=λk j=>M.imm k j\/k=g }
   have R:Good M w M' W (λl=>l=Loc.gh b 0) (λk=>k=f):=by
    refine⟨⟨λ_ _ h=>h,λ_ _ h=> .inl h,λq k h=>ap q k,λ_ _=>⟨cW _,λ_=>rfl⟩,λq k h=>m8 (s q (λe=>q9 k (by rw[<-e];exact h)))⟩,aj,λ_ _ h=>h,λq l h hl=>?_,λq hb I h=>?_,λ_ _=>rfl⟩
    ·have E:q≠g:=λe=>by rw[e,S] at h;cases h;exact hl rfl
     exact⟨h,s q E,λk Q=>λe=>e.elim Q E,id,id⟩
    ·have E:q≠g:=λe=>by rw[e,S] at h;cases h
     exact⟨s q E,λk Q=>λe=>e.elim Q E,h⟩
   have k:Kp M w M' W:=by
    refine⟨f1,f2,f3,aj,R.ext,λi hi _ _ ho=>s i (λe=>by rw[e,S] at ho;cases ho),λ_ h=> .inl h,λ_ h=> .inl h,λ_ _ h=>h,λq kk h=>?_,.same rfl⟩;rcases h with h|rfl
    ·exact .inl h
    ·exact .inr (.inr (by rw[S];simp))
   refine⟨_,M',rfl,⟨λt v h=>by simp[get] at h,n.defers,n.lbl,by simpa using n.gbl,n.nodup,λi cs f h=>by simp at h,λi o bk a A=>?_,R.ext.gl n.gl,λq j h=>?_,λq l h=>by rw[G];exact n.ownlt q l h,λq h=>by rw[G];exact n.gblt q h⟩,al,rfl,(RepP.str _).repE.repAt,k⟩
   ·simp only at a
    rw[cM] at a;have z:M.gb[i]?=some bk:=A;by_cases y:b=i
    ·subst y
     rw[if_pos rfl,if_pos av] at a;cases a;rw[m] at z;cases z;refine⟨by rw[G];exact o1,λkk Q=>Q.elim (o2 kk) (λe=>ao e.symm),o3,λc d=>by
      rw[if_neg N] at d;rcases List.mem_cons.1 d with rfl|d
      ·rfl
      ·rw[List.mem_singleton] at d;subst d;rfl,[.pointer (some ⟨f,0,none⟩),.slice (some ⟨g,0,none⟩) t.size aC],T,by rw[s f ao.symm];exact q5,rfl,λi c u d B=>?_⟩
     rw[if_neg N] at d
     match i,d,B with
     |0,d,B=>cases d;cases B;exact (show RepP fi M' W (fc b 0) (.pointer (some ⟨f,0,none⟩)) from .ptr b 0 f m).repC
     | 1,d,B=>
      cases d;cases B;have ab:(t.data.toList.map λc=>PV.int .u8 c.toNat).length=t.size:=by rw[aW,C]
      rw[<-ab];refine (RepP.sl 1 _ _ aC g 0 (λi=>((i7 t)[i]?).getD undef) (.inr rfl) (by rw[ab];exact U) ?_ ?_ ?_ ?_).repC
      ·intro e H;obtain⟨x,_,rfl⟩:=List.mem_map.1 H;rfl
      ·intro e H;obtain⟨x,_,rfl⟩:=List.mem_map.1 H;rfl
      ·intro i e j p H L
       rw[aB,aE] at H;obtain⟨x,I,rfl⟩:=H;obtain rfl:j=0:=by
        match j,L with
        |0,_=>rfl
        |j+1,L=>cases L
       refine⟨.inr rfl,?_⟩;rw[ap,Nat.mul_one,cG,cX];have:=D i x I;rw[Addr.add_lit,cX] at this;rw[this];unfold i7;rw[aB,I];rfl
      ·intro i e j p H L
       rw[aB,aE] at H;obtain⟨x,I,rfl⟩:=H;obtain rfl:j=0:=by
        match j,L with
        |0,_=>rfl
        |j+1,L=>cases L
       cases L;rw[Nat.mul_one,cG];unfold i7;rw[aB,I];exact .int _ _
    ·rw[if_neg y] at a
     exact (n.gh i o bk a z).good R (λe=>by subst e;exact y (lG aa m z)) (λj h=>by injection h with h1 h2;exact y h1.symm)
   ·rw[G]
    rcases h with h|rfl
    ·exact n.immlt q j h
    ·exact aK
 ·cases h
end
end
section
open Go.Sort Go.Shelf Go.Proofs Go.RowKit
section
variable {P:Program} {w:World}
theorem NH {t ty e:TypeId} {i:TypeInfo} (y:P.underlying t=some (.slice e)) (z:P.info? e=some i) (A:i.zero=some (.int .u8 0)) (b:i.size=1) (o:i.bytes=1)
  {v:Value} {n:Nat} {x:gA} (f:w.ownsRow 0 e 1 v n x) (r:Addr) (m c:Nat) (a:gA) (O:a.length=m) (d:∀j u,a[j]?=some u->w.cell? (r.add j)=some u) (E:∀u∈a,u.oneCell'=true) (I:0<m)
  (Q:n+m<=140737488355328) :
  ∃q s,(Builtin.append_ #[t,t] ty #[v,.slice (some r) m c]).run P w= .ok q s/\s.ownsRow 0 e 1 q (n+m) (x++a)/\w.grownBy s v.ownBlock/\(q.ownBlock=v.ownBlock\/q.ownBlock=some w.heap.size):=by
 have C:n+m<=maxLen:=by unfold maxLen;omega
 have l:a.length=m*i.size:=by rw[b];omega
 obtain⟨q,s,h,G,F,-⟩:=run_append_own (P:=P) w 0 t ty e i (.int .u8 0) 1 1 y z A b o rfl bz v n x f r m c a aj d E C aj (Nat.zero_le _);refine⟨q,s,h,G,F,?_⟩;rcases f.2 with ⟨rfl,rfl⟩|⟨g,p,D,rfl,_,L,H,N,M,B⟩
 ·have hr:=run_append_nil (P:=P) w t ty e i (.int .u8 0) y z A r m c a l d I aj (by rw[o];omega)
  rw[hr] at h;cases h;exact .inr rfl
 ·by_cases k:n+m<=p
  ·have hr:=run_append_room (P:=P) w t ty e i y z g n p D L r m c a l d E k (by rw[b];omega)
   rw[hr] at h;cases h;exact .inl rfl
  ·have hr:=run_append_grow (P:=P) w t ty e i (.int .u8 0) y z A ⟨g,0,none⟩ n p x (by rw[b];exact f.1) (f.cells (g:=g) rfl) r m c a l d aj aj (by rw[o];exact growslice_fits aj aj)
   rw[hr] at h;cases h;exact .inr rfl
theorem NI {p:Array Oper} {rest:List Oper} {o:Oper} {a:Act} {Q:Exit->Act->World->Prop} (r:o.guard=none) (A x:Operand) (t:TypeId)
  (F:o.op= .call {callee:= .builtin .append,args:= #[A,x],argTypes:= #[t,t] })
  {e:TypeId} {i:TypeInfo} (D:P.underlying t=some (.slice e)) (I:P.info? e=some i) (B:i.zero=some (.int .u8 0)) (f:i.size=1) (s:i.bytes=1)
  (v:Value) (n:Nat) (z:gA) (E:a.eval A=v) (q:w.ownsRow 0 e 1 v n z) (y:Addr) (m c:Nat) (d:gA) (C:a.eval x= .slice (some y) m c) (H:d.length=m) (g:∀j u,d[j]?=some u->w.cell? (y.add j)=some u)
  (S:∀u∈d,u.oneCell'=true) (G:0<m) (L:n+m<=140737488355328)
  (h:∀k l,l.ownsRow 0 e 1 k (n+m) (z++d)->w.grownBy l v.ownBlock->(k.ownBlock=v.ownBlock\/k.ownBlock=some w.heap.size)->wpList P p Q rest (a.put o.dst k) l):wpList P p Q (o::rest) a w:=by
 refine wpList_plain r λb M=>?_
 obtain⟨k,l,hr,R,O,N⟩:=NH (P:=P) (w:=w) (ty:=o.type) D I B f s q y m c d H g S G L;unfold Oper.wp execOp;simp only[F,resolve,invoke,builtin,Sem.run_bind,Sem.run_pure,Result.andThen_ok,List.map_toArray,bS,bU,E,C,hr];exact M _ _ (h k l R O N)
end
section
variable {fi:FI} {P:Program} {ρ:Ren} {M:Mem} {w W:World} {gh:fB}
theorem NJ {F:FuncId} (hF:Dc P F fi.u8 fi.bT) (N:fw) (X:fB) (r:PV) (u:fB) (h:libWB N X=some (r,u)):eG P fi F N X r u:=by
 intro M w j U E R o f;unfold libWB at h;split at h
 ·rename_i b c
  split at h
  case h_2=>cases h
  rename_i t s;split at h
  case isFalse=>cases h
  rename_i x;cases h;obtain⟨Q,O,rfl⟩:∃Q O,j=[Q,O]:=by
   match j,o with
   |[a,b],_=>exact⟨a,b,rfl⟩
  have z:=f 0 _ _ rfl rfl;have y:=f 1 _ _ rfl rfl;cases y;cases z with
  |ptr _ _ L i=>
  have B:RepBld fi M w b L t:=U.gh b _ _ s i;obtain⟨T,S,p,v,hb,hp,n,C⟩:=Dg B;refine (hF T S _ _ p v _ c w ⟨hb,hp,n⟩ x.2.2).mono ?_;rintro e w' ⟨rfl,v',H,k,A,hR⟩;rcases k.2 with ⟨_,h0⟩|⟨g,ad,ab,rfl,_,hg,D,G,aa,m⟩
  ·omega
  have h1:(bA [UInt8.ofNat c.toNat]).size=1:=rfl;have d:(t++bA [UInt8.ofNat c.toNat]).size=t.size+1:=by rw[Df,h1]
  have l:Lib.strCells (bA [UInt8.ofNat c.toNat])=[.int .u8 c]:=by
   have h2:(UInt8.ofNat c.toNat).toNat=c.toNat:=by rw[UInt8.toNat_ofNat'];exact cV (by have:=x.2.1;have:=x.1;omega)
   have h3:((c.toNat:Nat):Int)=c:=by have:=x.1;omega
   show [Value.int .u8 ((UInt8.ofNat c.toNat).toNat:Nat)]=_
   rw[h2,h3]
  obtain⟨M',I,hK,q⟩:=GI.rebld (t':=t++bA [UInt8.ofNat c.toNat]) U E s i hR C S (by rw[d];exact H) (by
   rcases A with e|⟨g',e,h⟩
   ·exact .inl e.symm
   ·simp only[Value.ownBlock,bW] at e;exact .inr aj) hg (by rw[d];omega) (by rw[d];exact D) G aj (by
   rw[d,De,l];rw[Nat.mul_one] at m;exact m)
  exact⟨_,M',rfl,I,q,rfl,(RepP.nilI).repE.repAt,hK⟩
 ·cases h
end
end
end Go.Lw