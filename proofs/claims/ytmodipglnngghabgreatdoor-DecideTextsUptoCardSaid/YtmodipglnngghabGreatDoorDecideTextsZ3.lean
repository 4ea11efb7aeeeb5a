/-
  The texts that the proof stands on, part 29.
-/
import Derived.Test.YtmodipglnngghabGreatDoorDecideTextsZ2
set_option linter.unusedVariables false
set_option linter.unusedSimpArgs false
set_option linter.unnecessarySimpa false

set_option maxRecDepth 100000
set_option maxHeartbeats 4000000
namespace Go.Lw
open Go
section
variable {H:Hp} {gh:Ol} {S:SS}
attribute [local simp high] fq
attribute [local simp] ft fw
theorem SOk.box {H H2:Hp} {S:SS} (h:SOk H S) (j:∀r,r≠ .bx->r≠ .tr->r≠ .mk->H2 r=H r) (tp mp:PV) (tr:Oi) (mks:Oq) (hd:Nat) (fr fu:Int) (pr:Ok) (fa:Bool) (d:LV H2 .tr tp tr) (f:LV H2 .mk mp (nI mks)) :
  SOk (upd H2 .bx (S.g,.cells {S with tp:=tp,mp:=mp,tr:=tr,mks:=mks,hd:=hd,fr:=fr,fu:=fu,pr:=pr,fa:=fa }.cs)) {S with tp:=tp,mp:=mp,tr:=tr,mks:=mks,hd:=hd,fr:=fr,fu:=fu,pr:=pr,fa:=fa }:=by
 have c:∀r,r≠ .bx->upd H2 .bx (S.g,.cells {S with tp:=tp,mp:=mp,tr:=tr,mks:=mks,hd:=hd,fr:=fr,fu:=fu,pr:=pr,fa:=fa }.cs) r=H2 r:=λr hr=>bz _ _ hr
 have e:∀r,r≠ .bx->r≠ .tr->r≠ .mk->upd H2 .bx (S.g,.cells {S with tp:=tp,mp:=mp,tr:=tr,mks:=mks,hd:=hd,fr:=fr,fu:=fu,pr:=pr,fa:=fa }.cs) r=H r:=λr a b l=>(c r a).trans (j r a b l)
 exact {h with bx:=ec ..,wm:=(e _ NX NX NX).trans h.wm,so:=(e _ NX NX NX).trans h.so,bb:=(e _ NX NX NX).trans h.bb,lv:=(e _ NX NX NX).trans h.lv,tr:=d.same (c _ NX),mks:=f.same (c _ NX),cl:=λi v k a b=>(h.cl i v k a b).same (e _ NX NX NX),wt:=λm=>(h.wt m).same (e _ NX NX NX) }
theorem Lc (h:Wk H gh S) (d:S.hd=S.tr.length):ab pg q7o ⟨[(0,Oe S.g 0)],[],gh⟩=Og ⟨[],[],gh⟩:=by
 have c:=h.rp.get h.ok.bx;have a:=h.ok.tr.one;have b:=h.ok.tr.len;refine (bn (s1:=⟨[(0,Oe S.g 0),(14,B false)],[],gh⟩) (aa ?_)).trans ?_
 ·simp[q3k,c,SS.cs,d,a,b]
 ·simp
theorem Ld (h:Wk H gh S) (P:WOk S.ls S.wl) (j:S.hd<S.tr.length) :
  ∃r d t c n,Wk t c d/\WOk d.ls d.wl/\Step {S with hd:=S.hd+1 } d/\Fx H t/\S.tr[S.hd]?=some n/\
   ((r= -1/\ab pg q3k ⟨[(0,Oe S.g 0)],[],gh⟩=Og ⟨[(0,Oe S.g 0)],[],c⟩)\/
     ∃(i:Nat) (l:Oi),r=(i:Int)/\ab pg q3k ⟨[(0,Oe S.g 0)],[],gh⟩=Oh ⟨[(2,I i)],[],c⟩/\d.ls[i]?=some l/\ -n∈l/\∀y∈l,-y∈d.tr):=by
 have u:=h.rp;have a:=h.ok;have k:=h.tk;have w:=u.get a.bx;obtain⟨b,Q,ys,s,O⟩:=a.tr.resolve_left (λe=>by rw[e.1] at j;simp at j);have q:=u.get O;obtain⟨n,hn⟩:∃n,S.tr[S.hd]?=some n:=⟨_,aA j⟩
 have z:=kF (ys:=ys) hn;have N:=k.t0 n (aL hn);have M:=k.nN;have L:=k.tlen;have D:=u.set a.bx (.cells {S with hd:=S.hd+1 }.cs);have B:=a.box (λ_ _ _ _=>rfl) S.tp S.mp S.tr S.mks (S.hd+1) S.fr S.fu S.pr S.fa a.tr a.mks;have w1:Wk _ _ {S with hd:=S.hd+1 }:=⟨B,D,{k with mt:=λm v=>⟨(k.mt m v).1,Nat.le_succ_of_le (k.mt m v).2⟩,hd:=j },h.lb⟩
 obtain⟨r,d,t,c,f,A,v3,v4,v5,v6⟩:=Lb (n:= -n) w1 P (by rw[Int.neg_neg];exact aL hn);have p:WI.wrap ((S.hd:Int)+1)=((S.hd+1:Nat):Int):=by rw[aq NW NW];simp
 have o:WI.wrap (-n)= -n:=aq NW NW;have x:(S.hd:Int)<(S.tr.length:Int):=NW;refine⟨r,d,t,c,n,A,v3,v4,λb=>(v5 b).trans (bz _ _ NX),hn,?_⟩;generalize (S.tr++ys).map I=C at *;rcases v6 with rfl|⟨i,l,rfl,G,F,E⟩
 ·refine .inl ⟨rfl,aa ?_⟩
  simp only[SS.cs,s] at f
  push_cast at f
  simp[q3k,w,SS.cs,s,x,j,q,z,p,o,f,ff]
 ·refine .inr ⟨i,l,rfl,aa ?_,G,F,E⟩
  simp only[SS.cs,s] at f
  push_cast at f
  simp[q3k,w,SS.cs,s,x,j,q,z,p,o,f,ff]
theorem Bo:∀(m:Nat) (S:SS) (H:Hp) (gh:Ol),Wk H gh S->WOk S.ls S.wl->S.n-S.hd<=m->
  ∃a G c q,Wk G c a/\WOk a.ls a.wl/\Step {S with hd:=q } a/\Fx H G/\S.hd<=q/\
   ((ab pg q7o ⟨[(0,Oe S.g 0)],[],gh⟩=Og ⟨[],[],c⟩/\a.hd=a.tr.length)\/
     ∃(i:Nat) (l:Oi) (p:Nat) (n:Int),ab pg q7o ⟨[(0,Oe S.g 0)],[],gh⟩=Oh ⟨[(2,I i)],[],c⟩/\a.ls[i]?=some l/\S.hd<=p/\a.tr[p]?=some n/\ -n∈l/\∀y∈l,-y∈a.tr)
 | m,S,H,gh,h,B,hm=>by
  by_cases A:S.hd<S.tr.length
  ·obtain⟨r,d,F,C,n,w1,z,st,D,hn,hr⟩:=Ld h B A
   have j:∀{U:SS},S.tr <+:U.tr->U.tr[S.hd]?=some n:=λX=>by obtain⟨t,e⟩:=X;rw[<-e,aI A];exact hn
   rcases hr with ⟨-,o⟩|⟨i,l,-,o,O,N,M⟩
   ·have an:d.hd=S.hd+1:=st.vs.2.2.2.1
    have al:d.n=S.n:=st.ad.2.2.2.2.2;have R:=h.tk.tlen;obtain⟨k,rfl⟩:∃k,m=k+1:=⟨m-1,NW⟩
    obtain⟨E,H2,g2,q,L,Q,u,x,hq,f⟩:=Bo k d F C w1 z NW;have hg:d.g=S.g:=st.ad.1;have s:Step {S with hd:=q } E:=by have:=Step.trans (S:={S with hd:=q }) (T:={d with hd:=q }) ⟨st.ad,⟨st.vs.1,st.vs.2.1,st.vs.2.2.1,rfl,st.vs.2.2.2.2.1,st.vs.2.2.2.2.2.1,st.vs.2.2.2.2.2.2⟩,st.tr,st.ls⟩ u;exact this
    rw[hg] at f;refine⟨E,H2,g2,q,L,Q,s,λb=>(x b).trans (D b),NW,?_⟩;rcases f with ⟨w,v⟩|⟨i,l,p,y,w,v,p3,P⟩
    ·exact .inl ⟨(ay o rfl).trans w,v⟩
    ·exact .inr ⟨i,l,p,y,(ay o rfl).trans w,v,NW,P⟩
   ·exact⟨d,F,C,S.hd+1,w1,z,st,D,NW,.inr ⟨i,l,S.hd,n,(cx o).trans rfl,O,cU _,j st.tr,N,M⟩⟩
  ·have:S.hd=S.tr.length:=by have:=h.tk.hd;omega
   exact⟨S,H,gh,S.hd,h,B,Step.refl S,λ_=>rfl,cU _,.inl ⟨Lc h this,this⟩⟩
theorem Lf (h:Wk H gh S) (m:WOk S.ls S.wl) :
  ∃r b d a q,ac pg 177 [Oe S.g 0] gh=some (I r,a)/\Wk d a b/\WOk b.ls b.wl/\Step {S with hd:=q } b/\Fx H d/\S.hd<=q/\
   ((r= -1/\b.hd=b.tr.length)\/∃(i:Nat) (l:Oi) (p:Nat) (n:Int),r=(i:Int)/\b.ls[i]?=some l/\S.hd<=p/\b.tr[p]?=some n/\ -n∈l/\∀y∈l,-y∈b.tr):=by
 have c:∀gh:Ol,ab pg qbp ⟨[],[],gh⟩=Oh ⟨[(2,I (-1))],[],gh⟩:=λgh=>aa (by simp[qbp])
 obtain⟨b,d,a,q,w,o,st,k,j,hr⟩:=Bo (S.n-S.hd) S H gh h m (cU _);rcases hr with ⟨f,e⟩|⟨i,l,p,n,f,e⟩
 ·refine⟨-1,b,d,a,q,ak (fn:=q2r) (s:=⟨[(2,I (-1))],[],a⟩) rfl rfl (aa ?J) ?Z,w,o,st,k,j,.inl ⟨rfl,e⟩⟩
  case J=>simp[q2r,qbq,f,c]
  case Z=>simp[ag,results,q2r,ah,am,af]
 ·refine⟨i,b,d,a,q,ak (fn:=q2r) (s:=⟨[(2,I i)],[],a⟩) rfl rfl (aa ?Y) ?K,w,o,st,k,j,.inr ⟨i,l,p,n,rfl,e⟩⟩
  case Y=>simp[q2r,qbq,f,c]
  case K=>simp[ag,results,q2r,ah,am,af]
end
section
variable {H:Hp} {gh:Ol} {S:SS}
attribute [local simp high] fq
attribute [local simp] ft fw
def SS.chose (S:SS) (v:Nat) (mp a:PV):SS:=SS.put {S with fr:=v,mp:=mp,mks:=S.mks++[S.tr.length] } (-(v:Int)) (-1) a
theorem TOk.chose {S:SS} (h:TOk S) (H:S.hd=S.tr.length) {v:Nat} (G:1<=v/\v<=S.n) (D:S.sv.getD v 0=0) (B A:PV):TOk (S.chose v B A):=by
 have s: -(v:Int)≠0/\(-(v:Int)).natAbs<=S.n:=NW;have j:=h.sv (-(v:Int)) s.1 s.2;have C:isV S.sv (-(v:Int))=0:=by unfold isV;rw[show (-(v:Int)).natAbs=v by omega,D,if_pos NW];rfl
 rw[C] at j;have w: -(v:Int)∉S.tr:=λe=>by rw[if_pos e] at j;cases j
 have hw: -(-(v:Int))∉S.tr:=λe=>by rw[if_neg w,if_pos e] at j;cases j
 -- the trail alone, as if it were put by no clause at all
 have g:∀y∈S.tr,y.natAbs≠(-(v:Int)).natAbs:=λy a e=>by
  rcases Int.natAbs_eq_natAbs_iff.1 e with e|e
  ·exact w (e▸a)
  ·exact hw (e▸a)
 have u:∀p,p<S.tr.length->lvl (S.mks++[S.tr.length]) p=lvl S.mks p:=λp d=>by unfold lvl;rw[List.filter_append,aQ,List.filter_cons_of_neg (by simp;omega)];rfl
 have t:lvl (S.mks++[S.tr.length]) S.tr.length=(S.mks++[S.tr.length]).length:=by
  unfold lvl;rw[List.filter_eq_self.2 (λm b=>by
   rcases cE.1 b with b|b
   ·have:=(h.mt m b).1;simp;omega
   ·rw[List.mem_singleton.1 b];simp)]
 have f:∀{p:Nat} {y:Int},(S.tr++[-(v:Int)])[p]?=some y->(p<S.tr.length/\S.tr[p]?=some y)\/(p=S.tr.length/\y= -(v:Int)):=λ{p y} d=>by
  by_cases e:p<S.tr.length
  ·rw[aI e] at d;exact .inl ⟨e,d⟩
  ·have u:=(aD.1 d).1
   rw[aQ,List.length_singleton] at u;have:p=S.tr.length:=NW;subst this;rw[List.getElem?_concat_length] at d;cases d;exact .inr ⟨rfl,rfl⟩
 refine {nN:=h.nN,l0:=h.l0,ld:=h.ld,ms:=List.pairwise_append.2 ⟨h.ms,List.pairwise_singleton _ _,λm b z k=>by rw[List.mem_singleton.1 k];exact (h.mt m b).1⟩,t0:=?_,td:=?_,sv:=?_,s1:=?_,lw:=?_,mt:=?_,hd:=?_,rs:=?_,svl:=?_,bvl:=?_,lwl:=?_,lwb:=λy a=>?J }
 case J=>
  rcases List.mem_or_eq_of_mem_set a with a|a
  ·exact h.lwb y a
  ·have:=h.mlen;have:=h.nN;rw[a];show 0<=(((S.mks++[S.tr.length]).length:Nat):Int)/\_;simp;omega
 ·intro y a
  rcases cE.1 a with a|a
  ·exact h.t0 y a
  ·rw[List.mem_singleton.1 a];exact s
 ·exact List.pairwise_append.2 ⟨h.td,List.pairwise_singleton _ _,λy a z k=>by rw[List.mem_singleton.1 k];exact g y a⟩
 · -- as in put
  intro y a o
  show isV (S.sv.set (-(v:Int)).natAbs (if -(v:Int)<0 then -1 else 1)) y=if y∈S.tr++[-(v:Int)] then 1 else if -y∈S.tr++[-(v:Int)] then -1 else 0
  have x:=h.sv y a o;unfold isV at x ⊢;rw[mf (by rw[h.svl];omega),if_pos (by omega: -(v:Int)<0)];by_cases e:(-(v:Int)).natAbs=y.natAbs
  ·rw[if_pos e]
   rcases Int.natAbs_eq_natAbs_iff.1 e with e|e
   ·rw[<-e,if_pos NW,if_pos NX];rfl
   ·have r:y=(v:Int):=NW
    subst r;have:(v:Int)∉S.tr++[-(v:Int)]:=λq=>by
     rcases cE.1 q with q|q
     ·exact hw (by simpa using q)
     ·have:=List.mem_singleton.1 q;omega
    rw[if_neg this,if_pos (show -(v:Int)∈S.tr++[-(v:Int)] by simp),if_neg NW]
  ·rw[if_neg e,x]
   have F:y≠ -(v:Int):=λq=>e (by rw[q])
   have E: -y≠ -(v:Int):=λq=>e NW
   simp only[cE,List.mem_singleton,F,E,or_false]
 ·intro y a
  rcases List.mem_or_eq_of_mem_set a with a|a
  ·exact h.s1 y a
  ·subst a;split<;>omega
 ·intro p y d
  show (S.lw.set (-(v:Int)).natAbs ((S.mks++[S.tr.length]).length:Nat)).getD y.natAbs 0=(lvl (S.mks++[S.tr.length]) p:Int)
  rw[mf (by rw[h.lwl];omega)];rcases f d with ⟨e,c⟩|⟨rfl,rfl⟩
  ·rw[if_neg (λq=>g y (aL c) q.symm),u p e]
   exact h.lw p y c
  ·rw[if_pos rfl,t]
 ·intro m b
  show m<(S.tr++[-(v:Int)]).length/\m<=S.hd
  rw[aQ,List.length_singleton];rcases cE.1 b with b|b
  ·have:=h.mt m b;omega
  ·have:=List.mem_singleton.1 b;omega
 ·show S.hd<=(S.tr++[-(v:Int)]).length
  rw[aQ];omega
 ·intro p y d
  show p∈S.mks++[S.tr.length]\/∃(i:Nat) (l:Oi),(S.bv.set (-(v:Int)).natAbs (-1)).getD y.natAbs 0=(i:Int)/\S.ls[i]?=some l/\y∈l/\∀z∈l,z≠y-> -z∈(S.tr++[-(v:Int)]).take p
  rcases f d with ⟨e,c⟩|⟨rfl,rfl⟩
  ·rw[mf (by rw[h.bvl];omega),if_neg (λq=>g y (aL c) q.symm),List.take_append_of_le_length NW]
   rcases h.rs p y c with q|q
   ·exact .inl (aX _ q)
   ·exact .inr q
  ·exact .inl NX
 ·show (S.sv.set _ _).length=_;rw[cM];exact h.svl
 ·show (S.bv.set _ _).length=_;rw[cM];exact h.bvl
 ·show (S.lw.set _ _).length=_;rw[cM];exact h.lwl
theorem Lg (h:Wk H gh S) (he:S.hd=S.tr.length):∀(m v:Nat),v+m=S.n+1->1<=v->
  (∃w y f mp k,v<=w/\w<=S.n/\S.sv.getD w 0=0/\ab pg qbr ⟨[(0,Oe S.g 0),(3,I v)],[],gh⟩=Oh ⟨[(2,B true)],[],f⟩/\Wk y f (S.chose w mp k)/\Fx H y)\/
  ((∀w,v<=w->w<=S.n->S.sv.getD w 0≠0)/\ab pg qbr ⟨[(0,Oe S.g 0),(3,I v)],[],gh⟩=Og ⟨[],[],gh⟩):=by
 have c:=h.ok;have M:=h.rp;have j:=h.tk;have F:=M.get c.bx;have Q:=M.get c.so;have ad:=j.nN;intro m
 induction m with
 |zero=>
  intro v hv T;have d:¬(v:Int)<=(S.n:Int):=NW;refine .inr ⟨λw h2 R=>NW,(bn (s1:=⟨[(0,Oe S.g 0),(3,I v),(14,B false)],[],gh⟩) (aa ?_)).trans ?_⟩
  ·simp[q4g,F,SS.cs,d]
  ·simp
 | succ m ih=>
  intro v hv T;have q:v<=S.n:=NW;have d:(v:Int)<=(S.n:Int):=NW;have i:(v:Int)<(S.n:Int)+1:=NW;obtain⟨x,C⟩:∃x,S.sv[v]?=some x:=⟨_,aA (by rw[j.svl];omega)⟩
  have G:S.sv.getD v 0=x:=by rw[aK,C];rfl
  have D:WI.wrap ((v:Int)+1)=((v+1:Nat):Int):=by rw[aq NW NW];simp
  by_cases N:x=0
  ·subst N
   have s:=j.tlen;have an:S.mks.length<=S.tr.length:=jt _ _ (j.ms.imp (λL=>Nat.ne_of_lt L)) λm hm=>(j.mt m hm).1
   have r1:=M.set c.bx (.cells {S with fr:=v }.cs);have s1:=c.box (λ_ _ _ _=>rfl) S.tp S.mp S.tr S.mks S.hd v S.fu S.pr S.fa c.tr c.mks;have al:=MB;obtain⟨a1,z,O,A⟩:=s1.mks.app r1 S.tr.length (by simp;omega);have e1:∀r,r≠ .bx->r≠ .tr->r≠ .mk->upd (upd H .bx (S.g,.cells {S with fr:=v }.cs)) .mk z r=H r:=λr p o l=>(bz _ _ l).trans (bz _ _ p)
   have s2:=s1.box (H2:=upd (upd H .bx (S.g,.cells {S with fr:=v }.cs)) .mk z) (λr p o l=>bz _ _ l) S.tp (apV (hw gh S.g (.cells {S with fr:=v }.cs)) S.mp) S.tr (S.mks++[S.tr.length]) S.hd v S.fu S.pr S.fa ((s1.tr).same (bz _ _ NX)) (.inr (by rw[vl] at A;exact A));have X:upd (upd H .bx (S.g,.cells {S with fr:=v }.cs)) .mk z .bx=some (S.g,.cells {S with fr:=v }.cs):=(bz _ _ NX).trans (ec ..);have r3:=O.set X (.cells {S with fr:=v,mp:=apV (hw gh S.g (.cells {S with fr:=v }.cs)) S.mp,mks:=S.mks++[S.tr.length] }.cs)
   obtain⟨H3,U,k,P,r4,s4,f4⟩:=rX s2 r3 (n:= -(v:Int)) (a:= -1) (by show (-(v:Int)).natAbs<=S.n;omega) j.nN (by show (S.tr.length+1)*8<=_;omega);have u:=O.get X;have t:=A.one;refine .inl ⟨v,H3,U,_,k,cU _,q,G,(cx (s1:=⟨[(2,B true)],[],U⟩) (aa ?J)).trans rfl,⟨s4,r4,j.chose he ⟨T,q⟩ G _ _,h.lb⟩,λb=>(f4 _ NX NX NX NX NX).trans ((bz _ _ NX).trans (e1 _ NX NX NX))⟩
   case J=>
    have E:WI.wrap (-(v:Int))= -(v:Int):=aq NW NW;have ho:=c.mks.one;have ht:=c.tr.one;have s:=c.tr.len;simp only[SS.cs] at P a1 u t;simp[q4g,F,SS.cs,d,i,Q,C,ff,ho,ht,s,a1,t,u,E,P]
  ·have step:ab pg q4g ⟨[(0,Oe S.g 0),(3,I v)],[],gh⟩=Og ⟨[(0,Oe S.g 0),(3,I ((v+1:Nat):Int))],[],gh⟩:=by
    refine aa ?_;simp only[<-D];simp[q4g,F,SS.cs,d,i,Q,C,N]
   rcases ih (v+1) NW NW with ⟨w,y,f,mp,k,p,o,l,q4,q5⟩|⟨p,o⟩
   ·exact .inl ⟨w,y,f,mp,k,NW,o,l,(ay step rfl).trans q4,q5⟩
   ·refine .inr ⟨λw h2 R=>?_,(ay step rfl).trans o⟩
    by_cases e:w=v
    ·subst e;rw[G];exact N
    ·exact p w NW R
theorem Lh (h:Wk H gh S) (u:S.hd=S.tr.length) (y:0<=S.fr/\S.fr<=S.n+1) :
  (∃w c a e d,1<=w/\w<=S.n/\S.sv.getD w 0=0/\ac pg 178 [Oe S.g 0] gh=some (B true,a)/\Wk c a (S.chose w e d)/\Fx H c)\/
  ((∀w:Nat,S.fr<=w->1<=w->w<=S.n->S.sv.getD w 0≠0)/\ac pg 178 [Oe S.g 0] gh=some (B false,gh)):=by
 have o:=h.rp.get h.ok.bx;have j:∀gh:Ol,ab pg qbs ⟨[],[],gh⟩=Oh ⟨[(2,B false)],[],gh⟩:=λgh=>aa (by simp[qbs])
 obtain⟨v,i,f,t⟩:∃v:Nat,(if 1>S.fr then 1 else S.fr)=(v:Int)/\1<=v/\v<=S.n+1:=by
  by_cases k:1>S.fr
  ·exact⟨1,by rw[if_pos k];rfl,cU _,NW⟩
  ·exact⟨S.fr.toNat,by rw[if_neg k];omega,NW,NW⟩
 rcases Lg h u (S.n+1-v) v NW f with ⟨w,c,a,e,d,m,b,r,l,q,p⟩|⟨m,b⟩
 ·refine .inl ⟨w,c,a,e,d,NW,b,r,ak (fn:=q2s) (s:=⟨[(2,B true)],[],a⟩) rfl rfl (aa ?J) ?Z,q,p⟩
  case J=>rw[<-i] at l;simp[q2s,qbt,o,SS.cs,nK,-gt_iff_lt,l]
  case Z=>simp[ag,results,q2s,ah,am,af]
 ·refine .inr ⟨λw k z x=>m w (by split at i<;>omega) x,ak (fn:=q2s) (s:=⟨[(2,B false)],[],gh⟩) rfl rfl (aa ?Y) ?K⟩
  case Y=>rw[<-i] at b;simp[q2s,qbt,o,SS.cs,nK,-gt_iff_lt,b,j]
  case K=>simp[ag,results,q2s,ah,am,af]
end
section
attribute [local simp high] fq
attribute [local simp] ft fw
def jY (a:Oi) (l:Oi):Oi:=l.foldl (λs n=>s.set n.natAbs 0) a
theorem Li (l:Oi):∀a:Oi,(jY a l).length=a.length:=by
 induction l with
 |nil=>intro a;rfl
 |cons n l b=>intro a;show (jY (a.set n.natAbs 0) l).length=_;rw[b,cM]
theorem Lj (l:Oi):∀(a:Oi) (j:Nat),(∀n∈l,n.natAbs<a.length)->(jY a l).getD j 0=if ∃n∈l,n.natAbs=j then 0 else a.getD j 0:=by
 induction l with
 |nil=>intro a j _;simp[jY]
 | cons n l f=>
  intro a j h
  show (jY (a.set n.natAbs 0) l).getD j 0=_
  rw[f _ _ (λm g=>by rw[cM];exact h m (bC _ g)),mf (h n (aZ ..))];by_cases e:n.natAbs=j
  ·rw[if_pos e,if_pos (show ∃m∈n::l,m.natAbs=j from⟨n,aZ ..,e⟩)];split<;>rfl
  ·rw[if_neg e]
   by_cases d:∃m∈l,m.natAbs=j
   ·obtain⟨m,b,c⟩:=d
    rw[if_pos ⟨m,b,c⟩,if_pos ⟨m,bC _ b,c⟩]
   ·rw[if_neg d,if_neg]
    rintro⟨m,b,c⟩;rcases List.mem_cons.1 b with rfl|b
    ·exact e c
    ·exact d ⟨m,b,c⟩
theorem Lk (l:Oi):∀(a:Oi) x,x∈jY a l->x=0\/x∈a:=by
 induction l with
 |nil=>intro a x b;exact .inr b
 | cons n l c=>
  intro a x b;rcases c _ x b with h|h
  ·exact .inl h
  ·rcases List.mem_or_eq_of_mem_set h with h|h
   ·exact .inr h
   ·exact .inl h
def SS.backTo (S:SS) (L q:Nat) (tp mp:PV):SS:={S with sv:=jY S.sv (S.tr.drop q),tp:=tp,tr:=S.tr.take q,mp:=mp,mks:=S.mks.take L,hd:=q,fr:=1 }
theorem TOk.back {S:SS} (h:TOk S) {L q:Nat} (E:S.mks[L]?=some q) (I N:PV):TOk (S.backTo L q I N):=by
 have t:=(aD.1 E).1;have u:=(aD.1 E).2;have U:=h.mt q (aL E);have d:S.tr.take q++S.tr.drop q=S.tr:=List.take_append_drop q S.tr;have j:=h.td;rw[<-d,List.pairwise_append] at j;obtain⟨M,T,H⟩:=j;have k:=List.pairwise_iff_getElem.1 h.ms;have B:∀m∈S.mks.take L,m<q:=λm g=>by obtain⟨i,D,rfl⟩:=cN.1 g;rw[cP] at D;rw[List.getElem_take,<-u];exact k i L NW t NW
 have r:∀m∈S.mks.drop L,q<=m:=λm g=>by
  obtain⟨i,D,rfl⟩:=cN.1 g;rw[List.length_drop] at D;rw[List.getElem_drop,<-u];rcases Nat.eq_zero_or_pos i with rfl|P
  ·exact cU _
  ·exact Nat.le_of_lt (k L (L+i) t NW NW)
 have C:∀p,p<q->lvl (S.mks.take L) p=lvl S.mks p:=λp a=>by
  unfold lvl;have e:S.mks=S.mks.take L++S.mks.drop L:=(List.take_append_drop ..).symm
  conv=>rhs;rw[e,List.filter_append,aQ]
  have w:(S.mks.drop L).filter (λm=>decide (m<=p))=[]:=List.filter_eq_nil_iff.2 λm g=>by have:=r m g;simp;omega
  rw[w];rfl
 have s:∀{p:Nat} {x:Int},(S.tr.take q)[p]?=some x->p<q/\S.tr[p]?=some x:=λ{p x} a=>by have:=(aD.1 a).1;rw[cP] at this;rw[List.getElem?_take_of_lt NW] at a;exact⟨NW,a⟩
 refine {nN:=h.nN,l0:=h.l0,ld:=h.ld,t0:=λx c=>h.t0 x (cO c),td:=M,sv:=?_,s1:=?_,lw:=?_,ms:=h.ms.sublist (List.take_sublist ..),mt:=?_,hd:=?_,rs:=?_,svl:=by show (jY _ _).length=_;rw[Li];exact h.svl,bvl:=h.bvl,lwl:=h.lwl,lwb:=h.lwb }
 ·intro x c A
  show isV (jY S.sv (S.tr.drop q)) x=if x∈S.tr.take q then 1 else if -x∈S.tr.take q then -1 else 0
  have v:=h.sv x c A;have Q:∀n∈S.tr.drop q,n.natAbs<S.sv.length:=λn hn=>by have:=(h.t0 n (List.mem_of_mem_drop hn)).2;rw[h.svl];omega
  unfold isV at v ⊢;rw[Lj _ _ _ Q];have O:(-x).natAbs=x.natAbs:=NX;by_cases e:∃n∈S.tr.drop q,n.natAbs=x.natAbs
  ·obtain⟨n,hn,f⟩:=e
   have G:x∉S.tr.take q:=λb=>H x b n hn f.symm
   have w: -x∉S.tr.take q:=λb=>H (-x) b n hn (by rw[f];simp)
   rw[if_pos (show ∃n∈S.tr.drop q,n.natAbs=x.natAbs from⟨n,hn,f⟩),if_neg G,if_neg w];split<;>rfl
  ·rw[if_neg e,v]
   have G:x∈S.tr↔x∈S.tr.take q:=by
    conv=>lhs;rw[<-d,cE]
    exact⟨λo=>o.resolve_right λo=>e ⟨x,o,rfl⟩,.inl⟩
   have w: -x∈S.tr↔ -x∈S.tr.take q:=by
    conv=>lhs;rw[<-d,cE]
    exact⟨λo=>o.resolve_right λo=>e ⟨-x,o,NX⟩,.inl⟩
   simp only[G,w]
 ·intro x c
  rcases Lk _ _ _ c with rfl|c
  ·omega
  ·exact h.s1 x c
 ·intro p x a
  obtain⟨v,F⟩:=s a
  show S.lw.getD x.natAbs 0=(lvl (S.mks.take L) p:Int)
  rw[C p v];exact h.lw p x F
 ·intro m g
  show m<(S.tr.take q).length/\m<=q
  have:=B m g;rw[cP];omega
 ·show q<=(S.tr.take q).length
  rw[cP];omega
 ·intro p x a
  obtain⟨v,F⟩:=s a
  show p∈S.mks.take L\/∃(i:Nat) (l:Oi),S.bv.getD x.natAbs 0=(i:Int)/\S.ls[i]?=some l/\x∈l/\∀y∈l,y≠x-> -y∈(S.tr.take q).take p
  rw[List.take_take,Nat.min_eq_left NW];rcases h.rs p x F with z|z
  ·left
   have e:S.mks=S.mks.take L++S.mks.drop L:=(List.take_append_drop ..).symm;rw[e] at z;exact (cE.1 z).resolve_right λR=>by have:=r p R;omega
  ·exact .inr z
section
variable {b gen:Nat} {ys:Oi}
theorem Bp {q:Nat}:∀(m k:Nat) (S:SS) (H:Hp) (gh:Ol) (lv:Int),SOk H S->Rp H gh->S.n<=1000000000->(∀x∈S.tr,x.natAbs<=S.n)->S.tr.length<=S.n->H .tr=some (b,.stk gen ((S.tr++ys).map I))->k+m=S.tr.length-q->q<=S.tr.length->
  ∃j a,ab pg qg5 ⟨[(0,Oe S.g 0),(1,I lv),(24,.sub b gen q (S.tr.length-q)),(25,I ((S.tr.length-q:Nat):Int)),(26,I k)],[],gh⟩=Og ⟨[(0,Oe S.g 0),(1,I lv)],[],a⟩/\
   Rp j a/\SOk j {S with sv:=jY S.sv (S.tr.drop (q+k)) }/\∀r,r≠ .so->j r=H r
 | 0,k,S,H,gh,lv,h,d,f,w,z,t,N,y=>by
  have P:S.tr.drop (q+k)=[]:=aM NW;rw[P];refine⟨H,gh,(bn (s1:=⟨[(0,Oe S.g 0),(1,I lv),(24,.sub b gen q (S.tr.length-q)),(25,I ((S.tr.length-q:Nat):Int)),(26,I k),(27,B false)],[],gh⟩) (aa ?_)).trans ?_,d,h,λ_ _=>rfl⟩
  ·have:k=S.tr.length-q:=NW
   rw[<-this];simp[qbx]
  ·simp
 | m+1,k,S,H,gh,lv,h,d,f,w,z,t,N,y=>by
  have O:=d.get h.bx;have M:=d.get h.so;have p:=d.get t;have c:q+k<S.tr.length:=NW;obtain⟨x,l⟩:∃x,S.tr[q+k]?=some x:=⟨_,aA c⟩
  have o:=w x (aL l);have u:=ny (gh:=gh) (n:=x) NW;have c0:=kF (ys:=ys) l;have hw:WI.wrap ((k:Int)+1)=((k+1:Nat):Int):=by rw[aq NW NW];simp
  have X:(k:Int)<((S.tr.length-q:Nat):Int):=NW;have T:(x.natAbs:Int)<(S.n:Int)+1:=NW;have U:x.natAbs<S.n+1:=NW;have A:=d.set h.so (.cells ((S.sv.map I).set x.natAbs (I 0)));have e:∀r,r≠ .so->upd H .so (S.so,.cells ((S.sv.map I).set x.natAbs (I 0))) r=H r:=λr hr=>bz _ _ hr
  have s1:SOk (upd H .so (S.so,.cells ((S.sv.map I).set x.natAbs (I 0)))) {S with sv:=S.sv.set x.natAbs 0 }:=
   {h with bx:=(e _ NX).trans h.bx,wm:=(e _ NX).trans h.wm,so:=by rw[ec];simp,bb:=(e _ NX).trans h.bb,lv:=(e _ NX).trans h.lv,svl:=by simpa using h.svl,tr:=h.tr.same (e _ NX),mks:=h.mks.same (e _ NX),cl:=λi v k R Q=>(h.cl i v k R Q).same (e _ NX),wt:=λm=>(h.wt m).same (e _ NX) }
  obtain⟨j,a,L,G,F,E⟩:=Bp m (k+1) {S with sv:=S.sv.set x.natAbs 0 } _ _ lv s1 A f w z ((e _ NX).trans t) (by show k+1+m=S.tr.length-q;omega) y;have s:S.tr.drop (q+k)=x::S.tr.drop (q+(k+1)):=by rw[aJ c];rw[aA c] at l;rw[cX l];rfl
  refine⟨j,a,(ay (aa ?_) rfl).trans L,G,by rw[s];exact F,λr hr=>(E r hr).trans (e r hr)⟩;simp only[<-hw];generalize (S.tr++ys).map I=C,S.tr.length-q=D at *;simp[qbx,X,p,c0,O,SS.cs,u,T,M,h.svl,U,ff,o]
theorem Ll {H:Hp} {F:Ol} {S:SS} {L q:Nat} (h:Wk H F S) (v:S.mks[L]?=some q) :
  ∃U m X mp,ac pg 180 [Oe S.g 0,I L] F=some (.tup [],m)/\Wk U m (S.backTo L q X mp)/\∀r,r≠ .so->r≠ .bx->U r=H r:=by
 have a:=h.ok;have u:=h.rp;have j:=h.tk;have hg:=u.get a.bx;have k:=(aD.1 v).1;have O:=j.mt q (aL v);obtain⟨b,gen,ys,N,E⟩:=a.tr.resolve_left (λe=>by rw[e.1] at O;simp at O);obtain⟨n,l,o,t,c⟩:=a.mks.resolve_left (λe=>by have P:=e.1;simp at P;rw[P] at k;simp at k);have ad:=u.get E;have D:=u.get c;have T:((nI S.mks++o).map I)[L]?=some (I q):=kF (by simp[v]);obtain⟨H1,G,M,y,p,w⟩:=Bp (b:=b) (gen:=gen) (ys:=ys) (q:=q) (S.tr.length-q) 0 S H F L a u j.nN (λx hx=>(j.t0 x hx).2) j.tlen E NW NW;rw[cG] at p;have i:=y.get p.bx
 have f:=y.get ((w _ NX).trans c);have z:(S.tr.take q).length=q:=by rw[cP];omega
 have A:(nI (S.mks.take L)).length=L:=by simp;omega
 have s2:=p.box (λ_ _ _ _=>rfl) (.stk b gen q) (.stk n l L) (S.tr.take q) (S.mks.take L) q 1 S.fu S.pr S.fa
  (.inr ⟨b,gen,S.tr.drop q++ys,by rw[z],by rw[w _ NX,E,<-aT,List.take_append_drop]⟩)
  (.inr ⟨n,l,nI (S.mks.drop L)++o,by rw[A],by rw[w _ NX,c,<-aT,show nI (S.mks.take L)++nI (S.mks.drop L)=nI S.mks by rw[nI,nI,<-bI,List.take_append_drop]]⟩)
 have r2:=y.set p.bx (.cells (S.backTo L q (.stk b gen q) (.stk n l L)).cs);have d:(nI S.mks).length=S.mks.length:=NX;have e1:¬(S.mks.length:Int)<=(L:Int):=NW;have R:(L:Int)<(S.mks.length:Int):=NW;have Q:q<=S.tr.length:=NW;have B:ab pg qby ⟨[(0,Oe S.g 0),(1,I L)],[],G⟩=Og ⟨[],[],hw G S.g (.cells (S.backTo L q (.stk b gen q) (.stk n l L)).cs)⟩:=by refine aa ?_;have e4:L<=S.mks.length:=NW;rw[d] at t;simp only[SS.cs,SS.backTo,N,t] at i ⊢;generalize (nI S.mks++o).map I=C at *;simp[qby,i,R,f,T,Q,e4,ff]
 refine⟨_,_,_,_,(ip (fn:=q7s) (e:= .normal) (s:=⟨[],[],hw G S.g (.cells (S.backTo L q (.stk b gen q) (.stk n l L)).cs)⟩) rfl rfl (aa ?J)).trans ?Z,⟨s2,r2,j.back v _ _,h.lb⟩,λr q1 q2=>(bz _ _ q2).trans (w r q1)⟩
 case J=>
  rw[d] at t;rw[show ((0:Nat):Int)=0 from rfl] at M;generalize (nI S.mks++o).map I=C at *;simp[q7s,qg6,hg,SS.cs,N,t,e1,R,D,T,Q,M,B]
 case Z=>simp[ag,results,q7s,ah,af]
end
end
section
variable {mks:Oq} {p q:Nat} {S:SS} {x:Int}
def cr (S:SS) (x:Int):Int:=S.lw.getD x.natAbs 0
theorem Lm (h:p<=q):lvl mks p<=lvl mks q:=by
 unfold lvl
 induction mks with
 |nil=>exact cU _
 | cons m mks a=>
  simp only[List.filter_cons];by_cases b:m<=p
  ·rw[if_pos (by simpa using b),if_pos (by simp;omega)];simpa using a
  ·rw[if_neg (by simpa using b)]
   split
   ·exact Nat.le_succ_of_le a
   ·exact a
theorem Bq (a:Oq) (p:Nat):lvl a p<=a.length:=List.length_filter_le ..
theorem Br (h:lvl mks p=mks.length):∀m∈mks,m<=p:=by intro m a;unfold lvl at h;have:=List.length_filter_eq_length_iff.1 h m a;simpa using this
theorem Ln {L:Nat} (g:mks.Pairwise (· < ·)) (d:mks[L]?=some q) (h:lvl mks p<=L):p<q:=by
 refine aP λhn=>?_
 have e:mks=mks.take (L+1)++mks.drop (L+1):=(List.take_append_drop ..).symm;have c:=(aD.1 d).1;have a:=(aD.1 d).2;have b:=List.pairwise_iff_getElem.1 g;have l:(mks.take (L+1)).filter (λm=>decide (m<=p))=mks.take (L+1):=List.filter_eq_self.2 λm j=>by
  obtain⟨i,k,rfl⟩:=cN.1 j;rw[cP] at k;rw[List.getElem_take];have:mks[i]<=q:=by
   rcases Nat.lt_or_ge i L with f|f
   ·have:=b i L NW c f
    rw[a] at this;exact Nat.le_of_lt this
   ·have:i=L:=NW
    subst this;exact Nat.le_of_eq a
  simp;omega
 unfold lvl at h;rw[e,List.filter_append,aQ,l,cP] at h;omega
def cnt (L:Oi) (T:Oi) (P:Int->Bool):Nat:=(L.filter λx=>decide ((x.natAbs:Int)∈T)&&P x).length
theorem Bs (L M T:Oi) (P:Int->Bool):cnt (L++M) T P=cnt L T P+cnt M T P:=by unfold cnt;rw[List.filter_append,aQ]
theorem Bt {T:Oi} {P:Int->Bool} {v:Int} (d:v∉T):∀{L:Oi},L.Pairwise Vne->(∀x∈L,(x.natAbs:Int)≠v)->cnt L (T++[v]) P=cnt L T P
 |[],_,_=>rfl
 |x::L,e,h=>by
  have a:=Bt (P:=P) d (List.pairwise_cons.1 e).2 λy b=>h y (bC _ b)
  have c:=h x (aZ ..);unfold cnt at a ⊢;simp only[List.filter_cons,cE,List.mem_singleton,c,or_false];split<;>simp_all
theorem Bu {T:Oi} {P:Int->Bool} {z:Int} (a:(z.natAbs:Int)∉T):∀{L:Oi},L.Pairwise Vne->z∈L->cnt L (T++[(z.natAbs:Int)]) P=cnt L T P+if P z then 1 else 0
 | x::L,j,h=>by
  obtain⟨d,c⟩:=List.pairwise_cons.1 j;rcases List.mem_cons.1 h with rfl|h
  ·have:=Bt (P:=P) a c λy g e=>d y g NW
   have m:cnt (z::L) (T++[(z.natAbs:Int)]) P=(if P z then 1 else 0)+cnt L (T++[(z.natAbs:Int)]) P:=by unfold cnt;simp only[List.filter_cons];by_cases b:P z<;>simp[b];omega
   have l:cnt (z::L) T P=cnt L T P:=by unfold cnt;simp only[List.filter_cons];simp[a]
   rw[m,l,this];omega
  ·have f:=Bu (P:=P) a c h
   have i:(x.natAbs:Int)≠z.natAbs:=λe=>d z h NW
   have e:∀U,cnt (x::L) U P=(if (x.natAbs:Int)∈U/\P x=true then 1 else 0)+cnt L U P:=λU=>by unfold cnt;simp only[List.filter_cons];by_cases k:(x.natAbs:Int)∈U<;>by_cases b:P x=true<;>simp[k,b];omega
   rw[e,e,f];simp only[cE,List.mem_singleton,i,or_false];omega
theorem cnt_pos {L T:Oi} {P:Int->Bool}:1<=cnt L T P↔∃x∈L,(x.natAbs:Int)∈T/\P x=true:=by
 unfold cnt;constructor
 ·intro h
  obtain⟨x,c⟩:=List.exists_mem_of_length_pos (show 0<_ from h);obtain⟨b,a⟩:=List.mem_filter.1 c;simp only[aS,aH] at a;exact⟨x,b,a⟩
 ·rintro⟨x,b,a,d⟩
  exact List.length_pos_of_mem (List.mem_filter.2 ⟨b,by simp[a,d]⟩)
def fB (S:SS) (x:Int):Bool:=decide (cr S x=S.mks.length)
structure LSt where
 T:Oi
 O:Oi
 op:Nat
def fT (S:SS) (f:Int) (s:LSt) (n:Int):LSt:=
 if n=f\/(n.natAbs:Int)∈s.T\/cr S n=0 then s
 else if cr S n=S.mks.length then ⟨s.T++[(n.natAbs:Int)],s.O,s.op+1⟩ else ⟨s.T++[(n.natAbs:Int)],s.O++[n],s.op⟩
structure LrI (S:SS) (a:Nat) (s:LSt):Prop where
 c:s.op=cnt (S.tr.take a) s.T (fB S)
 o1:∀y∈s.O,-y∈S.tr/\0<cr S y/\cr S y<S.mks.length
 o2:s.O.Pairwise Vne
 o3:∀y∈s.O,(y.natAbs:Int)∈s.T
theorem nz (S:SS) (x:Int):cr S (-x)=cr S x:=by unfold cr;rw[Int.natAbs_neg]
theorem rY (h:TOk S) (a:S.tr[p]?=some x):cr S x=(lvl S.mks p:Int):=h.lw p x a
theorem Lo (h:TOk S) (a:x∈S.tr):0<=cr S x/\cr S x<=S.mks.length:=by obtain⟨p,b⟩:=List.getElem?_of_mem a;rw[rY h b];have:=Bq S.mks p;omega
theorem Lp (h:TOk S) {a:Nat} {f n:Int} {s:LSt} (d:LrI S a s) (hn:n≠f-> -n∈S.tr.take a):LrI S a (fT S f s n):=by
 unfold fT;by_cases k:n=f\/(n.natAbs:Int)∈s.T\/cr S n=0
 ·rw[if_pos k];exact d
 ·rw[if_neg k]
  have m:n≠f:=λe=>k (.inl e)
  have g:(n.natAbs:Int)∉s.T:=λe=>k (.inr (.inl e))
  have t:cr S n≠0:=λe=>k (.inr (.inr e))
  have q:=hn m;have i: -n∈S.tr:=cO q;have o:=Lo h i;rw[nz] at o;have j:=Bu (T:=s.T) (P:=fB S) (z:= -n) (by simpa using g) (h.td.sublist (List.take_sublist a _)) q;rw[Int.natAbs_neg] at j;by_cases l:cr S n=S.mks.length
  ·rw[if_pos l]
   have p:fB S (-n)=true:=by simp[fB,nz,l]
   rw[if_pos p] at j;exact⟨by show s.op+1=_;rw[j,<-d.c],d.o1,d.o2,λy b=>aX _ (d.o3 y b)⟩
  ·rw[if_neg l]
   have p:¬fB S (-n)=true:=by simp[fB,nz,l]
   rw[if_neg p] at j;refine⟨by show s.op=_;rw[j,<-d.c,cG],λy b=>?_,?_,λy b=>?_⟩
   ·rcases cE.1 b with b|b
    ·exact d.o1 y b
    ·rw[List.mem_singleton.1 b];exact⟨i,NW,NW⟩
   ·refine List.pairwise_append.2 ⟨d.o2,List.pairwise_singleton _ _,λy b z r e=>?_⟩
    rw[List.mem_singleton.1 r] at e;exact g (e▸d.o3 y b)
   ·rcases cE.1 b with b|b
    ·exact aX _ (d.o3 y b)
    ·rw[List.mem_singleton.1 b];simp
theorem Bv {S:SS} (h:TOk S) {a:Nat} {f:Int}:∀(l:Oi) {s:LSt},LrI S a s->(∀n∈l,n≠f-> -n∈S.tr.take a)->LrI S a (l.foldl (fT S f) s)/\(∀n∈l,n≠f->cr S n≠0->(n.natAbs:Int)∈(l.foldl (fT S f) s).T)/\∀t∈s.T,t∈(l.foldl (fT S f) s).T
 |[],s,i,_=>⟨i,λ_ hn=>(by cases hn),λ_ b=>b⟩
 | n::l,s,i,hn=>by
  obtain⟨p,o,k⟩:=Bv h l (Lp h i (hn n (aZ ..))) λm g=>hn m (bC _ g)
  have c:∀t∈s.T,t∈(fT S f s n).T:=λt b=>by
   unfold fT;split
   ·exact b
   ·split<;>exact aX _ b
  refine⟨p,λm g d e=>?_,λt b=>k t (c t b)⟩;rcases List.mem_cons.1 g with rfl|g
  ·refine k _ ?_
   unfold fT;by_cases j:m=f\/(m.natAbs:Int)∈s.T\/cr S m=0
   ·rw[if_pos j];exact (j.resolve_left d).resolve_right e
   ·rw[if_neg j];split<;>simp
  ·exact o m g d e
theorem Bw {S:SS} (h:TOk S) {T:Oi}:∀a:Nat,a<=S.tr.length->1<=cnt (S.tr.take a) T (fB S)->
  ∃p x,p<a/\S.tr[p]?=some x/\(x.natAbs:Int)∈T/\(∀q y,p<q->q<a->S.tr[q]?=some y->(y.natAbs:Int)∉T)/\cnt (S.tr.take a) T (fB S)=cnt (S.tr.take p) T (fB S)+1/\cr S x=S.mks.length
 |0,_,c=>by simp[cnt] at c
 | a+1,ha,c=>by
  obtain⟨x,d⟩:∃x,S.tr[a]?=some x:=⟨_,aA NW⟩
  have m:S.tr.take (a+1)=S.tr.take a++[x]:=by rw[List.take_add_one,d];rfl
  by_cases b:(x.natAbs:Int)∈T
  ·have n:cr S x=S.mks.length:=by
    obtain⟨y,l,k,j⟩:=cnt_pos.1 c;obtain⟨q,i⟩:=List.getElem?_of_mem l;have g:=(aD.1 i).1;rw[cP] at g;rw[List.getElem?_take_of_lt NW] at i;have B:=rY h i;have o:=rY h d;have A:=Lm (mks:=S.mks) (show q<=a by omega);have w:=Bq S.mks a;have:cr S y=S.mks.length:=by simpa [fB] using j
    omega
   refine⟨a,x,NW,d,b,λq y l k _=>NW,?_,n⟩;rw[m,Bs];have:cnt [x] T (fB S)=1:=by simp[cnt,b,fB,n]
   rw[this]
  ·have e:cnt (S.tr.take (a+1)) T (fB S)=cnt (S.tr.take a) T (fB S):=by
    rw[m,Bs];have:cnt [x] T (fB S)=0:=by simp[cnt,b]
    rw[this];rfl
   rw[e] at c ⊢;obtain⟨p,z,l,k,j,u,t,s⟩:=Bw h a NW c;refine⟨p,z,NW,k,j,λq y r v f=>?_,t,s⟩;by_cases o:q=a
   ·subst o;rw[d] at f;cases f;exact b
   ·exact u q y r NW f
end
section
attribute [local simp high] fq
attribute [local simp] ft fw
theorem Bx {x:Oo} {gh:Ol} {c:Nat} {v6 v7 v28:PV} {x8 x9 x10:Int} {N k:Nat} (h:degr v6=v6/\bj 0 v6=true) (b:degr v7=v7/\bj 0 v7=true) (a:degr v28=v28/\bj 0 v28=true) (d:k<=1000000000) :
  ab pg qbu ⟨[(2,Oe c 0),(6,v6),(7,v7),(8,I x8),(9,I x9),(10,I x10),(28,v28),(29,I N),(30,I k)],[],gh⟩=Og ⟨[(2,Oe c 0),(6,v6),(7,v7),(8,I x8),(9,I x9),(10,I x10),(28,v28),(29,I N),(30,I ((k+1:Nat):Int))],[],gh⟩:=by
 have hw:WI.wrap ((k:Int)+1)=((k+1:Nat):Int):=by rw[aq NW NW];simp
 refine aa ?_;simp only[<-hw];simp[qbu,h,b,a]
structure Lr (H:Hp) (gh:Ol) (S:SS) (c sm:Nat) (v7:PV) (s:LSt):Prop where
 wk:Wk H gh S
 bx:H (.tm 2)=some (c,.cells [Oe S.g 0])
 sm:H (.tm 3)=some (sm,.map (hJ s.T))
 ol:LV H (.tm 4) v7 s.O
 ox:∀b gen n,v7= .stk b gen n->H (.tm 4)=some (b,.stk gen (s.O.map I))
theorem Wk.same {H H':Hp} {c a:Ol} {S:SS} (h:Wk H c S) (e:∀r,(∀i,r≠ .tm i)->H' r=H r) (b:Rp H' a):Wk H' a S:=⟨h.ok.same e,b,h.tk,h.lb⟩
section
variable {S:SS} {c sm bc gen N a:Nat} {f x9:Int} {ys:Oi}
theorem Lq {H:Hp} {gh:Ol} {v7:PV} {s:LSt} {n:Int} {k i:Nat} {cl:Oi} (h:Lr H gh S c sm v7 s) (ao:H (.cl i)=some (bc,.stk gen ((cl++ys).map I))) (hn:cl[k]?=some n) (hN:cl.length=N) (aE:N<=1000000000) (al:n≠0/\n.natAbs<=S.n) (av:s.O.length<=4000000000) (ap:s.op<=4000000000) :
  ∃H' X M,ab pg q1v ⟨[(2,Oe c 0),(6,.mp sm),(7,v7),(8,I s.op),(9,I x9),(10,I f),(28,.stk bc gen N),(29,I N),(30,I k)],[],gh⟩=
   Og ⟨[(2,Oe c 0),(6,.mp sm),(7,M),(8,I (fT S f s n).op),(9,I x9),(10,I f),(28,.stk bc gen N),(29,I N),(30,I ((k+1:Nat):Int))],[],X⟩/\Lr H' X S c sm M (fT S f s n)/\∀r,(∀i,r≠ .tm i)->H' r=H r:=by
 have G:=h.wk.rp;have w:=h.wk.ok;have hT:=h.wk.tk;have j:=G.get ao;have D:=G.get h.bx;have hg:=G.get w.bx;have u:=G.get h.sm;have B:=G.get w.lv;have ax:=hT.nN;have aC:=(aD.1 hn).1;have c0:=kF (ys:=ys) hn;have e1:(k:Int)<(N:Int):=NW;have e2:k<N:=NW;have l:=ny (gh:=gh) (n:=n) NW;have d:=vk s.T (n.natAbs:Int);obtain⟨P,p⟩:∃x,S.lw[n.natAbs]?=some x:=⟨_,aA (by rw[hT.lwl];omega)⟩
 have q:cr S n=P:=by unfold cr;rw[aK,p];rfl
 have e3:(n.natAbs:Int)<(S.n:Int)+1:=NW;have e4:n.natAbs<=S.n:=al.2;have a:=h.ol.one;have A:=Bx (x:=[]) (gh:=gh) (c:=c) (v6:= .mp sm) (v7:=v7) (v28:= .stk bc gen N) (x8:=s.op) (x9:=x9) (x10:=f) (N:=N) (k:=k) ⟨rfl,rfl⟩ ⟨a.2.1,a.2.2.2.2.1⟩ ⟨rfl,rfl⟩ NW;generalize (cl++ys).map I=C at *;unfold fT;by_cases L:n=f
 ·subst L
  rw[if_pos (.inl rfl)];refine⟨H,gh,v7,aa ?_,h,λ_ _=>rfl⟩;simp[q1v,e1,e2,j,c0,l,a,A]
 by_cases U:(n.natAbs:Int)∈s.T
 ·rw[if_pos (.inr (.inl U))]
  rw[if_pos U] at d;refine⟨H,gh,v7,aa ?_,h,λ_ _=>rfl⟩;simp[q1v,e1,e2,j,c0,l,a,A,L,u,d]
 rw[if_neg U] at d;by_cases h3:cr S n=0
 ·rw[if_pos (.inr (.inr h3))]
  have y:P=0:=q▸h3;subst y;refine⟨H,gh,v7,aa ?_,h,λ_ _=>rfl⟩;simp[q1v,e1,e2,j,c0,l,a,A,L,u,d,D,hg,SS.cs,e3,e4,B,p]
 rw[if_neg (λo=>o.elim L λo=>o.elim U h3)];have y:P≠0:=λe=>h3 (by rw[q,e])
 have Q:=KZ U;have F:=G.set h.sm (.map (hJ (s.T++[(n.natAbs:Int)])));have e5:∀r,r≠ .tm 3->upd H (.tm 3) (sm,.map (hJ (s.T++[(n.natAbs:Int)]))) r=H r:=λr hr=>bz _ _ hr
 have w1:Wk _ _ S:=h.wk.same (λr hr=>e5 r (hr 3)) F;have b1:=F.get ((e5 _ NX).trans h.bx);have g1:=F.get w1.ok.bx;have l1:=F.get w1.ok.lv;have m:=w.mks.len;have R:=w.mks.one;have an:(nI S.mks).length=S.mks.length:=NX;rw[an] at m;have z:=λ(g:Ol) (v:PV) (x8:Int) (hv:degr v=v/\bj 0 v=true)=>Bx (x:=[]) (gh:=g) (c:=c) (v6:= .mp sm) (v7:=v) (v28:= .stk bc gen N) (x8:=x8) (x9:=x9) (x10:=f) (N:=N) (k:=k) ⟨rfl,rfl⟩ hv ⟨rfl,rfl⟩ NW
 by_cases h4:cr S n=S.mks.length
 ·rw[if_pos h4]
  have E:P=S.mks.length:=q▸h4;have ad:WI.wrap ((s.op:Int)+1)=((s.op+1:Nat):Int):=by rw[aq NW NW];simp
  have t:=z (hw gh sm (.map (hJ (s.T++[(n.natAbs:Int)])))) v7 ((s.op+1:Nat):Int) ⟨a.2.1,a.2.2.2.2.1⟩;refine⟨_,_,v7,aa ?J,⟨w1,(e5 _ NX).trans h.bx,ec ..,h.ol.same (e5 _ NX),λb gen n e=>(e5 _ NX).trans (h.ox b gen n e)⟩,λr hr=>e5 r (hr 3)⟩
  case J=>
   rw[<-E] at m;simp only[<-ad] at t ⊢;simp[q1v,e1,e2,j,c0,l,a,L,u,d,D,hg,SS.cs,e3,e4,B,p,y,Q,b1,g1,l1,m,R,t]
 ·rw[if_neg h4]
  have E:P≠S.mks.length:=λe=>h4 (by rw[q,e])
  have aB:=MB;obtain⟨a1,x1,r2,k1⟩:=(h.ol.same (e5 _ NX)).app F n NW;have e6:∀r,r≠ .tm 3->r≠ .tm 4->upd (upd H (.tm 3) (sm,.map (hJ (s.T++[(n.natAbs:Int)])))) (.tm 4) x1 r=H r:=λr q1 q2=>(bz _ _ q2).trans (e5 r q1)
  have w2:Wk _ _ S:=h.wk.same (λr hr=>e6 r (hr 3) (hr 4)) r2;have ho:=(show LV _ _ _ _ from .inr k1).one;have t:=z (apH (hw gh sm (.map (hJ (s.T++[(n.natAbs:Int)])))) v7 n) (apV (hw gh sm (.map (hJ (s.T++[(n.natAbs:Int)])))) v7) s.op ⟨ho.2.1,ho.2.2.2.2.1⟩;refine⟨_,_,_,aa ?Z,⟨w2,(e6 _ NX NX).trans h.bx,(bz _ _ NX).trans (ec ..),.inr k1,(h.ol.same (e5 _ NX)).appx F r2 k1⟩,λr hr=>e6 r (hr 3) (hr 4)⟩
  case Z=>
   simp[q1v,e1,e2,j,c0,l,a,L,u,d,D,hg,SS.cs,e3,e4,B,p,y,Q,b1,g1,l1,m,R,E,a1,ho,t]
end
end
section
attribute [local simp high] fq
attribute [local simp] ft fw
section
variable {S:SS} {c sm bc gen N:Nat} {f x9:Int} {ys:Oi}
theorem Lu (S:SS) (f:Int) (s:LSt) (n:Int):(fT S f s n).O.length<=s.O.length+1/\(fT S f s n).op<=s.op+1:=by
 unfold fT;split
 ·exact⟨NW,NW⟩
 ·split
  ·exact⟨by show s.O.length<=_;omega,cU _⟩
  ·exact⟨by show (s.O++[n]).length<=_;simp,by show s.op<=_;omega⟩
theorem By {i:Nat} {a:Oi} (t:a.length=N) (j:N<=1000000000) (hr:∀n∈a,n≠0/\n.natAbs<=S.n):∀(m k:Nat) (H:Hp) (d:Ol) (v7:PV) (s:LSt),k+m=N->Lr H d S c sm v7 s->H (.cl i)=some (bc,.stk gen ((a++ys).map I))->s.O.length+m<=4000000000->s.op+m<=4000000000->
  ∃u l e,ab pg qg1 ⟨[(2,Oe c 0),(6,.mp sm),(7,v7),(8,I s.op),(9,I x9),(10,I f),(28,.stk bc gen N),(29,I N),(30,I k)],[],d⟩=
   Og ⟨[(2,Oe c 0),(6,.mp sm),(7,e),(8,I ((a.drop k).foldl (fT S f) s).op),(9,I x9)],[],l⟩/\Lr u l S c sm e ((a.drop k).foldl (fT S f) s)/\∀r,(∀i,r≠ .tm i)->u r=H r
 |0,k,H,d,v7,s,E,h,_,_,_=>by
  have F:a.drop k=[]:=aM NW;have p:=h.ol.one;rw[F];have:k=N:=NW;subst this;refine⟨H,d,v7,(bn (s1:=⟨[(2,Oe c 0),(6,.mp sm),(7,v7),(8,I s.op),(9,I x9),(10,I f),(28,.stk bc gen k),(29,I k),(30,I k),(31,B false)],[],d⟩) (aa ?_)).trans ?_,h,λ_ _=>rfl⟩
  ·simp[q1v]
  ·simp[p]
 | m+1,k,H,d,v7,s,E,h,g,Q,D=>by
  have b:k<a.length:=NW;obtain⟨n,hn⟩:∃n,a[k]?=some n:=⟨_,aA b⟩
  obtain⟨P,L,w,C,A,q⟩:=Lq (x9:=x9) (f:=f) h g hn t j (hr n (aL hn)) NW NW;have R:=Lu S f s n;obtain⟨M,G,v,z,y,x⟩:=By t j hr m (k+1) P L w (fT S f s n) NW A ((q _ NX).trans g) NW NW;have o:a.drop k=n::a.drop (k+1):=by rw[aJ b];rw[aA b] at hn;rw[cX hn]
  rw[o];exact⟨M,G,v,(ay C rfl).trans z,y,λr hr=>(x r hr).trans (q r hr)⟩
theorem Lv {H:Hp} {i:Ol} {v7:PV} {s:LSt} (h:Lr H i S c sm v7 s) {p:Nat} {x:Int} (M:S.tr[p]?=some x) (R:(x.natAbs:Int)∈s.T):∀(m a:Nat),a=p+m->a<S.tr.length->(∀q y,p<q->q<=a->S.tr[q]?=some y->(y.natAbs:Int)∉s.T)->
  ab pg qg2 ⟨[(2,Oe c 0),(6,.mp sm),(7,v7),(8,I s.op),(9,I a)],[],i⟩=Og ⟨[(2,Oe c 0),(6,.mp sm),(7,v7),(8,I s.op),(9,I p)],[],i⟩:=by
 have u:=h.wk.rp;have t:=h.wk.ok;have D:=h.wk.tk;have o:=u.get h.bx;have N:=u.get t.bx;have n:=u.get h.sm;have X:=D.nN;have U:=D.tlen;have j:=(aD.1 M).1;obtain⟨b,gen,ys,L,hb⟩:=t.tr.resolve_left (λe=>by rw[e.1] at j;simp at j);have l:=u.get hb;have f:=h.ol.one;have d:∀{q:Nat} {y:Int},S.tr[q]?=some y->((S.tr++ys).map I)[q]?=some (I y)/\ac pg 187 [I y] i=some (I y.natAbs,i)/\(q:Int)<(S.tr.length:Int):=λ{q y} w=>by have:=(D.t0 y (aL w)).2;have:=(aD.1 w).1;exact⟨kF w,ny NW,NW⟩
 generalize (S.tr++ys).map I=C at *;intro m
 induction m with
 |zero=>
  intro a ha _ _;have:a=p:=NW;subst this;obtain⟨F,g,E⟩:=d M;have r:=vk s.T (x.natAbs:Int);rw[if_pos R] at r;refine (bn (s1:=⟨[(2,Oe c 0),(6,.mp sm),(7,v7),(8,I s.op),(9,I a),(86,B false)],[],i⟩) (aa ?_)).trans ?_
  ·simp[qbv,o,N,SS.cs,L,E,l,F,g,n,r,f]
  ·simp[f]
 |succ m Q=>
  intro a ha A hn;obtain⟨y,G⟩:∃y,S.tr[a]?=some y:=⟨_,aA A⟩
  obtain⟨F,g,E⟩:=d G;have v:=hn a y NW (cU _) G;have r:=vk s.T (y.natAbs:Int);rw[if_neg v] at r;obtain⟨a,rfl⟩:∃k,a=k+1:=⟨a-1,NW⟩
  have hw:WI.wrap (((a+1:Nat):Int)-1)=(a:Int):=by rw[aq NW NW];omega
  refine (ay (aa ?_) rfl).trans (Q a NW NW λq z P q2 O=>hn q z P NW O);generalize a+1=a' at *;simp[qbv,o,N,SS.cs,L,E,l,F,g,n,r,f,hw]
end
end
section
attribute [local simp high] fq
attribute [local simp] ft fw
section
variable {S:SS} {c sm:Nat}
theorem Lx {H:Hp} {gh:Ol} {v7:PV} {s:LSt} (h:Lr H gh S c sm v7 s) {p:Nat} {x:Int} (r:S.tr[p]?=some x) (U:1<=s.op) (M:s.op<=1000000000) :
  ab pg q7p ⟨[(2,Oe c 0),(6,.mp sm),(7,v7),(8,I s.op),(9,I p)],[],gh⟩=
   if s.op=1 then some (.exit 0,⟨[(2,Oe c 0),(6,.mp sm),(7,v7),(8,I 0),(9,I ((p:Int)-1)),(10,I x),(101,B true)],[],gh⟩)
   else Og ⟨[(1,I (S.bv.getD x.natAbs 0)),(2,Oe c 0),(6,.mp sm),(7,v7),(8,I ((s.op-1:Nat):Int)),(9,I ((p:Int)-1)),(10,I x)],[],gh⟩:=by
 have q:=h.wk.rp;have d:=h.wk.ok;have m:=h.wk.tk;have j:=q.get h.bx;have A:=q.get d.bx;have t:=q.get d.bb;have N:=m.nN;have L:=m.tlen;have g:=(aD.1 r).1;obtain⟨b,P,ys,z,O⟩:=d.tr.resolve_left (λe=>by rw[e.1] at g;simp at g);have i:=q.get O;have k:=h.ol.one;have G:=(m.t0 x (aL r)).2;have F:=kF (ys:=ys) r;have v:=ny (gh:=gh) (n:=x) NW;have E:(p:Int)<(S.tr.length:Int):=NW;have f:WI.wrap ((p:Int)-1)=(p:Int)-1:=aq NW NW;have a:WI.wrap ((s.op:Int)-1)=((s.op-1:Nat):Int):=by rw[aq NW NW];omega
 obtain⟨R,l⟩:∃y,S.bv[x.natAbs]?=some y:=⟨_,aA (by rw[m.bvl];omega)⟩
 have u:S.bv.getD x.natAbs 0=R:=by rw[aK,l];rfl
 have Q:(x.natAbs:Int)<(S.n:Int)+1:=NW;generalize (S.tr++ys).map I=C at *;rw[u];by_cases D:s.op=1
 ·rw[if_pos D]
  have w:s.op-1=0:=NW;rw[w] at a;refine aa ?_;simp[q7p,j,A,SS.cs,z,E,i,F,k,f,a]
 ·rw[if_neg D]
  have w:s.op-1≠0:=NW;refine aa ?_;generalize s.op-1=T at *;simp[q7p,j,A,SS.cs,z,E,i,F,k,f,a,w,t,l,v,Q]
theorem Ly {H:Hp} {gh:Ol} {v7:PV} {s:LSt} {a i:Nat} {f:Int} {m:Oi} (h:Lr H gh S c sm v7 s) (L:LrI S a s) (ha:a<=S.tr.length) (hl:S.ls[i]?=some m) (al:∀n∈m,n≠f-> -n∈S.tr.take a)
  (aB:(∃n∈m,n≠f/\cr S n=S.mks.length)\/1<=s.op) (aI:1<=S.mks.length) (U:m≠[]) :
  ∃H' M u P p x,Lr H' M S c sm u P/\(∀r,(∀i,r≠ .tm i)->H' r=H r)/\LrI S p P/\p<a/\S.tr[p]?=some x/\cr S x=S.mks.length/\(x.natAbs:Int)∈P.T/\
   ((ab pg q4i ⟨[(1,I i),(2,Oe c 0),(6,.mp sm),(7,v7),(8,I s.op),(9,I ((a:Int)-1)),(10,I f)],[],gh⟩=some (.exit 0,⟨[(2,Oe c 0),(6,.mp sm),(7,u),(8,I 0),(9,I ((p:Int)-1)),(10,I x),(101,B true)],[],M⟩))\/
     ∃(j:Nat) (l:Oi),ab pg q4i ⟨[(1,I i),(2,Oe c 0),(6,.mp sm),(7,v7),(8,I s.op),(9,I ((a:Int)-1)),(10,I f)],[],gh⟩=Og ⟨[(1,I j),(2,Oe c 0),(6,.mp sm),(7,u),(8,I P.op),(9,I ((p:Int)-1)),(10,I x)],[],M⟩/\
     1<=P.op/\S.ls[j]?=some l/\x∈l/\∀n∈l,n≠x-> -n∈S.tr.take p):=by
 have hR:=h.wk.rp;have G:=h.wk.ok;have d:=h.wk.tk;have ad:=hR.get h.bx;have hg:=hR.get G.bx;have aM:=d.nN;have aJ:=d.tlen;have g:=aL hl;have aC:i<S.cp.length:=by rw[G.cll];exact (aD.1 hl).1
 obtain⟨v9,hv⟩:∃v,S.cp[i]?=some v:=⟨_,aA aC⟩
 obtain⟨bc,gen,ys,rfl,hb⟩:=(G.cl i v9 _ hv hl).resolve_left (λe=>U e.1);have aH:m.length<=S.n:=by
  have t:=jt S.n (m.map λx=>x.natAbs-1) (by
   rw[List.Nodup,List.pairwise_map];refine List.Pairwise.imp_of_mem (λ{p q} hp A C=>?_) (d.ld _ g);have:=d.l0 _ g p hp;have:=d.l0 _ g q A;unfold Vne at C;omega) (λx hx=>by
   obtain⟨y,hy,rfl⟩:=List.mem_map.1 hx;have:=d.l0 _ g y hy;omega)
  simpa using t
 have aN:s.O.length<=S.n:=by
  have t:=jt S.n (s.O.map λx=>x.natAbs-1) (by
   rw[List.Nodup,List.pairwise_map];refine List.Pairwise.imp_of_mem (λ{p q} hp A C=>?_) L.o2;have:=d.t0 _ (L.o1 p hp).1;have:=d.t0 _ (L.o1 q A).1;unfold Vne at C;omega) (λx hx=>by
   obtain⟨y,hy,rfl⟩:=List.mem_map.1 hx;have:=d.t0 _ (L.o1 y hy).1;omega)
  simpa using t
 have aG:s.op<=S.n:=by rw[L.c];unfold cnt;have:=List.length_filter_le (λx=>decide ((x.natAbs:Int)∈s.T)&&fB S x) (S.tr.take a);rw[cP] at this;omega
 -- the clause is marked
 obtain⟨H1,N,w,q1,o,q3⟩:=By (x9:=(a:Int)-1) (f:=f) (ys:=ys) (c:=c) (sm:=sm) (bc:=bc) (gen:=gen) (i:=i) (rfl:m.length=m.length) NW (d.l0 _ g) m.length 0 H gh v7 s NW h hb NW NW;rw[bJ] at q1 o;obtain⟨z,i2,i3⟩:=Bv d m L al;generalize aK:m.foldl (fT S f) s=b at *;have an:1<=cnt (S.tr.take a) b.T (fB S):=by
  rcases aB with ⟨n,t,h2,h3⟩|t
  ·exact cnt_pos.2 ⟨-n,al n t h2,by rw[Int.natAbs_neg];exact i2 n t h2 NW,by simp[fB,nz,h3]⟩
  ·rw[L.c] at t
   obtain⟨y,h2,h3,h4⟩:=cnt_pos.1 t;exact cnt_pos.2 ⟨y,h2,i3 _ h3,h4⟩
 obtain⟨p,x,p1,R,p3,p4,p5,p6⟩:=Bw d a ha an;have D:=Lv o R p3 (a-1-p) (a-1) NW NW (λq y u1 u2 u3=>p4 q y u1 NW u3);have ap:b.op<=S.n:=by rw[z.c];unfold cnt;have:=List.length_filter_le (λx=>decide ((x.natAbs:Int)∈b.T)&&fB S x) (S.tr.take a);rw[cP] at this;omega
 have av:1<=b.op:=by rw[z.c];exact an
 have k:=Lx o R av NW;have e1:(((a-1:Nat):Int))=(a:Int)-1:=NW;rw[e1] at D;have aE:=o.ol.one;have X:LrI S p ⟨b.T,b.O,b.op-1⟩:=⟨by show b.op-1=_;rw[z.c,p5];rfl,z.o1,z.o2,z.o3⟩
 have Q:Lr H1 N S c sm w ⟨b.T,b.O,b.op-1⟩:=⟨o.wk,o.bx,o.sm,o.ol,o.ox⟩
 rw[show ((0:Nat):Int)=0 from rfl] at q1;by_cases ho:b.op=1
 ·rw[if_pos ho] at k
  refine⟨H1,N,w,_,p,x,Q,q3,X,p1,R,p6,p3,.inl (aa ?J)⟩
  case J=>
   have E:ab pg q4h ⟨[(2,Oe c 0),(6,.mp sm),(7,w),(8,I b.op),(9,I ((a:Int)-1))],[],N⟩=some (.exit 0,⟨[(2,Oe c 0),(6,.mp sm),(7,w),(8,I 0),(9,I ((p:Int)-1)),(10,I x),(101,B true)],[],N⟩):=
    aa (by simp[q4h,D,k])
   simp[q4i,ad,hg,SS.cs,hv,h.ol.one,q1,E]
 ·rw[if_neg ho] at k
  have aF:1<=cnt (S.tr.take p) b.T (fB S):=by have:=z.c;omega
  -- it was not chosen, for there is another of its level ahead of it
  obtain⟨y,y1,y2,y3⟩:=cnt_pos.1 aF;obtain⟨q,A⟩:=List.getElem?_of_mem y1;have ao:=(aD.1 A).1;rw[cP] at ao;rw[List.getElem?_take_of_lt NW] at A;have F:=Br (mks:=S.mks) (p:=q) (by
   have:=rY d A;have:cr S y=S.mks.length:=by simpa [fB] using y3
   omega)
  have ax:p∉S.mks:=λhm=>by have:=F p hm;omega
  obtain⟨j,l,j1,j2,j3,j4⟩:=(d.rs p x R).resolve_left ax;refine⟨H1,N,w,_,p,x,Q,q3,X,p1,R,p6,p3,.inr ⟨j,l,aa ?Z,by show 1<=b.op-1;omega,j2,j3,j4⟩⟩
  case Z=>
   rw[j1] at k
   have E:ab pg q4h ⟨[(2,Oe c 0),(6,.mp sm),(7,w),(8,I b.op),(9,I ((a:Int)-1))],[],N⟩=Og ⟨[(1,I j),(2,Oe c 0),(6,.mp sm),(7,w),(8,I ((b.op-1:Nat):Int)),(9,I ((p:Int)-1)),(10,I x)],[],N⟩:=
    aa (by simp[q4h,D,k])
   simp[q4i,ad,hg,SS.cs,hv,h.ol.one,q1,E,aE]
end
end
section
variable {H:Hp} {gh:Ol} {s:LSt}
attribute [local simp high] fq
attribute [local simp] ft fw
section
variable {S:SS} {c sm:Nat}
theorem Bz (b:1<=S.mks.length):∀(m a:Nat) (H:Hp) (gh:Ol) (v7:PV) (s:LSt) (i:Nat) (f:Int) (q:Oi),a<=m->Lr H gh S c sm v7 s->LrI S a s->a<=S.tr.length->S.ls[i]?=some q->(∀n∈q,n≠f-> -n∈S.tr.take a)->
  ((∃n∈q,n≠f/\cr S n=S.mks.length)\/1<=s.op)->q≠[]->
  ∃M o d D p x,ab pg qg3 ⟨[(1,I i),(2,Oe c 0),(6,.mp sm),(7,v7),(8,I s.op),(9,I ((a:Int)-1)),(10,I f)],[],gh⟩=Og ⟨[(2,Oe c 0),(7,d),(10,I x)],[],o⟩/\
   Lr M o S c sm d D/\(∀r,(∀i,r≠ .tm i)->M r=H r)/\LrI S p D/\S.tr[p]?=some x/\cr S x=S.mks.length
 | m,a,H,gh,v7,s,i,f,q,hm,h,hI,ha,hl,z,w,y=>by
  obtain⟨L,G,B,C,p,x,v,F,E,q4,q5,q6,q7,g⟩:=Ly h hI ha hl z w b y;rcases g with g|⟨j,A,g,q9,u,l,t⟩
  ·have hd:=v.ol.one
   exact⟨L,G,B,C,p,x,(bn g).trans (by simp[hd]),v,F,E,q5,q6⟩
  ·obtain⟨m,rfl⟩:∃k,m=k+1:=⟨m-1,NW⟩
   obtain⟨H2,g2,O,P,p2,N,r1,X,U,T,R,Q⟩:=Bz b m p L G B C j x A NW v E NW u t (.inr q9) (λe=>by rw[e] at l;cases l);exact⟨H2,g2,O,P,p2,N,(ay g rfl).trans r1,X,λr hr=>(U r hr).trans (F r hr),T,R,Q⟩
theorem Lz {v7:PV} {p:Nat} (h:Lr H gh S c sm v7 s) (v:LrI S p s) :
  ∃M w O,ac pg 190 [v7,.fn 189 [Oe c 0]] gh=some (.tup [],w)/\Lr M w S c sm v7 ⟨s.T,O,s.op⟩/\O.Perm s.O/\(O.Pairwise λx y=>cr S y<=cr S x)/\∀r,(∀i,r≠ .tm i)->M r=H r:=by
 have o:=h.wk.rp;have u:=h.wk.ok;have d:=h.wk.tk;have m:=o.get h.bx;have F:=o.get u.bx;have l:=o.get u.lv;have ad:=d.nN;have j:gj (S.lw.map I)=some S.lw:=oo S.lw;have L:ac pg 190 [v7,.fn 189 [Oe c 0]] gh=libSortLv [v7,.fn 189 [Oe c 0]] gh:=rfl;rcases h.ol with ⟨e1,rfl⟩|⟨b,a,ys,rfl,hb⟩
 ·refine⟨H,gh,[],?_,⟨h.wk,h.bx,h.sm,.inl ⟨rfl,rfl⟩,λ_ _ _ e=>by cases e⟩,by rw[e1],List.Pairwise.nil,λ_ _=>rfl⟩
  rw[L];simp only[libSortLv,show gh[c]?=_ from m,show gh[S.g]?=_ from F,SS.cs,show gh[S.lv]?=_ from l,j,cH]
 ·have f:=h.ox b a _ rfl
  have D:=o.get f;have t:∀z∈s.O,z.natAbs<S.n+1:=λz U=>by have:=(d.t0 _ (v.o1 z U).1).2;omega
  obtain⟨E,R⟩:=Gk (ls:=S.lw) t;have A:gj (s.O.map I)=some s.O:=oo s.O;have al:s.O.length<=S.n:=by
   have h1:=jt S.n (s.O.map λx=>x.natAbs-1) (by
    rw[List.Nodup,List.pairwise_map];refine List.Pairwise.imp_of_mem (λ{p q} hp hq B=>?_) v.o2;have:=d.t0 _ (v.o1 p hp).1;have:=d.t0 _ (v.o1 q hq).1;unfold Vne at B;omega) (λx f=>by
    obtain⟨y,X,rfl⟩:=List.mem_map.1 f;have:=d.t0 _ (v.o1 y X).1;omega)
   simpa using h1
  have C:qT S.n S.lw s.O=true:=by simp only[qT,aS,aH,bV];exact⟨⟨d.lwl,λx f=>d.lwb x f⟩,t⟩
  have N:=o.set f (.stk a ((jH S.n S.lw s.O).map I));have e:∀r,r≠ .tm 4->upd H (.tm 4) (b,.stk a ((jH S.n S.lw s.O).map I)) r=H r:=λr hr=>bz _ _ hr
  have k:=E.length_eq;refine⟨_,hw gh b (.stk a ((jH S.n S.lw s.O).map I)),jH S.n S.lw s.O,?_,⟨h.wk.same (λr hr=>e r (hr 4)) N,(e _ NX).trans h.bx,(e _ NX).trans h.sm,.inr ⟨b,a,[],by rw[k],by rw[ec];simp⟩,λb' G n' e'=>?_⟩,E,R,λr hr=>e r (hr 4)⟩
  ·rw[L]
   simp only[libSortLv,show gh[c]?=_ from m,show gh[S.g]?=_ from F,SS.cs,show gh[S.lv]?=_ from l,j,cH,show gh[b]?=_ from D,A];rw[if_pos ⟨trivial,NX,NW,NW,by rw[d.lwl],by simpa using C⟩];rfl
  ·injection e' with Q P q3
   subst Q;subst P;rw[ec]
theorem LV.els {H:Hp} {r:Ro} {v:PV} {c:Oi} {a:Ol} (h:LV H r v c) (f:Rp H a):gH a v=some (c.map I):=by
 rcases h with ⟨rfl,rfl⟩|⟨b,g,i,rfl,e⟩
 ·rfl
 ·have d:=f.get e
  simp only[Gp,show a[b]?=_ from d];rw[if_pos ⟨trivial,NX⟩,bI,List.take_left' (aW ..)]
theorem LA {v7:PV} {x L:Int} (h:Lr H gh S c sm v7 s) (w:x.natAbs<=1000000000) (y:s.O.length<=1000000000) :
  ∃k f v,ab pg qbw ⟨[(7,v7),(10,I x),(14,I L)],[],gh⟩=Oh ⟨[(4,v),(5,I L)],[],f⟩/\Rp k f/\KV k (.tm 0) v (-x::s.O)/\∀r,r≠ .tm 0->k r=H r:=by
 have m:=h.wk.rp;have q:=MB;have l:=m.new (.tm 0) (.stk 0 [I (-x)]);have a:LV (upd H (.tm 0) (gh.length,.stk 0 [I (-x)])) (.tm 4) v7 s.O:=h.ol.same (bz _ _ NX);have j:fO gh.length v7=true:=by
  rcases a with ⟨-,rfl⟩|⟨u,n,o,rfl,i⟩
  ·rfl
  ·have:u≠gh.length:=λe=>by subst e;exact absurd (l.inj i (ec ..)) NX
   simpa [fO] using this
 have d:=a.els l;have t:=a.one;have hw:WI.wrap (-x)= -x:=aq NW NW;have g:(1+s.O.length)*8<=maxBytes:=NW;have p:=m.new (.tm 0) (.stk 1 (I (-x)::s.O.map I));refine⟨_,ha gh (.stk 1 (I (-x)::s.O.map I)),.stk gh.length 1 (1+s.O.length),aa ?_,p,⟨gh.length,1,[],by simp[Nat.add_comm],by rw[ec];simp⟩,λr hr=>bz _ _ hr⟩;simp[qbw,hw,t,d,j,g]
theorem LC {i:Nat} {G:Oi} (h:Wk H gh S) (hl:S.ls[i]?=some G) (aD:∀n∈G,-n∈S.tr) (U:∃n∈G,cr S n=S.mks.length) (u:1<=S.mks.length) :
  ∃H' F v x,∃p L:Nat,∃O:Oi,ac pg 179 [Oe S.g 0,I i] gh=some (.tup [v,I L],F)/\Wk H' F S/\KV H' (.tm 0) v (-x::O)/\(∀r,(∀i,r≠ .tm i)->H' r=H r)/\S.tr[p]?=some x/\cr S x=S.mks.length/\
   L<S.mks.length/\O.Pairwise Vne/\∀y∈O,-y∈S.tr/\0<cr S y/\cr S y<=L:=by
 have l:=h.tk;have hR:=h.rp;have o:=h.ok;have hg:=hR.get o.bx;have aO:=l.nN;have aN:=l.tlen;have al:=o.tr.len;have ad:=o.tr.one;have r1:=hR.new (.tm 2) (.cells [Oe S.g 0]);have M:=r1.new (.tm 3) (.map []);have e2:∀r,(∀i,r≠ .tm i)->upd (upd H (.tm 2) (gh.length,.cells [Oe S.g 0])) (.tm 3) ((ha gh (.cells [Oe S.g 0])).length,.map []) r=H r:=λr hr=>(bz _ _ (hr 3)).trans (bz _ _ (hr 2))
 have w2:=h.same e2 M;have L2:Lr _ _ S gh.length (ha gh (.cells [Oe S.g 0])).length .nils ⟨[],[],0⟩:=⟨w2,(bz _ _ NX).trans (ec ..),ec ..,.inl ⟨rfl,rfl⟩,λ_ _ _ e=>by cases e⟩
 obtain⟨n0,k,X⟩:=U
 obtain⟨H3,g3,v7,s3,p,x,q1,q2,q3,N,q5,q6⟩:=Bz u S.tr.length S.tr.length _ _ _ _ i 0 G (cU _) L2 ⟨by unfold cnt;rw[List.filter_eq_nil_iff.2 (λa _=>NX)];rfl,λ_ d=>(by cases d),List.Pairwise.nil,λ_ d=>(by cases d)⟩ (cU _) hl (λn hn _=>by rw[List.take_length];exact aD n hn)
  (.inl ⟨n0,k,λe=>(l.l0 _ (aL hl) n0 k).1 e,X⟩) (λe=>by rw[e] at k;cases k)
 obtain⟨H4,g4,O,u1,f,u3,u4,u5⟩:=Lz q2 N;have c:∀y∈O,-y∈S.tr/\0<cr S y/\cr S y<S.mks.length:=λy d=>N.o1 y (u3.mem_iff.1 d)
 have D:O.Pairwise Vne:=(u3.pairwise_iff (λ{a b} h=>λe=>h e.symm)).2 N.o2;have aP:O.length<=S.n:=by
  have h1:=jt S.n (O.map λx=>x.natAbs-1) (by
   rw[List.Nodup,List.pairwise_map];refine List.Pairwise.imp_of_mem (λ{p q} hp hq T=>?_) D;have:=l.t0 _ (c p hp).1;have:=l.t0 _ (c q hq).1;unfold Vne at T;omega) (λx hx=>by
   obtain⟨y,d,rfl⟩:=List.mem_map.1 hx;have:=l.t0 _ (c y d).1;omega)
  simpa using h1
 have aM:=(l.t0 x (aL q5)).2
 -- the level to go back to
 obtain⟨L,aH,aG,E⟩:∃L:Nat,L<S.mks.length/\(∀y∈O,cr S y<=L)/\(match O with|[]=>(0:Int)|y::_=>cr S y)=(L:Int):=by
  rcases O with _|⟨y,O⟩
  ·exact⟨0,u,λ_ d=>(by cases d),rfl⟩
  ·have h1:=c y (aZ ..)
   refine⟨(cr S y).toNat,NW,λz w=>?_,by show cr S y=_;omega⟩;rcases List.mem_cons.1 w with rfl|w
   ·omega
   ·have:=(List.pairwise_cons.1 u4).1 z w;omega
 obtain⟨H5,g5,v,P,k2,k3,k4⟩:=LA (L:=(L:Int)) (x:=x) f NW (by show O.length<=_;omega);have ax:=f.wk.rp.get f.bx;have aB:=f.wk.rp.get f.wk.ok.bx;have av:=f.wk.rp.get f.wk.ok.lv;have hd:=f.ol.one;have t:=f.ol.len;have j:∀r,(∀i,r≠ .tm i)->H5 r=H r:=λr hr=>(k4 r (hr 0)).trans ((u5 r hr).trans ((q3 r hr).trans (e2 r hr)))
 have ap:ab pg q7q ⟨[(2,Oe gh.length 0),(7,v7),(10,I x)],[],g3⟩=Oh ⟨[(4,v),(5,I L)],[],g5⟩:=by
  refine aa ?_;rcases O with _|⟨y,O⟩
  ·have:L=0:=by have h0:(0:Int)=L:=E;omega
   subst this;rw[show ((0:Nat):Int)=0 from rfl] at P ⊢;simp[q7q,u1,hd,t,P]
  ·obtain⟨b,aI,ys,A,hb⟩:=f.ol.resolve_left (λe=>by cases e.1)
   have B:=f.wk.rp.get hb;have c0:(((y::O)++ys).map I)[0]?=some (I y):=rfl;have aJ:y.natAbs<=S.n:=by have:=l.t0 _ (c y (aZ ..)).1;omega
   have aF:=ny (gh:=g4) (n:=y) NW;have e3:(y.natAbs:Int)<(S.n:Int)+1:=NW;obtain⟨z,w⟩:∃z,S.lw[y.natAbs]?=some z:=⟨_,aA (by rw[l.lwl];omega)⟩
   have ao:cr S y=z:=by unfold cr;rw[aK,w];rfl
   have Q:z=(L:Int):=ao▸E;subst Q;obtain⟨m,hm⟩:∃m,(y::O).length=m:=⟨_,rfl⟩
   have R:v7= .stk b aI m:=hm▸A;have an:0<m:=by rw[<-hm];simp
   have e4:(0:Int)<(m:Int):=NW;clear A t;subst R;generalize ((y::O)++ys).map I=C at *;simp[q7q,u1,an,ax,aB,SS.cs,B,c0,aF,e3,av,w,P]
 refine⟨H5,g5,v,x,p,L,O,ak (fn:=q7r) (s:=⟨[(4,v),(5,I L)],[],g5⟩) rfl rfl (aa ?J) ?Z,h.same j k2,k3,j,q5,q6,aH,D,λy d=>⟨(c y d).1,(c y d).2.1,aG y d⟩⟩
 case J=>
  have hw:WI.wrap ((S.tr.length:Int)-1)=(S.tr.length:Int)-1:=aq NW NW;have aC:=M.get ((bz _ _ NX).trans ((bz _ _ NX).trans o.bx):upd (upd H (.tm 2) (gh.length,.cells [Oe S.g 0])) (.tm 3) ((ha gh (.cells [Oe S.g 0])).length,.map []) .bx=_);have aE:=M.get ((bz _ _ NX).trans (ec ..):upd (upd H (.tm 2) (gh.length,.cells [Oe S.g 0])) (.tm 3) ((ha gh (.cells [Oe S.g 0])).length,.map []) (.tm 2)=_);simp only[gA,show ((0:Nat):Int)=0 from rfl] at q1;simp[q7r,qg4,aE,aC,SS.cs,al,ad,hw,q1,ap]
 case Z=>
  have:=(show LV _ _ _ _ from .inr k3).one;simp[ag,results,q7r,ah,am,af,this]
end
end
section
attribute [local simp high] fq
attribute [local simp] ft fw
theorem BA {H:Hp} {b:Ol} {S:SS} (h:Wk H b S) (i:S.pr.length<=1000000) :
  ∃c a,ac pg 176 [Oe S.g 0] b=some (.agg [I 2,NZ [],NZ (S.pr++[.nils])],a)/\Rp c a/\∀r,r≠ .bx->c r=H r:=by
 have f:=h.rp.get h.ok.bx;have e:=MB;have d:(S.pr.length+1)*24<=maxBytes:=NW;refine⟨_,_,ak (fn:=q7n) (s:=?J) rfl rfl (aa ?Z) ?Y,h.rp.set h.ok.bx (.cells [I S.n,Oa S.cp,.mp S.wm,.bs true S.so 0 (S.n+1) 1,.bs true S.bb 0 (S.n+1) 1,.bs true S.lv 0 (S.n+1) 1,S.tp,S.mp,I S.hd,I S.fr,I S.fu,NZ S.pr,B S.fa]),λr hr=>bz _ _ hr⟩
 case Z=>simp[q7n,qg0,f,SS.cs,ff,d,au];rfl
 case Y=>simp[ag,results,q7n,ah,am,af]
theorem TOk.add {S:SS} (h:TOk S) {l:Oi} (g:∀x∈l,x≠0/\x.natAbs<=S.n) (e:l.Pairwise Vne) (v:PV) (F:List (Int×PV)) (wl:Int->Oq):TOk {S.clause v l with F:=F,wl:=wl }:=by
 refine {h with l0:=λk a=>?_,ld:=λk a=>?_,rs:=λp x d=>?_ }
 ·rcases cE.1 a with a|a
  ·exact h.l0 k a
  ·rw[List.mem_singleton.1 a];exact g
 ·rcases cE.1 a with a|a
  ·exact h.ld k a
  ·rw[List.mem_singleton.1 a];exact e
 ·rcases h.rs p x d with b|⟨i,k,b,c,f⟩
  ·exact .inl b
  ·refine .inr ⟨i,k,b,?_,f⟩
   show (S.ls++[l])[i]?=some k
   rw[aI (aD.1 c).1];exact c
theorem WOk.add {f:Oj} {g:Int->Oq} (h:WOk f g) {l:Oi} (x:l.Pairwise Vne):WOk (f++[l]) (iB g f.length l):=by
 have j:∀{n:Int} {i:Nat},i∈g n->∃a b c,(f++[l])[i]?=some (a::b::c)/\(n=a\/n=b):=λ{n i} d=>by obtain⟨a,b,c,o,y⟩:=(h n).2 i d;exact⟨a,b,c,by rw[aI (aD.1 o).1];exact o,y⟩
 have r:∀{n:Int},f.length∉g n:=λ{n} d=>by obtain⟨a,b,c,o,-⟩:=(h n).2 _ d;have:=(aD.1 o).1;omega
 rcases l with _|⟨a,_|⟨b,l⟩⟩
 ·exact λn=>⟨(h n).1,λi d=>j d⟩
 ·exact λn=>⟨(h n).1,λi d=>j d⟩
 ·have s:b≠a:=λe=>(List.pairwise_cons.1 x).1 b NX (by rw[e])
  intro n
  show (if n=b then (if b=a then g a++[f.length] else g b)++[f.length] else if n=a then g a++[f.length] else g n).Nodup/\∀i∈(if n=b then (if b=a then g a++[f.length] else g b)++[f.length] else if n=a then g a++[f.length] else g n),_
  rw[if_neg s];have new:∀{m:Int},(g m++[f.length]).Nodup:=λ{m}=>cR.2 ⟨(h m).1,NX,λp w q v e=>by rw[List.mem_singleton.1 v] at e;exact r (e▸w)⟩
  have k:(f++[a::b::l])[f.length]?=some (a::b::l):=List.getElem?_concat_length ..;by_cases u:n=b
  ·rw[if_pos u]
   subst u;refine⟨new,λi d=>?_⟩;rcases cE.1 d with d|d
   ·exact j d
   ·rw[List.mem_singleton.1 d];exact⟨a,n,l,k,.inr rfl⟩
  ·rw[if_neg u]
   by_cases t:n=a
   ·rw[if_pos t]
    subst t;refine⟨new,λi d=>?_⟩;rcases cE.1 d with d|d
    ·exact j d
    ·rw[List.mem_singleton.1 d];exact⟨n,b,l,k,.inl rfl⟩
   ·rw[if_neg t];exact⟨(h n).1,λi d=>j d⟩
end
section
variable {gh:Ol}
attribute [local simp high] fq
attribute [local simp] ft fw
structure Rn (H:Hp) (gh:Ol) (S:SS):Prop where
 w:Wk H gh S
 o:WOk S.ls S.wl
 fr:0<=S.fr/\S.fr<=S.n+1
 fu:0<=S.fu
 pr:S.pr.length<=400001
 lb:S.ls.length+S.fu.toNat<=10000000
theorem LD {g b gen n:Nat} {xs:Ok} {cs:Ok} {P:Ok} (k:hr gh g=some (.cells cs)) (q:cs[11]?=some (NZ P)) (r:hr gh b=some (.stk gen xs)) (j:b≠g) (hn:n<=xs.length) (u:n*8<=maxBytes) (v:(xs.take n).all co=true) (a:Oo) (f:List Ok) (d:Nat) :
  fV (ac pg) ⟨a,f,gh⟩ (some d) 121 [.stk b gen n] g 11=some ⟨Lw.put a d (.stk gh.length 1 n),f,ha gh (.stk 1 (xs.take n))⟩:=by
 have e:11<cs.length:=(aD.1 q).1;have t:∀G:Ol,G.length=gh.length->hr G b=some (.stk gen xs)->ac pg 121 [.stk b gen n] G=some (.stk gh.length 1 n,ha G (.stk 1 (xs.take n))):=λG x m=>by have:ac pg 121 [.stk b gen n] G=gQ 8 [.stk b gen n] G:=rfl;rw[this];simp only[gQ,show G[b]?=_ from m];rw[if_pos ⟨trivial,hn,u,v⟩,x];rfl
 have c:∀o,fC gh g 11 o=some (hw gh g (.cells (cs.set 11 (.sl o 1 P)))):=λo=>by simp only[fC,show gh[g]?=_ from k,q];rfl
 have i:g<gh.length:=kh k;have l:∀o,hr (hw gh g (.cells (cs.set 11 (.sl o 1 P)))) b=some (.stk gen xs):=λo=>by rw[qV,if_neg (Ne.symm j)];exact r
 have A:=t gh rfl r;have z:=λo=>t (hw gh g (.cells (cs.set 11 (.sl o 1 P)))) NX (l o)
 unfold fV;have w:dN (ac pg) ⟨a,f,gh⟩ (some d) false 121 [.stk b gen n]=some ⟨Lw.put a d (.stk gh.length 1 n),f,ha gh (.stk 1 (xs.take n))⟩:=by simp[dN,A]
 rw[w];simp only[cH,c,z];have p:∀o,(ha (hw gh g (.cells (cs.set 11 (.sl o 1 P)))) (.stk 1 (xs.take n)))[g]?=(hw gh g (.cells (cs.set 11 (.sl o 1 P))))[g]?:=λo=>by
  show hr _ g=hr _ g
  rw[oq,if_neg];have:(hw gh g (.cells (cs.set 11 (.sl o 1 P)))).length=gh.length:=tK ..
  show ¬g=List.length _
  omega
 have s:∀o h,fC (ha (hw gh g (.cells (cs.set 11 (.sl o 1 P)))) (.stk 1 (xs.take n))) g 11 h=some (ha (hw gh g (.cells (cs.set 11 (.sl h 1 P)))) (.stk 1 (xs.take n))):=λo h=>by
  have y:(ha (hw gh g (.cells (cs.set 11 (.sl o 1 P)))) (.stk 1 (xs.take n)))[g]?=some (.cells (cs.set 11 (.sl o 1 P))):=by rw[p];show hr _ g=_;rw[qW,k];rfl
  simp only[fC,y,List.getElem?_set_self e]
  congr 1
  show ((gh.set g _)++[_]).set g _=(gh.set g _)++[_]
  rw[List.set_append_left _ _ (by simpa using i),List.set_set,List.set_set]
 rw[if_pos ⟨rfl,p true,p false,s true false,s false true⟩]
abbrev ju:Ok:=[I 0,Oa [],Oa []]
theorem LE {g:Nat} {o p q:GObj} (h:g<gh.length):hw (ha (hw gh g p) o) g q=hw (ha gh o) g q:=by
 show ((gh.set g p)++[o]).set g q=(gh++[o]).set g q
 rw[List.set_append_left _ _ (by simpa using h),List.set_append_left _ _ h,List.set_set]
theorem LF {H:Hp} {S:SS} {i p:Nat} {cl:Oi} {n x17:Int} {b17:Bool} (h:Rn H gh S) (hl:S.ls[i]?=some cl) (F:∀y∈cl,-y∈S.tr) (hp:S.tr[p]?=some n) (hn: -n∈cl) (hm:∀m∈S.mks,m<=p) :
  (∃v v1 v2 H' j,ab pg q1u ⟨[(0,Oe S.g 0),(2,Ob),(3,I i),(17,B b17)],[ju],gh⟩=Oh ⟨[(2,Ob)],[[I v,v1,v2]],j⟩/\(v=2\/v=3)/\(∃l,aw v1= NZ l)/\(∃l,aw v2= NZ l)/\Rp H' j/\Fx H H')\/
  (∃S' H' j,ab pg q1u ⟨[(0,Oe S.g 0),(2,Ob),(3,I i),(17,B b17)],[ju],gh⟩=Og ⟨[(0,Oe S.g 0),(2,Ob)],[ju],j⟩/\Rn H' j S'/\S'.fu=S.fu-1/\S'.n=S.n/\S'.g=S.g/\Fx H H'/\0<=S'.fu):=by
 have z:=h.w.tk;have hR:=h.w.rp;have d:=h.w.ok;have hg:=hR.get d.bx;have f:=d.mks.len;have u:=d.mks.one;have bd:(nI S.mks).length=S.mks.length:=NX;rw[bd] at f;have cd:=h.fu;have cc:=h.lb;have ca:=h.pr;have bc:=z.nN;by_cases h0:S.mks.length=0
 ·obtain⟨H',j,p1,p2,p3⟩:=BA h.w NW
  refine .inl ⟨2,NZ [],NZ (S.pr++[.nils]),H',j,aa ?_,.inl rfl,⟨_,rfl⟩,⟨_,rfl⟩,p2,λb=>p3 _ NX⟩;rw[h0] at f;simp[q1u,hg,SS.cs,f,u,p1,au]
 have Q:¬S.mks=[]:=λe=>h0 (by rw[e];rfl)
 -- one conflict less may come
 have A:WI.wrap (S.fu-1)=S.fu-1:=aq NW NW;have r1:=hR.set d.bx (.cells {S with fu:=S.fu-1 }.cs);have s1:=d.box (λ_ _ _ _=>rfl) S.tp S.mp S.tr S.mks S.hd S.fr (S.fu-1) S.pr S.fa d.tr d.mks;have w1:Wk _ _ {S with fu:=S.fu-1 }:=⟨s1,r1,{z with },h.w.lb⟩
 by_cases h1:S.fu-1<0
 ·refine .inl ⟨3,Oa [],Oa [],_,_,aa ?_,.inr rfl,⟨_,rfl⟩,⟨_,rfl⟩,r1,λb=>bz _ _ NX⟩
  simp[q1u,hg,SS.cs,f,u,Q,A,ff,h1,au]
 have bl:lvl S.mks p=S.mks.length:=by unfold lvl;rw[List.filter_eq_self.2 λm D=>by simpa using hm m D]
 obtain⟨H2,c,v,x,px,L,O,l1,R,l3,l4,l5,l6,l7,l8,l9⟩:=LC w1 hl F ⟨-n,hn,by rw[nz];show S.lw.getD _ 0=_;rw[z.lw p n hp,bl]⟩ (by show 1<=S.mks.length;omega);have E:=R.rp.get R.ok.bx;have ao:=(show LV _ _ _ _ from .inr l3).one;have ap:=(show LV _ _ _ _ from .inr l3).len;have av:bj 1 v=true:=by obtain⟨b,gen,ys,rfl,-⟩:=l3;rfl
 -- too long, or too many
 by_cases h2:200<((-x::O).length:Int)\/400000<(S.pr.length:Int)
 ·refine .inl ⟨3,Oa [],Oa [],_,_,aa ?_,.inr rfl,⟨_,rfl⟩,⟨_,rfl⟩,R.rp,λb=>(l4 _ NX).trans (bz _ _ NX)⟩
  simp only[SS.cs] at l1 E;generalize ((-x::O).length:Int)=N at *;by_cases h3:200<N
  ·simp[q1u,hg,SS.cs,f,u,Q,A,ff,h1,l1,ao,av,ap,h3,au]
  ·have h4:=h2.resolve_left h3
   simp[q1u,hg,SS.cs,f,u,Q,A,ff,h1,l1,ao,av,ap,h3,h4,E,au]
 have h3:¬200<((-x::O).length:Int):=λe=>h2 (.inl e)
 have h4:¬400000<(S.pr.length:Int):=λe=>h2 (.inr e)
 obtain⟨b,gen,ys,rfl,hb⟩:=l3;have bo:S.g<c.length:=kh E;have aH:=R.rp.get hb;have aI:b≠S.g:=λe=>by subst e;exact absurd (R.rp.inj hb R.ok.bx) NX
 -- the clause goes behind the proof
 obtain⟨C,hC⟩:∃C,((-x::O)++ys).map I=C:=⟨_,rfl⟩
 rw[hC] at aH hb;have aM:(-x::O).length<=C.length:=by rw[<-hC];simp
 have aN:(C.take (-x::O).length).all co=true:=by rw[<-hC];simp[bV]
 have c0:C[0]?=some (I (-x)):=by rw[<-hC];rfl
 have cb:=MB;have aJ:=R.rp.new (.tm 6) (.stk 1 (C.take (-x::O).length));have w6:=R.same (H':=upd H2 (.tm 6) (c.length,.stk 1 (C.take (-x::O).length))) (λr hr=>bz _ _ (hr 6)) aJ;have bv:upd H2 (.tm 6) (c.length,.stk 1 (C.take (-x::O).length)) (.tm 0)=_:=(bz _ _ NX).trans hb;generalize bC:upd H2 (.tm 6) (c.length,.stk 1 (C.take (-x::O).length))=H6 at *;have bE:∀r,r≠ .tm 6->H6 r=H2 r:=λr hr=>by rw[<-bC,bz _ _ hr]
 have r7:=aJ.set w6.ok.bx (.cells {S with fu:=S.fu-1,pr:=S.pr++[PV.stk c.length 1 (-x::O).length] }.cs);have s7:=w6.ok.box (λ_ _ _ _=>rfl) S.tp S.mp S.tr S.mks S.hd S.fr (S.fu-1) (S.pr++[PV.stk c.length 1 (-x::O).length]) S.fa w6.ok.tr w6.ok.mks;obtain⟨G7,M⟩:∃G,hw (ha c (.stk 1 (C.take (-x::O).length))) S.g (.cells {S with fu:=S.fu-1,pr:=S.pr++[PV.stk c.length 1 (-x::O).length] }.cs)=G:=⟨_,rfl⟩
 obtain⟨H7,aK⟩:∃H7,upd H6 .bx (S.g,.cells {S with fu:=S.fu-1,pr:=S.pr++[PV.stk c.length 1 (-x::O).length] }.cs)=H7:=⟨_,rfl⟩
 have w7:Wk H7 G7 {S with fu:=S.fu-1,pr:=S.pr++[PV.stk c.length 1 (-x::O).length] }:=by rw[<-M,<-aK];exact⟨s7,r7,{z with },h.w.lb⟩
 have aO:∀r,r≠ .bx->H7 r=H6 r:=λr hr=>by rw[<-aK,bz _ _ hr]
 -- back
 obtain⟨q,hq⟩:∃q,S.mks[L]?=some q:=⟨_,aA l7⟩
 obtain⟨H8,g8,bR,bS,b1,w8,f8⟩:=Ll w7 hq
 -- the clause is added
 have aB:∀y∈O,-y∈S.tr.take q:=λy t=>by
  obtain⟨m1,m2,m3⟩:=l9 y t;obtain⟨k,hk⟩:=List.getElem?_of_mem m1;have e1:=z.lw k (-y) hk;have e2:cr S y=(lvl S.mks k:Int):=by rw[<-nz];exact e1
  have bU:cr S y<=(L:Int):=m3;have e3:=Ln z.ms hq (p:=k) NW;exact aL (show (S.tr.take q)[k]?=some (-y) by rw[List.getElem?_take_of_lt e3];exact hk)
 have bW:=z.t0 x (aL l5);have bw:∀y∈O,y≠0/\y.natAbs<=S.n:=λy t=>by have:=z.t0 _ (l9 y t).1;omega
 have aY:∀y∈O,(-x).natAbs≠y.natAbs:=λy t e=>by
  obtain⟨m1,m2,m3⟩:=l9 y t;have e1:cr S y=cr S x:=by unfold cr;rw[<-e,Int.natAbs_neg]
  have e2:cr S x=S.mks.length:=l6;have e3:cr S y<=(L:Int):=m3;have e4:L<S.mks.length:=l7;omega
 have ax:(-x::O).Pairwise Vne:=List.pairwise_cons.2 ⟨aY,l8⟩;have bI:∀y∈ -x::O,y≠0/\y.natAbs<=S.n:=λy t=>by
  rcases List.mem_cons.1 t with rfl|t
  ·omega
  ·exact bw y t
 have al:H8 (.tm 0)=some (b,.stk gen C):=((f8 _ NX NX).trans (aO _ NX)).trans bv;have U:=d.cll;obtain⟨H9,g9,F9,a1,r9,s9,c9,f9⟩:=Bi w8.ok w8.rp (v:= .stk b gen (-x::O).length) (l:= -x::O) (.inr ⟨b,gen,ys,rfl,by rw[hC];exact al⟩) (by show (S.cp.length+1)*24<=_;omega) (λm=>by
  have:=h.o.len m
  show ((S.wl m).length+2)*8<=_;omega)
 have t9:=w8.tk.add bI ax (.stk b gen (-x::O).length) F9 (iB S.wl S.cp.length (-x::O))
 -- its first number is put in
 have aX:x∈S.tr:=aL l5;have aE: -x∉S.tr:=λe=>by have:=Bk z.td e aX NX;omega
 have bZ:q<=px:=by
  have e1:=z.lw px x l5;have e2:cr S x=S.mks.length:=l6;have e3:lvl S.mks px=S.mks.length:=by unfold cr at e2;omega
  exact Br e3 q (aL hq)
 have aC:x∉S.tr.take q:=λe=>by obtain⟨k,hk⟩:=List.getElem?_of_mem e;have bm:=(aD.1 hk).1;rw[cP] at bm;rw[List.getElem?_take_of_lt NW] at hk;have ad:=(aD.1 l5).1;have h5:=(List.pairwise_iff_getElem.1 z.td) k px NW ad NW;rw[aA NW] at hk l5;exact h5 (by rw[cX hk,cX l5])
 have aZ:=t9.tlen;obtain⟨bM,aP,an,p1,aU,aT,bJ⟩:=rX s9 r9 (n:= -x) (a:=S.cp.length) (by show (-x).natAbs<=S.n;omega) bc (by have:((S.tr.take q).length)<=S.n:=aZ;show ((S.tr.take q).length+1)*8<=_;omega);have aS:=t9.put (x:= -x) (a:=S.cp.length) (tp:=an) (by show -x≠0/\(-x).natAbs<=S.n;omega) (λe=>aE (cO e)) (by rw[Int.neg_neg];exact aC) ⟨S.cp.length,-x::O,rfl,by show (S.ls++[-x::O])[S.cp.length]?=_;rw[U];exact List.getElem?_concat_length ..,NX,λy t ba=>by
  rcases List.mem_cons.1 t with rfl|t
  ·exact absurd rfl ba
  ·exact aB y t⟩
 have aW:=h.o.add ax;refine .inr ⟨_,bM,aP,aa ?Z,⟨⟨aT,aU,aS,?Y⟩,?K,⟨?V,?W⟩,?J,?Ja,?Jb⟩,rfl,rfl,rfl,λb=>?Jc,?J⟩
 case Y=>show (S.ls++[-x::O]).length<=_;rw[aQ,List.length_singleton];omega
 case K=>
  show WOk (S.ls++[-x::O]) (iB S.wl S.cp.length (-x::O))
  rw[U];exact aW
 case V=>show (0:Int)<=1;omega
 case W=>show (1:Int)<=S.n+1;omega
 case J=>show 0<=S.fu-1;omega
 case Ja=>show (S.pr++[PV.stk c.length 1 (-x::O).length]).length<=_;rw[aQ,List.length_singleton];omega
 case Jb=>show (S.ls++[-x::O]).length+(S.fu-1).toNat<=_;rw[aQ,List.length_singleton];omega
 case Jc=>
  exact ((bJ _ NX NX NX NX NX).trans (f9 _ NX NX NX NX NX)).trans (((f8 _ NX NX).trans (aO _ NX)).trans ((bE _ NX).trans ((l4 _ NX).trans (bz _ _ NX))))
 case Z=>
  have T:=w8.rp.get al;have aG:hr g9 b=some (.stk gen C):=r9.get (c9.trans al);have aF:=kh T;obtain⟨m,be⟩:∃m,(-x::O).length=m:=⟨_,rfl⟩
  have D:=be;have bk:0<m:=by rw[<-D];simp
  have bK:ac pg 180 [Oe S.g 0,I L] G7=some (.tup [],g8):=b1;have aR:ac pg 173 [Oe S.g 0,.stk b gen (-x::O).length] g8=some (I S.cp.length,g9):=a1;have aV:ac pg 175 [Oe S.g 0,I (-x),I S.cp.length] g9=some (.tup [],aP):=p1;have s:hr c S.g=some (.cells {S with fu:=S.fu-1 }.cs):=E;have X:ac pg 179 [Oe S.g 0,I i] (hw gh S.g (.cells {S with fu:=S.fu-1 }.cs))=some (.tup [.stk b gen (-x::O).length,I L],c):=l1;simp only[SS.cs] at s M X;simp only[D] at aR M aM aN h3 X;have bg:m<=200:=NW
  have F:=LD (gh:=hw c S.g (.cells [I S.n,Oa S.cp,.mp S.wm,.bs true S.so 0 (S.n+1) 1,.bs true S.bb 0 (S.n+1) 1,.bs true S.lv 0 (S.n+1) 1,S.tp,S.mp,I S.hd,I S.fr,I (S.fu-1),NZ S.pr,B S.fa])) (g:=S.g) (b:=b) (gen:=gen) (n:=m) (xs:=C) (P:=S.pr) (by rw[qW,s];rfl) rfl (by rw[qV,if_neg (Ne.symm aI)];exact aH) aI aM NW aN;have hA:∀cs,hr (ha (hw c S.g (.cells cs)) (.stk 1 (C.take m))) S.g=some (.cells cs):=λcs=>by rw[oq,if_neg (by show ¬S.g=List.length _;have:(hw c S.g (.cells cs)).length=c.length:=tK ..;omega),qW,s];rfl
  have hB:∀p o q,hw (ha (hw c S.g p) o) S.g q=hw (ha c o) S.g q:=λp o q=>LE bo
  have ad:(S.pr.length+1)*24<=maxBytes:=NW;have bQ:jJ (.stk b gen m)=some (m:Int):=rfl;have bH:¬200<m:=NW;have bF:¬400000<S.pr.length:=NW;have e9:(hw c S.g (.cells [I S.n,Oa S.cp,.mp S.wm,.bs true S.so 0 (S.n+1) 1,.bs true S.bb 0 (S.n+1) 1,.bs true S.lv 0 (S.n+1) 1,S.tp,S.mp,I S.hd,I S.fr,I (S.fu-1),NZ S.pr,B S.fa])).length=c.length:=tK ..;rw[e9] at F;simp[q1u,hg,SS.cs,f,u,Q,A,ff,h1,X,h3,bH,h4,bF,s,F,hA,hB,ad,M,bK,T,c0,bk,aR,keptB,aF,aG,aV]
end
section
variable {H:Hp} {gh:Ol} {S:SS}
attribute [local simp high] fq
attribute [local simp] ft fw
theorem BB {S:SS} {b:Nat}:∀(m k:Nat) (H:Hp) (gh:Ol) (d:On),Wk H gh S->H (.tm 5)=some (b,.cells (d.map B))->d.length=S.n->k+m=S.n->
  ∃i c,∃a:On,ab pg qfx ⟨[(0,Oe S.g 0),(2,Ob),(4,.bs true b 0 S.n 1),(26,I S.n),(27,I k)],[ju],gh⟩=Og ⟨[(2,Ob),(4,.bs true b 0 S.n 1)],[ju],c⟩/\
   Wk i c S/\i (.tm 5)=some (b,.cells (a.map B))/\a.length=S.n/\(∀r,r≠ .tm 5->i r=H r)/\(∀j,j<k->a[j]?=d[j]?)/\∀j,k<=j->j<S.n->a[j]?=some (decide (0<S.sv.getD (j+1) 0))
 |0,k,H,gh,d,h,o,l,N=>by
  have:k=S.n:=NW;subst this;refine⟨H,gh,d,(bn (s1:=⟨[(0,Oe S.g 0),(2,Ob),(4,.bs true b 0 S.n 1),(26,I S.n),(27,I S.n),(28,B false)],[ju],gh⟩) (aa ?_)).trans ?_,h,o,l,λ_ _=>rfl,λ_ _=>rfl,λj Q w=>NW⟩
  ·simp[qbh]
  ·simp
 | m+1,k,H,gh,d,h,o,l,N=>by
  have p:=h.rp;have f:=h.ok;have v:=h.tk;have M:=v.nN;have O:=p.get f.bx;have L:=p.get f.so;have s:=p.get o;obtain⟨x,u⟩:∃x,S.sv[k+1]?=some x:=⟨_,aA (by rw[v.svl];omega)⟩
  have P:S.sv.getD (k+1) 0=x:=by rw[aK,u];rfl
  have q:WI.wrap ((k:Int)+1)=((k+1:Nat):Int):=by rw[aq NW NW];simp
  have X:(k:Int)<(S.n:Int):=NW;have U:((k+1:Nat):Int)<(S.n:Int)+1:=NW;have T:(0:Int)<=((k+1:Nat):Int):=NW;have y:k<S.n:=NW;have z:=p.set o (.cells ((d.set k (decide (0<x))).map B));have e:∀r,r≠ .tm 5->upd H (.tm 5) (b,.cells ((d.set k (decide (0<x))).map B)) r=H r:=λr hr=>bz _ _ hr
  obtain⟨i,c,a,G,F,E,D,C,t,A⟩:=BB m (k+1) _ _ (d.set k (decide (0<x))) (h.same (λr hr=>e r (hr 5)) z) (ec ..) (by simpa using l) NW;refine⟨i,c,a,(ay (aa ?_) rfl).trans G,F,E,D,λr hr=>(C r hr).trans (e r hr),λj hj=>?_,λj Q w=>?_⟩
  ·generalize k+1=k' at *
   have e5:k+1<=S.n:=y;simp[qbh,X,e5,U,T,y,O,SS.cs,q,L,u,s,ff,l]
  ·rw[t j NW,List.getElem?_set_ne NW]
  ·by_cases R:j=k
   ·subst R
    rw[t j NW,List.getElem?_set_self NW,P]
   ·exact A j NW w
def Ans (f:Hp) (a:Ol) (n:Nat) (v:Int) (d c:PV):Prop:=
 (v=1/\aw c= NZ []/\∃b,∃e:On,aw d= .bs true b 0 n 1/\hr a b=some (.cells (e.map B))/\e.length=n)\/
 ((v=2\/v=3)/\(∃l,aw d= NZ l)/\∃l,aw c= NZ l)
theorem Rn.step {H e:Hp} {f b:Ol} {S a:SS} {q:Nat} (h:Rn H f S) (w:Wk e b a) (o:WOk a.ls a.wl) (st:Step {S with hd:=q } a):Rn e b a:=by obtain⟨⟨-,-,-,-,-,p⟩,⟨-,-,-,-,m,l,k,-⟩,-,d⟩:=st;have j:a.n=S.n:=p;have i:a.fr=S.fr:=m;have c:a.fu=S.fu:=l;have g:a.pr=S.pr:=k;have e5:a.ls.length=S.ls.length:=d;exact⟨w,o,by rw[j,i];exact h.fr,by rw[c];exact h.fu,by rw[g];exact h.pr,by rw[e5,c];exact h.lb⟩
theorem Fx.trans {H c a:Hp} (h:Fx H c) (k:Fx c a):Fx H a:=λb=>(k b).trans (h b)
theorem LG (h:Rn H gh S) {G:Oo} (e:G=[]\/G=[(11,B false)]) :
  (∃v D C y d,ab pg q2n ⟨[(0,Oe S.g 0),(2,Ob)]++G,[ju],gh⟩=Oh ⟨[(2,Ob)],[[I v,D,C]],d⟩/\Rp y d/\Ans y d S.n v D C/\Fx H y)\/
  (∃x y d,ab pg q2n ⟨[(0,Oe S.g 0),(2,Ob)]++G,[ju],gh⟩=Og ⟨[(0,Oe S.g 0),(2,Ob)],[ju],d⟩/\Rn y d x/\x.n=S.n/\x.g=S.g/\Fx H y/\
   (x.fu<S.fu\/x.fu=S.fu/\S.n-x.tr.length<S.n-S.tr.length)):=by
 obtain⟨r,c,H1,g1,q,E,w1,o1,st,f,hq,hr⟩:=Lf h.w h.o;have R1:=h.step w1 o1 st;have u:c.g=S.g:=st.ad.1;have L:c.n=S.n:=st.ad.2.2.2.2.2;have av:c.fu=S.fu:=st.vs.2.2.2.2.2.1;have ap:c.mks=S.mks:=st.vs.2.2.1;have ao:S.tr <+:c.tr:=st.tr;have ax:=ao.length_le;rcases hr with ⟨rfl,al⟩|⟨i,l,p,n,rfl,hl,hp,hn,U,A⟩
 ·rcases Lh w1 al R1.fr with ⟨w,t,s,mp,tp,c1,c2,c3,c4,w2,an⟩|⟨c1,c2⟩
  · -- a variable was chosen
   rw[u] at c4;have R:=w2.tk.tlen;have z:(c.tr++[-(w:Int)]).length<=c.n:=R;rw[aQ,List.length_singleton] at z;refine .inr ⟨_,t,s,aa ?J,⟨w2,o1,⟨?Z,?Y⟩,R1.fu,R1.pr,R1.lb⟩,L,u,f.trans an,.inr ⟨av,?K⟩⟩
   case Z=>show (0:Int)<=(w:Int);omega
   case Y=>show (w:Int)<=c.n+1;omega
   case K=>show S.n-(c.tr++[-(w:Int)]).length<_;rw[aQ,List.length_singleton];omega
   case J=>rcases e with rfl|rfl<;>simp[q2n,E,c4]
  · -- all are known
   rw[u] at c2;have hg:=w1.rp.get w1.ok.bx;have aA:=w1.tk.nN;have aB:=MB;have j:(List.replicate c.n (PV.bool false)).flatMap PV.cells=(List.replicate c.n false).map B:=by
    induction c.n with
    |zero=>rfl
    |succ k ih=>rw[List.replicate_succ,cS,ih,List.replicate_succ];rfl
   have r5:=w1.rp.new (.tm 5) (.cells ((List.replicate c.n false).map B));obtain⟨t,s,bs,q1,q2,q3,q4,q5,q6,q7⟩:=BB c.n 0 _ _ _ (w1.same (λr hr=>bz _ _ (hr 5)) r5) (ec ..) NX NW;have X:∀b g,ab pg qbi ⟨[(2,Ob),(4,.bs true b 0 c.n 1)],[ju],g⟩=Oh ⟨[(2,Ob)],[[I 1,.bs true b 0 c.n 1,Oa []]],g⟩:=λb g=>aa (by simp[qbi,au])
   rw[u,show ((0:Nat):Int)=0 from rfl,List.map_replicate] at q1;rw[List.map_replicate] at j;rw[u] at hg;have T:(c.n:Int)<=maxBytes:=NW;refine .inl ⟨1,.bs true g1.length 0 c.n 1,Oa [],t,s,aa ?V,q2.rp,.inl ⟨rfl,rfl,g1.length,bs,by rw[L];rfl,q2.rp.get q3,by rw[q4,L]⟩,f.trans λb=>(q5 _ NX).trans (bz _ _ NX)⟩
   case V=>rcases e with rfl|rfl<;>simp[q2n,E,c2,hg,SS.cs,T,j,q1,X]
 · -- a clause is broken
  have hi:¬(i:Int)<0:=NW;have F:∀m∈c.mks,m<=p:=λm F=>by rw[ap] at F;have:=(h.w.tk.mt m F).2;omega
  have hk:=LF (x17:=0) (b17:=false) R1 hl A hn U F;rw[u] at hk;rcases hk with ⟨v,D,C,t,s,Q,P,k3,O,N,M⟩|⟨S2,t,s,Q,P,k3,O,N,M,k7⟩
  ·refine .inl ⟨v,D,C,t,s,aa ?W,N,.inr ⟨P,k3,O⟩,f.trans M⟩
   case W=>rcases e with rfl|rfl<;>simp[q2n,E,hi,Q]
  ·refine .inr ⟨S2,t,s,aa ?Ja,P,O.trans L,N,f.trans M,.inl NW⟩
   case Ja=>rcases e with rfl|rfl<;>simp[q2n,E,hi,Q]
theorem vn:∀(k m:Nat) (S:SS) (H:Hp) (gh:Ol) (q:Oo),Rn H gh S->(q=[]\/q=[(11,B false)])->S.fu.toNat<=k->S.n-S.tr.length<=m->
  ∃v b a A c,ab pg qfy ⟨[(0,Oe S.g 0),(2,Ob)]++q,[ju],gh⟩=Oh ⟨[(2,Ob)],[[I v,b,a]],c⟩/\Rp A c/\Ans A c S.n v b a/\Fx H A
 | k,m,S,H,gh,q,h,x,G,F=>by
  rcases LG h x with ⟨v,b,a,s,p,o,f,l,i⟩|⟨r,s,p,o,f,l,i,C,w⟩
  ·exact⟨v,b,a,s,p,(cx o).trans rfl,f,l,i⟩
  ·have L:=h.fu
   have D:=f.fu;rcases w with w|⟨w,E⟩
   ·obtain⟨k,rfl⟩:∃j,k=j+1:=⟨k-1,NW⟩
    obtain⟨v,b,a,z,y,e,u,d,t⟩:=vn k (r.n-r.tr.length) r s p [] f (.inl rfl) NW (cU _);rw[i] at e;rw[l] at d;exact⟨v,b,a,z,y,(ay o rfl).trans e,u,d,C.trans t⟩
   ·obtain⟨m,rfl⟩:∃j,m=j+1:=⟨m-1,NW⟩
    obtain⟨v,b,a,z,y,e,u,d,t⟩:=vn k m r s p [] f (.inl rfl) NW NW;rw[i] at e;rw[l] at d;exact⟨v,b,a,z,y,(ay o rfl).trans e,u,d,C.trans t⟩
termination_by k m=>(k,m)
theorem LH (h:Rn H gh S) :
  ∃v e d c a,ac pg 170 [Oe S.g 0] gh=some (.agg [I v,aw e,aw d],a)/\Rp c a/\Ans c a S.n v e d/\Fx H c:=by
 have p:=h.w.rp.get h.w.ok.bx;have f:∀{c:Hp} {a:Ol} {v:Int} {e d:PV},Ans c a S.n v e d->PV.one (aw e)=true/\PV.one (aw d)=true:=λ{c a v e d} ha=>by
  rcases ha with ⟨-,o,b,z,u,-⟩|⟨-,⟨l,x⟩,y,o⟩
  ·rw[o,u];exact⟨rfl,rfl⟩
  ·rw[x,o];exact⟨rfl,rfl⟩
 by_cases q:S.fa=true
 ·obtain⟨c,a,j,k,i⟩:=BA h.w (by have:=h.pr;omega)
  refine⟨2,NZ [],NZ (S.pr++[.nils]),c,a,ak (fn:=q2o) (s:=⟨[(2,Ob)],[[I 2,NZ [],NZ (S.pr++[.nils])]],a⟩) rfl rfl (aa ?J) ?Z,k,.inr ⟨.inl rfl,⟨_,rfl⟩,⟨_,rfl⟩⟩,λb=>i _ NX⟩
  case J=>simp[q2o,qbj,p,SS.cs,q,j,au]
  case Z=>simp[ag,results,q2o,ah,am,af]
 ·have m:S.fa=false:=by simpa using q
  obtain⟨v,e,d,c,a,j,k,i,r⟩:=vn S.fu.toNat (S.n-S.tr.length) S H gh [(11,B false)] h (.inr rfl) (cU _) (cU _);have t:=f i;refine⟨v,e,d,c,a,ak (fn:=q2o) (s:=⟨[(2,Ob)],[[I v,e,d]],a⟩) rfl rfl (aa ?Y) ?K,k,i,r⟩
  case Y=>
   simp only[bH,bF] at j;simp[q2o,qbj,p,SS.cs,m,j]
  case K=>simp[ag,results,q2o,ah,am,af,t]
end
section
attribute [local simp high] fq
attribute [local simp] ft fw
def EL (d:Ol) (v:PV) (c:Oi):Prop:=(c=[]/\v= NZ [])\/∃b a,v= .stk b a c.length/\hr d b=some (.stk a (c.map I))
theorem EL.len {c:Ol} {v:PV} {a:Oi} (h:EL c v a):jJ v=some (a.length:Int):=by rcases h with ⟨rfl,rfl⟩|⟨b,d,rfl,-⟩<;>rfl
theorem EL.one {c:Ol} {v:PV} {a:Oi} (h:EL c v a):PV.one v=true/\degr v=v/\aw v=v/\az v=true/\bj 0 v=true/\PV.cells v=[v]:=by rcases h with ⟨-,rfl⟩|⟨b,d,rfl,-⟩<;>exact⟨rfl,rfl,rfl,rfl,rfl,rfl⟩
section
variable {gh:Ol} {v:PV} {xs:Oi}
theorem LO {y:Int} (h:EL gh v xs) (w:xs.length<=1000000000):∀m k,k+m=xs.length->
  (∃j:Nat,k<=j/\xs[j]?=some y/\ab pg q9q ⟨[(0,v),(1,I y),(7,I xs.length),(8,I k)],[],gh⟩=Oh ⟨[(4,I j)],[],gh⟩)\/
  ((∀j,k<=j->xs[j]?≠some y)/\ab pg q9q ⟨[(0,v),(1,I y),(7,I xs.length),(8,I k)],[],gh⟩=Og ⟨[],[],gh⟩):=by
 intro m;have r:=h.one
 induction m with
 |zero=>
  intro k s;have:k=xs.length:=NW;subst this;refine .inr ⟨λj t e=>by have:=(aD.1 e).1;omega,(bn (s1:=?J) (aa ?Z)).trans ?Y⟩
  case Z=>simp[q3w,r];rfl
  case Y=>simp
 | succ m q=>
  intro k s;have a:k<xs.length:=NW;obtain⟨x,d⟩:∃x,xs[k]?=some x:=⟨_,aA a⟩
  obtain⟨b,c,rfl,n⟩:=h.resolve_left (λe=>by rw[e.1] at a;simp at a);have o:(k:Int)<(xs.length:Int):=NW;have hw:WI.wrap ((k:Int)+1)=((k+1:Nat):Int):=by rw[aq NW NW];simp
  by_cases i:x=y
  ·subst i
   refine .inl ⟨k,cU _,d,(cx (s1:=?K) (aa ?V)).trans ?W⟩
   case V=>simp[q3w,o,n,d];rfl
   case W=>rfl
  ·have g:¬y=x:=λe=>i e.symm
   have step:ab pg q3w ⟨[(0,.stk b c xs.length),(1,I y),(7,I xs.length),(8,I k)],[],gh⟩=Og ⟨[(0,.stk b c xs.length),(1,I y),(7,I xs.length),(8,I ((k+1:Nat):Int))],[],gh⟩:=by refine aa ?_;simp only[<-hw];simp[q3w,o,n,d,g]
   rcases q (k+1) NW with ⟨j,l,f,p⟩|⟨l,f⟩
   ·exact .inl ⟨j,NW,f,(ay step rfl).trans p⟩
   ·refine .inr ⟨λj t e=>?_,(ay step rfl).trans f⟩
    by_cases u:j=k
    ·subst u;rw[d] at e;exact i (cX e)
    ·exact l j NW e
theorem LQ (h:EL gh v xs) (m:xs.length<=1000000000) (y:Int):ac pg 184 [v,I y] gh=some (B (decide (y∈xs)),gh):=by
 have c:=h.one;have l:=h.len;have d:∀gh:Ol,ab pg q9r ⟨[],[],gh⟩=Oh ⟨[(4,I (-1))],[],gh⟩:=λgh=>aa (by simp[q9r])
 have b:∃j:Int,ac pg 209 [v,I y] gh=some (I j,gh)/\(0<=j↔y∈xs):=by
  rcases LO (y:=y) h m xs.length 0 NW with ⟨j,k,a,i⟩|⟨k,a⟩
  ·rw[show ((0:Nat):Int)=0 from rfl] at i
   refine⟨j,ak (fn:=q2a) (s:=?J) rfl rfl (aa ?Z) ?Y,⟨λ_=>aL a,λ_=>NW⟩⟩
   case Z=>simp[q2a,q9s,c,l,i];rfl
   case Y=>simp[ag,results,q2a,ah,am,af]
  ·rw[show ((0:Nat):Int)=0 from rfl] at a
   refine⟨-1,ak (fn:=q2a) (s:=?K) rfl rfl (aa ?V) ?W,⟨λh=>NW,λn=>?_⟩⟩
   case V=>simp[q2a,q9s,c,l,a,d];rfl
   case W=>simp[ag,results,q2a,ah,am,af]
   obtain⟨j,g⟩:=List.getElem?_of_mem n;exact absurd g (k j (Nat.zero_le _))
 obtain⟨j,g,f⟩:=b;have e:decide (0<=j)=decide (y∈xs):=by rw[Bool.eq_iff_iff,aH,aH];exact f
 refine ak (fn:=q69) (s:=?Ja) rfl rfl (aa ?Jb) ?Jc
 case Jb=>simp[q69,qen,c,g,e];rfl
 case Jc=>simp[ag,results,q69,ah,am,af]
theorem LR (h:EL gh v xs) (a:xs.length<=1000000000) {b:Nat} (e:hr gh b=some (.cells [v])) {x:Int} (f:x.natAbs<=1000000000):ac pg 171 [I x,Oe b 0] gh=some (B (decide (-x∈xs)),gh):=by
 have c:=h.one;have hw:WI.wrap (-x)= -x:=aq NW NW;have d:=LQ h a (-x);refine ak (fn:=q7m) (s:=?J) rfl rfl (aa ?Z) ?Y
 case Z=>simp[q7m,qfz,e,c,hw,d];rfl
 case Y=>simp[ag,results,q7m,ah,am,af]
theorem LT (h:EL gh v xs) (u:xs.length<=1000000000) {c:Nat} (B:hr gh c=some (.cells [v])) (t:∀x∈xs,x.natAbs<=1000000000):∀m k,k+m=xs.length->
  (∃j:Nat,∃y,k<=j/\xs[j]?=some y/\ -y∈xs/\ab pg q9n ⟨[(0,v),(1,.fn 171 [Oe c 0]),(7,I xs.length),(8,I k)],[],gh⟩=Oh ⟨[(4,I j)],[],gh⟩)\/
  ((∀j y,k<=j->xs[j]?=some y-> -y∉xs)/\ab pg q9n ⟨[(0,v),(1,.fn 171 [Oe c 0]),(7,I xs.length),(8,I k)],[],gh⟩=Og ⟨[],[],gh⟩):=by
 intro m;have w:=h.one
 induction m with
 |zero=>
  intro k z;have:k=xs.length:=NW;subst this;refine .inr ⟨λj y A e=>by have:=(aD.1 e).1;omega,(bn (s1:=?J) (aa ?Z)).trans ?Y⟩
  case Z=>simp[q3v,w];rfl
  case Y=>simp
 | succ m s=>
  intro k z;have f:k<xs.length:=NW;obtain⟨x,a⟩:∃x,xs[k]?=some x:=⟨_,aA f⟩
  have d:=LR h u B (t x (aL a));obtain⟨b,g,rfl,o⟩:=h.resolve_left (λe=>by rw[e.1] at f;simp at f);have p:(k:Int)<(xs.length:Int):=NW;have hw:WI.wrap ((k:Int)+1)=((k+1:Nat):Int):=by rw[aq NW NW];simp
  by_cases i: -x∈xs
  ·refine .inl ⟨k,x,cU _,a,i,(cx (s1:=?K) (aa ?V)).trans ?W⟩
   case V=>simp[q3v,p,o,a,d,i];rfl
   case W=>rfl
  ·have step:ab pg q3v ⟨[(0,.stk b g xs.length),(1,.fn 171 [Oe c 0]),(7,I xs.length),(8,I k)],[],gh⟩=Og ⟨[(0,.stk b g xs.length),(1,.fn 171 [Oe c 0]),(7,I xs.length),(8,I ((k+1:Nat):Int))],[],gh⟩:=by
    refine aa ?_;simp only[<-hw];simp[q3v,p,o,a,d,i]
   rcases s (k+1) NW with ⟨j,y,n,l,r,q⟩|⟨n,l⟩
   ·exact .inl ⟨j,y,NW,l,r,(ay step rfl).trans q⟩
   ·refine .inr ⟨λj y A e=>?_,(ay step rfl).trans l⟩
    by_cases C:j=k
    ·subst C;rw[a] at e;rw[<-cX e];exact i
    ·exact n j y NW e
theorem LU (h:EL gh v xs) (q:xs.length<=1000000000) {c:Nat} (r:hr gh c=some (.cells [v])) (p:∀x∈xs,x.natAbs<=1000000000) :
  ∃b,ac pg 172 [v,.fn 171 [Oe c 0]] gh=some (B b,gh)/\(b=false->∀y∈xs,-y∉xs):=by
 have f:=h.one;have n:=h.len;have g:∀gh:Ol,ab pg q9o ⟨[],[],gh⟩=Oh ⟨[(4,I (-1))],[],gh⟩:=λgh=>aa (by simp[q9o])
 have d:∃j:Int,ac pg 208 [v,.fn 171 [Oe c 0]] gh=some (I j,gh)/\(¬0<=j->∀y∈xs,-y∉xs):=by
  rcases LT h q r p xs.length 0 NW with ⟨j,y,m,a,t,l⟩|⟨m,a⟩
  ·rw[show ((0:Nat):Int)=0 from rfl] at l
   refine⟨j,ak (fn:=q29) (s:=?J) rfl rfl (aa ?Z) ?Y,λh=>NW⟩
   case Z=>simp[q29,q9p,f,n,l];rfl
   case Y=>simp[ag,results,q29,ah,am,af]
  ·rw[show ((0:Nat):Int)=0 from rfl] at a
   refine⟨-1,ak (fn:=q29) (s:=?K) rfl rfl (aa ?V) ?W,λ_ y o=>?_⟩
   case V=>simp[q29,q9p,f,n,a,g];rfl
   case W=>simp[ag,results,q29,ah,am,af]
   obtain⟨j,k⟩:=List.getElem?_of_mem o;exact m j y (Nat.zero_le _) k
 obtain⟨j,k,i⟩:=d;refine⟨decide (0<=j),ak (fn:=q68) (s:=?Ja) rfl rfl (aa ?Jb) ?Jc,λe=>i (of_decide_eq_false e)⟩
 case Jb=>simp[q68,qem,f,k];rfl
 case Jc=>simp[ag,results,q68,ah,am,af]
end
end
section
attribute [local simp high] fq
attribute [local simp] ft fw
structure Bg (H:Hp) (gh:Ol) (S:SS) (fu:Int) (k:Nat):Prop where
 w:Wk H gh S
 o:WOk S.ls S.wl
 mks:S.mks=[]
 fr:S.fr=0
 fu:S.fu=fu
 pr:S.pr=[]
 lb:S.ls.length<=k
theorem LW {g:Nat} {v26:PV} {N k:Nat} {gh:Ol} (h:degr v26=v26/\bj 0 v26=true) (a:k<=1000000000):ab pg qbf ⟨[(6,Oe g 0),(26,v26),(27,I N),(28,I k)],[],gh⟩=Og ⟨[(6,Oe g 0),(26,v26),(27,I N),(28,I ((k+1:Nat):Int))],[],gh⟩:=by
 have hw:WI.wrap ((k:Int)+1)=((k+1:Nat):Int):=by rw[aq NW NW];simp
 refine aa ?_;simp only[<-hw];simp[qbf,h]
theorem LX {d:Ol} {a b:GObj}:hr (ha (ha d a) b) d.length=some a/\hr (ha (ha d a) b) (d.length+1)=some b/\∀c,hw (ha (ha d a) b) d.length c=ha (ha d c) b:=by
 refine⟨?_,?_,λc=>?_⟩
 ·rw[oq,if_neg (by show ¬d.length=(ha d a).length;rw[show (ha d a).length=d.length+1 from gA ..];omega)];exact kW ..
 ·have:d.length+1=(ha d a).length:=(gA ..).symm
  rw[this];exact kW ..
 ·show ((d++[a])++[b]).set d.length c=(d++[c])++[b]
  rw[List.set_append_left _ _ NX,List.set_append_right _ _ (cU _)];simp
theorem LY {gh:Ol} {xs:Oi} (h:xs.length*8<=maxBytes) (a:xs≠[]):ac pg 121 [NZ (xs.map I)] gh=some (.stk gh.length 1 xs.length,ha gh (.stk 1 (xs.map I))):=by have:ac pg 121 [NZ (xs.map I)] gh=gQ 8 [NZ (xs.map I)] gh:=rfl;rw[this,gQ,if_neg (by simpa using a),if_pos ⟨rfl,by simpa using h,by simp[bV]⟩,aW];rfl
theorem LZ {gh:Ol} {b gen:Nat} {xs:Oi} (a:hr gh b=some (.stk gen (xs.map I))) (h:xs.length*8<=maxBytes):ac pg 161 [.stk b gen xs.length] gh=some (.tup [],hw gh b (.stk gen ((xs.mergeSort λx y=>decide (x<=y)).map I))):=by have:ac pg 161 [.stk b gen xs.length] gh=libSortK [.stk b gen xs.length] gh:=rfl;rw[this];simp only[libSortK,show gh[b]?=_ from a];rw[if_pos ⟨trivial,NX,h⟩,show gj (xs.map I)=some xs from oo xs,<-yz];rfl
theorem L0 {gh:Ol} {b gen:Nat} {xs:Oi} (a:hr gh b=some (.stk gen (xs.map I))) (h:xs.length*8<=maxBytes):ac pg 162 [.stk b gen xs.length] gh=some (.stk b gen (Lib.compact xs).length,hw gh b (.stk gen ((Lib.compact xs).map I))):=by have:ac pg 162 [.stk b gen xs.length] gh=libCompactK [.stk b gen xs.length] gh:=rfl;rw[this];simp only[libCompactK,show gh[b]?=_ from a];rw[if_pos ⟨trivial,NX,h⟩,show gj (xs.map I)=some xs from oo xs];rfl
theorem L1 {H:Hp} {gh:Ol} (t:Rp H gh) (x:Oi) (D:x.length<=1000000000) (e:PV) :
  ∃d q p o v4 f i h,ac pg 121 [NZ (x.map I)] (ha gh (.cells [e]))=some (d,q)/\(hr q gh.length=some (.cells [e])/\hw q gh.length (.cells [d])=p)/\hr p gh.length=some (.cells [d])/\
   ac pg 161 [degr d] p=some (.tup [],o)/\hr o gh.length=some (.cells [d])/\ac pg 162 [degr d] o=some (v4,f)/\(hr f gh.length=some (.cells [d])/\hw f gh.length (.cells [v4])=i)/\hr i gh.length=some (.cells [v4])/\
   (az d=true/\az (degr d)=true/\PV.cells d=[d]/\degr (degr d)=degr d)/\Rp h i/\h (.tm 7)=some (gh.length,.cells [v4])/\CV h (.tm 0) v4 (dz x)/\EL i v4 (dz x)/\∀r,r≠ .tm 7->r≠ .tm 0->h r=H r:=by
 have z:=MB;by_cases u:x=[]
 ·subst u
  have B:dz []=[]:=by have:=BD [];exact List.length_eq_zero_iff.1 (by simpa using this)
  rw[B];have g:ac pg 121 [NZ (([]:Oi).map I)] (ha gh (.cells [e]))=some (Oa [],ha gh (.cells [e])):=by have:ac pg 121 [NZ []] (ha gh (.cells [e]))=gQ 8 [NZ []] (ha gh (.cells [e])):=rfl;rw[bU,this,gQ,if_pos rfl,gy,if_pos ⟨rfl,NX⟩]
  exact⟨Oa [],_,_,_,NZ [],_,_,_,g,⟨kW ..,tL ..⟩,kW ..,rfl,kW ..,rfl,⟨kW ..,tL ..⟩,kW ..,⟨rfl,rfl,rfl,rfl⟩,t.new (.tm 7) _,ec ..,.inl ⟨rfl,rfl⟩,.inl ⟨rfl,rfl⟩,λr m _=>bz _ _ m⟩
 ·have l:(ha gh (.cells [e])).length=gh.length+1:=gA ..
  have g:=LY (gh:=ha gh (.cells [e])) (xs:=x) NW u;rw[l] at g;have k:(x.mergeSort λx y=>decide (x<=y)).length=x.length:=NX;have A:=λ(a b:GObj)=>@LX gh a b
  have v:=LZ (gh:=ha (ha gh (.cells [.stk (gh.length+1) 1 x.length])) (.stk 1 (x.map I))) (b:=gh.length+1) (gen:=1) (xs:=x) (A _ _).2.1 NW;have n:=L0 (gh:=ha (ha gh (.cells [.stk (gh.length+1) 1 x.length])) (.stk 1 ((x.mergeSort λx y=>decide (x<=y)).map I))) (b:=gh.length+1) (gen:=1) (xs:=x.mergeSort λx y=>decide (x<=y)) (A _ _).2.1 NW;have j:∀a b c:GObj,hw (ha (ha gh a) b) (gh.length+1) c=ha (ha gh a) c:=λa b c=>by have:gh.length+1=(ha gh a).length:=(gA ..).symm;rw[this];exact tL ..
  rw[j] at v n;rw[k] at n;have w:=t.new (.tm 7) (.cells [.stk (gh.length+1) 1 (dz x).length]);have s:=w.new (.tm 0) (.stk 1 ((dz x).map I));rw[show (ha gh (.cells [.stk (gh.length+1) 1 (dz x).length])).length=gh.length+1 from gA ..] at s;refine⟨.stk (gh.length+1) 1 x.length,_,_,_,.stk (gh.length+1) 1 (dz x).length,_,_,_,g,⟨(A _ _).1,(A _ _).2.2 _⟩,(A _ _).1,v,(A _ _).1,n,⟨(A _ _).1,(A _ _).2.2 _⟩,(A _ _).1,⟨rfl,rfl,rfl,rfl⟩,s,(bz _ _ NX).trans (ec ..),.inr ⟨gh.length+1,1,[],rfl,by rw[ec];simp⟩,.inr ⟨gh.length+1,1,rfl,(A _ _).2.1⟩,λr m C=>(bz _ _ C).trans (bz _ _ m)⟩
section
variable {H:Hp} {gh:Ol} {S:SS} {fu:Int} {k N:Nat} {E:Ok} {o:Bool} {x:Oi}
theorem L3 (h:Bg H gh S fu k) (hE:E[k]?=some (.sl o 1 (x.map I))) (hN:E.length=N) (hx:∀y∈x,y≠0/\y.natAbs<=S.n) (aA:x.length<=1000000000) (hK:N<=1000000) :
  ∃S' H' aG,ab pg q1k ⟨[(6,Oe S.g 0),(26,NZ E),(27,I N),(28,I k)],[],gh⟩=Og ⟨[(6,Oe S.g 0),(26,NZ E),(27,I N),(28,I ((k+1:Nat):Int))],[],aG⟩/\Bg H' aG S' fu (k+1)/\S'.g=S.g/\S'.n=S.n/\Fx H H':=by
 have aV:=(aD.1 hE).1;have e1:(k:Int)<(N:Int):=NW;have hT:=h.w.tk;have aB:=hT.nN;have s:=λg=>LW (g:=S.g) (v26:= NZ E) (N:=N) (k:=k) (gh:=g) ⟨rfl,rfl⟩ NW
 obtain⟨v1,G1,G2,G3,v4,aW,G4,H4,m1,⟨m2,m3⟩,m4,m5,m6,m7,⟨m8,m9⟩,j,⟨l,f,c,d⟩,ax,aJ,av,ad,ap⟩:=L1 h.w.rp x aA (.sl o 1 (x.map I));have O:∀y∈dz x,y≠0/\y.natAbs<=S.n:=λy P=>hx y (keepC_mem.1 P)
 have al:(dz x).length<=1000000000:=cA (BD x) aA;have ho:=ad.one;have hl:=ad.len;obtain⟨b,c1,c2⟩:=LU ad al j (λy P=>by have:=(O y P).2;omega);have w4:Wk H4 G4 S:=h.w.same (λr hr=>ap r (hr 7) (hr 0)) ax;have t:Fx H H4:=λb=>ap _ NX NX
 cases b with
 |true=>
  refine⟨S,H4,G4,aa ?J,⟨w4,h.o,h.mks,h.fr,h.fu,h.pr,Nat.le_succ_of_le h.lb⟩,rfl,rfl,t⟩
  case J=>simp[q1k,e1,hE,m1,m2,m3,m4,m5,m6,m7,m8,m9,j,l,f,c,d,ho,c1,s,ff]
 | false=>
  have ao:(dz x).Pairwise Vne:=by
   refine List.Pairwise.imp_of_mem (λ{p q} hp hq aL=>?_) (LM x);intro e;rcases Int.natAbs_eq_natAbs_iff.1 e with e|e
   ·exact aL e
   ·exact c2 rfl q hq (e▸hp)
  have aE:=w4.ok.cll;have aU:=h.lb;have aT:=MB;obtain⟨X,R,F5,a1,r5,T,c5,f5⟩:=Bi w4.ok ax av NW (λm=>by have:=h.o.len m;omega);have t5:=hT.add O ao v4 F5 (iB S.wl S.cp.length (dz x));have o5:WOk (S.ls++[dz x]) (iB S.wl S.cp.length (dz x)):=by rw[aE];exact h.o.add ao
  have aP:X (.tm 7)=some (gh.length,.cells [v4]):=(f5 _ NX NX NX NX NX).trans aJ;have A:=r5.get aP;have aC:=r5.get T.bx;have G:Fx H4 X:=λb=>f5 _ NX NX NX NX NX
  have u:(S.ls++[dz x]).length<=k+1:=by rw[aQ,List.length_singleton];omega
  have w5:Wk X R {S.clause v4 (dz x) with F:=F5,wl:=iB S.wl S.cp.length (dz x) }:=⟨T,r5,t5,by show (S.ls++[dz x]).length<=_;omega⟩
  -- the searcher has failed
  have U:Wk (upd X .bx (S.g,.cells {S.clause v4 (dz x) with F:=F5,wl:=iB S.wl S.cp.length (dz x),fa:=true }.cs)) (hw R S.g (.cells {S.clause v4 (dz x) with F:=F5,wl:=iB S.wl S.cp.length (dz x),fa:=true }.cs)) {S.clause v4 (dz x) with F:=F5,wl:=iB S.wl S.cp.length (dz x),fa:=true }:=
   ⟨T.box (λ_ _ _ _=>rfl) S.tp S.mp S.tr S.mks S.hd S.fr S.fu S.pr true T.tr T.mks,r5.set T.bx _,{t5 with },w5.lb⟩
  have aH:Fx X (upd X .bx (S.g,.cells {S.clause v4 (dz x) with F:=F5,wl:=iB S.wl S.cp.length (dz x),fa:=true }.cs)):=λb=>bz _ _ NX
  have L:ac pg 173 [Oe S.g 0,v4] G4=some (I S.cp.length,R):=a1;have i:hr R S.g=some (.cells {S.clause v4 (dz x) with F:=F5,wl:=iB S.wl S.cp.length (dz x) }.cs):=aC;rcases P:dz x with _|⟨a,_|⟨b,y⟩⟩
  ·refine⟨_,_,_,aa ?Z,⟨U,o5,h.mks,h.fr,h.fu,h.pr,u⟩,rfl,rfl,(t.trans G).trans aH⟩
   case Z=>
    rw[P] at hl;simp only[SS.cs,SS.clause] at i ⊢;simp[q1k,e1,hE,m1,m2,m3,m4,m5,m6,m7,m8,m9,j,l,f,c,d,ho,c1,s,ff,L,A,hl,i]
  ·obtain⟨bc,aS,ys,an,aO⟩:=av.resolve_left (λe=>by rw[P] at e;cases e.1)
   have Q:=r5.get (c5.trans aO);rw[P] at Q an hl O ao;have c0:(([a]++ys).map I)[0]?=some (I a):=rfl;have D:=O a NX;have aN:=rW T r5 (n:=a) D.2 aB t5.s1;have v:ac pg 174 [Oe S.g 0,I a] R=some (I (isV S.sv a),R):=aN;have aK:v4= .stk bc aS 1:=an;have B:=hT.sv a D.1 D.2;generalize ([a]++ys).map I=C at *;clear an;subst aK;by_cases h1:isV S.sv a<0
   ·refine⟨_,_,_,aa ?Y,⟨U,o5,h.mks,h.fr,h.fu,h.pr,u⟩,rfl,rfl,(t.trans G).trans aH⟩
    case Y=>
     simp only[SS.cs,SS.clause] at i ⊢;simp[q1k,e1,hE,m1,m2,m3,m4,m5,m6,m7,m8,m9,j,l,f,c,d,ho,c1,s,ff,L,A,i,Q,c0,v,h1]
   ·by_cases h2:isV S.sv a=0
    · -- it must be so
     rw[h2] at B;have aF:a∉S.tr:=λe=>by rw[if_pos e] at B;cases B
     have aR: -a∉S.tr:=λe=>by rw[if_neg aF,if_pos e] at B;cases B
     obtain⟨H6,G6,tp,p1,p2,p3,p4⟩:=rX T r5 (n:=a) (a:=S.cp.length) D.2 aB (by have:=hT.tlen;show (S.tr.length+1)*8<=_;omega);have aI:ac pg 175 [Oe S.g 0,I a,I S.cp.length] R=some (.tup [],G6):=p1;have al:[a]=dz x:=P.symm;have t6:=t5.put (x:=a) (a:=S.cp.length) (tp:=tp) D aF aR ⟨S.cp.length,[a],rfl,by show (S.ls++[dz x])[S.cp.length]?=_;rw[aE,al];exact List.getElem?_concat_length ..,NX,λz hz aM=>absurd (List.mem_singleton.1 hz) aM⟩;refine⟨_,H6,G6,aa ?K,⟨⟨p3,p2,t6,w5.lb⟩,o5,h.mks,h.fr,h.fu,h.pr,u⟩,rfl,rfl,(t.trans G).trans λb=>p4 _ NX NX NX NX NX⟩
     case K=>simp[q1k,e1,hE,m1,m2,m3,m4,m5,m6,m7,m8,m9,j,l,f,c,d,ho,c1,s,ff,L,A,Q,c0,v,h1,h2,aI]
    ·refine⟨_,X,R,aa ?V,⟨w5,o5,h.mks,h.fr,h.fu,h.pr,u⟩,rfl,rfl,t.trans G⟩
     case V=>simp[q1k,e1,hE,m1,m2,m3,m4,m5,m6,m7,m8,m9,j,l,f,c,d,ho,c1,s,ff,L,A,Q,c0,v,h1,h2]
  ·have h2:¬((a::b::y).length:Int)=0:=by simp;omega
   have h3:¬((a::b::y).length:Int)=1:=by simp;omega
   rw[P] at hl;refine⟨_,X,R,aa ?W,⟨w5,o5,h.mks,h.fr,h.fu,h.pr,u⟩,rfl,rfl,t.trans G⟩
   case W=>
    generalize ((a::b::y).length:Int)=M at *;simp[q1k,e1,hE,m1,m2,m3,m4,m5,m6,m7,m8,m9,j,l,f,c,d,ho,c1,s,ff,L,A,hl,h2,h3]
end
end
section
variable {gh:Ol} {o:Bool} {n:Nat} {fu:Int} {E:Ok} {L:Oj}
attribute [local simp high] fq
attribute [local simp] ft fw
theorem BE {q:Int} {E:Ok} {L:Oj} {n g:Nat} (p:E.length=L.length) (c:∀(k:Nat) x,L[k]?=some x->∃o,E[k]?=some (.sl o 1 (x.map I))) (l:L.length<=1000000) (j:∀x∈L,x.length<=1000000000/\∀y∈x,y≠0/\y.natAbs<=n) :
  ∀(m k:Nat) (S:SS) (H:Hp) (gh:Ol),k+m=L.length->Bg H gh S q k->S.n=n->S.g=g->
  ∃f r d,ab pg qfv ⟨[(6,Oe g 0),(26,NZ E),(27,I L.length),(28,I k)],[],gh⟩=Og ⟨[(6,Oe g 0)],[],d⟩/\Bg r d f q L.length/\f.g=g/\f.n=n/\Fx H r
 |0,k,S,H,gh,G,h,hn,e=>by
  have:k=L.length:=NW;subst this;refine⟨S,H,gh,(bn (s1:=⟨[(6,Oe g 0),(26,NZ E),(27,I L.length),(28,I L.length),(29,B false)],[],gh⟩) (aa ?_)).trans ?_,h,e,hn,λ_=>rfl⟩
  ·simp[q1k]
  ·simp
 |m+1,k,S,H,gh,G,h,hn,e=>by
  obtain⟨x,b⟩:∃x,L[k]?=some x:=⟨_,aA NW⟩
  obtain⟨o,F⟩:=c k x b;have a:=j x (aL b);obtain⟨P,R,N,i,D,C,A,z⟩:=L3 h F p (by rw[hn];exact a.2) a.1 l;rw[e] at i;obtain⟨O,Q,M,w,v,u,t,s⟩:=BE p c l j m (k+1) P R N NW D (A.trans hn) (C.trans e);exact⟨O,Q,M,(ay i rfl).trans w,v,u,t,z.trans s⟩
def H0 (a:Ol):Hp:=λr=>match r with
 | .ex b=>(hr a b).map λo=>(b,o)
 |_=>none
theorem L4 (a:Ol):Rp (H0 a) a:=by
 have ex:∀{r b o},H0 a r=some (b,o)->r= .ex b/\hr a b=some o:=λ{r b o} h=>by
  cases r with
  |ex c=>
   unfold H0 at h;rw[aE] at h;obtain⟨f,e,d⟩:=h;cases d;exact⟨rfl,e⟩
  |_=>cases h
 exact⟨λh=>(ex h).2,λe d=>(ex e).1.trans (ex d).1.symm⟩
theorem vo {a:Ol} {c:Hp} (h:Fx (H0 gh) c) (e:Rp c a) {b:Nat} {o:GObj} (d:hr gh b=some o):hr a b=some o:=
 e.get (r:= .ex b) (by rw[h b];show (hr gh b).map _=_;rw[d];rfl)
def S00 (c n:Nat) (fu:Int):SS where
 g:=c+4
 wm:=c
 so:=c+1
 bb:=c+2
 lv:=c+3
 n:=n
 sv:=List.replicate (n+1) 0
 bv:=List.replicate (n+1) 0
 lw:=List.replicate (n+1) 0
 cp:=[]
 ls:=[]
 F:=[]
 wl:=λ_=>[]
 tp:= .nils
 mp:= .nils
 tr:=[]
 mks:=[]
 hd:=0
 fr:=0
 fu:=fu
 pr:=[]
 fa:=false
theorem L5 (hn:n<=100000000) :
  ∃H,Bg H (ha (ha (ha (ha (ha gh (.map [])) (.cells (List.replicate (n+1) (I 0)))) (.cells (List.replicate (n+1) (I 0)))) (.cells (List.replicate (n+1) (I 0)))) (.cells (S00 gh.length n fu).cs)) (S00 gh.length n fu) fu 0/\Fx (H0 gh) H:=by
 have z:(List.replicate (n+1) (0:Int)).map I=List.replicate (n+1) (I 0):=List.map_replicate ..;have h:∀x∈List.replicate (n+1) (0:Int),x=0:=λx e=>(List.mem_replicate.1 e).2
 have t:∀j,(List.replicate (n+1) (0:Int)).getD j 0=0:=λj=>by rw[aK,List.getElem?_replicate];split<;>rfl
 have A:=(L4 gh).new .wm (.map []);have y:=A.new .so (.cells (List.replicate (n+1) (I 0)));have w:=y.new .bb (.cells (List.replicate (n+1) (I 0)));have u:=w.new .lv (.cells (List.replicate (n+1) (I 0)));have o:=u.new .bx (.cells (S00 gh.length n fu).cs);have s:∀a,(ha gh a).length=gh.length+1:=λa=>gA ..
 have r:∀a b,(ha (ha gh a) b).length=gh.length+2:=λa b=>by rw[show (ha (ha gh a) b).length=(ha gh a).length+1 from gA ..,s]
 have q:∀a b c,(ha (ha (ha gh a) b) c).length=gh.length+3:=λa b c=>by rw[show (ha (ha (ha gh a) b) c).length=(ha (ha gh a) b).length+1 from gA ..,r]
 have E:∀a b c d,(ha (ha (ha (ha gh a) b) c) d).length=gh.length+4:=λa b c d=>by rw[show (ha (ha (ha (ha gh a) b) c) d).length=(ha (ha (ha gh a) b) c).length+1 from gA ..,q]
 rw[s,r,q,E] at o;refine⟨_,⟨⟨?J,o,?Z,by show (0:Nat)<=_;omega⟩,λm=>⟨List.nodup_nil,λi C=>by cases C⟩,rfl,rfl,rfl,rfl,cU _⟩,λb=>?Y⟩
 case Y=>rfl
 case J=>
  exact {bx:=ec ..,wm:=rfl,so:=by show some _=some _;rw[<-z];rfl,bb:=by show some _=some _;rw[<-z];rfl,lv:=by show some _=some _;rw[<-z];rfl,svl:=by simp[S00],bvl:=by simp[S00],lwl:=by simp[S00],tr:= .inl ⟨rfl,rfl⟩,mks:= .inl ⟨rfl,rfl⟩,cll:=rfl,cl:=λi v k D F=>(by cases i<;>cases D),wt:=λm=> .inl ⟨rfl,rfl⟩ }
 case Z=>
  refine {nN:=(by show n<=_;omega),l0:=λl g=>(by cases g),ld:=λl g=>(by cases g),t0:=λx e=>(by cases e),td:=List.Pairwise.nil,sv:=λx _ _=>?_,s1:=λx e=>(by rw[h x e];omega),lw:=λp x f=>(by cases p<;>cases f),ms:=List.Pairwise.nil,mt:=λm B=>(by cases B),hd:=cU _,rs:=λp x f=>(by cases p<;>cases f),svl:=by simp[S00],bvl:=by simp[S00],lwl:=by simp[S00],lwb:=λx e=>(by rw[h x e];omega) }
  show isV (List.replicate (n+1) 0) x=if x∈([]:Oi) then 1 else if -x∈([]:Oi) then -1 else 0
  unfold isV;rw[t];simp
theorem L6 (t:E.length=L.length) (j:∀(k:Nat) x,L[k]?=some x->∃o,E[k]?=some (.sl o 1 (x.map I))) (F:L.length<=1000000) (C:∀x∈L,x.length<=1000000000/\∀y∈x,y≠0/\y.natAbs<=n) (hn:n<=100000000) :
  ∃S u e,ac pg 169 [.agg [I n,.sl o 1 E],I fu] gh=some (Oe S.g 0,e)/\Bg u e S fu L.length/\S.n=n/\Fx (H0 gh) u:=by
 have hw:WI.wrap ((n:Int)+1)=((n+1:Nat):Int):=by rw[aq NW NW];simp
 have D:=MB;obtain⟨Q,N,l⟩:=L5 (gh:=gh) (n:=n) (fu:=fu) hn;obtain⟨O,P,h,f,A,z,w,v⟩:=BE (n:=n) (g:=gh.length+4) t j F C L.length 0 _ Q _ NW N rfl rfl;have i:ab pg qbg ⟨[(6,Oe (gh.length+4) 0)],[],h⟩=Oh ⟨[(4,Oe (gh.length+4) 0)],[],h⟩:=aa (by simp[qbg]);refine⟨O,P,h,?_,A,w,l.trans v⟩;rw[z];refine ak (fn:=q7l) (s:=⟨[(4,Oe (gh.length+4) 0)],[],h⟩) rfl rfl (aa ?J) ?Z
 case J=>
  rw[show ((0:Nat):Int)=0 from rfl] at f;simp only[SS.cs,S00,show ((0:Nat):Int)=0 from rfl] at f;have M:((n+1:Nat):Int)*8<=maxBytes:=NW;have G:(0:Int)<=((n+1:Nat):Int):=NW;rw[<-t] at f;generalize n+1=m at *;have r:∀a,(ha gh a).length=gh.length+1:=λa=>gA ..
  have q:∀a b,(ha (ha gh a) b).length=gh.length+2:=λa b=>by rw[show (ha (ha gh a) b).length=(ha gh a).length+1 from gA ..,r]
  have p:∀a b c,(ha (ha (ha gh a) b) c).length=gh.length+3:=λa b c=>by rw[show (ha (ha (ha gh a) b) c).length=(ha (ha gh a) b).length+1 from gA ..,q]
  have B:∀a b c d,(ha (ha (ha (ha gh a) b) c) d).length=gh.length+4:=λa b c d=>by rw[show (ha (ha (ha (ha gh a) b) c) d).length=(ha (ha (ha gh a) b) c).length+1 from gA ..,p]
  simp[q7l,qfw,hw,M,G,wn,adopt,kH,f,i,au,-gA,r,q,p,B]
 case Z=>simp[ag,results,q7l,ah,am,af]
theorem L7 (D:E.length=L.length) (h:∀(k:Nat) x,L[k]?=some x->∃o,E[k]?=some (.sl o 1 (x.map I))) (C:L.length<=1000000) (A:∀x∈L,x.length<=1000000000/\∀y∈x,y≠0/\y.natAbs<=n) (hn:n<=100000000) (g:0<=fu/\fu<=1000000) :
  ∃v c a j e,ac pg 164 [.agg [I n,.sl o 1 E],I fu] gh=some (.agg [I v,aw c,aw a],e)/\Rp j e/\Ans j e n v c a/\Fx (H0 gh) j:=by
 obtain⟨S,P,G,z,d,u,t⟩:=L6 (o:=false) (gh:=gh) (fu:=fu) D h C A hn;have B:=d.lb;have R:Rn P G S:=⟨d.w,d.o,by rw[d.fr];omega,by rw[d.fu];exact g.1,by rw[d.pr];simp,by rw[d.fu];omega⟩
 obtain⟨v,c,a,O,F,r,q,f,p⟩:=LH R;rw[u] at f;have m:PV.one (aw c)=true/\PV.one (aw a)=true/\aw (aw c)=aw c/\aw (aw a)=aw a:=by
  rcases f with ⟨-,i,b,T,M,-⟩|⟨-,⟨l,N⟩,Q,i⟩
  ·rw[i,M];exact⟨rfl,rfl,rfl,rfl⟩
  ·rw[N,i];exact⟨rfl,rfl,rfl,rfl⟩
 refine⟨v,c,a,O,F,ak (fn:=q7k) (s:=?J) rfl rfl (aa ?Z) ?Y,q,f,t.trans p⟩
 case Z=>simp[q7k,qfu,z,r,m,au];rfl
 case Y=>simp[ag,results,q7k,ah,am,af,m]
end
theorem Mf (a b:List UInt8):bA a++bA b=bA (a++b):=by apply ByteArray.ext;simp
def fg (a:List UInt8) (l:Oi):List UInt8:=a++l.flatMap (λn=>32::cm n)++[10]
theorem vp:∀(k u:Nat),(ez k u).length<=k
 |0,_=>cU _
 | k+1,u=>by
  rw[ez];split
  ·simp
  ·have:=vp k (u/10)
   simp;omega
theorem pp (n:Int):(cm n).length<=21:=by
 unfold cm;split
 ·have:=vp 20 n.natAbs
  simp;omega
 ·have:=vp 20 n.toNat
  omega
section
variable {gh:Ol}
theorem hQ {a b:List UInt8} (h:a.length+b.length<=9223372036854775807):dj .add (.str (bA a)) (.str (bA b))=some (.str (bA (a++b))):=by
 have d:(bA a).size=a.length:=by simp[ByteArray.size]
 have c:(bA b).size=b.length:=by simp[ByteArray.size]
 have e:IntKind.max .i64=9223372036854775807:=rfl;simp only[dj,d,c,e,Mf];rw[if_neg NW]
theorem rZ {n:Int} (b: -9223372036854775808<=n) (a:n<=9223372036854775807):ac pg 260 [I n] gh=some (.str (bA (cm n)),gh):=by have:ac pg 260 [I n] gh=libItoa [I n] gh:=rfl;rw[this,libItoa,if_pos ⟨b,a⟩]
theorem BL {n:Int} (b: -9223372036854775808<=n) (a:n<=9223372036854775807):ac pg 363 [I n] gh=some (.str (bA (cm n)),gh):=by have:ac pg 363 [I n] gh=libItoa [I n] gh:=rfl;rw[this,libItoa,if_pos ⟨b,a⟩]
abbrev nA (l:Oi):Prop:=∀n∈l,-9223372036854775808<=n/\n<=9223372036854775807
abbrev gf (l:Oi):Bool:=l.all λn=>decide (0<=n/\n<=255)
theorem vq (l:Oi):(l.flatMap λn=>32::cm n).length<=22*l.length:=by
 induction l with
 |nil=>simp
 |cons a l b=>
  have:=pp a;simp only[cS,aQ,aV];omega
theorem BM {l:Oi} {c:List UInt8} (t:nA l) (z:l.length<=2000000) (hw:c.length<=100):∀(k i:Nat) (b:Bool),i+k=l.length->
  ab pg qgc ⟨[(6,.str (bA (c++(l.take i).flatMap λn=>32::cm n))),(7,B b),(11,LI l),(12,I l.length),(13,I i)],[],gh⟩=
   Og ⟨[(6,.str (bA (c++l.flatMap λn=>32::cm n))),(7,B (b&&gf (l.drop i)))],[],gh⟩
 |0,i,b,A=>by
  have d:¬(i:Int)<(l.length:Int):=NW;rw[bK NW,aM NW];refine (bn (s1:=?J) (aa ?Z)).trans ?Y
  case Z=>simp[q80,d];rfl
  case Y=>simp[keep,bj]
 | k+1,i,b,A=>by
  have d:i<l.length:=NW;have e:(i:Int)<(l.length:Int):=NW;have r:(l.map I)[i]?=some (I l[i]):=by simp[d]
  have hr:=t l[i] (cD d);have v:=rZ (gh:=gh) hr.1 hr.2;have f:WI.wrap ((i:Int)+1)=((i+1:Nat):Int):=gv (by simp only[Sz];omega);have C:c++(l.take (i+1)).flatMap (λn=>32::cm n)=(c++(l.take i).flatMap λn=>32::cm n)++32::cm l[i]:=by rw[List.take_succ_eq_append_getElem d];simp only[List.flatMap_append,cS,List.flatMap_nil,bE,aT,List.singleton_append,bF,bH]
  have s:=vq (l.take (i+1));have m:(l.take (i+1)).length<=l.length:=by simp;omega
  have h:=BM t z hw k (i+1) (b&&decide (0<=l[i]/\l[i]<=255)) NW;rw[aJ d];simp only[gf] at h;simp only[gf,List.all_cons,<-Bool.and_assoc];have j:(c++(l.take (i+1)).flatMap (λn=>32::cm n)).length<=100+22*l.length:=by rw[aQ];omega
  rw[C] at h j;simp only[aQ] at j;rw[<-aQ] at j;generalize (c++(l.take i).flatMap λn=>32::cm n)=X,((l.drop (i+1)).all λn=>decide (0<=n/\n<=255))=rest at *;generalize l[i]=x at *;generalize cm x=g at *;have q:dj .add (.str (bA [32])) (.str (bA g))=some (.str (bA (32::g))):=hQ (a:=[32]) (b:=g) (by simp at j ⊢;omega);have p:dj .add (.str (bA X)) (.str (bA (32::g)))=some (.str (bA (X++32::g))):=hQ (a:=X) (b:=32::g) (by simp at j ⊢;omega);obtain⟨u,y⟩:∃u:Int,((i+1:Nat):Int)=u:=⟨_,rfl⟩
  rw[y] at f h;simp only[LI] at *;have o:l.length=(l.map I).length:=(aW _).symm;rw[o] at h e ⊢;generalize l.map I=L at *;refine ay (aa ?K) h
  case K=>
   by_cases w:0<=x
   ·cases b<;>simp[q80,e,r,v,q,p,f,w]
   ·cases b<;>simp[q80,e,r,v,q,p,f,w]
theorem BN {l:Oi} {word:List UInt8} (f:nA l) (d:l.length<=2000000) (hw:word.length<=100) :
  ac pg 254 [.str (bA word),LI l] gh=some (.tup [.str (bA (fg word l)),B (gf l)],gh):=by
 have h:=BM (gh:=gh) f d hw l.length 0 true NW;rw[List.take_zero,List.flatMap_nil,bE,bJ,Bool.true_and,aR] at h;have hn:=vq l;have z:=hQ (a:=word++l.flatMap λn=>32::cm n) (b:=[10]) (by simp only[aQ,List.length_singleton];omega);have e:fg word l=(word++l.flatMap λn=>32::cm n)++[10]:=rfl;rw[e];generalize (word++l.flatMap λn=>32::cm n)=X,gf l=q at *;have c:l.length=(l.map I).length:=(aW _).symm;simp only[LI] at *;rw[c] at h;generalize l.map I=L at *;have g:ab pg qcb ⟨[(6,.str (bA X)),(7,B q)],[],gh⟩=Oh ⟨[(4,.str (bA (X++[10]))),(5,B q)],[],gh⟩:=aa (by simp[qcb,z])
 refine ak (fn:=q81) (s:=⟨[(4,.str (bA (X++[10]))),(5,B q)],[],gh⟩) rfl rfl (aa ?J) ?Z
 case J=>simp[qgd,q81,h,g]
 case Z=>simp[ag,results,q81,ah,am,af]
end
section
attribute [local congr] bu
attribute [local simp] au
abbrev LsI (a:Oj):PV:= NZ (a.map λl=>LI l)
abbrev jv (st:Oi) (a:Oj):PV:= .agg [LI st,LsI a]
abbrev startW:List UInt8:=[115,116,97,114,116]
abbrev inW:List UInt8:=[105,110]
abbrev vr (st:Oi) (a:Oj):Bool:=decide (41<a.length)||decide (20<st.length)||a.any λl=>decide (20<l.length)
abbrev jZ (st:Oi) (a:Oj):List UInt8:=fg startW st++a.flatMap (fg inW)
def pq (st:Oi) (a:Oj):List UInt8×Int:=
 if vr st a then ([],2) else if gf st&&a.all (λl=>gf l) then (jZ st a,0) else ([],3)
theorem pu (w:List UInt8) (l:Oi):(fg w l).length<=w.length+22*l.length+1:=by have:=vq l;simp only[fg,aQ,List.length_singleton];omega
theorem pw:ByteArray.empty=bA []:=rfl
section
variable {gh:Ol}
theorem BO {st:Oi} {a:Oj} (hn:a.length<=3000000):∀(k i:Nat),i+k=a.length->
  ab pg qga ⟨[(1,Ob),(23,LsI a),(24,I a.length),(25,I i)],[[LI st,LsI a]],gh⟩=
   if (a.drop i).any (λl=>decide (20<l.length)) then Oh ⟨[(2,.str (bA [])),(3,I 2)],[],gh⟩ else Og ⟨[(1,Ob)],[[LI st,LsI a]],gh⟩
 |0,i,q=>by
  have c:¬(i:Int)<(a.length:Int):=NW;rw[aM NW,List.any_nil,if_neg NY];refine (bn (s1:=?J) (aa ?Z)).trans ?Y
  case Z=>simp[q7z,c];rfl
  case Y=>simp[keep,bj]
 | k+1,i,q=>by
  have c:i<a.length:=NW;have b:(i:Int)<(a.length:Int):=NW;have o:(a.map λl=>LI l)[i]?=some (LI a[i]):=by simp[c]
  have d:WI.wrap ((i:Int)+1)=((i+1:Nat):Int):=gv (by simp only[Sz];omega);have h:=BO (st:=st) hn k (i+1) NW;rw[aJ c,List.any_cons];generalize ((a.drop (i+1)).any λl=>decide (20<l.length))=rest,a[i]=l at *;obtain⟨u,p⟩:∃u:Int,((i+1:Nat):Int)=u:=⟨_,rfl⟩
  rw[p] at d h;obtain⟨n,e⟩:∃n,l.length=n:=⟨_,rfl⟩
  have f:(l.map I).length=n:=by rw[aW,e]
  rw[e];simp only[LsI,LI] at *;have j:a.length=(a.map λl=>PV.sl false 1 (l.map I)).length:=(aW _).symm;rw[j] at h b ⊢;generalize (a.map λl=>PV.sl false 1 (l.map I))=L at *;generalize l.map I=s,st.map I=r at *;by_cases g:20<n
  ·rw[aG g,Bool.true_or,if_pos rfl]
   have m:decide ((20:Int)<(n:Int))=true:=aG NW;refine cx (aa ?K)
   case K=>simp[q7z,b,o,f,m,pw]
  ·rw[aF g,Bool.false_or]
   have m:decide ((20:Int)<(n:Int))=false:=aF NW;refine ay (aa ?V) h
   case V=>simp[q7z,b,o,f,m,d]
theorem BP {d:Oj} {X:List UInt8} (hn:d.length<=41) (o:∀l∈d,nA l/\l.length<=20) (z:X.length<=1000):∀(k i:Nat) (b:Bool),i+k=d.length->
  ab pg qgb ⟨[(6,.str (bA (X++(d.take i).flatMap (fg inW)))),(7,B b),(40,LsI d),(41,I d.length),(42,I i)],[],gh⟩=
   Og ⟨[(6,.str (bA (X++d.flatMap (fg inW)))),(7,B (b&&(d.drop i).all λl=>gf l))],[],gh⟩
 |0,i,b,y=>by
  have e:¬(i:Int)<(d.length:Int):=NW;rw[bK NW,aM NW];refine (bn (s1:=?J) (aa ?Z)).trans ?Y
  case Z=>simp[qc8,e];rfl
  case Y=>simp[keep,bj]
 | k+1,i,b,y=>by
  have e:i<d.length:=NW;have f:(i:Int)<(d.length:Int):=NW;have w:(d.map λl=>LI l)[i]?=some (LI d[i]):=by simp[e]
  have hr:=o d[i] (cD e);have C:=BN (gh:=gh) (word:=inW) hr.1 NW NY;have m:WI.wrap ((i:Int)+1)=((i+1:Nat):Int):=gv (by simp only[Sz];omega);have A:X++(d.take (i+1)).flatMap (fg inW)=(X++(d.take i).flatMap (fg inW))++fg inW d[i]:=by rw[List.take_succ_eq_append_getElem e];simp only[List.flatMap_append,cS,List.flatMap_nil,bE,aT]
  have n:∀g:Oj,(∀l∈g,l.length<=20)->(g.flatMap (fg inW)).length<=500*g.length:=by
   intro g
   induction g with
   |nil=>intro _;simp
   |cons a g j=>
    intro h;have H:=pu inW a;have G:=h a NX;have F:=j (λl o=>h l (by simp[o]));simp only[cS,aQ,aV];have D:inW.length=2:=rfl;omega
  have s:=n (d.take i) (λl h=>(o l (cO h)).2);have r:=pu inW d[i];have D:inW.length=2:=rfl;have p:(d.take i).length<=41:=by simp;omega
  have j:=BP hn o z k (i+1) (b&&gf d[i]) NW;rw[aJ e,List.all_cons,<-Bool.and_assoc];have v:=hQ (a:=X++(d.take i).flatMap (fg inW)) (b:=fg inW d[i]) (by simp only[aQ];omega);rw[A] at j;generalize ((d.drop (i+1)).all λl=>gf l)=rest,(X++(d.take i).flatMap (fg inW))=c,fg inW d[i]=M,gf d[i]=q at *;generalize d[i]=l at *;obtain⟨u,x⟩:∃u:Int,((i+1:Nat):Int)=u:=⟨_,rfl⟩
  rw[x] at m j;simp only[LsI,LI] at *;have t:d.length=(d.map λl=>PV.sl false 1 (l.map I)).length:=(aW _).symm;rw[t] at j f ⊢;generalize (d.map λl=>PV.sl false 1 (l.map I))=L at *;generalize l.map I=E at *;refine ay (aa ?K) j
  case K=>cases b<;>simp[qc8,f,w,C,v,m]
theorem BQ {st:Oi} {ins:Oj} (p:nA st) (q:∀l∈ins,nA l) (hn:ins.length<=3000000) :
  ac pg 246 [jv st ins] gh=some (.tup [.str (bA (pq st ins).1),I (pq st ins).2],gh):=by
 have c:(ins.map λl=>LI l).length=ins.length:=aW _;have f:(st.map I).length=st.length:=aW _;have g:=BO (gh:=gh) (st:=st) hn ins.length 0 NW;rw[bJ,aR] at g;unfold pq vr;by_cases a:41<ins.length
 ·rw[if_pos (by simp[a])]
  have a:decide ((41:Int)<(ins.length:Int))=true:=aG NW;rw[<-c] at a;simp only[jv,LsI,LI] at *;generalize (ins.map λl=>PV.sl false 1 (l.map I))=L,st.map I=j at *;refine ak (fn:=qy) (s:=?J) rfl rfl (aa ?Z) ?Y
  case Z=>simp[q4q,qy,a,pw];rfl
  case Y=>simp[ag,results,qy,ah,am,af]
 by_cases b:20<st.length
 ·rw[if_pos (by simp[b])]
  have a:decide ((41:Int)<(ins.length:Int))=false:=aF NW;have b:decide ((20:Int)<(st.length:Int))=true:=aG NW;rw[<-c] at a;rw[<-f] at b;simp only[jv,LsI,LI] at *;generalize (ins.map λl=>PV.sl false 1 (l.map I))=L,st.map I=j at *;refine ak (fn:=qy) (s:=?K) rfl rfl (aa ?V) ?W
  case V=>simp[q4q,qy,a,b,pw];rfl
  case W=>simp[ag,results,qy,ah,am,af]
 by_cases h:(ins.any λl=>decide (20<l.length))=true
 ·rw[if_pos (by rw[h,Bool.or_true])]
  rw[if_pos h] at g;have a:decide ((41:Int)<(ins.length:Int))=false:=aF NW;have b:decide ((20:Int)<(st.length:Int))=false:=aF NW;rw[<-c] at a g;rw[<-f] at b;simp only[jv,LsI,LI] at *;generalize (ins.map λl=>PV.sl false 1 (l.map I))=L,st.map I=j at *;refine ak (fn:=qy) (s:=?Ja) rfl rfl (aa ?Jb) ?Jc
  case Jb=>simp[q4q,qy,a,b,g,pw];rfl
  case Jc=>simp[ag,results,qy,ah,am,af]
 rw[Bool.not_eq_true] at h;rw[h,if_neg (by simp[a,b])];rw[if_neg (by rw[h];decide)] at g;have i:∀l∈ins,nA l/\l.length<=20:=by intro l m;refine⟨q l m,?_⟩;have:=List.any_eq_false.1 h l m;simp at this;omega
 have u:=pu startW st;have v:startW.length=5:=rfl;have k:=BP (gh:=gh) (X:=fg startW st) NW i NW ins.length 0 (gf st) NW;rw[List.take_zero,List.flatMap_nil,bE,bJ,aR] at k;have r:=BN (gh:=gh) (word:=startW) p NW NY;have t:jZ st ins=fg startW st++ins.flatMap (fg inW):=rfl;rw[t];generalize (ins.all λl=>gf l)=d,gf st=e at *;generalize fg startW st=X at *;generalize (X++ins.flatMap (fg inW))=T at *;have a:decide ((41:Int)<(ins.length:Int))=false:=aF NW;have b:decide ((20:Int)<(st.length:Int))=false:=aF NW;rw[<-c] at a g k;rw[<-f] at b
 simp only[jv,LsI,LI] at *;generalize (ins.map λl=>PV.sl false 1 (l.map I))=L,st.map I=j at *;have n:ab pg qc9 ⟨[(6,.str (bA T)),(7,B (e&&d))],[],gh⟩=Oh ⟨[(2,.str (bA (if e&&d then (T,(0:Int)) else ([],3)).1)),(3,I (if e&&d then (T,(0:Int)) else ([],3)).2)],[],gh⟩:=by refine aa ?_;cases (e&&d)<;>simp[qc9]<;>rfl
 have o:ab pg qca ⟨[(1,Ob)],[[NZ j,NZ L]],gh⟩=Oh ⟨[(2,.str (bA (if e&&d then (T,(0:Int)) else ([],3)).1)),(3,I (if e&&d then (T,(0:Int)) else ([],3)).2)],[],gh⟩:=by refine aa ?_;generalize (if e&&d then (T,(0:Int)) else ([],3))=R at *;simp[qca,r,k,n]
 generalize (if e&&d then (T,(0:Int)) else ([],3))=R at *;refine ak (fn:=qy) (s:=?Jd) rfl rfl (aa ?Je) ?Jf
 case Je=>simp[q4q,qy,a,b,g,o];rfl
 case Jf=>simp[ag,results,qy,ah,am,af]
end
end
section
attribute [local congr] bu
attribute [local simp] au
section
variable {gh:Ol}
theorem Ce (k:Int):ac pg 352 [I k] gh=some (B (decide (k=1\/k=21)),gh):=by
 by_cases a:k=1
 ·subst a
  refine ak (fn:=q2v) (s:=?J) rfl rfl (aa ?Z) ?Y
  case Z=>simp[qc4,q2v];rfl
  case Y=>simp[ag,results,q2v,ah,am,af]
 ·refine ak (fn:=q2v) (s:=?K) rfl rfl (aa ?V) ?W
  case V=>simp[qc4,q2v,a];rfl
  case W=>simp[ag,results,q2v,ah,am,af,a]
def jw (k:Int):List UInt8:=wordsL.getD k.toNat []
variable {m:Md}
end
end
end Go.Lw