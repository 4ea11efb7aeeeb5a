/-
  The texts that the proof stands on, part 17.
-/
import Derived.Test.YtmodipglnngghadGreatDoorRestModelsP
import Derived.LoopNIn
set_option linter.unusedVariables false
set_option linter.unusedSimpArgs false
set_option linter.unnecessarySimpa false

set_option maxRecDepth 100000
set_option maxHeartbeats 4000000
namespace Go.Lw
open Go
section
open Go.RowKit
def w8:List ICode->Code->Option Code
 |[],c=>some c
 |_::l,.seq _ y=>w8 l y
 |_,_=>none
def td (P:Program) (a:FI) (N:Nat):List ICode->Code->Bool
 |[],_=>true
 |i::l,.seq x y=>eh P a N i x&&td P a N l y
 |_,_=>false
def tm (pg:Prg):List ICode->St->St->Prop
 |[],s,t=>s=t
 |i::l,s,t=>∃a,bm pg i s=some (.normal,a)/\tm pg l a t
structure RPs where
 as:List ICode
 dr:List IOpG
 dk:gj
 dn:Nat
 Ls:List (gj×List (Nat×Nat))
 as2:List ICode
 a6:ICode
 hd:ICode
 bs:List ICode
 sp:ICode
 k4:ICode
 k5:ICode
structure RCs where
 ops:Array Oper
 r2:Code
 a6:Code
 hd:Code
 body:Code
 sp:Code
 k4:Code
 k5:Code
def Pu (R:RPs) (c:Code):Option RCs:=
 match w8 R.as c with
 |some (.seq (.region _ b true) d)=>match w8 R.as2 d with
  |some (.seq (.seq i (.block 0 (.loop (.seq h (.seq (.block 1 a) g))))) f)=>(w8 R.bs a).map λe=>⟨b,d,i,h,a,e,g,f⟩
  |_=>none
 |_=>none
def OD (P:Program) (b:FI) (N:Nat) (R:RPs) (a:Array Oper):Bool:=
 iG P b N a R.dr a.toList&&(wt a&&R.Ls.all λx=>sortOk a R.dr x.1 x.2)
def H5 (P:Program) (a:FI) (N:Nat) (R:RPs) (c:Code):Bool:=
 match Pu R c with
 |some q=>td P a N R.as c&&(OD P a N R q.ops&&(td P a N R.as2 q.r2&&(eh P a N R.a6 q.a6&&(eh P a N R.hd q.hd&&(td P a N R.bs q.body&&(eh P a N R.sp q.sp&&(eh P a N R.k4 q.k4&&eh P a N R.k5 q.k5)))))))
 |none=>false
structure FI.Like (fi fi':FI):Prop where
 f:fi'.f=fi.f
 bT:fi'.bT=fi.bT
 u8:fi'.u8=fi.u8
 gw:fi'.gw=fi.gw
 gl:∀x∈fi.gl,x∈fi'.gl
section
variable {fi fi1:FI} {M M' Me:Mem} {w w' we:World} {P:Program} {s s':St} {a:Act} {pg:Prg} {N:Nat}
theorem FI.Like.refl (a:FI):a.Like a:=⟨rfl,rfl,rfl,rfl,λ_ h=>h⟩
theorem FI.Like.round (h:fi.Like fi1) (b k:Nat) (v:Option Value):fi.Like (fi.round b k v):=⟨rfl,rfl,rfl,rfl,λ_ h=>bC _ h⟩
theorem FI.Like.letgo (h:fi.Like fi1) (a:Nat):fi.Like (fi1.letgo M w a):=⟨h.f,h.bT,h.u8,h.gw,h.gl⟩
theorem x8 (d:P.follows .mixedOrders=true) (g:kR P fi pg) {i:ICode} {c:Code} {e:IExit} (b:eh P fi N i c=true) (h:bm pg i s=some (e,s')) (j:Inv fi M w s a) (f:N<=a.tmps.size) :
  c.wpIn (FR none) 0 P (CPost fi M w a.tmps.size e s') a w:=by
 obtain⟨n,hn⟩:=(dQ ..).1 h;exact tz d g n none 0 N i c s e s' a M w (.inl rfl) b hn j f
theorem N6 (o:P.follows .mixedOrders=true) (p:kR P fi pg) {Q:Exit->Act->World->Prop}:∀{l:List ICode} {c r:Code} {s:St} {a:Act} {M:Mem} {w:World},w8 l c=some r->td P fi N l c=true->tm pg l s s'->Inv fi M w s a->N<=a.tmps.size->
  (∀(b:Act) (M':Mem) (w':World),Inv fi M' w' s' b->Kp M w M' w'->b.tmps.size=a.tmps.size->r.wpIn (FR none) 0 P Q b w')->c.wpIn (FR none) 0 P Q a w
 |[],c,r,s,a,M,w,d,_,hr,n,_,hn=>by cases d;cases (show s=s' from hr);exact hn a M w n (Kp.refl M w) rfl
 |i::l,c,r,s,a,M,w,d,g,hr,n,q,hn=>by cases c<;>simp[w8] at d;rename_i x y;simp only[td,aS] at g;obtain⟨z,u,t⟩:=hr;refine wpIn_seq (wpIn_mono (x8 o p g.1 u n q) ?_);rintro A B v ⟨rfl,C,k,h,e⟩;exact N6 o p d g.2 t k aj λb M' w' m j f=>hn b M' w' m (h.trans j) (f.trans e)
def H6 (R:RPs) (S:St) (a:St):Prop:=
 (⟨Lw.keep R.dn R.dk a.env,a.lh.take R.dn,a.gh⟩:St)=S\/
   ∃l x y,a.lh.take R.dn=l++[x,y]/\w7 x=true/\w7 y=true/\(⟨(Lw.keep R.dn R.dk a.env).map λq=>(q.1,swP l.length q.2),l++[y,x],a.gh⟩:St)=S
theorem RB (g:P.follows .mixedOrders=true) (c:kR P fi pg):ii P fi (ac pg):=λf d i r b F h a e=>by obtain⟨n,hn⟩:=nM pg h;exact ye c (tz g c n) f d i r b F hn a e
theorem RC (C:P.follows .mixedOrders=true) (U:kR P fi pg) {R:RPs} {L:Nat} {b:Array Oper} (z:OD P fi N R b=true) (g:∀o:gj,o.Nodup->(∀x,x∈o↔x<R.dr.length)->∃x∈R.Ls,∀p∈x.2,Bef o p.1 p.2)
  (h:∀x∈R.Ls,∃c,dt (ac pg) (x.1.map (nth R.dr)) s=some c/\H6 R s' c) (X:Inv fi M w s a) (T:N<=a.tmps.size)
  {Q:Exit->Act->World->Prop} (hn:∀(d:Act) (M':Mem) (w':World),Inv fi M' w' s' d->Kp M w M' w'->d.tmps.size=a.tmps.size->Q .normal d w'):(Code.region L b true).wpIn (FR none) 0 P Q a w:=by
 simp only[OD,aS,bV] at z;obtain⟨n,m,F⟩:=z;have e:R.dr.length=b.size:=by rw[(H4 n).1];simp
 refine Rz (G:=λf=>∃c,Eqv c f/\H6 R s' c) C (RB C U) trivial n m X T (λo v=>?_) (λf d M' w' i k A u=>?_)
 ·obtain⟨E,D⟩:=N5 bh v
  have hr:rest b (Array.replicate b.size false)=List.range b.size:=by rw[rest,List.filter_eq_self];intro j B;simp at B;simp[B]
  obtain⟨x,t,S⟩:=g o E (λx=>by rw[D,hr,e,List.mem_range]);obtain⟨c,h1,h2⟩:=h x t;obtain⟨f,h3,h4⟩:=Rx m (F x t) v S h1;exact⟨f,h3,c,h4,h2⟩
 ·obtain⟨c,O,i⟩:=i
  obtain⟨r,q⟩:=(k.eqv O.symm).keep R.dk R.dn;rcases i with rfl|⟨l,x,y,g1,g2,g3,rfl⟩
  ·exact hn d _ w' r (A.trans q) u
  ·obtain⟨lb,I,H⟩:=r.swap g1 g2 g3
   exact hn d _ w' I (A.trans (q.trans H)) u
theorem RD (e:∀b k,M.imm b k->b<w.heap.size) {b k:Nat} (h:M.imm b k):∃b k,M.imm b k/\∀a c,M.imm a c->a<=b:=by
 have d:∀(n:Nat) (b k:Nat),M.imm b k->w.heap.size-b<=n->∃b k,M.imm b k/\∀a c,M.imm a c->a<=b:=by
  intro n
  induction n with
  |zero=>intro b k h hn;have:=e b k h;omega
  | succ n j=>
   intro b k h hn;by_cases g:∃a c,M.imm a c/\b<a
   ·obtain⟨a,c,f,i⟩:=g
    exact j a c f aj
   ·exact⟨b,k,h,λa c f=>Nat.le_of_not_lt λi=>g ⟨a,c,f,i⟩⟩
 exact d _ b k h (cW _)
def F5 (s:St):Bool:=(s.env.all λq=>N2 q.2)&&s.lh.all λa=>a.all pr
theorem RE {e:fT} {t:Nat} {v:PV} (h:get e t=some v):∃q∈e,q.2=v:=by
 induction e with
 |nil=>cases h
 |cons q e a=>
  obtain⟨b,u⟩:=q;simp only[get] at h;split at h
  ·cases h;exact⟨(b,v),aZ ..,rfl⟩
  ·obtain⟨q,d,c⟩:=a h;exact⟨q,bC _ d,c⟩
def OE (e:FI) (c:Mem) (d:World) (T:St) (a:Act):Prop:=∃fi1,e.Like fi1/\Inv fi1 c d T a/\c.gb=[]/\(∀b,c.own b=none)/\(∀b k,c.imm b k->b<fi1.n0)/\(∀x∈fi1.gl,x.1<fi1.n0)/\∃b k,c.imm b k/\b<fi1.n0
theorem Pv (y:fi.Like fi1) (j:Inv fi1 M w s a) (d:F5 s=true) {b k:Nat} (f:M.imm b k):OE fi {M with gb:=[],own:=λ_=>none } w s.old a:=by simp only[F5,aS,bV] at d;obtain⟨n,i,m,g⟩:=RD j.immlt f;have l:=Inv.begin (fi0:=fi) j (λt v r=>by obtain⟨q,u,rfl⟩:=RE r;exact d.1 q u) (λA z c e=>d.2 A z c e) m g y.gl;refine⟨_,(FI.Like.refl fi).round n i _,l,rfl,λ_=>rfl,λB o h=>Nat.lt_succ_of_le (g B o h),λx p=>?_,n,i,m,Nat.lt_succ_self _⟩;have:=l.gl x p;exact Nat.lt_succ_of_le (g _ _ this.1)
theorem Kp.begin (a:M.gb=[]):Kp M w {M with gb:=[],own:=λ_=>none } w:=
 ⟨rfl,rfl,rfl,cW _,⟨λ_ _ h=>by rw[a] at h;simp at h,λ_ _ h=>h,λ_ _ _=>rfl,λ_ h=>by rw[a] at h;simp at h,λ_ _ _=>rfl⟩,λ_ _ _ _ _=>rfl,λ_ h=> .inl h,λ_ h=>by simp at h,λ_ _ _=>rfl,λ_ _ h=> .inl h,.same rfl⟩
structure N7 (pg:Prg) (R:RPs) (T T':St):Prop where
 run:∃s1 U V W,bm pg R.hd T=some (.normal,s1)/\tm pg R.bs s1 U/\(∀cs∈U.lh,∀c∈cs,g7 c=true)/\bm pg R.sp U.thaw=some (.normal,V)/\bm pg R.k4 V=some (.normal,W)/\W.gh=[.trash]/\F5 W=true/\W.old=T'
theorem Pw (u:P.follows .mixedOrders=true) (v:∀g,fi.Like g->kR P g pg) {R:RPs} {hd i sp k4:Code} (hp:w8 R.bs i=some sp)
  (hm:∀g,fi.Like g->eh P g N R.hd hd=true/\td P g N R.bs i=true/\eh P g N R.sp sp=true/\eh P g N R.k4 k4=true) {T T':St} (hr:N7 pg R T T') (hH:OE fi Me we T a) (hN:N<=a.tmps.size)
  {Q:Exit->Act->World->Prop} {f:Act->World->Prop} (hK:∀(a':Act) (M':Mem) (w':World),OE fi M' w' T' a'->Kp Me we M' w'->a'.tmps.size=a.tmps.size->f a' w') :
  (Code.seq hd (.seq (.block 1 i) k4)).wpIn (FR none) 0 P (Exit.then f Q) a we:=by
 obtain⟨s1,U,e,c,r1,r2,r3,r4,r5,r6,r7,r8⟩:=hr.run;obtain⟨fi1,t,hI,H,o,p,G,b,k,L,q⟩:=hH;obtain⟨m1,m2,m3,m4⟩:=hm fi1 t;refine wpIn_seq (wpIn_mono (x8 u (v fi1 t) m1 r1 hI hN) ?_);rintro ex a1 w1 ⟨rfl,M1,X,F,al⟩
 show Code.wpIn _ _ P _ _ a1 w1
 refine wpIn_seq (wpIn_block ?_);refine N6 u (v fi1 t) hp m2 r2 X aj λa2 M2 w2 S E ad=>?_
 -- what is new is let go
 have l:=F.trans E;have r:M2.imm b k:=l.ext.imm b k L;have O:=Inv.thaw (b0:=b) S r3 r q G;have j:fi.Like (fi1.letgo M2 w2 b):=t.letgo b;obtain⟨-,-,z,y⟩:=hm _ j;refine wpIn_mono (x8 u (v _ j) z r4 O aj) ?_;rintro ex a3 w3 ⟨rfl,M3,s,D,ab⟩
 show Code.wpIn _ _ P _ _ a3 w3
 refine wpIn_mono (x8 u (v _ j) y r5 s aj) ?_;rintro ex a4 w4 ⟨rfl,M4,n,C,aa⟩;have h:=D.trans C
 -- the block of what is dead is as it was
 have I:M4.gb=[b]:=by have h1:=h.ext.gb 0 b (by simp[Mem.letgo]);have h2:=n.gbl;rw[r6] at h2;obtain⟨x,hx⟩:=List.length_eq_one_iff.1 h2;rw[hx] at h1 ⊢;simpa using h1
 have A:w4.heap[b]?=w2.heap[b]?:=by have:=n.gh 0 .trash b (by rw[r6];rfl) (by rw[I];rfl);exact this.2.2.1
 have B:=Kp.round l h H o p A;have m:M4.imm b k:=h.ext.imm b k ⟨r,λd=>absurd d.1 (Nat.not_le_of_lt q)⟩;refine hK a4 _ w4 ?_ B aj;rw[<-r8];exact Pv j n r7 m
theorem RF (k:P.follows .mixedOrders=true) (l:∀b,fi.Like b->kR P b pg) {R:RPs} {c:Code} (f:∀b,fi.Like b->H5 P b N R c=true) {Sa Sb S0 S1 F T1 T2:St} {j:St} {r:Nat}
  (ha:tm pg R.as S0 Sa) (I:∀o:gj,o.Nodup->(∀x,x∈o↔x<R.dr.length)->∃x∈R.Ls,∀p∈x.2,Bef o p.1 p.2) (hb:∀x∈R.Ls,∃j,dt (ac pg) (x.1.map (nth R.dr)) Sa=some j/\H6 R Sb j) (h0:tm pg R.as2 Sb S1) (h1:bm pg R.a6 S1=some (.normal,F)) (hg:F.gh=[]) (L:F5 F=true) (c1:N7 pg R F.old T1) (c2:N7 pg R T1 T2) (c3:bm pg R.hd T2=some (.exit 0,j)) (H:j.gh=[]) (c5:bm pg R.k5 ⟨[],[],[]⟩=some (.ret,⟨[(r,.bool true)],[],[]⟩))
  (O:∃x,x∈fi.gl) (hI:Inv fi M w S0 a) (hN:N<=a.tmps.size):c.wpIn (FR none) 0 P (CPost fi M w a.tmps.size .ret ⟨[(r,.bool true)],[],[]⟩) a w:=by
 have e:=f fi (.refl fi);unfold H5 at f e;unfold Pu at f e;split at e
 case h_2=>cases e
 rename_i q y;split at y
 case h_2=>cases y
 rename_i id aG r2 A;split at y
 case h_2=>cases y
 rename_i a6 hd E k4 k5 B;simp only[aE] at y;obtain⟨sp,m,rfl⟩:=y;rw[A] at f;simp only[B,m,cK,aS] at f e;obtain⟨na,nb,n1,n2,n3,n4,n5,n6,n7⟩:=e;have hr:=λb g=>(⟨(f b g).2.2.2.2.1,(f b g).2.2.2.2.2.1,(f b g).2.2.2.2.2.2.1,(f b g).2.2.2.2.2.2.2.1⟩:eh P b N R.hd hd=true/\td P b N R.bs E=true/\eh P b N R.sp sp=true/\eh P b N R.k4 k4=true)
 refine N6 k (l fi (.refl fi)) A na ha hI hN λaa Ma wa ap S aI=>?_
 refine wpIn_seq (RC k (l fi (.refl fi)) nb I hb ap aj λab Mb wb ao Q aH=>?_);refine N6 k (l fi (.refl fi)) B n1 h0 ao aj λa1 M1 w1 aA n aO=>?_
 have n:=(S.trans Q).trans n;refine wpIn_seq (wpIn_seq (wpIn_mono (x8 k (l fi (.refl fi)) n2 h1 aA aj) ?_));rintro ex a2 w2 ⟨rfl,M2,s,al,aN⟩
 show Code.wpIn _ _ P _ _ a2 w2
 obtain⟨x,G⟩:=O;have an:M2.gb=[]:=List.eq_nil_of_length_eq_zero (by rw[s.gbl,hg];rfl);have hH:=Pv (.refl fi) s L (s.gl x G).1;have D:=(n.trans al).trans (Kp.begin (w:=w2) an);generalize ({M2 with gb:=[],own:=λ_=>none }:Mem)=Me at hH D;refine wpIn_block (wpIn_loop_rounds 3 ?_);rw[roundsIn_succ];refine Pw k l m hr c1 hH aj λa3 M3 w3 aC ad aM=>?_
 rw[roundsIn_succ];refine Pw k l m hr c2 aC aj λa4 M4 w4 aB X aL=>?_
 rw[roundsIn_succ];have C:=D.trans (ad.trans X);obtain⟨fi1,g,ax,aF,-⟩:=aB;refine wpIn_seq (wpIn_mono (x8 k (l fi1 g) (hr fi1 g).1 c3 ax aj) ?_);rintro ex a5 w5 ⟨rfl,M5,av,U,aK⟩;simp only[xT,Exit.then,Exit.inBlock,if_true];obtain⟨k6,k7⟩:=av.keep [] 0;have e6:(⟨Lw.keep 0 [] j.env,j.lh.take 0,j.gh⟩:St)=⟨[],[],[]⟩:=by simp[Lw.keep,H]
 rw[e6] at k6;refine wpIn_mono (x8 k (l fi1 g) (f fi1 g).2.2.2.2.2.2.2.2 c5 k6 aj) ?_;rintro ex a6 w6 ⟨rfl,M6,d,T,aJ⟩;refine⟨rfl,M6,?_,C.trans (U.trans (k7.trans T)),aj⟩;refine⟨λt v z=>?_,d.defers,d.lbl,d.gbl,d.nodup,λi cs aD h=>by simp at h,λi o aD h=>by simp at h,λx H=>d.gl x (g.gl x H),d.immlt,d.ownlt,d.gblt⟩;obtain⟨g1,g2⟩:=d.env t v z;refine⟨g1,?_⟩;simp only[get] at z;split at z
 ·cases z
  have:RepP fi1 M6 w6 (.bool true) (a6.tmps.getD t undef):=g2;generalize a6.tmps.getD t undef=u at this;cases this;exact (RepP.bool (fi:=fi) (M:=M6) (w:=w6) true).repE.repAt
 ·cases z
end
end
end Go.Lw