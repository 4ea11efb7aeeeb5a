/-
  The texts that the proof stands on, part 6.
-/
import Derived.Test.YtmodipglnngghadGreatDoorRestModelsE
set_option linter.unusedVariables false
set_option linter.unusedSimpArgs false
set_option linter.unnecessarySimpa false

set_option maxRecDepth 100000
set_option maxHeartbeats 4000000
namespace Go.Lw
open Go
section
open Go.RowKit
variable {o:Oper} {d f z off:Nat} {x:IX} {caps:List IX} {v:Value} {lo hi:Option IX}
section
variable {fi:FI} {M M':Mem} {w w':World} {P:Program} {s s':St} {a:Act} {cf:CallF}
theorem Ei {e:Bool} (A:dv P fi M w s a o (.eqn d e x)) (h:ae cf s (.eqn d e x)=some s'):Sim P fi o M w s' a:=by
 obtain⟨F,op,I,E,G,N⟩:=o;obtain⟨j,g,C,i⟩:=A;cases op with
 | binOp O t H D L=>
  cases D with
  | const c=>
   cases c with
   | nilIface=>
    simp[mOp,lH] at g;obtain⟨⟨rfl,B⟩,z⟩:=g;obtain⟨r,f⟩:∃r,P.underlying t=some (.interface r):=by
     split at B
     ·exact⟨_,by assumption⟩
     ·cases B
    simp only[ae] at h;split at h
    ·rename_i k
     cases h;have m:=(bt j z k).nilI;have p:∀d,(Op.equalIn (d+1) t .nilIface .nilIface).run P w= .ok true w:=λd=>by simp[Op.equalIn,run_underlying f]
     have n:(Op.equal t .nilIface .nilIface).run P w= .ok true w:=p 9999;refine Sim.pure j C (i d rfl) (v:= .bool (!e)) ?_ (RepP.repE (.bool _)).repAt;have l:a.eval (.const .nilIface)= .nilIface:=rfl;cases e<;>simp[execOp,m,l,eqGuard,binOp,n]
    ·rename_i k
     cases h;obtain⟨q,u,m⟩:=(bt j z k).someI;have p:∀d,(Op.equalIn (d+1) t (.iface q u) .nilIface).run P w= .ok false w:=λd=>by simp[Op.equalIn,run_underlying f]
     have n:(Op.equal t (.iface q u) .nilIface).run P w= .ok false w:=p 9999;refine Sim.pure j C (i d rfl) (v:= .bool e) ?_ (RepP.repE (.bool _)).repAt;have l:a.eval (.const .nilIface)= .nilIface:=rfl;cases e<;>simp[execOp,m,l,eqGuard,binOp,n]
    ·cases h
   |_=>simp[mOp] at g
  |_=>simp[mOp] at g
 |_=>simp[mOp] at g
theorem Ej {u:UnOp} (A:dv P fi M w s a o (.un d u x)) (h:ae cf s (.un d u x)=some s'):Sim P fi o M w s' a:=by obtain⟨m,op,q,f,n,v⟩:=o;obtain⟨e,c,j,b⟩:=A;cases op<;>simp[mOp] at c;obtain⟨rfl,g⟩:=c;simp only[ae,aC,aE] at h;obtain⟨p,i,r,hr,rfl⟩:=h;obtain⟨t,l,k⟩:=DE (P:=P) hr (bt e g i);exact Sim.pure e j (b d rfl) (by simp[execOp,l]) k.repE.repAt
theorem Ek {k:IntKind} (A:dv P fi M w s a o (.conv d k x)) (h:ae cf s (.conv d k x)=some s'):Sim P fi o M w s' a:=by
 obtain⟨B,op,D,l,C,F⟩:=o;obtain⟨i,g,u,f⟩:=A;cases op<;>simp[mOp] at g;rename_i j t y;obtain⟨⟨b,p⟩,m⟩:=g;have c:P.underlying t=some (.int k):=by
  split at b
  ·rename_i r;simp at b;subst b;exact r
  ·cases b
 obtain⟨G,e⟩:=Option.isSome_iff_exists.1 p;simp only[ae] at h;split at h
 ·rename_i E n q
  cases h;have z:=(bt i m q).int;exact Sim.pure i u (f d rfl) (v:= .int k (k.wrap n)) (by simp[execOp,z,convert,run_underlying c,run_underlying e,Conv.intToInt]) (RepP.repE (.int _ _)).repAt
 ·cases h
theorem El (A:dv P fi M w s a o (.mkfn d f caps)) (h:ae cf s (.mkfn d f caps)=some s'):Sim P fi o M w s' a:=by
 obtain⟨G,op,I,r,H,L⟩:=o;obtain⟨p,l,z,m⟩:=A;cases op with
 | makeFunc E first b=>
  cases E with
  | func F=>
   simp[mOp] at l;obtain⟨⟨x,n⟩,B⟩:=l;subst n;simp only[ae,aC] at h;obtain⟨q,u,h⟩:=h;split at h
   ·rename_i e
    cases h;obtain⟨D,C⟩:=i8 p B u;refine Sim.pure p z (m d rfl) (v:= .func (.func F) #[] (b.toList.map a.eval).toArray) ?_ (RepP.repE (.fn f F q _ x (by simpa using D) e λi c v j g=>?_)).repAt
    ·have k:Array.map a.eval b=(List.map a.eval b.toList).toArray:=by apply Array.ext';simp
     simp[execOp,Instr.makeFunc,k]
    ·simp only[aB,aE] at g
     obtain⟨y,t,rfl⟩:=g;refine (C i c y j t).repP ?_;simp only[bV] at e;exact e c (aL j)
   ·cases h
  |_=>simp[mOp] at l
 |_=>simp[mOp] at l
theorem Em (A:dv P fi M w s a o (.mkbf d f caps)) (h:ae cf s (.mkbf d f caps)=some s'):Sim P fi o M w s' a:=by
 obtain⟨G,op,I,r,H,L⟩:=o;obtain⟨p,l,z,m⟩:=A;cases op with
 | makeFunc E first e=>
  cases E with
  | func F=>
   simp[mOp] at l;obtain⟨⟨x,n⟩,B⟩:=l;subst n;simp only[ae,aC] at h;obtain⟨q,u,h⟩:=h;split at h
   ·rename_i b
    cases h;obtain⟨D,C⟩:=i8 p B u;refine Sim.pure p z (m d rfl) (v:= .func (.func F) (first.toList.map a.eval).toArray #[]) ?_ (RepP.repE (.bfn f F q _ x (by simpa using D) b λi c v j g=>?_)).repAt
    ·have k:Array.map a.eval first=(List.map a.eval first.toList).toArray:=by apply Array.ext';simp
     simp[execOp,Instr.makeFunc,k]
    ·simp only[aB,aE] at g
     obtain⟨y,t,rfl⟩:=g;refine (C i c y j t).repP ?_;simp only[bV] at b;exact b c (aL j)
   ·cases h
  |_=>simp[mOp] at l
 |_=>simp[mOp] at l
theorem En (A:dv P fi M w s a o (.mkmap d)) (h:ae cf s (.mkmap d)=some s'):Sim P fi o M w s' a:=by
 obtain⟨c,op,m,f,l,n⟩:=o;obtain⟨i,e,g,b⟩:=A;cases op with
 | makeMap t r=>
  cases r with
  |none=>
   simp only[ae,bW] at h;subst h;obtain⟨M',k,j⟩:=D3 i (b d rfl);refine⟨_,.map (some w.heap.size),M',_,?_,.inl rfl,by rw[show c=some d from g];exact k,j⟩;simp[execOp,Instr.makeMap]
  |some=>simp[mOp] at e
 |_=>simp[mOp] at e
theorem Eo (h:RepP fi M w (.agg [.nilp,.nils]) v):v= .agg #[.pointer none,.slice none 0 0]:=by
 cases h with
 | agg _ c d h=>
  match c,d,h with
  |[a,b],_,h=>
   have f:=h 0 _ _ rfl rfl;have e:=h 1 _ _ rfl rfl;cases f;cases e;rfl
theorem Ep (A:dv P fi M w s a o (.boxB d x)) (h:ae cf s (.boxB d x)=some s'):Sim P fi o M w s' a:=by
 obtain⟨f,op,q,i,p,r⟩:=o;obtain⟨g,b,k,c⟩:=A;cases op<;>simp[mOp] at b;rename_i t y;obtain⟨l,b⟩:=b;simp only[ae] at h;split at h
 ·rename_i j
  simp only[bW] at h;subst h;have e:=Eo (bt g b j);obtain⟨M',n,m⟩:=D4 g (c d rfl) l;refine⟨_,.pointer (some ⟨w.heap.size,0,none⟩),M',_,?_,.inl rfl,by rw[show f=some d from k];exact n,m⟩;simp[execOp,Instr.box,newVar,newRow,e];rfl
 ·cases h
theorem qC {t:TypeId} (h:Bg P t z=true):∃e,P.underlying t=some (.slice e)/\eP P e=some z:=by
 unfold Bg at h;split at h
 ·rename_i e a;exact⟨e,a,by simpa using h⟩
 ·cases h
theorem iF {hI:Inv fi M w s a} {x:Option IX} {y:Option Operand} (b:mXo fi x y=true) {n l:Nat} (h:eF s.env n x=some l):SB (y.map a.eval) n l:=by
 cases x with
 |none=>
  cases y with
  |none=>simp[eF] at h;subst h;exact .inl ⟨rfl,rfl⟩
  |some=>simp[mXo] at b
 | some x=>
  cases y with
  |none=>simp[mXo] at b
  | some y=>
   simp only[eF] at h;split at h
   ·rename_i k i c
    split at h
    ·rename_i d
     cases h;refine .inr ⟨k,?_⟩;have:=(bt hI (by simpa [mXo] using b) c).int;simp[this];omega
    ·cases h
   ·cases h
theorem Er (A:dv P fi M w s a o (.slice d z x lo hi)) (h:ae cf s (.slice d z x lo hi)=some s'):Sim P fi o M w s' a:=by
 obtain⟨av,op,ty,ad,ax,gd⟩:=o;obtain⟨hI,hm,U,C⟩:=A;cases op with
 | slice t y al ao mx=>
  cases mx with
  |some=>simp[mOp] at hm
  | none=>
   simp[mOp] at hm;obtain⟨⟨⟨he,Q⟩,D⟩,E⟩:=hm;obtain⟨e,R,O⟩:=qC he;simp only[ae] at h;split at h
   ·rename_i ow z' xs H
    simp only[aC] at h;obtain⟨m,k,l,r,h⟩:=h;split at h
    ·rename_i j
     obtain⟨I,F,rfl⟩:=j;cases h;have i:=bt hI Q H;obtain⟨A,c,N,X⟩:=i.slC;rw[N] at i;refine Sim.pure hI U (C d rfl) ?_ (wE i I F X).repE.repAt;have:=mr (P:=P) R O (iF (hI:=hI) D r) (iF (hI:=hI) E k) I (cC F X) (A:=A) w;simp[execOp,N,this]
    ·cases h
   ·rename_i g b off n z' H
    simp only[aC] at h;obtain⟨m,k,l,r,h⟩:=h;split at h
    ·rename_i j
     obtain⟨I,F,rfl⟩:=j;cases h;have i:=bt hI Q H;have aa:∀(A:Option Addr) (c:Nat),a.eval y= .slice A n c->n<=c->RepE fi M w (.bs g b (off+l*z) (m-l) z) (.slice (if c=l then A else A.map (·.add (l*z))) (m-l) (c-l))->Sim P fi ⟨av,.slice t y al ao none,ty,ad,ax,gd⟩ M w (s.put d (.bs g b (off+l*z) (m-l) z)) a:=by intro A c N j hr;refine Sim.pure hI U (C d rfl) ?_ hr.repAt;have:=mr (P:=P) R O (iF (hI:=hI) D r) (iF (hI:=hI) E k) I (cC F j) (A:=A) w;simp[execOp,N,this]
     have ab:∀(A:Option Addr) (f c:Nat),n<=c->(n=0\/A=some ⟨f,off,none⟩)->(m-l=0\/(if c=l then A else A.map (·.add (l*z)))=some ⟨f,off+l*z,none⟩):=by
      intro A f c j B;by_cases h0:m-l=0
      ·exact .inl h0
      ·right
       rw[if_neg aj];rcases B with B|rfl
       ·omega
       ·simp[lv]
     cases g with
     |true=>
      generalize L:a.eval y=u at i;cases (show RepP fi M w (.bs true b off n z) u from i) with
      |bs _ _ _ _ A c f G B j=>exact aa A c L j (RepP.repE (.bs b _ _ z _ _ f G (ab A f c j B) aj))
     |false=>
      obtain⟨f,A,c,G,N,B,j⟩:=i;exact aa A c N j ⟨f,_,_,G,rfl,ab A f c j B,aj⟩
    ·cases h
   ·rename_i b q n H
    split at h
    ·rename_i S
     simp only[aC] at h;obtain⟨m,k,h⟩:=h;split at h
     ·rename_i j
      obtain⟨F,rfl⟩:=j;cases h;have i:=bt hI Q H;generalize L:a.eval y=u at i;have an:lo=none:=by simpa using S
      subst an;cases (show RepP fi M w (.stk b q n) u from i) with
      |stk _ _ _ f c G T B j=>
       have:=mr (P:=P) R O (iF (hI:=hI) D (show eF s.env 0 none=some 0 from rfl)) (iF (hI:=hI) E k) (Nat.zero_le _) (cC F j) (A:=some ⟨f,0,none⟩) w;refine Sim.pure hI U (C d rfl) (v:= .slice (some ⟨f,0,none⟩) m c) ?_ (RepP.repE (.stk b q m f c G T B aj)).repAt;have e:(⟨f,0,none⟩:Addr).add (0*1)=⟨f,0,none⟩:=rfl;simp only[cK,e,ite_self,Nat.sub_zero] at this;simp[execOp,L,this]
     ·cases h
    ·simp only[aC] at h
     obtain⟨m,k,l,r,h⟩:=h;split at h
     ·rename_i j
      obtain⟨I,F,rfl⟩:=j;cases h;have i:=bt hI Q H;generalize L:a.eval y=u at i;cases (show RepP fi M w (.stk b q n) u from i) with
      | stk _ _ _ f c G T B j=>
       have:=mr (P:=P) R O (iF (hI:=hI) D r) (iF (hI:=hI) E k) I (cC F j) (A:=some ⟨f,0,none⟩) w;refine Sim.pure hI U (C d rfl) (p:= .sub b q l (m-l)) (v:= .slice (if c=l then some ⟨f,0,none⟩ else (some ⟨f,0,none⟩:Option Addr).map (·.add (l*1))) (m-l) (c-l)) (by simp[execOp,L,this]) (RepP.repE (.sub b q l (m-l) f (c-l) _ G T (λe=>⟨(B e).1,by have:=(B e).2;omega⟩) aj ?_)).repAt;by_cases h0:m-l=0
       ·exact .inl h0
       ·right
        rw[if_neg aj];simp[lv]
     ·cases h
   ·rename_i b q off n H
    simp only[aC] at h;obtain⟨m,k,l,r,h⟩:=h;split at h
    ·rename_i j
     obtain⟨I,F,rfl⟩:=j;cases h;have i:=bt hI Q H;generalize L:a.eval y=u at i;cases (show RepP fi M w (.sub b q off n) u from i) with
     | sub _ _ _ _ f c A G T B j ap=>
      have:=mr (P:=P) R O (iF (hI:=hI) D r) (iF (hI:=hI) E k) I (cC F j) (A:=A) w;refine Sim.pure hI U (C d rfl) (p:= .sub b q (off+l) (m-l)) (v:= .slice (if c=l then A else A.map (·.add (l*1))) (m-l) (c-l)) (by simp[execOp,L,this]) (RepP.repE (.sub b q (off+l) (m-l) f (c-l) _ G T (λe=>⟨(B e).1,by have:=(B e).2;omega⟩) aj ?_)).repAt;by_cases h0:m-l=0
      ·exact .inl h0
      ·right
       rw[if_neg aj,ap.resolve_left aj];simp[lv]
    ·cases h
   ·cases h
 |_=>simp[mOp] at hm
theorem Es (A:dv P fi M w s a o (.sliceS d x lo hi)) (h:ae cf s (.sliceS d x lo hi)=some s'):Sim P fi o M w s' a:=by
 obtain⟨F,op,H,n,G,I⟩:=o;obtain⟨hI,c,E,e⟩:=A;cases op with
 | slice t y q C p=>
  cases p with
  |some=>simp[mOp] at c
  | none=>
   simp[mOp] at c;obtain⟨⟨⟨k,r⟩,f⟩,i⟩:=c;have z:P.underlying t=some .string:=by
    split at k
    ·assumption
    ·cases k
   simp only[ae] at h;split at h
   ·rename_i b B
    simp only[aC] at h;obtain⟨D,j,l,g,h⟩:=h;split at h
    ·rename_i m
     cases h;have u:=(bt hI r B).str;refine Sim.pure hI E (e d rfl) (v:= .string (b.extract l D)) ?_ (RepP.repE (.str _)).repAt;have:=DJ (P:=P) z (s:=b) (iF (hI:=hI) f g) (iF (hI:=hI) i j) m.1 m.2 w;simp[execOp,u,this]
    ·cases h
   ·cases h
 |_=>simp[mOp] at c
theorem wS {g:Bool} {b:Nat} (h:RepE fi M w (.ptr g b off) v):∃c,v= .pointer (some ⟨c,off,none⟩)/\∀a,RepE fi M w (.ptr g b a) (.pointer (some ⟨c,a,none⟩)):=by
 cases g with
 |true=>
  cases (show RepP fi M w (fc b off) v from h) with
  |ptr _ _ c d=>exact⟨c,rfl,λa=>RepP.repE (.ptr b a c d)⟩
 |false=>obtain⟨c,f,e⟩:=h;exact⟨c,e,λa=>⟨c,f,rfl⟩⟩
theorem wT {e:PV} (h:RepE fi M w (.ep e off) v):∃c o,v= .pointer (some ⟨c,o+off,none⟩)/\∀a,RepE fi M w (.ep e a) (.pointer (some ⟨c,o+a,none⟩)):=by
 cases (show RepP fi M w (.ep e off) v from h) with
 |ep _ _ b o d g f hr=>exact⟨b,o,rfl,λa=>RepP.repE (.ep e a b o d g f hr)⟩
theorem Et (A:dv P fi M w s a o (.faddr d x off)) (h:ae cf s (.faddr d x off)=some s'):Sim P fi o M w s' a:=by
 obtain⟨F,op,H,D,G,I⟩:=o;obtain⟨l,c,C,j⟩:=A;cases op<;>simp[mOp] at c;rename_i t y E;obtain⟨r,c⟩:=c;split at c
 ·rename_i L u
  split at c
  ·rename_i f B
   simp at c;obtain⟨z,hn⟩:=c;split at hn
   ·rename_i n i
    simp at hn;simp only[ae] at h;split at h
    ·rename_i g b q p
     cases h;obtain⟨k,m,hr⟩:=wS (bt l r p);exact Sim.pure l C (j d rfl) (by simp[execOp,m,wD (P:=P) u B z i hn]) (hr _).repAt
    ·rename_i e q p
     cases h;obtain⟨k,o,m,hr⟩:=wT (bt l r p);refine Sim.pure l C (j d rfl) (v:= .pointer (some ⟨k,o+(q+off),none⟩)) ?_ (hr _).repAt;simp[execOp,m,wD (P:=P) u B z i hn,Nat.add_assoc]
    ·cases h
   ·cases hn
  ·cases c
 ·cases c
theorem Ev {aa:Option Nat} {i:IX} (A:dv P fi M w s a o (.iaddr d z aa x i)) (h:ae cf s (.iaddr d z aa x i)=some s'):Sim P fi o M w s' a:=by
 obtain⟨an,op,ty,al,ao,gd⟩:=o;obtain⟨F,L,T,E⟩:=A;cases aa with
 | none=>
  cases op<;>simp[mOp] at L;rename_i t y j;obtain⟨⟨he,q⟩,hi⟩:=L;obtain⟨e,O,N⟩:=qC he;simp only[ae] at h;split at h
  ·rename_i k n hn
   have C:=(bt F hi hn).int;split at h
   ·rename_i ow z' xs G _
    split at h
    ·rename_i D
     obtain⟨R,rfl⟩:=D;simp only[aE] at h;obtain⟨el,ab,rfl⟩:=h;obtain⟨r,Q,h2⟩:=DF (P:=P) (k:=k) O N (bt F q G) R ab;exact Sim.pure F T (E d rfl) (by simp[execOp,C,Q]) h2.repE.repAt
    ·cases h
   ·rename_i g b off m z' G _
    split at h
    ·rename_i D
     obtain⟨R,Q,rfl⟩:=D;cases h;have l:=bt F q G;cases g with
     | true=>
      generalize hu:a.eval y=u at l;cases (show RepP fi M w (.bs true b off m z) u from l) with
      |bs _ _ _ _ A c f U X D=>
       have H:=X.resolve_left aj;subst H;exact Sim.pure F T (E d rfl) (by simp[execOp,C,hu,pV (P:=P) O N R Q]) (RepP.repE (.ptr b _ f U)).repAt
     |false=>
      obtain⟨f,A,c,U,hv,X,D⟩:=l;have H:=X.resolve_left aj;subst H;exact Sim.pure F T (E d rfl) (p:= ff b (off+n.toNat*z)) (by simp[execOp,C,hv,pV (P:=P) O N R Q]) (RepE.repAt ⟨f,U,rfl⟩)
    ·cases h
   ·rename_i q;cases q
   ·rename_i q;cases q
   ·rename_i b I m G _
    split at h
    ·rename_i D
     obtain⟨R,Q,rfl⟩:=D;cases h;have l:=bt F q G;generalize hu:a.eval y=u at l;cases (show RepP fi M w (.stk b I m) u from l) with
     |stk _ _ _ f c U hg X D=>
      have B:=pV (P:=P) (k:=k) (b:=f) (o:=0) (c:=c) O N R Q w;rw[cX,Nat.mul_one] at B;exact Sim.pure F T (E d rfl) (by simp[execOp,C,hu,B]) (RepP.repE (.pstk b I n.toNat f U hg (λe=>(X e).1))).repAt
    ·cases h
   ·rename_i b I off m G _
    split at h
    ·rename_i D
     obtain⟨R,Q,rfl⟩:=D;cases h;have l:=bt F q G;generalize hu:a.eval y=u at l;cases (show RepP fi M w (.sub b I off m) u from l) with
     |sub _ _ _ _ f c A U hg X D ad=>
      have H:=ad.resolve_left aj;subst H;have B:=pV (P:=P) (k:=k) (b:=f) (o:=off) (c:=c) O N R Q w;rw[Nat.mul_one] at B;exact Sim.pure F T (E d rfl) (by simp[execOp,C,hu,B]) (RepP.repE (.pstk b I (off+n.toNat) f U hg (λe=>(X e).1))).repAt
    ·cases h
   ·cases h
  ·cases h
 | some m=>
  cases op<;>simp[mOp] at L;rename_i t y j;obtain⟨⟨q,hi⟩,L⟩:=L;split at L
  ·rename_i m' e O
   simp at L;obtain⟨rfl,N⟩:=L;simp only[ae] at h;split at h
   ·rename_i k n hn
    have C:=(bt F hi hn).int;split at h
    ·rename_i q;cases q
    ·rename_i q;cases q
    ·rename_i g b o' m2 G S
     cases S;split at h
     ·rename_i D
      cases h;obtain⟨f,hv,hr⟩:=wS (bt F q G);exact Sim.pure F T (E d rfl) (by simp[execOp,C,hv,wC (P:=P) O N D.1 D.2]) (hr _).repAt
     ·cases h
    ·rename_i e' o' m2 G S
     cases S;split at h
     ·rename_i D
      cases h;obtain⟨f,o,hv,hr⟩:=wT (bt F q G);refine Sim.pure F T (E d rfl) (v:= .pointer (some ⟨f,o+(o'+n.toNat*z),none⟩)) ?_ (hr _).repAt;simp[execOp,C,hv,wC (P:=P) O N D.1 D.2,Nat.add_assoc]
     ·cases h
    ·rename_i q;cases q
    ·rename_i q;cases q
    ·cases h
   ·cases h
  ·cases L
end
end
end Go.Lw