/-
  The texts that the proof stands on, part 19.
-/
import Derived.Test.YtmodipglnngghadGreatDoorRestModelsP
import Derived.OpenShut
import Derived.Carry
import Derived.Deep.Slices
import Derived.SizedLaws
set_option linter.unusedVariables false
set_option linter.unusedSimpArgs false
set_option linter.unnecessarySimpa false

set_option maxRecDepth 100000
set_option maxHeartbeats 4000000
namespace Go.Lw
open Go
section
open Go.RowKit Go.ChangeShapes Go.WideShapes Go.Deep
inductive CS where
 |int
 |bool
 |str
 |slice (g:Bool) (bytes:Nat) (l:List CS)
mutual
def kS:CS->PV->Prop
 | .int,p=>∃n,p= .int .i64 n/\ -9223372036854775808<=n/\n<=9223372036854775807
 | .bool,p=>∃b,p= .bool b
 | .str,p=>∃s,p= .str s/\s.size<=reachBytes
 | .slice g bytes l,p=>∃xs,p= .sl false l.length xs/\xs.length*bytes<=reachBytes/\∀e∈xs,(g=true/\∃ps,e= .agg ps/\dE l ps)\/(g=false/\dE l [e])
def dE:List CS->fw->Prop
 |[],[]=>True
 |c::cs,p::ps=>kS c p/\dE cs ps
 |_,_=>False
end
mutual
def gP:PV->Nat
 | .str s=>s.size+1
 | .agg ps=>eJ ps+1
 | .sl _ _ xs=>eJ xs+1
 |_=>1
def eJ:fw->Nat
 |[]=>0
 |p::r=>gP p+eJ r
end
section
variable {H:Type}
mutual
def e7:DataW H->Nat
 | .slice elems _=>fX elems+1
 | .agg parts=>fX parts+1
 | .lit (.string b)=>b.length+1
 |_=>1
def fX:List (DataW H)->Nat
 |[]=>0
 |d::r=>e7 d+fX r
end
end
theorem Rq (p:PV):1<=gP p:=by cases p<;>simp[gP]
theorem ox:∀l:fw,l.length<=eJ l
 |[]=>Nat.zero_le _
 |p::l=>by have:=Rq p;have:=ox l;simp only[eJ,aV];omega
theorem tA:∀l m:fw,eJ (l++m)=eJ l+eJ m
 |[],m=>by simp[eJ]
 |p::l,m=>by simp only[bH,eJ,tA l m];omega
theorem Ph {p:PV}:∀{l:fw},p∈l->gP p<=eJ l
 | q::l,h=>by
  rcases List.mem_cons.1 h with rfl|h
  ·simp only[eJ];omega
  ·have:=Ph h
   simp only[eJ];omega
theorem yf {H:Type} (D:Nat->DataW H):∀(a:fw) (n i:Nat),a.length=n->(∀j e,a[j]?=some e->gP e<=e7 (D (i+j)))->eJ a<=fX ((List.range' i n).map D)
 |[],0,i,_,_=>Nat.zero_le _
 | x::a,n+1,i,b,h=>by
  have f:=h 0 x rfl;have c:=yf D a n (i+1) (by simpa using b) λj e d=>by
   have:=h (j+1) e (by simpa using d)
   rwa [Nat.add_assoc,Nat.add_comm 1 j]
  simp only[eJ,List.range'_succ,bS,fX];exact Nat.add_le_add f c
 |[],n+1,_,b,_=>by simp at b
 |_::_,0,_,b,_=>by simp at b
theorem qQ:∀{l:List CS} {a:fw},dE l a->a.length=l.length
 |[],[],_=>rfl
 |_::_,_::_,h=>by simp only[dE] at h;simp[qQ h.2]
 |[],_::_,h=>by simp[dE] at h
 |_::_,[],h=>by simp[dE] at h
theorem tC:∀{l m:List CS} {b a:fw},dE l b->dE m a->dE (l++m) (b++a)
 |[],_,[],_,_,h=>h
 |_::_,_,_::_,_,h,c=>by simp only[dE] at h;exact⟨h.1,tC h.2 c⟩
 |[],_,_::_,_,h,_=>by simp[dE] at h
 |_::_,_,[],_,h,_=>by simp[dE] at h
theorem FZ {c:CS} {p:PV} (h:kS c p):p.one=true:=by
 cases c<;>simp only[kS] at h
 ·obtain⟨n,rfl,_⟩:=h;rfl
 ·obtain⟨b,rfl⟩:=h;rfl
 ·obtain⟨b,rfl,_⟩:=h;rfl
 ·obtain⟨a,rfl,_⟩:=h;rfl
theorem qR:∀{l:List CS} {a:fw},dE l a->a.all PV.one=true
 |[],[],_=>rfl
 |_::_,_::_,h=>by simp only[dE] at h;simp[FZ h.1,qR h.2]
 |[],_::_,h=>by simp[dE] at h
 |_::_,[],h=>by simp[dE] at h
theorem yg {l:List CS} {p:PV} (h:dE l [p]):p.cells=[p]:=by
 cases l with
 |nil=>simp[dE] at h
 |cons c l=>
  simp only[dE] at h;have a:=h.1;cases c<;>simp only[kS] at a
  ·obtain⟨n,rfl,_⟩:=a;rfl
  ·obtain⟨b,rfl⟩:=a;rfl
  ·obtain⟨b,rfl,_⟩:=a;rfl
  ·obtain⟨d,rfl,_⟩:=a;rfl
def qS:Nat->List CS->List CS
 |0,_=>[]
 |n+1,l=>l++qS n l
theorem F0 {w:World} {a:Addr} {v:Value} (h:w.cell? a=some v):a.block<w.heap.size:=by
 rcases Nat.lt_or_ge a.block w.heap.size with b|b
 ·exact b
 ·simp[World.cell?,Array.getElem?_eq_none b] at h
def isAgg (P:Program) (t:TypeId):Bool:=match P.underlying t with|some (.struct _)|some (.array _ _)=>true|_=>false
mutual
def shape (P:Program):Nat->TypeId->Option (List CS)
 |0,_=>none
 | n+1,t=>match P.underlying t with
  |some .bool=>some [.bool]
  |some (.int .i64)=>some [.int]
  |some .string=>some [.str]
  |some (.slice e)=>match shape P n e with
   |some l=>if P.cellsOf e=l.length/\(isAgg P e=true\/l.length=1)/\0<l.length then some [.slice (isAgg P e) (P.bytesOf e) l] else none
   |none=>none
  |some (.array k e)=>match shape P n e with
   |some l=>if P.cellsOf e=l.length/\P.cellsOf t=k*l.length then some (qS k l) else none
   |none=>none
  |some (.struct fs)=>match mP P n 0 fs.toList with
   |some l=>if P.cellsOf t=l.length then some l else none
   |none=>none
  |_=>none
def mP (P:Program):Nat->Nat->List Field->Option (List CS)
 |0,_,_=>none
 |_+1,_,[]=>some []
 |n+1,off,f::fs=>match shape P n f.type with
  |some l=>if f.offset=off/\P.cellsOf f.type=l.length then (match mP P n (off+l.length) fs with|some r=>some (l++r)|none=>none) else none
  |none=>none
end
def Reps (c:FI) (w:World) (a:fw) (b:gA):Prop:=a.length=b.length/\∀(i:Nat) (p:PV) (v:Value),a[i]?=some p->b[i]?=some v->RepP c (Mem.start w) w p v
section
variable {H:Type} {enc:TypeId×Value->H} {P:Program} {w:World} {sp:Nat->Bool} {held:Bool} {fi:FI}
theorem Reps.append {c d:fw} {g f:gA} (h:Reps fi w c g) (k:Reps fi w d f):Reps fi w (c++d) (g++f):=by
 refine⟨by simp[h.1,k.1],λi p v b a=>?_⟩;by_cases e:i<c.length
 ·rw[aI e] at b
  rw[aI (by rw[<-h.1];exact e)] at a;exact h.2 i p v b a
 ·rw[aN aj] at b
  rw[aN (by rw[<-h.1];omega)] at a;rw[<-h.1] at a;exact k.2 _ p v b a
theorem Reps.single {p:PV} {v:Value} (h:RepP fi (Mem.start w) w p v):Reps fi w [p] [v]:=by
 refine⟨rfl,λi q u a b=>?_⟩;cases i with
 |zero=>simp at a b;subst a;subst b;exact h
 |succ i=>simp at a
theorem tD {e:TypeId}:∀{c:List (DataW H)} {i:Nat} {d:DataW H} {b:Nat},c[i]?=some d->b∈d.weights P e->b∈DataW.weightsAll P e c
 |x::r,0,d,b,h,a=>by simp at h;subst h;rw[DataW.weightsAll];exact aX _ a
 |x::r,i+1,d,b,h,a=>by rw[DataW.weightsAll];exact aY _ (tD (i:=i) (by simpa using h) a)
theorem yh {Q:Nat->PV->Prop}:∀(n:Nat),(∀i,i<n->∃e,Q i e)->∃b:fw,b.length=n/\∀i e,b[i]?=some e->Q i e
 |0,_=>⟨[],rfl,λi e h=>by simp at h⟩
 | n+1,h=>by
  obtain⟨b,c,f⟩:=yh n λi d=>h i aj
  obtain⟨e,g⟩:=h n aj;refine⟨b++[e],by simp[c],λi u a=>?_⟩;by_cases d:i<b.length
  ·rw[aI d] at a;exact f i u a
  ·rw[aN aj] at a
   have:i=n:=by have:=(aD.1 a).1;simp at this;omega
   subst this;rw[c] at a;simp at a;subst a;exact g
def tE (h:FI) (e:TypeId×Value->H) (P:Program) (w:World) (g:Nat->Bool) (a:Bool) (t:TypeId) (l:List CS):Prop:=
 ∀c f x,DataW.trod e P w 0 g a c t f=some x->(∀b∈x.1.weights P t,b<=reachBytes)->∃d,dE l d/\eJ d+(isAgg P t).toNat<=e7 x.1/\Reps h w d f
theorem yi {e:TypeId} {l:List CS} (d:tE fi enc P w sp held e l) {m:Nat} {cs:gA} {xs:List (DataW H×List MemPlace)}
  (f:∀j,j<xs.length->DataW.trod enc P w 0 sp held m e ((cs.drop (j*l.length)).take l.length)=xs[j]?) (hw:∀b∈DataW.weightsAll P e (xs.map (·.1)),b<=reachBytes) :
  ∀k i,i+k=xs.length->∃c,dE (qS k l) c/\eJ c<=fX ((xs.map (·.1)).drop i)/\Reps fi w c ((cs.drop (i*l.length)).take (k*l.length))
 |0,i,_=>⟨[],by simp[qS,dE],by simp[eJ],by simp[Reps]⟩
 | k+1,i,t=>by
  have a:i<xs.length:=aj;have g:=f i a;rw[aA a] at g;obtain⟨c,p,r,hr⟩:=d _ _ _ g λb s=>hw b (tD (i:=i) (by simp[aA a]) s)
  obtain⟨h,o,q,n⟩:=yi d f hw k (i+1) aj;refine⟨c++h,tC p o,?_,?_⟩
  ·rw[tA,aJ (by simpa using a),fX]
   simp only[List.getElem_map];omega
  have:(cs.drop (i*l.length)).take ((k+1)*l.length)=(cs.drop (i*l.length)).take l.length++(cs.drop ((i+1)*l.length)).take (k*l.length):=by rw[Nat.succ_mul k,Nat.add_comm (k*l.length),List.take_add,List.drop_drop,Nat.succ_mul i]
  rw[this];exact hr.append n
theorem yj (n:Nat) (z:∀k,k<=n->∀t l,shape P k t=some l->tE fi enc P w sp held t l) :
  ∀(k:Nat) (_:k<=n+1) (d:List Field) (a:Nat) (l:List CS),mP P k a d=some l->∀(j:gA) (c:List (DataW H×List MemPlace)) (m:Nat),c.length=d.length->
   (∀(i:Nat) (f:Field),d[i]?=some f->DataW.trod enc P w 0 sp held m f.type ((j.drop f.offset).take (P.cellsOf f.type))=c[i]?)->
   (∀b∈DataW.weightsEach P (d.map (·.type)) (c.map (·.1)),b<=reachBytes)->∃e,dE l e/\eJ e<=fX (c.map (·.1))/\Reps fi w e ((j.drop a).take l.length)
 |0,_,d,a,l,h,_,_,_,_,_,_=>by simp[mP] at h
 |k+1,_,[],a,l,h,j,c,m,u,o,hw=>by simp[mP] at h;subst h;exact⟨[],by simp[dE],by simp[eJ],by simp[Reps]⟩
 | k + 1,L,f::d,a,l,h,j,c,m,u,o,hw=>by
  cases c with
  |nil=>simp at u
  | cons x c=>
   rw[mP] at h;split at h
   ·rename_i C p
    split at h
    ·rename_i A
     split at h
     ·rename_i r hr
      simp at h;subst h;have y:=o 0 f bh;simp only[List.getElem?_cons_zero] at y;rw[A.1,A.2] at y;obtain⟨e,E,I,s⟩:=z k aj _ _ p _ _ _ y λb v=>hw b (by simp only[bS,DataW.weightsEach];exact aX _ v)
      obtain⟨B,D,G,q⟩:=yj n z k aj d (a+C.length) r hr j c m (by simpa using u) (λi g F=>by simpa using o (i+1) g (by simpa using F)) (λb v=>hw b (by simp only[bS,DataW.weightsEach];exact aY _ v));refine⟨e++B,tC E D,by rw[tA,bS,fX];omega,?_⟩;rw[aQ,List.take_add,List.drop_drop];exact s.append q
     ·cases h
    ·cases h
   ·cases h
theorem F1:∀(n:Nat) (t:TypeId) (l:List CS),shape P n t=some l->tE fi enc P w sp held t l:=by
 intro n
 induction n using Nat.strongRecOn with
 |ind n ih=>
 cases n with
 |zero=>intro t l h;simp[shape] at h
 | succ n =>
  intro t l h aG cs x X hw;rw[shape] at h;split at h
  ·rename_i g
   simp at h;subst h;obtain⟨b,rfl,rfl⟩:=DataW.trod_bool g X;exact⟨[.bool b],⟨⟨b,rfl⟩,trivial⟩,by simp[eJ,gP,e7,isAgg,g],Reps.single (.bool b)⟩
  ·rename_i g
   simp at h;subst h;obtain⟨b,rfl,rfl,av⟩:=DataW.trod_int g X;refine⟨[.int .i64 b],⟨⟨b,rfl,?_⟩,trivial⟩,by simp[eJ,gP,e7,isAgg,g],Reps.single (.int .i64 b)⟩;simp[Lit.wf,IntKind.min,IntKind.max,IntKind.signed,IntKind.bits] at av;omega
  ·rename_i g
   simp at h;subst h;obtain⟨b,rfl,rfl,_⟩:=DataW.trod_string g X;refine⟨[.str b],⟨⟨b,rfl,?_⟩,trivial⟩,by simp[eJ,gP,e7,isAgg,g],Reps.single (.str b)⟩;have:=hw b.size (by simp[DataW.weights]);exact this
  ·rename_i e g
   split at h
   ·rename_i s G
    split at h
    ·rename_i T
     simp at h;subst h;rcases open_slice g X with ⟨rfl,rfl⟩|⟨a,len,aF,m,n',D,Pl,rfl,_,aJ,aK,hm,rfl,hi⟩
     ·refine⟨[.sl false s.length []],⟨⟨[],rfl,bh,λe L=>by simp at L⟩,trivial⟩,by simp[eJ,gP,e7,fX,isAgg,g],Reps.single ?_⟩
      exact .sl s.length [] none 0 0 0 (λ_=>undef) (.inl rfl) bh (λe L=>by simp at L) (λe L=>by simp at L) (λi e j p L=>by simp at L) (λi e j p L=>by simp at L)
     ·have aI:len<=m:=by rw[hm];split<;>omega
      have ap:len*P.bytesOf e<=reachBytes:=by have:=hw ((len+(m-len))*P.bytesOf e) (by rw[DataW.weights,g];simp);refine cC (cY _ ?_) this;omega
      have ao:∀i,i<len->∃u,gP u<=e7 (D i)/\(∃d:fw,u.cells=d/\dE s d/\((isAgg P e=true/\u= .agg d)\/(isAgg P e=false/\dE s [u])))/\
        ∀(j:Nat) (p:PV),u.cells[j]?=some p->∃v,w.cell? (a.add (i*P.cellsOf e+j))=some v/\RepP fi (Mem.start w) w p v:=by
       intro i aC;obtain⟨an,O,ax⟩:=hi i aj;obtain⟨d,E,F,hr⟩:=ih n aj _ _ G _ _ _ ax λb hb=>hw b (by rw[DataW.weights,g];refine bC _ (aX _ (tD (i:=i) ?_ hb));simp[List.getElem?_range,aC])
       obtain⟨_,N,aE⟩:=World.cells?_some O;have aa:=qQ E;have R:∀(j:Nat) (p:PV),d[j]?=some p->∃v,w.cell? (a.add (i*P.cellsOf e+j))=some v/\RepP fi (Mem.start w) w p v:=by
        intro j p hj;have aB:j<d.length:=(aD.1 hj).1;have al:j<an.length:=by rw[<-hr.1];exact aB
        refine⟨an[j],?_,hr.2 j p _ hj (aA al)⟩;rw[<-Go.Deep.add_add,aE j aj,aA al]
       cases hg:isAgg P e with
       |true=>exact⟨.agg d,by rw[gP];simpa [hg] using F,⟨d,rfl,E,.inl ⟨rfl,rfl⟩⟩,R⟩
       | false=>
        have h1:s.length=1:=T.2.1.resolve_left (by simp[hg]);obtain⟨U,rfl⟩:∃U,d=[U]:=by
         cases d with
         |nil=>simp at aa;omega
         |cons U d=>cases d with
          |nil=>exact⟨U,rfl⟩
          |cons q qs=>simp at aa;omega
        have S:=yg E;exact⟨U,by simp[eJ] at F;omega,⟨[U],S,E,.inr ⟨rfl,E⟩⟩,by rw[S];exact R⟩
      obtain⟨xs,C,y⟩:=yh len ao;have H:∀u∈xs,∃i,xs[i]?=some u:=λu z=>List.getElem?_of_mem z
      refine⟨[.sl false s.length xs],⟨⟨xs,rfl,by rw[C];exact ap,λu z=>?_⟩,trivial⟩,?_,Reps.single ?_⟩
      ·obtain⟨i,I⟩:=H u z
       obtain⟨_,⟨d,o,c,ab⟩,_⟩:=y i u I;rcases ab with ⟨h1,h2⟩|⟨h1,h2⟩
       ·exact .inl ⟨h1,d,h2,c⟩
       ·exact .inr ⟨h1,h2⟩
      ·have:=yf D xs len 0 C λj e L=>by
        have:=(y j e L).1
        rwa [cX]
       rw[<-List.range_eq_range'] at this;simp only[eJ,gP,e7,isAgg,g];simpa using this
      ·have A:xs=[]\/a.spot=none:=by
        cases xs with
        |nil=>exact .inl rfl
        | cons u us=>
         refine .inr ?_;obtain⟨_,⟨d,o,c,ab⟩,r⟩:=y 0 u rfl;have ad:=qQ c;by_cases hz:d=[]
         ·rw[hz] at ad
          have:=T.2.2;simp at ad;omega
         ·obtain⟨p,aH,rfl⟩:=List.exists_cons_of_ne_nil hz
          obtain⟨v,M,_⟩:=r 0 p (by rw[o];rfl);have:=World.cell?_spot M;simpa [Addr.add] using this
       have B:P.cellsOf e=s.length:=T.1;rw[show len=xs.length from C.symm];refine .sl s.length xs (some a) aF a.block a.off (λk=>(w.cell? ⟨a.block,a.off+k,none⟩).getD undef) ?_ aj (λu z=>?_) (λu z=>?_) (λi u j p z E=>?_) (λi u j p z E=>?_)
       ·rcases A with h|h
        ·exact .inl h
        ·refine .inr ?_
         cases a;simp at h;subst h;rfl
       ·obtain⟨i,I⟩:=H u z
        obtain⟨_,⟨d,o,c,_⟩,_⟩:=y i u I;rw[o];exact qQ c
       ·obtain⟨i,I⟩:=H u z
        obtain⟨_,⟨d,o,c,_⟩,_⟩:=y i u I;rw[az,o];exact qR c
       ·obtain⟨_,_,r⟩:=y i u z
        obtain⟨v,M,Q⟩:=r j p E;rw[B] at M;have ha:a.add (i*s.length+j)=⟨a.block,a.off+(i*s.length+j),none⟩:=by
         have hs:a.spot=none:=A.resolve_left λh=>by rw[h] at z;simp at z
         cases a;simp at hs;subst hs;unfold Addr.add;split
         ·rename_i h0;rw[h0];rfl
         ·rfl
        rw[ha] at M;refine⟨?_,by rw[M];rfl⟩;exact F0 (a:=⟨a.block,a.off+(i*s.length+j),none⟩) M
       ·obtain⟨_,_,r⟩:=y i u z
        obtain⟨v,M,Q⟩:=r j p E;rw[B] at M;have ha:a.add (i*s.length+j)=⟨a.block,a.off+(i*s.length+j),none⟩:=by
         have hs:a.spot=none:=A.resolve_left λh=>by rw[h] at z;simp at z
         cases a;simp at hs;subst hs;unfold Addr.add;split
         ·rename_i h0;rw[h0];rfl
         ·rfl
        rw[ha] at M;rw[M];exact Q
    ·cases h
   ·cases h
  ·rename_i k e g
   split at h
   ·rename_i s G
    split at h
    ·rename_i T
     simp at h;subst h;obtain⟨xs,m,rfl,rfl,N,C,hi⟩:=DataW.trod_array g X;obtain⟨d,E,F,hr⟩:=yi (ih n aj _ _ G) (cs:=cs) (xs:=xs) (m:=m) (λj hj=>by rw[<-T.1];exact hi j aj) (λb hb=>hw b (by rw[DataW.weights,g];exact hb)) k 0 aj;refine⟨d,E,by rw[e7];simp[isAgg,g];simpa using F,?_⟩;rw[Nat.zero_mul,bJ,<-T.2,<-N,List.take_length] at hr;exact hr
    ·cases h
   ·cases h
  ·rename_i fs g
   split at h
   ·rename_i s G
    split at h
    ·rename_i T
     simp at h;subst h;obtain⟨xs,m,rfl,rfl,N,C,hi⟩:=DataW.trod_struct g X;obtain⟨d,E,F,hr⟩:=yj n (λk hk=>ih k aj) n aj fs.toList 0 s G cs xs m (by simpa using C) (λi f hf=>hi i f (by simpa using hf)) (λb hb=>hw b (by rw[DataW.weights,g];exact hb));refine⟨d,E,by rw[e7];simp[isAgg,g];simpa using F,?_⟩;rw[bJ,<-T,<-N,List.take_length] at hr;exact hr
    ·cases h
   ·cases h
  ·cases h
def lO:Bool×List CS->PV->Prop
 |(true,l),p=>∃a,p= .agg a/\dE l a
 |(false,l),p=>dE l [p]
def im:List (Bool×List CS)->fw->Prop
 |[],[]=>True
 |c::b,p::a=>lO c p/\im b a
 |_,_=>False
def oi (P:Program) (n:Nat):List TypeId->Option (List (Bool×List CS))
 |[]=>some []
 |t::a=>match shape P n t,oi P n a with
  |some l,some r=>some ((isAgg P t,l)::r)
  |_,_=>none
theorem tF {c:Bool×List CS} {d:List (Bool×List CS)} {b:fw} (h:im (c::d) b):∃p a,b=p::a/\lO c p/\im d a:=by
 cases b with
 |nil=>simp[im] at h
 |cons p a=>exact⟨p,a,rfl,h⟩
theorem F3 {a:fw} (h:im [] a):a=[]:=by
 cases a with
 |nil=>rfl
 |cons p b=>simp[im] at h
theorem yk {c:CS} {d:List CS} {b:fw} (h:dE (c::d) b):∃p a,b=p::a/\kS c p/\dE d a:=by
 cases b with
 |nil=>simp[dE] at h
 |cons p a=>exact⟨p,a,rfl,h⟩
theorem yl {a:fw} (h:dE [] a):a=[]:=by
 cases a with
 |nil=>rfl
 |cons p b=>simp[dE] at h
theorem Oz {l:List CS} {p:PV} (h:lO (true,l) p):∃a,p= .agg a/\dE l a:=h
theorem yn {p:PV} (h:kS .int p):∃n,p= .int .i64 n/\ -9223372036854775808<=n/\n<=9223372036854775807:=h
theorem F6 {n:Nat} {t:TypeId} {l:List CS} (o:shape P n t=some l) {x:Nat} {v:Value} {d:DataW H} {B:List MemPlace} (h:Value.okWide P w .any x t v) (D:DataW.Trod enc P w 0 sp held t v d B)
  (hw:∀b∈d.weights P t,b<=reachBytes):∃p,lO (isAgg P t,l) p/\gP p<=e7 d/\RepP fi (Mem.start w) w p v:=by
 obtain⟨u,C⟩:=D;obtain⟨j,A,s,hr⟩:=F1 (fi:=fi) n t l o u _ _ C hw;have g:v.cells.toList=[v]->isAgg P t=false->∃p,lO (isAgg P t,l) p/\gP p<=e7 d/\RepP fi (Mem.start w) w p v:=by
  intro E y;rw[E] at hr;cases j with
  |nil=>have:=hr.1;simp at this
  |cons q j=>cases j with
   |cons r j=>have:=hr.1;simp at this
   |nil=>exact⟨q,by rw[y];exact A,by simp[eJ] at s;omega,hr.2 0 q v rfl rfl⟩
 have i:(∃m,v= .agg m)->isAgg P t=true->∃p,lO (isAgg P t,l) p/\gP p<=e7 d/\RepP fi (Mem.start w) w p v:=by rintro⟨m,rfl⟩ y;refine⟨.agg j,by rw[y];exact⟨j,rfl,A⟩,by rw[gP];simpa [y] using s,?_⟩;obtain⟨F⟩:=m;exact .agg j F hr.1.symm hr.2
 cases n with
 |zero=>simp[shape] at o
 | succ n=>
  rw[shape] at o;split at o
  ·rename_i f
   obtain⟨b,rfl⟩:=okWide_bool f h;exact g rfl (by simp[isAgg,f])
  ·rename_i f
   obtain⟨b,rfl⟩:=okWide_int f h;exact g rfl (by simp[isAgg,f])
  ·rename_i f
   obtain⟨b,rfl⟩:=okWide_string f h;exact g rfl (by simp[isAgg,f])
  ·rename_i e f
   obtain⟨a,b,c,rfl⟩:=okWide_slice f h;exact g rfl (by simp[isAgg,f])
  ·rename_i k e f
   refine i ?_ (by simp[isAgg,f]);simp only[Value.okWide,f] at h;obtain⟨m,z,_⟩:=h;exact⟨m,z⟩
  ·rename_i G f
   refine i ?_ (by simp[isAgg,f]);simp only[Value.okWide,f] at h;obtain⟨m,z,_⟩:=h;exact⟨m,z⟩
  ·cases o
theorem yp {n s:Nat}:∀{m:List TypeId} {L:List (Bool×List CS)} {g:gA} {o:List (DataW H)} {u:List MemPlace},oi P n m=some L->DataW.TrodAll enc P w 0 sp held m g o u->
  (∀(j:Nat) t v,m[j]?=some t->g[j]?=some v->Value.okWide P w .any s t v)->(∀b∈DataW.weightsEach P m o,b<=reachBytes)->
  ∃k,im L k/\eJ k<=fX o/\k.length=g.length/\∀(i:Nat) (p:PV) (v:Value),k[i]?=some p->g[i]?=some v->RepP fi (Mem.start w) w p v
 |[],L,g,o,u,c,x,_,_=>by obtain⟨rfl,rfl,rfl⟩:=trodAll_nil x;simp[oi] at c;subst c;exact⟨[],trivial,Nat.zero_le _,rfl,λi p v h=>by simp at h⟩
 | t::m,L,g,o,u,c,x,C,hw=>by
  obtain⟨v,D,d,I,p,q,rfl,rfl,rfl,f,e⟩:=trodAll_cons x;simp only[oi] at c;split at c
  ·rename_i l r A hr
   simp at c;subst c;obtain⟨a,ha,G,z⟩:=F6 (fi:=fi) A (C 0 t v rfl rfl) f λb B=>hw b (by simp only[DataW.weightsEach];exact aX _ B)
   obtain⟨k,E,F,A,y⟩:=yp hr e (λj t v f e=>C (j+1) t v (by simpa using f) (by simpa using e)) (λb B=>hw b (by simp only[DataW.weightsEach];exact aY _ B));refine⟨a::k,⟨ha,E⟩,by rw[eJ,fX];omega,by simp[A],λi p v f e=>?_⟩;cases i with
   |zero=>simp at f e;subst f;subst e;exact z
   |succ i=>exact y i p v (by simpa using f) (by simpa using e)
  ·cases c
theorem yq {a l:World} (i:laidOutB P=true) (j:Below a.heap.size a l):∀{e:List TypeId} {c:gA} {g:List (DataW H)} {f:List MemPlace},
  (e.all λt=>P.readableRec t&&decide (t<P.types.size))=true->DataW.TrodAll enc P a 0 (λ_=>true) true e c g f->DataW.TrodAll enc P l 0 (λb=>decide (b<a.heap.size)) true e c g f
 |[],c,g,f,_,h=>by obtain⟨rfl,rfl,rfl⟩:=trodAll_nil h;exact h
 |t::e,c,g,f,hr,h=>by
  obtain⟨v,n,d,u,p,q,rfl,rfl,rfl,k,s⟩:=trodAll_cons h;simp only[List.all_cons,aS,aH] at hr;have o:∀x∈p,x.block<a.heap.size:=by obtain⟨m,r⟩:=k;exact DataW.trod_lt m _ _ _ r
  exact⟨p,q,Below.trod i hr.1.1 hr.1.2 k j o,yq i j hr.2 s,rfl⟩
end
end
section
open Go.RowKit
def oj (P:Program) (d:FI) (pg:Prg) (f F:Nat):Bool:=
 match P.funcs[F]? with
 | some a=>match a.body with
  |some c=>match pg f with
   | some (.code b) => (!(a.name == "runtime.NumGoroutine")) && (eh P d a.ntmps b.body c && fE P b.res a.results.toList)
   | _ => !(a.name == "runtime.NumGoroutine")
  |none=>false
 |none=>false
def yr (pg:Prg) (f:Nat):Bool:=match pg f with|some (.lib _)=>true|_=>false
theorem F7 {P:Program} {k:FI} {pg:Prg} {f F:Nat} (h:oj P k pg f F=true) (m:∀L,pg f=some (.lib L)->∀d j r a,L d j=some (r,a)->(∀p∈d,az p=true)->eG P k F d j r a) :
  yd P F/\match pg f with
  |some (.code l)=>∃b c,P.funcs[F]?=some b/\b.body=some c/\eh P k b.ntmps l.body c=true/\fE P l.res b.results.toList=true
  |some (.lib L)=>∀d j r a,L d j=some (r,a)->(∀p∈d,az p=true)->eG P k F d j r a
  |_=>pg f=none:=by
 unfold oj at h;cases i:P.funcs[F]? with
 |none=>rw[i] at h;cases h
 | some b=>
  rw[i] at h;simp only at h;cases e:b.body with
  |none=>rw[e] at h;cases h
  | some c=>
   rw[e] at h;simp only at h;cases g:pg f with
   |none=>
    rw[g] at h;exact⟨⟨b,c,i,by simpa using h,e⟩,by simp[g]⟩
   | some n=>
    cases n with
    |lib L=>
     rw[g] at h;exact⟨⟨b,c,i,by simpa using h,e⟩,m L g⟩
    |code l=>
     rw[g] at h;simp only[aS,Bool.not_eq_true'] at h;exact⟨⟨b,c,i,h.1,e⟩,b,c,rfl,e,h.2.1,h.2.2⟩
def fiG (l:List (Nat×Nat)) (gl:List (Nat×Nat×Option Value)) (bT:List TypeId:=[]) (u8:TypeId:=0) (gw:List (Nat×List ByteArray):=[]) (gwok:kI gl gw:=by exact ww _):FI:={f:=λf=>(l.find? (·.1==f)).map (·.2),gl:=gl,bT:=bT,u8:=u8,gw:=gw,gwok:=gwok }
theorem F8 {l:List (Nat×Nat)} {gl:List (Nat×Nat×Option Value)} {bT:List TypeId} {u8:TypeId} {gw:List (Nat×List ByteArray)} {gwok:kI gl gw} {f F:Nat} (h:fiG l gl bT u8 gw gwok f=some F):(f,F)∈l:=by unfold fiG at h;simp only[aE] at h;obtain⟨⟨a,b⟩,d,rfl⟩:=h;have c:=List.find?_some d;have e:=List.mem_of_find?_eq_some d;simp at c;subst c;exact e
theorem Gc {P:Program} {l:List (Nat×Nat)} {b:FI} {pg:Prg} (d:∀f F,b f=some F->(f,F)∈l)
  (h:(l.all λx=>oj P b pg x.1 x.2)=true) (i:∀f F L,(f,F)∈l->pg f=some (.lib L)->∀c g r a,L c g=some (r,a)->(∀p∈c,az p=true)->eG P b F c g r a):kR P b pg:=by
 intro f F e;rw[bV] at h;exact F7 (h _ (d f F e)) (λL=>i f F L (d f F e))
end
end Go.Lw