/-
  The texts that the proof stands on, part 19.
-/
import Derived.Test.YtmodipglnngghabExploreAllsR
import Derived.OpenShut
import Derived.Carry
import Derived.Deep.Slices
import Derived.SizedLaws
set_option linter.unusedVariables false
set_option linter.unusedSimpArgs false
set_option linter.unnecessarySimpa false

set_option maxRecDepth 100000
set_option maxHeartbeats 4000000
namespace Go.Lw
open Go
section
open Go.RowKit Go.ChangeShapes Go.WideShapes Go.Deep
inductive CS where
 |int
 |bool
 |str
 |slice (g:Bool) (bytes:Nat) (l:List CS)
mutual
def gZ:CS->PV->Prop
 | .int,p=>∃n,p= .int .i64 n/\ -9223372036854775808<=n/\n<=9223372036854775807
 | .bool,p=>∃b,p= .bool b
 | .str,p=>∃s,p= .str s/\s.size<=reachBytes
 | .slice g bytes l,p=>∃xs,p= .sl false l.length xs/\xs.length*bytes<=reachBytes/\∀e∈xs,(g=true/\∃ps,e= .agg ps/\cm l ps)\/(g=false/\cm l [e])
def cm:List CS->List PV->Prop
 |[],[]=>True
 |c::cs,p::ps=>gZ c p/\cm cs ps
 |_,_=>False
end
mutual
def fC:PV->Nat
 | .str s=>s.size+1
 | .agg ps=>dF ps+1
 | .sl _ _ xs=>dF xs+1
 |_=>1
def dF:List PV->Nat
 |[]=>0
 |p::r=>fC p+dF r
end
section
variable {H:Type}
mutual
def fj:DataW H->Nat
 | .slice elems _=>fD elems+1
 | .agg parts=>fD parts+1
 | .lit (.string b)=>b.length+1
 |_=>1
def fD:List (DataW H)->Nat
 |[]=>0
 |d::r=>fj d+fD r
end
end
theorem ni:∀l m:List PV,dF (l++m)=dF l+dF m
 |[],m=>by simp[dF]
 |p::l,m=>by simp only[bI,dF,ni l m];omega
theorem rJ {H:Type} (D:Nat->DataW H):∀(xs:List PV) (n i:Nat),xs.length=n->(∀j e,xs[j]?=some e->fC e<=fj (D (i+j)))->dF xs<=fD ((List.range' i n).map D)
 |[],0,i,_,_=>Nat.zero_le _
 | x::xs,n+1,i,hl,h=>by
  have h0:=h 0 x rfl;have hs:=rJ D xs n (i+1) (by simpa using hl) λj e he=>by
   have:=h (j+1) e (by simpa using he)
   rwa [Nat.add_assoc,Nat.add_comm 1 j]
  simp only[dF,List.range'_succ,bP,fD];exact Nat.add_le_add h0 hs
 |[],n+1,_,hl,_=>by simp at hl
 |_::_,0,_,hl,_=>by simp at hl
theorem lA:∀{l:List CS} {ps:List PV},cm l ps->ps.length=l.length
 |[],[],_=>rfl
 |_::_,_::_,h=>by simp only[cm] at h;simp[lA h.2]
 |[],_::_,h=>by simp[cm] at h
 |_::_,[],h=>by simp[cm] at h
theorem nj:∀{l m:List CS} {ps qs:List PV},cm l ps->cm m qs->cm (l++m) (ps++qs)
 |[],_,[],_,_,h=>h
 |_::_,_,_::_,_,h,h2=>by simp only[cm] at h;exact⟨h.1,nj h.2 h2⟩
 |[],_,_::_,_,h,_=>by simp[cm] at h
 |_::_,_,[],_,h,_=>by simp[cm] at h
theorem yg {c:CS} {p:PV} (h:gZ c p):p.one=true:=by
 cases c<;>simp only[gZ] at h
 ·obtain⟨n,rfl,_⟩:=h;rfl
 ·obtain⟨b,rfl⟩:=h;rfl
 ·obtain⟨b,rfl,_⟩:=h;rfl
 ·obtain⟨xs,rfl,_⟩:=h;rfl
theorem lB:∀{l:List CS} {ps:List PV},cm l ps->ps.all PV.one=true
 |[],[],_=>rfl
 |_::_,_::_,h=>by simp only[cm] at h;simp[yg h.1,lB h.2]
 |[],_::_,h=>by simp[cm] at h
 |_::_,[],h=>by simp[cm] at h
theorem rK {l:List CS} {p:PV} (h:cm l [p]):p.cells=[p]:=by
 cases l with
 |nil=>simp[cm] at h
 |cons c l=>
  simp only[cm] at h;have h1:=h.1;cases c<;>simp only[gZ] at h1
  ·obtain⟨n,rfl,_⟩:=h1;rfl
  ·obtain⟨b,rfl⟩:=h1;rfl
  ·obtain⟨b,rfl,_⟩:=h1;rfl
  ·obtain⟨xs,rfl,_⟩:=h1;rfl
def lC:Nat->List CS->List CS
 |0,_=>[]
 |n+1,l=>l++lC n l
theorem yh {w:World} {a:Addr} {v:Value} (h:w.cell? a=some v):a.block<w.heap.size:=by
 rcases Nat.lt_or_ge a.block w.heap.size with h1|h1
 ·exact h1
 ·simp[World.cell?,Array.getElem?_eq_none h1] at h
def isAgg (P:Program) (t:TypeId):Bool:=match P.underlying t with|some (.struct _)|some (.array _ _)=>true|_=>false
mutual
def shape (P:Program):Nat->TypeId->Option (List CS)
 |0,_=>none
 | n+1,t=>match P.underlying t with
  |some .bool=>some [.bool]
  |some (.int .i64)=>some [.int]
  |some .string=>some [.str]
  |some (.slice e)=>match shape P n e with
   |some l=>if P.cellsOf e=l.length/\(isAgg P e=true\/l.length=1)/\0<l.length then some [.slice (isAgg P e) (P.bytesOf e) l] else none
   |none=>none
  |some (.array k e)=>match shape P n e with
   |some l=>if P.cellsOf e=l.length/\P.cellsOf t=k*l.length then some (lC k l) else none
   |none=>none
  |some (.struct fs)=>match jD P n 0 fs.toList with
   |some l=>if P.cellsOf t=l.length then some l else none
   |none=>none
  |_=>none
def jD (P:Program):Nat->Nat->List Field->Option (List CS)
 |0,_,_=>none
 |_+1,_,[]=>some []
 |n+1,off,f::fs=>match shape P n f.type with
  |some l=>if f.offset=off/\P.cellsOf f.type=l.length then (match jD P n (off+l.length) fs with|some r=>some (l++r)|none=>none) else none
  |none=>none
end
def Reps (fi:FI) (w:World) (ps:List PV) (cs:List Value):Prop:=ps.length=cs.length/\∀(i:Nat) (p:PV) (v:Value),ps[i]?=some p->cs[i]?=some v->RepP fi (Mem.start w) w p v
section
variable {H:Type} {enc:TypeId×Value->H} {P:Program} {w:World} {sp:Nat->Bool} {held:Bool} {fi:FI}
theorem Reps.append {ps qs:List PV} {cs ds:List Value} (h:Reps fi w ps cs) (k:Reps fi w qs ds):Reps fi w (ps++qs) (cs++ds):=by
 refine⟨by simp[h.1,k.1],λi p v hp hv=>?_⟩;by_cases hi:i<ps.length
 ·rw[aJ hi] at hp
  rw[aJ (by rw[<-h.1];exact hi)] at hv;exact h.2 i p v hp hv
 ·rw[aR (by omega)] at hp
  rw[aR (by rw[<-h.1];omega)] at hv;rw[<-h.1] at hv;exact k.2 _ p v hp hv
theorem Reps.single {p:PV} {v:Value} (h:RepP fi (Mem.start w) w p v):Reps fi w [p] [v]:=by
 refine⟨rfl,λi q u hq hu=>?_⟩;cases i with
 |zero=>simp at hq hu;subst hq;subst hu;exact h
 |succ i=>simp at hq
theorem nk {e:TypeId}:∀{ds:List (DataW H)} {i:Nat} {d:DataW H} {b:Nat},ds[i]?=some d->b∈d.weights P e->b∈DataW.weightsAll P e ds
 |x::r,0,d,b,h,hb=>by simp at h;subst h;rw[DataW.weightsAll];exact bC _ hb
 |x::r,i+1,d,b,h,hb=>by rw[DataW.weightsAll];exact bD _ (nk (i:=i) (by simpa using h) hb)
theorem rL {Q:Nat->PV->Prop}:∀(n:Nat),(∀i,i<n->∃e,Q i e)->∃xs:List PV,xs.length=n/\∀i e,xs[i]?=some e->Q i e
 |0,_=>⟨[],rfl,λi e h=>by simp at h⟩
 | n+1,h=>by
  obtain⟨xs,hl,hx⟩:=rL n λi hi=>h i (by omega)
  obtain⟨e,he⟩:=h n (by omega);refine⟨xs++[e],by simp[hl],λi u hu=>?_⟩;by_cases hi:i<xs.length
  ·rw[aJ hi] at hu;exact hx i u hu
  ·rw[aR (by omega)] at hu
   have:i=n:=by have:=(aD.1 hu).1;simp at this;omega
   subst this;rw[hl] at hu;simp at hu;subst hu;exact he
def nm (fi:FI) (enc:TypeId×Value->H) (P:Program) (w:World) (sp:Nat->Bool) (held:Bool) (t:TypeId) (l:List CS):Prop:=
 ∀fuel cs x,DataW.trod enc P w 0 sp held fuel t cs=some x->(∀b∈x.1.weights P t,b<=reachBytes)->∃ps,cm l ps/\dF ps+(isAgg P t).toNat<=fj x.1/\Reps fi w ps cs
theorem rM {e:TypeId} {l:List CS} (hok:nm fi enc P w sp held e l) {m:Nat} {cs:List Value} {xs:List (DataW H×List MemPlace)}
  (hx:∀j,j<xs.length->DataW.trod enc P w 0 sp held m e ((cs.drop (j*l.length)).take l.length)=xs[j]?) (hw:∀b∈DataW.weightsAll P e (xs.map (·.1)),b<=reachBytes) :
  ∀k i,i+k=xs.length->∃ps,cm (lC k l) ps/\dF ps<=fD ((xs.map (·.1)).drop i)/\Reps fi w ps ((cs.drop (i*l.length)).take (k*l.length))
 |0,i,_=>⟨[],by simp[lC,cm],by simp[dF],by simp[Reps]⟩
 | k+1,i,hi=>by
  have hlt:i<xs.length:=by omega
  have h1:=hx i hlt;rw[aA hlt] at h1;obtain⟨ps,hp,hb1,hr⟩:=hok _ _ _ h1 λb hb=>hw b (nk (i:=i) (by simp[aA hlt]) hb)
  obtain⟨qs,hq,hb2,hs⟩:=rM hok hx hw k (i+1) (by omega);refine⟨ps++qs,nj hp hq,?_,?_⟩
  ·rw[ni,aL (by simpa using hlt),fD]
   simp only[List.getElem_map];omega
  have:(cs.drop (i*l.length)).take ((k+1)*l.length)=(cs.drop (i*l.length)).take l.length++(cs.drop ((i+1)*l.length)).take (k*l.length):=by rw[Nat.succ_mul k,Nat.add_comm (k*l.length),List.take_add,List.drop_drop,Nat.succ_mul i]
  rw[this];exact hr.append hs
theorem rN (n:Nat) (ih:∀k,k<=n->∀t l,shape P k t=some l->nm fi enc P w sp held t l) :
  ∀(k:Nat) (_:k<=n+1) (fs:List Field) (off:Nat) (l:List CS),jD P k off fs=some l->∀(cs:List Value) (xs:List (DataW H×List MemPlace)) (m:Nat),xs.length=fs.length->
   (∀(i:Nat) (f:Field),fs[i]?=some f->DataW.trod enc P w 0 sp held m f.type ((cs.drop f.offset).take (P.cellsOf f.type))=xs[i]?)->
   (∀b∈DataW.weightsEach P (fs.map (·.type)) (xs.map (·.1)),b<=reachBytes)->∃ps,cm l ps/\dF ps<=fD (xs.map (·.1))/\Reps fi w ps ((cs.drop off).take l.length)
 |0,_,fs,off,l,h,_,_,_,_,_,_=>by simp[jD] at h
 |k+1,_,[],off,l,h,cs,xs,m,hl,hx,hw=>by simp[jD] at h;subst h;exact⟨[],by simp[cm],by simp[dF],by simp[Reps]⟩
 | k + 1,hk,f::fs,off,l,h,cs,xs,m,hl,hx,hw=>by
  cases xs with
  |nil=>simp at hl
  | cons x xs=>
   rw[jD] at h;split at h
   ·rename_i l1 hs1
    split at h
    ·rename_i hc
     split at h
     ·rename_i r hr
      simp at h;subst h;have h0:=hx 0 f (by simp);simp only[List.getElem?_cons_zero] at h0;rw[hc.1,hc.2] at h0;obtain⟨ps,hp,hb1,hrp⟩:=ih k (by omega) _ _ hs1 _ _ _ h0 λb hb=>hw b (by simp only[bP,DataW.weightsEach];exact bC _ hb)
      obtain⟨qs,hq,hb2,hrq⟩:=rN n ih k (by omega) fs (off+l1.length) r hr cs xs m (by simpa using hl) (λi g hg=>by simpa using hx (i+1) g (by simpa using hg)) (λb hb=>hw b (by simp only[bP,DataW.weightsEach];exact bD _ hb));refine⟨ps++qs,nj hp hq,by rw[ni,bP,fD];omega,?_⟩;rw[aV,List.take_add,List.drop_drop];exact hrp.append hrq
     ·cases h
    ·cases h
   ·cases h
theorem yi:∀(n:Nat) (t:TypeId) (l:List CS),shape P n t=some l->nm fi enc P w sp held t l:=by
 intro n
 induction n using Nat.strongRecOn with
 |ind n ih=>
 cases n with
 |zero=>intro t l h;simp[shape] at h
 | succ n =>
  intro t l h fuel cs x hx hw;rw[shape] at h;split at h
  ·rename_i ht
   simp at h;subst h;obtain⟨b,rfl,rfl⟩:=DataW.trod_bool ht hx;exact⟨[.bool b],⟨⟨b,rfl⟩,trivial⟩,by simp[dF,fC,fj,isAgg,ht],Reps.single (.bool b)⟩
  ·rename_i ht
   simp at h;subst h;obtain⟨b,rfl,rfl,hwf⟩:=DataW.trod_int ht hx;refine⟨[.int .i64 b],⟨⟨b,rfl,?_⟩,trivial⟩,by simp[dF,fC,fj,isAgg,ht],Reps.single (.int .i64 b)⟩;simp[Lit.wf,IntKind.min,IntKind.max,IntKind.signed,IntKind.bits] at hwf;omega
  ·rename_i ht
   simp at h;subst h;obtain⟨b,rfl,rfl,_⟩:=DataW.trod_string ht hx;refine⟨[.str b],⟨⟨b,rfl,?_⟩,trivial⟩,by simp[dF,fC,fj,isAgg,ht],Reps.single (.str b)⟩;have:=hw b.size (by simp[DataW.weights]);exact this
  ·rename_i e ht
   split at h
   ·rename_i l1 hs1
    split at h
    ·rename_i hc
     simp at h;subst h;rcases open_slice ht hx with ⟨rfl,rfl⟩|⟨a,len,cap,m,n',D,Pl,rfl,_,hlc,hcm,hm,rfl,hi⟩
     ·refine⟨[.sl false l1.length []],⟨⟨[],rfl,by simp,λe he=>by simp at he⟩,trivial⟩,by simp[dF,fC,fj,fD,isAgg,ht],Reps.single ?_⟩
      exact .sl l1.length [] none 0 0 0 (λ_=>undef) (.inl rfl) (by simp) (λe he=>by simp at he) (λe he=>by simp at he) (λi e j p he=>by simp at he) (λi e j p he=>by simp at he)
     ·have hlm:len<=m:=by rw[hm];split<;>omega
      have hwl:len*P.bytesOf e<=reachBytes:=by have:=hw ((len+(m-len))*P.bytesOf e) (by rw[DataW.weights,ht];simp);refine bW (cO _ ?_) this;omega
      have key:∀i,i<len->∃u,fC u<=fj (D i)/\(∃ps:List PV,u.cells=ps/\cm l1 ps/\((isAgg P e=true/\u= .agg ps)\/(isAgg P e=false/\cm l1 [u])))/\
        ∀(j:Nat) (p:PV),u.cells[j]?=some p->∃v,w.cell? (a.add (i*P.cellsOf e+j))=some v/\RepP fi (Mem.start w) w p v:=by
       intro i hil;obtain⟨cs',hcells,htr⟩:=hi i (by omega);obtain⟨ps,hp,hb1,hr⟩:=ih n (by omega) _ _ hs1 _ _ _ htr λb hb=>hw b (by rw[DataW.weights,ht];refine bF _ (bC _ (nk (i:=i) ?_ hb));simp[List.getElem?_range,hil])
       obtain⟨_,hcl,hat⟩:=World.cells?_some hcells;have hpl:=lA hp;have hget:∀(j:Nat) (p:PV),ps[j]?=some p->∃v,w.cell? (a.add (i*P.cellsOf e+j))=some v/\RepP fi (Mem.start w) w p v:=by
        intro j p hj;have hjl:j<ps.length:=(aD.1 hj).1;have hjc:j<cs'.length:=by rw[<-hr.1];exact hjl
        refine⟨cs'[j],?_,hr.2 j p _ hj (aA hjc)⟩;rw[<-Go.Deep.add_add,hat j (by omega),aA hjc]
       cases hg:isAgg P e with
       |true=>exact⟨.agg ps,by rw[fC];simpa [hg] using hb1,⟨ps,rfl,hp,.inl ⟨rfl,rfl⟩⟩,hget⟩
       | false=>
        have h1:l1.length=1:=hc.2.1.resolve_left (by simp[hg]);obtain⟨p0,rfl⟩:∃p0,ps=[p0]:=by
         cases ps with
         |nil=>simp at hpl;omega
         |cons p0 ps=>cases ps with
          |nil=>exact⟨p0,rfl⟩
          |cons q qs=>simp at hpl;omega
        have hcl0:=rK hp;exact⟨p0,by simp[dF] at hb1;omega,⟨[p0],hcl0,hp,.inr ⟨rfl,hp⟩⟩,by rw[hcl0];exact hget⟩
      obtain⟨xs,hxl,hxs⟩:=rL len key;have hmem:∀u∈xs,∃i,xs[i]?=some u:=λu hu=>List.getElem?_of_mem hu
      refine⟨[.sl false l1.length xs],⟨⟨xs,rfl,by rw[hxl];exact hwl,λu hu=>?_⟩,trivial⟩,?_,Reps.single ?_⟩
      ·obtain⟨i,hiu⟩:=hmem u hu
       obtain⟨_,⟨ps,hcps,hall,hor⟩,_⟩:=hxs i u hiu;rcases hor with ⟨h1,h2⟩|⟨h1,h2⟩
       ·exact .inl ⟨h1,ps,h2,hall⟩
       ·exact .inr ⟨h1,h2⟩
      ·have:=rJ D xs len 0 hxl λj e he=>by
        have:=(hxs j e he).1
        rwa [cN]
       rw[<-List.range_eq_range'] at this;simp only[dF,fC,fj,isAgg,ht];simpa using this
      ·have hspot:xs=[]\/a.spot=none:=by
        cases xs with
        |nil=>exact .inl rfl
        | cons u us=>
         refine .inr ?_;obtain⟨_,⟨ps,hcps,hall,hor⟩,hcel⟩:=hxs 0 u rfl;have hl1:=lA hall;by_cases hz:ps=[]
         ·rw[hz] at hl1
          have:=hc.2.2;simp at hl1;omega
         ·obtain⟨p,ps',rfl⟩:=List.exists_cons_of_ne_nil hz
          obtain⟨v,hv,_⟩:=hcel 0 p (by rw[hcps];rfl);have:=World.cell?_spot hv;simpa [Addr.add] using this
       have hcellE:P.cellsOf e=l1.length:=hc.1;rw[show len=xs.length from hxl.symm];refine .sl l1.length xs (some a) cap a.block a.off (λk=>(w.cell? ⟨a.block,a.off+k,none⟩).getD undef) ?_ (by omega) (λu hu=>?_) (λu hu=>?_) (λi u j p hu hp=>?_) (λi u j p hu hp=>?_)
       ·rcases hspot with h|h
        ·exact .inl h
        ·refine .inr ?_
         cases a;simp at h;subst h;rfl
       ·obtain⟨i,hiu⟩:=hmem u hu
        obtain⟨_,⟨ps,hcps,hall,_⟩,_⟩:=hxs i u hiu;rw[hcps];exact lA hall
       ·obtain⟨i,hiu⟩:=hmem u hu
        obtain⟨_,⟨ps,hcps,hall,_⟩,_⟩:=hxs i u hiu;rw[aj,hcps];exact lB hall
       ·obtain⟨_,_,hcel⟩:=hxs i u hu
        obtain⟨v,hv,hrep⟩:=hcel j p hp;rw[hcellE] at hv;have ha:a.add (i*l1.length+j)=⟨a.block,a.off+(i*l1.length+j),none⟩:=by
         have hs:a.spot=none:=hspot.resolve_left λh=>by rw[h] at hu;simp at hu
         cases a;simp at hs;subst hs;unfold Addr.add;split
         ·rename_i h0;rw[h0];rfl
         ·rfl
        rw[ha] at hv;refine⟨?_,by rw[hv];rfl⟩;exact yh (a:=⟨a.block,a.off+(i*l1.length+j),none⟩) hv
       ·obtain⟨_,_,hcel⟩:=hxs i u hu
        obtain⟨v,hv,hrep⟩:=hcel j p hp;rw[hcellE] at hv;have ha:a.add (i*l1.length+j)=⟨a.block,a.off+(i*l1.length+j),none⟩:=by
         have hs:a.spot=none:=hspot.resolve_left λh=>by rw[h] at hu;simp at hu
         cases a;simp at hs;subst hs;unfold Addr.add;split
         ·rename_i h0;rw[h0];rfl
         ·rfl
        rw[ha] at hv;rw[hv];exact hrep
    ·cases h
   ·cases h
  ·rename_i k e ht
   split at h
   ·rename_i l1 hs1
    split at h
    ·rename_i hc
     simp at h;subst h;obtain⟨xs,m,rfl,rfl,hcl,hxl,hi⟩:=DataW.trod_array ht hx;obtain⟨ps,hp,hb1,hr⟩:=rM (ih n (by omega) _ _ hs1) (cs:=cs) (xs:=xs) (m:=m) (λj hj=>by rw[<-hc.1];exact hi j (by omega)) (λb hb=>hw b (by rw[DataW.weights,ht];exact hb)) k 0 (by omega);refine⟨ps,hp,by rw[fj];simp[isAgg,ht];simpa using hb1,?_⟩;rw[Nat.zero_mul,bK,<-hc.2,<-hcl,List.take_length] at hr;exact hr
    ·cases h
   ·cases h
  ·rename_i fs ht
   split at h
   ·rename_i l1 hs1
    split at h
    ·rename_i hc
     simp at h;subst h;obtain⟨xs,m,rfl,rfl,hcl,hxl,hi⟩:=DataW.trod_struct ht hx;obtain⟨ps,hp,hb1,hr⟩:=rN n (λk hk=>ih k (by omega)) n (by omega) fs.toList 0 l1 hs1 cs xs m (by simpa using hxl) (λi f hf=>hi i f (by simpa using hf)) (λb hb=>hw b (by rw[DataW.weights,ht];exact hb));refine⟨ps,hp,by rw[fj];simp[isAgg,ht];simpa using hb1,?_⟩;rw[bK,<-hc,<-hcl,List.take_length] at hr;exact hr
    ·cases h
   ·cases h
  ·cases h
def gE:Bool×List CS->PV->Prop
 |(true,l),p=>∃ps,p= .agg ps/\cm l ps
 |(false,l),p=>cm l [p]
def fk:List (Bool×List CS)->List PV->Prop
 |[],[]=>True
 |c::cs,p::ps=>gE c p/\fk cs ps
 |_,_=>False
def jE (P:Program) (n:Nat):List TypeId->Option (List (Bool×List CS))
 |[]=>some []
 |t::ts=>match shape P n t,jE P n ts with
  |some l,some r=>some ((isAgg P t,l)::r)
  |_,_=>none
theorem rO {c:Bool×List CS} {cs:List (Bool×List CS)} {qs:List PV} (h:fk (c::cs) qs):∃p ps,qs=p::ps/\gE c p/\fk cs ps:=by
 cases qs with
 |nil=>simp[fk] at h
 |cons p ps=>exact⟨p,ps,rfl,h⟩
theorem yj {qs:List PV} (h:fk [] qs):qs=[]:=by
 cases qs with
 |nil=>rfl
 |cons p ps=>simp[fk] at h
theorem eZ {c:CS} {cs:List CS} {qs:List PV} (h:cm (c::cs) qs):∃p ps,qs=p::ps/\gZ c p/\cm cs ps:=by
 cases qs with
 |nil=>simp[cm] at h
 |cons p ps=>exact⟨p,ps,rfl,h⟩
theorem ku {qs:List PV} (h:cm [] qs):qs=[]:=by
 cases qs with
 |nil=>rfl
 |cons p ps=>simp[cm] at h
theorem ym {l:List CS} {p:PV} (h:gE (true,l) p):∃ps,p= .agg ps/\cm l ps:=h
theorem hH {p:PV} (h:gZ .int p):∃n,p= .int .i64 n/\ -9223372036854775808<=n/\n<=9223372036854775807:=h
theorem yn {c:Bool×List CS} {p:PV} (h:gE c p):aj p=true:=by
 obtain⟨g,l⟩:=c;cases g with
 |true=>
  obtain⟨ps,rfl,h⟩:=h;exact lB h
 |false=>rw[aj,rK h];exact lB h
theorem rP:∀{L:List (Bool×List CS)} {ps:List PV},fk L ps->∀p∈ps,aj p=true
 |[],[],_,p,hp=>by simp at hp
 |_::_,q::ps,h,p,hp=>by
  simp only[fk] at h;rcases List.mem_cons.1 hp with rfl|hp
  ·exact yn h.1
  ·exact rP h.2 p hp
 |[],_::_,h,_,_=>by simp[fk] at h
 |_::_,[],h,_,_=>by simp[fk] at h
theorem yo {n:Nat} {t:TypeId} {l:List CS} (hs:shape P n t=some l) {base:Nat} {v:Value} {d:DataW H} {ps:List MemPlace} (hv:Value.okWide P w .any base t v) (hd:DataW.Trod enc P w 0 sp held t v d ps)
  (hw:∀b∈d.weights P t,b<=reachBytes):∃p,gE (isAgg P t,l) p/\fC p<=fj d/\RepP fi (Mem.start w) w p v:=by
 obtain⟨fuel,hf⟩:=hd;obtain⟨qs,hq,hb1,hr⟩:=yi (fi:=fi) n t l hs fuel _ _ hf hw;have hone:v.cells.toList=[v]->isAgg P t=false->∃p,gE (isAgg P t,l) p/\fC p<=fj d/\RepP fi (Mem.start w) w p v:=by
  intro hc hg;rw[hc] at hr;cases qs with
  |nil=>have:=hr.1;simp at this
  |cons q qs=>cases qs with
   |cons r qs=>have:=hr.1;simp at this
   |nil=>exact⟨q,by rw[hg];exact hq,by simp[dF] at hb1;omega,hr.2 0 q v rfl rfl⟩
 have hagg:(∃cs,v= .agg cs)->isAgg P t=true->∃p,gE (isAgg P t,l) p/\fC p<=fj d/\RepP fi (Mem.start w) w p v:=by rintro⟨cs,rfl⟩ hg;refine⟨.agg qs,by rw[hg];exact⟨qs,rfl,hq⟩,by rw[fC];simpa [hg] using hb1,?_⟩;obtain⟨cl⟩:=cs;exact .agg qs cl hr.1.symm hr.2
 cases n with
 |zero=>simp[shape] at hs
 | succ n=>
  rw[shape] at hs;split at hs
  ·rename_i ht
   obtain⟨b,rfl⟩:=okWide_bool ht hv;exact hone rfl (by simp[isAgg,ht])
  ·rename_i ht
   obtain⟨b,rfl⟩:=okWide_int ht hv;exact hone rfl (by simp[isAgg,ht])
  ·rename_i ht
   obtain⟨b,rfl⟩:=okWide_string ht hv;exact hone rfl (by simp[isAgg,ht])
  ·rename_i e ht
   obtain⟨a,b,c,rfl⟩:=okWide_slice ht hv;exact hone rfl (by simp[isAgg,ht])
  ·rename_i k e ht
   refine hagg ?_ (by simp[isAgg,ht]);simp only[Value.okWide,ht] at hv;obtain⟨cs,h1,_⟩:=hv;exact⟨cs,h1⟩
  ·rename_i fs ht
   refine hagg ?_ (by simp[isAgg,ht]);simp only[Value.okWide,ht] at hv;obtain⟨cs,h1,_⟩:=hv;exact⟨cs,h1⟩
  ·cases hs
theorem rQ {n base:Nat}:∀{ts:List TypeId} {L:List (Bool×List CS)} {vs:List Value} {ds:List (DataW H)} {ps:List MemPlace},jE P n ts=some L->DataW.TrodAll enc P w 0 sp held ts vs ds ps->
  (∀(j:Nat) t v,ts[j]?=some t->vs[j]?=some v->Value.okWide P w .any base t v)->(∀b∈DataW.weightsEach P ts ds,b<=reachBytes)->
  ∃qs,fk L qs/\dF qs<=fD ds/\qs.length=vs.length/\∀(i:Nat) (p:PV) (v:Value),qs[i]?=some p->vs[i]?=some v->RepP fi (Mem.start w) w p v
 |[],L,vs,ds,ps,hs,ht,_,_=>by obtain⟨rfl,rfl,rfl⟩:=trodAll_nil ht;simp[jE] at hs;subst hs;exact⟨[],trivial,Nat.zero_le _,rfl,λi p v h=>by simp at h⟩
 | t::ts,L,vs,ds,ps,hs,ht,hv,hw=>by
  obtain⟨v,vs',d,ds',p,q,rfl,rfl,rfl,h1,h2⟩:=trodAll_cons ht;simp only[jE] at hs;split at hs
  ·rename_i l r hl hr
   simp at hs;subst hs;obtain⟨a,ha,hb1,hra⟩:=yo (fi:=fi) hl (hv 0 t v rfl rfl) h1 λb hb=>hw b (by simp only[DataW.weightsEach];exact bC _ hb)
   obtain⟨qs,hq,hb2,hl,hrq⟩:=rQ hr h2 (λj t v h1 h2=>hv (j+1) t v (by simpa using h1) (by simpa using h2)) (λb hb=>hw b (by simp only[DataW.weightsEach];exact bD _ hb));refine⟨a::qs,⟨ha,hq⟩,by rw[dF,fD];omega,by simp[hl],λi p v h1 h2=>?_⟩;cases i with
   |zero=>simp at h1 h2;subst h1;subst h2;exact hra
   |succ i=>exact hrq i p v (by simpa using h1) (by simpa using h2)
  ·cases hs
theorem rR {W W':World} (hl:laidOutB P=true) (hb:Below W.heap.size W W'):∀{ts:List TypeId} {vs:List Value} {ds:List (DataW H)} {ps:List MemPlace},
  (ts.all λt=>P.readableRec t&&decide (t<P.types.size))=true->DataW.TrodAll enc P W 0 (λ_=>true) true ts vs ds ps->DataW.TrodAll enc P W' 0 (λb=>decide (b<W.heap.size)) true ts vs ds ps
 |[],vs,ds,ps,_,h=>by obtain⟨rfl,rfl,rfl⟩:=trodAll_nil h;exact h
 |t::ts,vs,ds,ps,hr,h=>by
  obtain⟨v,vs',d,ds',p,q,rfl,rfl,rfl,h1,h2⟩:=trodAll_cons h;simp only[List.all_cons,aX,aH] at hr;have lt:∀x∈p,x.block<W.heap.size:=by obtain⟨m,hm⟩:=h1;exact DataW.trod_lt m _ _ _ hm
  exact⟨p,q,Below.trod hl hr.1.1 hr.1.2 h1 hb lt,rR hl hb hr.2 h2,rfl⟩
end
end
section
open Go.RowKit
def kz (P:Program) (fi:FI) (pg:Prg) (f F:Nat):Bool:=
 match P.funcs[F]? with
 | some Fn=>match Fn.body with
  |some c=>match pg f with
   | some (.code fn) => (!(Fn.name == "runtime.NumGoroutine")) && (cn P fi Fn.ntmps fn.body c && eT P fn.res Fn.results.toList)
   |some (.yl _)=>false
   | _ => !(Fn.name == "runtime.NumGoroutine")
  |none=>false
 |none=>false
def rV (pg:Prg) (f:Nat):Bool:=match pg f with|some (.lib _)=>true|_=>false
theorem yv {P:Program} {fi:FI} {pg:Prg} {f F:Nat} (h:kz P fi pg f F=true) (hl:∀L,pg f=some (.lib L)->∀vs gh r gh',L vs gh=some (r,gh')->(∀p∈vs,aj p=true)->fO P fi F vs gh r gh') :
  rG P F/\match pg f with
  |some (.code fn)=>∃Fn c,P.funcs[F]?=some Fn/\Fn.body=some c/\cn P fi Fn.ntmps fn.body c=true/\eT P fn.res Fn.results.toList=true
  |some (.lib L)=>∀vs gh r gh',L vs gh=some (r,gh')->(∀p∈vs,aj p=true)->fO P fi F vs gh r gh'
  |_=>pg f=none:=by
 unfold kz at h;cases hF:P.funcs[F]? with
 |none=>rw[hF] at h;cases h
 | some Fn=>
  rw[hF] at h;simp only at h;cases hc:Fn.body with
  |none=>rw[hc] at h;cases h
  | some c=>
   rw[hc] at h;simp only at h;cases hp:pg f with
   |none=>
    rw[hp] at h;exact⟨⟨Fn,c,hF,by simpa using h,hc⟩,by simp[hp]⟩
   | some df=>
    cases df with
    |lib L=>
     rw[hp] at h;exact⟨⟨Fn,c,hF,by simpa using h,hc⟩,hl L hp⟩
    |yl Y=>rw[hp] at h;cases h
    |code fn=>
     rw[hp] at h;simp only[aX,Bool.not_eq_true'] at h;exact⟨⟨Fn,c,hF,h.1,hc⟩,Fn,c,rfl,hc,h.2.1,h.2.2⟩
def fiG (l:List (Nat×Nat)) (gl:List (Nat×Nat×Option Value)) (bT:List TypeId:=[]) (u8:TypeId:=0) (gw:List (Nat×List ByteArray):=[]) (gwok:kb gl gw:=by exact pP _):FI:={f:=λf=>(l.find? (·.1==f)).map (·.2),gl:=gl,bT:=bT,u8:=u8,gw:=gw,gwok:=gwok }
abbrev yw (l:List (Nat×Nat)):FI:=fiG l []
theorem yx {l:List (Nat×Nat)} {gl:List (Nat×Nat×Option Value)} {bT:List TypeId} {u8:TypeId} {gw:List (Nat×List ByteArray)} {gwok:kb gl gw} {f F:Nat} (h:fiG l gl bT u8 gw gwok f=some F):(f,F)∈l:=by unfold fiG at h;simp only[aE] at h;obtain⟨⟨a,b⟩,h1,rfl⟩:=h;have h2:=List.find?_some h1;have h3:=List.mem_of_find?_eq_some h1;simp at h2;subst h2;exact h3
theorem yy {P:Program} {l:List (Nat×Nat)} {fi:FI} {pg:Prg} (hm:∀f F,fi f=some F->(f,F)∈l) (hy:∀y N ps as body,fi.yp y N ps as body=true->∃Y,pg y=some (.yl Y)/\ps= #[Y.t]/\fi.yk y=Y.ks/\Y.t∉Y.ks/\Y.t<N/\dQ Y.as=true/\dQ Y.body=true/\cn P fi N Y.as as=true/\cn P fi N Y.body body=true)
  (h:(l.all λx=>kz P fi pg x.1 x.2)=true) (hl:∀f F L,(f,F)∈l->pg f=some (.lib L)->∀vs gh r gh',L vs gh=some (r,gh')->(∀p∈vs,aj p=true)->fO P fi F vs gh r gh'):gD P fi pg:=by
 refine⟨hy,λf F hf=>?_⟩;rw[bR] at h;exact yv (h _ (hm f F hf)) (λL=>hl f F L (hm f F hf))
def rW (P:Program) (fi:FI) (yl:List (Nat×IYl)):YP:=λy N ps as body=>match yl.lookup y with
 |some Y=>ps== #[Y.t]&&(!Y.ks.contains Y.t&&(decide (Y.t<N)&&(dQ Y.as&&(dQ Y.body&&(cn P fi N Y.as as&&cn P fi N Y.body body)))))
 |none=>false
def rX (yl:List (Nat×IYl)):Nat->List Nat:=λy=>match yl.lookup y with
 |some Y=>Y.ks
 |none=>[]
def FI.wk (fi:FI) (yl:List (Nat×IYl)):FI:=⟨fi.f,fi.gl,fi.bT,fi.u8,fi.gw,fi.gwok,rX yl,λ_ _ _ _ _=>false⟩
def fiY (P:Program) (fi:FI) (yl:List (Nat×IYl)):FI:=(fi.wk yl).nY (rW P (fi.wk yl) yl)
theorem yz {P:Program} {l:List (Nat×Nat)} {gl:List (Nat×Nat×Option Value)} {bT:List TypeId} {u8:TypeId} {gw:List (Nat×List ByteArray)} {gwok:kb gl gw} {pg:Prg} {yl:List (Nat×IYl)} (hy:∀y Y,yl.lookup y=some Y->pg y=some (.yl Y)) (h:(l.all λx=>kz P (fiY P (fiG l gl bT u8 gw gwok) yl) pg x.1 x.2)=true)
  (hl:∀f F L,(f,F)∈l->pg f=some (.lib L)->∀vs gh r gh',L vs gh=some (r,gh')->(∀p∈vs,aj p=true)->fO P (fiY P (fiG l gl bT u8 gw gwok) yl) F vs gh r gh'):gD P (fiY P (fiG l gl bT u8 gw gwok) yl) pg:=by
 refine yy (λf F hf=>yx (gl:=gl) (bT:=bT) (u8:=u8) (gw:=gw) (gwok:=gwok) hf) (λy N ps as body hp=>?_) h hl;unfold fiY rW at hp;simp only at hp;cases hY:yl.lookup y with
 |none=>rw[hY] at hp;cases hp
 |some Y=>
  rw[hY] at hp;simp only[aX,Bool.not_eq_true',cQ,aH] at hp;obtain⟨h1,h2,h3,h4,h5,h6,h7⟩:=hp;exact⟨Y,hy y Y hY,h1,by simp only[fiY,FI.nY,FI.wk,rX,hY],by simpa using h2,h3,h4,h5,(rU h4).trans h6,(rU h5).trans h7⟩
theorem yA {H:Type} {enc:TypeId×Value->H} {P:Program} {fi:FI} {pg:Prg} (hP:P.follows .mixedOrders=true) (hL:gD P fi pg) {f F n:Nat} (hf:fi f=some F) {ts:List TypeId} {L:List (Bool×List CS)}
  (hs:jE P n ts=some L) {N:Nat} (hlaw:∀qs,fk L qs->dF qs<=N->ac pg f qs []=some (.bool true,[])) {W:World} {base:Nat} {args:List Value} {ds:List (DataW H)} {ps:List MemPlace}
  (hA:DataW.TrodAll enc P W 0 (λ_=>true) true ts args ds ps) (hv:∀(j:Nat) t v,ts[j]?=some t->args[j]?=some v->Value.okWide P W .any base t v) (hw:(DataW.weightsEach P ts ds).all (· <=reachBytes)=true) (hN:fD ds<=N) (hg:∀x∈fi.gl,x.1<W.heap.size/\W.cell? ⟨x.1,x.2.1,none⟩=x.2.2:=by intro x hx;cases hx) :
  Calls P F args.toArray W λe W'=>e= .returned (.bool true)/\Below W.heap.size W W':=by
 obtain⟨qs,hq,hbk,hl,hr⟩:=rQ (fi:=fi) hs hA hv (by simpa using hw);refine (yf hP hL (hlaw qs hq (bW hbk hN)) (rP hq) hf hl.symm hg hr).mono ?_;rintro e w' ⟨v,M',rfl,_,hres,h1,h2,h3,h4,h5⟩;refine⟨?_,⟨h1,h2,h3,h4,h5⟩⟩;have:RepP fi M' w' (.bool true) v:=hres;cases this;rfl
theorem yB {H:Type} {enc:TypeId×Value->H} {P:Program} {fi:FI} {pg:Prg} (hP:P.follows .mixedOrders=true) (hL:gD P fi pg) {f F n:Nat} (hf:fi f=some F) {ts:List TypeId} {L:List (Bool×List CS)}
  (hs:jE P n ts=some L) (hlaw:∀qs,fk L qs->ac pg f qs []=some (.bool true,[])) {W:World} {base:Nat} {args:List Value} {ds:List (DataW H)} {ps:List MemPlace}
  (hA:DataW.TrodAll enc P W 0 (λ_=>true) true ts args ds ps) (hv:∀(j:Nat) t v,ts[j]?=some t->args[j]?=some v->Value.okWide P W .any base t v) (hw:(DataW.weightsEach P ts ds).all (· <=reachBytes)=true) (hg:∀x∈fi.gl,x.1<W.heap.size/\W.cell? ⟨x.1,x.2.1,none⟩=x.2.2:=by intro x hx;cases hx) :
  Calls P F args.toArray W λe W'=>e= .returned (.bool true)/\Below W.heap.size W W':=
 yA hP hL hf hs (λqs h _=>hlaw qs h) hA hv hw (cM _) hg
end
section
variable {ins:Int} {ands:List (Int×Int)} {gh:List GObj}
end
theorem jR {g:Bool} {bytes:Nat} {l:List CS} {p:PV} (h:gZ (.slice g bytes l) p):∃xs,p= .sl false l.length xs/\xs.length*bytes<=reachBytes/\∀e∈xs,(g=true/\∃ps,e= .agg ps/\cm l ps)\/(g=false/\cm l [e]):=by unfold gZ at h;exact h
theorem om:∀{xs:List PV},(∀e∈xs,(true=true/\∃ps,e= .agg ps/\cm [.int,.int] ps)\/(true=false/\cm [.int,.int] [e]))->∃ands,RA ands/\xs=ands.map bq
 |[],_=>⟨[],λx h=>(by cases h),rfl⟩
 | e::xs,h=>by
  obtain⟨ands,hr,rfl⟩:=om (xs:=xs) λe he=>h e (bF _ he)
  rcases h e (by simp) with ⟨-,ps,rfl,hp⟩|⟨h,-⟩
  ·obtain⟨_,_,rfl,g0,hp⟩:=eZ hp
   obtain⟨_,_,rfl,g1,hp⟩:=eZ hp;obtain rfl:=ku hp;obtain⟨a,rfl,ha⟩:=hH g0;obtain⟨b,rfl,hb⟩:=hH g1;refine⟨(a,b)::ands,λx hx=>?_,rfl⟩;rcases List.mem_cons.1 hx with rfl|hx
   ·exact⟨ha,hb⟩
   ·exact hr x hx
  ·cases h
section
variable {ins:Int} {ands:List (Int×Int)} {gh:List GObj}
end
def RI (l:List Int):Prop:=∀x∈l,-9223372036854775808<=x/\x<=9223372036854775807
theorem md:∀{xs:List PV},(∀e∈xs,(false=true/\∃ps,e= .agg ps/\cm [.int] ps)\/(false=false/\cm [.int] [e]))->∃v:List Int,RI v/\xs=v.map I
 |[],_=>⟨[],λx h=>(by cases h),rfl⟩
 | e::xs,h=>by
  obtain⟨v,hr,rfl⟩:=md (xs:=xs) λe he=>h e (bF _ he)
  rcases h e (by simp) with ⟨h,-⟩|⟨-,hp⟩
  ·cases h
  ·obtain⟨_,_,e1,g0,hp⟩:=eZ hp
   cases ku hp;simp only[List.cons.injEq,and_true] at e1;subst e1;obtain⟨b,rfl,hb⟩:=hH g0;refine⟨b::v,λx hx=>?_,rfl⟩;rcases List.mem_cons.1 hx with rfl|hx
   ·exact hb
   ·exact hr x hx
theorem Bu {c:CS} {p:PV} (h:gE (false,[c]) p):gZ c p:=by obtain⟨q,ps,e,h1,h2⟩:=eZ h;cases ku h2;simp only[List.cons.injEq,and_true] at e;subst e;exact h1
theorem Bv {p:PV} (h:gE (false,[.slice false 8 [.int]]) p):∃v:List Int,p=LI v/\RI v/\v.length*8<=reachBytes:=by obtain⟨xs,rfl,hb,hx⟩:=jR (Bu h);obtain⟨v,hr,rfl⟩:=md hx;refine⟨v,rfl,hr,?_⟩;simpa using hb
def toggleM:Md:=⟨[⟨1,1,0,0,0,0⟩,⟨3,1,0,0,0,0⟩,⟨4,1,1,0,0,0⟩],[(1,0)],[(1,2)],[1],[]⟩
section
variable {m:Md} {gh:List GObj}
theorem Bw:ac pg 75 [] gh=some (dc toggleM,gh):=by
 refine ao (fn:=q64) (s:=?s1) rfl rfl (qf4_ ?h1) ?r1
 case h1=>simp only[qf4];rfl
 case r1=>simp[ak,results,q64,am,aq,ai,St.cellsAt,bv,toggleM,cU,gJ]
end
abbrev tm:List CS:=[.slice true 48 [.int,.int,.int,.int,.int,.int],.slice true 16 [.int,.int],.slice true 16 [.int,.int],.slice false 8 [.int],.slice false 8 [.int]]
structure oo (m:Md):Prop where
 nodes:m.nodes.length*48<=reachBytes
 inits:m.inits.length*16<=reachBytes
 nexts:m.nexts.length*16<=reachBytes
 bads:m.bads.length*8<=reachBytes
 holds:m.holds.length*8<=reachBytes
theorem tp:∀{xs:List PV},(∀e∈xs,(true=true/\∃ps,e= .agg ps/\cm [.int,.int,.int,.int,.int,.int] ps)\/(true=false/\cm [.int,.int,.int,.int,.int,.int] [e]))->∃l:List Nd,xs=l.map bn
 |[],_=>⟨[],rfl⟩
 | e::xs,h=>by
  obtain⟨l,rfl⟩:=tp (xs:=xs) λe he=>h e (bF _ he)
  rcases h e (by simp) with ⟨-,ps,rfl,hp⟩|⟨h,-⟩
  ·obtain⟨_,_,rfl,g0,hp⟩:=eZ hp
   obtain⟨_,_,rfl,g1,hp⟩:=eZ hp;obtain⟨_,_,rfl,g2,hp⟩:=eZ hp;obtain⟨_,_,rfl,g3,hp⟩:=eZ hp;obtain⟨_,_,rfl,g4,hp⟩:=eZ hp;obtain⟨_,_,rfl,g5,hp⟩:=eZ hp;obtain rfl:=ku hp;obtain⟨a0,rfl,-⟩:=hH g0;obtain⟨a1,rfl,-⟩:=hH g1;obtain⟨a2,rfl,-⟩:=hH g2;obtain⟨a3,rfl,-⟩:=hH g3;obtain⟨a4,rfl,-⟩:=hH g4;obtain⟨a5,rfl,-⟩:=hH g5;exact⟨⟨a0,a1,a2,a3,a4,a5⟩::l,rfl⟩
  ·cases h
theorem Bx {p:PV} (h:gE (true,tm) p):∃m,p=dc m/\oo m:=by obtain⟨ps,rfl,hp⟩:=ym h;obtain⟨_,_,rfl,g0,hp⟩:=eZ hp;obtain⟨_,_,rfl,g1,hp⟩:=eZ hp;obtain⟨_,_,rfl,g2,hp⟩:=eZ hp;obtain⟨_,_,rfl,g3,hp⟩:=eZ hp;obtain⟨_,_,rfl,g4,hp⟩:=eZ hp;obtain rfl:=ku hp;obtain⟨x0,rfl,b0,h0⟩:=jR g0;obtain⟨x1,rfl,b1,h1⟩:=jR g1;obtain⟨x2,rfl,b2,h2⟩:=jR g2;obtain⟨x3,rfl,b3,h3⟩:=jR g3;obtain⟨x4,rfl,b4,h4⟩:=jR g4;obtain⟨l0,rfl⟩:=tp h0;obtain⟨l1,-,rfl⟩:=om h1;obtain⟨l2,-,rfl⟩:=om h2;obtain⟨l3,-,rfl⟩:=md h3;obtain⟨l4,-,rfl⟩:=md h4;exact⟨⟨l0,l1,l2,l3,l4⟩,rfl,⟨by simpa using b0,by simpa using b1,by simpa using b2,by simpa using b3,by simpa using b4⟩⟩
structure kP (m:Md):Prop where
 len:m.nodes.length<=80
 ahead:jO m.nodes
 pairs:∀p∈m.inits++m.nexts,cg m.nodes p.1/\cg m.nodes p.2
 nod1:(m.inits.map (·.1)).Nodup
 nod2:(m.nexts.map (·.1)).Nodup
theorem oq {l:List Nd} {f:List Bool} {init:Bool}:∀{ps:List (Int×Int)},ct l f init ps=0->∀p∈ps,cg l p.1/\cg l p.2
 |[],_,p,hp=>by cases hp
 | q ::ps,h,p,hp=>by
  rw[ct] at h;split at h
  ·rename_i h0
   rcases List.mem_cons.1 hp with rfl|hp
   ·unfold dM at h0
    split at h0
    ·contradiction
    ·rename_i hn
     exact⟨aU λh=>hn (.inl h),aU λh=>hn (.inr (.inl h))⟩
   ·exact oq h p hp
  ·contradiction
theorem ei {m:Md} (h:aw m=0):kP m:=by
 unfold aw at h;split at h
 ·contradiction
 rename_i h1;split at h
 ·contradiction
 rename_i h2;split at h
 ·contradiction
 split at h
 ·contradiction
 rename_i h4;have h4:fG m (dr [] m.nodes)=0:=aU h4;unfold fG at h4;split at h4
 ·contradiction
 rename_i e1;split at h4
 ·contradiction
 rename_i e2;split at h4
 ·contradiction
 rename_i e3;have e1:=aU e1;have e2:=aU e2;refine⟨by omega,nZ (aU h2),λp hp=>?_,?_,?_⟩
 ·rcases bY.1 hp with hp|hp
  ·exact oq e1 p hp
  ·exact oq e2 p hp
 ·exact aU λh=>e3 (.inl h)
 ·exact aU λh=>e3 (.inr h)
theorem gQ {x:Int} (h:0<=x):∃n:Nat,x=n:=⟨x.toNat,by omega⟩
section
variable (k width n v e a b c w0 w1 w2:Int) (gh:List GObj)
end
def fS (l:List Nd) (ns:List Int):Prop:=∀a∈ns,cg l a/\1<=wAt l a/\wAt l a<=8
def cY (L:List Nd):List Int->List Int->Int
 |a::ns,v::vs=>if 0<=v/\v<((2^(wAt L a).toNat:Nat):Int) then cY L ns vs else 3
 |[],_=>0
 |_::_,[]=>0
def cy (L:List Nd) (ns vs:List Int):Int:=if vs.length≠ns.length then 2 else cY L ns vs
section
variable {m:Md} {gh:List GObj}
def me (m:Md) (ns vs:List Int) (i:Nat) (gh:List GObj):St:=
 ⟨[(2,LI vs),(3,.ptr false 0 0),(14,LI ns),(15,I ns.length),(16,I (i:Int))],[[LN m.nodes,LP m.inits,LP m.nexts,LI m.bads,LI m.holds]],gh⟩
theorem tr {ns vs:List Int} (hx:fS m.nodes ns) (hl:ns.length<=1000) (hv:vs.length=ns.length):∀k i,i+k=ns.length->
  ab pg q5c (me m ns vs i gh)=if cY m.nodes (ns.drop i) (vs.drop i)=0 then some (.normal,⟨[],[],gh⟩) else some (.ret,⟨[(6,I (cY m.nodes (ns.drop i) (vs.drop i)))],[],gh⟩)
 |0,i,h=>by
  rw[aQ (by omega),cY,if_pos rfl];have hlt:¬(i:Int)<(ns.length:Int):=by omega
  refine (bj (s1:=?s1) (q9h ?h1)).trans ?r1
  case h1=>simp only[aF hlt,dJ];rfl
  case r1=>simp[keep]
 | k+1,i,h=>by
  have hlt:i<ns.length:=by omega
  have hltI:(i:Int)<(ns.length:Int):=by omega
  have hlv:i<vs.length:=by omega
  have e2:WI.wrap ((i:Int)+1)=((i+1:Nat):Int):=by rw[ay (by omega) (by omega)];omega
  have hg:(ns.map I)[i]?=some (I ns[i]):=by simp[aA hlt]
  have hgv:(vs.map I)[i]?=some (I vs[i]):=by simp[aA hlv]
  obtain⟨hno,hw⟩:=hx _ (bX hlt);have hn:=eH hno;have h0:=hno.1;rw[aL hlt,aL hlv,cY];have hIW:=sD vs[i] (wAt m.nodes ns[i]) (by omega) gh;rw[sT hw] at hIW;generalize ns[i]=a at *;generalize vs[i]=v at *;unfold wAt at *;generalize hd:m.nodes.getD a.toNat default=d at *;rw[cU d] at hn;by_cases hc:0<=v/\v<((2^d.w.toNat:Nat):Int)
  ·rw[aG hc] at hIW
   rw[if_pos hc];refine ba (s1:=me m ns vs (i+1) gh) (q9h ?_) (tr hx hl hv k (i+1) (by omega));unfold me;simp[hltI,hg,hgv,h0,hn,hIW,e2,-List.getElem?_map]
  ·rw[aF hc] at hIW
   rw[if_neg hc,if_neg (by decide)];refine dk (q9h ?_);simp[hltI,hg,hgv,h0,hn,hIW,-List.getElem?_map]
theorem B9 {ns vs:List Int} (hx:fS m.nodes ns) (hl:ns.length<=1000):ac pg 135 [dc m,LI ns,LI vs] gh=some (I (cy m.nodes ns vs),gh):=by
 rw[bv];unfold cy;by_cases hv:vs.length=ns.length
 ·rw[if_neg (by omega)]
  have h:=tr (gh:=gh) hx hl hv ns.length 0 (by omega);rw[bK,bK] at h;unfold me at h;simp only[aW] at h;have hk:=qie (pg:=pg) (gh:=gh) rfl;by_cases hz:cY m.nodes ns vs=0
  ·rw[if_pos hz] at h
   rw[hz];refine ao (fn:=q16) (s:=⟨[(6,I 0)],[],gh⟩) rfl rfl (q9i ?h1) ?r1
   case h1=>simp[hv,h,hk]
   case r1=>simp[ak,results,q16,am,aq,ai]
  ·rw[if_neg hz] at h
   generalize cY m.nodes ns vs=r at *;refine ao (fn:=q16) (s:=⟨[(6,I r)],[],gh⟩) rfl rfl (q9i ?h2) ?r2
   case h2=>simp[hv,h]
   case r2=>simp[ak,results,q16,am,aq,ai]
 ·rw[if_pos hv]
  have hd:decide ((vs.length:Int)=(ns.length:Int))=false:=aF (by omega);refine ao (fn:=q16) (s:=⟨[(6,I 2)],[],gh⟩) rfl rfl (q9i ?h3) ?r3
  case h3=>simp[hd]
  case r3=>simp[ak,results,q16,am,aq,ai]
theorem tt {ns vs:List Int} (hx:fS m.nodes ns) (hl:ns.length<=1000) (hv:vs.length=ns.length):∀k i,i+k=ns.length->
  ab pg q7s ⟨[(2,LI vs),(3,.ptr false 0 0),(7,LI ns),(8,I (i:Int))],[[LN m.nodes,LP m.inits,LP m.nexts,LI m.bads,LI m.holds]],gh⟩=
   if cY m.nodes (ns.drop i) (vs.drop i)=0 then some (.normal,⟨[],[],gh⟩) else some (.ret,⟨[(6,I (cY m.nodes (ns.drop i) (vs.drop i)))],[],gh⟩)
 |0,i,h=>by
  rw[aQ (by omega),cY,if_pos rfl];have hlt:¬i<vs.length:=by omega
  refine (bj (s1:=?s1) (q9k ?h1)).trans ?r1
  case h1=>simp[hlt];rfl
  case r1=>simp[keep]
 | k+1,i,h=>by
  have hlt:i<ns.length:=by omega
  have hlv:i<vs.length:=by omega
  have hltI:(i:Int)<(vs.length:Int):=by omega
  have hltD:decide (i<vs.length)=true:=aG hlv;have e2:WI.wrap ((i:Int)+1)=((i+1:Nat):Int):=by rw[ay (by omega) (by omega)];omega
  have hg:(ns.map I)[i]?=some (I ns[i]):=by simp[aA hlt]
  have hgv:(vs.map I)[i]?=some (I vs[i]):=by simp[aA hlv]
  obtain⟨hno,hw⟩:=hx _ (bX hlt);have hn:=eH hno;have h0:=hno.1;rw[aL hlt,aL hlv,cY];generalize ns[i]=a at *;generalize vs[i]=v at *;unfold wAt at *;generalize hd:m.nodes.getD a.toNat default=d at *;rw[cU d] at hn;obtain⟨W,hW⟩:=gQ (show 0<=d.w by omega);rw[hW] at hn hw;have hT:=fc (show W<=61 by omega) gh;have hp:2^W<=256:=ee (by omega);have hp0:1<=2^W:=Nat.one_le_two_pow;have hw1:WI.wrap (((2^W:Nat):Int)-1)=((2^W:Nat):Int)-1:=ay (by omega) (by omega);have hB:=dR v 0 (((2^W:Nat):Int)-1) gh;rw[show d.w.toNat=W by omega];generalize ((2^W:Nat):Int)=P at *;by_cases hc:0<=v/\v<P
  ·rw[aG (show 0<=v/\v<=P-1 by omega)] at hB
   rw[if_pos hc];refine ba (s1:=⟨[(2,LI vs),(3,.ptr false 0 0),(7,LI ns),(8,I ((i+1:Nat):Int))],[[LN m.nodes,LP m.inits,LP m.nexts,LI m.bads,LI m.holds]],gh⟩) (q9k ?_) (tt hx hl hv k (i+1) (by omega));simp[hltD,hg,hgv,h0,hn,hT,hw1,hB,e2,-List.getElem?_map]
  ·rw[aF (show ¬(0<=v/\v<=P-1) by omega)] at hB
   rw[if_neg hc,if_neg (by decide)];refine dk (q9k ?_);simp[hltD,hg,hgv,h0,hn,hT,hw1,hB,-List.getElem?_map]
theorem Ca {kind:Int} {vs:List Int} (hm:m.nodes.length<=1000) (hx:fS m.nodes (ah m.nodes kind)):ac pg 124 [dc m,I kind,LI vs] gh=some (I (cy m.nodes (ah m.nodes kind) vs),gh):=by
 have hN:=jk (m:=m) (gh:=gh) (kind:=kind) (by omega);have hl:(ah m.nodes kind).length<=1000:=bW (lY _ _ _) hm;rw[bv] at *;unfold cy;generalize ah m.nodes kind=ns at *;by_cases hv:vs.length=ns.length
 ·rw[if_neg (by omega)]
  have h:=tt (gh:=gh) hx hl hv ns.length 0 (by omega);rw[bK,bK] at h;simp only[aW] at h;have hk:=qih (pg:=pg) (gh:=gh) rfl;by_cases hz:cY m.nodes ns vs=0
  ·rw[if_pos hz] at h
   rw[hz];refine ao (fn:=q1i) (s:=⟨[(6,I 0)],[],gh⟩) rfl rfl (q9l ?h1) ?r1
   case h1=>simp[hN,hv,h,hk]
   case r1=>simp[ak,results,q1i,am,aq,ai]
  ·rw[if_neg hz] at h
   generalize cY m.nodes ns vs=r at *;refine ao (fn:=q1i) (s:=⟨[(6,I r)],[],gh⟩) rfl rfl (q9l ?h2) ?r2
   case h2=>simp[hN,hv,h]
   case r2=>simp[ak,results,q1i,am,aq,ai]
 ·rw[if_pos hv]
  have hd:decide ((vs.length:Int)=(ns.length:Int))=false:=aF (by omega);refine ao (fn:=q1i) (s:=⟨[(6,I 2)],[],gh⟩) rfl rfl (q9l ?h3) ?r3
  case h3=>simp[hN,hd]
  case r3=>simp[ak,results,q1i,am,aq,ai]
theorem Cb {m:Md} (h:aw m=0):ef m.nodes 0 m.nodes=0:=by
 unfold aw at h;split at h
 ·contradiction
 split at h
 ·contradiction
 rename_i h2;exact aU h2
theorem ou {m:Md} (h:aw m=0) {i:Nat} {x:Nd} (hx:m.nodes[i]?=some x):dv m.nodes i x=0:=by
 have:=mc (Cb h) i x hx
 rwa [cN] at this
theorem Cc {m:Md} (h:aw m=0) {i:Nat} {x:Nd} (hx:m.nodes[i]?=some x):1<=x.w/\x.w<=8:=by
 have h0:=ou h hx;unfold dv at h0;split at h0
 ·omega
 split at h0
 ·omega
 rename_i hw;exact aU hw
theorem Cd {m:Md} (h:aw m=0) {ns:List Int} (hn:∀a∈ns,cg m.nodes a):fS m.nodes ns:=by intro a ha;have hno:=hn a ha;refine⟨hno,?_⟩;unfold wAt;rw[aM,aA hno.2];exact Cc h (aA hno.2)
theorem iK {m:Md} (h:aw m=0) (kind:Int):fS m.nodes (ah m.nodes kind):=Cd h λ_ ha=>sX ha
theorem tu {vs:List Int} (h:vs.length*8<=maxBytes):ac pg 142 [LI vs] gh=some (LI (List.replicate vs.length 0),gh):=by
 have e:∀n:Nat,List.map I (List.replicate n 0)=List.replicate n (I 0):=λn=>List.map_replicate
 simp only[LI,e];have hn:di (List.replicate vs.length (PV.int IntKind.i64 0))=true:=by
  have:=eO (List.replicate vs.length 0)
  rwa [e] at this
 have hI:decide ((vs.length:Int)*8<=(maxBytes:Int))=true:=aG (by omega);refine ao (fn:=q5j) (s:=?s1) rfl rfl (qig ?h1) ?r1
 case h1=>simp[eN,hI,ea];rfl
 case r1=>simp[ak,results,q5j,am,aq,ai,hn]
end
def jS (L:List Nd) (acc:List Int) (x:Nd):Int:=
 ia x.k x.w (acc.getD x.a.toNat 0) (acc.getD x.b.toNat 0) (acc.getD x.c.toNat 0) x.n (wdJ L x.k 0 x.a) (wdJ L x.k 1 x.b)
def ek (L:List Nd):List Int->List Int->List Int->List Nd->List Int
 |acc,_,_,[]=>acc
 |acc,ss,ks,x::l=>
  if x.k=1 then ek L (acc++[x.n]) ss ks l else if x.k=3 then ek L (acc++[ss.headD 0]) ss.tail ks l
  else if x.k=2 then ek L (acc++[ks.headD 0]) ss ks.tail l else ek L (acc++[jS L acc x]) ss ks l
def InW (L:List Nd) (acc:List Int):Prop:=∀j:Nat,j<acc.length->0<=acc.getD j 0/\acc.getD j 0<((2^(wAt L j).toNat:Nat):Int)
structure VGood (L:List Nd) (i:Nat) (acc ss ks:List Int):Prop where
 len:acc.length=i
 inw:InW L acc
 sl:ss.length=(cV 3 i (L.drop i)).length
 sw:cY L (cV 3 i (L.drop i)) ss=0
 kl:ks.length=(cV 2 i (L.drop i)).length
 kw:cY L (cV 2 i (L.drop i)) ks=0
theorem ov {L:List Nd} {a:Int} {ns vs:List Int} (hl:vs.length=(a::ns).length) (h:cY L (a::ns) vs=0) :
  ∃v vs',vs=v::vs'/\0<=v/\v<((2^(wAt L a).toNat:Nat):Int)/\vs'.length=ns.length/\cY L ns vs'=0:=by
 cases vs with
 |nil=>simp at hl
 | cons v vs'=>
  rw[cY] at h;split at h
  ·rename_i hc
   exact⟨v,vs',rfl,hc.1,hc.2,by simpa using hl,h⟩
  ·cases h
theorem ox {L:List Nd} {i:Nat} {x:Nd} (hx:L[i]?=some x):wAt L (i:Int)=x.w:=by unfold wAt;rw[aM,Int.toNat_natCast,hx];rfl
theorem InW.push {L:List Nd} {acc:List Int} {i:Nat} {x:Nd} {v:Int} (h:InW L acc) (hi:acc.length=i) (hx:L[i]?=some x) (h0:0<=v) (h1:v<((2^x.w.toNat:Nat):Int)):InW L (acc++[v]):=by
 intro j hj;rw[aV,List.length_singleton] at hj;by_cases he:j<acc.length
 ·have e:(acc++[v]).getD j 0=acc.getD j 0:=by simp[aM,aJ he]
  rw[e];exact h j he
 ·have ej:j=i:=by omega
  subst ej;have e:(acc++[v]).getD j 0=v:=by simp[aM,<-hi]
  rw[e,ox hx];exact⟨h0,h1⟩
section
variable {L:List Nd} {i:Nat} {acc ss ks:List Int} {x:Nd}
theorem VGood.other (h:VGood L i acc ss ks) (hx:L[i]?=some x) (h3:x.k≠3) (h2:x.k≠2) {v:Int} (v0:0<=v) (v1:v<((2^x.w.toNat:Nat):Int)):VGood L (i+1) (acc++[v]) ss ks:=by obtain⟨hlt,rfl⟩:=aD.1 hx;obtain⟨e1,e2,e3,e4,e5,e6⟩:=h;rw[aL hlt,cV,if_neg h3] at e3 e4;rw[aL hlt,cV,if_neg h2] at e5 e6;exact⟨by simp[e1],e2.push e1 hx v0 v1,e3,e4,e5,e6⟩
theorem VGood.state (h:VGood L i acc ss ks) (hx:L[i]?=some x) (h3:x.k=3):∃v ss',ss=v::ss'/\VGood L (i+1) (acc++[v]) ss' ks:=by obtain⟨hlt,rfl⟩:=aD.1 hx;obtain⟨e1,e2,e3,e4,e5,e6⟩:=h;rw[aL hlt,cV,if_pos h3] at e3 e4;rw[aL hlt,cV,if_neg (by omega)] at e5 e6;obtain⟨v,ss',rfl,v0,v1,hl,hw⟩:=ov e3 e4;rw[ox hx] at v1;exact⟨v,ss',rfl,by simp[e1],e2.push e1 hx v0 v1,hl,hw,e5,e6⟩
theorem VGood.input (h:VGood L i acc ss ks) (hx:L[i]?=some x) (h2:x.k=2):∃v ks',ks=v::ks'/\VGood L (i+1) (acc++[v]) ss ks':=by obtain⟨hlt,rfl⟩:=aD.1 hx;obtain⟨e1,e2,e3,e4,e5,e6⟩:=h;rw[aL hlt,cV,if_neg (by omega)] at e3 e4;rw[aL hlt,cV,if_pos h2] at e5 e6;obtain⟨v,ks',rfl,v0,v1,hl,hw⟩:=ov e5 e6;rw[ox hx] at v1;exact⟨v,ks',rfl,by simp[e1],e2.push e1 hx v0 v1,e3,e4,hl,hw⟩
structure mf (L:List Nd) (i:Nat) (x:Nd):Prop where
 fit:fo x.k x.w x.n (wdJ L x.k 0 x.a) (wdJ L x.k 1 x.b) (wdJ L x.k 2 x.c)=0
 a:0<=x.a/\x.a<i
 b:0<=x.b/\x.b<i
 c:0<=x.c/\x.c<i
 inn:kI L x
theorem oy (hx:L[i]?=some x) (hn:dv L i x=0) (hk:¬x.k<=3):mf L i x:=by
 unfold dv at hn;split at hn
 ·omega
 split at hn
 ·omega
 split at hn
 ·omega
 rename_i hb;have hi:i<=L.length:=Nat.le_of_lt (aD.1 hx).1;have hin:=nP hi hb;have hk':=(kF hn).1;have ht:=lU hk';unfold fp dK at hb;simp only[not_or] at hb;obtain⟨b0,b1,b2⟩:=hb;rw[if_pos ht] at b0;refine⟨hn,by omega,?_,?_,hin⟩
 ·split at b1<;>omega
 ·split at b2<;>omega
theorem oz (hn:dv L i x=0) (hk:x.k=1):0<=x.n/\x.n<((2^x.w.toNat:Nat):Int):=by
 unfold dv at hn;split at hn
 ·omega
 split at hn
 ·omega
 rw[if_pos (by omega)] at hn;split at hn
 ·omega
 rename_i h;exact aU λh2=>h ⟨hk,h2⟩
theorem Cf {k w a b c n w0 w1:Int} (hw:1<=w/\w<=8):0<=ia k w a b c n w0 w1/\ia k w a b c n w0 w1<((2^w.toNat:Nat):Int):=by obtain⟨W,rfl⟩:=gQ (show 0<=w by omega);rw[tq k a b c n w0 w1 (by omega),Int.toNat_natCast];have:(0:Int)<((2^W:Nat):Int):=Int.natCast_pos.2 (Nat.two_pow_pos W);exact⟨Int.emod_nonneg _ (by omega),Int.emod_lt_of_pos _ this⟩
theorem VGood.op (h:VGood L i acc ss ks) (hx:L[i]?=some x) (h3:x.k≠3) (h2:x.k≠2) (ho:mf L i x):VGood L (i+1) (acc++[jS L acc x]) ss ks:=
 have hw:=Cf (k:=x.k) (a:=acc.getD x.a.toNat 0) (b:=acc.getD x.b.toNat 0) (c:=acc.getD x.c.toNat 0) (n:=x.n) (w0:=wdJ L x.k 0 x.a) (w1:=wdJ L x.k 1 x.b) (kF ho.fit).2.1
 h.other hx h3 h2 hw.1 hw.2
theorem mg (h:VGood L i acc ss ks) {a:Int} (ha:0<=a/\a<i):0<=acc.getD a.toNat 0/\acc.getD a.toNat 0<((2^(wAt L a).toNat:Nat):Int):=by
 have:=h.inw a.toNat (by rw[h.len];omega)
 rwa [show ((a.toNat:Nat):Int)=a by omega] at this
theorem Cg {k width a b c n w0 w1 w2:Int} (he:fo k width n w0 w1 w2=0) (h0:0<=a/\a<((2^w0.toNat:Nat):Int)) (hb:0<=b) (h1:1<a9 k->b<((2^w1.toNat:Nat):Int)) (hc:0<=c) (h2:2<a9 k->c<((2^w2.toNat:Nat):Int)) (gh:List GObj) :
  ac pg 28 [I k,I width,I a,I b,I c,I n,.agg [I w0,I w1,I w2]] gh=some (I (ia k width a b c n w0 w1),gh):=by
 obtain⟨hk,hw,g0,g1,g2,s,hs,hf⟩:=kF he;have ht:=lU hk;unfold wOk at g0 g1 g2;rw[if_pos ht] at g0;have hn:0<=n:=by
  unfold dp at hf;by_cases h6:s=6
  ·simp[h6] at hf;omega
  ·by_cases hn:n=0
   ·omega
   ·simp[h6,hn] at hf
 have hw1:0<=w1:=by split at g1<;>omega
 have hw2:0<=w2:=by split at g2<;>omega
 obtain⟨W,rfl⟩:=gQ (show 0<=width by omega);obtain⟨A,rfl⟩:=gQ h0.1;obtain⟨B,rfl⟩:=gQ hb;obtain⟨C,rfl⟩:=gQ hc;obtain⟨N,rfl⟩:=gQ hn;obtain⟨W0,rfl⟩:=gQ (show 0<=w0 by omega);obtain⟨W1,rfl⟩:=gQ hw1;obtain⟨W2,rfl⟩:=gQ hw2;rw[Int.toNat_natCast] at h0 h1 h2;have hd:=B8 (gh:=gh) (A:=A) (B:=B) (C:=C) hk hs hf (by omega) (by omega) (λh=>by rw[if_pos h] at g1;omega) (by omega) (λh=>by have:=h1 h;omega) (λh=>by have:=h2 h;omega);refine ao (fn:=q76) rfl rfl (qc_ hd) ?r1;simp[ak,results,q76,am,aq,ai]
theorem Ch (h:VGood L i acc ss ks) (ho:mf L i x) (gh:List GObj) :
  ac pg 28 [I x.k,I x.w,I (acc.getD x.a.toNat 0),I (acc.getD x.b.toNat 0),I (acc.getD x.c.toNat 0),I x.n,gK L x] gh=some (I (jS L acc x),gh):=by
 have ht:=lU (kF ho.fit).1;have va:=mg h ho.a;have vb:=mg h ho.b;have vc:=mg h ho.c;refine Cg ho.fit ⟨va.1,?_⟩ vb.1 (λh1=>?_) vc.1 (λh2=>?_) gh
 ·rw[show wdJ L x.k 0 x.a=wAt L x.a from if_pos ht];exact va.2
 ·rw[show wdJ L x.k 1 x.b=wAt L x.b from if_pos h1];exact vb.2
 ·rw[show wdJ L x.k 2 x.c=wAt L x.c from if_pos h2];exact vc.2
theorem Ci (h:VGood L i acc ss ks) (ho:mf L i x) (gh:List GObj) :
  ac pg 66 [I x.k,I x.w,I (acc.getD x.a.toNat 0),I (acc.getD x.b.toNat 0),I (acc.getD x.c.toNat 0),I x.n,gK L x] gh=some (I (jS L acc x),gh):=by
 obtain⟨hk,hw,g0,g1,g2,s,hs,hf⟩:=kF ho.fit;have ht:=lU hk;unfold wOk at g0 g1 g2;rw[if_pos ht] at g0;refine Aw _ _ _ _ _ _ _ _ _ hk (mg h ho.b).1 (λh21=>?_) g0 (λh1=>?_) (by omega) gh
 ·unfold dp at hf
  by_cases h6:s=6
  ·simp[h6] at hf;omega
  ·by_cases hn:x.n=0
   ·omega
   ·simp[h6,hn] at hf
 ·have:1<a9 x.k:=by rcases h1 with h|h<;>rw[h]<;>decide
  rwa [if_pos this] at g1
theorem kQ {m:Md} {ss ks:List Int} (hs:cy m.nodes (ah m.nodes 3) ss=0) (hk:cy m.nodes (ah m.nodes 2) ks=0):VGood m.nodes 0 [] ss ks:=by
 unfold cy at hs hk;split at hs
 ·cases hs
 split at hk
 ·cases hk
 exact⟨rfl,λj hj=>by simp at hj,by rw[bK];rename_i h _;exact aU h,by rw[bK];exact hs,by rw[bK];rename_i _ h;exact aU h,by rw[bK];exact hk⟩
theorem tv:∀{l:List Nd} {acc ss ks:List Int},(ek L acc ss ks l).length=acc.length+l.length
 |[],_,_,_=>rfl
 |x::l,acc,ss,ks=>by
  rw[ek]
  repeat' split
  all_goals rw[tv];simp;omega
theorem kS (hz:∀(j:Nat) (x:Nd),L[j]?=some x->dv L j x=0):∀k i acc ss ks,i+k=L.length->VGood L i acc ss ks->InW L (ek L acc ss ks (L.drop i))
 |0,i,acc,ss,ks,h,hg=>by rw[aQ (by omega)];exact hg.inw
 | k +1,i,acc,ss,ks,h,hg=>by
  have hlt:i<L.length:=by omega
  have hx:L[i]?=some L[i]:=aA hlt;have hn:=hz i _ hx;rw[aL hlt,ek];split
  ·rename_i h1
   have:=oz hn h1;exact kS hz k (i+1) _ _ _ (by omega) (hg.other hx (by omega) (by omega) this.1 this.2)
  ·split
   ·rename_i h3
    obtain⟨v,ss',rfl,hg'⟩:=hg.state hx h3;exact kS hz k (i+1) _ _ _ (by omega) hg'
   ·split
    ·rename_i h2
     obtain⟨v,ks',rfl,hg'⟩:=hg.input hx h2;exact kS hz k (i+1) _ _ _ (by omega) hg'
    ·rename_i h1 h3 h2
     have hk:¬L[i].k<=3:=by
      intro hle;unfold dv at hn;split at hn
      ·omega
      ·omega
     exact kS hz k (i+1) _ _ _ (by omega) (hg.op hx h3 h2 (oy hx hn hk))
end
def bp (N:Nat) (acc:List Int):List Int:=acc++List.replicate (N-acc.length) 0
theorem jT {N:Nat} {acc:List Int} (h:acc.length<=N):(bp N acc).length=N:=by simp[bp];omega
theorem jU {N:Nat} {acc:List Int} {a:Nat} (h:a<acc.length):(bp N acc)[a]?=some (acc.getD a 0):=by unfold bp;rw[aJ h,aM,aA h];rfl
theorem tw {N:Nat} {acc:List Int} {v:Int} (h:acc.length<N):(bp N acc).set acc.length v=bp N (acc++[v]):=by
 unfold bp;rw[List.set_append_right _ _ (cM _),Nat.sub_self,aV,List.length_singleton];obtain⟨k,hk⟩:∃k,N-acc.length=k+1:=⟨N-acc.length-1,by omega⟩
 rw[hk,show N-(acc.length+1)=k by omega,List.replicate_succ,List.set_cons_zero];simp
theorem tx {N:Nat} {acc:List Int} (h:acc.length=N):bp N acc=acc:=by simp[bp,h]
theorem oH {l:List PV} {i:Nat} {v:PV} (h:i<l.length):ax l i [v]=l.set i v:=by unfold ax;rw[List.set_eq_take_append_cons_drop,if_pos h];simp
def dS (gh:List GObj) (o:List Int):List GObj:=gh++[.cells (o.map I),.cells [.bs true gh.length 0 o.length 1]]
section
variable {m:Md} {gh:List GObj}
theorem tz (o:List Int):(dS gh o)[gh.length]?=some (.cells (o.map I)):=by simp[dS]
theorem tA (o:List Int):(dS gh o)[gh.length+1]?=some (.cells [.bs true gh.length 0 o.length 1]):=by simp[dS]
theorem Cj {o o2:List Int} (h:o2.length=o.length):(dS gh o).set gh.length (.cells (o2.map I))=dS gh o2:=by simp[dS,h]
theorem oI {G:List GObj} {b:Nat} {o:List Int} {a:Int} {v:Int} (h1:G[b+1]?=some (.cells [.bs true b 0 o.length 1])) (h0:G[b]?=some (.cells (o.map I))) (ha:0<=a/\a.toNat<o.length) (hv:o[a.toNat]?=some v) :
  ac pg 143 [I a,.ptr true (b+1) 0] G=some (I v,G):=by
 have hg:(o.map I)[a.toNat]?=some (I v):=by simp[hv]
 have hl:(o.map I).length=o.length:=by simp
 have hlt:a<(o.length:Int):=by omega
 obtain⟨e0,e1⟩:=ha;generalize o.map I=O at *;generalize o.length=n at *;refine ao (fn:=q5k) (s:=⟨[(3,I v)],[],G⟩) rfl rfl (qim ?h1) ?r1
 case h1=>simp[h1,h0,hg,e0,e1,hlt]
 case r1=>simp[ak,results,q5k,am,aq,ai]
def oJ (m:Md) (ss ks o:List Int) (i:Nat) (gh:List GObj):St:=
 ⟨[(1,LI ss),(2,LI ks),(3,.ptr false 0 0),(7,.ptr true (gh.length+1) 0),(8,.fn 143 [.ptr true (gh.length+1) 0]),(17,LN m.nodes),(18,I m.nodes.length),(19,I (i:Int))],[[LN m.nodes,LP m.inits,LP m.nexts,LI m.bads,LI m.holds]],dS gh o⟩
theorem mh {ss ks:List PV} {i:Nat} (hi:i<=1000) {G:List GObj} {b:Nat}:ab pg q17 ⟨[(1,.sl false 1 ss),(2,.sl false 1 ks),(3,.ptr false 0 0),(7,.ptr true (b+1) 0),(8,.fn 143 [.ptr true (b+1) 0]),(17,LN m.nodes),(18,I m.nodes.length),(19,I (i:Int))],[[LN m.nodes,LP m.inits,LP m.nexts,LI m.bads,LI m.holds]],G⟩=
  some (.normal,⟨[(1,.sl false 1 ss),(2,.sl false 1 ks),(3,.ptr false 0 0),(7,.ptr true (b+1) 0),(8,.fn 143 [.ptr true (b+1) 0]),(17,LN m.nodes),(18,I m.nodes.length),(19,I ((i+1:Nat):Int))],[[LN m.nodes,LP m.inits,LP m.nexts,LI m.bads,LI m.holds]],G⟩):=by
 have e2:WI.wrap ((i:Int)+1)=((i+1:Nat):Int):=by rw[ay (by omega) (by omega)];omega
 refine qii ?_;simp[e2]
theorem mi {R:Type} {l:List Nd} {i:Nat} {e:PV} (hx:(l.map bn)[i]?=some e) (f:PV->Option R):idX 6 none (degr (LN l)) (i:Int) f=f (.ep e 0):=by simp[hx,-List.getElem?_map]
theorem iM {R:Type} {a b c d e f:PV} (L:List (List PV)) (G:List GObj) (k:PV->Option R):ldX L G true 6 (degr (.ep (.agg [a,b,c,d,e,f]) 0)) k=k (.agg [a,b,c,d,e,f]):=by simp
theorem Ck {b i ol:Nat} {G G2:List GObj} {O S K:List PV} {v:Int} {x:Nd} (hltI:(i:Int)<(m.nodes.length:Int)) (hi:i<=1000) (hx:(m.nodes.map bn)[i]?=some (.agg [I x.k,I x.w,I x.a,I x.b,I x.c,I x.n])) (hG1:G[b+1]?=some (.cells [.bs true b 0 ol 1])) (hG0:G[b]?=some (.cells O)) (hoi:i<ol) (hml:O.length=ol) (hset:G.set b (.cells (ax O i [I v]))=G2) (hv:v=x.n) (d1:decide (x.k=1)=true) :
  qm pg (.sl false 1 (S)) (.sl false 1 (K)) (b+1) 0 (.fn 143 [.ptr true (b+1) 0]) (LN m.nodes) m.nodes.length i (LN m.nodes) (LP m.inits) (LP m.nexts) (LI m.bads) (LI m.holds) G=
   some (.normal,⟨[(1,.sl false 1 S),(2,.sl false 1 K),(3,.ptr false 0 0),(7,.ptr true (b+1) 0),(8,.fn 143 [.ptr true (b+1) 0]),(17,LN m.nodes),(18,I m.nodes.length),(19,I ((i+1:Nat):Int))],[[LN m.nodes,LP m.inits,LP m.nexts,LI m.bads,LI m.holds]],G2⟩):=by
 have hil:(i:Int)<(ol:Int):=by omega
 have hoi2:i+1<=ol:=by omega
 have hk1:=mh (m:=m) (ss:=S) (ks:=K) hi (G:=G2) (b:=b);subst hv;rw[qm,aG hltI,gH,mi hx,iM,iF];simp[d1,hG1,hG0,hil,hoi2,hml,hset,hk1,-List.getElem?_map]
theorem Cl {b i ol:Nat} {G G2:List GObj} {O S K:List PV} {v:Int} {x:Nd} (hltI:(i:Int)<(m.nodes.length:Int)) (hi:i<=1000) (hx:(m.nodes.map bn)[i]?=some (.agg [I x.k,I x.w,I x.a,I x.b,I x.c,I x.n])) (hG1:G[b+1]?=some (.cells [.bs true b 0 ol 1])) (hG0:G[b]?=some (.cells O)) (hoi:i<ol) (hml:O.length=ol) (hset:G.set b (.cells (ax O i [I v]))=G2) (d1:decide (x.k=1)=false) (d3:decide (x.k=3)=true) :
  qm pg (.sl false 1 (I v::S)) (.sl false 1 (K)) (b+1) 0 (.fn 143 [.ptr true (b+1) 0]) (LN m.nodes) m.nodes.length i (LN m.nodes) (LP m.inits) (LP m.nexts) (LI m.bads) (LI m.holds) G=
   some (.normal,⟨[(1,.sl false 1 S),(2,.sl false 1 K),(3,.ptr false 0 0),(7,.ptr true (b+1) 0),(8,.fn 143 [.ptr true (b+1) 0]),(17,LN m.nodes),(18,I m.nodes.length),(19,I ((i+1:Nat):Int))],[[LN m.nodes,LP m.inits,LP m.nexts,LI m.bads,LI m.holds]],G2⟩):=by
 have hil:(i:Int)<(ol:Int):=by omega
 have hoi2:i+1<=ol:=by omega
 have hk1:=mh (m:=m) (ss:=S) (ks:=K) hi (G:=G2) (b:=b);rw[qm,aG hltI,gH,mi hx,iM,iF];simp[d1,d3,hG1,hG0,hil,hoi2,hml,hset,hk1,-List.getElem?_map]
theorem Cm {b i ol:Nat} {G G2:List GObj} {O S K:List PV} {v:Int} {x:Nd} (hltI:(i:Int)<(m.nodes.length:Int)) (hi:i<=1000) (hx:(m.nodes.map bn)[i]?=some (.agg [I x.k,I x.w,I x.a,I x.b,I x.c,I x.n])) (hG1:G[b+1]?=some (.cells [.bs true b 0 ol 1])) (hG0:G[b]?=some (.cells O)) (hoi:i<ol) (hml:O.length=ol) (hset:G.set b (.cells (ax O i [I v]))=G2) (d1:decide (x.k=1)=false) (d3:decide (x.k=3)=false) (d2:decide (x.k=2)=true) :
  qm pg (.sl false 1 (S)) (.sl false 1 (I v::K)) (b+1) 0 (.fn 143 [.ptr true (b+1) 0]) (LN m.nodes) m.nodes.length i (LN m.nodes) (LP m.inits) (LP m.nexts) (LI m.bads) (LI m.holds) G=
   some (.normal,⟨[(1,.sl false 1 S),(2,.sl false 1 K),(3,.ptr false 0 0),(7,.ptr true (b+1) 0),(8,.fn 143 [.ptr true (b+1) 0]),(17,LN m.nodes),(18,I m.nodes.length),(19,I ((i+1:Nat):Int))],[[LN m.nodes,LP m.inits,LP m.nexts,LI m.bads,LI m.holds]],G2⟩):=by
 have hil:(i:Int)<(ol:Int):=by omega
 have hoi2:i+1<=ol:=by omega
 have hk1:=mh (m:=m) (ss:=S) (ks:=K) hi (G:=G2) (b:=b);rw[qm,aG hltI,gH,mi hx,iM,iF];simp[d1,d2,d3,hG1,hG0,hil,hoi2,hml,hset,hk1,-List.getElem?_map]
theorem Cn {b i ol:Nat} {G G2:List GObj} {O S K:List PV} {v:Int} {x:Nd} (hltI:(i:Int)<(m.nodes.length:Int)) (hi:i<=1000) (hx:(m.nodes.map bn)[i]?=some (.agg [I x.k,I x.w,I x.a,I x.b,I x.c,I x.n])) (hG1:G[b+1]?=some (.cells [.bs true b 0 ol 1])) (hG0:G[b]?=some (.cells O)) (hoi:i<ol) (hml:O.length=ol) (hset:G.set b (.cells (ax O i [I v]))=G2) {ya yb yc w0 w1 w2:Int} (d1:decide (x.k=1)=false) (d3:decide (x.k=3)=false) (d2:decide (x.k=2)=false)
  (ca:ac pg 143 [I x.a,.ptr true (b+1) 0] G=some (I ya,G)) (cb:ac pg 143 [I x.b,.ptr true (b+1) 0] G=some (I yb,G)) (cc:ac pg 143 [I x.c,.ptr true (b+1) 0] G=some (I yc,G))
  (hW:ac pg 104 [LN m.nodes,.agg [I x.k,I x.w,I x.a,I x.b,I x.c,I x.n]] G=some (.agg [I w0,I w1,I w2],G)) (hR:ac pg 66 [I x.k,I x.w,I ya,I yb,I yc,I x.n,.agg [I w0,I w1,I w2]] G=some (I v,G)) :
  qm pg (.sl false 1 (S)) (.sl false 1 (K)) (b+1) 0 (.fn 143 [.ptr true (b+1) 0]) (LN m.nodes) m.nodes.length i (LN m.nodes) (LP m.inits) (LP m.nexts) (LI m.bads) (LI m.holds) G=
   some (.normal,⟨[(1,.sl false 1 S),(2,.sl false 1 K),(3,.ptr false 0 0),(7,.ptr true (b+1) 0),(8,.fn 143 [.ptr true (b+1) 0]),(17,LN m.nodes),(18,I m.nodes.length),(19,I ((i+1:Nat):Int))],[[LN m.nodes,LP m.inits,LP m.nexts,LI m.bads,LI m.holds]],G2⟩):=by
 have hil:(i:Int)<(ol:Int):=by omega
 have hoi2:i+1<=ol:=by omega
 have hk1:=mh (m:=m) (ss:=S) (ks:=K) hi (G:=G2) (b:=b);rw[qm,aG hltI,gH,mi hx,iM,iF];simp[d1,d2,d3,hG1,hG0,ca,cb,cc,hW,hR,hil,hoi2,hml,hset,hk1,-List.getElem?_map]
theorem Co (hl:m.nodes.length<=80) (hz:∀(j:Nat) (x:Nd),m.nodes[j]?=some x->dv m.nodes j x=0) {i:Nat} {acc ss ks:List Int} (hlt:i<m.nodes.length) (hg:VGood m.nodes i acc ss ks) :
  ∃ v ss' ks',VGood m.nodes (i+1) (acc++[v]) ss' ks'/\ek m.nodes acc ss ks (m.nodes.drop i)=ek m.nodes (acc++[v]) ss' ks' (m.nodes.drop (i+1))/\
   qm pg (LI ss) (LI ks) (gh.length+1) 0 (.fn 143 [.ptr true (gh.length+1) 0]) (LN m.nodes) m.nodes.length i (LN m.nodes) (LP m.inits) (LP m.nexts) (LI m.bads) (LI m.holds) (dS gh (bp m.nodes.length acc))=
    some (.normal,oJ m ss' ks' (bp m.nodes.length (acc++[v])) (i+1) gh):=by
 have hltI:(i:Int)<(m.nodes.length:Int):=by omega
 have hx0:m.nodes[i]?=some m.nodes[i]:=aA hlt;have hx:(m.nodes.map bn)[i]?=some (bn m.nodes[i]):=by simp[hx0]
 have hn:=hz i _ hx0;have hlen:=hg.len;rw[aL hlt,ek];generalize m.nodes[i]=x at *;rw[cU x] at hx;have hol:(bp m.nodes.length acc).length=m.nodes.length:=jT (by omega);have hoi:i<(bp m.nodes.length acc).length:=by omega
 have hG0:=tz (gh:=gh) (bp m.nodes.length acc);have hG1:=tA (gh:=gh) (bp m.nodes.length acc);have hset:∀v:Int,(dS gh (bp m.nodes.length acc)).set gh.length (.cells (ax ((bp m.nodes.length acc).map I) i [I v]))=dS gh (bp m.nodes.length (acc++[v])):=λv=>by
  have e:((bp m.nodes.length acc).map I).set i (I v)=((bp m.nodes.length acc).set i v).map I:=by rw[List.map_set]
  have hlv:(bp m.nodes.length (acc++[v])).length=(bp m.nodes.length acc).length:=by rw[jT (by simp;omega),hol]
  rw[oH (by simpa using hoi),e,<-hlen,tw (by omega),Cj hlv]
 have hml:((bp m.nodes.length acc).map I).length=(bp m.nodes.length acc).length:=by simp
 by_cases h1:x.k=1
 ·rw[if_pos h1]
  have hc:=oz hn h1;exact⟨_,_,_,hg.other hx0 (by omega) (by omega) hc.1 hc.2,rfl,Ck hltI (by omega) hx hG1 hG0 hoi hml (hset x.n) rfl (aG h1)⟩
 ·rw [if_neg h1]
  by_cases h3:x.k=3
  ·rw[if_pos h3]
   obtain⟨v,ss',rfl,hg'⟩:=hg.state hx0 h3;exact⟨_,_,_,hg',rfl,Cl hltI (by omega) hx hG1 hG0 hoi hml (hset v) (aF h1) (aG h3)⟩
  ·rw[if_neg h3]
   by_cases h2:x.k=2
   ·rw[if_pos h2]
    obtain⟨v,ks',rfl,hg'⟩:=hg.input hx0 h2;exact⟨_,_,_,hg',rfl,Cm hltI (by omega) hx hG1 hG0 hoi hml (hset v) (aF h1) (aF h3) (aG h2)⟩
   ·rw[if_neg h2]
    have hk:¬x.k<=3:=by
     intro hle;unfold dv at hn;split at hn
     ·omega
     ·omega
    have ho:=oy hx0 hn hk;have hW:=sP (gh:=dS gh (bp m.nodes.length acc)) ho.inn;have hR:=Ci hg ho (dS gh (bp m.nodes.length acc));have ca:=oI hG1 hG0 ⟨ho.a.1,by have:=ho.a;omega⟩ (jU (by have:=ho.a;omega));have cb:=oI hG1 hG0 ⟨ho.b.1,by have:=ho.b;omega⟩ (jU (by have:=ho.b;omega));have cc:=oI hG1 hG0 ⟨ho.c.1,by have:=ho.c;omega⟩ (jU (by have:=ho.c;omega));rw[cU] at hW;unfold gK at hW hR;exact⟨_,_,_,hg.op hx0 h3 h2 ho,rfl,Cn hltI (by omega) hx hG1 hG0 hoi hml (hset (jS m.nodes acc x)) (aF h1) (aF h3) (aF h2) ca cb cc hW hR⟩
theorem tC (hl:m.nodes.length<=80) (hz:∀(j:Nat) (x:Nd),m.nodes[j]?=some x->dv m.nodes j x=0):∀k i acc ss ks,i+k=m.nodes.length->VGood m.nodes i acc ss ks->
  ab pg q3r (oJ m ss ks (bp m.nodes.length acc) i gh)=some (.normal,⟨[(7,.ptr true (gh.length+1) 0)],[],dS gh (ek m.nodes acc ss ks (m.nodes.drop i))⟩)
 |0,i,acc,ss,ks,h,hg=>by
  rw[aQ (by omega),ek,tx (by rw[hg.len];omega)];have hlt:¬(i:Int)<(m.nodes.length:Int):=by omega
  refine (bj (s1:=?s1) (qm_ ?h1)).trans ?r1
  case h1=>simp only[qm,aF hlt,dJ];rfl
  case r1=>simp[keep,bf]
 |k+1,i,acc,ss,ks,h,hg=>by obtain⟨v,ss',ks',h1,h2,h3⟩:=Co (gh:=gh) hl hz (show i<m.nodes.length by omega) hg;rw[h2];exact ba (qm_ h3) (tC hl hz k (i+1) _ _ _ (by omega) h1)
def ch (m:Md) (ss ks:List Int):List Int:=ek m.nodes [] ss ks m.nodes
theorem oO (n:Nat):List.flatMap PV.cells (List.replicate n (PV.int .i64 0))=(bp n []).map I:=by
 unfold bp;rw[bH,bZ,Nat.sub_zero,List.map_replicate]
 induction n with
 |zero=>rfl
 |succ n ih=>rw[List.replicate_succ,cK,ih];rfl
theorem jV {ss ks:List Int}:(ch m ss ks).length=m.nodes.length:=by unfold ch;rw[tv];simp
theorem Cp (xs:List Int):frz gh.length (dS gh xs) (.bs true gh.length 0 xs.length 1)=LI xs:=by
 rw[sy (tz xs) (cM _) (by simp)];have e:∀l:List Int,(l.map I).map aa=l.map I:=λl=>by rw[List.map_map];rfl
 have e2:(((xs.map I).drop 0).take xs.length)=xs.map I:=by rw[bK];exact bM (by simp)
 rw[e2,e]
theorem tD {ss ks:List Int} (h:aw m=0) (hg:VGood m.nodes 0 [] ss ks):ac pg 139 [dc m,LI ss,LI ks] gh=some (LI (ch m ss ks),gh):=by
 have hl:=(ei h).len;have hlp:=tC (gh:=gh) hl (λj x hx=>ou h hx) m.nodes.length 0 [] ss ks (by omega) hg;rw[bK] at hlp;change ab pg q3r _=some (_,⟨_,_,dS gh (ch m ss ks)⟩) at hlp;have hvl:=jV (m:=m) (ss:=ss) (ks:=ks);have hfz:=Cp (gh:=gh) (ch m ss ks);have hn:=eO (ch m ss ks);have ht:(dS gh (ch m ss ks)).take gh.length=gh:=by simp[dS]
 have g1:=tA (gh:=gh) (ch m ss ks);have k2:ab pg q3s ⟨[(7,.ptr true (gh.length+1) 0)],[],dS gh (ch m ss ks)⟩=some (.ret,⟨[(6,.bs true gh.length 0 (ch m ss ks).length 1)],[],dS gh (ch m ss ks)⟩):=by refine qij ?_;simp[g1]
 generalize ch m ss ks=V at *;have hmx:decide ((m.nodes.length:Int)*8<=(maxBytes:Int))=true:=aG (by have:=MB;omega);have hz:=oO m.nodes.length;have hol:(bp m.nodes.length []).length=m.nodes.length:=jT (by simp);unfold oJ dS at hlp;rw[hol] at hlp;simp only[aW] at hlp;rw[bv];refine ao (fn:=q5f) (s:=⟨[(6,.bs true gh.length 0 V.length 1)],[],dS gh V⟩) rfl rfl (qik ?h1) ?r1
 case h1=>
  unfold dS at k2 ⊢;generalize (bp m.nodes.length []).map I=Z at *;simp[eN,hmx,hz,ax,hlp,k2]
 case r1=>simp[ak,results,q5f,am,aq,ai,hfz,ht,hn]
theorem wrS (n:Nat) (h:n<=1000):WI.wrap ((n:Int)+1)=((n+1:Nat):Int):=by rw[ay (by omega) (by omega)];omega
theorem mj {R:Type} {l:List Nd} (f:Nat->Option R):isC (degr (LN l)) (az (degr (degr (LN l))) f)=f l.length:=by simp
theorem ml {R:Type} {l:List Nd} (x:Option R):isC (degr (LN l)) x=x:=by simp
theorem mm {R:Type} {l:List Nd} {i:Nat} {e:PV} (hx:(l.map bn)[i]?=some e) (f:PV->Option R):idX 6 none (degr (degr (LN l))) (i:Int) f=f (.ep e 0):=by simp[hx,-List.getElem?_map]
theorem Cq {b i s k ol:Nat} {G G2:List GObj} {O S K:List PV} {v:Int} {x:Nd} (hltI:(i:Int)<(m.nodes.length:Int)) (hi:i<=1000) (hs:s<=1000) (hk:k<=1000) (hx:(m.nodes.map bn)[i]?=some (.agg [I x.k,I x.w,I x.a,I x.b,I x.c,I x.n])) (hG0:G[b]?=some (.cells O)) (hoi:i<ol) (hml:O.length=ol) (hset:G.set b (.cells (ax O i [I v]))=G2) (hv:v=x.n) (d1:decide (x.k=1)=true) :
  qn pg (.sl false 1 S) (.sl false 1 K) (.bs true b 0 ol 1) s k i (LN m.nodes) (LP m.inits) (LP m.nexts) (LI m.bads) (LI m.holds) G=
   some (.normal,⟨[(1,.sl false 1 S),(2,.sl false 1 K),(3,.ptr false 0 0),(7,.bs true b 0 ol 1),(8,I ((s:Nat))),(9,I ((k:Nat))),(10,I (((i+1:Nat):Int)))],[[LN m.nodes,LP m.inits,LP m.nexts,LI m.bads,LI m.holds]],G2⟩):=by
 have hil:(i:Int)<(ol:Int):=by omega
 have hoi2:i+1<=ol:=by omega
 have hk1:ab pg qo ⟨[(1,.sl false 1 S),(2,.sl false 1 K),(3,.ptr false 0 0),(7,.bs true b 0 ol 1),(8,I ((s:Nat))),(9,I ((k:Nat))),(10,I (i))],[[LN m.nodes,LP m.inits,LP m.nexts,LI m.bads,LI m.holds]],G2⟩=some (.normal,⟨[(1,.sl false 1 S),(2,.sl false 1 K),(3,.ptr false 0 0),(7,.bs true b 0 ol 1),(8,I ((s:Nat))),(9,I ((k:Nat))),(10,I (((i+1:Nat):Int)))],[[LN m.nodes,LP m.inits,LP m.nexts,LI m.bads,LI m.holds]],G2⟩):=by refine q56 ?_;simp[wrS _ hi]
 push_cast at hk1
 subst hv;rw[qn,mj];simp only[lR,lS,aG hltI,gH,ml];rw[mm hx,iM,iF];simp[d1,hG0,hil,hoi2,hml,hset,hk1]
theorem Cr {b i s k ol:Nat} {G G2:List GObj} {O S K:List PV} {v:Int} {x:Nd} (hltI:(i:Int)<(m.nodes.length:Int)) (hi:i<=1000) (hs:s<=1000) (hk:k<=1000) (hx:(m.nodes.map bn)[i]?=some (.agg [I x.k,I x.w,I x.a,I x.b,I x.c,I x.n])) (hG0:G[b]?=some (.cells O)) (hoi:i<ol) (hml:O.length=ol) (hset:G.set b (.cells (ax O i [I v]))=G2) (hK:K[k]?=some (I v)) (d1:decide (x.k=1)=false) (d2:decide (x.k=2)=true) :
  qn pg (.sl false 1 S) (.sl false 1 K) (.bs true b 0 ol 1) s k i (LN m.nodes) (LP m.inits) (LP m.nexts) (LI m.bads) (LI m.holds) G=
   some (.normal,⟨[(1,.sl false 1 S),(2,.sl false 1 K),(3,.ptr false 0 0),(7,.bs true b 0 ol 1),(8,I ((s:Nat))),(9,I (((k+1:Nat):Int))),(10,I (((i+1:Nat):Int)))],[[LN m.nodes,LP m.inits,LP m.nexts,LI m.bads,LI m.holds]],G2⟩):=by
 have hil:(i:Int)<(ol:Int):=by omega
 have hoi2:i+1<=ol:=by omega
 have hk1:ab pg qo ⟨[(1,.sl false 1 S),(2,.sl false 1 K),(3,.ptr false 0 0),(7,.bs true b 0 ol 1),(8,I ((s:Nat))),(9,I (((k+1:Nat):Int))),(10,I (i))],[[LN m.nodes,LP m.inits,LP m.nexts,LI m.bads,LI m.holds]],G2⟩=some (.normal,⟨[(1,.sl false 1 S),(2,.sl false 1 K),(3,.ptr false 0 0),(7,.bs true b 0 ol 1),(8,I ((s:Nat))),(9,I (((k+1:Nat):Int))),(10,I (((i+1:Nat):Int)))],[[LN m.nodes,LP m.inits,LP m.nexts,LI m.bads,LI m.holds]],G2⟩):=by refine q56 ?_;simp[wrS _ hi]
 push_cast at hk1
 rw[qn,mj];simp only[lR,lS,aG hltI,gH,ml];rw[mm hx,iM,iF];simp[d1,d2,hK,wrS _ hk,hG0,hil,hoi2,hml,hset,hk1]
theorem Cs {b i s k ol:Nat} {G G2:List GObj} {O S K:List PV} {v:Int} {x:Nd} (hltI:(i:Int)<(m.nodes.length:Int)) (hi:i<=1000) (hs:s<=1000) (hk:k<=1000) (hx:(m.nodes.map bn)[i]?=some (.agg [I x.k,I x.w,I x.a,I x.b,I x.c,I x.n])) (hG0:G[b]?=some (.cells O)) (hoi:i<ol) (hml:O.length=ol) (hset:G.set b (.cells (ax O i [I v]))=G2) (hS:S[s]?=some (I v)) (d1:decide (x.k=1)=false) (d2:decide (x.k=2)=false) (d3:decide (x.k=3)=true) :
  qn pg (.sl false 1 S) (.sl false 1 K) (.bs true b 0 ol 1) s k i (LN m.nodes) (LP m.inits) (LP m.nexts) (LI m.bads) (LI m.holds) G=
   some (.normal,⟨[(1,.sl false 1 S),(2,.sl false 1 K),(3,.ptr false 0 0),(7,.bs true b 0 ol 1),(8,I (((s+1:Nat):Int))),(9,I ((k:Nat))),(10,I (((i+1:Nat):Int)))],[[LN m.nodes,LP m.inits,LP m.nexts,LI m.bads,LI m.holds]],G2⟩):=by
 have hil:(i:Int)<(ol:Int):=by omega
 have hoi2:i+1<=ol:=by omega
 have hk1:ab pg qo ⟨[(1,.sl false 1 S),(2,.sl false 1 K),(3,.ptr false 0 0),(7,.bs true b 0 ol 1),(8,I (((s+1:Nat):Int))),(9,I ((k:Nat))),(10,I (i))],[[LN m.nodes,LP m.inits,LP m.nexts,LI m.bads,LI m.holds]],G2⟩=some (.normal,⟨[(1,.sl false 1 S),(2,.sl false 1 K),(3,.ptr false 0 0),(7,.bs true b 0 ol 1),(8,I (((s+1:Nat):Int))),(9,I ((k:Nat))),(10,I (((i+1:Nat):Int)))],[[LN m.nodes,LP m.inits,LP m.nexts,LI m.bads,LI m.holds]],G2⟩):=by refine q56 ?_;simp[wrS _ hi]
 push_cast at hk1
 rw[qn,mj];simp only[lR,lS,aG hltI,gH,ml];rw[mm hx,iM,iF];simp[d1,d2,d3,hS,wrS _ hs,hG0,hil,hoi2,hml,hset,hk1]
theorem Ct {b i s k ol:Nat} {G G2:List GObj} {O S K:List PV} {v:Int} {x:Nd} (hltI:(i:Int)<(m.nodes.length:Int)) (hi:i<=1000) (hs:s<=1000) (hk:k<=1000) (hx:(m.nodes.map bn)[i]?=some (.agg [I x.k,I x.w,I x.a,I x.b,I x.c,I x.n])) (hG0:G[b]?=some (.cells O)) (hoi:i<ol) (hml:O.length=ol) (hset:G.set b (.cells (ax O i [I v]))=G2) {ya yb yc w0 w1 w2:Int} (d1:decide (x.k=1)=false) (d2:decide (x.k=2)=false) (d3:decide (x.k=3)=false)
  (ha:0<=x.a/\x.a<(ol:Int)) (hb:0<=x.b/\x.b<(ol:Int)) (hc:0<=x.c/\x.c<(ol:Int)) (ga:O[x.a.toNat]?=some (I ya)) (gb:O[x.b.toNat]?=some (I yb)) (gc:O[x.c.toNat]?=some (I yc))
  (hW:ac pg 102 [LN m.nodes,.agg [I x.k,I x.w,I x.a,I x.b,I x.c,I x.n]] G=some (.agg [I w0,I w1,I w2],G)) (hR:ac pg 28 [I x.k,I x.w,I ya,I yb,I yc,I x.n,.agg [I w0,I w1,I w2]] G=some (I v,G)) :
  qn pg (.sl false 1 S) (.sl false 1 K) (.bs true b 0 ol 1) s k i (LN m.nodes) (LP m.inits) (LP m.nexts) (LI m.bads) (LI m.holds) G=
   some (.normal,⟨[(1,.sl false 1 S),(2,.sl false 1 K),(3,.ptr false 0 0),(7,.bs true b 0 ol 1),(8,I ((s:Nat))),(9,I ((k:Nat))),(10,I (((i+1:Nat):Int)))],[[LN m.nodes,LP m.inits,LP m.nexts,LI m.bads,LI m.holds]],G2⟩):=by
 have hil:(i:Int)<(ol:Int):=by omega
 have hoi2:i+1<=ol:=by omega
 have hk1:ab pg qo ⟨[(1,.sl false 1 S),(2,.sl false 1 K),(3,.ptr false 0 0),(7,.bs true b 0 ol 1),(8,I ((s:Nat))),(9,I ((k:Nat))),(10,I (i))],[[LN m.nodes,LP m.inits,LP m.nexts,LI m.bads,LI m.holds]],G2⟩=some (.normal,⟨[(1,.sl false 1 S),(2,.sl false 1 K),(3,.ptr false 0 0),(7,.bs true b 0 ol 1),(8,I ((s:Nat))),(9,I ((k:Nat))),(10,I (((i+1:Nat):Int)))],[[LN m.nodes,LP m.inits,LP m.nexts,LI m.bads,LI m.holds]],G2⟩):=by refine q56 ?_;simp[wrS _ hi]
 push_cast at hk1
 obtain⟨a0,a1⟩:=ha;obtain⟨b0,b1⟩:=hb;obtain⟨c0,c1⟩:=hc;rw[qn,mj];simp only[lR,lS,aG hltI,gH,ml];rw[mm hx,iM,iF];simp[d1,d2,d3,a0,a1,b0,b1,c0,c1,ga,gb,gc,hW,hR,hG0,hil,hoi2,hml,hset,hk1,-getElem?_pos,-getElem?_neg]
def voG (gh:List GObj) (o:List Int):List GObj:=gh++[.cells (o.map I)]
theorem jW (o:List Int):(voG gh o)[gh.length]?=some (.cells (o.map I)):=by simp[voG]
theorem tE {o o2:List Int}:(voG gh o).set gh.length (.cells (o2.map I))=voG gh o2:=by simp[voG]
def mn (m:Md) (ss ks:List Int) (o:List Int) (s k i:Nat) (gh:List GObj):St:=
 ⟨[(1,LI ss),(2,LI ks),(3,.ptr false 0 0),(7,.bs true gh.length 0 o.length 1),(8,I (s:Nat)),(9,I (k:Nat)),(10,I ((i:Nat):Int))],[[LN m.nodes,LP m.inits,LP m.nexts,LI m.bads,LI m.holds]],voG gh o⟩
theorem tF {l:List Int} {s:Nat} {v:Int} {r:List Int} (h:l.drop s=v::r):l[s]?=some v/\r=l.drop (s+1):=by
 have h1:s<l.length:=aU λh2=>by rw[aQ (by omega)] at h;cases h
 rw[aL h1] at h;cases h;exact⟨aA h1,rfl⟩
theorem Cu (hl:m.nodes.length<=80) (hz:∀(j:Nat) (x:Nd),m.nodes[j]?=some x->dv m.nodes j x=0) {i s k:Nat} {acc ss ks:List Int} (hlt:i<m.nodes.length) (hs:s<=i) (hk:k<=i) (hg:VGood m.nodes i acc (ss.drop s) (ks.drop k)) :
  ∃ v s' k',s'<=i+1/\k'<=i+1/\VGood m.nodes (i+1) (acc++[v]) (ss.drop s') (ks.drop k')/\ek m.nodes acc (ss.drop s) (ks.drop k) (m.nodes.drop i)=ek m.nodes (acc++[v]) (ss.drop s') (ks.drop k') (m.nodes.drop (i+1))/\
   qn pg (LI ss) (LI ks) (.bs true gh.length 0 (bp m.nodes.length acc).length 1) s k i (LN m.nodes) (LP m.inits) (LP m.nexts) (LI m.bads) (LI m.holds) (voG gh (bp m.nodes.length acc))=
    some (.normal,mn m ss ks (bp m.nodes.length (acc++[v])) s' k' (i+1) gh):=by
 have hltI:(i:Int)<(m.nodes.length:Int):=by omega
 have hx0:m.nodes[i]?=some m.nodes[i]:=aA hlt;have hx:(m.nodes.map bn)[i]?=some (bn m.nodes[i]):=by simp[hx0]
 have hn:=hz i _ hx0;have hlen:=hg.len;rw[aL hlt,ek];generalize m.nodes[i]=x at *;rw[cU x] at hx;have hol:(bp m.nodes.length acc).length=m.nodes.length:=jT (by omega);have hoi:i<(bp m.nodes.length acc).length:=by omega
 have hG0:=jW (gh:=gh) (bp m.nodes.length acc);have hlv:∀v:Int,(bp m.nodes.length (acc++[v])).length=(bp m.nodes.length acc).length:=λv=>by rw[jT (by simp;omega),hol]
 have hset:∀v:Int,(voG gh (bp m.nodes.length acc)).set gh.length (.cells (ax ((bp m.nodes.length acc).map I) i [I v]))=voG gh (bp m.nodes.length (acc++[v])):=λv=>by
  have e:((bp m.nodes.length acc).map I).set i (I v)=((bp m.nodes.length acc).set i v).map I:=by rw[List.map_set]
  rw[oH (by simpa using hoi),e,<-hlen,tw (by omega),tE]
 have hml:((bp m.nodes.length acc).map I).length=(bp m.nodes.length acc).length:=by simp
 unfold mn;by_cases h1:x.k=1
 ·rw[if_pos h1]
  have hc:=oz hn h1;refine⟨_,s,k,by omega,by omega,hg.other hx0 (by omega) (by omega) hc.1 hc.2,rfl,?_⟩;rw[hlv];exact Cq hltI (by omega) (by omega) (by omega) hx hG0 hoi hml (hset x.n) rfl (aG h1)
 ·rw [if_neg h1]
  by_cases h3:x.k=3
  ·rw[if_pos h3]
   obtain⟨v,ss',e,hg'⟩:=hg.state hx0 h3;obtain⟨e1,e2⟩:=tF e;rw[e,List.headD_cons,List.tail_cons,e2];rw[e2] at hg';refine⟨_,s+1,k,by omega,by omega,hg',rfl,?_⟩;rw[hlv];exact Cs hltI (by omega) (by omega) (by omega) hx hG0 hoi hml (hset v) (by simp[e1]) (aF h1) (aF (by omega)) (aG h3)
  ·rw[if_neg h3]
   by_cases h2:x.k=2
   ·rw[if_pos h2]
    obtain⟨v,ks',e,hg'⟩:=hg.input hx0 h2;obtain⟨e1,e2⟩:=tF e;rw[e,List.headD_cons,List.tail_cons,e2];rw[e2] at hg';refine⟨_,s,k+1,by omega,by omega,hg',rfl,?_⟩;rw[hlv];exact Cr hltI (by omega) (by omega) (by omega) hx hG0 hoi hml (hset v) (by simp[e1]) (aF h1) (aG h2)
   ·rw[if_neg h2]
    have hkk:¬x.k<=3:=by
     intro hle;unfold dv at hn;split at hn
     ·omega
     ·omega
    have ho:=oy hx0 hn hkk;have hW:=sS (gh:=voG gh (bp m.nodes.length acc)) ho.inn;have hR:=Ch hg ho (voG gh (bp m.nodes.length acc));have oa:=ho.a;have ob:=ho.b;have oc:=ho.c;have ca:((bp m.nodes.length acc).map I)[x.a.toNat]?=some (I (acc.getD x.a.toNat 0)):=by rw[aB,jU (by omega)];rfl
    have cb:((bp m.nodes.length acc).map I)[x.b.toNat]?=some (I (acc.getD x.b.toNat 0)):=by rw[aB,jU (by omega)];rfl
    have cc:((bp m.nodes.length acc).map I)[x.c.toNat]?=some (I (acc.getD x.c.toNat 0)):=by rw[aB,jU (by omega)];rfl
    rw[cU] at hW;unfold gK at hW hR;refine⟨_,s,k,by omega,by omega,hg.op hx0 h3 h2 ho,rfl,?_⟩;rw[hlv];exact Ct hltI (by omega) (by omega) (by omega) hx hG0 hoi hml (hset (jS m.nodes acc x)) (aF h1) (aF h2) (aF h3) ⟨oa.1,by omega⟩ ⟨ob.1,by omega⟩ ⟨oc.1,by omega⟩ ca cb cc hW hR
theorem tH (hl:m.nodes.length<=80) (hz:∀(j:Nat) (x:Nd),m.nodes[j]?=some x->dv m.nodes j x=0) {ss ks:List Int}:∀n i s k acc,i+n=m.nodes.length->s<=i->k<=i->VGood m.nodes i acc (ss.drop s) (ks.drop k)->
  ab pg q4c (mn m ss ks (bp m.nodes.length acc) s k i gh)=some (.normal,⟨[(7,.bs true gh.length 0 (ek m.nodes acc (ss.drop s) (ks.drop k) (m.nodes.drop i)).length 1)],[],voG gh (ek m.nodes acc (ss.drop s) (ks.drop k) (m.nodes.drop i))⟩)
 |0,i,s,k,acc,h,_,_,hg=>by
  rw[aQ (show m.nodes.length<=i by omega),ek,tx (by rw[hg.len];omega)];have hlt:¬i<m.nodes.length:=by omega
  refine (bj (s1:=?s1) (qn_ ?h1)).trans ?r1
  case h1=>simp[qn,hlt];rfl
  case r1=>simp[keep,bf]
 |n+1,i,s,k,acc,h,hs,hk,hg=>by obtain⟨v,s',k',h1,h2,h3,h4,h5⟩:=Cu (gh:=gh) hl hz (show i<m.nodes.length by omega) hs hk hg;rw[h4];exact ba (qn_ h5) (tH hl hz n (i+1) s' k' _ (by omega) h1 h2 h3)
theorem tJ (xs:List Int):frz gh.length (voG gh xs) (.bs true gh.length 0 xs.length 1)=LI xs:=by
 rw[sy (jW xs) (cM _) (by simp)];have e:∀l:List Int,(l.map I).map aa=l.map I:=λl=>by rw[List.map_map];rfl
 have e2:(((xs.map I).drop 0).take xs.length)=xs.map I:=by rw[bK];exact bM (by simp)
 rw[e2,e]
theorem tK {ss ks:List Int} (h:aw m=0) (hg:VGood m.nodes 0 [] ss ks):ac pg 132 [dc m,LI ss,LI ks] gh=some (LI (ch m ss ks),gh):=by
 have hl:=(ei h).len;have hlp:=tH (gh:=gh) (ss:=ss) (ks:=ks) hl (λj x hx=>ou h hx) m.nodes.length 0 0 0 [] (by omega) (cM _) (cM _) (by simpa using hg);simp only[bK] at hlp;change ab pg q4c _=some (_,⟨[(_,.bs _ _ _ (ch m ss ks).length _)],_,voG gh (ch m ss ks)⟩) at hlp;have hfz:=tJ (gh:=gh) (ch m ss ks);have hn:=eO (ch m ss ks);have ht:(voG gh (ch m ss ks)).take gh.length=gh:=by simp[voG]
 generalize ch m ss ks=V at *;have k2:=qin (pg:=pg) (gh:=voG gh V) (v7:= .bs true gh.length 0 V.length 1) (e:= .ret) (s:=⟨[(6,.bs true gh.length 0 V.length 1)],[],voG gh V⟩) (by simp);have hmx:decide ((m.nodes.length:Int)*8<=(maxBytes:Int))=true:=aG (by have:=MB;omega);have hz:=oO m.nodes.length;have hol:(bp m.nodes.length []).length=m.nodes.length:=jT (by simp);unfold mn at hlp;rw[hol] at hlp;simp only[aW] at hlp;rw[bv];refine ao (fn:=q7x) (s:=⟨[(6,.bs true gh.length 0 V.length 1)],[],voG gh V⟩) rfl rfl (qio ?h1) ?r1
 case h1=>
  unfold voG at hlp k2 ⊢;generalize (bp m.nodes.length []).map I=Z at *;simp[eN,hmx,hz,hlp,k2]
 case r1=>simp[ak,results,q7x,am,aq,ai,hfz,ht,hn]
end
def dA:List (Int×Int)->Int->Int
 |[],_=> -1
 |p::ps,s=>if p.1=s then p.2 else dA ps s
def en (ps:List (Int×Int)) (s:Int):Bool:=ps.any λp=>decide (p.1=s)
theorem mo (p:Int×Int) (ps:List (Int×Int)) (s:Int):en (p::ps) s=(decide (p.1=s)||en ps s):=rfl
theorem oQ:∀{ps:List (Int×Int)} {s:Int},en ps s=false->dA ps s= -1
 |[],_,_=>rfl
 |p::ps,s,h=>by rw[mo,Bool.or_eq_false_iff] at h;rw[dA,if_neg (by simpa using h.1)];exact oQ h.2
theorem jX:∀{ps:List (Int×Int)} {s:Int},en ps s=true->(s,dA ps s)∈ps
 |[],_,h=>by cases h
 | p::ps,s,h=>by
  rw[dA];by_cases hp:p.1=s
  ·rw[if_pos hp,<-hp];exact bE ..
  ·rw[if_neg hp]
   rw[mo,Bool.or_eq_true] at h;rcases h with h|h
   ·exact absurd (by simpa using h) hp
   ·exact bF _ (jX h)
section
variable {m:Md} {gh:List GObj}
theorem tL {ps:List (Int×Int)} {s:Int} (hl:Sz ps.length):∀k i,i+k=ps.length->
  ab pg q82 ⟨[(0,LP ps),(1,I s),(5,I (i:Int))],[],gh⟩=if en (ps.drop i) s then some (.ret,⟨[(4,I (dA (ps.drop i) s))],[],gh⟩) else some (.normal,⟨[],[],gh⟩)
 |0,i,h=>by
  rw[aQ (by omega)];have hlt:¬i<ps.length:=by omega
  refine (bj (s1:=?s1) (q9n ?h1)).trans ?r1
  case h1=>simp[hlt];rfl
  case r1=>simp[keep,en]
 | k+1,i,h=>by
  have hlt:i<ps.length:=by omega
  have hltD:decide (i<ps.length)=true:=aG hlt;have e2:WI.wrap ((i:Int)+1)=((i+1:Nat):Int):=fF (by simp only[Sz] at hl ⊢;omega);have hg:(ps.map bq)[i]?=some (bq ps[i]):=by simp[aA hlt]
  rw[aL hlt,mo,dA];generalize ps[i]=p at *;rw[gJ] at hg;by_cases hp:p.1=s
  ·have hd:decide (p.1=s)=true:=aG hp
   rw[if_pos hp,hd,Bool.true_or,if_pos rfl];refine dk (q9n ?_);simp[hltD,hg,hd,-List.getElem?_map]
  ·have hd:decide (p.1=s)=false:=aF hp
   rw[if_neg hp,hd,Bool.false_or];refine ba (s1:=⟨[(0,LP ps),(1,I s),(5,I ((i+1:Nat):Int))],[],gh⟩) (q9n ?_) (tL hl k (i+1) (by omega));simp[hltD,hg,hd,e2,-List.getElem?_map]
theorem tM {ps:List (Int×Int)} {s:Int} (hl:Sz ps.length):ac pg 137 [LP ps,I s] gh=some (I (dA ps s),gh):=by
 have h:=tL (gh:=gh) (s:=s) hl ps.length 0 (by omega);rw[bK] at h;simp only[aW] at h;have hk:=qip (pg:=pg) (gh:=gh) rfl;cases hh:en ps s with
 |true=>
  rw[hh,if_pos rfl] at h;refine ao (fn:=q2x) (s:=⟨[(4,I (dA ps s))],[],gh⟩) rfl rfl (qf5 ?h1) ?r1
  case h1=>simp[h]
  case r1=>simp[ak,results,q2x,am,aq,ai]
 |false=>
  rw[hh,if_neg (by decide)] at h;rw[oQ hh];refine ao (fn:=q2x) (s:=⟨[(4,I (-1))],[],gh⟩) rfl rfl (qf5 ?h2) ?r2
  case h2=>simp[h,hk]
  case r2=>simp[ak,results,q2x,am,aq,ai]
def byM (V:List Int) (ps:List (Int×Int)):List (Int×Int):=ps.map λp=>(p.1,V.getD p.2.toNat 0)
theorem tN:∀{l:List (Int×Int)} {k v:Int},(∀p∈l,p.1≠k)->eE l k v=l++[(k,v)]
 |[],_,_,_=>rfl
 |(a,u)::l,k,v,h=>by rw[eE,if_neg (λe=>h (a,u) (bE ..) e.symm),tN λp hp=>h p (bF _ hp)];rfl
theorem tP {V:List Int} {ps:List (Int×Int)} {i:Nat} (hn:(ps.map (·.1)).Nodup) (hi:i<ps.length):eE (byM V (ps.take i)) ps[i].1 (V.getD ps[i].2.toNat 0)=byM V (ps.take (i+1)):=by
 rw[tN]
 ·rw[List.take_succ_eq_append_getElem hi];unfold byM;rw[bJ];rfl
 ·intro p hp
  obtain⟨q,hq,rfl⟩:=List.mem_map.1 hp;obtain⟨j,hj,rfl⟩:=cF.1 hq;rw[cH] at hj;rw[List.getElem_take];intro e;have e:ps[j].1=ps[i].1:=e;have:j=i:=lw (l:=ps.map (·.1)) hn (by simp[aA (show j<ps.length by omega),aA hi,e]) (by simp;omega);omega
theorem oR {V:List Int}:∀{ps:List (Int×Int)} {s:Int},bo (byM V ps) s=if en ps s then some (V.getD (dA ps s).toNat 0) else none
 |[],_=>rfl
 |p::ps,s=>by
  have ih:=oR (V:=V) (ps:=ps) (s:=s);change (if s=p.1 then _ else bo (byM V ps) s)=_;rw[mo,dA,ih];by_cases h:p.1=s
  ·rw[if_pos h.symm,aG h,Bool.true_or,if_pos rfl,if_pos h]
  ·rw[if_neg (λe=>h e.symm),aF h,Bool.false_or,if_neg h]
def gr (V:List Int) (ps:List (Int×Int)):List Int->List Int->List Int
 |s::ss,w::ws=>(if en ps s then V.getD (dA ps s).toNat 0 else w)::gr V ps ss ws
 |_,_=>[]
theorem iN {V:List Int} {a:Int} (h:a.toNat<V.length):(V.map I)[a.toNat]?=some (I (V.getD a.toNat 0)):=by simp[aM,aA h]
theorem tQ {V wish st:List Int} {ps:List (Int×Int)} (hl:Sz ps.length) (hn:(ps.map (·.1)).Nodup) (hp:∀p∈ps,0<=p.2/\p.2.toNat<V.length):∀k i,i+k=ps.length->
  ab pg q3n ⟨[(1,LI wish),(5,LI st),(6,LI V),(7,.mp gh.length),(26,LP ps),(27,I ps.length),(28,I (i:Int))],[],gh++[.map (bl (byM V (ps.take i)))]⟩=
   some (.normal,⟨[(1,LI wish),(5,LI st),(7,.mp gh.length)],[],gh++[.map (bl (byM V ps))]⟩)
 |0,i,h=>by
  rw[bM (by omega)];have hlt:¬(i:Int)<(ps.length:Int):=by omega
  refine (bj (s1:=?s1) (qf6 ?h1)).trans ?r1
  case h1=>simp only[aF hlt,dJ];rfl
  case r1=>simp[keep,bf]
 |k+1,i,h=>by
  have hlt:i<ps.length:=by omega
  have hltI:(i:Int)<(ps.length:Int):=by omega
  have e2:WI.wrap ((i:Int)+1)=((i+1:Nat):Int):=fF (by simp only[Sz] at hl ⊢;omega);have hg:(ps.map bq)[i]?=some (bq ps[i]):=by simp[aA hlt]
  have hs:=tP (V:=V) hn hlt;obtain⟨q0,q1⟩:=hp _ (bX hlt);have hv:=iN q1;refine ba (s1:=⟨[(1,LI wish),(5,LI st),(6,LI V),(7,.mp gh.length),(26,LP ps),(27,I ps.length),(28,I ((i+1:Nat):Int))],[],gh++[GObj.map (bl (byM V (ps.take (i+1))))]⟩) (qf6 ?_) (tQ hl hn hp k (i+1) (by omega));generalize ps[i]=p at *;rw[gJ] at hg;generalize V.getD p.2.toNat 0=v at *;generalize byM V (ps.take (i+1))=M2 at *;generalize byM V (ps.take i)=M1 at *;have hmu:=λf=>nD (R:=ag×St) gh M1 p.1 v f
  rw[hs] at hmu;simp[hltI,hg,q0,hv,e2,hmu,-List.getElem?_map,-jg,-sq]
theorem jY (acc:List Int) (v:Int):(acc++[v]).map I=acc.map I++[I v]:=by simp
theorem Cv {wish st:List Int} {M:List (Int×Int)} {A:List PV} {i:Nat} (hi:i<=1000) :
  ab pg q26 ⟨[(1,LI wish),(7,.mp gh.length),(10,.sl true 1 A),(41,LI st),(42,I st.length),(43,I (i:Int))],[],gh++[.map (bl M)]⟩=
   some (.normal,⟨[(1,LI wish),(7,.mp gh.length),(10,.sl true 1 A),(41,LI st),(42,I st.length),(43,I ((i+1:Nat):Int))],[],gh++[.map (bl M)]⟩):=by
 have e2:WI.wrap ((i:Int)+1)=((i+1:Nat):Int):=by rw[ay (by omega) (by omega)];omega
 refine qir ?_;simp[e2]
theorem Cw {wish st:List Int} {M:List (Int×Int)} {A:List PV} {i:Nat} {v:Int} (hA:(A.length+1)*8<=maxBytes) :
  ab pg q25 ⟨[(1,LI wish),(7,.mp gh.length),(10,.sl true 1 A),(13,I v),(41,LI st),(42,I st.length),(43,I (i:Int))],[],gh++[.map (bl M)]⟩=
   some (.normal,⟨[(1,LI wish),(7,.mp gh.length),(10,.sl true 1 (A++[I v])),(41,LI st),(42,I st.length),(43,I (i:Int))],[],gh++[.map (bl M)]⟩):=by
 refine qiq ?_;simp[hA]
theorem tR {V wish st:List Int} {ps:List (Int×Int)} (hl:st.length<=1000) (hw:wish.length=st.length):∀k i acc,i+k=st.length->acc.length<=i->
  ab pg q3o ⟨[(1,LI wish),(7,.mp gh.length),(10,.sl true 1 (acc.map I)),(41,LI st),(42,I st.length),(43,I (i:Int))],[],gh++[.map (bl (byM V ps))]⟩=
   some (.normal,⟨[(10,.sl true 1 ((acc++gr V ps (st.drop i) (wish.drop i)).map I))],[],gh++[.map (bl (byM V ps))]⟩)
 |0,i,acc,h,_=>by
  rw[aQ (by omega),aQ (show wish.length<=i by omega),gr,bG];have hlt:¬(i:Int)<(st.length:Int):=by omega
  refine (bj (s1:=?s1) (qf7 ?h1)).trans ?r1
  case h1=>simp only[aF hlt,dJ];rfl
  case r1=>simp[keep,bf]
  all_goals (intros;simp_all)
 | k+1,i,acc,h,ha=>by
  have hlt:i<st.length:=by omega
  have hlw:i<wish.length:=by omega
  have hltI:(i:Int)<(st.length:Int):=by omega
  have hg:(st.map I)[i]?=some (I st[i]):=by simp[aA hlt]
  have hgw:(wish.map I)[i]?=some (I wish[i]):=by simp[aA hlw]
  have hmx:((acc.map I).length+1)*8<=maxBytes:=by have:=MB;simp;omega
  rw[aL hlt,aL hlw,gr,List.append_cons acc];refine ba (s1:=⟨[(1,LI wish),(7,.mp gh.length),(10,.sl true 1 ((acc++[if en ps st[i] then V.getD (dA ps st[i]).toNat 0 else wish[i]]).map I)),(41,LI st),(42,I st.length),(43,I ((i+1:Nat):Int))],[],gh++[GObj.map (bl (byM V ps))]⟩) (qf7 ?_) (tR hl hw k (i+1) _ (by omega) (by simp;omega));have hf:=oR (V:=V) (ps:=ps) (s:=st[i]);rw[jY];generalize acc.map I=A at *;generalize byM V ps=M at *;generalize wish[i]=w at *;generalize st[i]=a at *;have hlk:=λf=>sA (R:=ag×St) gh M a f
  have k2:=λv=>Cw (gh:=gh) (wish:=wish) (st:=st) (M:=M) (i:=i) (v:=v) hmx
  have k3:=λv=>Cv (gh:=gh) (wish:=wish) (st:=st) (M:=M) (A:=A++[I v]) (i:=i) (by omega)
  cases hh:en ps a with
  |true=>
   rw[hh,if_pos rfl] at hf;rw[if_pos rfl];generalize V.getD (dA ps a).toNat 0=v at *;rw[hf] at hlk;simp[hltI,hg,hlk,k2,k3,-List.getElem?_map,-jg]
  |false=>
   rw[hh,if_neg (by decide)] at hf;rw[if_neg (by decide)];rw[hf] at hlk;simp[hltI,hg,hgw,hlk,k2,k3,-List.getElem?_map,-jg]
theorem mq {m:Md} (hm:kP m):m.inits.length<=80/\m.nexts.length<=80:=by
 have len1:∀{l:List (Int×Int)},(l.map (·.1)).Nodup->(∀p∈l,cg m.nodes p.1)->l.length<=80:=λ{l} hd hp=>by have hs:=List.Nodup.length_le_of_subset hd (l₂:=(List.range m.nodes.length).map λ(i:Nat)=>(i:Int)) (λa ha=>by obtain⟨p,hp',rfl⟩:=List.mem_map.1 ha;have:=hp p hp';have h3:=this.1;have h4:=this.2;exact List.mem_map.2 ⟨p.1.toNat,List.mem_range.2 h4,by omega⟩);have:=hm.len;simp at hs;omega
 exact⟨len1 hm.nod1 (λp hp=>(hm.pairs p (bY.2 (.inl hp))).1),len1 hm.nod2 (λp hp=>(hm.pairs p (bY.2 (.inr hp))).1)⟩
theorem tS {L:List Nd}:∀ns:List Int,cY L ns (List.replicate ns.length 0)=0
 |[]=>rfl
 | a::ns=>by
  rw[bA,List.replicate_succ,cY,if_pos]
  ·exact tS ns
  ·have:1<=2^(wAt L a).toNat:=Nat.one_le_two_pow
   omega
theorem tT {L:List Nd} (ns:List Int):cy L ns (List.replicate ns.length 0)=0:=by unfold cy;rw[if_neg (by simp)];exact tS ns
def kT (m:Md):List Int:=List.replicate (ah m.nodes 3).length 0
def kU (m:Md):List Int:=List.replicate (ah m.nodes 2).length 0
def fT (m:Md):List Int:=ch m (kT m) (kU m)
def dz (m:Md) (wish:List Int):List Int:=gr (fT m) m.inits (ah m.nodes 3) wish
theorem fH {m:Md} (hm:kP m) (k:Int):(ah m.nodes k).length<=80:=bW (lY _ _ _) hm.len
theorem oU {m:Md}:VGood m.nodes 0 [] (kT m) (kU m):=kQ (tT _) (tT _)
theorem tU {m:Md} (hm:kP m):∀p∈m.inits,0<=p.2/\p.2.toNat<(fT m).length:=λp hp=>by have:=(hm.pairs p (bY.2 (.inl hp))).2;unfold fT;rw[jV];exact this
theorem Cx {wish:List Int} (h:aw m=0) (hw:wish.length=(ah m.nodes 3).length):ac pg 136 [dc m,LI wish] gh=some (LI (dz m wish),gh):=by
 have hm:=ei h;have hl:=hm.len;have hpl:=(mq hm).1;have o3:=ie (m:=m) (gh:=gh) (kind:=3) (by omega);have o2:=ie (m:=m) (gh:=gh) (kind:=2) (by omega);have hmx:=MB;have l3:=fH hm 3;have l2:=fH hm 2;have z3:=tu (gh:=gh) (vs:=ah m.nodes 3) (by omega);have z2:=tu (gh:=gh) (vs:=ah m.nodes 2) (by omega);have hr:=tD (gh:=gh) h oU;have h1:=tQ (gh:=gh) (wish:=wish) (st:=ah m.nodes 3) (by simp only[Sz];omega) hm.nod1 (tU hm) m.inits.length 0 (by omega);have h2:=tR (gh:=gh) (V:=fT m) (ps:=m.inits) (by omega) hw (ah m.nodes 3).length 0 [] (by omega) (by simp);rw[bK,bK,bH] at h2
 simp only[List.take_zero,bQ,aW] at h1 h2;change ab pg q3n ⟨_,_,gh++[GObj.map []]⟩=_ at h1;change ac pg 142 _ _=some (LI (kT m),gh) at z3;change ac pg 142 _ _=some (LI (kU m),gh) at z2;change ac pg 139 _ _=some (LI (fT m),gh) at hr;change ab pg q3o _=some (_,⟨[(_,.sl true 1 ((dz m wish).map I))],_,_⟩) at h2;have hn:=eO (dz m wish);generalize dz m wish=F at *;generalize fT m=V at *;generalize kT m=Z3 at *;generalize kU m=Z2 at *;generalize bl (byM V m.inits)=MM at *
 have k4:ab pg q3p ⟨[(10,.sl true 1 (F.map I))],[],gh++[GObj.map MM]⟩=some (.ret,⟨[(4,.sl false 1 (F.map I))],[],gh++[GObj.map MM]⟩):=by refine qis ?_;simp
 have k1:ab pg q3q ⟨[(1,LI wish),(5,LI (ah m.nodes 3)),(7,.mp gh.length)],[],gh++[GObj.map MM]⟩=some (.ret,⟨[(4,.sl false 1 (F.map I))],[],gh++[GObj.map MM]⟩):=by refine qit ?_;simp[h2,k4]
 rw[bv] at *;refine ao (fn:=q5e) (s:=⟨[(4,.sl false 1 (F.map I))],[],gh++[GObj.map MM]⟩) rfl rfl (qiu ?h1) ?r1
 case h1=>simp[o3,o2,z3,z2,hr,h1,k1]
 case r1=>simp[ak,results,q5e,am,aq,ai,hn]
theorem Cy {ps:List (Int×Int)} {s:Int} (hp:∀p∈ps,0<=p.2):decide (0<=dA ps s)=en ps s:=by
 cases hh:en ps s with
 |true=>exact aG (hp _ (jX hh))
 |false=>rw[oQ hh];rfl
theorem Cz {wish st V:List Int} {A:List PV} {i:Nat} (hi:i<=1000) :
  ab pg q2w ⟨[(1,LI wish),(2,.ptr false 0 0),(5,LI st),(6,LI V),(7,.sl true 1 A),(8,I (i:Int))],[[LN m.nodes,LP m.inits,LP m.nexts,LI m.bads,LI m.holds]],gh⟩=
   some (.normal,⟨[(1,LI wish),(2,.ptr false 0 0),(5,LI st),(6,LI V),(7,.sl true 1 A),(8,I ((i+1:Nat):Int))],[[LN m.nodes,LP m.inits,LP m.nexts,LI m.bads,LI m.holds]],gh⟩):=by
 have e2:WI.wrap ((i:Int)+1)=((i+1:Nat):Int):=by rw[ay (by omega) (by omega)];omega
 refine qiv ?_;simp[e2]
theorem tW {V wish st:List Int} (hl:st.length<=1000) (hw:wish.length=st.length) (hs:Sz m.inits.length) (hp:∀p∈m.inits,0<=p.2/\p.2.toNat<V.length):∀k i acc,i+k=st.length->acc.length<=i->
  ab pg q4b ⟨[(1,LI wish),(2,.ptr false 0 0),(5,LI st),(6,LI V),(7,.sl true 1 (acc.map I)),(8,I (i:Int))],[[LN m.nodes,LP m.inits,LP m.nexts,LI m.bads,LI m.holds]],gh⟩=
   some (.normal,⟨[(7,.sl true 1 ((acc++gr V m.inits (st.drop i) (wish.drop i)).map I))],[],gh⟩)
 |0,i,acc,h,_=>by
  rw[aQ (by omega),aQ (show wish.length<=i by omega),gr,bG];have hlt:¬i<st.length:=by omega
  refine (bj (s1:=?s1) (qf8 ?h1)).trans ?r1
  case h1=>simp[hlt];rfl
  case r1=>simp[keep,bf]
  all_goals (intros;simp_all)
 | k+1,i,acc,h,ha=>by
  have hlt:i<st.length:=by omega
  have hlw:i<wish.length:=by omega
  have hltD:decide (i<st.length)=true:=aG hlt;have hg:(st.map I)[i]?=some (I st[i]):=by simp[aA hlt]
  have hgw:(wish.map I)[i]?=some (I wish[i]):=by simp[aA hlw]
  have hmx:((acc.map I).length+1)*8<=maxBytes:=by have:=MB;simp;omega
  rw[aL hlt,aL hlw,gr,List.append_cons acc];refine ba (s1:=⟨[(1,LI wish),(2,.ptr false 0 0),(5,LI st),(6,LI V),(7,.sl true 1 ((acc++[if en m.inits st[i] then V.getD (dA m.inits st[i]).toNat 0 else wish[i]]).map I)),(8,I ((i+1:Nat):Int))],[[LN m.nodes,LP m.inits,LP m.nexts,LI m.bads,LI m.holds]],gh⟩) (qf8 ?_) (tW hl hw hs hp k (i+1) _ (by omega) (by simp;omega));have hc:=tM (gh:=gh) (s:=st[i]) hs;have hd:=Cy (ps:=m.inits) (s:=st[i]) (λp hq=>(hp p hq).1);rw[jY];generalize acc.map I=A at *;generalize wish[i]=w at *;generalize st[i]=a at *
  have k1:=λv=>Cz (m:=m) (gh:=gh) (wish:=wish) (st:=st) (V:=V) (A:=A++[I v]) (i:=i) (by omega)
  cases hh:en m.inits a with
  |true=>
   rw[if_pos rfl];have hq:=hp _ (jX hh);have hv:=iN hq.2;have h0:=hq.1;rw[hh] at hd;simp only at h0 hv;generalize V.getD (dA m.inits a).toNat 0=v at *;generalize dA m.inits a=n at *;simp[hltD,hg,hc,hd,h0,hv,hmx,k1,-List.getElem?_map]
  |false=>
   rw[if_neg (by decide)];rw[hh] at hd;generalize dA m.inits a=n at *;simp[hltD,hg,hgw,hc,hd,hmx,k1,-List.getElem?_map]
theorem CA {wish:List Int} (h:aw m=0) (hw:wish.length=(ah m.nodes 3).length):ac pg 125 [dc m,LI wish] gh=some (LI (dz m wish),gh):=by
 have hm:=ei h;have hl:=hm.len;have hpl:=(mq hm).1;have o3:=jk (m:=m) (gh:=gh) (kind:=3) (by omega);have o2:=jk (m:=m) (gh:=gh) (kind:=2) (by omega);have hmx:=MB;have l3:=fH hm 3;have l2:=fH hm 2;have hr:=tK (gh:=gh) h oU;have h1:=tW (m:=m) (gh:=gh) (V:=fT m) (by omega) hw (by simp only[Sz];omega) (tU hm) (ah m.nodes 3).length 0 [] (by omega) (by simp);rw[bK,bK,bH] at h1;simp only[bQ,aW] at h1;change ac pg 132 _ _=some (LI (fT m),gh) at hr;change ab pg q4b _=some (_,⟨[(_,.sl true 1 ((dz m wish).map I))],_,_⟩) at h1;have hn:=eO (dz m wish)
 have e:∀n:Nat,List.map I (List.replicate n 0)=List.replicate n (I 0):=λn=>List.map_replicate
 unfold kT kU at hr;simp only[LI,e] at hr h1 hn o3 o2 ⊢;generalize (dz m wish).map I=F at *;have b3:eN ((ah m.nodes 3).length:Int) 8 1 (I 0)=true:=by simp[eN];omega
 have b2:eN ((ah m.nodes 2).length:Int) 8 1 (I 0)=true:=by simp[eN];omega
 have q3:((ah m.nodes 3).map I).length=(ah m.nodes 3).length:=by simp
 have q2:((ah m.nodes 2).map I).length=(ah m.nodes 2).length:=by simp
 generalize (ah m.nodes 3).map I=K3 at *;generalize (ah m.nodes 2).map I=K2 at *;generalize (ah m.nodes 3).length=n3 at *;generalize (ah m.nodes 2).length=n2 at *;subst q3 q2;have k2:=qiw (pg:=pg) (gh:=gh) (v7:= .sl true 1 F) (e:= .ret) (s:=⟨[(4,.sl false 1 F)],[],gh⟩) (by simp);rw[bv] at *;refine ao (fn:=q7v) (s:=⟨[(4,.sl false 1 F)],[],gh⟩) rfl rfl (qix ?h1) ?r1
 case h1=>simp[o3,o2,b3,b2,ea,hr,h1,k2]
 case r1=>simp[ak,results,q7v,am,aq,ai,hn]
def ig (m:Md) (wish:List Int):Int:=if aw m=0 then cy m.nodes (ah m.nodes 3) wish else aw m
end
theorem oV {m:Md} (h:aw m=0):fG m (dr [] m.nodes)=0/\gO m=0:=by
 unfold aw at h;split at h
 ·contradiction
 split at h
 ·contradiction
 split at h
 ·contradiction
 split at h
 ·contradiction
 rename_i h4;exact⟨aU h4,h⟩
theorem tX {l:List Nd} {f:List Bool} {b:Bool}:∀{ps:List (Int×Int)},ct l f b ps=0->∀p∈ps,p.1∈ah l 3
 |[],_,p,hp=>by cases hp
 | q ::ps,h,p,hp=>by
  rw[ct] at h;split at h
  ·rename_i h0
   rcases List.mem_cons.1 hp with rfl|hp
   ·unfold dM at h0
    split at h0
    ·contradiction
    rename_i hn;have hi:cg l p.1:=aU λh=>hn (.inl h)
    have hk:(l.getD p.1.toNat default).k=3:=aU λh=>hn (.inr (.inr h))
    refine kindF_mem.2 ⟨p.1.toNat,hi.2,?_,?_⟩
    ·have:=hi.1;omega
    ·rw[aM,aA hi.2] at hk
     rw[aA hi.2];simpa using hk
   ·exact tX h p hp
  ·contradiction
theorem CB {ps:List (Int×Int)} {s:Int} (h:s∈ps.map (·.1)):en ps s=true:=by obtain⟨p,hp,rfl⟩:=List.mem_map.1 h;exact List.any_eq_true.2 ⟨p,hp,aG rfl⟩
theorem oZ {m:Md} (h:aw m=0):∀s∈ah m.nodes 3,en m.nexts s=true:=by
 intro s hs;refine CB (aU λhn=>?_);obtain⟨hp,hk⟩:=oV h;have hle:(ah m.nodes 3).length<=m.nexts.length:=by
  unfold gO at hk;split at hk
  ·contradiction
  ·omega
 have hz:ct m.nodes (dr [] m.nodes) false m.nexts=0:=by
  unfold fG at hp;split at hp
  ·contradiction
  split at hp
  ·contradiction
  rename_i h2;exact aU h2
 have hd:(s::m.nexts.map (·.1)).Nodup:=List.nodup_cons.2 ⟨hn,(ei h).nod2⟩;have:=List.Nodup.length_le_of_subset hd (l₂:=ah m.nodes 3) (λa ha=>by
  rcases List.mem_cons.1 ha with rfl|ha
  ·exact hs
  ·obtain⟨p,hp,rfl⟩:=List.mem_map.1 ha
   exact tX hz p hp)
 simp at this;omega
theorem tY {m:Md} (h:aw m=0):∀a∈m.bads++m.holds,cg m.nodes a:=by
 obtain⟨-,hk⟩:=oV h;unfold gO at hk;split at hk
 ·contradiction
 split at hk
 ·contradiction
 rename_i h2;intro a ha;exact aU λhn=>h2 (List.any_eq_true.2 ⟨a,ha,by simp[hn]⟩)
theorem tZ {m:Md} (h:aw m=0):m.bads.length<=8/\m.holds.length<=8:=by
 unfold aw at h;split at h
 ·contradiction
 omega
def iO (V:List Int) (ps:List (Int×Int)) (st:List Int):List Int:=st.map λs=>V.getD (dA ps s).toNat 0
def dO (m:Md) (V:List Int):List Int:=iO V m.nexts (ah m.nodes 3)
theorem t6 (V:List Int) (ps:List (Int×Int)) (s:Int) (st:List Int):iO V ps (s::st)=V.getD (dA ps s).toNat 0::iO V ps st:=rfl
section
variable {m:Md} {gh:List GObj}
theorem t7 {V:List Int} {ps:List (Int×Int)} (hl:Sz ps.length) (hn:(ps.map (·.1)).Nodup) (hp:∀p∈ps,0<=p.2/\p.2.toNat<V.length):∀k i,i+k=ps.length->
  ab pg q3t ⟨[(1,LI V),(2,.ptr false 0 0),(5,.mp gh.length),(13,LP ps),(14,I ps.length),(15,I (i:Int))],[[LN m.nodes,LP m.inits,LP m.nexts,LI m.bads,LI m.holds]],gh++[.map (bl (byM V (ps.take i)))]⟩=
   some (.normal,⟨[(2,.ptr false 0 0),(5,.mp gh.length)],[[LN m.nodes,LP m.inits,LP m.nexts,LI m.bads,LI m.holds]],gh++[.map (bl (byM V ps))]⟩)
 |0,i,h=>by
  rw[bM (by omega)];have hlt:¬(i:Int)<(ps.length:Int):=by omega
  refine (bj (s1:=?s1) (qf9 ?h1)).trans ?r1
  case h1=>simp only[aF hlt,dJ];rfl
  case r1=>simp[keep,bf]
 |k+1,i,h=>by
  have hlt:i<ps.length:=by omega
  have hltI:(i:Int)<(ps.length:Int):=by omega
  have e2:WI.wrap ((i:Int)+1)=((i+1:Nat):Int):=fF (by simp only[Sz] at hl ⊢;omega);have hg:(ps.map bq)[i]?=some (bq ps[i]):=by simp[aA hlt]
  have hs:=tP (V:=V) hn hlt;obtain⟨q0,q1⟩:=hp _ (bX hlt);have hv:=iN q1;refine ba (s1:=⟨[(1,LI V),(2,.ptr false 0 0),(5,.mp gh.length),(13,LP ps),(14,I ps.length),(15,I ((i+1:Nat):Int))],[[LN m.nodes,LP m.inits,LP m.nexts,LI m.bads,LI m.holds]],gh++[GObj.map (bl (byM V (ps.take (i+1))))]⟩) (qf9 ?_) (t7 hl hn hp k (i+1) (by omega));generalize ps[i]=p at *;rw[gJ] at hg;generalize V.getD p.2.toNat 0=v at *;generalize byM V (ps.take (i+1))=M2 at *;generalize byM V (ps.take i)=M1 at *;have hmu:=λf=>nD (R:=ag×St) gh M1 p.1 v f
  rw[hs] at hmu;simp[hltI,hg,q0,hv,e2,hmu,-List.getElem?_map,-jg,-sq]
theorem t8 {V st:List Int} {ps:List (Int×Int)} (hl:st.length<=1000) (hall:∀s∈st,en ps s=true):∀k i acc,i+k=st.length->acc.length<=i->
  ab pg q3u ⟨[(5,.mp gh.length),(8,.sl true 1 (acc.map I)),(29,LI st),(30,I st.length),(31,I (i:Int))],[],gh++[.map (bl (byM V ps))]⟩=
   some (.normal,⟨[(8,.sl true 1 ((acc++iO V ps (st.drop i)).map I))],[],gh++[.map (bl (byM V ps))]⟩)
 |0,i,acc,h,_=>by
  rw[aQ (by omega)];have hlt:¬(i:Int)<(st.length:Int):=by omega
  refine (bj (s1:=?s1) (qfa ?h1)).trans ?r1
  case h1=>simp only[aF hlt,dJ];rfl
  case r1=>simp[keep,bf,iO]
 | k+1,i,acc,h,ha=>by
  have hlt:i<st.length:=by omega
  have hltI:(i:Int)<(st.length:Int):=by omega
  have e2:WI.wrap ((i:Int)+1)=((i+1:Nat):Int):=by rw[ay (by omega) (by omega)];omega
  have hg:(st.map I)[i]?=some (I st[i]):=by simp[aA hlt]
  have hmx:((acc.map I).length+1)*8<=maxBytes:=by have:=MB;simp;omega
  have hf:=oR (V:=V) (ps:=ps) (s:=st[i]);rw[hall _ (bX hlt),if_pos rfl] at hf;rw[aL hlt,t6,List.append_cons acc];refine ba (s1:=⟨[(5,.mp gh.length),(8,.sl true 1 ((acc++[V.getD (dA ps st[i]).toNat 0]).map I)),(29,LI st),(30,I st.length),(31,I ((i+1:Nat):Int))],[],gh++[GObj.map (bl (byM V ps))]⟩) (qfa ?_) (t8 hl hall k (i+1) _ (by omega) (by simp;omega));rw[jY];generalize acc.map I=A at *;generalize byM V ps=M at *;generalize V.getD (dA ps st[i]).toNat 0=v at *;generalize st[i]=a at *;have hlk:=λf=>sA (R:=ag×St) gh M a f
  rw[hf] at hlk;simp[hltI,hg,hlk,hmx,e2,-List.getElem?_map,-jg]
theorem t9 {m:Md} {V:List Int} (hm:kP m) (hV:V.length=m.nodes.length):∀p∈m.nexts,0<=p.2/\p.2.toNat<V.length:=λp hp=>by have:=(hm.pairs p (bY.2 (.inr hp))).2;rw[hV];exact this
theorem CC {V:List Int} (h:aw m=0) (hV:V.length=m.nodes.length):ac pg 140 [dc m,LI V] gh=some (LI (dO m V),gh):=by
 have hm:=ei h;have hl:=hm.len;have hpl:=(mq hm).2;have o3:=ie (m:=m) (gh:=gh++[GObj.map (bl (byM V m.nexts))]) (kind:=3) (by omega);have l3:=fH hm 3;have h1:=t7 (m:=m) (gh:=gh) (V:=V) (by simp only[Sz];omega) hm.nod2 (t9 hm hV) m.nexts.length 0 (by omega);have h2:=t8 (gh:=gh) (V:=V) (ps:=m.nexts) (by omega) (oZ h) (ah m.nodes 3).length 0 [] (by omega) (by simp);rw[bK,bH] at h2;simp only[List.take_zero,bQ,aW] at h1 h2;change ab pg q3t ⟨_,_,gh++[GObj.map []]⟩=_ at h1;change ab pg q3u _=some (_,⟨[(_,.sl true 1 ((dO m V).map I))],_,_⟩) at h2;have hn:=eO (dO m V);generalize dO m V=F at *
 generalize bl (byM V m.nexts)=MM at *;have k2:ab pg q3v ⟨[(8,.sl true 1 (F.map I))],[],gh++[GObj.map MM]⟩=some (.ret,⟨[(4,.sl false 1 (F.map I))],[],gh++[GObj.map MM]⟩):=by refine qiy ?_;simp
 rw[bv] at *;have k1:ab pg q3w ⟨[(2,.ptr false 0 0),(5,.mp gh.length)],[[LN m.nodes,LP m.inits,LP m.nexts,LI m.bads,LI m.holds]],gh++[GObj.map MM]⟩=some (.ret,⟨[(4,.sl false 1 (F.map I))],[],gh++[GObj.map MM]⟩):=by refine qiz ?_;simp[o3,h2,k2]
 refine ao (fn:=q5g) (s:=⟨[(4,.sl false 1 (F.map I))],[],gh++[GObj.map MM]⟩) rfl rfl (qj0 ?h1) ?r1
 case h1=>simp[h1,k1]
 case r1=>simp[ak,results,q5g,am,aq,ai,hn]
theorem ua {V st:List Int} (hl:st.length<=1000) (hs:Sz m.nexts.length) (hp:∀p∈m.nexts,0<=p.2/\p.2.toNat<V.length) (hall:∀s∈st,en m.nexts s=true):∀k i acc,i+k=st.length->acc.length<=i->
  ab pg q4d ⟨[(1,LI V),(2,.ptr false 0 0),(5,LI st),(6,.sl true 1 (acc.map I)),(7,I (i:Int))],[[LN m.nodes,LP m.inits,LP m.nexts,LI m.bads,LI m.holds]],gh⟩=
   some (.normal,⟨[(6,.sl true 1 ((acc++iO V m.nexts (st.drop i)).map I))],[],gh⟩)
 |0,i,acc,h,_=>by
  rw[aQ (by omega)];have hlt:¬i<st.length:=by omega
  refine (bj (s1:=?s1) (qfb ?h1)).trans ?r1
  case h1=>simp[hlt];rfl
  case r1=>simp[keep,bf,iO]
 | k+1,i,acc,h,ha=>by
  have hlt:i<st.length:=by omega
  have hltD:decide (i<st.length)=true:=aG hlt;have e2:WI.wrap ((i:Int)+1)=((i+1:Nat):Int):=by rw[ay (by omega) (by omega)];omega
  have hg:(st.map I)[i]?=some (I st[i]):=by simp[aA hlt]
  have hmx:((acc.map I).length+1)*8<=maxBytes:=by have:=MB;simp;omega
  rw[aL hlt,t6,List.append_cons acc];refine ba (s1:=⟨[(1,LI V),(2,.ptr false 0 0),(5,LI st),(6,.sl true 1 ((acc++[V.getD (dA m.nexts st[i]).toNat 0]).map I)),(7,I ((i+1:Nat):Int))],[[LN m.nodes,LP m.inits,LP m.nexts,LI m.bads,LI m.holds]],gh⟩) (qfb ?_) (ua hl hs hp hall k (i+1) _ (by omega) (by simp;omega));have hc:=tM (gh:=gh) (s:=st[i]) hs;have hh:=hall _ (bX hlt);rw[jY];generalize acc.map I=A at *;generalize st[i]=a at *;have hq:=hp _ (jX hh);have hv:=iN hq.2;have h0:=hq.1;simp only at h0 hv;generalize V.getD (dA m.nexts a).toNat 0=v at *;generalize dA m.nexts a=n at *
  simp[hltD,hg,hc,h0,hv,hmx,e2,-List.getElem?_map]
theorem CD {V:List Int} (h:aw m=0) (hV:V.length=m.nodes.length):ac pg 133 [dc m,LI V] gh=some (LI (dO m V),gh):=by
 have hm:=ei h;have hl:=hm.len;have hpl:=(mq hm).2;have o3:=jk (m:=m) (gh:=gh) (kind:=3) (by omega);have l3:=fH hm 3;have h1:=ua (m:=m) (gh:=gh) (V:=V) (by omega) (by simp only[Sz];omega) (t9 hm hV) (oZ h) (ah m.nodes 3).length 0 [] (by omega) (by simp);rw[bK,bH] at h1;simp only[bQ,aW] at h1;change ab pg q4d _=some (_,⟨[(_,.sl true 1 ((dO m V).map I))],_,_⟩) at h1;have hn:=eO (dO m V);simp only[LI] at h1 o3 hn ⊢;generalize (dO m V).map I=F at *;generalize (ah m.nodes 3).map I=K3 at *;have k1:=qj1 (pg:=pg) (gh:=gh) (v6:= .sl true 1 F) (e:= .ret) (s:=⟨[(4,.sl false 1 F)],[],gh⟩) (by simp)
 rw[bv] at *;refine ao (fn:=q7z) (s:=⟨[(4,.sl false 1 F)],[],gh⟩) rfl rfl (qj2 ?h1) ?r1
 case h1=>simp[o3,h1,k1]
 case r1=>simp[ak,results,q7z,am,aq,ai,hn]
def fq (V:List Int) (a:Int):Bool:=decide (V.getD a.toNat 0=1)
theorem ub {V l:List Int} {b7:Bool} (hl:l.length<=1000) (hp:∀a∈l,0<=a/\a.toNat<V.length):∀k i b6,i+k=l.length->
  ab pg q3x ⟨[(1,LI V),(2,.ptr false 0 0),(6,B b6),(7,B b7),(13,LI l),(14,I l.length),(15,I (i:Int))],[[LN m.nodes,LP m.inits,LP m.nexts,LI m.bads,LI m.holds]],gh⟩=
   some (.normal,⟨[(1,LI V),(2,.ptr false 0 0),(6,B (b6&&(l.drop i).all (fq V))),(7,B b7)],[[LN m.nodes,LP m.inits,LP m.nexts,LI m.bads,LI m.holds]],gh⟩)
 |0,i,b6,h=>by
  rw[aQ (by omega)];have hlt:¬(i:Int)<(l.length:Int):=by omega
  refine (bj (s1:=?s1) (qfc ?h1)).trans ?r1
  case h1=>simp only[aF hlt,dJ];rfl
  case r1=>simp[keep,bf]
 |k+1,i,b6,h=>by
  have hlt:i<l.length:=by omega
  have hltI:(i:Int)<(l.length:Int):=by omega
  have e2:WI.wrap ((i:Int)+1)=((i+1:Nat):Int):=by rw[ay (by omega) (by omega)];omega
  have hg:(l.map I)[i]?=some (I l[i]):=by simp[aA hlt]
  obtain⟨q0,q1⟩:=hp _ (bX hlt);have hv:=iN q1;rw[aL hlt,List.all_cons,<-Bool.and_assoc];refine ba (s1:=⟨[(1,LI V),(2,.ptr false 0 0),(6,B (b6&&fq V l[i])),(7,B b7),(13,LI l),(14,I l.length),(15,I ((i+1:Nat):Int))],[[LN m.nodes,LP m.inits,LP m.nexts,LI m.bads,LI m.holds]],gh⟩) (qfc ?_) (ub hl hp k (i+1) _ (by omega));unfold fq;generalize l[i]=a at *;generalize V.getD a.toNat 0=v at *;cases b6
  ·simp[hltI,hg,e2,-List.getElem?_map]
  ·simp[hltI,hg,q0,hv,e2,-List.getElem?_map]
theorem uc {V l:List Int} {b6:Bool} (hl:l.length<=1000) (hp:∀a∈l,0<=a/\a.toNat<V.length):∀k i b7,i+k=l.length->
  ab pg q3y ⟨[(1,LI V),(6,B b6),(7,B b7),(29,LI l),(30,I l.length),(31,I (i:Int))],[],gh⟩=
   some (.normal,⟨[(6,B b6),(7,B (b7||(l.drop i).any (fq V)))],[],gh⟩)
 |0,i,b7,h=>by
  rw[aQ (by omega)];have hlt:¬(i:Int)<(l.length:Int):=by omega
  refine (bj (s1:=?s1) (qfd ?h1)).trans ?r1
  case h1=>simp only[aF hlt,dJ];rfl
  case r1=>simp[keep,bf]
 |k+1,i,b7,h=>by
  have hlt:i<l.length:=by omega
  have hltI:(i:Int)<(l.length:Int):=by omega
  have e2:WI.wrap ((i:Int)+1)=((i+1:Nat):Int):=by rw[ay (by omega) (by omega)];omega
  have hg:(l.map I)[i]?=some (I l[i]):=by simp[aA hlt]
  obtain⟨q0,q1⟩:=hp _ (bX hlt);have hv:=iN q1;rw[aL hlt,List.any_cons,<-Bool.or_assoc];refine ba (s1:=⟨[(1,LI V),(6,B b6),(7,B (b7||fq V l[i])),(29,LI l),(30,I l.length),(31,I ((i+1:Nat):Int))],[],gh⟩) (qfd ?_) (uc hl hp k (i+1) _ (by omega));unfold fq;generalize l[i]=a at *;generalize V.getD a.toNat 0=v at *;cases b7
  ·simp[hltI,hg,q0,hv,e2,-List.getElem?_map]
  ·simp[hltI,hg,e2,-List.getElem?_map]
def eR (m:Md) (V:List Int):Bool:=m.holds.all (fq V)
def ft (m:Md) (V:List Int):Bool:=m.bads.any (fq V)
theorem ud {m:Md} {V:List Int} (h:aw m=0) (hV:V.length=m.nodes.length):(∀a∈m.bads,0<=a/\a.toNat<V.length)/\(∀a∈m.holds,0<=a/\a.toNat<V.length):=by rw[hV];exact⟨λa ha=>tY h a (bY.2 (.inl ha)),λa ha=>tY h a (bY.2 (.inr ha))⟩
theorem CE {V:List Int} (h:aw m=0) (hV:V.length=m.nodes.length):ac pg 141 [dc m,LI V] gh=some (.tup [B (eR m V),B (ft m V)],gh):=by
 obtain⟨lb,lh⟩:=tZ h;obtain⟨ib,ih⟩:=ud h hV;have h1:=ub (m:=m) (gh:=gh) (b7:=false) (by omega) ih m.holds.length 0 true (by omega);rw[bK,Bool.true_and] at h1;change ab pg q3x _=some (_,⟨[_,_,(_,B (eR m V)),_],_,_⟩) at h1;have h2:=uc (gh:=gh) (b6:=eR m V) (by omega) ib m.bads.length 0 false (by omega);rw[bK,Bool.false_or] at h2;change ab pg q3y _=some (_,⟨[_,(_,B (ft m V))],_,_⟩) at h2;simp only[aW] at h1 h2;generalize eR m V=b at *;generalize ft m V=c at *;have k2:=qj3 (pg:=pg) (gh:=gh) (b6:=b) (b7:=c) rfl
 have k1:ab pg q3z ⟨[(1,LI V),(2,.ptr false 0 0),(6,B b),(7,B false)],[[LN m.nodes,LP m.inits,LP m.nexts,LI m.bads,LI m.holds]],gh⟩=some (.ret,⟨[(4,B b),(5,B c)],[],gh⟩):=by refine qj4 ?_;simp[h2,k2]
 rw[bv];refine ao (fn:=q5i) (s:=⟨[(4,B b),(5,B c)],[],gh⟩) rfl rfl (qj5 ?h1) ?r1
 case h1=>simp[h1,k1]
 case r1=>simp[ak,results,q5i,am,aq,ai]
theorem ue {V:List Int} {b7:Bool} (hl:m.holds.length<=1000) (hp:∀a∈m.holds,0<=a/\a.toNat<V.length):∀k i b6,i+k=m.holds.length->
  ab pg q4e ⟨[(1,LI V),(2,.ptr false 0 0),(6,B b6),(7,B b7),(8,I (i:Int))],[[LN m.nodes,LP m.inits,LP m.nexts,LI m.bads,LI m.holds]],gh⟩=
   some (.normal,⟨[(1,LI V),(2,.ptr false 0 0),(6,B (b6&&(m.holds.drop i).all (fq V))),(7,B b7)],[[LN m.nodes,LP m.inits,LP m.nexts,LI m.bads,LI m.holds]],gh⟩)
 |0,i,b6,h=>by
  rw[aQ (by omega)];have hlt:¬i<m.holds.length:=by omega
  refine (bj (s1:=?s1) (qfe ?h1)).trans ?r1
  case h1=>simp[hlt];rfl
  case r1=>simp[keep,bf]
 |k+1,i,b6,h=>by
  have hlt:i<m.holds.length:=by omega
  have hltD:decide (i<m.holds.length)=true:=aG hlt;have e2:WI.wrap ((i:Int)+1)=((i+1:Nat):Int):=by rw[ay (by omega) (by omega)];omega
  have hg:(m.holds.map I)[i]?=some (I m.holds[i]):=by simp[aA hlt]
  obtain⟨q0,q1⟩:=hp _ (bX hlt);have hv:=iN q1;rw[aL hlt,List.all_cons,<-Bool.and_assoc];refine ba (s1:=⟨[(1,LI V),(2,.ptr false 0 0),(6,B (b6&&fq V m.holds[i])),(7,B b7),(8,I ((i+1:Nat):Int))],[[LN m.nodes,LP m.inits,LP m.nexts,LI m.bads,LI m.holds]],gh⟩) (qfe ?_) (ue hl hp k (i+1) _ (by omega));unfold fq;generalize m.holds[i]=a at *;generalize V.getD a.toNat 0=v at *;cases b6
  ·simp[hltD,e2,-List.getElem?_map]
  ·simp[hltD,hg,q0,hv,e2,-List.getElem?_map]
theorem uf {V:List Int} {b6:Bool} (hl:m.bads.length<=1000) (hp:∀a∈m.bads,0<=a/\a.toNat<V.length):∀k i b7,i+k=m.bads.length->
  ab pg q4f ⟨[(1,LI V),(2,.ptr false 0 0),(6,B b6),(7,B b7),(9,I (i:Int))],[[LN m.nodes,LP m.inits,LP m.nexts,LI m.bads,LI m.holds]],gh⟩=
   some (.normal,⟨[(6,B b6),(7,B (b7||(m.bads.drop i).any (fq V)))],[],gh⟩)
 |0,i,b7,h=>by
  rw[aQ (by omega)];have hlt:¬i<m.bads.length:=by omega
  refine (bj (s1:=?s1) (qff ?h1)).trans ?r1
  case h1=>simp[hlt];rfl
  case r1=>simp[keep,bf]
 |k+1,i,b7,h=>by
  have hlt:i<m.bads.length:=by omega
  have hltD:decide (i<m.bads.length)=true:=aG hlt;have e2:WI.wrap ((i:Int)+1)=((i+1:Nat):Int):=by rw[ay (by omega) (by omega)];omega
  have hg:(m.bads.map I)[i]?=some (I m.bads[i]):=by simp[aA hlt]
  obtain⟨q0,q1⟩:=hp _ (bX hlt);have hv:=iN q1;rw[aL hlt,List.any_cons,<-Bool.or_assoc];refine ba (s1:=⟨[(1,LI V),(2,.ptr false 0 0),(6,B b6),(7,B (b7||fq V m.bads[i])),(9,I ((i+1:Nat):Int))],[[LN m.nodes,LP m.inits,LP m.nexts,LI m.bads,LI m.holds]],gh⟩) (qff ?_) (uf hl hp k (i+1) _ (by omega));unfold fq;generalize m.bads[i]=a at *;generalize V.getD a.toNat 0=v at *;cases b7
  ·simp[hltD,hg,q0,hv,e2,-List.getElem?_map]
  ·simp[hltD,e2,-List.getElem?_map]
theorem CF {V:List Int} (h:aw m=0) (hV:V.length=m.nodes.length):ac pg 134 [dc m,LI V] gh=some (.tup [B (eR m V),B (ft m V)],gh):=by
 obtain⟨lb,lh⟩:=tZ h;obtain⟨ib,ih⟩:=ud h hV;have h1:=ue (m:=m) (gh:=gh) (b7:=false) (by omega) ih m.holds.length 0 true (by omega);rw[bK,Bool.true_and] at h1;change ab pg q4e _=some (_,⟨[_,_,(_,B (eR m V)),_],_,_⟩) at h1;have h2:=uf (m:=m) (gh:=gh) (b6:=eR m V) (by omega) ib m.bads.length 0 false (by omega);rw[bK,Bool.false_or] at h2;change ab pg q4f _=some (_,⟨[_,(_,B (ft m V))],_,_⟩) at h2;simp only[aW] at h1 h2;generalize eR m V=b at *;generalize ft m V=c at *;have k2:=qj6 (pg:=pg) (gh:=gh) (b6:=b) (b7:=c) rfl
 have k1:ab pg q4g ⟨[(1,LI V),(2,.ptr false 0 0),(6,B b),(7,B false)],[[LN m.nodes,LP m.inits,LP m.nexts,LI m.bads,LI m.holds]],gh⟩=some (.ret,⟨[(4,B b),(5,B c)],[],gh⟩):=by refine qj7 ?_;simp[h2,k2]
 rw[bv];refine ao (fn:=q81) (s:=⟨[(4,B b),(5,B c)],[],gh⟩) rfl rfl (qj8 ?h1) ?r1
 case h1=>simp[h1,k1]
 case r1=>simp[ak,results,q81,am,aq,ai]
end
section
variable {m:Md}
theorem mr {ss ks:List Int} (h:aw m=0) (hg:VGood m.nodes 0 [] ss ks):InW m.nodes (ch m ss ks):=by
 have hz:∀(j:Nat) (x:Nd),m.nodes[j]?=some x->dv m.nodes j x=0:=by
  intro j x hx;have hn:ef m.nodes 0 m.nodes=0:=by
   unfold aw at h;split at h
   ·contradiction
   split at h
   ·contradiction
   rename_i h2;exact aU h2
  have:=mc hn j x hx
  rwa [cN] at this
 have:=kS hz m.nodes.length 0 [] ss ks (by omega) hg
 rwa [bK] at this
theorem o8 {l:List Nd} {f:List Bool} {b:Bool}:∀{ps:List (Int×Int)},ct l f b ps=0->∀p∈ps,wAt l p.1=wAt l p.2
 |[],_,p,hp=>by cases hp
 | q::ps,h,p,hp=>by
  rw[ct] at h;split at h
  ·rename_i h0
   rcases List.mem_cons.1 hp with rfl|hp
   ·unfold dM at h0
    split at h0
    ·contradiction
    split at h0
    ·contradiction
    rename_i h2;exact aU h2
   ·exact o8 h p hp
  ·contradiction
theorem CG (h:aw m=0):∀p∈m.inits++m.nexts,wAt m.nodes p.1=wAt m.nodes p.2:=by
 obtain⟨hp,-⟩:=oV h;unfold fG at hp;split at hp
 ·contradiction
 rename_i h1;split at hp
 ·contradiction
 rename_i h2;intro p hm;rcases bY.1 hm with hm|hm
 ·exact o8 (aU h1) p hm
 ·exact o8 (aU h2) p hm
theorem ug (h:aw m=0) {V:List Int} (hV:InW m.nodes V) (hl:V.length=m.nodes.length) {p:Int×Int} (hp:p∈m.inits++m.nexts):0<=V.getD p.2.toNat 0/\V.getD p.2.toNat 0<((2^(wAt m.nodes p.1).toNat:Nat):Int):=by
 have h2:=((ei h).pairs p hp).2;rw[CG h p hp];have:=hV p.2.toNat (by rw[hl];exact h2.2)
 rwa [show ((p.2.toNat:Nat):Int)=p.2 from Int.toNat_of_nonneg h2.1] at this
theorem pa (h:aw m=0) {V:List Int} (hV:InW m.nodes V) (hl:V.length=m.nodes.length):cy m.nodes (ah m.nodes 3) (dO m V)=0:=by
 have hall:=oZ h;unfold cy dO iO;rw[if_neg (by simp)];generalize ah m.nodes 3=st at *
 induction st with
 |nil=>rfl
 |cons s st ih=>
  rw[bP,cY,if_pos]
  ·exact ih λa ha=>hall a (by simp[ha])
  ·exact ug h hV hl (bY.2 (.inr (jX (hall s (by simp)))))
theorem CH (h:aw m=0) {wish:List Int} (hw:cy m.nodes (ah m.nodes 3) wish=0):cy m.nodes (ah m.nodes 3) (dz m wish)=0:=by
 have hV:InW m.nodes (fT m):=mr h oU;have hl:(fT m).length=m.nodes.length:=jV;unfold cy at hw;split at hw
 ·cases hw
 rename_i hlen;have hlen:wish.length=(ah m.nodes 3).length:=aU hlen;unfold dz;generalize ah m.nodes 3=st at *;have key:∀(st wish:List Int),wish.length=st.length->cY m.nodes st wish=0->(gr (fT m) m.inits st wish).length=st.length/\cY m.nodes st (gr (fT m) m.inits st wish)=0:=by
  intro st
  induction st with
  |nil=>intro w _ _;cases w<;>exact⟨rfl,rfl⟩
  | cons s st ih=>
   intro w hl2 hf;obtain⟨v,vs,rfl,h0,h1,h2,h3⟩:=ov hl2 hf;obtain⟨i1,i2⟩:=ih vs h2 h3;rw[gr];refine⟨by simp[i1],?_⟩;rw[cY,if_pos]
   ·exact i2
   ·by_cases hh:en m.inits s=true
    ·rw[if_pos hh]
     exact ug h hV hl (bY.2 (.inl (jX hh)))
    ·rw[if_neg hh];exact⟨h0,h1⟩
 obtain⟨k1,k2⟩:=key st wish hlen hw;unfold cy;rw[if_neg (by simp[k1])];exact k2
variable {gh:List GObj}
end
def bm (L:List Nd):List Int->Nat
 |[]=>0
 |a::l=>(wAt L a).toNat+bm L l
theorem uh {L:List Nd}:∀{ns:List Int} {s:Int},(∀a∈ns,1<=wAt L a/\wAt L a<=8)->0<=s->s+8*ns.length<=100000->ns.foldl (λs a=>WI.wrap (s+wAt L a)) s=s+bm L ns
 |[],s,_,_,_=>by simp[bm]
 |a::ns,s,h,h0,h1=>by have ha:=h a (bE ..);simp only[bA] at h1;rw[List.foldl_cons,ay (n:=s+wAt L a) (by omega) (by omega),uh (λb hb=>h b (bF _ hb)) (by omega) (by omega),bm];omega
theorem pb {m:Md} (h:aw m=0) (kind:Int):dY m.nodes kind=bm m.nodes (ah m.nodes kind):=by
 have hf:=lZ m.nodes kind 0 m.nodes 0 rfl;have hl:=fH (ei h) kind;have hw:=iK h kind
 show (List.filter _ _).foldl jj 0=_
 rw[<-hf];have:=uh (L:=m.nodes) (ns:=ah m.nodes kind) (s:=0) (λa ha=>(hw a ha).2) (by omega) (by omega);unfold ah at this ⊢;rw[this,Int.zero_add]
theorem dB {m:Md} (h:aw m=0):bm m.nodes (ah m.nodes 2)<=6/\bm m.nodes (ah m.nodes 3)<=10:=by
 have h2:=pb h 2;have h3:=pb h 3;unfold aw at h;split at h
 ·contradiction
 split at h
 ·contradiction
 split at h
 ·contradiction
 omega
def dw (L:List Nd):List Int->List Int->Nat
 |a::ns,x::xs=>x.toNat+2^(wAt L a).toNat*dw L ns xs
 |_,_=>0
def cr (L:List Nd):List Int->Nat->List Int
 |[],_=>[]
 |a::ns,v=>((v%2^(wAt L a).toNat:Nat):Int)::cr L ns (v/2^(wAt L a).toNat)
theorem ms {L:List Nd}:∀{ns:List Int} {v:Nat},(cr L ns v).length=ns.length
 |[],_=>rfl
 |_::ns,v=>by simp[cr,ms (ns:=ns)]
theorem pc {L:List Nd}:∀{ns xs:List Int},cY L ns xs=0->dw L ns xs<2^bm L ns
 |[],xs,_=>by cases xs<;>simp[dw,bm]
 |a::ns,[],_=>by simp only[dw];exact Nat.two_pow_pos _
 | a::ns,x::xs,h=>by
  rw[cY] at h;split at h
  ·rename_i hc
   have:=pc h;have h1:x.toNat<2^(wAt L a).toNat:=by omega
   rw[dw,bm,Nat.pow_add]
   calc x.toNat+2^(wAt L a).toNat*dw L ns xs<2^(wAt L a).toNat*(dw L ns xs+1):=by rw[Nat.mul_add];omega
    _<=_:=Nat.mul_le_mul_left _ this
  ·cases h
theorem ui {L:List Nd}:∀{ns:List Int} {v:Nat},cY L ns (cr L ns v)=0
 |[],v=>rfl
 |a::ns,v=>by have:v%2^(wAt L a).toNat<2^(wAt L a).toNat:=Nat.mod_lt _ (Nat.two_pow_pos _);rw[cr,cY,if_pos (by omega)];exact ui
theorem uj {L:List Nd}:∀{ns xs:List Int},xs.length=ns.length->cY L ns xs=0->cr L ns (dw L ns xs)=xs
 |[],[],_,_=>rfl
 | a::ns,x::xs,hl,h=>by
  rw[cY] at h;split at h
  ·rename_i hc
   have h1:x.toNat<2^(wAt L a).toNat:=by omega
   have hp:=Nat.two_pow_pos (wAt L a).toNat;rw[dw,cr,Nat.add_mul_mod_self_left,cL h1,Nat.add_mul_div_left _ _ hp,Nat.div_eq_of_lt h1,cN,uj (by simpa using hl) h];rw[Int.toNat_of_nonneg hc.1]
  ·cases h
theorem mu {L:List Nd} {ns vs:List Int} (h:cy L ns vs=0):vs.length=ns.length/\cY L ns vs=0:=by
 unfold cy at h;split at h
 ·cases h
 ·rename_i hl;exact⟨aU hl,h⟩
theorem ii {L:List Nd} (ns:List Int) (v:Nat):cy L ns (cr L ns v)=0:=by unfold cy;rw[if_neg (by simp[ms])];exact ui
theorem uk {A b:Nat} (h:A*2^b<65536) (hb:b<=16):cS .i64 (A:Int) (b:Int)=(A*2^b:Nat):=by
 unfold cS;have e:(A:Int)*2^(min (b:Int).toNat IntKind.i64.bits)=((A*2^b:Nat):Int):=by
  have:min (b:Int).toNat IntKind.i64.bits=b:=by
   show min (b:Int).toNat 64=b
   simp;omega
  rw[this];simp
 rw[e];exact ay (by omega) (by omega)
theorem CI {k x t:Nat} (hk:k<2^t) (h:x*2^t+k<65536) (ht:t<=16):iOr .i64 (k:Int) (cS .i64 (x:Int) (t:Int))=((k+2^t*x:Nat):Int):=by rw[uk (by omega) ht,nJ (by omega) (by omega)];have:=Nat.two_pow_add_eq_or_of_lt hk x;rw[Nat.or_comm,Nat.mul_comm x,<-this,Nat.add_comm]
section
variable {m:Md} {gh:List GObj}
structure XSt where
 deep:List (Int×Int)
 queue:List (List Int)
 reached:Int
 far:Int
 bad:Bool
 badAt:Int
def xC (m:Md) (b:Nat) (X:XSt):List PV:=
 [LN m.nodes,LP m.inits,LP m.nexts,LI m.bads,LI m.holds,.mp b,.sl true 1 (X.queue.map λl=>LI l),I X.reached,I X.far,B X.bad,I X.badAt]
def mw (g0:Nat) (m:Md) (s:List Int) (ns:List Int) (k t i:Nat) (gh:List GObj):St:=
 ⟨[(0,.ptr true g0 0),(1,LI s),(5,I (k:Int)),(6,I (t:Int)),(13,LI ns),(14,I ns.length),(15,I (i:Int))],[],gh⟩
theorem ul {g0 b:Nat} {X:XSt} (hb:gh[g0]?=some (.cells (xC m b X))) {ns s:List Int} (hx:fS m.nodes ns) (hl:ns.length<=1000) (hv:s.length=ns.length):∀k i (c t:Nat),i+k=ns.length->cY m.nodes (ns.drop i) (s.drop i)=0->c<2^t->t+bm m.nodes (ns.drop i)<=10->
  ab pg q61 (mw g0 m s ns c t i gh)=some (.normal,⟨[(5,I ((c+2^t*dw m.nodes (ns.drop i) (s.drop i):Nat):Int))],[],gh⟩)
 | 0,i,c,t,h,_,_,_=>by
  rw[aQ (by omega),dw,Nat.mul_zero,cA]
  ·have hlt:¬(i:Int)<(ns.length:Int):=by omega
   refine (bj (s1:=?s1) (qfg ?h1)).trans ?r1
   case h1=>simp only[aF hlt,dJ];rfl
   case r1=>simp[keep,bf]
  ·simp
 | k +1,i,c,t,h,hw,hc,ht=>by
  have hlt:i<ns.length:=by omega
  have hltI:(i:Int)<(ns.length:Int):=by omega
  have hlv:i<s.length:=by omega
  have e2:WI.wrap ((i:Int)+1)=((i+1:Nat):Int):=by rw[ay (by omega) (by omega)];omega
  have hg:(ns.map I)[i]?=some (I ns[i]):=by simp[aA hlt]
  have hgv:(s.map I)[i]?=some (I s[i]):=by simp[aA hlv]
  obtain⟨hno,hwd⟩:=hx _ (bX hlt);have hn:=eH hno;have h0:=hno.1;rw[aL hlt,aL hlv] at hw ⊢;rw[aL hlt,bm] at ht;rw[cY] at hw;rw[dw];split at hw
  ·rename_i hvc
   have hnx:s[i].toNat<2^(wAt m.nodes ns[i]).toNat:=by omega
   have hnum:=pc hw;have hxe:((s[i].toNat:Nat):Int)=s[i]:=Int.toNat_of_nonneg hvc.1;have hwe:(((wAt m.nodes ns[i]).toNat:Nat):Int)=wAt m.nodes ns[i]:=Int.toNat_of_nonneg (by omega);have hp10:2^t*2^(wAt m.nodes ns[i]).toNat<=1024:=by
    rw[<-Nat.pow_add];have h5:t+(wAt m.nodes ns[i]).toNat<=10:=by omega
    exact bN (n:=2) (by decide) h5
   have hc2:c+2^t*s[i].toNat<2^(t+(wAt m.nodes ns[i]).toNat):=by
    rw[Nat.pow_add]
    calc c+2^t*s[i].toNat<2^t*(s[i].toNat+1):=by rw[Nat.mul_add];omega
     _<=_:=Nat.mul_le_mul_left _ hnx
   have hor:=CI (x:=s[i].toNat) hc (by rw[Nat.pow_add] at hc2;rw[Nat.mul_comm];omega) (by omega);have ih:=ul hb hx hl hv k (i+1) (c+2^t*s[i].toNat) (t+(wAt m.nodes ns[i]).toNat) (by omega) hw hc2 (by omega);have hfin:c+2^t*(s[i].toNat+2^(wAt m.nodes ns[i]).toNat*dw m.nodes (ns.drop (i+1)) (s.drop (i+1)))=c+2^t*s[i].toNat+2^(t+(wAt m.nodes ns[i]).toNat)*dw m.nodes (ns.drop (i+1)) (s.drop (i+1)):=by rw[Nat.pow_add,Nat.mul_add,Nat.mul_assoc];omega
   rw[hfin];generalize c+2^t*s[i].toNat+2^(t+(wAt m.nodes ns[i]).toNat)*dw m.nodes (ns.drop (i+1)) (s.drop (i+1))=R at *;rw[hxe] at hor;have hat:WI.wrap ((t:Int)+wAt m.nodes ns[i])=((t+(wAt m.nodes ns[i]).toNat:Nat):Int):=by rw[ay (by omega) (by omega)];omega
   generalize c+2^t*s[i].toNat=c2 at *;generalize t+(wAt m.nodes ns[i]).toNat=t2 at *;generalize ns[i]=a at *;generalize s[i]=v at *;refine ba (s1:=mw g0 m s ns c2 t2 (i+1) gh) (qfg ?_) ih;unfold mw;unfold wAt at *;generalize hd:m.nodes.getD a.toNat default=d at *;rw[cU d] at hn;simp only[xC] at hb;simp[hltI,hg,hgv,h0,hn,hb,e2,hor,hat,-List.getElem?_map]
  ·cases hw
theorem pd {g0 b:Nat} {X:XSt} (hb:gh[g0]?=some (.cells (xC m b X))) (hm:aw m=0) {s:List Int} (hs:cy m.nodes (ah m.nodes 3) s=0) :
  ac pg 269 [.ptr true g0 0,LI s] gh=some (I (dw m.nodes (ah m.nodes 3) s:Nat),gh):=by
 obtain⟨h1,h2⟩:=mu hs;have hl:=fH (ei hm) 3;have h:=ul hb (iK hm 3) (by omega) h1 _ 0 0 0 (cN _) (by simpa using h2) (by decide) (by simpa using (dB hm).2);simp only[bK,cN,Nat.pow_zero,Nat.one_mul] at h;unfold mw at h;simp only[aW] at h;have ho:=ie (gh:=gh) (m:=m) (kind:=3) (by have:=(ei hm).len;omega);have hk:=qj9 (pg:=pg) (gh:=gh) (x5:=(dw m.nodes (ah m.nodes 3) s:Nat)) rfl;generalize dw m.nodes (ah m.nodes 3) s=N at *;generalize ah m.nodes 3=K at *;rw[bv] at ho;simp only[xC] at hb;simp only[LI] at *;have hlK:K.length=(K.map I).length:=(bB _).symm;rw[hlK] at h;generalize s.map I=sL at *
 generalize K.map I=kL at *;refine ao (fn:=q63) (s:=⟨[(4,I N)],[],gh⟩) rfl rfl (qja ?h1) ?r1
 case h1=>simp[hb,ho,h,hk]
 case r1=>simp[ak,results,q63,am,aq,ai]
end
section
variable {m:Md} {gh:List GObj}
def bu (m:Md) (s:List Int):Nat:=dw m.nodes (ah m.nodes 3) s
def eo (m:Md) (X:XSt) (s:List Int) (d:Int):XSt:=
 match bo X.deep (bu m s) with
 |some _=>X
 |none=>{X with deep:=eE X.deep (bu m s) d,queue:=X.queue++[s],reached:=WI.wrap (X.reached+1),far:=d }
def putX (b g0:Nat) (m:Md) (X:XSt) (gh:List GObj):List GObj:=(gh.set b (.map (bl X.deep))).set g0 (.cells (xC m b X))
structure XAt (b g0:Nat) (m:Md) (X:XSt) (gh:List GObj):Prop where
 map:gh[b]?=some (.map (bl X.deep))
 box:gh[g0]?=some (.cells (xC m b X))
 ne:b≠g0
theorem pe {α:Type} {l:List α} {i:Nat} {x:α} (h:l[i]?=some x):l.set i x=l:=by
 apply List.ext_getElem?;intro j;rw[cE];split
 ·rename_i hij
  subst hij;split
  ·exact h.symm
  ·rename_i hlt;rw[List.getElem?_eq_none (by omega)] at h;cases h
 ·rfl
theorem XAt.self {b g0:Nat} {X:XSt} (h:XAt b g0 m X gh):putX b g0 m X gh=gh:=by unfold putX;rw[pe h.map,pe h.box]
theorem XAt.put {b g0:Nat} {X:XSt} (h:XAt b g0 m X gh) (Y:XSt):XAt b g0 m Y (putX b g0 m Y gh):=by
 have h1:=(aD.1 h.map).1;have h2:=(aD.1 h.box).1;refine⟨?_,?_,h.ne⟩
 ·unfold putX
  rw[List.getElem?_set_ne h.ne.symm,List.getElem?_set_self h1]
 ·unfold putX
  rw[List.getElem?_set_self (by simpa using h2)]
theorem pf {b g0:Nat} {X:XSt}:(putX b g0 m X gh).length=gh.length:=by simp[putX]
theorem ez {b g0 i:Nat} {X:XSt} (h1:i≠b) (h2:i≠g0):(putX b g0 m X gh)[i]?=gh[i]?:=by unfold putX;rw[List.getElem?_set_ne (Ne.symm h2),List.getElem?_set_ne (Ne.symm h1)]
theorem ph {b g0:Nat} {X Y:XSt} (hne:b≠g0):putX b g0 m Y (putX b g0 m X gh)=putX b g0 m Y gh:=by unfold putX;have h1:=List.set_comm (l:=gh.set b (GObj.map (bl X.deep))) (GObj.cells (xC m b X)) (GObj.map (bl Y.deep)) (Ne.symm hne);rw[h1,List.set_set,List.set_set]
theorem um {b g0:Nat} {X:XSt} (h:XAt b g0 m X gh) (hm:aw m=0) {s:List Int} (hs:cy m.nodes (ah m.nodes 3) s=0) {d:Int} (hq:X.queue.length<=1000000) :
  ac pg 394 [.ptr true g0 0,LI s,I d] gh=some (.tup [],putX b g0 m (eo m X s d) gh):=by
 have hk:=pd h.box hm hs;have h1:=h.map;have h2:=h.box;have hne:=h.ne;have hself:=h.self;unfold eo
 show _=some (PV.tup [],putX b g0 m (match bo X.deep (bu m s) with|some _=>X|none=>_) gh)
 rw[show dw m.nodes (ah m.nodes 3) s=bu m s from rfl] at hk;generalize bu m s=K at *;cases hf:bo X.deep K with
 | some v=>
  simp only;rw[hself];simp only[xC] at h2;have h3:=qfh (pg:=pg) (gh:=gh) (g0:=g0) (o0:=0) (v1:=LI s) (x2:=d) (e:= .ret) (s:=⟨[(0,.ptr true g0 0),(1,LI s),(2,I d),(6,I K),(21,B true)],[],gh⟩) (by generalize X.queue.map (λl=>LI l)=Q at *;generalize m.nodes.map bn=nL at *;simp only[LI] at *;generalize s.map I=sL at *;simp[hk,h1,h2,hf,-jg,jg]);rw[jM (fn:=q28) rfl rfl h3];simp[ak,results,q28,am,ai]
 | none=>
  simp only;unfold putX;have hlt:=(aD.1 h2).1;have hs1:∀C,((gh.set b (.map (bl (eE X.deep K d)))).set g0 (.cells C))[g0]?=some (.cells C):=λC=>List.getElem?_set_self (by simpa using hlt)
  have h2':(gh.set b (.map (bl (eE X.deep K d))))[g0]?=some (.cells (xC m b X)):=by rw[List.getElem?_set_ne hne];exact h2
  have hq2:(X.queue.length+1)*24<=maxBytes:=by have:=MB;omega
  obtain⟨X1,X2,X3,X4,X5,X6⟩:=X;simp only[xC] at *;have hsn:((X2++[s]).map λl=>LI l)=(X2.map λl=>LI l)++[LI s]:=by simp
  rw[hsn];have hql:X2.length=(X2.map λl=>LI l).length:=(bB _).symm;rw[hql] at hq2;generalize X2.map (λl=>LI l)=Q at *;simp only[LP,LN,LI] at *;generalize s.map I=sL at *;generalize m.nodes.map bn=nL at *;generalize m.inits.map bq=iL at *;generalize m.nexts.map bq=xL at *;generalize m.bads.map I=bL at *;generalize m.holds.map I=hL at *
  have h3:=qfh (pg:=pg) (gh:=gh) (g0:=g0) (o0:=0) (v1:= .sl false 1 sL) (x2:=d) (e:= .normal) (s:=⟨[],[],(gh.set b (.map (bl (eE X1 K d)))).set g0 (.cells [.sl false 6 nL,.sl false 2 iL,.sl false 2 xL,.sl false 1 bL,.sl false 1 hL,.mp b,.sl true 1 (Q++[.sl false 1 sL]),I (WI.wrap (X3+1)),I d,B X5,I X6])⟩) (by simp[hk,h1,h2,h2',hf,hs1,hq2,ax]);rw[jM (fn:=q28) rfl rfl h3];simp[ak,results,q28,am,ai]
end
section
variable {m:Md} {gh:List GObj}
abbrev mCs (m:Md):List PV:=[LN m.nodes,LP m.inits,LP m.nexts,LI m.bads,LI m.holds]
def mB (gh:List GObj) (m:Md) (ns:List Int):List GObj:=gh++[.cells (mCs m),.cells [LI ns]]
theorem uo {kind:Int} (hl:m.nodes.length<=1000):ac pg 259 [dc m,I kind] gh=some (.fn 267 [.ptr true (gh.length+1) 0,.ptr true gh.length 0],mB gh m (ah m.nodes kind)):=by
 have ho:=ie (gh:=gh++[.cells (mCs m)]) (m:=m) (kind:=kind) hl;unfold mB;generalize ah m.nodes kind=K at *;rw[bv] at ho ⊢;unfold mCs at *;simp only[LP,LN,LI] at *;generalize K.map I=kL at *;generalize m.nodes.map bn=nL at *;generalize m.inits.map bq=iL at *;generalize m.nexts.map bq=xL at *;generalize m.bads.map I=bL at *;generalize m.holds.map I=hL at *;refine ao (fn:=q5r) (s:=⟨[(4,.fn 267 [.ptr true (gh.length+1) 0,.ptr true gh.length 0])],[],gh++[.cells [.sl false 6 nL,.sl false 2 iL,.sl false 2 xL,.sl false 1 bL,.sl false 1 hL],.cells [.sl false 1 kL]]⟩) rfl rfl (qjd ?h1) ?r1
 case h1=>simp[ho,ax]
 case r1=>
  have hok:ai (.fn 267 [.ptr true (gh.length+1) 0,.ptr true gh.length 0])=true:=rfl;simp[ak,results,q5r,am,aq,hok]
def vx1 (rb g1 g2:Nat) (ns:List Int) (t i:Nat) (gh:List GObj):St:=
 ⟨[(0,.yl rb),(1,.ptr true g1 0),(2,.ptr true g2 0),(4,I (t:Int)),(12,LI ns),(13,I ns.length),(14,I (i:Int))],[],gh⟩
theorem up {rb g1 g2:Nat} (h2:gh[g2]?=some (.cells (mCs m))) {ns:List Int} (hx:fS m.nodes ns) (hl:ns.length<=1000):∀k i (t:Nat),i+k=ns.length->t+8*k<=10000->
  ab pg q5s (vx1 rb g1 g2 ns t i gh)=some (.normal,⟨[(0,.yl rb),(1,.ptr true g1 0),(2,.ptr true g2 0),(4,I ((t+bm m.nodes (ns.drop i):Nat):Int))],[],gh⟩)
 |0,i,t,h,_=>by
  rw[aQ (by omega),bm,cA];have hlt:¬(i:Int)<(ns.length:Int):=by omega
  refine (bj (s1:=?s1) (qfi ?h1)).trans ?r1
  case h1=>simp only[aF hlt,dJ];rfl
  case r1=>simp[keep,bf]
 |k+1,i,t,h,ht=>by
  have hlt:i<ns.length:=by omega
  have hltI:(i:Int)<(ns.length:Int):=by omega
  have e2:WI.wrap ((i:Int)+1)=((i+1:Nat):Int):=by rw[ay (by omega) (by omega)];omega
  have hg:(ns.map I)[i]?=some (I ns[i]):=by simp[aA hlt]
  obtain⟨hno,hwd⟩:=hx _ (bX hlt);have hn:=eH hno;have h0:=hno.1;rw[aL hlt,bm];have ih:=up (rb:=rb) (g1:=g1) h2 hx hl k (i+1) (t+(wAt m.nodes ns[i]).toNat) (by omega) (by omega);have hat:WI.wrap ((t:Int)+wAt m.nodes ns[i])=((t+(wAt m.nodes ns[i]).toNat:Nat):Int):=by rw[ay (by omega) (by omega)];omega
  rw[<-Nat.add_assoc];generalize t+(wAt m.nodes ns[i]).toNat=t2 at *;generalize t2+bm m.nodes (ns.drop (i+1))=R at *;generalize ns[i]=a at *;refine ba (s1:=vx1 rb g1 g2 ns t2 (i+1) gh) (qfi ?_) ih;unfold vx1;unfold wAt at *;generalize hd:m.nodes.getD a.toNat default=d at *;rw[cU d] at hn;simp[hltI,hg,h0,hn,h2,e2,hat,-List.getElem?_map]
def vx3 (rb g1 g2:Nat) (N v0:Int) (ns acc:List Int) (v i:Nat) (gh:List GObj):St:=
 ⟨[(0,.yl rb),(1,.ptr true g1 0),(2,.ptr true g2 0),(7,I (v:Int)),(8,.sl true 1 (acc.map I)),(28,I N),(29,I v0),(33,LI ns),(34,I ns.length),(35,I (i:Int))],[],gh⟩
theorem uq {rb g1 g2:Nat} {N v0:Int} (h2:gh[g2]?=some (.cells (mCs m))) {ns:List Int} (hx:fS m.nodes ns) (hl:ns.length<=1000):∀k i (v:Nat) (acc:List Int),i+k=ns.length->v<65536->acc.length<=i->
  ab pg q5t (vx3 rb g1 g2 N v0 ns acc v i gh)=some (.normal,⟨[(0,.yl rb),(1,.ptr true g1 0),(2,.ptr true g2 0),(8,.sl true 1 ((acc++cr m.nodes (ns.drop i) v).map I)),(28,I N),(29,I v0)],[],gh⟩)
 |0,i,v,acc,h,_,_=>by
  rw[aQ (by omega),cr,bG];have hlt:¬(i:Int)<(ns.length:Int):=by omega
  refine (bj (s1:=?s1) (qfj ?h1)).trans ?r1
  case h1=>simp only[aF hlt,dJ];rfl
  case r1=>simp[keep,bf]
 | k+1,i,v,acc,h,hv,ha=>by
  have hlt:i<ns.length:=by omega
  have hltI:(i:Int)<(ns.length:Int):=by omega
  have e2:WI.wrap ((i:Int)+1)=((i+1:Nat):Int):=by rw[ay (by omega) (by omega)];omega
  have hg:(ns.map I)[i]?=some (I ns[i]):=by simp[aA hlt]
  obtain⟨hno,hwd⟩:=hx _ (bX hlt);have hn:=eH hno;have h0:=hno.1;have hmx:(acc.length+1)*8<=maxBytes:=by have:=MB;omega
  rw[aL hlt,cr];have hwn:(((wAt m.nodes ns[i]).toNat:Nat):Int)=wAt m.nodes ns[i]:=Int.toNat_of_nonneg (by omega);have hw8:(wAt m.nodes ns[i]).toNat<=8:=by omega
  have hmask:=sG hw8;have hand:=sF (v:Int) hw8;have hshr:=lV v (wAt m.nodes ns[i]).toNat (by omega);rw[<-hmask,hwn] at hand;rw[hwn] at hshr;have hand2:(v:Int)%(2:Int)^(wAt m.nodes ns[i]).toNat=((v%2^(wAt m.nodes ns[i]).toNat:Nat):Int):=by simp
  rw[hand2] at hand;have ih:=uq (rb:=rb) (g1:=g1) (N:=N) (v0:=v0) h2 hx hl k (i+1) (v/2^(wAt m.nodes ns[i]).toNat) (acc++[((v%2^(wAt m.nodes ns[i]).toNat:Nat):Int)]) (by omega) (Nat.lt_of_le_of_lt (Nat.div_le_self _ _) hv) (by simp;omega);rw[aY,List.singleton_append] at ih;have hnn:0<=wAt m.nodes ns[i]:=by omega
  generalize (acc++((v%2^(wAt m.nodes ns[i]).toNat:Nat):Int)::cr m.nodes (ns.drop (i+1)) (v/2^(wAt m.nodes ns[i]).toNat)).map I=R at *;generalize v%2^(wAt m.nodes ns[i]).toNat=d1 at *;generalize v/2^(wAt m.nodes ns[i]).toNat=d2 at *;generalize ns[i]=a at *;refine ba (s1:=vx3 rb g1 g2 N v0 ns (acc++[(d1:Int)]) d2 (i+1) gh) (qfj ?_) ih;unfold vx3;have hal:(acc.map I).length=acc.length:=by simp
  simp only[bJ,bP,bQ];generalize acc.map I=A at *;unfold wAt at *;generalize hd:m.nodes.getD a.toNat default=d at *;rw[cU d] at hn;simp[hltI,hg,h0,hn,h2,e2,hand,hshr,hnn,hal,hmx,-List.getElem?_map]
def bi {X:Type} (f:X->Nat->X):Nat->X->Nat->X
 |0,x,_=>x
 |k+1,x,v=>bi f k (f x v) (v+1)
variable {X:Type} {G:X->List GObj} {f:X->Nat->X} {Q:Nat->X->Prop} {rb g1 g2 y:Nat} {caps:List PV} {ns:List Int}
structure mC (m:Md) (G:X->List GObj) (f:X->Nat->X) (Q:Nat->X->Prop) (rb g1 g2 y:Nat) (caps:List PV) (ns:List Int):Prop where
 okc:caps.all aj=true
 lrc:∀v x,Q v x->(G x)[rb]?=some (.lrec 1 y caps)
 b1:∀v x,Q v x->(G x)[g1]?=some (.cells [LI ns])
 b2:∀v x,Q v x->(G x)[g2]?=some (.cells (mCs m))
 wd:fS m.nodes ns
 len:ns.length<=1000
 bits:bm m.nodes ns<=10
 step:∀v x,v<2^bm m.nodes ns->Q v x->ac pg y (caps++[LI (cr m.nodes ns v)]++[.yl rb]) (G x)=some (B true,G (f x v))/\Q (v+1) (f x v)
theorem ur (hv:mC m G f Q rb g1 g2 y caps ns):∀k v x,v+k=2^bm m.nodes ns->Q v x->
  ab pg q5v ⟨[(0,.yl rb),(1,.ptr true g1 0),(2,.ptr true g2 0),(28,I ((2^bm m.nodes ns:Nat):Int)),(29,I (v:Int))],[],G x⟩=some (.normal,⟨[],[],G (bi f k x v)⟩)
 |0,v,x,h,_=>by
  rw[bi];have hlt:¬(v:Int)<((2^bm m.nodes ns:Nat):Int):=by omega
  generalize ((2^bm m.nodes ns:Nat):Int)=N at *;refine (bj (s1:=?s1) (qfk ?h1)).trans ?r1
  case h1=>simp only[aF hlt,dJ];rfl
  case r1=>simp[keep]
 | k+1,v,x,h,hQ=>by
  have hp:2^bm m.nodes ns<=2^10:=bN (by decide) hv.bits;have hltN:v<2^bm m.nodes ns:=by omega
  have hltI:(v:Int)<((2^bm m.nodes ns:Nat):Int):=by omega
  have e2:WI.wrap ((v:Int)+1)=((v+1:Nat):Int):=by rw[ay (by omega) (by omega)];omega
  obtain⟨hs,hQ2⟩:=hv.step v x hltN hQ;have hr:=hv.lrc v x hQ;have hb1:=hv.b1 v x hQ;have hl3:=uq (rb:=rb) (g1:=g1) (N:=((2^bm m.nodes ns:Nat):Int)) (v0:=v) (hv.b2 v x hQ) hv.wd hv.len ns.length 0 v [] (by omega) (by omega) (by simp);have ih:=ur hv k (v+1) (f x v) (by omega) hQ2;rw[bi];rw[bK,bH] at hl3;unfold vx3 at hl3;simp only[bQ,aW] at hl3;have hyl:=λ(F:List GObj->Option (ag×St))=>zY (f:=F) hr hv.okc (vs:=[LI (cr m.nodes ns v)]) (by simp[aj,PV.cells,PV.one]) hs
  generalize bi f k (f x v) (v+1)=Rx at *;generalize cr m.nodes ns v=dg at *;generalize f x v=x2 at *;generalize ((2^bm m.nodes ns:Nat):Int)=N at *;obtain⟨u,hu⟩:∃u:Int,((v+1:Nat):Int)=u:=⟨_,rfl⟩
  rw[hu] at e2 ih;simp only[LI] at *;have hlI:ns.length=(ns.map I).length:=(bB _).symm;rw[hlI] at hl3;generalize ns.map I=nL at *;generalize dg.map I=dL at *;have hk2:=qje (pg:=pg) (gh:=G x) (v0:= .yl rb) (g1:=g1) (o1:=0) (g2:=g2) (o2:=0) (v8:= .sl true 1 dL) (x28:=N) (x29:=v) (e:= .normal) (s:=⟨[(0,.yl rb),(1,.ptr true g1 0),(2,.ptr true g2 0),(28,I N),(29,I v),(60,B false)],[],G x2⟩) (by simp[hyl])
  have hk3:=qjf (pg:=pg) (gh:=G x2) (v0:= .yl rb) (g1:=g1) (o1:=0) (g2:=g2) (o2:=0) (x28:=N) (x29:=v) (b60:=false) (e:= .normal) (s:=⟨[(0,.yl rb),(1,.ptr true g1 0),(2,.ptr true g2 0),(28,I N),(29,I u)],[],G x2⟩) (by simp[e2]);refine ba (qfk ?h3) ih
  case h3=>simp[hltI,hb1,hl3,hk2,hk3]
theorem ut (hv:mC m G f Q rb g1 g2 y caps ns) {x:X} (hQ:Q 0 x):ac pg 267 [.yl rb,.ptr true g1 0,.ptr true g2 0] (G x)=some (.tup [],G (bi f (2^bm m.nodes ns) x 0)):=by
 have h1:=up (rb:=rb) (g1:=g1) (hv.b2 0 x hQ) hv.wd hv.len ns.length 0 0 (by omega) (by have:=hv.len;omega);have h2:=ur hv (2^bm m.nodes ns) 0 x (by omega) hQ;have hb1:=hv.b1 0 x hQ;have hsh:cS .i64 1 ((bm m.nodes ns:Nat):Int)=((2^bm m.nodes ns:Nat):Int):=by have hp:2^bm m.nodes ns<=2^10:=bN (by decide) hv.bits;have:=uk (A:=1) (b:=bm m.nodes ns) (by omega) (by have:=hv.bits;omega);simpa using this
 unfold vx1 at h1;rw[bK,cN] at h1;simp only[aW] at h1 h2;have hnn:(0:Int)<=((bm m.nodes ns:Nat):Int):=by omega
 generalize bi f (2^bm m.nodes ns) x 0=Rx at *;generalize ((2^bm m.nodes ns:Nat):Int)=N at *;generalize ((bm m.nodes ns:Nat):Int)=bt at *;simp only[LI] at *;have hlI:ns.length=(ns.map I).length:=(bB _).symm;rw[hlI] at h1;generalize ns.map I=nL at *;have hk1:=qjg (pg:=pg) (gh:=G x) (v0:= .yl rb) (g1:=g1) (o1:=0) (g2:=g2) (o2:=0) (x4:=bt) (e:= .normal) (s:=⟨[],[],G Rx⟩) (by simp[hsh,h2,hnn]);have h3:=qjh (pg:=pg) (gh:=G x) (v0:= .yl rb) (g1:=g1) (o1:=0) (g2:=g2) (o2:=0) (e:= .normal) (s:=⟨[],[],G Rx⟩) (by simp[hb1,h1,hk1]);rw[jM (fn:=q5x) rfl rfl h3];simp[ak,results,q5x,am,ai]
end
section
variable {m:Md} {gh:List GObj}
def fU (m:Md) (s:List Int) (deep:Int) (X:XSt) (k:List Int):XSt:=
 if eR m (ch m s k) then
  eo m (if ft m (ch m s k)&& !X.bad then {X with bad:=true,badAt:=deep } else X) (dO m (ch m s k)) (WI.wrap (deep+1))
 else X
structure RAt (b g0:Nat) (m:Md) (X:XSt) (s:List Int) (deep:Int) (i:Nat) (G:List GObj):Prop extends XAt b g0 m X G where
 c2:G[i]?=some (.cells [.ptr true g0 0])
 c3:G[i+1]?=some (.cells [LI s])
 c4:G[i+2]?=some (.cells [I deep])
 b2:b<i
 b3:g0<i
theorem RAt.put {b g0 i:Nat} {X:XSt} {s:List Int} {deep:Int} {G:List GObj} (h:RAt b g0 m X s deep i G) (Y:XSt):RAt b g0 m Y s deep i (putX b g0 m Y G):=by have h2:=h.b2;have h3:=h.b3;exact⟨h.toXAt.put Y,by rw[ez (by omega) (by omega)];exact h.c2,by rw[ez (by omega) (by omega)];exact h.c3,by rw[ez (by omega) (by omega)];exact h.c4,h2,h3⟩
theorem uu {b g0 i:Nat} {X:XSt} {s:List Int} {deep:Int} {G:List GObj} (h:RAt b g0 m X s deep i G) (hm:aw m=0) {V:List Int} (hV:V.length=m.nodes.length) (hw:cy m.nodes (ah m.nodes 3) (dO m V)=0) (hq:X.queue.length<=1000000) :
  ab pg q1r ⟨[(2,.ptr true i 0),(4,.ptr true (i+2) 0),(6,LI V)],[],G⟩=some (.normal,⟨[],[],putX b g0 m (eo m X (dO m V) (WI.wrap (deep+1))) G⟩):=by
 have e1:=CC (gh:=G) hm hV;have e2:=um h.toXAt hm hw (d:=WI.wrap (deep+1)) hq;have h1:=h.box;have h2:=h.c2;have h4:=h.c4;generalize putX b g0 m (eo m X (dO m V) (WI.wrap (deep+1))) G=R at *;generalize dO m V=nx at *;rw[bv] at e1;simp only[xC] at h1;simp only[LP,LN,LI] at *;generalize X.queue.map (λl=>PV.sl false 1 (l.map I))=Q at *;generalize nx.map I=nL' at *;generalize V.map I=vL at *;generalize m.nodes.map bn=nL at *;generalize m.inits.map bq=iL at *;generalize m.nexts.map bq=xL at *;generalize m.bads.map I=bL at *;generalize m.holds.map I=hL at *;refine qji ?_
 simp[h1,h2,h4,e1,e2]
theorem uv {b g0 i:Nat} {X:XSt} {G:List GObj} {t:Bool} {a:Int} (h:XAt b g0 m X G):putX b g0 m {X with bad:=t,badAt:=a } G=G.set g0 (.cells (xC m b {X with bad:=t,badAt:=a })):=by unfold putX;rw[pe h.map]
theorem CJ {b g0 i:Nat} {X:XSt} {s:List Int} {deep:Int} {G:List GObj} (h:RAt b g0 m X s deep i G) (hm:aw m=0) (hs:cy m.nodes (ah m.nodes 3) s=0) {k:List Int} (hk:cy m.nodes (ah m.nodes 2) k=0) (hq:X.queue.length<=1000000) :
  ∃e lh,ab pg q5y ⟨[(2,.ptr true i 0),(3,.ptr true (i+1) 0),(4,.ptr true (i+2) 0),(5,LI k)],[],G⟩=some (.normal,⟨e,lh,putX b g0 m (fU m s deep X k) G⟩):=by
 have hg:=kQ hs hk;have hV:(ch m s k).length=m.nodes.length:=jV;have e1:=tD (gh:=G) hm hg;have e2:=CE (gh:=G) hm hV;have hnx:=pa hm (mr hm hg) hV;have hself:=h.toXAt.self;have hlt:=(aD.1 h.box).1;have hi2:=(aD.1 h.c2).1;have hi4:=(aD.1 h.c4).1;have h3':=h.b3;unfold fU;cases hh:eR m (ch m s k) with
 |false=>
  rw[if_neg (by simp),hself];rw[hh] at e2;have h1:=h.box;have h2:=h.c2;have h3:=h.c3;refine⟨_,_,q9q (e:= .normal) (s:=⟨[(2,.ptr true i 0),(4,.ptr true (i+2) 0),(6,LI (ch m s k)),(8,B (ft m (ch m s k))),(40,B true)],[],G⟩) ?_⟩;generalize ft m (ch m s k)=bb at *;generalize ch m s k=V at *;rw[bv] at e1 e2;simp only[xC] at h1;simp only[LP,LN,LI] at *;generalize X.queue.map (λl=>PV.sl false 1 (l.map I))=Q at *;generalize V.map I=vL at *;generalize s.map I=sL at *;generalize k.map I=kL at *;generalize m.nodes.map bn=nL at *;generalize m.inits.map bq=iL at *;generalize m.nexts.map bq=xL at *
  generalize m.bads.map I=bL at *;generalize m.holds.map I=hL at *;simp[h1,h2,h3,e1,e2]
 | true=>
  rw[if_pos rfl];rw[hh] at e2;cases hb:(ft m (ch m s k)&& !X.bad) with
  |true=>
   rw[if_pos rfl];simp only[aX,Bool.not_eq_true'] at hb;obtain⟨hb1,hb2⟩:=hb;rw[hb1] at e2;have hR:=h.put {X with bad:=true,badAt:=deep };rw[uv (i:=i) h.toXAt] at hR;have hk1:=uu hR hm hV hnx hq;have hpp:=ph (m:=m) (gh:=G) (X:={X with bad:=true,badAt:=deep }) (Y:=eo m {X with bad:=true,badAt:=deep } (dO m (ch m s k)) (WI.wrap (deep+1))) h.ne;rw[uv (i:=i) h.toXAt] at hpp;rw[hpp] at hk1;generalize putX b g0 m (eo m {X with bad:=true,badAt:=deep } (dO m (ch m s k)) (WI.wrap (deep+1))) G=R at *;have h1:=h.box;have h2:=h.c2;have h3:=h.c3;have h4:=h.c4
   have hs1:∀C,(G.set g0 (.cells C))[g0]?=some (.cells C):=λC=>List.getElem?_set_self hlt
   have hs2:∀C,(G.set g0 (.cells C))[i]?=some (.cells [.ptr true g0 0]):=λC=>by rw[List.getElem?_set_ne (by omega)];exact h2
   have hs4:∀C,(G.set g0 (.cells C))[i+2]?=some (.cells [I deep]):=λC=>by rw[List.getElem?_set_ne (by omega)];exact h4
   refine⟨_,_,q9q (e:= .normal) (s:=⟨[],[],R⟩) ?_⟩;generalize ch m s k=V at *;have hkb2:=λ(C:List PV) (y:Option (ag×St))=>sr (gh:=G) (gh':=G.set g0 (.cells C)) (b:=i) (o:=0) (x:=y) hi2 (by rw[hs2,h2])
   have hkb4:=λ(C:List PV) (y:Option (ag×St))=>sr (gh:=G) (gh':=G.set g0 (.cells C)) (b:=i+2) (o:=0) (x:=y) hi4 (by rw[hs4,h4])
   rw[bv] at e1 e2;simp only[xC] at h1 hk1;rw[hb2] at h1;simp only[LP,LN,LI] at *;generalize X.queue.map (λl=>PV.sl false 1 (l.map I))=Q at *;generalize V.map I=vL at *;generalize s.map I=sL at *;generalize k.map I=kL at *;generalize m.nodes.map bn=nL at *;generalize m.inits.map bq=iL at *;generalize m.nexts.map bq=xL at *;generalize m.bads.map I=bL at *;generalize m.holds.map I=hL at *;simp[h1,h2,h3,h4,e1,e2,hs1,hs2,hkb2,hkb4,ax,hk1]
  | false=>
   rw[if_neg (by simp)];have hk1:=uu h hm hV hnx hq;generalize putX b g0 m (eo m X (dO m (ch m s k)) (WI.wrap (deep+1))) G=R at *;have h1:=h.box;have h2:=h.c2;have h3:=h.c3;refine⟨_,_,q9q (e:= .normal) (s:=⟨[],[],R⟩) ?_⟩;generalize ft m (ch m s k)=bb at *;generalize ch m s k=V at *;rw[bv] at e1 e2;simp only[xC] at h1;simp only[LP,LN,LI] at *;generalize X.queue.map (λl=>PV.sl false 1 (l.map I))=Q at *;generalize V.map I=vL at *;generalize s.map I=sL at *;generalize k.map I=kL at *;generalize m.nodes.map bn=nL at *;generalize m.inits.map bq=iL at *
   generalize m.nexts.map bq=xL at *;generalize m.bads.map I=bL at *;generalize m.holds.map I=hL at *;cases bb with
   |false=>simp[h1,h2,h3,e1,e2,hk1]
   |true=>
    have hb2:X.bad=true:=by simpa using hb
    rw[hb2] at h1;simp[h1,h2,h3,e1,e2,hk1]
end
section
variable {m:Md} {gh:List GObj}
theorem mD {b g0 i:Nat} {X:XSt} {o:GObj} (h1:i≠b) (h2:i≠g0):(putX b g0 m X gh).set i o=putX b g0 m X (gh.set i o):=by unfold putX;have e1:=List.set_comm (l:=gh.set b (GObj.map (bl X.deep))) (GObj.cells (xC m b X)) o (Ne.symm h2);have e2:=List.set_comm (l:=gh) (GObj.map (bl X.deep)) o (Ne.symm h1);rw[e1,e2]
theorem mE {α:Type} (l:List α) (a o:α):(l++[a]).set l.length o=l++[o]:=by simp
theorem uw (X:XSt) (s:List Int) (d:Int):(eo m X s d).queue.length<=X.queue.length+1:=by
 unfold eo;split
 ·omega
 ·simp
theorem CK (s:List Int) (deep:Int) (X:XSt) (k:List Int):(fU m s deep X k).queue.length<=X.queue.length+1:=by
 unfold fU;split
 ·refine bW (uw _ _ _) ?_
  split<;>simp
 ·omega
def kV (m:Md) (s:List Int) (deep:Int) (X:XSt) (v:Nat):XSt:=fU m s deep X (cr m.nodes (ah m.nodes 2) v)
def fu (m:Md) (s:List Int) (deep:Int) (X:XSt):XSt:=bi (kV m s deep) (2^bm m.nodes (ah m.nodes 2)) X 0
def cz (m:Md) (g0:Nat) (s:List Int) (deep:Int) (gh:List GObj):List GObj:=
 gh++[.cells [.ptr true g0 0],.cells [LI s],.cells [I deep],.cells (mCs m),.cells [LI (ah m.nodes 2)]]
abbrev eA (L:Nat):List PV:=[.ptr true L 0,.ptr true (L+1) 0,.ptr true (L+2) 0]
theorem ux {g0:Nat} {s:List Int} {deep:Int}:(cz m g0 s deep gh).length=gh.length+5:=by simp[cz]
theorem CL {b g0:Nat} {X:XSt} (hb:b<gh.length) (hg0:g0<gh.length) (hne:b≠g0) (hm:aw m=0) {s:List Int} (hs:cy m.nodes (ah m.nodes 3) s=0) {deep:Int} (hq:X.queue.length<=1000000) {k:List Int} (hk:cy m.nodes (ah m.nodes 2) k=0) :
  ac pg 395 (eA gh.length++[LI k]++[.yl (gh.length+5)]) (putX b g0 m X (cz m g0 s deep gh++[.lrec 1 395 (eA gh.length)]))=some (B true,putX b g0 m (fU m s deep X k) (cz m g0 s deep gh++[.lrec 1 395 (eA gh.length)])):=by
 have hl:=ux (m:=m) (gh:=gh) (g0:=g0) (s:=s) (deep:=deep);have hset:∀(Y:XSt) (o o':GObj),(putX b g0 m Y (cz m g0 s deep gh++[o])).set (gh.length+5) o'=putX b g0 m Y (cz m g0 s deep gh++[o']):=λY o o'=>by rw[mD (by omega) (by omega),<-hl,mE]
 have hget:∀(Y:XSt) (o:GObj),(putX b g0 m Y (cz m g0 s deep gh++[o]))[gh.length+5]?=some o:=λY o=>by rw[ez (by omega) (by omega),<-hl];simp
 have hR:RAt b g0 m X s deep gh.length (putX b g0 m X (cz m g0 s deep gh++[.lrec 2 395 (eA gh.length)])):=by
  refine⟨⟨?_,?_,hne⟩,?_,?_,?_,hb,hg0⟩
  ·unfold putX
   rw[List.getElem?_set_ne hne.symm,List.getElem?_set_self (by simp[cz];omega)]
  ·unfold putX
   rw[List.getElem?_set_self (by simp[cz];omega)]
  ·rw[ez (by omega) (by omega)];simp[cz]
  ·rw[ez (by omega) (by omega)];simp[cz]
  ·rw[ez (by omega) (by omega)];simp[cz]
 obtain⟨e,lh,hbody⟩:=CJ hR hm hs hk hq;rw[ph hne] at hbody;have has:=qjj (pg:=pg) (gh:=putX b g0 m X (cz m g0 s deep gh++[.lrec 1 395 (eA gh.length)])) (g2:=gh.length) (o2:=0) (g3:=gh.length+1) (o3:=0) (g4:=gh.length+2) (o4:=0) (v22:=LI k) (e:= .normal) (s:=⟨[(2,.ptr true gh.length 0),(3,.ptr true (gh.length+1) 0),(4,.ptr true (gh.length+2) 0),(5,LI k)],[],putX b g0 m X (cz m g0 s deep gh++[.lrec 1 395 (eA gh.length)])⟩) (by simp)
 have has2:ab pg q19.as ⟨(q19.ks++[q19.t]).zip (eA gh.length++[LI k]++[.yl (gh.length+5)]),[],putX b g0 m X (cz m g0 s deep gh++[.lrec 1 395 (eA gh.length)])⟩=some (.normal,⟨[(2,.ptr true gh.length 0),(3,.ptr true (gh.length+1) 0),(4,.ptr true (gh.length+2) 0),(5,LI k)],[],putX b g0 m X (cz m g0 s deep gh++[.lrec 1 395 (eA gh.length)])⟩):=by simpa [q19] using has
 have:=sv (pg:=pg) (y:=395) (b:=gh.length+5) (Y:=q19) (caps:=eA gh.length) (v:=LI k) (gh:=putX b g0 m X (cz m g0 s deep gh++[.lrec 1 395 (eA gh.length)]))
  (s1:=⟨[(2,.ptr true gh.length 0),(3,.ptr true (gh.length+1) 0),(4,.ptr true (gh.length+2) 0),(5,LI k)],[],putX b g0 m X (cz m g0 s deep gh++[.lrec 1 395 (eA gh.length)])⟩) (s2:=⟨e,lh,putX b g0 m (fU m s deep X k) (cz m g0 s deep gh++[.lrec 2 395 (eA gh.length)])⟩) rfl rfl (hget X _) has2 (hget X _) (by
  simp only[hset];exact hbody) (hget _ _)
 rw[this];simp only[hset]
theorem CM {b g0:Nat} {X:XSt} (h:XAt b g0 m X gh) (hm:aw m=0) {s:List Int} (hs:cy m.nodes (ah m.nodes 3) s=0) {deep:Int} (hd:bo X.deep (bu m s)=some deep) (hq:X.queue.length<=900000) :
  ac pg 268 [.ptr true g0 0,LI s] gh=some (.tup [],putX b g0 m (fu m s deep X) (cz m g0 s deep gh++[.lrec 0 395 (eA gh.length)])):=by
 have hb:=(aD.1 h.map).1;have hg0:=(aD.1 h.box).1;have hne:=h.ne;have hl:=ux (m:=m) (gh:=gh) (g0:=g0) (s:=s) (deep:=deep);have hset:∀(Y:XSt) (o o':GObj),(putX b g0 m Y (cz m g0 s deep gh++[o])).set (gh.length+5) o'=putX b g0 m Y (cz m g0 s deep gh++[o']):=λY o o'=>by rw[mD (by omega) (by omega),<-hl,mE]
 have hget:∀(Y:XSt) (o:GObj),(putX b g0 m Y (cz m g0 s deep gh++[o]))[gh.length+5]?=some o:=λY o=>by rw[ez (by omega) (by omega),<-hl];simp
 have hself:∀(o:GObj),putX b g0 m X (cz m g0 s deep gh++[o])=cz m g0 s deep gh++[o]:=λo=>by
  refine XAt.self ⟨?_,?_,hne⟩
  ·rw[aJ (by omega)];unfold cz;rw[aJ hb];exact h.map
  ·rw[aJ (by omega)];unfold cz;rw[aJ hg0];exact h.box
 have hbl:=(dB hm).1;have hp:2^bm m.nodes (ah m.nodes 2)<=2^6:=bN (by decide) hbl;have hv:mC m (λx=>putX b g0 m x (cz m g0 s deep gh++[.lrec 1 395 (eA gh.length)])) (kV m s deep) (λv x=>x.queue.length<=900000+v) (gh.length+5) (gh.length+4) (gh.length+3) 395 (eA gh.length) (ah m.nodes 2):=by
  refine⟨rfl,λv x _=>hget x _,λv x _=>?_,λv x _=>?_,iK hm 2,by have:=fH (ei hm) 2;omega,by omega,λv x hlt hQ=>⟨?_,?_⟩⟩
  ·show (putX _ _ _ _ _)[_]?=_
   rw[ez (by omega) (by omega)];simp[cz]
  ·show (putX _ _ _ _ _)[_]?=_
   rw[ez (by omega) (by omega)];simp[cz]
  ·exact CL hb hg0 hne hm hs (by omega) (ii _ _)
  ·exact bW (CK _ _ _ _) (by omega)
 have hvec:=ut hv (x:=X) (by omega);simp only[hself] at hvec;have hrf:=su (pg:=pg) (g:= .t 21) (y:=395) (F:=267) (ks:=[2,3,4]) (e:=[(2,.ptr true gh.length 0),(3,.ptr true (gh.length+1) 0),(4,.ptr true (gh.length+2) 0),(21,.fn 267 [.ptr true (gh.length+4) 0,.ptr true (gh.length+3) 0])]) (lh:=[]) (gh:=cz m g0 s deep gh) (caps:=[.ptr true (gh.length+4) 0,.ptr true (gh.length+3) 0]) (vs:=eA gh.length) rfl rfl rfl (by rw[hl];exact hvec) (by rw[hl];exact hget _ _);rw[hl,hset] at hrf
 have hkey:=pd (gh:=gh++[.cells [.ptr true g0 0],.cells [LI s]]) (g0:=g0) (b:=b) (X:=X) (by rw[aJ hg0];exact h.box) hm hs;rw[show dw m.nodes (ah m.nodes 3) s=bu m s from rfl] at hkey;have hvs:=uo (gh:=gh++[.cells [.ptr true g0 0],.cells [LI s],.cells [I deep]]) (m:=m) (kind:=2) (by have:=(ei hm).len;omega);unfold mB at hvs;have e0:gh++[GObj.cells [.ptr true g0 0],.cells [LI s],.cells [I deep]]++[.cells (mCs m),.cells [LI (ah m.nodes 2)]]=cz m g0 s deep gh:=by simp[cz]
 rw[e0] at hvs;rw[show bi (kV m s deep) (2^bm m.nodes (ah m.nodes 2)) X 0=fu m s deep X from rfl] at hrf;have h1:=h.box;have h2:=h.map;have hm1:(gh++[GObj.cells [.ptr true g0 0],.cells [LI s]])[b]?=some (.map (bl X.deep)):=by rw[aJ hb];exact h2
 have hx1:(gh++[GObj.cells [.ptr true g0 0],.cells [LI s]])[g0]?=some (.cells (xC m b X)):=by rw[aJ hg0];exact h1
 have hx2:(gh++[GObj.cells [.ptr true g0 0],.cells [LI s],.cells [I deep]])[g0]?=some (.cells (xC m b X)):=by rw[aJ hg0];exact h1
 generalize putX b g0 m (fu m s deep X) (cz m g0 s deep gh++[.lrec 0 395 (eA gh.length)])=R at *;generalize cz m g0 s deep gh=V at *;have hrf2:ab pg q5z ⟨[(2,.ptr true gh.length 0),(3,.ptr true (gh.length+1) 0),(4,.ptr true (gh.length+2) 0),(21,.fn 267 [.ptr true (gh.length+4) 0,.ptr true (gh.length+3) 0])],[],V⟩=some (.normal,⟨[],[],R⟩):=by
  show ab pg (.post (.rangeF (.t 21) 395 [2,3,4]) [] 0) _=_
  rw[iV,hrf];rfl
 rw[bv] at hvs;simp only[xC] at hx1 hx2;generalize bu m s=K at *;simp only[LP,LN,LI] at *;generalize X.queue.map (λl=>PV.sl false 1 (l.map I))=Q at *;generalize s.map I=sL at *;generalize m.nodes.map bn=nL at *;generalize m.inits.map bq=iL at *;generalize m.nexts.map bq=xL at *;generalize m.bads.map I=bL at *;generalize m.holds.map I=hL at *;have h3:=qjk (pg:=pg) (gh:=gh) (g0:=g0) (o0:=0) (v1:= .sl false 1 sL) (e:= .normal) (s:=⟨[],[],R⟩) (by simp[hm1,hx1,hx2,hkey,hd,hvs,hrf2]);rw[jM (fn:=q60) rfl rfl h3];simp[ak,results,q60,am,ai]
end
theorem jm:∀{l:List (Int×Int)} {k v:Int},bo l k=none->eE l k v=l++[(k,v)]
 |[],_,_,_=>rfl
 | (a,u)::l,k,v,h=>by
  simp only[bo] at h;split at h
  ·cases h
  ·rename_i hk
   simp only[eE];rw[if_neg hk,jm h];rfl
theorem pi:∀{l:List (Int×Int)} {k v q:Int},bo (l++[(k,v)]) q=match bo l q with
  |some d=>some d
  |none=>if q=k then some v else none
 |[],k,v,q=>by simp[bo]
 |(a,u)::l,k,v,q=>by
  simp only[bI,bo];split
  ·rfl
  ·exact pi
theorem findI_none:∀{l:List (Int×Int)} {k:Int},bo l k=none↔∀p∈l,p.1≠k
 |[],k=>by simp[bo]
 | (a,u)::l,k=>by
  simp only[bo,List.mem_cons];by_cases h:k=a
  ·simp[h]
  ·rw[if_neg h,findI_none]
   constructor
   ·intro h2 p hp
    rcases hp with rfl|hp
    ·exact λe=>h e.symm
    ·exact h2 p hp
   ·exact λh2 p hp=>h2 p (.inr hp)
theorem jZ:∀{l:List (Int×Int)} {k d:Int},bo l k=some d->(k,d)∈l
 |[],_,_,h=>by simp[bo] at h
 |(a,u)::l,k,d,h=>by
  simp only[bo] at h;split at h
  ·rename_i hk;cases h;subst hk;exact bE
  ·exact bF _ (jZ h)
section
variable {m:Md} {gh:List GObj}
def SOk (m:Md) (s:List Int):Prop:=cy m.nodes (ah m.nodes 3) s=0
def nS (m:Md):Nat:=2^bm m.nodes (ah m.nodes 3)
def nI (m:Md):Nat:=2^bm m.nodes (ah m.nodes 2)
theorem iP {s:List Int} (h:SOk m s):bu m s<nS m:=pc (mu h).2
structure XInv (m:Md) (X:XSt):Prop where
 q:∀s∈X.queue,SOk m s/\bo X.deep (bu m s)≠none
 keys:∀p∈X.deep,∃k:Nat,p.1=k/\k<nS m
 nd:(X.deep.map (·.1)).Nodup
theorem XInv.len {X:XSt} (h:XInv m X):X.deep.length<=nS m:=by have h1:=List.Nodup.length_le_of_subset h.nd (l₂:=(List.range (nS m)).map λ(k:Nat)=>(k:Int)) (λa ha=>by obtain⟨p,hp,rfl⟩:=List.mem_map.1 ha;obtain⟨k,hk,hlt⟩:=h.keys p hp;exact List.mem_map.2 ⟨k,by simpa using hlt,hk.symm⟩);simpa using h1
theorem XInv.come {X:XSt} (h:XInv m X) {s:List Int} (hs:SOk m s) (d:Int):XInv m (eo m X s d):=by
 unfold eo;split
 ·exact h
 ·rename_i hf
  rw[jm hf];refine⟨λt ht=>?_,λp hp=>?_,?_⟩
  ·rcases bY.1 ht with ht|ht
   ·obtain⟨h1,h2⟩:=h.q t ht
    refine⟨h1,?_⟩;rw[pi];split
    ·simp
    ·rename_i h3;exact absurd h3 h2
   ·simp at ht
    subst ht;refine⟨hs,?_⟩;rw[pi,hf];simp
  ·rcases bY.1 hp with hp|hp
   ·exact h.keys p hp
   ·simp at hp
    subst hp;exact⟨_,rfl,iP hs⟩
  ·rw[bJ,cJ]
   refine⟨h.nd,by simp,λa ha b hb=>?_⟩;simp at hb;subst hb;obtain⟨p,hp,rfl⟩:=List.mem_map.1 ha;exact findI_none.1 hf p hp
theorem XInv.bad {X:XSt} (h:XInv m X) (t:Bool) (a:Int):XInv m {X with bad:=t,badAt:=a }:=⟨h.q,h.keys,h.nd⟩
theorem XInv.pop {X:XSt} {s:List Int} {q:List (List Int)} (h:XInv m X) (hq:X.queue=s::q):XInv m {X with queue:=q }:=⟨λt ht=>h.q t (by rw[hq];exact bF _ ht),h.keys,h.nd⟩
theorem pj (hm:aw m=0) {s k:List Int} (hs:SOk m s) (hk:cy m.nodes (ah m.nodes 2) k=0):SOk m (dO m (ch m s k)):=
 pa hm (mr hm (kQ hs hk)) jV
theorem XInv.vis (hm:aw m=0) {X:XSt} (h:XInv m X) {s:List Int} (hs:SOk m s) {k:List Int} (hk:cy m.nodes (ah m.nodes 2) k=0) (deep:Int):XInv m (fU m s deep X k):=by
 unfold fU;split
 ·refine XInv.come ?_ (pj hm hs hk) _
  split
  ·exact h.bad _ _
  ·exact h
 ·exact h
theorem kW {X:Type} {P:X->Prop} {f:X->Nat->X} (h:∀x v,P x->P (f x v)):∀(k:Nat) (x:X) (v:Nat),P x->P (bi f k x v)
 |0,x,v,hx=>hx
 |k+1,x,v,hx=>kW h k (f x v) (v+1) (h x v hx)
theorem XInv.all (hm:aw m=0) {X:XSt} (h:XInv m X) {s:List Int} (hs:SOk m s) (deep:Int):XInv m (fu m s deep X):=
 kW (P:=XInv m) (λx v hx=>hx.vis hm hs (ii _ v) deep) _ _ _ h
def eI (m:Md) (X:XSt):Nat:=nS m-X.deep.length+X.queue.length
theorem pk {X:XSt} (h:XInv m X) {s:List Int} (hs:SOk m s) (d:Int):eI m (eo m X s d)=eI m X:=by
 have hc:=(h.come hs d).len;unfold eI;unfold eo at *;split
 ·rfl
 ·rename_i hf
  simp only[hf,jm hf] at hc;rw[jm hf];simp at hc ⊢;omega
theorem CN (hm:aw m=0) {X:XSt} (h:XInv m X) {s:List Int} (hs:SOk m s) {k:List Int} (hk:cy m.nodes (ah m.nodes 2) k=0) (deep:Int):eI m (fU m s deep X k)=eI m X:=by
 unfold fU;split
 ·split
  ·rw[pk (h.bad _ _) (pj hm hs hk)];rfl
  ·exact pk h (pj hm hs hk) _
 ·rfl
theorem CO (hm:aw m=0) {X:XSt} (h:XInv m X) {s:List Int} (hs:SOk m s) (deep:Int):eI m (fu m s deep X)=eI m X:=
 (kW (P:=λx=>XInv m x/\eI m x=eI m X) (λx v hx=>⟨hx.1.vis hm hs (ii _ v) deep,(CN hm hx.1 hs (ii _ v) deep).trans hx.2⟩) _ X 0 ⟨h,rfl⟩).2
def fw (m:Md):Nat->XSt->XSt
 |0,X=>X
 |n+1,X=>match X.queue with
  |[]=>X
  |s::q=>fw m n (fu m s ((bo X.deep (bu m s)).getD 0) {X with queue:=q })
structure Fr (b g0:Nat) (G G':List GObj):Prop where
 len:G.length<=G'.length
 get:∀i,i<G.length->i≠b->i≠g0->G'[i]?=G[i]?
theorem Fr.trans {b g0:Nat} {G G' G'':List GObj} (h:Fr b g0 G G') (k:Fr b g0 G' G''):Fr b g0 G G'':=
 ⟨bW h.len k.len,λi hi h1 h2=>(k.get i (aS hi h.len) h1 h2).trans (h.get i hi h1 h2)⟩
theorem Fr.putX {b g0:Nat} {G:List GObj} (X:XSt) (l:List GObj):Fr b g0 G (putX b g0 m X (G++l)):=
 ⟨by rw[pf];simp,λi hi h1 h2=>by rw[ez h1 h2,aJ hi]⟩
theorem XAt.app {b g0:Nat} {X Y:XSt} {G:List GObj} (h:XAt b g0 m X G) (l:List GObj):XAt b g0 m Y (Lw.putX b g0 m Y (G++l)):=by have h1:=(aD.1 h.map).1;have h2:=(aD.1 h.box).1;exact XAt.put (X:=X) ⟨by rw[aJ h1];exact h.map,by rw[aJ h2];exact h.box,h.ne⟩ Y
theorem CP (hm:aw m=0) {b g0 i3:Nat} (h1:i3≠b) (h2:i3≠g0):∀(n:Nat) (X:XSt) (G:List GObj),n<=100000->eI m X<=n->XInv m X->XAt b g0 m X G->G[i3]?=some (.cells [.ptr true g0 0])->
  ∃G',ab pg q5n ⟨[(3,.ptr true i3 0)],[],G⟩=some (.normal,⟨[(3,.ptr true i3 0)],[],G'⟩)/\XAt b g0 m (fw m n X) G'/\Fr b g0 G G'/\XInv m (fw m n X)/\(fw m n X).queue=[]:=by
 intro n
 induction n with
 | zero=>
  intro X G hn hp hI hX h3;have hq:X.queue=[]:=by unfold eI at hp;exact List.length_eq_zero_iff.1 (by omega)
  refine⟨G,?_,hX,⟨cM _,λ_ _ _ _=>rfl⟩,hI,hq⟩;have hb:=hX.box;simp only[xC,hq,bQ] at hb;refine (bj (s1:=⟨[(3,.ptr true i3 0),(23,B false)],[],G⟩) (q9r ?h1)).trans ?r1
  case h1=>simp[h3,hb]
  case r1=>simp[keep,bf]
 | succ n ih=>
  intro X G hn hp hI hX h3;cases hq:X.queue with
  | nil=>
   refine⟨G,?_,?_,⟨cM _,λ_ _ _ _=>rfl⟩,?_,?_⟩
   ·have hb:=hX.box
    simp only[xC,hq,bQ] at hb;refine (bj (s1:=⟨[(3,.ptr true i3 0),(23,B false)],[],G⟩) (q9r ?h1)).trans ?r1
    case h1=>simp[h3,hb]
    case r1=>simp[keep,bf]
   ·simp only[fw,hq];exact hX
   ·simp only[fw,hq];exact hI
   ·simp only[fw,hq]
  | cons s q=>
   obtain⟨hs,hd⟩:=hI.q s (by rw[hq];exact bE);obtain⟨d,hd⟩:=Option.ne_none_iff_exists'.1 hd;have hIp:=hI.pop hq;have hlen:=hI.len;have hn10:nS m<=1024:=by have:=bN (n:=2) (by decide) (dB hm).2;exact this
   have hpot:eI m {X with queue:=q }+1=eI m X:=by unfold eI;rw[hq];simp;omega
   have hql:q.length<=100000:=by have:eI m X=nS m-X.deep.length+X.queue.length:=rfl;rw[hq] at this;simp at this;omega
   have hb:=hX.box;have hbl:=(aD.1 hX.box).1;have hX2:XAt b g0 m {X with queue:=q } (G.set g0 (.cells (xC m b {X with queue:=q }))):=by refine⟨?_,List.getElem?_set_self hbl,hX.ne⟩;rw[List.getElem?_set_ne hX.ne.symm];exact hX.map
   have hv:=CM hX2 hm hs (deep:=d) hd (by show q.length<=900000;omega);generalize hG2:putX b g0 m (fu m s d {X with queue:=q }) (cz m g0 s d (G.set g0 (.cells (xC m b {X with queue:=q })))++[.lrec 0 395 (eA (G.set g0 (.cells (xC m b {X with queue:=q }))).length)])=G2 at hv;have hX3:XAt b g0 m (fu m s d {X with queue:=q }) G2:=by rw[<-hG2];unfold cz;rw[aY];exact hX2.app _
   have hF:Fr b g0 G G2:=by
    have:Fr b g0 (G.set g0 (.cells (xC m b {X with queue:=q }))) G2:=by rw[<-hG2];unfold cz;rw[aY];exact Fr.putX _ _
    refine⟨by have:=this.len;simpa using this,λi hi h1 h2=>?_⟩;rw[this.get i (by simpa using hi) h1 h2,List.getElem?_set_ne (Ne.symm h2)]
   have h3':G2[i3]?=some (.cells [.ptr true g0 0]):=by rw[hF.get i3 (aD.1 h3).1 h1 h2];exact h3
   obtain⟨G',r1,r2,r3,r4,r5⟩:=ih (fu m s d {X with queue:=q }) G2 (by omega) (by rw[CO hm hIp hs];omega) (hIp.all hm hs d) hX3 h3';have hbe:fw m (n+1) X=fw m n (fu m s d {X with queue:=q }):=by simp only[fw,hq,hd,Option.getD_some]
   rw[hbe];refine⟨G',?_,r2,hF.trans r3,r4,r5⟩;refine ba (s1:=⟨[(3,.ptr true i3 0)],[],G2⟩) (q9r ?_) r1;obtain⟨X1,X2,X3,X4,X5,X6⟩:=X;simp only at hq;subst hq;simp only[xC,bP] at hb hv;have hs1:∀C,(G.set g0 (.cells C))[g0]?=some (.cells C):=λC=>List.getElem?_set_self hbl
   have hs3:∀C,(G.set g0 (.cells C))[i3]?=some (.cells [.ptr true g0 0]):=λC=>by rw[List.getElem?_set_ne (Ne.symm h2)];exact h3
   simp only[LP,LN,LI] at *;generalize q.map (λl=>PV.sl false 1 (l.map I))=Q at *;generalize s.map I=sL at *;generalize m.nodes.map bn=nL at *;generalize m.inits.map bq=iL at *;generalize m.nexts.map bq=xL at *;generalize m.bads.map I=bL at *;generalize m.holds.map I=hL at *;simp[h3,hb,hs1,hs3,hv,ax]
def gR (m:Md) (x:XSt) (v:Nat):XSt:=eo m x (dz m (cr m.nodes (ah m.nodes 3) v)) 0
def xs0:XSt:=⟨[],[],0,0,false,0⟩
def fx (m:Md):XSt:=bi (gR m) (nS m) xs0 0
def eB (m:Md):XSt:=fw m 2048 (fx m)
theorem iQ (hm:aw m=0) (v:Nat):SOk m (dz m (cr m.nodes (ah m.nodes 3) v)):=CH hm (ii _ v)
theorem uy:XInv m xs0:=⟨λs hs=>by simp[xs0] at hs,λp hp=>by simp[xs0] at hp,by simp[xs0]⟩
theorem uz (hm:aw m=0):XInv m (fx m):=
 kW (P:=XInv m) (λx v hx=>hx.come (iQ hm v) 0) _ _ _ uy
theorem CQ (hm:aw m=0):eI m (fx m)=nS m:=
 (kW (P:=λx=>XInv m x/\eI m x=nS m) (λx v hx=>⟨hx.1.come (iQ hm v) 0,(pk hx.1 (iQ hm v) 0).trans hx.2⟩) _ xs0 0 ⟨uy,by simp[eI,xs0]⟩).2
def exG (gh:List GObj) (m:Md):List GObj:=
 gh++[.cells (mCs m),.map (bl []),.cells (xC m (gh.length+1) xs0),.cells [.ptr true (gh.length+2) 0],.cells (mCs m),.cells [LI (ah m.nodes 3)]]
abbrev exC (L:Nat):List PV:=[.ptr true L 0,.ptr true (L+3) 0]
theorem uA:(exG gh m).length=gh.length+6:=by simp[exG]
theorem CR (hm:aw m=0) {X:XSt} (hq:X.queue.length<=1000000) (v:Nat) :
  ac pg 393 (exC gh.length++[LI (cr m.nodes (ah m.nodes 3) v)]++[.yl (gh.length+6)]) (putX (gh.length+1) (gh.length+2) m X (exG gh m++[.lrec 1 393 (exC gh.length)]))=some (B true,putX (gh.length+1) (gh.length+2) m (gR m X v) (exG gh m++[.lrec 1 393 (exC gh.length)])):=by
 have hl:=uA (m:=m) (gh:=gh);have hset:∀(Y:XSt) (o o':GObj),(putX (gh.length+1) (gh.length+2) m Y (exG gh m++[o])).set (gh.length+6) o'=putX (gh.length+1) (gh.length+2) m Y (exG gh m++[o']):=λY o o'=>by rw[mD (by omega) (by omega),<-hl,mE]
 have hget:∀(Y:XSt) (o:GObj),(putX (gh.length+1) (gh.length+2) m Y (exG gh m++[o]))[gh.length+6]?=some o:=λY o=>by rw[ez (by omega) (by omega),<-hl];simp
 have hX:XAt (gh.length+1) (gh.length+2) m X (putX (gh.length+1) (gh.length+2) m X (exG gh m++[.lrec 2 393 (exC gh.length)])):=
  XAt.put (X:=xs0) ⟨by simp[exG,xs0],by simp[exG],by omega⟩ X
 have e1:=Cx (gh:=putX (gh.length+1) (gh.length+2) m X (exG gh m++[.lrec 2 393 (exC gh.length)])) hm (ms (L:=m.nodes) (ns:=ah m.nodes 3) (v:=v));have e2:=um hX hm (iQ hm v) (d:=0) hq;rw[ph (by omega)] at e2;have g0:(putX (gh.length+1) (gh.length+2) m X (exG gh m++[.lrec 2 393 (exC gh.length)]))[gh.length]?=some (.cells (mCs m)):=by rw[ez (by omega) (by omega)];simp[exG]
 have g3:(putX (gh.length+1) (gh.length+2) m X (exG gh m++[.lrec 2 393 (exC gh.length)]))[gh.length+3]?=some (.cells [.ptr true (gh.length+2) 0]):=by rw[ez (by omega) (by omega)];simp[exG]
 have has:=qjl (pg:=pg) (gh:=putX (gh.length+1) (gh.length+2) m X (exG gh m++[.lrec 1 393 (exC gh.length)])) (g1:=gh.length) (o1:=0) (g3:=gh.length+3) (o3:=0) (v12:=LI (cr m.nodes (ah m.nodes 3) v)) (e:= .normal) (s:=⟨[(1,.ptr true gh.length 0),(3,.ptr true (gh.length+3) 0),(4,LI (cr m.nodes (ah m.nodes 3) v))],[],putX (gh.length+1) (gh.length+2) m X (exG gh m++[.lrec 1 393 (exC gh.length)])⟩) (by simp)
 have has2:ab pg q18.as ⟨(q18.ks++[q18.t]).zip (exC gh.length++[LI (cr m.nodes (ah m.nodes 3) v)]++[.yl (gh.length+6)]),[],putX (gh.length+1) (gh.length+2) m X (exG gh m++[.lrec 1 393 (exC gh.length)])⟩=some (.normal,⟨[(1,.ptr true gh.length 0),(3,.ptr true (gh.length+3) 0),(4,LI (cr m.nodes (ah m.nodes 3) v))],[],putX (gh.length+1) (gh.length+2) m X (exG gh m++[.lrec 1 393 (exC gh.length)])⟩):=by simpa [q18] using has
 have hbody:ab pg q5l ⟨[(1,.ptr true gh.length 0),(3,.ptr true (gh.length+3) 0),(4,LI (cr m.nodes (ah m.nodes 3) v))],[],putX (gh.length+1) (gh.length+2) m X (exG gh m++[.lrec 2 393 (exC gh.length)])⟩=some (.normal,⟨[],[],putX (gh.length+1) (gh.length+2) m (gR m X v) (exG gh m++[.lrec 2 393 (exC gh.length)])⟩):=by
  unfold gR;generalize putX (gh.length+1) (gh.length+2) m (eo m X (dz m (cr m.nodes (ah m.nodes 3) v)) 0) (exG gh m++[.lrec 2 393 (exC gh.length)])=R at *;generalize putX (gh.length+1) (gh.length+2) m X (exG gh m++[.lrec 2 393 (exC gh.length)])=G at *;generalize dz m (cr m.nodes (ah m.nodes 3) v)=F at *;generalize cr m.nodes (ah m.nodes 3) v=W at *;rw[bv] at e1;unfold mCs at g0;simp only[LP,LN,LI] at *;generalize F.map I=fL at *;generalize W.map I=wL at *;generalize m.nodes.map bn=nL at *;generalize m.inits.map bq=iL at *;generalize m.nexts.map bq=xL at *;generalize m.bads.map I=bL at *
  generalize m.holds.map I=hL at *;refine qjm ?_;simp[g0,g3,e1,e2]
 have:=sv (pg:=pg) (y:=393) (b:=gh.length+6) (Y:=q18) (caps:=exC gh.length) (v:=LI (cr m.nodes (ah m.nodes 3) v)) (gh:=putX (gh.length+1) (gh.length+2) m X (exG gh m++[.lrec 1 393 (exC gh.length)]))
  (s1:=⟨[(1,.ptr true gh.length 0),(3,.ptr true (gh.length+3) 0),(4,LI (cr m.nodes (ah m.nodes 3) v))],[],putX (gh.length+1) (gh.length+2) m X (exG gh m++[.lrec 1 393 (exC gh.length)])⟩) (s2:=⟨[],[],putX (gh.length+1) (gh.length+2) m (gR m X v) (exG gh m++[.lrec 2 393 (exC gh.length)])⟩) rfl rfl (hget X _) has2 (hget X _) (by
  simp only[hset];exact hbody) (hget _ _)
 rw[this];simp only[hset]
theorem pl (hm:aw m=0):∃G',ac pg 251 [dc m] gh=some (.ptr true (gh.length+2) 0,G')/\XAt (gh.length+1) (gh.length+2) m (eB m) G'/\(∀i,i<gh.length->G'[i]?=gh[i]?)/\gh.length<=G'.length/\XInv m (eB m)/\(eB m).queue=[]:=by
 have hl:=uA (m:=m) (gh:=gh);have hset:∀(Y:XSt) (o o':GObj),(putX (gh.length+1) (gh.length+2) m Y (exG gh m++[o])).set (gh.length+6) o'=putX (gh.length+1) (gh.length+2) m Y (exG gh m++[o']):=λY o o'=>by rw[mD (by omega) (by omega),<-hl,mE]
 have hget:∀(Y:XSt) (o:GObj),(putX (gh.length+1) (gh.length+2) m Y (exG gh m++[o]))[gh.length+6]?=some o:=λY o=>by rw[ez (by omega) (by omega),<-hl];simp
 have hX0:∀o,XAt (gh.length+1) (gh.length+2) m xs0 (exG gh m++[o]):=λo=>⟨by simp[exG,xs0],by simp[exG],by omega⟩
 have hself:∀(o:GObj),putX (gh.length+1) (gh.length+2) m xs0 (exG gh m++[o])=exG gh m++[o]:=λo=>(hX0 o).self
 have hbl:=(dB hm).2;have hp:2^bm m.nodes (ah m.nodes 3)<=2^10:=bN (by decide) hbl;have hv:mC m (λx=>putX (gh.length+1) (gh.length+2) m x (exG gh m++[.lrec 1 393 (exC gh.length)])) (gR m) (λv x=>x.queue.length<=v) (gh.length+6) (gh.length+5) (gh.length+4) 393 (exC gh.length) (ah m.nodes 3):=by
  refine⟨rfl,λv x _=>hget x _,λv x _=>?_,λv x _=>?_,iK hm 3,by have:=fH (ei hm) 3;omega,by omega,λv x hlt hQ=>⟨?_,?_⟩⟩
  ·show (putX _ _ _ _ _)[_]?=_
   rw[ez (by omega) (by omega)];simp[exG]
  ·show (putX _ _ _ _ _)[_]?=_
   rw[ez (by omega) (by omega)];simp[exG]
  ·exact CR hm (by omega) v
  ·exact bW (uw _ _ _) (by omega)
 have hvec:=ut hv (x:=xs0) (by simp[xs0]);simp only[hself] at hvec;have hrf:=su (pg:=pg) (g:= .t 11) (y:=393) (F:=267) (ks:=[1,3]) (e:=[(1,.ptr true gh.length 0),(3,.ptr true (gh.length+3) 0),(11,.fn 267 [.ptr true (gh.length+5) 0,.ptr true (gh.length+4) 0])]) (lh:=[]) (gh:=exG gh m) (caps:=[.ptr true (gh.length+5) 0,.ptr true (gh.length+4) 0]) (vs:=exC gh.length) rfl rfl rfl (by rw[hl];exact hvec) (by rw[hl];exact hget _ _);rw[hl,hset] at hrf;rw[show bi (gR m) (2^bm m.nodes (ah m.nodes 3)) xs0 0=fx m from rfl] at hrf
 have hXi:XAt (gh.length+1) (gh.length+2) m (fx m) (putX (gh.length+1) (gh.length+2) m (fx m) (exG gh m++[.lrec 0 393 (exC gh.length)])):=(hX0 _).put _;have h3:(putX (gh.length+1) (gh.length+2) m (fx m) (exG gh m++[.lrec 0 393 (exC gh.length)]))[gh.length+3]?=some (.cells [.ptr true (gh.length+2) 0]):=by rw[ez (by omega) (by omega)];simp[exG]
 obtain⟨G',r1,r2,r3,r4,r5⟩:=CP hm (by omega) (by omega) 2048 (fx m) _ (by omega) (by rw[CQ hm];unfold nS;omega) (uz hm) hXi h3;refine⟨G',?_,r2,λi hi=>?_,?_,r4,r5⟩
 ·have hG3:G'[gh.length+3]?=some (.cells [.ptr true (gh.length+2) 0]):=by
   rw[r3.get _ (aD.1 h3).1 (by omega) (by omega)];exact h3
  have hk2:=qjn (pg:=pg) (gh:=G') (g3:=gh.length+3) (o3:=0) (e:= .ret) (s:=⟨[(2,.ptr true (gh.length+2) 0)],[],G'⟩) (by simp[hG3]);have hk1:=qjo (pg:=pg) (gh:=putX (gh.length+1) (gh.length+2) m (fx m) (exG gh m++[.lrec 0 393 (exC gh.length)])) (g3:=gh.length+3) (o3:=0) (e:= .ret) (s:=⟨[(2,.ptr true (gh.length+2) 0)],[],G'⟩) (by simp[r1,hk2]);have hvs:=uo (gh:=gh++[.cells (mCs m),.map (bl []),.cells (xC m (gh.length+1) xs0),.cells [.ptr true (gh.length+2) 0]]) (m:=m) (kind:=3) (by have:=(ei hm).len;omega);unfold mB at hvs
  have e0:gh++[GObj.cells (mCs m),.map (bl []),.cells (xC m (gh.length+1) xs0),.cells [.ptr true (gh.length+2) 0]]++[.cells (mCs m),.cells [LI (ah m.nodes 3)]]=exG gh m:=by simp[exG]
  rw[e0] at hvs;generalize putX (gh.length+1) (gh.length+2) m (fx m) (exG gh m++[.lrec 0 393 (exC gh.length)])=G1 at *;generalize exG gh m=G0 at *;have hrf2:ab pg q5m ⟨[(1,.ptr true gh.length 0),(3,.ptr true (gh.length+3) 0),(11,.fn 267 [.ptr true (gh.length+5) 0,.ptr true (gh.length+4) 0])],[],G0⟩=some (.normal,⟨[(3,.ptr true (gh.length+3) 0)],[],G1⟩):=by
   show ab pg (.post (.rangeF (.t 11) 393 [1,3]) [3] 0) _=_
   rw[iV,hrf];rfl
  rw[bv] at hvs ⊢;simp only[xC,xs0,bQ,bl] at hvs;unfold mCs at hvs;simp only[LP,LN,LI] at *;generalize m.nodes.map bn=nL at *;generalize m.inits.map bq=iL at *;generalize m.nexts.map bq=xL at *;generalize m.bads.map I=bL at *;generalize m.holds.map I=hL at *;refine ao (fn:=q5q) (s:=⟨[(2,.ptr true (gh.length+2) 0)],[],G'⟩) rfl rfl (qjp ?h1) ?r1
  case h1=>simp[ax,hvs,hrf2,hk1]
  case r1=>simp[ak,results,q5q,am,aq,ai]
 ·rw[r3.get i (by rw[pf];simp[exG];omega) (by omega) (by omega),ez (by omega) (by omega)]
  unfold exG;rw[aY,aJ hi]
 ·have:=r3.len
  rw[pf] at this;simp[exG] at this;omega
end
section
variable {m:Md} {gh:List GObj}
theorem uC {L:List Nd} {a:Int} (h:1<=wAt L a/\wAt L a<=8) (gh:List GObj):ac pg 27 [I (wAt L a)] gh=some (I ((2^(wAt L a).toNat:Nat):Int),gh):=by
 have:=fc (k:=(wAt L a).toNat) (by omega) gh
 rwa [Int.toNat_of_nonneg (by omega)] at this
theorem uD {ns:List Int} (hx:fS m.nodes ns) (hl:ns.length<=1000):∀k i (v:Nat) (acc:List Int),i+k=ns.length->acc.length<=i->v<=100000->
  ab pg q8j ⟨[(2,I (v:Int)),(3,.ptr false 0 0),(7,.sl true 1 (acc.map I)),(8,LI ns),(9,I (i:Int))],[[LN m.nodes,LP m.inits,LP m.nexts,LI m.bads,LI m.holds]],gh⟩=
   some (.normal,⟨[(7,.sl true 1 ((acc++cr m.nodes (ns.drop i) v).map I))],[],gh⟩)
 |0,i,v,acc,h,_,_=>by
  rw[aQ (by omega),cr,bG];have hlt:¬i<ns.length:=by omega
  refine (bj (s1:=?s1) (qfl ?h1)).trans ?r1
  case h1=>simp[hlt];rfl
  case r1=>simp[keep,bf]
 | k+1,i,v,acc,h,ha,hv=>by
  have hlt:i<ns.length:=by omega
  have hltD:decide (i<ns.length)=true:=aG hlt;have e2:WI.wrap ((i:Int)+1)=((i+1:Nat):Int):=by rw[ay (by omega) (by omega)];omega
  have hg:(ns.map I)[i]?=some (I ns[i]):=by simp[aA hlt]
  have hmx:((acc.map I).length+1)*8<=maxBytes:=by have:=MB;simp;omega
  obtain⟨hno,hw⟩:=hx _ (bX hlt);have hn:=eH hno;have h0:=hno.1;have hT:=uC hw gh;have hpp:=Nat.two_pow_pos (wAt m.nodes ns[i]).toNat;rw[aL hlt,cr,List.append_cons acc];generalize 2^(wAt m.nodes ns[i]).toNat=P at *;have hq:=Nat.div_le_self v P;have hd1:WI.wrap ((v:Int)/(P:Int))=((v/P:Nat):Int):=by rw[show (v:Int)/(P:Int)=((v/P:Nat):Int) from (Int.natCast_ediv _ _).symm];generalize v/P=q at *;exact ay (by omega) (by omega)
  have hm1:Int.tmod (v:Int) (P:Int)=((v%P:Nat):Int):=(Int.ofNat_tmod _ _).symm;generalize v/P=v2 at *;generalize v%P=r at *;have ih:=uD hx hl k (i+1) v2 (acc++[(r:Int)]) (by omega) (by simp;omega) (by omega);refine ba (qfl ?_) ih;rw[jY];have hne:decide ((P:Int)=0)=false:=aF (by omega);have hne2:decide ((P:Int)≠0)=true:=aG (by omega);have hne3:decide (P=0)=false:=aF (by omega);generalize acc.map I=A at *;generalize ns[i]=a at *;unfold wAt at *;generalize hd:m.nodes.getD a.toNat default=d at *;rw[cU d] at hn;simp[hltD,hg,h0,hn,hT,hm1,hd1,hne3,hmx,e2,-List.getElem?_map]
theorem pm {kind:Int} {v:Nat} (h:aw m=0) (hv:v<=100000):ac pg 326 [dc m,I kind,I (v:Int)] gh=some (LI (cr m.nodes (ah m.nodes kind) v),gh):=by
 have hm:=ei h;have hN:=jk (m:=m) (gh:=gh) (kind:=kind) (by have:=hm.len;omega);have hl:=uD (gh:=gh) (iK h kind) (by have:=fH hm kind;omega) (ah m.nodes kind).length 0 v [] (by omega) (by simp) hv;rw[bK,bH] at hl;have hn:=eO (cr m.nodes (ah m.nodes kind) v);generalize cr m.nodes (ah m.nodes kind) v=D at *;generalize ah m.nodes kind=ns at *;have hk:=qjq (pg:=pg) (gh:=gh) (v7:= .sl true 1 (D.map I)) (e:= .ret) (s:=⟨[(6,.sl false 1 (D.map I))],[],gh⟩) (by simp);rw[bv] at *;simp only[bQ,aW] at hl;refine ao (fn:=q8l) (s:=⟨[(6,.sl false 1 (D.map I))],[],gh⟩) rfl rfl (qjr ?h1) ?r1
 case h1=>simp[hN,hl,hk]
 case r1=>simp[ak,results,q8l,am,aq,ai,hn]
theorem uE {ns s:List Int} (hx:fS m.nodes ns) (hl:ns.length<=1000) (hv:s.length=ns.length):∀k i (c t:Nat),i+k=ns.length->cY m.nodes (ns.drop i) (s.drop i)=0->c<2^t->t+bm m.nodes (ns.drop i)<=10->
  ab pg q4n ⟨[(2,LI s),(3,.ptr false 0 0),(7,I (c:Int)),(8,I ((2^t:Nat):Int)),(9,LI ns),(10,I (i:Int))],[[LN m.nodes,LP m.inits,LP m.nexts,LI m.bads,LI m.holds]],gh⟩=some (.normal,⟨[(7,I ((c+2^t*dw m.nodes (ns.drop i) (s.drop i):Nat):Int))],[],gh⟩)
 | 0,i,c,t,h,_,_,_=>by
  rw[aQ (by omega),dw,Nat.mul_zero,cA]
  ·have hlt:¬i<ns.length:=by omega
   refine (bj (s1:=?s1) (qfm ?h1)).trans ?r1
   case h1=>simp[hlt];rfl
   case r1=>simp[keep,bf]
  ·simp
 | k +1,i,c,t,h,hw,hc,ht=>by
  have hlt:i<ns.length:=by omega
  have hltD:decide (i<ns.length)=true:=aG hlt;have hlv:i<s.length:=by omega
  have e2:WI.wrap ((i:Int)+1)=((i+1:Nat):Int):=by rw[ay (by omega) (by omega)];omega
  have hg:(ns.map I)[i]?=some (I ns[i]):=by simp[aA hlt]
  have hgv:(s.map I)[i]?=some (I s[i]):=by simp[aA hlv]
  obtain⟨hno,hwd⟩:=hx _ (bX hlt);have hn:=eH hno;have h0:=hno.1;have hT:=uC hwd gh;rw[aL hlt,aL hlv] at hw ⊢;rw[aL hlt,bm] at ht;rw[cY] at hw;rw[dw];split at hw
  ·rename_i hvc
   have hnx:s[i].toNat<2^(wAt m.nodes ns[i]).toNat:=by omega
   have hxe:((s[i].toNat:Nat):Int)=s[i]:=Int.toNat_of_nonneg hvc.1;have hp10:2^t*2^(wAt m.nodes ns[i]).toNat<=1024:=by
    rw[<-Nat.pow_add];have h5:t+(wAt m.nodes ns[i]).toNat<=10:=by omega
    exact bN (n:=2) (by decide) h5
   have hc2:c+2^t*s[i].toNat<2^(t+(wAt m.nodes ns[i]).toNat):=by
    rw[Nat.pow_add]
    calc c+2^t*s[i].toNat<2^t*(s[i].toNat+1):=by rw[Nat.mul_add];omega
     _<=_:=Nat.mul_le_mul_left _ hnx
   have ih:=uE hx hl hv k (i+1) (c+2^t*s[i].toNat) (t+(wAt m.nodes ns[i]).toNat) (by omega) hw hc2 (by omega);have hfin:c+2^t*(s[i].toNat+2^(wAt m.nodes ns[i]).toNat*dw m.nodes (ns.drop (i+1)) (s.drop (i+1)))=c+2^t*s[i].toNat+2^(t+(wAt m.nodes ns[i]).toNat)*dw m.nodes (ns.drop (i+1)) (s.drop (i+1)):=by rw[Nat.pow_add,Nat.mul_add,Nat.mul_assoc];omega
   rw[hfin];generalize c+2^t*s[i].toNat+2^(t+(wAt m.nodes ns[i]).toNat)*dw m.nodes (ns.drop (i+1)) (s.drop (i+1))=R at *;rw[Nat.pow_add] at hc2;have hpr:2^t*s[i].toNat<=1024:=by omega
   have ha1:WI.wrap ((c:Int)+WI.wrap (s[i]*((2^t:Nat):Int)))=((c+2^t*s[i].toNat:Nat):Int):=by rw[<-hxe,Int.mul_comm,<-Int.natCast_mul];simp only[Int.toNat_natCast];rw[ay (n:=((2^t*s[i].toNat:Nat):Int)) (by omega) (by omega),ay (by omega) (by omega)];omega
   have ha2:WI.wrap (((2^t:Nat):Int)*((2^(wAt m.nodes ns[i]).toNat:Nat):Int))=((2^(t+(wAt m.nodes ns[i]).toNat):Nat):Int):=by rw[<-Int.natCast_mul,Nat.pow_add];exact ay (by omega) (by omega)
   refine ba (qfm ?_) ih;generalize c+2^t*s[i].toNat=c2 at *;generalize 2^(t+(wAt m.nodes ns[i]).toNat)=t2 at *;generalize 2^(wAt m.nodes ns[i]).toNat=P at *;generalize 2^t=t1 at *;generalize ns[i]=a at *;generalize s[i]=v at *;unfold wAt at *;generalize hd:m.nodes.getD a.toNat default=d at *;rw[cU d] at hn;simp[hltD,hg,hgv,h0,hn,hT,ha1,ha2,e2,-List.getElem?_map]
  ·cases hw
theorem pn {s:List Int} (h:aw m=0) (hs:cy m.nodes (ah m.nodes 3) s=0):ac pg 323 [dc m,I 3,LI s] gh=some (I (bu m s:Nat),gh):=by
 have hm:=ei h;obtain⟨h1,h2⟩:=mu hs;have hN:=jk (m:=m) (gh:=gh) (kind:=3) (by have:=hm.len;omega);have hl:=uE (gh:=gh) (iK h 3) (by have:=fH hm 3;omega) h1 _ 0 0 0 (cN _) (by simpa using h2) (by decide) (by simpa using (dB h).2);simp only[bK,cN,Nat.pow_zero,Nat.one_mul] at hl;unfold bu;generalize dw m.nodes (ah m.nodes 3) s=D at *;generalize ah m.nodes 3=ns at *;have hk:=qjs (pg:=pg) (gh:=gh) (x7:=(D:Int)) rfl;rw[bv] at *;simp only[aW] at hl;change ab pg q4n ⟨[_,_,_,(8,I 1),_,_],_,_⟩=_ at hl;refine ao (fn:=q8f) (s:=⟨[(6,I (D:Int))],[],gh⟩) rfl rfl (qjt ?h1) ?r1
 case h1=>simp[hN,hl,hk]
 case r1=>simp[ak,results,q8f,am,aq,ai]
end
theorem pp:Nat.ble 1 3=true:=rfl
theorem pq:Nat.ble 2 3=true:=rfl
theorem pr:Nat.ble 3 3=true:=rfl
section
variable {m:Md} {gh:List GObj}
abbrev eJ (m:Md) (s:Nat):List Int:=cr m.nodes (ah m.nodes 3) s
abbrev jn (m:Md) (i:Nat):List Int:=cr m.nodes (ah m.nodes 2) i
def vN (m:Md) (s i:Nat):List Int:=ch m (eJ m s) (jn m i)
def toN (m:Md) (s i:Nat):Int:=if eR m (vN m s i) then (bu m (dO m (vN m s i)):Nat) else -1
def bdN (m:Md) (s i:Nat):Bool:=ft m (vN m s i)&&eR m (vN m s i)
def dT (m:Md) (s:Nat):List Int:=(List.range (nI m)).map (toN m s)
def dZ (m:Md) (s:Nat):List Bool:=(List.range (nI m)).map (bdN m s)
def dC (m:Md):List (List Int):=(List.range (nS m)).map (dT m)
def dH (m:Md):List (List Bool):=(List.range (nS m)).map (dZ m)
theorem CT (h:aw m=0) (s i:Nat):InW m.nodes (vN m s i):=mr h (kQ (ii _ _) (ii _ _))
theorem pt (s i:Nat):(vN m s i).length=m.nodes.length:=jV
theorem uF (h:aw m=0) (s i:Nat):SOk m (dO m (vN m s i)):=pa h (CT h s i) (pt s i)
theorem j0 (h:aw m=0) (kind:Int) (hk:bm m.nodes (ah m.nodes kind)<=10):ac pg 73 [dc m,I kind] gh=some (I (bm m.nodes (ah m.nodes kind):Nat),gh)/\ac pg 27 [I (bm m.nodes (ah m.nodes kind):Nat)] gh=some (I ((2^bm m.nodes (ah m.nodes kind):Nat):Int),gh):=by have hb:=og (m:=m) (gh:=gh) (kind:=kind) (by have:=(ei h).len;omega);rw[pb h kind] at hb;exact⟨hb,fc (by omega) gh⟩
theorem CU (acc:List Bool) (v:Bool):(acc++[v]).map B=acc.map B++[B v]:=by simp
theorem CV (h:aw m=0) {s i:Nat} (hs:s<nS m) (hi:i<nI m) (nx:List Int) (bd:List Bool) (hnl:nx.length<=1024) (hbl:bd.length<=1024) (o1 o2 p1 p2:PV) :
  ab pg q84 ⟨[(1,.ptr false 0 0),(2,.ptr false 1 0),(3,.ptr false 2 0),(4,I (s:Int)),(5,.sl true 1 (nx.map I)),(6,.sl true 1 (bd.map B)),(7,I (i:Int))],[[LN m.nodes,LP m.inits,LP m.nexts,LI m.bads,LI m.holds],[o1,o2],[p1,p2]],gh⟩=
   some (.normal,⟨[(1,.ptr false 0 0),(2,.ptr false 1 0),(3,.ptr false 2 0),(4,I (s:Int)),(5,.sl true 1 ((nx++[toN m s i]).map I)),(6,.sl true 1 ((bd++[bdN m s i]).map B)),(7,I ((i+1:Nat):Int))],[[LN m.nodes,LP m.inits,LP m.nexts,LI m.bads,LI m.holds],[o1,o2],[p1,p2]],gh⟩):=by
 have hb2:=(dB h).1;have hb3:=(dB h).2;obtain⟨t1,t2⟩:=j0 (gh:=gh) h 2 (by omega);have hp2:nI m<=64:=bN (n:=2) (by decide) hb2;have hp3:nS m<=1024:=bN (n:=2) (by decide) hb3;have w3:=pm (gh:=gh) (kind:=3) (v:=s) h (by omega);have w2:=pm (gh:=gh) (kind:=2) (v:=i) h (by omega);have hV:=tK (gh:=gh) h (kQ (ii (L:=m.nodes) (ah m.nodes 3) s) (ii (L:=m.nodes) (ah m.nodes 2) i));have hM:=CF (gh:=gh) h (pt s i);have hN:=CD (gh:=gh) h (pt s i);have hK:=pn (gh:=gh) h (uF h s i);have e2:WI.wrap ((i:Int)+1)=((i+1:Nat):Int):=by rw[ay (by omega) (by omega)];omega
 rw[show ch m (cr m.nodes (ah m.nodes 3) s) (cr m.nodes (ah m.nodes 2) i)=vN m s i from rfl] at hV;rw[show 2^bm m.nodes (ah m.nodes 2)=nI m from rfl] at t2;have hmx:((nx.map I).length+1)*8<=maxBytes:=by have:=MB;simp;omega
 have hmxB:(bd.map B).length+1<=maxBytes:=by have:=MB;simp;omega
 have hltD:decide (i<nI m)=true:=aG hi;rw[jY,CU];unfold toN bdN;generalize (bu m (dO m (vN m s i)))=K at *;generalize (dO m (vN m s i))=N at *;generalize eR m (vN m s i)=hh at *;generalize ft m (vN m s i)=bb at *;generalize vN m s i=V at *;generalize nI m=n2 at *;generalize bm m.nodes (ah m.nodes 2)=b2 at *;generalize cr m.nodes (ah m.nodes 3) s=D3 at *;generalize cr m.nodes (ah m.nodes 2) i=D2 at *;generalize nx.map I=A at *;generalize bd.map B=C at *;rw[bv] at *;refine qfp ?_;cases hh with
 | true=>
  have k1:ab pg q1w ⟨[(1,.ptr false 0 0),(2,.ptr false 1 0),(3,.ptr false 2 0),(4,I (s:Int)),(5,.sl true 1 A),(6,.sl true 1 C),(7,I (i:Int)),(9,B true),(10,B bb),(11,I (K:Int))],[[LN m.nodes,LP m.inits,LP m.nexts,LI m.bads,LI m.holds],[o1,o2],[p1,p2]],gh⟩=some (.normal,⟨[(1,.ptr false 0 0),(2,.ptr false 1 0),(3,.ptr false 2 0),(4,I (s:Int)),(5,.sl true 1 (A++[I (K:Int)])),(6,.sl true 1 (C++[B bb])),(7,I (i:Int))],[[LN m.nodes,LP m.inits,LP m.nexts,LI m.bads,LI m.holds],[o1,o2],[p1,p2]],gh⟩):=by refine qfn ?_;cases bb<;>simp[hmx,hmxB]
  have k2':ab pg q1x ⟨[(1,.ptr false 0 0),(2,.ptr false 1 0),(3,.ptr false 2 0),(4,I (s:Int)),(5,.sl true 1 (A++[I (K:Int)])),(6,.sl true 1 (C++[B bb])),(7,I (i:Int))],[[LN m.nodes,LP m.inits,LP m.nexts,LI m.bads,LI m.holds],[o1,o2],[p1,p2]],gh⟩=some (.normal,⟨[(1,.ptr false 0 0),(2,.ptr false 1 0),(3,.ptr false 2 0),(4,I (s:Int)),(5,.sl true 1 (A++[I (K:Int)])),(6,.sl true 1 (C++[B bb])),(7,I ((i:Int)+1))],[[LN m.nodes,LP m.inits,LP m.nexts,LI m.bads,LI m.holds],[o1,o2],[p1,p2]],gh⟩):=by refine qfo ?_;simp[e2]
  simp[t1,t2,hltD,w3,w2,hV,hM,hN,hK,k1,k2',pp,pq,pr]
 | false=>
  have k1:ab pg q1w ⟨[(1,.ptr false 0 0),(2,.ptr false 1 0),(3,.ptr false 2 0),(4,I (s:Int)),(5,.sl true 1 A),(6,.sl true 1 C),(7,I (i:Int)),(9,B false),(10,B bb),(11,I (-1))],[[LN m.nodes,LP m.inits,LP m.nexts,LI m.bads,LI m.holds],[o1,o2],[p1,p2]],gh⟩=some (.normal,⟨[(1,.ptr false 0 0),(2,.ptr false 1 0),(3,.ptr false 2 0),(4,I (s:Int)),(5,.sl true 1 (A++[I (-1)])),(6,.sl true 1 (C++[B false])),(7,I (i:Int))],[[LN m.nodes,LP m.inits,LP m.nexts,LI m.bads,LI m.holds],[o1,o2],[p1,p2]],gh⟩):=by refine qfn ?_;cases bb<;>simp[hmx,hmxB]
  have k2':ab pg q1x ⟨[(1,.ptr false 0 0),(2,.ptr false 1 0),(3,.ptr false 2 0),(4,I (s:Int)),(5,.sl true 1 (A++[I (-1)])),(6,.sl true 1 (C++[B false])),(7,I (i:Int))],[[LN m.nodes,LP m.inits,LP m.nexts,LI m.bads,LI m.holds],[o1,o2],[p1,p2]],gh⟩=some (.normal,⟨[(1,.ptr false 0 0),(2,.ptr false 1 0),(3,.ptr false 2 0),(4,I (s:Int)),(5,.sl true 1 (A++[I (-1)])),(6,.sl true 1 (C++[B false])),(7,I ((i:Int)+1))],[[LN m.nodes,LP m.inits,LP m.nexts,LI m.bads,LI m.holds],[o1,o2],[p1,p2]],gh⟩):=by refine qfo ?_;simp[e2]
  simp[t1,t2,hltD,w3,w2,hV,hM,k1,k2',pp,pq,pr]
theorem uH (h:aw m=0) {s:Nat} (hs:s<nS m) (o1 o2 p1 p2:PV):∀k i,i+k=nI m->
  ab pg q85 ⟨[(1,.ptr false 0 0),(2,.ptr false 1 0),(3,.ptr false 2 0),(4,I (s:Int)),(5,.sl true 1 (((List.range i).map (toN m s)).map I)),(6,.sl true 1 (((List.range i).map (bdN m s)).map B)),(7,I (i:Int))],[[LN m.nodes,LP m.inits,LP m.nexts,LI m.bads,LI m.holds],[o1,o2],[p1,p2]],gh⟩=
   some (.normal,⟨[(1,.ptr false 0 0),(2,.ptr false 1 0),(3,.ptr false 2 0),(4,I (s:Int)),(5,.sl true 1 ((dT m s).map I)),(6,.sl true 1 ((dZ m s).map B))],[[LN m.nodes,LP m.inits,LP m.nexts,LI m.bads,LI m.holds],[o1,o2],[p1,p2]],gh⟩)
 |0,i,hi=>by
  obtain rfl:i=nI m:=by omega
  have hb2:=(dB h).1;obtain⟨t1,t2⟩:=j0 (gh:=gh) h 2 (by omega);rw[show 2^bm m.nodes (ah m.nodes 2)=nI m from rfl] at t2;unfold dT dZ;generalize (List.map (toN m s) (List.range (nI m))).map I=A at *;generalize (List.map (bdN m s) (List.range (nI m))).map B=C at *;generalize nI m=n2 at *;rw[bv] at *;have hlt:¬n2<n2:=by omega
  refine (bj (s1:=?s1) (qfp ?h1)).trans ?r1
  case h1=>simp[t1,t2];rfl
  case r1=>simp[keep,bf]
 |k+1,i,hi=>by have hI2:nI m<=64:=bN (n:=2) (by decide) (dB h).1;refine ba (CV h hs (show i<nI m by omega) _ _ (by simp;omega) (by simp;omega) o1 o2 p1 p2) ?_;have:=uH h hs o1 o2 p1 p2 k (i+1) (by omega);simp only[List.range_succ,bJ] at this ⊢;exact this
abbrev LL (l:List (List Int)):PV:= .sl false 1 (l.map λr=>LI r)
abbrev LBB (l:List (List Bool)):PV:= .sl false 1 (l.map λr=> .sl false 1 (r.map B))
abbrev kX (m:Md):PV:= .agg [LL (dC m),LBB (dH m)]
theorem uJ (h:aw m=0) (o1 o2:PV):∀k i,i+k=nS m->
  ab pg q86 ⟨[(1,.ptr false 0 0),(2,.ptr false 1 0),(3,.ptr false 2 0),(4,I (i:Int))],[[LN m.nodes,LP m.inits,LP m.nexts,LI m.bads,LI m.holds],[o1,o2],[.sl true 1 (((List.range i).map (dT m)).map λr=>LI r),.sl true 1 (((List.range i).map (dZ m)).map λr=> .sl false 1 (r.map B))]],gh⟩=
   some (.normal,⟨[(2,.ptr false 1 0),(3,.ptr false 2 0)],[[LN m.nodes,LP m.inits,LP m.nexts,LI m.bads,LI m.holds],[o1,o2],[.sl true 1 ((dC m).map λr=>LI r),.sl true 1 ((dH m).map λr=> .sl false 1 (r.map B))]],gh⟩)
 |0,i,hi=>by
  obtain rfl:i=nS m:=by omega
  obtain⟨t1,t2⟩:=j0 (gh:=gh) h 3 (dB h).2;rw[show 2^bm m.nodes (ah m.nodes 3)=nS m from rfl] at t2;unfold dC dH;generalize (List.map (dT m) (List.range (nS m))).map (λr=>LI r)=A at *;generalize (List.map (dZ m) (List.range (nS m))).map (λr=>PV.sl false 1 (r.map B))=C at *;generalize nS m=n3 at *;rw[bv] at *;have hlt:¬n3<n3:=by omega
  refine (bj (s1:=?s1) (qfq ?h1)).trans ?r1
  case h1=>simp[t1,t2];rfl
  case r1=>simp[keep,bf]
 | k+1,i,hi=>by
  have hI3:nS m<=1024:=bN (n:=2) (by decide) (dB h).2;have ih:=uJ h o1 o2 k (i+1) (by omega);simp only[List.range_succ,bJ,bP,bQ] at ih;obtain⟨t1,t2⟩:=j0 (gh:=gh) h 3 (dB h).2;rw[show 2^bm m.nodes (ah m.nodes 3)=nS m from rfl] at t2;have hlt:i<nS m:=by omega
  have hltD:decide (i<nS m)=true:=aG hlt;have e2:WI.wrap ((i:Int)+1)=((i+1:Nat):Int):=by rw[ay (by omega) (by omega)];omega
  refine ba (qfq ?_) ih;have h2:=λp1 p2=>uH (gh:=gh) h hlt o1 o2 p1 p2 (nI m) 0 (by omega)
  simp only[List.range_zero,bQ,aW] at h2;have hmxA:(((List.range i).map (dT m)).map λr=>LI r).length+1<=2000:=by simp;omega
  have hmxC:(((List.range i).map (dZ m)).map λr=>PV.sl false 1 (r.map B)).length+1<=2000:=by simp;omega
  have hmy:2000*24<=maxBytes:=by decide
  have hn1:=eO (dT m i);have hn2:=sU (dZ m i);generalize ((List.range i).map (dT m)).map (λr=>LI r)=A at *;generalize ((List.range i).map (dZ m)).map (λr=>PV.sl false 1 (r.map B))=C at *;have hmA:(A.length+1)*24<=maxBytes:=by omega
  have hmC:(C.length+1)*24<=maxBytes:=by omega
  simp only[LI] at hn1 hn2 h2 ⊢;generalize (dT m i).map I=r1 at *;generalize (dZ m i).map B=r2 at *;generalize nS m=n3 at *;generalize bm m.nodes (ah m.nodes 3)=b3 at *;rw[bv] at *
  have k3:ab pg q4h ⟨[(1,.ptr false 0 0),(2,.ptr false 1 0),(3,.ptr false 2 0),(4,I (i:Int)),(5,.sl true 1 r1),(6,.sl true 1 r2)],[[LN m.nodes,LP m.inits,LP m.nexts,LI m.bads,LI m.holds],[o1,o2],[.sl true 1 A,.sl true 1 C]],gh⟩=some (.normal,⟨[(1,.ptr false 0 0),(2,.ptr false 1 0),(3,.ptr false 2 0),(4,I (i:Int))],[[LN m.nodes,LP m.inits,LP m.nexts,LI m.bads,LI m.holds],[o1,o2],[.sl true 1 (A++[.sl false 1 r1]),.sl true 1 (C++[.sl false 1 r2])]],gh⟩):=by refine qju ?_;simp[hmA,hmC,hn1,hn2]
  have k4:ab pg q2y ⟨[(1,.ptr false 0 0),(2,.ptr false 1 0),(3,.ptr false 2 0),(4,I (i:Int))],[[LN m.nodes,LP m.inits,LP m.nexts,LI m.bads,LI m.holds],[o1,o2],[.sl true 1 (A++[.sl false 1 r1]),.sl true 1 (C++[.sl false 1 r2])]],gh⟩=some (.normal,⟨[(1,.ptr false 0 0),(2,.ptr false 1 0),(3,.ptr false 2 0),(4,I ((i:Int)+1))],[[LN m.nodes,LP m.inits,LP m.nexts,LI m.bads,LI m.holds],[o1,o2],[.sl true 1 (A++[.sl false 1 r1]),.sl true 1 (C++[.sl false 1 r2])]],gh⟩):=by refine qjv ?_;simp[e2]
  simp[t1,t2,hltD,h2,k3,k4,pp,pq,pr]
theorem uK (l:List (List Int)):di (l.map λr=>LI r)=true:=by
 induction l with
 |nil=>rfl
 |cons a l ih=>simp only[bP,nC,ih,Bool.and_true];exact eO a
theorem uL (l:List (List Bool)):di (l.map λr=>PV.sl false 1 (r.map B))=true:=by
 induction l with
 |nil=>rfl
 |cons a l ih=>simp only[bP,nC,ih,Bool.and_true];exact sU a
theorem uM (h:aw m=0):ac pg 321 [dc m] gh=some (kX m,gh):=by
 have h1:=uJ (gh:=gh) h (.sl true 1 []) (.sl true 1 []) (nS m) 0 (by omega);simp only[List.range_zero,bQ,aW] at h1;have n1:=uK (dC m);have n2:=uL (dH m)
 show _=some (PV.agg [.sl false 1 ((dC m).map λr=>LI r),.sl false 1 ((dH m).map λr=> .sl false 1 (r.map B))],gh)
 generalize (dC m).map (λr=>LI r)=A at *;generalize (dH m).map (λr=>PV.sl false 1 (r.map B))=C at *;rw[bv];have k5:ab pg q4i ⟨[(2,.ptr false 1 0),(3,.ptr false 2 0)],[[LN m.nodes,LP m.inits,LP m.nexts,LI m.bads,LI m.holds],[.sl true 1 [],.sl true 1 []],[.sl true 1 A,.sl true 1 C]],gh⟩=some (.ret,⟨[(2,.ptr false 1 0)],[[LN m.nodes,LP m.inits,LP m.nexts,LI m.bads,LI m.holds],[.sl false 1 A,.sl false 1 C]],gh⟩):=by refine qjw ?_;simp[n1,n2]
 refine ao (fn:=q87) (s:=⟨[(2,.ptr false 1 0)],[[LN m.nodes,LP m.inits,LP m.nexts,LI m.bads,LI m.holds],[.sl false 1 A,.sl false 1 C]],gh⟩) rfl rfl (qjx ?h1) ?r1
 case h1=>simp[h1,k5]
 case r1=>simp[ak,results,q87,am,aq,ai,St.cellsAt,n1,n2]
end
theorem j3:Nat.ble 1 2=true:=rfl
theorem j4:Nat.ble 2 2=true:=rfl
section
variable {m:Md} {gh:List GObj}
def d9 (m:Md) (o:List Int) (v:Nat):List Int:=o.set (bu m (dz m (eJ m v))) 0
def fy (m:Md) (n:Nat) (s:Nat) (o:List Int) (i:Nat):List Int:=if 0<=toN m s i/\o.getD (toN m s i).toNat 0<0 then o.set (toN m s i).toNat ((n+1:Nat):Int) else o
def ff (m:Md) (n:Nat) (o:List Int) (s:Nat):List Int:=if o.getD s 0=n then bi (fy m n s) (nI m) o 0 else o
def fI (m:Md) (o:List Int) (n:Nat):List Int:=bi (ff m n) (nS m) o 0
def gS (m:Md):List Int:=bi (d9 m) (nS m) (List.replicate (nS m) (-1)) 0
def dh (m:Md):List Int:=bi (fI m) (nS m) (gS m) 0
theorem pu {n s i:Nat} {o:List Int}:(fy m n s o i).length=o.length:=by unfold fy;split<;>simp
theorem kY {f:List Int->Nat->List Int} (h:∀o v,(f o v).length=o.length):∀(k:Nat) (o:List Int) (v:Nat),(bi f k o v).length=o.length
 |0,o,v=>rfl
 |k+1,o,v=>by rw[show bi f (k+1) o v=bi f k (f o v) (v+1) from rfl,kY h k,h]
theorem uN {n s:Nat} {o:List Int}:(ff m n o s).length=o.length:=by
 unfold ff;split
 ·exact kY (λo v=>pu) _ _ _
 ·rfl
theorem uP {n:Nat} {o:List Int}:(fI m o n).length=o.length:=kY (λ_ _=>uN) _ _ _
theorem pw:(gS m).length=nS m:=by unfold gS;rw[kY (λo v=>by simp[d9])];simp
theorem mF:(dh m).length=nS m:=by unfold dh;rw[kY (λo v=>uP),pw]
theorem px {o:List Int} {i:Nat} (v:Int) (h:i<o.length):(voG gh o).set gh.length (.cells (ax (o.map I) i [I v]))=voG gh (o.set i v):=by rw[oH (by simpa using h),<-List.map_set,tE]
theorem get_at {o:List Int} {i:Nat} (h:i<o.length):(o.map I)[i]?=some (I (o.getD i 0)):=by rw[aB,aA h,aM,aA h];rfl
abbrev mLh (m:Md):List PV:=[LN m.nodes,LP m.inits,LP m.nexts,LI m.bads,LI m.holds]
abbrev wLh (m:Md):List PV:=[LL (dC m),LBB (dH m)]
theorem uQ {N:Nat} (w:List PV) (hw:∃a b,w=[a,b]) (hN:N<=100000):∀k i,i+k=N->
  ab pg q88 ⟨[(2,.ptr false 0 0),(3,.ptr false 1 0),(5,.bs true gh.length 0 N 1),(6,I (i:Int))],[mLh m,w],voG gh (List.replicate i (-1)++List.replicate k 0)⟩=
   some (.normal,⟨[(2,.ptr false 0 0),(3,.ptr false 1 0),(5,.bs true gh.length 0 N 1)],[mLh m,w],voG gh (List.replicate N (-1))⟩)
 |0,i,hi=>by
  obtain⟨a,b,rfl⟩:=hw;obtain rfl:i=N:=by omega
  refine (bj (s1:=?s1) (qfr ?h1)).trans ?r1
  case h1=>simp;rfl
  case r1=>simp[keep,bf]
 | k+1,i,hi=>by
  have ih:=uQ w hw hN k (i+1) (by omega);obtain⟨a,b,rfl⟩:=hw;have hltI:(i:Int)<(N:Int):=by omega
  have hlt:i<N:=by omega
  have e2:WI.wrap ((i:Int)+1)=((i+1:Nat):Int):=by rw[ay (by omega) (by omega)];omega
  refine ba (qfr ?_) ih;have h0:=jW (gh:=gh) (List.replicate i (-1)++List.replicate (k+1) (0:Int));have h1:=px (gh:=gh) (o:=List.replicate i (-1)++List.replicate (k+1) (0:Int)) (i:=i) (-1) (by simp);have e:(List.replicate i (-1)++List.replicate (k+1) (0:Int)).set i (-1)=List.replicate (i+1) (-1)++List.replicate k (0:Int):=by rw[List.set_append_right _ _ (by simp),show List.replicate (i+1) (-1:Int)=List.replicate i (-1)++[-1] from List.replicate_succ',show List.replicate (k+1) (0:Int)=0::List.replicate k 0 from rfl];simp
  rw[e] at h1;have hlen:i+1<=((List.replicate i (-1)++List.replicate (k+1) (0:Int)).map I).length:=by simp
  generalize (List.replicate i (-1)++List.replicate (k+1) (0:Int)).map I=O at *;generalize voG gh (List.replicate i (-1)++List.replicate (k+1) (0:Int))=G at *;generalize voG gh (List.replicate (i+1) (-1)++List.replicate k (0:Int))=G2 at *;generalize gh.length=b0 at *;simp[hlt,h0,hlen,h1,e2]
theorem uR (h:aw m=0) (w:List PV) (hw:∃a b,w=[a,b]):∀k i (o:List Int),i+k=nS m->o.length=nS m->
  ab pg q89 ⟨[(2,.ptr false 0 0),(3,.ptr false 1 0),(5,.bs true gh.length 0 (nS m) 1),(7,I (i:Int))],[mLh m,w],voG gh o⟩=
   some (.normal,⟨[(3,.ptr false 1 0),(5,.bs true gh.length 0 (nS m) 1)],[mLh m,w],voG gh (bi (d9 m) k o i)⟩)
 |0,i,o,hi,ho=>by
  obtain⟨a,b,rfl⟩:=hw;have hlt:¬i<nS m:=by omega
  refine (bj (s1:=?s1) (qfs ?h1)).trans ?r1
  case h1=>simp[hlt];rfl
  case r1=>simp[keep,bf,bi]
 |k+1,i,o,hi,ho=>by
  have ih:=uR h w hw k (i+1) (d9 m o i) (by omega) (by simp[d9,ho]);obtain⟨a,b,rfl⟩:=hw;have hN:nS m<=1024:=bN (n:=2) (by decide) (dB h).2;have hlt:i<nS m:=by omega
  have e2:WI.wrap ((i:Int)+1)=((i+1:Nat):Int):=by rw[ay (by omega) (by omega)];omega
  refine ba (qfs ?_) ih;have c1:=pm (gh:=voG gh o) (kind:=3) (v:=i) h (by omega);have c2:=CA (gh:=voG gh o) h (ms (L:=m.nodes) (ns:=ah m.nodes 3) (v:=i));have c3:=pn (gh:=voG gh o) h (iQ h i);have hK:=iP (iQ h i);have h0:=jW (gh:=gh) o;have h1:=px (gh:=gh) (o:=o) (i:=bu m (dz m (eJ m i))) 0 (by rw[ho];exact hK);unfold d9;have hlen:(o.map I).length=nS m:=by simp[ho]
  change ac pg 125 [_,LI (eJ m i)] _=some (LI (dz m (eJ m i)),_) at c2;change ac pg 323 [_,_,LI (dz m (eJ m i))] _=_ at c3;change bu m (dz m (eJ m i))<_ at hK;change ac pg 326 _ _=some (LI (eJ m i),_) at c1;generalize bu m (dz m (eJ m i))=K at *;generalize dz m (eJ m i)=F at *;generalize eJ m i=D at *;generalize o.map I=O at *;generalize voG gh o=G at *;generalize voG gh (o.set K 0)=G2 at *;generalize gh.length=b0 at *;generalize nS m=N at *;have hlen2:K+1<=O.length:=by omega
  rw[bv] at *;simp[hlt,c1,c2,c3,hK,h0,hlen2,h1,e2]
theorem pz (h:aw m=0) (s i:Nat) (h0:0<=toN m s i):(toN m s i).toNat<nS m:=by
 have hK:=iP (uF h s i);revert h0;unfold toN;split
 ·intro _;simpa using hK
 ·intro h0;omega
theorem uS {s i:Nat} (hs:s<nS m) (hi:i<nI m):(dT m s)[i]?=some (toN m s i)/\(dC m)[s]?=some (dT m s)/\(dZ m s)[i]?=some (bdN m s i)/\(dH m)[s]?=some (dZ m s):=by
 refine⟨?_,?_,?_,?_⟩
 ·simp[dT,hi]
 ·simp[dC,hs]
 ·simp[dZ,hi]
 ·simp[dH,hs]
theorem uT (h:aw m=0) {n s:Nat} (hs:s<nS m) (hn:n<nS m):∀k i (o:List Int),i+k=nI m->o.length=nS m->
  ab pg q8a ⟨[(3,.ptr false 1 0),(5,.bs true gh.length 0 (nS m) 1),(8,I (n:Int)),(9,I (s:Int)),(10,I (i:Int))],[mLh m,wLh m],voG gh o⟩=
   some (.normal,⟨[(3,.ptr false 1 0),(5,.bs true gh.length 0 (nS m) 1),(8,I (n:Int)),(9,I (s:Int))],[mLh m,wLh m],voG gh (bi (fy m n s) k o i)⟩)
 |0,i,o,hi,ho=>by
  have hlt:¬i<nI m:=by omega
  have g2:(dC m)[s]?=some (dT m s):=by simp[dC,hs]
  have g2':((dC m).map λr=>LI r)[s]?=some (LI (dT m s)):=by rw[aB,g2];rfl
  have hl2:decide (s<((dC m).map λr=>LI r).length)=true:=by simp[dC,hs]
  have hlen:(dT m s).length=nI m:=by simp[dT]
  unfold wLh LL;generalize LBB (dH m)=z at *;generalize dT m s=R at *;generalize (dC m).map (λr=>LI r)=A at *;have hlR:decide ((i:Int)<(R.length:Int))=false:=aF (by omega);have hlR2:decide (i<R.length)=false:=aF (by omega);refine (bj (s1:=?s1) (qft ?h1)).trans ?r1
  case h1=>simp[g2',hl2,hlR2];rfl
  case r1=>simp[keep,bf,bi]
 | k+1,i,o,hi,ho=>by
  have ih:=uT h hs hn k (i+1) (fy m n s o i) (by omega) (by rw[pu,ho]);have hN:nS m<=1024:=bN (n:=2) (by decide) (dB h).2;have hI:nI m<=64:=bN (n:=2) (by decide) (dB h).1;have hlt:i<nI m:=by omega
  have e2:WI.wrap ((i:Int)+1)=((i+1:Nat):Int):=by rw[ay (by omega) (by omega)];omega
  have e3:WI.wrap ((n:Int)+1)=((n+1:Nat):Int):=by rw[ay (by omega) (by omega)];omega
  obtain⟨g1,g2,_,_⟩:=uS (m:=m) hs hlt;have g2':((dC m).map λr=>LI r)[s]?=some (LI (dT m s)):=by rw[aB,g2];rfl
  have hl2:decide (s<((dC m).map λr=>LI r).length)=true:=by simp[dC,hs]
  have hlen:(dT m s).length=nI m:=by simp[dT]
  have g1':((dT m s).map I)[i]?=some (I (toN m s i)):=by rw[aB,g1];rfl
  have hR:decide (i<(dT m s).length)=true:=aG (by omega);refine ba (qft ?_) ih;have k3:∀G,ab pg q1y ⟨[(3,.ptr false 1 0),(5,.bs true gh.length 0 (nS m) 1),(8,I (n:Int)),(9,I (s:Int)),(10,I (i:Int))],[mLh m,wLh m],G⟩=some (.normal,⟨[(3,.ptr false 1 0),(5,.bs true gh.length 0 (nS m) 1),(8,I (n:Int)),(9,I (s:Int)),(10,I ((i:Int)+1))],[mLh m,wLh m],G⟩):=λG=>by refine qjy ?_;simp[e2]
  have hto:=pz h s i;have h0:=jW (gh:=gh) o;unfold fy;unfold wLh LL at *;generalize LBB (dH m)=z at *;generalize toN m s i=t at *;generalize dT m s=R at *;generalize (dC m).map (λr=>LI r)=A at *;generalize nI m=n2 at *;by_cases ht:0<=t
  ·have hto:=hto ht
   have hg:=get_at (o:=o) (i:=t.toNat) (by omega);have h1:=px (gh:=gh) (o:=o) (i:=t.toNat) ((n+1:Nat):Int) (by omega);have hlen:(o.map I).length=nS m:=by simp[ho]
   have hti:t<(nS m:Int):=by omega
   by_cases hd:o.getD t.toNat 0<0
   ·rw[if_pos ⟨ht,hd⟩]
    generalize o.getD t.toNat 0=d at *;generalize voG gh (o.set t.toNat ((n+1:Nat):Int))=G2 at *;generalize o.map I=O at *;generalize voG gh o=G at *;generalize gh.length=b0 at *;generalize nS m=N at *;have hto2:t.toNat+1<=O.length:=by omega
    push_cast at h1 e3
    simp[g2',hl2,hR,g1',ht,hti,h0,hg,hd,e3,hto2,h1,k3,j3,j4,-List.getElem?_map]
   ·rw[if_neg (λhh=>hd hh.2)]
    generalize o.getD t.toNat 0=d at *;generalize o.map I=O at *;generalize voG gh o=G at *;generalize gh.length=b0 at *;generalize nS m=N at *;simp[g2',hl2,hR,g1',ht,hti,h0,hg,hd,k3,j3,j4,-List.getElem?_map]
  ·rw[if_neg (λhh=>ht hh.1)]
   generalize voG gh o=G at *;generalize gh.length=b0 at *;generalize nS m=N at *;simp[g2',hl2,hR,g1',ht,k3,j3,j4,-List.getElem?_map]
theorem uU (h:aw m=0) {n:Nat} (hn:n<nS m):∀k s (o:List Int),s+k=nS m->o.length=nS m->
  ab pg q8b ⟨[(3,.ptr false 1 0),(5,.bs true gh.length 0 (nS m) 1),(8,I (n:Int)),(9,I (s:Int))],[mLh m,wLh m],voG gh o⟩=
   some (.normal,⟨[(3,.ptr false 1 0),(5,.bs true gh.length 0 (nS m) 1),(8,I (n:Int))],[mLh m,wLh m],voG gh (bi (ff m n) k o s)⟩)
 |0,s,o,hi,ho=>by
  have hlt:¬s<nS m:=by omega
  refine (bj (s1:=?s1) (qfu ?h1)).trans ?r1
  case h1=>simp[hlt];rfl
  case r1=>simp[keep,bf,bi]
 | k+1,s,o,hi,ho=>by
  have ih:=uU h hn k (s+1) (ff m n o s) (by omega) (by rw[uN,ho]);have hN:nS m<=1024:=bN (n:=2) (by decide) (dB h).2;have hlt:s<nS m:=by omega
  have e2:WI.wrap ((s:Int)+1)=((s+1:Nat):Int):=by rw[ay (by omega) (by omega)];omega
  refine ba (qfu ?_) ih;have k4:∀G,ab pg q2z ⟨[(3,.ptr false 1 0),(5,.bs true gh.length 0 (nS m) 1),(8,I (n:Int)),(9,I (s:Int))],[mLh m,wLh m],G⟩=some (.normal,⟨[(3,.ptr false 1 0),(5,.bs true gh.length 0 (nS m) 1),(8,I (n:Int)),(9,I ((s:Int)+1))],[mLh m,wLh m],G⟩):=λG=>by refine qjz ?_;simp[e2]
  have h5:=uT (gh:=gh) h hlt hn (nI m) 0 o (by omega) ho;have h0:=jW (gh:=gh) o;have hg:=get_at (o:=o) (i:=s) (by omega);have hlen:(o.map I).length=nS m:=by simp[ho]
  simp only[aW] at h5;unfold ff;by_cases hd:o.getD s 0=n
  ·rw[if_pos hd,]
   rw[hd] at hg;generalize voG gh (bi (fy m n s) (nI m) o 0)=G2 at *;generalize o.map I=O at *;generalize voG gh o=G at *;generalize gh.length=b0 at *;generalize nS m=N at *;simp[hlt,h0,hg,h5,k4,j3,j4,-List.getElem?_map]
  ·rw[if_neg hd]
   have hd2:(o.getD s 0 !=(n:Int))=true:=by simpa using hd
   generalize o.getD s 0=d at *;generalize o.map I=O at *;generalize voG gh o=G at *;generalize gh.length=b0 at *;generalize nS m=N at *;simp[hlt,h0,hg,hd,hd2,k4,j3,j4,-List.getElem?_map]
theorem uV (h:aw m=0):∀k n (o:List Int),n+k=nS m->o.length=nS m->
  ab pg q8c ⟨[(3,.ptr false 1 0),(5,.bs true gh.length 0 (nS m) 1),(8,I (n:Int))],[mLh m,wLh m],voG gh o⟩=
   some (.normal,⟨[(5,.bs true gh.length 0 (nS m) 1)],[],voG gh (bi (fI m) k o n)⟩)
 |0,n,o,hi,ho=>by
  have hlt:¬n<nS m:=by omega
  refine (bj (s1:=?s1) (qfv ?h1)).trans ?r1
  case h1=>simp[hlt];rfl
  case r1=>simp[keep,bf,bi]
 | k+1,n,o,hi,ho=>by
  have ih:=uV h k (n+1) (fI m o n) (by omega) (by rw[uP,ho]);have hN:nS m<=1024:=bN (n:=2) (by decide) (dB h).2;have hlt:n<nS m:=by omega
  have e2:WI.wrap ((n:Int)+1)=((n+1:Nat):Int):=by rw[ay (by omega) (by omega)];omega
  refine ba (qfv ?_) ih;have k5:∀G,ab pg q4j ⟨[(3,.ptr false 1 0),(5,.bs true gh.length 0 (nS m) 1),(8,I (n:Int))],[mLh m,wLh m],G⟩=some (.normal,⟨[(3,.ptr false 1 0),(5,.bs true gh.length 0 (nS m) 1),(8,I ((n:Int)+1))],[mLh m,wLh m],G⟩):=λG=>by refine qk0 ?_;simp[e2]
  have h4:=uU (gh:=gh) h hlt (nS m) 0 o (by omega) ho;simp only[aW] at h4;unfold fI;generalize voG gh (bi (ff m n) (nS m) o 0)=G2 at *;generalize voG gh o=G at *;generalize gh.length=b0 at *;generalize nS m=N at *;simp[hlt,h4,k5,j3,j4]
theorem uW (h:aw m=0):ac pg 322 [dc m,kX m] gh=some (LI (dh m),gh):=by
 have hN:nS m<=1024:=bN (n:=2) (by decide) (dB h).2;have h1:=uQ (m:=m) (gh:=gh) (N:=nS m) (wLh m) ⟨_,_,rfl⟩ (by omega) (nS m) 0 (by omega);have h2:=uR (gh:=gh) h (wLh m) ⟨_,_,rfl⟩ (nS m) 0 (List.replicate (nS m) (-1)) (by omega) (by simp);have h3:=uV (gh:=gh) h (nS m) 0 (gS m) (by omega) pw;rw[show bi (d9 m) (nS m) (List.replicate (nS m) (-1)) 0=gS m from rfl] at h2;rw[show bi (fI m) (nS m) (gS m) 0=dh m from rfl] at h3;have hfz:=tJ (gh:=gh) (dh m);rw[mF] at hfz;have hn:=eO (dh m);have ht:(voG gh (dh m)).take gh.length=gh:=by simp[voG]
 have hz:=oO (nS m);have hz2:bp (nS m) []=List.replicate (nS m) 0:=by simp[bp]
 rw[hz2] at hz;have hlenA:((dC m).map λr=>LI r).length=nS m:=by simp[dC]
 simp only[aW,List.replicate_zero,bH] at h1 h2 h3;generalize dh m=V at *;have hmx:decide ((nS m:Int)*8<=(maxBytes:Int))=true:=aG (by have:=MB;omega);unfold wLh kX LL LBB at *;generalize (dH m).map (λr=>PV.sl false 1 (r.map B))=z at *;generalize (dC m).map (λr=>LI r)=A at *;have k6:ab pg q4k ⟨[(5,.bs true gh.length 0 (nS m) 1)],[],voG gh V⟩=some (.ret,⟨[(4,.bs true gh.length 0 (nS m) 1)],[],voG gh V⟩):=by refine qk1 ?_;simp
 have k2:ab pg q4l ⟨[(3,.ptr false 1 0),(5,.bs true gh.length 0 (nS m) 1)],[mLh m,[.sl false 1 A,.sl false 1 z]],voG gh (gS m)⟩=some (.ret,⟨[(4,.bs true gh.length 0 (nS m) 1)],[],voG gh V⟩):=by refine qk2 ?_;simp[h3,k6]
 have k1:ab pg q4m ⟨[(2,.ptr false 0 0),(3,.ptr false 1 0),(5,.bs true gh.length 0 (nS m) 1)],[mLh m,[.sl false 1 A,.sl false 1 z]],voG gh (List.replicate (nS m) (-1))⟩=some (.ret,⟨[(4,.bs true gh.length 0 (nS m) 1)],[],voG gh V⟩):=by refine qk3 ?_;simp[h2,k2]
 rw[bv];refine ao (fn:=q8d) (s:=⟨[(4,.bs true gh.length 0 (nS m) 1)],[],voG gh V⟩) rfl rfl (qk4 ?h1) ?r1
 case h1=>
  unfold voG at *;generalize (List.replicate (nS m) 0).map I=Z at *;generalize (List.replicate (nS m) (-1)).map I=Y at *;simp[eN,hmx,hz,h1,k1,hlenA]
 case r1=>simp[ak,results,q8d,am,aq,ai,hfz,ht,hn]
end
section
variable {m:Md}
def RN (m:Md):Nat->Nat->Prop
 |0,u=>∃v,v<nS m/\bu m (dz m (eJ m v))=u
 |n+1,u=>∃s i,s<nS m/\i<nI m/\RN m n s/\toN m s i=(u:Int)
def Dist (m:Md) (d u:Nat):Prop:=RN m d u/\∀e,e<d->¬RN m e u
theorem RN.lt (h:aw m=0):∀{n u:Nat},RN m n u->u<nS m
 |0,u,⟨v,_,hv⟩=>hv▸iP (iQ h v)
 |n+1,u,⟨s,i,_,_,_,hu⟩=>by have:=pz h s i (by omega);omega
theorem Dist.uniq {d e u:Nat} (h:Dist m d u) (k:Dist m e u):d=e:=by
 rcases Nat.lt_trichotomy d e with hl|hl|hl
 ·exact absurd h.1 (k.2 d hl)
 ·exact hl
 ·exact absurd k.1 (h.2 e hl)
theorem Dist.prev {d u:Nat} (h:Dist m (d+1) u):∃s i,s<nS m/\i<nI m/\Dist m d s/\toN m s i=(u:Int):=by obtain⟨⟨s,i,hs,hi,hr,ht⟩,h2⟩:=h;exact⟨s,i,hs,hi,⟨hr,λe he hr2=>h2 (e+1) (by omega) ⟨s,i,hs,hi,hr2,ht⟩⟩,ht⟩
theorem Dist.chain (hc:aw m=0):∀{d u:Nat},Dist m d u->∃l:List Nat,l.length=d+1/\l.Nodup/\∀w∈l,w<nS m/\∃e,e<=d/\Dist m e w
 |0,u,h=>⟨[u],rfl,by simp,λw hw=>by simp at hw;subst hw;exact⟨RN.lt hc h.1,0,cM _,h⟩⟩
 | d+1,u,h=>by
  obtain⟨s,i,_,_,hs,_⟩:=h.prev;obtain⟨l,h1,h2,h3⟩:=Dist.chain hc hs;refine⟨u::l,by simp[h1],List.nodup_cons.2 ⟨λhu=>?_,h2⟩,λw hw=>?_⟩
  ·obtain⟨_,e,he,hd⟩:=h3 u hu
   have:=h.uniq hd;omega
  ·rcases List.mem_cons.1 hw with rfl|hw
   ·exact⟨RN.lt hc h.1,d+1,cM _,h⟩
   ·obtain⟨h4,e,he,hd⟩:=h3 w hw
    exact⟨h4,e,by omega,hd⟩
theorem Dist.lt (hc:aw m=0) {d u:Nat} (h:Dist m d u):d<nS m:=by obtain⟨l,h1,h2,h3⟩:=h.chain hc;have:=List.Nodup.length_le_of_subset h2 (l₂:=List.range (nS m)) (λw hw=>by simpa using (h3 w hw).1);simp at this;omega
theorem RN.dist:∀{n u:Nat},RN m n u->∃d,d<=n/\Dist m d u:=by
 intro n
 induction n using Nat.strongRecOn with
 | ind n ih=>
  intro u h;by_cases hx:∃e,e<n/\RN m e u
  ·obtain⟨e,he,hr⟩:=hx
   obtain⟨d,hd,hD⟩:=ih e he hr;exact⟨d,by omega,hD⟩
  ·exact⟨n,cM _,h,λe he hr=>hx ⟨e,he,hr⟩⟩
theorem pA {o:List Int} {t u:Nat} {x:Int}:(o.set t x).getD u 0=if t=u/\t<o.length then x else o.getD u 0:=by
 simp only[aM,cE];by_cases h1:t=u
 ·subst h1
  by_cases h2:t<o.length
  ·simp[h2]
  ·simp[h2]
 ·simp[h1]
def Mid (m:Md) (n:Nat) (o0:List Int) (P:Nat->Prop) (o:List Int):Prop:=
 o.length=nS m/\∀u,u<nS m->(0<=o0.getD u 0->o.getD u 0=o0.getD u 0)/\(o0.getD u 0<0->P u->o.getD u 0=((n+1:Nat):Int))/\(o0.getD u 0<0->¬P u->o.getD u 0= -1)
theorem Mid.congr {n:Nat} {o0 o:List Int} {P Q:Nat->Prop} (h:Mid m n o0 P o) (hpq:∀u,P u↔Q u):Mid m n o0 Q o:=
 ⟨h.1,λu hu=>⟨(h.2 u hu).1,λa b=>(h.2 u hu).2.1 a ((hpq u).2 b),λa b=>(h.2 u hu).2.2 a (λc=>b ((hpq u).1 c))⟩⟩
theorem Mid.one (hc:aw m=0) {n s i:Nat} {o0 o:List Int} {P:Nat->Prop} (h:Mid m n o0 P o):Mid m n o0 (λu=>P u\/toN m s i=(u:Int)) (fy m n s o i):=by
 refine⟨by rw[pu];exact h.1,λu hu=>?_⟩;obtain⟨h1,h2,h3⟩:=h.2 u hu;unfold fy;split
 ·rename_i hh
  obtain⟨ht,hneg⟩:=hh;have htl:=pz hc s i ht;rw[pA,h.1];by_cases hu2:(toN m s i).toNat=u
  ·rw[if_pos ⟨hu2,htl⟩]
   rw[hu2] at hneg;refine⟨λh0=>?_,λ_ _=>rfl,λ_ hp=>absurd (.inr (by omega)) hp⟩;rw[h1 h0] at hneg;omega
  ·rw[if_neg (λhh=>hu2 hh.1)]
   refine⟨h1,λh0 hp=>?_,λh0 hp=>h3 h0 (λhp2=>hp (.inl hp2))⟩;rcases hp with hp|hp
   ·exact h2 h0 hp
   ·omega
 ·rename_i hh
  refine⟨h1,λh0 hp=>?_,λh0 hp=>h3 h0 (λhp2=>hp (.inl hp2))⟩;by_cases hpu:P u
  ·exact h2 h0 hpu
  ·rcases hp with hp|hp
   ·exact h2 h0 hp
   ·exfalso
    refine hh ⟨by omega,?_⟩;have e:(toN m s i).toNat=u:=by omega
    rw[e,h3 h0 hpu];omega
theorem Mid.row (hc:aw m=0) {n s:Nat} {o0:List Int}:∀(k v:Nat) (o:List Int) (P:Nat->Prop),Mid m n o0 P o->Mid m n o0 (λu=>P u\/∃i,v<=i/\i<v+k/\toN m s i=(u:Int)) (bi (fy m n s) k o v)
 |0,v,o,P,h=>h.congr λu=>⟨.inl,λhp=>hp.elim id (λ⟨i,h1,h2,_⟩=>by omega)⟩
 | k+1,v,o,P,h=>by
  rw[show bi (fy m n s) (k+1) o v=bi (fy m n s) k (fy m n s o v) (v+1) from rfl];refine (Mid.row hc k (v+1) _ _ (h.one hc (s:=s) (i:=v))).congr λu=>⟨λhp=>?_,λhp=>?_⟩
  ·rcases hp with (hp|hp)|⟨i,h1,h2,h3⟩
   ·exact .inl hp
   ·exact .inr ⟨v,cM _,by omega,hp⟩
   ·exact .inr ⟨i,by omega,by omega,h3⟩
  ·rcases hp with hp|⟨i,h1,h2,h3⟩
   ·exact .inl (.inl hp)
   ·by_cases hi:i=v
    ·subst hi;exact .inl (.inr h3)
    ·exact .inr ⟨i,by omega,by omega,h3⟩
theorem Mid.all (hc:aw m=0) {n:Nat} {o0:List Int}:∀(k v:Nat) (o:List Int) (P:Nat->Prop),v+k=nS m->Mid m n o0 P o->Mid m n o0 (λu=>P u\/∃s,v<=s/\s<nS m/\o0.getD s 0=n/\∃i,i<nI m/\toN m s i=(u:Int)) (bi (ff m n) k o v)
 |0,v,o,P,_,h=>h.congr λu=>⟨.inl,λhp=>hp.elim id (λ⟨i,h1,h2,_⟩=>by omega)⟩
 | k +1,v,o,P,hv,h=>by
  rw[show bi (ff m n) (k+1) o v=bi (ff m n) k (ff m n o v) (v+1) from rfl];have hs:o.getD v 0=n↔o0.getD v 0=n:=by
   obtain⟨h1,h2,h3⟩:=h.2 v (by omega);by_cases h0:0<=o0.getD v 0
   ·rw[h1 h0]
   ·by_cases hp:P v
    ·rw[h2 (by omega) hp];omega
    ·rw[h3 (by omega) hp];omega
  by_cases ho:o0.getD v 0=n
  ·have e:ff m n o v=bi (fy m n v) (nI m) o 0:=by unfold ff;rw[if_pos (hs.2 ho)]
   rw[e];refine (Mid.all hc k (v+1) _ _ (by omega) (Mid.row hc (s:=v) (nI m) 0 o P h)).congr λu=>⟨λhp=>?_,λhp=>?_⟩
   ·rcases hp with (hp|⟨i,h1,h2,h3⟩)|⟨s,h1,h2,h3⟩
    ·exact .inl hp
    ·exact .inr ⟨v,cM _,by omega,ho,i,by omega,h3⟩
    ·exact .inr ⟨s,by omega,h2,h3⟩
   ·rcases hp with hp|⟨s,h1,h2,h3,i,h4,h5⟩
    ·exact .inl (.inl hp)
    ·by_cases hi:s=v
     ·subst hi;exact .inl (.inr ⟨i,by omega,by omega,h5⟩)
     ·exact .inr ⟨s,by omega,h2,h3,i,h4,h5⟩
  ·have e:ff m n o v=o:=by unfold ff;rw[if_neg (λhh=>ho (hs.1 hh))]
   rw[e];refine (Mid.all hc k (v+1) _ _ (by omega) h).congr λu=>⟨λhp=>?_,λhp=>?_⟩
   ·rcases hp with hp|⟨s,h1,h2,h3⟩
    ·exact .inl hp
    ·exact .inr ⟨s,by omega,h2,h3⟩
   ·rcases hp with hp|⟨s,h1,h2,h3,h4⟩
    ·exact .inl hp
    ·by_cases hi:s=v
     ·subst hi;exact absurd h3 ho
     ·exact .inr ⟨s,by omega,h2,h3,h4⟩
def Lay (m:Md) (n:Nat) (o:List Int):Prop:=o.length=nS m/\∀u,u<nS m->(o.getD u 0= -1\/0<=o.getD u 0/\o.getD u 0<=n)/\∀d,d<=n->(o.getD u 0=(d:Int)↔Dist m d u)
theorem Lay.next (hc:aw m=0) {n:Nat} {o:List Int} (h:Lay m n o):Lay m (n+1) (fI m o n):=by
 have h0:Mid m n o (λ_=>False) o:=⟨h.1,λu hu=>⟨λ_=>rfl,λ_ hp=>hp.elim,λhn _=>by
  rcases (h.2 u hu).1 with h1|h1
  ·exact h1
  ·omega⟩⟩
 have hM:=Mid.all hc (nS m) 0 o _ (by omega) h0;refine⟨hM.1,λu hu=>?_⟩;obtain⟨h1,h2,h3⟩:=hM.2 u hu;change ((fI m o n).getD u 0= -1\/_)/\_;change 0<=o.getD u 0->(fI m o n).getD u 0=_ at h1;change o.getD u 0<0->_->(fI m o n).getD u 0=_ at h2;change o.getD u 0<0->_->(fI m o n).getD u 0=_ at h3;obtain⟨g1,g2⟩:=h.2 u hu;generalize (fI m o n).getD u 0=x at *;have key:Dist m (n+1) u↔o.getD u 0<0/\(False\/∃s,0<=s/\s<nS m/\o.getD s 0=n/\∃i,i<nI m/\toN m s i=(u:Int)):=by
  constructor
  ·intro hd
   obtain⟨s,i,hs,hi,hD,ht⟩:=hd.prev;refine⟨?_,.inr ⟨s,by omega,hs,((h.2 s hs).2 n (cM _)).2 hD,i,hi,ht⟩⟩;rcases g1 with g1|g1
   ·omega
   ·exfalso
    have:=(g2 (o.getD u 0).toNat (by omega)).1 (by omega);have:=this.uniq hd;omega
  ·rintro⟨hn,hp|⟨s,_,hs,hon,i,hi,ht⟩⟩
   ·exact hp.elim
   ·have hD:=((h.2 s hs).2 n (cM _)).1 hon
    refine⟨⟨s,i,hs,hi,hD.1,ht⟩,λe he hr=>?_⟩;obtain⟨d,hd,hD2⟩:=hr.dist;have:=(g2 d (by omega)).2 hD2;omega
 refine⟨?_,λd hd=>?_⟩
 ·by_cases h0:0<=o.getD u 0
  ·rw[h1 h0];omega
  ·by_cases hp:(False\/∃s,0<=s/\s<nS m/\o.getD s 0=n/\∃i,i<nI m/\toN m s i=(u:Int))
   ·rw[h2 (by omega) hp];omega
   ·rw[h3 (by omega) hp];omega
 ·by_cases h0:0<=o.getD u 0
  ·rw[h1 h0]
   by_cases hdn:d<=n
   ·exact g2 d hdn
   ·obtain rfl:d=n+1:=by omega
    rw[key];omega
  ·by_cases hp:(False\/∃s,0<=s/\s<nS m/\o.getD s 0=n/\∃i,i<nI m/\toN m s i=(u:Int))
   ·rw[h2 (by omega) hp]
    by_cases hdn:d<=n
    ·have:=g2 d hdn
     constructor
     ·intro he;omega
     ·intro hD;have:=this.2 hD;omega
    ·obtain rfl:d=n+1:=by omega
     rw[key];exact⟨λ_=>⟨by omega,hp⟩,λ_=>rfl⟩
   ·rw[h3 (by omega) hp]
    constructor
    ·intro he;omega
    ·intro hD
     exfalso;by_cases hdn:d<=n
     ·have:=(g2 d hdn).2 hD;omega
     ·obtain rfl:d=n+1:=by omega
      exact hp (key.1 hD).2
theorem uX (hc:aw m=0):∀(k v:Nat) (o:List Int),o.length=nS m->∀u,(bi (d9 m) k o v).getD u 0=0↔o.getD u 0=0\/∃i,v<=i/\i<v+k/\bu m (dz m (eJ m i))=u
 |0,v,o,ho,u=>⟨.inl,λhp=>hp.elim id (λ⟨i,h1,h2,_⟩=>by omega)⟩
 | k+1,v,o,ho,u=>by
  rw[show bi (d9 m) (k+1) o v=bi (d9 m) k (d9 m o v) (v+1) from rfl,uX hc k (v+1) _ (by simp[d9,ho])];have hK:=iP (iQ hc v);have e:(d9 m o v).getD u 0=0↔o.getD u 0=0\/bu m (dz m (eJ m v))=u:=by
   unfold d9;rw[pA,ho];by_cases hu:bu m (dz m (eJ m v))=u
   ·rw[if_pos ⟨hu,hK⟩];simp[hu]
   ·rw[if_neg (λhh=>hu hh.1)];simp[hu]
  rw[e];constructor
  ·rintro ((h1|h1)|⟨i,h1,h2,h3⟩)
   ·exact .inl h1
   ·exact .inr ⟨v,cM _,by omega,h1⟩
   ·exact .inr ⟨i,by omega,by omega,h3⟩
  ·rintro (h1|⟨i,h1,h2,h3⟩)
   ·exact .inl (.inl h1)
   ·by_cases hi:i=v
    ·subst hi;exact .inl (.inr h3)
    ·exact .inr ⟨i,by omega,by omega,h3⟩
theorem uY:∀(k v:Nat) (o:List Int),(∀u,u<o.length->o.getD u 0= -1\/o.getD u 0=0)->∀u,u<o.length->(bi (d9 m) k o v).getD u 0= -1\/(bi (d9 m) k o v).getD u 0=0
 |0,v,o,ho,u,hu=>ho u hu
 |k+1,v,o,ho,u,hu=>by
  rw[show bi (d9 m) (k+1) o v=bi (d9 m) k (d9 m o v) (v+1) from rfl];refine uY k (v+1) _ (λw hw=>?_) u (by simpa [d9] using hu);unfold d9;rw[pA];split
  ·exact .inr rfl
  ·exact ho w (by simpa [d9] using hw)
theorem CW (hc:aw m=0):Lay m 0 (gS m):=by
 refine⟨pw,λu hu=>⟨?_,λd hd=>?_⟩⟩
 ·rcases uY (m:=m) (nS m) 0 (List.replicate (nS m) (-1)) (λw hw=> .inl (by
   simp at hw;simp[aM,hw])) u (by simpa using hu) with h1|h1
  ·exact .inl h1
  ·right
   change (gS m).getD u 0=0 at h1;rw[h1];exact⟨Int.le_refl _,by omega⟩
 ·obtain rfl:d=0:=by omega
  have:=uX hc (nS m) 0 (List.replicate (nS m) (-1)) (by simp) u;change (gS m).getD u 0=0↔_ at this;rw[aW,this];constructor
  ·rintro (h1|⟨i,h1,h2,h3⟩)
   ·simp[aM,hu] at h1
   ·exact⟨⟨i,by omega,h3⟩,λe he=>by omega⟩
  ·rintro⟨⟨i,h1,h2⟩,_⟩
   exact .inr ⟨i,by omega,by omega,h2⟩
theorem uZ (hc:aw m=0):∀(k n:Nat) (o:List Int),Lay m n o->Lay m (n+k) (bi (fI m) k o n)
 |0,n,o,h=>h
 |k+1,n,o,h=>by have:=uZ hc k (n+1) _ (h.next hc);rw[show n+(k+1)=n+1+k by omega];exact this
theorem CX (hc:aw m=0) {u:Nat} (hu:u<nS m):((dh m).getD u 0= -1/\∀d,¬Dist m d u)\/∃d:Nat,(dh m).getD u 0=d/\Dist m d u:=by
 have h:=uZ hc (nS m) 0 _ (CW hc);rw[cN] at h;change Lay m (nS m) (dh m) at h;obtain⟨h1,h2⟩:=h.2 u hu;rcases h1 with h1|h1
 ·refine .inl ⟨h1,λd hd=>?_⟩
  have:=hd.lt hc;have:=(h2 d (by omega)).2 hd;omega
 ·refine .inr ⟨((dh m).getD u 0).toNat,by omega,(h2 _ (by omega)).1 (by omega)⟩
end
section
variable {m:Md}
def stX (m:Md) (T:Nat->Option (List Int)) (bdF:Nat->Bool) (e dd:Int) (X:XSt) (i:Nat):XSt:=
 match T i with
 |none=>X
 |some s=>eo m (if bdF i&& !X.bad then {X with bad:=true,badAt:=dd } else X) s e
structure Gr (m:Md) (T:Nat->Option (List Int)) (bdF:Nat->Bool) (e dd:Int) (v k:Nat) (X Y:XSt) (l:List (Int×Int)) (w:List (List Int)):Prop where
 deep:Y.deep=X.deep++l
 new:∀q∈l,q.2=e/\∃i s,v<=i/\i<v+k/\T i=some s/\q.1=(bu m s:Nat)
 queue:Y.queue=X.queue++w
 keys:w.map (λs=>((bu m s:Nat):Int))=l.map (·.1)
 cov:∀i s,v<=i->i<v+k->T i=some s->bo Y.deep (bu m s)≠none
 reached:X.deep.length+l.length<=100000->X.reached=(X.deep.length:Int)->Y.reached=(Y.deep.length:Int)
 far:Y.far=if l=[] then X.far else e
 bad:Y.bad=true↔X.bad=true\/∃i,v<=i/\i<v+k/\bdF i=true
 at1:X.bad=true->Y.badAt=X.badAt
 at2:X.bad=false->Y.bad=true->Y.badAt=dd
 at3:Y.bad=false->Y.badAt=X.badAt
theorem pB {l l2:List (Int×Int)} {q:Int} {d:Int} (h:bo l q=some d):bo (l++l2) q=some d:=by
 induction l with
 |nil=>cases h
 |cons p l ih=>
  obtain⟨a,u⟩:=p;simp only[bI,bo] at h ⊢;split
  ·rename_i hq;rw[if_pos hq] at h;exact h
  ·rename_i hq;rw[if_neg hq] at h;exact ih h
theorem CY {l l2:List (Int×Int)} {q:Int} (h:bo l q=none):bo (l++l2) q=bo l2 q:=by
 induction l with
 |nil=>rfl
 |cons p l ih=>
  obtain⟨a,u⟩:=p;simp only[bI,bo] at h ⊢;split
  ·rename_i hq;rw[if_pos hq] at h;cases h
  ·rename_i hq;rw[if_neg hq] at h;exact ih h
theorem Gr.zero {T:Nat->Option (List Int)} {bdF:Nat->Bool} {e dd:Int} {v:Nat} {X:XSt}:Gr m T bdF e dd v 0 X X [] [] where
 deep:=by simp
 new:=by simp
 queue:=by simp
 keys:=rfl
 cov:=λi s h1 h2=>by omega
 reached:=λ_ h=>h
 far:=by simp
 bad:=⟨.inl,λh=>h.elim id λ⟨i,h1,h2,_⟩=>by omega⟩
 at1:=λ_=>rfl
 at2:=λh1 h2=>by rw[h1] at h2;cases h2
 at3:=λ_=>rfl
theorem Gr.one {T:Nat->Option (List Int)} {bdF:Nat->Bool} {e dd:Int} {v:Nat} {X:XSt} (hb:T v=none->bdF v=false):∃l w,Gr m T bdF e dd v 1 X (stX m T bdF e dd X v) l w:=by
 have hv:∀i,v<=i->i<v+1->i=v:=λi h1 h2=>by omega
 unfold stX;cases hT:T v with
 |none=>
  have hb:=hb hT;refine⟨[],[],⟨by simp,by simp,by simp,rfl,λi s h1 h2 h3=>?_,λ_ h=>h,by simp,⟨.inl,λh=>h.elim id λ⟨i,h1,h2,h3⟩=>?_⟩,λ_=>rfl,λh1 h2=>?_,λ_=>rfl⟩⟩
  ·rw[hv i h1 h2,hT] at h3;cases h3
  ·rw[hv i h1 h2,hb] at h3;cases h3
  ·rw[h1] at h2;cases h2
 | some s=>
  show ∃l w,Gr m T bdF e dd v 1 X (eo m (if bdF v&& !X.bad then {X with bad:=true,badAt:=dd } else X) s e) l w
  have base:∀X':XSt,X'.deep=X.deep->X'.queue=X.queue->X'.reached=X.reached->X'.far=X.far->(X'.bad=true↔X.bad=true\/bdF v=true)->(X.bad=true->X'.badAt=X.badAt)->(X.bad=false->X'.bad=true->X'.badAt=dd)->(X'.bad=false->X'.badAt=X.badAt)->
    ∃l w,Gr m T bdF e dd v 1 X (eo m X' s e) l w:=by
   intro X' e1 e2 e3 e4 e5 e6 e7 e8;have hbad:(X'.bad=true↔X.bad=true\/∃i,v<=i/\i<v+1/\bdF i=true):=by
    rw[e5];constructor
    ·rintro (h|h)
     ·exact .inl h
     ·exact .inr ⟨v,cM _,by omega,h⟩
    ·rintro (h|⟨i,h1,h2,h3⟩)
     ·exact .inl h
     ·exact .inr (hv i h1 h2▸h3)
   unfold eo;cases hf:bo X'.deep (bu m s) with
   |some d=>
    refine⟨[],[],⟨by simp[e1],by simp,by simp[e2],rfl,λi s' h1 h2 h3=>?_,λ_ h=>by rw[e3,e1];exact h,by simp[e4],hbad,e6,e7,e8⟩⟩;rw[hv i h1 h2,hT] at h3;cases h3
    show bo X'.deep _≠none
    rw[hf];simp
   | none=>
    refine⟨[((bu m s:Nat),e)],[s],⟨?_,λq hq=>?_,?_,rfl,λi s' h1 h2 h3=>?_,λhle h=>?_,by simp,hbad,e6,e7,e8⟩⟩
    ·show eE X'.deep _ _=_
     rw[jm hf,e1]
    ·simp at hq
     subst hq;exact⟨rfl,v,s,cM _,by omega,hT,rfl⟩
    ·show X'.queue++[s]=_
     rw[e2]
    ·rw[hv i h1 h2,hT] at h3
     cases h3
     show bo (eE X'.deep _ _) _≠none
     rw[jm hf,CY hf];simp[bo]
    ·show WI.wrap (X'.reached+1)=((eE X'.deep _ _).length:Int)
     rw[jm hf,e3,h,e1];simp at hle;rw[ay (by omega) (by omega)];simp
  refine base _ ?_ ?_ ?_ ?_ ?_ ?_ ?_ ?_
  ·split<;>rfl
  ·split<;>rfl
  ·split<;>rfl
  ·split<;>rfl
  ·cases h1:bdF v<;>cases h2:X.bad<;>simp[h2]
  ·intro h2;simp[h2]
  ·intro h2;cases h1:bdF v<;>simp[h2]
  ·cases h1:bdF v<;>cases h2:X.bad<;>simp[h2]
theorem Gr.trans {T:Nat->Option (List Int)} {bdF:Nat->Bool} {e dd:Int} {v k:Nat} {X Y Z:XSt} {l l2:List (Int×Int)} {w w2:List (List Int)} (h:Gr m T bdF e dd v 1 X Y l w) (g:Gr m T bdF e dd (v+1) k Y Z l2 w2):Gr m T bdF e dd v (k+1) X Z (l++l2) (w++w2) where
 deep:=by rw[g.deep,h.deep,aY]
 new:=λq hq=>by
  rcases bY.1 hq with hq|hq
  ·obtain⟨h1,i,s,h2,h3,h4⟩:=h.new q hq
   exact⟨h1,i,s,h2,by omega,h4⟩
  ·obtain⟨h1,i,s,h2,h3,h4⟩:=g.new q hq
   exact⟨h1,i,s,by omega,by omega,h4⟩
 queue:=by rw[g.queue,h.queue,aY]
 keys:=by rw[bJ,bJ,h.keys,g.keys]
 cov:=λi s h1 h2 h3=>by
  by_cases hi:i<v+1
  ·have:=h.cov i s h1 hi h3
   obtain⟨d,hd⟩:=Option.ne_none_iff_exists'.1 this;rw[g.deep,pB hd];simp
  ·exact g.cov i s (by omega) (by omega) h3
 reached:=λhle hr=>by simp at hle;refine g.reached ?_ (h.reached (by omega) hr);rw[h.deep];simp;omega
 far:=by
  rw[g.far,h.far];cases l2 with
  |nil=>simp
  |cons a l2=>simp
 bad:=by
  rw[g.bad,h.bad];constructor
  ·rintro ((h1|⟨i,h1,h2,h3⟩)|⟨i,h1,h2,h3⟩)
   ·exact .inl h1
   ·exact .inr ⟨i,h1,by omega,h3⟩
   ·exact .inr ⟨i,by omega,by omega,h3⟩
  ·rintro (h1|⟨i,h1,h2,h3⟩)
   ·exact .inl (.inl h1)
   ·by_cases hi:i<v+1
    ·exact .inl (.inr ⟨i,h1,hi,h3⟩)
    ·exact .inr ⟨i,by omega,by omega,h3⟩
 at1:=λh1=>by rw[g.at1 (h.bad.2 (.inl h1)),h.at1 h1]
 at2:=λh1 h2=>by
  cases hy:Y.bad with
  |true=>rw[g.at1 hy];exact h.at2 h1 hy
  |false=>exact g.at2 hy h2
 at3:=λh1=>by
  have hy:Y.bad=false:=by
   cases hy:Y.bad with
   |false=>rfl
   |true=>rw[g.bad.2 (.inl hy)] at h1;cases h1
  rw[g.at3 h1,h.at3 hy]
theorem Gr.fold {T:Nat->Option (List Int)} {bdF:Nat->Bool} {e dd:Int} (hb:∀v,T v=none->bdF v=false):∀(k v:Nat) (X:XSt),∃l w,Gr m T bdF e dd v k X (bi (stX m T bdF e dd) k X v) l w
 |0,v,X=>⟨[],[],Gr.zero⟩
 |k+1,v,X=>by obtain⟨l,w,h⟩:=Gr.one (m:=m) (T:=T) (bdF:=bdF) (e:=e) (dd:=dd) (v:=v) (X:=X) (hb v);obtain⟨l2,w2,g⟩:=Gr.fold hb k (v+1) (stX m T bdF e dd X v);exact⟨l++l2,w++w2,h.trans g⟩
def tV (m:Md) (s:List Int) (v:Nat):Option (List Int):=if eR m (ch m s (jn m v)) then some (dO m (ch m s (jn m v))) else none
def bV (m:Md) (s:List Int) (v:Nat):Bool:=ft m (ch m s (jn m v))&&eR m (ch m s (jn m v))
theorem CZ (s:List Int) (d:Int):kV m s d=stX m (tV m s) (bV m s) (WI.wrap (d+1)) d:=by
 funext X v
 unfold kV fU stX tV bV;cases h:eR m (ch m s (jn m v)) with
 |false=>simp[h]
 |true=>simp[h]
theorem C2:gR m=stX m (λv=>some (dz m (eJ m v))) (λ_=>false) 0 0:=by
 funext X v
 unfold gR stX;simp
theorem u5 {s:List Int} (h:SOk m s):eJ m (bu m s)=s:=by obtain⟨h1,h2⟩:=mu h;exact uj h1 h2
theorem u6 {s:List Int} (h:SOk m s) (v:Nat):(∀t,tV m s v=some t->toN m (bu m s) v=(bu m t:Nat))/\(∀u:Nat,toN m (bu m s) v=u->∃t,tV m s v=some t/\bu m t=u):=by
 have e:=u5 h;unfold tV toN vN;rw[e];cases hh:eR m (ch m s (jn m v)) with
 |false=>simp
 |true=>
  simp;omega
theorem u7 {s:List Int} (h:SOk m s) (v:Nat):bV m s v=bdN m (bu m s) v:=by unfold bV bdN vN;rw[u5 h]
def gt (m:Md) (k:Int):Prop:=∃i,i<nI m/\bdN m k.toNat i=true
structure Bf (m:Md) (X:XSt) (p:Nat):Prop where
 inv:XInv m X
 le:p<=X.deep.length
 dep:∀q∈X.deep,q.2<=(p:Int)
 que:X.queue.map (λs=>((bu m s:Nat):Int))=(X.deep.drop p).map (·.1)
 sound:∀q∈X.deep,∃n:Nat,q.2=n/\RN m n q.1.toNat
 sorted:X.deep.Pairwise λa b=>a.2<=b.2
 closed:∀j k d,j<p->X.deep[j]?=some (k,d)->∀i,i<nI m->∀u:Nat,toN m k.toNat i=u->∃d',bo X.deep u=some d'/\d'<=d+1
 init:∀u:Nat,RN m 0 u->bo X.deep u=some 0
 bound:∀a,X.deep[p]?=some a->∀q∈X.deep,q.2<=a.2+1
 reached:X.reached=(X.deep.length:Int)
 far:(∀q∈X.deep,q.2<=X.far)/\(X.deep=[]/\X.far=0\/∃q∈X.deep,q.2=X.far)
 bad:X.bad=true↔∃q∈X.deep.take p,gt m q.1
 badAt:X.bad=true->(∃q∈X.deep.take p,gt m q.1/\q.2=X.badAt)/\∀q∈X.deep.take p,gt m q.1->X.badAt<=q.2
 at0:X.bad=false->X.badAt=0
theorem pC:∀{l:List (Int×Int)} {k d:Int},(l.map (·.1)).Nodup->(k,d)∈l->bo l k=some d
 |[],_,_,_,h=>by simp at h
 | (a,u)::l,k,d,hn,h=>by
  rw[bP,List.nodup_cons] at hn;simp only[bo];rcases List.mem_cons.1 h with h2|h2
  ·cases h2;simp
  ·rw[if_neg (λe=>hn.1 (List.mem_map.2 ⟨(k,d),h2,e⟩))]
   exact pC hn.2 h2
theorem Bf.begin (hc:aw m=0):Bf m (fx m) 0:=by
 have hI:=uz hc;obtain⟨l,w,g⟩:=Gr.fold (m:=m) (T:=λv=>some (dz m (eJ m v))) (bdF:=λ_=>false) (e:=0) (dd:=0) (λ_ _=>rfl) (nS m) 0 xs0;rw[<-C2] at g;rw[show bi (gR m) (nS m) xs0 0=fx m from rfl] at g;have hd:(fx m).deep=l:=by rw[g.deep];rfl
 have hlen:=hI.len;have hN:nS m<=1024:=bN (n:=2) (by decide) (dB hc).2;have h0:∀q∈(fx m).deep,q.2=0:=λq hq=>(g.new q (hd▸hq)).1
 refine⟨hI,Nat.zero_le _,λq hq=>by rw[h0 q hq];exact Int.le_refl _,?_,λq hq=>?_,?_,λj k d hj=>by omega,λu hu=>?_,λa ha q hq=>?_,?_,⟨λq hq=>?_,?_⟩,?_,λhb=>?_,λhb=>?_⟩
 ·rw[g.queue,hd]
  simpa [xs0] using g.keys
 ·obtain⟨h1,i,s,_,h2,h3,h4⟩:=g.new q (hd▸hq)
  refine⟨0,by omega,i,by omega,?_⟩;cases h3;rw[h4];simp
 ·refine List.pairwise_of_forall_mem_list λa ha b hb=>?_
  rw[h0 a ha,h0 b hb];exact Int.le_refl _
 ·obtain⟨v,hv,hk⟩:=hu
  have:=g.cov v _ (Nat.zero_le _) (by omega) rfl;obtain⟨d,hd2⟩:=Option.ne_none_iff_exists'.1 this;rw[hk] at hd2;have:=h0 _ (jZ hd2);simp at this;rw[hd2,this]
 ·rw[h0 q hq,h0 a (aP ha)];omega
 ·refine g.reached ?_ rfl
  rw[hd] at hlen;simp[xs0];omega
 ·rw[h0 q hq,g.far]
  split<;>simp[xs0]
 ·by_cases hl:l=[]
  ·left
   rw[g.far,hd,if_pos hl];exact⟨hl,rfl⟩
  ·right
   rw[g.far,hd,if_neg hl];obtain⟨a,ha⟩:=List.exists_mem_of_ne_nil l hl;exact⟨a,ha,(g.new a ha).1⟩
 ·rw[g.bad];simp[xs0]
 ·have:=g.bad.1 hb;simp[xs0] at this
 ·rw[g.at3 hb];rfl
theorem Bf.step (hc:aw m=0) {X:XSt} {p:Nat} (h:Bf m X p) {s:List Int} {q:List (List Int)} (hq:X.queue=s::q) :
  Bf m (fu m s ((bo X.deep (bu m s)).getD 0) {X with queue:=q }) (p+1):=by
 have hN:nS m<=1024:=bN (n:=2) (by decide) (dB hc).2;have hs:=(h.inv.q s (by rw[hq];exact bE)).1;have hks:=iP hs;have hque:=h.que;rw[hq,bP] at hque;have hpl:p<X.deep.length:=by
  rcases Nat.lt_or_ge p X.deep.length with h1|h1
  ·exact h1
  ·rw[aQ h1] at hque;cases hque
 rw[aL hpl,bP,List.cons.injEq] at hque;obtain⟨hk1,hque⟩:=hque;have hget:X.deep[p]?=some X.deep[p]:=aA hpl;have hmem:X.deep[p]∈X.deep:=bX hpl;obtain⟨⟨ks,d0⟩,hA⟩:∃a,X.deep[p]=a:=⟨_,rfl⟩
 rw[hA] at hk1 hget hmem;simp only at hk1;subst hk1;rw[pC h.inv.nd hmem,Option.getD_some];obtain⟨n,hn,hrn⟩:=h.sound _ hmem;simp only at hn hrn;rw[Int.toNat_natCast] at hrn;have hdp:=h.dep _ hmem;have hlen:=h.inv.len;have hle:=h.le;simp only at hdp;have hw:WI.wrap (d0+1)=d0+1:=ay (by omega) (by omega);have hbound:=h.bound _ hget;simp only at hbound;obtain⟨l,w,g⟩:=Gr.fold (m:=m) (T:=tV m s) (bdF:=bV m s) (e:=d0+1) (dd:=d0) (λv hv=>by
  unfold tV at hv;unfold bV;split at hv
  ·cases hv
  ·rename_i hh;simp[hh]) (nI m) 0 {X with queue:=q }
 have hI':XInv m (fu m s d0 {X with queue:=q }):=(h.inv.pop hq).all hc hs d0;have e0:=CZ (m:=m) s d0;rw[hw] at e0;rw[<-e0] at g;change Gr m _ _ _ _ 0 (nI m) _ (fu m s d0 {X with queue:=q }) l w at g;generalize fu m s d0 {X with queue:=q }=Y at *;have gd:Y.deep=X.deep++l:=g.deep;have hlen':=hI'.len;have hYlen:Y.deep.length=X.deep.length+l.length:=by rw[gd];simp
 have hYp:Y.deep[p]?=some (((bu m s:Nat):Int),d0):=by rw[gd,aJ hpl];exact hget
 have hall:∀a∈Y.deep,a.2<=d0+1:=λa ha=>by
  rw[gd] at ha;rcases bY.1 ha with ha|ha
  ·exact hbound a ha
  ·rw[(g.new a ha).1];exact Int.le_refl _
 have hsort:Y.deep.Pairwise λa b=>a.2<=b.2:=by
  rw[gd,List.pairwise_append];refine⟨h.sorted,List.pairwise_of_forall_mem_list λa ha b hb=>?_,λa ha b hb=>?_⟩
  ·rw[(g.new a ha).1,(g.new b hb).1];exact Int.le_refl _
  ·rw[(g.new b hb).1];exact hbound a ha
 have htake:Y.deep.take (p+1)=X.deep.take p++[(((bu m s:Nat):Int),d0)]:=by rw[gd,List.take_append_of_le_length (by omega),List.take_add_one,hget];rfl
 have hbk:gt m ((bu m s:Nat):Int)↔∃i,0<=i/\i<0+nI m/\bV m s i=true:=by
  unfold gt;rw[Int.toNat_natCast];constructor
  ·rintro⟨i,h1,h2⟩;exact⟨i,by omega,by omega,by rw[u7 hs];exact h2⟩
  ·rintro⟨i,_,h1,h2⟩;exact⟨i,by omega,by rw[<-u7 hs];exact h2⟩
 have hbad:Y.bad=true↔X.bad=true\/gt m ((bu m s:Nat):Int):=by rw[hbk];exact g.bad
 have hle0:∀a∈X.deep.take p,a.2<=d0:=λa ha=>by have hs2:=h.sorted;rw[<-List.take_append_drop p X.deep,List.pairwise_append] at hs2;refine hs2.2.2 a ha (((bu m s:Nat):Int),d0) ?_;rw[aL hpl,hA];exact bE
 refine⟨hI',by omega,λa ha=>?_,?_,λa ha=>?_,hsort,λj k d hj hjd i hi u hu=>?_,λu hu=>?_,λa ha b hb=>?_,?_,⟨λa ha=>?_,?_⟩,?_,λhb=>?_,λhb=>?_⟩
 ·have:=hall a ha
  omega
 ·rw[g.queue,gd,List.drop_append_of_le_length (by omega),bJ,bJ,g.keys]
  show q.map _++_=_
  rw[hque]
 ·rw[gd] at ha
  rcases bY.1 ha with ha|ha
  ·exact h.sound a ha
  ·obtain⟨h1,i,t,_,h2,h3,h4⟩:=g.new a ha
   refine⟨n+1,by omega,bu m s,i,hks,by omega,hrn,?_⟩;rw[(u6 hs i).1 t h3,h4];simp
 ·by_cases hjp:j<p
  ·rw[gd,aJ (by omega)] at hjd
   obtain⟨d',h1,h2⟩:=h.closed j k d hjp hjd i hi u hu;exact⟨d',by rw[gd];exact pB h1,h2⟩
  ·obtain rfl:j=p:=by omega
   rw[hYp] at hjd;cases hjd;rw[Int.toNat_natCast] at hu;obtain⟨t,h1,h2⟩:=(u6 hs i).2 u hu;have:=g.cov i t (Nat.zero_le _) (by omega) h1;obtain⟨d',hd'⟩:=Option.ne_none_iff_exists'.1 this;rw[h2] at hd';exact⟨d',hd',hall _ (jZ hd')⟩
 ·rw[gd];exact pB (h.init u hu)
 ·have h1:=hall b hb
  have h2:d0<=a.2:=by obtain⟨hlt,ha⟩:=aD.1 ha;obtain⟨hlt2,hp⟩:=aD.1 hYp;have:=List.pairwise_iff_getElem.1 hsort p (p+1) hlt2 hlt (by omega);rw[ha,hp] at this;exact this
  omega
 ·exact g.reached (by show X.deep.length+_<=_;omega) h.reached
 ·rw[g.far]
  split
  ·rename_i hl
   rw[gd,hl,bG] at ha;exact h.far.1 a ha
  ·exact hall a ha
 ·rw[g.far]
  by_cases hl:l=[]
  ·rw[if_pos hl,gd,hl,bG]
   exact h.far.2
  ·rw[if_neg hl]
   obtain⟨a,ha⟩:=List.exists_mem_of_ne_nil l hl;exact .inr ⟨a,by rw[gd];exact bD _ ha,(g.new a ha).1⟩
 ·rw[hbad,h.bad,htake]
  constructor
  ·rintro (⟨a,h1,h2⟩|h1)
   ·exact⟨a,bC _ h1,h2⟩
   ·exact⟨(((bu m s:Nat):Int),d0),bD _ bE,h1⟩
  ·rintro⟨a,h1,h2⟩
   rcases bY.1 h1 with h1|h1
   ·exact .inl ⟨a,h1,h2⟩
   ·simp at h1;subst h1;exact .inr h2
 ·rw[htake]
  cases hx:X.bad with
  | true=>
   rw[g.at1 hx];obtain⟨⟨a,h1,h2,h3⟩,h4⟩:=h.badAt hx;refine⟨⟨a,bC _ h1,h2,h3⟩,λb hb1 hb2=>?_⟩;rcases bY.1 hb1 with hb1|hb1
   ·exact h4 b hb1 hb2
   ·simp at hb1;subst hb1
    have:=hle0 a h1
    show X.badAt<=d0
    omega
  | false=>
   rw[g.at2 hx hb];rw[hbad,hx] at hb;have hb:=hb.resolve_left (by simp);refine⟨⟨(((bu m s:Nat):Int),d0),bD _ bE,hb,rfl⟩,λb hb1 hb2=>?_⟩;rcases bY.1 hb1 with hb1|hb1
   ·have:=h.bad.2 ⟨b,hb1,hb2⟩
    rw[hx] at this;cases this
   ·simp at hb1;subst hb1;exact Int.le_refl _
 ·rw[g.at3 hb]
  have hx:X.bad=false:=by
   cases hx:X.bad with
   |false=>rfl
   |true=>rw[hbad.2 (.inl hx)] at hb;cases hb
  exact h.at0 hx
theorem Bf.run (hc:aw m=0):∀(n:Nat) (X:XSt) (p:Nat),Bf m X p->∃p',Bf m (fw m n X) p'
 |0,X,p,h=>⟨p,h⟩
 |n+1,X,p,h=>by
  cases hq:X.queue with
  |nil=>simp only[fw,hq];exact⟨p,h⟩
  |cons s q=>simp only[fw,hq];exact Bf.run hc n _ _ (h.step hc hq)
structure C3 (m:Md) (X:XSt):Prop where
 inv:XInv m X
 find:∀(u:Nat) (d:Int),bo X.deep u=some d↔∃n:Nat,d=n/\Dist m n u
 reached:X.reached=(X.deep.length:Int)
 far:(∀q∈X.deep,q.2<=X.far)/\(X.deep=[]/\X.far=0\/∃q∈X.deep,q.2=X.far)
 bad:X.bad=true↔∃q∈X.deep,gt m q.1
 badAt:X.bad=true->(∃q∈X.deep,gt m q.1/\q.2=X.badAt)/\∀q∈X.deep,gt m q.1->X.badAt<=q.2
 at0:X.bad=false->X.badAt=0
theorem C4 (hc:aw m=0):(eB m).queue=[]:=by obtain⟨_,_,_,_,_,_,h⟩:=pl (gh:=[]) hc;exact h
theorem mG (hc:aw m=0):C3 m (eB m):=by
 obtain⟨p,h⟩:=Bf.run hc 2048 _ _ (Bf.begin hc);change Bf m (eB m) p at h;have hq:=C4 hc;generalize eB m=X at *;have hp:X.deep.length<=p:=by have:=h.que;rw[hq] at this;have:=congrArg List.length this;simp at this;omega
 have htake:X.deep.take p=X.deep:=bM hp;have hbad:=h.bad;have hbadAt:=h.badAt;rw[htake] at hbad hbadAt;have comp:∀n u,RN m n u->∃d,bo X.deep u=some d/\d<=(n:Int):=by
  intro n
  induction n with
  |zero=>exact λu hu=>⟨0,h.init u hu,by simp⟩
  |succ n ih=>
   rintro u ⟨s,i,hs,hi,hr,ht⟩;obtain⟨d,h1,h2⟩:=ih s hr;obtain⟨j,hj⟩:=List.mem_iff_getElem?.1 (jZ h1);have hjl:=(aD.1 hj).1;obtain⟨d',h3,h4⟩:=h.closed j _ _ (by omega) hj i hi u (by rw[Int.toNat_natCast];exact ht);exact⟨d',h3,by omega⟩
 have snd:∀(u:Nat) (d:Int),bo X.deep u=some d->∃n:Nat,d=n/\RN m n u:=λu d hd=>by obtain⟨n,h1,h2⟩:=h.sound _ (jZ hd);rw[Int.toNat_natCast] at h2;exact⟨n,h1,h2⟩
 refine⟨h.inv,λu d=>⟨λhd=>?_,?_⟩,h.reached,h.far,hbad,hbadAt,h.at0⟩
 ·obtain⟨n,h1,h2⟩:=snd u d hd
  refine⟨n,h1,h2,λe he hr=>?_⟩;obtain⟨d',h3,h4⟩:=comp e u hr;rw[hd] at h3;cases h3;omega
 ·rintro⟨n,rfl,hD⟩
  obtain⟨d',h3,h4⟩:=comp n u hD.1;obtain⟨k,h5,h6⟩:=snd u d' h3;have:¬k<n:=λhk=>hD.2 k hk h6
  rw[h3]
  congr 1
  omega
end
theorem ij:Nat.ble 2 4=true:=rfl
theorem ik:Nat.ble 3 4=true:=rfl
theorem il:Nat.ble 4 4=true:=rfl
theorem im:Nat.ble 1 4=true:=rfl
section
variable {m:Md} {gh:List GObj}
structure Fd where
 r:Int
 d:Int
 b:Bool
 a:Int
def dU (d:Int) (f:Fd) (x:Bool):Fd:=if x=true/\(f.b=false\/d<f.a) then {f with b:=true,a:=d } else f
def iR (m:Md) (o:List Int) (f:Fd) (s:Nat):Fd:=
 if o.getD s 0<0 then f else bi (λf i=>dU (o.getD s 0) f (bdN m s i)) (nI m) {f with r:=WI.wrap (f.r+1),d:=if f.d<o.getD s 0 then o.getD s 0 else f.d } 0
def j5 (m:Md):Fd:=bi (iR m (dh m)) (nS m) ⟨0,0,false,0⟩ 0
abbrev fdC (f:Fd):List PV:=[I f.r,I f.d,B f.b,I f.a]
abbrev eLh (m:Md) (f:Fd):List (List PV):=[mLh m,[I 0,I 0,B false,I 0],wLh m,fdC f]
theorem u9 (h:aw m=0) {s:Nat} (hs:s<nS m) {o:List Int} (ho:o.length=nS m):∀k i (f:Fd),i+k=nI m->
  ab pg q8g ⟨[(2,.ptr false 1 0),(3,.ptr false 2 0),(4,LI o),(5,.ptr false 3 0),(6,I (s:Int)),(7,I (i:Int))],eLh m f,gh⟩=
   some (.normal,⟨[(2,.ptr false 1 0),(3,.ptr false 2 0),(4,LI o),(5,.ptr false 3 0),(6,I (s:Int))],eLh m (bi (λf i=>dU (o.getD s 0) f (bdN m s i)) k f i),gh⟩)
 |0,i,f,hi=>by
  have hlt:¬i<nI m:=by omega
  have g2:(dH m)[s]?=some (dZ m s):=by simp[dH,hs]
  have g2':((dH m).map λr=>PV.sl false 1 (r.map B))[s]?=some (.sl false 1 ((dZ m s).map B)):=by rw[aB,g2];rfl
  have hl2:decide (s<((dH m).map λr=>PV.sl false 1 (r.map B)).length)=true:=by simp[dH,hs]
  have hlen:((dZ m s).map B).length=nI m:=by simp[dZ]
  unfold eLh wLh LBB fdC;generalize (dZ m s).map B=R at *;generalize (dH m).map (λr=>PV.sl false 1 (r.map B))=A at *;have hlR2:decide (i<R.length)=false:=aF (by omega);refine (bj (s1:=?s1) (qfw ?h1)).trans ?r1
  case h1=>simp[g2',hl2,hlR2];rfl
  case r1=>simp[keep,bf,bi,im,ij,ik,il]
 | k +1,i,f,hi=>by
  have ih:=u9 h hs ho k (i+1) (dU (o.getD s 0) f (bdN m s i)) (by omega);have hN:nS m<=1024:=bN (n:=2) (by decide) (dB h).2;have hI:nI m<=64:=bN (n:=2) (by decide) (dB h).1;have hlt:i<nI m:=by omega
  have e2:WI.wrap ((i:Int)+1)=((i+1:Nat):Int):=by rw[ay (by omega) (by omega)];omega
  obtain⟨_,_,g1,g2⟩:=uS (m:=m) hs hlt;have g2':((dH m).map λr=>PV.sl false 1 (r.map B))[s]?=some (.sl false 1 ((dZ m s).map B)):=by rw[aB,g2];rfl
  have hl2:decide (s<((dH m).map λr=>PV.sl false 1 (r.map B)).length)=true:=by simp[dH,hs]
  have hlen:((dZ m s).map B).length=nI m:=by simp[dZ]
  have g1':((dZ m s).map B)[i]?=some (B (bdN m s i)):=by rw[aB,g1];rfl
  have hg:=get_at (o:=o) (i:=s) (by omega);have hlo:decide (s<(o.map I).length)=true:=aG (by simp;omega);refine ba (qfw ?_) ih;have k2:∀f',ab pg q1j ⟨[(2,.ptr false 1 0),(3,.ptr false 2 0),(4,LI o),(5,.ptr false 3 0),(6,I (s:Int)),(7,I (i:Int))],eLh m f',gh⟩=some (.normal,⟨[(2,.ptr false 1 0),(3,.ptr false 2 0),(4,LI o),(5,.ptr false 3 0),(6,I (s:Int)),(7,I ((i:Int)+1))],eLh m f',gh⟩):=λf'=>by refine qk5 ?_;simp[e2]
  have k2t:=k2 {f with b:=true,a:=o.getD s 0 };have k2f:=k2 f;unfold dU;obtain⟨fr,fd,fb,fa⟩:=f;unfold eLh wLh LBB fdC at *;generalize o.getD s 0=d at *;generalize bdN m s i=x at *;simp only[LI] at *;generalize o.map I=O at *;generalize (dZ m s).map B=R at *;generalize (dH m).map (λr=>PV.sl false 1 (r.map B))=A at *;generalize LL (dC m)=z at *;have hR:decide (i<R.length)=true:=aG (by omega);cases x with
  |false=>
   rw[if_neg (by simp)];simp[g2',hl2,hR,g1',k2f,im,ij,ik,il,-List.getElem?_map]
  | true=>
   cases fb with
   |false=>
    rw[if_pos (by simp)];simp[g2',hl2,hR,g1',hg,hlo,k2t,im,ij,ik,il,-List.getElem?_map]
   | true=>
    by_cases hd:d<fa
    ·rw[if_pos ⟨rfl,.inr hd⟩]
     simp[g2',hl2,hR,g1',hg,hlo,hd,k2t,im,ij,ik,il,-List.getElem?_map]
    ·rw[if_neg (by simp[hd])]
     simp[g2',hl2,hR,g1',hg,hlo,hd,k2f,im,ij,ik,il,-List.getElem?_map]
theorem vd (h:aw m=0) {o:List Int} (ho:o.length=nS m):∀k s (f:Fd),s+k=nS m->
  ab pg q8h ⟨[(2,.ptr false 1 0),(3,.ptr false 2 0),(4,LI o),(5,.ptr false 3 0),(6,I (s:Int))],eLh m f,gh⟩=
   some (.normal,⟨[(2,.ptr false 1 0),(5,.ptr false 3 0)],eLh m (bi (iR m o) k f s),gh⟩)
 |0,s,f,hi=>by
  have hlt:¬s<nS m:=by omega
  have hlo:decide (s<(o.map I).length)=false:=aF (by simp;omega);unfold eLh wLh LBB fdC;simp only[LI] at *;generalize o.map I=O at *;refine (bj (s1:=?s1) (qfx ?h1)).trans ?r1
  case h1=>simp[hlo];rfl
  case r1=>simp[keep,bf,bi,im,ij,ik,il]
 | k+1,s,f,hi=>by
  have ih:=vd h ho k (s+1) (iR m o f s) (by omega);have hN:nS m<=1024:=bN (n:=2) (by decide) (dB h).2;have hlt:s<nS m:=by omega
  have e2:WI.wrap ((s:Int)+1)=((s+1:Nat):Int):=by rw[ay (by omega) (by omega)];omega
  have hg:=get_at (o:=o) (i:=s) (by omega);have hlo:decide (s<(o.map I).length)=true:=aG (by simp;omega);refine ba (qfx ?_) ih;have k3:∀f',ab pg q1z ⟨[(2,.ptr false 1 0),(3,.ptr false 2 0),(4,LI o),(5,.ptr false 3 0),(6,I (s:Int))],eLh m f',gh⟩=some (.normal,⟨[(2,.ptr false 1 0),(3,.ptr false 2 0),(4,LI o),(5,.ptr false 3 0),(6,I ((s:Int)+1))],eLh m f',gh⟩):=λf'=>by refine qk7 ?_;simp[e2]
  have k1:∀f',ab pg q30 ⟨[(2,.ptr false 1 0),(3,.ptr false 2 0),(4,LI o),(5,.ptr false 3 0),(6,I (s:Int))],eLh m f',gh⟩=some (.normal,⟨[(2,.ptr false 1 0),(3,.ptr false 2 0),(4,LI o),(5,.ptr false 3 0),(6,I (s:Int))],eLh m (bi (λf i=>dU (o.getD s 0) f (bdN m s i)) (nI m) f' 0),gh⟩):=λf'=>by have:=u9 (gh:=gh) h hlt ho (nI m) 0 f' (by omega);simp only[aW] at this;refine qk6 ?_;simp[this]
  unfold iR;by_cases hd:o.getD s 0<0
  ·rw[if_pos hd]
   have k3':=k3 f;unfold eLh wLh LBB fdC at *;generalize o.getD s 0=d at *;simp only[LI] at *;generalize o.map I=O at *;simp[hg,hlo,hd,k3',im,ij,ik,il,-List.getElem?_map]
  ·rw[if_neg hd]
   have k1':=k1 {f with r:=WI.wrap (f.r+1),d:=if f.d<o.getD s 0 then o.getD s 0 else f.d };generalize bi (λf i=>dU (o.getD s 0) f (bdN m s i)) (nI m) {f with r:=WI.wrap (f.r+1),d:=if f.d<o.getD s 0 then o.getD s 0 else f.d } 0=F at *;have k3':=k3 F;unfold eLh wLh LBB fdC at *;generalize o.getD s 0=d at *;simp only[LI] at *;generalize o.map I=O at *;by_cases hfd:f.d<d
   ·rw[if_pos hfd] at k1'
    simp[hg,hlo,hd,hfd,k1',k3',im,ij,ik,il,-List.getElem?_map]
   ·rw[if_neg hfd] at k1'
    simp[hg,hlo,hd,hfd,k1',k3',im,ij,ik,il,-List.getElem?_map]
theorem C5 (h:aw m=0):ac pg 324 [dc m] gh=some (.agg (fdC (j5 m)),gh):=by
 have hW:=uM (gh:=gh) h;have hL:=uW (gh:=gh) h;have h1:=vd (gh:=gh) h (o:=dh m) mF (nS m) 0 ⟨0,0,false,0⟩ (by omega);rw[show bi (iR m (dh m)) (nS m) ⟨0,0,false,0⟩ 0=j5 m from rfl] at h1;simp only[aW] at h1;generalize j5 m=F at *;have hn:=eO (dh m);unfold eLh wLh LBB LL fdC kX at *;have n1:=uK (dC m);have n2:=uL (dH m);unfold LL LBB at hW hL;simp only[LI] at *;generalize (dh m).map I=O at *;generalize (dC m).map (λr=>PV.sl false 1 (r.map I))=A at *;generalize (dH m).map (λr=>PV.sl false 1 (r.map B))=C at *;rw[bv] at *
 have k4:ab pg q4o ⟨[(2,.ptr false 1 0),(5,.ptr false 3 0)],[mLh m,[I 0,I 0,B false,I 0],[.sl false 1 A,.sl false 1 C],[I F.r,I F.d,B F.b,I F.a]],gh⟩=some (.ret,⟨[(2,.ptr false 1 0)],[mLh m,[I F.r,I F.d,B F.b,I F.a]],gh⟩):=by refine qk8 ?_;simp
 refine ao (fn:=q8i) (s:=⟨[(2,.ptr false 1 0)],[mLh m,[I F.r,I F.d,B F.b,I F.a]],gh⟩) rfl rfl (qk9 ?h1) ?r1
 case h1=>simp[hW,hL,h1,k4]
 case r1=>simp[ak,results,q8i,am,aq,ai,St.cellsAt]
theorem C6 (h:aw m=0):ac pg 320 [dc m] gh=some (B (decide (bm m.nodes (ah m.nodes 2)+bm m.nodes (ah m.nodes 3)<=9)),gh):=by
 have hb2:=(dB h).1;have hb3:=(dB h).2;have t2:=(j0 (gh:=gh) h 2 (by omega)).1;have t3:=(j0 (gh:=gh) h 3 hb3).1;generalize bm m.nodes (ah m.nodes 2)=x at *;generalize bm m.nodes (ah m.nodes 3)=y at *;have hw:WI.wrap ((x:Int)+(y:Int))=((x+y:Nat):Int):=by rw[ay (by omega) (by omega)];omega
 have hd:decide (WI.wrap ((x:Int)+(y:Int))<=9)=decide (x+y<=9):=by rw[hw];apply decide_eq_decide.2;omega
 rw[bv] at *;refine ao (fn:=q66) (s:=⟨[(2,B (decide (x+y<=9)))],[],gh⟩) rfl rfl (qkb ?h1) ?r1
 case h1=>simp[t2,t3,hd]
 case r1=>simp[ak,results,q66,am,aq,ai]
end
section
variable {m:Md} {gh:List GObj}
abbrev mH (X:XSt):PV:= .agg [I X.reached,I X.far,B X.bad,I X.badAt]
def eC (m:Md):XSt:=if aw m=0 then eB m else xs0
def iS (m:Md) (s:List Int):Bool:=if ig m s=0 then (bo (eB m).deep (bu m s)).isSome else false
theorem ve {G:List GObj} (h:∀i,i<gh.length->G[i]?=gh[i]?) (hl:gh.length<=G.length):G.take gh.length=gh:=by
 apply List.ext_getElem?;intro i;rw[cD];split
 ·rename_i hi;exact h i hi
 ·rename_i hi;rw[List.getElem?_eq_none (by omega)]
theorem vg (h1:Sz m.inits.length) (h2:Sz m.nexts.length):ac pg 244 [dc m] gh=some (.tup [mH (eC m),I (aw m)],gh):=by
 have hc:=te (m:=m) (gh:=gh) h1 h2;unfold eC;by_cases h:aw m=0
 ·rw[if_pos h]
  obtain⟨G',r1,r2,r3,r4,_⟩:=pl (gh:=gh) h;have ht:=ve r3 r4;have hb:=r2.box;rw[h] at hc ⊢;generalize eB m=X at *;simp only[xC] at hb;rw[bv] at *;simp only[LP,LN,LI] at *;generalize X.queue.map (λl=>PV.sl false 1 (l.map I))=Q at *;generalize m.nodes.map bn=nL at *;generalize m.inits.map bq=iL at *;generalize m.nexts.map bq=xL at *;generalize m.bads.map I=bL at *;generalize m.holds.map I=hL at *
  refine ao (fn:=q27) (s:=⟨[(2,.ptr false 1 0),(3,I 0)],[[.sl false 6 nL,.sl false 2 iL,.sl false 2 xL,.sl false 1 bL,.sl false 1 hL],[I X.reached,I X.far,B X.bad,I X.badAt]],G'⟩) rfl rfl (qfy ?h1) ?r1
  case h1=>simp[hc,r1,hb]
  case r1=>simp[ak,results,q27,am,aq,ai,St.cellsAt,ht]
 ·rw[if_neg h]
  generalize aw m=e at *;rw[bv] at *;refine ao (fn:=q27) (s:=⟨[(2,.ptr false 1 0),(3,I e)],[[LN m.nodes,LP m.inits,LP m.nexts,LI m.bads,LI m.holds],[I 0,I 0,B false,I 0]],gh⟩) rfl rfl (qfy ?h2) ?r2
  case h2=>simp[hc,h]
  case r2=>simp[ak,results,q27,am,aq,ai,St.cellsAt,xs0]
theorem C7 {s:List Int} (h1:Sz m.inits.length) (h2:Sz m.nexts.length):ac pg 319 [dc m,LI s] gh=some (.tup [B (iS m s),I (ig m s)],gh):=by
 have hc:=te (m:=m) (gh:=gh) h1 h2;unfold iS ig;by_cases h:aw m=0
 ·rw[if_pos h]
  have hm:=ei h;have hl:=hm.len;have o3:=ie (m:=m) (gh:=gh) (kind:=3) (by omega);have w3:=B9 (gh:=gh) (vs:=s) (iK h 3) (bW (fH hm 3) (by omega));by_cases he:cy m.nodes (ah m.nodes 3) s=0
  ·obtain⟨G',r1,r2,r3,r4,_⟩:=pl (gh:=gh) h
   have ht:=ve r3 r4;have hb:=r2.box;have hmp:=r2.map;have hk:=pd r2.box h he;rw[show dw m.nodes (ah m.nodes 3) s=bu m s from rfl] at hk;rw[h] at hc;rw[he] at w3 ⊢;rw[if_pos rfl];generalize bu m s=K at *;generalize eB m=X at *;generalize ah m.nodes 3=S at *;simp only[xC] at hb;rw[bv] at *;simp only[LP,LN,LI] at *;generalize X.queue.map (λl=>PV.sl false 1 (l.map I))=Q at *;generalize s.map I=sL at *;generalize S.map I=SL at *;generalize m.nodes.map bn=nL at *;generalize m.inits.map bq=iL at *;generalize m.nexts.map bq=xL at *;generalize m.bads.map I=bL at *
   generalize m.holds.map I=hL at *;have hk1:ab pg q1a ⟨[(1,.sl false 1 sL),(2,.ptr false 0 0),(6,I 0)],[[.sl false 6 nL,.sl false 2 iL,.sl false 2 xL,.sl false 1 bL,.sl false 1 hL]],gh⟩=some (.ret,⟨[(4,B (bo X.deep K).isSome),(5,I 0)],[],G'⟩):=by refine q9u ?_;cases hf:bo X.deep K<;>simp[r1,hb,hmp,hk,hf]
   refine ao (fn:=q1b) (s:=⟨[(4,B (bo X.deep K).isSome),(5,I 0)],[],G'⟩) rfl rfl (q9v ?h1) ?r1
   case h1=>simp[hc,o3,w3,hk1]
   case r1=>simp[ak,results,q1b,am,aq,ai,ht]
  ·rw[if_neg he]
   rw[h] at hc;generalize cy m.nodes (ah m.nodes 3) s=e at *;generalize ah m.nodes 3=S at *;rw[bv] at *;simp only[LP,LN,LI] at *;generalize s.map I=sL at *;generalize S.map I=SL at *;generalize m.nodes.map bn=nL at *;generalize m.inits.map bq=iL at *;generalize m.nexts.map bq=xL at *;generalize m.bads.map I=bL at *;generalize m.holds.map I=hL at *;have hk1:ab pg q1a ⟨[(1,.sl false 1 sL),(2,.ptr false 0 0),(6,I e)],[[.sl false 6 nL,.sl false 2 iL,.sl false 2 xL,.sl false 1 bL,.sl false 1 hL]],gh⟩=some (.ret,⟨[(4,B false),(5,I e)],[],gh⟩):=by refine q9u ?_;simp[he]
   refine ao (fn:=q1b) (s:=⟨[(4,B false),(5,I e)],[],gh⟩) rfl rfl (q9v ?h2) ?r2
   case h2=>simp[hc,o3,w3,hk1]
   case r2=>simp[ak,results,q1b,am,aq,ai]
 ·rw[if_neg h]
  rw[if_neg h];generalize aw m=e at *;rw[bv] at *;simp only[LP,LN,LI] at *;generalize s.map I=sL at *;generalize m.nodes.map bn=nL at *;generalize m.inits.map bq=iL at *;generalize m.nexts.map bq=xL at *;generalize m.bads.map I=bL at *;generalize m.holds.map I=hL at *;have hk1:ab pg q1a ⟨[(1,.sl false 1 sL),(2,.ptr false 0 0),(6,I e)],[[.sl false 6 nL,.sl false 2 iL,.sl false 2 xL,.sl false 1 bL,.sl false 1 hL]],gh⟩=some (.ret,⟨[(4,B false),(5,I e)],[],gh⟩):=by refine q9u ?_;simp[h]
  refine ao (fn:=q1b) (s:=⟨[(4,B false),(5,I e)],[],gh⟩) rfl rfl (q9v ?h3) ?r3
  case h3=>simp[hc,h,hk1]
  case r3=>simp[ak,results,q1b,am,aq,ai]
end
section
variable {m:Md}
theorem pD (hc:aw m=0) {u:Nat} (hu:u<nS m):(dh m).getD u 0=(bo (eB m).deep u).getD (-1):=by
 have hF:=mG hc;rcases CX hc hu with ⟨h1,h2⟩|⟨d,h1,h2⟩
 ·rw[h1]
  cases hf:bo (eB m).deep u with
  |none=>rfl
  |some d=>
   obtain⟨n,_,hD⟩:=(hF.find u d).1 hf;exact absurd hD (h2 n)
 ·rw[h1,(hF.find u d).2 ⟨d,rfl,h2⟩];rfl
theorem C8 (hc:aw m=0) {u:Nat} (hu:u<nS m) (h0:0<=(dh m).getD u 0):((u:Int),(dh m).getD u 0)∈(eB m).deep:=by
 rw[pD hc hu] at h0 ⊢;cases hf:bo (eB m).deep u with
 |none=>rw[hf] at h0;simp at h0
 |some d=>exact jZ hf
theorem C9 (hc:aw m=0) {q:Int×Int} (hq:q∈(eB m).deep):∃u:Nat,u<nS m/\q.1=u/\(dh m).getD u 0=q.2/\0<=q.2:=by have hF:=mG hc;obtain⟨k,d⟩:=q;obtain⟨u,h1,h2⟩:=hF.inv.keys _ hq;simp only at h1;subst h1;have hf:=pC hF.inv.nd hq;obtain⟨n,h3,_⟩:=(hF.find u d).1 hf;exact⟨u,h2,rfl,by rw[pD hc h2,hf];rfl,by show 0<=d;omega⟩
theorem vh (s:Nat) (d:Int):∀(k v:Nat) (f:Fd),
  (bi (λf i=>dU d f (bdN m s i)) k f v).r=f.r/\(bi (λf i=>dU d f (bdN m s i)) k f v).d=f.d/\
  ((bi (λf i=>dU d f (bdN m s i)) k f v).b=true↔f.b=true\/∃i,v<=i/\i<v+k/\bdN m s i=true)/\
  ((∃i,v<=i/\i<v+k/\bdN m s i=true)->(bi (λf i=>dU d f (bdN m s i)) k f v).a=if f.b=false\/d<f.a then d else f.a)/\
  ((¬∃i,v<=i/\i<v+k/\bdN m s i=true)->(bi (λf i=>dU d f (bdN m s i)) k f v).a=f.a)
 |0,v,f=>⟨rfl,rfl,⟨.inl,λh=>h.elim id λ⟨i,h1,h2,_⟩=>by omega⟩,λ⟨i,h1,h2,_⟩=>by omega,λ_=>rfl⟩
 | k +1,v,f=>by
  rw[show bi (λf i=>dU d f (bdN m s i)) (k+1) f v=bi (λf i=>dU d f (bdN m s i)) k (dU d f (bdN m s v)) (v+1) from rfl];obtain⟨h1,h2,h3,h4,h5⟩:=vh s d k (v+1) (dU d f (bdN m s v));cases hb:bdN m s v with
  | false=>
   have e:dU d f (bdN m s v)=f:=by unfold dU;rw[hb,if_neg (by simp)]
   rw[e] at h1 h2 h3 h4 h5;rw[hb] at e;rw[e];have key:(∃i,v<=i/\i<v+(k+1)/\bdN m s i=true)↔∃i,v+1<=i/\i<v+1+k/\bdN m s i=true:=by
    constructor
    ·rintro⟨i,g1,g2,g3⟩
     by_cases hi:i=v
     ·subst hi;rw[hb] at g3;cases g3
     ·exact⟨i,by omega,by omega,g3⟩
    ·rintro⟨i,g1,g2,g3⟩;exact⟨i,by omega,by omega,g3⟩
   rw[key];exact⟨h1,h2,h3,h4,h5⟩
  | true=>
   have key:∃i,v<=i/\i<v+(k+1)/\bdN m s i=true:=⟨v,cM _,by omega,hb⟩
   rw[hb] at h1 h2 h3 h4 h5;have e:(dU d f true).b=true/\(dU d f true).r=f.r/\(dU d f true).d=f.d/\(dU d f true).a=if f.b=false\/d<f.a then d else f.a:=by
    unfold dU;by_cases hh:f.b=false\/d<f.a
    ·rw[if_pos ⟨rfl,hh⟩,if_pos hh];exact⟨rfl,rfl,rfl,rfl⟩
    ·rw[if_neg (λg=>hh g.2),if_neg hh]
     refine⟨?_,rfl,rfl,rfl⟩;cases hfb:f.b with
     |true=>rfl
     |false=>exact absurd (.inl hfb) hh
   obtain⟨e1,e2,e3,e4⟩:=e;refine⟨h1.trans e2,h2.trans e3,⟨λ_=> .inr key,λ_=>h3.2 (.inl e1)⟩,λ_=>?_,λhn=>absurd key hn⟩;rw[<-e4];by_cases hk:∃i,v+1<=i/\i<v+1+k/\bdN m s i=true
   ·rw[h4 hk,e1]
    split
    ·rename_i hh
     rcases hh with hh|hh
     ·cases hh
     ·rw[e4] at hh ⊢
      split at hh<;>split<;>first|rfl|omega
    ·rfl
   ·exact h5 hk
def io (m:Md) (s:Nat):Prop:=∃i,i<nI m/\bdN m s i=true
structure ExI (m:Md) (o:List Int) (t:Nat) (f:Fd):Prop where
 r:f.r=(((List.range t).filter λs=>decide (0<=o.getD s 0)).length:Nat)
 d1:∀s,s<t->0<=o.getD s 0->o.getD s 0<=f.d
 d2:f.d=0\/∃s,s<t/\0<=o.getD s 0/\o.getD s 0=f.d
 b:f.b=true↔∃s,s<t/\0<=o.getD s 0/\io m s
 a:f.b=true->(∃s,s<t/\0<=o.getD s 0/\io m s/\o.getD s 0=f.a)/\∀s,s<t->0<=o.getD s 0->io m s->f.a<=o.getD s 0
 a0:f.b=false->f.a=0
theorem ExI.step {o:List Int} {t:Nat} {f:Fd} (h:ExI m o t f) (ht:t<=100000):ExI m o (t+1) (iR m o f t):=by
 have lt1:∀s,s<t+1->s<t\/s=t:=λs hs=>by omega
 unfold iR;by_cases hn:o.getD t 0<0
 ·rw[if_pos hn]
  refine⟨?_,λs hs h0=>?_,?_,?_,λhb=>?_,h.a0⟩
  ·rw[List.range_succ,List.filter_append,List.filter_cons_of_neg (by simpa using hn),List.filter_nil,bG]
   exact h.r
  ·rcases lt1 s hs with hs|rfl
   ·exact h.d1 s hs h0
   ·omega
  ·rcases h.d2 with h1|⟨s,h1,h2⟩
   ·exact .inl h1
   ·exact .inr ⟨s,by omega,h2⟩
  ·rw[h.b]
   constructor
   ·rintro⟨s,h1,h2⟩;exact⟨s,by omega,h2⟩
   ·rintro⟨s,h1,h2,h3⟩
    rcases lt1 s h1 with hs|rfl
    ·exact⟨s,hs,h2,h3⟩
    ·omega
  ·obtain⟨⟨s,h1,h2⟩,h3⟩:=h.a hb
   refine⟨⟨s,by omega,h2⟩,λs' g1 g2 g3=>?_⟩;rcases lt1 s' g1 with hs|rfl
   ·exact h3 s' hs g2 g3
   ·omega
 ·rw [if_neg hn]
  obtain⟨h1,h2,h3,h4,h5⟩:=vh (m:=m) t (o.getD t 0) (nI m) 0 {f with r:=WI.wrap (f.r+1),d:=if f.d<o.getD t 0 then o.getD t 0 else f.d };generalize bi (λf i=>dU (o.getD t 0) f (bdN m t i)) (nI m) {f with r:=WI.wrap (f.r+1),d:=if f.d<o.getD t 0 then o.getD t 0 else f.d } 0=F at *;simp only at h1 h2 h3 h4 h5;have key:(∃i,0<=i/\i<0+nI m/\bdN m t i=true)↔io m t:=by
   constructor
   ·rintro⟨i,_,g1,g2⟩;exact⟨i,by omega,g2⟩
   ·rintro⟨i,g1,g2⟩;exact⟨i,by omega,by omega,g2⟩
  rw[key] at h3 h4 h5;have hd0:0<=f.d:=by
   rcases h.d2 with g|⟨s,_,g1,g2⟩
   ·omega
   ·omega
  have hFb:F.b=true↔∃s,s<t+1/\0<=o.getD s 0/\io m s:=by
   rw[h3,h.b];constructor
   ·rintro (⟨s,g1,g2⟩|g)
    ·exact⟨s,by omega,g2⟩
    ·exact⟨t,by omega,by omega,g⟩
   ·rintro⟨s,g1,g2,g3⟩
    rcases lt1 s g1 with hs|rfl
    ·exact .inl ⟨s,hs,g2,g3⟩
    ·exact .inr g3
  refine⟨?_,λs hs h0=>?_,?_,hFb,λhb=>?_,λhb=>?_⟩
  ·rw[h1,h.r,List.range_succ,List.filter_append]
   have hl:((List.range t).filter λs=>decide (0<=o.getD s 0)).length<=t:=by have:=List.length_filter_le (λs=>decide (0<=o.getD s 0)) (List.range t);simpa using this
   have e:List.filter (λs=>decide (0<=o.getD s 0)) [t]=[t]:=by rw[List.filter_cons_of_pos (by simpa using Int.not_lt.1 hn)];rfl
   rw[e,aV];generalize ((List.range t).filter λs=>decide (0<=o.getD s 0)).length=x at *;rw[ay (by omega) (by omega)];simp
  ·rw[h2]
   rcases lt1 s hs with hs|rfl
   ·have:=h.d1 s hs h0
    split<;>omega
   ·split<;>omega
  ·rw[h2]
   split
   ·exact .inr ⟨t,by omega,by omega,rfl⟩
   ·rcases h.d2 with g|⟨s,g1,g2⟩
    ·exact .inl g
    ·exact .inr ⟨s,by omega,g2⟩
  ·by_cases hbt:io m t
   ·have ha:=h4 hbt
    cases hfb:f.b with
    | false=>
     rw[hfb] at ha;simp at ha;refine⟨⟨t,by omega,by omega,hbt,ha.symm⟩,λs g1 g2 g3=>?_⟩;rcases lt1 s g1 with hs|rfl
     ·have:=h.b.2 ⟨s,hs,g2,g3⟩
      rw[hfb] at this;cases this
     ·rw[ha];exact Int.le_refl _
    | true=>
     obtain⟨⟨s,g1,g2,g3,g4⟩,g5⟩:=h.a hfb;rw[hfb] at ha;simp at ha;by_cases hd:o.getD t 0<f.a
     ·simp[aM] at ha hd
      rw[if_pos hd] at ha;refine⟨⟨t,by omega,by omega,hbt,by rw[ha];simp[aM]⟩,λs' k1 k2 k3=>?_⟩;rcases lt1 s' k1 with hs|rfl
      ·have:=g5 s' hs k2 k3
       rw[ha];omega
      ·rw[ha];simp[aM]
     ·simp[aM] at ha hd
      rw[if_neg (by omega)] at ha;refine⟨⟨s,by omega,g2,g3,by rw[ha];exact g4⟩,λs' k1 k2 k3=>?_⟩;rcases lt1 s' k1 with hs|rfl
      ·rw[ha];exact g5 s' hs k2 k3
      ·rw[ha];simp[aM];exact hd
   ·have ha:=h5 hbt
    have hfb:f.b=true:=(h3.1 hb).resolve_right hbt;obtain⟨⟨s,g1,g2,g3,g4⟩,g5⟩:=h.a hfb;refine⟨⟨s,by omega,g2,g3,by rw[ha];exact g4⟩,λs' k1 k2 k3=>?_⟩;rcases lt1 s' k1 with hs|rfl
    ·rw[ha];exact g5 s' hs k2 k3
    ·exact absurd k3 hbt
  ·have hbt:¬io m t:=λg=>by
    rw[h3.2 (.inr g)] at hb;cases hb
   rw[h5 hbt];refine h.a0 ?_;cases hfb:f.b with
   |false=>rfl
   |true=>rw[h3.2 (.inl hfb)] at hb;cases hb
theorem ExI.run {o:List Int}:∀(k t:Nat) (f:Fd),t+k<=100000->ExI m o t f->ExI m o (t+k) (bi (iR m o) k f t)
 |0,t,f,_,h=>h
 |k+1,t,f,ht,h=>by have:=ExI.run k (t+1) _ (by omega) (h.step (by omega));rw[show t+(k+1)=t+1+k by omega];exact this
theorem Da (hc:aw m=0):ExI m (dh m) (nS m) (j5 m):=by
 have hN:nS m<=1024:=bN (n:=2) (by decide) (dB hc).2;have h0:ExI m (dh m) 0 ⟨0,0,false,0⟩:=⟨rfl,λs hs=>by omega,.inl rfl,⟨nofun,λ⟨s,hs,_⟩=>by omega⟩,nofun,λ_=>rfl⟩
 have:=ExI.run (nS m) 0 _ (by omega) h0;rw[cN] at this;exact this
theorem Db (hc:aw m=0):fdC (j5 m)=[I (eC m).reached,I (eC m).far,B (eC m).bad,I (eC m).badAt]:=by
 have hE:=Da hc;have hF:=mG hc;have c1:=λu hu h0=>C8 (m:=m) hc (u:=u) hu h0
 have c2:=λq hq=>C9 (m:=m) hc (q:=q) hq
 have e:eC m=eB m:=by unfold eC;rw[if_pos hc]
 rw[e];generalize j5 m=f at *;generalize eB m=X at *;generalize dh m=o at *;have hr:f.r=X.reached:=by
  rw[hE.r,hF.reached]
  congr 1
  have l1:((List.range (nS m)).filter λs=>decide (0<=o.getD s 0)).length<=X.deep.length:=by
   have hn:(((List.range (nS m)).filter λs=>decide (0<=o.getD s 0)).map λ(u:Nat)=>(u:Int)).Nodup:=by refine List.Pairwise.map _ (λa b hab=>?_) (List.Pairwise.filter _ List.nodup_range);omega
   have:=List.Nodup.length_le_of_subset hn (l₂:=X.deep.map (·.1)) (λa ha=>by obtain⟨u,hu,rfl⟩:=List.mem_map.1 ha;rw[List.mem_filter] at hu;exact List.mem_map.2 ⟨_,c1 u (by simpa using hu.1) (by simpa using hu.2),rfl⟩);simpa using this
  have l2:X.deep.length<=((List.range (nS m)).filter λs=>decide (0<=o.getD s 0)).length:=by have:=List.Nodup.length_le_of_subset hF.inv.nd (l₂:=((List.range (nS m)).filter λs=>decide (0<=o.getD s 0)).map λ(u:Nat)=>(u:Int)) (λa ha=>by obtain⟨q,hq,rfl⟩:=List.mem_map.1 ha;obtain⟨u,h1,h2,h3,h4⟩:=c2 q hq;refine List.mem_map.2 ⟨u,List.mem_filter.2 ⟨by simpa using h1,?_⟩,h2.symm⟩;rw[h3];simpa using h4);simpa using this
  omega
 have hfar0:0<=X.far:=by
  rcases hF.far.2 with ⟨_,h⟩|⟨q,h1,h2⟩
  ·omega
  ·obtain⟨u,_,_,_,h4⟩:=c2 q h1;omega
 have hd:f.d=X.far:=by
  apply Int.le_antisymm
  ·rcases hE.d2 with h|⟨s,h1,h2,h3⟩
   ·omega
   ·rw[<-h3];exact hF.far.1 _ (c1 s h1 h2)
  ·rcases hF.far.2 with ⟨_,h⟩|⟨q,h1,h2⟩
   ·rw[h]
    rcases hE.d2 with h|⟨s,h1,h2,h3⟩
    ·omega
    ·omega
   ·obtain⟨u,g1,g2,g3,g4⟩:=c2 q h1
    have:=hE.d1 u g1 (by rw[g3];exact g4);rw[g3] at this;omega
 have hbK:∀u:Nat,gt m (u:Int)↔io m u:=λu=>by unfold gt io;rw[Int.toNat_natCast]
 have hb:f.b=true↔X.bad=true:=by
  rw[hE.b,hF.bad];constructor
  ·rintro⟨s,h1,h2,h3⟩
   exact⟨_,c1 s h1 h2,(hbK s).2 h3⟩
  ·rintro⟨q,h1,h2⟩
   obtain⟨u,g1,g2,g3,g4⟩:=c2 q h1;rw[g2] at h2;exact⟨u,g1,by rw[g3];exact g4,(hbK u).1 h2⟩
 have ha:f.a=X.badAt:=by
  cases hX:X.bad with
  | false=>
   have hfb:f.b=false:=by
    cases h:f.b with
    |false=>rfl
    |true=>rw[hb.1 h] at hX;cases hX
   rw[hE.a0 hfb,hF.at0 hX]
  | true=>
   obtain⟨⟨s,h1,h2,h3,h4⟩,h5⟩:=hE.a (hb.2 hX);obtain⟨⟨q,g1,g2,g3⟩,g4⟩:=hF.badAt hX;apply Int.le_antisymm
   ·obtain⟨u,k1,k2,k3,k4⟩:=c2 q g1
    rw[k2] at g2;have:=h5 u k1 (by rw[k3];exact k4) ((hbK u).1 g2);rw[k3] at this;omega
   ·have:=g4 _ (c1 s h1 h2) ((hbK s).2 h3)
    rw[<-h4];exact this
 have hb2:f.b=X.bad:=by
  cases h1:X.bad with
  |true=>exact hb.2 h1
  |false=>
   cases h2:f.b with
   |false=>rfl
   |true=>rw[hb.1 h2] at h1;cases h1
 simp only[fdC,hr,hd,hb2,ha]
theorem Dc (hc:aw m=0) {s:List Int} (hs:cy m.nodes (ah m.nodes 3) s=0):iS m s=decide (0<=(dh m).getD (bu m s) 0):=by
 have hb:ig m s=0:=by unfold ig;rw[if_pos hc];exact hs
 unfold iS;rw[if_pos hb,pD hc (iP hs)];cases hf:bo (eB m).deep (bu m s) with
 |none=>simp
 |some d=>
  obtain⟨n,h1,_⟩:=((mG hc).find _ _).1 hf;subst h1;simp
end
theorem Dd {m:Md} (hm:oo m):Sz m.inits.length/\Sz m.nexts.length:=by have h1:=hm.inits;have h2:=hm.nexts;have:reachBytes=140737488351232:=rfl;simp only[Sz];omega
theorem toggle_found:aw toggleM=0/\(eC toggleM).reached=2/\(eC toggleM).far=1/\(eC toggleM).bad=true/\(eC toggleM).badAt=1:=by decide +kernel
theorem De {gh:List GObj}:ac pg 241 [] gh=some (B true,gh):=by
 have ht:=Bw (gh:=gh);have hX:=vg (gh:=gh) (m:=toggleM) (by decide) (by decide);rw[toggle_found.1] at hX;unfold mH at hX;rw[toggle_found.2.1,toggle_found.2.2.1,toggle_found.2.2.2.1,toggle_found.2.2.2.2] at hX;rw[bv] at *;generalize toggleM.nodes.map bn=N at *;generalize toggleM.inits.map bq=N1 at *;generalize toggleM.nexts.map bq=N2 at *;simp only[LI] at *;generalize toggleM.bads.map I=N3 at *;generalize toggleM.holds.map I=N4 at *;refine ao (fn:=q65) (s:=⟨[(0,B true)],[],gh⟩) rfl rfl (qke ?h1) ?r1
 case h1=>simp[ht,hX]
 case r1=>simp[ak,results,q65,am,aq,ai]
theorem vi (a b:Int) (c:Bool) (d:Int):dP [false,false,true,false] [I a,I b,B c,I d] [I a,I b,B c,I d]=some true:=by cases c<;>simp[dP,ip]
theorem Df {m:Md} {s:List Int} {gh:List GObj} (hm:oo m):ac pg 318 [dc m,LI s] gh=some (B true,gh):=by
 obtain⟨h1,h2⟩:=Dd hm;have hX:=vg (gh:=gh) h1 h2;have hC:=C7 (gh:=gh) (s:=s) h1 h2;have w:=Bt (m:=m) (gh:=gh) h1 h2;have bg:=De (gh:=gh);by_cases h0:aw m=0
 ·have hl:=(ei h0).len
  have cw:=Ca (gh:=gh) (vs:=s) (by omega) (iK h0 3);have he:ig m s=cy m.nodes (ah m.nodes 3) s:=by unfold ig;rw[if_pos h0]
  have sm:=C6 (gh:=gh) h0;have hW:=uM (gh:=gh) h0;have hL:=uW (gh:=gh) h0;have hE:=C5 (gh:=gh) h0;rw[Db h0] at hE;have fl:=vi (eC m).reached (eC m).far (eC m).bad (eC m).badAt;rw[h0] at w hX;unfold mH at hX;generalize eC m=X at *;generalize decide (bm m.nodes (ah m.nodes 2)+bm m.nodes (ah m.nodes 3)<=9)=small at *;by_cases hw:cy m.nodes (ah m.nodes 3) s=0
  ·have hK:=pn (gh:=gh) h0 hw
   have hcan:=Dc h0 hw;have hklt:=iP hw;have hg:=get_at (o:=dh m) (i:=bu m s) (by rw[mF];exact hklt);have hll:decide (bu m s<(dh m).length)=true:=aG (by rw[mF];exact hklt);have hnl:=eO (dh m);rw[he,hw] at hC;rw[hw] at cw;rw[hcan] at hC;generalize (dh m).getD (bu m s) 0=d at *;generalize bu m s=K at *;unfold kX LL LBB at hW hL;rw[bv] at *;simp only[LI] at *;have hll2:decide (K<((dh m).map I).length)=true:=by simpa using hll
   generalize (dh m).map I=O at *;generalize (dC m).map (λr=>PV.sl false 1 (r.map I))=A at *;generalize (dH m).map (λr=>PV.sl false 1 (r.map B))=C at *;generalize s.map I=S at *;have k2:ab pg q1s ⟨[(2,.ptr false 0 0),(5,.ptr false 1 0),(7,B (decide (0<=d))),(11,B (decide (0<=d)))],[[LN m.nodes,LP m.inits,LP m.nexts,.sl false 1 (m.bads.map I),.sl false 1 (m.holds.map I)],[I X.reached,I X.far,B X.bad,I X.badAt]],gh⟩=some (.ret,⟨[(4,B true)],[],gh⟩):=by refine qg0 ?_;simp[hE,fl]
   have k1:ab pg q1c ⟨[(1,.sl false 1 S),(2,.ptr false 0 0),(5,.ptr false 1 0),(6,I 0),(7,B (decide (0<=d))),(8,I 0),(9,I 0),(10,I 0)],[[LN m.nodes,LP m.inits,LP m.nexts,.sl false 1 (m.bads.map I),.sl false 1 (m.holds.map I)],[I X.reached,I X.far,B X.bad,I X.badAt]],gh⟩=some (.ret,⟨[(4,B true)],[],gh⟩):=by
    refine q9x ?_;cases small with
    |false=>simp[bg,sm]
    |true=>simp[bg,sm,hW,hL,hK,hg,hll2,k2,-List.getElem?_map]
   refine ao (fn:=q1d) (s:=⟨[(4,B true)],[],gh⟩) rfl rfl (q9y ?h1) ?r1
   case h1=>simp[hX,hC,w,cw,k1]
   case r1=>simp[ak,results,q1d,am,aq,ai]
  ·have hcan:iS m s=false:=by unfold iS;rw[if_neg (by rw[he];exact hw)]
   rw[hcan,he] at hC;generalize cy m.nodes (ah m.nodes 3) s=e at *;rw[bv] at *;simp only[LI] at *;generalize s.map I=S at *;have k2:ab pg q1s ⟨[(2,.ptr false 0 0),(5,.ptr false 1 0),(7,B false),(11,B false)],[[LN m.nodes,LP m.inits,LP m.nexts,.sl false 1 (m.bads.map I),.sl false 1 (m.holds.map I)],[I X.reached,I X.far,B X.bad,I X.badAt]],gh⟩=some (.ret,⟨[(4,B true)],[],gh⟩):=by refine qg0 ?_;simp[hE,fl]
   have k1:ab pg q1c ⟨[(1,.sl false 1 S),(2,.ptr false 0 0),(5,.ptr false 1 0),(6,I 0),(7,B false),(8,I e),(9,I 0),(10,I e)],[[LN m.nodes,LP m.inits,LP m.nexts,.sl false 1 (m.bads.map I),.sl false 1 (m.holds.map I)],[I X.reached,I X.far,B X.bad,I X.badAt]],gh⟩=some (.ret,⟨[(4,B true)],[],gh⟩):=by
    refine q9x ?_;cases small with
    |false=>simp[bg,sm,hw]
    |true=>simp[bg,sm,hw,k2]
   refine ao (fn:=q1d) (s:=⟨[(4,B true)],[],gh⟩) rfl rfl (q9y ?h2) ?r2
   case h2=>simp[hX,hC,w,cw,k1]
   case r2=>simp[ak,results,q1d,am,aq,ai]
 ·have he:ig m s=aw m:=by unfold ig;rw[if_neg h0]
  have hcan:iS m s=false:=by unfold iS;rw[if_neg (by rw[he];exact h0)]
  have hfx:eC m=xs0:=by unfold eC;rw[if_neg h0]
  have fl:=vi 0 0 false 0;rw[hcan,he] at hC;rw[hfx] at hX;unfold mH xs0 at hX;simp only at hX;generalize aw m=e at *;rw[bv] at *;simp only[LI] at *;generalize s.map I=S at *;have k1:ab pg q1c ⟨[(1,.sl false 1 S),(2,.ptr false 0 0),(5,.ptr false 1 0),(6,I e),(7,B false),(8,I e),(9,I e),(10,I e)],[[LN m.nodes,LP m.inits,LP m.nexts,.sl false 1 (m.bads.map I),.sl false 1 (m.holds.map I)],[I 0,I 0,B false,I 0]],gh⟩=some (.ret,⟨[(4,B true)],[],gh⟩):=by refine q9x ?_;simp[bg,h0,fl]
  refine ao (fn:=q1d) (s:=⟨[(4,B true)],[],gh⟩) rfl rfl (q9y ?h3) ?r3
  case h3=>simp[hX,hC,w,h0,k1]
  case r3=>simp[ak,results,q1d,am,aq,ai]
abbrev vj:List (Bool×List CS):=[(true,tm),(false,[.slice false 8 [.int]])]
theorem Dg (qs:List PV) (h:fk vj qs):ac pg 318 qs []=some (B true,[]):=by obtain⟨_,_,rfl,h0,h⟩:=rO h;obtain⟨_,_,rfl,h1,h⟩:=rO h;obtain rfl:=yj h;obtain⟨m,rfl,hm⟩:=Bx h0;obtain⟨s,rfl,-,-⟩:=Bv h1;exact Df hm
end Go.Lw