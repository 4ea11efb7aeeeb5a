/-
  The texts that the proof stands on, part 19.
-/
import Derived.Test.YtmodipglnngghacGreatDoorExploreFindsR
import Derived.OpenShut
import Derived.Carry
import Derived.Deep.Slices
import Derived.SizedLaws
set_option linter.unusedVariables false
set_option linter.unusedSimpArgs false
set_option linter.unnecessarySimpa false

set_option maxRecDepth 100000
set_option maxHeartbeats 4000000
namespace Go.Lw
open Go
section
open Go.RowKit Go.ChangeShapes Go.WideShapes Go.Deep
inductive CS where
 |int
 |bool
 |str
 |slice (g:Bool) (bytes:Nat) (l:List CS)
mutual
def fT:CS->PV->Prop
 | .int,p=>∃n,p= .int .i64 n/\ -9223372036854775808<=n/\n<=9223372036854775807
 | .bool,p=>∃b,p= .bool b
 | .str,p=>∃s,p= .str s/\s.size<=reachBytes
 | .slice g bytes l,p=>∃xs,p= .sl false l.length xs/\xs.length*bytes<=reachBytes/\∀e∈xs,(g=true/\∃ps,e= .agg ps/\bm l ps)\/(g=false/\bm l [e])
def bm:List CS->List PV->Prop
 |[],[]=>True
 |c::cs,p::ps=>fT c p/\bm cs ps
 |_,_=>False
end
mutual
def eX:PV->Nat
 | .str s=>s.size+1
 | .agg ps=>dj ps+1
 | .sl _ _ xs=>dj xs+1
 |_=>1
def dj:List PV->Nat
 |[]=>0
 |p::r=>eX p+dj r
end
section
variable {H:Type}
mutual
def dy:DataW H->Nat
 | .slice elems _=>ed elems+1
 | .agg parts=>ed parts+1
 | .lit (.string b)=>b.length+1
 |_=>1
def ed:List (DataW H)->Nat
 |[]=>0
 |d::r=>dy d+ed r
end
end
theorem mD:∀l m:List PV,dj (l++m)=dj l+dj m
 |[],m=>by simp[dj]
 |p::l,m=>by simp only[bJ,dj,mD l m];omega
theorem qQ {H:Type} (D:Nat->DataW H):∀(xs:List PV) (n i:Nat),xs.length=n->(∀j e,xs[j]?=some e->eX e<=dy (D (i+j)))->dj xs<=ed ((List.range' i n).map D)
 |[],0,i,_,_=>Nat.zero_le _
 | x::xs,n+1,i,hl,h=>by
  have h0:=h 0 x rfl;have hs:=qQ D xs n (i+1) (by simpa using hl) λj e he=>by
   have:=h (j+1) e (by simpa using he)
   rwa [Nat.add_assoc,Nat.add_comm 1 j]
  simp only[dj,List.range'_succ,bQ,ed];exact Nat.add_le_add h0 hs
 |[],n+1,_,hl,_=>by simp at hl
 |_::_,0,_,hl,_=>by simp at hl
theorem kN:∀{l:List CS} {ps:List PV},bm l ps->ps.length=l.length
 |[],[],_=>rfl
 |_::_,_::_,h=>by simp only[bm] at h;simp[kN h.2]
 |[],_::_,h=>by simp[bm] at h
 |_::_,[],h=>by simp[bm] at h
theorem mE:∀{l m:List CS} {ps qs:List PV},bm l ps->bm m qs->bm (l++m) (ps++qs)
 |[],_,[],_,_,h=>h
 |_::_,_,_::_,_,h,h2=>by simp only[bm] at h;exact⟨h.1,mE h.2 h2⟩
 |[],_,_::_,_,h,_=>by simp[bm] at h
 |_::_,_,[],_,h,_=>by simp[bm] at h
theorem wW {c:CS} {p:PV} (h:fT c p):p.one=true:=by
 cases c<;>simp only[fT] at h
 ·obtain⟨n,rfl,_⟩:=h;rfl
 ·obtain⟨b,rfl⟩:=h;rfl
 ·obtain⟨b,rfl,_⟩:=h;rfl
 ·obtain⟨xs,rfl,_⟩:=h;rfl
theorem kO:∀{l:List CS} {ps:List PV},bm l ps->ps.all PV.one=true
 |[],[],_=>rfl
 |_::_,_::_,h=>by simp only[bm] at h;simp[wW h.1,kO h.2]
 |[],_::_,h=>by simp[bm] at h
 |_::_,[],h=>by simp[bm] at h
theorem qR {l:List CS} {p:PV} (h:bm l [p]):p.cells=[p]:=by
 cases l with
 |nil=>simp[bm] at h
 |cons c l=>
  simp only[bm] at h;have h1:=h.1;cases c<;>simp only[fT] at h1
  ·obtain⟨n,rfl,_⟩:=h1;rfl
  ·obtain⟨b,rfl⟩:=h1;rfl
  ·obtain⟨b,rfl,_⟩:=h1;rfl
  ·obtain⟨xs,rfl,_⟩:=h1;rfl
def kP:Nat->List CS->List CS
 |0,_=>[]
 |n+1,l=>l++kP n l
theorem wX {w:World} {a:Addr} {v:Value} (h:w.cell? a=some v):a.block<w.heap.size:=by
 rcases Nat.lt_or_ge a.block w.heap.size with h1|h1
 ·exact h1
 ·simp[World.cell?,Array.getElem?_eq_none h1] at h
def isAgg (P:Program) (t:TypeId):Bool:=match P.underlying t with|some (.struct _)|some (.array _ _)=>true|_=>false
mutual
def shape (P:Program):Nat->TypeId->Option (List CS)
 |0,_=>none
 | n+1,t=>match P.underlying t with
  |some .bool=>some [.bool]
  |some (.int .i64)=>some [.int]
  |some .string=>some [.str]
  |some (.slice e)=>match shape P n e with
   |some l=>if P.cellsOf e=l.length/\(isAgg P e=true\/l.length=1)/\0<l.length then some [.slice (isAgg P e) (P.bytesOf e) l] else none
   |none=>none
  |some (.array k e)=>match shape P n e with
   |some l=>if P.cellsOf e=l.length/\P.cellsOf t=k*l.length then some (kP k l) else none
   |none=>none
  |some (.struct fs)=>match jd P n 0 fs.toList with
   |some l=>if P.cellsOf t=l.length then some l else none
   |none=>none
  |_=>none
def jd (P:Program):Nat->Nat->List Field->Option (List CS)
 |0,_,_=>none
 |_+1,_,[]=>some []
 |n+1,off,f::fs=>match shape P n f.type with
  |some l=>if f.offset=off/\P.cellsOf f.type=l.length then (match jd P n (off+l.length) fs with|some r=>some (l++r)|none=>none) else none
  |none=>none
end
def Reps (fi:FI) (w:World) (ps:List PV) (cs:List Value):Prop:=ps.length=cs.length/\∀(i:Nat) (p:PV) (v:Value),ps[i]?=some p->cs[i]?=some v->RepP fi (Mem.start w) w p v
section
variable {H:Type} {enc:TypeId×Value->H} {P:Program} {w:World} {sp:Nat->Bool} {held:Bool} {fi:FI}
theorem Reps.append {ps qs:List PV} {cs ds:List Value} (h:Reps fi w ps cs) (k:Reps fi w qs ds):Reps fi w (ps++qs) (cs++ds):=by
 refine⟨by simp[h.1,k.1],λi p v hp hv=>?_⟩;by_cases hi:i<ps.length
 ·rw[aJ hi] at hp
  rw[aJ (by rw[<-h.1];exact hi)] at hv;exact h.2 i p v hp hv
 ·rw[aR (by omega)] at hp
  rw[aR (by rw[<-h.1];omega)] at hv;rw[<-h.1] at hv;exact k.2 _ p v hp hv
theorem Reps.single {p:PV} {v:Value} (h:RepP fi (Mem.start w) w p v):Reps fi w [p] [v]:=by
 refine⟨rfl,λi q u hq hu=>?_⟩;cases i with
 |zero=>simp at hq hu;subst hq;subst hu;exact h
 |succ i=>simp at hq
theorem mF {e:TypeId}:∀{ds:List (DataW H)} {i:Nat} {d:DataW H} {b:Nat},ds[i]?=some d->b∈d.weights P e->b∈DataW.weightsAll P e ds
 |x::r,0,d,b,h,hb=>by simp at h;subst h;rw[DataW.weightsAll];exact bD _ hb
 |x::r,i+1,d,b,h,hb=>by rw[DataW.weightsAll];exact bE _ (mF (i:=i) (by simpa using h) hb)
theorem qS {Q:Nat->PV->Prop}:∀(n:Nat),(∀i,i<n->∃e,Q i e)->∃xs:List PV,xs.length=n/\∀i e,xs[i]?=some e->Q i e
 |0,_=>⟨[],rfl,λi e h=>by simp at h⟩
 | n+1,h=>by
  obtain⟨xs,hl,hx⟩:=qS n λi hi=>h i (by omega)
  obtain⟨e,he⟩:=h n (by omega);refine⟨xs++[e],by simp[hl],λi u hu=>?_⟩;by_cases hi:i<xs.length
  ·rw[aJ hi] at hu;exact hx i u hu
  ·rw[aR (by omega)] at hu
   have:i=n:=by have:=(aD.1 hu).1;simp at this;omega
   subst this;rw[hl] at hu;simp at hu;subst hu;exact he
def mG (fi:FI) (enc:TypeId×Value->H) (P:Program) (w:World) (sp:Nat->Bool) (held:Bool) (t:TypeId) (l:List CS):Prop:=
 ∀fuel cs x,DataW.trod enc P w 0 sp held fuel t cs=some x->(∀b∈x.1.weights P t,b<=reachBytes)->∃ps,bm l ps/\dj ps+(isAgg P t).toNat<=dy x.1/\Reps fi w ps cs
theorem qT {e:TypeId} {l:List CS} (hok:mG fi enc P w sp held e l) {m:Nat} {cs:List Value} {xs:List (DataW H×List MemPlace)}
  (hx:∀j,j<xs.length->DataW.trod enc P w 0 sp held m e ((cs.drop (j*l.length)).take l.length)=xs[j]?) (hw:∀b∈DataW.weightsAll P e (xs.map (·.1)),b<=reachBytes) :
  ∀k i,i+k=xs.length->∃ps,bm (kP k l) ps/\dj ps<=ed ((xs.map (·.1)).drop i)/\Reps fi w ps ((cs.drop (i*l.length)).take (k*l.length))
 |0,i,_=>⟨[],by simp[kP,bm],by simp[dj],by simp[Reps]⟩
 | k+1,i,hi=>by
  have hlt:i<xs.length:=by omega
  have h1:=hx i hlt;rw[aA hlt] at h1;obtain⟨ps,hp,hb1,hr⟩:=hok _ _ _ h1 λb hb=>hw b (mF (i:=i) (by simp[aA hlt]) hb)
  obtain⟨qs,hq,hb2,hs⟩:=qT hok hx hw k (i+1) (by omega);refine⟨ps++qs,mE hp hq,?_,?_⟩
  ·rw[mD,aL (by simpa using hlt),ed]
   simp only[List.getElem_map];omega
  have:(cs.drop (i*l.length)).take ((k+1)*l.length)=(cs.drop (i*l.length)).take l.length++(cs.drop ((i+1)*l.length)).take (k*l.length):=by rw[Nat.succ_mul k,Nat.add_comm (k*l.length),List.take_add,List.drop_drop,Nat.succ_mul i]
  rw[this];exact hr.append hs
theorem qU (n:Nat) (ih:∀k,k<=n->∀t l,shape P k t=some l->mG fi enc P w sp held t l) :
  ∀(k:Nat) (_:k<=n+1) (fs:List Field) (off:Nat) (l:List CS),jd P k off fs=some l->∀(cs:List Value) (xs:List (DataW H×List MemPlace)) (m:Nat),xs.length=fs.length->
   (∀(i:Nat) (f:Field),fs[i]?=some f->DataW.trod enc P w 0 sp held m f.type ((cs.drop f.offset).take (P.cellsOf f.type))=xs[i]?)->
   (∀b∈DataW.weightsEach P (fs.map (·.type)) (xs.map (·.1)),b<=reachBytes)->∃ps,bm l ps/\dj ps<=ed (xs.map (·.1))/\Reps fi w ps ((cs.drop off).take l.length)
 |0,_,fs,off,l,h,_,_,_,_,_,_=>by simp[jd] at h
 |k+1,_,[],off,l,h,cs,xs,m,hl,hx,hw=>by simp[jd] at h;subst h;exact⟨[],by simp[bm],by simp[dj],by simp[Reps]⟩
 | k + 1,hk,f::fs,off,l,h,cs,xs,m,hl,hx,hw=>by
  cases xs with
  |nil=>simp at hl
  | cons x xs=>
   rw[jd] at h;split at h
   ·rename_i l1 hs1
    split at h
    ·rename_i hc
     split at h
     ·rename_i r hr
      simp at h;subst h;have h0:=hx 0 f (by simp);simp only[List.getElem?_cons_zero] at h0;rw[hc.1,hc.2] at h0;obtain⟨ps,hp,hb1,hrp⟩:=ih k (by omega) _ _ hs1 _ _ _ h0 λb hb=>hw b (by simp only[bQ,DataW.weightsEach];exact bD _ hb)
      obtain⟨qs,hq,hb2,hrq⟩:=qU n ih k (by omega) fs (off+l1.length) r hr cs xs m (by simpa using hl) (λi g hg=>by simpa using hx (i+1) g (by simpa using hg)) (λb hb=>hw b (by simp only[bQ,DataW.weightsEach];exact bE _ hb));refine⟨ps++qs,mE hp hq,by rw[mD,bQ,ed];omega,?_⟩;rw[aV,List.take_add,List.drop_drop];exact hrp.append hrq
     ·cases h
    ·cases h
   ·cases h
theorem wY:∀(n:Nat) (t:TypeId) (l:List CS),shape P n t=some l->mG fi enc P w sp held t l:=by
 intro n
 induction n using Nat.strongRecOn with
 |ind n ih=>
 cases n with
 |zero=>intro t l h;simp[shape] at h
 | succ n =>
  intro t l h fuel cs x hx hw;rw[shape] at h;split at h
  ·rename_i ht
   simp at h;subst h;obtain⟨b,rfl,rfl⟩:=DataW.trod_bool ht hx;exact⟨[.bool b],⟨⟨b,rfl⟩,trivial⟩,by simp[dj,eX,dy,isAgg,ht],Reps.single (.bool b)⟩
  ·rename_i ht
   simp at h;subst h;obtain⟨b,rfl,rfl,hwf⟩:=DataW.trod_int ht hx;refine⟨[.int .i64 b],⟨⟨b,rfl,?_⟩,trivial⟩,by simp[dj,eX,dy,isAgg,ht],Reps.single (.int .i64 b)⟩;simp[Lit.wf,IntKind.min,IntKind.max,IntKind.signed,IntKind.bits] at hwf;omega
  ·rename_i ht
   simp at h;subst h;obtain⟨b,rfl,rfl,_⟩:=DataW.trod_string ht hx;refine⟨[.str b],⟨⟨b,rfl,?_⟩,trivial⟩,by simp[dj,eX,dy,isAgg,ht],Reps.single (.str b)⟩;have:=hw b.size (by simp[DataW.weights]);exact this
  ·rename_i e ht
   split at h
   ·rename_i l1 hs1
    split at h
    ·rename_i hc
     simp at h;subst h;rcases open_slice ht hx with ⟨rfl,rfl⟩|⟨a,len,cap,m,n',D,Pl,rfl,_,hlc,hcm,hm,rfl,hi⟩
     ·refine⟨[.sl false l1.length []],⟨⟨[],rfl,by simp,λe he=>by simp at he⟩,trivial⟩,by simp[dj,eX,dy,ed,isAgg,ht],Reps.single ?_⟩
      exact .sl l1.length [] none 0 0 0 (λ_=>undef) (.inl rfl) (by simp) (λe he=>by simp at he) (λe he=>by simp at he) (λi e j p he=>by simp at he) (λi e j p he=>by simp at he)
     ·have hlm:len<=m:=by rw[hm];split<;>omega
      have hwl:len*P.bytesOf e<=reachBytes:=by have:=hw ((len+(m-len))*P.bytesOf e) (by rw[DataW.weights,ht];simp);refine bX (cP _ ?_) this;omega
      have key:∀i,i<len->∃u,eX u<=dy (D i)/\(∃ps:List PV,u.cells=ps/\bm l1 ps/\((isAgg P e=true/\u= .agg ps)\/(isAgg P e=false/\bm l1 [u])))/\
        ∀(j:Nat) (p:PV),u.cells[j]?=some p->∃v,w.cell? (a.add (i*P.cellsOf e+j))=some v/\RepP fi (Mem.start w) w p v:=by
       intro i hil;obtain⟨cs',hcells,htr⟩:=hi i (by omega);obtain⟨ps,hp,hb1,hr⟩:=ih n (by omega) _ _ hs1 _ _ _ htr λb hb=>hw b (by rw[DataW.weights,ht];refine bG _ (bD _ (mF (i:=i) ?_ hb));simp[List.getElem?_range,hil])
       obtain⟨_,hcl,hat⟩:=World.cells?_some hcells;have hpl:=kN hp;have hget:∀(j:Nat) (p:PV),ps[j]?=some p->∃v,w.cell? (a.add (i*P.cellsOf e+j))=some v/\RepP fi (Mem.start w) w p v:=by
        intro j p hj;have hjl:j<ps.length:=(aD.1 hj).1;have hjc:j<cs'.length:=by rw[<-hr.1];exact hjl
        refine⟨cs'[j],?_,hr.2 j p _ hj (aA hjc)⟩;rw[<-Go.Deep.add_add,hat j (by omega),aA hjc]
       cases hg:isAgg P e with
       |true=>exact⟨.agg ps,by rw[eX];simpa [hg] using hb1,⟨ps,rfl,hp,.inl ⟨rfl,rfl⟩⟩,hget⟩
       | false=>
        have h1:l1.length=1:=hc.2.1.resolve_left (by simp[hg]);obtain⟨p0,rfl⟩:∃p0,ps=[p0]:=by
         cases ps with
         |nil=>simp at hpl;omega
         |cons p0 ps=>cases ps with
          |nil=>exact⟨p0,rfl⟩
          |cons q qs=>simp at hpl;omega
        have hcl0:=qR hp;exact⟨p0,by simp[dj] at hb1;omega,⟨[p0],hcl0,hp,.inr ⟨rfl,hp⟩⟩,by rw[hcl0];exact hget⟩
      obtain⟨xs,hxl,hxs⟩:=qS len key;have hmem:∀u∈xs,∃i,xs[i]?=some u:=λu hu=>List.getElem?_of_mem hu
      refine⟨[.sl false l1.length xs],⟨⟨xs,rfl,by rw[hxl];exact hwl,λu hu=>?_⟩,trivial⟩,?_,Reps.single ?_⟩
      ·obtain⟨i,hiu⟩:=hmem u hu
       obtain⟨_,⟨ps,hcps,hall,hor⟩,_⟩:=hxs i u hiu;rcases hor with ⟨h1,h2⟩|⟨h1,h2⟩
       ·exact .inl ⟨h1,ps,h2,hall⟩
       ·exact .inr ⟨h1,h2⟩
      ·have:=qQ D xs len 0 hxl λj e he=>by
        have:=(hxs j e he).1
        rwa [cO]
       rw[<-List.range_eq_range'] at this;simp only[dj,eX,dy,isAgg,ht];simpa using this
      ·have hspot:xs=[]\/a.spot=none:=by
        cases xs with
        |nil=>exact .inl rfl
        | cons u us=>
         refine .inr ?_;obtain⟨_,⟨ps,hcps,hall,hor⟩,hcel⟩:=hxs 0 u rfl;have hl1:=kN hall;by_cases hz:ps=[]
         ·rw[hz] at hl1
          have:=hc.2.2;simp at hl1;omega
         ·obtain⟨p,ps',rfl⟩:=List.exists_cons_of_ne_nil hz
          obtain⟨v,hv,_⟩:=hcel 0 p (by rw[hcps];rfl);have:=World.cell?_spot hv;simpa [Addr.add] using this
       have hcellE:P.cellsOf e=l1.length:=hc.1;rw[show len=xs.length from hxl.symm];refine .sl l1.length xs (some a) cap a.block a.off (λk=>(w.cell? ⟨a.block,a.off+k,none⟩).getD undef) ?_ (by omega) (λu hu=>?_) (λu hu=>?_) (λi u j p hu hp=>?_) (λi u j p hu hp=>?_)
       ·rcases hspot with h|h
        ·exact .inl h
        ·refine .inr ?_
         cases a;simp at h;subst h;rfl
       ·obtain⟨i,hiu⟩:=hmem u hu
        obtain⟨_,⟨ps,hcps,hall,_⟩,_⟩:=hxs i u hiu;rw[hcps];exact kN hall
       ·obtain⟨i,hiu⟩:=hmem u hu
        obtain⟨_,⟨ps,hcps,hall,_⟩,_⟩:=hxs i u hiu;rw[ah,hcps];exact kO hall
       ·obtain⟨_,_,hcel⟩:=hxs i u hu
        obtain⟨v,hv,hrep⟩:=hcel j p hp;rw[hcellE] at hv;have ha:a.add (i*l1.length+j)=⟨a.block,a.off+(i*l1.length+j),none⟩:=by
         have hs:a.spot=none:=hspot.resolve_left λh=>by rw[h] at hu;simp at hu
         cases a;simp at hs;subst hs;unfold Addr.add;split
         ·rename_i h0;rw[h0];rfl
         ·rfl
        rw[ha] at hv;refine⟨?_,by rw[hv];rfl⟩;exact wX (a:=⟨a.block,a.off+(i*l1.length+j),none⟩) hv
       ·obtain⟨_,_,hcel⟩:=hxs i u hu
        obtain⟨v,hv,hrep⟩:=hcel j p hp;rw[hcellE] at hv;have ha:a.add (i*l1.length+j)=⟨a.block,a.off+(i*l1.length+j),none⟩:=by
         have hs:a.spot=none:=hspot.resolve_left λh=>by rw[h] at hu;simp at hu
         cases a;simp at hs;subst hs;unfold Addr.add;split
         ·rename_i h0;rw[h0];rfl
         ·rfl
        rw[ha] at hv;rw[hv];exact hrep
    ·cases h
   ·cases h
  ·rename_i k e ht
   split at h
   ·rename_i l1 hs1
    split at h
    ·rename_i hc
     simp at h;subst h;obtain⟨xs,m,rfl,rfl,hcl,hxl,hi⟩:=DataW.trod_array ht hx;obtain⟨ps,hp,hb1,hr⟩:=qT (ih n (by omega) _ _ hs1) (cs:=cs) (xs:=xs) (m:=m) (λj hj=>by rw[<-hc.1];exact hi j (by omega)) (λb hb=>hw b (by rw[DataW.weights,ht];exact hb)) k 0 (by omega);refine⟨ps,hp,by rw[dy];simp[isAgg,ht];simpa using hb1,?_⟩;rw[Nat.zero_mul,bM,<-hc.2,<-hcl,List.take_length] at hr;exact hr
    ·cases h
   ·cases h
  ·rename_i fs ht
   split at h
   ·rename_i l1 hs1
    split at h
    ·rename_i hc
     simp at h;subst h;obtain⟨xs,m,rfl,rfl,hcl,hxl,hi⟩:=DataW.trod_struct ht hx;obtain⟨ps,hp,hb1,hr⟩:=qU n (λk hk=>ih k (by omega)) n (by omega) fs.toList 0 l1 hs1 cs xs m (by simpa using hxl) (λi f hf=>hi i f (by simpa using hf)) (λb hb=>hw b (by rw[DataW.weights,ht];exact hb));refine⟨ps,hp,by rw[dy];simp[isAgg,ht];simpa using hb1,?_⟩;rw[bM,<-hc,<-hcl,List.take_length] at hr;exact hr
    ·cases h
   ·cases h
  ·cases h
def gr:Bool×List CS->PV->Prop
 |(true,l),p=>∃ps,p= .agg ps/\bm l ps
 |(false,l),p=>bm l [p]
def eY:List (Bool×List CS)->List PV->Prop
 |[],[]=>True
 |c::cs,p::ps=>gr c p/\eY cs ps
 |_,_=>False
def jK (P:Program) (n:Nat):List TypeId->Option (List (Bool×List CS))
 |[]=>some []
 |t::ts=>match shape P n t,jK P n ts with
  |some l,some r=>some ((isAgg P t,l)::r)
  |_,_=>none
theorem qV {c:Bool×List CS} {cs:List (Bool×List CS)} {qs:List PV} (h:eY (c::cs) qs):∃p ps,qs=p::ps/\gr c p/\eY cs ps:=by
 cases qs with
 |nil=>simp[eY] at h
 |cons p ps=>exact⟨p,ps,rfl,h⟩
theorem wZ {qs:List PV} (h:eY [] qs):qs=[]:=by
 cases qs with
 |nil=>rfl
 |cons p ps=>simp[eY] at h
theorem dV {c:CS} {cs:List CS} {qs:List PV} (h:bm (c::cs) qs):∃p ps,qs=p::ps/\fT c p/\bm cs ps:=by
 cases qs with
 |nil=>simp[bm] at h
 |cons p ps=>exact⟨p,ps,rfl,h⟩
theorem je {qs:List PV} (h:bm [] qs):qs=[]:=by
 cases qs with
 |nil=>rfl
 |cons p ps=>simp[bm] at h
theorem qW {l:List CS} {p:PV} (h:gr (true,l) p):∃ps,p= .agg ps/\bm l ps:=h
theorem fU {p:PV} (h:fT .int p):∃n,p= .int .i64 n/\ -9223372036854775808<=n/\n<=9223372036854775807:=h
theorem w4 {c:Bool×List CS} {p:PV} (h:gr c p):ah p=true:=by
 obtain⟨g,l⟩:=c;cases g with
 |true=>
  obtain⟨ps,rfl,h⟩:=h;exact kO h
 |false=>rw[ah,qR h];exact kO h
theorem qX:∀{L:List (Bool×List CS)} {ps:List PV},eY L ps->∀p∈ps,ah p=true
 |[],[],_,p,hp=>by simp at hp
 |_::_,q::ps,h,p,hp=>by
  simp only[eY] at h;rcases List.mem_cons.1 hp with rfl|hp
  ·exact w4 h.1
  ·exact qX h.2 p hp
 |[],_::_,h,_,_=>by simp[eY] at h
 |_::_,[],h,_,_=>by simp[eY] at h
theorem w6 {n:Nat} {t:TypeId} {l:List CS} (hs:shape P n t=some l) {base:Nat} {v:Value} {d:DataW H} {ps:List MemPlace} (hv:Value.okWide P w .any base t v) (hd:DataW.Trod enc P w 0 sp held t v d ps)
  (hw:∀b∈d.weights P t,b<=reachBytes):∃p,gr (isAgg P t,l) p/\eX p<=dy d/\RepP fi (Mem.start w) w p v:=by
 obtain⟨fuel,hf⟩:=hd;obtain⟨qs,hq,hb1,hr⟩:=wY (fi:=fi) n t l hs fuel _ _ hf hw;have hone:v.cells.toList=[v]->isAgg P t=false->∃p,gr (isAgg P t,l) p/\eX p<=dy d/\RepP fi (Mem.start w) w p v:=by
  intro hc hg;rw[hc] at hr;cases qs with
  |nil=>have:=hr.1;simp at this
  |cons q qs=>cases qs with
   |cons r qs=>have:=hr.1;simp at this
   |nil=>exact⟨q,by rw[hg];exact hq,by simp[dj] at hb1;omega,hr.2 0 q v rfl rfl⟩
 have hagg:(∃cs,v= .agg cs)->isAgg P t=true->∃p,gr (isAgg P t,l) p/\eX p<=dy d/\RepP fi (Mem.start w) w p v:=by rintro⟨cs,rfl⟩ hg;refine⟨.agg qs,by rw[hg];exact⟨qs,rfl,hq⟩,by rw[eX];simpa [hg] using hb1,?_⟩;obtain⟨cl⟩:=cs;exact .agg qs cl hr.1.symm hr.2
 cases n with
 |zero=>simp[shape] at hs
 | succ n=>
  rw[shape] at hs;split at hs
  ·rename_i ht
   obtain⟨b,rfl⟩:=okWide_bool ht hv;exact hone rfl (by simp[isAgg,ht])
  ·rename_i ht
   obtain⟨b,rfl⟩:=okWide_int ht hv;exact hone rfl (by simp[isAgg,ht])
  ·rename_i ht
   obtain⟨b,rfl⟩:=okWide_string ht hv;exact hone rfl (by simp[isAgg,ht])
  ·rename_i e ht
   obtain⟨a,b,c,rfl⟩:=okWide_slice ht hv;exact hone rfl (by simp[isAgg,ht])
  ·rename_i k e ht
   refine hagg ?_ (by simp[isAgg,ht]);simp only[Value.okWide,ht] at hv;obtain⟨cs,h1,_⟩:=hv;exact⟨cs,h1⟩
  ·rename_i fs ht
   refine hagg ?_ (by simp[isAgg,ht]);simp only[Value.okWide,ht] at hv;obtain⟨cs,h1,_⟩:=hv;exact⟨cs,h1⟩
  ·cases hs
theorem qY {n base:Nat}:∀{ts:List TypeId} {L:List (Bool×List CS)} {vs:List Value} {ds:List (DataW H)} {ps:List MemPlace},jK P n ts=some L->DataW.TrodAll enc P w 0 sp held ts vs ds ps->
  (∀(j:Nat) t v,ts[j]?=some t->vs[j]?=some v->Value.okWide P w .any base t v)->(∀b∈DataW.weightsEach P ts ds,b<=reachBytes)->
  ∃qs,eY L qs/\dj qs<=ed ds/\qs.length=vs.length/\∀(i:Nat) (p:PV) (v:Value),qs[i]?=some p->vs[i]?=some v->RepP fi (Mem.start w) w p v
 |[],L,vs,ds,ps,hs,ht,_,_=>by obtain⟨rfl,rfl,rfl⟩:=trodAll_nil ht;simp[jK] at hs;subst hs;exact⟨[],trivial,Nat.zero_le _,rfl,λi p v h=>by simp at h⟩
 | t::ts,L,vs,ds,ps,hs,ht,hv,hw=>by
  obtain⟨v,vs',d,ds',p,q,rfl,rfl,rfl,h1,h2⟩:=trodAll_cons ht;simp only[jK] at hs;split at hs
  ·rename_i l r hl hr
   simp at hs;subst hs;obtain⟨a,ha,hb1,hra⟩:=w6 (fi:=fi) hl (hv 0 t v rfl rfl) h1 λb hb=>hw b (by simp only[DataW.weightsEach];exact bD _ hb)
   obtain⟨qs,hq,hb2,hl,hrq⟩:=qY hr h2 (λj t v h1 h2=>hv (j+1) t v (by simpa using h1) (by simpa using h2)) (λb hb=>hw b (by simp only[DataW.weightsEach];exact bE _ hb));refine⟨a::qs,⟨ha,hq⟩,by rw[dj,ed];omega,by simp[hl],λi p v h1 h2=>?_⟩;cases i with
   |zero=>simp at h1 h2;subst h1;subst h2;exact hra
   |succ i=>exact hrq i p v (by simpa using h1) (by simpa using h2)
  ·cases hs
theorem qZ {W W':World} (hl:laidOutB P=true) (hb:Below W.heap.size W W'):∀{ts:List TypeId} {vs:List Value} {ds:List (DataW H)} {ps:List MemPlace},
  (ts.all λt=>P.readableRec t&&decide (t<P.types.size))=true->DataW.TrodAll enc P W 0 (λ_=>true) true ts vs ds ps->DataW.TrodAll enc P W' 0 (λb=>decide (b<W.heap.size)) true ts vs ds ps
 |[],vs,ds,ps,_,h=>by obtain⟨rfl,rfl,rfl⟩:=trodAll_nil h;exact h
 |t::ts,vs,ds,ps,hr,h=>by
  obtain⟨v,vs',d,ds',p,q,rfl,rfl,rfl,h1,h2⟩:=trodAll_cons h;simp only[List.all_cons,aX,aH] at hr;have lt:∀x∈p,x.block<W.heap.size:=by obtain⟨m,hm⟩:=h1;exact DataW.trod_lt m _ _ _ hm
  exact⟨p,q,Below.trod hl hr.1.1 hr.1.2 h1 hb lt,qZ hl hb hr.2 h2,rfl⟩
end
end
section
open Go.RowKit
def jM (P:Program) (fi:FI) (pg:Prg) (f F:Nat):Bool:=
 match P.funcs[F]? with
 | some Fn=>match Fn.body with
  |some c=>match pg f with
   | some (.code fn) => (!(Fn.name == "runtime.NumGoroutine")) && (cg P fi Fn.ntmps fn.body c && er P fn.res Fn.results.toList)
   |some (.yl _)=>false
   | _ => !(Fn.name == "runtime.NumGoroutine")
  |none=>false
 |none=>false
def rh (pg:Prg) (f:Nat):Bool:=match pg f with|some (.lib _)=>true|_=>false
theorem xc {P:Program} {fi:FI} {pg:Prg} {f F:Nat} (h:jM P fi pg f F=true) (hl:∀L,pg f=some (.lib L)->∀vs gh r gh',L vs gh=some (r,gh')->(∀p∈vs,ah p=true)->eq P fi F vs gh r gh') :
  qN P F/\match pg f with
  |some (.code fn)=>∃Fn c,P.funcs[F]?=some Fn/\Fn.body=some c/\cg P fi Fn.ntmps fn.body c=true/\er P fn.res Fn.results.toList=true
  |some (.lib L)=>∀vs gh r gh',L vs gh=some (r,gh')->(∀p∈vs,ah p=true)->eq P fi F vs gh r gh'
  |_=>pg f=none:=by
 unfold jM at h;cases hF:P.funcs[F]? with
 |none=>rw[hF] at h;cases h
 | some Fn=>
  rw[hF] at h;simp only at h;cases hc:Fn.body with
  |none=>rw[hc] at h;cases h
  | some c=>
   rw[hc] at h;simp only at h;cases hp:pg f with
   |none=>
    rw[hp] at h;exact⟨⟨Fn,c,hF,by simpa using h,hc⟩,by simp[hp]⟩
   | some df=>
    cases df with
    |lib L=>
     rw[hp] at h;exact⟨⟨Fn,c,hF,by simpa using h,hc⟩,hl L hp⟩
    |yl Y=>rw[hp] at h;cases h
    |code fn=>
     rw[hp] at h;simp only[aX,Bool.not_eq_true'] at h;exact⟨⟨Fn,c,hF,h.1,hc⟩,Fn,c,rfl,hc,h.2.1,h.2.2⟩
def fiG (l:List (Nat×Nat)) (gl:List (Nat×Nat×Option Value)) (bT:List TypeId:=[]) (u8:TypeId:=0) (gw:List (Nat×List ByteArray):=[]) (gwok:jy gl gw:=by exact oJ _):FI:={f:=λf=>(l.find? (·.1==f)).map (·.2),gl:=gl,bT:=bT,u8:=u8,gw:=gw,gwok:=gwok }
theorem xd {l:List (Nat×Nat)} {gl:List (Nat×Nat×Option Value)} {bT:List TypeId} {u8:TypeId} {gw:List (Nat×List ByteArray)} {gwok:jy gl gw} {f F:Nat} (h:fiG l gl bT u8 gw gwok f=some F):(f,F)∈l:=by unfold fiG at h;simp only[aE] at h;obtain⟨⟨a,b⟩,h1,rfl⟩:=h;have h2:=List.find?_some h1;have h3:=List.mem_of_find?_eq_some h1;simp at h2;subst h2;exact h3
theorem xe {P:Program} {l:List (Nat×Nat)} {fi:FI} {pg:Prg} (hm:∀f F,fi f=some F->(f,F)∈l) (hy:∀y N ps as body,fi.yp y N ps as body=true->∃Y,pg y=some (.yl Y)/\ps= #[Y.t]/\fi.yk y=Y.ks/\Y.t∉Y.ks/\Y.t<N/\dx Y.as=true/\dx Y.body=true/\cg P fi N Y.as as=true/\cg P fi N Y.body body=true)
  (h:(l.all λx=>jM P fi pg x.1 x.2)=true) (hl:∀f F L,(f,F)∈l->pg f=some (.lib L)->∀vs gh r gh',L vs gh=some (r,gh')->(∀p∈vs,ah p=true)->eq P fi F vs gh r gh'):gq P fi pg:=by
 refine⟨hy,λf F hf=>?_⟩;rw[bS] at h;exact xc (h _ (hm f F hf)) (λL=>hl f F L (hm f F hf))
def ri (P:Program) (fi:FI) (yl:List (Nat×IYl)):YP:=λy N ps as body=>match yl.lookup y with
 |some Y=>ps== #[Y.t]&&(!Y.ks.contains Y.t&&(decide (Y.t<N)&&(dx Y.as&&(dx Y.body&&(cg P fi N Y.as as&&cg P fi N Y.body body)))))
 |none=>false
def rj (yl:List (Nat×IYl)):Nat->List Nat:=λy=>match yl.lookup y with
 |some Y=>Y.ks
 |none=>[]
def FI.wk (fi:FI) (yl:List (Nat×IYl)):FI:=⟨fi.f,fi.gl,fi.bT,fi.u8,fi.gw,fi.gwok,rj yl,λ_ _ _ _ _=>false⟩
def fiY (P:Program) (fi:FI) (yl:List (Nat×IYl)):FI:=(fi.wk yl).nY (ri P (fi.wk yl) yl)
theorem xf {P:Program} {l:List (Nat×Nat)} {gl:List (Nat×Nat×Option Value)} {bT:List TypeId} {u8:TypeId} {gw:List (Nat×List ByteArray)} {gwok:jy gl gw} {pg:Prg} {yl:List (Nat×IYl)} (hy:∀y Y,yl.lookup y=some Y->pg y=some (.yl Y)) (h:(l.all λx=>jM P (fiY P (fiG l gl bT u8 gw gwok) yl) pg x.1 x.2)=true)
  (hl:∀f F L,(f,F)∈l->pg f=some (.lib L)->∀vs gh r gh',L vs gh=some (r,gh')->(∀p∈vs,ah p=true)->eq P (fiY P (fiG l gl bT u8 gw gwok) yl) F vs gh r gh'):gq P (fiY P (fiG l gl bT u8 gw gwok) yl) pg:=by
 refine xe (λf F hf=>xd (gl:=gl) (bT:=bT) (u8:=u8) (gw:=gw) (gwok:=gwok) hf) (λy N ps as body hp=>?_) h hl;unfold fiY ri at hp;simp only at hp;cases hY:yl.lookup y with
 |none=>rw[hY] at hp;cases hp
 |some Y=>
  rw[hY] at hp;simp only[aX,Bool.not_eq_true',cR,aH] at hp;obtain⟨h1,h2,h3,h4,h5,h6,h7⟩:=hp;exact⟨Y,hy y Y hY,h1,by simp only[fiY,FI.nY,FI.wk,rj,hY],by simpa using h2,h3,h4,h5,(rf h4).trans h6,(rf h5).trans h7⟩
theorem xh {H:Type} {enc:TypeId×Value->H} {P:Program} {fi:FI} {pg:Prg} (hP:P.follows .mixedOrders=true) (hL:gq P fi pg) {f F n:Nat} (hf:fi f=some F) {ts:List TypeId} {L:List (Bool×List CS)}
  (hs:jK P n ts=some L) {N:Nat} (hlaw:∀qs,eY L qs->dj qs<=N->af pg f qs []=some (.bool true,[])) {W:World} {base:Nat} {args:List Value} {ds:List (DataW H)} {ps:List MemPlace}
  (hA:DataW.TrodAll enc P W 0 (λ_=>true) true ts args ds ps) (hv:∀(j:Nat) t v,ts[j]?=some t->args[j]?=some v->Value.okWide P W .any base t v) (hw:(DataW.weightsEach P ts ds).all (· <=reachBytes)=true) (hN:ed ds<=N) (hg:∀x∈fi.gl,x.1<W.heap.size/\W.cell? ⟨x.1,x.2.1,none⟩=x.2.2:=by intro x hx;cases hx) :
  Calls P F args.toArray W λe W'=>e= .returned (.bool true)/\Below W.heap.size W W':=by
 obtain⟨qs,hq,hbk,hl,hr⟩:=qY (fi:=fi) hs hA hv (by simpa using hw);refine (wV hP hL (hlaw qs hq (bX hbk hN)) (qX hq) hf hl.symm hg hr).mono ?_;rintro e w' ⟨v,M',rfl,_,hres,h1,h2,h3,h4,h5⟩;refine⟨?_,⟨h1,h2,h3,h4,h5⟩⟩;have:RepP fi M' w' (.bool true) v:=hres;cases this;rfl
end
end Go.Lw