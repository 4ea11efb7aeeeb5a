/-
  The texts that the proof stands on, part 17.
-/
import Derived.Test.YtmodipglnngghabBlastTellsP
import Derived.OpenShut
import Derived.Carry
import Derived.Deep.Slices
import Derived.SizedLaws
set_option linter.unusedVariables false
set_option linter.unusedSimpArgs false
set_option linter.unnecessarySimpa false

set_option maxRecDepth 100000
set_option maxHeartbeats 4000000
namespace Go.Lw
open Go
section
open Go.RowKit Go.ChangeShapes Go.WideShapes Go.Deep
inductive CS where
 |int
 |bool
 |str
 |slice (g:Bool) (bytes:Nat) (l:List CS)
mutual
def js:CS->PV->Prop
 | .int,p=>∃n,p= .int .i64 n/\ -9223372036854775808<=n/\n<=9223372036854775807
 | .bool,p=>∃b,p= .bool b
 | .str,p=>∃s,p= .str s/\s.size<=reachBytes
 | .slice g bytes l,p=>∃xs,p= .sl false l.length xs/\xs.length*bytes<=reachBytes/\∀e∈xs,(g=true/\∃ps,e= .agg ps/\dl l ps)\/(g=false/\dl l [e])
def dl:List CS->List PV->Prop
 |[],[]=>True
 |c::cs,p::ps=>js c p/\dl cs ps
 |_,_=>False
end
mutual
def gt:PV->Nat
 | .str s=>s.size+1
 | .agg ps=>eA ps+1
 | .sl _ _ xs=>eA xs+1
 |_=>1
def eA:List PV->Nat
 |[]=>0
 |p::r=>gt p+eA r
end
section
variable {H:Type}
mutual
def eR:DataW H->Nat
 | .slice elems _=>fy elems+1
 | .agg parts=>fy parts+1
 | .lit (.string b)=>b.length+1
 |_=>1
def fy:List (DataW H)->Nat
 |[]=>0
 |d::r=>eR d+fy r
end
end
theorem rh:∀l m:List PV,eA (l++m)=eA l+eA m
 |[],m=>by simp[eA]
 |p::l,m=>by simp only[bJ,eA,rh l m];omega
theorem vd {H:Type} (D:Nat->DataW H):∀(xs:List PV) (n i:Nat),xs.length=n->(∀j e,xs[j]?=some e->gt e<=eR (D (i+j)))->eA xs<=fy ((List.range' i n).map D)
 |[],0,i,_,_=>Nat.zero_le _
 | x::xs,n+1,i,hl,h=>by
  have h0:=h 0 x rfl;have hs:=vd D xs n (i+1) (by simpa using hl) λj e he=>by
   have:=h (j+1) e (by simpa using he)
   rwa [Nat.add_assoc,Nat.add_comm 1 j]
  simp only[eA,List.range'_succ,bQ,fy];exact Nat.add_le_add h0 hs
 |[],n+1,_,hl,_=>by simp at hl
 |_::_,0,_,hl,_=>by simp at hl
theorem nC:∀{l:List CS} {ps:List PV},dl l ps->ps.length=l.length
 |[],[],_=>rfl
 |_::_,_::_,h=>by simp only[dl] at h;simp[nC h.2]
 |[],_::_,h=>by simp[dl] at h
 |_::_,[],h=>by simp[dl] at h
theorem ri:∀{l m:List CS} {ps qs:List PV},dl l ps->dl m qs->dl (l++m) (ps++qs)
 |[],_,[],_,_,h=>h
 |_::_,_,_::_,_,h,h2=>by simp only[dl] at h;exact⟨h.1,ri h.2 h2⟩
 |[],_,_::_,_,h,_=>by simp[dl] at h
 |_::_,_,[],_,h,_=>by simp[dl] at h
theorem Ch {c:CS} {p:PV} (h:js c p):p.one=true:=by
 cases c<;>simp only[js] at h
 ·obtain⟨n,rfl,_⟩:=h;rfl
 ·obtain⟨b,rfl⟩:=h;rfl
 ·obtain⟨b,rfl,_⟩:=h;rfl
 ·obtain⟨xs,rfl,_⟩:=h;rfl
theorem nD:∀{l:List CS} {ps:List PV},dl l ps->ps.all PV.one=true
 |[],[],_=>rfl
 |_::_,_::_,h=>by simp only[dl] at h;simp[Ch h.1,nD h.2]
 |[],_::_,h=>by simp[dl] at h
 |_::_,[],h=>by simp[dl] at h
theorem ve {l:List CS} {p:PV} (h:dl l [p]):p.cells=[p]:=by
 cases l with
 |nil=>simp[dl] at h
 |cons c l=>
  simp only[dl] at h;have h1:=h.1;cases c<;>simp only[js] at h1
  ·obtain⟨n,rfl,_⟩:=h1;rfl
  ·obtain⟨b,rfl⟩:=h1;rfl
  ·obtain⟨b,rfl,_⟩:=h1;rfl
  ·obtain⟨xs,rfl,_⟩:=h1;rfl
def nE:Nat->List CS->List CS
 |0,_=>[]
 |n+1,l=>l++nE n l
theorem Cj {w:World} {a:Addr} {v:Value} (h:w.cell? a=some v):a.block<w.heap.size:=by
 rcases Nat.lt_or_ge a.block w.heap.size with h1|h1
 ·exact h1
 ·simp[World.cell?,Array.getElem?_eq_none h1] at h
def isAgg (P:Program) (t:TypeId):Bool:=match P.underlying t with|some (.struct _)|some (.array _ _)=>true|_=>false
mutual
def shape (P:Program):Nat->TypeId->Option (List CS)
 |0,_=>none
 | n+1,t=>match P.underlying t with
  |some .bool=>some [.bool]
  |some (.int .i64)=>some [.int]
  |some .string=>some [.str]
  |some (.slice e)=>match shape P n e with
   |some l=>if P.cellsOf e=l.length/\(isAgg P e=true\/l.length=1)/\0<l.length then some [.slice (isAgg P e) (P.bytesOf e) l] else none
   |none=>none
  |some (.array k e)=>match shape P n e with
   |some l=>if P.cellsOf e=l.length/\P.cellsOf t=k*l.length then some (nE k l) else none
   |none=>none
  |some (.struct fs)=>match kQ P n 0 fs.toList with
   |some l=>if P.cellsOf t=l.length then some l else none
   |none=>none
  |_=>none
def kQ (P:Program):Nat->Nat->List Field->Option (List CS)
 |0,_,_=>none
 |_+1,_,[]=>some []
 |n+1,off,f::fs=>match shape P n f.type with
  |some l=>if f.offset=off/\P.cellsOf f.type=l.length then (match kQ P n (off+l.length) fs with|some r=>some (l++r)|none=>none) else none
  |none=>none
end
def Reps (fi:FI) (w:World) (ps:List PV) (cs:List Value):Prop:=ps.length=cs.length/\∀(i:Nat) (p:PV) (v:Value),ps[i]?=some p->cs[i]?=some v->RepP fi (Mem.start w) w p v
section
variable {H:Type} {enc:TypeId×Value->H} {P:Program} {w:World} {sp:Nat->Bool} {held:Bool} {fi:FI}
theorem Reps.append {ps qs:List PV} {cs ds:List Value} (h:Reps fi w ps cs) (k:Reps fi w qs ds):Reps fi w (ps++qs) (cs++ds):=by
 refine⟨by simp[h.1,k.1],λi p v hp hv=>?_⟩;by_cases hi:i<ps.length
 ·rw[aJ hi] at hp
  rw[aJ (by rw[<-h.1];exact hi)] at hv;exact h.2 i p v hp hv
 ·rw[aR (by omega)] at hp
  rw[aR (by rw[<-h.1];omega)] at hv;rw[<-h.1] at hv;exact k.2 _ p v hp hv
theorem Reps.single {p:PV} {v:Value} (h:RepP fi (Mem.start w) w p v):Reps fi w [p] [v]:=by
 refine⟨rfl,λi q u hq hu=>?_⟩;cases i with
 |zero=>simp at hq hu;subst hq;subst hu;exact h
 |succ i=>simp at hq
theorem rj {e:TypeId}:∀{ds:List (DataW H)} {i:Nat} {d:DataW H} {b:Nat},ds[i]?=some d->b∈d.weights P e->b∈DataW.weightsAll P e ds
 |x::r,0,d,b,h,hb=>by simp at h;subst h;rw[DataW.weightsAll];exact bD _ hb
 |x::r,i+1,d,b,h,hb=>by rw[DataW.weightsAll];exact bE _ (rj (i:=i) (by simpa using h) hb)
theorem vg {Q:Nat->PV->Prop}:∀(n:Nat),(∀i,i<n->∃e,Q i e)->∃xs:List PV,xs.length=n/\∀i e,xs[i]?=some e->Q i e
 |0,_=>⟨[],rfl,λi e h=>by simp at h⟩
 | n+1,h=>by
  obtain⟨xs,hl,hx⟩:=vg n λi hi=>h i (by omega)
  obtain⟨e,he⟩:=h n (by omega);refine⟨xs++[e],by simp[hl],λi u hu=>?_⟩;by_cases hi:i<xs.length
  ·rw[aJ hi] at hu;exact hx i u hu
  ·rw[aR (by omega)] at hu
   have:i=n:=by have:=(aD.1 hu).1;simp at this;omega
   subst this;rw[hl] at hu;simp at hu;subst hu;exact he
def rk (fi:FI) (enc:TypeId×Value->H) (P:Program) (w:World) (sp:Nat->Bool) (held:Bool) (t:TypeId) (l:List CS):Prop:=
 ∀fuel cs x,DataW.trod enc P w 0 sp held fuel t cs=some x->(∀b∈x.1.weights P t,b<=reachBytes)->∃ps,dl l ps/\eA ps+(isAgg P t).toNat<=eR x.1/\Reps fi w ps cs
theorem vh {e:TypeId} {l:List CS} (hok:rk fi enc P w sp held e l) {m:Nat} {cs:List Value} {xs:List (DataW H×List MemPlace)}
  (hx:∀j,j<xs.length->DataW.trod enc P w 0 sp held m e ((cs.drop (j*l.length)).take l.length)=xs[j]?) (hw:∀b∈DataW.weightsAll P e (xs.map (·.1)),b<=reachBytes) :
  ∀k i,i+k=xs.length->∃ps,dl (nE k l) ps/\eA ps<=fy ((xs.map (·.1)).drop i)/\Reps fi w ps ((cs.drop (i*l.length)).take (k*l.length))
 |0,i,_=>⟨[],by simp[nE,dl],by simp[eA],by simp[Reps]⟩
 | k+1,i,hi=>by
  have hlt:i<xs.length:=by omega
  have h1:=hx i hlt;rw[aA hlt] at h1;obtain⟨ps,hp,hb1,hr⟩:=hok _ _ _ h1 λb hb=>hw b (rj (i:=i) (by simp[aA hlt]) hb)
  obtain⟨qs,hq,hb2,hs⟩:=vh hok hx hw k (i+1) (by omega);refine⟨ps++qs,ri hp hq,?_,?_⟩
  ·rw[rh,aL (by simpa using hlt),fy]
   simp only[List.getElem_map];omega
  have:(cs.drop (i*l.length)).take ((k+1)*l.length)=(cs.drop (i*l.length)).take l.length++(cs.drop ((i+1)*l.length)).take (k*l.length):=by rw[Nat.succ_mul k,Nat.add_comm (k*l.length),List.take_add,List.drop_drop,Nat.succ_mul i]
  rw[this];exact hr.append hs
theorem vi (n:Nat) (ih:∀k,k<=n->∀t l,shape P k t=some l->rk fi enc P w sp held t l) :
  ∀(k:Nat) (_:k<=n+1) (fs:List Field) (off:Nat) (l:List CS),kQ P k off fs=some l->∀(cs:List Value) (xs:List (DataW H×List MemPlace)) (m:Nat),xs.length=fs.length->
   (∀(i:Nat) (f:Field),fs[i]?=some f->DataW.trod enc P w 0 sp held m f.type ((cs.drop f.offset).take (P.cellsOf f.type))=xs[i]?)->
   (∀b∈DataW.weightsEach P (fs.map (·.type)) (xs.map (·.1)),b<=reachBytes)->∃ps,dl l ps/\eA ps<=fy (xs.map (·.1))/\Reps fi w ps ((cs.drop off).take l.length)
 |0,_,fs,off,l,h,_,_,_,_,_,_=>by simp[kQ] at h
 |k+1,_,[],off,l,h,cs,xs,m,hl,hx,hw=>by simp[kQ] at h;subst h;exact⟨[],by simp[dl],by simp[eA],by simp[Reps]⟩
 | k + 1,hk,f::fs,off,l,h,cs,xs,m,hl,hx,hw=>by
  cases xs with
  |nil=>simp at hl
  | cons x xs=>
   rw[kQ] at h;split at h
   ·rename_i l1 hs1
    split at h
    ·rename_i hc
     split at h
     ·rename_i r hr
      simp at h;subst h;have h0:=hx 0 f (by simp);simp only[List.getElem?_cons_zero] at h0;rw[hc.1,hc.2] at h0;obtain⟨ps,hp,hb1,hrp⟩:=ih k (by omega) _ _ hs1 _ _ _ h0 λb hb=>hw b (by simp only[bQ,DataW.weightsEach];exact bD _ hb)
      obtain⟨qs,hq,hb2,hrq⟩:=vi n ih k (by omega) fs (off+l1.length) r hr cs xs m (by simpa using hl) (λi g hg=>by simpa using hx (i+1) g (by simpa using hg)) (λb hb=>hw b (by simp only[bQ,DataW.weightsEach];exact bE _ hb));refine⟨ps++qs,ri hp hq,by rw[rh,bQ,fy];omega,?_⟩;rw[aW,List.take_add,List.drop_drop];exact hrp.append hrq
     ·cases h
    ·cases h
   ·cases h
theorem Ck:∀(n:Nat) (t:TypeId) (l:List CS),shape P n t=some l->rk fi enc P w sp held t l:=by
 intro n
 induction n using Nat.strongRecOn with
 |ind n ih=>
 cases n with
 |zero=>intro t l h;simp[shape] at h
 | succ n =>
  intro t l h fuel cs x hx hw;rw[shape] at h;split at h
  ·rename_i ht
   simp at h;subst h;obtain⟨b,rfl,rfl⟩:=DataW.trod_bool ht hx;exact⟨[.bool b],⟨⟨b,rfl⟩,trivial⟩,by simp[eA,gt,eR,isAgg,ht],Reps.single (.bool b)⟩
  ·rename_i ht
   simp at h;subst h;obtain⟨b,rfl,rfl,hwf⟩:=DataW.trod_int ht hx;refine⟨[.int .i64 b],⟨⟨b,rfl,?_⟩,trivial⟩,by simp[eA,gt,eR,isAgg,ht],Reps.single (.int .i64 b)⟩;simp[Lit.wf,IntKind.min,IntKind.max,IntKind.signed,IntKind.bits] at hwf;omega
  ·rename_i ht
   simp at h;subst h;obtain⟨b,rfl,rfl,_⟩:=DataW.trod_string ht hx;refine⟨[.str b],⟨⟨b,rfl,?_⟩,trivial⟩,by simp[eA,gt,eR,isAgg,ht],Reps.single (.str b)⟩;have:=hw b.size (by simp[DataW.weights]);exact this
  ·rename_i e ht
   split at h
   ·rename_i l1 hs1
    split at h
    ·rename_i hc
     simp at h;subst h;rcases open_slice ht hx with ⟨rfl,rfl⟩|⟨a,len,cap,m,n',D,Pl,rfl,_,hlc,hcm,hm,rfl,hi⟩
     ·refine⟨[.sl false l1.length []],⟨⟨[],rfl,by simp,λe he=>by simp at he⟩,trivial⟩,by simp[eA,gt,eR,fy,isAgg,ht],Reps.single ?_⟩
      exact .sl l1.length [] none 0 0 0 (λ_=>undef) (.inl rfl) (by simp) (λe he=>by simp at he) (λe he=>by simp at he) (λi e j p he=>by simp at he) (λi e j p he=>by simp at he)
     ·have hlm:len<=m:=by rw[hm];split<;>omega
      have hwl:len*P.bytesOf e<=reachBytes:=by have:=hw ((len+(m-len))*P.bytesOf e) (by rw[DataW.weights,ht];simp);refine bW (cU _ ?_) this;omega
      have key:∀i,i<len->∃u,gt u<=eR (D i)/\(∃ps:List PV,u.cells=ps/\dl l1 ps/\((isAgg P e=true/\u= .agg ps)\/(isAgg P e=false/\dl l1 [u])))/\
        ∀(j:Nat) (p:PV),u.cells[j]?=some p->∃v,w.cell? (a.add (i*P.cellsOf e+j))=some v/\RepP fi (Mem.start w) w p v:=by
       intro i hil;obtain⟨cs',hcells,htr⟩:=hi i (by omega);obtain⟨ps,hp,hb1,hr⟩:=ih n (by omega) _ _ hs1 _ _ _ htr λb hb=>hw b (by rw[DataW.weights,ht];refine bG _ (bD _ (rj (i:=i) ?_ hb));simp[List.getElem?_range,hil])
       obtain⟨_,hcl,hat⟩:=World.cells?_some hcells;have hpl:=nC hp;have hget:∀(j:Nat) (p:PV),ps[j]?=some p->∃v,w.cell? (a.add (i*P.cellsOf e+j))=some v/\RepP fi (Mem.start w) w p v:=by
        intro j p hj;have hjl:j<ps.length:=(aD.1 hj).1;have hjc:j<cs'.length:=by rw[<-hr.1];exact hjl
        refine⟨cs'[j],?_,hr.2 j p _ hj (aA hjc)⟩;rw[<-Go.Deep.add_add,hat j (by omega),aA hjc]
       cases hg:isAgg P e with
       |true=>exact⟨.agg ps,by rw[gt];simpa [hg] using hb1,⟨ps,rfl,hp,.inl ⟨rfl,rfl⟩⟩,hget⟩
       | false=>
        have h1:l1.length=1:=hc.2.1.resolve_left (by simp[hg]);obtain⟨p0,rfl⟩:∃p0,ps=[p0]:=by
         cases ps with
         |nil=>simp at hpl;omega
         |cons p0 ps=>cases ps with
          |nil=>exact⟨p0,rfl⟩
          |cons q qs=>simp at hpl;omega
        have hcl0:=ve hp;exact⟨p0,by simp[eA] at hb1;omega,⟨[p0],hcl0,hp,.inr ⟨rfl,hp⟩⟩,by rw[hcl0];exact hget⟩
      obtain⟨xs,hxl,hxs⟩:=vg len key;have hmem:∀u∈xs,∃i,xs[i]?=some u:=λu hu=>List.getElem?_of_mem hu
      refine⟨[.sl false l1.length xs],⟨⟨xs,rfl,by rw[hxl];exact hwl,λu hu=>?_⟩,trivial⟩,?_,Reps.single ?_⟩
      ·obtain⟨i,hiu⟩:=hmem u hu
       obtain⟨_,⟨ps,hcps,hall,hor⟩,_⟩:=hxs i u hiu;rcases hor with ⟨h1,h2⟩|⟨h1,h2⟩
       ·exact .inl ⟨h1,ps,h2,hall⟩
       ·exact .inr ⟨h1,h2⟩
      ·have:=vd D xs len 0 hxl λj e he=>by
        have:=(hxs j e he).1
        rwa [cR]
       rw[<-List.range_eq_range'] at this;simp only[eA,gt,eR,isAgg,ht];simpa using this
      ·have hspot:xs=[]\/a.spot=none:=by
        cases xs with
        |nil=>exact .inl rfl
        | cons u us=>
         refine .inr ?_;obtain⟨_,⟨ps,hcps,hall,hor⟩,hcel⟩:=hxs 0 u rfl;have hl1:=nC hall;by_cases hz:ps=[]
         ·rw[hz] at hl1
          have:=hc.2.2;simp at hl1;omega
         ·obtain⟨p,ps',rfl⟩:=List.exists_cons_of_ne_nil hz
          obtain⟨v,hv,_⟩:=hcel 0 p (by rw[hcps];rfl);have:=World.cell?_spot hv;simpa [Addr.add] using this
       have hcellE:P.cellsOf e=l1.length:=hc.1;rw[show len=xs.length from hxl.symm];refine .sl l1.length xs (some a) cap a.block a.off (λk=>(w.cell? ⟨a.block,a.off+k,none⟩).getD undef) ?_ (by omega) (λu hu=>?_) (λu hu=>?_) (λi u j p hu hp=>?_) (λi u j p hu hp=>?_)
       ·rcases hspot with h|h
        ·exact .inl h
        ·refine .inr ?_
         cases a;simp at h;subst h;rfl
       ·obtain⟨i,hiu⟩:=hmem u hu
        obtain⟨_,⟨ps,hcps,hall,_⟩,_⟩:=hxs i u hiu;rw[hcps];exact nC hall
       ·obtain⟨i,hiu⟩:=hmem u hu
        obtain⟨_,⟨ps,hcps,hall,_⟩,_⟩:=hxs i u hiu;rw[ar,hcps];exact nD hall
       ·obtain⟨_,_,hcel⟩:=hxs i u hu
        obtain⟨v,hv,hrep⟩:=hcel j p hp;rw[hcellE] at hv;have ha:a.add (i*l1.length+j)=⟨a.block,a.off+(i*l1.length+j),none⟩:=by
         have hs:a.spot=none:=hspot.resolve_left λh=>by rw[h] at hu;simp at hu
         cases a;simp at hs;subst hs;unfold Addr.add;split
         ·rename_i h0;rw[h0];rfl
         ·rfl
        rw[ha] at hv;refine⟨?_,by rw[hv];rfl⟩;exact Cj (a:=⟨a.block,a.off+(i*l1.length+j),none⟩) hv
       ·obtain⟨_,_,hcel⟩:=hxs i u hu
        obtain⟨v,hv,hrep⟩:=hcel j p hp;rw[hcellE] at hv;have ha:a.add (i*l1.length+j)=⟨a.block,a.off+(i*l1.length+j),none⟩:=by
         have hs:a.spot=none:=hspot.resolve_left λh=>by rw[h] at hu;simp at hu
         cases a;simp at hs;subst hs;unfold Addr.add;split
         ·rename_i h0;rw[h0];rfl
         ·rfl
        rw[ha] at hv;rw[hv];exact hrep
    ·cases h
   ·cases h
  ·rename_i k e ht
   split at h
   ·rename_i l1 hs1
    split at h
    ·rename_i hc
     simp at h;subst h;obtain⟨xs,m,rfl,rfl,hcl,hxl,hi⟩:=DataW.trod_array ht hx;obtain⟨ps,hp,hb1,hr⟩:=vh (ih n (by omega) _ _ hs1) (cs:=cs) (xs:=xs) (m:=m) (λj hj=>by rw[<-hc.1];exact hi j (by omega)) (λb hb=>hw b (by rw[DataW.weights,ht];exact hb)) k 0 (by omega);refine⟨ps,hp,by rw[eR];simp[isAgg,ht];simpa using hb1,?_⟩;rw[Nat.zero_mul,bL,<-hc.2,<-hcl,List.take_length] at hr;exact hr
    ·cases h
   ·cases h
  ·rename_i fs ht
   split at h
   ·rename_i l1 hs1
    split at h
    ·rename_i hc
     simp at h;subst h;obtain⟨xs,m,rfl,rfl,hcl,hxl,hi⟩:=DataW.trod_struct ht hx;obtain⟨ps,hp,hb1,hr⟩:=vi n (λk hk=>ih k (by omega)) n (by omega) fs.toList 0 l1 hs1 cs xs m (by simpa using hxl) (λi f hf=>hi i f (by simpa using hf)) (λb hb=>hw b (by rw[DataW.weights,ht];exact hb));refine⟨ps,hp,by rw[eR];simp[isAgg,ht];simpa using hb1,?_⟩;rw[bL,<-hc,<-hcl,List.take_length] at hr;exact hr
    ·cases h
   ·cases h
  ·cases h
def iU:Bool×List CS->PV->Prop
 |(true,l),p=>∃ps,p= .agg ps/\dl l ps
 |(false,l),p=>dl l [p]
def gu:List (Bool×List CS)->List PV->Prop
 |[],[]=>True
 |c::cs,p::ps=>iU c p/\gu cs ps
 |_,_=>False
def lT (P:Program) (n:Nat):List TypeId->Option (List (Bool×List CS))
 |[]=>some []
 |t::ts=>match shape P n t,lT P n ts with
  |some l,some r=>some ((isAgg P t,l)::r)
  |_,_=>none
theorem rl {c:Bool×List CS} {cs:List (Bool×List CS)} {qs:List PV} (h:gu (c::cs) qs):∃p ps,qs=p::ps/\iU c p/\gu cs ps:=by
 cases qs with
 |nil=>simp[gu] at h
 |cons p ps=>exact⟨p,ps,rfl,h⟩
theorem Cl {qs:List PV} (h:gu [] qs):qs=[]:=by
 cases qs with
 |nil=>rfl
 |cons p ps=>simp[gu] at h
theorem fP {c:CS} {cs:List CS} {qs:List PV} (h:dl (c::cs) qs):∃p ps,qs=p::ps/\js c p/\dl cs ps:=by
 cases qs with
 |nil=>simp[dl] at h
 |cons p ps=>exact⟨p,ps,rfl,h⟩
theorem lU {qs:List PV} (h:dl [] qs):qs=[]:=by
 cases qs with
 |nil=>rfl
 |cons p ps=>simp[dl] at h
theorem vj {p:PV} (h:iU (false,[.int]) p):∃n,p= .int .i64 n/\ -9223372036854775808<=n/\n<=9223372036854775807:=by obtain⟨q,ps,e,h1,h2⟩:=fP h;cases lU h2;simp only[List.cons.injEq,and_true] at e;subst e;exact h1
theorem Cm {l:List CS} {p:PV} (h:iU (true,l) p):∃ps,p= .agg ps/\dl l ps:=h
theorem iV {p:PV} (h:js .int p):∃n,p= .int .i64 n/\ -9223372036854775808<=n/\n<=9223372036854775807:=h
theorem Cn {c:Bool×List CS} {p:PV} (h:iU c p):ar p=true:=by
 obtain⟨g,l⟩:=c;cases g with
 |true=>
  obtain⟨ps,rfl,h⟩:=h;exact nD h
 |false=>rw[ar,ve h];exact nD h
theorem vk:∀{L:List (Bool×List CS)} {ps:List PV},gu L ps->∀p∈ps,ar p=true
 |[],[],_,p,hp=>by simp at hp
 |_::_,q::ps,h,p,hp=>by
  simp only[gu] at h;rcases List.mem_cons.1 hp with rfl|hp
  ·exact Cn h.1
  ·exact vk h.2 p hp
 |[],_::_,h,_,_=>by simp[gu] at h
 |_::_,[],h,_,_=>by simp[gu] at h
theorem Co {n:Nat} {t:TypeId} {l:List CS} (hs:shape P n t=some l) {base:Nat} {v:Value} {d:DataW H} {ps:List MemPlace} (hv:Value.okWide P w .any base t v) (hd:DataW.Trod enc P w 0 sp held t v d ps)
  (hw:∀b∈d.weights P t,b<=reachBytes):∃p,iU (isAgg P t,l) p/\gt p<=eR d/\RepP fi (Mem.start w) w p v:=by
 obtain⟨fuel,hf⟩:=hd;obtain⟨qs,hq,hb1,hr⟩:=Ck (fi:=fi) n t l hs fuel _ _ hf hw;have hone:v.cells.toList=[v]->isAgg P t=false->∃p,iU (isAgg P t,l) p/\gt p<=eR d/\RepP fi (Mem.start w) w p v:=by
  intro hc hg;rw[hc] at hr;cases qs with
  |nil=>have:=hr.1;simp at this
  |cons q qs=>cases qs with
   |cons r qs=>have:=hr.1;simp at this
   |nil=>exact⟨q,by rw[hg];exact hq,by simp[eA] at hb1;omega,hr.2 0 q v rfl rfl⟩
 have hagg:(∃cs,v= .agg cs)->isAgg P t=true->∃p,iU (isAgg P t,l) p/\gt p<=eR d/\RepP fi (Mem.start w) w p v:=by rintro⟨cs,rfl⟩ hg;refine⟨.agg qs,by rw[hg];exact⟨qs,rfl,hq⟩,by rw[gt];simpa [hg] using hb1,?_⟩;obtain⟨cl⟩:=cs;exact .agg qs cl hr.1.symm hr.2
 cases n with
 |zero=>simp[shape] at hs
 | succ n=>
  rw[shape] at hs;split at hs
  ·rename_i ht
   obtain⟨b,rfl⟩:=okWide_bool ht hv;exact hone rfl (by simp[isAgg,ht])
  ·rename_i ht
   obtain⟨b,rfl⟩:=okWide_int ht hv;exact hone rfl (by simp[isAgg,ht])
  ·rename_i ht
   obtain⟨b,rfl⟩:=okWide_string ht hv;exact hone rfl (by simp[isAgg,ht])
  ·rename_i e ht
   obtain⟨a,b,c,rfl⟩:=okWide_slice ht hv;exact hone rfl (by simp[isAgg,ht])
  ·rename_i k e ht
   refine hagg ?_ (by simp[isAgg,ht]);simp only[Value.okWide,ht] at hv;obtain⟨cs,h1,_⟩:=hv;exact⟨cs,h1⟩
  ·rename_i fs ht
   refine hagg ?_ (by simp[isAgg,ht]);simp only[Value.okWide,ht] at hv;obtain⟨cs,h1,_⟩:=hv;exact⟨cs,h1⟩
  ·cases hs
theorem vl {n base:Nat}:∀{ts:List TypeId} {L:List (Bool×List CS)} {vs:List Value} {ds:List (DataW H)} {ps:List MemPlace},lT P n ts=some L->DataW.TrodAll enc P w 0 sp held ts vs ds ps->
  (∀(j:Nat) t v,ts[j]?=some t->vs[j]?=some v->Value.okWide P w .any base t v)->(∀b∈DataW.weightsEach P ts ds,b<=reachBytes)->
  ∃qs,gu L qs/\eA qs<=fy ds/\qs.length=vs.length/\∀(i:Nat) (p:PV) (v:Value),qs[i]?=some p->vs[i]?=some v->RepP fi (Mem.start w) w p v
 |[],L,vs,ds,ps,hs,ht,_,_=>by obtain⟨rfl,rfl,rfl⟩:=trodAll_nil ht;simp[lT] at hs;subst hs;exact⟨[],trivial,Nat.zero_le _,rfl,λi p v h=>by simp at h⟩
 | t::ts,L,vs,ds,ps,hs,ht,hv,hw=>by
  obtain⟨v,vs',d,ds',p,q,rfl,rfl,rfl,h1,h2⟩:=trodAll_cons ht;simp only[lT] at hs;split at hs
  ·rename_i l r hl hr
   simp at hs;subst hs;obtain⟨a,ha,hb1,hra⟩:=Co (fi:=fi) hl (hv 0 t v rfl rfl) h1 λb hb=>hw b (by simp only[DataW.weightsEach];exact bD _ hb)
   obtain⟨qs,hq,hb2,hl,hrq⟩:=vl hr h2 (λj t v h1 h2=>hv (j+1) t v (by simpa using h1) (by simpa using h2)) (λb hb=>hw b (by simp only[DataW.weightsEach];exact bE _ hb));refine⟨a::qs,⟨ha,hq⟩,by rw[eA,fy];omega,by simp[hl],λi p v h1 h2=>?_⟩;cases i with
   |zero=>simp at h1 h2;subst h1;subst h2;exact hra
   |succ i=>exact hrq i p v (by simpa using h1) (by simpa using h2)
  ·cases hs
theorem vm {W W':World} (hl:laidOutB P=true) (hb:Below W.heap.size W W'):∀{ts:List TypeId} {vs:List Value} {ds:List (DataW H)} {ps:List MemPlace},
  (ts.all λt=>P.readableRec t&&decide (t<P.types.size))=true->DataW.TrodAll enc P W 0 (λ_=>true) true ts vs ds ps->DataW.TrodAll enc P W' 0 (λb=>decide (b<W.heap.size)) true ts vs ds ps
 |[],vs,ds,ps,_,h=>by obtain⟨rfl,rfl,rfl⟩:=trodAll_nil h;exact h
 |t::ts,vs,ds,ps,hr,h=>by
  obtain⟨v,vs',d,ds',p,q,rfl,rfl,rfl,h1,h2⟩:=trodAll_cons h;simp only[List.all_cons,aY,aH] at hr;have lt:∀x∈p,x.block<W.heap.size:=by obtain⟨m,hm⟩:=h1;exact DataW.trod_lt m _ _ _ hm
  exact⟨p,q,Below.trod hl hr.1.1 hr.1.2 h1 hb lt,vm hl hb hr.2 h2,rfl⟩
end
end
section
open Go.RowKit
def nF (P:Program) (fi:FI) (pg:Prg) (f F:Nat):Bool:=
 match P.funcs[F]? with
 | some Fn=>match Fn.body with
  |some c=>match pg f with
   | some (.code fn) => (!(Fn.name == "runtime.NumGoroutine")) && (ez P fi Fn.ntmps fn.body c && ff P fn.res Fn.results.toList)
   | _ => !(Fn.name == "runtime.NumGoroutine")
  |none=>false
 |none=>false
def vn (pg:Prg) (f:Nat):Bool:=match pg f with|some (.lib _)=>true|_=>false
theorem Cp {P:Program} {fi:FI} {pg:Prg} {f F:Nat} (h:nF P fi pg f F=true) (hl:∀L,pg f=some (.lib L)->∀vs gh r gh',L vs gh=some (r,gh')->(∀p∈vs,ar p=true)->fO P fi F vs gh r gh') :
  u7 P F/\match pg f with
  |some (.code fn)=>∃Fn c,P.funcs[F]?=some Fn/\Fn.body=some c/\ez P fi Fn.ntmps fn.body c=true/\ff P fn.res Fn.results.toList=true
  |some (.lib L)=>∀vs gh r gh',L vs gh=some (r,gh')->(∀p∈vs,ar p=true)->fO P fi F vs gh r gh'
  |none=>True:=by
 unfold nF at h;cases hF:P.funcs[F]? with
 |none=>rw[hF] at h;cases h
 | some Fn=>
  rw[hF] at h;simp only at h;cases hc:Fn.body with
  |none=>rw[hc] at h;cases h
  | some c=>
   rw[hc] at h;simp only at h;cases hp:pg f with
   |none=>
    rw[hp] at h;exact⟨⟨Fn,c,hF,by simpa using h,hc⟩,trivial⟩
   | some df=>
    cases df with
    |lib L=>
     rw[hp] at h;exact⟨⟨Fn,c,hF,by simpa using h,hc⟩,hl L hp⟩
    |code fn=>
     rw[hp] at h;simp only[aY,Bool.not_eq_true'] at h;exact⟨⟨Fn,c,hF,h.1,hc⟩,Fn,c,rfl,hc,h.2.1,h.2.2⟩
def fiG (l:List (Nat×Nat)) (gl:List (Nat×Nat×Option Value)) (bT:List TypeId:=[]) (u8:TypeId:=0) (gw:List (Nat×List ByteArray):=[]) (gwok:lC gl gw:=by exact tM _):FI:={f:=λf=>(l.find? (·.1==f)).map (·.2),gl:=gl,bT:=bT,u8:=u8,gw:=gw,gwok:=gwok }
abbrev rm (l:List (Nat×Nat)):FI:=fiG l []
theorem Cq {l:List (Nat×Nat)} {gl:List (Nat×Nat×Option Value)} {bT:List TypeId} {u8:TypeId} {gw:List (Nat×List ByteArray)} {gwok:lC gl gw} {f F:Nat} (h:fiG l gl bT u8 gw gwok f=some F):(f,F)∈l:=by unfold fiG at h;simp only[aE] at h;obtain⟨⟨a,b⟩,h1,rfl⟩:=h;have h2:=List.find?_some h1;have h3:=List.mem_of_find?_eq_some h1;simp at h2;subst h2;exact h3
theorem Cr {P:Program} {l:List (Nat×Nat)} {gl:List (Nat×Nat×Option Value)} {bT:List TypeId} {u8:TypeId} {gw:List (Nat×List ByteArray)} {gwok:lC gl gw} {pg:Prg} (h:(l.all λx=>nF P (fiG l gl bT u8 gw gwok) pg x.1 x.2)=true)
  (hl:∀f F L,(f,F)∈l->pg f=some (.lib L)->∀vs gh r gh',L vs gh=some (r,gh')->(∀p∈vs,ar p=true)->fO P (fiG l gl bT u8 gw gwok) F vs gh r gh'):jX P (fiG l gl bT u8 gw gwok) pg:=by
 intro f F hf;have hm:=Cq hf;rw[bS] at h;exact Cp (h _ hm) (λL=>hl f F L hm)
theorem Cs {H:Type} {enc:TypeId×Value->H} {P:Program} {fi:FI} {pg:Prg} (hP:P.follows .mixedOrders=true) (hL:jX P fi pg) {f F n:Nat} (hf:fi f=some F) {ts:List TypeId} {L:List (Bool×List CS)}
  (hs:lT P n ts=some L) {N:Nat} (hlaw:∀qs,gu L qs->eA qs<=N->ac pg f qs []=some (.bool true,[])) {W:World} {base:Nat} {args:List Value} {ds:List (DataW H)} {ps:List MemPlace}
  (hA:DataW.TrodAll enc P W 0 (λ_=>true) true ts args ds ps) (hv:∀(j:Nat) t v,ts[j]?=some t->args[j]?=some v->Value.okWide P W .any base t v) (hw:(DataW.weightsEach P ts ds).all (· <=reachBytes)=true) (hN:fy ds<=N) (hg:∀x∈fi.gl,x.1<W.heap.size/\W.cell? ⟨x.1,x.2.1,none⟩=x.2.2:=by intro x hx;cases hx) :
  Calls P F args.toArray W λe W'=>e= .returned (.bool true)/\Below W.heap.size W W':=by
 obtain⟨qs,hq,hbk,hl,hr⟩:=vl (fi:=fi) hs hA hv (by simpa using hw);refine (Cg hP hL (hlaw qs hq (bW hbk hN)) (vk hq) hf hl.symm hg hr).mono ?_;rintro e w' ⟨v,M',rfl,_,hres,h1,h2,h3,h4,h5⟩;refine⟨?_,⟨h1,h2,h3,h4,h5⟩⟩;have:RepP fi M' w' (.bool true) v:=hres;cases this;rfl
end
end Go.Lw