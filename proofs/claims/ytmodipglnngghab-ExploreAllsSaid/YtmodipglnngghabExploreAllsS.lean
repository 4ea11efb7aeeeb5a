/-
  The texts that the proof stands on, part 19.
-/
import Derived.Test.YtmodipglnngghabExploreAllsR
import Derived.OpenShut
import Derived.Carry
import Derived.Deep.Slices
import Derived.SizedLaws
set_option linter.unusedVariables false
set_option linter.unusedSimpArgs false
set_option linter.unnecessarySimpa false

set_option maxRecDepth 100000
set_option maxHeartbeats 4000000
namespace Go.Lw
open Go
section
open Go.RowKit Go.ChangeShapes Go.WideShapes Go.Deep
inductive CS where
 |int
 |bool
 |str
 |slice (g:Bool) (bytes:Nat) (l:List CS)
mutual
def hZ:CS->PV->Prop
 | .int,p=>∃n,p= .int .i64 n/\ -9223372036854775808<=n/\n<=9223372036854775807
 | .bool,p=>∃b,p= .bool b
 | .str,p=>∃s,p= .str s/\s.size<=reachBytes
 | .slice g bytes l,p=>∃xs,p= .sl false l.length xs/\xs.length*bytes<=reachBytes/\∀e∈xs,(g=true/\∃ps,e= .agg ps/\co l ps)\/(g=false/\co l [e])
def co:List CS->List PV->Prop
 |[],[]=>True
 |c::cs,p::ps=>hZ c p/\co cs ps
 |_,_=>False
end
mutual
def fE:PV->Nat
 | .str s=>s.size+1
 | .agg ps=>dG ps+1
 | .sl _ _ xs=>dG xs+1
 |_=>1
def dG:List PV->Nat
 |[]=>0
 |p::r=>fE p+dG r
end
section
variable {H:Type}
mutual
def fm:DataW H->Nat
 | .slice elems _=>fF elems+1
 | .agg parts=>fF parts+1
 | .lit (.string b)=>b.length+1
 |_=>1
def fF:List (DataW H)->Nat
 |[]=>0
 |d::r=>fm d+fF r
end
end
theorem nE:∀l m:List PV,dG (l++m)=dG l+dG m
 |[],m=>by simp[dG]
 |p::l,m=>by simp only[bI,dG,nE l m];omega
theorem si {H:Type} (D:Nat->DataW H):∀(xs:List PV) (n i:Nat),xs.length=n->(∀j e,xs[j]?=some e->fE e<=fm (D (i+j)))->dG xs<=fF ((List.range' i n).map D)
 |[],0,i,_,_=>Nat.zero_le _
 | x::xs,n+1,i,hl,h=>by
  have h0:=h 0 x rfl;have hs:=si D xs n (i+1) (by simpa using hl) λj e he=>by
   have:=h (j+1) e (by simpa using he)
   rwa [Nat.add_assoc,Nat.add_comm 1 j]
  simp only[dG,List.range'_succ,bP,fF];exact Nat.add_le_add h0 hs
 |[],n+1,_,hl,_=>by simp at hl
 |_::_,0,_,hl,_=>by simp at hl
theorem lK:∀{l:List CS} {ps:List PV},co l ps->ps.length=l.length
 |[],[],_=>rfl
 |_::_,_::_,h=>by simp only[co] at h;simp[lK h.2]
 |[],_::_,h=>by simp[co] at h
 |_::_,[],h=>by simp[co] at h
theorem nF:∀{l m:List CS} {ps qs:List PV},co l ps->co m qs->co (l++m) (ps++qs)
 |[],_,[],_,_,h=>h
 |_::_,_,_::_,_,h,h2=>by simp only[co] at h;exact⟨h.1,nF h.2 h2⟩
 |[],_,_::_,_,h,_=>by simp[co] at h
 |_::_,_,[],_,h,_=>by simp[co] at h
theorem yL {c:CS} {p:PV} (h:hZ c p):p.one=true:=by
 cases c<;>simp only[hZ] at h
 ·obtain⟨n,rfl,_⟩:=h;rfl
 ·obtain⟨b,rfl⟩:=h;rfl
 ·obtain⟨b,rfl,_⟩:=h;rfl
 ·obtain⟨xs,rfl,_⟩:=h;rfl
theorem lL:∀{l:List CS} {ps:List PV},co l ps->ps.all PV.one=true
 |[],[],_=>rfl
 |_::_,_::_,h=>by simp only[co] at h;simp[yL h.1,lL h.2]
 |[],_::_,h=>by simp[co] at h
 |_::_,[],h=>by simp[co] at h
theorem sj {l:List CS} {p:PV} (h:co l [p]):p.cells=[p]:=by
 cases l with
 |nil=>simp[co] at h
 |cons c l=>
  simp only[co] at h;have h1:=h.1;cases c<;>simp only[hZ] at h1
  ·obtain⟨n,rfl,_⟩:=h1;rfl
  ·obtain⟨b,rfl⟩:=h1;rfl
  ·obtain⟨b,rfl,_⟩:=h1;rfl
  ·obtain⟨xs,rfl,_⟩:=h1;rfl
def lM:Nat->List CS->List CS
 |0,_=>[]
 |n+1,l=>l++lM n l
theorem yM {w:World} {a:Addr} {v:Value} (h:w.cell? a=some v):a.block<w.heap.size:=by
 rcases Nat.lt_or_ge a.block w.heap.size with h1|h1
 ·exact h1
 ·simp[World.cell?,Array.getElem?_eq_none h1] at h
def isAgg (P:Program) (t:TypeId):Bool:=match P.underlying t with|some (.struct _)|some (.array _ _)=>true|_=>false
mutual
def shape (P:Program):Nat->TypeId->Option (List CS)
 |0,_=>none
 | n+1,t=>match P.underlying t with
  |some .bool=>some [.bool]
  |some (.int .i64)=>some [.int]
  |some .string=>some [.str]
  |some (.slice e)=>match shape P n e with
   |some l=>if P.cellsOf e=l.length/\(isAgg P e=true\/l.length=1)/\0<l.length then some [.slice (isAgg P e) (P.bytesOf e) l] else none
   |none=>none
  |some (.array k e)=>match shape P n e with
   |some l=>if P.cellsOf e=l.length/\P.cellsOf t=k*l.length then some (lM k l) else none
   |none=>none
  |some (.struct fs)=>match jK P n 0 fs.toList with
   |some l=>if P.cellsOf t=l.length then some l else none
   |none=>none
  |_=>none
def jK (P:Program):Nat->Nat->List Field->Option (List CS)
 |0,_,_=>none
 |_+1,_,[]=>some []
 |n+1,off,f::fs=>match shape P n f.type with
  |some l=>if f.offset=off/\P.cellsOf f.type=l.length then (match jK P n (off+l.length) fs with|some r=>some (l++r)|none=>none) else none
  |none=>none
end
def Reps (fi:FI) (w:World) (ps:List PV) (cs:List Value):Prop:=ps.length=cs.length/\∀(i:Nat) (p:PV) (v:Value),ps[i]?=some p->cs[i]?=some v->RepP fi (Mem.start w) w p v
section
variable {H:Type} {enc:TypeId×Value->H} {P:Program} {w:World} {sp:Nat->Bool} {held:Bool} {fi:FI}
theorem Reps.append {ps qs:List PV} {cs ds:List Value} (h:Reps fi w ps cs) (k:Reps fi w qs ds):Reps fi w (ps++qs) (cs++ds):=by
 refine⟨by simp[h.1,k.1],λi p v hp hv=>?_⟩;by_cases hi:i<ps.length
 ·rw[aJ hi] at hp
  rw[aJ (by rw[<-h.1];exact hi)] at hv;exact h.2 i p v hp hv
 ·rw[aR (by omega)] at hp
  rw[aR (by rw[<-h.1];omega)] at hv;rw[<-h.1] at hv;exact k.2 _ p v hp hv
theorem Reps.single {p:PV} {v:Value} (h:RepP fi (Mem.start w) w p v):Reps fi w [p] [v]:=by
 refine⟨rfl,λi q u hq hu=>?_⟩;cases i with
 |zero=>simp at hq hu;subst hq;subst hu;exact h
 |succ i=>simp at hq
theorem nG {e:TypeId}:∀{ds:List (DataW H)} {i:Nat} {d:DataW H} {b:Nat},ds[i]?=some d->b∈d.weights P e->b∈DataW.weightsAll P e ds
 |x::r,0,d,b,h,hb=>by simp at h;subst h;rw[DataW.weightsAll];exact bC _ hb
 |x::r,i+1,d,b,h,hb=>by rw[DataW.weightsAll];exact bD _ (nG (i:=i) (by simpa using h) hb)
theorem sk {Q:Nat->PV->Prop}:∀(n:Nat),(∀i,i<n->∃e,Q i e)->∃xs:List PV,xs.length=n/\∀i e,xs[i]?=some e->Q i e
 |0,_=>⟨[],rfl,λi e h=>by simp at h⟩
 | n+1,h=>by
  obtain⟨xs,hl,hx⟩:=sk n λi hi=>h i (by omega)
  obtain⟨e,he⟩:=h n (by omega);refine⟨xs++[e],by simp[hl],λi u hu=>?_⟩;by_cases hi:i<xs.length
  ·rw[aJ hi] at hu;exact hx i u hu
  ·rw[aR (by omega)] at hu
   have:i=n:=by have:=(aD.1 hu).1;simp at this;omega
   subst this;rw[hl] at hu;simp at hu;subst hu;exact he
def nH (fi:FI) (enc:TypeId×Value->H) (P:Program) (w:World) (sp:Nat->Bool) (held:Bool) (t:TypeId) (l:List CS):Prop:=
 ∀fuel cs x,DataW.trod enc P w 0 sp held fuel t cs=some x->(∀b∈x.1.weights P t,b<=reachBytes)->∃ps,co l ps/\dG ps+(isAgg P t).toNat<=fm x.1/\Reps fi w ps cs
theorem sn {e:TypeId} {l:List CS} (hok:nH fi enc P w sp held e l) {m:Nat} {cs:List Value} {xs:List (DataW H×List MemPlace)}
  (hx:∀j,j<xs.length->DataW.trod enc P w 0 sp held m e ((cs.drop (j*l.length)).take l.length)=xs[j]?) (hw:∀b∈DataW.weightsAll P e (xs.map (·.1)),b<=reachBytes) :
  ∀k i,i+k=xs.length->∃ps,co (lM k l) ps/\dG ps<=fF ((xs.map (·.1)).drop i)/\Reps fi w ps ((cs.drop (i*l.length)).take (k*l.length))
 |0,i,_=>⟨[],by simp[lM,co],by simp[dG],by simp[Reps]⟩
 | k+1,i,hi=>by
  have hlt:i<xs.length:=by omega
  have h1:=hx i hlt;rw[aA hlt] at h1;obtain⟨ps,hp,hb1,hr⟩:=hok _ _ _ h1 λb hb=>hw b (nG (i:=i) (by simp[aA hlt]) hb)
  obtain⟨qs,hq,hb2,hs⟩:=sn hok hx hw k (i+1) (by omega);refine⟨ps++qs,nF hp hq,?_,?_⟩
  ·rw[nE,aL (by simpa using hlt),fF]
   simp only[List.getElem_map];omega
  have:(cs.drop (i*l.length)).take ((k+1)*l.length)=(cs.drop (i*l.length)).take l.length++(cs.drop ((i+1)*l.length)).take (k*l.length):=by rw[Nat.succ_mul k,Nat.add_comm (k*l.length),List.take_add,List.drop_drop,Nat.succ_mul i]
  rw[this];exact hr.append hs
theorem so (n:Nat) (ih:∀k,k<=n->∀t l,shape P k t=some l->nH fi enc P w sp held t l) :
  ∀(k:Nat) (_:k<=n+1) (fs:List Field) (off:Nat) (l:List CS),jK P k off fs=some l->∀(cs:List Value) (xs:List (DataW H×List MemPlace)) (m:Nat),xs.length=fs.length->
   (∀(i:Nat) (f:Field),fs[i]?=some f->DataW.trod enc P w 0 sp held m f.type ((cs.drop f.offset).take (P.cellsOf f.type))=xs[i]?)->
   (∀b∈DataW.weightsEach P (fs.map (·.type)) (xs.map (·.1)),b<=reachBytes)->∃ps,co l ps/\dG ps<=fF (xs.map (·.1))/\Reps fi w ps ((cs.drop off).take l.length)
 |0,_,fs,off,l,h,_,_,_,_,_,_=>by simp[jK] at h
 |k+1,_,[],off,l,h,cs,xs,m,hl,hx,hw=>by simp[jK] at h;subst h;exact⟨[],by simp[co],by simp[dG],by simp[Reps]⟩
 | k + 1,hk,f::fs,off,l,h,cs,xs,m,hl,hx,hw=>by
  cases xs with
  |nil=>simp at hl
  | cons x xs=>
   rw[jK] at h;split at h
   ·rename_i l1 hs1
    split at h
    ·rename_i hc
     split at h
     ·rename_i r hr
      simp at h;subst h;have h0:=hx 0 f (by simp);simp only[List.getElem?_cons_zero] at h0;rw[hc.1,hc.2] at h0;obtain⟨ps,hp,hb1,hrp⟩:=ih k (by omega) _ _ hs1 _ _ _ h0 λb hb=>hw b (by simp only[bP,DataW.weightsEach];exact bC _ hb)
      obtain⟨qs,hq,hb2,hrq⟩:=so n ih k (by omega) fs (off+l1.length) r hr cs xs m (by simpa using hl) (λi g hg=>by simpa using hx (i+1) g (by simpa using hg)) (λb hb=>hw b (by simp only[bP,DataW.weightsEach];exact bD _ hb));refine⟨ps++qs,nF hp hq,by rw[nE,bP,fF];omega,?_⟩;rw[aV,List.take_add,List.drop_drop];exact hrp.append hrq
     ·cases h
    ·cases h
   ·cases h
theorem yN:∀(n:Nat) (t:TypeId) (l:List CS),shape P n t=some l->nH fi enc P w sp held t l:=by
 intro n
 induction n using Nat.strongRecOn with
 |ind n ih=>
 cases n with
 |zero=>intro t l h;simp[shape] at h
 | succ n =>
  intro t l h fuel cs x hx hw;rw[shape] at h;split at h
  ·rename_i ht
   simp at h;subst h;obtain⟨b,rfl,rfl⟩:=DataW.trod_bool ht hx;exact⟨[.bool b],⟨⟨b,rfl⟩,trivial⟩,by simp[dG,fE,fm,isAgg,ht],Reps.single (.bool b)⟩
  ·rename_i ht
   simp at h;subst h;obtain⟨b,rfl,rfl,hwf⟩:=DataW.trod_int ht hx;refine⟨[.int .i64 b],⟨⟨b,rfl,?_⟩,trivial⟩,by simp[dG,fE,fm,isAgg,ht],Reps.single (.int .i64 b)⟩;simp[Lit.wf,IntKind.min,IntKind.max,IntKind.signed,IntKind.bits] at hwf;omega
  ·rename_i ht
   simp at h;subst h;obtain⟨b,rfl,rfl,_⟩:=DataW.trod_string ht hx;refine⟨[.str b],⟨⟨b,rfl,?_⟩,trivial⟩,by simp[dG,fE,fm,isAgg,ht],Reps.single (.str b)⟩;have:=hw b.size (by simp[DataW.weights]);exact this
  ·rename_i e ht
   split at h
   ·rename_i l1 hs1
    split at h
    ·rename_i hc
     simp at h;subst h;rcases open_slice ht hx with ⟨rfl,rfl⟩|⟨a,len,cap,m,n',D,Pl,rfl,_,hlc,hcm,hm,rfl,hi⟩
     ·refine⟨[.sl false l1.length []],⟨⟨[],rfl,by simp,λe he=>by simp at he⟩,trivial⟩,by simp[dG,fE,fm,fF,isAgg,ht],Reps.single ?_⟩
      exact .sl l1.length [] none 0 0 0 (λ_=>undef) (.inl rfl) (by simp) (λe he=>by simp at he) (λe he=>by simp at he) (λi e j p he=>by simp at he) (λi e j p he=>by simp at he)
     ·have hlm:len<=m:=by rw[hm];split<;>omega
      have hwl:len*P.bytesOf e<=reachBytes:=by have:=hw ((len+(m-len))*P.bytesOf e) (by rw[DataW.weights,ht];simp);refine bW (cO _ ?_) this;omega
      have key:∀i,i<len->∃u,fE u<=fm (D i)/\(∃ps:List PV,u.cells=ps/\co l1 ps/\((isAgg P e=true/\u= .agg ps)\/(isAgg P e=false/\co l1 [u])))/\
        ∀(j:Nat) (p:PV),u.cells[j]?=some p->∃v,w.cell? (a.add (i*P.cellsOf e+j))=some v/\RepP fi (Mem.start w) w p v:=by
       intro i hil;obtain⟨cs',hcells,htr⟩:=hi i (by omega);obtain⟨ps,hp,hb1,hr⟩:=ih n (by omega) _ _ hs1 _ _ _ htr λb hb=>hw b (by rw[DataW.weights,ht];refine bF _ (bC _ (nG (i:=i) ?_ hb));simp[List.getElem?_range,hil])
       obtain⟨_,hcl,hat⟩:=World.cells?_some hcells;have hpl:=lK hp;have hget:∀(j:Nat) (p:PV),ps[j]?=some p->∃v,w.cell? (a.add (i*P.cellsOf e+j))=some v/\RepP fi (Mem.start w) w p v:=by
        intro j p hj;have hjl:j<ps.length:=(aD.1 hj).1;have hjc:j<cs'.length:=by rw[<-hr.1];exact hjl
        refine⟨cs'[j],?_,hr.2 j p _ hj (aA hjc)⟩;rw[<-Go.Deep.add_add,hat j (by omega),aA hjc]
       cases hg:isAgg P e with
       |true=>exact⟨.agg ps,by rw[fE];simpa [hg] using hb1,⟨ps,rfl,hp,.inl ⟨rfl,rfl⟩⟩,hget⟩
       | false=>
        have h1:l1.length=1:=hc.2.1.resolve_left (by simp[hg]);obtain⟨p0,rfl⟩:∃p0,ps=[p0]:=by
         cases ps with
         |nil=>simp at hpl;omega
         |cons p0 ps=>cases ps with
          |nil=>exact⟨p0,rfl⟩
          |cons q qs=>simp at hpl;omega
        have hcl0:=sj hp;exact⟨p0,by simp[dG] at hb1;omega,⟨[p0],hcl0,hp,.inr ⟨rfl,hp⟩⟩,by rw[hcl0];exact hget⟩
      obtain⟨xs,hxl,hxs⟩:=sk len key;have hmem:∀u∈xs,∃i,xs[i]?=some u:=λu hu=>List.getElem?_of_mem hu
      refine⟨[.sl false l1.length xs],⟨⟨xs,rfl,by rw[hxl];exact hwl,λu hu=>?_⟩,trivial⟩,?_,Reps.single ?_⟩
      ·obtain⟨i,hiu⟩:=hmem u hu
       obtain⟨_,⟨ps,hcps,hall,hor⟩,_⟩:=hxs i u hiu;rcases hor with ⟨h1,h2⟩|⟨h1,h2⟩
       ·exact .inl ⟨h1,ps,h2,hall⟩
       ·exact .inr ⟨h1,h2⟩
      ·have:=si D xs len 0 hxl λj e he=>by
        have:=(hxs j e he).1
        rwa [cN]
       rw[<-List.range_eq_range'] at this;simp only[dG,fE,fm,isAgg,ht];simpa using this
      ·have hspot:xs=[]\/a.spot=none:=by
        cases xs with
        |nil=>exact .inl rfl
        | cons u us=>
         refine .inr ?_;obtain⟨_,⟨ps,hcps,hall,hor⟩,hcel⟩:=hxs 0 u rfl;have hl1:=lK hall;by_cases hz:ps=[]
         ·rw[hz] at hl1
          have:=hc.2.2;simp at hl1;omega
         ·obtain⟨p,ps',rfl⟩:=List.exists_cons_of_ne_nil hz
          obtain⟨v,hv,_⟩:=hcel 0 p (by rw[hcps];rfl);have:=World.cell?_spot hv;simpa [Addr.add] using this
       have hcellE:P.cellsOf e=l1.length:=hc.1;rw[show len=xs.length from hxl.symm];refine .sl l1.length xs (some a) cap a.block a.off (λk=>(w.cell? ⟨a.block,a.off+k,none⟩).getD undef) ?_ (by omega) (λu hu=>?_) (λu hu=>?_) (λi u j p hu hp=>?_) (λi u j p hu hp=>?_)
       ·rcases hspot with h|h
        ·exact .inl h
        ·refine .inr ?_
         cases a;simp at h;subst h;rfl
       ·obtain⟨i,hiu⟩:=hmem u hu
        obtain⟨_,⟨ps,hcps,hall,_⟩,_⟩:=hxs i u hiu;rw[hcps];exact lK hall
       ·obtain⟨i,hiu⟩:=hmem u hu
        obtain⟨_,⟨ps,hcps,hall,_⟩,_⟩:=hxs i u hiu;rw[ak,hcps];exact lL hall
       ·obtain⟨_,_,hcel⟩:=hxs i u hu
        obtain⟨v,hv,hrep⟩:=hcel j p hp;rw[hcellE] at hv;have ha:a.add (i*l1.length+j)=⟨a.block,a.off+(i*l1.length+j),none⟩:=by
         have hs:a.spot=none:=hspot.resolve_left λh=>by rw[h] at hu;simp at hu
         cases a;simp at hs;subst hs;unfold Addr.add;split
         ·rename_i h0;rw[h0];rfl
         ·rfl
        rw[ha] at hv;refine⟨?_,by rw[hv];rfl⟩;exact yM (a:=⟨a.block,a.off+(i*l1.length+j),none⟩) hv
       ·obtain⟨_,_,hcel⟩:=hxs i u hu
        obtain⟨v,hv,hrep⟩:=hcel j p hp;rw[hcellE] at hv;have ha:a.add (i*l1.length+j)=⟨a.block,a.off+(i*l1.length+j),none⟩:=by
         have hs:a.spot=none:=hspot.resolve_left λh=>by rw[h] at hu;simp at hu
         cases a;simp at hs;subst hs;unfold Addr.add;split
         ·rename_i h0;rw[h0];rfl
         ·rfl
        rw[ha] at hv;rw[hv];exact hrep
    ·cases h
   ·cases h
  ·rename_i k e ht
   split at h
   ·rename_i l1 hs1
    split at h
    ·rename_i hc
     simp at h;subst h;obtain⟨xs,m,rfl,rfl,hcl,hxl,hi⟩:=DataW.trod_array ht hx;obtain⟨ps,hp,hb1,hr⟩:=sn (ih n (by omega) _ _ hs1) (cs:=cs) (xs:=xs) (m:=m) (λj hj=>by rw[<-hc.1];exact hi j (by omega)) (λb hb=>hw b (by rw[DataW.weights,ht];exact hb)) k 0 (by omega);refine⟨ps,hp,by rw[fm];simp[isAgg,ht];simpa using hb1,?_⟩;rw[Nat.zero_mul,bK,<-hc.2,<-hcl,List.take_length] at hr;exact hr
    ·cases h
   ·cases h
  ·rename_i fs ht
   split at h
   ·rename_i l1 hs1
    split at h
    ·rename_i hc
     simp at h;subst h;obtain⟨xs,m,rfl,rfl,hcl,hxl,hi⟩:=DataW.trod_struct ht hx;obtain⟨ps,hp,hb1,hr⟩:=so n (λk hk=>ih k (by omega)) n (by omega) fs.toList 0 l1 hs1 cs xs m (by simpa using hxl) (λi f hf=>hi i f (by simpa using hf)) (λb hb=>hw b (by rw[DataW.weights,ht];exact hb));refine⟨ps,hp,by rw[fm];simp[isAgg,ht];simpa using hb1,?_⟩;rw[bK,<-hc,<-hcl,List.take_length] at hr;exact hr
    ·cases h
   ·cases h
  ·cases h
def gJ:Bool×List CS->PV->Prop
 |(true,l),p=>∃ps,p= .agg ps/\co l ps
 |(false,l),p=>co l [p]
def fo:List (Bool×List CS)->List PV->Prop
 |[],[]=>True
 |c::cs,p::ps=>gJ c p/\fo cs ps
 |_,_=>False
def jL (P:Program) (n:Nat):List TypeId->Option (List (Bool×List CS))
 |[]=>some []
 |t::ts=>match shape P n t,jL P n ts with
  |some l,some r=>some ((isAgg P t,l)::r)
  |_,_=>none
theorem sq {c:Bool×List CS} {cs:List (Bool×List CS)} {qs:List PV} (h:fo (c::cs) qs):∃p ps,qs=p::ps/\gJ c p/\fo cs ps:=by
 cases qs with
 |nil=>simp[fo] at h
 |cons p ps=>exact⟨p,ps,rfl,h⟩
theorem yO {qs:List PV} (h:fo [] qs):qs=[]:=by
 cases qs with
 |nil=>rfl
 |cons p ps=>simp[fo] at h
theorem fc {c:CS} {cs:List CS} {qs:List PV} (h:co (c::cs) qs):∃p ps,qs=p::ps/\hZ c p/\co cs ps:=by
 cases qs with
 |nil=>simp[co] at h
 |cons p ps=>exact⟨p,ps,rfl,h⟩
theorem kD {qs:List PV} (h:co [] qs):qs=[]:=by
 cases qs with
 |nil=>rfl
 |cons p ps=>simp[co] at h
theorem yP {l:List CS} {p:PV} (h:gJ (true,l) p):∃ps,p= .agg ps/\co l ps:=h
theorem ia {p:PV} (h:hZ .int p):∃n,p= .int .i64 n/\ -9223372036854775808<=n/\n<=9223372036854775807:=h
theorem yQ {c:Bool×List CS} {p:PV} (h:gJ c p):ak p=true:=by
 obtain⟨g,l⟩:=c;cases g with
 |true=>
  obtain⟨ps,rfl,h⟩:=h;exact lL h
 |false=>rw[ak,sj h];exact lL h
theorem sr:∀{L:List (Bool×List CS)} {ps:List PV},fo L ps->∀p∈ps,ak p=true
 |[],[],_,p,hp=>by simp at hp
 |_::_,q::ps,h,p,hp=>by
  simp only[fo] at h;rcases List.mem_cons.1 hp with rfl|hp
  ·exact yQ h.1
  ·exact sr h.2 p hp
 |[],_::_,h,_,_=>by simp[fo] at h
 |_::_,[],h,_,_=>by simp[fo] at h
theorem yR {n:Nat} {t:TypeId} {l:List CS} (hs:shape P n t=some l) {base:Nat} {v:Value} {d:DataW H} {ps:List MemPlace} (hv:Value.okWide P w .any base t v) (hd:DataW.Trod enc P w 0 sp held t v d ps)
  (hw:∀b∈d.weights P t,b<=reachBytes):∃p,gJ (isAgg P t,l) p/\fE p<=fm d/\RepP fi (Mem.start w) w p v:=by
 obtain⟨fuel,hf⟩:=hd;obtain⟨qs,hq,hb1,hr⟩:=yN (fi:=fi) n t l hs fuel _ _ hf hw;have hone:v.cells.toList=[v]->isAgg P t=false->∃p,gJ (isAgg P t,l) p/\fE p<=fm d/\RepP fi (Mem.start w) w p v:=by
  intro hc hg;rw[hc] at hr;cases qs with
  |nil=>have:=hr.1;simp at this
  |cons q qs=>cases qs with
   |cons r qs=>have:=hr.1;simp at this
   |nil=>exact⟨q,by rw[hg];exact hq,by simp[dG] at hb1;omega,hr.2 0 q v rfl rfl⟩
 have hagg:(∃cs,v= .agg cs)->isAgg P t=true->∃p,gJ (isAgg P t,l) p/\fE p<=fm d/\RepP fi (Mem.start w) w p v:=by rintro⟨cs,rfl⟩ hg;refine⟨.agg qs,by rw[hg];exact⟨qs,rfl,hq⟩,by rw[fE];simpa [hg] using hb1,?_⟩;obtain⟨cl⟩:=cs;exact .agg qs cl hr.1.symm hr.2
 cases n with
 |zero=>simp[shape] at hs
 | succ n=>
  rw[shape] at hs;split at hs
  ·rename_i ht
   obtain⟨b,rfl⟩:=okWide_bool ht hv;exact hone rfl (by simp[isAgg,ht])
  ·rename_i ht
   obtain⟨b,rfl⟩:=okWide_int ht hv;exact hone rfl (by simp[isAgg,ht])
  ·rename_i ht
   obtain⟨b,rfl⟩:=okWide_string ht hv;exact hone rfl (by simp[isAgg,ht])
  ·rename_i e ht
   obtain⟨a,b,c,rfl⟩:=okWide_slice ht hv;exact hone rfl (by simp[isAgg,ht])
  ·rename_i k e ht
   refine hagg ?_ (by simp[isAgg,ht]);simp only[Value.okWide,ht] at hv;obtain⟨cs,h1,_⟩:=hv;exact⟨cs,h1⟩
  ·rename_i fs ht
   refine hagg ?_ (by simp[isAgg,ht]);simp only[Value.okWide,ht] at hv;obtain⟨cs,h1,_⟩:=hv;exact⟨cs,h1⟩
  ·cases hs
theorem su {n base:Nat}:∀{ts:List TypeId} {L:List (Bool×List CS)} {vs:List Value} {ds:List (DataW H)} {ps:List MemPlace},jL P n ts=some L->DataW.TrodAll enc P w 0 sp held ts vs ds ps->
  (∀(j:Nat) t v,ts[j]?=some t->vs[j]?=some v->Value.okWide P w .any base t v)->(∀b∈DataW.weightsEach P ts ds,b<=reachBytes)->
  ∃qs,fo L qs/\dG qs<=fF ds/\qs.length=vs.length/\∀(i:Nat) (p:PV) (v:Value),qs[i]?=some p->vs[i]?=some v->RepP fi (Mem.start w) w p v
 |[],L,vs,ds,ps,hs,ht,_,_=>by obtain⟨rfl,rfl,rfl⟩:=trodAll_nil ht;simp[jL] at hs;subst hs;exact⟨[],trivial,Nat.zero_le _,rfl,λi p v h=>by simp at h⟩
 | t::ts,L,vs,ds,ps,hs,ht,hv,hw=>by
  obtain⟨v,vs',d,ds',p,q,rfl,rfl,rfl,h1,h2⟩:=trodAll_cons ht;simp only[jL] at hs;split at hs
  ·rename_i l r hl hr
   simp at hs;subst hs;obtain⟨a,ha,hb1,hra⟩:=yR (fi:=fi) hl (hv 0 t v rfl rfl) h1 λb hb=>hw b (by simp only[DataW.weightsEach];exact bC _ hb)
   obtain⟨qs,hq,hb2,hl,hrq⟩:=su hr h2 (λj t v h1 h2=>hv (j+1) t v (by simpa using h1) (by simpa using h2)) (λb hb=>hw b (by simp only[DataW.weightsEach];exact bD _ hb));refine⟨a::qs,⟨ha,hq⟩,by rw[dG,fF];omega,by simp[hl],λi p v h1 h2=>?_⟩;cases i with
   |zero=>simp at h1 h2;subst h1;subst h2;exact hra
   |succ i=>exact hrq i p v (by simpa using h1) (by simpa using h2)
  ·cases hs
theorem sv {W W':World} (hl:laidOutB P=true) (hb:Below W.heap.size W W'):∀{ts:List TypeId} {vs:List Value} {ds:List (DataW H)} {ps:List MemPlace},
  (ts.all λt=>P.readableRec t&&decide (t<P.types.size))=true->DataW.TrodAll enc P W 0 (λ_=>true) true ts vs ds ps->DataW.TrodAll enc P W' 0 (λb=>decide (b<W.heap.size)) true ts vs ds ps
 |[],vs,ds,ps,_,h=>by obtain⟨rfl,rfl,rfl⟩:=trodAll_nil h;exact h
 |t::ts,vs,ds,ps,hr,h=>by
  obtain⟨v,vs',d,ds',p,q,rfl,rfl,rfl,h1,h2⟩:=trodAll_cons h;simp only[List.all_cons,aX,aH] at hr;have lt:∀x∈p,x.block<W.heap.size:=by obtain⟨m,hm⟩:=h1;exact DataW.trod_lt m _ _ _ hm
  exact⟨p,q,Below.trod hl hr.1.1 hr.1.2 h1 hb lt,sv hl hb hr.2 h2,rfl⟩
end
end
section
open Go.RowKit
def kG (P:Program) (fi:FI) (pg:Prg) (f F:Nat):Bool:=
 match P.funcs[F]? with
 | some Fn=>match Fn.body with
  |some c=>match pg f with
   | some (.code fn) => (!(Fn.name == "runtime.NumGoroutine")) && (cq P fi Fn.ntmps fn.body c && eV P fn.res Fn.results.toList)
   |some (.yl _)=>false
   | _ => !(Fn.name == "runtime.NumGoroutine")
  |none=>false
 |none=>false
def sB (pg:Prg) (f:Nat):Bool:=match pg f with|some (.lib _)=>true|_=>false
theorem yW {P:Program} {fi:FI} {pg:Prg} {f F:Nat} (h:kG P fi pg f F=true) (hl:∀L,pg f=some (.lib L)->∀vs gh r gh',L vs gh=some (r,gh')->(∀p∈vs,ak p=true)->fQ P fi F vs gh r gh') :
  se P F/\match pg f with
  |some (.code fn)=>∃Fn c,P.funcs[F]?=some Fn/\Fn.body=some c/\cq P fi Fn.ntmps fn.body c=true/\eV P fn.res Fn.results.toList=true
  |some (.lib L)=>∀vs gh r gh',L vs gh=some (r,gh')->(∀p∈vs,ak p=true)->fQ P fi F vs gh r gh'
  |_=>pg f=none:=by
 unfold kG at h;cases hF:P.funcs[F]? with
 |none=>rw[hF] at h;cases h
 | some Fn=>
  rw[hF] at h;simp only at h;cases hc:Fn.body with
  |none=>rw[hc] at h;cases h
  | some c=>
   rw[hc] at h;simp only at h;cases hp:pg f with
   |none=>
    rw[hp] at h;exact⟨⟨Fn,c,hF,by simpa using h,hc⟩,by simp[hp]⟩
   | some df=>
    cases df with
    |lib L=>
     rw[hp] at h;exact⟨⟨Fn,c,hF,by simpa using h,hc⟩,hl L hp⟩
    |yl Y=>rw[hp] at h;cases h
    |code fn=>
     rw[hp] at h;simp only[aX,Bool.not_eq_true'] at h;exact⟨⟨Fn,c,hF,h.1,hc⟩,Fn,c,rfl,hc,h.2.1,h.2.2⟩
def fiG (l:List (Nat×Nat)) (gl:List (Nat×Nat×Option Value)) (bT:List TypeId:=[]) (u8:TypeId:=0) (gw:List (Nat×List ByteArray):=[]) (gwok:kj gl gw:=by exact qI _):FI:={f:=λf=>(l.find? (·.1==f)).map (·.2),gl:=gl,bT:=bT,u8:=u8,gw:=gw,gwok:=gwok }
abbrev yX (l:List (Nat×Nat)):FI:=fiG l []
theorem yY {l:List (Nat×Nat)} {gl:List (Nat×Nat×Option Value)} {bT:List TypeId} {u8:TypeId} {gw:List (Nat×List ByteArray)} {gwok:kj gl gw} {f F:Nat} (h:fiG l gl bT u8 gw gwok f=some F):(f,F)∈l:=by unfold fiG at h;simp only[aE] at h;obtain⟨⟨a,b⟩,h1,rfl⟩:=h;have h2:=List.find?_some h1;have h3:=List.mem_of_find?_eq_some h1;simp at h2;subst h2;exact h3
theorem yZ {P:Program} {l:List (Nat×Nat)} {fi:FI} {pg:Prg} (hm:∀f F,fi f=some F->(f,F)∈l) (hy:∀y N ps as body,fi.yp y N ps as body=true->∃Y,pg y=some (.yl Y)/\ps= #[Y.t]/\fi.yk y=Y.ks/\Y.t∉Y.ks/\Y.t<N/\dR Y.as=true/\dR Y.body=true/\cq P fi N Y.as as=true/\cq P fi N Y.body body=true)
  (h:(l.all λx=>kG P fi pg x.1 x.2)=true) (hl:∀f F L,(f,F)∈l->pg f=some (.lib L)->∀vs gh r gh',L vs gh=some (r,gh')->(∀p∈vs,ak p=true)->fQ P fi F vs gh r gh'):gI P fi pg:=by
 refine⟨hy,λf F hf=>?_⟩;rw[bR] at h;exact yW (h _ (hm f F hf)) (λL=>hl f F L (hm f F hf))
def sC (P:Program) (fi:FI) (yl:List (Nat×IYl)):YP:=λy N ps as body=>match yl.lookup y with
 |some Y=>ps== #[Y.t]&&(!Y.ks.contains Y.t&&(decide (Y.t<N)&&(dR Y.as&&(dR Y.body&&(cq P fi N Y.as as&&cq P fi N Y.body body)))))
 |none=>false
def sD (yl:List (Nat×IYl)):Nat->List Nat:=λy=>match yl.lookup y with
 |some Y=>Y.ks
 |none=>[]
def FI.wk (fi:FI) (yl:List (Nat×IYl)):FI:=⟨fi.f,fi.gl,fi.bT,fi.u8,fi.gw,fi.gwok,sD yl,λ_ _ _ _ _=>false⟩
def fiY (P:Program) (fi:FI) (yl:List (Nat×IYl)):FI:=(fi.wk yl).nY (sC P (fi.wk yl) yl)
theorem y0 {P:Program} {l:List (Nat×Nat)} {gl:List (Nat×Nat×Option Value)} {bT:List TypeId} {u8:TypeId} {gw:List (Nat×List ByteArray)} {gwok:kj gl gw} {pg:Prg} {yl:List (Nat×IYl)} (hy:∀y Y,yl.lookup y=some Y->pg y=some (.yl Y)) (h:(l.all λx=>kG P (fiY P (fiG l gl bT u8 gw gwok) yl) pg x.1 x.2)=true)
  (hl:∀f F L,(f,F)∈l->pg f=some (.lib L)->∀vs gh r gh',L vs gh=some (r,gh')->(∀p∈vs,ak p=true)->fQ P (fiY P (fiG l gl bT u8 gw gwok) yl) F vs gh r gh'):gI P (fiY P (fiG l gl bT u8 gw gwok) yl) pg:=by
 refine yZ (λf F hf=>yY (gl:=gl) (bT:=bT) (u8:=u8) (gw:=gw) (gwok:=gwok) hf) (λy N ps as body hp=>?_) h hl;unfold fiY sC at hp;simp only at hp;cases hY:yl.lookup y with
 |none=>rw[hY] at hp;cases hp
 |some Y=>
  rw[hY] at hp;simp only[aX,Bool.not_eq_true',cQ,aH] at hp;obtain⟨h1,h2,h3,h4,h5,h6,h7⟩:=hp;exact⟨Y,hy y Y hY,h1,by simp only[fiY,FI.nY,FI.wk,sD,hY],by simpa using h2,h3,h4,h5,(sA h4).trans h6,(sA h5).trans h7⟩
theorem y1 {H:Type} {enc:TypeId×Value->H} {P:Program} {fi:FI} {pg:Prg} (hP:P.follows .mixedOrders=true) (hL:gI P fi pg) {f F n:Nat} (hf:fi f=some F) {ts:List TypeId} {L:List (Bool×List CS)}
  (hs:jL P n ts=some L) {N:Nat} (hlaw:∀qs,fo L qs->dG qs<=N->ac pg f qs []=some (.bool true,[])) {W:World} {base:Nat} {args:List Value} {ds:List (DataW H)} {ps:List MemPlace}
  (hA:DataW.TrodAll enc P W 0 (λ_=>true) true ts args ds ps) (hv:∀(j:Nat) t v,ts[j]?=some t->args[j]?=some v->Value.okWide P W .any base t v) (hw:(DataW.weightsEach P ts ds).all (· <=reachBytes)=true) (hN:fF ds<=N) (hg:∀x∈fi.gl,x.1<W.heap.size/\W.cell? ⟨x.1,x.2.1,none⟩=x.2.2:=by intro x hx;cases hx) :
  Calls P F args.toArray W λe W'=>e= .returned (.bool true)/\Below W.heap.size W W':=by
 obtain⟨qs,hq,hbk,hl,hr⟩:=su (fi:=fi) hs hA hv (by simpa using hw);refine (yK hP hL (hlaw qs hq (bW hbk hN)) (sr hq) hf hl.symm hg hr).mono ?_;rintro e w' ⟨v,M',rfl,_,hres,h1,h2,h3,h4,h5⟩;refine⟨?_,⟨h1,h2,h3,h4,h5⟩⟩;have:RepP fi M' w' (.bool true) v:=hres;cases this;rfl
theorem y2 {H:Type} {enc:TypeId×Value->H} {P:Program} {fi:FI} {pg:Prg} (hP:P.follows .mixedOrders=true) (hL:gI P fi pg) {f F n:Nat} (hf:fi f=some F) {ts:List TypeId} {L:List (Bool×List CS)}
  (hs:jL P n ts=some L) (hlaw:∀qs,fo L qs->ac pg f qs []=some (.bool true,[])) {W:World} {base:Nat} {args:List Value} {ds:List (DataW H)} {ps:List MemPlace}
  (hA:DataW.TrodAll enc P W 0 (λ_=>true) true ts args ds ps) (hv:∀(j:Nat) t v,ts[j]?=some t->args[j]?=some v->Value.okWide P W .any base t v) (hw:(DataW.weightsEach P ts ds).all (· <=reachBytes)=true) (hg:∀x∈fi.gl,x.1<W.heap.size/\W.cell? ⟨x.1,x.2.1,none⟩=x.2.2:=by intro x hx;cases hx) :
  Calls P F args.toArray W λe W'=>e= .returned (.bool true)/\Below W.heap.size W W':=
 y1 hP hL hf hs (λqs h _=>hlaw qs h) hA hv hw (cM _) hg
end
section
variable {ins:Int} {ands:List (Int×Int)} {gh:List GObj}
end
theorem jY {g:Bool} {bytes:Nat} {l:List CS} {p:PV} (h:hZ (.slice g bytes l) p):∃xs,p= .sl false l.length xs/\xs.length*bytes<=reachBytes/\∀e∈xs,(g=true/\∃ps,e= .agg ps/\co l ps)\/(g=false/\co l [e]):=by unfold hZ at h;exact h
theorem oZ:∀{xs:List PV},(∀e∈xs,(true=true/\∃ps,e= .agg ps/\co [.int,.int] ps)\/(true=false/\co [.int,.int] [e]))->∃ands,RA ands/\xs=ands.map bv
 |[],_=>⟨[],λx h=>(by cases h),rfl⟩
 | e::xs,h=>by
  obtain⟨ands,hr,rfl⟩:=oZ (xs:=xs) λe he=>h e (bF _ he)
  rcases h e (by simp) with ⟨-,ps,rfl,hp⟩|⟨h,-⟩
  ·obtain⟨_,_,rfl,g0,hp⟩:=fc hp
   obtain⟨_,_,rfl,g1,hp⟩:=fc hp;obtain rfl:=kD hp;obtain⟨a,rfl,ha⟩:=ia g0;obtain⟨b,rfl,hb⟩:=ia g1;refine⟨(a,b)::ands,λx hx=>?_,rfl⟩;rcases List.mem_cons.1 hx with rfl|hx
   ·exact⟨ha,hb⟩
   ·exact hr x hx
  ·cases h
section
variable {ins:Int} {ands:List (Int×Int)} {gh:List GObj}
end
def RI (l:List Int):Prop:=∀x∈l,-9223372036854775808<=x/\x<=9223372036854775807
theorem mo:∀{xs:List PV},(∀e∈xs,(false=true/\∃ps,e= .agg ps/\co [.int] ps)\/(false=false/\co [.int] [e]))->∃v:List Int,RI v/\xs=v.map I
 |[],_=>⟨[],λx h=>(by cases h),rfl⟩
 | e::xs,h=>by
  obtain⟨v,hr,rfl⟩:=mo (xs:=xs) λe he=>h e (bF _ he)
  rcases h e (by simp) with ⟨h,-⟩|⟨-,hp⟩
  ·cases h
  ·obtain⟨_,_,e1,g0,hp⟩:=fc hp
   cases kD hp;simp only[List.cons.injEq,and_true] at e1;subst e1;obtain⟨b,rfl,hb⟩:=ia g0;refine⟨b::v,λx hx=>?_,rfl⟩;rcases List.mem_cons.1 hx with rfl|hx
   ·exact hb
   ·exact hr x hx
theorem BV {c:CS} {p:PV} (h:gJ (false,[c]) p):hZ c p:=by obtain⟨q,ps,e,h1,h2⟩:=fc h;cases kD h2;simp only[List.cons.injEq,and_true] at e;subst e;exact h1
theorem BW {p:PV} (h:gJ (false,[.slice false 8 [.int]]) p):∃v:List Int,p=LI v/\RI v/\v.length*8<=reachBytes:=by obtain⟨xs,rfl,hb,hx⟩:=jY (BV h);obtain⟨v,hr,rfl⟩:=mo hx;refine⟨v,rfl,hr,?_⟩;simpa using hb
def toggleM:Md:=⟨[⟨1,1,0,0,0,0⟩,⟨3,1,0,0,0,0⟩,⟨4,1,1,0,0,0⟩],[(1,0)],[(1,2)],[1],[]⟩
section
variable {m:Md} {gh:List GObj}
theorem BX:ac pg 75 [] gh=some (de toggleM,gh):=by
 refine ao (fn:=q64) (s:=?s1) rfl rfl (qf4_ ?h1) ?r1
 case h1=>simp only[qf4];rfl
 case r1=>simp[al,results,q64,am,aq,ai,St.cellsAt,bz,toggleM,cV,gQ]
end
abbrev tS:List CS:=[.slice true 48 [.int,.int,.int,.int,.int,.int],.slice true 16 [.int,.int],.slice true 16 [.int,.int],.slice false 8 [.int],.slice false 8 [.int]]
structure o8 (m:Md):Prop where
 nodes:m.nodes.length*48<=reachBytes
 inits:m.inits.length*16<=reachBytes
 nexts:m.nexts.length*16<=reachBytes
 bads:m.bads.length*8<=reachBytes
 holds:m.holds.length*8<=reachBytes
theorem tT:∀{xs:List PV},(∀e∈xs,(true=true/\∃ps,e= .agg ps/\co [.int,.int,.int,.int,.int,.int] ps)\/(true=false/\co [.int,.int,.int,.int,.int,.int] [e]))->∃l:List Nd,xs=l.map bp
 |[],_=>⟨[],rfl⟩
 | e::xs,h=>by
  obtain⟨l,rfl⟩:=tT (xs:=xs) λe he=>h e (bF _ he)
  rcases h e (by simp) with ⟨-,ps,rfl,hp⟩|⟨h,-⟩
  ·obtain⟨_,_,rfl,g0,hp⟩:=fc hp
   obtain⟨_,_,rfl,g1,hp⟩:=fc hp;obtain⟨_,_,rfl,g2,hp⟩:=fc hp;obtain⟨_,_,rfl,g3,hp⟩:=fc hp;obtain⟨_,_,rfl,g4,hp⟩:=fc hp;obtain⟨_,_,rfl,g5,hp⟩:=fc hp;obtain rfl:=kD hp;obtain⟨a0,rfl,-⟩:=ia g0;obtain⟨a1,rfl,-⟩:=ia g1;obtain⟨a2,rfl,-⟩:=ia g2;obtain⟨a3,rfl,-⟩:=ia g3;obtain⟨a4,rfl,-⟩:=ia g4;obtain⟨a5,rfl,-⟩:=ia g5;exact⟨⟨a0,a1,a2,a3,a4,a5⟩::l,rfl⟩
  ·cases h
theorem BY {p:PV} (h:gJ (true,tS) p):∃m,p=de m/\o8 m:=by obtain⟨ps,rfl,hp⟩:=yP h;obtain⟨_,_,rfl,g0,hp⟩:=fc hp;obtain⟨_,_,rfl,g1,hp⟩:=fc hp;obtain⟨_,_,rfl,g2,hp⟩:=fc hp;obtain⟨_,_,rfl,g3,hp⟩:=fc hp;obtain⟨_,_,rfl,g4,hp⟩:=fc hp;obtain rfl:=kD hp;obtain⟨x0,rfl,b0,h0⟩:=jY g0;obtain⟨x1,rfl,b1,h1⟩:=jY g1;obtain⟨x2,rfl,b2,h2⟩:=jY g2;obtain⟨x3,rfl,b3,h3⟩:=jY g3;obtain⟨x4,rfl,b4,h4⟩:=jY g4;obtain⟨l0,rfl⟩:=tT h0;obtain⟨l1,-,rfl⟩:=oZ h1;obtain⟨l2,-,rfl⟩:=oZ h2;obtain⟨l3,-,rfl⟩:=mo h3;obtain⟨l4,-,rfl⟩:=mo h4;exact⟨⟨l0,l1,l2,l3,l4⟩,rfl,⟨by simpa using b0,by simpa using b1,by simpa using b2,by simpa using b3,by simpa using b4⟩⟩
structure kW (m:Md):Prop where
 len:m.nodes.length<=80
 ahead:jV m.nodes
 pairs:∀p∈m.inits++m.nexts,ci m.nodes p.1/\ci m.nodes p.2
 nod1:(m.inits.map (·.1)).Nodup
 nod2:(m.nexts.map (·.1)).Nodup
theorem pa {l:List Nd} {f:List Bool} {init:Bool}:∀{ps:List (Int×Int)},cv l f init ps=0->∀p∈ps,ci l p.1/\ci l p.2
 |[],_,p,hp=>by cases hp
 | q ::ps,h,p,hp=>by
  rw[cv] at h;split at h
  ·rename_i h0
   rcases List.mem_cons.1 hp with rfl|hp
   ·unfold dN at h0
    split at h0
    ·contradiction
    ·rename_i hn
     exact⟨aU λh=>hn (.inl h),aU λh=>hn (.inr (.inl h))⟩
   ·exact pa h p hp
  ·contradiction
theorem en {m:Md} (h:aw m=0):kW m:=by
 unfold aw at h;split at h
 ·contradiction
 rename_i h1;split at h
 ·contradiction
 rename_i h2;split at h
 ·contradiction
 split at h
 ·contradiction
 rename_i h4;have h4:fI m (dt [] m.nodes)=0:=aU h4;unfold fI at h4;split at h4
 ·contradiction
 rename_i e1;split at h4
 ·contradiction
 rename_i e2;split at h4
 ·contradiction
 rename_i e3;have e1:=aU e1;have e2:=aU e2;refine⟨by omega,oI (aU h2),λp hp=>?_,?_,?_⟩
 ·rcases bY.1 hp with hp|hp
  ·exact pa e1 p hp
  ·exact pa e2 p hp
 ·exact aU λh=>e3 (.inl h)
 ·exact aU λh=>e3 (.inr h)
theorem gV {x:Int} (h:0<=x):∃n:Nat,x=n:=⟨x.toNat,by omega⟩
section
variable (k width n v e a b c w0 w1 w2:Int) (gh:List GObj)
end
def fV (l:List Nd) (ns:List Int):Prop:=∀a∈ns,ci l a/\1<=wAt l a/\wAt l a<=8
def cZ (L:List Nd):List Int->List Int->Int
 |a::ns,v::vs=>if 0<=v/\v<((2^(wAt L a).toNat:Nat):Int) then cZ L ns vs else 3
 |[],_=>0
 |_::_,[]=>0
def cR (L:List Nd) (ns vs:List Int):Int:=if vs.length≠ns.length then 2 else cZ L ns vs
section
variable {m:Md} {gh:List GObj}
def mq (m:Md) (ns vs:List Int) (i:Nat) (gh:List GObj):St:=
 ⟨[(2,LI vs),(3,.ptr false 0 0),(14,LI ns),(15,I ns.length),(16,I (i:Int))],[[LN m.nodes,LP m.inits,LP m.nexts,LI m.bads,LI m.holds]],gh⟩
theorem tW {ns vs:List Int} (hx:fV m.nodes ns) (hl:ns.length<=1000) (hv:vs.length=ns.length):∀k i,i+k=ns.length->
  ab pg q5c (mq m ns vs i gh)=if cZ m.nodes (ns.drop i) (vs.drop i)=0 then some (.normal,⟨[],[],gh⟩) else some (.ret,⟨[(6,I (cZ m.nodes (ns.drop i) (vs.drop i)))],[],gh⟩)
 |0,i,h=>by
  rw[aQ (by omega),cZ,if_pos rfl];have hlt:¬(i:Int)<(ns.length:Int):=by omega
  refine (bm (s1:=?s1) (q9h ?h1)).trans ?r1
  case h1=>simp only[aF hlt,dK];rfl
  case r1=>simp[keep]
 | k+1,i,h=>by
  have hlt:i<ns.length:=by omega
  have hltI:(i:Int)<(ns.length:Int):=by omega
  have hlv:i<vs.length:=by omega
  have e2:WI.wrap ((i:Int)+1)=((i+1:Nat):Int):=by rw[az (by omega) (by omega)];omega
  have hg:(ns.map I)[i]?=some (I ns[i]):=by simp[aA hlt]
  have hgv:(vs.map I)[i]?=some (I vs[i]):=by simp[aA hlv]
  obtain⟨hno,hw⟩:=hx _ (bX hlt);have hn:=eJ hno;have h0:=hno.1;rw[aL hlt,aL hlv,cZ];have hIW:=td vs[i] (wAt m.nodes ns[i]) (by omega) gh;rw[tu hw] at hIW;generalize ns[i]=a at *;generalize vs[i]=v at *;unfold wAt at *;generalize hd:m.nodes.getD a.toNat default=d at *;rw[cV d] at hn;by_cases hc:0<=v/\v<((2^d.w.toNat:Nat):Int)
  ·rw[aG hc] at hIW
   rw[if_pos hc];refine bc (s1:=mq m ns vs (i+1) gh) (q9h ?_) (tW hx hl hv k (i+1) (by omega));unfold mq;simp[hltI,hg,hgv,h0,hn,hIW,e2,-List.getElem?_map]
  ·rw[aF hc] at hIW
   rw[if_neg hc,if_neg (by decide)];refine dl (q9h ?_);simp[hltI,hg,hgv,h0,hn,hIW,-List.getElem?_map]
theorem CB {ns vs:List Int} (hx:fV m.nodes ns) (hl:ns.length<=1000):ac pg 135 [de m,LI ns,LI vs] gh=some (I (cR m.nodes ns vs),gh):=by
 rw[bz];unfold cR;by_cases hv:vs.length=ns.length
 ·rw[if_neg (by omega)]
  have h:=tW (gh:=gh) hx hl hv ns.length 0 (by omega);rw[bK,bK] at h;unfold mq at h;simp only[aW] at h;have hk:=qie (pg:=pg) (gh:=gh) rfl;by_cases hz:cZ m.nodes ns vs=0
  ·rw[if_pos hz] at h
   rw[hz];refine ao (fn:=q16) (s:=⟨[(6,I 0)],[],gh⟩) rfl rfl (q9i ?h1) ?r1
   case h1=>simp[hv,h,hk]
   case r1=>simp[al,results,q16,am,aq,ai]
  ·rw[if_neg hz] at h
   generalize cZ m.nodes ns vs=r at *;refine ao (fn:=q16) (s:=⟨[(6,I r)],[],gh⟩) rfl rfl (q9i ?h2) ?r2
   case h2=>simp[hv,h]
   case r2=>simp[al,results,q16,am,aq,ai]
 ·rw[if_pos hv]
  have hd:decide ((vs.length:Int)=(ns.length:Int))=false:=aF (by omega);refine ao (fn:=q16) (s:=⟨[(6,I 2)],[],gh⟩) rfl rfl (q9i ?h3) ?r3
  case h3=>simp[hd]
  case r3=>simp[al,results,q16,am,aq,ai]
theorem tX {ns vs:List Int} (hx:fV m.nodes ns) (hl:ns.length<=1000) (hv:vs.length=ns.length):∀k i,i+k=ns.length->
  ab pg q7s ⟨[(2,LI vs),(3,.ptr false 0 0),(7,LI ns),(8,I (i:Int))],[[LN m.nodes,LP m.inits,LP m.nexts,LI m.bads,LI m.holds]],gh⟩=
   if cZ m.nodes (ns.drop i) (vs.drop i)=0 then some (.normal,⟨[],[],gh⟩) else some (.ret,⟨[(6,I (cZ m.nodes (ns.drop i) (vs.drop i)))],[],gh⟩)
 |0,i,h=>by
  rw[aQ (by omega),cZ,if_pos rfl];have hlt:¬i<vs.length:=by omega
  refine (bm (s1:=?s1) (q9k ?h1)).trans ?r1
  case h1=>simp[hlt];rfl
  case r1=>simp[keep]
 | k+1,i,h=>by
  have hlt:i<ns.length:=by omega
  have hlv:i<vs.length:=by omega
  have hltI:(i:Int)<(vs.length:Int):=by omega
  have hltD:decide (i<vs.length)=true:=aG hlv;have e2:WI.wrap ((i:Int)+1)=((i+1:Nat):Int):=by rw[az (by omega) (by omega)];omega
  have hg:(ns.map I)[i]?=some (I ns[i]):=by simp[aA hlt]
  have hgv:(vs.map I)[i]?=some (I vs[i]):=by simp[aA hlv]
  obtain⟨hno,hw⟩:=hx _ (bX hlt);have hn:=eJ hno;have h0:=hno.1;rw[aL hlt,aL hlv,cZ];generalize ns[i]=a at *;generalize vs[i]=v at *;unfold wAt at *;generalize hd:m.nodes.getD a.toNat default=d at *;rw[cV d] at hn;obtain⟨W,hW⟩:=gV (show 0<=d.w by omega);rw[hW] at hn hw;have hT:=ff (show W<=61 by omega) gh;have hp:2^W<=256:=ef (by omega);have hp0:1<=2^W:=Nat.one_le_two_pow;have hw1:WI.wrap (((2^W:Nat):Int)-1)=((2^W:Nat):Int)-1:=az (by omega) (by omega);have hB:=dS v 0 (((2^W:Nat):Int)-1) gh;rw[show d.w.toNat=W by omega];generalize ((2^W:Nat):Int)=P at *;by_cases hc:0<=v/\v<P
  ·rw[aG (show 0<=v/\v<=P-1 by omega)] at hB
   rw[if_pos hc];refine bc (s1:=⟨[(2,LI vs),(3,.ptr false 0 0),(7,LI ns),(8,I ((i+1:Nat):Int))],[[LN m.nodes,LP m.inits,LP m.nexts,LI m.bads,LI m.holds]],gh⟩) (q9k ?_) (tX hx hl hv k (i+1) (by omega));simp[hltD,hg,hgv,h0,hn,hT,hw1,hB,e2,-List.getElem?_map]
  ·rw[aF (show ¬(0<=v/\v<=P-1) by omega)] at hB
   rw[if_neg hc,if_neg (by decide)];refine dl (q9k ?_);simp[hltD,hg,hgv,h0,hn,hT,hw1,hB,-List.getElem?_map]
theorem CC {kind:Int} {vs:List Int} (hm:m.nodes.length<=1000) (hx:fV m.nodes (ah m.nodes kind)):ac pg 124 [de m,I kind,LI vs] gh=some (I (cR m.nodes (ah m.nodes kind) vs),gh):=by
 have hN:=jo (m:=m) (gh:=gh) (kind:=kind) (by omega);have hl:(ah m.nodes kind).length<=1000:=bW (mi _ _ _) hm;rw[bz] at *;unfold cR;generalize ah m.nodes kind=ns at *;by_cases hv:vs.length=ns.length
 ·rw[if_neg (by omega)]
  have h:=tX (gh:=gh) hx hl hv ns.length 0 (by omega);rw[bK,bK] at h;simp only[aW] at h;have hk:=qih (pg:=pg) (gh:=gh) rfl;by_cases hz:cZ m.nodes ns vs=0
  ·rw[if_pos hz] at h
   rw[hz];refine ao (fn:=q1i) (s:=⟨[(6,I 0)],[],gh⟩) rfl rfl (q9l ?h1) ?r1
   case h1=>simp[hN,hv,h,hk]
   case r1=>simp[al,results,q1i,am,aq,ai]
  ·rw[if_neg hz] at h
   generalize cZ m.nodes ns vs=r at *;refine ao (fn:=q1i) (s:=⟨[(6,I r)],[],gh⟩) rfl rfl (q9l ?h2) ?r2
   case h2=>simp[hN,hv,h]
   case r2=>simp[al,results,q1i,am,aq,ai]
 ·rw[if_pos hv]
  have hd:decide ((vs.length:Int)=(ns.length:Int))=false:=aF (by omega);refine ao (fn:=q1i) (s:=⟨[(6,I 2)],[],gh⟩) rfl rfl (q9l ?h3) ?r3
  case h3=>simp[hN,hd]
  case r3=>simp[al,results,q1i,am,aq,ai]
theorem CD {m:Md} (h:aw m=0):eg m.nodes 0 m.nodes=0:=by
 unfold aw at h;split at h
 ·contradiction
 split at h
 ·contradiction
 rename_i h2;exact aU h2
theorem pc {m:Md} (h:aw m=0) {i:Nat} {x:Nd} (hx:m.nodes[i]?=some x):dw m.nodes i x=0:=by
 have:=mn (CD h) i x hx
 rwa [cN] at this
theorem CE {m:Md} (h:aw m=0) {i:Nat} {x:Nd} (hx:m.nodes[i]?=some x):1<=x.w/\x.w<=8:=by
 have h0:=pc h hx;unfold dw at h0;split at h0
 ·omega
 split at h0
 ·omega
 rename_i hw;exact aU hw
theorem CF {m:Md} (h:aw m=0) {ns:List Int} (hn:∀a∈ns,ci m.nodes a):fV m.nodes ns:=by intro a ha;have hno:=hn a ha;refine⟨hno,?_⟩;unfold wAt;rw[aM,aA hno.2];exact CE h (aA hno.2)
theorem iP {m:Md} (h:aw m=0) (kind:Int):fV m.nodes (ah m.nodes kind):=CF h λ_ ha=>tz ha
theorem tY {vs:List Int} (h:vs.length*8<=maxBytes):ac pg 142 [LI vs] gh=some (LI (List.replicate vs.length 0),gh):=by
 have e:∀n:Nat,List.map I (List.replicate n 0)=List.replicate n (I 0):=λn=>List.map_replicate
 simp only[LI,e];have hn:dj (List.replicate vs.length (PV.int IntKind.i64 0))=true:=by
  have:=eQ (List.replicate vs.length 0)
  rwa [e] at this
 have hI:decide ((vs.length:Int)*8<=(maxBytes:Int))=true:=aG (by omega);refine ao (fn:=q5j) (s:=?s1) rfl rfl (qig ?h1) ?r1
 case h1=>simp[eP,hI,eb];rfl
 case r1=>simp[al,results,q5j,am,aq,ai,hn]
end
def jZ (L:List Nd) (acc:List Int) (x:Nd):Int:=
 ij x.k x.w (acc.getD x.a.toNat 0) (acc.getD x.b.toNat 0) (acc.getD x.c.toNat 0) x.n (wdJ L x.k 0 x.a) (wdJ L x.k 1 x.b)
def eo (L:List Nd):List Int->List Int->List Int->List Nd->List Int
 |acc,_,_,[]=>acc
 |acc,ss,ks,x::l=>
  if x.k=1 then eo L (acc++[x.n]) ss ks l else if x.k=3 then eo L (acc++[ss.headD 0]) ss.tail ks l
  else if x.k=2 then eo L (acc++[ks.headD 0]) ss ks.tail l else eo L (acc++[jZ L acc x]) ss ks l
def InW (L:List Nd) (acc:List Int):Prop:=∀j:Nat,j<acc.length->0<=acc.getD j 0/\acc.getD j 0<((2^(wAt L j).toNat:Nat):Int)
structure VGood (L:List Nd) (i:Nat) (acc ss ks:List Int):Prop where
 len:acc.length=i
 inw:InW L acc
 sl:ss.length=(cW 3 i (L.drop i)).length
 sw:cZ L (cW 3 i (L.drop i)) ss=0
 kl:ks.length=(cW 2 i (L.drop i)).length
 kw:cZ L (cW 2 i (L.drop i)) ks=0
theorem pd {L:List Nd} {a:Int} {ns vs:List Int} (hl:vs.length=(a::ns).length) (h:cZ L (a::ns) vs=0) :
  ∃v vs',vs=v::vs'/\0<=v/\v<((2^(wAt L a).toNat:Nat):Int)/\vs'.length=ns.length/\cZ L ns vs'=0:=by
 cases vs with
 |nil=>simp at hl
 | cons v vs'=>
  rw[cZ] at h;split at h
  ·rename_i hc
   exact⟨v,vs',rfl,hc.1,hc.2,by simpa using hl,h⟩
  ·cases h
theorem pe {L:List Nd} {i:Nat} {x:Nd} (hx:L[i]?=some x):wAt L (i:Int)=x.w:=by unfold wAt;rw[aM,Int.toNat_natCast,hx];rfl
theorem InW.push {L:List Nd} {acc:List Int} {i:Nat} {x:Nd} {v:Int} (h:InW L acc) (hi:acc.length=i) (hx:L[i]?=some x) (h0:0<=v) (h1:v<((2^x.w.toNat:Nat):Int)):InW L (acc++[v]):=by
 intro j hj;rw[aV,List.length_singleton] at hj;by_cases he:j<acc.length
 ·have e:(acc++[v]).getD j 0=acc.getD j 0:=by simp[aM,aJ he]
  rw[e];exact h j he
 ·have ej:j=i:=by omega
  subst ej;have e:(acc++[v]).getD j 0=v:=by simp[aM,<-hi]
  rw[e,pe hx];exact⟨h0,h1⟩
section
variable {L:List Nd} {i:Nat} {acc ss ks:List Int} {x:Nd}
theorem VGood.other (h:VGood L i acc ss ks) (hx:L[i]?=some x) (h3:x.k≠3) (h2:x.k≠2) {v:Int} (v0:0<=v) (v1:v<((2^x.w.toNat:Nat):Int)):VGood L (i+1) (acc++[v]) ss ks:=by obtain⟨hlt,rfl⟩:=aD.1 hx;obtain⟨e1,e2,e3,e4,e5,e6⟩:=h;rw[aL hlt,cW,if_neg h3] at e3 e4;rw[aL hlt,cW,if_neg h2] at e5 e6;exact⟨by simp[e1],e2.push e1 hx v0 v1,e3,e4,e5,e6⟩
theorem VGood.state (h:VGood L i acc ss ks) (hx:L[i]?=some x) (h3:x.k=3):∃v ss',ss=v::ss'/\VGood L (i+1) (acc++[v]) ss' ks:=by obtain⟨hlt,rfl⟩:=aD.1 hx;obtain⟨e1,e2,e3,e4,e5,e6⟩:=h;rw[aL hlt,cW,if_pos h3] at e3 e4;rw[aL hlt,cW,if_neg (by omega)] at e5 e6;obtain⟨v,ss',rfl,v0,v1,hl,hw⟩:=pd e3 e4;rw[pe hx] at v1;exact⟨v,ss',rfl,by simp[e1],e2.push e1 hx v0 v1,hl,hw,e5,e6⟩
theorem VGood.input (h:VGood L i acc ss ks) (hx:L[i]?=some x) (h2:x.k=2):∃v ks',ks=v::ks'/\VGood L (i+1) (acc++[v]) ss ks':=by obtain⟨hlt,rfl⟩:=aD.1 hx;obtain⟨e1,e2,e3,e4,e5,e6⟩:=h;rw[aL hlt,cW,if_neg (by omega)] at e3 e4;rw[aL hlt,cW,if_pos h2] at e5 e6;obtain⟨v,ks',rfl,v0,v1,hl,hw⟩:=pd e5 e6;rw[pe hx] at v1;exact⟨v,ks',rfl,by simp[e1],e2.push e1 hx v0 v1,e3,e4,hl,hw⟩
structure mr (L:List Nd) (i:Nat) (x:Nd):Prop where
 fit:fq x.k x.w x.n (wdJ L x.k 0 x.a) (wdJ L x.k 1 x.b) (wdJ L x.k 2 x.c)=0
 a:0<=x.a/\x.a<i
 b:0<=x.b/\x.b<i
 c:0<=x.c/\x.c<i
 inn:kP L x
theorem pf (hx:L[i]?=some x) (hn:dw L i x=0) (hk:¬x.k<=3):mr L i x:=by
 unfold dw at hn;split at hn
 ·omega
 split at hn
 ·omega
 split at hn
 ·omega
 rename_i hb;have hi:i<=L.length:=Nat.le_of_lt (aD.1 hx).1;have hin:=oq hi hb;have hk':=(kM hn).1;have ht:=me hk';unfold ft dM at hb;simp only[not_or] at hb;obtain⟨b0,b1,b2⟩:=hb;rw[if_pos ht] at b0;refine⟨hn,by omega,?_,?_,hin⟩
 ·split at b1<;>omega
 ·split at b2<;>omega
theorem ph (hn:dw L i x=0) (hk:x.k=1):0<=x.n/\x.n<((2^x.w.toNat:Nat):Int):=by
 unfold dw at hn;split at hn
 ·omega
 split at hn
 ·omega
 rw[if_pos (by omega)] at hn;split at hn
 ·omega
 rename_i h;exact aU λh2=>h ⟨hk,h2⟩
theorem CG {k w a b c n w0 w1:Int} (hw:1<=w/\w<=8):0<=ij k w a b c n w0 w1/\ij k w a b c n w0 w1<((2^w.toNat:Nat):Int):=by obtain⟨W,rfl⟩:=gV (show 0<=w by omega);rw[tU k a b c n w0 w1 (by omega),Int.toNat_natCast];have:(0:Int)<((2^W:Nat):Int):=Int.natCast_pos.2 (Nat.two_pow_pos W);exact⟨Int.emod_nonneg _ (by omega),Int.emod_lt_of_pos _ this⟩
theorem VGood.op (h:VGood L i acc ss ks) (hx:L[i]?=some x) (h3:x.k≠3) (h2:x.k≠2) (ho:mr L i x):VGood L (i+1) (acc++[jZ L acc x]) ss ks:=
 have hw:=CG (k:=x.k) (a:=acc.getD x.a.toNat 0) (b:=acc.getD x.b.toNat 0) (c:=acc.getD x.c.toNat 0) (n:=x.n) (w0:=wdJ L x.k 0 x.a) (w1:=wdJ L x.k 1 x.b) (kM ho.fit).2.1
 h.other hx h3 h2 hw.1 hw.2
theorem ms (h:VGood L i acc ss ks) {a:Int} (ha:0<=a/\a<i):0<=acc.getD a.toNat 0/\acc.getD a.toNat 0<((2^(wAt L a).toNat:Nat):Int):=by
 have:=h.inw a.toNat (by rw[h.len];omega)
 rwa [show ((a.toNat:Nat):Int)=a by omega] at this
theorem CH {k width a b c n w0 w1 w2:Int} (he:fq k width n w0 w1 w2=0) (h0:0<=a/\a<((2^w0.toNat:Nat):Int)) (hb:0<=b) (h1:1<ba k->b<((2^w1.toNat:Nat):Int)) (hc:0<=c) (h2:2<ba k->c<((2^w2.toNat:Nat):Int)) (gh:List GObj) :
  ac pg 28 [I k,I width,I a,I b,I c,I n,.agg [I w0,I w1,I w2]] gh=some (I (ij k width a b c n w0 w1),gh):=by
 obtain⟨hk,hw,g0,g1,g2,s,hs,hf⟩:=kM he;have ht:=me hk;unfold wOk at g0 g1 g2;rw[if_pos ht] at g0;have hn:0<=n:=by
  unfold dq at hf;by_cases h6:s=6
  ·simp[h6] at hf;omega
  ·by_cases hn:n=0
   ·omega
   ·simp[h6,hn] at hf
 have hw1:0<=w1:=by split at g1<;>omega
 have hw2:0<=w2:=by split at g2<;>omega
 obtain⟨W,rfl⟩:=gV (show 0<=width by omega);obtain⟨A,rfl⟩:=gV h0.1;obtain⟨B,rfl⟩:=gV hb;obtain⟨C,rfl⟩:=gV hc;obtain⟨N,rfl⟩:=gV hn;obtain⟨W0,rfl⟩:=gV (show 0<=w0 by omega);obtain⟨W1,rfl⟩:=gV hw1;obtain⟨W2,rfl⟩:=gV hw2;rw[Int.toNat_natCast] at h0 h1 h2;have hd:=CA (gh:=gh) (A:=A) (B:=B) (C:=C) hk hs hf (by omega) (by omega) (λh=>by rw[if_pos h] at g1;omega) (by omega) (λh=>by have:=h1 h;omega) (λh=>by have:=h2 h;omega);refine ao (fn:=q76) rfl rfl (qc_ hd) ?r1;simp[al,results,q76,am,aq,ai]
theorem CI (h:VGood L i acc ss ks) (ho:mr L i x) (gh:List GObj) :
  ac pg 28 [I x.k,I x.w,I (acc.getD x.a.toNat 0),I (acc.getD x.b.toNat 0),I (acc.getD x.c.toNat 0),I x.n,gR L x] gh=some (I (jZ L acc x),gh):=by
 have ht:=me (kM ho.fit).1;have va:=ms h ho.a;have vb:=ms h ho.b;have vc:=ms h ho.c;refine CH ho.fit ⟨va.1,?_⟩ vb.1 (λh1=>?_) vc.1 (λh2=>?_) gh
 ·rw[show wdJ L x.k 0 x.a=wAt L x.a from if_pos ht];exact va.2
 ·rw[show wdJ L x.k 1 x.b=wAt L x.b from if_pos h1];exact vb.2
 ·rw[show wdJ L x.k 2 x.c=wAt L x.c from if_pos h2];exact vc.2
theorem CJ (h:VGood L i acc ss ks) (ho:mr L i x) (gh:List GObj) :
  ac pg 66 [I x.k,I x.w,I (acc.getD x.a.toNat 0),I (acc.getD x.b.toNat 0),I (acc.getD x.c.toNat 0),I x.n,gR L x] gh=some (I (jZ L acc x),gh):=by
 obtain⟨hk,hw,g0,g1,g2,s,hs,hf⟩:=kM ho.fit;have ht:=me hk;unfold wOk at g0 g1 g2;rw[if_pos ht] at g0;refine AX _ _ _ _ _ _ _ _ _ hk (ms h ho.b).1 (λh21=>?_) g0 (λh1=>?_) (by omega) gh
 ·unfold dq at hf
  by_cases h6:s=6
  ·simp[h6] at hf;omega
  ·by_cases hn:x.n=0
   ·omega
   ·simp[h6,hn] at hf
 ·have:1<ba x.k:=by rcases h1 with h|h<;>rw[h]<;>decide
  rwa [if_pos this] at g1
theorem kX {m:Md} {ss ks:List Int} (hs:cR m.nodes (ah m.nodes 3) ss=0) (hk:cR m.nodes (ah m.nodes 2) ks=0):VGood m.nodes 0 [] ss ks:=by
 unfold cR at hs hk;split at hs
 ·cases hs
 split at hk
 ·cases hk
 exact⟨rfl,λj hj=>by simp at hj,by rw[bK];rename_i h _;exact aU h,by rw[bK];exact hs,by rw[bK];rename_i _ h;exact aU h,by rw[bK];exact hk⟩
theorem tZ:∀{l:List Nd} {acc ss ks:List Int},(eo L acc ss ks l).length=acc.length+l.length
 |[],_,_,_=>rfl
 |x::l,acc,ss,ks=>by
  rw[eo]
  repeat' split
  all_goals rw[tZ];simp;omega
theorem kY (hz:∀(j:Nat) (x:Nd),L[j]?=some x->dw L j x=0):∀k i acc ss ks,i+k=L.length->VGood L i acc ss ks->InW L (eo L acc ss ks (L.drop i))
 |0,i,acc,ss,ks,h,hg=>by rw[aQ (by omega)];exact hg.inw
 | k +1,i,acc,ss,ks,h,hg=>by
  have hlt:i<L.length:=by omega
  have hx:L[i]?=some L[i]:=aA hlt;have hn:=hz i _ hx;rw[aL hlt,eo];split
  ·rename_i h1
   have:=ph hn h1;exact kY hz k (i+1) _ _ _ (by omega) (hg.other hx (by omega) (by omega) this.1 this.2)
  ·split
   ·rename_i h3
    obtain⟨v,ss',rfl,hg'⟩:=hg.state hx h3;exact kY hz k (i+1) _ _ _ (by omega) hg'
   ·split
    ·rename_i h2
     obtain⟨v,ks',rfl,hg'⟩:=hg.input hx h2;exact kY hz k (i+1) _ _ _ (by omega) hg'
    ·rename_i h1 h3 h2
     have hk:¬L[i].k<=3:=by
      intro hle;unfold dw at hn;split at hn
      ·omega
      ·omega
     exact kY hz k (i+1) _ _ _ (by omega) (hg.op hx h3 h2 (pf hx hn hk))
end
def bu (N:Nat) (acc:List Int):List Int:=acc++List.replicate (N-acc.length) 0
theorem j0 {N:Nat} {acc:List Int} (h:acc.length<=N):(bu N acc).length=N:=by simp[bu];omega
theorem j3 {N:Nat} {acc:List Int} {a:Nat} (h:a<acc.length):(bu N acc)[a]?=some (acc.getD a 0):=by unfold bu;rw[aJ h,aM,aA h];rfl
theorem t6 {N:Nat} {acc:List Int} {v:Int} (h:acc.length<N):(bu N acc).set acc.length v=bu N (acc++[v]):=by
 unfold bu;rw[List.set_append_right _ _ (cM _),Nat.sub_self,aV,List.length_singleton];obtain⟨k,hk⟩:∃k,N-acc.length=k+1:=⟨N-acc.length-1,by omega⟩
 rw[hk,show N-(acc.length+1)=k by omega,List.replicate_succ,List.set_cons_zero];simp
theorem t7 {N:Nat} {acc:List Int} (h:acc.length=N):bu N acc=acc:=by simp[bu,h]
theorem pi {l:List PV} {i:Nat} {v:PV} (h:i<l.length):ay l i [v]=l.set i v:=by unfold ay;rw[List.set_eq_take_append_cons_drop,if_pos h];simp
def dT (gh:List GObj) (o:List Int):List GObj:=gh++[.cells (o.map I),.cells [.bs true gh.length 0 o.length 1]]
section
variable {m:Md} {gh:List GObj}
theorem t8 (o:List Int):(dT gh o)[gh.length]?=some (.cells (o.map I)):=by simp[dT]
theorem t9 (o:List Int):(dT gh o)[gh.length+1]?=some (.cells [.bs true gh.length 0 o.length 1]):=by simp[dT]
theorem CK {o o2:List Int} (h:o2.length=o.length):(dT gh o).set gh.length (.cells (o2.map I))=dT gh o2:=by simp[dT,h]
theorem pj {G:List GObj} {b:Nat} {o:List Int} {a:Int} {v:Int} (h1:G[b+1]?=some (.cells [.bs true b 0 o.length 1])) (h0:G[b]?=some (.cells (o.map I))) (ha:0<=a/\a.toNat<o.length) (hv:o[a.toNat]?=some v) :
  ac pg 143 [I a,.ptr true (b+1) 0] G=some (I v,G):=by
 have hg:(o.map I)[a.toNat]?=some (I v):=by simp[hv]
 have hl:(o.map I).length=o.length:=by simp
 have hlt:a<(o.length:Int):=by omega
 obtain⟨e0,e1⟩:=ha;generalize o.map I=O at *;generalize o.length=n at *;refine ao (fn:=q5k) (s:=⟨[(3,I v)],[],G⟩) rfl rfl (qim ?h1) ?r1
 case h1=>simp[h1,h0,hg,e0,e1,hlt]
 case r1=>simp[al,results,q5k,am,aq,ai]
def pk (m:Md) (ss ks o:List Int) (i:Nat) (gh:List GObj):St:=
 ⟨[(1,LI ss),(2,LI ks),(3,.ptr false 0 0),(7,.ptr true (gh.length+1) 0),(8,.fn 143 [.ptr true (gh.length+1) 0]),(17,LN m.nodes),(18,I m.nodes.length),(19,I (i:Int))],[[LN m.nodes,LP m.inits,LP m.nexts,LI m.bads,LI m.holds]],dT gh o⟩
theorem mu {ss ks:List PV} {i:Nat} (hi:i<=1000) {G:List GObj} {b:Nat}:ab pg q17 ⟨[(1,.sl false 1 ss),(2,.sl false 1 ks),(3,.ptr false 0 0),(7,.ptr true (b+1) 0),(8,.fn 143 [.ptr true (b+1) 0]),(17,LN m.nodes),(18,I m.nodes.length),(19,I (i:Int))],[[LN m.nodes,LP m.inits,LP m.nexts,LI m.bads,LI m.holds]],G⟩=
  some (.normal,⟨[(1,.sl false 1 ss),(2,.sl false 1 ks),(3,.ptr false 0 0),(7,.ptr true (b+1) 0),(8,.fn 143 [.ptr true (b+1) 0]),(17,LN m.nodes),(18,I m.nodes.length),(19,I ((i+1:Nat):Int))],[[LN m.nodes,LP m.inits,LP m.nexts,LI m.bads,LI m.holds]],G⟩):=by
 have e2:WI.wrap ((i:Int)+1)=((i+1:Nat):Int):=by rw[az (by omega) (by omega)];omega
 refine qii ?_;simp[e2]
theorem mw {R:Type} {l:List Nd} {i:Nat} {e:PV} (hx:(l.map bp)[i]?=some e) (f:PV->Option R):idX 6 none (degr (LN l)) (i:Int) f=f (.ep e 0):=by simp[hx,-List.getElem?_map]
theorem iQ {R:Type} {a b c d e f:PV} (L:List (List PV)) (G:List GObj) (k:PV->Option R):ldX L G true 6 (degr (.ep (.agg [a,b,c,d,e,f]) 0)) k=k (.agg [a,b,c,d,e,f]):=by simp
theorem CL {b i ol:Nat} {G G2:List GObj} {O S K:List PV} {v:Int} {x:Nd} (hltI:(i:Int)<(m.nodes.length:Int)) (hi:i<=1000) (hx:(m.nodes.map bp)[i]?=some (.agg [I x.k,I x.w,I x.a,I x.b,I x.c,I x.n])) (hG1:G[b+1]?=some (.cells [.bs true b 0 ol 1])) (hG0:G[b]?=some (.cells O)) (hoi:i<ol) (hml:O.length=ol) (hset:G.set b (.cells (ay O i [I v]))=G2) (hv:v=x.n) (d1:decide (x.k=1)=true) :
  qm pg (.sl false 1 (S)) (.sl false 1 (K)) (b+1) 0 (.fn 143 [.ptr true (b+1) 0]) (LN m.nodes) m.nodes.length i (LN m.nodes) (LP m.inits) (LP m.nexts) (LI m.bads) (LI m.holds) G=
   some (.normal,⟨[(1,.sl false 1 S),(2,.sl false 1 K),(3,.ptr false 0 0),(7,.ptr true (b+1) 0),(8,.fn 143 [.ptr true (b+1) 0]),(17,LN m.nodes),(18,I m.nodes.length),(19,I ((i+1:Nat):Int))],[[LN m.nodes,LP m.inits,LP m.nexts,LI m.bads,LI m.holds]],G2⟩):=by
 have hil:(i:Int)<(ol:Int):=by omega
 have hoi2:i+1<=ol:=by omega
 have hk1:=mu (m:=m) (ss:=S) (ks:=K) hi (G:=G2) (b:=b);subst hv;rw[qm,aG hltI,gO,mw hx,iQ,iJ];simp[d1,hG1,hG0,hil,hoi2,hml,hset,hk1,-List.getElem?_map]
theorem CM {b i ol:Nat} {G G2:List GObj} {O S K:List PV} {v:Int} {x:Nd} (hltI:(i:Int)<(m.nodes.length:Int)) (hi:i<=1000) (hx:(m.nodes.map bp)[i]?=some (.agg [I x.k,I x.w,I x.a,I x.b,I x.c,I x.n])) (hG1:G[b+1]?=some (.cells [.bs true b 0 ol 1])) (hG0:G[b]?=some (.cells O)) (hoi:i<ol) (hml:O.length=ol) (hset:G.set b (.cells (ay O i [I v]))=G2) (d1:decide (x.k=1)=false) (d3:decide (x.k=3)=true) :
  qm pg (.sl false 1 (I v::S)) (.sl false 1 (K)) (b+1) 0 (.fn 143 [.ptr true (b+1) 0]) (LN m.nodes) m.nodes.length i (LN m.nodes) (LP m.inits) (LP m.nexts) (LI m.bads) (LI m.holds) G=
   some (.normal,⟨[(1,.sl false 1 S),(2,.sl false 1 K),(3,.ptr false 0 0),(7,.ptr true (b+1) 0),(8,.fn 143 [.ptr true (b+1) 0]),(17,LN m.nodes),(18,I m.nodes.length),(19,I ((i+1:Nat):Int))],[[LN m.nodes,LP m.inits,LP m.nexts,LI m.bads,LI m.holds]],G2⟩):=by
 have hil:(i:Int)<(ol:Int):=by omega
 have hoi2:i+1<=ol:=by omega
 have hk1:=mu (m:=m) (ss:=S) (ks:=K) hi (G:=G2) (b:=b);rw[qm,aG hltI,gO,mw hx,iQ,iJ];simp[d1,d3,hG1,hG0,hil,hoi2,hml,hset,hk1,-List.getElem?_map]
theorem CN {b i ol:Nat} {G G2:List GObj} {O S K:List PV} {v:Int} {x:Nd} (hltI:(i:Int)<(m.nodes.length:Int)) (hi:i<=1000) (hx:(m.nodes.map bp)[i]?=some (.agg [I x.k,I x.w,I x.a,I x.b,I x.c,I x.n])) (hG1:G[b+1]?=some (.cells [.bs true b 0 ol 1])) (hG0:G[b]?=some (.cells O)) (hoi:i<ol) (hml:O.length=ol) (hset:G.set b (.cells (ay O i [I v]))=G2) (d1:decide (x.k=1)=false) (d3:decide (x.k=3)=false) (d2:decide (x.k=2)=true) :
  qm pg (.sl false 1 (S)) (.sl false 1 (I v::K)) (b+1) 0 (.fn 143 [.ptr true (b+1) 0]) (LN m.nodes) m.nodes.length i (LN m.nodes) (LP m.inits) (LP m.nexts) (LI m.bads) (LI m.holds) G=
   some (.normal,⟨[(1,.sl false 1 S),(2,.sl false 1 K),(3,.ptr false 0 0),(7,.ptr true (b+1) 0),(8,.fn 143 [.ptr true (b+1) 0]),(17,LN m.nodes),(18,I m.nodes.length),(19,I ((i+1:Nat):Int))],[[LN m.nodes,LP m.inits,LP m.nexts,LI m.bads,LI m.holds]],G2⟩):=by
 have hil:(i:Int)<(ol:Int):=by omega
 have hoi2:i+1<=ol:=by omega
 have hk1:=mu (m:=m) (ss:=S) (ks:=K) hi (G:=G2) (b:=b);rw[qm,aG hltI,gO,mw hx,iQ,iJ];simp[d1,d2,d3,hG1,hG0,hil,hoi2,hml,hset,hk1,-List.getElem?_map]
theorem CO {b i ol:Nat} {G G2:List GObj} {O S K:List PV} {v:Int} {x:Nd} (hltI:(i:Int)<(m.nodes.length:Int)) (hi:i<=1000) (hx:(m.nodes.map bp)[i]?=some (.agg [I x.k,I x.w,I x.a,I x.b,I x.c,I x.n])) (hG1:G[b+1]?=some (.cells [.bs true b 0 ol 1])) (hG0:G[b]?=some (.cells O)) (hoi:i<ol) (hml:O.length=ol) (hset:G.set b (.cells (ay O i [I v]))=G2) {ya yb yc w0 w1 w2:Int} (d1:decide (x.k=1)=false) (d3:decide (x.k=3)=false) (d2:decide (x.k=2)=false)
  (ca:ac pg 143 [I x.a,.ptr true (b+1) 0] G=some (I ya,G)) (cb:ac pg 143 [I x.b,.ptr true (b+1) 0] G=some (I yb,G)) (cc:ac pg 143 [I x.c,.ptr true (b+1) 0] G=some (I yc,G))
  (hW:ac pg 104 [LN m.nodes,.agg [I x.k,I x.w,I x.a,I x.b,I x.c,I x.n]] G=some (.agg [I w0,I w1,I w2],G)) (hR:ac pg 66 [I x.k,I x.w,I ya,I yb,I yc,I x.n,.agg [I w0,I w1,I w2]] G=some (I v,G)) :
  qm pg (.sl false 1 (S)) (.sl false 1 (K)) (b+1) 0 (.fn 143 [.ptr true (b+1) 0]) (LN m.nodes) m.nodes.length i (LN m.nodes) (LP m.inits) (LP m.nexts) (LI m.bads) (LI m.holds) G=
   some (.normal,⟨[(1,.sl false 1 S),(2,.sl false 1 K),(3,.ptr false 0 0),(7,.ptr true (b+1) 0),(8,.fn 143 [.ptr true (b+1) 0]),(17,LN m.nodes),(18,I m.nodes.length),(19,I ((i+1:Nat):Int))],[[LN m.nodes,LP m.inits,LP m.nexts,LI m.bads,LI m.holds]],G2⟩):=by
 have hil:(i:Int)<(ol:Int):=by omega
 have hoi2:i+1<=ol:=by omega
 have hk1:=mu (m:=m) (ss:=S) (ks:=K) hi (G:=G2) (b:=b);rw[qm,aG hltI,gO,mw hx,iQ,iJ];simp[d1,d2,d3,hG1,hG0,ca,cb,cc,hW,hR,hil,hoi2,hml,hset,hk1,-List.getElem?_map]
theorem CP (hl:m.nodes.length<=80) (hz:∀(j:Nat) (x:Nd),m.nodes[j]?=some x->dw m.nodes j x=0) {i:Nat} {acc ss ks:List Int} (hlt:i<m.nodes.length) (hg:VGood m.nodes i acc ss ks) :
  ∃ v ss' ks',VGood m.nodes (i+1) (acc++[v]) ss' ks'/\eo m.nodes acc ss ks (m.nodes.drop i)=eo m.nodes (acc++[v]) ss' ks' (m.nodes.drop (i+1))/\
   qm pg (LI ss) (LI ks) (gh.length+1) 0 (.fn 143 [.ptr true (gh.length+1) 0]) (LN m.nodes) m.nodes.length i (LN m.nodes) (LP m.inits) (LP m.nexts) (LI m.bads) (LI m.holds) (dT gh (bu m.nodes.length acc))=
    some (.normal,pk m ss' ks' (bu m.nodes.length (acc++[v])) (i+1) gh):=by
 have hltI:(i:Int)<(m.nodes.length:Int):=by omega
 have hx0:m.nodes[i]?=some m.nodes[i]:=aA hlt;have hx:(m.nodes.map bp)[i]?=some (bp m.nodes[i]):=by simp[hx0]
 have hn:=hz i _ hx0;have hlen:=hg.len;rw[aL hlt,eo];generalize m.nodes[i]=x at *;rw[cV x] at hx;have hol:(bu m.nodes.length acc).length=m.nodes.length:=j0 (by omega);have hoi:i<(bu m.nodes.length acc).length:=by omega
 have hG0:=t8 (gh:=gh) (bu m.nodes.length acc);have hG1:=t9 (gh:=gh) (bu m.nodes.length acc);have hset:∀v:Int,(dT gh (bu m.nodes.length acc)).set gh.length (.cells (ay ((bu m.nodes.length acc).map I) i [I v]))=dT gh (bu m.nodes.length (acc++[v])):=λv=>by
  have e:((bu m.nodes.length acc).map I).set i (I v)=((bu m.nodes.length acc).set i v).map I:=by rw[List.map_set]
  have hlv:(bu m.nodes.length (acc++[v])).length=(bu m.nodes.length acc).length:=by rw[j0 (by simp;omega),hol]
  rw[pi (by simpa using hoi),e,<-hlen,t6 (by omega),CK hlv]
 have hml:((bu m.nodes.length acc).map I).length=(bu m.nodes.length acc).length:=by simp
 by_cases h1:x.k=1
 ·rw[if_pos h1]
  have hc:=ph hn h1;exact⟨_,_,_,hg.other hx0 (by omega) (by omega) hc.1 hc.2,rfl,CL hltI (by omega) hx hG1 hG0 hoi hml (hset x.n) rfl (aG h1)⟩
 ·rw [if_neg h1]
  by_cases h3:x.k=3
  ·rw[if_pos h3]
   obtain⟨v,ss',rfl,hg'⟩:=hg.state hx0 h3;exact⟨_,_,_,hg',rfl,CM hltI (by omega) hx hG1 hG0 hoi hml (hset v) (aF h1) (aG h3)⟩
  ·rw[if_neg h3]
   by_cases h2:x.k=2
   ·rw[if_pos h2]
    obtain⟨v,ks',rfl,hg'⟩:=hg.input hx0 h2;exact⟨_,_,_,hg',rfl,CN hltI (by omega) hx hG1 hG0 hoi hml (hset v) (aF h1) (aF h3) (aG h2)⟩
   ·rw[if_neg h2]
    have hk:¬x.k<=3:=by
     intro hle;unfold dw at hn;split at hn
     ·omega
     ·omega
    have ho:=pf hx0 hn hk;have hW:=tr (gh:=dT gh (bu m.nodes.length acc)) ho.inn;have hR:=CJ hg ho (dT gh (bu m.nodes.length acc));have ca:=pj hG1 hG0 ⟨ho.a.1,by have:=ho.a;omega⟩ (j3 (by have:=ho.a;omega));have cb:=pj hG1 hG0 ⟨ho.b.1,by have:=ho.b;omega⟩ (j3 (by have:=ho.b;omega));have cc:=pj hG1 hG0 ⟨ho.c.1,by have:=ho.c;omega⟩ (j3 (by have:=ho.c;omega));rw[cV] at hW;unfold gR at hW hR;exact⟨_,_,_,hg.op hx0 h3 h2 ho,rfl,CO hltI (by omega) hx hG1 hG0 hoi hml (hset (jZ m.nodes acc x)) (aF h1) (aF h3) (aF h2) ca cb cc hW hR⟩
theorem ua (hl:m.nodes.length<=80) (hz:∀(j:Nat) (x:Nd),m.nodes[j]?=some x->dw m.nodes j x=0):∀k i acc ss ks,i+k=m.nodes.length->VGood m.nodes i acc ss ks->
  ab pg q3r (pk m ss ks (bu m.nodes.length acc) i gh)=some (.normal,⟨[(7,.ptr true (gh.length+1) 0)],[],dT gh (eo m.nodes acc ss ks (m.nodes.drop i))⟩)
 |0,i,acc,ss,ks,h,hg=>by
  rw[aQ (by omega),eo,t7 (by rw[hg.len];omega)];have hlt:¬(i:Int)<(m.nodes.length:Int):=by omega
  refine (bm (s1:=?s1) (qm_ ?h1)).trans ?r1
  case h1=>simp only[qm,aF hlt,dK];rfl
  case r1=>simp[keep,bh]
 |k+1,i,acc,ss,ks,h,hg=>by obtain⟨v,ss',ks',h1,h2,h3⟩:=CP (gh:=gh) hl hz (show i<m.nodes.length by omega) hg;rw[h2];exact bc (qm_ h3) (ua hl hz k (i+1) _ _ _ (by omega) h1)
def cj (m:Md) (ss ks:List Int):List Int:=eo m.nodes [] ss ks m.nodes
theorem pl (n:Nat):List.flatMap PV.cells (List.replicate n (PV.int .i64 0))=(bu n []).map I:=by
 unfold bu;rw[bH,bZ,Nat.sub_zero,List.map_replicate]
 induction n with
 |zero=>rfl
 |succ n ih=>rw[List.replicate_succ,cK,ih];rfl
theorem j4 {ss ks:List Int}:(cj m ss ks).length=m.nodes.length:=by unfold cj;rw[tZ];simp
theorem CQ (xs:List Int):frz gh.length (dT gh xs) (.bs true gh.length 0 xs.length 1)=LI xs:=by
 rw[sZ (t8 xs) (cM _) (by simp)];have e:∀l:List Int,(l.map I).map aa=l.map I:=λl=>by rw[List.map_map];rfl
 have e2:(((xs.map I).drop 0).take xs.length)=xs.map I:=by rw[bK];exact bM (by simp)
 rw[e2,e]
theorem ub {ss ks:List Int} (h:aw m=0) (hg:VGood m.nodes 0 [] ss ks):ac pg 139 [de m,LI ss,LI ks] gh=some (LI (cj m ss ks),gh):=by
 have hl:=(en h).len;have hlp:=ua (gh:=gh) hl (λj x hx=>pc h hx) m.nodes.length 0 [] ss ks (by omega) hg;rw[bK] at hlp;change ab pg q3r _=some (_,⟨_,_,dT gh (cj m ss ks)⟩) at hlp;have hvl:=j4 (m:=m) (ss:=ss) (ks:=ks);have hfz:=CQ (gh:=gh) (cj m ss ks);have hn:=eQ (cj m ss ks);have ht:(dT gh (cj m ss ks)).take gh.length=gh:=by simp[dT]
 have g1:=t9 (gh:=gh) (cj m ss ks);have k2:ab pg q3s ⟨[(7,.ptr true (gh.length+1) 0)],[],dT gh (cj m ss ks)⟩=some (.ret,⟨[(6,.bs true gh.length 0 (cj m ss ks).length 1)],[],dT gh (cj m ss ks)⟩):=by refine qij ?_;simp[g1]
 generalize cj m ss ks=V at *;have hmx:decide ((m.nodes.length:Int)*8<=(maxBytes:Int))=true:=aG (by have:=MB;omega);have hz:=pl m.nodes.length;have hol:(bu m.nodes.length []).length=m.nodes.length:=j0 (by simp);unfold pk dT at hlp;rw[hol] at hlp;simp only[aW] at hlp;rw[bz];refine ao (fn:=q5f) (s:=⟨[(6,.bs true gh.length 0 V.length 1)],[],dT gh V⟩) rfl rfl (qik ?h1) ?r1
 case h1=>
  unfold dT at k2 ⊢;generalize (bu m.nodes.length []).map I=Z at *;simp[eP,hmx,hz,ay,hlp,k2]
 case r1=>simp[al,results,q5f,am,aq,ai,hfz,ht,hn]
theorem wrS (n:Nat) (h:n<=1000):WI.wrap ((n:Int)+1)=((n+1:Nat):Int):=by rw[az (by omega) (by omega)];omega
theorem mB {R:Type} {l:List Nd} (f:Nat->Option R):isC (degr (LN l)) (a9 (degr (degr (LN l))) f)=f l.length:=by simp
theorem mC {R:Type} {l:List Nd} (x:Option R):isC (degr (LN l)) x=x:=by simp
theorem mD {R:Type} {l:List Nd} {i:Nat} {e:PV} (hx:(l.map bp)[i]?=some e) (f:PV->Option R):idX 6 none (degr (degr (LN l))) (i:Int) f=f (.ep e 0):=by simp[hx,-List.getElem?_map]
theorem CR {b i s k ol:Nat} {G G2:List GObj} {O S K:List PV} {v:Int} {x:Nd} (hltI:(i:Int)<(m.nodes.length:Int)) (hi:i<=1000) (hs:s<=1000) (hk:k<=1000) (hx:(m.nodes.map bp)[i]?=some (.agg [I x.k,I x.w,I x.a,I x.b,I x.c,I x.n])) (hG0:G[b]?=some (.cells O)) (hoi:i<ol) (hml:O.length=ol) (hset:G.set b (.cells (ay O i [I v]))=G2) (hv:v=x.n) (d1:decide (x.k=1)=true) :
  qn pg (.sl false 1 S) (.sl false 1 K) (.bs true b 0 ol 1) s k i (LN m.nodes) (LP m.inits) (LP m.nexts) (LI m.bads) (LI m.holds) G=
   some (.normal,⟨[(1,.sl false 1 S),(2,.sl false 1 K),(3,.ptr false 0 0),(7,.bs true b 0 ol 1),(8,I ((s:Nat))),(9,I ((k:Nat))),(10,I (((i+1:Nat):Int)))],[[LN m.nodes,LP m.inits,LP m.nexts,LI m.bads,LI m.holds]],G2⟩):=by
 have hil:(i:Int)<(ol:Int):=by omega
 have hoi2:i+1<=ol:=by omega
 have hk1:ab pg qo ⟨[(1,.sl false 1 S),(2,.sl false 1 K),(3,.ptr false 0 0),(7,.bs true b 0 ol 1),(8,I ((s:Nat))),(9,I ((k:Nat))),(10,I (i))],[[LN m.nodes,LP m.inits,LP m.nexts,LI m.bads,LI m.holds]],G2⟩=some (.normal,⟨[(1,.sl false 1 S),(2,.sl false 1 K),(3,.ptr false 0 0),(7,.bs true b 0 ol 1),(8,I ((s:Nat))),(9,I ((k:Nat))),(10,I (((i+1:Nat):Int)))],[[LN m.nodes,LP m.inits,LP m.nexts,LI m.bads,LI m.holds]],G2⟩):=by refine q56 ?_;simp[wrS _ hi]
 push_cast at hk1
 subst hv;rw[qn,mB];simp only[ma,mc,aG hltI,gO,mC];rw[mD hx,iQ,iJ];simp[d1,hG0,hil,hoi2,hml,hset,hk1]
theorem CT {b i s k ol:Nat} {G G2:List GObj} {O S K:List PV} {v:Int} {x:Nd} (hltI:(i:Int)<(m.nodes.length:Int)) (hi:i<=1000) (hs:s<=1000) (hk:k<=1000) (hx:(m.nodes.map bp)[i]?=some (.agg [I x.k,I x.w,I x.a,I x.b,I x.c,I x.n])) (hG0:G[b]?=some (.cells O)) (hoi:i<ol) (hml:O.length=ol) (hset:G.set b (.cells (ay O i [I v]))=G2) (hK:K[k]?=some (I v)) (d1:decide (x.k=1)=false) (d2:decide (x.k=2)=true) :
  qn pg (.sl false 1 S) (.sl false 1 K) (.bs true b 0 ol 1) s k i (LN m.nodes) (LP m.inits) (LP m.nexts) (LI m.bads) (LI m.holds) G=
   some (.normal,⟨[(1,.sl false 1 S),(2,.sl false 1 K),(3,.ptr false 0 0),(7,.bs true b 0 ol 1),(8,I ((s:Nat))),(9,I (((k+1:Nat):Int))),(10,I (((i+1:Nat):Int)))],[[LN m.nodes,LP m.inits,LP m.nexts,LI m.bads,LI m.holds]],G2⟩):=by
 have hil:(i:Int)<(ol:Int):=by omega
 have hoi2:i+1<=ol:=by omega
 have hk1:ab pg qo ⟨[(1,.sl false 1 S),(2,.sl false 1 K),(3,.ptr false 0 0),(7,.bs true b 0 ol 1),(8,I ((s:Nat))),(9,I (((k+1:Nat):Int))),(10,I (i))],[[LN m.nodes,LP m.inits,LP m.nexts,LI m.bads,LI m.holds]],G2⟩=some (.normal,⟨[(1,.sl false 1 S),(2,.sl false 1 K),(3,.ptr false 0 0),(7,.bs true b 0 ol 1),(8,I ((s:Nat))),(9,I (((k+1:Nat):Int))),(10,I (((i+1:Nat):Int)))],[[LN m.nodes,LP m.inits,LP m.nexts,LI m.bads,LI m.holds]],G2⟩):=by refine q56 ?_;simp[wrS _ hi]
 push_cast at hk1
 rw[qn,mB];simp only[ma,mc,aG hltI,gO,mC];rw[mD hx,iQ,iJ];simp[d1,d2,hK,wrS _ hk,hG0,hil,hoi2,hml,hset,hk1]
theorem CU {b i s k ol:Nat} {G G2:List GObj} {O S K:List PV} {v:Int} {x:Nd} (hltI:(i:Int)<(m.nodes.length:Int)) (hi:i<=1000) (hs:s<=1000) (hk:k<=1000) (hx:(m.nodes.map bp)[i]?=some (.agg [I x.k,I x.w,I x.a,I x.b,I x.c,I x.n])) (hG0:G[b]?=some (.cells O)) (hoi:i<ol) (hml:O.length=ol) (hset:G.set b (.cells (ay O i [I v]))=G2) (hS:S[s]?=some (I v)) (d1:decide (x.k=1)=false) (d2:decide (x.k=2)=false) (d3:decide (x.k=3)=true) :
  qn pg (.sl false 1 S) (.sl false 1 K) (.bs true b 0 ol 1) s k i (LN m.nodes) (LP m.inits) (LP m.nexts) (LI m.bads) (LI m.holds) G=
   some (.normal,⟨[(1,.sl false 1 S),(2,.sl false 1 K),(3,.ptr false 0 0),(7,.bs true b 0 ol 1),(8,I (((s+1:Nat):Int))),(9,I ((k:Nat))),(10,I (((i+1:Nat):Int)))],[[LN m.nodes,LP m.inits,LP m.nexts,LI m.bads,LI m.holds]],G2⟩):=by
 have hil:(i:Int)<(ol:Int):=by omega
 have hoi2:i+1<=ol:=by omega
 have hk1:ab pg qo ⟨[(1,.sl false 1 S),(2,.sl false 1 K),(3,.ptr false 0 0),(7,.bs true b 0 ol 1),(8,I (((s+1:Nat):Int))),(9,I ((k:Nat))),(10,I (i))],[[LN m.nodes,LP m.inits,LP m.nexts,LI m.bads,LI m.holds]],G2⟩=some (.normal,⟨[(1,.sl false 1 S),(2,.sl false 1 K),(3,.ptr false 0 0),(7,.bs true b 0 ol 1),(8,I (((s+1:Nat):Int))),(9,I ((k:Nat))),(10,I (((i+1:Nat):Int)))],[[LN m.nodes,LP m.inits,LP m.nexts,LI m.bads,LI m.holds]],G2⟩):=by refine q56 ?_;simp[wrS _ hi]
 push_cast at hk1
 rw[qn,mB];simp only[ma,mc,aG hltI,gO,mC];rw[mD hx,iQ,iJ];simp[d1,d2,d3,hS,wrS _ hs,hG0,hil,hoi2,hml,hset,hk1]
theorem CV {b i s k ol:Nat} {G G2:List GObj} {O S K:List PV} {v:Int} {x:Nd} (hltI:(i:Int)<(m.nodes.length:Int)) (hi:i<=1000) (hs:s<=1000) (hk:k<=1000) (hx:(m.nodes.map bp)[i]?=some (.agg [I x.k,I x.w,I x.a,I x.b,I x.c,I x.n])) (hG0:G[b]?=some (.cells O)) (hoi:i<ol) (hml:O.length=ol) (hset:G.set b (.cells (ay O i [I v]))=G2) {ya yb yc w0 w1 w2:Int} (d1:decide (x.k=1)=false) (d2:decide (x.k=2)=false) (d3:decide (x.k=3)=false)
  (ha:0<=x.a/\x.a<(ol:Int)) (hb:0<=x.b/\x.b<(ol:Int)) (hc:0<=x.c/\x.c<(ol:Int)) (ga:O[x.a.toNat]?=some (I ya)) (gb:O[x.b.toNat]?=some (I yb)) (gc:O[x.c.toNat]?=some (I yc))
  (hW:ac pg 102 [LN m.nodes,.agg [I x.k,I x.w,I x.a,I x.b,I x.c,I x.n]] G=some (.agg [I w0,I w1,I w2],G)) (hR:ac pg 28 [I x.k,I x.w,I ya,I yb,I yc,I x.n,.agg [I w0,I w1,I w2]] G=some (I v,G)) :
  qn pg (.sl false 1 S) (.sl false 1 K) (.bs true b 0 ol 1) s k i (LN m.nodes) (LP m.inits) (LP m.nexts) (LI m.bads) (LI m.holds) G=
   some (.normal,⟨[(1,.sl false 1 S),(2,.sl false 1 K),(3,.ptr false 0 0),(7,.bs true b 0 ol 1),(8,I ((s:Nat))),(9,I ((k:Nat))),(10,I (((i+1:Nat):Int)))],[[LN m.nodes,LP m.inits,LP m.nexts,LI m.bads,LI m.holds]],G2⟩):=by
 have hil:(i:Int)<(ol:Int):=by omega
 have hoi2:i+1<=ol:=by omega
 have hk1:ab pg qo ⟨[(1,.sl false 1 S),(2,.sl false 1 K),(3,.ptr false 0 0),(7,.bs true b 0 ol 1),(8,I ((s:Nat))),(9,I ((k:Nat))),(10,I (i))],[[LN m.nodes,LP m.inits,LP m.nexts,LI m.bads,LI m.holds]],G2⟩=some (.normal,⟨[(1,.sl false 1 S),(2,.sl false 1 K),(3,.ptr false 0 0),(7,.bs true b 0 ol 1),(8,I ((s:Nat))),(9,I ((k:Nat))),(10,I (((i+1:Nat):Int)))],[[LN m.nodes,LP m.inits,LP m.nexts,LI m.bads,LI m.holds]],G2⟩):=by refine q56 ?_;simp[wrS _ hi]
 push_cast at hk1
 obtain⟨a0,a1⟩:=ha;obtain⟨b0,b1⟩:=hb;obtain⟨c0,c1⟩:=hc;rw[qn,mB];simp only[ma,mc,aG hltI,gO,mC];rw[mD hx,iQ,iJ];simp[d1,d2,d3,a0,a1,b0,b1,c0,c1,ga,gb,gc,hW,hR,hG0,hil,hoi2,hml,hset,hk1,-getElem?_pos,-getElem?_neg]
def voG (gh:List GObj) (o:List Int):List GObj:=gh++[.cells (o.map I)]
theorem j5 (o:List Int):(voG gh o)[gh.length]?=some (.cells (o.map I)):=by simp[voG]
theorem uc {o o2:List Int}:(voG gh o).set gh.length (.cells (o2.map I))=voG gh o2:=by simp[voG]
def mE (m:Md) (ss ks:List Int) (o:List Int) (s k i:Nat) (gh:List GObj):St:=
 ⟨[(1,LI ss),(2,LI ks),(3,.ptr false 0 0),(7,.bs true gh.length 0 o.length 1),(8,I (s:Nat)),(9,I (k:Nat)),(10,I ((i:Nat):Int))],[[LN m.nodes,LP m.inits,LP m.nexts,LI m.bads,LI m.holds]],voG gh o⟩
theorem ud {l:List Int} {s:Nat} {v:Int} {r:List Int} (h:l.drop s=v::r):l[s]?=some v/\r=l.drop (s+1):=by
 have h1:s<l.length:=aU λh2=>by rw[aQ (by omega)] at h;cases h
 rw[aL h1] at h;cases h;exact⟨aA h1,rfl⟩
theorem CW (hl:m.nodes.length<=80) (hz:∀(j:Nat) (x:Nd),m.nodes[j]?=some x->dw m.nodes j x=0) {i s k:Nat} {acc ss ks:List Int} (hlt:i<m.nodes.length) (hs:s<=i) (hk:k<=i) (hg:VGood m.nodes i acc (ss.drop s) (ks.drop k)) :
  ∃ v s' k',s'<=i+1/\k'<=i+1/\VGood m.nodes (i+1) (acc++[v]) (ss.drop s') (ks.drop k')/\eo m.nodes acc (ss.drop s) (ks.drop k) (m.nodes.drop i)=eo m.nodes (acc++[v]) (ss.drop s') (ks.drop k') (m.nodes.drop (i+1))/\
   qn pg (LI ss) (LI ks) (.bs true gh.length 0 (bu m.nodes.length acc).length 1) s k i (LN m.nodes) (LP m.inits) (LP m.nexts) (LI m.bads) (LI m.holds) (voG gh (bu m.nodes.length acc))=
    some (.normal,mE m ss ks (bu m.nodes.length (acc++[v])) s' k' (i+1) gh):=by
 have hltI:(i:Int)<(m.nodes.length:Int):=by omega
 have hx0:m.nodes[i]?=some m.nodes[i]:=aA hlt;have hx:(m.nodes.map bp)[i]?=some (bp m.nodes[i]):=by simp[hx0]
 have hn:=hz i _ hx0;have hlen:=hg.len;rw[aL hlt,eo];generalize m.nodes[i]=x at *;rw[cV x] at hx;have hol:(bu m.nodes.length acc).length=m.nodes.length:=j0 (by omega);have hoi:i<(bu m.nodes.length acc).length:=by omega
 have hG0:=j5 (gh:=gh) (bu m.nodes.length acc);have hlv:∀v:Int,(bu m.nodes.length (acc++[v])).length=(bu m.nodes.length acc).length:=λv=>by rw[j0 (by simp;omega),hol]
 have hset:∀v:Int,(voG gh (bu m.nodes.length acc)).set gh.length (.cells (ay ((bu m.nodes.length acc).map I) i [I v]))=voG gh (bu m.nodes.length (acc++[v])):=λv=>by
  have e:((bu m.nodes.length acc).map I).set i (I v)=((bu m.nodes.length acc).set i v).map I:=by rw[List.map_set]
  rw[pi (by simpa using hoi),e,<-hlen,t6 (by omega),uc]
 have hml:((bu m.nodes.length acc).map I).length=(bu m.nodes.length acc).length:=by simp
 unfold mE;by_cases h1:x.k=1
 ·rw[if_pos h1]
  have hc:=ph hn h1;refine⟨_,s,k,by omega,by omega,hg.other hx0 (by omega) (by omega) hc.1 hc.2,rfl,?_⟩;rw[hlv];exact CR hltI (by omega) (by omega) (by omega) hx hG0 hoi hml (hset x.n) rfl (aG h1)
 ·rw [if_neg h1]
  by_cases h3:x.k=3
  ·rw[if_pos h3]
   obtain⟨v,ss',e,hg'⟩:=hg.state hx0 h3;obtain⟨e1,e2⟩:=ud e;rw[e,List.headD_cons,List.tail_cons,e2];rw[e2] at hg';refine⟨_,s+1,k,by omega,by omega,hg',rfl,?_⟩;rw[hlv];exact CU hltI (by omega) (by omega) (by omega) hx hG0 hoi hml (hset v) (by simp[e1]) (aF h1) (aF (by omega)) (aG h3)
  ·rw[if_neg h3]
   by_cases h2:x.k=2
   ·rw[if_pos h2]
    obtain⟨v,ks',e,hg'⟩:=hg.input hx0 h2;obtain⟨e1,e2⟩:=ud e;rw[e,List.headD_cons,List.tail_cons,e2];rw[e2] at hg';refine⟨_,s,k+1,by omega,by omega,hg',rfl,?_⟩;rw[hlv];exact CT hltI (by omega) (by omega) (by omega) hx hG0 hoi hml (hset v) (by simp[e1]) (aF h1) (aG h2)
   ·rw[if_neg h2]
    have hkk:¬x.k<=3:=by
     intro hle;unfold dw at hn;split at hn
     ·omega
     ·omega
    have ho:=pf hx0 hn hkk;have hW:=tt (gh:=voG gh (bu m.nodes.length acc)) ho.inn;have hR:=CI hg ho (voG gh (bu m.nodes.length acc));have oa:=ho.a;have ob:=ho.b;have oc:=ho.c;have ca:((bu m.nodes.length acc).map I)[x.a.toNat]?=some (I (acc.getD x.a.toNat 0)):=by rw[aB,j3 (by omega)];rfl
    have cb:((bu m.nodes.length acc).map I)[x.b.toNat]?=some (I (acc.getD x.b.toNat 0)):=by rw[aB,j3 (by omega)];rfl
    have cc:((bu m.nodes.length acc).map I)[x.c.toNat]?=some (I (acc.getD x.c.toNat 0)):=by rw[aB,j3 (by omega)];rfl
    rw[cV] at hW;unfold gR at hW hR;refine⟨_,s,k,by omega,by omega,hg.op hx0 h3 h2 ho,rfl,?_⟩;rw[hlv];exact CV hltI (by omega) (by omega) (by omega) hx hG0 hoi hml (hset (jZ m.nodes acc x)) (aF h1) (aF h2) (aF h3) ⟨oa.1,by omega⟩ ⟨ob.1,by omega⟩ ⟨oc.1,by omega⟩ ca cb cc hW hR
theorem ue (hl:m.nodes.length<=80) (hz:∀(j:Nat) (x:Nd),m.nodes[j]?=some x->dw m.nodes j x=0) {ss ks:List Int}:∀n i s k acc,i+n=m.nodes.length->s<=i->k<=i->VGood m.nodes i acc (ss.drop s) (ks.drop k)->
  ab pg q4c (mE m ss ks (bu m.nodes.length acc) s k i gh)=some (.normal,⟨[(7,.bs true gh.length 0 (eo m.nodes acc (ss.drop s) (ks.drop k) (m.nodes.drop i)).length 1)],[],voG gh (eo m.nodes acc (ss.drop s) (ks.drop k) (m.nodes.drop i))⟩)
 |0,i,s,k,acc,h,_,_,hg=>by
  rw[aQ (show m.nodes.length<=i by omega),eo,t7 (by rw[hg.len];omega)];have hlt:¬i<m.nodes.length:=by omega
  refine (bm (s1:=?s1) (qn_ ?h1)).trans ?r1
  case h1=>simp[qn,hlt];rfl
  case r1=>simp[keep,bh]
 |n+1,i,s,k,acc,h,hs,hk,hg=>by obtain⟨v,s',k',h1,h2,h3,h4,h5⟩:=CW (gh:=gh) hl hz (show i<m.nodes.length by omega) hs hk hg;rw[h4];exact bc (qn_ h5) (ue hl hz n (i+1) s' k' _ (by omega) h1 h2 h3)
theorem uf (xs:List Int):frz gh.length (voG gh xs) (.bs true gh.length 0 xs.length 1)=LI xs:=by
 rw[sZ (j5 xs) (cM _) (by simp)];have e:∀l:List Int,(l.map I).map aa=l.map I:=λl=>by rw[List.map_map];rfl
 have e2:(((xs.map I).drop 0).take xs.length)=xs.map I:=by rw[bK];exact bM (by simp)
 rw[e2,e]
theorem ug {ss ks:List Int} (h:aw m=0) (hg:VGood m.nodes 0 [] ss ks):ac pg 132 [de m,LI ss,LI ks] gh=some (LI (cj m ss ks),gh):=by
 have hl:=(en h).len;have hlp:=ue (gh:=gh) (ss:=ss) (ks:=ks) hl (λj x hx=>pc h hx) m.nodes.length 0 0 0 [] (by omega) (cM _) (cM _) (by simpa using hg);simp only[bK] at hlp;change ab pg q4c _=some (_,⟨[(_,.bs _ _ _ (cj m ss ks).length _)],_,voG gh (cj m ss ks)⟩) at hlp;have hfz:=uf (gh:=gh) (cj m ss ks);have hn:=eQ (cj m ss ks);have ht:(voG gh (cj m ss ks)).take gh.length=gh:=by simp[voG]
 generalize cj m ss ks=V at *;have k2:=qin (pg:=pg) (gh:=voG gh V) (v7:= .bs true gh.length 0 V.length 1) (e:= .ret) (s:=⟨[(6,.bs true gh.length 0 V.length 1)],[],voG gh V⟩) (by simp);have hmx:decide ((m.nodes.length:Int)*8<=(maxBytes:Int))=true:=aG (by have:=MB;omega);have hz:=pl m.nodes.length;have hol:(bu m.nodes.length []).length=m.nodes.length:=j0 (by simp);unfold mE at hlp;rw[hol] at hlp;simp only[aW] at hlp;rw[bz];refine ao (fn:=q7x) (s:=⟨[(6,.bs true gh.length 0 V.length 1)],[],voG gh V⟩) rfl rfl (qio ?h1) ?r1
 case h1=>
  unfold voG at hlp k2 ⊢;generalize (bu m.nodes.length []).map I=Z at *;simp[eP,hmx,hz,hlp,k2]
 case r1=>simp[al,results,q7x,am,aq,ai,hfz,ht,hn]
end
def dB:List (Int×Int)->Int->Int
 |[],_=> -1
 |p::ps,s=>if p.1=s then p.2 else dB ps s
def eq (ps:List (Int×Int)) (s:Int):Bool:=ps.any λp=>decide (p.1=s)
theorem mF (p:Int×Int) (ps:List (Int×Int)) (s:Int):eq (p::ps) s=(decide (p.1=s)||eq ps s):=rfl
theorem pm:∀{ps:List (Int×Int)} {s:Int},eq ps s=false->dB ps s= -1
 |[],_,_=>rfl
 |p::ps,s,h=>by rw[mF,Bool.or_eq_false_iff] at h;rw[dB,if_neg (by simpa using h.1)];exact pm h.2
theorem j6:∀{ps:List (Int×Int)} {s:Int},eq ps s=true->(s,dB ps s)∈ps
 |[],_,h=>by cases h
 | p::ps,s,h=>by
  rw[dB];by_cases hp:p.1=s
  ·rw[if_pos hp,<-hp];exact bE ..
  ·rw[if_neg hp]
   rw[mF,Bool.or_eq_true] at h;rcases h with h|h
   ·exact absurd (by simpa using h) hp
   ·exact bF _ (j6 h)
section
variable {m:Md} {gh:List GObj}
theorem uh {ps:List (Int×Int)} {s:Int} (hl:Sz ps.length):∀k i,i+k=ps.length->
  ab pg q82 ⟨[(0,LP ps),(1,I s),(5,I (i:Int))],[],gh⟩=if eq (ps.drop i) s then some (.ret,⟨[(4,I (dB (ps.drop i) s))],[],gh⟩) else some (.normal,⟨[],[],gh⟩)
 |0,i,h=>by
  rw[aQ (by omega)];have hlt:¬i<ps.length:=by omega
  refine (bm (s1:=?s1) (q9n ?h1)).trans ?r1
  case h1=>simp[hlt];rfl
  case r1=>simp[keep,eq]
 | k+1,i,h=>by
  have hlt:i<ps.length:=by omega
  have hltD:decide (i<ps.length)=true:=aG hlt;have e2:WI.wrap ((i:Int)+1)=((i+1:Nat):Int):=fH (by simp only[Sz] at hl ⊢;omega);have hg:(ps.map bv)[i]?=some (bv ps[i]):=by simp[aA hlt]
  rw[aL hlt,mF,dB];generalize ps[i]=p at *;rw[gQ] at hg;by_cases hp:p.1=s
  ·have hd:decide (p.1=s)=true:=aG hp
   rw[if_pos hp,hd,Bool.true_or,if_pos rfl];refine dl (q9n ?_);simp[hltD,hg,hd,-List.getElem?_map]
  ·have hd:decide (p.1=s)=false:=aF hp
   rw[if_neg hp,hd,Bool.false_or];refine bc (s1:=⟨[(0,LP ps),(1,I s),(5,I ((i+1:Nat):Int))],[],gh⟩) (q9n ?_) (uh hl k (i+1) (by omega));simp[hltD,hg,hd,e2,-List.getElem?_map]
theorem ui {ps:List (Int×Int)} {s:Int} (hl:Sz ps.length):ac pg 137 [LP ps,I s] gh=some (I (dB ps s),gh):=by
 have h:=uh (gh:=gh) (s:=s) hl ps.length 0 (by omega);rw[bK] at h;simp only[aW] at h;have hk:=qip (pg:=pg) (gh:=gh) rfl;cases hh:eq ps s with
 |true=>
  rw[hh,if_pos rfl] at h;refine ao (fn:=q2x) (s:=⟨[(4,I (dB ps s))],[],gh⟩) rfl rfl (qf5 ?h1) ?r1
  case h1=>simp[h]
  case r1=>simp[al,results,q2x,am,aq,ai]
 |false=>
  rw[hh,if_neg (by decide)] at h;rw[pm hh];refine ao (fn:=q2x) (s:=⟨[(4,I (-1))],[],gh⟩) rfl rfl (qf5 ?h2) ?r2
  case h2=>simp[h,hk]
  case r2=>simp[al,results,q2x,am,aq,ai]
def byM (V:List Int) (ps:List (Int×Int)):List (Int×Int):=ps.map λp=>(p.1,V.getD p.2.toNat 0)
theorem uj:∀{l:List (Int×Int)} {k v:Int},(∀p∈l,p.1≠k)->eG l k v=l++[(k,v)]
 |[],_,_,_=>rfl
 |(a,u)::l,k,v,h=>by rw[eG,if_neg (λe=>h (a,u) (bE ..) e.symm),uj λp hp=>h p (bF _ hp)];rfl
theorem uk {V:List Int} {ps:List (Int×Int)} {i:Nat} (hn:(ps.map (·.1)).Nodup) (hi:i<ps.length):eG (byM V (ps.take i)) ps[i].1 (V.getD ps[i].2.toNat 0)=byM V (ps.take (i+1)):=by
 rw[uj]
 ·rw[List.take_succ_eq_append_getElem hi];unfold byM;rw[bJ];rfl
 ·intro p hp
  obtain⟨q,hq,rfl⟩:=List.mem_map.1 hp;obtain⟨j,hj,rfl⟩:=cF.1 hq;rw[cH] at hj;rw[List.getElem_take];intro e;have e:ps[j].1=ps[i].1:=e;have:j=i:=lG (l:=ps.map (·.1)) hn (by simp[aA (show j<ps.length by omega),aA hi,e]) (by simp;omega);omega
theorem pn {V:List Int}:∀{ps:List (Int×Int)} {s:Int},bq (byM V ps) s=if eq ps s then some (V.getD (dB ps s).toNat 0) else none
 |[],_=>rfl
 |p::ps,s=>by
  have ih:=pn (V:=V) (ps:=ps) (s:=s);change (if s=p.1 then _ else bq (byM V ps) s)=_;rw[mF,dB,ih];by_cases h:p.1=s
  ·rw[if_pos h.symm,aG h,Bool.true_or,if_pos rfl,if_pos h]
  ·rw[if_neg (λe=>h e.symm),aF h,Bool.false_or,if_neg h]
def gv (V:List Int) (ps:List (Int×Int)):List Int->List Int->List Int
 |s::ss,w::ws=>(if eq ps s then V.getD (dB ps s).toNat 0 else w)::gv V ps ss ws
 |_,_=>[]
theorem iR {V:List Int} {a:Int} (h:a.toNat<V.length):(V.map I)[a.toNat]?=some (I (V.getD a.toNat 0)):=by simp[aM,aA h]
theorem ul {V wish st:List Int} {ps:List (Int×Int)} (hl:Sz ps.length) (hn:(ps.map (·.1)).Nodup) (hp:∀p∈ps,0<=p.2/\p.2.toNat<V.length):∀k i,i+k=ps.length->
  ab pg q3n ⟨[(1,LI wish),(5,LI st),(6,LI V),(7,.mp gh.length),(26,LP ps),(27,I ps.length),(28,I (i:Int))],[],gh++[.map (bn (byM V (ps.take i)))]⟩=
   some (.normal,⟨[(1,LI wish),(5,LI st),(7,.mp gh.length)],[],gh++[.map (bn (byM V ps))]⟩)
 |0,i,h=>by
  rw[bM (by omega)];have hlt:¬(i:Int)<(ps.length:Int):=by omega
  refine (bm (s1:=?s1) (qf6 ?h1)).trans ?r1
  case h1=>simp only[aF hlt,dK];rfl
  case r1=>simp[keep,bh]
 |k+1,i,h=>by
  have hlt:i<ps.length:=by omega
  have hltI:(i:Int)<(ps.length:Int):=by omega
  have e2:WI.wrap ((i:Int)+1)=((i+1:Nat):Int):=fH (by simp only[Sz] at hl ⊢;omega);have hg:(ps.map bv)[i]?=some (bv ps[i]):=by simp[aA hlt]
  have hs:=uk (V:=V) hn hlt;obtain⟨q0,q1⟩:=hp _ (bX hlt);have hv:=iR q1;refine bc (s1:=⟨[(1,LI wish),(5,LI st),(6,LI V),(7,.mp gh.length),(26,LP ps),(27,I ps.length),(28,I ((i+1:Nat):Int))],[],gh++[GObj.map (bn (byM V (ps.take (i+1))))]⟩) (qf6 ?_) (ul hl hn hp k (i+1) (by omega));generalize ps[i]=p at *;rw[gQ] at hg;generalize V.getD p.2.toNat 0=v at *;generalize byM V (ps.take (i+1))=M2 at *;generalize byM V (ps.take i)=M1 at *;have hmu:=λf=>nX (R:=ag×St) gh M1 p.1 v f
  rw[hs] at hmu;simp[hltI,hg,q0,hv,e2,hmu,-List.getElem?_map,-jk,-sV]
theorem j7 (acc:List Int) (v:Int):(acc++[v]).map I=acc.map I++[I v]:=by simp
theorem CX {wish st:List Int} {M:List (Int×Int)} {A:List PV} {i:Nat} (hi:i<=1000) :
  ab pg q26 ⟨[(1,LI wish),(7,.mp gh.length),(10,.sl true 1 A),(41,LI st),(42,I st.length),(43,I (i:Int))],[],gh++[.map (bn M)]⟩=
   some (.normal,⟨[(1,LI wish),(7,.mp gh.length),(10,.sl true 1 A),(41,LI st),(42,I st.length),(43,I ((i+1:Nat):Int))],[],gh++[.map (bn M)]⟩):=by
 have e2:WI.wrap ((i:Int)+1)=((i+1:Nat):Int):=by rw[az (by omega) (by omega)];omega
 refine qir ?_;simp[e2]
theorem CY {wish st:List Int} {M:List (Int×Int)} {A:List PV} {i:Nat} {v:Int} (hA:(A.length+1)*8<=maxBytes) :
  ab pg q25 ⟨[(1,LI wish),(7,.mp gh.length),(10,.sl true 1 A),(13,I v),(41,LI st),(42,I st.length),(43,I (i:Int))],[],gh++[.map (bn M)]⟩=
   some (.normal,⟨[(1,LI wish),(7,.mp gh.length),(10,.sl true 1 (A++[I v])),(41,LI st),(42,I st.length),(43,I (i:Int))],[],gh++[.map (bn M)]⟩):=by
 refine qiq ?_;simp[hA]
theorem um {V wish st:List Int} {ps:List (Int×Int)} (hl:st.length<=1000) (hw:wish.length=st.length):∀k i acc,i+k=st.length->acc.length<=i->
  ab pg q3o ⟨[(1,LI wish),(7,.mp gh.length),(10,.sl true 1 (acc.map I)),(41,LI st),(42,I st.length),(43,I (i:Int))],[],gh++[.map (bn (byM V ps))]⟩=
   some (.normal,⟨[(10,.sl true 1 ((acc++gv V ps (st.drop i) (wish.drop i)).map I))],[],gh++[.map (bn (byM V ps))]⟩)
 |0,i,acc,h,_=>by
  rw[aQ (by omega),aQ (show wish.length<=i by omega),gv,bG];have hlt:¬(i:Int)<(st.length:Int):=by omega
  refine (bm (s1:=?s1) (qf7 ?h1)).trans ?r1
  case h1=>simp only[aF hlt,dK];rfl
  case r1=>simp[keep,bh]
  all_goals (intros;simp_all)
 | k+1,i,acc,h,ha=>by
  have hlt:i<st.length:=by omega
  have hlw:i<wish.length:=by omega
  have hltI:(i:Int)<(st.length:Int):=by omega
  have hg:(st.map I)[i]?=some (I st[i]):=by simp[aA hlt]
  have hgw:(wish.map I)[i]?=some (I wish[i]):=by simp[aA hlw]
  have hmx:((acc.map I).length+1)*8<=maxBytes:=by have:=MB;simp;omega
  rw[aL hlt,aL hlw,gv,List.append_cons acc];refine bc (s1:=⟨[(1,LI wish),(7,.mp gh.length),(10,.sl true 1 ((acc++[if eq ps st[i] then V.getD (dB ps st[i]).toNat 0 else wish[i]]).map I)),(41,LI st),(42,I st.length),(43,I ((i+1:Nat):Int))],[],gh++[GObj.map (bn (byM V ps))]⟩) (qf7 ?_) (um hl hw k (i+1) _ (by omega) (by simp;omega));have hf:=pn (V:=V) (ps:=ps) (s:=st[i]);rw[j7];generalize acc.map I=A at *;generalize byM V ps=M at *;generalize wish[i]=w at *;generalize st[i]=a at *;have hlk:=λf=>ta (R:=ag×St) gh M a f
  have k2:=λv=>CY (gh:=gh) (wish:=wish) (st:=st) (M:=M) (i:=i) (v:=v) hmx
  have k3:=λv=>CX (gh:=gh) (wish:=wish) (st:=st) (M:=M) (A:=A++[I v]) (i:=i) (by omega)
  cases hh:eq ps a with
  |true=>
   rw[hh,if_pos rfl] at hf;rw[if_pos rfl];generalize V.getD (dB ps a).toNat 0=v at *;rw[hf] at hlk;simp[hltI,hg,hlk,k2,k3,-List.getElem?_map,-jk]
  |false=>
   rw[hh,if_neg (by decide)] at hf;rw[if_neg (by decide)];rw[hf] at hlk;simp[hltI,hg,hgw,hlk,k2,k3,-List.getElem?_map,-jk]
theorem mG {m:Md} (hm:kW m):m.inits.length<=80/\m.nexts.length<=80:=by
 have len1:∀{l:List (Int×Int)},(l.map (·.1)).Nodup->(∀p∈l,ci m.nodes p.1)->l.length<=80:=λ{l} hd hp=>by have hs:=List.Nodup.length_le_of_subset hd (l₂:=(List.range m.nodes.length).map λ(i:Nat)=>(i:Int)) (λa ha=>by obtain⟨p,hp',rfl⟩:=List.mem_map.1 ha;have:=hp p hp';have h3:=this.1;have h4:=this.2;exact List.mem_map.2 ⟨p.1.toNat,List.mem_range.2 h4,by omega⟩);have:=hm.len;simp at hs;omega
 exact⟨len1 hm.nod1 (λp hp=>(hm.pairs p (bY.2 (.inl hp))).1),len1 hm.nod2 (λp hp=>(hm.pairs p (bY.2 (.inr hp))).1)⟩
theorem uo {L:List Nd}:∀ns:List Int,cZ L ns (List.replicate ns.length 0)=0
 |[]=>rfl
 | a::ns=>by
  rw[bA,List.replicate_succ,cZ,if_pos]
  ·exact uo ns
  ·have:1<=2^(wAt L a).toNat:=Nat.one_le_two_pow
   omega
theorem up {L:List Nd} (ns:List Int):cR L ns (List.replicate ns.length 0)=0:=by unfold cR;rw[if_neg (by simp)];exact uo ns
def kZ (m:Md):List Int:=List.replicate (ah m.nodes 3).length 0
def la (m:Md):List Int:=List.replicate (ah m.nodes 2).length 0
def fW (m:Md):List Int:=cj m (kZ m) (la m)
def dA (m:Md) (wish:List Int):List Int:=gv (fW m) m.inits (ah m.nodes 3) wish
theorem fJ {m:Md} (hm:kW m) (k:Int):(ah m.nodes k).length<=80:=bW (mi _ _ _) hm.len
theorem pp {m:Md}:VGood m.nodes 0 [] (kZ m) (la m):=kX (up _) (up _)
theorem uq {m:Md} (hm:kW m):∀p∈m.inits,0<=p.2/\p.2.toNat<(fW m).length:=λp hp=>by have:=(hm.pairs p (bY.2 (.inl hp))).2;unfold fW;rw[j4];exact this
theorem CZ {wish:List Int} (h:aw m=0) (hw:wish.length=(ah m.nodes 3).length):ac pg 136 [de m,LI wish] gh=some (LI (dA m wish),gh):=by
 have hm:=en h;have hl:=hm.len;have hpl:=(mG hm).1;have o3:=ik (m:=m) (gh:=gh) (kind:=3) (by omega);have o2:=ik (m:=m) (gh:=gh) (kind:=2) (by omega);have hmx:=MB;have l3:=fJ hm 3;have l2:=fJ hm 2;have z3:=tY (gh:=gh) (vs:=ah m.nodes 3) (by omega);have z2:=tY (gh:=gh) (vs:=ah m.nodes 2) (by omega);have hr:=ub (gh:=gh) h pp;have h1:=ul (gh:=gh) (wish:=wish) (st:=ah m.nodes 3) (by simp only[Sz];omega) hm.nod1 (uq hm) m.inits.length 0 (by omega);have h2:=um (gh:=gh) (V:=fW m) (ps:=m.inits) (by omega) hw (ah m.nodes 3).length 0 [] (by omega) (by simp);rw[bK,bK,bH] at h2
 simp only[List.take_zero,bQ,aW] at h1 h2;change ab pg q3n ⟨_,_,gh++[GObj.map []]⟩=_ at h1;change ac pg 142 _ _=some (LI (kZ m),gh) at z3;change ac pg 142 _ _=some (LI (la m),gh) at z2;change ac pg 139 _ _=some (LI (fW m),gh) at hr;change ab pg q3o _=some (_,⟨[(_,.sl true 1 ((dA m wish).map I))],_,_⟩) at h2;have hn:=eQ (dA m wish);generalize dA m wish=F at *;generalize fW m=V at *;generalize kZ m=Z3 at *;generalize la m=Z2 at *;generalize bn (byM V m.inits)=MM at *
 have k4:ab pg q3p ⟨[(10,.sl true 1 (F.map I))],[],gh++[GObj.map MM]⟩=some (.ret,⟨[(4,.sl false 1 (F.map I))],[],gh++[GObj.map MM]⟩):=by refine qis ?_;simp
 have k1:ab pg q3q ⟨[(1,LI wish),(5,LI (ah m.nodes 3)),(7,.mp gh.length)],[],gh++[GObj.map MM]⟩=some (.ret,⟨[(4,.sl false 1 (F.map I))],[],gh++[GObj.map MM]⟩):=by refine qit ?_;simp[h2,k4]
 rw[bz] at *;refine ao (fn:=q5e) (s:=⟨[(4,.sl false 1 (F.map I))],[],gh++[GObj.map MM]⟩) rfl rfl (qiu ?h1) ?r1
 case h1=>simp[o3,o2,z3,z2,hr,h1,k1]
 case r1=>simp[al,results,q5e,am,aq,ai,hn]
theorem C2 {ps:List (Int×Int)} {s:Int} (hp:∀p∈ps,0<=p.2):decide (0<=dB ps s)=eq ps s:=by
 cases hh:eq ps s with
 |true=>exact aG (hp _ (j6 hh))
 |false=>rw[pm hh];rfl
theorem C3 {wish st V:List Int} {A:List PV} {i:Nat} (hi:i<=1000) :
  ab pg q2w ⟨[(1,LI wish),(2,.ptr false 0 0),(5,LI st),(6,LI V),(7,.sl true 1 A),(8,I (i:Int))],[[LN m.nodes,LP m.inits,LP m.nexts,LI m.bads,LI m.holds]],gh⟩=
   some (.normal,⟨[(1,LI wish),(2,.ptr false 0 0),(5,LI st),(6,LI V),(7,.sl true 1 A),(8,I ((i+1:Nat):Int))],[[LN m.nodes,LP m.inits,LP m.nexts,LI m.bads,LI m.holds]],gh⟩):=by
 have e2:WI.wrap ((i:Int)+1)=((i+1:Nat):Int):=by rw[az (by omega) (by omega)];omega
 refine qiv ?_;simp[e2]
theorem ur {V wish st:List Int} (hl:st.length<=1000) (hw:wish.length=st.length) (hs:Sz m.inits.length) (hp:∀p∈m.inits,0<=p.2/\p.2.toNat<V.length):∀k i acc,i+k=st.length->acc.length<=i->
  ab pg q4b ⟨[(1,LI wish),(2,.ptr false 0 0),(5,LI st),(6,LI V),(7,.sl true 1 (acc.map I)),(8,I (i:Int))],[[LN m.nodes,LP m.inits,LP m.nexts,LI m.bads,LI m.holds]],gh⟩=
   some (.normal,⟨[(7,.sl true 1 ((acc++gv V m.inits (st.drop i) (wish.drop i)).map I))],[],gh⟩)
 |0,i,acc,h,_=>by
  rw[aQ (by omega),aQ (show wish.length<=i by omega),gv,bG];have hlt:¬i<st.length:=by omega
  refine (bm (s1:=?s1) (qf8 ?h1)).trans ?r1
  case h1=>simp[hlt];rfl
  case r1=>simp[keep,bh]
  all_goals (intros;simp_all)
 | k+1,i,acc,h,ha=>by
  have hlt:i<st.length:=by omega
  have hlw:i<wish.length:=by omega
  have hltD:decide (i<st.length)=true:=aG hlt;have hg:(st.map I)[i]?=some (I st[i]):=by simp[aA hlt]
  have hgw:(wish.map I)[i]?=some (I wish[i]):=by simp[aA hlw]
  have hmx:((acc.map I).length+1)*8<=maxBytes:=by have:=MB;simp;omega
  rw[aL hlt,aL hlw,gv,List.append_cons acc];refine bc (s1:=⟨[(1,LI wish),(2,.ptr false 0 0),(5,LI st),(6,LI V),(7,.sl true 1 ((acc++[if eq m.inits st[i] then V.getD (dB m.inits st[i]).toNat 0 else wish[i]]).map I)),(8,I ((i+1:Nat):Int))],[[LN m.nodes,LP m.inits,LP m.nexts,LI m.bads,LI m.holds]],gh⟩) (qf8 ?_) (ur hl hw hs hp k (i+1) _ (by omega) (by simp;omega));have hc:=ui (gh:=gh) (s:=st[i]) hs;have hd:=C2 (ps:=m.inits) (s:=st[i]) (λp hq=>(hp p hq).1);rw[j7];generalize acc.map I=A at *;generalize wish[i]=w at *;generalize st[i]=a at *
  have k1:=λv=>C3 (m:=m) (gh:=gh) (wish:=wish) (st:=st) (V:=V) (A:=A++[I v]) (i:=i) (by omega)
  cases hh:eq m.inits a with
  |true=>
   rw[if_pos rfl];have hq:=hp _ (j6 hh);have hv:=iR hq.2;have h0:=hq.1;rw[hh] at hd;simp only at h0 hv;generalize V.getD (dB m.inits a).toNat 0=v at *;generalize dB m.inits a=n at *;simp[hltD,hg,hc,hd,h0,hv,hmx,k1,-List.getElem?_map]
  |false=>
   rw[if_neg (by decide)];rw[hh] at hd;generalize dB m.inits a=n at *;simp[hltD,hg,hgw,hc,hd,hmx,k1,-List.getElem?_map]
theorem C4 {wish:List Int} (h:aw m=0) (hw:wish.length=(ah m.nodes 3).length):ac pg 125 [de m,LI wish] gh=some (LI (dA m wish),gh):=by
 have hm:=en h;have hl:=hm.len;have hpl:=(mG hm).1;have o3:=jo (m:=m) (gh:=gh) (kind:=3) (by omega);have o2:=jo (m:=m) (gh:=gh) (kind:=2) (by omega);have hmx:=MB;have l3:=fJ hm 3;have l2:=fJ hm 2;have hr:=ug (gh:=gh) h pp;have h1:=ur (m:=m) (gh:=gh) (V:=fW m) (by omega) hw (by simp only[Sz];omega) (uq hm) (ah m.nodes 3).length 0 [] (by omega) (by simp);rw[bK,bK,bH] at h1;simp only[bQ,aW] at h1;change ac pg 132 _ _=some (LI (fW m),gh) at hr;change ab pg q4b _=some (_,⟨[(_,.sl true 1 ((dA m wish).map I))],_,_⟩) at h1;have hn:=eQ (dA m wish)
 have e:∀n:Nat,List.map I (List.replicate n 0)=List.replicate n (I 0):=λn=>List.map_replicate
 unfold kZ la at hr;simp only[LI,e] at hr h1 hn o3 o2 ⊢;generalize (dA m wish).map I=F at *;have b3:eP ((ah m.nodes 3).length:Int) 8 1 (I 0)=true:=by simp[eP];omega
 have b2:eP ((ah m.nodes 2).length:Int) 8 1 (I 0)=true:=by simp[eP];omega
 have q3:((ah m.nodes 3).map I).length=(ah m.nodes 3).length:=by simp
 have q2:((ah m.nodes 2).map I).length=(ah m.nodes 2).length:=by simp
 generalize (ah m.nodes 3).map I=K3 at *;generalize (ah m.nodes 2).map I=K2 at *;generalize (ah m.nodes 3).length=n3 at *;generalize (ah m.nodes 2).length=n2 at *;subst q3 q2;have k2:=qiw (pg:=pg) (gh:=gh) (v7:= .sl true 1 F) (e:= .ret) (s:=⟨[(4,.sl false 1 F)],[],gh⟩) (by simp);rw[bz] at *;refine ao (fn:=q7v) (s:=⟨[(4,.sl false 1 F)],[],gh⟩) rfl rfl (qix ?h1) ?r1
 case h1=>simp[o3,o2,b3,b2,eb,hr,h1,k2]
 case r1=>simp[al,results,q7v,am,aq,ai,hn]
def il (m:Md) (wish:List Int):Int:=if aw m=0 then cR m.nodes (ah m.nodes 3) wish else aw m
end
theorem pq {m:Md} (h:aw m=0):fI m (dt [] m.nodes)=0/\gS m=0:=by
 unfold aw at h;split at h
 ·contradiction
 split at h
 ·contradiction
 split at h
 ·contradiction
 split at h
 ·contradiction
 rename_i h4;exact⟨aU h4,h⟩
theorem ut {l:List Nd} {f:List Bool} {b:Bool}:∀{ps:List (Int×Int)},cv l f b ps=0->∀p∈ps,p.1∈ah l 3
 |[],_,p,hp=>by cases hp
 | q ::ps,h,p,hp=>by
  rw[cv] at h;split at h
  ·rename_i h0
   rcases List.mem_cons.1 hp with rfl|hp
   ·unfold dN at h0
    split at h0
    ·contradiction
    rename_i hn;have hi:ci l p.1:=aU λh=>hn (.inl h)
    have hk:(l.getD p.1.toNat default).k=3:=aU λh=>hn (.inr (.inr h))
    refine kindF_mem.2 ⟨p.1.toNat,hi.2,?_,?_⟩
    ·have:=hi.1;omega
    ·rw[aM,aA hi.2] at hk
     rw[aA hi.2];simpa using hk
   ·exact ut h p hp
  ·contradiction
theorem C5 {ps:List (Int×Int)} {s:Int} (h:s∈ps.map (·.1)):eq ps s=true:=by obtain⟨p,hp,rfl⟩:=List.mem_map.1 h;exact List.any_eq_true.2 ⟨p,hp,aG rfl⟩
theorem pr {m:Md} (h:aw m=0):∀s∈ah m.nodes 3,eq m.nexts s=true:=by
 intro s hs;refine C5 (aU λhn=>?_);obtain⟨hp,hk⟩:=pq h;have hle:(ah m.nodes 3).length<=m.nexts.length:=by
  unfold gS at hk;split at hk
  ·contradiction
  ·omega
 have hz:cv m.nodes (dt [] m.nodes) false m.nexts=0:=by
  unfold fI at hp;split at hp
  ·contradiction
  split at hp
  ·contradiction
  rename_i h2;exact aU h2
 have hd:(s::m.nexts.map (·.1)).Nodup:=List.nodup_cons.2 ⟨hn,(en h).nod2⟩;have:=List.Nodup.length_le_of_subset hd (l₂:=ah m.nodes 3) (λa ha=>by
  rcases List.mem_cons.1 ha with rfl|ha
  ·exact hs
  ·obtain⟨p,hp,rfl⟩:=List.mem_map.1 ha
   exact ut hz p hp)
 simp at this;omega
theorem uu {m:Md} (h:aw m=0):∀a∈m.bads++m.holds,ci m.nodes a:=by
 obtain⟨-,hk⟩:=pq h;unfold gS at hk;split at hk
 ·contradiction
 split at hk
 ·contradiction
 rename_i h2;intro a ha;exact aU λhn=>h2 (List.any_eq_true.2 ⟨a,ha,by simp[hn]⟩)
theorem uv {m:Md} (h:aw m=0):m.bads.length<=8/\m.holds.length<=8:=by
 unfold aw at h;split at h
 ·contradiction
 omega
def iS (V:List Int) (ps:List (Int×Int)) (st:List Int):List Int:=st.map λs=>V.getD (dB ps s).toNat 0
def dP (m:Md) (V:List Int):List Int:=iS V m.nexts (ah m.nodes 3)
theorem uw (V:List Int) (ps:List (Int×Int)) (s:Int) (st:List Int):iS V ps (s::st)=V.getD (dB ps s).toNat 0::iS V ps st:=rfl
section
variable {m:Md} {gh:List GObj}
theorem ux {V:List Int} {ps:List (Int×Int)} (hl:Sz ps.length) (hn:(ps.map (·.1)).Nodup) (hp:∀p∈ps,0<=p.2/\p.2.toNat<V.length):∀k i,i+k=ps.length->
  ab pg q3t ⟨[(1,LI V),(2,.ptr false 0 0),(5,.mp gh.length),(13,LP ps),(14,I ps.length),(15,I (i:Int))],[[LN m.nodes,LP m.inits,LP m.nexts,LI m.bads,LI m.holds]],gh++[.map (bn (byM V (ps.take i)))]⟩=
   some (.normal,⟨[(2,.ptr false 0 0),(5,.mp gh.length)],[[LN m.nodes,LP m.inits,LP m.nexts,LI m.bads,LI m.holds]],gh++[.map (bn (byM V ps))]⟩)
 |0,i,h=>by
  rw[bM (by omega)];have hlt:¬(i:Int)<(ps.length:Int):=by omega
  refine (bm (s1:=?s1) (qf9 ?h1)).trans ?r1
  case h1=>simp only[aF hlt,dK];rfl
  case r1=>simp[keep,bh]
 |k+1,i,h=>by
  have hlt:i<ps.length:=by omega
  have hltI:(i:Int)<(ps.length:Int):=by omega
  have e2:WI.wrap ((i:Int)+1)=((i+1:Nat):Int):=fH (by simp only[Sz] at hl ⊢;omega);have hg:(ps.map bv)[i]?=some (bv ps[i]):=by simp[aA hlt]
  have hs:=uk (V:=V) hn hlt;obtain⟨q0,q1⟩:=hp _ (bX hlt);have hv:=iR q1;refine bc (s1:=⟨[(1,LI V),(2,.ptr false 0 0),(5,.mp gh.length),(13,LP ps),(14,I ps.length),(15,I ((i+1:Nat):Int))],[[LN m.nodes,LP m.inits,LP m.nexts,LI m.bads,LI m.holds]],gh++[GObj.map (bn (byM V (ps.take (i+1))))]⟩) (qf9 ?_) (ux hl hn hp k (i+1) (by omega));generalize ps[i]=p at *;rw[gQ] at hg;generalize V.getD p.2.toNat 0=v at *;generalize byM V (ps.take (i+1))=M2 at *;generalize byM V (ps.take i)=M1 at *;have hmu:=λf=>nX (R:=ag×St) gh M1 p.1 v f
  rw[hs] at hmu;simp[hltI,hg,q0,hv,e2,hmu,-List.getElem?_map,-jk,-sV]
theorem uy {V st:List Int} {ps:List (Int×Int)} (hl:st.length<=1000) (hall:∀s∈st,eq ps s=true):∀k i acc,i+k=st.length->acc.length<=i->
  ab pg q3u ⟨[(5,.mp gh.length),(8,.sl true 1 (acc.map I)),(29,LI st),(30,I st.length),(31,I (i:Int))],[],gh++[.map (bn (byM V ps))]⟩=
   some (.normal,⟨[(8,.sl true 1 ((acc++iS V ps (st.drop i)).map I))],[],gh++[.map (bn (byM V ps))]⟩)
 |0,i,acc,h,_=>by
  rw[aQ (by omega)];have hlt:¬(i:Int)<(st.length:Int):=by omega
  refine (bm (s1:=?s1) (qfa ?h1)).trans ?r1
  case h1=>simp only[aF hlt,dK];rfl
  case r1=>simp[keep,bh,iS]
 | k+1,i,acc,h,ha=>by
  have hlt:i<st.length:=by omega
  have hltI:(i:Int)<(st.length:Int):=by omega
  have e2:WI.wrap ((i:Int)+1)=((i+1:Nat):Int):=by rw[az (by omega) (by omega)];omega
  have hg:(st.map I)[i]?=some (I st[i]):=by simp[aA hlt]
  have hmx:((acc.map I).length+1)*8<=maxBytes:=by have:=MB;simp;omega
  have hf:=pn (V:=V) (ps:=ps) (s:=st[i]);rw[hall _ (bX hlt),if_pos rfl] at hf;rw[aL hlt,uw,List.append_cons acc];refine bc (s1:=⟨[(5,.mp gh.length),(8,.sl true 1 ((acc++[V.getD (dB ps st[i]).toNat 0]).map I)),(29,LI st),(30,I st.length),(31,I ((i+1:Nat):Int))],[],gh++[GObj.map (bn (byM V ps))]⟩) (qfa ?_) (uy hl hall k (i+1) _ (by omega) (by simp;omega));rw[j7];generalize acc.map I=A at *;generalize byM V ps=M at *;generalize V.getD (dB ps st[i]).toNat 0=v at *;generalize st[i]=a at *;have hlk:=λf=>ta (R:=ag×St) gh M a f
  rw[hf] at hlk;simp[hltI,hg,hlk,hmx,e2,-List.getElem?_map,-jk]
theorem uz {m:Md} {V:List Int} (hm:kW m) (hV:V.length=m.nodes.length):∀p∈m.nexts,0<=p.2/\p.2.toNat<V.length:=λp hp=>by have:=(hm.pairs p (bY.2 (.inr hp))).2;rw[hV];exact this
theorem C6 {V:List Int} (h:aw m=0) (hV:V.length=m.nodes.length):ac pg 140 [de m,LI V] gh=some (LI (dP m V),gh):=by
 have hm:=en h;have hl:=hm.len;have hpl:=(mG hm).2;have o3:=ik (m:=m) (gh:=gh++[GObj.map (bn (byM V m.nexts))]) (kind:=3) (by omega);have l3:=fJ hm 3;have h1:=ux (m:=m) (gh:=gh) (V:=V) (by simp only[Sz];omega) hm.nod2 (uz hm hV) m.nexts.length 0 (by omega);have h2:=uy (gh:=gh) (V:=V) (ps:=m.nexts) (by omega) (pr h) (ah m.nodes 3).length 0 [] (by omega) (by simp);rw[bK,bH] at h2;simp only[List.take_zero,bQ,aW] at h1 h2;change ab pg q3t ⟨_,_,gh++[GObj.map []]⟩=_ at h1;change ab pg q3u _=some (_,⟨[(_,.sl true 1 ((dP m V).map I))],_,_⟩) at h2;have hn:=eQ (dP m V);generalize dP m V=F at *
 generalize bn (byM V m.nexts)=MM at *;have k2:ab pg q3v ⟨[(8,.sl true 1 (F.map I))],[],gh++[GObj.map MM]⟩=some (.ret,⟨[(4,.sl false 1 (F.map I))],[],gh++[GObj.map MM]⟩):=by refine qiy ?_;simp
 rw[bz] at *;have k1:ab pg q3w ⟨[(2,.ptr false 0 0),(5,.mp gh.length)],[[LN m.nodes,LP m.inits,LP m.nexts,LI m.bads,LI m.holds]],gh++[GObj.map MM]⟩=some (.ret,⟨[(4,.sl false 1 (F.map I))],[],gh++[GObj.map MM]⟩):=by refine qiz ?_;simp[o3,h2,k2]
 refine ao (fn:=q5g) (s:=⟨[(4,.sl false 1 (F.map I))],[],gh++[GObj.map MM]⟩) rfl rfl (qj0 ?h1) ?r1
 case h1=>simp[h1,k1]
 case r1=>simp[al,results,q5g,am,aq,ai,hn]
theorem uA {V st:List Int} (hl:st.length<=1000) (hs:Sz m.nexts.length) (hp:∀p∈m.nexts,0<=p.2/\p.2.toNat<V.length) (hall:∀s∈st,eq m.nexts s=true):∀k i acc,i+k=st.length->acc.length<=i->
  ab pg q4d ⟨[(1,LI V),(2,.ptr false 0 0),(5,LI st),(6,.sl true 1 (acc.map I)),(7,I (i:Int))],[[LN m.nodes,LP m.inits,LP m.nexts,LI m.bads,LI m.holds]],gh⟩=
   some (.normal,⟨[(6,.sl true 1 ((acc++iS V m.nexts (st.drop i)).map I))],[],gh⟩)
 |0,i,acc,h,_=>by
  rw[aQ (by omega)];have hlt:¬i<st.length:=by omega
  refine (bm (s1:=?s1) (qfb ?h1)).trans ?r1
  case h1=>simp[hlt];rfl
  case r1=>simp[keep,bh,iS]
 | k+1,i,acc,h,ha=>by
  have hlt:i<st.length:=by omega
  have hltD:decide (i<st.length)=true:=aG hlt;have e2:WI.wrap ((i:Int)+1)=((i+1:Nat):Int):=by rw[az (by omega) (by omega)];omega
  have hg:(st.map I)[i]?=some (I st[i]):=by simp[aA hlt]
  have hmx:((acc.map I).length+1)*8<=maxBytes:=by have:=MB;simp;omega
  rw[aL hlt,uw,List.append_cons acc];refine bc (s1:=⟨[(1,LI V),(2,.ptr false 0 0),(5,LI st),(6,.sl true 1 ((acc++[V.getD (dB m.nexts st[i]).toNat 0]).map I)),(7,I ((i+1:Nat):Int))],[[LN m.nodes,LP m.inits,LP m.nexts,LI m.bads,LI m.holds]],gh⟩) (qfb ?_) (uA hl hs hp hall k (i+1) _ (by omega) (by simp;omega));have hc:=ui (gh:=gh) (s:=st[i]) hs;have hh:=hall _ (bX hlt);rw[j7];generalize acc.map I=A at *;generalize st[i]=a at *;have hq:=hp _ (j6 hh);have hv:=iR hq.2;have h0:=hq.1;simp only at h0 hv;generalize V.getD (dB m.nexts a).toNat 0=v at *;generalize dB m.nexts a=n at *
  simp[hltD,hg,hc,h0,hv,hmx,e2,-List.getElem?_map]
theorem C7 {V:List Int} (h:aw m=0) (hV:V.length=m.nodes.length):ac pg 133 [de m,LI V] gh=some (LI (dP m V),gh):=by
 have hm:=en h;have hl:=hm.len;have hpl:=(mG hm).2;have o3:=jo (m:=m) (gh:=gh) (kind:=3) (by omega);have l3:=fJ hm 3;have h1:=uA (m:=m) (gh:=gh) (V:=V) (by omega) (by simp only[Sz];omega) (uz hm hV) (pr h) (ah m.nodes 3).length 0 [] (by omega) (by simp);rw[bK,bH] at h1;simp only[bQ,aW] at h1;change ab pg q4d _=some (_,⟨[(_,.sl true 1 ((dP m V).map I))],_,_⟩) at h1;have hn:=eQ (dP m V);simp only[LI] at h1 o3 hn ⊢;generalize (dP m V).map I=F at *;generalize (ah m.nodes 3).map I=K3 at *;have k1:=qj1 (pg:=pg) (gh:=gh) (v6:= .sl true 1 F) (e:= .ret) (s:=⟨[(4,.sl false 1 F)],[],gh⟩) (by simp)
 rw[bz] at *;refine ao (fn:=q7z) (s:=⟨[(4,.sl false 1 F)],[],gh⟩) rfl rfl (qj2 ?h1) ?r1
 case h1=>simp[o3,h1,k1]
 case r1=>simp[al,results,q7z,am,aq,ai,hn]
def fu (V:List Int) (a:Int):Bool:=decide (V.getD a.toNat 0=1)
theorem uC {V l:List Int} {b7:Bool} (hl:l.length<=1000) (hp:∀a∈l,0<=a/\a.toNat<V.length):∀k i b6,i+k=l.length->
  ab pg q3x ⟨[(1,LI V),(2,.ptr false 0 0),(6,B b6),(7,B b7),(13,LI l),(14,I l.length),(15,I (i:Int))],[[LN m.nodes,LP m.inits,LP m.nexts,LI m.bads,LI m.holds]],gh⟩=
   some (.normal,⟨[(1,LI V),(2,.ptr false 0 0),(6,B (b6&&(l.drop i).all (fu V))),(7,B b7)],[[LN m.nodes,LP m.inits,LP m.nexts,LI m.bads,LI m.holds]],gh⟩)
 |0,i,b6,h=>by
  rw[aQ (by omega)];have hlt:¬(i:Int)<(l.length:Int):=by omega
  refine (bm (s1:=?s1) (qfc ?h1)).trans ?r1
  case h1=>simp only[aF hlt,dK];rfl
  case r1=>simp[keep,bh]
 |k+1,i,b6,h=>by
  have hlt:i<l.length:=by omega
  have hltI:(i:Int)<(l.length:Int):=by omega
  have e2:WI.wrap ((i:Int)+1)=((i+1:Nat):Int):=by rw[az (by omega) (by omega)];omega
  have hg:(l.map I)[i]?=some (I l[i]):=by simp[aA hlt]
  obtain⟨q0,q1⟩:=hp _ (bX hlt);have hv:=iR q1;rw[aL hlt,List.all_cons,<-Bool.and_assoc];refine bc (s1:=⟨[(1,LI V),(2,.ptr false 0 0),(6,B (b6&&fu V l[i])),(7,B b7),(13,LI l),(14,I l.length),(15,I ((i+1:Nat):Int))],[[LN m.nodes,LP m.inits,LP m.nexts,LI m.bads,LI m.holds]],gh⟩) (qfc ?_) (uC hl hp k (i+1) _ (by omega));unfold fu;generalize l[i]=a at *;generalize V.getD a.toNat 0=v at *;cases b6
  ·simp[hltI,hg,e2,-List.getElem?_map]
  ·simp[hltI,hg,q0,hv,e2,-List.getElem?_map]
theorem uD {V l:List Int} {b6:Bool} (hl:l.length<=1000) (hp:∀a∈l,0<=a/\a.toNat<V.length):∀k i b7,i+k=l.length->
  ab pg q3y ⟨[(1,LI V),(6,B b6),(7,B b7),(29,LI l),(30,I l.length),(31,I (i:Int))],[],gh⟩=
   some (.normal,⟨[(6,B b6),(7,B (b7||(l.drop i).any (fu V)))],[],gh⟩)
 |0,i,b7,h=>by
  rw[aQ (by omega)];have hlt:¬(i:Int)<(l.length:Int):=by omega
  refine (bm (s1:=?s1) (qfd ?h1)).trans ?r1
  case h1=>simp only[aF hlt,dK];rfl
  case r1=>simp[keep,bh]
 |k+1,i,b7,h=>by
  have hlt:i<l.length:=by omega
  have hltI:(i:Int)<(l.length:Int):=by omega
  have e2:WI.wrap ((i:Int)+1)=((i+1:Nat):Int):=by rw[az (by omega) (by omega)];omega
  have hg:(l.map I)[i]?=some (I l[i]):=by simp[aA hlt]
  obtain⟨q0,q1⟩:=hp _ (bX hlt);have hv:=iR q1;rw[aL hlt,List.any_cons,<-Bool.or_assoc];refine bc (s1:=⟨[(1,LI V),(6,B b6),(7,B (b7||fu V l[i])),(29,LI l),(30,I l.length),(31,I ((i+1:Nat):Int))],[],gh⟩) (qfd ?_) (uD hl hp k (i+1) _ (by omega));unfold fu;generalize l[i]=a at *;generalize V.getD a.toNat 0=v at *;cases b7
  ·simp[hltI,hg,q0,hv,e2,-List.getElem?_map]
  ·simp[hltI,hg,e2,-List.getElem?_map]
def eT (m:Md) (V:List Int):Bool:=m.holds.all (fu V)
def fw (m:Md) (V:List Int):Bool:=m.bads.any (fu V)
theorem uE {m:Md} {V:List Int} (h:aw m=0) (hV:V.length=m.nodes.length):(∀a∈m.bads,0<=a/\a.toNat<V.length)/\(∀a∈m.holds,0<=a/\a.toNat<V.length):=by rw[hV];exact⟨λa ha=>uu h a (bY.2 (.inl ha)),λa ha=>uu h a (bY.2 (.inr ha))⟩
theorem C8 {V:List Int} (h:aw m=0) (hV:V.length=m.nodes.length):ac pg 141 [de m,LI V] gh=some (.tup [B (eT m V),B (fw m V)],gh):=by
 obtain⟨lb,lh⟩:=uv h;obtain⟨ib,ih⟩:=uE h hV;have h1:=uC (m:=m) (gh:=gh) (b7:=false) (by omega) ih m.holds.length 0 true (by omega);rw[bK,Bool.true_and] at h1;change ab pg q3x _=some (_,⟨[_,_,(_,B (eT m V)),_],_,_⟩) at h1;have h2:=uD (gh:=gh) (b6:=eT m V) (by omega) ib m.bads.length 0 false (by omega);rw[bK,Bool.false_or] at h2;change ab pg q3y _=some (_,⟨[_,(_,B (fw m V))],_,_⟩) at h2;simp only[aW] at h1 h2;generalize eT m V=b at *;generalize fw m V=c at *;have k2:=qj3 (pg:=pg) (gh:=gh) (b6:=b) (b7:=c) rfl
 have k1:ab pg q3z ⟨[(1,LI V),(2,.ptr false 0 0),(6,B b),(7,B false)],[[LN m.nodes,LP m.inits,LP m.nexts,LI m.bads,LI m.holds]],gh⟩=some (.ret,⟨[(4,B b),(5,B c)],[],gh⟩):=by refine qj4 ?_;simp[h2,k2]
 rw[bz];refine ao (fn:=q5i) (s:=⟨[(4,B b),(5,B c)],[],gh⟩) rfl rfl (qj5 ?h1) ?r1
 case h1=>simp[h1,k1]
 case r1=>simp[al,results,q5i,am,aq,ai]
theorem uF {V:List Int} {b7:Bool} (hl:m.holds.length<=1000) (hp:∀a∈m.holds,0<=a/\a.toNat<V.length):∀k i b6,i+k=m.holds.length->
  ab pg q4e ⟨[(1,LI V),(2,.ptr false 0 0),(6,B b6),(7,B b7),(8,I (i:Int))],[[LN m.nodes,LP m.inits,LP m.nexts,LI m.bads,LI m.holds]],gh⟩=
   some (.normal,⟨[(1,LI V),(2,.ptr false 0 0),(6,B (b6&&(m.holds.drop i).all (fu V))),(7,B b7)],[[LN m.nodes,LP m.inits,LP m.nexts,LI m.bads,LI m.holds]],gh⟩)
 |0,i,b6,h=>by
  rw[aQ (by omega)];have hlt:¬i<m.holds.length:=by omega
  refine (bm (s1:=?s1) (qfe ?h1)).trans ?r1
  case h1=>simp[hlt];rfl
  case r1=>simp[keep,bh]
 |k+1,i,b6,h=>by
  have hlt:i<m.holds.length:=by omega
  have hltD:decide (i<m.holds.length)=true:=aG hlt;have e2:WI.wrap ((i:Int)+1)=((i+1:Nat):Int):=by rw[az (by omega) (by omega)];omega
  have hg:(m.holds.map I)[i]?=some (I m.holds[i]):=by simp[aA hlt]
  obtain⟨q0,q1⟩:=hp _ (bX hlt);have hv:=iR q1;rw[aL hlt,List.all_cons,<-Bool.and_assoc];refine bc (s1:=⟨[(1,LI V),(2,.ptr false 0 0),(6,B (b6&&fu V m.holds[i])),(7,B b7),(8,I ((i+1:Nat):Int))],[[LN m.nodes,LP m.inits,LP m.nexts,LI m.bads,LI m.holds]],gh⟩) (qfe ?_) (uF hl hp k (i+1) _ (by omega));unfold fu;generalize m.holds[i]=a at *;generalize V.getD a.toNat 0=v at *;cases b6
  ·simp[hltD,e2,-List.getElem?_map]
  ·simp[hltD,hg,q0,hv,e2,-List.getElem?_map]
theorem uH {V:List Int} {b6:Bool} (hl:m.bads.length<=1000) (hp:∀a∈m.bads,0<=a/\a.toNat<V.length):∀k i b7,i+k=m.bads.length->
  ab pg q4f ⟨[(1,LI V),(2,.ptr false 0 0),(6,B b6),(7,B b7),(9,I (i:Int))],[[LN m.nodes,LP m.inits,LP m.nexts,LI m.bads,LI m.holds]],gh⟩=
   some (.normal,⟨[(6,B b6),(7,B (b7||(m.bads.drop i).any (fu V)))],[],gh⟩)
 |0,i,b7,h=>by
  rw[aQ (by omega)];have hlt:¬i<m.bads.length:=by omega
  refine (bm (s1:=?s1) (qff ?h1)).trans ?r1
  case h1=>simp[hlt];rfl
  case r1=>simp[keep,bh]
 |k+1,i,b7,h=>by
  have hlt:i<m.bads.length:=by omega
  have hltD:decide (i<m.bads.length)=true:=aG hlt;have e2:WI.wrap ((i:Int)+1)=((i+1:Nat):Int):=by rw[az (by omega) (by omega)];omega
  have hg:(m.bads.map I)[i]?=some (I m.bads[i]):=by simp[aA hlt]
  obtain⟨q0,q1⟩:=hp _ (bX hlt);have hv:=iR q1;rw[aL hlt,List.any_cons,<-Bool.or_assoc];refine bc (s1:=⟨[(1,LI V),(2,.ptr false 0 0),(6,B b6),(7,B (b7||fu V m.bads[i])),(9,I ((i+1:Nat):Int))],[[LN m.nodes,LP m.inits,LP m.nexts,LI m.bads,LI m.holds]],gh⟩) (qff ?_) (uH hl hp k (i+1) _ (by omega));unfold fu;generalize m.bads[i]=a at *;generalize V.getD a.toNat 0=v at *;cases b7
  ·simp[hltD,hg,q0,hv,e2,-List.getElem?_map]
  ·simp[hltD,e2,-List.getElem?_map]
theorem C9 {V:List Int} (h:aw m=0) (hV:V.length=m.nodes.length):ac pg 134 [de m,LI V] gh=some (.tup [B (eT m V),B (fw m V)],gh):=by
 obtain⟨lb,lh⟩:=uv h;obtain⟨ib,ih⟩:=uE h hV;have h1:=uF (m:=m) (gh:=gh) (b7:=false) (by omega) ih m.holds.length 0 true (by omega);rw[bK,Bool.true_and] at h1;change ab pg q4e _=some (_,⟨[_,_,(_,B (eT m V)),_],_,_⟩) at h1;have h2:=uH (m:=m) (gh:=gh) (b6:=eT m V) (by omega) ib m.bads.length 0 false (by omega);rw[bK,Bool.false_or] at h2;change ab pg q4f _=some (_,⟨[_,(_,B (fw m V))],_,_⟩) at h2;simp only[aW] at h1 h2;generalize eT m V=b at *;generalize fw m V=c at *;have k2:=qj6 (pg:=pg) (gh:=gh) (b6:=b) (b7:=c) rfl
 have k1:ab pg q4g ⟨[(1,LI V),(2,.ptr false 0 0),(6,B b),(7,B false)],[[LN m.nodes,LP m.inits,LP m.nexts,LI m.bads,LI m.holds]],gh⟩=some (.ret,⟨[(4,B b),(5,B c)],[],gh⟩):=by refine qj7 ?_;simp[h2,k2]
 rw[bz];refine ao (fn:=q81) (s:=⟨[(4,B b),(5,B c)],[],gh⟩) rfl rfl (qj8 ?h1) ?r1
 case h1=>simp[h1,k1]
 case r1=>simp[al,results,q81,am,aq,ai]
end
section
variable {m:Md}
theorem mH {ss ks:List Int} (h:aw m=0) (hg:VGood m.nodes 0 [] ss ks):InW m.nodes (cj m ss ks):=by
 have hz:∀(j:Nat) (x:Nd),m.nodes[j]?=some x->dw m.nodes j x=0:=by
  intro j x hx;have hn:eg m.nodes 0 m.nodes=0:=by
   unfold aw at h;split at h
   ·contradiction
   split at h
   ·contradiction
   rename_i h2;exact aU h2
  have:=mn hn j x hx
  rwa [cN] at this
 have:=kY hz m.nodes.length 0 [] ss ks (by omega) hg
 rwa [bK] at this
theorem pt {l:List Nd} {f:List Bool} {b:Bool}:∀{ps:List (Int×Int)},cv l f b ps=0->∀p∈ps,wAt l p.1=wAt l p.2
 |[],_,p,hp=>by cases hp
 | q::ps,h,p,hp=>by
  rw[cv] at h;split at h
  ·rename_i h0
   rcases List.mem_cons.1 hp with rfl|hp
   ·unfold dN at h0
    split at h0
    ·contradiction
    split at h0
    ·contradiction
    rename_i h2;exact aU h2
   ·exact pt h p hp
  ·contradiction
theorem Da (h:aw m=0):∀p∈m.inits++m.nexts,wAt m.nodes p.1=wAt m.nodes p.2:=by
 obtain⟨hp,-⟩:=pq h;unfold fI at hp;split at hp
 ·contradiction
 rename_i h1;split at hp
 ·contradiction
 rename_i h2;intro p hm;rcases bY.1 hm with hm|hm
 ·exact pt (aU h1) p hm
 ·exact pt (aU h2) p hm
theorem uJ (h:aw m=0) {V:List Int} (hV:InW m.nodes V) (hl:V.length=m.nodes.length) {p:Int×Int} (hp:p∈m.inits++m.nexts):0<=V.getD p.2.toNat 0/\V.getD p.2.toNat 0<((2^(wAt m.nodes p.1).toNat:Nat):Int):=by
 have h2:=((en h).pairs p hp).2;rw[Da h p hp];have:=hV p.2.toNat (by rw[hl];exact h2.2)
 rwa [show ((p.2.toNat:Nat):Int)=p.2 from Int.toNat_of_nonneg h2.1] at this
theorem pu (h:aw m=0) {V:List Int} (hV:InW m.nodes V) (hl:V.length=m.nodes.length):cR m.nodes (ah m.nodes 3) (dP m V)=0:=by
 have hall:=pr h;unfold cR dP iS;rw[if_neg (by simp)];generalize ah m.nodes 3=st at *
 induction st with
 |nil=>rfl
 |cons s st ih=>
  rw[bP,cZ,if_pos]
  ·exact ih λa ha=>hall a (by simp[ha])
  ·exact uJ h hV hl (bY.2 (.inr (j6 (hall s (by simp)))))
theorem Db (h:aw m=0) {wish:List Int} (hw:cR m.nodes (ah m.nodes 3) wish=0):cR m.nodes (ah m.nodes 3) (dA m wish)=0:=by
 have hV:InW m.nodes (fW m):=mH h pp;have hl:(fW m).length=m.nodes.length:=j4;unfold cR at hw;split at hw
 ·cases hw
 rename_i hlen;have hlen:wish.length=(ah m.nodes 3).length:=aU hlen;unfold dA;generalize ah m.nodes 3=st at *;have key:∀(st wish:List Int),wish.length=st.length->cZ m.nodes st wish=0->(gv (fW m) m.inits st wish).length=st.length/\cZ m.nodes st (gv (fW m) m.inits st wish)=0:=by
  intro st
  induction st with
  |nil=>intro w _ _;cases w<;>exact⟨rfl,rfl⟩
  | cons s st ih=>
   intro w hl2 hf;obtain⟨v,vs,rfl,h0,h1,h2,h3⟩:=pd hl2 hf;obtain⟨i1,i2⟩:=ih vs h2 h3;rw[gv];refine⟨by simp[i1],?_⟩;rw[cZ,if_pos]
   ·exact i2
   ·by_cases hh:eq m.inits s=true
    ·rw[if_pos hh]
     exact uJ h hV hl (bY.2 (.inl (j6 hh)))
    ·rw[if_neg hh];exact⟨h0,h1⟩
 obtain⟨k1,k2⟩:=key st wish hlen hw;unfold cR;rw[if_neg (by simp[k1])];exact k2
variable {gh:List GObj}
end
def bo (L:List Nd):List Int->Nat
 |[]=>0
 |a::l=>(wAt L a).toNat+bo L l
theorem uK {L:List Nd}:∀{ns:List Int} {s:Int},(∀a∈ns,1<=wAt L a/\wAt L a<=8)->0<=s->s+8*ns.length<=100000->ns.foldl (λs a=>WI.wrap (s+wAt L a)) s=s+bo L ns
 |[],s,_,_,_=>by simp[bo]
 |a::ns,s,h,h0,h1=>by have ha:=h a (bE ..);simp only[bA] at h1;rw[List.foldl_cons,az (n:=s+wAt L a) (by omega) (by omega),uK (λb hb=>h b (bF _ hb)) (by omega) (by omega),bo];omega
theorem pw {m:Md} (h:aw m=0) (kind:Int):dZ m.nodes kind=bo m.nodes (ah m.nodes kind):=by
 have hf:=mj m.nodes kind 0 m.nodes 0 rfl;have hl:=fJ (en h) kind;have hw:=iP h kind
 show (List.filter _ _).foldl jn 0=_
 rw[<-hf];have:=uK (L:=m.nodes) (ns:=ah m.nodes kind) (s:=0) (λa ha=>(hw a ha).2) (by omega) (by omega);unfold ah at this ⊢;rw[this,Int.zero_add]
theorem dC {m:Md} (h:aw m=0):bo m.nodes (ah m.nodes 2)<=6/\bo m.nodes (ah m.nodes 3)<=10:=by
 have h2:=pw h 2;have h3:=pw h 3;unfold aw at h;split at h
 ·contradiction
 split at h
 ·contradiction
 split at h
 ·contradiction
 omega
def dx (L:List Nd):List Int->List Int->Nat
 |a::ns,x::xs=>x.toNat+2^(wAt L a).toNat*dx L ns xs
 |_,_=>0
def cu (L:List Nd):List Int->Nat->List Int
 |[],_=>[]
 |a::ns,v=>((v%2^(wAt L a).toNat:Nat):Int)::cu L ns (v/2^(wAt L a).toNat)
theorem mI {L:List Nd}:∀{ns:List Int} {v:Nat},(cu L ns v).length=ns.length
 |[],_=>rfl
 |_::ns,v=>by simp[cu,mI (ns:=ns)]
theorem px {L:List Nd}:∀{ns xs:List Int},cZ L ns xs=0->dx L ns xs<2^bo L ns
 |[],xs,_=>by cases xs<;>simp[dx,bo]
 |a::ns,[],_=>by simp only[dx];exact Nat.two_pow_pos _
 | a::ns,x::xs,h=>by
  rw[cZ] at h;split at h
  ·rename_i hc
   have:=px h;have h1:x.toNat<2^(wAt L a).toNat:=by omega
   rw[dx,bo,Nat.pow_add]
   calc x.toNat+2^(wAt L a).toNat*dx L ns xs<2^(wAt L a).toNat*(dx L ns xs+1):=by rw[Nat.mul_add];omega
    _<=_:=Nat.mul_le_mul_left _ this
  ·cases h
theorem uL {L:List Nd}:∀{ns:List Int} {v:Nat},cZ L ns (cu L ns v)=0
 |[],v=>rfl
 |a::ns,v=>by have:v%2^(wAt L a).toNat<2^(wAt L a).toNat:=Nat.mod_lt _ (Nat.two_pow_pos _);rw[cu,cZ,if_pos (by omega)];exact uL
theorem uM {L:List Nd}:∀{ns xs:List Int},xs.length=ns.length->cZ L ns xs=0->cu L ns (dx L ns xs)=xs
 |[],[],_,_=>rfl
 | a::ns,x::xs,hl,h=>by
  rw[cZ] at h;split at h
  ·rename_i hc
   have h1:x.toNat<2^(wAt L a).toNat:=by omega
   have hp:=Nat.two_pow_pos (wAt L a).toNat;rw[dx,cu,Nat.add_mul_mod_self_left,cL h1,Nat.add_mul_div_left _ _ hp,Nat.div_eq_of_lt h1,cN,uM (by simpa using hl) h];rw[Int.toNat_of_nonneg hc.1]
  ·cases h
theorem mJ {L:List Nd} {ns vs:List Int} (h:cR L ns vs=0):vs.length=ns.length/\cZ L ns vs=0:=by
 unfold cR at h;split at h
 ·cases h
 ·rename_i hl;exact⟨aU hl,h⟩
theorem im {L:List Nd} (ns:List Int) (v:Nat):cR L ns (cu L ns v)=0:=by unfold cR;rw[if_neg (by simp[mI])];exact uL
theorem uN {A b:Nat} (h:A*2^b<65536) (hb:b<=16):cT .i64 (A:Int) (b:Int)=(A*2^b:Nat):=by
 unfold cT;have e:(A:Int)*2^(min (b:Int).toNat IntKind.i64.bits)=((A*2^b:Nat):Int):=by
  have:min (b:Int).toNat IntKind.i64.bits=b:=by
   show min (b:Int).toNat 64=b
   simp;omega
  rw[this];simp
 rw[e];exact az (by omega) (by omega)
theorem Dc {k x t:Nat} (hk:k<2^t) (h:x*2^t+k<65536) (ht:t<=16):iOr .i64 (k:Int) (cT .i64 (x:Int) (t:Int))=((k+2^t*x:Nat):Int):=by rw[uN (by omega) ht,oh (by omega) (by omega)];have:=Nat.two_pow_add_eq_or_of_lt hk x;rw[Nat.or_comm,Nat.mul_comm x,<-this,Nat.add_comm]
section
variable {m:Md} {gh:List GObj}
structure XSt where
 deep:List (Int×Int)
 queue:List (List Int)
 reached:Int
 far:Int
 bad:Bool
 badAt:Int
def xC (m:Md) (b:Nat) (X:XSt):List PV:=
 [LN m.nodes,LP m.inits,LP m.nexts,LI m.bads,LI m.holds,.mp b,.sl true 1 (X.queue.map λl=>LI l),I X.reached,I X.far,B X.bad,I X.badAt]
def mK (g0:Nat) (m:Md) (s:List Int) (ns:List Int) (k t i:Nat) (gh:List GObj):St:=
 ⟨[(0,.ptr true g0 0),(1,LI s),(5,I (k:Int)),(6,I (t:Int)),(13,LI ns),(14,I ns.length),(15,I (i:Int))],[],gh⟩
theorem uP {g0 b:Nat} {X:XSt} (hb:gh[g0]?=some (.cells (xC m b X))) {ns s:List Int} (hx:fV m.nodes ns) (hl:ns.length<=1000) (hv:s.length=ns.length):∀k i (c t:Nat),i+k=ns.length->cZ m.nodes (ns.drop i) (s.drop i)=0->c<2^t->t+bo m.nodes (ns.drop i)<=10->
  ab pg q61 (mK g0 m s ns c t i gh)=some (.normal,⟨[(5,I ((c+2^t*dx m.nodes (ns.drop i) (s.drop i):Nat):Int))],[],gh⟩)
 | 0,i,c,t,h,_,_,_=>by
  rw[aQ (by omega),dx,Nat.mul_zero,cA]
  ·have hlt:¬(i:Int)<(ns.length:Int):=by omega
   refine (bm (s1:=?s1) (qfg ?h1)).trans ?r1
   case h1=>simp only[aF hlt,dK];rfl
   case r1=>simp[keep,bh]
  ·simp
 | k +1,i,c,t,h,hw,hc,ht=>by
  have hlt:i<ns.length:=by omega
  have hltI:(i:Int)<(ns.length:Int):=by omega
  have hlv:i<s.length:=by omega
  have e2:WI.wrap ((i:Int)+1)=((i+1:Nat):Int):=by rw[az (by omega) (by omega)];omega
  have hg:(ns.map I)[i]?=some (I ns[i]):=by simp[aA hlt]
  have hgv:(s.map I)[i]?=some (I s[i]):=by simp[aA hlv]
  obtain⟨hno,hwd⟩:=hx _ (bX hlt);have hn:=eJ hno;have h0:=hno.1;rw[aL hlt,aL hlv] at hw ⊢;rw[aL hlt,bo] at ht;rw[cZ] at hw;rw[dx];split at hw
  ·rename_i hvc
   have hnx:s[i].toNat<2^(wAt m.nodes ns[i]).toNat:=by omega
   have hnum:=px hw;have hxe:((s[i].toNat:Nat):Int)=s[i]:=Int.toNat_of_nonneg hvc.1;have hwe:(((wAt m.nodes ns[i]).toNat:Nat):Int)=wAt m.nodes ns[i]:=Int.toNat_of_nonneg (by omega);have hp10:2^t*2^(wAt m.nodes ns[i]).toNat<=1024:=by
    rw[<-Nat.pow_add];have h5:t+(wAt m.nodes ns[i]).toNat<=10:=by omega
    exact bN (n:=2) (by decide) h5
   have hc2:c+2^t*s[i].toNat<2^(t+(wAt m.nodes ns[i]).toNat):=by
    rw[Nat.pow_add]
    calc c+2^t*s[i].toNat<2^t*(s[i].toNat+1):=by rw[Nat.mul_add];omega
     _<=_:=Nat.mul_le_mul_left _ hnx
   have hor:=Dc (x:=s[i].toNat) hc (by rw[Nat.pow_add] at hc2;rw[Nat.mul_comm];omega) (by omega);have ih:=uP hb hx hl hv k (i+1) (c+2^t*s[i].toNat) (t+(wAt m.nodes ns[i]).toNat) (by omega) hw hc2 (by omega);have hfin:c+2^t*(s[i].toNat+2^(wAt m.nodes ns[i]).toNat*dx m.nodes (ns.drop (i+1)) (s.drop (i+1)))=c+2^t*s[i].toNat+2^(t+(wAt m.nodes ns[i]).toNat)*dx m.nodes (ns.drop (i+1)) (s.drop (i+1)):=by rw[Nat.pow_add,Nat.mul_add,Nat.mul_assoc];omega
   rw[hfin];generalize c+2^t*s[i].toNat+2^(t+(wAt m.nodes ns[i]).toNat)*dx m.nodes (ns.drop (i+1)) (s.drop (i+1))=R at *;rw[hxe] at hor;have hat:WI.wrap ((t:Int)+wAt m.nodes ns[i])=((t+(wAt m.nodes ns[i]).toNat:Nat):Int):=by rw[az (by omega) (by omega)];omega
   generalize c+2^t*s[i].toNat=c2 at *;generalize t+(wAt m.nodes ns[i]).toNat=t2 at *;generalize ns[i]=a at *;generalize s[i]=v at *;refine bc (s1:=mK g0 m s ns c2 t2 (i+1) gh) (qfg ?_) ih;unfold mK;unfold wAt at *;generalize hd:m.nodes.getD a.toNat default=d at *;rw[cV d] at hn;simp only[xC] at hb;simp[hltI,hg,hgv,h0,hn,hb,e2,hor,hat,-List.getElem?_map]
  ·cases hw
theorem pz {g0 b:Nat} {X:XSt} (hb:gh[g0]?=some (.cells (xC m b X))) (hm:aw m=0) {s:List Int} (hs:cR m.nodes (ah m.nodes 3) s=0) :
  ac pg 269 [.ptr true g0 0,LI s] gh=some (I (dx m.nodes (ah m.nodes 3) s:Nat),gh):=by
 obtain⟨h1,h2⟩:=mJ hs;have hl:=fJ (en hm) 3;have h:=uP hb (iP hm 3) (by omega) h1 _ 0 0 0 (cN _) (by simpa using h2) (by decide) (by simpa using (dC hm).2);simp only[bK,cN,Nat.pow_zero,Nat.one_mul] at h;unfold mK at h;simp only[aW] at h;have ho:=ik (gh:=gh) (m:=m) (kind:=3) (by have:=(en hm).len;omega);have hk:=qj9 (pg:=pg) (gh:=gh) (x5:=(dx m.nodes (ah m.nodes 3) s:Nat)) rfl;generalize dx m.nodes (ah m.nodes 3) s=N at *;generalize ah m.nodes 3=K at *;rw[bz] at ho;simp only[xC] at hb;simp only[LI] at *;have hlK:K.length=(K.map I).length:=(bB _).symm;rw[hlK] at h;generalize s.map I=sL at *
 generalize K.map I=kL at *;refine ao (fn:=q63) (s:=⟨[(4,I N)],[],gh⟩) rfl rfl (qja ?h1) ?r1
 case h1=>simp[hb,ho,h,hk]
 case r1=>simp[al,results,q63,am,aq,ai]
end
section
variable {m:Md} {gh:List GObj}
def bw (m:Md) (s:List Int):Nat:=dx m.nodes (ah m.nodes 3) s
def er (m:Md) (X:XSt) (s:List Int) (d:Int):XSt:=
 match bq X.deep (bw m s) with
 |some _=>X
 |none=>{X with deep:=eG X.deep (bw m s) d,queue:=X.queue++[s],reached:=WI.wrap (X.reached+1),far:=d }
def putX (b g0:Nat) (m:Md) (X:XSt) (gh:List GObj):List GObj:=(gh.set b (.map (bn X.deep))).set g0 (.cells (xC m b X))
structure XAt (b g0:Nat) (m:Md) (X:XSt) (gh:List GObj):Prop where
 map:gh[b]?=some (.map (bn X.deep))
 box:gh[g0]?=some (.cells (xC m b X))
 ne:b≠g0
theorem pA {α:Type} {l:List α} {i:Nat} {x:α} (h:l[i]?=some x):l.set i x=l:=by
 apply List.ext_getElem?;intro j;rw[cE];split
 ·rename_i hij
  subst hij;split
  ·exact h.symm
  ·rename_i hlt;rw[List.getElem?_eq_none (by omega)] at h;cases h
 ·rfl
theorem XAt.self {b g0:Nat} {X:XSt} (h:XAt b g0 m X gh):putX b g0 m X gh=gh:=by unfold putX;rw[pA h.map,pA h.box]
theorem XAt.put {b g0:Nat} {X:XSt} (h:XAt b g0 m X gh) (Y:XSt):XAt b g0 m Y (putX b g0 m Y gh):=by
 have h1:=(aD.1 h.map).1;have h2:=(aD.1 h.box).1;refine⟨?_,?_,h.ne⟩
 ·unfold putX
  rw[List.getElem?_set_ne h.ne.symm,List.getElem?_set_self h1]
 ·unfold putX
  rw[List.getElem?_set_self (by simpa using h2)]
theorem pB {b g0:Nat} {X:XSt}:(putX b g0 m X gh).length=gh.length:=by simp[putX]
theorem eC {b g0 i:Nat} {X:XSt} (h1:i≠b) (h2:i≠g0):(putX b g0 m X gh)[i]?=gh[i]?:=by unfold putX;rw[List.getElem?_set_ne (Ne.symm h2),List.getElem?_set_ne (Ne.symm h1)]
theorem pC {b g0:Nat} {X Y:XSt} (hne:b≠g0):putX b g0 m Y (putX b g0 m X gh)=putX b g0 m Y gh:=by unfold putX;have h1:=List.set_comm (l:=gh.set b (GObj.map (bn X.deep))) (GObj.cells (xC m b X)) (GObj.map (bn Y.deep)) (Ne.symm hne);rw[h1,List.set_set,List.set_set]
theorem uQ {b g0:Nat} {X:XSt} (h:XAt b g0 m X gh) (hm:aw m=0) {s:List Int} (hs:cR m.nodes (ah m.nodes 3) s=0) {d:Int} (hq:X.queue.length<=1000000) :
  ac pg 394 [.ptr true g0 0,LI s,I d] gh=some (.tup [],putX b g0 m (er m X s d) gh):=by
 have hk:=pz h.box hm hs;have h1:=h.map;have h2:=h.box;have hne:=h.ne;have hself:=h.self;unfold er
 show _=some (PV.tup [],putX b g0 m (match bq X.deep (bw m s) with|some _=>X|none=>_) gh)
 rw[show dx m.nodes (ah m.nodes 3) s=bw m s from rfl] at hk;generalize bw m s=K at *;cases hf:bq X.deep K with
 | some v=>
  simp only;rw[hself];simp only[xC] at h2;have h3:=qfh (pg:=pg) (gh:=gh) (g0:=g0) (o0:=0) (v1:=LI s) (x2:=d) (e:= .ret) (s:=⟨[(0,.ptr true g0 0),(1,LI s),(2,I d),(6,I K),(21,B true)],[],gh⟩) (by generalize X.queue.map (λl=>LI l)=Q at *;generalize m.nodes.map bp=nL at *;simp only[LI] at *;generalize s.map I=sL at *;simp[hk,h1,h2,hf,-jk,jk]);rw[jT (fn:=q28) rfl rfl h3];simp[al,results,q28,am,ai]
 | none=>
  simp only;unfold putX;have hlt:=(aD.1 h2).1;have hs1:∀C,((gh.set b (.map (bn (eG X.deep K d)))).set g0 (.cells C))[g0]?=some (.cells C):=λC=>List.getElem?_set_self (by simpa using hlt)
  have h2':(gh.set b (.map (bn (eG X.deep K d))))[g0]?=some (.cells (xC m b X)):=by rw[List.getElem?_set_ne hne];exact h2
  have hq2:(X.queue.length+1)*24<=maxBytes:=by have:=MB;omega
  obtain⟨X1,X2,X3,X4,X5,X6⟩:=X;simp only[xC] at *;have hsn:((X2++[s]).map λl=>LI l)=(X2.map λl=>LI l)++[LI s]:=by simp
  rw[hsn];have hql:X2.length=(X2.map λl=>LI l).length:=(bB _).symm;rw[hql] at hq2;generalize X2.map (λl=>LI l)=Q at *;simp only[LP,LN,LI] at *;generalize s.map I=sL at *;generalize m.nodes.map bp=nL at *;generalize m.inits.map bv=iL at *;generalize m.nexts.map bv=xL at *;generalize m.bads.map I=bL at *;generalize m.holds.map I=hL at *
  have h3:=qfh (pg:=pg) (gh:=gh) (g0:=g0) (o0:=0) (v1:= .sl false 1 sL) (x2:=d) (e:= .normal) (s:=⟨[],[],(gh.set b (.map (bn (eG X1 K d)))).set g0 (.cells [.sl false 6 nL,.sl false 2 iL,.sl false 2 xL,.sl false 1 bL,.sl false 1 hL,.mp b,.sl true 1 (Q++[.sl false 1 sL]),I (WI.wrap (X3+1)),I d,B X5,I X6])⟩) (by simp[hk,h1,h2,h2',hf,hs1,hq2,ay]);rw[jT (fn:=q28) rfl rfl h3];simp[al,results,q28,am,ai]
end
section
variable {m:Md} {gh:List GObj}
abbrev mCs (m:Md):List PV:=[LN m.nodes,LP m.inits,LP m.nexts,LI m.bads,LI m.holds]
def mL (gh:List GObj) (m:Md) (ns:List Int):List GObj:=gh++[.cells (mCs m),.cells [LI ns]]
theorem uR {kind:Int} (hl:m.nodes.length<=1000):ac pg 259 [de m,I kind] gh=some (.fn 267 [.ptr true (gh.length+1) 0,.ptr true gh.length 0],mL gh m (ah m.nodes kind)):=by
 have ho:=ik (gh:=gh++[.cells (mCs m)]) (m:=m) (kind:=kind) hl;unfold mL;generalize ah m.nodes kind=K at *;rw[bz] at ho ⊢;unfold mCs at *;simp only[LP,LN,LI] at *;generalize K.map I=kL at *;generalize m.nodes.map bp=nL at *;generalize m.inits.map bv=iL at *;generalize m.nexts.map bv=xL at *;generalize m.bads.map I=bL at *;generalize m.holds.map I=hL at *;refine ao (fn:=q5r) (s:=⟨[(4,.fn 267 [.ptr true (gh.length+1) 0,.ptr true gh.length 0])],[],gh++[.cells [.sl false 6 nL,.sl false 2 iL,.sl false 2 xL,.sl false 1 bL,.sl false 1 hL],.cells [.sl false 1 kL]]⟩) rfl rfl (qjd ?h1) ?r1
 case h1=>simp[ho,ay]
 case r1=>
  have hok:ai (.fn 267 [.ptr true (gh.length+1) 0,.ptr true gh.length 0])=true:=rfl;simp[al,results,q5r,am,aq,hok]
def vx1 (rb g1 g2:Nat) (ns:List Int) (t i:Nat) (gh:List GObj):St:=
 ⟨[(0,.yl rb),(1,.ptr true g1 0),(2,.ptr true g2 0),(4,I (t:Int)),(12,LI ns),(13,I ns.length),(14,I (i:Int))],[],gh⟩
theorem uS {rb g1 g2:Nat} (h2:gh[g2]?=some (.cells (mCs m))) {ns:List Int} (hx:fV m.nodes ns) (hl:ns.length<=1000):∀k i (t:Nat),i+k=ns.length->t+8*k<=10000->
  ab pg q5s (vx1 rb g1 g2 ns t i gh)=some (.normal,⟨[(0,.yl rb),(1,.ptr true g1 0),(2,.ptr true g2 0),(4,I ((t+bo m.nodes (ns.drop i):Nat):Int))],[],gh⟩)
 |0,i,t,h,_=>by
  rw[aQ (by omega),bo,cA];have hlt:¬(i:Int)<(ns.length:Int):=by omega
  refine (bm (s1:=?s1) (qfi ?h1)).trans ?r1
  case h1=>simp only[aF hlt,dK];rfl
  case r1=>simp[keep,bh]
 |k+1,i,t,h,ht=>by
  have hlt:i<ns.length:=by omega
  have hltI:(i:Int)<(ns.length:Int):=by omega
  have e2:WI.wrap ((i:Int)+1)=((i+1:Nat):Int):=by rw[az (by omega) (by omega)];omega
  have hg:(ns.map I)[i]?=some (I ns[i]):=by simp[aA hlt]
  obtain⟨hno,hwd⟩:=hx _ (bX hlt);have hn:=eJ hno;have h0:=hno.1;rw[aL hlt,bo];have ih:=uS (rb:=rb) (g1:=g1) h2 hx hl k (i+1) (t+(wAt m.nodes ns[i]).toNat) (by omega) (by omega);have hat:WI.wrap ((t:Int)+wAt m.nodes ns[i])=((t+(wAt m.nodes ns[i]).toNat:Nat):Int):=by rw[az (by omega) (by omega)];omega
  rw[<-Nat.add_assoc];generalize t+(wAt m.nodes ns[i]).toNat=t2 at *;generalize t2+bo m.nodes (ns.drop (i+1))=R at *;generalize ns[i]=a at *;refine bc (s1:=vx1 rb g1 g2 ns t2 (i+1) gh) (qfi ?_) ih;unfold vx1;unfold wAt at *;generalize hd:m.nodes.getD a.toNat default=d at *;rw[cV d] at hn;simp[hltI,hg,h0,hn,h2,e2,hat,-List.getElem?_map]
def vx3 (rb g1 g2:Nat) (N v0:Int) (ns acc:List Int) (v i:Nat) (gh:List GObj):St:=
 ⟨[(0,.yl rb),(1,.ptr true g1 0),(2,.ptr true g2 0),(7,I (v:Int)),(8,.sl true 1 (acc.map I)),(28,I N),(29,I v0),(33,LI ns),(34,I ns.length),(35,I (i:Int))],[],gh⟩
theorem uT {rb g1 g2:Nat} {N v0:Int} (h2:gh[g2]?=some (.cells (mCs m))) {ns:List Int} (hx:fV m.nodes ns) (hl:ns.length<=1000):∀k i (v:Nat) (acc:List Int),i+k=ns.length->v<65536->acc.length<=i->
  ab pg q5t (vx3 rb g1 g2 N v0 ns acc v i gh)=some (.normal,⟨[(0,.yl rb),(1,.ptr true g1 0),(2,.ptr true g2 0),(8,.sl true 1 ((acc++cu m.nodes (ns.drop i) v).map I)),(28,I N),(29,I v0)],[],gh⟩)
 |0,i,v,acc,h,_,_=>by
  rw[aQ (by omega),cu,bG];have hlt:¬(i:Int)<(ns.length:Int):=by omega
  refine (bm (s1:=?s1) (qfj ?h1)).trans ?r1
  case h1=>simp only[aF hlt,dK];rfl
  case r1=>simp[keep,bh]
 | k+1,i,v,acc,h,hv,ha=>by
  have hlt:i<ns.length:=by omega
  have hltI:(i:Int)<(ns.length:Int):=by omega
  have e2:WI.wrap ((i:Int)+1)=((i+1:Nat):Int):=by rw[az (by omega) (by omega)];omega
  have hg:(ns.map I)[i]?=some (I ns[i]):=by simp[aA hlt]
  obtain⟨hno,hwd⟩:=hx _ (bX hlt);have hn:=eJ hno;have h0:=hno.1;have hmx:(acc.length+1)*8<=maxBytes:=by have:=MB;omega
  rw[aL hlt,cu];have hwn:(((wAt m.nodes ns[i]).toNat:Nat):Int)=wAt m.nodes ns[i]:=Int.toNat_of_nonneg (by omega);have hw8:(wAt m.nodes ns[i]).toNat<=8:=by omega
  have hmask:=tg hw8;have hand:=tf (v:Int) hw8;have hshr:=mf v (wAt m.nodes ns[i]).toNat (by omega);rw[<-hmask,hwn] at hand;rw[hwn] at hshr;have hand2:(v:Int)%(2:Int)^(wAt m.nodes ns[i]).toNat=((v%2^(wAt m.nodes ns[i]).toNat:Nat):Int):=by simp
  rw[hand2] at hand;have ih:=uT (rb:=rb) (g1:=g1) (N:=N) (v0:=v0) h2 hx hl k (i+1) (v/2^(wAt m.nodes ns[i]).toNat) (acc++[((v%2^(wAt m.nodes ns[i]).toNat:Nat):Int)]) (by omega) (Nat.lt_of_le_of_lt (Nat.div_le_self _ _) hv) (by simp;omega);rw[aY,List.singleton_append] at ih;have hnn:0<=wAt m.nodes ns[i]:=by omega
  generalize (acc++((v%2^(wAt m.nodes ns[i]).toNat:Nat):Int)::cu m.nodes (ns.drop (i+1)) (v/2^(wAt m.nodes ns[i]).toNat)).map I=R at *;generalize v%2^(wAt m.nodes ns[i]).toNat=d1 at *;generalize v/2^(wAt m.nodes ns[i]).toNat=d2 at *;generalize ns[i]=a at *;refine bc (s1:=vx3 rb g1 g2 N v0 ns (acc++[(d1:Int)]) d2 (i+1) gh) (qfj ?_) ih;unfold vx3;have hal:(acc.map I).length=acc.length:=by simp
  simp only[bJ,bP,bQ];generalize acc.map I=A at *;unfold wAt at *;generalize hd:m.nodes.getD a.toNat default=d at *;rw[cV d] at hn;simp[hltI,hg,h0,hn,h2,e2,hand,hshr,hnn,hal,hmx,-List.getElem?_map]
def bl {X:Type} (f:X->Nat->X):Nat->X->Nat->X
 |0,x,_=>x
 |k+1,x,v=>bl f k (f x v) (v+1)
variable {X:Type} {G:X->List GObj} {f:X->Nat->X} {Q:Nat->X->Prop} {rb g1 g2 y:Nat} {caps:List PV} {ns:List Int}
structure mM (m:Md) (G:X->List GObj) (f:X->Nat->X) (Q:Nat->X->Prop) (rb g1 g2 y:Nat) (caps:List PV) (ns:List Int):Prop where
 okc:caps.all ak=true
 lrc:∀v x,Q v x->(G x)[rb]?=some (.lrec 1 y caps)
 b1:∀v x,Q v x->(G x)[g1]?=some (.cells [LI ns])
 b2:∀v x,Q v x->(G x)[g2]?=some (.cells (mCs m))
 wd:fV m.nodes ns
 len:ns.length<=1000
 bits:bo m.nodes ns<=10
 step:∀v x,v<2^bo m.nodes ns->Q v x->ac pg y (caps++[LI (cu m.nodes ns v)]++[.yl rb]) (G x)=some (B true,G (f x v))/\Q (v+1) (f x v)
theorem uU (hv:mM m G f Q rb g1 g2 y caps ns):∀k v x,v+k=2^bo m.nodes ns->Q v x->
  ab pg q5v ⟨[(0,.yl rb),(1,.ptr true g1 0),(2,.ptr true g2 0),(28,I ((2^bo m.nodes ns:Nat):Int)),(29,I (v:Int))],[],G x⟩=some (.normal,⟨[],[],G (bl f k x v)⟩)
 |0,v,x,h,_=>by
  rw[bl];have hlt:¬(v:Int)<((2^bo m.nodes ns:Nat):Int):=by omega
  generalize ((2^bo m.nodes ns:Nat):Int)=N at *;refine (bm (s1:=?s1) (qfk ?h1)).trans ?r1
  case h1=>simp only[aF hlt,dK];rfl
  case r1=>simp[keep]
 | k+1,v,x,h,hQ=>by
  have hp:2^bo m.nodes ns<=2^10:=bN (by decide) hv.bits;have hltN:v<2^bo m.nodes ns:=by omega
  have hltI:(v:Int)<((2^bo m.nodes ns:Nat):Int):=by omega
  have e2:WI.wrap ((v:Int)+1)=((v+1:Nat):Int):=by rw[az (by omega) (by omega)];omega
  obtain⟨hs,hQ2⟩:=hv.step v x hltN hQ;have hr:=hv.lrc v x hQ;have hb1:=hv.b1 v x hQ;have hl3:=uT (rb:=rb) (g1:=g1) (N:=((2^bo m.nodes ns:Nat):Int)) (v0:=v) (hv.b2 v x hQ) hv.wd hv.len ns.length 0 v [] (by omega) (by omega) (by simp);have ih:=uU hv k (v+1) (f x v) (by omega) hQ2;rw[bl];rw[bK,bH] at hl3;unfold vx3 at hl3;simp only[bQ,aW] at hl3;have hyl:=λ(F:List GObj->Option (ag×St))=>Ax (f:=F) hr hv.okc (vs:=[LI (cu m.nodes ns v)]) (by simp[ak,PV.cells,PV.one]) hs
  generalize bl f k (f x v) (v+1)=Rx at *;generalize cu m.nodes ns v=dg at *;generalize f x v=x2 at *;generalize ((2^bo m.nodes ns:Nat):Int)=N at *;obtain⟨u,hu⟩:∃u:Int,((v+1:Nat):Int)=u:=⟨_,rfl⟩
  rw[hu] at e2 ih;simp only[LI] at *;have hlI:ns.length=(ns.map I).length:=(bB _).symm;rw[hlI] at hl3;generalize ns.map I=nL at *;generalize dg.map I=dL at *;have hk2:=qje (pg:=pg) (gh:=G x) (v0:= .yl rb) (g1:=g1) (o1:=0) (g2:=g2) (o2:=0) (v8:= .sl true 1 dL) (x28:=N) (x29:=v) (e:= .normal) (s:=⟨[(0,.yl rb),(1,.ptr true g1 0),(2,.ptr true g2 0),(28,I N),(29,I v),(60,B false)],[],G x2⟩) (by simp[hyl])
  have hk3:=qjf (pg:=pg) (gh:=G x2) (v0:= .yl rb) (g1:=g1) (o1:=0) (g2:=g2) (o2:=0) (x28:=N) (x29:=v) (b60:=false) (e:= .normal) (s:=⟨[(0,.yl rb),(1,.ptr true g1 0),(2,.ptr true g2 0),(28,I N),(29,I u)],[],G x2⟩) (by simp[e2]);refine bc (qfk ?h3) ih
  case h3=>simp[hltI,hb1,hl3,hk2,hk3]
theorem uV (hv:mM m G f Q rb g1 g2 y caps ns) {x:X} (hQ:Q 0 x):ac pg 267 [.yl rb,.ptr true g1 0,.ptr true g2 0] (G x)=some (.tup [],G (bl f (2^bo m.nodes ns) x 0)):=by
 have h1:=uS (rb:=rb) (g1:=g1) (hv.b2 0 x hQ) hv.wd hv.len ns.length 0 0 (by omega) (by have:=hv.len;omega);have h2:=uU hv (2^bo m.nodes ns) 0 x (by omega) hQ;have hb1:=hv.b1 0 x hQ;have hsh:cT .i64 1 ((bo m.nodes ns:Nat):Int)=((2^bo m.nodes ns:Nat):Int):=by have hp:2^bo m.nodes ns<=2^10:=bN (by decide) hv.bits;have:=uN (A:=1) (b:=bo m.nodes ns) (by omega) (by have:=hv.bits;omega);simpa using this
 unfold vx1 at h1;rw[bK,cN] at h1;simp only[aW] at h1 h2;have hnn:(0:Int)<=((bo m.nodes ns:Nat):Int):=by omega
 generalize bl f (2^bo m.nodes ns) x 0=Rx at *;generalize ((2^bo m.nodes ns:Nat):Int)=N at *;generalize ((bo m.nodes ns:Nat):Int)=bt at *;simp only[LI] at *;have hlI:ns.length=(ns.map I).length:=(bB _).symm;rw[hlI] at h1;generalize ns.map I=nL at *;have hk1:=qjg (pg:=pg) (gh:=G x) (v0:= .yl rb) (g1:=g1) (o1:=0) (g2:=g2) (o2:=0) (x4:=bt) (e:= .normal) (s:=⟨[],[],G Rx⟩) (by simp[hsh,h2,hnn]);have h3:=qjh (pg:=pg) (gh:=G x) (v0:= .yl rb) (g1:=g1) (o1:=0) (g2:=g2) (o2:=0) (e:= .normal) (s:=⟨[],[],G Rx⟩) (by simp[hb1,h1,hk1]);rw[jT (fn:=q5x) rfl rfl h3];simp[al,results,q5x,am,ai]
end
section
variable {m:Md} {gh:List GObj}
def fX (m:Md) (s:List Int) (deep:Int) (X:XSt) (k:List Int):XSt:=
 if eT m (cj m s k) then
  er m (if fw m (cj m s k)&& !X.bad then {X with bad:=true,badAt:=deep } else X) (dP m (cj m s k)) (WI.wrap (deep+1))
 else X
structure RAt (b g0:Nat) (m:Md) (X:XSt) (s:List Int) (deep:Int) (i:Nat) (G:List GObj):Prop extends XAt b g0 m X G where
 c2:G[i]?=some (.cells [.ptr true g0 0])
 c3:G[i+1]?=some (.cells [LI s])
 c4:G[i+2]?=some (.cells [I deep])
 b2:b<i
 b3:g0<i
theorem RAt.put {b g0 i:Nat} {X:XSt} {s:List Int} {deep:Int} {G:List GObj} (h:RAt b g0 m X s deep i G) (Y:XSt):RAt b g0 m Y s deep i (putX b g0 m Y G):=by have h2:=h.b2;have h3:=h.b3;exact⟨h.toXAt.put Y,by rw[eC (by omega) (by omega)];exact h.c2,by rw[eC (by omega) (by omega)];exact h.c3,by rw[eC (by omega) (by omega)];exact h.c4,h2,h3⟩
theorem uW {b g0 i:Nat} {X:XSt} {s:List Int} {deep:Int} {G:List GObj} (h:RAt b g0 m X s deep i G) (hm:aw m=0) {V:List Int} (hV:V.length=m.nodes.length) (hw:cR m.nodes (ah m.nodes 3) (dP m V)=0) (hq:X.queue.length<=1000000) :
  ab pg q1r ⟨[(2,.ptr true i 0),(4,.ptr true (i+2) 0),(6,LI V)],[],G⟩=some (.normal,⟨[],[],putX b g0 m (er m X (dP m V) (WI.wrap (deep+1))) G⟩):=by
 have e1:=C6 (gh:=G) hm hV;have e2:=uQ h.toXAt hm hw (d:=WI.wrap (deep+1)) hq;have h1:=h.box;have h2:=h.c2;have h4:=h.c4;generalize putX b g0 m (er m X (dP m V) (WI.wrap (deep+1))) G=R at *;generalize dP m V=nx at *;rw[bz] at e1;simp only[xC] at h1;simp only[LP,LN,LI] at *;generalize X.queue.map (λl=>PV.sl false 1 (l.map I))=Q at *;generalize nx.map I=nL' at *;generalize V.map I=vL at *;generalize m.nodes.map bp=nL at *;generalize m.inits.map bv=iL at *;generalize m.nexts.map bv=xL at *;generalize m.bads.map I=bL at *;generalize m.holds.map I=hL at *;refine qji ?_
 simp[h1,h2,h4,e1,e2]
theorem uX {b g0 i:Nat} {X:XSt} {G:List GObj} {t:Bool} {a:Int} (h:XAt b g0 m X G):putX b g0 m {X with bad:=t,badAt:=a } G=G.set g0 (.cells (xC m b {X with bad:=t,badAt:=a })):=by unfold putX;rw[pA h.map]
theorem Dd {b g0 i:Nat} {X:XSt} {s:List Int} {deep:Int} {G:List GObj} (h:RAt b g0 m X s deep i G) (hm:aw m=0) (hs:cR m.nodes (ah m.nodes 3) s=0) {k:List Int} (hk:cR m.nodes (ah m.nodes 2) k=0) (hq:X.queue.length<=1000000) :
  ∃e lh,ab pg q5y ⟨[(2,.ptr true i 0),(3,.ptr true (i+1) 0),(4,.ptr true (i+2) 0),(5,LI k)],[],G⟩=some (.normal,⟨e,lh,putX b g0 m (fX m s deep X k) G⟩):=by
 have hg:=kX hs hk;have hV:(cj m s k).length=m.nodes.length:=j4;have e1:=ub (gh:=G) hm hg;have e2:=C8 (gh:=G) hm hV;have hnx:=pu hm (mH hm hg) hV;have hself:=h.toXAt.self;have hlt:=(aD.1 h.box).1;have hi2:=(aD.1 h.c2).1;have hi4:=(aD.1 h.c4).1;have h3':=h.b3;unfold fX;cases hh:eT m (cj m s k) with
 |false=>
  rw[if_neg (by simp),hself];rw[hh] at e2;have h1:=h.box;have h2:=h.c2;have h3:=h.c3;refine⟨_,_,q9q (e:= .normal) (s:=⟨[(2,.ptr true i 0),(4,.ptr true (i+2) 0),(6,LI (cj m s k)),(8,B (fw m (cj m s k))),(40,B true)],[],G⟩) ?_⟩;generalize fw m (cj m s k)=bb at *;generalize cj m s k=V at *;rw[bz] at e1 e2;simp only[xC] at h1;simp only[LP,LN,LI] at *;generalize X.queue.map (λl=>PV.sl false 1 (l.map I))=Q at *;generalize V.map I=vL at *;generalize s.map I=sL at *;generalize k.map I=kL at *;generalize m.nodes.map bp=nL at *;generalize m.inits.map bv=iL at *;generalize m.nexts.map bv=xL at *
  generalize m.bads.map I=bL at *;generalize m.holds.map I=hL at *;simp[h1,h2,h3,e1,e2]
 | true=>
  rw[if_pos rfl];rw[hh] at e2;cases hb:(fw m (cj m s k)&& !X.bad) with
  |true=>
   rw[if_pos rfl];simp only[aX,Bool.not_eq_true'] at hb;obtain⟨hb1,hb2⟩:=hb;rw[hb1] at e2;have hR:=h.put {X with bad:=true,badAt:=deep };rw[uX (i:=i) h.toXAt] at hR;have hk1:=uW hR hm hV hnx hq;have hpp:=pC (m:=m) (gh:=G) (X:={X with bad:=true,badAt:=deep }) (Y:=er m {X with bad:=true,badAt:=deep } (dP m (cj m s k)) (WI.wrap (deep+1))) h.ne;rw[uX (i:=i) h.toXAt] at hpp;rw[hpp] at hk1;generalize putX b g0 m (er m {X with bad:=true,badAt:=deep } (dP m (cj m s k)) (WI.wrap (deep+1))) G=R at *;have h1:=h.box;have h2:=h.c2;have h3:=h.c3;have h4:=h.c4
   have hs1:∀C,(G.set g0 (.cells C))[g0]?=some (.cells C):=λC=>List.getElem?_set_self hlt
   have hs2:∀C,(G.set g0 (.cells C))[i]?=some (.cells [.ptr true g0 0]):=λC=>by rw[List.getElem?_set_ne (by omega)];exact h2
   have hs4:∀C,(G.set g0 (.cells C))[i+2]?=some (.cells [I deep]):=λC=>by rw[List.getElem?_set_ne (by omega)];exact h4
   refine⟨_,_,q9q (e:= .normal) (s:=⟨[],[],R⟩) ?_⟩;generalize cj m s k=V at *;have hkb2:=λ(C:List PV) (y:Option (ag×St))=>sW (gh:=G) (gh':=G.set g0 (.cells C)) (b:=i) (o:=0) (x:=y) hi2 (by rw[hs2,h2])
   have hkb4:=λ(C:List PV) (y:Option (ag×St))=>sW (gh:=G) (gh':=G.set g0 (.cells C)) (b:=i+2) (o:=0) (x:=y) hi4 (by rw[hs4,h4])
   rw[bz] at e1 e2;simp only[xC] at h1 hk1;rw[hb2] at h1;simp only[LP,LN,LI] at *;generalize X.queue.map (λl=>PV.sl false 1 (l.map I))=Q at *;generalize V.map I=vL at *;generalize s.map I=sL at *;generalize k.map I=kL at *;generalize m.nodes.map bp=nL at *;generalize m.inits.map bv=iL at *;generalize m.nexts.map bv=xL at *;generalize m.bads.map I=bL at *;generalize m.holds.map I=hL at *;simp[h1,h2,h3,h4,e1,e2,hs1,hs2,hkb2,hkb4,ay,hk1]
  | false=>
   rw[if_neg (by simp)];have hk1:=uW h hm hV hnx hq;generalize putX b g0 m (er m X (dP m (cj m s k)) (WI.wrap (deep+1))) G=R at *;have h1:=h.box;have h2:=h.c2;have h3:=h.c3;refine⟨_,_,q9q (e:= .normal) (s:=⟨[],[],R⟩) ?_⟩;generalize fw m (cj m s k)=bb at *;generalize cj m s k=V at *;rw[bz] at e1 e2;simp only[xC] at h1;simp only[LP,LN,LI] at *;generalize X.queue.map (λl=>PV.sl false 1 (l.map I))=Q at *;generalize V.map I=vL at *;generalize s.map I=sL at *;generalize k.map I=kL at *;generalize m.nodes.map bp=nL at *;generalize m.inits.map bv=iL at *
   generalize m.nexts.map bv=xL at *;generalize m.bads.map I=bL at *;generalize m.holds.map I=hL at *;cases bb with
   |false=>simp[h1,h2,h3,e1,e2,hk1]
   |true=>
    have hb2:X.bad=true:=by simpa using hb
    rw[hb2] at h1;simp[h1,h2,h3,e1,e2,hk1]
end
section
variable {m:Md} {gh:List GObj}
theorem mN {b g0 i:Nat} {X:XSt} {o:GObj} (h1:i≠b) (h2:i≠g0):(putX b g0 m X gh).set i o=putX b g0 m X (gh.set i o):=by unfold putX;have e1:=List.set_comm (l:=gh.set b (GObj.map (bn X.deep))) (GObj.cells (xC m b X)) o (Ne.symm h2);have e2:=List.set_comm (l:=gh) (GObj.map (bn X.deep)) o (Ne.symm h1);rw[e1,e2]
theorem mO {α:Type} (l:List α) (a o:α):(l++[a]).set l.length o=l++[o]:=by simp
theorem uY (X:XSt) (s:List Int) (d:Int):(er m X s d).queue.length<=X.queue.length+1:=by
 unfold er;split
 ·omega
 ·simp
theorem De (s:List Int) (deep:Int) (X:XSt) (k:List Int):(fX m s deep X k).queue.length<=X.queue.length+1:=by
 unfold fX;split
 ·refine bW (uY _ _ _) ?_
  split<;>simp
 ·omega
def lc (m:Md) (s:List Int) (deep:Int) (X:XSt) (v:Nat):XSt:=fX m s deep X (cu m.nodes (ah m.nodes 2) v)
def fx (m:Md) (s:List Int) (deep:Int) (X:XSt):XSt:=bl (lc m s deep) (2^bo m.nodes (ah m.nodes 2)) X 0
def cS (m:Md) (g0:Nat) (s:List Int) (deep:Int) (gh:List GObj):List GObj:=
 gh++[.cells [.ptr true g0 0],.cells [LI s],.cells [I deep],.cells (mCs m),.cells [LI (ah m.nodes 2)]]
abbrev eD (L:Nat):List PV:=[.ptr true L 0,.ptr true (L+1) 0,.ptr true (L+2) 0]
theorem uZ {g0:Nat} {s:List Int} {deep:Int}:(cS m g0 s deep gh).length=gh.length+5:=by simp[cS]
theorem Df {b g0:Nat} {X:XSt} (hb:b<gh.length) (hg0:g0<gh.length) (hne:b≠g0) (hm:aw m=0) {s:List Int} (hs:cR m.nodes (ah m.nodes 3) s=0) {deep:Int} (hq:X.queue.length<=1000000) {k:List Int} (hk:cR m.nodes (ah m.nodes 2) k=0) :
  ac pg 395 (eD gh.length++[LI k]++[.yl (gh.length+5)]) (putX b g0 m X (cS m g0 s deep gh++[.lrec 1 395 (eD gh.length)]))=some (B true,putX b g0 m (fX m s deep X k) (cS m g0 s deep gh++[.lrec 1 395 (eD gh.length)])):=by
 have hl:=uZ (m:=m) (gh:=gh) (g0:=g0) (s:=s) (deep:=deep);have hset:∀(Y:XSt) (o o':GObj),(putX b g0 m Y (cS m g0 s deep gh++[o])).set (gh.length+5) o'=putX b g0 m Y (cS m g0 s deep gh++[o']):=λY o o'=>by rw[mN (by omega) (by omega),<-hl,mO]
 have hget:∀(Y:XSt) (o:GObj),(putX b g0 m Y (cS m g0 s deep gh++[o]))[gh.length+5]?=some o:=λY o=>by rw[eC (by omega) (by omega),<-hl];simp
 have hR:RAt b g0 m X s deep gh.length (putX b g0 m X (cS m g0 s deep gh++[.lrec 2 395 (eD gh.length)])):=by
  refine⟨⟨?_,?_,hne⟩,?_,?_,?_,hb,hg0⟩
  ·unfold putX
   rw[List.getElem?_set_ne hne.symm,List.getElem?_set_self (by simp[cS];omega)]
  ·unfold putX
   rw[List.getElem?_set_self (by simp[cS];omega)]
  ·rw[eC (by omega) (by omega)];simp[cS]
  ·rw[eC (by omega) (by omega)];simp[cS]
  ·rw[eC (by omega) (by omega)];simp[cS]
 obtain⟨e,lh,hbody⟩:=Dd hR hm hs hk hq;rw[pC hne] at hbody;have has:=qjj (pg:=pg) (gh:=putX b g0 m X (cS m g0 s deep gh++[.lrec 1 395 (eD gh.length)])) (g2:=gh.length) (o2:=0) (g3:=gh.length+1) (o3:=0) (g4:=gh.length+2) (o4:=0) (v22:=LI k) (e:= .normal) (s:=⟨[(2,.ptr true gh.length 0),(3,.ptr true (gh.length+1) 0),(4,.ptr true (gh.length+2) 0),(5,LI k)],[],putX b g0 m X (cS m g0 s deep gh++[.lrec 1 395 (eD gh.length)])⟩) (by simp)
 have has2:ab pg q19.as ⟨(q19.ks++[q19.t]).zip (eD gh.length++[LI k]++[.yl (gh.length+5)]),[],putX b g0 m X (cS m g0 s deep gh++[.lrec 1 395 (eD gh.length)])⟩=some (.normal,⟨[(2,.ptr true gh.length 0),(3,.ptr true (gh.length+1) 0),(4,.ptr true (gh.length+2) 0),(5,LI k)],[],putX b g0 m X (cS m g0 s deep gh++[.lrec 1 395 (eD gh.length)])⟩):=by simpa [q19] using has
 have:=sY (pg:=pg) (y:=395) (b:=gh.length+5) (Y:=q19) (caps:=eD gh.length) (v:=LI k) (gh:=putX b g0 m X (cS m g0 s deep gh++[.lrec 1 395 (eD gh.length)]))
  (s1:=⟨[(2,.ptr true gh.length 0),(3,.ptr true (gh.length+1) 0),(4,.ptr true (gh.length+2) 0),(5,LI k)],[],putX b g0 m X (cS m g0 s deep gh++[.lrec 1 395 (eD gh.length)])⟩) (s2:=⟨e,lh,putX b g0 m (fX m s deep X k) (cS m g0 s deep gh++[.lrec 2 395 (eD gh.length)])⟩) rfl rfl (hget X _) has2 (hget X _) (by
  simp only[hset];exact hbody) (hget _ _)
 rw[this];simp only[hset]
theorem Dg {b g0:Nat} {X:XSt} (h:XAt b g0 m X gh) (hm:aw m=0) {s:List Int} (hs:cR m.nodes (ah m.nodes 3) s=0) {deep:Int} (hd:bq X.deep (bw m s)=some deep) (hq:X.queue.length<=900000) :
  ac pg 268 [.ptr true g0 0,LI s] gh=some (.tup [],putX b g0 m (fx m s deep X) (cS m g0 s deep gh++[.lrec 0 395 (eD gh.length)])):=by
 have hb:=(aD.1 h.map).1;have hg0:=(aD.1 h.box).1;have hne:=h.ne;have hl:=uZ (m:=m) (gh:=gh) (g0:=g0) (s:=s) (deep:=deep);have hset:∀(Y:XSt) (o o':GObj),(putX b g0 m Y (cS m g0 s deep gh++[o])).set (gh.length+5) o'=putX b g0 m Y (cS m g0 s deep gh++[o']):=λY o o'=>by rw[mN (by omega) (by omega),<-hl,mO]
 have hget:∀(Y:XSt) (o:GObj),(putX b g0 m Y (cS m g0 s deep gh++[o]))[gh.length+5]?=some o:=λY o=>by rw[eC (by omega) (by omega),<-hl];simp
 have hself:∀(o:GObj),putX b g0 m X (cS m g0 s deep gh++[o])=cS m g0 s deep gh++[o]:=λo=>by
  refine XAt.self ⟨?_,?_,hne⟩
  ·rw[aJ (by omega)];unfold cS;rw[aJ hb];exact h.map
  ·rw[aJ (by omega)];unfold cS;rw[aJ hg0];exact h.box
 have hbl:=(dC hm).1;have hp:2^bo m.nodes (ah m.nodes 2)<=2^6:=bN (by decide) hbl;have hv:mM m (λx=>putX b g0 m x (cS m g0 s deep gh++[.lrec 1 395 (eD gh.length)])) (lc m s deep) (λv x=>x.queue.length<=900000+v) (gh.length+5) (gh.length+4) (gh.length+3) 395 (eD gh.length) (ah m.nodes 2):=by
  refine⟨rfl,λv x _=>hget x _,λv x _=>?_,λv x _=>?_,iP hm 2,by have:=fJ (en hm) 2;omega,by omega,λv x hlt hQ=>⟨?_,?_⟩⟩
  ·show (putX _ _ _ _ _)[_]?=_
   rw[eC (by omega) (by omega)];simp[cS]
  ·show (putX _ _ _ _ _)[_]?=_
   rw[eC (by omega) (by omega)];simp[cS]
  ·exact Df hb hg0 hne hm hs (by omega) (im _ _)
  ·exact bW (De _ _ _ _) (by omega)
 have hvec:=uV hv (x:=X) (by omega);simp only[hself] at hvec;have hrf:=sX (pg:=pg) (g:= .t 21) (y:=395) (F:=267) (ks:=[2,3,4]) (e:=[(2,.ptr true gh.length 0),(3,.ptr true (gh.length+1) 0),(4,.ptr true (gh.length+2) 0),(21,.fn 267 [.ptr true (gh.length+4) 0,.ptr true (gh.length+3) 0])]) (lh:=[]) (gh:=cS m g0 s deep gh) (caps:=[.ptr true (gh.length+4) 0,.ptr true (gh.length+3) 0]) (vs:=eD gh.length) rfl rfl rfl (by rw[hl];exact hvec) (by rw[hl];exact hget _ _);rw[hl,hset] at hrf
 have hkey:=pz (gh:=gh++[.cells [.ptr true g0 0],.cells [LI s]]) (g0:=g0) (b:=b) (X:=X) (by rw[aJ hg0];exact h.box) hm hs;rw[show dx m.nodes (ah m.nodes 3) s=bw m s from rfl] at hkey;have hvs:=uR (gh:=gh++[.cells [.ptr true g0 0],.cells [LI s],.cells [I deep]]) (m:=m) (kind:=2) (by have:=(en hm).len;omega);unfold mL at hvs;have e0:gh++[GObj.cells [.ptr true g0 0],.cells [LI s],.cells [I deep]]++[.cells (mCs m),.cells [LI (ah m.nodes 2)]]=cS m g0 s deep gh:=by simp[cS]
 rw[e0] at hvs;rw[show bl (lc m s deep) (2^bo m.nodes (ah m.nodes 2)) X 0=fx m s deep X from rfl] at hrf;have h1:=h.box;have h2:=h.map;have hm1:(gh++[GObj.cells [.ptr true g0 0],.cells [LI s]])[b]?=some (.map (bn X.deep)):=by rw[aJ hb];exact h2
 have hx1:(gh++[GObj.cells [.ptr true g0 0],.cells [LI s]])[g0]?=some (.cells (xC m b X)):=by rw[aJ hg0];exact h1
 have hx2:(gh++[GObj.cells [.ptr true g0 0],.cells [LI s],.cells [I deep]])[g0]?=some (.cells (xC m b X)):=by rw[aJ hg0];exact h1
 generalize putX b g0 m (fx m s deep X) (cS m g0 s deep gh++[.lrec 0 395 (eD gh.length)])=R at *;generalize cS m g0 s deep gh=V at *;have hrf2:ab pg q5z ⟨[(2,.ptr true gh.length 0),(3,.ptr true (gh.length+1) 0),(4,.ptr true (gh.length+2) 0),(21,.fn 267 [.ptr true (gh.length+4) 0,.ptr true (gh.length+3) 0])],[],V⟩=some (.normal,⟨[],[],R⟩):=by
  show ab pg (.post (.rangeF (.t 21) 395 [2,3,4]) [] 0) _=_
  rw[iZ,hrf];rfl
 rw[bz] at hvs;simp only[xC] at hx1 hx2;generalize bw m s=K at *;simp only[LP,LN,LI] at *;generalize X.queue.map (λl=>PV.sl false 1 (l.map I))=Q at *;generalize s.map I=sL at *;generalize m.nodes.map bp=nL at *;generalize m.inits.map bv=iL at *;generalize m.nexts.map bv=xL at *;generalize m.bads.map I=bL at *;generalize m.holds.map I=hL at *;have h3:=qjk (pg:=pg) (gh:=gh) (g0:=g0) (o0:=0) (v1:= .sl false 1 sL) (e:= .normal) (s:=⟨[],[],R⟩) (by simp[hm1,hx1,hx2,hkey,hd,hvs,hrf2]);rw[jT (fn:=q60) rfl rfl h3];simp[al,results,q60,am,ai]
end
theorem jq:∀{l:List (Int×Int)} {k v:Int},bq l k=none->eG l k v=l++[(k,v)]
 |[],_,_,_=>rfl
 | (a,u)::l,k,v,h=>by
  simp only[bq] at h;split at h
  ·cases h
  ·rename_i hk
   simp only[eG];rw[if_neg hk,jq h];rfl
theorem pD:∀{l:List (Int×Int)} {k v q:Int},bq (l++[(k,v)]) q=match bq l q with
  |some d=>some d
  |none=>if q=k then some v else none
 |[],k,v,q=>by simp[bq]
 |(a,u)::l,k,v,q=>by
  simp only[bI,bq];split
  ·rfl
  ·exact pD
theorem findI_none:∀{l:List (Int×Int)} {k:Int},bq l k=none↔∀p∈l,p.1≠k
 |[],k=>by simp[bq]
 | (a,u)::l,k=>by
  simp only[bq,List.mem_cons];by_cases h:k=a
  ·simp[h]
  ·rw[if_neg h,findI_none]
   constructor
   ·intro h2 p hp
    rcases hp with rfl|hp
    ·exact λe=>h e.symm
    ·exact h2 p hp
   ·exact λh2 p hp=>h2 p (.inr hp)
theorem j8:∀{l:List (Int×Int)} {k d:Int},bq l k=some d->(k,d)∈l
 |[],_,_,h=>by simp[bq] at h
 |(a,u)::l,k,d,h=>by
  simp only[bq] at h;split at h
  ·rename_i hk;cases h;subst hk;exact bE
  ·exact bF _ (j8 h)
section
variable {m:Md} {gh:List GObj}
def SOk (m:Md) (s:List Int):Prop:=cR m.nodes (ah m.nodes 3) s=0
def nS (m:Md):Nat:=2^bo m.nodes (ah m.nodes 3)
def nI (m:Md):Nat:=2^bo m.nodes (ah m.nodes 2)
theorem iT {s:List Int} (h:SOk m s):bw m s<nS m:=px (mJ h).2
structure XInv (m:Md) (X:XSt):Prop where
 q:∀s∈X.queue,SOk m s/\bq X.deep (bw m s)≠none
 keys:∀p∈X.deep,∃k:Nat,p.1=k/\k<nS m
 nd:(X.deep.map (·.1)).Nodup
theorem XInv.len {X:XSt} (h:XInv m X):X.deep.length<=nS m:=by have h1:=List.Nodup.length_le_of_subset h.nd (l₂:=(List.range (nS m)).map λ(k:Nat)=>(k:Int)) (λa ha=>by obtain⟨p,hp,rfl⟩:=List.mem_map.1 ha;obtain⟨k,hk,hlt⟩:=h.keys p hp;exact List.mem_map.2 ⟨k,by simpa using hlt,hk.symm⟩);simpa using h1
theorem XInv.come {X:XSt} (h:XInv m X) {s:List Int} (hs:SOk m s) (d:Int):XInv m (er m X s d):=by
 unfold er;split
 ·exact h
 ·rename_i hf
  rw[jq hf];refine⟨λt ht=>?_,λp hp=>?_,?_⟩
  ·rcases bY.1 ht with ht|ht
   ·obtain⟨h1,h2⟩:=h.q t ht
    refine⟨h1,?_⟩;rw[pD];split
    ·simp
    ·rename_i h3;exact absurd h3 h2
   ·simp at ht
    subst ht;refine⟨hs,?_⟩;rw[pD,hf];simp
  ·rcases bY.1 hp with hp|hp
   ·exact h.keys p hp
   ·simp at hp
    subst hp;exact⟨_,rfl,iT hs⟩
  ·rw[bJ,cJ]
   refine⟨h.nd,by simp,λa ha b hb=>?_⟩;simp at hb;subst hb;obtain⟨p,hp,rfl⟩:=List.mem_map.1 ha;exact findI_none.1 hf p hp
theorem XInv.bad {X:XSt} (h:XInv m X) (t:Bool) (a:Int):XInv m {X with bad:=t,badAt:=a }:=⟨h.q,h.keys,h.nd⟩
theorem XInv.pop {X:XSt} {s:List Int} {q:List (List Int)} (h:XInv m X) (hq:X.queue=s::q):XInv m {X with queue:=q }:=⟨λt ht=>h.q t (by rw[hq];exact bF _ ht),h.keys,h.nd⟩
theorem pE (hm:aw m=0) {s k:List Int} (hs:SOk m s) (hk:cR m.nodes (ah m.nodes 2) k=0):SOk m (dP m (cj m s k)):=
 pu hm (mH hm (kX hs hk)) j4
theorem XInv.vis (hm:aw m=0) {X:XSt} (h:XInv m X) {s:List Int} (hs:SOk m s) {k:List Int} (hk:cR m.nodes (ah m.nodes 2) k=0) (deep:Int):XInv m (fX m s deep X k):=by
 unfold fX;split
 ·refine XInv.come ?_ (pE hm hs hk) _
  split
  ·exact h.bad _ _
  ·exact h
 ·exact h
theorem ld {X:Type} {P:X->Prop} {f:X->Nat->X} (h:∀x v,P x->P (f x v)):∀(k:Nat) (x:X) (v:Nat),P x->P (bl f k x v)
 |0,x,v,hx=>hx
 |k+1,x,v,hx=>ld h k (f x v) (v+1) (h x v hx)
theorem XInv.all (hm:aw m=0) {X:XSt} (h:XInv m X) {s:List Int} (hs:SOk m s) (deep:Int):XInv m (fx m s deep X):=
 ld (P:=XInv m) (λx v hx=>hx.vis hm hs (im _ v) deep) _ _ _ h
def eK (m:Md) (X:XSt):Nat:=nS m-X.deep.length+X.queue.length
theorem pF {X:XSt} (h:XInv m X) {s:List Int} (hs:SOk m s) (d:Int):eK m (er m X s d)=eK m X:=by
 have hc:=(h.come hs d).len;unfold eK;unfold er at *;split
 ·rfl
 ·rename_i hf
  simp only[hf,jq hf] at hc;rw[jq hf];simp at hc ⊢;omega
theorem Dh (hm:aw m=0) {X:XSt} (h:XInv m X) {s:List Int} (hs:SOk m s) {k:List Int} (hk:cR m.nodes (ah m.nodes 2) k=0) (deep:Int):eK m (fX m s deep X k)=eK m X:=by
 unfold fX;split
 ·split
  ·rw[pF (h.bad _ _) (pE hm hs hk)];rfl
  ·exact pF h (pE hm hs hk) _
 ·rfl
theorem Di (hm:aw m=0) {X:XSt} (h:XInv m X) {s:List Int} (hs:SOk m s) (deep:Int):eK m (fx m s deep X)=eK m X:=
 (ld (P:=λx=>XInv m x/\eK m x=eK m X) (λx v hx=>⟨hx.1.vis hm hs (im _ v) deep,(Dh hm hx.1 hs (im _ v) deep).trans hx.2⟩) _ X 0 ⟨h,rfl⟩).2
def fy (m:Md):Nat->XSt->XSt
 |0,X=>X
 |n+1,X=>match X.queue with
  |[]=>X
  |s::q=>fy m n (fx m s ((bq X.deep (bw m s)).getD 0) {X with queue:=q })
structure Fr (b g0:Nat) (G G':List GObj):Prop where
 len:G.length<=G'.length
 get:∀i,i<G.length->i≠b->i≠g0->G'[i]?=G[i]?
theorem Fr.trans {b g0:Nat} {G G' G'':List GObj} (h:Fr b g0 G G') (k:Fr b g0 G' G''):Fr b g0 G G'':=
 ⟨bW h.len k.len,λi hi h1 h2=>(k.get i (aS hi h.len) h1 h2).trans (h.get i hi h1 h2)⟩
theorem Fr.putX {b g0:Nat} {G:List GObj} (X:XSt) (l:List GObj):Fr b g0 G (putX b g0 m X (G++l)):=
 ⟨by rw[pB];simp,λi hi h1 h2=>by rw[eC h1 h2,aJ hi]⟩
theorem XAt.app {b g0:Nat} {X Y:XSt} {G:List GObj} (h:XAt b g0 m X G) (l:List GObj):XAt b g0 m Y (Lw.putX b g0 m Y (G++l)):=by have h1:=(aD.1 h.map).1;have h2:=(aD.1 h.box).1;exact XAt.put (X:=X) ⟨by rw[aJ h1];exact h.map,by rw[aJ h2];exact h.box,h.ne⟩ Y
theorem Dj (hm:aw m=0) {b g0 i3:Nat} (h1:i3≠b) (h2:i3≠g0):∀(n:Nat) (X:XSt) (G:List GObj),n<=100000->eK m X<=n->XInv m X->XAt b g0 m X G->G[i3]?=some (.cells [.ptr true g0 0])->
  ∃G',ab pg q5n ⟨[(3,.ptr true i3 0)],[],G⟩=some (.normal,⟨[(3,.ptr true i3 0)],[],G'⟩)/\XAt b g0 m (fy m n X) G'/\Fr b g0 G G'/\XInv m (fy m n X)/\(fy m n X).queue=[]:=by
 intro n
 induction n with
 | zero=>
  intro X G hn hp hI hX h3;have hq:X.queue=[]:=by unfold eK at hp;exact List.length_eq_zero_iff.1 (by omega)
  refine⟨G,?_,hX,⟨cM _,λ_ _ _ _=>rfl⟩,hI,hq⟩;have hb:=hX.box;simp only[xC,hq,bQ] at hb;refine (bm (s1:=⟨[(3,.ptr true i3 0),(23,B false)],[],G⟩) (q9r ?h1)).trans ?r1
  case h1=>simp[h3,hb]
  case r1=>simp[keep,bh]
 | succ n ih=>
  intro X G hn hp hI hX h3;cases hq:X.queue with
  | nil=>
   refine⟨G,?_,?_,⟨cM _,λ_ _ _ _=>rfl⟩,?_,?_⟩
   ·have hb:=hX.box
    simp only[xC,hq,bQ] at hb;refine (bm (s1:=⟨[(3,.ptr true i3 0),(23,B false)],[],G⟩) (q9r ?h1)).trans ?r1
    case h1=>simp[h3,hb]
    case r1=>simp[keep,bh]
   ·simp only[fy,hq];exact hX
   ·simp only[fy,hq];exact hI
   ·simp only[fy,hq]
  | cons s q=>
   obtain⟨hs,hd⟩:=hI.q s (by rw[hq];exact bE);obtain⟨d,hd⟩:=Option.ne_none_iff_exists'.1 hd;have hIp:=hI.pop hq;have hlen:=hI.len;have hn10:nS m<=1024:=by have:=bN (n:=2) (by decide) (dC hm).2;exact this
   have hpot:eK m {X with queue:=q }+1=eK m X:=by unfold eK;rw[hq];simp;omega
   have hql:q.length<=100000:=by have:eK m X=nS m-X.deep.length+X.queue.length:=rfl;rw[hq] at this;simp at this;omega
   have hb:=hX.box;have hbl:=(aD.1 hX.box).1;have hX2:XAt b g0 m {X with queue:=q } (G.set g0 (.cells (xC m b {X with queue:=q }))):=by refine⟨?_,List.getElem?_set_self hbl,hX.ne⟩;rw[List.getElem?_set_ne hX.ne.symm];exact hX.map
   have hv:=Dg hX2 hm hs (deep:=d) hd (by show q.length<=900000;omega);generalize hG2:putX b g0 m (fx m s d {X with queue:=q }) (cS m g0 s d (G.set g0 (.cells (xC m b {X with queue:=q })))++[.lrec 0 395 (eD (G.set g0 (.cells (xC m b {X with queue:=q }))).length)])=G2 at hv;have hX3:XAt b g0 m (fx m s d {X with queue:=q }) G2:=by rw[<-hG2];unfold cS;rw[aY];exact hX2.app _
   have hF:Fr b g0 G G2:=by
    have:Fr b g0 (G.set g0 (.cells (xC m b {X with queue:=q }))) G2:=by rw[<-hG2];unfold cS;rw[aY];exact Fr.putX _ _
    refine⟨by have:=this.len;simpa using this,λi hi h1 h2=>?_⟩;rw[this.get i (by simpa using hi) h1 h2,List.getElem?_set_ne (Ne.symm h2)]
   have h3':G2[i3]?=some (.cells [.ptr true g0 0]):=by rw[hF.get i3 (aD.1 h3).1 h1 h2];exact h3
   obtain⟨G',r1,r2,r3,r4,r5⟩:=ih (fx m s d {X with queue:=q }) G2 (by omega) (by rw[Di hm hIp hs];omega) (hIp.all hm hs d) hX3 h3';have hbe:fy m (n+1) X=fy m n (fx m s d {X with queue:=q }):=by simp only[fy,hq,hd,Option.getD_some]
   rw[hbe];refine⟨G',?_,r2,hF.trans r3,r4,r5⟩;refine bc (s1:=⟨[(3,.ptr true i3 0)],[],G2⟩) (q9r ?_) r1;obtain⟨X1,X2,X3,X4,X5,X6⟩:=X;simp only at hq;subst hq;simp only[xC,bP] at hb hv;have hs1:∀C,(G.set g0 (.cells C))[g0]?=some (.cells C):=λC=>List.getElem?_set_self hbl
   have hs3:∀C,(G.set g0 (.cells C))[i3]?=some (.cells [.ptr true g0 0]):=λC=>by rw[List.getElem?_set_ne (Ne.symm h2)];exact h3
   simp only[LP,LN,LI] at *;generalize q.map (λl=>PV.sl false 1 (l.map I))=Q at *;generalize s.map I=sL at *;generalize m.nodes.map bp=nL at *;generalize m.inits.map bv=iL at *;generalize m.nexts.map bv=xL at *;generalize m.bads.map I=bL at *;generalize m.holds.map I=hL at *;simp[h3,hb,hs1,hs3,hv,ay]
def gW (m:Md) (x:XSt) (v:Nat):XSt:=er m x (dA m (cu m.nodes (ah m.nodes 3) v)) 0
def xs0:XSt:=⟨[],[],0,0,false,0⟩
def fz (m:Md):XSt:=bl (gW m) (nS m) xs0 0
def eE (m:Md):XSt:=fy m 2048 (fz m)
theorem iU (hm:aw m=0) (v:Nat):SOk m (dA m (cu m.nodes (ah m.nodes 3) v)):=Db hm (im _ v)
theorem u5:XInv m xs0:=⟨λs hs=>by simp[xs0] at hs,λp hp=>by simp[xs0] at hp,by simp[xs0]⟩
theorem u6 (hm:aw m=0):XInv m (fz m):=
 ld (P:=XInv m) (λx v hx=>hx.come (iU hm v) 0) _ _ _ u5
theorem Dk (hm:aw m=0):eK m (fz m)=nS m:=
 (ld (P:=λx=>XInv m x/\eK m x=nS m) (λx v hx=>⟨hx.1.come (iU hm v) 0,(pF hx.1 (iU hm v) 0).trans hx.2⟩) _ xs0 0 ⟨u5,by simp[eK,xs0]⟩).2
def exG (gh:List GObj) (m:Md):List GObj:=
 gh++[.cells (mCs m),.map (bn []),.cells (xC m (gh.length+1) xs0),.cells [.ptr true (gh.length+2) 0],.cells (mCs m),.cells [LI (ah m.nodes 3)]]
abbrev exC (L:Nat):List PV:=[.ptr true L 0,.ptr true (L+3) 0]
theorem u7:(exG gh m).length=gh.length+6:=by simp[exG]
theorem Dl (hm:aw m=0) {X:XSt} (hq:X.queue.length<=1000000) (v:Nat) :
  ac pg 393 (exC gh.length++[LI (cu m.nodes (ah m.nodes 3) v)]++[.yl (gh.length+6)]) (putX (gh.length+1) (gh.length+2) m X (exG gh m++[.lrec 1 393 (exC gh.length)]))=some (B true,putX (gh.length+1) (gh.length+2) m (gW m X v) (exG gh m++[.lrec 1 393 (exC gh.length)])):=by
 have hl:=u7 (m:=m) (gh:=gh);have hset:∀(Y:XSt) (o o':GObj),(putX (gh.length+1) (gh.length+2) m Y (exG gh m++[o])).set (gh.length+6) o'=putX (gh.length+1) (gh.length+2) m Y (exG gh m++[o']):=λY o o'=>by rw[mN (by omega) (by omega),<-hl,mO]
 have hget:∀(Y:XSt) (o:GObj),(putX (gh.length+1) (gh.length+2) m Y (exG gh m++[o]))[gh.length+6]?=some o:=λY o=>by rw[eC (by omega) (by omega),<-hl];simp
 have hX:XAt (gh.length+1) (gh.length+2) m X (putX (gh.length+1) (gh.length+2) m X (exG gh m++[.lrec 2 393 (exC gh.length)])):=
  XAt.put (X:=xs0) ⟨by simp[exG,xs0],by simp[exG],by omega⟩ X
 have e1:=CZ (gh:=putX (gh.length+1) (gh.length+2) m X (exG gh m++[.lrec 2 393 (exC gh.length)])) hm (mI (L:=m.nodes) (ns:=ah m.nodes 3) (v:=v));have e2:=uQ hX hm (iU hm v) (d:=0) hq;rw[pC (by omega)] at e2;have g0:(putX (gh.length+1) (gh.length+2) m X (exG gh m++[.lrec 2 393 (exC gh.length)]))[gh.length]?=some (.cells (mCs m)):=by rw[eC (by omega) (by omega)];simp[exG]
 have g3:(putX (gh.length+1) (gh.length+2) m X (exG gh m++[.lrec 2 393 (exC gh.length)]))[gh.length+3]?=some (.cells [.ptr true (gh.length+2) 0]):=by rw[eC (by omega) (by omega)];simp[exG]
 have has:=qjl (pg:=pg) (gh:=putX (gh.length+1) (gh.length+2) m X (exG gh m++[.lrec 1 393 (exC gh.length)])) (g1:=gh.length) (o1:=0) (g3:=gh.length+3) (o3:=0) (v12:=LI (cu m.nodes (ah m.nodes 3) v)) (e:= .normal) (s:=⟨[(1,.ptr true gh.length 0),(3,.ptr true (gh.length+3) 0),(4,LI (cu m.nodes (ah m.nodes 3) v))],[],putX (gh.length+1) (gh.length+2) m X (exG gh m++[.lrec 1 393 (exC gh.length)])⟩) (by simp)
 have has2:ab pg q18.as ⟨(q18.ks++[q18.t]).zip (exC gh.length++[LI (cu m.nodes (ah m.nodes 3) v)]++[.yl (gh.length+6)]),[],putX (gh.length+1) (gh.length+2) m X (exG gh m++[.lrec 1 393 (exC gh.length)])⟩=some (.normal,⟨[(1,.ptr true gh.length 0),(3,.ptr true (gh.length+3) 0),(4,LI (cu m.nodes (ah m.nodes 3) v))],[],putX (gh.length+1) (gh.length+2) m X (exG gh m++[.lrec 1 393 (exC gh.length)])⟩):=by simpa [q18] using has
 have hbody:ab pg q5l ⟨[(1,.ptr true gh.length 0),(3,.ptr true (gh.length+3) 0),(4,LI (cu m.nodes (ah m.nodes 3) v))],[],putX (gh.length+1) (gh.length+2) m X (exG gh m++[.lrec 2 393 (exC gh.length)])⟩=some (.normal,⟨[],[],putX (gh.length+1) (gh.length+2) m (gW m X v) (exG gh m++[.lrec 2 393 (exC gh.length)])⟩):=by
  unfold gW;generalize putX (gh.length+1) (gh.length+2) m (er m X (dA m (cu m.nodes (ah m.nodes 3) v)) 0) (exG gh m++[.lrec 2 393 (exC gh.length)])=R at *;generalize putX (gh.length+1) (gh.length+2) m X (exG gh m++[.lrec 2 393 (exC gh.length)])=G at *;generalize dA m (cu m.nodes (ah m.nodes 3) v)=F at *;generalize cu m.nodes (ah m.nodes 3) v=W at *;rw[bz] at e1;unfold mCs at g0;simp only[LP,LN,LI] at *;generalize F.map I=fL at *;generalize W.map I=wL at *;generalize m.nodes.map bp=nL at *;generalize m.inits.map bv=iL at *;generalize m.nexts.map bv=xL at *;generalize m.bads.map I=bL at *
  generalize m.holds.map I=hL at *;refine qjm ?_;simp[g0,g3,e1,e2]
 have:=sY (pg:=pg) (y:=393) (b:=gh.length+6) (Y:=q18) (caps:=exC gh.length) (v:=LI (cu m.nodes (ah m.nodes 3) v)) (gh:=putX (gh.length+1) (gh.length+2) m X (exG gh m++[.lrec 1 393 (exC gh.length)]))
  (s1:=⟨[(1,.ptr true gh.length 0),(3,.ptr true (gh.length+3) 0),(4,LI (cu m.nodes (ah m.nodes 3) v))],[],putX (gh.length+1) (gh.length+2) m X (exG gh m++[.lrec 1 393 (exC gh.length)])⟩) (s2:=⟨[],[],putX (gh.length+1) (gh.length+2) m (gW m X v) (exG gh m++[.lrec 2 393 (exC gh.length)])⟩) rfl rfl (hget X _) has2 (hget X _) (by
  simp only[hset];exact hbody) (hget _ _)
 rw[this];simp only[hset]
theorem pG (hm:aw m=0):∃G',ac pg 251 [de m] gh=some (.ptr true (gh.length+2) 0,G')/\XAt (gh.length+1) (gh.length+2) m (eE m) G'/\(∀i,i<gh.length->G'[i]?=gh[i]?)/\gh.length<=G'.length/\XInv m (eE m)/\(eE m).queue=[]:=by
 have hl:=u7 (m:=m) (gh:=gh);have hset:∀(Y:XSt) (o o':GObj),(putX (gh.length+1) (gh.length+2) m Y (exG gh m++[o])).set (gh.length+6) o'=putX (gh.length+1) (gh.length+2) m Y (exG gh m++[o']):=λY o o'=>by rw[mN (by omega) (by omega),<-hl,mO]
 have hget:∀(Y:XSt) (o:GObj),(putX (gh.length+1) (gh.length+2) m Y (exG gh m++[o]))[gh.length+6]?=some o:=λY o=>by rw[eC (by omega) (by omega),<-hl];simp
 have hX0:∀o,XAt (gh.length+1) (gh.length+2) m xs0 (exG gh m++[o]):=λo=>⟨by simp[exG,xs0],by simp[exG],by omega⟩
 have hself:∀(o:GObj),putX (gh.length+1) (gh.length+2) m xs0 (exG gh m++[o])=exG gh m++[o]:=λo=>(hX0 o).self
 have hbl:=(dC hm).2;have hp:2^bo m.nodes (ah m.nodes 3)<=2^10:=bN (by decide) hbl;have hv:mM m (λx=>putX (gh.length+1) (gh.length+2) m x (exG gh m++[.lrec 1 393 (exC gh.length)])) (gW m) (λv x=>x.queue.length<=v) (gh.length+6) (gh.length+5) (gh.length+4) 393 (exC gh.length) (ah m.nodes 3):=by
  refine⟨rfl,λv x _=>hget x _,λv x _=>?_,λv x _=>?_,iP hm 3,by have:=fJ (en hm) 3;omega,by omega,λv x hlt hQ=>⟨?_,?_⟩⟩
  ·show (putX _ _ _ _ _)[_]?=_
   rw[eC (by omega) (by omega)];simp[exG]
  ·show (putX _ _ _ _ _)[_]?=_
   rw[eC (by omega) (by omega)];simp[exG]
  ·exact Dl hm (by omega) v
  ·exact bW (uY _ _ _) (by omega)
 have hvec:=uV hv (x:=xs0) (by simp[xs0]);simp only[hself] at hvec;have hrf:=sX (pg:=pg) (g:= .t 11) (y:=393) (F:=267) (ks:=[1,3]) (e:=[(1,.ptr true gh.length 0),(3,.ptr true (gh.length+3) 0),(11,.fn 267 [.ptr true (gh.length+5) 0,.ptr true (gh.length+4) 0])]) (lh:=[]) (gh:=exG gh m) (caps:=[.ptr true (gh.length+5) 0,.ptr true (gh.length+4) 0]) (vs:=exC gh.length) rfl rfl rfl (by rw[hl];exact hvec) (by rw[hl];exact hget _ _);rw[hl,hset] at hrf;rw[show bl (gW m) (2^bo m.nodes (ah m.nodes 3)) xs0 0=fz m from rfl] at hrf
 have hXi:XAt (gh.length+1) (gh.length+2) m (fz m) (putX (gh.length+1) (gh.length+2) m (fz m) (exG gh m++[.lrec 0 393 (exC gh.length)])):=(hX0 _).put _;have h3:(putX (gh.length+1) (gh.length+2) m (fz m) (exG gh m++[.lrec 0 393 (exC gh.length)]))[gh.length+3]?=some (.cells [.ptr true (gh.length+2) 0]):=by rw[eC (by omega) (by omega)];simp[exG]
 obtain⟨G',r1,r2,r3,r4,r5⟩:=Dj hm (by omega) (by omega) 2048 (fz m) _ (by omega) (by rw[Dk hm];unfold nS;omega) (u6 hm) hXi h3;refine⟨G',?_,r2,λi hi=>?_,?_,r4,r5⟩
 ·have hG3:G'[gh.length+3]?=some (.cells [.ptr true (gh.length+2) 0]):=by
   rw[r3.get _ (aD.1 h3).1 (by omega) (by omega)];exact h3
  have hk2:=qjn (pg:=pg) (gh:=G') (g3:=gh.length+3) (o3:=0) (e:= .ret) (s:=⟨[(2,.ptr true (gh.length+2) 0)],[],G'⟩) (by simp[hG3]);have hk1:=qjo (pg:=pg) (gh:=putX (gh.length+1) (gh.length+2) m (fz m) (exG gh m++[.lrec 0 393 (exC gh.length)])) (g3:=gh.length+3) (o3:=0) (e:= .ret) (s:=⟨[(2,.ptr true (gh.length+2) 0)],[],G'⟩) (by simp[r1,hk2]);have hvs:=uR (gh:=gh++[.cells (mCs m),.map (bn []),.cells (xC m (gh.length+1) xs0),.cells [.ptr true (gh.length+2) 0]]) (m:=m) (kind:=3) (by have:=(en hm).len;omega);unfold mL at hvs
  have e0:gh++[GObj.cells (mCs m),.map (bn []),.cells (xC m (gh.length+1) xs0),.cells [.ptr true (gh.length+2) 0]]++[.cells (mCs m),.cells [LI (ah m.nodes 3)]]=exG gh m:=by simp[exG]
  rw[e0] at hvs;generalize putX (gh.length+1) (gh.length+2) m (fz m) (exG gh m++[.lrec 0 393 (exC gh.length)])=G1 at *;generalize exG gh m=G0 at *;have hrf2:ab pg q5m ⟨[(1,.ptr true gh.length 0),(3,.ptr true (gh.length+3) 0),(11,.fn 267 [.ptr true (gh.length+5) 0,.ptr true (gh.length+4) 0])],[],G0⟩=some (.normal,⟨[(3,.ptr true (gh.length+3) 0)],[],G1⟩):=by
   show ab pg (.post (.rangeF (.t 11) 393 [1,3]) [3] 0) _=_
   rw[iZ,hrf];rfl
  rw[bz] at hvs ⊢;simp only[xC,xs0,bQ,bn] at hvs;unfold mCs at hvs;simp only[LP,LN,LI] at *;generalize m.nodes.map bp=nL at *;generalize m.inits.map bv=iL at *;generalize m.nexts.map bv=xL at *;generalize m.bads.map I=bL at *;generalize m.holds.map I=hL at *;refine ao (fn:=q5q) (s:=⟨[(2,.ptr true (gh.length+2) 0)],[],G'⟩) rfl rfl (qjp ?h1) ?r1
  case h1=>simp[ay,hvs,hrf2,hk1]
  case r1=>simp[al,results,q5q,am,aq,ai]
 ·rw[r3.get i (by rw[pB];simp[exG];omega) (by omega) (by omega),eC (by omega) (by omega)]
  unfold exG;rw[aY,aJ hi]
 ·have:=r3.len
  rw[pB] at this;simp[exG] at this;omega
end
section
variable {m:Md} {gh:List GObj}
theorem u9 {L:List Nd} {a:Int} (h:1<=wAt L a/\wAt L a<=8) (gh:List GObj):ac pg 27 [I (wAt L a)] gh=some (I ((2^(wAt L a).toNat:Nat):Int),gh):=by
 have:=ff (k:=(wAt L a).toNat) (by omega) gh
 rwa [Int.toNat_of_nonneg (by omega)] at this
theorem vd {ns:List Int} (hx:fV m.nodes ns) (hl:ns.length<=1000):∀k i (v:Nat) (acc:List Int),i+k=ns.length->acc.length<=i->v<=100000->
  ab pg q8j ⟨[(2,I (v:Int)),(3,.ptr false 0 0),(7,.sl true 1 (acc.map I)),(8,LI ns),(9,I (i:Int))],[[LN m.nodes,LP m.inits,LP m.nexts,LI m.bads,LI m.holds]],gh⟩=
   some (.normal,⟨[(7,.sl true 1 ((acc++cu m.nodes (ns.drop i) v).map I))],[],gh⟩)
 |0,i,v,acc,h,_,_=>by
  rw[aQ (by omega),cu,bG];have hlt:¬i<ns.length:=by omega
  refine (bm (s1:=?s1) (qfl ?h1)).trans ?r1
  case h1=>simp[hlt];rfl
  case r1=>simp[keep,bh]
 | k+1,i,v,acc,h,ha,hv=>by
  have hlt:i<ns.length:=by omega
  have hltD:decide (i<ns.length)=true:=aG hlt;have e2:WI.wrap ((i:Int)+1)=((i+1:Nat):Int):=by rw[az (by omega) (by omega)];omega
  have hg:(ns.map I)[i]?=some (I ns[i]):=by simp[aA hlt]
  have hmx:((acc.map I).length+1)*8<=maxBytes:=by have:=MB;simp;omega
  obtain⟨hno,hw⟩:=hx _ (bX hlt);have hn:=eJ hno;have h0:=hno.1;have hT:=u9 hw gh;have hpp:=Nat.two_pow_pos (wAt m.nodes ns[i]).toNat;rw[aL hlt,cu,List.append_cons acc];generalize 2^(wAt m.nodes ns[i]).toNat=P at *;have hq:=Nat.div_le_self v P;have hd1:WI.wrap ((v:Int)/(P:Int))=((v/P:Nat):Int):=by rw[show (v:Int)/(P:Int)=((v/P:Nat):Int) from (Int.natCast_ediv _ _).symm];generalize v/P=q at *;exact az (by omega) (by omega)
  have hm1:Int.tmod (v:Int) (P:Int)=((v%P:Nat):Int):=(Int.ofNat_tmod _ _).symm;generalize v/P=v2 at *;generalize v%P=r at *;have ih:=vd hx hl k (i+1) v2 (acc++[(r:Int)]) (by omega) (by simp;omega) (by omega);refine bc (qfl ?_) ih;rw[j7];have hne:decide ((P:Int)=0)=false:=aF (by omega);have hne2:decide ((P:Int)≠0)=true:=aG (by omega);have hne3:decide (P=0)=false:=aF (by omega);generalize acc.map I=A at *;generalize ns[i]=a at *;unfold wAt at *;generalize hd:m.nodes.getD a.toNat default=d at *;rw[cV d] at hn;simp[hltD,hg,h0,hn,hT,hm1,hd1,hne3,hmx,e2,-List.getElem?_map]
theorem pH {kind:Int} {v:Nat} (h:aw m=0) (hv:v<=100000):ac pg 326 [de m,I kind,I (v:Int)] gh=some (LI (cu m.nodes (ah m.nodes kind) v),gh):=by
 have hm:=en h;have hN:=jo (m:=m) (gh:=gh) (kind:=kind) (by have:=hm.len;omega);have hl:=vd (gh:=gh) (iP h kind) (by have:=fJ hm kind;omega) (ah m.nodes kind).length 0 v [] (by omega) (by simp) hv;rw[bK,bH] at hl;have hn:=eQ (cu m.nodes (ah m.nodes kind) v);generalize cu m.nodes (ah m.nodes kind) v=D at *;generalize ah m.nodes kind=ns at *;have hk:=qjq (pg:=pg) (gh:=gh) (v7:= .sl true 1 (D.map I)) (e:= .ret) (s:=⟨[(6,.sl false 1 (D.map I))],[],gh⟩) (by simp);rw[bz] at *;simp only[bQ,aW] at hl;refine ao (fn:=q8l) (s:=⟨[(6,.sl false 1 (D.map I))],[],gh⟩) rfl rfl (qjr ?h1) ?r1
 case h1=>simp[hN,hl,hk]
 case r1=>simp[al,results,q8l,am,aq,ai,hn]
theorem ve {ns s:List Int} (hx:fV m.nodes ns) (hl:ns.length<=1000) (hv:s.length=ns.length):∀k i (c t:Nat),i+k=ns.length->cZ m.nodes (ns.drop i) (s.drop i)=0->c<2^t->t+bo m.nodes (ns.drop i)<=10->
  ab pg q4n ⟨[(2,LI s),(3,.ptr false 0 0),(7,I (c:Int)),(8,I ((2^t:Nat):Int)),(9,LI ns),(10,I (i:Int))],[[LN m.nodes,LP m.inits,LP m.nexts,LI m.bads,LI m.holds]],gh⟩=some (.normal,⟨[(7,I ((c+2^t*dx m.nodes (ns.drop i) (s.drop i):Nat):Int))],[],gh⟩)
 | 0,i,c,t,h,_,_,_=>by
  rw[aQ (by omega),dx,Nat.mul_zero,cA]
  ·have hlt:¬i<ns.length:=by omega
   refine (bm (s1:=?s1) (qfm ?h1)).trans ?r1
   case h1=>simp[hlt];rfl
   case r1=>simp[keep,bh]
  ·simp
 | k +1,i,c,t,h,hw,hc,ht=>by
  have hlt:i<ns.length:=by omega
  have hltD:decide (i<ns.length)=true:=aG hlt;have hlv:i<s.length:=by omega
  have e2:WI.wrap ((i:Int)+1)=((i+1:Nat):Int):=by rw[az (by omega) (by omega)];omega
  have hg:(ns.map I)[i]?=some (I ns[i]):=by simp[aA hlt]
  have hgv:(s.map I)[i]?=some (I s[i]):=by simp[aA hlv]
  obtain⟨hno,hwd⟩:=hx _ (bX hlt);have hn:=eJ hno;have h0:=hno.1;have hT:=u9 hwd gh;rw[aL hlt,aL hlv] at hw ⊢;rw[aL hlt,bo] at ht;rw[cZ] at hw;rw[dx];split at hw
  ·rename_i hvc
   have hnx:s[i].toNat<2^(wAt m.nodes ns[i]).toNat:=by omega
   have hxe:((s[i].toNat:Nat):Int)=s[i]:=Int.toNat_of_nonneg hvc.1;have hp10:2^t*2^(wAt m.nodes ns[i]).toNat<=1024:=by
    rw[<-Nat.pow_add];have h5:t+(wAt m.nodes ns[i]).toNat<=10:=by omega
    exact bN (n:=2) (by decide) h5
   have hc2:c+2^t*s[i].toNat<2^(t+(wAt m.nodes ns[i]).toNat):=by
    rw[Nat.pow_add]
    calc c+2^t*s[i].toNat<2^t*(s[i].toNat+1):=by rw[Nat.mul_add];omega
     _<=_:=Nat.mul_le_mul_left _ hnx
   have ih:=ve hx hl hv k (i+1) (c+2^t*s[i].toNat) (t+(wAt m.nodes ns[i]).toNat) (by omega) hw hc2 (by omega);have hfin:c+2^t*(s[i].toNat+2^(wAt m.nodes ns[i]).toNat*dx m.nodes (ns.drop (i+1)) (s.drop (i+1)))=c+2^t*s[i].toNat+2^(t+(wAt m.nodes ns[i]).toNat)*dx m.nodes (ns.drop (i+1)) (s.drop (i+1)):=by rw[Nat.pow_add,Nat.mul_add,Nat.mul_assoc];omega
   rw[hfin];generalize c+2^t*s[i].toNat+2^(t+(wAt m.nodes ns[i]).toNat)*dx m.nodes (ns.drop (i+1)) (s.drop (i+1))=R at *;rw[Nat.pow_add] at hc2;have hpr:2^t*s[i].toNat<=1024:=by omega
   have ha1:WI.wrap ((c:Int)+WI.wrap (s[i]*((2^t:Nat):Int)))=((c+2^t*s[i].toNat:Nat):Int):=by rw[<-hxe,Int.mul_comm,<-Int.natCast_mul];simp only[Int.toNat_natCast];rw[az (n:=((2^t*s[i].toNat:Nat):Int)) (by omega) (by omega),az (by omega) (by omega)];omega
   have ha2:WI.wrap (((2^t:Nat):Int)*((2^(wAt m.nodes ns[i]).toNat:Nat):Int))=((2^(t+(wAt m.nodes ns[i]).toNat):Nat):Int):=by rw[<-Int.natCast_mul,Nat.pow_add];exact az (by omega) (by omega)
   refine bc (qfm ?_) ih;generalize c+2^t*s[i].toNat=c2 at *;generalize 2^(t+(wAt m.nodes ns[i]).toNat)=t2 at *;generalize 2^(wAt m.nodes ns[i]).toNat=P at *;generalize 2^t=t1 at *;generalize ns[i]=a at *;generalize s[i]=v at *;unfold wAt at *;generalize hd:m.nodes.getD a.toNat default=d at *;rw[cV d] at hn;simp[hltD,hg,hgv,h0,hn,hT,ha1,ha2,e2,-List.getElem?_map]
  ·cases hw
theorem pI {s:List Int} (h:aw m=0) (hs:cR m.nodes (ah m.nodes 3) s=0):ac pg 323 [de m,I 3,LI s] gh=some (I (bw m s:Nat),gh):=by
 have hm:=en h;obtain⟨h1,h2⟩:=mJ hs;have hN:=jo (m:=m) (gh:=gh) (kind:=3) (by have:=hm.len;omega);have hl:=ve (gh:=gh) (iP h 3) (by have:=fJ hm 3;omega) h1 _ 0 0 0 (cN _) (by simpa using h2) (by decide) (by simpa using (dC h).2);simp only[bK,cN,Nat.pow_zero,Nat.one_mul] at hl;unfold bw;generalize dx m.nodes (ah m.nodes 3) s=D at *;generalize ah m.nodes 3=ns at *;have hk:=qjs (pg:=pg) (gh:=gh) (x7:=(D:Int)) rfl;rw[bz] at *;simp only[aW] at hl;change ab pg q4n ⟨[_,_,_,(8,I 1),_,_],_,_⟩=_ at hl;refine ao (fn:=q8f) (s:=⟨[(6,I (D:Int))],[],gh⟩) rfl rfl (qjt ?h1) ?r1
 case h1=>simp[hN,hl,hk]
 case r1=>simp[al,results,q8f,am,aq,ai]
end
theorem pJ:Nat.ble 1 3=true:=rfl
theorem pK:Nat.ble 2 3=true:=rfl
theorem pL:Nat.ble 3 3=true:=rfl
section
variable {m:Md} {gh:List GObj}
abbrev eL (m:Md) (s:Nat):List Int:=cu m.nodes (ah m.nodes 3) s
abbrev jr (m:Md) (i:Nat):List Int:=cu m.nodes (ah m.nodes 2) i
def vN (m:Md) (s i:Nat):List Int:=cj m (eL m s) (jr m i)
def toN (m:Md) (s i:Nat):Int:=if eT m (vN m s i) then (bw m (dP m (vN m s i)):Nat) else -1
def bdN (m:Md) (s i:Nat):Bool:=fw m (vN m s i)&&eT m (vN m s i)
def dU (m:Md) (s:Nat):List Int:=(List.range (nI m)).map (toN m s)
def d9 (m:Md) (s:Nat):List Bool:=(List.range (nI m)).map (bdN m s)
def dD (m:Md):List (List Int):=(List.range (nS m)).map (dU m)
def dI (m:Md):List (List Bool):=(List.range (nS m)).map (d9 m)
theorem Dm (h:aw m=0) (s i:Nat):InW m.nodes (vN m s i):=mH h (kX (im _ _) (im _ _))
theorem pM (s i:Nat):(vN m s i).length=m.nodes.length:=j4
theorem vg (h:aw m=0) (s i:Nat):SOk m (dP m (vN m s i)):=pu h (Dm h s i) (pM s i)
theorem j9 (h:aw m=0) (kind:Int) (hk:bo m.nodes (ah m.nodes kind)<=10):ac pg 73 [de m,I kind] gh=some (I (bo m.nodes (ah m.nodes kind):Nat),gh)/\ac pg 27 [I (bo m.nodes (ah m.nodes kind):Nat)] gh=some (I ((2^bo m.nodes (ah m.nodes kind):Nat):Int),gh):=by have hb:=oQ (m:=m) (gh:=gh) (kind:=kind) (by have:=(en h).len;omega);rw[pw h kind] at hb;exact⟨hb,ff (by omega) gh⟩
theorem Dn (acc:List Bool) (v:Bool):(acc++[v]).map B=acc.map B++[B v]:=by simp
theorem Do (h:aw m=0) {s i:Nat} (hs:s<nS m) (hi:i<nI m) (nx:List Int) (bd:List Bool) (hnl:nx.length<=1024) (hbl:bd.length<=1024) (o1 o2 p1 p2:PV) :
  ab pg q84 ⟨[(1,.ptr false 0 0),(2,.ptr false 1 0),(3,.ptr false 2 0),(4,I (s:Int)),(5,.sl true 1 (nx.map I)),(6,.sl true 1 (bd.map B)),(7,I (i:Int))],[[LN m.nodes,LP m.inits,LP m.nexts,LI m.bads,LI m.holds],[o1,o2],[p1,p2]],gh⟩=
   some (.normal,⟨[(1,.ptr false 0 0),(2,.ptr false 1 0),(3,.ptr false 2 0),(4,I (s:Int)),(5,.sl true 1 ((nx++[toN m s i]).map I)),(6,.sl true 1 ((bd++[bdN m s i]).map B)),(7,I ((i+1:Nat):Int))],[[LN m.nodes,LP m.inits,LP m.nexts,LI m.bads,LI m.holds],[o1,o2],[p1,p2]],gh⟩):=by
 have hb2:=(dC h).1;have hb3:=(dC h).2;obtain⟨t1,t2⟩:=j9 (gh:=gh) h 2 (by omega);have hp2:nI m<=64:=bN (n:=2) (by decide) hb2;have hp3:nS m<=1024:=bN (n:=2) (by decide) hb3;have w3:=pH (gh:=gh) (kind:=3) (v:=s) h (by omega);have w2:=pH (gh:=gh) (kind:=2) (v:=i) h (by omega);have hV:=ug (gh:=gh) h (kX (im (L:=m.nodes) (ah m.nodes 3) s) (im (L:=m.nodes) (ah m.nodes 2) i));have hM:=C9 (gh:=gh) h (pM s i);have hN:=C7 (gh:=gh) h (pM s i);have hK:=pI (gh:=gh) h (vg h s i);have e2:WI.wrap ((i:Int)+1)=((i+1:Nat):Int):=by rw[az (by omega) (by omega)];omega
 rw[show cj m (cu m.nodes (ah m.nodes 3) s) (cu m.nodes (ah m.nodes 2) i)=vN m s i from rfl] at hV;rw[show 2^bo m.nodes (ah m.nodes 2)=nI m from rfl] at t2;have hmx:((nx.map I).length+1)*8<=maxBytes:=by have:=MB;simp;omega
 have hmxB:(bd.map B).length+1<=maxBytes:=by have:=MB;simp;omega
 have hltD:decide (i<nI m)=true:=aG hi;rw[j7,Dn];unfold toN bdN;generalize (bw m (dP m (vN m s i)))=K at *;generalize (dP m (vN m s i))=N at *;generalize eT m (vN m s i)=hh at *;generalize fw m (vN m s i)=bb at *;generalize vN m s i=V at *;generalize nI m=n2 at *;generalize bo m.nodes (ah m.nodes 2)=b2 at *;generalize cu m.nodes (ah m.nodes 3) s=D3 at *;generalize cu m.nodes (ah m.nodes 2) i=D2 at *;generalize nx.map I=A at *;generalize bd.map B=C at *;rw[bz] at *;refine qfp ?_;cases hh with
 | true=>
  have k1:ab pg q1w ⟨[(1,.ptr false 0 0),(2,.ptr false 1 0),(3,.ptr false 2 0),(4,I (s:Int)),(5,.sl true 1 A),(6,.sl true 1 C),(7,I (i:Int)),(9,B true),(10,B bb),(11,I (K:Int))],[[LN m.nodes,LP m.inits,LP m.nexts,LI m.bads,LI m.holds],[o1,o2],[p1,p2]],gh⟩=some (.normal,⟨[(1,.ptr false 0 0),(2,.ptr false 1 0),(3,.ptr false 2 0),(4,I (s:Int)),(5,.sl true 1 (A++[I (K:Int)])),(6,.sl true 1 (C++[B bb])),(7,I (i:Int))],[[LN m.nodes,LP m.inits,LP m.nexts,LI m.bads,LI m.holds],[o1,o2],[p1,p2]],gh⟩):=by refine qfn ?_;cases bb<;>simp[hmx,hmxB]
  have k2':ab pg q1x ⟨[(1,.ptr false 0 0),(2,.ptr false 1 0),(3,.ptr false 2 0),(4,I (s:Int)),(5,.sl true 1 (A++[I (K:Int)])),(6,.sl true 1 (C++[B bb])),(7,I (i:Int))],[[LN m.nodes,LP m.inits,LP m.nexts,LI m.bads,LI m.holds],[o1,o2],[p1,p2]],gh⟩=some (.normal,⟨[(1,.ptr false 0 0),(2,.ptr false 1 0),(3,.ptr false 2 0),(4,I (s:Int)),(5,.sl true 1 (A++[I (K:Int)])),(6,.sl true 1 (C++[B bb])),(7,I ((i:Int)+1))],[[LN m.nodes,LP m.inits,LP m.nexts,LI m.bads,LI m.holds],[o1,o2],[p1,p2]],gh⟩):=by refine qfo ?_;simp[e2]
  simp[t1,t2,hltD,w3,w2,hV,hM,hN,hK,k1,k2',pJ,pK,pL]
 | false=>
  have k1:ab pg q1w ⟨[(1,.ptr false 0 0),(2,.ptr false 1 0),(3,.ptr false 2 0),(4,I (s:Int)),(5,.sl true 1 A),(6,.sl true 1 C),(7,I (i:Int)),(9,B false),(10,B bb),(11,I (-1))],[[LN m.nodes,LP m.inits,LP m.nexts,LI m.bads,LI m.holds],[o1,o2],[p1,p2]],gh⟩=some (.normal,⟨[(1,.ptr false 0 0),(2,.ptr false 1 0),(3,.ptr false 2 0),(4,I (s:Int)),(5,.sl true 1 (A++[I (-1)])),(6,.sl true 1 (C++[B false])),(7,I (i:Int))],[[LN m.nodes,LP m.inits,LP m.nexts,LI m.bads,LI m.holds],[o1,o2],[p1,p2]],gh⟩):=by refine qfn ?_;cases bb<;>simp[hmx,hmxB]
  have k2':ab pg q1x ⟨[(1,.ptr false 0 0),(2,.ptr false 1 0),(3,.ptr false 2 0),(4,I (s:Int)),(5,.sl true 1 (A++[I (-1)])),(6,.sl true 1 (C++[B false])),(7,I (i:Int))],[[LN m.nodes,LP m.inits,LP m.nexts,LI m.bads,LI m.holds],[o1,o2],[p1,p2]],gh⟩=some (.normal,⟨[(1,.ptr false 0 0),(2,.ptr false 1 0),(3,.ptr false 2 0),(4,I (s:Int)),(5,.sl true 1 (A++[I (-1)])),(6,.sl true 1 (C++[B false])),(7,I ((i:Int)+1))],[[LN m.nodes,LP m.inits,LP m.nexts,LI m.bads,LI m.holds],[o1,o2],[p1,p2]],gh⟩):=by refine qfo ?_;simp[e2]
  simp[t1,t2,hltD,w3,w2,hV,hM,k1,k2',pJ,pK,pL]
theorem vh (h:aw m=0) {s:Nat} (hs:s<nS m) (o1 o2 p1 p2:PV):∀k i,i+k=nI m->
  ab pg q85 ⟨[(1,.ptr false 0 0),(2,.ptr false 1 0),(3,.ptr false 2 0),(4,I (s:Int)),(5,.sl true 1 (((List.range i).map (toN m s)).map I)),(6,.sl true 1 (((List.range i).map (bdN m s)).map B)),(7,I (i:Int))],[[LN m.nodes,LP m.inits,LP m.nexts,LI m.bads,LI m.holds],[o1,o2],[p1,p2]],gh⟩=
   some (.normal,⟨[(1,.ptr false 0 0),(2,.ptr false 1 0),(3,.ptr false 2 0),(4,I (s:Int)),(5,.sl true 1 ((dU m s).map I)),(6,.sl true 1 ((d9 m s).map B))],[[LN m.nodes,LP m.inits,LP m.nexts,LI m.bads,LI m.holds],[o1,o2],[p1,p2]],gh⟩)
 |0,i,hi=>by
  obtain rfl:i=nI m:=by omega
  have hb2:=(dC h).1;obtain⟨t1,t2⟩:=j9 (gh:=gh) h 2 (by omega);rw[show 2^bo m.nodes (ah m.nodes 2)=nI m from rfl] at t2;unfold dU d9;generalize (List.map (toN m s) (List.range (nI m))).map I=A at *;generalize (List.map (bdN m s) (List.range (nI m))).map B=C at *;generalize nI m=n2 at *;rw[bz] at *;have hlt:¬n2<n2:=by omega
  refine (bm (s1:=?s1) (qfp ?h1)).trans ?r1
  case h1=>simp[t1,t2];rfl
  case r1=>simp[keep,bh]
 |k+1,i,hi=>by have hI2:nI m<=64:=bN (n:=2) (by decide) (dC h).1;refine bc (Do h hs (show i<nI m by omega) _ _ (by simp;omega) (by simp;omega) o1 o2 p1 p2) ?_;have:=vh h hs o1 o2 p1 p2 k (i+1) (by omega);simp only[List.range_succ,bJ] at this ⊢;exact this
abbrev LL (l:List (List Int)):PV:= .sl false 1 (l.map λr=>LI r)
abbrev LBB (l:List (List Bool)):PV:= .sl false 1 (l.map λr=> .sl false 1 (r.map B))
abbrev lf (m:Md):PV:= .agg [LL (dD m),LBB (dI m)]
theorem vi (h:aw m=0) (o1 o2:PV):∀k i,i+k=nS m->
  ab pg q86 ⟨[(1,.ptr false 0 0),(2,.ptr false 1 0),(3,.ptr false 2 0),(4,I (i:Int))],[[LN m.nodes,LP m.inits,LP m.nexts,LI m.bads,LI m.holds],[o1,o2],[.sl true 1 (((List.range i).map (dU m)).map λr=>LI r),.sl true 1 (((List.range i).map (d9 m)).map λr=> .sl false 1 (r.map B))]],gh⟩=
   some (.normal,⟨[(2,.ptr false 1 0),(3,.ptr false 2 0)],[[LN m.nodes,LP m.inits,LP m.nexts,LI m.bads,LI m.holds],[o1,o2],[.sl true 1 ((dD m).map λr=>LI r),.sl true 1 ((dI m).map λr=> .sl false 1 (r.map B))]],gh⟩)
 |0,i,hi=>by
  obtain rfl:i=nS m:=by omega
  obtain⟨t1,t2⟩:=j9 (gh:=gh) h 3 (dC h).2;rw[show 2^bo m.nodes (ah m.nodes 3)=nS m from rfl] at t2;unfold dD dI;generalize (List.map (dU m) (List.range (nS m))).map (λr=>LI r)=A at *;generalize (List.map (d9 m) (List.range (nS m))).map (λr=>PV.sl false 1 (r.map B))=C at *;generalize nS m=n3 at *;rw[bz] at *;have hlt:¬n3<n3:=by omega
  refine (bm (s1:=?s1) (qfq ?h1)).trans ?r1
  case h1=>simp[t1,t2];rfl
  case r1=>simp[keep,bh]
 | k+1,i,hi=>by
  have hI3:nS m<=1024:=bN (n:=2) (by decide) (dC h).2;have ih:=vi h o1 o2 k (i+1) (by omega);simp only[List.range_succ,bJ,bP,bQ] at ih;obtain⟨t1,t2⟩:=j9 (gh:=gh) h 3 (dC h).2;rw[show 2^bo m.nodes (ah m.nodes 3)=nS m from rfl] at t2;have hlt:i<nS m:=by omega
  have hltD:decide (i<nS m)=true:=aG hlt;have e2:WI.wrap ((i:Int)+1)=((i+1:Nat):Int):=by rw[az (by omega) (by omega)];omega
  refine bc (qfq ?_) ih;have h2:=λp1 p2=>vh (gh:=gh) h hlt o1 o2 p1 p2 (nI m) 0 (by omega)
  simp only[List.range_zero,bQ,aW] at h2;have hmxA:(((List.range i).map (dU m)).map λr=>LI r).length+1<=2000:=by simp;omega
  have hmxC:(((List.range i).map (d9 m)).map λr=>PV.sl false 1 (r.map B)).length+1<=2000:=by simp;omega
  have hmy:2000*24<=maxBytes:=by decide
  have hn1:=eQ (dU m i);have hn2:=tv (d9 m i);generalize ((List.range i).map (dU m)).map (λr=>LI r)=A at *;generalize ((List.range i).map (d9 m)).map (λr=>PV.sl false 1 (r.map B))=C at *;have hmA:(A.length+1)*24<=maxBytes:=by omega
  have hmC:(C.length+1)*24<=maxBytes:=by omega
  simp only[LI] at hn1 hn2 h2 ⊢;generalize (dU m i).map I=r1 at *;generalize (d9 m i).map B=r2 at *;generalize nS m=n3 at *;generalize bo m.nodes (ah m.nodes 3)=b3 at *;rw[bz] at *
  have k3:ab pg q4h ⟨[(1,.ptr false 0 0),(2,.ptr false 1 0),(3,.ptr false 2 0),(4,I (i:Int)),(5,.sl true 1 r1),(6,.sl true 1 r2)],[[LN m.nodes,LP m.inits,LP m.nexts,LI m.bads,LI m.holds],[o1,o2],[.sl true 1 A,.sl true 1 C]],gh⟩=some (.normal,⟨[(1,.ptr false 0 0),(2,.ptr false 1 0),(3,.ptr false 2 0),(4,I (i:Int))],[[LN m.nodes,LP m.inits,LP m.nexts,LI m.bads,LI m.holds],[o1,o2],[.sl true 1 (A++[.sl false 1 r1]),.sl true 1 (C++[.sl false 1 r2])]],gh⟩):=by refine qju ?_;simp[hmA,hmC,hn1,hn2]
  have k4:ab pg q2y ⟨[(1,.ptr false 0 0),(2,.ptr false 1 0),(3,.ptr false 2 0),(4,I (i:Int))],[[LN m.nodes,LP m.inits,LP m.nexts,LI m.bads,LI m.holds],[o1,o2],[.sl true 1 (A++[.sl false 1 r1]),.sl true 1 (C++[.sl false 1 r2])]],gh⟩=some (.normal,⟨[(1,.ptr false 0 0),(2,.ptr false 1 0),(3,.ptr false 2 0),(4,I ((i:Int)+1))],[[LN m.nodes,LP m.inits,LP m.nexts,LI m.bads,LI m.holds],[o1,o2],[.sl true 1 (A++[.sl false 1 r1]),.sl true 1 (C++[.sl false 1 r2])]],gh⟩):=by refine qjv ?_;simp[e2]
  simp[t1,t2,hltD,h2,k3,k4,pJ,pK,pL]
theorem vj (l:List (List Int)):dj (l.map λr=>LI r)=true:=by
 induction l with
 |nil=>rfl
 |cons a l ih=>simp only[bP,nW,ih,Bool.and_true];exact eQ a
theorem vk (l:List (List Bool)):dj (l.map λr=>PV.sl false 1 (r.map B))=true:=by
 induction l with
 |nil=>rfl
 |cons a l ih=>simp only[bP,nW,ih,Bool.and_true];exact tv a
theorem vl (h:aw m=0):ac pg 321 [de m] gh=some (lf m,gh):=by
 have h1:=vi (gh:=gh) h (.sl true 1 []) (.sl true 1 []) (nS m) 0 (by omega);simp only[List.range_zero,bQ,aW] at h1;have n1:=vj (dD m);have n2:=vk (dI m)
 show _=some (PV.agg [.sl false 1 ((dD m).map λr=>LI r),.sl false 1 ((dI m).map λr=> .sl false 1 (r.map B))],gh)
 generalize (dD m).map (λr=>LI r)=A at *;generalize (dI m).map (λr=>PV.sl false 1 (r.map B))=C at *;rw[bz];have k5:ab pg q4i ⟨[(2,.ptr false 1 0),(3,.ptr false 2 0)],[[LN m.nodes,LP m.inits,LP m.nexts,LI m.bads,LI m.holds],[.sl true 1 [],.sl true 1 []],[.sl true 1 A,.sl true 1 C]],gh⟩=some (.ret,⟨[(2,.ptr false 1 0)],[[LN m.nodes,LP m.inits,LP m.nexts,LI m.bads,LI m.holds],[.sl false 1 A,.sl false 1 C]],gh⟩):=by refine qjw ?_;simp[n1,n2]
 refine ao (fn:=q87) (s:=⟨[(2,.ptr false 1 0)],[[LN m.nodes,LP m.inits,LP m.nexts,LI m.bads,LI m.holds],[.sl false 1 A,.sl false 1 C]],gh⟩) rfl rfl (qjx ?h1) ?r1
 case h1=>simp[h1,k5]
 case r1=>simp[al,results,q87,am,aq,ai,St.cellsAt,n1,n2]
end
theorem kb:Nat.ble 1 2=true:=rfl
theorem kc:Nat.ble 2 2=true:=rfl
section
variable {m:Md} {gh:List GObj}
def ea (m:Md) (o:List Int) (v:Nat):List Int:=o.set (bw m (dA m (eL m v))) 0
def fA (m:Md) (n:Nat) (s:Nat) (o:List Int) (i:Nat):List Int:=if 0<=toN m s i/\o.getD (toN m s i).toNat 0<0 then o.set (toN m s i).toNat ((n+1:Nat):Int) else o
def fh (m:Md) (n:Nat) (o:List Int) (s:Nat):List Int:=if o.getD s 0=n then bl (fA m n s) (nI m) o 0 else o
def fK (m:Md) (o:List Int) (n:Nat):List Int:=bl (fh m n) (nS m) o 0
def gX (m:Md):List Int:=bl (ea m) (nS m) (List.replicate (nS m) (-1)) 0
def di (m:Md):List Int:=bl (fK m) (nS m) (gX m) 0
theorem pN {n s i:Nat} {o:List Int}:(fA m n s o i).length=o.length:=by unfold fA;split<;>simp
theorem lg {f:List Int->Nat->List Int} (h:∀o v,(f o v).length=o.length):∀(k:Nat) (o:List Int) (v:Nat),(bl f k o v).length=o.length
 |0,o,v=>rfl
 |k+1,o,v=>by rw[show bl f (k+1) o v=bl f k (f o v) (v+1) from rfl,lg h k,h]
theorem vm {n s:Nat} {o:List Int}:(fh m n o s).length=o.length:=by
 unfold fh;split
 ·exact lg (λo v=>pN) _ _ _
 ·rfl
theorem vn {n:Nat} {o:List Int}:(fK m o n).length=o.length:=lg (λ_ _=>vm) _ _ _
theorem pO:(gX m).length=nS m:=by unfold gX;rw[lg (λo v=>by simp[ea])];simp
theorem mP:(di m).length=nS m:=by unfold di;rw[lg (λo v=>vn),pO]
theorem pP {o:List Int} {i:Nat} (v:Int) (h:i<o.length):(voG gh o).set gh.length (.cells (ay (o.map I) i [I v]))=voG gh (o.set i v):=by rw[pi (by simpa using h),<-List.map_set,uc]
theorem get_at {o:List Int} {i:Nat} (h:i<o.length):(o.map I)[i]?=some (I (o.getD i 0)):=by rw[aB,aA h,aM,aA h];rfl
abbrev mLh (m:Md):List PV:=[LN m.nodes,LP m.inits,LP m.nexts,LI m.bads,LI m.holds]
abbrev wLh (m:Md):List PV:=[LL (dD m),LBB (dI m)]
theorem vo {N:Nat} (w:List PV) (hw:∃a b,w=[a,b]) (hN:N<=100000):∀k i,i+k=N->
  ab pg q88 ⟨[(2,.ptr false 0 0),(3,.ptr false 1 0),(5,.bs true gh.length 0 N 1),(6,I (i:Int))],[mLh m,w],voG gh (List.replicate i (-1)++List.replicate k 0)⟩=
   some (.normal,⟨[(2,.ptr false 0 0),(3,.ptr false 1 0),(5,.bs true gh.length 0 N 1)],[mLh m,w],voG gh (List.replicate N (-1))⟩)
 |0,i,hi=>by
  obtain⟨a,b,rfl⟩:=hw;obtain rfl:i=N:=by omega
  refine (bm (s1:=?s1) (qfr ?h1)).trans ?r1
  case h1=>simp;rfl
  case r1=>simp[keep,bh]
 | k+1,i,hi=>by
  have ih:=vo w hw hN k (i+1) (by omega);obtain⟨a,b,rfl⟩:=hw;have hltI:(i:Int)<(N:Int):=by omega
  have hlt:i<N:=by omega
  have e2:WI.wrap ((i:Int)+1)=((i+1:Nat):Int):=by rw[az (by omega) (by omega)];omega
  refine bc (qfr ?_) ih;have h0:=j5 (gh:=gh) (List.replicate i (-1)++List.replicate (k+1) (0:Int));have h1:=pP (gh:=gh) (o:=List.replicate i (-1)++List.replicate (k+1) (0:Int)) (i:=i) (-1) (by simp);have e:(List.replicate i (-1)++List.replicate (k+1) (0:Int)).set i (-1)=List.replicate (i+1) (-1)++List.replicate k (0:Int):=by rw[List.set_append_right _ _ (by simp),show List.replicate (i+1) (-1:Int)=List.replicate i (-1)++[-1] from List.replicate_succ',show List.replicate (k+1) (0:Int)=0::List.replicate k 0 from rfl];simp
  rw[e] at h1;have hlen:i+1<=((List.replicate i (-1)++List.replicate (k+1) (0:Int)).map I).length:=by simp
  generalize (List.replicate i (-1)++List.replicate (k+1) (0:Int)).map I=O at *;generalize voG gh (List.replicate i (-1)++List.replicate (k+1) (0:Int))=G at *;generalize voG gh (List.replicate (i+1) (-1)++List.replicate k (0:Int))=G2 at *;generalize gh.length=b0 at *;simp[hlt,h0,hlen,h1,e2]
theorem vp (h:aw m=0) (w:List PV) (hw:∃a b,w=[a,b]):∀k i (o:List Int),i+k=nS m->o.length=nS m->
  ab pg q89 ⟨[(2,.ptr false 0 0),(3,.ptr false 1 0),(5,.bs true gh.length 0 (nS m) 1),(7,I (i:Int))],[mLh m,w],voG gh o⟩=
   some (.normal,⟨[(3,.ptr false 1 0),(5,.bs true gh.length 0 (nS m) 1)],[mLh m,w],voG gh (bl (ea m) k o i)⟩)
 |0,i,o,hi,ho=>by
  obtain⟨a,b,rfl⟩:=hw;have hlt:¬i<nS m:=by omega
  refine (bm (s1:=?s1) (qfs ?h1)).trans ?r1
  case h1=>simp[hlt];rfl
  case r1=>simp[keep,bh,bl]
 |k+1,i,o,hi,ho=>by
  have ih:=vp h w hw k (i+1) (ea m o i) (by omega) (by simp[ea,ho]);obtain⟨a,b,rfl⟩:=hw;have hN:nS m<=1024:=bN (n:=2) (by decide) (dC h).2;have hlt:i<nS m:=by omega
  have e2:WI.wrap ((i:Int)+1)=((i+1:Nat):Int):=by rw[az (by omega) (by omega)];omega
  refine bc (qfs ?_) ih;have c1:=pH (gh:=voG gh o) (kind:=3) (v:=i) h (by omega);have c2:=C4 (gh:=voG gh o) h (mI (L:=m.nodes) (ns:=ah m.nodes 3) (v:=i));have c3:=pI (gh:=voG gh o) h (iU h i);have hK:=iT (iU h i);have h0:=j5 (gh:=gh) o;have h1:=pP (gh:=gh) (o:=o) (i:=bw m (dA m (eL m i))) 0 (by rw[ho];exact hK);unfold ea;have hlen:(o.map I).length=nS m:=by simp[ho]
  change ac pg 125 [_,LI (eL m i)] _=some (LI (dA m (eL m i)),_) at c2;change ac pg 323 [_,_,LI (dA m (eL m i))] _=_ at c3;change bw m (dA m (eL m i))<_ at hK;change ac pg 326 _ _=some (LI (eL m i),_) at c1;generalize bw m (dA m (eL m i))=K at *;generalize dA m (eL m i)=F at *;generalize eL m i=D at *;generalize o.map I=O at *;generalize voG gh o=G at *;generalize voG gh (o.set K 0)=G2 at *;generalize gh.length=b0 at *;generalize nS m=N at *;have hlen2:K+1<=O.length:=by omega
  rw[bz] at *;simp[hlt,c1,c2,c3,hK,h0,hlen2,h1,e2]
theorem pS (h:aw m=0) (s i:Nat) (h0:0<=toN m s i):(toN m s i).toNat<nS m:=by
 have hK:=iT (vg h s i);revert h0;unfold toN;split
 ·intro _;simpa using hK
 ·intro h0;omega
theorem vq {s i:Nat} (hs:s<nS m) (hi:i<nI m):(dU m s)[i]?=some (toN m s i)/\(dD m)[s]?=some (dU m s)/\(d9 m s)[i]?=some (bdN m s i)/\(dI m)[s]?=some (d9 m s):=by
 refine⟨?_,?_,?_,?_⟩
 ·simp[dU,hi]
 ·simp[dD,hs]
 ·simp[d9,hi]
 ·simp[dI,hs]
theorem vr (h:aw m=0) {n s:Nat} (hs:s<nS m) (hn:n<nS m):∀k i (o:List Int),i+k=nI m->o.length=nS m->
  ab pg q8a ⟨[(3,.ptr false 1 0),(5,.bs true gh.length 0 (nS m) 1),(8,I (n:Int)),(9,I (s:Int)),(10,I (i:Int))],[mLh m,wLh m],voG gh o⟩=
   some (.normal,⟨[(3,.ptr false 1 0),(5,.bs true gh.length 0 (nS m) 1),(8,I (n:Int)),(9,I (s:Int))],[mLh m,wLh m],voG gh (bl (fA m n s) k o i)⟩)
 |0,i,o,hi,ho=>by
  have hlt:¬i<nI m:=by omega
  have g2:(dD m)[s]?=some (dU m s):=by simp[dD,hs]
  have g2':((dD m).map λr=>LI r)[s]?=some (LI (dU m s)):=by rw[aB,g2];rfl
  have hl2:decide (s<((dD m).map λr=>LI r).length)=true:=by simp[dD,hs]
  have hlen:(dU m s).length=nI m:=by simp[dU]
  unfold wLh LL;generalize LBB (dI m)=z at *;generalize dU m s=R at *;generalize (dD m).map (λr=>LI r)=A at *;have hlR:decide ((i:Int)<(R.length:Int))=false:=aF (by omega);have hlR2:decide (i<R.length)=false:=aF (by omega);refine (bm (s1:=?s1) (qft ?h1)).trans ?r1
  case h1=>simp[g2',hl2,hlR2];rfl
  case r1=>simp[keep,bh,bl]
 | k+1,i,o,hi,ho=>by
  have ih:=vr h hs hn k (i+1) (fA m n s o i) (by omega) (by rw[pN,ho]);have hN:nS m<=1024:=bN (n:=2) (by decide) (dC h).2;have hI:nI m<=64:=bN (n:=2) (by decide) (dC h).1;have hlt:i<nI m:=by omega
  have e2:WI.wrap ((i:Int)+1)=((i+1:Nat):Int):=by rw[az (by omega) (by omega)];omega
  have e3:WI.wrap ((n:Int)+1)=((n+1:Nat):Int):=by rw[az (by omega) (by omega)];omega
  obtain⟨g1,g2,_,_⟩:=vq (m:=m) hs hlt;have g2':((dD m).map λr=>LI r)[s]?=some (LI (dU m s)):=by rw[aB,g2];rfl
  have hl2:decide (s<((dD m).map λr=>LI r).length)=true:=by simp[dD,hs]
  have hlen:(dU m s).length=nI m:=by simp[dU]
  have g1':((dU m s).map I)[i]?=some (I (toN m s i)):=by rw[aB,g1];rfl
  have hR:decide (i<(dU m s).length)=true:=aG (by omega);refine bc (qft ?_) ih;have k3:∀G,ab pg q1y ⟨[(3,.ptr false 1 0),(5,.bs true gh.length 0 (nS m) 1),(8,I (n:Int)),(9,I (s:Int)),(10,I (i:Int))],[mLh m,wLh m],G⟩=some (.normal,⟨[(3,.ptr false 1 0),(5,.bs true gh.length 0 (nS m) 1),(8,I (n:Int)),(9,I (s:Int)),(10,I ((i:Int)+1))],[mLh m,wLh m],G⟩):=λG=>by refine qjy ?_;simp[e2]
  have hto:=pS h s i;have h0:=j5 (gh:=gh) o;unfold fA;unfold wLh LL at *;generalize LBB (dI m)=z at *;generalize toN m s i=t at *;generalize dU m s=R at *;generalize (dD m).map (λr=>LI r)=A at *;generalize nI m=n2 at *;by_cases ht:0<=t
  ·have hto:=hto ht
   have hg:=get_at (o:=o) (i:=t.toNat) (by omega);have h1:=pP (gh:=gh) (o:=o) (i:=t.toNat) ((n+1:Nat):Int) (by omega);have hlen:(o.map I).length=nS m:=by simp[ho]
   have hti:t<(nS m:Int):=by omega
   by_cases hd:o.getD t.toNat 0<0
   ·rw[if_pos ⟨ht,hd⟩]
    generalize o.getD t.toNat 0=d at *;generalize voG gh (o.set t.toNat ((n+1:Nat):Int))=G2 at *;generalize o.map I=O at *;generalize voG gh o=G at *;generalize gh.length=b0 at *;generalize nS m=N at *;have hto2:t.toNat+1<=O.length:=by omega
    push_cast at h1 e3
    simp[g2',hl2,hR,g1',ht,hti,h0,hg,hd,e3,hto2,h1,k3,kb,kc,-List.getElem?_map]
   ·rw[if_neg (λhh=>hd hh.2)]
    generalize o.getD t.toNat 0=d at *;generalize o.map I=O at *;generalize voG gh o=G at *;generalize gh.length=b0 at *;generalize nS m=N at *;simp[g2',hl2,hR,g1',ht,hti,h0,hg,hd,k3,kb,kc,-List.getElem?_map]
  ·rw[if_neg (λhh=>ht hh.1)]
   generalize voG gh o=G at *;generalize gh.length=b0 at *;generalize nS m=N at *;simp[g2',hl2,hR,g1',ht,k3,kb,kc,-List.getElem?_map]
theorem vt (h:aw m=0) {n:Nat} (hn:n<nS m):∀k s (o:List Int),s+k=nS m->o.length=nS m->
  ab pg q8b ⟨[(3,.ptr false 1 0),(5,.bs true gh.length 0 (nS m) 1),(8,I (n:Int)),(9,I (s:Int))],[mLh m,wLh m],voG gh o⟩=
   some (.normal,⟨[(3,.ptr false 1 0),(5,.bs true gh.length 0 (nS m) 1),(8,I (n:Int))],[mLh m,wLh m],voG gh (bl (fh m n) k o s)⟩)
 |0,s,o,hi,ho=>by
  have hlt:¬s<nS m:=by omega
  refine (bm (s1:=?s1) (qfu ?h1)).trans ?r1
  case h1=>simp[hlt];rfl
  case r1=>simp[keep,bh,bl]
 | k+1,s,o,hi,ho=>by
  have ih:=vt h hn k (s+1) (fh m n o s) (by omega) (by rw[vm,ho]);have hN:nS m<=1024:=bN (n:=2) (by decide) (dC h).2;have hlt:s<nS m:=by omega
  have e2:WI.wrap ((s:Int)+1)=((s+1:Nat):Int):=by rw[az (by omega) (by omega)];omega
  refine bc (qfu ?_) ih;have k4:∀G,ab pg q2z ⟨[(3,.ptr false 1 0),(5,.bs true gh.length 0 (nS m) 1),(8,I (n:Int)),(9,I (s:Int))],[mLh m,wLh m],G⟩=some (.normal,⟨[(3,.ptr false 1 0),(5,.bs true gh.length 0 (nS m) 1),(8,I (n:Int)),(9,I ((s:Int)+1))],[mLh m,wLh m],G⟩):=λG=>by refine qjz ?_;simp[e2]
  have h5:=vr (gh:=gh) h hlt hn (nI m) 0 o (by omega) ho;have h0:=j5 (gh:=gh) o;have hg:=get_at (o:=o) (i:=s) (by omega);have hlen:(o.map I).length=nS m:=by simp[ho]
  simp only[aW] at h5;unfold fh;by_cases hd:o.getD s 0=n
  ·rw[if_pos hd,]
   rw[hd] at hg;generalize voG gh (bl (fA m n s) (nI m) o 0)=G2 at *;generalize o.map I=O at *;generalize voG gh o=G at *;generalize gh.length=b0 at *;generalize nS m=N at *;simp[hlt,h0,hg,h5,k4,kb,kc,-List.getElem?_map]
  ·rw[if_neg hd]
   have hd2:(o.getD s 0 !=(n:Int))=true:=by simpa using hd
   generalize o.getD s 0=d at *;generalize o.map I=O at *;generalize voG gh o=G at *;generalize gh.length=b0 at *;generalize nS m=N at *;simp[hlt,h0,hg,hd,hd2,k4,kb,kc,-List.getElem?_map]
theorem vu (h:aw m=0):∀k n (o:List Int),n+k=nS m->o.length=nS m->
  ab pg q8c ⟨[(3,.ptr false 1 0),(5,.bs true gh.length 0 (nS m) 1),(8,I (n:Int))],[mLh m,wLh m],voG gh o⟩=
   some (.normal,⟨[(5,.bs true gh.length 0 (nS m) 1)],[],voG gh (bl (fK m) k o n)⟩)
 |0,n,o,hi,ho=>by
  have hlt:¬n<nS m:=by omega
  refine (bm (s1:=?s1) (qfv ?h1)).trans ?r1
  case h1=>simp[hlt];rfl
  case r1=>simp[keep,bh,bl]
 | k+1,n,o,hi,ho=>by
  have ih:=vu h k (n+1) (fK m o n) (by omega) (by rw[vn,ho]);have hN:nS m<=1024:=bN (n:=2) (by decide) (dC h).2;have hlt:n<nS m:=by omega
  have e2:WI.wrap ((n:Int)+1)=((n+1:Nat):Int):=by rw[az (by omega) (by omega)];omega
  refine bc (qfv ?_) ih;have k5:∀G,ab pg q4j ⟨[(3,.ptr false 1 0),(5,.bs true gh.length 0 (nS m) 1),(8,I (n:Int))],[mLh m,wLh m],G⟩=some (.normal,⟨[(3,.ptr false 1 0),(5,.bs true gh.length 0 (nS m) 1),(8,I ((n:Int)+1))],[mLh m,wLh m],G⟩):=λG=>by refine qk0 ?_;simp[e2]
  have h4:=vt (gh:=gh) h hlt (nS m) 0 o (by omega) ho;simp only[aW] at h4;unfold fK;generalize voG gh (bl (fh m n) (nS m) o 0)=G2 at *;generalize voG gh o=G at *;generalize gh.length=b0 at *;generalize nS m=N at *;simp[hlt,h4,k5,kb,kc]
theorem vv (h:aw m=0):ac pg 322 [de m,lf m] gh=some (LI (di m),gh):=by
 have hN:nS m<=1024:=bN (n:=2) (by decide) (dC h).2;have h1:=vo (m:=m) (gh:=gh) (N:=nS m) (wLh m) ⟨_,_,rfl⟩ (by omega) (nS m) 0 (by omega);have h2:=vp (gh:=gh) h (wLh m) ⟨_,_,rfl⟩ (nS m) 0 (List.replicate (nS m) (-1)) (by omega) (by simp);have h3:=vu (gh:=gh) h (nS m) 0 (gX m) (by omega) pO;rw[show bl (ea m) (nS m) (List.replicate (nS m) (-1)) 0=gX m from rfl] at h2;rw[show bl (fK m) (nS m) (gX m) 0=di m from rfl] at h3;have hfz:=uf (gh:=gh) (di m);rw[mP] at hfz;have hn:=eQ (di m);have ht:(voG gh (di m)).take gh.length=gh:=by simp[voG]
 have hz:=pl (nS m);have hz2:bu (nS m) []=List.replicate (nS m) 0:=by simp[bu]
 rw[hz2] at hz;have hlenA:((dD m).map λr=>LI r).length=nS m:=by simp[dD]
 simp only[aW,List.replicate_zero,bH] at h1 h2 h3;generalize di m=V at *;have hmx:decide ((nS m:Int)*8<=(maxBytes:Int))=true:=aG (by have:=MB;omega);unfold wLh lf LL LBB at *;generalize (dI m).map (λr=>PV.sl false 1 (r.map B))=z at *;generalize (dD m).map (λr=>LI r)=A at *;have k6:ab pg q4k ⟨[(5,.bs true gh.length 0 (nS m) 1)],[],voG gh V⟩=some (.ret,⟨[(4,.bs true gh.length 0 (nS m) 1)],[],voG gh V⟩):=by refine qk1 ?_;simp
 have k2:ab pg q4l ⟨[(3,.ptr false 1 0),(5,.bs true gh.length 0 (nS m) 1)],[mLh m,[.sl false 1 A,.sl false 1 z]],voG gh (gX m)⟩=some (.ret,⟨[(4,.bs true gh.length 0 (nS m) 1)],[],voG gh V⟩):=by refine qk2 ?_;simp[h3,k6]
 have k1:ab pg q4m ⟨[(2,.ptr false 0 0),(3,.ptr false 1 0),(5,.bs true gh.length 0 (nS m) 1)],[mLh m,[.sl false 1 A,.sl false 1 z]],voG gh (List.replicate (nS m) (-1))⟩=some (.ret,⟨[(4,.bs true gh.length 0 (nS m) 1)],[],voG gh V⟩):=by refine qk3 ?_;simp[h2,k2]
 rw[bz];refine ao (fn:=q8d) (s:=⟨[(4,.bs true gh.length 0 (nS m) 1)],[],voG gh V⟩) rfl rfl (qk4 ?h1) ?r1
 case h1=>
  unfold voG at *;generalize (List.replicate (nS m) 0).map I=Z at *;generalize (List.replicate (nS m) (-1)).map I=Y at *;simp[eP,hmx,hz,h1,k1,hlenA]
 case r1=>simp[al,results,q8d,am,aq,ai,hfz,ht,hn]
end
section
variable {m:Md}
def RN (m:Md):Nat->Nat->Prop
 |0,u=>∃v,v<nS m/\bw m (dA m (eL m v))=u
 |n+1,u=>∃s i,s<nS m/\i<nI m/\RN m n s/\toN m s i=(u:Int)
def Dist (m:Md) (d u:Nat):Prop:=RN m d u/\∀e,e<d->¬RN m e u
theorem RN.lt (h:aw m=0):∀{n u:Nat},RN m n u->u<nS m
 |0,u,⟨v,_,hv⟩=>hv▸iT (iU h v)
 |n+1,u,⟨s,i,_,_,_,hu⟩=>by have:=pS h s i (by omega);omega
theorem Dist.uniq {d e u:Nat} (h:Dist m d u) (k:Dist m e u):d=e:=by
 rcases Nat.lt_trichotomy d e with hl|hl|hl
 ·exact absurd h.1 (k.2 d hl)
 ·exact hl
 ·exact absurd k.1 (h.2 e hl)
theorem Dist.prev {d u:Nat} (h:Dist m (d+1) u):∃s i,s<nS m/\i<nI m/\Dist m d s/\toN m s i=(u:Int):=by obtain⟨⟨s,i,hs,hi,hr,ht⟩,h2⟩:=h;exact⟨s,i,hs,hi,⟨hr,λe he hr2=>h2 (e+1) (by omega) ⟨s,i,hs,hi,hr2,ht⟩⟩,ht⟩
theorem Dist.chain (hc:aw m=0):∀{d u:Nat},Dist m d u->∃l:List Nat,l.length=d+1/\l.Nodup/\∀w∈l,w<nS m/\∃e,e<=d/\Dist m e w
 |0,u,h=>⟨[u],rfl,by simp,λw hw=>by simp at hw;subst hw;exact⟨RN.lt hc h.1,0,cM _,h⟩⟩
 | d+1,u,h=>by
  obtain⟨s,i,_,_,hs,_⟩:=h.prev;obtain⟨l,h1,h2,h3⟩:=Dist.chain hc hs;refine⟨u::l,by simp[h1],List.nodup_cons.2 ⟨λhu=>?_,h2⟩,λw hw=>?_⟩
  ·obtain⟨_,e,he,hd⟩:=h3 u hu
   have:=h.uniq hd;omega
  ·rcases List.mem_cons.1 hw with rfl|hw
   ·exact⟨RN.lt hc h.1,d+1,cM _,h⟩
   ·obtain⟨h4,e,he,hd⟩:=h3 w hw
    exact⟨h4,e,by omega,hd⟩
theorem Dist.lt (hc:aw m=0) {d u:Nat} (h:Dist m d u):d<nS m:=by obtain⟨l,h1,h2,h3⟩:=h.chain hc;have:=List.Nodup.length_le_of_subset h2 (l₂:=List.range (nS m)) (λw hw=>by simpa using (h3 w hw).1);simp at this;omega
theorem RN.dist:∀{n u:Nat},RN m n u->∃d,d<=n/\Dist m d u:=by
 intro n
 induction n using Nat.strongRecOn with
 | ind n ih=>
  intro u h;by_cases hx:∃e,e<n/\RN m e u
  ·obtain⟨e,he,hr⟩:=hx
   obtain⟨d,hd,hD⟩:=ih e he hr;exact⟨d,by omega,hD⟩
  ·exact⟨n,cM _,h,λe he hr=>hx ⟨e,he,hr⟩⟩
theorem pT {o:List Int} {t u:Nat} {x:Int}:(o.set t x).getD u 0=if t=u/\t<o.length then x else o.getD u 0:=by
 simp only[aM,cE];by_cases h1:t=u
 ·subst h1
  by_cases h2:t<o.length
  ·simp[h2]
  ·simp[h2]
 ·simp[h1]
def Mid (m:Md) (n:Nat) (o0:List Int) (P:Nat->Prop) (o:List Int):Prop:=
 o.length=nS m/\∀u,u<nS m->(0<=o0.getD u 0->o.getD u 0=o0.getD u 0)/\(o0.getD u 0<0->P u->o.getD u 0=((n+1:Nat):Int))/\(o0.getD u 0<0->¬P u->o.getD u 0= -1)
theorem Mid.congr {n:Nat} {o0 o:List Int} {P Q:Nat->Prop} (h:Mid m n o0 P o) (hpq:∀u,P u↔Q u):Mid m n o0 Q o:=
 ⟨h.1,λu hu=>⟨(h.2 u hu).1,λa b=>(h.2 u hu).2.1 a ((hpq u).2 b),λa b=>(h.2 u hu).2.2 a (λc=>b ((hpq u).1 c))⟩⟩
theorem Mid.one (hc:aw m=0) {n s i:Nat} {o0 o:List Int} {P:Nat->Prop} (h:Mid m n o0 P o):Mid m n o0 (λu=>P u\/toN m s i=(u:Int)) (fA m n s o i):=by
 refine⟨by rw[pN];exact h.1,λu hu=>?_⟩;obtain⟨h1,h2,h3⟩:=h.2 u hu;unfold fA;split
 ·rename_i hh
  obtain⟨ht,hneg⟩:=hh;have htl:=pS hc s i ht;rw[pT,h.1];by_cases hu2:(toN m s i).toNat=u
  ·rw[if_pos ⟨hu2,htl⟩]
   rw[hu2] at hneg;refine⟨λh0=>?_,λ_ _=>rfl,λ_ hp=>absurd (.inr (by omega)) hp⟩;rw[h1 h0] at hneg;omega
  ·rw[if_neg (λhh=>hu2 hh.1)]
   refine⟨h1,λh0 hp=>?_,λh0 hp=>h3 h0 (λhp2=>hp (.inl hp2))⟩;rcases hp with hp|hp
   ·exact h2 h0 hp
   ·omega
 ·rename_i hh
  refine⟨h1,λh0 hp=>?_,λh0 hp=>h3 h0 (λhp2=>hp (.inl hp2))⟩;by_cases hpu:P u
  ·exact h2 h0 hpu
  ·rcases hp with hp|hp
   ·exact h2 h0 hp
   ·exfalso
    refine hh ⟨by omega,?_⟩;have e:(toN m s i).toNat=u:=by omega
    rw[e,h3 h0 hpu];omega
theorem Mid.row (hc:aw m=0) {n s:Nat} {o0:List Int}:∀(k v:Nat) (o:List Int) (P:Nat->Prop),Mid m n o0 P o->Mid m n o0 (λu=>P u\/∃i,v<=i/\i<v+k/\toN m s i=(u:Int)) (bl (fA m n s) k o v)
 |0,v,o,P,h=>h.congr λu=>⟨.inl,λhp=>hp.elim id (λ⟨i,h1,h2,_⟩=>by omega)⟩
 | k+1,v,o,P,h=>by
  rw[show bl (fA m n s) (k+1) o v=bl (fA m n s) k (fA m n s o v) (v+1) from rfl];refine (Mid.row hc k (v+1) _ _ (h.one hc (s:=s) (i:=v))).congr λu=>⟨λhp=>?_,λhp=>?_⟩
  ·rcases hp with (hp|hp)|⟨i,h1,h2,h3⟩
   ·exact .inl hp
   ·exact .inr ⟨v,cM _,by omega,hp⟩
   ·exact .inr ⟨i,by omega,by omega,h3⟩
  ·rcases hp with hp|⟨i,h1,h2,h3⟩
   ·exact .inl (.inl hp)
   ·by_cases hi:i=v
    ·subst hi;exact .inl (.inr h3)
    ·exact .inr ⟨i,by omega,by omega,h3⟩
theorem Mid.all (hc:aw m=0) {n:Nat} {o0:List Int}:∀(k v:Nat) (o:List Int) (P:Nat->Prop),v+k=nS m->Mid m n o0 P o->Mid m n o0 (λu=>P u\/∃s,v<=s/\s<nS m/\o0.getD s 0=n/\∃i,i<nI m/\toN m s i=(u:Int)) (bl (fh m n) k o v)
 |0,v,o,P,_,h=>h.congr λu=>⟨.inl,λhp=>hp.elim id (λ⟨i,h1,h2,_⟩=>by omega)⟩
 | k +1,v,o,P,hv,h=>by
  rw[show bl (fh m n) (k+1) o v=bl (fh m n) k (fh m n o v) (v+1) from rfl];have hs:o.getD v 0=n↔o0.getD v 0=n:=by
   obtain⟨h1,h2,h3⟩:=h.2 v (by omega);by_cases h0:0<=o0.getD v 0
   ·rw[h1 h0]
   ·by_cases hp:P v
    ·rw[h2 (by omega) hp];omega
    ·rw[h3 (by omega) hp];omega
  by_cases ho:o0.getD v 0=n
  ·have e:fh m n o v=bl (fA m n v) (nI m) o 0:=by unfold fh;rw[if_pos (hs.2 ho)]
   rw[e];refine (Mid.all hc k (v+1) _ _ (by omega) (Mid.row hc (s:=v) (nI m) 0 o P h)).congr λu=>⟨λhp=>?_,λhp=>?_⟩
   ·rcases hp with (hp|⟨i,h1,h2,h3⟩)|⟨s,h1,h2,h3⟩
    ·exact .inl hp
    ·exact .inr ⟨v,cM _,by omega,ho,i,by omega,h3⟩
    ·exact .inr ⟨s,by omega,h2,h3⟩
   ·rcases hp with hp|⟨s,h1,h2,h3,i,h4,h5⟩
    ·exact .inl (.inl hp)
    ·by_cases hi:s=v
     ·subst hi;exact .inl (.inr ⟨i,by omega,by omega,h5⟩)
     ·exact .inr ⟨s,by omega,h2,h3,i,h4,h5⟩
  ·have e:fh m n o v=o:=by unfold fh;rw[if_neg (λhh=>ho (hs.1 hh))]
   rw[e];refine (Mid.all hc k (v+1) _ _ (by omega) h).congr λu=>⟨λhp=>?_,λhp=>?_⟩
   ·rcases hp with hp|⟨s,h1,h2,h3⟩
    ·exact .inl hp
    ·exact .inr ⟨s,by omega,h2,h3⟩
   ·rcases hp with hp|⟨s,h1,h2,h3,h4⟩
    ·exact .inl hp
    ·by_cases hi:s=v
     ·subst hi;exact absurd h3 ho
     ·exact .inr ⟨s,by omega,h2,h3,h4⟩
def Lay (m:Md) (n:Nat) (o:List Int):Prop:=o.length=nS m/\∀u,u<nS m->(o.getD u 0= -1\/0<=o.getD u 0/\o.getD u 0<=n)/\∀d,d<=n->(o.getD u 0=(d:Int)↔Dist m d u)
theorem Lay.next (hc:aw m=0) {n:Nat} {o:List Int} (h:Lay m n o):Lay m (n+1) (fK m o n):=by
 have h0:Mid m n o (λ_=>False) o:=⟨h.1,λu hu=>⟨λ_=>rfl,λ_ hp=>hp.elim,λhn _=>by
  rcases (h.2 u hu).1 with h1|h1
  ·exact h1
  ·omega⟩⟩
 have hM:=Mid.all hc (nS m) 0 o _ (by omega) h0;refine⟨hM.1,λu hu=>?_⟩;obtain⟨h1,h2,h3⟩:=hM.2 u hu;change ((fK m o n).getD u 0= -1\/_)/\_;change 0<=o.getD u 0->(fK m o n).getD u 0=_ at h1;change o.getD u 0<0->_->(fK m o n).getD u 0=_ at h2;change o.getD u 0<0->_->(fK m o n).getD u 0=_ at h3;obtain⟨g1,g2⟩:=h.2 u hu;generalize (fK m o n).getD u 0=x at *;have key:Dist m (n+1) u↔o.getD u 0<0/\(False\/∃s,0<=s/\s<nS m/\o.getD s 0=n/\∃i,i<nI m/\toN m s i=(u:Int)):=by
  constructor
  ·intro hd
   obtain⟨s,i,hs,hi,hD,ht⟩:=hd.prev;refine⟨?_,.inr ⟨s,by omega,hs,((h.2 s hs).2 n (cM _)).2 hD,i,hi,ht⟩⟩;rcases g1 with g1|g1
   ·omega
   ·exfalso
    have:=(g2 (o.getD u 0).toNat (by omega)).1 (by omega);have:=this.uniq hd;omega
  ·rintro⟨hn,hp|⟨s,_,hs,hon,i,hi,ht⟩⟩
   ·exact hp.elim
   ·have hD:=((h.2 s hs).2 n (cM _)).1 hon
    refine⟨⟨s,i,hs,hi,hD.1,ht⟩,λe he hr=>?_⟩;obtain⟨d,hd,hD2⟩:=hr.dist;have:=(g2 d (by omega)).2 hD2;omega
 refine⟨?_,λd hd=>?_⟩
 ·by_cases h0:0<=o.getD u 0
  ·rw[h1 h0];omega
  ·by_cases hp:(False\/∃s,0<=s/\s<nS m/\o.getD s 0=n/\∃i,i<nI m/\toN m s i=(u:Int))
   ·rw[h2 (by omega) hp];omega
   ·rw[h3 (by omega) hp];omega
 ·by_cases h0:0<=o.getD u 0
  ·rw[h1 h0]
   by_cases hdn:d<=n
   ·exact g2 d hdn
   ·obtain rfl:d=n+1:=by omega
    rw[key];omega
  ·by_cases hp:(False\/∃s,0<=s/\s<nS m/\o.getD s 0=n/\∃i,i<nI m/\toN m s i=(u:Int))
   ·rw[h2 (by omega) hp]
    by_cases hdn:d<=n
    ·have:=g2 d hdn
     constructor
     ·intro he;omega
     ·intro hD;have:=this.2 hD;omega
    ·obtain rfl:d=n+1:=by omega
     rw[key];exact⟨λ_=>⟨by omega,hp⟩,λ_=>rfl⟩
   ·rw[h3 (by omega) hp]
    constructor
    ·intro he;omega
    ·intro hD
     exfalso;by_cases hdn:d<=n
     ·have:=(g2 d hdn).2 hD;omega
     ·obtain rfl:d=n+1:=by omega
      exact hp (key.1 hD).2
theorem vw (hc:aw m=0):∀(k v:Nat) (o:List Int),o.length=nS m->∀u,(bl (ea m) k o v).getD u 0=0↔o.getD u 0=0\/∃i,v<=i/\i<v+k/\bw m (dA m (eL m i))=u
 |0,v,o,ho,u=>⟨.inl,λhp=>hp.elim id (λ⟨i,h1,h2,_⟩=>by omega)⟩
 | k+1,v,o,ho,u=>by
  rw[show bl (ea m) (k+1) o v=bl (ea m) k (ea m o v) (v+1) from rfl,vw hc k (v+1) _ (by simp[ea,ho])];have hK:=iT (iU hc v);have e:(ea m o v).getD u 0=0↔o.getD u 0=0\/bw m (dA m (eL m v))=u:=by
   unfold ea;rw[pT,ho];by_cases hu:bw m (dA m (eL m v))=u
   ·rw[if_pos ⟨hu,hK⟩];simp[hu]
   ·rw[if_neg (λhh=>hu hh.1)];simp[hu]
  rw[e];constructor
  ·rintro ((h1|h1)|⟨i,h1,h2,h3⟩)
   ·exact .inl h1
   ·exact .inr ⟨v,cM _,by omega,h1⟩
   ·exact .inr ⟨i,by omega,by omega,h3⟩
  ·rintro (h1|⟨i,h1,h2,h3⟩)
   ·exact .inl (.inl h1)
   ·by_cases hi:i=v
    ·subst hi;exact .inl (.inr h3)
    ·exact .inr ⟨i,by omega,by omega,h3⟩
theorem vx:∀(k v:Nat) (o:List Int),(∀u,u<o.length->o.getD u 0= -1\/o.getD u 0=0)->∀u,u<o.length->(bl (ea m) k o v).getD u 0= -1\/(bl (ea m) k o v).getD u 0=0
 |0,v,o,ho,u,hu=>ho u hu
 |k+1,v,o,ho,u,hu=>by
  rw[show bl (ea m) (k+1) o v=bl (ea m) k (ea m o v) (v+1) from rfl];refine vx k (v+1) _ (λw hw=>?_) u (by simpa [ea] using hu);unfold ea;rw[pT];split
  ·exact .inr rfl
  ·exact ho w (by simpa [ea] using hw)
theorem Dp (hc:aw m=0):Lay m 0 (gX m):=by
 refine⟨pO,λu hu=>⟨?_,λd hd=>?_⟩⟩
 ·rcases vx (m:=m) (nS m) 0 (List.replicate (nS m) (-1)) (λw hw=> .inl (by
   simp at hw;simp[aM,hw])) u (by simpa using hu) with h1|h1
  ·exact .inl h1
  ·right
   change (gX m).getD u 0=0 at h1;rw[h1];exact⟨Int.le_refl _,by omega⟩
 ·obtain rfl:d=0:=by omega
  have:=vw hc (nS m) 0 (List.replicate (nS m) (-1)) (by simp) u;change (gX m).getD u 0=0↔_ at this;rw[aW,this];constructor
  ·rintro (h1|⟨i,h1,h2,h3⟩)
   ·simp[aM,hu] at h1
   ·exact⟨⟨i,by omega,h3⟩,λe he=>by omega⟩
  ·rintro⟨⟨i,h1,h2⟩,_⟩
   exact .inr ⟨i,by omega,by omega,h2⟩
theorem vy (hc:aw m=0):∀(k n:Nat) (o:List Int),Lay m n o->Lay m (n+k) (bl (fK m) k o n)
 |0,n,o,h=>h
 |k+1,n,o,h=>by have:=vy hc k (n+1) _ (h.next hc);rw[show n+(k+1)=n+1+k by omega];exact this
theorem Dq (hc:aw m=0) {u:Nat} (hu:u<nS m):((di m).getD u 0= -1/\∀d,¬Dist m d u)\/∃d:Nat,(di m).getD u 0=d/\Dist m d u:=by
 have h:=vy hc (nS m) 0 _ (Dp hc);rw[cN] at h;change Lay m (nS m) (di m) at h;obtain⟨h1,h2⟩:=h.2 u hu;rcases h1 with h1|h1
 ·refine .inl ⟨h1,λd hd=>?_⟩
  have:=hd.lt hc;have:=(h2 d (by omega)).2 hd;omega
 ·refine .inr ⟨((di m).getD u 0).toNat,by omega,(h2 _ (by omega)).1 (by omega)⟩
end
section
variable {m:Md}
def stX (m:Md) (T:Nat->Option (List Int)) (bdF:Nat->Bool) (e dd:Int) (X:XSt) (i:Nat):XSt:=
 match T i with
 |none=>X
 |some s=>er m (if bdF i&& !X.bad then {X with bad:=true,badAt:=dd } else X) s e
structure Gr (m:Md) (T:Nat->Option (List Int)) (bdF:Nat->Bool) (e dd:Int) (v k:Nat) (X Y:XSt) (l:List (Int×Int)) (w:List (List Int)):Prop where
 deep:Y.deep=X.deep++l
 new:∀q∈l,q.2=e/\∃i s,v<=i/\i<v+k/\T i=some s/\q.1=(bw m s:Nat)
 queue:Y.queue=X.queue++w
 keys:w.map (λs=>((bw m s:Nat):Int))=l.map (·.1)
 cov:∀i s,v<=i->i<v+k->T i=some s->bq Y.deep (bw m s)≠none
 reached:X.deep.length+l.length<=100000->X.reached=(X.deep.length:Int)->Y.reached=(Y.deep.length:Int)
 far:Y.far=if l=[] then X.far else e
 bad:Y.bad=true↔X.bad=true\/∃i,v<=i/\i<v+k/\bdF i=true
 at1:X.bad=true->Y.badAt=X.badAt
 at2:X.bad=false->Y.bad=true->Y.badAt=dd
 at3:Y.bad=false->Y.badAt=X.badAt
theorem pU {l l2:List (Int×Int)} {q:Int} {d:Int} (h:bq l q=some d):bq (l++l2) q=some d:=by
 induction l with
 |nil=>cases h
 |cons p l ih=>
  obtain⟨a,u⟩:=p;simp only[bI,bq] at h ⊢;split
  ·rename_i hq;rw[if_pos hq] at h;exact h
  ·rename_i hq;rw[if_neg hq] at h;exact ih h
theorem Dr {l l2:List (Int×Int)} {q:Int} (h:bq l q=none):bq (l++l2) q=bq l2 q:=by
 induction l with
 |nil=>rfl
 |cons p l ih=>
  obtain⟨a,u⟩:=p;simp only[bI,bq] at h ⊢;split
  ·rename_i hq;rw[if_pos hq] at h;cases h
  ·rename_i hq;rw[if_neg hq] at h;exact ih h
theorem Gr.zero {T:Nat->Option (List Int)} {bdF:Nat->Bool} {e dd:Int} {v:Nat} {X:XSt}:Gr m T bdF e dd v 0 X X [] [] where
 deep:=by simp
 new:=by simp
 queue:=by simp
 keys:=rfl
 cov:=λi s h1 h2=>by omega
 reached:=λ_ h=>h
 far:=by simp
 bad:=⟨.inl,λh=>h.elim id λ⟨i,h1,h2,_⟩=>by omega⟩
 at1:=λ_=>rfl
 at2:=λh1 h2=>by rw[h1] at h2;cases h2
 at3:=λ_=>rfl
theorem Gr.one {T:Nat->Option (List Int)} {bdF:Nat->Bool} {e dd:Int} {v:Nat} {X:XSt} (hb:T v=none->bdF v=false):∃l w,Gr m T bdF e dd v 1 X (stX m T bdF e dd X v) l w:=by
 have hv:∀i,v<=i->i<v+1->i=v:=λi h1 h2=>by omega
 unfold stX;cases hT:T v with
 |none=>
  have hb:=hb hT;refine⟨[],[],⟨by simp,by simp,by simp,rfl,λi s h1 h2 h3=>?_,λ_ h=>h,by simp,⟨.inl,λh=>h.elim id λ⟨i,h1,h2,h3⟩=>?_⟩,λ_=>rfl,λh1 h2=>?_,λ_=>rfl⟩⟩
  ·rw[hv i h1 h2,hT] at h3;cases h3
  ·rw[hv i h1 h2,hb] at h3;cases h3
  ·rw[h1] at h2;cases h2
 | some s=>
  show ∃l w,Gr m T bdF e dd v 1 X (er m (if bdF v&& !X.bad then {X with bad:=true,badAt:=dd } else X) s e) l w
  have base:∀X':XSt,X'.deep=X.deep->X'.queue=X.queue->X'.reached=X.reached->X'.far=X.far->(X'.bad=true↔X.bad=true\/bdF v=true)->(X.bad=true->X'.badAt=X.badAt)->(X.bad=false->X'.bad=true->X'.badAt=dd)->(X'.bad=false->X'.badAt=X.badAt)->
    ∃l w,Gr m T bdF e dd v 1 X (er m X' s e) l w:=by
   intro X' e1 e2 e3 e4 e5 e6 e7 e8;have hbad:(X'.bad=true↔X.bad=true\/∃i,v<=i/\i<v+1/\bdF i=true):=by
    rw[e5];constructor
    ·rintro (h|h)
     ·exact .inl h
     ·exact .inr ⟨v,cM _,by omega,h⟩
    ·rintro (h|⟨i,h1,h2,h3⟩)
     ·exact .inl h
     ·exact .inr (hv i h1 h2▸h3)
   unfold er;cases hf:bq X'.deep (bw m s) with
   |some d=>
    refine⟨[],[],⟨by simp[e1],by simp,by simp[e2],rfl,λi s' h1 h2 h3=>?_,λ_ h=>by rw[e3,e1];exact h,by simp[e4],hbad,e6,e7,e8⟩⟩;rw[hv i h1 h2,hT] at h3;cases h3
    show bq X'.deep _≠none
    rw[hf];simp
   | none=>
    refine⟨[((bw m s:Nat),e)],[s],⟨?_,λq hq=>?_,?_,rfl,λi s' h1 h2 h3=>?_,λhle h=>?_,by simp,hbad,e6,e7,e8⟩⟩
    ·show eG X'.deep _ _=_
     rw[jq hf,e1]
    ·simp at hq
     subst hq;exact⟨rfl,v,s,cM _,by omega,hT,rfl⟩
    ·show X'.queue++[s]=_
     rw[e2]
    ·rw[hv i h1 h2,hT] at h3
     cases h3
     show bq (eG X'.deep _ _) _≠none
     rw[jq hf,Dr hf];simp[bq]
    ·show WI.wrap (X'.reached+1)=((eG X'.deep _ _).length:Int)
     rw[jq hf,e3,h,e1];simp at hle;rw[az (by omega) (by omega)];simp
  refine base _ ?_ ?_ ?_ ?_ ?_ ?_ ?_ ?_
  ·split<;>rfl
  ·split<;>rfl
  ·split<;>rfl
  ·split<;>rfl
  ·cases h1:bdF v<;>cases h2:X.bad<;>simp[h2]
  ·intro h2;simp[h2]
  ·intro h2;cases h1:bdF v<;>simp[h2]
  ·cases h1:bdF v<;>cases h2:X.bad<;>simp[h2]
theorem Gr.trans {T:Nat->Option (List Int)} {bdF:Nat->Bool} {e dd:Int} {v k:Nat} {X Y Z:XSt} {l l2:List (Int×Int)} {w w2:List (List Int)} (h:Gr m T bdF e dd v 1 X Y l w) (g:Gr m T bdF e dd (v+1) k Y Z l2 w2):Gr m T bdF e dd v (k+1) X Z (l++l2) (w++w2) where
 deep:=by rw[g.deep,h.deep,aY]
 new:=λq hq=>by
  rcases bY.1 hq with hq|hq
  ·obtain⟨h1,i,s,h2,h3,h4⟩:=h.new q hq
   exact⟨h1,i,s,h2,by omega,h4⟩
  ·obtain⟨h1,i,s,h2,h3,h4⟩:=g.new q hq
   exact⟨h1,i,s,by omega,by omega,h4⟩
 queue:=by rw[g.queue,h.queue,aY]
 keys:=by rw[bJ,bJ,h.keys,g.keys]
 cov:=λi s h1 h2 h3=>by
  by_cases hi:i<v+1
  ·have:=h.cov i s h1 hi h3
   obtain⟨d,hd⟩:=Option.ne_none_iff_exists'.1 this;rw[g.deep,pU hd];simp
  ·exact g.cov i s (by omega) (by omega) h3
 reached:=λhle hr=>by simp at hle;refine g.reached ?_ (h.reached (by omega) hr);rw[h.deep];simp;omega
 far:=by
  rw[g.far,h.far];cases l2 with
  |nil=>simp
  |cons a l2=>simp
 bad:=by
  rw[g.bad,h.bad];constructor
  ·rintro ((h1|⟨i,h1,h2,h3⟩)|⟨i,h1,h2,h3⟩)
   ·exact .inl h1
   ·exact .inr ⟨i,h1,by omega,h3⟩
   ·exact .inr ⟨i,by omega,by omega,h3⟩
  ·rintro (h1|⟨i,h1,h2,h3⟩)
   ·exact .inl (.inl h1)
   ·by_cases hi:i<v+1
    ·exact .inl (.inr ⟨i,h1,hi,h3⟩)
    ·exact .inr ⟨i,by omega,by omega,h3⟩
 at1:=λh1=>by rw[g.at1 (h.bad.2 (.inl h1)),h.at1 h1]
 at2:=λh1 h2=>by
  cases hy:Y.bad with
  |true=>rw[g.at1 hy];exact h.at2 h1 hy
  |false=>exact g.at2 hy h2
 at3:=λh1=>by
  have hy:Y.bad=false:=by
   cases hy:Y.bad with
   |false=>rfl
   |true=>rw[g.bad.2 (.inl hy)] at h1;cases h1
  rw[g.at3 h1,h.at3 hy]
theorem Gr.fold {T:Nat->Option (List Int)} {bdF:Nat->Bool} {e dd:Int} (hb:∀v,T v=none->bdF v=false):∀(k v:Nat) (X:XSt),∃l w,Gr m T bdF e dd v k X (bl (stX m T bdF e dd) k X v) l w
 |0,v,X=>⟨[],[],Gr.zero⟩
 |k+1,v,X=>by obtain⟨l,w,h⟩:=Gr.one (m:=m) (T:=T) (bdF:=bdF) (e:=e) (dd:=dd) (v:=v) (X:=X) (hb v);obtain⟨l2,w2,g⟩:=Gr.fold hb k (v+1) (stX m T bdF e dd X v);exact⟨l++l2,w++w2,h.trans g⟩
def tV (m:Md) (s:List Int) (v:Nat):Option (List Int):=if eT m (cj m s (jr m v)) then some (dP m (cj m s (jr m v))) else none
def bV (m:Md) (s:List Int) (v:Nat):Bool:=fw m (cj m s (jr m v))&&eT m (cj m s (jr m v))
theorem Ds (s:List Int) (d:Int):lc m s d=stX m (tV m s) (bV m s) (WI.wrap (d+1)) d:=by
 funext X v
 unfold lc fX stX tV bV;cases h:eT m (cj m s (jr m v)) with
 |false=>simp[h]
 |true=>simp[h]
theorem Dt:gW m=stX m (λv=>some (dA m (eL m v))) (λ_=>false) 0 0:=by
 funext X v
 unfold gW stX;simp
theorem vz {s:List Int} (h:SOk m s):eL m (bw m s)=s:=by obtain⟨h1,h2⟩:=mJ h;exact uM h1 h2
theorem vA {s:List Int} (h:SOk m s) (v:Nat):(∀t,tV m s v=some t->toN m (bw m s) v=(bw m t:Nat))/\(∀u:Nat,toN m (bw m s) v=u->∃t,tV m s v=some t/\bw m t=u):=by
 have e:=vz h;unfold tV toN vN;rw[e];cases hh:eT m (cj m s (jr m v)) with
 |false=>simp
 |true=>
  simp;omega
theorem vB {s:List Int} (h:SOk m s) (v:Nat):bV m s v=bdN m (bw m s) v:=by unfold bV bdN vN;rw[vz h]
def gy (m:Md) (k:Int):Prop:=∃i,i<nI m/\bdN m k.toNat i=true
structure Bf (m:Md) (X:XSt) (p:Nat):Prop where
 inv:XInv m X
 le:p<=X.deep.length
 dep:∀q∈X.deep,q.2<=(p:Int)
 que:X.queue.map (λs=>((bw m s:Nat):Int))=(X.deep.drop p).map (·.1)
 sound:∀q∈X.deep,∃n:Nat,q.2=n/\RN m n q.1.toNat
 sorted:X.deep.Pairwise λa b=>a.2<=b.2
 closed:∀j k d,j<p->X.deep[j]?=some (k,d)->∀i,i<nI m->∀u:Nat,toN m k.toNat i=u->∃d',bq X.deep u=some d'/\d'<=d+1
 init:∀u:Nat,RN m 0 u->bq X.deep u=some 0
 bound:∀a,X.deep[p]?=some a->∀q∈X.deep,q.2<=a.2+1
 reached:X.reached=(X.deep.length:Int)
 far:(∀q∈X.deep,q.2<=X.far)/\(X.deep=[]/\X.far=0\/∃q∈X.deep,q.2=X.far)
 bad:X.bad=true↔∃q∈X.deep.take p,gy m q.1
 badAt:X.bad=true->(∃q∈X.deep.take p,gy m q.1/\q.2=X.badAt)/\∀q∈X.deep.take p,gy m q.1->X.badAt<=q.2
 at0:X.bad=false->X.badAt=0
theorem pV:∀{l:List (Int×Int)} {k d:Int},(l.map (·.1)).Nodup->(k,d)∈l->bq l k=some d
 |[],_,_,_,h=>by simp at h
 | (a,u)::l,k,d,hn,h=>by
  rw[bP,List.nodup_cons] at hn;simp only[bq];rcases List.mem_cons.1 h with h2|h2
  ·cases h2;simp
  ·rw[if_neg (λe=>hn.1 (List.mem_map.2 ⟨(k,d),h2,e⟩))]
   exact pV hn.2 h2
theorem Bf.begin (hc:aw m=0):Bf m (fz m) 0:=by
 have hI:=u6 hc;obtain⟨l,w,g⟩:=Gr.fold (m:=m) (T:=λv=>some (dA m (eL m v))) (bdF:=λ_=>false) (e:=0) (dd:=0) (λ_ _=>rfl) (nS m) 0 xs0;rw[<-Dt] at g;rw[show bl (gW m) (nS m) xs0 0=fz m from rfl] at g;have hd:(fz m).deep=l:=by rw[g.deep];rfl
 have hlen:=hI.len;have hN:nS m<=1024:=bN (n:=2) (by decide) (dC hc).2;have h0:∀q∈(fz m).deep,q.2=0:=λq hq=>(g.new q (hd▸hq)).1
 refine⟨hI,Nat.zero_le _,λq hq=>by rw[h0 q hq];exact Int.le_refl _,?_,λq hq=>?_,?_,λj k d hj=>by omega,λu hu=>?_,λa ha q hq=>?_,?_,⟨λq hq=>?_,?_⟩,?_,λhb=>?_,λhb=>?_⟩
 ·rw[g.queue,hd]
  simpa [xs0] using g.keys
 ·obtain⟨h1,i,s,_,h2,h3,h4⟩:=g.new q (hd▸hq)
  refine⟨0,by omega,i,by omega,?_⟩;cases h3;rw[h4];simp
 ·refine List.pairwise_of_forall_mem_list λa ha b hb=>?_
  rw[h0 a ha,h0 b hb];exact Int.le_refl _
 ·obtain⟨v,hv,hk⟩:=hu
  have:=g.cov v _ (Nat.zero_le _) (by omega) rfl;obtain⟨d,hd2⟩:=Option.ne_none_iff_exists'.1 this;rw[hk] at hd2;have:=h0 _ (j8 hd2);simp at this;rw[hd2,this]
 ·rw[h0 q hq,h0 a (aP ha)];omega
 ·refine g.reached ?_ rfl
  rw[hd] at hlen;simp[xs0];omega
 ·rw[h0 q hq,g.far]
  split<;>simp[xs0]
 ·by_cases hl:l=[]
  ·left
   rw[g.far,hd,if_pos hl];exact⟨hl,rfl⟩
  ·right
   rw[g.far,hd,if_neg hl];obtain⟨a,ha⟩:=List.exists_mem_of_ne_nil l hl;exact⟨a,ha,(g.new a ha).1⟩
 ·rw[g.bad];simp[xs0]
 ·have:=g.bad.1 hb;simp[xs0] at this
 ·rw[g.at3 hb];rfl
theorem Bf.step (hc:aw m=0) {X:XSt} {p:Nat} (h:Bf m X p) {s:List Int} {q:List (List Int)} (hq:X.queue=s::q) :
  Bf m (fx m s ((bq X.deep (bw m s)).getD 0) {X with queue:=q }) (p+1):=by
 have hN:nS m<=1024:=bN (n:=2) (by decide) (dC hc).2;have hs:=(h.inv.q s (by rw[hq];exact bE)).1;have hks:=iT hs;have hque:=h.que;rw[hq,bP] at hque;have hpl:p<X.deep.length:=by
  rcases Nat.lt_or_ge p X.deep.length with h1|h1
  ·exact h1
  ·rw[aQ h1] at hque;cases hque
 rw[aL hpl,bP,List.cons.injEq] at hque;obtain⟨hk1,hque⟩:=hque;have hget:X.deep[p]?=some X.deep[p]:=aA hpl;have hmem:X.deep[p]∈X.deep:=bX hpl;obtain⟨⟨ks,d0⟩,hA⟩:∃a,X.deep[p]=a:=⟨_,rfl⟩
 rw[hA] at hk1 hget hmem;simp only at hk1;subst hk1;rw[pV h.inv.nd hmem,Option.getD_some];obtain⟨n,hn,hrn⟩:=h.sound _ hmem;simp only at hn hrn;rw[Int.toNat_natCast] at hrn;have hdp:=h.dep _ hmem;have hlen:=h.inv.len;have hle:=h.le;simp only at hdp;have hw:WI.wrap (d0+1)=d0+1:=az (by omega) (by omega);have hbound:=h.bound _ hget;simp only at hbound;obtain⟨l,w,g⟩:=Gr.fold (m:=m) (T:=tV m s) (bdF:=bV m s) (e:=d0+1) (dd:=d0) (λv hv=>by
  unfold tV at hv;unfold bV;split at hv
  ·cases hv
  ·rename_i hh;simp[hh]) (nI m) 0 {X with queue:=q }
 have hI':XInv m (fx m s d0 {X with queue:=q }):=(h.inv.pop hq).all hc hs d0;have e0:=Ds (m:=m) s d0;rw[hw] at e0;rw[<-e0] at g;change Gr m _ _ _ _ 0 (nI m) _ (fx m s d0 {X with queue:=q }) l w at g;generalize fx m s d0 {X with queue:=q }=Y at *;have gd:Y.deep=X.deep++l:=g.deep;have hlen':=hI'.len;have hYlen:Y.deep.length=X.deep.length+l.length:=by rw[gd];simp
 have hYp:Y.deep[p]?=some (((bw m s:Nat):Int),d0):=by rw[gd,aJ hpl];exact hget
 have hall:∀a∈Y.deep,a.2<=d0+1:=λa ha=>by
  rw[gd] at ha;rcases bY.1 ha with ha|ha
  ·exact hbound a ha
  ·rw[(g.new a ha).1];exact Int.le_refl _
 have hsort:Y.deep.Pairwise λa b=>a.2<=b.2:=by
  rw[gd,List.pairwise_append];refine⟨h.sorted,List.pairwise_of_forall_mem_list λa ha b hb=>?_,λa ha b hb=>?_⟩
  ·rw[(g.new a ha).1,(g.new b hb).1];exact Int.le_refl _
  ·rw[(g.new b hb).1];exact hbound a ha
 have htake:Y.deep.take (p+1)=X.deep.take p++[(((bw m s:Nat):Int),d0)]:=by rw[gd,List.take_append_of_le_length (by omega),List.take_add_one,hget];rfl
 have hbk:gy m ((bw m s:Nat):Int)↔∃i,0<=i/\i<0+nI m/\bV m s i=true:=by
  unfold gy;rw[Int.toNat_natCast];constructor
  ·rintro⟨i,h1,h2⟩;exact⟨i,by omega,by omega,by rw[vB hs];exact h2⟩
  ·rintro⟨i,_,h1,h2⟩;exact⟨i,by omega,by rw[<-vB hs];exact h2⟩
 have hbad:Y.bad=true↔X.bad=true\/gy m ((bw m s:Nat):Int):=by rw[hbk];exact g.bad
 have hle0:∀a∈X.deep.take p,a.2<=d0:=λa ha=>by have hs2:=h.sorted;rw[<-List.take_append_drop p X.deep,List.pairwise_append] at hs2;refine hs2.2.2 a ha (((bw m s:Nat):Int),d0) ?_;rw[aL hpl,hA];exact bE
 refine⟨hI',by omega,λa ha=>?_,?_,λa ha=>?_,hsort,λj k d hj hjd i hi u hu=>?_,λu hu=>?_,λa ha b hb=>?_,?_,⟨λa ha=>?_,?_⟩,?_,λhb=>?_,λhb=>?_⟩
 ·have:=hall a ha
  omega
 ·rw[g.queue,gd,List.drop_append_of_le_length (by omega),bJ,bJ,g.keys]
  show q.map _++_=_
  rw[hque]
 ·rw[gd] at ha
  rcases bY.1 ha with ha|ha
  ·exact h.sound a ha
  ·obtain⟨h1,i,t,_,h2,h3,h4⟩:=g.new a ha
   refine⟨n+1,by omega,bw m s,i,hks,by omega,hrn,?_⟩;rw[(vA hs i).1 t h3,h4];simp
 ·by_cases hjp:j<p
  ·rw[gd,aJ (by omega)] at hjd
   obtain⟨d',h1,h2⟩:=h.closed j k d hjp hjd i hi u hu;exact⟨d',by rw[gd];exact pU h1,h2⟩
  ·obtain rfl:j=p:=by omega
   rw[hYp] at hjd;cases hjd;rw[Int.toNat_natCast] at hu;obtain⟨t,h1,h2⟩:=(vA hs i).2 u hu;have:=g.cov i t (Nat.zero_le _) (by omega) h1;obtain⟨d',hd'⟩:=Option.ne_none_iff_exists'.1 this;rw[h2] at hd';exact⟨d',hd',hall _ (j8 hd')⟩
 ·rw[gd];exact pU (h.init u hu)
 ·have h1:=hall b hb
  have h2:d0<=a.2:=by obtain⟨hlt,ha⟩:=aD.1 ha;obtain⟨hlt2,hp⟩:=aD.1 hYp;have:=List.pairwise_iff_getElem.1 hsort p (p+1) hlt2 hlt (by omega);rw[ha,hp] at this;exact this
  omega
 ·exact g.reached (by show X.deep.length+_<=_;omega) h.reached
 ·rw[g.far]
  split
  ·rename_i hl
   rw[gd,hl,bG] at ha;exact h.far.1 a ha
  ·exact hall a ha
 ·rw[g.far]
  by_cases hl:l=[]
  ·rw[if_pos hl,gd,hl,bG]
   exact h.far.2
  ·rw[if_neg hl]
   obtain⟨a,ha⟩:=List.exists_mem_of_ne_nil l hl;exact .inr ⟨a,by rw[gd];exact bD _ ha,(g.new a ha).1⟩
 ·rw[hbad,h.bad,htake]
  constructor
  ·rintro (⟨a,h1,h2⟩|h1)
   ·exact⟨a,bC _ h1,h2⟩
   ·exact⟨(((bw m s:Nat):Int),d0),bD _ bE,h1⟩
  ·rintro⟨a,h1,h2⟩
   rcases bY.1 h1 with h1|h1
   ·exact .inl ⟨a,h1,h2⟩
   ·simp at h1;subst h1;exact .inr h2
 ·rw[htake]
  cases hx:X.bad with
  | true=>
   rw[g.at1 hx];obtain⟨⟨a,h1,h2,h3⟩,h4⟩:=h.badAt hx;refine⟨⟨a,bC _ h1,h2,h3⟩,λb hb1 hb2=>?_⟩;rcases bY.1 hb1 with hb1|hb1
   ·exact h4 b hb1 hb2
   ·simp at hb1;subst hb1
    have:=hle0 a h1
    show X.badAt<=d0
    omega
  | false=>
   rw[g.at2 hx hb];rw[hbad,hx] at hb;have hb:=hb.resolve_left (by simp);refine⟨⟨(((bw m s:Nat):Int),d0),bD _ bE,hb,rfl⟩,λb hb1 hb2=>?_⟩;rcases bY.1 hb1 with hb1|hb1
   ·have:=h.bad.2 ⟨b,hb1,hb2⟩
    rw[hx] at this;cases this
   ·simp at hb1;subst hb1;exact Int.le_refl _
 ·rw[g.at3 hb]
  have hx:X.bad=false:=by
   cases hx:X.bad with
   |false=>rfl
   |true=>rw[hbad.2 (.inl hx)] at hb;cases hb
  exact h.at0 hx
theorem Bf.run (hc:aw m=0):∀(n:Nat) (X:XSt) (p:Nat),Bf m X p->∃p',Bf m (fy m n X) p'
 |0,X,p,h=>⟨p,h⟩
 |n+1,X,p,h=>by
  cases hq:X.queue with
  |nil=>simp only[fy,hq];exact⟨p,h⟩
  |cons s q=>simp only[fy,hq];exact Bf.run hc n _ _ (h.step hc hq)
structure Du (m:Md) (X:XSt):Prop where
 inv:XInv m X
 find:∀(u:Nat) (d:Int),bq X.deep u=some d↔∃n:Nat,d=n/\Dist m n u
 reached:X.reached=(X.deep.length:Int)
 far:(∀q∈X.deep,q.2<=X.far)/\(X.deep=[]/\X.far=0\/∃q∈X.deep,q.2=X.far)
 bad:X.bad=true↔∃q∈X.deep,gy m q.1
 badAt:X.bad=true->(∃q∈X.deep,gy m q.1/\q.2=X.badAt)/\∀q∈X.deep,gy m q.1->X.badAt<=q.2
 at0:X.bad=false->X.badAt=0
theorem Dv (hc:aw m=0):(eE m).queue=[]:=by obtain⟨_,_,_,_,_,_,h⟩:=pG (gh:=[]) hc;exact h
theorem mQ (hc:aw m=0):Du m (eE m):=by
 obtain⟨p,h⟩:=Bf.run hc 2048 _ _ (Bf.begin hc);change Bf m (eE m) p at h;have hq:=Dv hc;generalize eE m=X at *;have hp:X.deep.length<=p:=by have:=h.que;rw[hq] at this;have:=congrArg List.length this;simp at this;omega
 have htake:X.deep.take p=X.deep:=bM hp;have hbad:=h.bad;have hbadAt:=h.badAt;rw[htake] at hbad hbadAt;have comp:∀n u,RN m n u->∃d,bq X.deep u=some d/\d<=(n:Int):=by
  intro n
  induction n with
  |zero=>exact λu hu=>⟨0,h.init u hu,by simp⟩
  |succ n ih=>
   rintro u ⟨s,i,hs,hi,hr,ht⟩;obtain⟨d,h1,h2⟩:=ih s hr;obtain⟨j,hj⟩:=List.mem_iff_getElem?.1 (j8 h1);have hjl:=(aD.1 hj).1;obtain⟨d',h3,h4⟩:=h.closed j _ _ (by omega) hj i hi u (by rw[Int.toNat_natCast];exact ht);exact⟨d',h3,by omega⟩
 have snd:∀(u:Nat) (d:Int),bq X.deep u=some d->∃n:Nat,d=n/\RN m n u:=λu d hd=>by obtain⟨n,h1,h2⟩:=h.sound _ (j8 hd);rw[Int.toNat_natCast] at h2;exact⟨n,h1,h2⟩
 refine⟨h.inv,λu d=>⟨λhd=>?_,?_⟩,h.reached,h.far,hbad,hbadAt,h.at0⟩
 ·obtain⟨n,h1,h2⟩:=snd u d hd
  refine⟨n,h1,h2,λe he hr=>?_⟩;obtain⟨d',h3,h4⟩:=comp e u hr;rw[hd] at h3;cases h3;omega
 ·rintro⟨n,rfl,hD⟩
  obtain⟨d',h3,h4⟩:=comp n u hD.1;obtain⟨k,h5,h6⟩:=snd u d' h3;have:¬k<n:=λhk=>hD.2 k hk h6
  rw[h3]
  congr 1
  omega
end
theorem io:Nat.ble 2 4=true:=rfl
theorem ip:Nat.ble 3 4=true:=rfl
theorem iq:Nat.ble 4 4=true:=rfl
theorem ir:Nat.ble 1 4=true:=rfl
section
variable {m:Md} {gh:List GObj}
structure Fd where
 r:Int
 d:Int
 b:Bool
 a:Int
def dV (d:Int) (f:Fd) (x:Bool):Fd:=if x=true/\(f.b=false\/d<f.a) then {f with b:=true,a:=d } else f
def iV (m:Md) (o:List Int) (f:Fd) (s:Nat):Fd:=
 if o.getD s 0<0 then f else bl (λf i=>dV (o.getD s 0) f (bdN m s i)) (nI m) {f with r:=WI.wrap (f.r+1),d:=if f.d<o.getD s 0 then o.getD s 0 else f.d } 0
def ke (m:Md):Fd:=bl (iV m (di m)) (nS m) ⟨0,0,false,0⟩ 0
abbrev fdC (f:Fd):List PV:=[I f.r,I f.d,B f.b,I f.a]
abbrev eLh (m:Md) (f:Fd):List (List PV):=[mLh m,[I 0,I 0,B false,I 0],wLh m,fdC f]
theorem vC (h:aw m=0) {s:Nat} (hs:s<nS m) {o:List Int} (ho:o.length=nS m):∀k i (f:Fd),i+k=nI m->
  ab pg q8g ⟨[(2,.ptr false 1 0),(3,.ptr false 2 0),(4,LI o),(5,.ptr false 3 0),(6,I (s:Int)),(7,I (i:Int))],eLh m f,gh⟩=
   some (.normal,⟨[(2,.ptr false 1 0),(3,.ptr false 2 0),(4,LI o),(5,.ptr false 3 0),(6,I (s:Int))],eLh m (bl (λf i=>dV (o.getD s 0) f (bdN m s i)) k f i),gh⟩)
 |0,i,f,hi=>by
  have hlt:¬i<nI m:=by omega
  have g2:(dI m)[s]?=some (d9 m s):=by simp[dI,hs]
  have g2':((dI m).map λr=>PV.sl false 1 (r.map B))[s]?=some (.sl false 1 ((d9 m s).map B)):=by rw[aB,g2];rfl
  have hl2:decide (s<((dI m).map λr=>PV.sl false 1 (r.map B)).length)=true:=by simp[dI,hs]
  have hlen:((d9 m s).map B).length=nI m:=by simp[d9]
  unfold eLh wLh LBB fdC;generalize (d9 m s).map B=R at *;generalize (dI m).map (λr=>PV.sl false 1 (r.map B))=A at *;have hlR2:decide (i<R.length)=false:=aF (by omega);refine (bm (s1:=?s1) (qfw ?h1)).trans ?r1
  case h1=>simp[g2',hl2,hlR2];rfl
  case r1=>simp[keep,bh,bl,ir,io,ip,iq]
 | k +1,i,f,hi=>by
  have ih:=vC h hs ho k (i+1) (dV (o.getD s 0) f (bdN m s i)) (by omega);have hN:nS m<=1024:=bN (n:=2) (by decide) (dC h).2;have hI:nI m<=64:=bN (n:=2) (by decide) (dC h).1;have hlt:i<nI m:=by omega
  have e2:WI.wrap ((i:Int)+1)=((i+1:Nat):Int):=by rw[az (by omega) (by omega)];omega
  obtain⟨_,_,g1,g2⟩:=vq (m:=m) hs hlt;have g2':((dI m).map λr=>PV.sl false 1 (r.map B))[s]?=some (.sl false 1 ((d9 m s).map B)):=by rw[aB,g2];rfl
  have hl2:decide (s<((dI m).map λr=>PV.sl false 1 (r.map B)).length)=true:=by simp[dI,hs]
  have hlen:((d9 m s).map B).length=nI m:=by simp[d9]
  have g1':((d9 m s).map B)[i]?=some (B (bdN m s i)):=by rw[aB,g1];rfl
  have hg:=get_at (o:=o) (i:=s) (by omega);have hlo:decide (s<(o.map I).length)=true:=aG (by simp;omega);refine bc (qfw ?_) ih;have k2:∀f',ab pg q1j ⟨[(2,.ptr false 1 0),(3,.ptr false 2 0),(4,LI o),(5,.ptr false 3 0),(6,I (s:Int)),(7,I (i:Int))],eLh m f',gh⟩=some (.normal,⟨[(2,.ptr false 1 0),(3,.ptr false 2 0),(4,LI o),(5,.ptr false 3 0),(6,I (s:Int)),(7,I ((i:Int)+1))],eLh m f',gh⟩):=λf'=>by refine qk5 ?_;simp[e2]
  have k2t:=k2 {f with b:=true,a:=o.getD s 0 };have k2f:=k2 f;unfold dV;obtain⟨fr,fd,fb,fa⟩:=f;unfold eLh wLh LBB fdC at *;generalize o.getD s 0=d at *;generalize bdN m s i=x at *;simp only[LI] at *;generalize o.map I=O at *;generalize (d9 m s).map B=R at *;generalize (dI m).map (λr=>PV.sl false 1 (r.map B))=A at *;generalize LL (dD m)=z at *;have hR:decide (i<R.length)=true:=aG (by omega);cases x with
  |false=>
   rw[if_neg (by simp)];simp[g2',hl2,hR,g1',k2f,ir,io,ip,iq,-List.getElem?_map]
  | true=>
   cases fb with
   |false=>
    rw[if_pos (by simp)];simp[g2',hl2,hR,g1',hg,hlo,k2t,ir,io,ip,iq,-List.getElem?_map]
   | true=>
    by_cases hd:d<fa
    ·rw[if_pos ⟨rfl,.inr hd⟩]
     simp[g2',hl2,hR,g1',hg,hlo,hd,k2t,ir,io,ip,iq,-List.getElem?_map]
    ·rw[if_neg (by simp[hd])]
     simp[g2',hl2,hR,g1',hg,hlo,hd,k2f,ir,io,ip,iq,-List.getElem?_map]
theorem vD (h:aw m=0) {o:List Int} (ho:o.length=nS m):∀k s (f:Fd),s+k=nS m->
  ab pg q8h ⟨[(2,.ptr false 1 0),(3,.ptr false 2 0),(4,LI o),(5,.ptr false 3 0),(6,I (s:Int))],eLh m f,gh⟩=
   some (.normal,⟨[(2,.ptr false 1 0),(5,.ptr false 3 0)],eLh m (bl (iV m o) k f s),gh⟩)
 |0,s,f,hi=>by
  have hlt:¬s<nS m:=by omega
  have hlo:decide (s<(o.map I).length)=false:=aF (by simp;omega);unfold eLh wLh LBB fdC;simp only[LI] at *;generalize o.map I=O at *;refine (bm (s1:=?s1) (qfx ?h1)).trans ?r1
  case h1=>simp[hlo];rfl
  case r1=>simp[keep,bh,bl,ir,io,ip,iq]
 | k+1,s,f,hi=>by
  have ih:=vD h ho k (s+1) (iV m o f s) (by omega);have hN:nS m<=1024:=bN (n:=2) (by decide) (dC h).2;have hlt:s<nS m:=by omega
  have e2:WI.wrap ((s:Int)+1)=((s+1:Nat):Int):=by rw[az (by omega) (by omega)];omega
  have hg:=get_at (o:=o) (i:=s) (by omega);have hlo:decide (s<(o.map I).length)=true:=aG (by simp;omega);refine bc (qfx ?_) ih;have k3:∀f',ab pg q1z ⟨[(2,.ptr false 1 0),(3,.ptr false 2 0),(4,LI o),(5,.ptr false 3 0),(6,I (s:Int))],eLh m f',gh⟩=some (.normal,⟨[(2,.ptr false 1 0),(3,.ptr false 2 0),(4,LI o),(5,.ptr false 3 0),(6,I ((s:Int)+1))],eLh m f',gh⟩):=λf'=>by refine qk7 ?_;simp[e2]
  have k1:∀f',ab pg q30 ⟨[(2,.ptr false 1 0),(3,.ptr false 2 0),(4,LI o),(5,.ptr false 3 0),(6,I (s:Int))],eLh m f',gh⟩=some (.normal,⟨[(2,.ptr false 1 0),(3,.ptr false 2 0),(4,LI o),(5,.ptr false 3 0),(6,I (s:Int))],eLh m (bl (λf i=>dV (o.getD s 0) f (bdN m s i)) (nI m) f' 0),gh⟩):=λf'=>by have:=vC (gh:=gh) h hlt ho (nI m) 0 f' (by omega);simp only[aW] at this;refine qk6 ?_;simp[this]
  unfold iV;by_cases hd:o.getD s 0<0
  ·rw[if_pos hd]
   have k3':=k3 f;unfold eLh wLh LBB fdC at *;generalize o.getD s 0=d at *;simp only[LI] at *;generalize o.map I=O at *;simp[hg,hlo,hd,k3',ir,io,ip,iq,-List.getElem?_map]
  ·rw[if_neg hd]
   have k1':=k1 {f with r:=WI.wrap (f.r+1),d:=if f.d<o.getD s 0 then o.getD s 0 else f.d };generalize bl (λf i=>dV (o.getD s 0) f (bdN m s i)) (nI m) {f with r:=WI.wrap (f.r+1),d:=if f.d<o.getD s 0 then o.getD s 0 else f.d } 0=F at *;have k3':=k3 F;unfold eLh wLh LBB fdC at *;generalize o.getD s 0=d at *;simp only[LI] at *;generalize o.map I=O at *;by_cases hfd:f.d<d
   ·rw[if_pos hfd] at k1'
    simp[hg,hlo,hd,hfd,k1',k3',ir,io,ip,iq,-List.getElem?_map]
   ·rw[if_neg hfd] at k1'
    simp[hg,hlo,hd,hfd,k1',k3',ir,io,ip,iq,-List.getElem?_map]
theorem Dw (h:aw m=0):ac pg 324 [de m] gh=some (.agg (fdC (ke m)),gh):=by
 have hW:=vl (gh:=gh) h;have hL:=vv (gh:=gh) h;have h1:=vD (gh:=gh) h (o:=di m) mP (nS m) 0 ⟨0,0,false,0⟩ (by omega);rw[show bl (iV m (di m)) (nS m) ⟨0,0,false,0⟩ 0=ke m from rfl] at h1;simp only[aW] at h1;generalize ke m=F at *;have hn:=eQ (di m);unfold eLh wLh LBB LL fdC lf at *;have n1:=vj (dD m);have n2:=vk (dI m);unfold LL LBB at hW hL;simp only[LI] at *;generalize (di m).map I=O at *;generalize (dD m).map (λr=>PV.sl false 1 (r.map I))=A at *;generalize (dI m).map (λr=>PV.sl false 1 (r.map B))=C at *;rw[bz] at *
 have k4:ab pg q4o ⟨[(2,.ptr false 1 0),(5,.ptr false 3 0)],[mLh m,[I 0,I 0,B false,I 0],[.sl false 1 A,.sl false 1 C],[I F.r,I F.d,B F.b,I F.a]],gh⟩=some (.ret,⟨[(2,.ptr false 1 0)],[mLh m,[I F.r,I F.d,B F.b,I F.a]],gh⟩):=by refine qk8 ?_;simp
 refine ao (fn:=q8i) (s:=⟨[(2,.ptr false 1 0)],[mLh m,[I F.r,I F.d,B F.b,I F.a]],gh⟩) rfl rfl (qk9 ?h1) ?r1
 case h1=>simp[hW,hL,h1,k4]
 case r1=>simp[al,results,q8i,am,aq,ai,St.cellsAt]
theorem Dx (h:aw m=0):ac pg 320 [de m] gh=some (B (decide (bo m.nodes (ah m.nodes 2)+bo m.nodes (ah m.nodes 3)<=9)),gh):=by
 have hb2:=(dC h).1;have hb3:=(dC h).2;have t2:=(j9 (gh:=gh) h 2 (by omega)).1;have t3:=(j9 (gh:=gh) h 3 hb3).1;generalize bo m.nodes (ah m.nodes 2)=x at *;generalize bo m.nodes (ah m.nodes 3)=y at *;have hw:WI.wrap ((x:Int)+(y:Int))=((x+y:Nat):Int):=by rw[az (by omega) (by omega)];omega
 have hd:decide (WI.wrap ((x:Int)+(y:Int))<=9)=decide (x+y<=9):=by rw[hw];apply decide_eq_decide.2;omega
 rw[bz] at *;refine ao (fn:=q66) (s:=⟨[(2,B (decide (x+y<=9)))],[],gh⟩) rfl rfl (qkb ?h1) ?r1
 case h1=>simp[t2,t3,hd]
 case r1=>simp[al,results,q66,am,aq,ai]
end
section
variable {m:Md} {gh:List GObj}
abbrev mR (X:XSt):PV:= .agg [I X.reached,I X.far,B X.bad,I X.badAt]
def eF (m:Md):XSt:=if aw m=0 then eE m else xs0
def iW (m:Md) (s:List Int):Bool:=if il m s=0 then (bq (eE m).deep (bw m s)).isSome else false
theorem vE {G:List GObj} (h:∀i,i<gh.length->G[i]?=gh[i]?) (hl:gh.length<=G.length):G.take gh.length=gh:=by
 apply List.ext_getElem?;intro i;rw[cD];split
 ·rename_i hi;exact h i hi
 ·rename_i hi;rw[List.getElem?_eq_none (by omega)]
theorem vF (h1:Sz m.inits.length) (h2:Sz m.nexts.length):ac pg 244 [de m] gh=some (.tup [mR (eF m),I (aw m)],gh):=by
 have hc:=tK (m:=m) (gh:=gh) h1 h2;unfold eF;by_cases h:aw m=0
 ·rw[if_pos h]
  obtain⟨G',r1,r2,r3,r4,_⟩:=pG (gh:=gh) h;have ht:=vE r3 r4;have hb:=r2.box;rw[h] at hc ⊢;generalize eE m=X at *;simp only[xC] at hb;rw[bz] at *;simp only[LP,LN,LI] at *;generalize X.queue.map (λl=>PV.sl false 1 (l.map I))=Q at *;generalize m.nodes.map bp=nL at *;generalize m.inits.map bv=iL at *;generalize m.nexts.map bv=xL at *;generalize m.bads.map I=bL at *;generalize m.holds.map I=hL at *
  refine ao (fn:=q27) (s:=⟨[(2,.ptr false 1 0),(3,I 0)],[[.sl false 6 nL,.sl false 2 iL,.sl false 2 xL,.sl false 1 bL,.sl false 1 hL],[I X.reached,I X.far,B X.bad,I X.badAt]],G'⟩) rfl rfl (qfy ?h1) ?r1
  case h1=>simp[hc,r1,hb]
  case r1=>simp[al,results,q27,am,aq,ai,St.cellsAt,ht]
 ·rw[if_neg h]
  generalize aw m=e at *;rw[bz] at *;refine ao (fn:=q27) (s:=⟨[(2,.ptr false 1 0),(3,I e)],[[LN m.nodes,LP m.inits,LP m.nexts,LI m.bads,LI m.holds],[I 0,I 0,B false,I 0]],gh⟩) rfl rfl (qfy ?h2) ?r2
  case h2=>simp[hc,h]
  case r2=>simp[al,results,q27,am,aq,ai,St.cellsAt,xs0]
theorem Dy {s:List Int} (h1:Sz m.inits.length) (h2:Sz m.nexts.length):ac pg 319 [de m,LI s] gh=some (.tup [B (iW m s),I (il m s)],gh):=by
 have hc:=tK (m:=m) (gh:=gh) h1 h2;unfold iW il;by_cases h:aw m=0
 ·rw[if_pos h]
  have hm:=en h;have hl:=hm.len;have o3:=ik (m:=m) (gh:=gh) (kind:=3) (by omega);have w3:=CB (gh:=gh) (vs:=s) (iP h 3) (bW (fJ hm 3) (by omega));by_cases he:cR m.nodes (ah m.nodes 3) s=0
  ·obtain⟨G',r1,r2,r3,r4,_⟩:=pG (gh:=gh) h
   have ht:=vE r3 r4;have hb:=r2.box;have hmp:=r2.map;have hk:=pz r2.box h he;rw[show dx m.nodes (ah m.nodes 3) s=bw m s from rfl] at hk;rw[h] at hc;rw[he] at w3 ⊢;rw[if_pos rfl];generalize bw m s=K at *;generalize eE m=X at *;generalize ah m.nodes 3=S at *;simp only[xC] at hb;rw[bz] at *;simp only[LP,LN,LI] at *;generalize X.queue.map (λl=>PV.sl false 1 (l.map I))=Q at *;generalize s.map I=sL at *;generalize S.map I=SL at *;generalize m.nodes.map bp=nL at *;generalize m.inits.map bv=iL at *;generalize m.nexts.map bv=xL at *;generalize m.bads.map I=bL at *
   generalize m.holds.map I=hL at *;have hk1:ab pg q1a ⟨[(1,.sl false 1 sL),(2,.ptr false 0 0),(6,I 0)],[[.sl false 6 nL,.sl false 2 iL,.sl false 2 xL,.sl false 1 bL,.sl false 1 hL]],gh⟩=some (.ret,⟨[(4,B (bq X.deep K).isSome),(5,I 0)],[],G'⟩):=by refine q9u ?_;cases hf:bq X.deep K<;>simp[r1,hb,hmp,hk,hf]
   refine ao (fn:=q1b) (s:=⟨[(4,B (bq X.deep K).isSome),(5,I 0)],[],G'⟩) rfl rfl (q9v ?h1) ?r1
   case h1=>simp[hc,o3,w3,hk1]
   case r1=>simp[al,results,q1b,am,aq,ai,ht]
  ·rw[if_neg he]
   rw[h] at hc;generalize cR m.nodes (ah m.nodes 3) s=e at *;generalize ah m.nodes 3=S at *;rw[bz] at *;simp only[LP,LN,LI] at *;generalize s.map I=sL at *;generalize S.map I=SL at *;generalize m.nodes.map bp=nL at *;generalize m.inits.map bv=iL at *;generalize m.nexts.map bv=xL at *;generalize m.bads.map I=bL at *;generalize m.holds.map I=hL at *;have hk1:ab pg q1a ⟨[(1,.sl false 1 sL),(2,.ptr false 0 0),(6,I e)],[[.sl false 6 nL,.sl false 2 iL,.sl false 2 xL,.sl false 1 bL,.sl false 1 hL]],gh⟩=some (.ret,⟨[(4,B false),(5,I e)],[],gh⟩):=by refine q9u ?_;simp[he]
   refine ao (fn:=q1b) (s:=⟨[(4,B false),(5,I e)],[],gh⟩) rfl rfl (q9v ?h2) ?r2
   case h2=>simp[hc,o3,w3,hk1]
   case r2=>simp[al,results,q1b,am,aq,ai]
 ·rw[if_neg h]
  rw[if_neg h];generalize aw m=e at *;rw[bz] at *;simp only[LP,LN,LI] at *;generalize s.map I=sL at *;generalize m.nodes.map bp=nL at *;generalize m.inits.map bv=iL at *;generalize m.nexts.map bv=xL at *;generalize m.bads.map I=bL at *;generalize m.holds.map I=hL at *;have hk1:ab pg q1a ⟨[(1,.sl false 1 sL),(2,.ptr false 0 0),(6,I e)],[[.sl false 6 nL,.sl false 2 iL,.sl false 2 xL,.sl false 1 bL,.sl false 1 hL]],gh⟩=some (.ret,⟨[(4,B false),(5,I e)],[],gh⟩):=by refine q9u ?_;simp[h]
  refine ao (fn:=q1b) (s:=⟨[(4,B false),(5,I e)],[],gh⟩) rfl rfl (q9v ?h3) ?r3
  case h3=>simp[hc,h,hk1]
  case r3=>simp[al,results,q1b,am,aq,ai]
end
section
variable {m:Md}
theorem pW (hc:aw m=0) {u:Nat} (hu:u<nS m):(di m).getD u 0=(bq (eE m).deep u).getD (-1):=by
 have hF:=mQ hc;rcases Dq hc hu with ⟨h1,h2⟩|⟨d,h1,h2⟩
 ·rw[h1]
  cases hf:bq (eE m).deep u with
  |none=>rfl
  |some d=>
   obtain⟨n,_,hD⟩:=(hF.find u d).1 hf;exact absurd hD (h2 n)
 ·rw[h1,(hF.find u d).2 ⟨d,rfl,h2⟩];rfl
theorem Dz (hc:aw m=0) {u:Nat} (hu:u<nS m) (h0:0<=(di m).getD u 0):((u:Int),(di m).getD u 0)∈(eE m).deep:=by
 rw[pW hc hu] at h0 ⊢;cases hf:bq (eE m).deep u with
 |none=>rw[hf] at h0;simp at h0
 |some d=>exact j8 hf
theorem DA (hc:aw m=0) {q:Int×Int} (hq:q∈(eE m).deep):∃u:Nat,u<nS m/\q.1=u/\(di m).getD u 0=q.2/\0<=q.2:=by have hF:=mQ hc;obtain⟨k,d⟩:=q;obtain⟨u,h1,h2⟩:=hF.inv.keys _ hq;simp only at h1;subst h1;have hf:=pV hF.inv.nd hq;obtain⟨n,h3,_⟩:=(hF.find u d).1 hf;exact⟨u,h2,rfl,by rw[pW hc h2,hf];rfl,by show 0<=d;omega⟩
theorem vG (s:Nat) (d:Int):∀(k v:Nat) (f:Fd),
  (bl (λf i=>dV d f (bdN m s i)) k f v).r=f.r/\(bl (λf i=>dV d f (bdN m s i)) k f v).d=f.d/\
  ((bl (λf i=>dV d f (bdN m s i)) k f v).b=true↔f.b=true\/∃i,v<=i/\i<v+k/\bdN m s i=true)/\
  ((∃i,v<=i/\i<v+k/\bdN m s i=true)->(bl (λf i=>dV d f (bdN m s i)) k f v).a=if f.b=false\/d<f.a then d else f.a)/\
  ((¬∃i,v<=i/\i<v+k/\bdN m s i=true)->(bl (λf i=>dV d f (bdN m s i)) k f v).a=f.a)
 |0,v,f=>⟨rfl,rfl,⟨.inl,λh=>h.elim id λ⟨i,h1,h2,_⟩=>by omega⟩,λ⟨i,h1,h2,_⟩=>by omega,λ_=>rfl⟩
 | k +1,v,f=>by
  rw[show bl (λf i=>dV d f (bdN m s i)) (k+1) f v=bl (λf i=>dV d f (bdN m s i)) k (dV d f (bdN m s v)) (v+1) from rfl];obtain⟨h1,h2,h3,h4,h5⟩:=vG s d k (v+1) (dV d f (bdN m s v));cases hb:bdN m s v with
  | false=>
   have e:dV d f (bdN m s v)=f:=by unfold dV;rw[hb,if_neg (by simp)]
   rw[e] at h1 h2 h3 h4 h5;rw[hb] at e;rw[e];have key:(∃i,v<=i/\i<v+(k+1)/\bdN m s i=true)↔∃i,v+1<=i/\i<v+1+k/\bdN m s i=true:=by
    constructor
    ·rintro⟨i,g1,g2,g3⟩
     by_cases hi:i=v
     ·subst hi;rw[hb] at g3;cases g3
     ·exact⟨i,by omega,by omega,g3⟩
    ·rintro⟨i,g1,g2,g3⟩;exact⟨i,by omega,by omega,g3⟩
   rw[key];exact⟨h1,h2,h3,h4,h5⟩
  | true=>
   have key:∃i,v<=i/\i<v+(k+1)/\bdN m s i=true:=⟨v,cM _,by omega,hb⟩
   rw[hb] at h1 h2 h3 h4 h5;have e:(dV d f true).b=true/\(dV d f true).r=f.r/\(dV d f true).d=f.d/\(dV d f true).a=if f.b=false\/d<f.a then d else f.a:=by
    unfold dV;by_cases hh:f.b=false\/d<f.a
    ·rw[if_pos ⟨rfl,hh⟩,if_pos hh];exact⟨rfl,rfl,rfl,rfl⟩
    ·rw[if_neg (λg=>hh g.2),if_neg hh]
     refine⟨?_,rfl,rfl,rfl⟩;cases hfb:f.b with
     |true=>rfl
     |false=>exact absurd (.inl hfb) hh
   obtain⟨e1,e2,e3,e4⟩:=e;refine⟨h1.trans e2,h2.trans e3,⟨λ_=> .inr key,λ_=>h3.2 (.inl e1)⟩,λ_=>?_,λhn=>absurd key hn⟩;rw[<-e4];by_cases hk:∃i,v+1<=i/\i<v+1+k/\bdN m s i=true
   ·rw[h4 hk,e1]
    split
    ·rename_i hh
     rcases hh with hh|hh
     ·cases hh
     ·rw[e4] at hh ⊢
      split at hh<;>split<;>first|rfl|omega
    ·rfl
   ·exact h5 hk
def iu (m:Md) (s:Nat):Prop:=∃i,i<nI m/\bdN m s i=true
structure ExI (m:Md) (o:List Int) (t:Nat) (f:Fd):Prop where
 r:f.r=(((List.range t).filter λs=>decide (0<=o.getD s 0)).length:Nat)
 d1:∀s,s<t->0<=o.getD s 0->o.getD s 0<=f.d
 d2:f.d=0\/∃s,s<t/\0<=o.getD s 0/\o.getD s 0=f.d
 b:f.b=true↔∃s,s<t/\0<=o.getD s 0/\iu m s
 a:f.b=true->(∃s,s<t/\0<=o.getD s 0/\iu m s/\o.getD s 0=f.a)/\∀s,s<t->0<=o.getD s 0->iu m s->f.a<=o.getD s 0
 a0:f.b=false->f.a=0
theorem ExI.step {o:List Int} {t:Nat} {f:Fd} (h:ExI m o t f) (ht:t<=100000):ExI m o (t+1) (iV m o f t):=by
 have lt1:∀s,s<t+1->s<t\/s=t:=λs hs=>by omega
 unfold iV;by_cases hn:o.getD t 0<0
 ·rw[if_pos hn]
  refine⟨?_,λs hs h0=>?_,?_,?_,λhb=>?_,h.a0⟩
  ·rw[List.range_succ,List.filter_append,List.filter_cons_of_neg (by simpa using hn),List.filter_nil,bG]
   exact h.r
  ·rcases lt1 s hs with hs|rfl
   ·exact h.d1 s hs h0
   ·omega
  ·rcases h.d2 with h1|⟨s,h1,h2⟩
   ·exact .inl h1
   ·exact .inr ⟨s,by omega,h2⟩
  ·rw[h.b]
   constructor
   ·rintro⟨s,h1,h2⟩;exact⟨s,by omega,h2⟩
   ·rintro⟨s,h1,h2,h3⟩
    rcases lt1 s h1 with hs|rfl
    ·exact⟨s,hs,h2,h3⟩
    ·omega
  ·obtain⟨⟨s,h1,h2⟩,h3⟩:=h.a hb
   refine⟨⟨s,by omega,h2⟩,λs' g1 g2 g3=>?_⟩;rcases lt1 s' g1 with hs|rfl
   ·exact h3 s' hs g2 g3
   ·omega
 ·rw [if_neg hn]
  obtain⟨h1,h2,h3,h4,h5⟩:=vG (m:=m) t (o.getD t 0) (nI m) 0 {f with r:=WI.wrap (f.r+1),d:=if f.d<o.getD t 0 then o.getD t 0 else f.d };generalize bl (λf i=>dV (o.getD t 0) f (bdN m t i)) (nI m) {f with r:=WI.wrap (f.r+1),d:=if f.d<o.getD t 0 then o.getD t 0 else f.d } 0=F at *;simp only at h1 h2 h3 h4 h5;have key:(∃i,0<=i/\i<0+nI m/\bdN m t i=true)↔iu m t:=by
   constructor
   ·rintro⟨i,_,g1,g2⟩;exact⟨i,by omega,g2⟩
   ·rintro⟨i,g1,g2⟩;exact⟨i,by omega,by omega,g2⟩
  rw[key] at h3 h4 h5;have hd0:0<=f.d:=by
   rcases h.d2 with g|⟨s,_,g1,g2⟩
   ·omega
   ·omega
  have hFb:F.b=true↔∃s,s<t+1/\0<=o.getD s 0/\iu m s:=by
   rw[h3,h.b];constructor
   ·rintro (⟨s,g1,g2⟩|g)
    ·exact⟨s,by omega,g2⟩
    ·exact⟨t,by omega,by omega,g⟩
   ·rintro⟨s,g1,g2,g3⟩
    rcases lt1 s g1 with hs|rfl
    ·exact .inl ⟨s,hs,g2,g3⟩
    ·exact .inr g3
  refine⟨?_,λs hs h0=>?_,?_,hFb,λhb=>?_,λhb=>?_⟩
  ·rw[h1,h.r,List.range_succ,List.filter_append]
   have hl:((List.range t).filter λs=>decide (0<=o.getD s 0)).length<=t:=by have:=List.length_filter_le (λs=>decide (0<=o.getD s 0)) (List.range t);simpa using this
   have e:List.filter (λs=>decide (0<=o.getD s 0)) [t]=[t]:=by rw[List.filter_cons_of_pos (by simpa using Int.not_lt.1 hn)];rfl
   rw[e,aV];generalize ((List.range t).filter λs=>decide (0<=o.getD s 0)).length=x at *;rw[az (by omega) (by omega)];simp
  ·rw[h2]
   rcases lt1 s hs with hs|rfl
   ·have:=h.d1 s hs h0
    split<;>omega
   ·split<;>omega
  ·rw[h2]
   split
   ·exact .inr ⟨t,by omega,by omega,rfl⟩
   ·rcases h.d2 with g|⟨s,g1,g2⟩
    ·exact .inl g
    ·exact .inr ⟨s,by omega,g2⟩
  ·by_cases hbt:iu m t
   ·have ha:=h4 hbt
    cases hfb:f.b with
    | false=>
     rw[hfb] at ha;simp at ha;refine⟨⟨t,by omega,by omega,hbt,ha.symm⟩,λs g1 g2 g3=>?_⟩;rcases lt1 s g1 with hs|rfl
     ·have:=h.b.2 ⟨s,hs,g2,g3⟩
      rw[hfb] at this;cases this
     ·rw[ha];exact Int.le_refl _
    | true=>
     obtain⟨⟨s,g1,g2,g3,g4⟩,g5⟩:=h.a hfb;rw[hfb] at ha;simp at ha;by_cases hd:o.getD t 0<f.a
     ·simp[aM] at ha hd
      rw[if_pos hd] at ha;refine⟨⟨t,by omega,by omega,hbt,by rw[ha];simp[aM]⟩,λs' k1 k2 k3=>?_⟩;rcases lt1 s' k1 with hs|rfl
      ·have:=g5 s' hs k2 k3
       rw[ha];omega
      ·rw[ha];simp[aM]
     ·simp[aM] at ha hd
      rw[if_neg (by omega)] at ha;refine⟨⟨s,by omega,g2,g3,by rw[ha];exact g4⟩,λs' k1 k2 k3=>?_⟩;rcases lt1 s' k1 with hs|rfl
      ·rw[ha];exact g5 s' hs k2 k3
      ·rw[ha];simp[aM];exact hd
   ·have ha:=h5 hbt
    have hfb:f.b=true:=(h3.1 hb).resolve_right hbt;obtain⟨⟨s,g1,g2,g3,g4⟩,g5⟩:=h.a hfb;refine⟨⟨s,by omega,g2,g3,by rw[ha];exact g4⟩,λs' k1 k2 k3=>?_⟩;rcases lt1 s' k1 with hs|rfl
    ·rw[ha];exact g5 s' hs k2 k3
    ·exact absurd k3 hbt
  ·have hbt:¬iu m t:=λg=>by
    rw[h3.2 (.inr g)] at hb;cases hb
   rw[h5 hbt];refine h.a0 ?_;cases hfb:f.b with
   |false=>rfl
   |true=>rw[h3.2 (.inl hfb)] at hb;cases hb
theorem ExI.run {o:List Int}:∀(k t:Nat) (f:Fd),t+k<=100000->ExI m o t f->ExI m o (t+k) (bl (iV m o) k f t)
 |0,t,f,_,h=>h
 |k+1,t,f,ht,h=>by have:=ExI.run k (t+1) _ (by omega) (h.step (by omega));rw[show t+(k+1)=t+1+k by omega];exact this
theorem DB (hc:aw m=0):ExI m (di m) (nS m) (ke m):=by
 have hN:nS m<=1024:=bN (n:=2) (by decide) (dC hc).2;have h0:ExI m (di m) 0 ⟨0,0,false,0⟩:=⟨rfl,λs hs=>by omega,.inl rfl,⟨nofun,λ⟨s,hs,_⟩=>by omega⟩,nofun,λ_=>rfl⟩
 have:=ExI.run (nS m) 0 _ (by omega) h0;rw[cN] at this;exact this
theorem DC (hc:aw m=0):fdC (ke m)=[I (eF m).reached,I (eF m).far,B (eF m).bad,I (eF m).badAt]:=by
 have hE:=DB hc;have hF:=mQ hc;have c1:=λu hu h0=>Dz (m:=m) hc (u:=u) hu h0
 have c2:=λq hq=>DA (m:=m) hc (q:=q) hq
 have e:eF m=eE m:=by unfold eF;rw[if_pos hc]
 rw[e];generalize ke m=f at *;generalize eE m=X at *;generalize di m=o at *;have hr:f.r=X.reached:=by
  rw[hE.r,hF.reached]
  congr 1
  have l1:((List.range (nS m)).filter λs=>decide (0<=o.getD s 0)).length<=X.deep.length:=by
   have hn:(((List.range (nS m)).filter λs=>decide (0<=o.getD s 0)).map λ(u:Nat)=>(u:Int)).Nodup:=by refine List.Pairwise.map _ (λa b hab=>?_) (List.Pairwise.filter _ List.nodup_range);omega
   have:=List.Nodup.length_le_of_subset hn (l₂:=X.deep.map (·.1)) (λa ha=>by obtain⟨u,hu,rfl⟩:=List.mem_map.1 ha;rw[List.mem_filter] at hu;exact List.mem_map.2 ⟨_,c1 u (by simpa using hu.1) (by simpa using hu.2),rfl⟩);simpa using this
  have l2:X.deep.length<=((List.range (nS m)).filter λs=>decide (0<=o.getD s 0)).length:=by have:=List.Nodup.length_le_of_subset hF.inv.nd (l₂:=((List.range (nS m)).filter λs=>decide (0<=o.getD s 0)).map λ(u:Nat)=>(u:Int)) (λa ha=>by obtain⟨q,hq,rfl⟩:=List.mem_map.1 ha;obtain⟨u,h1,h2,h3,h4⟩:=c2 q hq;refine List.mem_map.2 ⟨u,List.mem_filter.2 ⟨by simpa using h1,?_⟩,h2.symm⟩;rw[h3];simpa using h4);simpa using this
  omega
 have hfar0:0<=X.far:=by
  rcases hF.far.2 with ⟨_,h⟩|⟨q,h1,h2⟩
  ·omega
  ·obtain⟨u,_,_,_,h4⟩:=c2 q h1;omega
 have hd:f.d=X.far:=by
  apply Int.le_antisymm
  ·rcases hE.d2 with h|⟨s,h1,h2,h3⟩
   ·omega
   ·rw[<-h3];exact hF.far.1 _ (c1 s h1 h2)
  ·rcases hF.far.2 with ⟨_,h⟩|⟨q,h1,h2⟩
   ·rw[h]
    rcases hE.d2 with h|⟨s,h1,h2,h3⟩
    ·omega
    ·omega
   ·obtain⟨u,g1,g2,g3,g4⟩:=c2 q h1
    have:=hE.d1 u g1 (by rw[g3];exact g4);rw[g3] at this;omega
 have hbK:∀u:Nat,gy m (u:Int)↔iu m u:=λu=>by unfold gy iu;rw[Int.toNat_natCast]
 have hb:f.b=true↔X.bad=true:=by
  rw[hE.b,hF.bad];constructor
  ·rintro⟨s,h1,h2,h3⟩
   exact⟨_,c1 s h1 h2,(hbK s).2 h3⟩
  ·rintro⟨q,h1,h2⟩
   obtain⟨u,g1,g2,g3,g4⟩:=c2 q h1;rw[g2] at h2;exact⟨u,g1,by rw[g3];exact g4,(hbK u).1 h2⟩
 have ha:f.a=X.badAt:=by
  cases hX:X.bad with
  | false=>
   have hfb:f.b=false:=by
    cases h:f.b with
    |false=>rfl
    |true=>rw[hb.1 h] at hX;cases hX
   rw[hE.a0 hfb,hF.at0 hX]
  | true=>
   obtain⟨⟨s,h1,h2,h3,h4⟩,h5⟩:=hE.a (hb.2 hX);obtain⟨⟨q,g1,g2,g3⟩,g4⟩:=hF.badAt hX;apply Int.le_antisymm
   ·obtain⟨u,k1,k2,k3,k4⟩:=c2 q g1
    rw[k2] at g2;have:=h5 u k1 (by rw[k3];exact k4) ((hbK u).1 g2);rw[k3] at this;omega
   ·have:=g4 _ (c1 s h1 h2) ((hbK s).2 h3)
    rw[<-h4];exact this
 have hb2:f.b=X.bad:=by
  cases h1:X.bad with
  |true=>exact hb.2 h1
  |false=>
   cases h2:f.b with
   |false=>rfl
   |true=>rw[hb.1 h2] at h1;cases h1
 simp only[fdC,hr,hd,hb2,ha]
theorem DD (hc:aw m=0) {s:List Int} (hs:cR m.nodes (ah m.nodes 3) s=0):iW m s=decide (0<=(di m).getD (bw m s) 0):=by
 have hb:il m s=0:=by unfold il;rw[if_pos hc];exact hs
 unfold iW;rw[if_pos hb,pW hc (iT hs)];cases hf:bq (eE m).deep (bw m s) with
 |none=>simp
 |some d=>
  obtain⟨n,h1,_⟩:=((mQ hc).find _ _).1 hf;subst h1;simp
end
theorem DE {m:Md} (hm:o8 m):Sz m.inits.length/\Sz m.nexts.length:=by have h1:=hm.inits;have h2:=hm.nexts;have:reachBytes=140737488351232:=rfl;simp only[Sz];omega
theorem toggle_found:aw toggleM=0/\(eF toggleM).reached=2/\(eF toggleM).far=1/\(eF toggleM).bad=true/\(eF toggleM).badAt=1:=by decide +kernel
theorem DF {gh:List GObj}:ac pg 241 [] gh=some (B true,gh):=by
 have ht:=BX (gh:=gh);have hX:=vF (gh:=gh) (m:=toggleM) (by decide) (by decide);rw[toggle_found.1] at hX;unfold mR at hX;rw[toggle_found.2.1,toggle_found.2.2.1,toggle_found.2.2.2.1,toggle_found.2.2.2.2] at hX;rw[bz] at *;generalize toggleM.nodes.map bp=N at *;generalize toggleM.inits.map bv=N1 at *;generalize toggleM.nexts.map bv=N2 at *;simp only[LI] at *;generalize toggleM.bads.map I=N3 at *;generalize toggleM.holds.map I=N4 at *;refine ao (fn:=q65) (s:=⟨[(0,B true)],[],gh⟩) rfl rfl (qke ?h1) ?r1
 case h1=>simp[ht,hX]
 case r1=>simp[al,results,q65,am,aq,ai]
theorem vH (a b:Int) (c:Bool) (d:Int):dQ [false,false,true,false] [I a,I b,B c,I d] [I a,I b,B c,I d]=some true:=by cases c<;>simp[dQ,iw]
theorem DG {m:Md} {s:List Int} {gh:List GObj} (hm:o8 m):ac pg 318 [de m,LI s] gh=some (B true,gh):=by
 obtain⟨h1,h2⟩:=DE hm;have hX:=vF (gh:=gh) h1 h2;have hC:=Dy (gh:=gh) (s:=s) h1 h2;have w:=BU (m:=m) (gh:=gh) h1 h2;have bg:=DF (gh:=gh);by_cases h0:aw m=0
 ·have hl:=(en h0).len
  have cw:=CC (gh:=gh) (vs:=s) (by omega) (iP h0 3);have he:il m s=cR m.nodes (ah m.nodes 3) s:=by unfold il;rw[if_pos h0]
  have sm:=Dx (gh:=gh) h0;have hW:=vl (gh:=gh) h0;have hL:=vv (gh:=gh) h0;have hE:=Dw (gh:=gh) h0;rw[DC h0] at hE;have fl:=vH (eF m).reached (eF m).far (eF m).bad (eF m).badAt;rw[h0] at w hX;unfold mR at hX;generalize eF m=X at *;generalize decide (bo m.nodes (ah m.nodes 2)+bo m.nodes (ah m.nodes 3)<=9)=small at *;by_cases hw:cR m.nodes (ah m.nodes 3) s=0
  ·have hK:=pI (gh:=gh) h0 hw
   have hcan:=DD h0 hw;have hklt:=iT hw;have hg:=get_at (o:=di m) (i:=bw m s) (by rw[mP];exact hklt);have hll:decide (bw m s<(di m).length)=true:=aG (by rw[mP];exact hklt);have hnl:=eQ (di m);rw[he,hw] at hC;rw[hw] at cw;rw[hcan] at hC;generalize (di m).getD (bw m s) 0=d at *;generalize bw m s=K at *;unfold lf LL LBB at hW hL;rw[bz] at *;simp only[LI] at *;have hll2:decide (K<((di m).map I).length)=true:=by simpa using hll
   generalize (di m).map I=O at *;generalize (dD m).map (λr=>PV.sl false 1 (r.map I))=A at *;generalize (dI m).map (λr=>PV.sl false 1 (r.map B))=C at *;generalize s.map I=S at *;have k2:ab pg q1s ⟨[(2,.ptr false 0 0),(5,.ptr false 1 0),(7,B (decide (0<=d))),(11,B (decide (0<=d)))],[[LN m.nodes,LP m.inits,LP m.nexts,.sl false 1 (m.bads.map I),.sl false 1 (m.holds.map I)],[I X.reached,I X.far,B X.bad,I X.badAt]],gh⟩=some (.ret,⟨[(4,B true)],[],gh⟩):=by refine qg0 ?_;simp[hE,fl]
   have k1:ab pg q1c ⟨[(1,.sl false 1 S),(2,.ptr false 0 0),(5,.ptr false 1 0),(6,I 0),(7,B (decide (0<=d))),(8,I 0),(9,I 0),(10,I 0)],[[LN m.nodes,LP m.inits,LP m.nexts,.sl false 1 (m.bads.map I),.sl false 1 (m.holds.map I)],[I X.reached,I X.far,B X.bad,I X.badAt]],gh⟩=some (.ret,⟨[(4,B true)],[],gh⟩):=by
    refine q9x ?_;cases small with
    |false=>simp[bg,sm]
    |true=>simp[bg,sm,hW,hL,hK,hg,hll2,k2,-List.getElem?_map]
   refine ao (fn:=q1d) (s:=⟨[(4,B true)],[],gh⟩) rfl rfl (q9y ?h1) ?r1
   case h1=>simp[hX,hC,w,cw,k1]
   case r1=>simp[al,results,q1d,am,aq,ai]
  ·have hcan:iW m s=false:=by unfold iW;rw[if_neg (by rw[he];exact hw)]
   rw[hcan,he] at hC;generalize cR m.nodes (ah m.nodes 3) s=e at *;rw[bz] at *;simp only[LI] at *;generalize s.map I=S at *;have k2:ab pg q1s ⟨[(2,.ptr false 0 0),(5,.ptr false 1 0),(7,B false),(11,B false)],[[LN m.nodes,LP m.inits,LP m.nexts,.sl false 1 (m.bads.map I),.sl false 1 (m.holds.map I)],[I X.reached,I X.far,B X.bad,I X.badAt]],gh⟩=some (.ret,⟨[(4,B true)],[],gh⟩):=by refine qg0 ?_;simp[hE,fl]
   have k1:ab pg q1c ⟨[(1,.sl false 1 S),(2,.ptr false 0 0),(5,.ptr false 1 0),(6,I 0),(7,B false),(8,I e),(9,I 0),(10,I e)],[[LN m.nodes,LP m.inits,LP m.nexts,.sl false 1 (m.bads.map I),.sl false 1 (m.holds.map I)],[I X.reached,I X.far,B X.bad,I X.badAt]],gh⟩=some (.ret,⟨[(4,B true)],[],gh⟩):=by
    refine q9x ?_;cases small with
    |false=>simp[bg,sm,hw]
    |true=>simp[bg,sm,hw,k2]
   refine ao (fn:=q1d) (s:=⟨[(4,B true)],[],gh⟩) rfl rfl (q9y ?h2) ?r2
   case h2=>simp[hX,hC,w,cw,k1]
   case r2=>simp[al,results,q1d,am,aq,ai]
 ·have he:il m s=aw m:=by unfold il;rw[if_neg h0]
  have hcan:iW m s=false:=by unfold iW;rw[if_neg (by rw[he];exact h0)]
  have hfx:eF m=xs0:=by unfold eF;rw[if_neg h0]
  have fl:=vH 0 0 false 0;rw[hcan,he] at hC;rw[hfx] at hX;unfold mR xs0 at hX;simp only at hX;generalize aw m=e at *;rw[bz] at *;simp only[LI] at *;generalize s.map I=S at *;have k1:ab pg q1c ⟨[(1,.sl false 1 S),(2,.ptr false 0 0),(5,.ptr false 1 0),(6,I e),(7,B false),(8,I e),(9,I e),(10,I e)],[[LN m.nodes,LP m.inits,LP m.nexts,.sl false 1 (m.bads.map I),.sl false 1 (m.holds.map I)],[I 0,I 0,B false,I 0]],gh⟩=some (.ret,⟨[(4,B true)],[],gh⟩):=by refine q9x ?_;simp[bg,h0,fl]
  refine ao (fn:=q1d) (s:=⟨[(4,B true)],[],gh⟩) rfl rfl (q9y ?h3) ?r3
  case h3=>simp[hX,hC,w,h0,k1]
  case r3=>simp[al,results,q1d,am,aq,ai]
abbrev vI:List (Bool×List CS):=[(true,tS),(false,[.slice false 8 [.int]])]
theorem DH (qs:List PV) (h:fo vI qs):ac pg 318 qs []=some (B true,[]):=by obtain⟨_,_,rfl,h0,h⟩:=sq h;obtain⟨_,_,rfl,h1,h⟩:=sq h;obtain rfl:=yO h;obtain⟨m,rfl,hm⟩:=BY h0;obtain⟨s,rfl,-,-⟩:=BW h1;exact DG hm
end Go.Lw