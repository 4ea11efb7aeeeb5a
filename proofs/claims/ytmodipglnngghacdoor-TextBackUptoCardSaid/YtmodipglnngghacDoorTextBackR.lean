/-
  The texts that the proof stands on, part 18.
-/
import Derived.Test.YtmodipglnngghacDoorTextBackQ
import Derived.OpenShut
import Derived.Carry
import Derived.Deep.Slices
import Derived.SizedLaws
set_option linter.unusedVariables false
set_option linter.unusedSimpArgs false
set_option linter.unnecessarySimpa false

/-! What is handed in from outside, opened: whatever the arguments are, they stand for values of the machine. -/
section
namespace Go.Lw
open Go Go.RowKit Go.ChangeShapes Go.WideShapes Go.Deep
inductive CS where
 |int
 |bool
 |str
 |slice (g:Bool) (bytes:Nat) (l:List CS)
mutual
def csOk:CS→PV→Prop
 | .int,p=>∃n,p= .int .i64 n∧ -9223372036854775808≤n∧n≤9223372036854775807
 | .bool,p=>∃b,p= .bool b
 | .str,p=>∃s,p= .str s∧s.size≤reachBytes
 | .slice g bytes l,p=>∃xs,p= .sl false l.length xs∧xs.length*bytes≤reachBytes∧∀e∈xs,(g=true∧∃ps,e= .agg ps∧csAll l ps)∨(g=false∧csAll l [e])
def csAll:List CS→List PV→Prop
 |[],[]=>True
 |c::cs,p::ps=>csOk c p∧csAll cs ps
 |_,_=>False
end
/- How much there is: each value and each letter counts one. -/
mutual
def bulkP:PV→Nat
 | .str s=>s.size+1
 | .agg ps=>bulkPs ps+1
 | .sl _ _ xs=>bulkPs xs+1
 |_=>1
def bulkPs:List PV→Nat
 |[]=>0
 |p::r=>bulkP p+bulkPs r
end
section
variable {H:Type}
mutual
def bulk:DataW H→Nat
 | .slice elems _=>bulkAll elems+1
 | .agg parts=>bulkAll parts+1
 | .lit (.string b)=>b.length+1
 |_=>1
def bulkAll:List (DataW H)→Nat
 |[]=>0
 |d::r=>bulk d+bulkAll r
end
end
theorem jlv (p:PV):1≤bulkP p:=by
 cases p<;>simp[bulkP]
theorem jc6:∀l:List PV,l.length≤bulkPs l
 |[]=>Nat.zero_le _
 |p::l=>by
  have:=jlv p
  have:=jc6 l
  simp only[bulkPs,List.length_cons];omega
theorem je3:∀l m:List PV,bulkPs (l++m)=bulkPs l+bulkPs m
 |[],m=>by simp[bulkPs]
 |p::l,m=>by simp only[List.cons_append,bulkPs,je3 l m];omega
theorem jge {H:Type} (D:Nat→DataW H):∀(xs:List PV) (n i:Nat),xs.length=n→(∀j e,xs[j]?=some e→bulkP e≤bulk (D (i+j)))→bulkPs xs≤bulkAll ((List.range' i n).map D)
 |[],0,i,_,_=>Nat.zero_le _
 | x::xs,n+1,i,hl,h=>by
  have h0:=h 0 x rfl
  have hs:=jge D xs n (i+1) (by simpa using hl) fun j e he=>by
   have:=h (j+1) e (by simpa using he)
   rwa [Nat.add_assoc,Nat.add_comm 1 j]
  simp only[bulkPs,List.range'_succ,List.map_cons,bulkAll]
  exact Nat.add_le_add h0 hs
 |[],n+1,_,hl,_=>by simp at hl
 |_::_,0,_,hl,_=>by simp at hl
theorem jcw:∀{l:List CS} {ps:List PV},csAll l ps→ps.length=l.length
 |[],[],_=>rfl
 |_::_,_::_,h=>by
  simp only[csAll] at h
  simp[jcw h.2]
 |[],_::_,h=>by simp[csAll] at h
 |_::_,[],h=>by simp[csAll] at h
theorem je4:∀{l m:List CS} {ps qs:List PV},csAll l ps→csAll m qs→csAll (l++m) (ps++qs)
 |[],_,[],_,_,h=>h
 |_::_,_,_::_,_,h,h2=>by
  simp only[csAll] at h
  exact⟨h.1,je4 h.2 h2⟩
 |[],_,_::_,_,h,_=>by simp[csAll] at h
 |_::_,_,[],_,h,_=>by simp[csAll] at h
theorem jlw {c:CS} {p:PV} (h:csOk c p):p.one=true:=by
 cases c<;>simp only[csOk] at h
 ·obtain⟨n,rfl,_⟩:=h;rfl
 ·obtain⟨b,rfl⟩:=h;rfl
 ·obtain⟨b,rfl,_⟩:=h;rfl
 ·obtain⟨xs,rfl,_⟩:=h;rfl
theorem jcx:∀{l:List CS} {ps:List PV},csAll l ps→ps.all PV.one=true
 |[],[],_=>rfl
 |_::_,_::_,h=>by
  simp only[csAll] at h
  simp[jlw h.1,jcx h.2]
 |[],_::_,h=>by simp[csAll] at h
 |_::_,[],h=>by simp[csAll] at h
theorem jgf {l:List CS} {p:PV} (h:csAll l [p]):p.cells=[p]:=by
 cases l with
 |nil=>simp[csAll] at h
 |cons c l=>
  simp only[csAll] at h
  have h1:=h.1
  cases c<;>simp only[csOk] at h1
  ·obtain⟨n,rfl,_⟩:=h1;rfl
  ·obtain⟨b,rfl⟩:=h1;rfl
  ·obtain⟨b,rfl,_⟩:=h1;rfl
  ·obtain⟨xs,rfl,_⟩:=h1;rfl
def repN:Nat→List CS→List CS
 |0,_=>[]
 |n+1,l=>l++repN n l
theorem jlx {w:World} {a:Addr} {v:Value} (h:w.cell? a=some v):a.block<w.heap.size:=by
 rcases Nat.lt_or_ge a.block w.heap.size with h1|h1
 ·exact h1
 ·simp[World.cell?,Array.getElem?_eq_none h1] at h
def isAgg (P:Program) (t:TypeId):Bool:=match P.underlying t with|some (.struct _)|some (.array _ _)=>true|_=>false
mutual
def shape (P:Program):Nat→TypeId→Option (List CS)
 |0,_=>none
 | n+1,t=>match P.underlying t with
  |some .bool=>some [.bool]
  |some (.int .i64)=>some [.int]
  |some .string=>some [.str]
  |some (.slice e)=>match shape P n e with
   |some l=>if P.cellsOf e=l.length∧(isAgg P e=true∨l.length=1)∧0<l.length then some [.slice (isAgg P e) (P.bytesOf e) l] else none
   |none=>none
  |some (.array k e)=>match shape P n e with
   |some l=>if P.cellsOf e=l.length∧P.cellsOf t=k*l.length then some (repN k l) else none
   |none=>none
  |some (.struct fs)=>match fieldsShape P n 0 fs.toList with
   |some l=>if P.cellsOf t=l.length then some l else none
   |none=>none
  |_=>none
def fieldsShape (P:Program):Nat→Nat→List Field→Option (List CS)
 |0,_,_=>none
 |_+1,_,[]=>some []
 |n+1,off,f::fs=>match shape P n f.type with
  |some l=>if f.offset=off∧P.cellsOf f.type=l.length then (match fieldsShape P n (off+l.length) fs with|some r=>some (l++r)|none=>none) else none
  |none=>none
end
def Reps (fi:FI) (w:World) (ps:List PV) (cs:List Value):Prop:=ps.length=cs.length∧∀(i:Nat) (p:PV) (v:Value),ps[i]?=some p→cs[i]?=some v→RepP fi (Mem.start w) w p v
section
variable {H:Type} {enc:TypeId×Value→H} {P:Program} {w:World} {sp:Nat→Bool} {held:Bool} {fi:FI}
theorem Reps.append {ps qs:List PV} {cs ds:List Value} (h:Reps fi w ps cs) (k:Reps fi w qs ds):Reps fi w (ps++qs) (cs++ds):=by
 refine⟨by simp[h.1,k.1],fun i p v hp hv=>?_⟩
 by_cases hi:i<ps.length
 ·rw[List.getElem?_append_left hi] at hp
  rw[List.getElem?_append_left (by rw[←h.1];exact hi)] at hv
  exact h.2 i p v hp hv
 ·rw[List.getElem?_append_right (by omega)] at hp
  rw[List.getElem?_append_right (by rw[←h.1];omega)] at hv
  rw[←h.1] at hv
  exact k.2 _ p v hp hv
theorem Reps.single {p:PV} {v:Value} (h:RepP fi (Mem.start w) w p v):Reps fi w [p] [v]:=by
 refine⟨rfl,fun i q u hq hu=>?_⟩
 cases i with
 |zero=>simp at hq hu;subst hq;subst hu;exact h
 |succ i=>simp at hq
theorem je5 {e:TypeId}:∀{ds:List (DataW H)} {i:Nat} {d:DataW H} {b:Nat},ds[i]?=some d→b∈d.weights P e→b∈DataW.weightsAll P e ds
 |x::r,0,d,b,h,hb=>by
  simp at h;subst h
  rw[DataW.weightsAll];exact List.mem_append_left _ hb
 |x::r,i+1,d,b,h,hb=>by
  rw[DataW.weightsAll]
  exact List.mem_append_right _ (je5 (i:=i) (by simpa using h) hb)
theorem jgg {Q:Nat→PV→Prop}:∀(n:Nat),(∀i,i<n→∃e,Q i e)→∃xs:List PV,xs.length=n∧∀i e,xs[i]?=some e→Q i e
 |0,_=>⟨[],rfl,fun i e h=>by simp at h⟩
 | n+1,h=>by
  obtain⟨xs,hl,hx⟩:=jgg n fun i hi=>h i (by omega)
  obtain⟨e,he⟩:=h n (by omega)
  refine⟨xs++[e],by simp[hl],fun i u hu=>?_⟩
  by_cases hi:i<xs.length
  ·rw[List.getElem?_append_left hi] at hu;exact hx i u hu
  ·rw[List.getElem?_append_right (by omega)] at hu
   have:i=n:=by
    have:=(List.getElem?_eq_some_iff.1 hu).1
    simp at this;omega
   subst this
   rw[hl] at hu;simp at hu;subst hu;exact he
def TypeOk (fi:FI) (enc:TypeId×Value→H) (P:Program) (w:World) (sp:Nat→Bool) (held:Bool) (t:TypeId) (l:List CS):Prop:=
 ∀fuel cs x,DataW.trod enc P w 0 sp held fuel t cs=some x→(∀b∈x.1.weights P t,b≤reachBytes)→∃ps,csAll l ps∧bulkPs ps+(isAgg P t).toNat≤bulk x.1∧Reps fi w ps cs
theorem arr_ok {e:TypeId} {l:List CS} (hok:TypeOk fi enc P w sp held e l) {m:Nat} {cs:List Value} {xs:List (DataW H×List MemPlace)}
  (hx:∀j,j<xs.length→DataW.trod enc P w 0 sp held m e ((cs.drop (j*l.length)).take l.length)=xs[j]?) (hw:∀b∈DataW.weightsAll P e (xs.map (·.1)),b≤reachBytes) :
  ∀k i,i+k=xs.length→∃ps,csAll (repN k l) ps∧bulkPs ps≤bulkAll ((xs.map (·.1)).drop i)∧Reps fi w ps ((cs.drop (i*l.length)).take (k*l.length))
 |0,i,_=>⟨[],by simp[repN,csAll],by simp[bulkPs],by simp[Reps]⟩
 | k+1,i,hi=>by
  have hlt:i<xs.length:=by omega
  have h1:=hx i hlt
  rw[List.getElem?_eq_getElem hlt] at h1
  obtain⟨ps,hp,hb1,hr⟩:=hok _ _ _ h1 fun b hb=>hw b (je5 (i:=i) (by simp[List.getElem?_eq_getElem hlt]) hb)
  obtain⟨qs,hq,hb2,hs⟩:=arr_ok hok hx hw k (i+1) (by omega)
  refine⟨ps++qs,je4 hp hq,?_,?_⟩
  ·rw[je3,List.drop_eq_getElem_cons (by simpa using hlt),bulkAll]
   simp only[List.getElem_map];omega
  have:(cs.drop (i*l.length)).take ((k+1)*l.length)=(cs.drop (i*l.length)).take l.length++(cs.drop ((i+1)*l.length)).take (k*l.length):=by
   rw[Nat.succ_mul k,Nat.add_comm (k*l.length),List.take_add,List.drop_drop,Nat.succ_mul i]
  rw[this]
  exact hr.append hs
theorem jgh (n:Nat) (ih:∀k,k≤n→∀t l,shape P k t=some l→TypeOk fi enc P w sp held t l) :
  ∀(k:Nat) (_:k≤n+1) (fs:List Field) (off:Nat) (l:List CS),fieldsShape P k off fs=some l→∀(cs:List Value) (xs:List (DataW H×List MemPlace)) (m:Nat),xs.length=fs.length→
   (∀(i:Nat) (f:Field),fs[i]?=some f→DataW.trod enc P w 0 sp held m f.type ((cs.drop f.offset).take (P.cellsOf f.type))=xs[i]?)→
   (∀b∈DataW.weightsEach P (fs.map (·.type)) (xs.map (·.1)),b≤reachBytes)→∃ps,csAll l ps∧bulkPs ps≤bulkAll (xs.map (·.1))∧Reps fi w ps ((cs.drop off).take l.length)
 |0,_,fs,off,l,h,_,_,_,_,_,_=>by simp[fieldsShape] at h
 |k+1,_,[],off,l,h,cs,xs,m,hl,hx,hw=>by
  simp[fieldsShape] at h;subst h
  exact⟨[],by simp[csAll],by simp[bulkPs],by simp[Reps]⟩
 | k + 1,hk,f::fs,off,l,h,cs,xs,m,hl,hx,hw=>by
  cases xs with
  |nil=>simp at hl
  | cons x xs=>
   rw[fieldsShape] at h
   split at h
   ·rename_i l1 hs1
    split at h
    ·rename_i hc
     split at h
     ·rename_i r hr
      simp at h;subst h
      have h0:=hx 0 f (by simp)
      simp only[List.getElem?_cons_zero] at h0
      rw[hc.1,hc.2] at h0
      obtain⟨ps,hp,hb1,hrp⟩:=ih k (by omega) _ _ hs1 _ _ _ h0 fun b hb=>hw b (by
       simp only[List.map_cons,DataW.weightsEach];exact List.mem_append_left _ hb)
      obtain⟨qs,hq,hb2,hrq⟩:=jgh n ih k (by omega) fs (off+l1.length) r hr cs xs m (by simpa using hl) (fun i g hg=>by simpa using hx (i+1) g (by simpa using hg)) (fun b hb=>hw b (by
       simp only[List.map_cons,DataW.weightsEach];exact List.mem_append_right _ hb))
      refine⟨ps++qs,je4 hp hq,by rw[je3,List.map_cons,bulkAll];omega,?_⟩
      rw[List.length_append,List.take_add,List.drop_drop]
      exact hrp.append hrq
     ·cases h
    ·cases h
   ·cases h
theorem jly:∀(n:Nat) (t:TypeId) (l:List CS),shape P n t=some l→TypeOk fi enc P w sp held t l:=by
 intro n
 induction n using Nat.strongRecOn with
 |ind n ih=>
 cases n with
 |zero=>intro t l h;simp[shape] at h
 | succ n =>
  intro t l h fuel cs x hx hw
  rw[shape] at h
  split at h
  ·rename_i ht
   simp at h;subst h
   obtain⟨b,rfl,rfl⟩:=DataW.trod_bool ht hx
   exact⟨[.bool b],⟨⟨b,rfl⟩,trivial⟩,by simp[bulkPs,bulkP,bulk,isAgg,ht],Reps.single (.bool b)⟩
  ·rename_i ht
   simp at h;subst h
   obtain⟨b,rfl,rfl,hwf⟩:=DataW.trod_int ht hx
   refine⟨[.int .i64 b],⟨⟨b,rfl,?_⟩,trivial⟩,by simp[bulkPs,bulkP,bulk,isAgg,ht],Reps.single (.int .i64 b)⟩
   simp[Lit.wf,IntKind.min,IntKind.max,IntKind.signed,IntKind.bits] at hwf
   omega
  ·rename_i ht
   simp at h;subst h
   obtain⟨b,rfl,rfl,_⟩:=DataW.trod_string ht hx
   refine⟨[.str b],⟨⟨b,rfl,?_⟩,trivial⟩,by simp[bulkPs,bulkP,bulk,isAgg,ht],Reps.single (.str b)⟩
   have:=hw b.size (by simp[DataW.weights])
   exact this
  ·rename_i e ht
   split at h
   ·rename_i l1 hs1
    split at h
    ·rename_i hc
     simp at h;subst h
     rcases open_slice ht hx with ⟨rfl,rfl⟩|⟨a,len,cap,m,n',D,Pl,rfl,_,hlc,hcm,hm,rfl,hi⟩
     ·refine⟨[.sl false l1.length []],⟨⟨[],rfl,by simp,fun e he=>by simp at he⟩,trivial⟩,by simp[bulkPs,bulkP,bulk,bulkAll,isAgg,ht],Reps.single ?_⟩
      exact .sl l1.length [] none 0 0 0 (fun _=>undef) (.inl rfl) (by simp) (fun e he=>by simp at he) (fun e he=>by simp at he) (fun i e j p he=>by simp at he) (fun i e j p he=>by simp at he)
     ·have hlm:len≤m:=by rw[hm];split<;>omega
      have hwl:len*P.bytesOf e≤reachBytes:=by
       have:=hw ((len+(m-len))*P.bytesOf e) (by
        rw[DataW.weights,ht];simp)
       refine Nat.le_trans (Nat.mul_le_mul_right _ ?_) this;omega
      have key:∀i,i<len→∃u,bulkP u≤bulk (D i)∧(∃ps:List PV,u.cells=ps∧csAll l1 ps∧((isAgg P e=true∧u= .agg ps)∨(isAgg P e=false∧csAll l1 [u])))∧
        ∀(j:Nat) (p:PV),u.cells[j]?=some p→∃v,w.cell? (a.add (i*P.cellsOf e+j))=some v∧RepP fi (Mem.start w) w p v:=by
       intro i hil
       obtain⟨cs',hcells,htr⟩:=hi i (by omega)
       obtain⟨ps,hp,hb1,hr⟩:=ih n (by omega) _ _ hs1 _ _ _ htr fun b hb=>hw b (by
        rw[DataW.weights,ht]
        refine List.mem_cons_of_mem _ (List.mem_append_left _ (je5 (i:=i) ?_ hb))
        simp[List.getElem?_range,hil])
       obtain⟨_,hcl,hat⟩:=World.cells?_some hcells
       have hpl:=jcw hp
       have hget:∀(j:Nat) (p:PV),ps[j]?=some p→∃v,w.cell? (a.add (i*P.cellsOf e+j))=some v∧RepP fi (Mem.start w) w p v:=by
        intro j p hj
        have hjl:j<ps.length:=(List.getElem?_eq_some_iff.1 hj).1
        have hjc:j<cs'.length:=by rw[←hr.1];exact hjl
        refine⟨cs'[j],?_,hr.2 j p _ hj (List.getElem?_eq_getElem hjc)⟩
        rw[←Go.Deep.add_add,hat j (by omega),List.getElem?_eq_getElem hjc]
       cases hg:isAgg P e with
       |true=>exact⟨.agg ps,by rw[bulkP];simpa [hg] using hb1,⟨ps,rfl,hp,.inl ⟨rfl,rfl⟩⟩,hget⟩
       | false=>
        have h1:l1.length=1:=hc.2.1.resolve_left (by simp[hg])
        obtain⟨p0,rfl⟩:∃p0,ps=[p0]:=by
         cases ps with
         |nil=>simp at hpl;omega
         |cons p0 ps=>cases ps with
          |nil=>exact⟨p0,rfl⟩
          |cons q qs=>simp at hpl;omega
        have hcl0:=jgf hp
        exact⟨p0,by simp[bulkPs] at hb1;omega,⟨[p0],hcl0,hp,.inr ⟨rfl,hp⟩⟩,by rw[hcl0];exact hget⟩
      obtain⟨xs,hxl,hxs⟩:=jgg len key
      have hmem:∀u∈xs,∃i,xs[i]?=some u:=fun u hu=>List.getElem?_of_mem hu
      refine⟨[.sl false l1.length xs],⟨⟨xs,rfl,by rw[hxl];exact hwl,fun u hu=>?_⟩,trivial⟩,?_,Reps.single ?_⟩
      ·obtain⟨i,hiu⟩:=hmem u hu
       obtain⟨_,⟨ps,hcps,hall,hor⟩,_⟩:=hxs i u hiu
       rcases hor with ⟨h1,h2⟩|⟨h1,h2⟩
       ·exact .inl ⟨h1,ps,h2,hall⟩
       ·exact .inr ⟨h1,h2⟩
      ·have:=jge D xs len 0 hxl fun j e he=>by
        have:=(hxs j e he).1
        rwa [Nat.zero_add]
       rw[←List.range_eq_range'] at this
       simp only[bulkPs,bulkP,bulk,isAgg,ht];simpa using this
      ·have hspot:xs=[]∨a.spot=none:=by
        cases xs with
        |nil=>exact .inl rfl
        | cons u us=>
         refine .inr ?_
         obtain⟨_,⟨ps,hcps,hall,hor⟩,hcel⟩:=hxs 0 u rfl
         have hl1:=jcw hall
         by_cases hz:ps=[]
         ·rw[hz] at hl1
          have:=hc.2.2
          simp at hl1;omega
         ·obtain⟨p,ps',rfl⟩:=List.exists_cons_of_ne_nil hz
          obtain⟨v,hv,_⟩:=hcel 0 p (by rw[hcps];rfl)
          have:=World.cell?_spot hv
          simpa [Addr.add] using this
       have hcellE:P.cellsOf e=l1.length:=hc.1
       rw[show len=xs.length from hxl.symm]
       refine .sl l1.length xs (some a) cap a.block a.off (fun k=>(w.cell? ⟨a.block,a.off+k,none⟩).getD undef) ?_ (by omega) (fun u hu=>?_) (fun u hu=>?_) (fun i u j p hu hp=>?_) (fun i u j p hu hp=>?_)
       ·rcases hspot with h|h
        ·exact .inl h
        ·refine .inr ?_
         cases a;simp at h;subst h;rfl
       ·obtain⟨i,hiu⟩:=hmem u hu
        obtain⟨_,⟨ps,hcps,hall,_⟩,_⟩:=hxs i u hiu
        rw[hcps];exact jcw hall
       ·obtain⟨i,hiu⟩:=hmem u hu
        obtain⟨_,⟨ps,hcps,hall,_⟩,_⟩:=hxs i u hiu
        rw[argOk,hcps];exact jcx hall
       ·obtain⟨_,_,hcel⟩:=hxs i u hu
        obtain⟨v,hv,hrep⟩:=hcel j p hp
        rw[hcellE] at hv
        have ha:a.add (i*l1.length+j)=⟨a.block,a.off+(i*l1.length+j),none⟩:=by
         have hs:a.spot=none:=hspot.resolve_left fun h=>by rw[h] at hu;simp at hu
         cases a;simp at hs;subst hs
         unfold Addr.add;split
         ·rename_i h0;rw[h0];rfl
         ·rfl
        rw[ha] at hv
        refine⟨?_,by rw[hv];rfl⟩
        exact jlx (a:=⟨a.block,a.off+(i*l1.length+j),none⟩) hv
       ·obtain⟨_,_,hcel⟩:=hxs i u hu
        obtain⟨v,hv,hrep⟩:=hcel j p hp
        rw[hcellE] at hv
        have ha:a.add (i*l1.length+j)=⟨a.block,a.off+(i*l1.length+j),none⟩:=by
         have hs:a.spot=none:=hspot.resolve_left fun h=>by rw[h] at hu;simp at hu
         cases a;simp at hs;subst hs
         unfold Addr.add;split
         ·rename_i h0;rw[h0];rfl
         ·rfl
        rw[ha] at hv
        rw[hv];exact hrep
    ·cases h
   ·cases h
  ·rename_i k e ht
   split at h
   ·rename_i l1 hs1
    split at h
    ·rename_i hc
     simp at h;subst h
     obtain⟨xs,m,rfl,rfl,hcl,hxl,hi⟩:=DataW.trod_array ht hx
     obtain⟨ps,hp,hb1,hr⟩:=arr_ok (ih n (by omega) _ _ hs1) (cs:=cs) (xs:=xs) (m:=m) (fun j hj=>by rw[←hc.1];exact hi j (by omega)) (fun b hb=>hw b (by rw[DataW.weights,ht];exact hb)) k 0 (by omega)
     refine⟨ps,hp,by rw[bulk];simp[isAgg,ht];simpa using hb1,?_⟩
     rw[Nat.zero_mul,List.drop_zero,←hc.2,←hcl,List.take_length] at hr
     exact hr
    ·cases h
   ·cases h
  ·rename_i fs ht
   split at h
   ·rename_i l1 hs1
    split at h
    ·rename_i hc
     simp at h;subst h
     obtain⟨xs,m,rfl,rfl,hcl,hxl,hi⟩:=DataW.trod_struct ht hx
     obtain⟨ps,hp,hb1,hr⟩:=jgh n (fun k hk=>ih k (by omega)) n (by omega) fs.toList 0 l1 hs1 cs xs m (by simpa using hxl) (fun i f hf=>hi i f (by simpa using hf)) (fun b hb=>hw b (by rw[DataW.weights,ht];exact hb))
     refine⟨ps,hp,by rw[bulk];simp[isAgg,ht];simpa using hb1,?_⟩
     rw[List.drop_zero,←hc,←hcl,List.take_length] at hr
     exact hr
    ·cases h
   ·cases h
  ·cases h
def argTy:Bool×List CS→PV→Prop
 |(true,l),p=>∃ps,p= .agg ps∧csAll l ps
 |(false,l),p=>csAll l [p]
def argsTy:List (Bool×List CS)→List PV→Prop
 |[],[]=>True
 |c::cs,p::ps=>argTy c p∧argsTy cs ps
 |_,_=>False
def shapes (P:Program) (n:Nat):List TypeId→Option (List (Bool×List CS))
 |[]=>some []
 |t::ts=>match shape P n t,shapes P n ts with
  |some l,some r=>some ((isAgg P t,l)::r)
  |_,_=>none
theorem jgi {c:Bool×List CS} {cs:List (Bool×List CS)} {qs:List PV} (h:argsTy (c::cs) qs):∃p ps,qs=p::ps∧argTy c p∧argsTy cs ps:=by
 cases qs with
 |nil=>simp[argsTy] at h
 |cons p ps=>exact⟨p,ps,rfl,h⟩
theorem jlz {qs:List PV} (h:argsTy [] qs):qs=[]:=by
 cases qs with
 |nil=>rfl
 |cons p ps=>simp[argsTy] at h
theorem jax {c:CS} {cs:List CS} {qs:List PV} (h:csAll (c::cs) qs):∃p ps,qs=p::ps∧csOk c p∧csAll cs ps:=by
 cases qs with
 |nil=>simp[csAll] at h
 |cons p ps=>exact⟨p,ps,rfl,h⟩
theorem jc7 {qs:List PV} (h:csAll [] qs):qs=[]:=by
 cases qs with
 |nil=>rfl
 |cons p ps=>simp[csAll] at h
theorem jm0 {l:List CS} {p:PV} (h:argTy (true,l) p):∃ps,p= .agg ps∧csAll l ps:=h
theorem jba {p:PV} (h:csOk .int p):∃n,p= .int .i64 n∧ -9223372036854775808≤n∧n≤9223372036854775807:=h
theorem jm1 {c:Bool×List CS} {p:PV} (h:argTy c p):argOk p=true:=by
 obtain⟨g,l⟩:=c
 cases g with
 |true=>
  obtain⟨ps,rfl,h⟩:=h
  exact jcx h
 |false=>rw[argOk,jgf h];exact jcx h
theorem jgj:∀{L:List (Bool×List CS)} {ps:List PV},argsTy L ps→∀p∈ps,argOk p=true
 |[],[],_,p,hp=>by simp at hp
 |_::_,q::ps,h,p,hp=>by
  simp only[argsTy] at h
  rcases List.mem_cons.1 hp with rfl|hp
  ·exact jm1 h.1
  ·exact jgj h.2 p hp
 |[],_::_,h,_,_=>by simp[argsTy] at h
 |_::_,[],h,_,_=>by simp[argsTy] at h
theorem arg_ok {n:Nat} {t:TypeId} {l:List CS} (hs:shape P n t=some l) {base:Nat} {v:Value} {d:DataW H} {ps:List MemPlace} (hv:Value.okWide P w .any base t v) (hd:DataW.Trod enc P w 0 sp held t v d ps)
  (hw:∀b∈d.weights P t,b≤reachBytes):∃p,argTy (isAgg P t,l) p∧bulkP p≤bulk d∧RepP fi (Mem.start w) w p v:=by
 obtain⟨fuel,hf⟩:=hd
 obtain⟨qs,hq,hb1,hr⟩:=jly (fi:=fi) n t l hs fuel _ _ hf hw
 have hone:v.cells.toList=[v]→isAgg P t=false→∃p,argTy (isAgg P t,l) p∧bulkP p≤bulk d∧RepP fi (Mem.start w) w p v:=by
  intro hc hg
  rw[hc] at hr
  cases qs with
  |nil=>have:=hr.1;simp at this
  |cons q qs=>cases qs with
   |cons r qs=>have:=hr.1;simp at this
   |nil=>exact⟨q,by rw[hg];exact hq,by simp[bulkPs] at hb1;omega,hr.2 0 q v rfl rfl⟩
 have hagg:(∃cs,v= .agg cs)→isAgg P t=true→∃p,argTy (isAgg P t,l) p∧bulkP p≤bulk d∧RepP fi (Mem.start w) w p v:=by
  rintro⟨cs,rfl⟩ hg
  refine⟨.agg qs,by rw[hg];exact⟨qs,rfl,hq⟩,by rw[bulkP];simpa [hg] using hb1,?_⟩
  obtain⟨cl⟩:=cs
  exact .agg qs cl hr.1.symm hr.2
 cases n with
 |zero=>simp[shape] at hs
 | succ n=>
  rw[shape] at hs
  split at hs
  ·rename_i ht
   obtain⟨b,rfl⟩:=okWide_bool ht hv
   exact hone rfl (by simp[isAgg,ht])
  ·rename_i ht
   obtain⟨b,rfl⟩:=okWide_int ht hv
   exact hone rfl (by simp[isAgg,ht])
  ·rename_i ht
   obtain⟨b,rfl⟩:=okWide_string ht hv
   exact hone rfl (by simp[isAgg,ht])
  ·rename_i e ht
   obtain⟨a,b,c,rfl⟩:=okWide_slice ht hv
   exact hone rfl (by simp[isAgg,ht])
  ·rename_i k e ht
   refine hagg ?_ (by simp[isAgg,ht])
   simp only[Value.okWide,ht] at hv
   obtain⟨cs,h1,_⟩:=hv
   exact⟨cs,h1⟩
  ·rename_i fs ht
   refine hagg ?_ (by simp[isAgg,ht])
   simp only[Value.okWide,ht] at hv
   obtain⟨cs,h1,_⟩:=hv
   exact⟨cs,h1⟩
  ·cases hs
theorem jgk {n base:Nat}:∀{ts:List TypeId} {L:List (Bool×List CS)} {vs:List Value} {ds:List (DataW H)} {ps:List MemPlace},shapes P n ts=some L→DataW.TrodAll enc P w 0 sp held ts vs ds ps→
  (∀(j:Nat) t v,ts[j]?=some t→vs[j]?=some v→Value.okWide P w .any base t v)→(∀b∈DataW.weightsEach P ts ds,b≤reachBytes)→
  ∃qs,argsTy L qs∧bulkPs qs≤bulkAll ds∧qs.length=vs.length∧∀(i:Nat) (p:PV) (v:Value),qs[i]?=some p→vs[i]?=some v→RepP fi (Mem.start w) w p v
 |[],L,vs,ds,ps,hs,ht,_,_=>by
  obtain⟨rfl,rfl,rfl⟩:=trodAll_nil ht
  simp[shapes] at hs;subst hs
  exact⟨[],trivial,Nat.zero_le _,rfl,fun i p v h=>by simp at h⟩
 | t::ts,L,vs,ds,ps,hs,ht,hv,hw=>by
  obtain⟨v,vs',d,ds',p,q,rfl,rfl,rfl,h1,h2⟩:=trodAll_cons ht
  simp only[shapes] at hs
  split at hs
  ·rename_i l r hl hr
   simp at hs;subst hs
   obtain⟨a,ha,hb1,hra⟩:=arg_ok (fi:=fi) hl (hv 0 t v rfl rfl) h1 fun b hb=>hw b (by simp only[DataW.weightsEach];exact List.mem_append_left _ hb)
   obtain⟨qs,hq,hb2,hl,hrq⟩:=jgk hr h2 (fun j t v h1 h2=>hv (j+1) t v (by simpa using h1) (by simpa using h2)) (fun b hb=>hw b (by simp only[DataW.weightsEach];exact List.mem_append_right _ hb))
   refine⟨a::qs,⟨ha,hq⟩,by rw[bulkPs,bulkAll];omega,by simp[hl],fun i p v h1 h2=>?_⟩
   cases i with
   |zero=>simp at h1 h2;subst h1;subst h2;exact hra
   |succ i=>exact hrq i p v (by simpa using h1) (by simpa using h2)
  ·cases hs
theorem jgl {W W':World} (hl:laidOutB P=true) (hb:Below W.heap.size W W'):∀{ts:List TypeId} {vs:List Value} {ds:List (DataW H)} {ps:List MemPlace},
  (ts.all fun t=>P.readableRec t&&decide (t<P.types.size))=true→DataW.TrodAll enc P W 0 (fun _=>true) true ts vs ds ps→DataW.TrodAll enc P W' 0 (fun b=>decide (b<W.heap.size)) true ts vs ds ps
 |[],vs,ds,ps,_,h=>by
  obtain⟨rfl,rfl,rfl⟩:=trodAll_nil h
  exact h
 |t::ts,vs,ds,ps,hr,h=>by
  obtain⟨v,vs',d,ds',p,q,rfl,rfl,rfl,h1,h2⟩:=trodAll_cons h
  simp only[List.all_cons,Bool.and_eq_true,decide_eq_true_eq] at hr
  have lt:∀x∈p,x.block<W.heap.size:=by obtain⟨m,hm⟩:=h1;exact DataW.trod_lt m _ _ _ hm
  exact⟨p,q,Below.trod hl hr.1.1 hr.1.2 h1 hb lt,jgl hl hb hr.2 h2,rfl⟩
end
end Go.Lw
end

/-! When the machine's functions stand for the program's: asked by one check over a list of both numbers; and what a law's row needs behind it. -/
section
namespace Go.Lw
open Go Go.RowKit
def linkF (P:Program) (fi:FI) (pg:Prg) (f F:Nat):Bool:=
 match P.funcs[F]? with
 | some Fn=>match Fn.body with
  |some c=>match pg f with
   | some (.code fn) => (!(Fn.name == "runtime.NumGoroutine")) && (matchC P fi Fn.ntmps fn.body c && mRes P fn.res Fn.results.toList)
   | _ => !(Fn.name == "runtime.NumGoroutine")
  |none=>false
 |none=>false
def isLib (pg:Prg) (f:Nat):Bool:=match pg f with|some (.lib _)=>true|_=>false
theorem jm2 {P:Program} {fi:FI} {pg:Prg} {f F:Nat} (h:linkF P fi pg f F=true) (hl:∀L,pg f=some (.lib L)→∀vs gh r gh',L vs gh=some (r,gh')→(∀p∈vs,argOk p=true)→CallOk P fi F vs gh r gh') :
  HasBody P F∧match pg f with
  |some (.code fn)=>∃Fn c,P.funcs[F]?=some Fn∧Fn.body=some c∧matchC P fi Fn.ntmps fn.body c=true∧mRes P fn.res Fn.results.toList=true
  |some (.lib L)=>∀vs gh r gh',L vs gh=some (r,gh')→(∀p∈vs,argOk p=true)→CallOk P fi F vs gh r gh'
  |none=>True:=by
 unfold linkF at h
 cases hF:P.funcs[F]? with
 |none=>rw[hF] at h;cases h
 | some Fn=>
  rw[hF] at h;simp only at h
  cases hc:Fn.body with
  |none=>rw[hc] at h;cases h
  | some c=>
   rw[hc] at h;simp only at h
   cases hp:pg f with
   |none=>
    rw[hp] at h
    exact⟨⟨Fn,c,hF,by simpa using h,hc⟩,trivial⟩
   | some df=>
    cases df with
    |lib L=>
     rw[hp] at h
     exact⟨⟨Fn,c,hF,by simpa using h,hc⟩,hl L hp⟩
    |code fn=>
     rw[hp] at h
     simp only[Bool.and_eq_true,Bool.not_eq_true'] at h
     exact⟨⟨Fn,c,hF,h.1,hc⟩,Fn,c,rfl,hc,h.2.1,h.2.2⟩
def fiG (l:List (Nat×Nat)) (gl:List (Nat×Nat×Option Value)) (bT:List TypeId:=[]) (u8:TypeId:=0) (gw:List (Nat×List ByteArray):=[]) (gwok:GwOk gl gw:=by exact gwNil _):FI:={f:=fun f=>(l.find? (·.1==f)).map (·.2),gl:=gl,bT:=bT,u8:=u8,gw:=gw,gwok:=gwok }
theorem jm3 {l:List (Nat×Nat)} {gl:List (Nat×Nat×Option Value)} {bT:List TypeId} {u8:TypeId} {gw:List (Nat×List ByteArray)} {gwok:GwOk gl gw} {f F:Nat} (h:fiG l gl bT u8 gw gwok f=some F):(f,F)∈l:=by
 unfold fiG at h
 simp only[Option.map_eq_some_iff] at h
 obtain⟨⟨a,b⟩,h1,rfl⟩:=h
 have h2:=List.find?_some h1
 have h3:=List.mem_of_find?_eq_some h1
 simp at h2;subst h2
 exact h3
theorem jm4 {P:Program} {l:List (Nat×Nat)} {gl:List (Nat×Nat×Option Value)} {bT:List TypeId} {u8:TypeId} {gw:List (Nat×List ByteArray)} {gwok:GwOk gl gw} {pg:Prg} (h:(l.all fun x=>linkF P (fiG l gl bT u8 gw gwok) pg x.1 x.2)=true)
  (hl:∀f F L,(f,F)∈l→pg f=some (.lib L)→∀vs gh r gh',L vs gh=some (r,gh')→(∀p∈vs,argOk p=true)→CallOk P (fiG l gl bT u8 gw gwok) F vs gh r gh'):LinkOk P (fiG l gl bT u8 gw gwok) pg:=by
 intro f F hf
 have hm:=jm3 hf
 rw[List.all_eq_true] at h
 exact jm2 (h _ hm) (fun L=>hl f F L hm)
theorem jm5 {H:Type} {enc:TypeId×Value→H} {P:Program} {fi:FI} {pg:Prg} (hP:P.follows .mixedOrders=true) (hL:LinkOk P fi pg) {f F n:Nat} (hf:fi f=some F) {ts:List TypeId} {L:List (Bool×List CS)}
  (hs:shapes P n ts=some L) {N:Nat} (hlaw:∀qs,argsTy L qs→bulkPs qs≤N→callL pg f qs []=some (.bool true,[])) {W:World} {base:Nat} {args:List Value} {ds:List (DataW H)} {ps:List MemPlace}
  (hA:DataW.TrodAll enc P W 0 (fun _=>true) true ts args ds ps) (hv:∀(j:Nat) t v,ts[j]?=some t→args[j]?=some v→Value.okWide P W .any base t v) (hw:(DataW.weightsEach P ts ds).all (· ≤reachBytes)=true) (hN:bulkAll ds≤N) (hg:∀x∈fi.gl,x.1<W.heap.size∧W.cell? ⟨x.1,x.2.1,none⟩=x.2.2:=by intro x hx;cases hx) :
  Calls P F args.toArray W fun e W'=>e= .returned (.bool true)∧Below W.heap.size W W':=by
 obtain⟨qs,hq,hbk,hl,hr⟩:=jgk (fi:=fi) hs hA hv (by simpa using hw)
 refine (top_ok hP hL (hlaw qs hq (Nat.le_trans hbk hN)) (jgj hq) hf hl.symm hg hr).mono ?_
 rintro e w' ⟨v,M',rfl,_,hres,h1,h2,h3,h4,h5⟩
 refine⟨?_,⟨h1,h2,h3,h4,h5⟩⟩
 have:RepP fi M' w' (.bool true) v:=hres
 cases this;rfl
end Go.Lw
end
