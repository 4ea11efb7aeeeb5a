/-
  The texts that the proof stands on, part 24.
-/
import Derived.Test.YtmodipglnngghacGreatDoorTextParsesW
import Derived.Shelf.Strings.BuilderX
import Derived.Shelf.RegionOpenPlain
import Derived.Lib.Builder
import Derived.Lib.AppendStr
import Derived.Lib.UnsafeStr
set_option linter.unusedVariables false
set_option linter.unusedSimpArgs false
set_option linter.unnecessarySimpa false

/-! strings.Builder: what WriteString and String do, shown of their code, and told of the machine. -/
section
set_option linter.unusedVariables false
namespace Go.Lw
open Go Go.Sort Go.Shelf Go.Proofs Go.RowKit
section
variable {P:Program} {w:World}
theorem ju1 {t u ty e:TypeId} {i:TypeInfo} (ht:P.underlying t=some (.slice e)) (hu:P.underlying u=some .string) (hi:P.info? e=some i) (hz:i.zero=some (.int .u8 0)) (hsize:i.size=1) (hby:i.bytes=1)
  {v:Value} {n:Nat} {xs:List Value} (hown:w.ownsRow 0 e 1 v n xs) (s:ByteArray) (hs:s.size≠0) (hb:n+s.size≤140737488355328) :
  ∃v' w',(Builtin.append_ #[t,u] ty #[v,.string s]).run P w= .ok v' w'∧w'.ownsRow 0 e 1 v' (n+s.size) (xs++Lib.strCells s)∧w.grownBy w' v.ownBlock∧(v'.ownBlock=v.ownBlock∨v'.ownBlock=some w.heap.size):=by
 have hmx:n+s.size≤maxLen:=by unfold maxLen;omega
 obtain⟨v',w',h1,h2,h3,-⟩:=Lib.run_append_own_string (P:=P) w 0 t u ty e i ht hu hi hz hsize hby v n xs hown s hmx hb (Nat.zero_le _)
 refine⟨v',w',h1,h2,h3,?_⟩
 rcases hown.2 with ⟨rfl,rfl⟩|⟨g,cap,cur,rfl,_,hg,hnc,hcm,hcs,htake⟩
 ·have hr:=run_append_nil_string (P:=P) w t u ty e i (.int .u8 0) ht hu hi hz s (by omega) (by omega) (by rw[hby];omega)
  rw[hr] at h1
  cases h1
  exact .inr rfl
 ·by_cases hroom:n+s.size≤cap
  ·have hr:=Lib.run_append_room_string (P:=P) w t u ty e i ht hu hi hsize g n cap cur hg s hroom (by omega)
   rw[hr] at h1
   cases h1
   exact .inl rfl
  ·have hr:=Lib.run_append_grow_string (P:=P) w t u ty e i (.int .u8 0) ht hu hi hz ⟨g,0,none⟩ n cap xs (by rw[hsize];exact hown.1) (hown.cells (g:=g) rfl) s (by omega) (by omega) (by rw[hby];exact growslice_fits (by omega) (by omega))
   rw[hr] at h1
   cases h1
   exact .inr rfl
theorem ju2 {ops:Array Oper} {rest:List Oper} {o:Oper} {a:Act} {Q:Exit→Act→World→Prop} (hgd:o.guard=none) (sl x:Operand) (t u:TypeId)
  (ho:o.op= .call {callee:= .builtin .append,args:= #[sl,x],argTypes:= #[t,u] })
  {e:TypeId} {i:TypeInfo} (ht:P.underlying t=some (.slice e)) (hu:P.underlying u=some .string) (hi:P.info? e=some i) (hz:i.zero=some (.int .u8 0)) (hsize:i.size=1) (hby:i.bytes=1)
  (v:Value) (n:Nat) (xs:List Value) (hs:a.eval sl=v) (hown:w.ownsRow 0 e 1 v n xs) (s:ByteArray) (hx:a.eval x= .string s) (hs0:s.size≠0) (hb:n+s.size≤140737488355328)
  (h:∀v' w',w'.ownsRow 0 e 1 v' (n+s.size) (xs++Lib.strCells s)→w.grownBy w' v.ownBlock→(v'.ownBlock=v.ownBlock∨v'.ownBlock=some w.heap.size)→wpList P ops Q rest (a.put o.dst v') w'):wpList P ops Q (o::rest) a w:=by
 refine wpList_plain hgd fun K hK=>?_
 obtain⟨v',w',hr,h2,h3,h4⟩:=ju1 (P:=P) (w:=w) (ty:=o.type) ht hu hi hz hsize hby hown s hs0 hb
 unfold Oper.wp execOp
 simp only[ho,resolve,invoke,builtin,Sem.run_bind,Sem.run_pure,Result.andThen_ok,List.map_toArray,List.map_cons,List.map_nil,hs,hx,hr]
 exact hK _ _ (h v' w' h2 h3 h4)
end
structure Rest (w W:World) (b:Nat) (og:Option Nat):Prop where
 os:W.os=w.os
 tape:W.tape=w.tape
 output:W.output=w.output
 size:w.heap.size≤W.heap.size
 block:∀k,k<w.heap.size→k≠b→some k≠og→W.heap[k]?=w.heap[k]?
theorem jgy {w:World} {b:Nat} {o:Obj} (h:w.heap[b]?=some o):b<w.heap.size:=(Array.getElem?_eq_some_iff.1 h).1
theorem jhs {w:World} {b j:Nat} {x:Value} {k:Nat} (h:k≠b):(w.setCell ⟨b,j,none⟩ x).heap[k]?=w.heap[k]?:=by
 simp[World.setCell,Array.getElem?_modify,Ne.symm h]
def BldAt (w:World) (T u8:TypeId) (b n:Nat) (p v:Value) (xs:List Value):Prop:=
 w.heap[b]?=some (.cells #[p,v] T (0,0))∧(p= .pointer none∨p= .pointer (some ⟨b,0,none⟩))∧w.ownsRow 0 u8 1 v n xs
def BldTo (w w':World) (T u8:TypeId) (b n:Nat) (v:Value) (xs:List Value):Prop:=
 ∃v',w'.heap[b]?=some (.cells #[.pointer (some ⟨b,0,none⟩),v'] T (0,0))∧w'.ownsRow 0 u8 1 v' n xs∧(v'.ownBlock=v.ownBlock∨∃g,v'.ownBlock=some g∧w.heap.size≤g)∧Rest w w' b v.ownBlock
def WriteOk (P:Program) (F:FuncId) (u8:TypeId) (Ts:List TypeId):Prop:=
 ∀T∈Ts,∀(b n:Nat) (p v:Value) (xs:List Value) (s:ByteArray) (w:World),BldAt w T u8 b n p v xs→s.size≠0→n+s.size≤140737488355328→
  Calls P F #[.pointer (some ⟨b,0,none⟩),.string s] w fun e w'=>e= .returned (.tuple #[.int .i64 s.size,.nilIface])∧BldTo w w' T u8 b (n+s.size) v (xs++Lib.strCells s)
def ByteOk (P:Program) (F:FuncId) (u8:TypeId) (Ts:List TypeId):Prop:=
 ∀T∈Ts,∀(b n:Nat) (p v:Value) (xs:List Value) (c:Int) (w:World),BldAt w T u8 b n p v xs→n+1≤140737488355328→
  Calls P F #[.pointer (some ⟨b,0,none⟩),.int .u8 c] w fun e w'=>e= .returned .nilIface∧BldTo w w' T u8 b (n+1) v (xs++[.int .u8 c])
def ReadOk (P:Program) (F:FuncId) (u8:TypeId):Prop:=
 (∀(T:TypeId) (b:Nat) (p:Value) (w:World),w.heap[b]?=some (.cells #[p,.slice none 0 0] T (0,0))→Calls P F #[.pointer (some ⟨b,0,none⟩)] w fun e w'=>e= .returned (.string .empty)∧w'=w.drew)∧
 ∀(T:TypeId) (b g cap:Nat) (p:Value) (l:List UInt8) (cur:Array Value) (w:World),w.heap[b]?=some (.cells #[p,.slice (some ⟨g,0,none⟩) l.length cap] T (0,0))→w.heap[g]?=some (.cells cur u8 (0,0))→l≠[]→l.length≤cap→cap≤maxLen→cur.size=cap→
  (∀j x,l[j]?=some x→w.cell? ((⟨g,0,none⟩:Addr).add j)=some (.int .u8 x.toNat))→
  Calls P F #[.pointer (some ⟨b,0,none⟩)] w fun e w'=>e= .returned (.string ⟨l.toArray⟩)∧w'=w.drew.freeze ⟨g,0,none⟩ l.length
section
variable {fi:FI} {P:Program} {ρ:Ren} {M:Mem} {w W:World} {gh:List GObj}
theorem ju3 (s:ByteArray):byteV s=Lib.strCells s:=rfl
theorem jnm (s t:ByteArray):byteV (s++t)=byteV s++Lib.strCells t:=by
 unfold byteV Lib.strCells
 rw[←List.map_append]
 congr 1
 first
  |done
  |(show ((s++t).data).toList=_;rw[ByteArray.data_append];simp)
theorem jnn (s t:ByteArray):(s++t).size=s.size+t.size:=ByteArray.size_append
theorem GI.rebld (hG:GI fi M w gh) (hlb:M.lb=[]) {b blk:Nat} {t t':ByteArray} (hgh:gh[b]?=some (.bld t)) (hblk:M.gb[b]?=some blk) {og:Option Nat} (hR:Rest w W blk og)
  (hog:∀g,og=some g→M.own g=some (Loc.gh b 0)∧g∉M.gb∧∀k,¬M.imm g k) {g cap:Nat} {cur:Array Value} {T:TypeId} (hT:T∈fi.bT)
  (hW:W.heap[blk]?=some (.cells #[.pointer (some ⟨blk,0,none⟩),.slice (some ⟨g,0,none⟩) t'.size cap] T (0,0))) (hg:og=some g∨w.heap.size≤g) (hg2:W.heap[g]?=some (.cells cur fi.u8 (0,0)))
  (h0:t'.size≠0) (h1:t'.size≤cap) (h2:cap≤maxLen) (h3:cur.size=cap) (h4:cur.toList.take t'.size=byteV t') :
  ∃M',GI fi M' W (gh.set b (.bld t'))∧Kp M w M' W∧M'.lb=[]:=by
 have hbl:b<gh.length:=(List.getElem?_eq_some_iff.1 hgh).1
 obtain⟨o1,o2,o3,-⟩:RepBld fi M w b blk t:=hG.gh b _ _ hgh hblk
 have hnew:w.heap.size≤g→M.own g=none∧g∉M.gb∧∀k,¬M.imm g k:=fun h=>by
  refine⟨?_,fun hm=>absurd (hG.gblt g hm) (by omega),fun k hk=>absurd (hG.immlt g k hk) (by omega)⟩
  cases ho:M.own g with
  |none=>rfl
  |some l=>exact absurd (hG.ownlt g l ho) (by omega)
 have hgm:g∉M.gb∧∀k,¬M.imm g k:=by
  rcases hg with h|h
  ·exact (hog g h).2
  ·exact (hnew h).2
 have hgo:M.own g=some (Loc.gh b 0)∨M.own g=none∧w.heap.size≤g:=by
  rcases hg with h|h
  ·exact .inl (hog g h).1
  ·exact .inr ⟨(hnew h).1,h⟩
 let M':Mem:={M with own:=fun k=>if k=g then some (Loc.gh b 0) else M.own k }
 have own':∀k l,M.own k=some l→M'.own k=some l:=fun k l h=>by
  show (if k=g then some (Loc.gh b 0) else M.own k)=some l
  by_cases e:k=g
  ·subst e
   rw[if_pos rfl]
   rcases hgo with h'|⟨h',_⟩
   ·rw[h'] at h;exact h
   ·rw[h'] at h;cases h
  ·rw[if_neg e];exact h
 have own0:∀k,k<w.heap.size→M.own k=none→M'.own k=none:=fun k hk h=>by
  show (if k=g then some (Loc.gh b 0) else M.own k)=none
  rw[if_neg (fun e=>?_)]
  ·exact h
  ·subst e
   rcases hgo with h'|⟨_,h'⟩
   ·rw[h'] at h;cases h
   ·omega
 have gd:Good M w M' W (fun l=>l=Loc.gh b 0) (fun k=>k=blk):=by
  refine⟨⟨fun _ _ h=>h,fun _ _ h=>h,fun bb k h=>?_,fun _ _=>⟨Nat.le_refl _,fun _=>rfl⟩⟩,hR.size,fun _ _ h=>h,fun bb l h hl=>?_,fun bb hb hx h=>?_,fun _ _=>rfl⟩
  ·refine jii (hR.block bb (hG.immlt bb k h) (fun e=>o2 k (by rw[←e];exact h)) (fun e=>(hog bb e.symm).2.2 k h))
  ·refine⟨own' _ _ h,hR.block bb (hG.ownlt bb l h) (fun e=>?_) (fun e=>?_),fun _ h=>h,id,id⟩
   ·rw[e,o3] at h;cases h
   ·have:=(hog bb e.symm).1;rw[this] at h;cases h;exact hl rfl
  ·refine⟨hR.block bb hb hx (fun e=>?_),fun _ h=>h,own0 bb hb h⟩
   have:=(hog bb e.symm).1;rw[this] at h;cases h
 have k:Kp M w M' W:=by
  refine⟨hR.os,hR.tape,hR.output,hR.size,gd.ext,fun i hi hl hgb ho=>hR.block i hi (fun e=>hgb ?_) (fun e=>?_),fun _ h=> .inl h,fun _ h=> .inl h,fun k hk h=>own0 k hk h,fun _ _ h=> .inl h⟩
  ·rw[e];exact List.mem_of_getElem? hblk
  ·have:=(hog i e.symm).1;rw[this] at ho;cases ho
 refine⟨M',⟨fun t v h=>by simp[get] at h,rfl,hG.lbl,by simpa using hG.gbl,hG.nodup,fun i cs blk h=>by simp at h,fun i o bk h1' h2'=>?_,gd.ext.gl hG.gl,fun bb j h=>Nat.lt_of_lt_of_le (hG.immlt bb j h) hR.size,fun bb l h=>?_,fun bb h=>Nat.lt_of_lt_of_le (hG.gblt bb h) hR.size⟩,k,hlb⟩
 ·simp only at h1'
  rw[List.getElem?_set] at h1'
  by_cases hbi:b=i
  ·subst hbi
   rw[if_pos rfl,if_pos hbl] at h1'
   cases h1'
   have eb:bk=blk:=by
    have:M.gb[b]?=some bk:=h2'
    rw[hblk] at this;exact (Option.some.inj this).symm
   subst eb
   refine⟨Nat.lt_of_lt_of_le o1 hR.size,o2,own0 _ o1 o3,T,hT,.inr ⟨g,cap,cur,hW,?_,by show g∉M.lb;rw[hlb];simp,hgm.1,hgm.2,hg2,h0,h1,h2,h3,h4⟩⟩
   show (if g=g then some (Loc.gh b 0) else M.own g)=_
   rw[if_pos rfl]
  ·rw[if_neg hbi] at h1'
   have h2'':M.gb[i]?=some bk:=h2'
   refine (hG.gh i o bk h1' h2'').good gd (fun e=>?_) (fun j h=>by injection h with h1 h2;exact hbi h1.symm)
   have hnd:M.gb.Nodup:=(List.nodup_append.1 hG.nodup).2.1
   have e':bk=blk:=e
   rw[e'] at h2''
   exact hbi (jh2 hnd hblk h2'')
 ·have:(if bb=g then some (Loc.gh b 0) else M.own bb)=some l:=h
  by_cases e:bb=g
  ·subst e
   exact jgy hg2
  ·rw[if_neg e] at this
   exact Nat.lt_of_lt_of_le (hG.ownlt bb l this) hR.size
theorem jno {b blk:Nat} {t:ByteArray} (h:RepBld fi M w b blk t):∃T∈fi.bT,∃p v,w.heap[blk]?=some (.cells #[p,v] T (0,0))∧(p= .pointer none∨p= .pointer (some ⟨blk,0,none⟩))∧w.ownsRow 0 fi.u8 1 v t.size (byteV t)∧
  (∀g,v.ownBlock=some g→M.own g=some (Loc.gh b 0)∧g∉M.gb∧∀k,¬M.imm g k):=by
 obtain⟨_,_,_,T,hT,h4⟩:=h
 rcases h4 with ⟨rfl,h4⟩|⟨g,cap,cur,h5,h6,h7,h8,h9,h10,h11,h12,h13,h14,h15⟩
 ·exact⟨T,hT,_,_,h4,.inl rfl,⟨rfl,.inl ⟨rfl,rfl⟩⟩,fun g hg=>by simp[Value.ownBlock] at hg⟩
 ·refine⟨T,hT,_,_,h5,.inr rfl,⟨by rw[ju3,Lib.strCells_length,Nat.mul_one],.inr ⟨g,cap,cur,rfl,Nat.zero_le _,h10,h12,h13,by omega,by rw[Nat.mul_one];exact h15⟩⟩,fun g' hg=>?_⟩
  simp only[Value.ownBlock,Option.some.injEq] at hg
  subst hg
  exact⟨h6,h8,h9⟩
theorem ju4 {F:FuncId} (hF:WriteOk P F fi.u8 fi.bT) (vs:List PV) (gh:List GObj) (r:PV) (gh':List GObj) (h:libWS vs gh=some (r,gh')):CallOk P fi F vs gh r gh':=by
 intro M w args hG hlb hown hlen hrep
 unfold libWS at h
 split at h
 ·rename_i b s
  split at h
  case h_2=>cases h
  rename_i t hgh
  split at h
  case isFalse=>cases h
  rename_i hc
  cases h
  obtain⟨v0,v1,rfl⟩:∃v0 v1,args=[v0,v1]:=by
   match args,hlen with
   |[a,b],_=>exact⟨a,b,rfl⟩
  have hv0:=hrep 0 _ _ rfl rfl
  have hv1:=hrep 1 _ _ rfl rfl
  cases hv1
  cases hv0 with
  |ptr _ _ blk hblk=>
  have hrb:RepBld fi M w b blk t:=hG.gh b _ _ hgh hblk
  obtain⟨T,hT,p,v,hb,hp,hrow,hog⟩:=jno hrb
  refine (hF T hT _ _ p v _ s w ⟨hb,hp,hrow⟩ hc.1 hc.2).mono ?_
  rintro e w' ⟨rfl,v',hb',hrow',hv',hR⟩
  rcases hrow'.2 with ⟨_,h0⟩|⟨g,cap,cur,rfl,_,hg,hnc,hcm,hcs,htk⟩
  ·have:=hc.1;omega
  have hsz:=jnn t s
  obtain⟨M',hG',hK,hlb'⟩:=GI.rebld (t':=t++s) hG hlb hgh hblk hR hog hT (by rw[hsz];exact hb') (by
   rcases hv' with e|e
   ·exact .inl e.symm
   ·obtain⟨g',e,h⟩:=e;simp only[Value.ownBlock,Option.some.injEq] at e;exact .inr (by omega)) hg (by rw[hsz];have:=hc.1;omega) (by rw[hsz];exact hnc) hcm (by omega) (by
   rw[hsz,jnm];rw[Nat.mul_one] at htk;exact htk)
  exact⟨_,M',rfl,hG',hlb',rfl,jij (.int _ _) .nilI,hK⟩
 ·cases h
theorem jnp {g k:Nat} {n:Nat} (h:k≠g):(w.freeze ⟨g,0,none⟩ n).heap[k]?=w.heap[k]?:=by
 unfold World.freeze
 split
 ·rfl
 ·simp[Array.getElem?_modify,Ne.symm h]
theorem ju5 {g k j:Nat} {n:Nat}:(w.freeze ⟨g,0,none⟩ n).cell? ⟨k,j,none⟩=w.cell? ⟨k,j,none⟩:=by
 by_cases h:k=g
 ·subst h
  unfold World.freeze
  split
  ·rfl
  ·simp only[World.cell?,Array.getElem?_modify,if_true]
   cases w.heap[k]? with
   |none=>rfl
   |some o=>cases o<;>rfl
 ·exact jii (jnp h)
theorem ju6 {g:Nat} {n:Nat}:(w.freeze ⟨g,0,none⟩ n).heap.size=w.heap.size:=by
 unfold World.freeze
 split
 ·rfl
 ·simp
theorem frz_os {a:Addr} {n:Nat}:(w.freeze a n).os=w.os∧(w.freeze a n).tape=w.tape∧(w.freeze a n).output=w.output:=by
 unfold World.freeze
 split<;>exact⟨rfl,rfl,rfl⟩
theorem ju7 {F:FuncId} (hF:ReadOk P F fi.u8) (vs:List PV) (gh:List GObj) (r:PV) (gh':List GObj) (h:libBS vs gh=some (r,gh')):CallOk P fi F vs gh r gh':=by
 intro M w args hG hlb hown hlen hrep
 unfold libBS at h
 split at h
 ·rename_i b
  split at h
  case h_2=>cases h
  rename_i t hgh
  cases h
  obtain⟨v0,rfl⟩:=List.length_eq_one_iff.1 hlen
  have hv0:=hrep 0 _ _ rfl rfl
  cases hv0 with
  |ptr _ _ blk hblk=>
  have hbl:b<gh.length:=(List.getElem?_eq_some_iff.1 hgh).1
  have hrb:RepBld fi M w b blk t:=hG.gh b _ _ hgh hblk
  obtain⟨o1,o2,o3,T,hT,h4⟩:=hrb
  have hnd:M.gb.Nodup:=(List.nodup_append.1 hG.nodup).2.1
  rcases h4 with ⟨rfl,h4⟩|⟨g,cap,cur,q5,q6,q7,q8,q9,q10,q11,q12,q13,q14,q15⟩
  ·refine (hF.1 _ _ _ _ h4).mono ?_
   rintro e w' ⟨rfl,rfl⟩
   have gd:Good M w M w.drew (fun _=>False) (fun k=>k=blk):=
    ⟨⟨fun _ _ h=>h,fun _ _ h=>h,fun _ _ _=>rfl,fun _ _=>⟨Nat.le_refl _,fun _=>rfl⟩⟩,Nat.le_refl _,fun _ _ h=>h,fun bb l h _=>⟨h,rfl,fun _ h=>h,id,id⟩,fun bb hb _ h=>⟨rfl,fun _ h=>h,h⟩,fun _ _=>rfl⟩
   have k:Kp M w M w.drew:=⟨rfl,rfl,rfl,Nat.le_refl _,gd.ext,fun _ _ _ _ _=>rfl,fun _ h=> .inl h,fun _ h=> .inl h,fun _ _ h=>h,fun _ _ h=> .inl h⟩
   refine⟨_,M,rfl,⟨fun t v h=>by simp[get] at h,rfl,hG.lbl,by simpa using hG.gbl,hG.nodup,fun i cs blk h=>by simp at h,fun i o bk h1' h2'=>?_,gd.ext.gl hG.gl,hG.immlt,hG.ownlt,hG.gblt⟩,hlb,rfl,(RepP.str _).repE.repAt,k⟩
   simp only at h1'
   rw[List.getElem?_set] at h1'
   by_cases hbi:b=i
   ·subst hbi
    rw[if_pos rfl,if_pos hbl] at h1'
    cases h1'
    rw[hblk] at h2';cases h2'
    refine⟨o1,o2,o3,fun c hc=>by
     rcases List.mem_cons.1 hc with rfl|hc
     ·rfl
     ·rw[List.mem_singleton] at hc;subst hc;rfl,[.pointer none,.slice none 0 0],T,h4,rfl,fun i c u hc hu=>?_⟩
    match i,hc,hu with
    |0,hc,hu=>cases hc;cases hu;exact (RepP.nilp).repC
    |1,hc,hu=>cases hc;cases hu;exact (show RepP fi M w.drew (.sl false 1 []) (.slice none 0 0) from .sl 1 [] none 0 0 0 (fun _=>undef) (.inl rfl) (by simp) (by simp) (by simp) (by simp) (by simp)).repC
   ·rw[if_neg hbi] at h1'
    exact (hG.gh i o bk h1' h2').good gd (fun e=>by subst e;exact hbi (jh2 hnd hblk h2')) (fun j h=>h)
  ·have hcell:∀j x,t.data.toList[j]?=some x→w.cell? ((⟨g,0,none⟩:Addr).add j)=some (.int .u8 x.toNat):=fun j x hx=>by
    have hj:j<t.size:=by
     have:=(List.getElem?_eq_some_iff.1 hx).1
     rw[Array.length_toList] at this;exact this
    have e1:cur.toList[j]?=some (.int .u8 x.toNat):=by
     have:(cur.toList.take t.size)[j]?=some (.int .u8 x.toNat):=by rw[q15];unfold byteV;rw[List.getElem?_map,hx];rfl
     rw[List.getElem?_take,if_pos hj] at this;exact this
    rw[Addr.add_lit]
    simp only[World.cell?,q10,Nat.zero_add]
    simpa using e1
   have hts:t.data.toList.length=t.size:=Array.length_toList
   refine (hF.2 _ _ _ _ _ t.data.toList _ _ (by rw[hts];exact q5) q10 (fun e=>q11 (by rw[←hts,e];rfl)) (by rw[hts];exact q12) q13 q14 hcell).mono ?_
   rintro e w' ⟨rfl,rfl⟩
   rw[hts]
   generalize hW:w.drew.freeze ⟨g,0,none⟩ t.size=W
   have hoth:∀k,k≠g→W.heap[k]?=w.heap[k]?:=fun k hk=>by rw[←hW,jnp hk];rfl
   have hcl:∀k j,W.cell? ⟨k,j,none⟩=w.cell? ⟨k,j,none⟩:=fun k j=>by rw[←hW,ju5];rfl
   have hsz:W.heap.size=w.heap.size:=by rw[←hW,ju6];rfl
   obtain⟨f1,f2,f3⟩:W.os=w.os∧W.tape=w.tape∧W.output=w.output:=by
    rw[←hW];exact frz_os
   have hgs:g<w.heap.size:=jgy q10
   have hgb:g≠blk:=fun e=>by rw[e,o3] at q6;cases q6
   let M':Mem:={M with imm:=fun k j=>M.imm k j∨k=g }
   have gd:Good M w M' W (fun l=>l=Loc.gh b 0) (fun k=>k=blk):=by
    refine⟨⟨fun _ _ h=>h,fun _ _ h=> .inl h,fun bb k h=>hcl bb k,fun _ _=>⟨Nat.le_refl _,fun _=>rfl⟩⟩,by omega,fun _ _ h=>h,fun bb l h hl=>?_,fun bb hb hx h=>?_,fun _ _=>rfl⟩
    ·have hbg:bb≠g:=fun e=>by rw[e,q6] at h;cases h;exact hl rfl
     exact⟨h,hoth bb hbg,fun k hk=>fun e=>e.elim hk hbg,id,id⟩
    ·have hbg:bb≠g:=fun e=>by rw[e,q6] at h;cases h
     exact⟨hoth bb hbg,fun k hk=>fun e=>e.elim hk hbg,h⟩
   have k:Kp M w M' W:=by
    refine⟨f1,f2,f3,by omega,gd.ext,fun i hi _ _ ho=>hoth i (fun e=>by rw[e,q6] at ho;cases ho),fun _ h=> .inl h,fun _ h=> .inl h,fun _ _ h=>h,fun bb kk h=>?_⟩
    rcases h with h|rfl
    ·exact .inl h
    ·exact .inr (.inr (by rw[q6];simp))
   refine⟨_,M',rfl,⟨fun t v h=>by simp[get] at h,rfl,hG.lbl,by simpa using hG.gbl,hG.nodup,fun i cs blk h=>by simp at h,fun i o bk h1' h2'=>?_,gd.ext.gl hG.gl,fun bb j h=>?_,fun bb l h=>by rw[hsz];exact hG.ownlt bb l h,fun bb h=>by rw[hsz];exact hG.gblt bb h⟩,hlb,rfl,(RepP.str _).repE.repAt,k⟩
   ·simp only at h1'
    rw[List.getElem?_set] at h1'
    have h2'':M.gb[i]?=some bk:=h2'
    by_cases hbi:b=i
    ·subst hbi
     rw[if_pos rfl,if_pos hbl] at h1'
     cases h1'
     rw[hblk] at h2'';cases h2''
     refine⟨by rw[hsz];exact o1,fun kk hk=>hk.elim (o2 kk) (fun e=>hgb e.symm),o3,fun c hc=>by
      rw[if_neg q11] at hc
      rcases List.mem_cons.1 hc with rfl|hc
      ·rfl
      ·rw[List.mem_singleton] at hc;subst hc;rfl,[.pointer (some ⟨blk,0,none⟩),.slice (some ⟨g,0,none⟩) t.size cap],T,by rw[hoth blk hgb.symm];exact q5,rfl,fun i c u hc hu=>?_⟩
     rw[if_neg q11] at hc
     match i,hc,hu with
     |0,hc,hu=>cases hc;cases hu;exact (show RepP fi M' W (.ptr true b 0) (.pointer (some ⟨blk,0,none⟩)) from .ptr b 0 blk hblk).repC
     | 1,hc,hu=>
      cases hc;cases hu
      have hll:(t.data.toList.map fun c=>PV.int .u8 c.toNat).length=t.size:=by rw[List.length_map,hts]
      rw[←hll]
      refine (RepP.sl 1 _ _ cap g 0 (fun i=>((byteV t)[i]?).getD undef) (.inr rfl) (by rw[hll];exact q12) ?_ ?_ ?_ ?_).repC
      ·intro e he;obtain⟨x,_,rfl⟩:=List.mem_map.1 he;rfl
      ·intro e he;obtain⟨x,_,rfl⟩:=List.mem_map.1 he;rfl
      ·intro i e j p he hp
       rw[List.getElem?_map,Option.map_eq_some_iff] at he
       obtain⟨x,hx,rfl⟩:=he
       obtain rfl:j=0:=by
        match j,hp with
        |0,_=>rfl
        |j+1,hp=>cases hp
       refine⟨.inr rfl,?_⟩
       rw[hcl,Nat.mul_one,Nat.add_zero,Nat.zero_add]
       have:=hcell i x hx
       rw[Addr.add_lit,Nat.zero_add] at this
       rw[this];unfold byteV;rw[List.getElem?_map,hx];rfl
      ·intro i e j p he hp
       rw[List.getElem?_map,Option.map_eq_some_iff] at he
       obtain⟨x,hx,rfl⟩:=he
       obtain rfl:j=0:=by
        match j,hp with
        |0,_=>rfl
        |j+1,hp=>cases hp
       cases hp
       rw[Nat.mul_one,Nat.add_zero]
       unfold byteV;rw[List.getElem?_map,hx]
       exact .int _ _
    ·rw[if_neg hbi] at h1'
     exact (hG.gh i o bk h1' h2'').good gd (fun e=>by subst e;exact hbi (jh2 hnd hblk h2'')) (fun j h=>by injection h with h1 h2;exact hbi h1.symm)
   ·rw[hsz]
    rcases h with h|rfl
    ·exact hG.immlt bb j h
    ·exact hgs
 ·cases h
end
end Go.Lw
end

/-! strings.Builder: what WriteByte does, shown of its code, and told of the machine. -/
section
set_option linter.unusedVariables false
namespace Go.Lw
open Go Go.Sort Go.Shelf Go.Proofs Go.RowKit
section
variable {P:Program} {w:World}
theorem ju8 {t ty e:TypeId} {i:TypeInfo} (ht:P.underlying t=some (.slice e)) (hi:P.info? e=some i) (hz:i.zero=some (.int .u8 0)) (hsize:i.size=1) (hby:i.bytes=1)
  {v:Value} {n:Nat} {xs:List Value} (hown:w.ownsRow 0 e 1 v n xs) (ad:Addr) (m c:Nat) (news:List Value) (hl:news.length=m) (hnews:∀j u,news[j]?=some u→w.cell? (ad.add j)=some u) (h1:∀u∈news,u.oneCell'=true) (hm:0<m)
  (hb:n+m≤140737488355328) :
  ∃v' w',(Builtin.append_ #[t,t] ty #[v,.slice (some ad) m c]).run P w= .ok v' w'∧w'.ownsRow 0 e 1 v' (n+m) (xs++news)∧w.grownBy w' v.ownBlock∧(v'.ownBlock=v.ownBlock∨v'.ownBlock=some w.heap.size):=by
 have hmx:n+m≤maxLen:=by unfold maxLen;omega
 have hl':news.length=m*i.size:=by rw[hsize];omega
 obtain⟨v',w',q1,q2,q3,-⟩:=run_append_own (P:=P) w 0 t ty e i (.int .u8 0) 1 1 ht hi hz hsize hby rfl (by decide) v n xs hown ad m c news (by omega) hnews h1 hmx (by omega) (Nat.zero_le _)
 refine⟨v',w',q1,q2,q3,?_⟩
 rcases hown.2 with ⟨rfl,rfl⟩|⟨g,cap,cur,rfl,_,hg,hnc,hcm,hcs,htake⟩
 ·have hr:=run_append_nil (P:=P) w t ty e i (.int .u8 0) ht hi hz ad m c news hl' hnews hm (by omega) (by rw[hby];omega)
  rw[hr] at q1
  cases q1
  exact .inr rfl
 ·by_cases hroom:n+m≤cap
  ·have hr:=run_append_room (P:=P) w t ty e i ht hi g n cap cur hg ad m c news hl' hnews h1 hroom (by rw[hsize];omega)
   rw[hr] at q1
   cases q1
   exact .inl rfl
  ·have hr:=run_append_grow (P:=P) w t ty e i (.int .u8 0) ht hi hz ⟨g,0,none⟩ n cap xs (by rw[hsize];exact hown.1) (hown.cells (g:=g) rfl) ad m c news hl' hnews (by omega) (by omega) (by rw[hby];exact growslice_fits (by omega) (by omega))
   rw[hr] at q1
   cases q1
   exact .inr rfl
theorem ju9 {ops:Array Oper} {rest:List Oper} {o:Oper} {a:Act} {Q:Exit→Act→World→Prop} (hgd:o.guard=none) (sl x:Operand) (t:TypeId)
  (ho:o.op= .call {callee:= .builtin .append,args:= #[sl,x],argTypes:= #[t,t] })
  {e:TypeId} {i:TypeInfo} (ht:P.underlying t=some (.slice e)) (hi:P.info? e=some i) (hz:i.zero=some (.int .u8 0)) (hsize:i.size=1) (hby:i.bytes=1)
  (v:Value) (n:Nat) (xs:List Value) (hs:a.eval sl=v) (hown:w.ownsRow 0 e 1 v n xs) (ad:Addr) (m c:Nat) (news:List Value) (hx:a.eval x= .slice (some ad) m c) (hl:news.length=m) (hnews:∀j u,news[j]?=some u→w.cell? (ad.add j)=some u)
  (h1:∀u∈news,u.oneCell'=true) (hm:0<m) (hb:n+m≤140737488355328)
  (h:∀v' w',w'.ownsRow 0 e 1 v' (n+m) (xs++news)→w.grownBy w' v.ownBlock→(v'.ownBlock=v.ownBlock∨v'.ownBlock=some w.heap.size)→wpList P ops Q rest (a.put o.dst v') w'):wpList P ops Q (o::rest) a w:=by
 refine wpList_plain hgd fun K hK=>?_
 obtain⟨v',w',hr,h2,h3,h4⟩:=ju8 (P:=P) (w:=w) (ty:=o.type) ht hi hz hsize hby hown ad m c news hl hnews h1 hm hb
 unfold Oper.wp execOp
 simp only[ho,resolve,invoke,builtin,Sem.run_bind,Sem.run_pure,Result.andThen_ok,List.map_toArray,List.map_cons,List.map_nil,hs,hx,hr]
 exact hK _ _ (h v' w' h2 h3 h4)
end
section
variable {fi:FI} {P:Program} {ρ:Ren} {M:Mem} {w W:World} {gh:List GObj}
theorem jua {F:FuncId} (hF:ByteOk P F fi.u8 fi.bT) (vs:List PV) (gh:List GObj) (r:PV) (gh':List GObj) (h:libWB vs gh=some (r,gh')):CallOk P fi F vs gh r gh':=by
 intro M w args hG hlb hown hlen hrep
 unfold libWB at h
 split at h
 ·rename_i b c
  split at h
  case h_2=>cases h
  rename_i t hgh
  split at h
  case isFalse=>cases h
  rename_i hc
  cases h
  obtain⟨v0,v1,rfl⟩:∃v0 v1,args=[v0,v1]:=by
   match args,hlen with
   |[a,b],_=>exact⟨a,b,rfl⟩
  have hv0:=hrep 0 _ _ rfl rfl
  have hv1:=hrep 1 _ _ rfl rfl
  cases hv1
  cases hv0 with
  |ptr _ _ blk hblk=>
  have hrb:RepBld fi M w b blk t:=hG.gh b _ _ hgh hblk
  obtain⟨T,hT,p,v,hb,hp,hrow,hog⟩:=jno hrb
  refine (hF T hT _ _ p v _ c w ⟨hb,hp,hrow⟩ hc.2.2).mono ?_
  rintro e w' ⟨rfl,v',hb',hrow',hv',hR⟩
  rcases hrow'.2 with ⟨_,h0⟩|⟨g,cap,cur,rfl,_,hg,hnc,hcm,hcs,htk⟩
  ·omega
  have h1:(bA [UInt8.ofNat c.toNat]).size=1:=rfl
  have hsz:(t++bA [UInt8.ofNat c.toNat]).size=t.size+1:=by rw[jnn,h1]
  have hcell:Lib.strCells (bA [UInt8.ofNat c.toNat])=[.int .u8 c]:=by
   have h2:(UInt8.ofNat c.toNat).toNat=c.toNat:=by
    rw[UInt8.toNat_ofNat']
    exact Nat.mod_eq_of_lt (by have:=hc.2.1;have:=hc.1;omega)
   have h3:((c.toNat:Nat):Int)=c:=by have:=hc.1;omega
   show [Value.int .u8 ((UInt8.ofNat c.toNat).toNat:Nat)]=_
   rw[h2,h3]
  obtain⟨M',hG',hK,hlb'⟩:=GI.rebld (t':=t++bA [UInt8.ofNat c.toNat]) hG hlb hgh hblk hR hog hT (by rw[hsz];exact hb') (by
   rcases hv' with e|⟨g',e,h⟩
   ·exact .inl e.symm
   ·simp only[Value.ownBlock,Option.some.injEq] at e;exact .inr (by omega)) hg (by rw[hsz];omega) (by rw[hsz];exact hnc) hcm (by omega) (by
   rw[hsz,jnm,hcell];rw[Nat.mul_one] at htk;exact htk)
  exact⟨_,M',rfl,hG',hlb',rfl,(RepP.nilI).repE.repAt,hK⟩
 ·cases h
end
end Go.Lw
end
