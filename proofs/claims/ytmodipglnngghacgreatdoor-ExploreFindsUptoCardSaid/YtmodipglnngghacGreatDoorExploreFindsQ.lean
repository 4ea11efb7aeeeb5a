/-
  The texts that the proof stands on, part 17.
-/
import Derived.Test.YtmodipglnngghacGreatDoorExploreFindsP
import Derived.OrdersIn
set_option linter.unusedVariables false
set_option linter.unusedSimpArgs false
set_option linter.unnecessarySimpa false

set_option maxRecDepth 100000
set_option maxHeartbeats 4000000
namespace Go.Lw
open Go
section
open Go.RowKit
section
variable {fi:FI} {M M':Mem} {w w':World} {P:Program} {s s' s1 s2 t1 t2:St} {a:Act} {cf:CallF}
def jI (ops:Array Oper):Nat->Nat->Nat->Bool
 |0,_,_=>false
 |f+1,i,j=>match ops[i]? with
  |some o=>o.after.any λe=>Region.binds .any e&&(e.on==j||(decide (j<e.on)&&jI ops f e.on j))
  |none=>false
def mr (ops:Array Oper) (is:List IOpG):Bool:=
 (List.range ops.size).all λi=>
  (match ops[i]? with
   |some o=>o.after.all λe=> !Region.binds .any e||decide (e.on<i)
   |none=>true) &&
  (List.range i).all λj=>jI ops ops.size i j||(match is[j]?,is[i]? with
   |some p,some x=>kA p x
   |_,_=>false)
def nth (is:List IOpG) (j:Nat):IOpG:=(is[j]?).getD ⟨.mkmap 0,none⟩
def rest (ops:Array Oper) (listed:Array Bool):List Nat:=(List.range ops.size).filter λj=> !listed.getD j true
def qB (ops:Array Oper) (listed:Array Bool):Prop:=
 ∀(i:Nat) (o:Oper) (e:Edge),ops[i]?=some o->listed.getD i false=true->e∈o.after->Region.binds .any e=true->listed.getD e.on false=true
theorem qC {ops:Array Oper} {listed:Array Bool} (hc:qB ops listed):∀(f i j:Nat),jI ops f i j=true->
  (∀o,ops[i]?=some o->∀e∈o.after,Region.binds .any e=true->listed.getD e.on false=true)->listed.getD j false=true
 |0,i,j,h,_=>by simp[jI] at h
 | f+1,i,j,h,hp=>by
  simp only[jI] at h;split at h
  ·rename_i o ho
   obtain⟨e,he,h1⟩:=Array.any_eq_true'.1 h;simp only[aX,Bool.or_eq_true,cR,aH] at h1;have hl:=hp o ho e he h1.1;rcases h1.2 with h2|⟨_,h2⟩
   ·rw[<-h2];exact hl
   ·exact qC hc f e.on j h2 (λo' ho' e' he' hb=>hc e.on o' e' ho' hl he' hb)
  ·cases h
theorem mu {N:Nat} {ops:Array Oper}:∀{is:List IOpG} {os:List Oper},eB P fi N ops is os=true->is.length=os.length/\∀(i:Nat) (o:Oper),os[i]?=some o->∃x,is[i]?=some x/\iS P fi N ops x o=true
 |[],[],_=>by simp
 |[],_::_,h=>by simp[eB] at h
 |_::_,[],h=>by simp[eB] at h
 |x::is,o::os,h=>by
  simp only[eB,aX] at h;obtain⟨h1,h2⟩:=mu h.2;refine⟨by simp[h1],λi o' ho=>?_⟩;cases i with
  |zero=>simp at ho;subst ho;exact⟨x,rfl,h.1⟩
  |succ i=>obtain⟨y,e1,e2⟩:=h2 i o' (by simpa using ho);exact⟨y,by simpa using e1,e2⟩
theorem wG {ops:Array Oper} {listed:Array Bool} {i:Nat} (hs:listed.size=ops.size) (hi:i<ops.size) (hu:listed.getD i true=false) :
  ∃pre suf,rest ops listed=pre++i::suf/\rest ops (listed.setIfInBounds i true)=pre++suf/\∀j∈pre,j<i/\listed.getD j true=false:=by
 refine⟨(List.range i).filter λj=> !listed.getD j true,(List.range' (i+1) (ops.size-i-1)).filter λj=> !listed.getD j true,?_,?_,λj hj=>?_⟩
 ·have e:List.range ops.size=List.range i++i::List.range' (i+1) (ops.size-i-1):=by
   rw[List.range_eq_range',List.range_eq_range',<-List.range'_succ,show ops.size-i-1+1=ops.size-i by omega];have:=List.range'_append_1 (s:=0) (m:=i) (n:=ops.size-i);simp only[cO] at this;rw[this];congr 1;omega
  rw[rest,e,List.filter_append,List.filter_cons,hu];rfl
 ·have e:List.range ops.size=List.range i++i::List.range' (i+1) (ops.size-i-1):=by
   rw[List.range_eq_range',List.range_eq_range',<-List.range'_succ,show ops.size-i-1+1=ops.size-i by omega];have:=List.range'_append_1 (s:=0) (m:=i) (n:=ops.size-i);simp only[cO] at this;rw[this];congr 1;omega
  have hi':(listed.setIfInBounds i true).getD i true=true:=by simp[hs,hi]
  rw[rest,e,List.filter_append,List.filter_cons,hi'];simp only[Bool.not_true,bP,if_false]
  congr 1
  ·refine List.filter_congr λj hj=>?_
   have:i≠j:=by simp at hj;omega
   rw[getD_set_ne true this]
  ·refine List.filter_congr λj hj=>?_
   have:i≠j:=by simp[List.mem_range'] at hj;omega
   rw[getD_set_ne true this]
 ·simp only[List.mem_filter,List.mem_range,Bool.not_eq_true'] at hj
  exact hj
theorem wH {r:Option Nat} {n:Nat} (hcf:go P fi cf) (hcy:gO P fi cf) {N:Nat} {ops:Array Oper} {is:List IOpG} {Q:Exit->Act->World->Prop} (hm:eB P fi N ops is ops.toList=true) (hd:mr ops is=true) :
  ∀(fuel:Nat) (listed:Array Bool) (s s1:St) (a:Act) (M:Mem) (w:World),listed.size=ops.size->qB ops listed->(rest ops listed).length<=fuel->Inv fi M w s a->N<=a.tmps.size->
  cw cf ((rest ops listed).map (nth is)) s=some s1->(∀a' M' w',Inv fi M' w' s1 a'->Kp M w M' w'->a'.tmps.size=a.tmps.size->Q .normal a' w')->wpAnyIn (FR r) n P .any ops Q fuel listed a w:=by
 have hnil:∀(listed:Array Bool),listed.size=ops.size->Region.ready .any ops listed=[]->rest ops listed=[]:=by
  intro listed hs hr;have all:∀n i,i<n->i<ops.size->listed.getD i true=true:=by
   intro n
   induction n with
   |zero=>intro i h;omega
   | succ n ih=>
    intro i _ hi;cases hu:listed.getD i true with
    |true=>rfl
    | false=>
     have:i∈Region.ready .any ops listed:=by
      rw[mem_ready];refine⟨hu,ops[i],Array.getElem?_eq_getElem hi,λe he hb=>?_⟩;have h1:=bS.1 hd i (by simp[hi]);rw[aX,Array.getElem?_eq_getElem hi] at h1;have h2:=Array.all_eq_true_iff_forall_mem.1 h1.1 e he;rw[hb] at h2;simp at h2;have h3:=ih e.on (by omega) (by omega);have h4:e.on<listed.size:=by omega
      simpa [h4] using h3
     rw[hr] at this;cases this
  rw[rest,List.filter_eq_nil_iff];intro i hi;simp at hi;simp only[all (i+1) i (by omega) hi,Bool.not_true,bP,not_false_eq_true]
 obtain⟨hlen,hget⟩:=mu hm;intro fuel
 induction fuel with
 | zero=>
  intro listed s s1 a M w hs hcl hf hI hN hrun hn;have hr:rest ops listed=[]:=List.length_eq_zero_iff.1 (by omega);rw[hr] at hrun;simp[cw] at hrun;subst hrun;refine⟨?_,hn a M w hI (Kp.refl M w) rfl⟩;rw[List.eq_nil_iff_forall_not_mem];intro i hi;rw[mem_ready] at hi;obtain⟨h1,o,h2,_⟩:=hi;have h3:i∈rest ops listed:=by rw[rest,List.mem_filter];exact⟨by simp[(Array.getElem?_eq_some_iff.1 h2).1],by rw[h1];rfl⟩
  rw[hr] at h3;cases h3
 | succ fuel ih=>
  intro listed s s1 a M w hs hcl hf hI hN hrun hn;refine⟨λhr=>?_,λi hi=>?_⟩
  ·rw[hnil listed hs hr] at hrun
   simp[cw] at hrun;subst hrun;exact hn a M w hI (Kp.refl M w) rfl
  ·rw [mem_ready] at hi
   obtain⟨hu,o,ho,hedge⟩:=hi;have hlt:i<ops.size:=(Array.getElem?_eq_some_iff.1 ho).1;obtain⟨pre,suf,e1,e2,e3⟩:=wG hs hlt hu;obtain⟨x,hx,hmx⟩:=hget i o (by simpa using ho);have hnx:nth is i=x:=by simp[nth,hx]
   rw[e1,bK,bQ,hnx] at hrun;obtain⟨u1,u2,h1,h2,h3⟩:=qA hrun (λp hp=>by
    obtain⟨j,hj,rfl⟩:=List.mem_map.1 hp;obtain⟨j1,j2⟩:=e3 j hj;have hdi:=bS.1 hd i (by simp[hlt]);rw[aX] at hdi;have hdj:=bS.1 hdi.2 j (by simp[j1]);rw[Bool.or_eq_true] at hdj;rcases hdj with hdj|hdj
    ·have:=qC hcl _ i j hdj (λo' ho' e he hb=>by rw[ho] at ho';cases ho';exact hedge e he hb)
     have hjs:j<listed.size:=by omega
     simp[hjs] at this j2;rw[this] at j2;cases j2
    ·split at hdj
     ·rename_i p' x' hp' hx'
      rw[hx] at hx';cases hx';simpa [nth,hp'] using hdj
     ·cases hdj)
   unfold wpOpIn;rw[ho]
   have:=pC (r:=r) (n:=n) (Q:=Q) (next:=wpAnyIn (FR r) n P .any ops Q fuel (listed.setIfInBounds i true)) hcf hcy hI hmx hN h1 (λa' M' w' hI' hk hsz=>
    ih (listed.setIfInBounds i true) u1 u2 a' M' w' (by simp[hs]) (λk o' e ho' hl he hb=>by
     by_cases hki:i=k
     ·subst hki
      rw[ho] at ho';cases ho';exact getD_set_true (hedge e he hb)
     ·rw[getD_set_ne false hki] at hl
      exact getD_set_true (hcl k o' e ho' hl he hb)) (by rw[e2];rw[e1] at hf;simp at hf ⊢;omega) hI' (by omega) (by rw[e2,bK];exact h2)
     (λa2 M2 w2 hI2 hk2 hs2=>hn a2 M2 w2 (hI2.eqv h3.symm) (hk.trans hk2) (hs2.trans hsz)))
   simp only;split
   ·rename_i hw;rw[if_pos hw] at this;exact this
   ·rename_i hw;rw[if_neg hw] at this;exact⟨λ_ _=>trivial,this⟩
theorem wI (is:List IOpG):(List.range is.length).map (nth is)=is:=by
 apply List.ext_getElem?;intro j;by_cases hj:j<is.length
 ·simp[nth,hj]
 ·simp[hj]
theorem wJ {r:Option Nat} {n:Nat} (hP:P.follows .mixedOrders=true) (hcf:go P fi cf) (hcy:gO P fi cf) {N id:Nat} {ops:Array Oper} {is:List IOpG} {Q:Exit->Act->World->Prop} (hm:eB P fi N ops is ops.toList=true) (hd:mr ops is=true) (hI:Inv fi M w s a) (hN:N<=a.tmps.size)
  (h:cw cf is s=some s') (hn:∀a' M' w',Inv fi M' w' s' a'->Kp M w M' w'->a'.tmps.size=a.tmps.size->Q .normal a' w'):(Code.region id ops true).wpIn (FR r) n P Q a w:=by
 have hlen:is.length=ops.size:=by rw[(mu hm).1];simp
 obtain⟨hI',hk⟩:=hI.drew;refine wpIn_region_any hP (wH hcf hcy hm hd ops.size _ s s' a M w.drew (by simp) ?_ ?_ hI' hN ?_ (λa' M' w' h1 h2 h3=>hn a' M' w' h1 (hk.trans h2) h3))
 ·intro i o e ho hl
  have hi:=(Array.getElem?_eq_some_iff.1 ho).1;simp[hi] at hl
 ·exact bX (List.length_filter_le _ _) (by simp)
 ·have hr:rest ops (Array.replicate ops.size false)=List.range ops.size:=by
   rw[rest,List.filter_eq_self];intro j hj;simp at hj;simp[hj]
  rw[hr,<-hlen,wI];exact h
end
end
section
open Go.RowKit
section
variable {fi:FI} {M M':Mem} {w w':World} {P:Program} {s s':St} {a:Act} {cf:CallF}
def qD:ag->Exit
 | .normal=> .normal
 | .exit i=> .exit i
 | .ret=> .ret
def CPost (fi:FI) (M:Mem) (w:World) (n:Nat) (e:ag) (s':St):Exit->Act->World->Prop:=
 λex a' w'=>ex=qD e/\∃M',Inv fi M' w' s' a'/\Kp M w M' w'/\a'.tmps.size=n
theorem qE (hI:Inv fi M w s a):∀{ks:List Nat} {vs:List PV},cv s.env (ks.map IX.t)=some vs->(∀c∈vs,ah c=true)->
  vs.length=ks.length/\∀(i k:Nat) (c:PV),ks[i]?=some k->vs[i]?=some c->k<a.tmps.size/\RepP fi M w c (a.tmps.getD k undef)
 |[],vs,h,_=>by simp[cv] at h;subst h;simp
 | k::ks,vs,h,hok=>by
  simp only[bQ,cv,aC,aE] at h;obtain⟨v,hv,vs',hvs,rfl⟩:=h;obtain⟨h1,h2⟩:=qE hI hvs λc hc=>hok c (bG _ hc)
  simp only[ai,aE] at hv;obtain⟨u,hu,rfl⟩:=hv;refine⟨by simp[h1],λi k' c hk hc=>?_⟩;cases i with
  |zero=>
   simp at hk hc;subst hk;subst hc;obtain⟨e1,e2⟩:=hI.env k u hu;exact⟨e1,e2.degr.repP (hok _ bF)⟩
  |succ i=>exact h2 i k' c (by simpa using hk) (by simpa using hc)
theorem Inv.newLoop (hI:Inv fi M w s a) {y N:Nat} {ps:Array Tmp} {as body:Code} {vs:List PV} (fn:FuncId) (hyp:fi.yp y N ps as body=true) (hN:N<=a.tmps.size) (hvs:cv s.env ((fi.yk y).map IX.t)=some vs) (hok:∀c∈vs,ah c=true) {W:World}
  (hW:(w.alloc (.deferred (some []))).alloc (.loop {state:= .ready,pending:=none,fn,tmps:=a.tmps,params:=ps,assign:=as,body,defers:=w.heap.size })=W) :
  ∃M1,Inv fi M1 W ⟨s.env,s.lh,s.gh++[.lrec 1 y vs]⟩ {a with defers:=[{target:= .collected w.heap.size,args:= #[] }]++a.defers }/\Kp M w M1 W/\M1.gb[s.gh.length]?=some (w.heap.size+1):=by
 obtain⟨hr1,hr2⟩:=qE hI hvs hok;generalize hw0:w.alloc (.deferred (some []))=w0 at hW;have hs0:w0.heap.size=w.heap.size+1:=by rw[<-hw0,size_alloc']
 have hb0:∀k,k<w.heap.size->w0.heap[k]?=w.heap[k]?:=λk hk=>by rw[<-hw0];exact Below.heap_alloc w _ k hk
 obtain⟨hI0,k0⟩:=hI.still (w':=w0) (by omega) hb0 (by rw[<-hw0];rfl) (by rw[<-hw0];rfl) (by rw[<-hw0];rfl);have hD0:w0.heap[w.heap.size]?=some (.deferred (some [])):=by rw[<-hw0];exact heap_alloc_new w _
 generalize hrc:(Obj.loop {state:= .ready,pending:=none,fn,tmps:=a.tmps,params:=ps,assign:=as,body,defers:=w.heap.size })=ob at hW;have hno:M.own w0.heap.size=none:=by
  cases ho:M.own w0.heap.size with
  |none=>rfl
  |some l=>exact absurd (hI0.ownlt _ l ho) (by omega)
 have hnD:M.own w.heap.size=none:=by
  cases ho:M.own w.heap.size with
  |none=>rfl
  |some l=>exact absurd (hI.ownlt _ l ho) (by omega)
 have hnl:w0.heap.size∉M.lb++M.gb:=by
  rw[bZ];rintro (hk|hk)
  ·exact absurd (gI hI0 _ hk) (by omega)
  ·exact absurd (hI0.gblt _ hk) (by omega)
 have hnlD:w.heap.size∉M.lb/\w.heap.size∉M.gb:=⟨λhk=>absurd (gI hI _ hk) (by omega),λhk=>absurd (hI.gblt _ hk) (by omega)⟩
 let M1:Mem:={M with gb:=M.gb++[w0.heap.size] }
 obtain⟨g1,k1⟩:=Good.alloc hI0 ob M1 [] [w0.heap.size] (by simp[M1]) rfl (by simp) (by simp) (λ_=>False) (by simp[M1]) (λ_ _=>rfl);rw[hW] at g1 k1;have hWs:W.heap.size=w0.heap.size+1:=by rw[<-hW,size_alloc']
 have hI1:Inv fi M1 W ⟨s.env,s.lh,s.gh++[.lrec 1 y vs]⟩ a:=by
  refine⟨λt u hu=>⟨(hI0.env t u hu).1,(hI0.env t u hu).2.good g1 (by simp)⟩,hI.defers,hI.lbl,by simp[M1,hI.gbl],?_,λi cs blk hi hb=>(hI0.lh i cs blk hi hb).good g1 (by simp) (by simp),?_,g1.ext.gl hI0.gl,?_,?_,?_⟩
  ·show (M.lb++(M.gb++[w0.heap.size])).Nodup
   rw[<-aY];exact jA hI.nodup hnl
  ·intro i o blk hi hb
   have hb':(M.gb++[w0.heap.size])[i]?=some blk:=hb;by_cases hlt:i<s.gh.length
   ·rw[aJ hlt] at hi
    rw[aJ (by rw[hI.gbl];exact hlt)] at hb';exact (hI0.gh i o blk hi hb').good g1 (by simp) (by simp)
   ·have hil:=(aD.1 hi).1
    simp at hil;obtain rfl:i=s.gh.length:=by omega
    simp at hi;subst hi;rw[aR (by rw[hI.gbl];exact cN _),hI.gbl] at hb';simp at hb';subst hb';refine⟨by rw[hWs];omega,hno,_,by rw[<-hW,<-hrc];exact heap_alloc_new w0 _,λ_=>⟨rfl,rfl⟩,λh=>(by cases h),⟨N,hN,hyp⟩,hr1,hok,λi k c hk hc=>?_⟩;obtain⟨e1,e2⟩:=hr2 i k c hk hc;exact⟨e1,(e2.mono k0.ext).mono k1.ext⟩
  ·exact λb k hb=>aS (hI0.immlt b k hb) k1.size
  ·exact λb l hb=>aS (hI0.ownlt b l hb) k1.size
  ·intro b hb
   have hb':b∈M.gb++[w0.heap.size]:=hb;simp only[bZ,List.mem_singleton] at hb';rcases hb' with h2|h2
   ·have:=hI0.gblt b h2;rw[hWs];omega
   ·subst h2;rw[hWs];omega
 have kk:=k0.trans k1;have hx:Ext M1 W {M1 with ds:={target:= .collected w.heap.size,args:= #[] }::M.ds } W:=⟨λ_ _ h=>h,λ_ _ h=>h,λ_ _ _=>rfl,λ_ _=>⟨cN _,λ_=>rfl⟩⟩
 have gx:Good M1 W {M1 with ds:={target:= .collected w.heap.size,args:= #[] }::M.ds } W (λ_=>False) (λ_=>False):=
  ⟨hx,cN _,λ_ _ h=>h,λb l h _=>⟨h,rfl,λ_ h=>h,id,id⟩,λb _ _ h=>⟨rfl,λ_ h=>h,h⟩,λ_ _=>rfl⟩
 refine⟨{M1 with ds:={target:= .collected w.heap.size,args:= #[] }::M.ds },⟨λt u hu=>⟨(hI1.env t u hu).1,(hI1.env t u hu).2.good gx (by simp)⟩,by simp[hI.defers],hI1.lbl,hI1.gbl,hI1.nodup,λi cs blk h1 h2=>(hI1.lh i cs blk h1 h2).good gx (by simp) (by simp),
  λi o blk h1 h2=>(hI1.gh i o blk h1 h2).good gx (by simp) (by simp),hx.gl hI1.gl,hI1.immlt,hI1.ownlt,hI1.gblt⟩,⟨kk.os,kk.tape,kk.output,kk.size,kk.ext.trans hx,kk.block,kk.lbn,kk.gbn,kk.ownn,kk.immn,?_⟩,?_⟩
 ·refine⟨[{target:= .collected w.heap.size,args:= #[] }],rfl,by simp,λd hd=>?_⟩
  simp at hd;subst hd;refine⟨w.heap.size,cN _,rfl,?_,hnlD.1,λhb=>?_,hnD⟩
  ·rw[<-hW];rw[Below.heap_alloc w0 _ _ (by omega)];exact hD0
  ·have hb':w.heap.size∈M.gb++[w0.heap.size]:=hb
   simp only[bZ,List.mem_singleton] at hb';rcases hb' with h2|h2
   ·exact hnlD.2 h2
   ·omega
 ·show (M.gb++[w0.heap.size])[s.gh.length]?=some (w.heap.size+1)
  rw[aR (by rw[hI.gbl];exact cN _),hI.gbl];simp[hs0]
theorem Inv.setLoop (hI:Inv fi M w s a) {b L st st' y:Nat} {caps:List PV} {r r':Loop} (hgh:s.gh[b]?=some (.lrec st y caps)) (hb:M.gb[b]?=some L) (hr:w.heap[L]?=some (.loop r))
  (ht:r'.tmps=r.tmps) (hp:r'.params=r.params) (has:r'.assign=r.assign) (hbd:r'.body=r.body) (h1:st'=1->r'.state= .ready/\r'.pending=none) (h2:st'=2->r'.state= .busy) :
  Inv fi M (w.putObj L (.loop r')) ⟨s.env,s.lh,s.gh.set b (.lrec st' y caps)⟩ a/\Kp M w M (w.putObj L (.loop r')):=by
 obtain⟨q1,q2,r0,q3,q4,q5,q6,q7,q8,q9⟩:=hI.gh b _ L hgh hb;rw[hr] at q3;cases q3;generalize hW:w.putObj L (.loop r')=W;have hoth:∀k,k≠L->W.heap[k]?=w.heap[k]?:=λk h=>by rw[<-hW];exact World.putObj_heap_other h
 have hsz:W.heap.size=w.heap.size:=by rw[<-hW];exact World.putObj_size
 have hself:W.heap[L]?=some (.loop r'):=by rw[<-hW];exact World.putObj_heap_same q1
 have hcell:∀b k,W.cell? ⟨b,k,none⟩=w.cell? ⟨b,k,none⟩:=λb k=>by
  by_cases h:b=L
  ·subst h
   simp[World.cell?,hself,hr]
  ·exact World.cell?_of_block (w:=w) (a:=⟨b,k,none⟩) (hoth b h)
 have hext:Ext M w M W:=⟨λ_ _ h=>h,λ_ _ h=>h,λb k _=>hcell b k,λ_ _=>⟨cN _,λ_=>rfl⟩⟩
 have g:Good M w M W (λ_=>False) (λk=>k=L):=⟨hext,by rw[hsz];exact cN _,λ_ _ h=>h,
  λb' l' hb' _=>⟨hb',hoth b' (λe=>by subst e;rw[q2] at hb';cases hb'),λ_ h=>h,id,id⟩,λb' _ hn h=>⟨hoth b' hn,λ_ h=>h,h⟩,λ_ _=>rfl⟩
 have hnd:∀i j blk',M.lb[i]?=some blk'->M.gb[j]?=some blk'->False:=λi j blk' hi hj=>by have:=hI.nodup;rw[cK] at this;exact this.2.2 blk' (aP hi) blk' (aP hj) rfl
 have hndg:M.gb.Nodup:=(cK.1 hI.nodup).2.1;have hmem:L∈M.gb:=aP hb
 refine⟨⟨λt u hu=>⟨(hI.env t u hu).1,(hI.env t u hu).2.good g (by simp)⟩,hI.defers,hI.lbl,by simp[hI.gbl],hI.nodup,
  λi cs blk' hi hb'=>(hI.lh i cs blk' hi hb').good g (λe=>by subst e;exact hnd _ _ _ hb' hb) (by simp),λi o blk' hi hb'=>?_,hext.gl hI.gl,λb k h=>by rw[hsz];exact hI.immlt b k h,λb l h=>by rw[hsz];exact hI.ownlt b l h,λb h=>by rw[hsz];exact hI.gblt b h⟩,
  ⟨by rw[<-hW];rfl,by rw[<-hW];rfl,by rw[<-hW];rfl,by rw[hsz];exact cN _,hext,λk _ _ hg _=>hoth k (λe=>by subst e;exact hg hmem),λ_ h=> .inl h,λ_ h=> .inl h,λ_ _ h=>h,λ_ _ h=> .inl h,.same rfl⟩⟩
 rw[cF] at hi;by_cases hbi:b=i
 ·subst hbi
  simp only[if_true] at hi;split at hi
  ·cases hi
   have:blk'=L:=by rw[hb] at hb';exact (cQ hb').symm
   subst this;refine⟨by rw[hsz];exact q1,q2,r',hself,h1,h2,by rw[ht,hp,has,hbd];exact q6,q7,q8,λi k c hk hc=>?_⟩;rw[ht];exact⟨(q9 i k c hk hc).1,(q9 i k c hk hc).2.mono hext⟩
  ·cases hi
 ·rw[if_neg hbi] at hi
  exact (hI.gh i o blk' hi hb').good g (λe=>by subst e;exact hbi (jB hndg hb hb')) (by simp)
theorem wK {n:Nat} (hcf:go P fi cf) (hI:Inv fi M w s a) {g:IX} {y N:Nat} {o:Operand} {ps:Array Tmp} {as body:Code} (hg:mX fi g o=true) (hyp:fi.yp y N ps as body=true) (hN:N<=a.tmps.size)
  (h:fc cf s g y (fi.yk y)=some s'):(Code.rangeFunc o ps as body).wpIn (FR none) n P (CPost fi M w a.tmps.size .normal s') a w:=by
 unfold fc at h;split at h
 ·rename_i F0 caps hg0
  simp only[aC] at h;obtain⟨vs,hvs,h⟩:=h;split at h
  ·rename_i hall
   simp only[List.all_append,aX,bS] at hall;split at h
   ·rename_i gh' hc
    split at h
    ·rename_i hgh'
     cases h;obtain⟨F,us,hf,hv,hul,hcok,hur⟩:=(bc hI hg hg0).fnInv;refine wpIn_rangeFunc ?_;intro fn hfn;obtain⟨W,hW⟩:∃W,(w.alloc (.deferred (some []))).alloc (.loop {state:= .ready,pending:=none,fn,tmps:=a.tmps,params:=ps,assign:=as,body,defers:=w.heap.size })=W:=⟨_,rfl⟩
     obtain⟨M1,hI1,k1,hL⟩:=hI.newLoop fn hyp hN hvs hall.1 hW;obtain⟨⟨fnc,cd,hfnc,hnm,hbd⟩,hok⟩:=hcf F0 (.yl s.gh.length::caps) _ _ _ F hc (λp hp=>by
      rcases List.mem_cons.1 hp with rfl|hp
      ·rfl
      ·exact hall.2 p hp) hf
     obtain⟨c1,c2,c3⟩:=hI1.callee true
     refine⟨w.heap.size+1,[{target:= .collected w.heap.size,args:= #[] }],W,{target:= .fn (.func F) us.toArray,args:= #[.func (.yield (w.heap.size+1)) #[] #[]] },W,F,
      (Value.func (.yield (w.heap.size+1)) #[] #[]::us).toArray,W,?_,?_,λ_ _=>trivial,?_,λh=>(by cases h),?_⟩
     ·rw[<-hW];exact run_enterLoop_outer _ _ _ _ _
     ·simp only[resolve,hv]
      simp[Deferred.ofValue,Act.eval]
     ·simp[invoke,ky hfnc hnm hbd]
     ·refine callsIn_wide.2 (Calls.mono (hok (M1.callee true) W (Value.func (.yield (w.heap.size+1)) #[] #[]::us) c1 c2 c3 (by simp[hul]) ?_) ?_)
      ·intro i p v hp hv
       refine ma ?_ (λe=>by cases e);cases i with
       |zero=>
        simp at hp hv;subst hp;subst hv;exact .yl _ _ hL
       |succ i=>exact (hur i p v (by simpa using hp) (by simpa using hv)).mono k1.ext
      ·rintro e w2 ⟨v,M2,rfl,hG,hlb,_,hrep,hk⟩
       obtain⟨b1,b2,b3⟩:=hI1.back true (λ_=> .lim 0) (λi=>rfl) hG hlb hk hrep (λe=>by cases e) rfl;have hL2:(M1.back M2 true λ_=>Loc.lim 0).gb[s.gh.length]?=some (w.heap.size+1):=b2.ext.gb _ _ hL;obtain⟨q1,q2,r,q3,q4,q5⟩:=b1.gh _ _ _ hgh' hL2;obtain⟨hst,hpd⟩:=q4 rfl;obtain⟨d1,d2⟩:=b1.setLoop (st':=0) (r':={r with state:= .exhausted }) hgh' hL2 q3 rfl rfl rfl rfl (λe=>by cases e) (λe=>by cases e);refine⟨none,_,by rw[<-hpd];exact run_endLoop q3 (by rw[hst];simp),rfl,_,d1,(k1.trans b2).trans d2,rfl⟩
    ·cases h
   ·cases h
  ·cases h
 ·cases h
end
end
section
open Go.RowKit
section
variable {fi:FI} {M M':Mem} {w w':World} {P:Program} {s s' s1 s2 t1 t2:St} {a:Act} {cf:CallF} {pg:Prg}
def cg (P:Program) (fi:FI) (N:Nat):ICode->Code->Bool
 | .post ic _ _,c=>cg P fi N ic c
 | .lift ic _ _,c=>cg P fi N ic c
 | .cut ic,c=>cg P fi N ic c
 | .bad,_=>true
 | .skip,.skip=>true
 | .region is d,.region _ ops d'=>d==d'&&eB P fi N ops is ops.toList&&(!d||mr ops is)
 | .seq a b,.seq x y=>cg P fi N a x&&cg P fi N b y
 | .cond x a b,.cond o c d=>mX fi x o&&cg P fi N a c&&cg P fi N b d
 | .block i a,.block j c=>i==j&&cg P fi N a c
 | .loop a,.loop c=>cg P fi N a c
 | .exit i,.exit j=>i==j
 | .ret,.ret=>true
 | .rangeF g y ks,.rangeFunc o ps as body=>mX fi g o&&ks==fi.yk y&&ks.all (λk=>decide (k<N))&&fi.yp y N ps as body
 |_,_=>false
def dx:ICode->Bool
 | .post a _ _| .lift a _ _| .cut a| .block _ a| .loop a=>dx a
 | .seq a b| .cond _ a b=>dx a&&dx b
 | .rangeF _ _ _=>false
 |_=>true
theorem kG {nl:Nat} {e:List (Nat×PV)}:∀{ks:List Nat} {t:Nat} {v:PV},get (keep nl ks e) t=some v->get e t=some v/\bo nl v=true
 |[],t,v,h=>by simp[keep,get] at h
 | k::ks,t,v,h=>by
  simp only[keep] at h;cases hk:get e k with
  |none=>rw[hk] at h;exact kG h
  | some u=>
   rw[hk] at h;simp only at h;split at h
   ·rename_i hs
    simp only[get] at h;split at h
    ·rename_i hkt;subst hkt;cases h;exact⟨hk,hs⟩
    ·exact kG h
   ·exact kG h
theorem Inv.keep (hI:Inv fi M w s a) (ks:List Nat) (nl:Nat) :
  Inv fi {M with lb:=M.lb.take nl } w ⟨Lw.keep nl ks s.env,s.lh.take nl,s.gh⟩ a/\Kp M w {M with lb:=M.lb.take nl } w:=by
 have hx:Ext M w {M with lb:=M.lb.take nl } w:=⟨λ_ _ h=>h,λ_ _ h=>h,λ_ _ _=>rfl,λ_ _=>⟨cN _,λ_=>rfl⟩⟩
 have hsub:∀b,b∈M.lb.take nl->b∈M.lb:=λb h=>cH h
 have ow:∀{l:Loc} {z:Nat} {xs:List PV} {v:Value},OwnRep fi M w l z xs v->OwnRep fi {M with lb:=M.lb.take nl } w l z xs v:=by
  intro l z xs v h;obtain⟨h1,h2⟩:=h;refine⟨h1.mono hx,?_⟩;rcases h2 with h2|⟨b,o,c,cs,e,hv,ho,hh,hs,hk,hb1,hb2⟩
  ·exact .inl h2
  ·exact .inr ⟨b,o,c,cs,e,hv,ho,hh,hs,hk,λh=>hb1 (hsub b h),hb2⟩
 have rc:∀{l:Loc} {p:PV} {v:Value},RepC fi M w l p v->RepC fi {M with lb:=M.lb.take nl } w l p v:=by
  intro l p v h;unfold RepC at *;split at h
  ·exact ow h
  ·exact h.mono hx
 have rb:∀{mk:Nat->Loc} {blk:Nat} {cs:List PV},RepBox fi M w mk blk cs->RepBox fi {M with lb:=M.lb.take nl } w mk blk cs:=by intro mk blk cs h;obtain⟨h1,h2,h3,h4,vs,T,h5,h6,h7⟩:=h;exact⟨h1,h2,h3,h4,vs,T,h5,h6,λi c u hc hu=>rc (h7 i c u hc hu)⟩
 refine⟨⟨λt v hv=>?_,hI.defers,by simp[hI.lbl],hI.gbl,?_,λi cs blk h1 h2=>?_,λi o blk h1 h2=>?_,hI.gl,hI.immlt,hI.ownlt,hI.gblt⟩,
  ⟨rfl,rfl,rfl,cN _,hx,λ_ _ _ _ _=>rfl,λk h=> .inl (hsub k h),λ_ h=> .inl h,λ_ _ h=>h,λ_ _ h=> .inl h,.same rfl⟩⟩
 ·obtain⟨h1,h2⟩:=kG hv
  obtain⟨h3,h4⟩:=hI.env t v h1;refine⟨h3,?_⟩;unfold RepAt at *;split at h4
  ·exact ow h4
  ·obtain⟨h0,b,T,c,hv,hc,ho,hh,hk,hb1,hb2⟩:=h4
   exact⟨h0,b,T,c,hv,hc,ho,hh,hk,λh=>hb1 (hsub b h),hb2⟩
  ·obtain⟨vs,e1,e2,e3⟩:=h4
   exact⟨vs,e1,e2,λi c u hc hu=>rc (e3 i c u hc hu)⟩
  ·obtain⟨vs,e1,e2,e3⟩:=h4
   exact⟨vs,e1,e2,λi c u hc hu=>rc (e3 i c u hc hu)⟩
  ·unfold RepE at *
   split at h4
   ·obtain⟨blk,e1,e2⟩:=h4
    simp only[bo,aH] at h2;exact⟨blk,by simp only[cE,h2,if_true];exact e1,e2⟩
   ·obtain⟨blk,A,c,e1,e2⟩:=h4
    simp only[bo,aH] at h2;exact⟨blk,A,c,by simp only[cE,h2,if_true];exact e1,e2⟩
   ·exact h4.mono hx
 ·have:=hI.nodup
  rw[cK] at this ⊢;exact⟨this.1.sublist (List.take_sublist _ _),this.2.1,λx hx y hy=>this.2.2 x (hsub x hx) y hy⟩
 ·simp only[cE] at h1 h2
  split at h1
  ·rename_i hlt
   rw[if_pos hlt] at h2;exact rb (hI.lh i cs blk h1 h2)
  ·cases h1
 ·have:=hI.gh i o blk h1 h2
  cases o with
  |cells cs=>exact rb this
  |map es=>
   obtain⟨h1,h2,l,clock,h3,h4,h5⟩:=this;exact⟨h1,h2,l,clock,h3,h4,λi e m he hm=>⟨(h5 i e m he hm).1.mono hx,(h5 i e m he hm).2.1.mono hx,(h5 i e m he hm).2.2⟩⟩
  | stk gen xs=>
   obtain⟨h1,h2,h3,h4,h5,cs,T,h6,h7,h8,h9⟩:=this;exact⟨h1,h2,h3,h4,h5,cs,T,h6,h7,h8,λj x hj=>by obtain⟨u,hu,hr⟩:=h9 j x hj;exact⟨u,hu,hr.mono hx⟩⟩
  |bld t=>
   obtain⟨h1,h2,h3,T,hT,h4⟩:=this;refine⟨h1,h2,h3,T,hT,?_⟩;rcases h4 with h4|⟨c,cap,cur,h5,h6,h7,h8⟩
   ·exact .inl h4
   ·exact .inr ⟨c,cap,cur,h5,h6,λh=>h7 (cH h),h8⟩
  |lrec st y caps=>exact RepLoop.to this hx rfl this.2.1 (cN _)
def fB (b n:Nat):Loc->Loc
 | .lh b' i=>if b'=b then .gh n i else .lh b' i
 |l=>l
theorem Inv.lift (hI:Inv fi M w s a) {ks:List Nat} {n:Nat} (h:jv ks n s=some s'):∃M',Inv fi M' w s' a/\Kp M w M' w:=by
 unfold jv at h;split at h
 ·rename_i b hb
  split at h
  ·rename_i cs hcs
   split at h
   ·rename_i hlen
    cases h;obtain⟨hn1,L,hL,hvp⟩:=hI.env n _ hb;obtain⟨q1,q2,q3,q4,vs,T,q5,q6,q7⟩:=hI.lh b cs L hcs hL;obtain⟨hIa,ka⟩:=hI.keep ks b;have hnd:=hI.nodup;rw[cK] at hnd;have hLg:L∉M.gb:=λhg=>hnd.2.2 L (aP hL) L hg rfl
    have hLt:L∉M.lb.take b:=λhm=>by
     obtain⟨i,hi⟩:=List.mem_iff_getElem?.1 hm;rw[cE] at hi;split at hi
     ·rename_i hib
      have:=jB hnd.1 hi hL;omega
     ·cases hi
    let Ma:Mem:={M with lb:=M.lb.take b }
    let M':Mem:={Ma.rel (fB b s.gh.length) with gb:=M.gb++[L] }
    have hx1:Ext (Ma.rel (fB b s.gh.length)) w M' w:=⟨λi k h=>by
      show (M.gb++[L])[i]?=some k
      have h':M.gb[i]?=some k:=h;rw[aJ (aD.1 h').1];exact h',λ_ _ h=>h,λ_ _ _=>rfl,λ_ _=>⟨cN _,λ_=>rfl⟩⟩
    have g:Good (Ma.rel (fB b s.gh.length)) w M' w (λ_=>False) (λ_=>False):=
     ⟨hx1,cN _,λ_ _ h=>h,λb' l' h' _=>⟨h',rfl,λ_ h=>h,id,λhg hg'=>by
      rcases bZ.1 (show b'∈M.gb++[L] from hg') with h2|h2
      ·exact hg h2
      ·simp at h2
       subst h2;have:(M.own b').map (fB b s.gh.length)=some l':=h';rw[q3] at this;cases this⟩,λb' _ _ h=>⟨rfl,λ_ h=>h,h⟩,λ_ _=>rfl⟩
    have hfg:∀i j,fB b s.gh.length (Loc.gh i j)=Loc.gh i j:=λ_ _=>rfl
    refine⟨M',⟨λt v hv=>?_,hI.defers,hIa.lbl,by simp[M',hI.gbl],?_,λi cs' blk h1 h2=>?_,λi o blk h1 h2=>?_,hI.gl,hI.immlt,λb' l' h'=>?_,λb' h'=>?_⟩,
     ⟨rfl,rfl,rfl,cN _,(ka.ext.trans (Ext.rel Ma w _)).trans hx1,λ_ _ _ _ _=>rfl,λk h=> .inl (cH h),λk h=>?_,λk _ h=>by simp[M',Ma,Mem.rel,h],λ_ _ h=> .inl h,.same rfl⟩⟩
    ·rw[ec] at hv
     split at hv
     ·rename_i htn
      subst htn;cases hv;refine⟨hn1,?_⟩;rw[hvp];refine (RepP.ptr _ _ _ ?_).repE.repAt
      show (M.gb++[L])[s.gh.length]?=some L
      rw[aR (by rw[hI.gbl];exact cN _),hI.gbl];simp
     ·obtain⟨e1,e2⟩:=hIa.env t v hv
      exact⟨e1,(e2.rel (fB b s.gh.length) (mk':=Loc.env t) (λi=>rfl)).good g (by simp)⟩
    ·show (M.lb.take b++(M.gb++[L])).Nodup
     rw[<-aY];refine jA hIa.nodup (λhm=>?_);rcases bZ.1 hm with h2|h2
     ·exact hLt h2
     ·exact hLg h2
    ·have hi:i<b:=by
      have:=(aD.1 h1).1;simp only[cI] at this;omega
     exact ((hIa.lh i cs' blk h1 h2).rel (fB b s.gh.length) (λj=>by simp only[fB];rw[if_neg (by omega)])).good g (by simp) (by simp)
    ·have h2':(M.gb++[L])[i]?=some blk:=h2
     by_cases hi:i<s.gh.length
     ·rw[aJ hi] at h1
      rw[aJ (by rw[hI.gbl];exact hi)] at h2';exact ((hIa.gh i o blk h1 h2').rel (fB b s.gh.length) (hfg i)).good g (by simp) (by simp)
     ·have hil:=(aD.1 h1).1
      simp at hil;obtain rfl:i=s.gh.length:=by omega
      simp at h1;subst h1;rw[aR (by rw[hI.gbl];exact cN _),hI.gbl] at h2';simp at h2';subst h2';refine⟨q1,q2,by simp[M',Ma,Mem.rel,q3],q4,vs,T,q5,q6,λi' c u hc hu=>?_⟩;have h3:=q7 i' c u hc hu;have h4:RepC fi Ma w (Loc.lh b i') c u:=by
       unfold RepC at h3 ⊢;split at h3
       ·obtain⟨r1,r2⟩:=h3
        refine⟨r1.mono ka.ext,?_⟩;rcases r2 with r2|⟨b',o',c',cs',e',z1,z2,z3,z4,z5,z6,z7⟩
        ·exact .inl r2
        ·exact .inr ⟨b',o',c',cs',e',z1,z2,z3,z4,z5,λh=>z6 (cH h),z7⟩
       ·exact h3.mono ka.ext
      exact (h4.rel (fB b s.gh.length) (l':=Loc.gh s.gh.length i') (by simp[fB])).good g (by simp)
    ·simp only[M',Ma,Mem.rel,aE] at h'
     obtain⟨l0,h1,_⟩:=h';exact hI.ownlt b' l0 h1
    ·rcases bZ.1 (show b'∈M.gb++[L] from h') with h2|h2
     ·exact hI.gblt b' h2
     ·simp at h2;subst h2;exact q1
    ·rcases bZ.1 (show k∈M.gb++[L] from h) with h2|h2
     ·exact .inl h2
     ·simp at h2;subst h2;exact .inr (.inr (.inr (aP hL)))
   ·cases h
  ·cases h
 ·cases h
def i7 (P:Program) (fi:FI) (pg:Prg) (n:Nat):Prop:=
 ∀(r:Option Nat) (n0 N:Nat) (ic:ICode) (c:Code) (s:St) (e:ag) (s':St) (a:Act) (M:Mem) (w:World),(r=none\/dx ic=true)->cg P fi N ic c=true->ak pg n ic s=some (e,s')->Inv fi M w s a->N<=a.tmps.size->
  c.wpIn (FR r) n0 P (CPost fi M w a.tmps.size e s') a w
theorem qF {T:Nat->Prop} (h:∃m,T m):∃m,T m/\∀k,T k->m<=k:=by
 obtain⟨m,hm⟩:=h
 induction m using Nat.strongRecOn with
 | _ m ih=>
  by_cases hx:∃k,k<m/\T k
  ·obtain⟨k,hk,ht⟩:=hx
   exact ih k hk ht
  ·refine⟨m,hm,λk hk=>?_⟩
   by_cases hlt:k<m
   ·exact absurd ⟨k,hlt,hk⟩ hx
   ·omega
theorem CPost.mono {n:Nat} {e:ag} {ex:Exit} {a':Act} {w2:World} {M1:Mem} {w1:World} (hk:Kp M w M1 w1) (h:CPost fi M1 w1 n e s' ex a' w2):CPost fi M w n e s' ex a' w2:=by obtain⟨h1,M',h2,h3,h4⟩:=h;exact⟨h1,M',h2,hk.trans h3,h4⟩
theorem wM (hP:P.follows .mixedOrders=true) {n:Nat} (ih:i7 P fi pg n) (hcf:go P fi (cV (ak pg n) pg)) (hcy:gO P fi (cV (ak pg n) pg)):i7 P fi pg (n+1):=by
 intro r n0 N ic
 induction ic with
 |bad=>
  intro c s e s' a M w hq hm h hI hN;simp[ak] at h
 |cut ic ihc=>
  intro c s e s' a M w hq hm h hI hN;exact ih r n0 N ic c s e s' a M w (by simpa [dx] using hq) hm h hI hN
 | lift ic ks t ihc=>
  intro c s e s' a M w hq hm h hI hN;simp only[cg] at hm;rw[ak] at h;cases ha:ak pg n ic s with
  |none=>simp[ha] at h
  | some x=>
   obtain⟨e1,s1⟩:=x;rw[ha] at h;have hw:=ih r n0 N ic c s e1 s1 a M w (by simpa [dx] using hq) hm ha hI hN;refine wpIn_mono hw ?_;rintro ex a' w' ⟨h1,M',h2,h3,h4⟩;cases e1 with
   |normal=>
    simp only[aE,bW] at h;obtain⟨s2,hs2,rfl,rfl⟩:=h;obtain⟨M2,k1,k2⟩:=h2.lift hs2;exact⟨h1,M2,k1,h3.trans k2,h4⟩
   |exit i=>
    simp only[bU,bW] at h;obtain⟨rfl,rfl⟩:=h;exact⟨h1,M',h2,h3,h4⟩
   |ret=>
    simp only[bU,bW] at h;obtain⟨rfl,rfl⟩:=h;exact⟨h1,M',h2,h3,h4⟩
 | post ic ks nl ihc=>
  intro c s e s' a M w hq hm h hI hN;simp only[cg] at hm;rw[ak] at h;cases ha:ak pg n ic s with
  |none=>simp[ha] at h
  | some x=>
   obtain⟨e1,s1⟩:=x;rw[ha] at h;have hw:=ih r n0 N ic c s e1 s1 a M w (by simpa [dx] using hq) hm ha hI hN;refine wpIn_mono hw ?_;rintro ex a' w' ⟨h1,M',h2,h3,h4⟩;cases e1 with
   |normal=>
    simp only[bU,bW] at h;obtain⟨rfl,rfl⟩:=h;obtain⟨k1,k2⟩:=h2.keep ks nl;exact⟨h1,_,k1,h3.trans k2,h4⟩
   |exit i=>
    simp only[bU,bW] at h;obtain⟨rfl,rfl⟩:=h;exact⟨h1,M',h2,h3,h4⟩
   |ret=>
    simp only[bU,bW] at h;obtain⟨rfl,rfl⟩:=h;exact⟨h1,M',h2,h3,h4⟩
 |skip=>
  intro c s e s' a M w hq hm h hI hN;cases c<;>simp[cg] at hm;simp[ak] at h;obtain⟨rfl,rfl⟩:=h;exact wpIn_skip ⟨rfl,M,hI,Kp.refl M w,rfl⟩
 |ret=>
  intro c s e s' a M w hq hm h hI hN;cases c<;>simp[cg] at hm;simp[ak] at h;obtain⟨rfl,rfl⟩:=h;exact wpIn_ret ⟨rfl,M,hI,Kp.refl M w,rfl⟩
 |exit i=>
  intro c s e s' a M w hq hm h hI hN;cases c<;>simp[cg] at hm;subst hm;simp[ak] at h;obtain⟨rfl,rfl⟩:=h;exact wpIn_exit ⟨rfl,M,hI,Kp.refl M w,rfl⟩
 |region is d=>
  intro c s e s' a M w hq hm h hI hN;cases c<;>simp[cg] at hm;rename_i id ops d';obtain⟨⟨rfl,hops⟩,hd⟩:=hm;simp only[ak,aE,bW] at h;obtain⟨s1,h1,rfl,rfl⟩:=h;cases d with
  |false=>exact wpIn_region_list (pD hcf hcy hops hI hN h1 (λa' M' w' hI' hk hs=>⟨rfl,M',hI',hk,hs⟩))
  |true=>exact wJ hP hcf hcy hops (by simpa using hd) hI hN h1 (λa' M' w' hI' hk hs=>⟨rfl,M',hI',hk,hs⟩)
 | seq x y _ _=>
  intro c s e s' a M w hq hm h hI hN;cases c<;>simp[cg] at hm;rename_i c d;rw[ak] at h;refine wpIn_seq ?_;cases ha:ak pg n x s with
  |none=>simp[ha] at h
  | some r=>
   obtain⟨e1,s1⟩:=r;rw[ha] at h;refine wpIn_mono (ih r n0 N x c s e1 s1 a M w (hq.imp id λh=>by simp[dx] at h;exact h.1) hm.1 ha hI hN) ?_;rintro ex a' w' ⟨h1,M',h2,h3,h4⟩;subst h1;cases e1 with
   |normal=>
    simp only at h;exact wpIn_mono (ih r n0 N y d s1 e s' a' M' w' (hq.imp id λh=>by simp[dx] at h;exact h.2) hm.2 h h2 (by omega)) (λex a2 w2 hq=>by rw[h4] at hq;exact hq.mono h3)
   |exit i=>
    simp only[bU,bW] at h;obtain⟨rfl,rfl⟩:=h;exact⟨rfl,M',h2,h3,h4⟩
   |ret=>
    simp only[bU,bW] at h;obtain⟨rfl,rfl⟩:=h;exact⟨rfl,M',h2,h3,h4⟩
 | cond x u v _ _=>
  intro c s e s' a M w hq hm h hI hN;cases c<;>simp[cg] at hm;rename_i o c d;rw[ak] at h;split at h
  ·rename_i hx
   exact wpIn_cond_true (bc hI hm.1.1 hx).bool (ih r n0 N u c s e s' a M w (hq.imp id λh=>by simp[dx] at h;exact h.1) hm.1.2 h hI hN)
  ·rename_i hx
   exact wpIn_cond_false (bc hI hm.1.1 hx).bool (ih r n0 N v d s e s' a M w (hq.imp id λh=>by simp[dx] at h;exact h.2) hm.2 h hI hN)
  ·cases h
 | block i x _=>
  intro c s e s' a M w hq hm h hI hN;cases c<;>simp[cg] at hm;rename_i j c;obtain⟨rfl,hm⟩:=hm;rw[ak] at h;refine wpIn_block ?_;cases ha:ak pg n x s with
  |none=>simp[ha] at h
  | some r=>
   obtain⟨e1,s1⟩:=r;rw[ha] at h;refine wpIn_mono (ih r n0 N x c s e1 s1 a M w (by simpa [dx] using hq) hm ha hI hN) ?_;rintro ex a' w' ⟨h1,M',h2,h3,h4⟩;subst h1;cases e1 with
   |normal=>
    simp only[bU,bW] at h;obtain⟨rfl,rfl⟩:=h;exact⟨rfl,M',h2,h3,h4⟩
   | exit k=>
    simp only at h;simp only[qD,Exit.inBlock];split at h
    ·rename_i hki
     simp only[bU,bW] at h;obtain⟨rfl,rfl⟩:=h;rw[if_pos hki];exact⟨rfl,M',h2,h3,h4⟩
    ·rename_i hki
     simp only[bU,bW] at h;obtain⟨rfl,rfl⟩:=h;rw[if_neg hki];exact⟨rfl,M',h2,h3,h4⟩
   |ret=>
    simp only[bU,bW] at h;obtain⟨rfl,rfl⟩:=h;exact⟨rfl,M',h2,h3,h4⟩
 | loop x _=>
  intro c s e s' a M w hq hm h hI hN;cases c<;>simp[cg] at hm;rename_i c
  let T:Act->World->Nat->Prop:=λa1 w1 m=>m<=n+1/\∃s1 M1,Inv fi M1 w1 s1 a1/\ak pg m (.loop x) s1=some (e,s')/\Kp M w M1 w1/\a1.tmps.size=a.tmps.size
  refine wpIn_loop (λa1 w1=>∃m,T a1 w1 m) (λa1 w1=>Classical.epsilon λm=>T a1 w1 m/\∀k,T a1 w1 k->m<=k) ⟨n+1,cN _,s,M,hI,h,Kp.refl M w,rfl⟩ ?_;intro a1 w1 hT;obtain⟨⟨hle,s1,M1,hI1,hr,hk1,hs1⟩,_⟩:=Classical.epsilon_spec (p:=λm=>T a1 w1 m/\∀k,T a1 w1 k->m<=k) (qF hT);generalize (Classical.epsilon λm=>T a1 w1 m/\∀k,T a1 w1 k->m<=k)=m at hle hr ⊢;cases m with
  |zero=>simp[ak] at hr
  | succ m=>
   rw[ak] at hr;cases ha:ak pg m x s1 with
   |none=>simp[ha] at hr
   | some r=>
    obtain⟨e1,s2⟩:=r;rw[ha] at hr;refine wpIn_mono (ih r n0 N x c s1 e1 s2 a1 M1 w1 (by simpa [dx] using hq) hm (fw pg (by omega) ha) hI1 (by omega)) ?_;rintro ex a' w' ⟨h1,M',h2,h3,h4⟩;subst h1;cases e1 with
    |normal=>
     simp only at hr;have hT2:T a' w' m:=⟨by omega,s2,M',h2,hr,hk1.trans h3,h4.trans hs1⟩
     refine⟨⟨m,hT2⟩,?_⟩;have:=(Classical.epsilon_spec (p:=λm=>T a' w' m/\∀k,T a' w' k->m<=k) (qF ⟨m,hT2⟩)).2 m hT2;exact Nat.lt_succ_of_le this
    |exit i=>
     simp only[bU,bW] at hr;obtain⟨rfl,rfl⟩:=hr;exact⟨rfl,M',h2,hk1.trans h3,h4.trans hs1⟩
    |ret=>
     simp only[bU,bW] at hr;obtain⟨rfl,rfl⟩:=hr;exact⟨rfl,M',h2,hk1.trans h3,h4.trans hs1⟩
 |rangeF g y ks=>
  intro c s e s' a M w hq hm h hI hN;have hr:r=none:=hq.resolve_right (by simp[dx]);subst hr;cases c<;>simp[cg] at hm;rename_i o ps as body;obtain⟨⟨⟨hg,rfl⟩,hks⟩,hyp⟩:=hm;simp only[ak,aE,bW] at h;obtain⟨s1,h1,rfl,rfl⟩:=h;exact wK hcf hI hg hyp hN h1
end
end
section
open Go.RowKit
mutual
def PV.bnd (n:Nat):PV->Bool
 | .agg cs=>eC n cs
 | .tup cs=>eC n cs
 | .sl _ _ xs=>eC n xs
 | .ep e _=>e.bnd n
 | .fn _ cs=>eC n cs
 | .bfn _ cs=>eC n cs
 | .sub b _ _ _=>decide (b<n)
 | .bs true b _ _ _=>decide (b<n)
 | .stk b _ _=>decide (b<n)
 | .pstk b _ _=>decide (b<n)
 | .ptr true b _=>decide (b<n)
 | .mp b=>decide (b<n)
 | .yl b=>decide (b<n)
 |_=>true
def eC (n:Nat):List PV->Bool
 |[]=>true
 |c::l=>c.bnd n&&eC n l
end
section
variable {fi:FI} {M M':Mem} {w w':World} {P:Program} {s s':St} {a:Act} {cf:CallF} {pg:Prg}
theorem fS {n:Nat} {l:List PV} (h:eC n l=true) {i:Nat} {c:PV} (hc:l[i]?=some c):c.bnd n=true:=by
 induction l generalizing i with
 |nil=>simp at hc
 |cons x l ih=>
  simp only[eC,aX] at h;cases i with
  |zero=>simp at hc;exact hc▸h.1
  |succ i=>exact ih h.2 (by simpa using hc)
theorem gP {n:Nat} {l:List PV} (h:∀(i:Nat) (c:PV),l[i]?=some c->c.bnd n=true):eC n l=true:=by
 induction l with
 |nil=>rfl
 |cons x l ih=>
  simp only[eC,aX];exact⟨h 0 x rfl,ih λi c hc=>h (i+1) c (by simpa using hc)⟩
theorem qG {n:Nat} {e:PV} (h:e.bnd n=true) {j:Nat} {p:PV} (hp:e.cells[j]?=some p):p.bnd n=true:=by
 cases e with
 |agg cs=>exact fS (l:=cs) (by simpa [PV.bnd] using h) hp
 |_=>
  simp only[PV.cells] at hp;cases j with
  |zero=>simp at hp;exact hp▸h
  |succ j=>simp at hp
theorem qH {n:Nat} {e:PV} (h:∀(j:Nat) (p:PV),e.cells[j]?=some p->p.bnd n=true):e.bnd n=true:=by
 cases e with
 |agg cs=>simp only[PV.bnd];exact gP h
 |_=>exact h 0 _ rfl
theorem RepP.bnd {p:PV} {v:Value} (h:RepP fi M w p v):p.bnd M.gb.length=true:=by
 induction h with
 |agg cs vs hl _ ih=>
  simp only[PV.bnd];exact gP λi c hc=>ih i c _ hc (aA (by rw[hl];exact (aD.1 hc).1))
 |tup cs vs hl _ ih=>
  simp only[PV.bnd];exact gP λi c hc=>ih i c _ hc (aA (by rw[hl];exact (aD.1 hc).1))
 |sl z xs A c b o vf hA hc hz h1 hm _ ih=>
  simp only[PV.bnd];exact gP λi e he=>qH λj p hp=>ih i e j p he hp
 |bs b off n z A c blk hb hA hc=>simpa [PV.bnd] using (aD.1 hb).1
 |ptr b off blk hb=>simpa [PV.bnd] using (aD.1 hb).1
 |ep e off b o vf h1 hm _ ih=>simp only[PV.bnd];exact qH ih
 |mp b blk hb=>simpa [PV.bnd] using (aD.1 hb).1
 |yl b blk hb=>simpa [PV.bnd] using (aD.1 hb).1
 |stk b gen n blk c hb hg hA hc=>simpa [PV.bnd] using hb
 |pstk b gen i blk hb hg hA=>simpa [PV.bnd] using hb
 |sub b gen off n blk c A hb hg hA hc hAd=>simpa [PV.bnd] using hb
 |bfn f F cs vs hf hl h1 _ ih=>
  simp only[PV.bnd];exact gP λi c hc=>ih i c _ hc (aA (by rw[hl];exact (aD.1 hc).1))
 |fn f F cs vs hf hl h1 _ ih=>
  simp only[PV.bnd];exact gP λi c hc=>ih i c _ hc (aA (by rw[hl];exact (aD.1 hc).1))
 |_=>rfl
def Mem.cut (M:Mem) (n:Nat):Mem:={M with gb:=M.gb.take n }
theorem RepP.cut {n:Nat} {p:PV} {v:Value} (h:RepP fi M w p v) (hg:p.bnd n=true):RepP fi (M.cut n) w p v:=by
 have tk:∀{b blk:Nat},M.gb[b]?=some blk->b<n->(M.cut n).gb[b]?=some blk:=λh hb=>by simp only[Mem.cut,cE,hb,if_true];exact h
 induction h with
 |und=>exact .und
 |int k n=>exact .int k n
 |bool b=>exact .bool b
 |str s=>exact .str s
 |agg cs vs hl _ ih=>exact .agg cs vs hl λi c v hc hv=>ih i c v hc hv (fS (by simpa [PV.bnd] using hg) hc)
 |tup cs vs hl _ ih=>exact .tup cs vs hl λi c v hc hv=>ih i c v hc hv (fS (by simpa [PV.bnd] using hg) hc)
 |sl z xs A c b o vf hA hc hz h1 hm _ ih=>
  exact .sl z xs A c b o vf hA hc hz h1 hm λi e j p he hp=>ih i e j p he hp (qG (fS (by simpa [PV.bnd] using hg) he) hp)
 |bs b off n z A c blk hb hA hc=>exact .bs b off n z A c blk (tk hb (by simpa [PV.bnd] using hg)) hA hc
 |ptr b off blk hb=>exact .ptr b off blk (tk hb (by simpa [PV.bnd] using hg))
 |nilp=>exact .nilp
 |ep e off b o vf h1 hm _ ih=>exact .ep e off b o vf h1 hm λj p hp=>ih j p hp (qG (by simpa [PV.bnd] using hg) hp)
 |mp b blk hb=>exact .mp b blk (tk hb (by simpa [PV.bnd] using hg))
 |yl b blk hb=>exact .yl b blk (tk hb (by simpa [PV.bnd] using hg))
 |nilm=>exact .nilm
 |nilf=>exact .nilf
 |nils=>exact .nils
 |stk b gen n' blk c hb hg' hA hc=>
  have hbn:b<n:=by simpa [PV.bnd] using hg
  exact .stk b gen n' blk c (by simp only[Mem.cut,cI];omega) hg' hA hc
 |pstk b gen i blk hb hg' hA=>
  have hbn:b<n:=by simpa [PV.bnd] using hg
  exact .pstk b gen i blk (by simp only[Mem.cut,cI];omega) hg' hA
 |sub b gen off n' blk c A hb hg' hA hc hAd=>
  have hbn:b<n:=by simpa [PV.bnd] using hg
  exact .sub b gen off n' blk c A (by simp only[Mem.cut,cI];omega) hg' hA hc hAd
 |bfn f F cs vs hf hl h1 _ ih=>exact .bfn f F cs vs hf hl h1 λi c v hc hv=>ih i c v hc hv (fS (by simpa [PV.bnd] using hg) hc)
 |fn f F cs vs hf hl h1 _ ih=>exact .fn f F cs vs hf hl h1 λi c v hc hv=>ih i c v hc hv (fS (by simpa [PV.bnd] using hg) hc)
 |nilI=>exact .nilI
 |someI t v=>exact .someI t v
 |junk v=>exact .junk v
theorem OwnRep.cut {n:Nat} {l:Loc} {z:Nat} {xs:List PV} {v:Value} (h:OwnRep fi M w l z xs v) (hg:eC n xs=true):OwnRep fi (M.cut n) w l z xs v:=by
 obtain⟨h1,h2⟩:=h;refine⟨h1.cut (by simpa [PV.bnd] using hg),?_⟩;rcases h2 with h2|⟨b,o,c,cs,e,hv,ho,hh,hs,hk,hb1,hb2⟩
 ·exact .inl h2
 ·exact .inr ⟨b,o,c,cs,e,hv,ho,hh,hs,hk,hb1,λh=>hb2 (cH h)⟩
theorem RepC.cut {n:Nat} {l:Loc} {p:PV} {v:Value} (h:RepC fi M w l p v) (hg:p.bnd n=true):RepC fi (M.cut n) w l p v:=by
 unfold RepC at *;split at h
 ·exact OwnRep.cut h (by simpa [PV.bnd] using hg)
 ·exact h.cut hg
theorem RepC.bnd {l:Loc} {p:PV} {v:Value} (h:RepC fi M w l p v):p.bnd M.gb.length=true:=by
 unfold RepC at h;split at h
 ·have:=h.1.bnd;simpa [PV.bnd] using this
 ·exact h.bnd
def ja (n:Nat):GObj->Bool
 | .cells cs=>eC n cs
 | .map es=>es.all λe=>e.1.bnd n&&e.2.bnd n
 | .stk _ _=>true
 | .bld _=>true
 | .lrec _ _ caps=>eC n caps
theorem RepObj.bnd {i blk:Nat} {o:GObj} (h:RepObj fi M w i blk o):ja M.gb.length o=true:=by
 cases o with
 |cells cs=>
  obtain⟨h1,h2,h3,h4,vs,T,h5,h6,h7⟩:=h;exact gP λi c hc=>(h7 i c _ hc (aA (by rw[h6];exact (aD.1 hc).1))).bnd
 |map es=>
  obtain⟨h1,h2,l,clock,h3,h4,h5⟩:=h;simp only[ja,bS];intro e he;obtain⟨i,hi,rfl⟩:=cG.1 he;have:=h5 i _ _ (aA hi) (aA (by omega));simp[this.1.bnd,this.2.1.bnd]
 |stk gen xs=>rfl
 |bld s=>rfl
 |lrec st y caps=>
  obtain⟨_,_,r,_,_,_,_,h7,_,h9⟩:=h;exact gP λi c hc=>(h9 i _ c (aA (by rw[<-h7];exact (aD.1 hc).1)) hc).2.bnd
theorem RepObj.cut {n i blk:Nat} {o:GObj} (h:RepObj fi M w i blk o) (hb:ja n o=true):RepObj fi (M.cut n) w i blk o:=by
 cases o with
 |cells cs=>
  obtain⟨h1,h2,h3,h4,vs,T,h5,h6,h7⟩:=h;exact⟨h1,h2,h3,h4,vs,T,h5,h6,λi c u hc hu=>(h7 i c u hc hu).cut (fS (l:=cs) hb hc)⟩
 |map es=>
  obtain⟨h1,h2,l,clock,h3,h4,h5⟩:=h;simp only[ja,bS,aX] at hb;refine⟨h1,h2,l,clock,h3,h4,λi e m he hm=>?_⟩;have hbe:=hb e (aP he);exact⟨(h5 i e m he hm).1.cut hbe.1,(h5 i e m he hm).2.1.cut hbe.2,(h5 i e m he hm).2.2⟩
 | stk gen xs=>
  obtain⟨h1,h2,h3,h4,h5,cs,T,h6,h7,h8,h9⟩:=h;exact⟨h1,h2,h3,h4,h5,cs,T,h6,h7,h8,λj x hj=>by obtain⟨u,hu,hr⟩:=h9 j x hj;exact⟨u,hu,vM hr (h5 x (aP hj)) _ _⟩⟩
 |bld s=>
  obtain⟨h1,h2,h3,T,hT,h4⟩:=h;refine⟨h1,h2,h3,T,hT,?_⟩;rcases h4 with h4|⟨c,cap,cur,h5,h6,h7,h8,h9⟩
  ·exact .inl h4
  ·exact .inr ⟨c,cap,cur,h5,h6,h7,λh=>h8 (cH h),h9⟩
 |lrec st y caps=>
  obtain⟨h1,h2,r,h3,h4,h5,h6,h7,h8,h9⟩:=h;exact⟨h1,h2,r,h3,h4,h5,h6,h7,h8,λi k c hk hc=>⟨(h9 i k c hk hc).1,(h9 i k c hk hc).2.cut (fS (l:=caps) hb hc)⟩⟩
end
mutual
theorem ir (n:Nat):(p:PV)->p.noG=true->p.bnd n=true
 | .agg cs,h=>by simp only[PV.noG] at h;simp only[PV.bnd];exact jb n cs h
 | .tup cs,h=>by simp only[PV.noG] at h;simp only[PV.bnd];exact jb n cs h
 | .sl _ _ xs,h=>by simp only[PV.noG] at h;simp only[PV.bnd];exact jb n xs h
 | .ep e _,h=>by simp only[PV.noG] at h;simp only[PV.bnd];exact ir n e h
 | .fn _ cs,h=>by simp only[PV.noG] at h;simp only[PV.bnd];exact jb n cs h
 | .bfn _ cs,h=>by simp only[PV.noG] at h;simp only[PV.bnd];exact jb n cs h
 | .sub _ _ _ _,h=>by simp[PV.noG] at h
 | .bs _ _ _ _ _,h=>by simp[PV.noG] at h
 | .stk _ _ _,h=>by simp[PV.noG] at h
 | .pstk _ _ _,h=>by simp[PV.noG] at h
 | .ptr _ _ _,h=>by simp[PV.noG] at h
 | .mp _,h=>by simp[PV.noG] at h
 | .yl _,h=>by simp[PV.noG] at h
 | .und,_=>rfl
 | .int _ _,_=>rfl
 | .bool _,_=>rfl
 | .str _,_=>rfl
 | .nilp,_=>rfl
 | .arr _ _,_=>rfl
 | .junk,_=>rfl
 | .nilm,_=>rfl
 | .nilf,_=>rfl
 | .nils,_=>rfl
 | .nilI,_=>rfl
 | .someI,_=>rfl
theorem jb (n:Nat):(l:List PV)->cU l=true->eC n l=true
 |[],_=>rfl
 |c::l,h=>by simp only[cU,aX] at h;simp only[eC,aX];exact⟨ir n c h.1,jb n l h.2⟩
end
end
section
open Go.RowKit
section
variable {fi:FI} {M M':Mem} {w w':World} {P:Program} {s s':St} {a:Act} {cf:CallF} {pg:Prg}
def jJ (P:Program):gj->ResultVar->Bool
 | .t n,.tmp m=>n==m
 | .cell b agg k,.cell c t=>b==c&&eA P t==some agg&&dn P t==some k
 |_,_=>false
def er (P:Program):List gj->List ResultVar->Bool
 |[],[]=>true
 |r::l,v::m=>jJ P r v&&er P l m
 |_,_=>false
def gQ (tmps:Array Value):ResultVar->Sem Value
 | .tmp t=>pure (tmps.getD t undef)
 | .cell a t=>do loadVar t (<-asAddr (tmps.getD a undef))
theorem wN (hI:Inv fi M w s a) {r:gj} {v:ResultVar} (hm:jJ P r v=true) {p:PV} (h:ay s r=some p):∃u,(gQ a.tmps v).run P w= .ok u w/\RepE fi M w (degr p) u:=by
 cases r with
 |t n=>
  cases v<;>simp[jJ] at hm;subst hm;exact⟨_,rfl,(hI.env _ p h).2.degr⟩
 | cell b agg k=>
  cases v<;>simp[jJ] at hm;obtain⟨⟨rfl,ha⟩,hs⟩:=hm;simp only[ay] at h;split at h
  ·rename_i g bx off hb
   simp only[aC] at h;obtain⟨cs,hc,hg⟩:=h;have hp:RepE fi M w (.ptr g bx off) (a.tmps.getD b undef):=(hI.env b _ hb).2;obtain⟨blk,hv,⟨_,_,_,h1,vs,T,hh,hl,hvv⟩,_⟩:=ko hI hp hc;obtain⟨hk,hr⟩:=pa hg hl hvv h1;refine⟨_,?_,hr.repE⟩;simp only[gQ,hv,asAddr,Sem.run_bind,Sem.run_pure,Result.andThen_ok,lW ha (λ_=>hs) hh hk]
  ·cases h
theorem qI (hI:Inv fi M w s a):∀{rs:List gj} {vs:List ResultVar} {ps:List PV},er P rs vs=true->av s rs=some ps->
  ∃us:List Value,(vs.mapM (gQ a.tmps)).run P w= .ok us w/\us.length=ps.length/\∀(i:Nat) (p:PV) (u:Value),ps[i]?=some p->us[i]?=some u->RepE fi M w (degr p) u
 |[],[],ps,_,h=>by simp[av] at h;subst h;exact⟨[],by simp,rfl,by simp⟩
 |[],_::_,_,hm,_=>by simp[er] at hm
 |_::_,[],_,hm,_=>by simp[er] at hm
 |r::rs,v::vs,ps,hm,h=>by
  simp only[er,aX] at hm;simp only[av,aC,aE] at h;obtain⟨p,hp,ps',hps,rfl⟩:=h;obtain⟨u,h1,h2⟩:=wN hI hm.1 hp;obtain⟨us,h3,h4,h5⟩:=qI hI hm.2 hps;refine⟨u::us,by simp[List.mapM_cons,h1,h3],by simp[h4],λi q x hq hx=>?_⟩;cases i with
  |zero=>simp at hq hx;subst hq;subst hx;exact h2
  |succ i=>exact h5 i q x (by simpa using hq) (by simpa using hx)
theorem qJ {fn:Func} {us:List Value} {tmps:Array Value} (h:(fn.results.toList.mapM (gQ tmps)).run P w= .ok us w) :
  (Go.results fn tmps).run P w= .ok (match us with|[u]=>u|us=> .tuple us.toArray) w:=by
 have h1:(fn.results.mapM (gQ tmps)).run P w= .ok us.toArray w:=by rw[Array.mapM_eq_mapM_toList,map_eq_pure_bind,Sem.run_bind,h];rfl
 have e:Go.results fn tmps=(do let vs <-fn.results.mapM (gQ tmps);pure (if h:vs.size=1 then vs[0] else .tuple vs)):=by
  unfold Go.results
  congr 1
 rw[e,Sem.run_bind,h1,Result.andThen_ok,Sem.run_pure]
 match us with
 |[]=>rfl
 |[u]=>rfl
 |u::v::l=>simp
def kH (n:Nat):Loc->Loc
 | .env t i=>if t=n then .res i else .env t i
 |l=>l
theorem wO (hI:Inv fi M w s a) (hds:M.ds=[]) {own:Bool} {rs:List gj} {fn:Func} (hm:er P rs fn.results.toList=true) {r:PV} (h:results own rs s=some r) (hok:al r=true) :
  ∃v M1,(Go.results fn a.tmps).run P w= .ok v w/\Inv fi M1 w ⟨[],s.lh,s.gh⟩ ⟨#[],[]⟩/\Kp M w M1 w/\RepAt fi M1 w Loc.res r v:=by
 have hI0:∀f:Loc->Loc,(∀b i,f (.lh b i)= .lh b i)->(∀b i,f (.gh b i)= .gh b i)->Inv fi (M.rel f) w ⟨[],s.lh,s.gh⟩ ⟨#[],[]⟩:=λf h1 h2=>by
  have h0:Inv fi M w ⟨[],s.lh,s.gh⟩ ⟨#[],[]⟩:=⟨λt v hv=>by simp[get] at hv,hds.symm,hI.lbl,hI.gbl,hI.nodup,hI.lh,hI.gh,hI.gl,hI.immlt,hI.ownlt,hI.gblt⟩
  exact h0.rel f [] (λt v hv=>by simp[get] at hv) h1 h2
 have gen:(av s rs).map (λvs=>match vs with|[v]=>degr v|vs=> .tup (vs.map degr))=some r->
   ∃v M1,(Go.results fn a.tmps).run P w= .ok v w/\Inv fi M1 w ⟨[],s.lh,s.gh⟩ ⟨#[],[]⟩/\Kp M w M1 w/\RepAt fi M1 w Loc.res r v:=by
  intro h;simp only[aE] at h;obtain⟨ps,hps,hr⟩:=h;obtain⟨us,h1,h2,h3⟩:=qI (P:=P) hI hm hps;refine⟨_,_,qJ h1,hI0 id (λ_ _=>rfl) (λ_ _=>rfl),Kp.rel M w id,?_⟩;have tupc:(∀v,ps≠[v])->r= .tup (ps.map degr)->RepAt fi (M.rel id) w Loc.res r (.tuple us.toArray):=by intro _ hr';subst hr';refine⟨us,rfl,by simp[h2],λi c u hc hu=>?_⟩;simp only[aB,aE] at hc;obtain⟨p,hp,rfl⟩:=hc;simp only[al,bS,List.mem_map] at hok;exact (((h3 i p u hp hu).rel id).repP (by simpa [ah] using hok (degr p) ⟨p,aP hp,rfl⟩)).repC
  match ps,us,h2 with
  |[],[],_=>exact tupc (by simp) (by simpa using hr.symm)
  |[p],[u],_=>
   simp only at hr;subst hr;exact ((h3 0 p u rfl rfl).rel id).repAt
  |p::q::l,u::v::m,_=>exact tupc (by simp) (by simpa using hr.symm)
 unfold results at h;split at h
 ·rename_i n
  cases hrv:fn.results.toList with
  |nil=>rw[hrv] at hm;simp[er] at hm
  | cons x l=>
   rw[hrv] at hm;cases l with
   |cons=>simp[er] at hm
   |nil=>
    cases x<;>simp[er,jJ] at hm;subst hm;have h1:(fn.results.toList.mapM (gQ a.tmps)).run P w= .ok [a.tmps.getD n undef] w:=by rw[hrv];simp[List.mapM_cons,gQ]
    refine⟨_,_,qJ h1,hI0 (kH n) (λ_ _=>rfl) (λ_ _=>rfl),Kp.rel M w (kH n),?_⟩;exact (hI.env n r h).2.rel (kH n) (λi=>by simp[kH])
 ·exact gen h
theorem Inv.toGI (hI:Inv fi M w ⟨[],s.lh,s.gh⟩ ⟨#[],[]⟩):GI fi M.noLb w s.gh:=
 ⟨λt v hv=>by simp[get] at hv,hI.defers,rfl,hI.gbl,by have:=hI.nodup;rw[cK] at this;simpa [Mem.noLb] using this.2.1,λi cs blk h=>by simp at h,
  λi o blk h1 h2=>(hI.gh i o blk h1 h2).noLb,hI.gl,hI.immlt,hI.ownlt,hI.gblt⟩
theorem Kp.noLb (M:Mem) (w:World):Kp M w M.noLb w:=
 ⟨rfl,rfl,rfl,cN _,Ext.noLb M w,λ_ _ _ _ _=>rfl,λ_ h=>by simp[Mem.noLb] at h,λ_ h=> .inl h,λ_ _ h=>h,λ_ _ h=> .inl h,.same rfl⟩
theorem GI.cut {gh:List GObj} (hG:GI fi M w gh) (n:Nat) (hb:∀(i:Nat) (o:GObj),(gh.take n)[i]?=some o->ja n o=true):GI fi (M.cut n) w (gh.take n):=
 by
 refine⟨λt v hv=>by simp[get] at hv,hG.defers,hG.lbl,?_,?_,λi cs blk h=>by simp at h,λi o blk h1 h2=>?_,hG.gl,hG.immlt,hG.ownlt,λb h=>hG.gblt b (cH h)⟩
 ·have:=hG.gbl
  simp only[Mem.cut,cI];rw[this]
 ·have:=hG.nodup
  rw[cK] at this ⊢;exact⟨this.1,this.2.1.sublist (List.take_sublist _ _),λx hx y hy=>this.2.2 x hx y (cH hy)⟩
 ·have h1':=h1
  simp only[cE] at h1;simp only[Mem.cut,cE] at h2;split at h1
  ·rename_i hlt
   rw[if_pos hlt] at h2;exact (hG.gh i o blk h1 h2).cut (hb i o h1')
  ·cases h1
theorem RepAt.cut {n:Nat} {mk:Nat->Loc} {p:PV} {v:Value} (h:RepAt fi M w mk p v) (hok:al p=true) (hg:p.bnd n=true):RepAt fi (M.cut n) w mk p v:=by
 unfold RepAt at *;split at h
 ·exact OwnRep.cut h (by simpa [PV.bnd] using hg)
 ·cases hok
 ·obtain⟨vs,h1,h2,h3⟩:=h
  exact⟨vs,h1,h2,λi c u hc hu=>(h3 i c u hc hu).cut (fS (by simpa [PV.bnd] using hg) hc)⟩
 ·obtain⟨vs,h1,h2,h3⟩:=h
  exact⟨vs,h1,h2,λi c u hc hu=>(h3 i c u hc hu).cut (fS (by simpa [PV.bnd] using hg) hc)⟩
 ·rename_i h3
  exact ((h.repP (l5 hok (λcs=>h3 cs))).cut hg).repE
theorem kI {α:Type}:∀{l:List α} {i j:Nat},l.Nodup->l[i]?=l[j]?->i<l.length->i=j
 |[],i,j,_,_,h=>by simp at h
 |x::l,0,0,_,_,_=>rfl
 |x::l,0,j+1,hn,he,_=>by rw[List.nodup_cons] at hn;simp at he;exact absurd (aP he.symm) hn.1
 |x::l,i+1,0,hn,he,_=>by rw[List.nodup_cons] at hn;simp at he;exact absurd (aP he) hn.1
 |x::l,i+1,j+1,hn,he,h=>by rw[List.nodup_cons] at hn;have:=kI hn.2 (by simpa using he) (by simpa using h);omega
def Mem.cutF (M:Mem) (n:Nat):Mem:={M.cut n with imm:=λb k=>M.imm b k\/(∃g,n<=g/\M.gb[g]?=some b/\M.own b=none)\/∃g,n<=g/\M.own b=some (.gh g 0) }
theorem Ext.cutF (M:Mem) (n:Nat) (w:World):Ext (M.cut n) w (M.cutF n) w:=⟨λ_ _ h=>h,λ_ _ h=> .inl h,λ_ _ _=>rfl,λ_ _=>⟨cN _,λ_=>rfl⟩⟩
theorem OwnRep.cutF {n:Nat} {l:Loc} {z:Nat} {xs:List PV} {v:Value} (h:OwnRep fi (M.cut n) w l z xs v) (hl:∀g,n<=g->l≠ .gh g 0):OwnRep fi (M.cutF n) w l z xs v:=by
 obtain⟨h1,h2⟩:=h;refine⟨h1.mono (Ext.cutF M n w),?_⟩;rcases h2 with h2|⟨b,o,c,cs,e,hv,ho,hh,hs,hk,hb1,hb2⟩
 ·exact .inl h2
 ·refine .inr ⟨b,o,c,cs,e,hv,ho,hh,hs,λk hk2 hk3 h=>?_,hb1,hb2⟩
  have ho':M.own b=some l:=ho;rcases h with h|⟨g,_,_,h⟩|⟨g,hg,h⟩
  ·exact hk k hk2 hk3 h
  ·rw[h] at ho';cases ho'
  ·rw[h] at ho';exact hl g hg (cQ ho').symm
theorem RepC.cutF {n:Nat} {l:Loc} {p:PV} {v:Value} (h:RepC fi (M.cut n) w l p v) (hl:∀g,n<=g->l≠ .gh g 0):RepC fi (M.cutF n) w l p v:=by
 unfold RepC at *;split at h
 ·exact OwnRep.cutF h hl
 ·exact h.mono (Ext.cutF M n w)
theorem RepE.cutF {n:Nat} {p:PV} {v:Value} (h:RepE fi (M.cut n) w p v):RepE fi (M.cutF n) w p v:=by
 unfold RepE at *;split at h
 ·exact h
 ·exact h
 ·exact h.mono (Ext.cutF M n w)
theorem RepAt.cutF {n:Nat} {mk:Nat->Loc} {p:PV} {v:Value} (h:RepAt fi (M.cut n) w mk p v) (hl:∀i g,n<=g->mk i≠ .gh g 0):RepAt fi (M.cutF n) w mk p v:=by
 unfold RepAt at *;split at h
 ·exact OwnRep.cutF h (hl 0)
 ·obtain⟨h0,b,T,c,hv,hc,ho,hh,hk,hb1,hb2⟩:=h
  refine⟨h0,b,T,c,hv,hc,ho,hh,λk hk2=>?_,hb1,hb2⟩;have ho':M.own b=some (mk 0):=ho;rcases hk2 with h|⟨g,_,_,h⟩|⟨g,hg,h⟩
  ·exact hk k h
  ·rw[h] at ho';cases ho'
  ·rw[h] at ho';exact hl 0 g hg (cQ ho').symm
 ·obtain⟨vs,h1,h2,h3⟩:=h
  exact⟨vs,h1,h2,λi c u hc hu=>(h3 i c u hc hu).cutF (hl i)⟩
 ·obtain⟨vs,h1,h2,h3⟩:=h
  exact⟨vs,h1,h2,λi c u hc hu=>(h3 i c u hc hu).cutF (hl i)⟩
 ·exact RepE.cutF h
theorem RepObj.cutF {n i blk:Nat} {o:GObj} (hin:i<n) (h:RepObj fi (M.cut n) w i blk o) (hn:∀g,n<=g->M.gb[g]?≠some blk):RepObj fi (M.cutF n) w i blk o:=by
 cases o with
 |cells cs=>
  obtain⟨h1,h2,h3,h4,vs,T,h5,h6,h7⟩:=h;refine⟨h1,λk hk=>?_,h3,h4,vs,T,h5,h6,λi' c u hc hu=>(h7 i' c u hc hu).cutF (λg hg e=>by cases e;omega)⟩;have h3':M.own blk=none:=h3;rcases hk with hk|⟨g,hg,hb,_⟩|⟨g,hg,ho⟩
  ·exact h2 k hk
  ·exact hn g hg hb
  ·rw[h3'] at ho;cases ho
 |map es=>
  obtain⟨h1,h2,l,clock,h3,h4,h5⟩:=h;exact⟨h1,h2,l,clock,h3,h4,λi e m he hm=>⟨(h5 i e m he hm).1.mono (Ext.cutF M n w),(h5 i e m he hm).2.1.mono (Ext.cutF M n w),(h5 i e m he hm).2.2⟩⟩
 | stk gen xs=>
  obtain⟨h1,h2,h3,h4,h5,cs,T,h6,h7,h8,h9⟩:=h;refine⟨h1,h2,h3,λk hk=>?_,h5,cs,T,h6,h7,h8,λj x hj=>?_⟩
  ·have e:M.own (M.st i).2.1=some (Loc.gh i 0):=h3
   rcases hk with hk|⟨g,_,_,ho⟩|⟨g,hg,ho⟩
   ·exact h4 k hk
   ·have ho':M.own (M.st i).2.1=none:=ho
    rw[ho'] at e;cases e
   ·have ho':M.own (M.st i).2.1=some (Loc.gh g 0):=ho
    rw[ho'] at e;cases e;omega
  ·obtain⟨u,hu,hr⟩:=h9 j x hj
   exact⟨u,hu,hr.mono (Ext.cutF M n w)⟩
 | bld t=>
  obtain⟨h1,h2,h3,T,hT,h4⟩:=h;refine⟨h1,λk hk=>?_,h3,T,hT,?_⟩
  ·have h3':M.own blk=none:=h3
   rcases hk with hk|⟨g,hg,hb,_⟩|⟨g,hg,ho⟩
   ·exact h2 k hk
   ·exact hn g hg hb
   ·rw[h3'] at ho;cases ho
  ·rcases h4 with h4|⟨c,cap,cur,h5,h6,h7,h8,h9,h10⟩
   ·exact .inl h4
   ·refine .inr ⟨c,cap,cur,h5,h6,h7,h8,λk hk=>?_,h10⟩
    have e:M.own c=some (Loc.gh i 0):=h6;rcases hk with hk|⟨g,_,_,ho⟩|⟨g,hg,ho⟩
    ·exact h9 k hk
    ·rw[ho] at e;cases e
    ·rw[ho] at e;cases e;omega
 |lrec st y caps=>exact RepLoop.to h (Ext.cutF M n w) rfl h.2.1 (cN _)
theorem Mark.mono {n m:Nat} {d:Deferred} (h:Mark M w n d) (hm:m<=n):Mark M w m d:=by obtain⟨D,h1,h2⟩:=h;exact⟨D,bX hm h1,h2⟩
theorem qK {Fn:Func} {R:Ending->World->Prop} {M0:Mem} {w0:World} (h0:∀b k,M0.imm b k->b<w0.heap.size):∀(l:List Deferred) (M':Mem) (w':World) (a:Act),Inv fi M' w' s a->Kp M0 w0 {M' with ds:=M0.ds } w'->M'.ds=l->l.Nodup->(∀d∈l,Mark M' w' w0.heap.size d)->
  (∀(M2:Mem) (w2:World),Inv fi M2 w2 s {a with defers:=[] }->Kp M0 w0 {M2 with ds:=M0.ds } w2->LeavesIn (FR none) 0 P Fn a.tmps R [] .returning w2)->LeavesInM (FR none) 0 P Fn a.tmps R l .returning w'
 |[],M',w',a,hI,hk,hd,_,_,hR=>by
  have ha:a.defers=[]:=hI.defers.trans hd;have:a={a with defers:=[] }:=by rw[<-ha]
  refine hR M' w' (by rw[<-this];exact hI) ?_;exact hk
 | d::l,M',w',a,hI,hk,hd,hn,hm,hR=>by
  rw[List.nodup_cons] at hn;obtain⟨D,m1,rfl,m3,m4,m5,m6⟩:=hm d bF;generalize hW:w'.putObj D (.deferred none)=W;have hlt:D<w'.heap.size:=(Array.getElem?_eq_some_iff.1 m3).1;have hoth:∀k,k≠D->W.heap[k]?=w'.heap[k]?:=λk h=>by rw[<-hW];exact World.putObj_heap_other h
  have hsz:W.heap.size=w'.heap.size:=by rw[<-hW];exact World.putObj_size
  have hself:W.heap[D]?=some (.deferred none):=by rw[<-hW];exact World.putObj_heap_same hlt
  have hcell:∀b k,W.cell? ⟨b,k,none⟩=w'.cell? ⟨b,k,none⟩:=λb k=>by
   by_cases h:b=D
   ·subst h
    simp[World.cell?,hself,m3]
   ·exact World.cell?_of_block (w:=w') (a:=⟨b,k,none⟩) (hoth b h)
  have hext:Ext M' w' {M' with ds:=l } W:=⟨λ_ _ h=>h,λ_ _ h=>h,λb k _=>hcell b k,λ_ _=>⟨cN _,λ_=>rfl⟩⟩
  have g:Good M' w' {M' with ds:=l } W (λ_=>False) (λk=>k=D):=⟨hext,by rw[hsz];exact cN _,λ_ _ h=>h,
   λb' l' hb' _=>⟨hb',hoth b' (λe=>by subst e;rw[m6] at hb';cases hb'),λ_ h=>h,id,id⟩,λb' _ hn h=>⟨hoth b' hn,λ_ h=>h,h⟩,λ_ _=>rfl⟩
  have hI2:Inv fi {M' with ds:=l } W s {a with defers:=l }:=
   ⟨λt u hu=>⟨(hI.env t u hu).1,(hI.env t u hu).2.good g (by simp)⟩,rfl,hI.lbl,hI.gbl,hI.nodup,λi cs blk h1 h2=>(hI.lh i cs blk h1 h2).good g (λe=>by subst e;exact m4 (aP h2)) (by simp),
    λi o blk h1 h2=>(hI.gh i o blk h1 h2).good g (λe=>by subst e;exact m5 (aP h2)) (by simp),hext.gl hI.gl,λb k h=>by rw[hsz];exact hI.immlt b k h,λb k h=>by rw[hsz];exact hI.ownlt b k h,λb h=>by rw[hsz];exact hI.gblt b h⟩
  have hm2:∀e∈l,Mark {M' with ds:=l } W w0.heap.size e:=λe he=>by
   obtain⟨E,n1,n2,n3,n4,n5,n6⟩:=hm e (bG _ he);have hne:E≠D:=λh=>by subst h;exact hn.1 (n2▸he)
   exact⟨E,n1,n2,(hoth E hne).trans n3,n4,n5,n6⟩
  have hk2:Kp M0 w0 {M' with ds:=M0.ds } W:=by
   refine⟨?_,?_,?_,by rw[hsz];exact hk.size,⟨hk.ext.gb,hk.ext.imm,λb k h=>(hcell b k).trans (hk.ext.cell b k h),hk.ext.st⟩,λk hlt2 h1 h2 h3=>(hoth k (by omega)).trans (hk.block k hlt2 h1 h2 h3),hk.lbn,hk.gbn,hk.ownn,hk.immn,.same rfl⟩
   ·rw[<-hW];exact hk.os
   ·rw[<-hW];exact hk.tape
   ·rw[<-hW];exact hk.output
  refine⟨by simp,.inl ⟨D,W,rfl,?_,?_⟩⟩
  ·rw[<-hW];exact run_takeDeferred m3
  ·exact qK h0 l {M' with ds:=l } W {a with defers:=l } hI2 hk2 rfl hn.2 hm2 hR
theorem GI.cutF {gh:List GObj} (hG:GI fi M w gh) (n:Nat) (hn:n<=gh.length) (hb:∀(i:Nat) (o:GObj),(gh.take n)[i]?=some o->ja n o=true):GI fi (M.cutF n) w (gh.take n):=by
 have hC:=hG.cut n hb;have hnd:=hG.nodup;rw[cK] at hnd;refine⟨λt v hv=>by simp[get] at hv,hG.defers,hC.lbl,hC.gbl,hC.nodup,λi cs blk h=>by simp at h,λi o blk h1 h2=>RepObj.cutF (by have:=(aD.1 h1).1;rw[cI] at this;omega) (hC.gh i o blk h1 h2) λg hg hgb=>?_,(Ext.cutF M n w).gl hC.gl,λb k hk=>?_,hC.ownlt,hC.gblt⟩
 ·have h2':(M.gb.take n)[i]?=some blk:=h2
  rw[cE] at h2';split at h2'
  ·rename_i hlt
   have e1:=aD.1 hgb;have e2:=aD.1 h2';have:i=g:=kI hnd.2.1 (by rw[h2',hgb]) e2.1;omega
  ·cases h2'
 ·rcases hk with hk|⟨g,_,hgb,_⟩|⟨g,_,ho⟩
  ·exact hC.immlt b k hk
  ·exact hG.gblt b (aP hgb)
  ·exact hG.ownlt b _ ho
theorem mw {n b off k:Nat} {gh:List GObj} {cs:List PV} (h:gh[b]?=some (.cells cs)) (h1:n<=b) (h2:off+k<=cs.length):frz n gh (.bs true b off k 1)= .sl false 1 (((cs.drop off).take k).map aa):=by simp[frz,h,h1,h2]
theorem mB {n b g k:Nat} {gh:List GObj} {xs:List PV} (h:gh[b]?=some (.stk g xs)) (h1:n<=b) (h2:k<=xs.length):frz n gh (.stk b g k)= .sl false 1 (xs.take k):=by simp[frz,h,h1,h2]
theorem jc (n:Nat) (gh:List GObj) (p:PV):frz n gh p=p\/(∃b off k cs,p= .bs true b off k 1/\gh[b]?=some (.cells cs)/\n<=b/\off+k<=cs.length)\/∃b g k xs,p= .stk b g k/\gh[b]?=some (.stk g xs)/\n<=b/\k<=xs.length:=by
 unfold frz;split
 ·rename_i b off k
  split
  ·rename_i cs hc
   split
   ·rename_i h;exact .inr (.inl ⟨b,off,k,cs,rfl,hc,h⟩)
   ·exact .inl rfl
  ·exact .inl rfl
 ·rename_i b g k
  split
  ·rename_i g2 xs hc
   split
   ·rename_i h;exact .inr (.inr ⟨b,g,k,xs,rfl,by rw[hc,h.2.1],h.1,h.2.2⟩)
   ·exact .inl rfl
  ·exact .inl rfl
 ·exact .inl rfl
theorem kJ {p:PV} (h:p.one=true):(aa p).cells=[aa p]:=by cases p<;>first|rfl|simp[PV.one] at h
theorem wP {p:PV} (h:p.one=true):(aa p).one=true:=by cases p<;>first|exact h|rfl
theorem kK {gh:List GObj} (hG:GI fi M w gh) {n:Nat} {p:PV} {v:Value} (h:RepP fi M w p v) (hg:(frz n gh p).noG=true):RepP fi (M.cutF n) w (frz n gh p) v:=by
 rcases jc n gh p with e|⟨b,off,k,cs,rfl,hc,hn,hk⟩|⟨b,g,k,xs,rfl,hc,hn,hk⟩
 ·rw[e] at hg ⊢
  exact (h.cut (ir _ _ hg)).mono (Ext.cutF M n w)
 ·rw [mw hc hn hk] at hg ⊢
  cases h with
  | bs _ _ _ _ A c blk hb hA hcc=>
   obtain⟨_,_,hown,hone,vs,T,hh,hl,hv⟩:=hG.gh b _ blk hc hb;have hlen:(((cs.drop off).take k).map aa).length=k:=by simp;omega
   have hel:∀(i:Nat) (e:PV),(((cs.drop off).take k).map aa)[i]?=some e->∃c u,cs[off+i]?=some c/\e=aa c/\vs[off+i]?=some u/\RepP fi M w (aa c) u/\c.one=true:=by
    intro i e he;simp only[aB,aE,cE] at he;obtain⟨c,hc1,rfl⟩:=he;split at hc1
    ·rw[List.getElem?_drop] at hc1
     have hi:off+i<vs.length:=by have:=(aD.1 hc1).1;omega
     exact⟨c,vs[off+i],hc1,rfl,aA hi,(hv _ _ _ hc1 (aA hi)).degr1,hone c (aP hc1)⟩
    ·cases hc1
   have key:RepP fi (M.cutF n) w (.sl false 1 (((cs.drop off).take k).map aa)) (.slice A (((cs.drop off).take k).map aa).length c):=by
    refine RepP.sl 1 _ A c blk off (λj=>vs.getD (off+j) undef) ?_ (by rw[hlen];exact hcc) ?_ ?_ ?_ ?_
    ·rcases hA with hA|hA
     ·left;subst hA;simp
     ·exact .inr hA
    ·intro e he
     obtain⟨i,hi⟩:=List.mem_iff_getElem?.1 he;obtain⟨c,u,h1,rfl,_,_,h2⟩:=hel i e hi;rw[kJ h2];rfl
    ·intro e he
     obtain⟨i,hi⟩:=List.mem_iff_getElem?.1 he;obtain⟨c,u,h1,rfl,_,_,h2⟩:=hel i e hi;simp[ah,kJ h2,wP h2]
    ·intro i e j p he hp
     obtain⟨c,u,h1,rfl,h3,_,h2⟩:=hel i e he;rw[kJ h2] at hp;cases j with
     |succ j=>simp at hp
     |zero=>
      refine⟨.inr (.inl ⟨b,hn,hb,hown⟩),?_⟩;rw[cell_of_row w blk _ vs.toArray T (0,0) hh,List.getElem?_toArray,Nat.mul_one,cB,h3];simp[List.getD,h3]
    ·intro i e j p he hp
     obtain⟨c,u,h1,rfl,h3,h4,h2⟩:=hel i e he;rw[kJ h2] at hp;cases j with
     |succ j=>simp at hp
     |zero=>
      simp at hp;subst hp;have e2:vs.getD (off+(i*1+0)) undef=u:=by simp[List.getD,h3]
      rw[e2];have hgi:(aa c).noG=true:=fx (l:=((cs.drop off).take k).map aa) (by simpa [PV.noG] using hg) he;exact (h4.cut (ir _ _ hgi)).mono (Ext.cutF M n w)
   rw[hlen] at key;exact key
 ·rw [mB hc hn hk] at hg ⊢
  have hbl:b<M.gb.length:=by rw[hG.gbl];exact (aD.1 hc).1
  obtain⟨_,hgen,hown,_,hfl,cs,T,hh,_,_,hv⟩:=hG.gh b _ _ hc (aA hbl);cases h with
  | stk _ _ _ blk c hb hg' hA hcc=>
   obtain⟨rfl,_⟩:=hA hgen.symm;have hlen:(xs.take k).length=k:=by rw[cI];omega
   have hel:∀(i:Nat) (e:PV),(xs.take k)[i]?=some e->dU e=true/\∃u,cs[i]?=some u/\RepP fi M w e u:=by
    intro i e he;rw[cE] at he;split at he
    ·exact⟨hfl e (aP he),hv i e he⟩
    ·cases he
   have hfc:∀e:PV,dU e=true->e.cells=[e]/\e.one=true/\ah e=true/\e.noG=true:=by intro e he;cases e<;>first|exact⟨rfl,rfl,rfl,rfl⟩|cases he
   have key:RepP fi (M.cutF n) w (.sl false 1 (xs.take k)) (.slice (some ⟨(M.st b).2.1,0,none⟩) (xs.take k).length c):=by
    refine RepP.sl 1 _ _ c (M.st b).2.1 0 (λj=>cs.getD j undef) (.inr rfl) (by rw[hlen];exact hcc) ?_ ?_ ?_ ?_
    ·intro e he
     obtain⟨i,hi⟩:=List.mem_iff_getElem?.1 he;rw[(hfc e (hel i e hi).1).1];rfl
    ·intro e he
     obtain⟨i,hi⟩:=List.mem_iff_getElem?.1 he;exact (hfc e (hel i e hi).1).2.2.1
    ·intro i e j p he hp
     obtain⟨h1,u,h3,_⟩:=hel i e he;rw[(hfc e h1).1] at hp;cases j with
     |succ j=>simp at hp
     |zero=>
      refine⟨.inr (.inr ⟨b,hn,hown⟩),?_⟩;rw[cell_of_row w _ _ cs T (0,0) hh,cO,Nat.mul_one,cB,h3];simp[cJ,h3]
    ·intro i e j p he hp
     obtain⟨h1,u,h3,h4⟩:=hel i e he;rw[(hfc e h1).1] at hp;cases j with
     |succ j=>simp at hp
     |zero=>
      simp at hp;subst hp;have e2:cs.getD (i*1+0) undef=u:=by simp[cJ,h3]
      rw[e2];exact (h4.cut (ir _ _ (hfc _ h1).2.2.2)).mono (Ext.cutF M n w)
   rw[hlen] at key;exact key
theorem wQ {gh:List GObj} (hG:GI fi M w gh) {n:Nat} {mk:Nat->Loc} (hmk:∀i g,n<=g->mk i≠ .gh g 0) {p:PV} {v:Value} (h:RepAt fi M w mk p v) (hok:al p=true) (hg:(cj n gh p).noG=true):RepAt fi (M.cutF n) w mk (cj n gh p) v:=by
 by_cases ht:∃cs,p= .tup cs
 ·obtain⟨cs,rfl⟩:=ht
  obtain⟨vs,h1,h2,h3⟩:=h;refine⟨vs,h1,by simpa using h2,λi c u hc hu=>?_⟩;simp only[aB,aE] at hc;obtain⟨c,hc,rfl⟩:=hc;have hgc:(frz n gh c).noG=true:=fx (l:=cs.map (frz n gh)) (by simpa [PV.noG,cj] using hg) (i:=i) (by simp[hc]);have h4:=h3 i c u hc hu;rcases jc n gh c with e|⟨b,off,k,ds,rfl,hd,hn,hk⟩|⟨b,g,k,ds,rfl,hd,hn,hk⟩
  ·rw[e] at hgc ⊢
   exact (h4.cut (ir _ _ hgc)).cutF (hmk i)
  ·exact (kK hG h4 hgc).repC
  ·exact (kK hG h4 hgc).repC
 ·have e0:cj n gh p=frz n gh p:=by
   unfold cj;split
   ·rename_i vs;exact absurd ⟨vs,rfl⟩ ht
   ·rfl
  rw[e0] at hg ⊢;rcases jc n gh p with e|⟨b,off,k,ds,rfl,hd,hn,hk⟩|⟨b,g,k,ds,rfl,hd,hn,hk⟩
  ·rw[e] at hg ⊢
   exact (h.cut hok (ir _ _ hg)).cutF hmk
  ·exact (kK hG h hg).repE.repAt
  ·exact (kK hG h hg).repE.repAt
theorem wR {gh:List GObj} {n:Nat} {p:PV} (hok:al p=true):al (cj n gh p)=true:=by
 have h1:∀q,ah q=true->ah (frz n gh q)=true:=λq hq=>by
  rcases jc n gh q with e|⟨b,off,k,ds,rfl,hd,hn,hk⟩|⟨b,g,k,ds,rfl,hd,hn,hk⟩
  ·rw[e];exact hq
  ·rw[mw hd hn hk];rfl
  ·rw[mB hd hn hk];rfl
 cases p with
 |tup vs=>
  simp only[al,cj,bS,List.mem_map] at hok ⊢;rintro _ ⟨q,hq,rfl⟩;exact h1 q (hok q hq)
 |bs g b o k z=>
  have:ah (frz n gh (.bs g b o k z))=true:=h1 _ hok;simp only[cj];rcases jc n gh (.bs g b o k z) with e|⟨b,off,k,ds,e,hd,hn,hk⟩|⟨b,g,k,ds,e,_⟩
  ·rw[e];exact hok
  ·cases e;rw[mw hd hn hk];rfl
  ·cases e
 |stk b g k=>
  simp only[cj];rcases jc n gh (.stk b g k) with e|⟨b,off,k,ds,e,hd,hn,hk⟩|⟨b,g,k,ds,e,hd,hn,hk⟩
  ·rw[e];exact hok
  ·cases e
  ·cases e;rw[mB hd hn hk];rfl
 |_=>exact hok
theorem qL:∀{vs:List PV} {n t:Nat} {v:PV},get (fu n vs) t=some v->∃i,t=n+i/\vs[i]?=some v
 |[],n,t,v,h=>by simp[fu,get] at h
 | u::vs,n,t,v,h=>by
  simp only[fu,get] at h;split at h
  ·rename_i hnt;cases h;exact⟨0,by omega,rfl⟩
  ·obtain⟨i,h1,h2⟩:=qL h
   exact⟨i+1,by omega,by simpa using h2⟩
open Classical in
theorem qM {fn:IFunc} {F:Nat} {Fn:Func} {c:Code} (hf:P.funcs[F]?=some Fn) (hb:Fn.body=some c) (hr:er P fn.res Fn.results.toList=true)
  {vs:List PV} {gh gh':List GObj} {x:ag×St} {r:PV} (hwp:∀(a:Act) (M:Mem) (w:World),Inv fi M w ⟨fu 0 vs,[],gh⟩ a->Fn.ntmps<=a.tmps.size->c.wpIn (FR none) 0 P (CPost fi M w a.tmps.size x.1 x.2) a w) (hfin:au fn gh x=some (r,gh')):eq P fi F vs gh r gh':=by
 intro M w args hG hlb hown hlen hrep;obtain⟨e,sf⟩:=x;refine callsIn_wide.1 (callsIn_of_wp_marks (F:=FR none) (n:=0) hf hb trivial ?_);have hsz:(args.toArray++Array.replicate (Fn.ntmps-args.toArray.size) undef).size=args.length+(Fn.ntmps-args.length):=by simp
 have hI:Inv fi M w ⟨fu 0 vs,[],gh⟩ {tmps:=args.toArray++Array.replicate (Fn.ntmps-args.toArray.size) undef,defers:=[] }:=by
  refine⟨λt v hv=>?_,hG.defers,hG.lbl,hG.gbl,hG.nodup,λi cs blk h=>by simp at h,hG.gh,hG.gl,hG.immlt,hG.ownlt,hG.gblt⟩;obtain⟨i,h1,h2⟩:=qL hv;rw[cO] at h1;subst h1;have hi:=(aD.1 h2).1;have hi':t<args.length:=by omega
  refine⟨by simp only[hsz];omega,?_⟩;have:=hrep t v args[t] h2 (aA hi');have e2:(args.toArray++Array.replicate (Fn.ntmps-args.toArray.size) undef).getD t undef=args[t]:=by rw[cJ,Array.getElem?_append_left (by simpa using hi')];simp[hi']
  rw[e2];exact this.repE.repAt
 have key:e= .normal\/e= .ret->∀(a':Act) (M':Mem) (w':World),Inv fi M' w' sf a'->M'.ds=[]->Kp M w M' w'->∃r0 gh0,au fn gh (e,sf)=some (r0,gh0)/\∃v,(Go.results Fn a'.tmps).run P w'= .ok v w'/\
   ∃M2,GI fi M2 w' gh0/\M2.lb=[]/\al r0=true/\RepAt fi M2 w' Loc.res r0 v/\Kp M w M2 w':=by
  intro he a' M' w' h2 hds' h3;refine⟨r,gh',hfin,?_⟩
  have hfin':(results fn.own fn.res sf).bind (λr=>if al r then
   (if fn.trunc then if sf.gh.take gh.length=gh/\(cj gh.length sf.gh r).noG then some (cj gh.length sf.gh r,gh) else none else some (r,sf.gh)) else none)=some (r,gh'):=by
   rcases he with rfl|rfl<;>exact hfin
  rw[aC] at hfin';obtain⟨r1,q1,q2⟩:=hfin';split at q2
  ·rename_i hok
   obtain⟨v,M1,v1,v2,v3,v4⟩:=wO (P:=P) h2 hds' hr q1 hok;have hG1:GI fi M1.noLb w' sf.gh:=Inv.toGI (s:=sf) v2;have hr1:=v4.noLb hok;have hk1:Kp M w M1.noLb w':=(h3.trans v3).trans (Kp.noLb M1 w');split at q2
   ·split at q2
    ·rename_i hq
     cases q2;have hn:gh.length<=sf.gh.length:=by have:=congrArg List.length hq.1;rw[cI] at this;omega
     refine⟨v,v1,M1.noLb.cutF gh.length,?_,rfl,wR hok,wQ hG1 (λ_ _ _ e=>by cases e) hr1 hok hq.2,?_⟩
     ·have:=hG1.cutF gh.length hn (λi o ho=>by
       rw[hq.1] at ho;have hi:i<M.gb.length:=by rw[hG.gbl];exact (aD.1 ho).1
       have:=(hG.gh i o _ ho (aA hi)).bnd
       rwa [hG.gbl] at this)
      rwa [hq.1] at this
     ·have hgbl:M.gb.length=gh.length:=hG.gbl
      refine⟨hk1.os,hk1.tape,hk1.output,hk1.size,⟨λi k h=>?_,λb k h=> .inl (hk1.ext.imm b k h),hk1.ext.cell,hk1.ext.st⟩,hk1.block,hk1.lbn,λk h=>hk1.gbn k (cH h),hk1.ownn,λb k h=>?_,.same (Eq.trans (show M1.noLb.ds=[] from hG1.defers.symm) hG.defers)⟩
      ·have hi:i<gh.length:=by have h4:=(aD.1 h).1;omega
       have:=hk1.ext.gb i k h;simp only[Mem.cutF,Mem.cut,cE,hi,if_true];exact this
      ·rcases h with h|⟨g,hg,hb,_⟩|⟨g,hg,ho⟩
       ·exact hk1.immn b k h
       rotate_left
       ·rcases Nat.lt_or_ge b w.heap.size with hlt|hge
        ·refine .inr (.inr λe=>?_)
         rw[hk1.ownn b hlt e] at ho;cases ho
        ·exact .inr (.inl hge)
       ·rcases hk1.gbn b (aP hb) with h2|h2|h2|h2
        ·exfalso
         obtain⟨i,hi⟩:=List.mem_iff_getElem?.1 h2;have hi2:=hk1.ext.gb i b hi;have hnd:=hG1.nodup;rw[cK] at hnd;have e1:=aD.1 hb;have e2:=aD.1 hi2;have:i=g:=kI hnd.2.1 (by rw[hi2,hb]) e2.1;have:=(aD.1 hi).1;omega
        ·exact .inr (.inl h2)
        ·exact .inr (.inr h2)
        ·rw[hlb] at h2;simp at h2
    ·cases q2
   ·cases q2
    exact⟨v,v1,M1.noLb,hG1,rfl,hok,hr1,hk1⟩
  ·cases q2
 have hds:M.ds=[]:=hG.defers.symm;refine wpIn_mono (hwp _ M w hI (by simp only[hsz];omega)) ?_;rintro ex a0 w0 ⟨h1,M0,h20,h30,_⟩;have hend:e= .normal\/e= .ret->LeavesInM (FR none) 0 P Fn a0.tmps (λe w'=>∃v M',e= .returned v/\GI fi M' w' gh'/\M'.lb=[]/\al r=true/\RepAt fi M' w' Loc.res r v/\Kp M w M' w') a0.defers .returning w0:=by
  intro he;obtain⟨l,z1,z2,z3⟩:=h30.ds;rw[hds,bH] at z1;rw[h20.defers];refine qK (M0:=M) (w0:=w) hG.immlt _ M0 w0 a0 h20 ⟨h30.os,h30.tape,h30.output,h30.size,⟨h30.ext.gb,h30.ext.imm,h30.ext.cell,h30.ext.st⟩,h30.block,h30.lbn,h30.gbn,h30.ownn,h30.immn,.same rfl⟩ rfl (z1▸z2) (z1▸z3) ?_;intro M' w' h2 h3;have hd':M'.ds=[]:=h2.defers.symm;have h3:Kp M w M' w':=⟨h3.os,h3.tape,h3.output,h3.size,⟨h3.ext.gb,h3.ext.imm,h3.ext.cell,h3.ext.st⟩,h3.block,h3.lbn,h3.gbn,h3.ownn,h3.immn,.same (by rw[hd',hds])⟩
  obtain⟨r0,gh0,k1,v,k3,M2,k4⟩:=key he _ M' w' h2 hd' h3;rw[hfin] at k1;cases k1;exact⟨v,k3,v,M2,rfl,k4⟩
 cases e with
 |exit i=>simp[au] at hfin
 |normal=>subst h1;exact hend (.inl rfl)
 |ret=>subst h1;exact hend (.inr rfl)
theorem wS {n:Nat} (hc:i7 P fi pg n) {fn:IFunc} {F:Nat} {Fn:Func} {c:Code} (hf:P.funcs[F]?=some Fn) (hb:Fn.body=some c) (hm:cg P fi Fn.ntmps fn.body c=true) (hr:er P fn.res Fn.results.toList=true)
  {vs:List PV} {gh gh':List GObj} {x:ag×St} {r:PV} (hrun:ak pg n fn.body ⟨fu 0 vs,[],gh⟩=some x) (hfin:au fn gh x=some (r,gh')):eq P fi F vs gh r gh':=
 qM hf hb hr (λa M w hI hN=>hc none 0 Fn.ntmps fn.body c _ x.1 x.2 a M w (.inl rfl) hm hrun hI hN) hfin
end
end
section
open Go.RowKit
section
variable {fi:FI} {M M':Mem} {w w':World} {P:Program} {s s':St} {a:Act} {cf:CallF} {pg:Prg}
def qN (P : Program) (F : Nat) : Prop := ∃ fn c, P.funcs[F]? = some fn ∧ (fn.name == "runtime.NumGoroutine") = false ∧ fn.body = some c
def gq (P:Program) (fi:FI) (pg:Prg):Prop:=
 (∀y N ps as body,fi.yp y N ps as body=true->∃Y,pg y=some (.yl Y)/\ps= #[Y.t]/\fi.yk y=Y.ks/\Y.t∉Y.ks/\Y.t<N/\dx Y.as=true/\dx Y.body=true/\cg P fi N Y.as as=true/\cg P fi N Y.body body=true)/\
 ∀f F,fi f=some F->qN P F/\match pg f with
  |some (.code fn)=>∃Fn c,P.funcs[F]?=some Fn/\Fn.body=some c/\cg P fi Fn.ntmps fn.body c=true/\er P fn.res Fn.results.toList=true
  |some (.lib L)=>∀vs gh r gh',L vs gh=some (r,gh')->(∀p∈vs,ah p=true)->eq P fi F vs gh r gh'
  |_=>pg f=none
theorem qO (hL:gq P fi pg) {n:Nat} (hc:i7 P fi pg n):go P fi (cV (ak pg n) pg):=by
 intro f vs gh r gh' F h hok hf;obtain⟨h1,h2⟩:=hL.2 f F hf;refine⟨h1,?_⟩;unfold cV at h;cases hp:pg f with
 |none=>rw[hp] at h;cases h
 | some df=>
  cases df with
  |lib L=>
   rw[hp] at h h2;exact h2 vs gh r gh' h hok
  |yl Y=>rw[hp] at h2;simp at h2
  | code fn=>
   rw[hp] at h h2;obtain⟨Fn,c,e1,e2,e3,e4⟩:=h2;simp only at h;split at h
   ·simp only[aC] at h
    obtain⟨x,hx,hfin⟩:=h;exact wS hc e1 e2 e3 e4 hx hfin
   ·cases h
theorem qP:∀{ks:List Nat} {vs:List PV} {t:Nat} {v:PV},get (ks.zip vs) t=some v->∃i:Nat,ks[i]?=some t/\vs[i]?=some v
 |[],vs,t,v,h=>by simp[get] at h
 |k::ks,[],t,v,h=>by simp[get] at h
 | k::ks,u::vs,t,v,h=>by
  simp only[List.zip_cons_cons,get] at h;split at h
  ·rename_i hkt;cases h;subst hkt;exact⟨0,rfl,rfl⟩
  ·obtain⟨i,h1,h2⟩:=qP h
   exact⟨i+1,h1,h2⟩
theorem Inv.leave (hI:Inv fi M w s a):GI fi {M.noLb with ds:=[] } w s.gh:=by
 have hx:Ext M.noLb w {M.noLb with ds:=[] } w:=⟨λ_ _ h=>h,λ_ _ h=>h,λ_ _ _=>rfl,λ_ _=>⟨cN _,λ_=>rfl⟩⟩
 have gx:Good M.noLb w {M.noLb with ds:=[] } w (λ_=>False) (λ_=>False):=
  ⟨hx,cN _,λ_ _ h=>h,λb l h _=>⟨h,rfl,λ_ h=>h,id,id⟩,λb _ _ h=>⟨rfl,λ_ h=>h,h⟩,λ_ _=>rfl⟩
 exact⟨λt v hv=>by simp[get] at hv,rfl,rfl,hI.gbl,by have:=hI.nodup;rw[cK] at this;simpa [Mem.noLb] using this.2.1,λi cs blk h=>by simp at h,
  λi o blk h1 h2=>((hI.gh i o blk h1 h2).noLb).good gx (by simp) (by simp),hI.gl,hI.immlt,hI.ownlt,hI.gblt⟩
theorem wT (hL:gq P fi pg) {n:Nat} (hc:i7 P fi pg n):gO P fi (cV (ak pg n) pg):=by
 intro y caps vs b gh gh' h hgb hok;intro M w args hG hlb hown hlen hrep l hl;obtain⟨q1,q2,r,q3,q4,q5,⟨N,q6,q7⟩,q8,q9,q10⟩:=hG.gh b _ l hgb hl;obtain⟨hst,hpd⟩:=q4 rfl;obtain⟨Y,hp,e1,e2,e3,e8,e4,e5,e6,e7⟩:=hL.1 y N _ _ _ q7;rw[e2] at q8 q10;unfold cV at h;rw[hp] at h;simp only at h;unfold gG at h;split at h
 ·rename_i b2 hb2
  split at h
  ·rename_i hlen2
   obtain⟨hlen2,hgb2⟩:=hlen2;simp only[aV,bB,cA] at hlen2;have hv1:vs.length=1:=by omega
   have hcap:(caps++vs++[PV.yl b]).take Y.ks.length=caps:=by rw[aY,List.take_append_of_le_length (by omega),<-q8,List.take_length]
   have hb':b2=b:=by rw[aR (by simp;omega)] at hb2;simp only[aV] at hb2;rw[show Y.ks.length+1-(caps.length+vs.length)=0 by omega] at hb2;simp at hb2;exact hb2.symm
   subst hb';rw[hcap] at h;obtain⟨v,rfl⟩:∃v,vs=[v]:=by
    match vs,hv1 with
    |[v],_=>exact⟨v,rfl⟩
   obtain⟨u,rfl⟩:∃u,args=[u]:=by
    match args,hlen with
    |[u],_=>exact⟨u,rfl⟩
   have hzip:(Y.ks++[Y.t]).zip (caps++[v]++[PV.yl b2])=(Y.ks++[Y.t]).zip (caps++[v]):=by rw[aY,List.zip_append (by omega),List.zip_append (by omega)];rfl
   rw[hzip] at h;have hyd:=run_yield (P:=P) (args:= #[u]) q3 (by rw[e1];rfl);have htmps:(r.params.zip #[u]).foldl (λtmps (t,a)=>tmps.setIfInBounds t a) r.tmps=r.tmps.setIfInBounds Y.t u:=by rw[e1];simp
   rw[htmps] at hyd;have hI:Inv fi M w ⟨(Y.ks++[Y.t]).zip (caps++[v]),[],gh⟩ {tmps:=r.tmps.setIfInBounds Y.t u,defers:=[] }:=by
    refine⟨λt p hv=>?_,hG.defers,hG.lbl,hG.gbl,hG.nodup,λi cs blk h=>by simp at h,hG.gh,hG.gl,hG.immlt,hG.ownlt,hG.gblt⟩;obtain⟨i,h1,h2⟩:=qP hv;by_cases hi:i<Y.ks.length
    ·rw[aJ hi] at h1
     rw[aJ (by omega)] at h2;have hne:Y.t≠t:=λh=>e3 (h▸aP h1)
     obtain⟨k1,k2⟩:=q10 i t p h1 h2;refine⟨by simpa using k1,?_⟩;simp only[cJ,Array.getElem?_setIfInBounds_ne hne] at k2 ⊢;exact k2.repE.repAt
    ·have hi2:=(aD.1 h1).1
     simp at hi2;have:i=Y.ks.length:=by omega
     subst this;simp at h1;subst h1;rw[show Y.ks.length=caps.length by omega] at h2;simp at h2;subst h2;have hlt:Y.t<r.tmps.size:=aS e8 q6;refine⟨by simpa using hlt,?_⟩;have:(r.tmps.setIfInBounds Y.t u).getD Y.t undef=u:=by simp[cJ,hlt]
     rw[this];exact (hrep 0 v u rfl rfl).repE.repAt
   refine⟨r.fn,_,r.assign,r.body,hyd,roundIn_of_wpIn trivial ?_⟩;split at h
   ·rename_i s1 hr1
    split at h
    ·rename_i hg1
     split at h
     ·rename_i s2 hr2
      split at h
      ·rename_i hg2
       cases h;refine wpIn_mono (hc (some l) 0 N Y.as r.assign _ .normal s1 _ M w (.inr e4) e6 hr1 hI (by simpa using q6)) ?_;rintro ex a1 w1 ⟨rfl,M1,hI1,k1,hs1⟩;have hl1:M1.gb[b2]?=some l:=k1.ext.gb _ _ hl;obtain⟨_,_,r1,p3,p4,_⟩:=hI1.gh _ _ _ hg1 hl1;obtain⟨hst1,hpd1⟩:=p4 rfl;obtain⟨d1,d2⟩:=hI1.setLoop (st':=2) (r':={r1 with state:= .busy }) hg1 hl1 p3 rfl rfl rfl rfl (λe=>by cases e) (λ_=>rfl);refine⟨_,run_beginRound p3 hst1,?_⟩;refine wpIn_mono (hc (some l) 0 N Y.body r.body _ .normal s2 a1 M1 _ (.inr e5) e7 hr2 d1 (by rw[hs1];simpa using q6)) ?_
       rintro ex a2 w2 ⟨rfl,M2,hI2,k2,hs2⟩;have hl2:M2.gb[b2]?=some l:=k2.ext.gb _ _ hl1;obtain⟨_,_,r2,z3,_,z5,_⟩:=hI2.gh _ _ _ hg2 hl2;obtain⟨f1,f2⟩:=hI2.setLoop (st':=1) (r':={r2 with state:= .ready,pending:=none }) hg2 hl2 z3 rfl rfl rfl rfl (λ_=>⟨rfl,rfl⟩) (λe=>by cases e);refine⟨_,_,run_endRound none z3,{M2.noLb with ds:=[] },rfl,f1.leave,rfl,?_⟩;have kk:=((k1.trans d2).trans k2).trans f2;exact⟨kk.os,kk.tape,kk.output,kk.size,⟨kk.ext.gb,kk.ext.imm,kk.ext.cell,kk.ext.st⟩,kk.block,λ_ h=>by simp[Mem.noLb] at h,kk.gbn,kk.ownn,kk.immn,.same hG.defers⟩
      ·cases h
     ·cases h
    ·cases h
   ·cases h
  ·cases h
 ·cases h
theorem kM (hP:P.follows .mixedOrders=true) (hL:gq P fi pg):∀n,i7 P fi pg n
 |0=>λr n0 N ic c s e s' a M w _ _ h=>by simp[ak] at h
 |n+1=>wM hP (kM hP hL n) (qO hL (kM hP hL n)) (wT hL (kM hP hL n))
theorem wU (hP:P.follows .mixedOrders=true) (hL:gq P fi pg) {f:Nat} {vs:List PV} {gh:List GObj} {r:PV} {gh':List GObj} {F:Nat} (h:af pg f vs gh=some (r,gh')) (hok:∀p∈vs,ah p=true) (hf:fi f=some F) :
  eq P fi F vs gh r gh':=by
 obtain⟨n,hn⟩:=kh pg h;exact (qO hL (kM hP hL n) f vs gh r gh' F hn hok hf).2
theorem mC {w:World} {b k:Nat} {v:Value} (h:w.cell? ⟨b,k,none⟩=some v):b<w.heap.size:=by
 rcases Nat.lt_or_ge b w.heap.size with h'|h'
 ·exact h'
 ·simp[World.cell?,Array.getElem?_eq_none h'] at h
def Mem.start (w:World):Mem:={lb:=[],gb:=[],imm:=λb _=>b<w.heap.size,own:=λ_=>none,st:=λ_=>(0,0,0) }
theorem GI.start (fi:FI) (w:World) (hg:∀x∈fi.gl,x.1<w.heap.size/\w.cell? ⟨x.1,x.2.1,none⟩=x.2.2):GI fi (Mem.start w) w []:=
 ⟨λt v hv=>by simp[get] at hv,rfl,rfl,rfl,by simp[Mem.start],λi cs blk h=>by simp at h,λi o blk h=>by simp at h,λx hx=>⟨(hg x hx).1,(hg x hx).2⟩,λb k h=>h,λb l h=>by simp[Mem.start] at h,λb h=>by simp[Mem.start] at h⟩
theorem wV (hP:P.follows .mixedOrders=true) (hL:gq P fi pg) {f F:Nat} {vs:List PV} {r:PV} (h:af pg f vs []=some (r,[])) (hok:∀p∈vs,ah p=true) (hf:fi f=some F) {args:List Value} (hl:args.length=vs.length) (hg:∀x∈fi.gl,x.1<w.heap.size/\w.cell? ⟨x.1,x.2.1,none⟩=x.2.2)
  (hr:∀(i:Nat) (p:PV) (v:Value),vs[i]?=some p->args[i]?=some v->RepP fi (Mem.start w) w p v) :
  Calls P F args.toArray w λe w'=>∃v M',e= .returned v/\al r=true/\RepAt fi M' w' Loc.res r v/\w'.os=w.os/\w'.tape=w.tape/\w'.output=w.output/\w.heap.size<=w'.heap.size/\∀k,k<w.heap.size->w'.heap[k]?=w.heap[k]?:=by
 refine Calls.mono (wU hP hL h hok hf (Mem.start w) w args (GI.start fi w hg) rfl (λb l h=>by simp[Mem.start] at h) hl hr) ?_;rintro e w' ⟨v,M',rfl,_,_,h3,h4,h5⟩;exact⟨v,M',rfl,h3,h4,h5.os,h5.tape,h5.output,h5.size,λk hk=>h5.block k hk (by simp[Mem.start]) (by simp[Mem.start]) rfl⟩
end
end
section
open Go.RowKit
abbrev YP:=Nat->Nat->Array Tmp->Code->Code->Bool
abbrev FI.nY (fi:FI) (q:YP):FI:=⟨fi.f,fi.gl,fi.bT,fi.u8,fi.gw,fi.gwok,fi.yk,q⟩
theorem jL {fi:FI} {q:YP}:mX (fi.nY q)=mX fi:=rfl
theorem ra {fi:FI} {q:YP}:mXs (fi.nY q)=mXs fi:=by
 funext xs os
 induction xs generalizing os with
 |nil=>cases os<;>rfl
 |cons x l ih=>
  cases os with
  |nil=>rfl
  |cons o m=>simp only[mXs,ih,jL]
theorem w7 {P:Program} {fi:FI} {q:YP}:eW P (fi.nY q)=eW P fi:=by
 funext t xs os
 induction xs generalizing os with
 |nil=>cases os<;>rfl
 | cons x l ih=>
  cases os with
  |nil=>rfl
  |cons o m=>
   obtain⟨a,b,c⟩:=x;obtain⟨d,e⟩:=o;simp only[eW,ih,jL]
theorem w8 {fi:FI} {q:YP}:mXo (fi.nY q)=mXo fi:=rfl
theorem w9 {P:Program} {fi:FI} {q:YP}:mOp P (fi.nY q)=mOp P fi:=by unfold mOp;simp only[jL,ra,w8,w7]
theorem xa {P:Program} {fi:FI} {q:YP}:b5 P (fi.nY q)=b5 P fi:=by unfold b5;simp only[jL,ra,w9]
theorem re {P:Program} {fi:FI} {q:YP} {N:Nat} {ops:Array Oper}:∀{is:List IOpG} {os:List Oper},eB P (fi.nY q) N ops is os=eB P fi N ops is os
 |[],[]=>rfl
 |[],_::_=>rfl
 |_::_,[]=>rfl
 |i::is,o::os=>by simp only[eB,re (is:=is),iS,xa]
theorem rf {P:Program} {fi:FI} {q:YP} {N:Nat}:∀{ic:ICode} {c:Code},dx ic=true->cg P (fi.nY q) N ic c=cg P fi N ic c:=by
 intro ic
 induction ic with
 |post ic ks nl ih=>intro c h;simp only[cg];exact ih h
 |lift ic ks t ih=>intro c h;simp only[cg];exact ih h
 |cut ic ih=>intro c h;simp only[cg];exact ih h
 |seq a b iha ihb=>
  intro c h;simp only[dx,aX] at h;cases c<;>simp only[cg,iha h.1,ihb h.2]
 |cond x a b iha ihb=>
  intro c h;simp only[dx,aX] at h;cases c<;>simp only[cg,iha h.1,ihb h.2,jL]
 |block i a ih=>intro c h;cases c<;>simp only[cg,ih h]
 |loop a ih=>intro c h;cases c<;>simp only[cg,ih h]
 |region is d=>intro c h;cases c<;>simp only[cg,re]
 |rangeF=>intro c h;cases h
 |_=>intro c h;cases c<;>rfl
end
section
open Go.RowKit
section
variable {fi:FI} {M M':Mem} {w w':World} {P:Program} {s s':St} {a:Act} {cf:CallF}
theorem Bv {ops:Array Oper} {Q:Exit->Act->World->Prop} {o:Oper} {rest:List Oper} (h:if Region.wanted o (yielded ops a.tmps) then o.wp P a w (wpList P ops Q rest) Q else wpList P ops Q rest (a.put o.dst undef) w):wpList P ops Q (o::rest) a w:=by
 unfold wpList;split
 ·rename_i hw;rw[if_pos hw] at h;exact .inl h
 ·rename_i hw;rw[if_neg hw] at h;exact h
end
end
end Go.Lw