/-
  The texts that the proof stands on, part 14.
-/
import Derived.Test.YtmodipglnngghacDoorTextBackM
import Derived.Orders
set_option linter.unusedVariables false
set_option linter.unusedSimpArgs false
set_option linter.unnecessarySimpa false

/-! Regions whose order is drawn: every order that may be drawn comes to the same. -/
section
namespace Go.Lw
open Go Go.RowKit
section
variable {fi:FI} {M M':Mem} {w w':World} {P:Program} {s s' s1 s2 t1 t2:St} {a:Act} {cf:CallF}
def farS (_ _:IOpG):Bool:=false
def farK (_ _:IOpG):Bool:=false
def swapOk (p x:IOpG):Bool:=apartS p x&&(clsOk (cls p.op) (cls x.op)||farS p x||farK p x)
theorem swapFar {p x:IOpG} (ha:apartS p x=true) (hf:farS p x=true) (h1:opG cf p s=some s1) (h2:opG cf x s1=some s2) :
  ∃t1 t2,opG cf x s=some t1∧opG cf p t1=some t2∧Eqv s2 t2:=by
 cases hf
theorem keptB.symm {e:List (Nat×PV)} {gh gh':List GObj} {n:Nat} (h:keptB e gh gh' n):keptB e gh' gh n:=by
 have key:∀b,b<gh.length∧gh'[b]?=gh[b]?→b<gh'.length∧gh[b]?=gh'[b]?:=fun b hb=>
  ⟨(List.getElem?_eq_some_iff.1 (hb.2.trans (List.getElem?_eq_getElem hb.1))).1,hb.2.symm⟩
 unfold keptB at *
 split at h
 ·exact key _ h
 ·exact key _ h
 ·exact key _ h
 ·exact h.elim
theorem swapK {p x:IOpG} (ha:apartS p x=true) (hf:farK p x=true) (h1:opG cf p s=some s1) (h2:opG cf x s1=some s2) :
  ∃t1 t2,opG cf x s=some t1∧opG cf p t1=some t2∧Eqv s2 t2:=by
 cases hf
theorem swapAny {p x:IOpG} (h:swapOk p x=true) (h1:opG cf p s=some s1) (h2:opG cf x s1=some s2) :
  ∃t1 t2,opG cf x s=some t1∧opG cf p t1=some t2∧Eqv s2 t2:=by
 simp only[swapOk,Bool.and_eq_true,Bool.or_eq_true] at h
 rcases h.2 with (h3|h3)|h3
 ·exact swap h.1 h3 h1 h2
 ·exact swapFar h.1 h3 h1 h2
 ·exact swapK h.1 h3 h1 h2
theorem Eqv.refl (s:St):Eqv s s:=⟨fun _=>rfl,rfl,rfl⟩
theorem Eqv.trans (h:Eqv s s1) (h2:Eqv s1 s2):Eqv s s2:=⟨fun t=>(h2.1 t).trans (h.1 t),h2.2.1.trans h.2.1,h2.2.2.trans h.2.2⟩
theorem jlk {i:IOpG} (h:opG cf i s=some s') (he:Eqv s s2):∃s2',opG cf i s2=some s2'∧Eqv s' s2':=by
 obtain⟨s2',h1,h2,h3⟩:=jc4 (s2:=s2) i (fun t _=>he.1 t) (hok_eq he.2.1 he.2.2) h
 refine⟨s2',h1,fun t=>?_,res_eq h3 he.2.1 he.2.2⟩
 rw[h2 t]
 by_cases hw:t∈wr i.op
 ·rw[if_pos hw]
 ·rw[if_neg hw,he.1 t,jdz i h hw]
theorem jg5:∀{l:List IOpG} {s s' s2:St},opsRun cf l s=some s'→Eqv s s2→∃s2',opsRun cf l s2=some s2'∧Eqv s' s2'
 |[],s,s',s2,h,he=>by simp[opsRun] at h;subst h;exact⟨s2,rfl,he⟩
 |i::l,s,s',s2,h,he=>by
  rw[jbq,Option.bind_eq_some_iff] at h
  obtain⟨s1,h1,h2⟩:=h
  obtain⟨s3,h3,h4⟩:=jlk h1 he
  obtain⟨s4,h5,h6⟩:=jg5 h2 h4
  exact⟨s4,by rw[jbq,h3];exact h5,h6⟩
theorem toFront {x:IOpG} {suf:List IOpG}:∀{pre:List IOpG} {s s':St},opsRun cf (pre++x::suf) s=some s'→(∀p∈pre,swapOk p x=true)→
  ∃t1 t',opG cf x s=some t1∧opsRun cf (pre++suf) t1=some t'∧Eqv s' t'
 |[],s,s',h,_=>by
  rw[List.nil_append,jbq,Option.bind_eq_some_iff] at h
  obtain⟨t1,h1,h2⟩:=h
  exact⟨t1,s',h1,h2,Eqv.refl s'⟩
 |p::pre,s,s',h,hp=>by
  rw[List.cons_append,jbq,Option.bind_eq_some_iff] at h
  obtain⟨s1,h1,h2⟩:=h
  obtain⟨s2,s'',h3,h4,h5⟩:=toFront h2 (fun q hq=>hp q (by simp[hq]))
  obtain⟨t1,t2,h6,h7,h8⟩:=swapAny (hp p (by simp)) h1 h3
  obtain⟨t',h9,h10⟩:=jg5 h4 h8
  exact⟨t1,t',h6,by rw[List.cons_append,jbq,h7];exact h9,h5.trans h10⟩
theorem Inv.eqv (hI:Inv fi M w s a) (h:Eqv s s2):Inv fi M w s2 a where
 env:=fun t v hv=>hI.env t v (by rw[←h.1 t];exact hv)
 defers:=hI.defers
 lbl:=by rw[h.2.1];exact hI.lbl
 gbl:=by rw[h.2.2];exact hI.gbl
 nodup:=hI.nodup
 lh:=by rw[h.2.1];exact hI.lh
 gh:=by rw[h.2.2];exact hI.gh
 gl:=hI.gl
 immlt:=hI.immlt
 ownlt:=hI.ownlt
 gblt:=hI.gblt
theorem Eqv.symm (h:Eqv s s2):Eqv s2 s:=⟨fun t=>(h.1 t).symm,h.2.1.symm,h.2.2.symm⟩
end
end Go.Lw
end

/-! Regions whose order is drawn. -/
section
namespace Go.Lw
open Go Go.RowKit
section
variable {fi:FI} {M M':Mem} {w w':World} {P:Program} {s s' s1 s2 t1 t2:St} {a:Act} {cf:CallF}
def reaches (ops:Array Oper):Nat→Nat→Nat→Bool
 |0,_,_=>false
 |f+1,i,j=>match ops[i]? with
  |some o=>o.after.any fun e=>Region.binds .any e&&(e.on==j||(decide (j<e.on)&&reaches ops f e.on j))
  |none=>false
def drawOk (ops:Array Oper) (is:List IOpG):Bool:=
 (List.range ops.size).all fun i=>
  (match ops[i]? with
   |some o=>o.after.all fun e=> !Region.binds .any e||decide (e.on<i)
   |none=>true) &&
  (List.range i).all fun j=>reaches ops ops.size i j||(match is[j]?,is[i]? with
   |some p,some x=>swapOk p x
   |_,_=>false)
def nth (is:List IOpG) (j:Nat):IOpG:=(is[j]?).getD ⟨.mkmap 0,none⟩
def rest (ops:Array Oper) (listed:Array Bool):List Nat:=(List.range ops.size).filter fun j=> !listed.getD j true
def Closed (ops:Array Oper) (listed:Array Bool):Prop:=
 ∀(i:Nat) (o:Oper) (e:Edge),ops[i]?=some o→listed.getD i false=true→e∈o.after→Region.binds .any e=true→listed.getD e.on false=true
theorem jg6 {ops:Array Oper} {listed:Array Bool} (hc:Closed ops listed):∀(f i j:Nat),reaches ops f i j=true→
  (∀o,ops[i]?=some o→∀e∈o.after,Region.binds .any e=true→listed.getD e.on false=true)→listed.getD j false=true
 |0,i,j,h,_=>by simp[reaches] at h
 | f+1,i,j,h,hp=>by
  simp only[reaches] at h
  split at h
  ·rename_i o ho
   obtain⟨e,he,h1⟩:=Array.any_eq_true'.1 h
   simp only[Bool.and_eq_true,Bool.or_eq_true,beq_iff_eq,decide_eq_true_eq] at h1
   have hl:=hp o ho e he h1.1
   rcases h1.2 with h2|⟨_,h2⟩
   ·rw[←h2];exact hl
   ·exact jg6 hc f e.on j h2 (fun o' ho' e' he' hb=>hc e.on o' e' ho' hl he' hb)
  ·cases h
theorem je0 {N:Nat} {ops:Array Oper}:∀{is:List IOpG} {os:List Oper},mOps P fi N ops is os=true→is.length=os.length∧∀(i:Nat) (o:Oper),os[i]?=some o→∃x,is[i]?=some x∧mOpG P fi N ops x o=true
 |[],[],_=>by simp
 |[],_::_,h=>by simp[mOps] at h
 |_::_,[],h=>by simp[mOps] at h
 |x::is,o::os,h=>by
  simp only[mOps,Bool.and_eq_true] at h
  obtain⟨h1,h2⟩:=je0 h.2
  refine⟨by simp[h1],fun i o' ho=>?_⟩
  cases i with
  |zero=>simp at ho;subst ho;exact⟨x,rfl,h.1⟩
  |succ i=>obtain⟨y,e1,e2⟩:=h2 i o' (by simpa using ho);exact⟨y,by simpa using e1,e2⟩
theorem jll {ops:Array Oper} {listed:Array Bool} {i:Nat} (hs:listed.size=ops.size) (hi:i<ops.size) (hu:listed.getD i true=false) :
  ∃pre suf,rest ops listed=pre++i::suf∧rest ops (listed.setIfInBounds i true)=pre++suf∧∀j∈pre,j<i∧listed.getD j true=false:=by
 refine⟨(List.range i).filter fun j=> !listed.getD j true,(List.range' (i+1) (ops.size-i-1)).filter fun j=> !listed.getD j true,?_,?_,fun j hj=>?_⟩
 ·have e:List.range ops.size=List.range i++i::List.range' (i+1) (ops.size-i-1):=by
   rw[List.range_eq_range',List.range_eq_range',←List.range'_succ,show ops.size-i-1+1=ops.size-i by omega]
   have:=List.range'_append_1 (s:=0) (m:=i) (n:=ops.size-i)
   simp only[Nat.zero_add] at this
   rw[this];congr 1;omega
  rw[rest,e,List.filter_append,List.filter_cons,hu];rfl
 ·have e:List.range ops.size=List.range i++i::List.range' (i+1) (ops.size-i-1):=by
   rw[List.range_eq_range',List.range_eq_range',←List.range'_succ,show ops.size-i-1+1=ops.size-i by omega]
   have:=List.range'_append_1 (s:=0) (m:=i) (n:=ops.size-i)
   simp only[Nat.zero_add] at this
   rw[this];congr 1;omega
  have hi':(listed.setIfInBounds i true).getD i true=true:=by simp[hs,hi]
  rw[rest,e,List.filter_append,List.filter_cons,hi']
  simp only[Bool.not_true,Bool.false_eq_true,if_false]
  congr 1
  ·refine List.filter_congr fun j hj=>?_
   have:i≠j:=by simp at hj;omega
   rw[getD_set_ne true this]
  ·refine List.filter_congr fun j hj=>?_
   have:i≠j:=by simp[List.mem_range'] at hj;omega
   rw[getD_set_ne true this]
 ·simp only[List.mem_filter,List.mem_range,Bool.not_eq_true'] at hj
  exact hj
theorem any_wp (hcf:CfOk P fi cf) {N:Nat} {ops:Array Oper} {is:List IOpG} {Q:Exit→Act→World→Prop} (hm:mOps P fi N ops is ops.toList=true) (hd:drawOk ops is=true) :
  ∀(fuel:Nat) (listed:Array Bool) (s s1:St) (a:Act) (M:Mem) (w:World),listed.size=ops.size→Closed ops listed→(rest ops listed).length≤fuel→Inv fi M w s a→N≤a.tmps.size→
  opsRun cf ((rest ops listed).map (nth is)) s=some s1→(∀a' M' w',Inv fi M' w' s1 a'→Kp M w M' w'→a'.tmps.size=a.tmps.size→Q .normal a' w')→wpAny P .any ops Q fuel listed a w:=by
 have hnil:∀(listed:Array Bool),listed.size=ops.size→Region.ready .any ops listed=[]→rest ops listed=[]:=by
  intro listed hs hr
  have all:∀n i,i<n→i<ops.size→listed.getD i true=true:=by
   intro n
   induction n with
   |zero=>intro i h;omega
   | succ n ih=>
    intro i _ hi
    cases hu:listed.getD i true with
    |true=>rfl
    | false=>
     have:i∈Region.ready .any ops listed:=by
      rw[mem_ready]
      refine⟨hu,ops[i],Array.getElem?_eq_getElem hi,fun e he hb=>?_⟩
      have h1:=List.all_eq_true.1 hd i (by simp[hi])
      rw[Bool.and_eq_true,Array.getElem?_eq_getElem hi] at h1
      have h2:=Array.all_eq_true_iff_forall_mem.1 h1.1 e he
      rw[hb] at h2
      simp at h2
      have h3:=ih e.on (by omega) (by omega)
      have h4:e.on<listed.size:=by omega
      simpa [h4] using h3
     rw[hr] at this;cases this
  rw[rest,List.filter_eq_nil_iff]
  intro i hi
  simp at hi
  simp only[all (i+1) i (by omega) hi,Bool.not_true,Bool.false_eq_true,not_false_eq_true]
 obtain⟨hlen,hget⟩:=je0 hm
 intro fuel
 induction fuel with
 | zero=>
  intro listed s s1 a M w hs hcl hf hI hN hrun hn
  have hr:rest ops listed=[]:=List.length_eq_zero_iff.1 (by omega)
  rw[hr] at hrun
  simp[opsRun] at hrun
  subst hrun
  refine⟨?_,hn a M w hI (Kp.refl M w) rfl⟩
  rw[List.eq_nil_iff_forall_not_mem]
  intro i hi
  rw[mem_ready] at hi
  obtain⟨h1,o,h2,_⟩:=hi
  have h3:i∈rest ops listed:=by
   rw[rest,List.mem_filter]
   exact⟨by simp[(Array.getElem?_eq_some_iff.1 h2).1],by rw[h1];rfl⟩
  rw[hr] at h3;cases h3
 | succ fuel ih=>
  intro listed s s1 a M w hs hcl hf hI hN hrun hn
  refine⟨fun hr=>?_,fun i hi=>?_⟩
  ·rw[hnil listed hs hr] at hrun
   simp[opsRun] at hrun
   subst hrun
   exact hn a M w hI (Kp.refl M w) rfl
  ·rw [mem_ready] at hi
   obtain⟨hu,o,ho,hedge⟩:=hi
   have hlt:i<ops.size:=(Array.getElem?_eq_some_iff.1 ho).1
   obtain⟨pre,suf,e1,e2,e3⟩:=jll hs hlt hu
   obtain⟨x,hx,hmx⟩:=hget i o (by simpa using ho)
   have hnx:nth is i=x:=by simp[nth,hx]
   rw[e1,List.map_append,List.map_cons,hnx] at hrun
   obtain⟨u1,u2,h1,h2,h3⟩:=toFront hrun (fun p hp=>by
    obtain⟨j,hj,rfl⟩:=List.mem_map.1 hp
    obtain⟨j1,j2⟩:=e3 j hj
    have hdi:=List.all_eq_true.1 hd i (by simp[hlt])
    rw[Bool.and_eq_true] at hdi
    have hdj:=List.all_eq_true.1 hdi.2 j (by simp[j1])
    rw[Bool.or_eq_true] at hdj
    rcases hdj with hdj|hdj
    ·have:=jg6 hcl _ i j hdj (fun o' ho' e he hb=>by rw[ho] at ho';cases ho';exact hedge e he hb)
     have hjs:j<listed.size:=by omega
     simp[hjs] at this j2
     rw[this] at j2;cases j2
    ·split at hdj
     ·rename_i p' x' hp' hx'
      rw[hx] at hx';cases hx'
      simpa [nth,hp'] using hdj
     ·cases hdj)
   unfold wpOp
   rw[ho]
   have:=opG_wp (Q:=Q) (next:=wpAny P .any ops Q fuel (listed.setIfInBounds i true)) hcf hI hmx hN h1 (fun a' M' w' hI' hk hsz=>
    ih (listed.setIfInBounds i true) u1 u2 a' M' w' (by simp[hs]) (fun k o' e ho' hl he hb=>by
     by_cases hki:i=k
     ·subst hki
      rw[ho] at ho';cases ho'
      exact getD_set_true (hedge e he hb)
     ·rw[getD_set_ne false hki] at hl
      exact getD_set_true (hcl k o' e ho' hl he hb)) (by rw[e2];rw[e1] at hf;simp at hf ⊢;omega) hI' (by omega) (by rw[e2,List.map_append];exact h2)
     (fun a2 M2 w2 hI2 hk2 hs2=>hn a2 M2 w2 (hI2.eqv h3.symm) (hk.trans hk2) (hs2.trans hsz)))
   simp only
   split
   ·rename_i hw;rw[if_pos hw] at this;exact .inl this
   ·rename_i hw;rw[if_neg hw] at this;exact this
theorem jlm (is:List IOpG):(List.range is.length).map (nth is)=is:=by
 apply List.ext_getElem?
 intro j
 by_cases hj:j<is.length
 ·simp[nth,hj]
 ·simp[hj]
theorem jln (hP:P.follows .mixedOrders=true) (hcf:CfOk P fi cf) {N id:Nat} {ops:Array Oper} {is:List IOpG} {Q:Exit→Act→World→Prop} (hm:mOps P fi N ops is ops.toList=true) (hd:drawOk ops is=true) (hI:Inv fi M w s a) (hN:N≤a.tmps.size)
  (h:opsRun cf is s=some s') (hn:∀a' M' w',Inv fi M' w' s' a'→Kp M w M' w'→a'.tmps.size=a.tmps.size→Q .normal a' w'):(Code.region id ops true).wp P Q a w:=by
 have hlen:is.length=ops.size:=by rw[(je0 hm).1];simp
 obtain⟨hI',hk⟩:=hI.drew
 refine wp_region_any hP (any_wp hcf hm hd ops.size _ s s' a M w.drew (by simp) ?_ ?_ hI' hN ?_ (fun a' M' w' h1 h2 h3=>hn a' M' w' h1 (hk.trans h2) h3))
 ·intro i o e ho hl
  have hi:=(Array.getElem?_eq_some_iff.1 ho).1
  simp[hi] at hl
 ·exact Nat.le_trans (List.length_filter_le _ _) (by simp)
 ·have hr:rest ops (Array.replicate ops.size false)=List.range ops.size:=by
   rw[rest,List.filter_eq_self]
   intro j hj
   simp at hj
   simp[hj]
  rw[hr,←hlen,jlm];exact h
end
end Go.Lw
end

/-! What code of the machine comes to, the Go code that it stands for comes to. -/
section
namespace Go.Lw
open Go Go.RowKit
section
variable {fi:FI} {M M':Mem} {w w':World} {P:Program} {s s' s1 s2 t1 t2:St} {a:Act} {cf:CallF} {pg:Prg}
def matchC (P:Program) (fi:FI) (N:Nat):ICode→Code→Bool
 | .post ic _ _,c=>matchC P fi N ic c
 | .cut ic,c=>matchC P fi N ic c
 | .bad,_=>true
 | .skip,.skip=>true
 | .region is d,.region _ ops d'=>d==d'&&mOps P fi N ops is ops.toList&&(!d||drawOk ops is)
 | .seq a b,.seq x y=>matchC P fi N a x&&matchC P fi N b y
 | .cond x a b,.cond o c d=>mX fi x o&&matchC P fi N a c&&matchC P fi N b d
 | .block i a,.block j c=>i==j&&matchC P fi N a c
 | .loop a,.loop c=>matchC P fi N a c
 | .exit i,.exit j=>i==j
 | .ret,.ret=>true
 |_,_=>false
def exTo:IExit→Exit
 | .normal=> .normal
 | .exit i=> .exit i
 | .ret=> .ret
theorem jcu {nl:Nat} {e:List (Nat×PV)}:∀{ks:List Nat} {t:Nat} {v:PV},get (keep nl ks e) t=some v→get e t=some v∧stays nl v=true
 |[],t,v,h=>by simp[keep,get] at h
 | k::ks,t,v,h=>by
  simp only[keep] at h
  cases hk:get e k with
  |none=>rw[hk] at h;exact jcu h
  | some u=>
   rw[hk] at h
   simp only at h
   split at h
   ·rename_i hs
    simp only[get] at h
    split at h
    ·rename_i hkt;subst hkt;cases h;exact⟨hk,hs⟩
    ·exact jcu h
   ·exact jcu h
theorem Inv.keep (hI:Inv fi M w s a) (ks:List Nat) (nl:Nat) :
  Inv fi {M with lb:=M.lb.take nl } w ⟨Lw.keep nl ks s.env,s.lh.take nl,s.gh⟩ a∧Kp M w {M with lb:=M.lb.take nl } w:=by
 have hx:Ext M w {M with lb:=M.lb.take nl } w:=⟨fun _ _ h=>h,fun _ _ h=>h,fun _ _ _=>rfl,fun _ _=>⟨Nat.le_refl _,fun _=>rfl⟩⟩
 have hsub:∀b,b∈M.lb.take nl→b∈M.lb:=fun b h=>List.mem_of_mem_take h
 have ow:∀{l:Loc} {z:Nat} {xs:List PV} {v:Value},OwnRep fi M w l z xs v→OwnRep fi {M with lb:=M.lb.take nl } w l z xs v:=by
  intro l z xs v h
  obtain⟨h1,h2⟩:=h
  refine⟨h1.mono hx,?_⟩
  rcases h2 with h2|⟨b,o,c,cs,e,hv,ho,hh,hs,hk,hb1,hb2⟩
  ·exact .inl h2
  ·exact .inr ⟨b,o,c,cs,e,hv,ho,hh,hs,hk,fun h=>hb1 (hsub b h),hb2⟩
 have rc:∀{l:Loc} {p:PV} {v:Value},RepC fi M w l p v→RepC fi {M with lb:=M.lb.take nl } w l p v:=by
  intro l p v h
  unfold RepC at *
  split at h
  ·exact ow h
  ·exact h.mono hx
 have rb:∀{mk:Nat→Loc} {blk:Nat} {cs:List PV},RepBox fi M w mk blk cs→RepBox fi {M with lb:=M.lb.take nl } w mk blk cs:=by
  intro mk blk cs h
  obtain⟨h1,h2,h3,h4,vs,T,h5,h6,h7⟩:=h
  exact⟨h1,h2,h3,h4,vs,T,h5,h6,fun i c u hc hu=>rc (h7 i c u hc hu)⟩
 refine⟨⟨fun t v hv=>?_,hI.defers,by simp[hI.lbl],hI.gbl,?_,fun i cs blk h1 h2=>?_,fun i o blk h1 h2=>?_,hI.gl,hI.immlt,hI.ownlt,hI.gblt⟩,
  ⟨rfl,rfl,rfl,Nat.le_refl _,hx,fun _ _ _ _ _=>rfl,fun k h=> .inl (hsub k h),fun _ h=> .inl h,fun _ _ h=>h,fun _ _ h=> .inl h⟩⟩
 ·obtain⟨h1,h2⟩:=jcu hv
  obtain⟨h3,h4⟩:=hI.env t v h1
  refine⟨h3,?_⟩
  unfold RepAt at *
  split at h4
  ·exact ow h4
  ·obtain⟨h0,b,T,c,hv,hc,ho,hh,hk,hb1,hb2⟩:=h4
   exact⟨h0,b,T,c,hv,hc,ho,hh,hk,fun h=>hb1 (hsub b h),hb2⟩
  ·obtain⟨vs,e1,e2,e3⟩:=h4
   exact⟨vs,e1,e2,fun i c u hc hu=>rc (e3 i c u hc hu)⟩
  ·obtain⟨vs,e1,e2,e3⟩:=h4
   exact⟨vs,e1,e2,fun i c u hc hu=>rc (e3 i c u hc hu)⟩
  ·unfold RepE at *
   split at h4
   ·obtain⟨blk,e1,e2⟩:=h4
    simp only[stays,decide_eq_true_eq] at h2
    exact⟨blk,by simp only[List.getElem?_take,h2,if_true];exact e1,e2⟩
   ·obtain⟨blk,A,c,e1,e2⟩:=h4
    simp only[stays,decide_eq_true_eq] at h2
    exact⟨blk,A,c,by simp only[List.getElem?_take,h2,if_true];exact e1,e2⟩
   ·exact h4.mono hx
 ·have:=hI.nodup
  rw[List.nodup_append] at this ⊢
  exact⟨this.1.sublist (List.take_sublist _ _),this.2.1,fun x hx y hy=>this.2.2 x (hsub x hx) y hy⟩
 ·simp only[List.getElem?_take] at h1 h2
  split at h1
  ·rename_i hlt
   rw[if_pos hlt] at h2
   exact rb (hI.lh i cs blk h1 h2)
  ·cases h1
 ·have:=hI.gh i o blk h1 h2
  cases o with
  |cells cs=>exact rb this
  |map es=>
   obtain⟨h1,h2,l,clock,h3,h4,h5⟩:=this
   exact⟨h1,h2,l,clock,h3,h4,fun i e m he hm=>⟨(h5 i e m he hm).1.mono hx,(h5 i e m he hm).2.1.mono hx,(h5 i e m he hm).2.2⟩⟩
  | stk gen xs=>
   obtain⟨h1,h2,h3,h4,h5,cs,T,h6,h7,h8,h9⟩:=this
   exact⟨h1,h2,h3,h4,h5,cs,T,h6,h7,h8,fun j x hj=>by
    obtain⟨u,hu,hr⟩:=h9 j x hj
    exact⟨u,hu,hr.mono hx⟩⟩
  |bld t=>
   obtain⟨h1,h2,h3,T,hT,h4⟩:=this
   refine⟨h1,h2,h3,T,hT,?_⟩
   rcases h4 with h4|⟨c,cap,cur,h5,h6,h7,h8⟩
   ·exact .inl h4
   ·exact .inr ⟨c,cap,cur,h5,h6,fun h=>h7 (List.mem_of_mem_take h),h8⟩
def CPost (fi:FI) (M:Mem) (w:World) (n:Nat) (e:IExit) (s':St):Exit→Act→World→Prop:=
 fun ex a' w'=>ex=exTo e∧∃M',Inv fi M' w' s' a'∧Kp M w M' w'∧a'.tmps.size=n
def CodeOk (P:Program) (fi:FI) (pg:Prg) (n:Nat):Prop:=
 ∀(N:Nat) (ic:ICode) (c:Code) (s:St) (e:IExit) (s':St) (a:Act) (M:Mem) (w:World),matchC P fi N ic c=true→irun pg n ic s=some (e,s')→Inv fi M w s a→N≤a.tmps.size→
  c.wp P (CPost fi M w a.tmps.size e s') a w
theorem least {T:Nat→Prop} (h:∃m,T m):∃m,T m∧∀k,T k→m≤k:=by
 obtain⟨m,hm⟩:=h
 induction m using Nat.strongRecOn with
 | _ m ih=>
  by_cases hx:∃k,k<m∧T k
  ·obtain⟨k,hk,ht⟩:=hx
   exact ih k hk ht
  ·refine⟨m,hm,fun k hk=>?_⟩
   by_cases hlt:k<m
   ·exact absurd ⟨k,hlt,hk⟩ hx
   ·omega
theorem CPost.mono {n:Nat} {e:IExit} {ex:Exit} {a':Act} {w2:World} {M1:Mem} {w1:World} (hk:Kp M w M1 w1) (h:CPost fi M1 w1 n e s' ex a' w2):CPost fi M w n e s' ex a' w2:=by
 obtain⟨h1,M',h2,h3,h4⟩:=h
 exact⟨h1,M',h2,hk.trans h3,h4⟩
theorem jlo (hP:P.follows .mixedOrders=true) {n:Nat} (ih:CodeOk P fi pg n) (hcf:CfOk P fi (callBy (irun pg n) pg)):CodeOk P fi pg (n+1):=by
 intro N ic
 induction ic with
 |bad=>
  intro c s e s' a M w hm h hI hN
  simp[irun] at h
 |cut ic ihc=>
  intro c s e s' a M w hm h hI hN
  exact ih N ic c s e s' a M w hm h hI hN
 | post ic ks nl ihc=>
  intro c s e s' a M w hm h hI hN
  simp only[matchC] at hm
  rw[irun] at h
  cases ha:irun pg n ic s with
  |none=>simp[ha] at h
  | some x=>
   obtain⟨e1,s1⟩:=x
   rw[ha] at h
   have hw:=ih N ic c s e1 s1 a M w hm ha hI hN
   refine wp_mono hw ?_
   rintro ex a' w' ⟨h1,M',h2,h3,h4⟩
   cases e1 with
   |normal=>
    simp only[Option.some.injEq,Prod.mk.injEq] at h
    obtain⟨rfl,rfl⟩:=h
    obtain⟨k1,k2⟩:=h2.keep ks nl
    exact⟨h1,_,k1,h3.trans k2,h4⟩
   |exit i=>
    simp only[Option.some.injEq,Prod.mk.injEq] at h
    obtain⟨rfl,rfl⟩:=h
    exact⟨h1,M',h2,h3,h4⟩
   |ret=>
    simp only[Option.some.injEq,Prod.mk.injEq] at h
    obtain⟨rfl,rfl⟩:=h
    exact⟨h1,M',h2,h3,h4⟩
 |skip=>
  intro c s e s' a M w hm h hI hN
  cases c<;>simp[matchC] at hm
  simp[irun] at h
  obtain⟨rfl,rfl⟩:=h
  exact wp_skip ⟨rfl,M,hI,Kp.refl M w,rfl⟩
 |ret=>
  intro c s e s' a M w hm h hI hN
  cases c<;>simp[matchC] at hm
  simp[irun] at h
  obtain⟨rfl,rfl⟩:=h
  exact wp_ret ⟨rfl,M,hI,Kp.refl M w,rfl⟩
 |exit i=>
  intro c s e s' a M w hm h hI hN
  cases c<;>simp[matchC] at hm
  subst hm
  simp[irun] at h
  obtain⟨rfl,rfl⟩:=h
  exact wp_exit ⟨rfl,M,hI,Kp.refl M w,rfl⟩
 |region is d=>
  intro c s e s' a M w hm h hI hN
  cases c<;>simp[matchC] at hm
  rename_i id ops d'
  obtain⟨⟨rfl,hops⟩,hd⟩:=hm
  simp only[irun,Option.map_eq_some_iff,Prod.mk.injEq] at h
  obtain⟨s1,h1,rfl,rfl⟩:=h
  cases d with
  |false=>exact wp_region_list (ops_wp hcf hops hI hN h1 (fun a' M' w' hI' hk hs=>⟨rfl,M',hI',hk,hs⟩))
  |true=>exact jln hP hcf hops (by simpa using hd) hI hN h1 (fun a' M' w' hI' hk hs=>⟨rfl,M',hI',hk,hs⟩)
 | seq x y _ _=>
  intro c s e s' a M w hm h hI hN
  cases c<;>simp[matchC] at hm
  rename_i c d
  rw[irun] at h
  refine wp_seq ?_
  cases ha:irun pg n x s with
  |none=>simp[ha] at h
  | some r=>
   obtain⟨e1,s1⟩:=r
   rw[ha] at h
   refine wp_mono (ih N x c s e1 s1 a M w hm.1 ha hI hN) ?_
   rintro ex a' w' ⟨h1,M',h2,h3,h4⟩
   subst h1
   cases e1 with
   |normal=>
    simp only at h
    exact wp_mono (ih N y d s1 e s' a' M' w' hm.2 h h2 (by omega)) (fun ex a2 w2 hq=>by rw[h4] at hq;exact hq.mono h3)
   |exit i=>
    simp only[Option.some.injEq,Prod.mk.injEq] at h
    obtain⟨rfl,rfl⟩:=h
    exact⟨rfl,M',h2,h3,h4⟩
   |ret=>
    simp only[Option.some.injEq,Prod.mk.injEq] at h
    obtain⟨rfl,rfl⟩:=h
    exact⟨rfl,M',h2,h3,h4⟩
 | cond x u v _ _=>
  intro c s e s' a M w hm h hI hN
  cases c<;>simp[matchC] at hm
  rename_i o c d
  rw[irun] at h
  split at h
  ·rename_i hx
   exact wp_cond_true (jag hI hm.1.1 hx).bool (ih N u c s e s' a M w hm.1.2 h hI hN)
  ·rename_i hx
   exact wp_cond_false (jag hI hm.1.1 hx).bool (ih N v d s e s' a M w hm.2 h hI hN)
  ·cases h
 | block i x _=>
  intro c s e s' a M w hm h hI hN
  cases c<;>simp[matchC] at hm
  rename_i j c
  obtain⟨rfl,hm⟩:=hm
  rw[irun] at h
  refine wp_block ?_
  cases ha:irun pg n x s with
  |none=>simp[ha] at h
  | some r=>
   obtain⟨e1,s1⟩:=r
   rw[ha] at h
   refine wp_mono (ih N x c s e1 s1 a M w hm ha hI hN) ?_
   rintro ex a' w' ⟨h1,M',h2,h3,h4⟩
   subst h1
   cases e1 with
   |normal=>
    simp only[Option.some.injEq,Prod.mk.injEq] at h
    obtain⟨rfl,rfl⟩:=h
    exact⟨rfl,M',h2,h3,h4⟩
   | exit k=>
    simp only at h
    simp only[exTo,Exit.inBlock]
    split at h
    ·rename_i hki
     simp only[Option.some.injEq,Prod.mk.injEq] at h
     obtain⟨rfl,rfl⟩:=h
     rw[if_pos hki]
     exact⟨rfl,M',h2,h3,h4⟩
    ·rename_i hki
     simp only[Option.some.injEq,Prod.mk.injEq] at h
     obtain⟨rfl,rfl⟩:=h
     rw[if_neg hki]
     exact⟨rfl,M',h2,h3,h4⟩
   |ret=>
    simp only[Option.some.injEq,Prod.mk.injEq] at h
    obtain⟨rfl,rfl⟩:=h
    exact⟨rfl,M',h2,h3,h4⟩
 | loop x _=>
  intro c s e s' a M w hm h hI hN
  cases c<;>simp[matchC] at hm
  rename_i c
  let T:Act→World→Nat→Prop:=fun a1 w1 m=>m≤n+1∧∃s1 M1,Inv fi M1 w1 s1 a1∧irun pg m (.loop x) s1=some (e,s')∧Kp M w M1 w1∧a1.tmps.size=a.tmps.size
  refine wp_loop (fun a1 w1=>∃m,T a1 w1 m) (fun a1 w1=>Classical.epsilon fun m=>T a1 w1 m∧∀k,T a1 w1 k→m≤k) ⟨n+1,Nat.le_refl _,s,M,hI,h,Kp.refl M w,rfl⟩ ?_
  intro a1 w1 hT
  obtain⟨⟨hle,s1,M1,hI1,hr,hk1,hs1⟩,_⟩:=Classical.epsilon_spec (p:=fun m=>T a1 w1 m∧∀k,T a1 w1 k→m≤k) (least hT)
  generalize (Classical.epsilon fun m=>T a1 w1 m∧∀k,T a1 w1 k→m≤k)=m at hle hr ⊢
  cases m with
  |zero=>simp[irun] at hr
  | succ m=>
   rw[irun] at hr
   cases ha:irun pg m x s1 with
   |none=>simp[ha] at hr
   | some r=>
    obtain⟨e1,s2⟩:=r
    rw[ha] at hr
    refine wp_mono (ih N x c s1 e1 s2 a1 M1 w1 hm (jb6 pg (by omega) ha) hI1 (by omega)) ?_
    rintro ex a' w' ⟨h1,M',h2,h3,h4⟩
    subst h1
    cases e1 with
    |normal=>
     simp only at hr
     have hT2:T a' w' m:=⟨by omega,s2,M',h2,hr,hk1.trans h3,h4.trans hs1⟩
     refine⟨⟨m,hT2⟩,?_⟩
     have:=(Classical.epsilon_spec (p:=fun m=>T a' w' m∧∀k,T a' w' k→m≤k) (least ⟨m,hT2⟩)).2 m hT2
     exact Nat.lt_succ_of_le this
    |exit i=>
     simp only[Option.some.injEq,Prod.mk.injEq] at hr
     obtain⟨rfl,rfl⟩:=hr
     exact⟨rfl,M',h2,hk1.trans h3,h4.trans hs1⟩
    |ret=>
     simp only[Option.some.injEq,Prod.mk.injEq] at hr
     obtain⟨rfl,rfl⟩:=hr
     exact⟨rfl,M',h2,hk1.trans h3,h4.trans hs1⟩
end
end Go.Lw
end

/-! Functions: what is left of the boxes when a call is over; results. -/
section
namespace Go.Lw
open Go Go.RowKit
mutual
def PV.bnd (n:Nat):PV→Bool
 | .agg cs=>bnds n cs
 | .tup cs=>bnds n cs
 | .sl _ _ xs=>bnds n xs
 | .ep e _=>e.bnd n
 | .fn _ cs=>bnds n cs
 | .bfn _ cs=>bnds n cs
 | .sub b _ _ _=>decide (b<n)
 | .bs true b _ _ _=>decide (b<n)
 | .stk b _ _=>decide (b<n)
 | .pstk b _ _=>decide (b<n)
 | .ptr true b _=>decide (b<n)
 | .mp b=>decide (b<n)
 |_=>true
def bnds (n:Nat):List PV→Bool
 |[]=>true
 |c::l=>c.bnd n&&bnds n l
end
section
variable {fi:FI} {M M':Mem} {w w':World} {P:Program} {s s':St} {a:Act} {cf:CallF} {pg:Prg}
theorem jb9 {n:Nat} {l:List PV} (h:bnds n l=true) {i:Nat} {c:PV} (hc:l[i]?=some c):c.bnd n=true:=by
 induction l generalizing i with
 |nil=>simp at hc
 |cons x l ih=>
  simp only[bnds,Bool.and_eq_true] at h
  cases i with
  |zero=>simp at hc;exact hc▸h.1
  |succ i=>exact ih h.2 (by simpa using hc)
theorem jbh {n:Nat} {l:List PV} (h:∀(i:Nat) (c:PV),l[i]?=some c→c.bnd n=true):bnds n l=true:=by
 induction l with
 |nil=>rfl
 |cons x l ih=>
  simp only[bnds,Bool.and_eq_true]
  exact⟨h 0 x rfl,ih fun i c hc=>h (i+1) c (by simpa using hc)⟩
theorem jg7 {n:Nat} {e:PV} (h:e.bnd n=true) {j:Nat} {p:PV} (hp:e.cells[j]?=some p):p.bnd n=true:=by
 cases e with
 |agg cs=>exact jb9 (l:=cs) (by simpa [PV.bnd] using h) hp
 |_=>
  simp only[PV.cells] at hp
  cases j with
  |zero=>simp at hp;exact hp▸h
  |succ j=>simp at hp
theorem jg8 {n:Nat} {e:PV} (h:∀(j:Nat) (p:PV),e.cells[j]?=some p→p.bnd n=true):e.bnd n=true:=by
 cases e with
 |agg cs=>simp only[PV.bnd];exact jbh h
 |_=>exact h 0 _ rfl
theorem RepP.bnd {p:PV} {v:Value} (h:RepP fi M w p v):p.bnd M.gb.length=true:=by
 induction h with
 |agg cs vs hl _ ih=>
  simp only[PV.bnd]
  exact jbh fun i c hc=>ih i c _ hc (List.getElem?_eq_getElem (by rw[hl];exact (List.getElem?_eq_some_iff.1 hc).1))
 |tup cs vs hl _ ih=>
  simp only[PV.bnd]
  exact jbh fun i c hc=>ih i c _ hc (List.getElem?_eq_getElem (by rw[hl];exact (List.getElem?_eq_some_iff.1 hc).1))
 |sl z xs A c b o vf hA hc hz h1 hm _ ih=>
  simp only[PV.bnd]
  exact jbh fun i e he=>jg8 fun j p hp=>ih i e j p he hp
 |bs b off n z A c blk hb hA hc=>simpa [PV.bnd] using (List.getElem?_eq_some_iff.1 hb).1
 |ptr b off blk hb=>simpa [PV.bnd] using (List.getElem?_eq_some_iff.1 hb).1
 |ep e off b o vf h1 hm _ ih=>simp only[PV.bnd];exact jg8 ih
 |mp b blk hb=>simpa [PV.bnd] using (List.getElem?_eq_some_iff.1 hb).1
 |stk b gen n blk c hb hg hA hc=>simpa [PV.bnd] using hb
 |pstk b gen i blk hb hg hA=>simpa [PV.bnd] using hb
 |sub b gen off n blk c A hb hg hA hc hAd=>simpa [PV.bnd] using hb
 |bfn f F cs vs hf hl h1 _ ih=>
  simp only[PV.bnd]
  exact jbh fun i c hc=>ih i c _ hc (List.getElem?_eq_getElem (by rw[hl];exact (List.getElem?_eq_some_iff.1 hc).1))
 |fn f F cs vs hf hl h1 _ ih=>
  simp only[PV.bnd]
  exact jbh fun i c hc=>ih i c _ hc (List.getElem?_eq_getElem (by rw[hl];exact (List.getElem?_eq_some_iff.1 hc).1))
 |_=>rfl
def Mem.cut (M:Mem) (n:Nat):Mem:={M with gb:=M.gb.take n }
theorem RepP.cut {n:Nat} {p:PV} {v:Value} (h:RepP fi M w p v) (hg:p.bnd n=true):RepP fi (M.cut n) w p v:=by
 have tk:∀{b blk:Nat},M.gb[b]?=some blk→b<n→(M.cut n).gb[b]?=some blk:=fun h hb=>by simp only[Mem.cut,List.getElem?_take,hb,if_true];exact h
 induction h with
 |und=>exact .und
 |int k n=>exact .int k n
 |bool b=>exact .bool b
 |str s=>exact .str s
 |agg cs vs hl _ ih=>exact .agg cs vs hl fun i c v hc hv=>ih i c v hc hv (jb9 (by simpa [PV.bnd] using hg) hc)
 |tup cs vs hl _ ih=>exact .tup cs vs hl fun i c v hc hv=>ih i c v hc hv (jb9 (by simpa [PV.bnd] using hg) hc)
 |sl z xs A c b o vf hA hc hz h1 hm _ ih=>
  exact .sl z xs A c b o vf hA hc hz h1 hm fun i e j p he hp=>ih i e j p he hp (jg7 (jb9 (by simpa [PV.bnd] using hg) he) hp)
 |bs b off n z A c blk hb hA hc=>exact .bs b off n z A c blk (tk hb (by simpa [PV.bnd] using hg)) hA hc
 |ptr b off blk hb=>exact .ptr b off blk (tk hb (by simpa [PV.bnd] using hg))
 |nilp=>exact .nilp
 |ep e off b o vf h1 hm _ ih=>exact .ep e off b o vf h1 hm fun j p hp=>ih j p hp (jg7 (by simpa [PV.bnd] using hg) hp)
 |mp b blk hb=>exact .mp b blk (tk hb (by simpa [PV.bnd] using hg))
 |nilm=>exact .nilm
 |nilf=>exact .nilf
 |nils=>exact .nils
 |stk b gen n' blk c hb hg' hA hc=>
  have hbn:b<n:=by simpa [PV.bnd] using hg
  exact .stk b gen n' blk c (by simp only[Mem.cut,List.length_take];omega) hg' hA hc
 |pstk b gen i blk hb hg' hA=>
  have hbn:b<n:=by simpa [PV.bnd] using hg
  exact .pstk b gen i blk (by simp only[Mem.cut,List.length_take];omega) hg' hA
 |sub b gen off n' blk c A hb hg' hA hc hAd=>
  have hbn:b<n:=by simpa [PV.bnd] using hg
  exact .sub b gen off n' blk c A (by simp only[Mem.cut,List.length_take];omega) hg' hA hc hAd
 |bfn f F cs vs hf hl h1 _ ih=>exact .bfn f F cs vs hf hl h1 fun i c v hc hv=>ih i c v hc hv (jb9 (by simpa [PV.bnd] using hg) hc)
 |fn f F cs vs hf hl h1 _ ih=>exact .fn f F cs vs hf hl h1 fun i c v hc hv=>ih i c v hc hv (jb9 (by simpa [PV.bnd] using hg) hc)
 |nilI=>exact .nilI
 |someI t v=>exact .someI t v
 |junk v=>exact .junk v
theorem OwnRep.cut {n:Nat} {l:Loc} {z:Nat} {xs:List PV} {v:Value} (h:OwnRep fi M w l z xs v) (hg:bnds n xs=true):OwnRep fi (M.cut n) w l z xs v:=by
 obtain⟨h1,h2⟩:=h
 refine⟨h1.cut (by simpa [PV.bnd] using hg),?_⟩
 rcases h2 with h2|⟨b,o,c,cs,e,hv,ho,hh,hs,hk,hb1,hb2⟩
 ·exact .inl h2
 ·exact .inr ⟨b,o,c,cs,e,hv,ho,hh,hs,hk,hb1,fun h=>hb2 (List.mem_of_mem_take h)⟩
theorem RepC.cut {n:Nat} {l:Loc} {p:PV} {v:Value} (h:RepC fi M w l p v) (hg:p.bnd n=true):RepC fi (M.cut n) w l p v:=by
 unfold RepC at *
 split at h
 ·exact OwnRep.cut h (by simpa [PV.bnd] using hg)
 ·exact h.cut hg
theorem RepC.bnd {l:Loc} {p:PV} {v:Value} (h:RepC fi M w l p v):p.bnd M.gb.length=true:=by
 unfold RepC at h
 split at h
 ·have:=h.1.bnd;simpa [PV.bnd] using this
 ·exact h.bnd
def bndO (n:Nat):GObj→Bool
 | .cells cs=>bnds n cs
 | .map es=>es.all fun e=>e.1.bnd n&&e.2.bnd n
 | .stk _ _=>true
 | .bld _=>true
theorem RepObj.bnd {i blk:Nat} {o:GObj} (h:RepObj fi M w i blk o):bndO M.gb.length o=true:=by
 cases o with
 |cells cs=>
  obtain⟨h1,h2,h3,h4,vs,T,h5,h6,h7⟩:=h
  exact jbh fun i c hc=>(h7 i c _ hc (List.getElem?_eq_getElem (by rw[h6];exact (List.getElem?_eq_some_iff.1 hc).1))).bnd
 |map es=>
  obtain⟨h1,h2,l,clock,h3,h4,h5⟩:=h
  simp only[bndO,List.all_eq_true]
  intro e he
  obtain⟨i,hi,rfl⟩:=List.mem_iff_getElem.1 he
  have:=h5 i _ _ (List.getElem?_eq_getElem hi) (List.getElem?_eq_getElem (by omega))
  simp[this.1.bnd,this.2.1.bnd]
 |stk gen xs=>rfl
 |bld s=>rfl
theorem RepObj.cut {n i blk:Nat} {o:GObj} (h:RepObj fi M w i blk o) (hb:bndO n o=true):RepObj fi (M.cut n) w i blk o:=by
 cases o with
 |cells cs=>
  obtain⟨h1,h2,h3,h4,vs,T,h5,h6,h7⟩:=h
  exact⟨h1,h2,h3,h4,vs,T,h5,h6,fun i c u hc hu=>(h7 i c u hc hu).cut (jb9 (l:=cs) hb hc)⟩
 |map es=>
  obtain⟨h1,h2,l,clock,h3,h4,h5⟩:=h
  simp only[bndO,List.all_eq_true,Bool.and_eq_true] at hb
  refine⟨h1,h2,l,clock,h3,h4,fun i e m he hm=>?_⟩
  have hbe:=hb e (List.mem_of_getElem? he)
  exact⟨(h5 i e m he hm).1.cut hbe.1,(h5 i e m he hm).2.1.cut hbe.2,(h5 i e m he hm).2.2⟩
 | stk gen xs=>
  obtain⟨h1,h2,h3,h4,h5,cs,T,h6,h7,h8,h9⟩:=h
  exact⟨h1,h2,h3,h4,h5,cs,T,h6,h7,h8,fun j x hj=>by
   obtain⟨u,hu,hr⟩:=h9 j x hj
   exact⟨u,hu,jkv hr (h5 x (List.mem_of_getElem? hj)) _ _⟩⟩
 |bld s=>
  obtain⟨h1,h2,h3,T,hT,h4⟩:=h
  refine⟨h1,h2,h3,T,hT,?_⟩
  rcases h4 with h4|⟨c,cap,cur,h5,h6,h7,h8,h9⟩
  ·exact .inl h4
  ·exact .inr ⟨c,cap,cur,h5,h6,h7,fun h=>h8 (List.mem_of_mem_take h),h9⟩
end
mutual
theorem jbs (n:Nat):(p:PV)→p.noG=true→p.bnd n=true
 | .agg cs,h=>by simp only[PV.noG] at h;simp only[PV.bnd];exact jbt n cs h
 | .tup cs,h=>by simp only[PV.noG] at h;simp only[PV.bnd];exact jbt n cs h
 | .sl _ _ xs,h=>by simp only[PV.noG] at h;simp only[PV.bnd];exact jbt n xs h
 | .ep e _,h=>by simp only[PV.noG] at h;simp only[PV.bnd];exact jbs n e h
 | .fn _ cs,h=>by simp only[PV.noG] at h;simp only[PV.bnd];exact jbt n cs h
 | .bfn _ cs,h=>by simp only[PV.noG] at h;simp only[PV.bnd];exact jbt n cs h
 | .sub _ _ _ _,h=>by simp[PV.noG] at h
 | .bs _ _ _ _ _,h=>by simp[PV.noG] at h
 | .stk _ _ _,h=>by simp[PV.noG] at h
 | .pstk _ _ _,h=>by simp[PV.noG] at h
 | .ptr _ _ _,h=>by simp[PV.noG] at h
 | .mp _,h=>by simp[PV.noG] at h
 | .und,_=>rfl
 | .int _ _,_=>rfl
 | .bool _,_=>rfl
 | .str _,_=>rfl
 | .nilp,_=>rfl
 | .arr _ _,_=>rfl
 | .junk,_=>rfl
 | .nilm,_=>rfl
 | .nilf,_=>rfl
 | .nils,_=>rfl
 | .nilI,_=>rfl
 | .someI,_=>rfl
theorem jbt (n:Nat):(l:List PV)→noGs l=true→bnds n l=true
 |[],_=>rfl
 |c::l,h=>by
  simp only[noGs,Bool.and_eq_true] at h
  simp only[bnds,Bool.and_eq_true]
  exact⟨jbs n c h.1,jbt n l h.2⟩
end
end Go.Lw
end

/-! Functions: results; and that a function does what the machine's does. -/
section
namespace Go.Lw
open Go Go.RowKit
section
variable {fi:FI} {M M':Mem} {w w':World} {P:Program} {s s':St} {a:Act} {cf:CallF} {pg:Prg}
def mRes1 (P:Program):IRes→ResultVar→Bool
 | .t n,.tmp m=>n==m
 | .cell b agg k,.cell c t=>b==c&&tyAgg P t==some agg&&tySize P t==some k
 |_,_=>false
def mRes (P:Program):List IRes→List ResultVar→Bool
 |[],[]=>true
 |r::l,v::m=>mRes1 P r v&&mRes P l m
 |_,_=>false
def resV (tmps:Array Value):ResultVar→Sem Value
 | .tmp t=>pure (tmps.getD t undef)
 | .cell a t=>do loadVar t (←asAddr (tmps.getD a undef))
theorem jlp (hI:Inv fi M w s a) {r:IRes} {v:ResultVar} (hm:mRes1 P r v=true) {p:PV} (h:resOf s r=some p):∃u,(resV a.tmps v).run P w= .ok u w∧RepE fi M w (degr p) u:=by
 cases r with
 |t n=>
  cases v<;>simp[mRes1] at hm
  subst hm
  exact⟨_,rfl,(hI.env _ p h).2.degr⟩
 | cell b agg k=>
  cases v<;>simp[mRes1] at hm
  obtain⟨⟨rfl,ha⟩,hs⟩:=hm
  simp only[resOf] at h
  split at h
  ·rename_i g bx off hb
   simp only[Option.bind_eq_some_iff] at h
   obtain⟨cs,hc,hg⟩:=h
   have hp:RepE fi M w (.ptr g bx off) (a.tmps.getD b undef):=(hI.env b _ hb).2
   obtain⟨blk,hv,⟨_,_,_,h1,vs,T,hh,hl,hvv⟩,_⟩:=boxAt hI hp hc
   obtain⟨hk,hr⟩:=jfi hg hl hvv h1
   refine⟨_,?_,hr.repE⟩
   simp only[resV,hv,asAddr,Sem.run_bind,Sem.run_pure,Result.andThen_ok,jdr ha (fun _=>hs) hh hk]
  ·cases h
theorem jg9 (hI:Inv fi M w s a):∀{rs:List IRes} {vs:List ResultVar} {ps:List PV},mRes P rs vs=true→resOfs s rs=some ps→
  ∃us:List Value,(vs.mapM (resV a.tmps)).run P w= .ok us w∧us.length=ps.length∧∀(i:Nat) (p:PV) (u:Value),ps[i]?=some p→us[i]?=some u→RepE fi M w (degr p) u
 |[],[],ps,_,h=>by simp[resOfs] at h;subst h;exact⟨[],by simp,rfl,by simp⟩
 |[],_::_,_,hm,_=>by simp[mRes] at hm
 |_::_,[],_,hm,_=>by simp[mRes] at hm
 |r::rs,v::vs,ps,hm,h=>by
  simp only[mRes,Bool.and_eq_true] at hm
  simp only[resOfs,Option.bind_eq_some_iff,Option.map_eq_some_iff] at h
  obtain⟨p,hp,ps',hps,rfl⟩:=h
  obtain⟨u,h1,h2⟩:=jlp hI hm.1 hp
  obtain⟨us,h3,h4,h5⟩:=jg9 hI hm.2 hps
  refine⟨u::us,by simp[List.mapM_cons,h1,h3],by simp[h4],fun i q x hq hx=>?_⟩
  cases i with
  |zero=>simp at hq hx;subst hq;subst hx;exact h2
  |succ i=>exact h5 i q x (by simpa using hq) (by simpa using hx)
theorem jga {fn:Func} {us:List Value} {tmps:Array Value} (h:(fn.results.toList.mapM (resV tmps)).run P w= .ok us w) :
  (Go.results fn tmps).run P w= .ok (match us with|[u]=>u|us=> .tuple us.toArray) w:=by
 have h1:(fn.results.mapM (resV tmps)).run P w= .ok us.toArray w:=by
  rw[Array.mapM_eq_mapM_toList,map_eq_pure_bind,Sem.run_bind,h];rfl
 have e:Go.results fn tmps=(do let vs ←fn.results.mapM (resV tmps);pure (if h:vs.size=1 then vs[0] else .tuple vs)):=by
  unfold Go.results
  congr 1
 rw[e,Sem.run_bind,h1,Result.andThen_ok,Sem.run_pure]
 match us with
 |[]=>rfl
 |[u]=>rfl
 |u::v::l=>simp
def envRes (n:Nat):Loc→Loc
 | .env t i=>if t=n then .res i else .env t i
 |l=>l
theorem jlq (hI:Inv fi M w s a) {own:Bool} {rs:List IRes} {fn:Func} (hm:mRes P rs fn.results.toList=true) {r:PV} (h:results own rs s=some r) (hok:resOk r=true) :
  ∃v M1,(Go.results fn a.tmps).run P w= .ok v w∧Inv fi M1 w ⟨[],s.lh,s.gh⟩ ⟨#[],[]⟩∧Kp M w M1 w∧RepAt fi M1 w Loc.res r v:=by
 have hI0:∀f:Loc→Loc,(∀b i,f (.lh b i)= .lh b i)→(∀b i,f (.gh b i)= .gh b i)→Inv fi (M.rel f) w ⟨[],s.lh,s.gh⟩ ⟨#[],[]⟩:=fun f h1 h2=>by
  have h0:Inv fi M w ⟨[],s.lh,s.gh⟩ ⟨#[],[]⟩:=⟨fun t v hv=>by simp[get] at hv,rfl,hI.lbl,hI.gbl,hI.nodup,hI.lh,hI.gh,hI.gl,hI.immlt,hI.ownlt,hI.gblt⟩
  exact h0.rel f [] (fun t v hv=>by simp[get] at hv) h1 h2
 have gen:(resOfs s rs).map (fun vs=>match vs with|[v]=>degr v|vs=> .tup (vs.map degr))=some r→
   ∃v M1,(Go.results fn a.tmps).run P w= .ok v w∧Inv fi M1 w ⟨[],s.lh,s.gh⟩ ⟨#[],[]⟩∧Kp M w M1 w∧RepAt fi M1 w Loc.res r v:=by
  intro h
  simp only[Option.map_eq_some_iff] at h
  obtain⟨ps,hps,hr⟩:=h
  obtain⟨us,h1,h2,h3⟩:=jg9 (P:=P) hI hm hps
  refine⟨_,_,jga h1,hI0 id (fun _ _=>rfl) (fun _ _=>rfl),Kp.rel M w id,?_⟩
  have tupc:(∀v,ps≠[v])→r= .tup (ps.map degr)→RepAt fi (M.rel id) w Loc.res r (.tuple us.toArray):=by
   intro _ hr'
   subst hr'
   refine⟨us,rfl,by simp[h2],fun i c u hc hu=>?_⟩
   simp only[List.getElem?_map,Option.map_eq_some_iff] at hc
   obtain⟨p,hp,rfl⟩:=hc
   simp only[resOk,List.all_eq_true,List.mem_map] at hok
   exact (((h3 i p u hp hu).rel id).repP (by simpa [argOk] using hok (degr p) ⟨p,List.mem_of_getElem? hp,rfl⟩)).repC
  match ps,us,h2 with
  |[],[],_=>exact tupc (by simp) (by simpa using hr.symm)
  |[p],[u],_=>
   simp only at hr
   subst hr
   exact ((h3 0 p u rfl rfl).rel id).repAt
  |p::q::l,u::v::m,_=>exact tupc (by simp) (by simpa using hr.symm)
 unfold results at h
 split at h
 ·rename_i n
  cases hrv:fn.results.toList with
  |nil=>rw[hrv] at hm;simp[mRes] at hm
  | cons x l=>
   rw[hrv] at hm
   cases l with
   |cons=>simp[mRes] at hm
   |nil=>
    cases x<;>simp[mRes,mRes1] at hm
    subst hm
    have h1:(fn.results.toList.mapM (resV a.tmps)).run P w= .ok [a.tmps.getD n undef] w:=by rw[hrv];simp[List.mapM_cons,resV]
    refine⟨_,_,jga h1,hI0 (envRes n) (fun _ _=>rfl) (fun _ _=>rfl),Kp.rel M w (envRes n),?_⟩
    exact (hI.env n r h).2.rel (envRes n) (fun i=>by simp[envRes])
 ·exact gen h
theorem Inv.toGI (hI:Inv fi M w ⟨[],s.lh,s.gh⟩ ⟨#[],[]⟩):GI fi M.noLb w s.gh:=
 ⟨fun t v hv=>by simp[get] at hv,rfl,rfl,hI.gbl,by have:=hI.nodup;rw[List.nodup_append] at this;simpa [Mem.noLb] using this.2.1,fun i cs blk h=>by simp at h,
  fun i o blk h1 h2=>(hI.gh i o blk h1 h2).noLb,hI.gl,hI.immlt,hI.ownlt,hI.gblt⟩
theorem Kp.noLb (M:Mem) (w:World):Kp M w M.noLb w:=
 ⟨rfl,rfl,rfl,Nat.le_refl _,Ext.noLb M w,fun _ _ _ _ _=>rfl,fun _ h=>by simp[Mem.noLb] at h,fun _ h=> .inl h,fun _ _ h=>h,fun _ _ h=> .inl h⟩
theorem GI.cut {gh:List GObj} (hG:GI fi M w gh) (n:Nat) (hb:∀(i:Nat) (o:GObj),(gh.take n)[i]?=some o→bndO n o=true):GI fi (M.cut n) w (gh.take n):=
 by
 refine⟨fun t v hv=>by simp[get] at hv,rfl,hG.lbl,?_,?_,fun i cs blk h=>by simp at h,fun i o blk h1 h2=>?_,hG.gl,hG.immlt,hG.ownlt,fun b h=>hG.gblt b (List.mem_of_mem_take h)⟩
 ·have:=hG.gbl
  simp only[Mem.cut,List.length_take]
  rw[this]
 ·have:=hG.nodup
  rw[List.nodup_append] at this ⊢
  exact⟨this.1,this.2.1.sublist (List.take_sublist _ _),fun x hx y hy=>this.2.2 x hx y (List.mem_of_mem_take hy)⟩
 ·have h1':=h1
  simp only[List.getElem?_take] at h1
  simp only[Mem.cut,List.getElem?_take] at h2
  split at h1
  ·rename_i hlt
   rw[if_pos hlt] at h2
   exact (hG.gh i o blk h1 h2).cut (hb i o h1')
  ·cases h1
theorem RepAt.cut {n:Nat} {mk:Nat→Loc} {p:PV} {v:Value} (h:RepAt fi M w mk p v) (hok:resOk p=true) (hg:p.bnd n=true):RepAt fi (M.cut n) w mk p v:=by
 unfold RepAt at *
 split at h
 ·exact OwnRep.cut h (by simpa [PV.bnd] using hg)
 ·cases hok
 ·obtain⟨vs,h1,h2,h3⟩:=h
  exact⟨vs,h1,h2,fun i c u hc hu=>(h3 i c u hc hu).cut (jb9 (by simpa [PV.bnd] using hg) hc)⟩
 ·obtain⟨vs,h1,h2,h3⟩:=h
  exact⟨vs,h1,h2,fun i c u hc hu=>(h3 i c u hc hu).cut (jb9 (by simpa [PV.bnd] using hg) hc)⟩
 ·rename_i h3
  exact ((h.repP (jdu hok (fun cs=>h3 cs))).cut hg).repE
theorem je1 {α:Type}:∀{l:List α} {i j:Nat},l.Nodup→l[i]?=l[j]?→i<l.length→i=j
 |[],i,j,_,_,h=>by simp at h
 |x::l,0,0,_,_,_=>rfl
 |x::l,0,j+1,hn,he,_=>by
  rw[List.nodup_cons] at hn
  simp at he
  exact absurd (List.mem_of_getElem? he.symm) hn.1
 |x::l,i+1,0,hn,he,_=>by
  rw[List.nodup_cons] at hn
  simp at he
  exact absurd (List.mem_of_getElem? he) hn.1
 |x::l,i+1,j+1,hn,he,h=>by
  rw[List.nodup_cons] at hn
  have:=je1 hn.2 (by simpa using he) (by simpa using h)
  omega
def Mem.cutF (M:Mem) (n:Nat):Mem:={M.cut n with imm:=fun b k=>M.imm b k∨∃g,n≤g∧M.gb[g]?=some b∧M.own b=none }
theorem Ext.cutF (M:Mem) (n:Nat) (w:World):Ext (M.cut n) w (M.cutF n) w:=⟨fun _ _ h=>h,fun _ _ h=> .inl h,fun _ _ _=>rfl,fun _ _=>⟨Nat.le_refl _,fun _=>rfl⟩⟩
theorem OwnRep.cutF {n:Nat} {l:Loc} {z:Nat} {xs:List PV} {v:Value} (h:OwnRep fi (M.cut n) w l z xs v):OwnRep fi (M.cutF n) w l z xs v:=by
 obtain⟨h1,h2⟩:=h
 refine⟨h1.mono (Ext.cutF M n w),?_⟩
 rcases h2 with h2|⟨b,o,c,cs,e,hv,ho,hh,hs,hk,hb1,hb2⟩
 ·exact .inl h2
 ·refine .inr ⟨b,o,c,cs,e,hv,ho,hh,hs,fun k hk2 h=>?_,hb1,hb2⟩
  rcases h with h|⟨g,_,_,h⟩
  ·exact hk k hk2 h
  ·have:M.own b=some l:=ho
   rw[h] at this;cases this
theorem RepC.cutF {n:Nat} {l:Loc} {p:PV} {v:Value} (h:RepC fi (M.cut n) w l p v):RepC fi (M.cutF n) w l p v:=by
 unfold RepC at *
 split at h
 ·exact OwnRep.cutF h
 ·exact h.mono (Ext.cutF M n w)
theorem RepE.cutF {n:Nat} {p:PV} {v:Value} (h:RepE fi (M.cut n) w p v):RepE fi (M.cutF n) w p v:=by
 unfold RepE at *
 split at h
 ·exact h
 ·exact h
 ·exact h.mono (Ext.cutF M n w)
theorem RepAt.cutF {n:Nat} {mk:Nat→Loc} {p:PV} {v:Value} (h:RepAt fi (M.cut n) w mk p v):RepAt fi (M.cutF n) w mk p v:=by
 unfold RepAt at *
 split at h
 ·exact OwnRep.cutF h
 ·obtain⟨h0,b,T,c,hv,hc,ho,hh,hk,hb1,hb2⟩:=h
  refine⟨h0,b,T,c,hv,hc,ho,hh,fun k hk2=>?_,hb1,hb2⟩
  rcases hk2 with h|⟨g,_,_,h⟩
  ·exact hk k h
  ·have:M.own b=some (mk 0):=ho
   rw[h] at this;cases this
 ·obtain⟨vs,h1,h2,h3⟩:=h
  exact⟨vs,h1,h2,fun i c u hc hu=>(h3 i c u hc hu).cutF⟩
 ·obtain⟨vs,h1,h2,h3⟩:=h
  exact⟨vs,h1,h2,fun i c u hc hu=>(h3 i c u hc hu).cutF⟩
 ·exact RepE.cutF h
theorem RepObj.cutF {n i blk:Nat} {o:GObj} (h:RepObj fi (M.cut n) w i blk o) (hn:∀g,n≤g→M.gb[g]?≠some blk):RepObj fi (M.cutF n) w i blk o:=by
 cases o with
 |cells cs=>
  obtain⟨h1,h2,h3,h4,vs,T,h5,h6,h7⟩:=h
  refine⟨h1,fun k hk=>?_,h3,h4,vs,T,h5,h6,fun i c u hc hu=>(h7 i c u hc hu).cutF⟩
  rcases hk with hk|⟨g,hg,hb,_⟩
  ·exact h2 k hk
  ·exact hn g hg hb
 |map es=>
  obtain⟨h1,h2,l,clock,h3,h4,h5⟩:=h
  exact⟨h1,h2,l,clock,h3,h4,fun i e m he hm=>⟨(h5 i e m he hm).1.mono (Ext.cutF M n w),(h5 i e m he hm).2.1.mono (Ext.cutF M n w),(h5 i e m he hm).2.2⟩⟩
 | stk gen xs=>
  obtain⟨h1,h2,h3,h4,h5,cs,T,h6,h7,h8,h9⟩:=h
  refine⟨h1,h2,h3,fun k hk=>?_,h5,cs,T,h6,h7,h8,fun j x hj=>?_⟩
  ·rcases hk with hk|⟨g,_,_,ho⟩
   ·exact h4 k hk
   ·have e:M.own (M.st i).2.1=some (Loc.gh i 0):=h3
    have ho':M.own (M.st i).2.1=none:=ho
    rw[ho'] at e;cases e
  ·obtain⟨u,hu,hr⟩:=h9 j x hj
   exact⟨u,hu,hr.mono (Ext.cutF M n w)⟩
 | bld t=>
  obtain⟨h1,h2,h3,T,hT,h4⟩:=h
  refine⟨h1,fun k hk=>?_,h3,T,hT,?_⟩
  ·rcases hk with hk|⟨g,hg,hb,_⟩
   ·exact h2 k hk
   ·exact hn g hg hb
  ·rcases h4 with h4|⟨c,cap,cur,h5,h6,h7,h8,h9,h10⟩
   ·exact .inl h4
   ·refine .inr ⟨c,cap,cur,h5,h6,h7,h8,fun k hk=>?_,h10⟩
    rcases hk with hk|⟨g,_,_,ho⟩
    ·exact h9 k hk
    ·have e:M.own c=some (Loc.gh i 0):=h6
     rw[ho] at e;cases e
theorem GI.cutF {gh:List GObj} (hG:GI fi M w gh) (n:Nat) (hn:n≤gh.length) (hb:∀(i:Nat) (o:GObj),(gh.take n)[i]?=some o→bndO n o=true):GI fi (M.cutF n) w (gh.take n):=by
 have hC:=hG.cut n hb
 have hnd:=hG.nodup
 rw[List.nodup_append] at hnd
 refine⟨fun t v hv=>by simp[get] at hv,rfl,hC.lbl,hC.gbl,hC.nodup,fun i cs blk h=>by simp at h,fun i o blk h1 h2=>(hC.gh i o blk h1 h2).cutF fun g hg hgb=>?_,(Ext.cutF M n w).gl hC.gl,fun b k hk=>?_,hC.ownlt,hC.gblt⟩
 ·have h2':(M.gb.take n)[i]?=some blk:=h2
  rw[List.getElem?_take] at h2'
  split at h2'
  ·rename_i hlt
   have e1:=List.getElem?_eq_some_iff.1 hgb
   have e2:=List.getElem?_eq_some_iff.1 h2'
   have:i=g:=je1 hnd.2.1 (by rw[h2',hgb]) e2.1
   omega
  ·cases h2'
 ·rcases hk with hk|⟨g,_,hgb,_⟩
  ·exact hC.immlt b k hk
  ·exact hG.gblt b (List.mem_of_getElem? hgb)
theorem frz_bs {n b off k:Nat} {gh:List GObj} {cs:List PV} (h:gh[b]?=some (.cells cs)) (h1:n≤b) (h2:off+k≤cs.length):frz n gh (.bs true b off k 1)= .sl false 1 (((cs.drop off).take k).map degr1):=by
 simp[frz,h,h1,h2]
theorem frz_or (n:Nat) (gh:List GObj) (p:PV):frz n gh p=p∨∃b off k cs,p= .bs true b off k 1∧gh[b]?=some (.cells cs)∧n≤b∧off+k≤cs.length:=by
 unfold frz
 split
 ·rename_i b off k
  split
  ·rename_i cs hc
   split
   ·rename_i h;exact .inr ⟨b,off,k,cs,rfl,hc,h⟩
   ·exact .inl rfl
  ·exact .inl rfl
 ·exact .inl rfl
theorem jcv {p:PV} (h:p.one=true):(degr1 p).cells=[degr1 p]:=by
 cases p<;>first|rfl|simp[PV.one] at h
theorem jlr {p:PV} (h:p.one=true):(degr1 p).one=true:=by
 cases p<;>first|exact h|rfl
theorem jgb {gh:List GObj} (hG:GI fi M w gh) {n:Nat} {p:PV} {v:Value} (h:RepP fi M w p v) (hg:(frz n gh p).noG=true):RepP fi (M.cutF n) w (frz n gh p) v:=by
 rcases frz_or n gh p with e|⟨b,off,k,cs,rfl,hc,hn,hk⟩
 ·rw[e] at hg ⊢
  exact (h.cut (jbs _ _ hg)).mono (Ext.cutF M n w)
 ·rw [frz_bs hc hn hk] at hg ⊢
  cases h with
  | bs _ _ _ _ A c blk hb hA hcc=>
   obtain⟨_,_,hown,hone,vs,T,hh,hl,hv⟩:=hG.gh b _ blk hc hb
   have hlen:(((cs.drop off).take k).map degr1).length=k:=by simp;omega
   have hel:∀(i:Nat) (e:PV),(((cs.drop off).take k).map degr1)[i]?=some e→∃c u,cs[off+i]?=some c∧e=degr1 c∧vs[off+i]?=some u∧RepP fi M w (degr1 c) u∧c.one=true:=by
    intro i e he
    simp only[List.getElem?_map,Option.map_eq_some_iff,List.getElem?_take] at he
    obtain⟨c,hc1,rfl⟩:=he
    split at hc1
    ·rw[List.getElem?_drop] at hc1
     have hi:off+i<vs.length:=by have:=(List.getElem?_eq_some_iff.1 hc1).1;omega
     exact⟨c,vs[off+i],hc1,rfl,List.getElem?_eq_getElem hi,(hv _ _ _ hc1 (List.getElem?_eq_getElem hi)).degr1,hone c (List.mem_of_getElem? hc1)⟩
    ·cases hc1
   have key:RepP fi (M.cutF n) w (.sl false 1 (((cs.drop off).take k).map degr1)) (.slice A (((cs.drop off).take k).map degr1).length c):=by
    refine RepP.sl 1 _ A c blk off (fun j=>vs.getD (off+j) undef) ?_ (by rw[hlen];exact hcc) ?_ ?_ ?_ ?_
    ·rcases hA with hA|hA
     ·left;subst hA;simp
     ·exact .inr hA
    ·intro e he
     obtain⟨i,hi⟩:=List.mem_iff_getElem?.1 he
     obtain⟨c,u,h1,rfl,_,_,h2⟩:=hel i e hi
     rw[jcv h2];rfl
    ·intro e he
     obtain⟨i,hi⟩:=List.mem_iff_getElem?.1 he
     obtain⟨c,u,h1,rfl,_,_,h2⟩:=hel i e hi
     simp[argOk,jcv h2,jlr h2]
    ·intro i e j p he hp
     obtain⟨c,u,h1,rfl,h3,_,h2⟩:=hel i e he
     rw[jcv h2] at hp
     cases j with
     |succ j=>simp at hp
     |zero=>
      refine⟨.inr ⟨b,hn,hb,hown⟩,?_⟩
      rw[cell_of_row w blk _ vs.toArray T (0,0) hh,List.getElem?_toArray,Nat.mul_one,Nat.add_zero,h3]
      simp[List.getD,h3]
    ·intro i e j p he hp
     obtain⟨c,u,h1,rfl,h3,h4,h2⟩:=hel i e he
     rw[jcv h2] at hp
     cases j with
     |succ j=>simp at hp
     |zero=>
      simp at hp
      subst hp
      have e2:vs.getD (off+(i*1+0)) undef=u:=by simp[List.getD,h3]
      rw[e2]
      have hgi:(degr1 c).noG=true:=jb1 (l:=((cs.drop off).take k).map degr1) (by simpa [PV.noG] using hg) he
      exact (h4.cut (jbs _ _ hgi)).mono (Ext.cutF M n w)
   rw[hlen] at key
   exact key
theorem jls {gh:List GObj} (hG:GI fi M w gh) {n:Nat} {mk:Nat→Loc} {p:PV} {v:Value} (h:RepAt fi M w mk p v) (hok:resOk p=true) (hg:(frzR n gh p).noG=true):RepAt fi (M.cutF n) w mk (frzR n gh p) v:=by
 by_cases ht:∃cs,p= .tup cs
 ·obtain⟨cs,rfl⟩:=ht
  obtain⟨vs,h1,h2,h3⟩:=h
  refine⟨vs,h1,by simpa using h2,fun i c u hc hu=>?_⟩
  simp only[List.getElem?_map,Option.map_eq_some_iff] at hc
  obtain⟨c,hc,rfl⟩:=hc
  have hgc:(frz n gh c).noG=true:=jb1 (l:=cs.map (frz n gh)) (by simpa [PV.noG,frzR] using hg) (i:=i) (by simp[hc])
  have h4:=h3 i c u hc hu
  rcases frz_or n gh c with e|⟨b,off,k,ds,rfl,hd,hn,hk⟩
  ·rw[e] at hgc ⊢
   exact (h4.cut (jbs _ _ hgc)).cutF
  ·exact (jgb hG h4 hgc).repC
 ·have e0:frzR n gh p=frz n gh p:=by
   unfold frzR;split
   ·rename_i vs;exact absurd ⟨vs,rfl⟩ ht
   ·rfl
  rw[e0] at hg ⊢
  rcases frz_or n gh p with e|⟨b,off,k,ds,rfl,hd,hn,hk⟩
  ·rw[e] at hg ⊢
   exact (h.cut hok (jbs _ _ hg)).cutF
  ·exact (jgb hG h hg).repE.repAt
theorem jlt {gh:List GObj} {n:Nat} {p:PV} (hok:resOk p=true):resOk (frzR n gh p)=true:=by
 have h1:∀q,argOk q=true→argOk (frz n gh q)=true:=fun q hq=>by
  rcases frz_or n gh q with e|⟨b,off,k,ds,rfl,hd,hn,hk⟩
  ·rw[e];exact hq
  ·rw[frz_bs hd hn hk];rfl
 cases p with
 |tup vs=>
  simp only[resOk,frzR,List.all_eq_true,List.mem_map] at hok ⊢
  rintro _ ⟨q,hq,rfl⟩
  exact h1 q (hok q hq)
 |bs g b o k z=>
  have:argOk (frz n gh (.bs g b o k z))=true:=h1 _ hok
  simp only[frzR]
  rcases frz_or n gh (.bs g b o k z) with e|⟨b,off,k,ds,e,hd,hn,hk⟩
  ·rw[e];exact hok
  ·cases e;rw[frz_bs hd hn hk];rfl
 |_=>exact hok
theorem jgc:∀{vs:List PV} {n t:Nat} {v:PV},get (enum n vs) t=some v→∃i,t=n+i∧vs[i]?=some v
 |[],n,t,v,h=>by simp[enum,get] at h
 | u::vs,n,t,v,h=>by
  simp only[enum,get] at h
  split at h
  ·rename_i hnt;cases h;exact⟨0,by omega,rfl⟩
  ·obtain⟨i,h1,h2⟩:=jgc h
   exact⟨i+1,by omega,by simpa using h2⟩
open Classical in
theorem jgd {fn:IFunc} {F:Nat} {Fn:Func} {c:Code} (hf:P.funcs[F]?=some Fn) (hb:Fn.body=some c) (hr:mRes P fn.res Fn.results.toList=true)
  {vs:List PV} {gh gh':List GObj} {x:IExit×St} {r:PV} (hwp:∀(a:Act) (M:Mem) (w:World),Inv fi M w ⟨enum 0 vs,[],gh⟩ a→Fn.ntmps≤a.tmps.size→c.wp P (CPost fi M w a.tmps.size x.1 x.2) a w) (hfin:finish fn gh x=some (r,gh')):CallOk P fi F vs gh r gh':=by
 intro M w args hG hlb hown hlen hrep
 obtain⟨e,sf⟩:=x
 refine calls_of_wp hf hb ?_
 have hsz:(args.toArray++Array.replicate (Fn.ntmps-args.toArray.size) undef).size=args.length+(Fn.ntmps-args.length):=by simp
 have hI:Inv fi M w ⟨enum 0 vs,[],gh⟩ {tmps:=args.toArray++Array.replicate (Fn.ntmps-args.toArray.size) undef,defers:=[] }:=by
  refine⟨fun t v hv=>?_,rfl,hG.lbl,hG.gbl,hG.nodup,fun i cs blk h=>by simp at h,hG.gh,hG.gl,hG.immlt,hG.ownlt,hG.gblt⟩
  obtain⟨i,h1,h2⟩:=jgc hv
  rw[Nat.zero_add] at h1
  subst h1
  have hi:=(List.getElem?_eq_some_iff.1 h2).1
  have hi':t<args.length:=by omega
  refine⟨by simp only[hsz];omega,?_⟩
  have:=hrep t v args[t] h2 (List.getElem?_eq_getElem hi')
  have e2:(args.toArray++Array.replicate (Fn.ntmps-args.toArray.size) undef).getD t undef=args[t]:=by
   rw[Array.getD_eq_getD_getElem?,Array.getElem?_append_left (by simpa using hi')]
   simp[hi']
  rw[e2]
  exact this.repE.repAt
 refine wp_mono (hwp _ M w hI (by simp only[hsz];omega)) ?_
 rintro ex a' w' ⟨h1,M',h2,h3,_⟩
 have key:e= .normal∨e= .ret→∃r0 gh0,finish fn gh (e,sf)=some (r0,gh0)∧a'.defers=[]∧∃v,(Go.results Fn a'.tmps).run P w'= .ok v w'∧
   ∃M2,GI fi M2 w' gh0∧M2.lb=[]∧resOk r0=true∧RepAt fi M2 w' Loc.res r0 v∧Kp M w M2 w':=by
  intro he
  refine⟨r,gh',hfin,h2.defers,?_⟩
  have hfin':(results fn.own fn.res sf).bind (fun r=>if resOk r then
   (if fn.trunc then if sf.gh.take gh.length=gh∧(frzR gh.length sf.gh r).noG then some (frzR gh.length sf.gh r,gh) else none else some (r,sf.gh)) else none)=some (r,gh'):=by
   rcases he with rfl|rfl<;>exact hfin
  rw[Option.bind_eq_some_iff] at hfin'
  obtain⟨r1,q1,q2⟩:=hfin'
  split at q2
  ·rename_i hok
   obtain⟨v,M1,v1,v2,v3,v4⟩:=jlq (P:=P) h2 hr q1 hok
   have hG1:GI fi M1.noLb w' sf.gh:=Inv.toGI (s:=sf) v2
   have hr1:=v4.noLb hok
   have hk1:Kp M w M1.noLb w':=(h3.trans v3).trans (Kp.noLb M1 w')
   split at q2
   ·split at q2
    ·rename_i hq
     cases q2
     have hn:gh.length≤sf.gh.length:=by
      have:=congrArg List.length hq.1
      rw[List.length_take] at this;omega
     refine⟨v,v1,M1.noLb.cutF gh.length,?_,rfl,jlt hok,jls hG1 hr1 hok hq.2,?_⟩
     ·have:=hG1.cutF gh.length hn (fun i o ho=>by
       rw[hq.1] at ho
       have hi:i<M.gb.length:=by rw[hG.gbl];exact (List.getElem?_eq_some_iff.1 ho).1
       have:=(hG.gh i o _ ho (List.getElem?_eq_getElem hi)).bnd
       rwa [hG.gbl] at this)
      rwa [hq.1] at this
     ·have hgbl:M.gb.length=gh.length:=hG.gbl
      refine⟨hk1.os,hk1.tape,hk1.output,hk1.size,⟨fun i k h=>?_,fun b k h=> .inl (hk1.ext.imm b k h),hk1.ext.cell,hk1.ext.st⟩,hk1.block,hk1.lbn,fun k h=>hk1.gbn k (List.mem_of_mem_take h),hk1.ownn,fun b k h=>?_⟩
      ·have hi:i<gh.length:=by have h4:=(List.getElem?_eq_some_iff.1 h).1;omega
       have:=hk1.ext.gb i k h
       simp only[Mem.cutF,Mem.cut,List.getElem?_take,hi,if_true];exact this
      ·rcases h with h|⟨g,hg,hb,_⟩
       ·exact hk1.immn b k h
       ·rcases hk1.gbn b (List.mem_of_getElem? hb) with h2|h2|h2
        ·exfalso
         obtain⟨i,hi⟩:=List.mem_iff_getElem?.1 h2
         have hi2:=hk1.ext.gb i b hi
         have hnd:=hG1.nodup
         rw[List.nodup_append] at hnd
         have e1:=List.getElem?_eq_some_iff.1 hb
         have e2:=List.getElem?_eq_some_iff.1 hi2
         have:i=g:=je1 hnd.2.1 (by rw[hi2,hb]) e2.1
         have:=(List.getElem?_eq_some_iff.1 hi).1
         omega
        ·exact .inr (.inl h2)
        ·exact .inr (.inr h2)
    ·cases q2
   ·cases q2
    exact⟨v,v1,M1.noLb,hG1,rfl,hok,hr1,hk1⟩
  ·cases q2
 cases e with
 |exit i=>simp[finish] at hfin
 |normal=>
  obtain⟨r0,gh0,k1,k2,v,k3,M2,k4⟩:=key (.inl rfl)
  rw[hfin] at k1;cases k1
  subst h1
  exact⟨k2,v,k3,v,M2,rfl,k4⟩
 |ret=>
  obtain⟨r0,gh0,k1,k2,v,k3,M2,k4⟩:=key (.inr rfl)
  rw[hfin] at k1;cases k1
  subst h1
  exact⟨k2,v,k3,v,M2,rfl,k4⟩
theorem fun_ok {n:Nat} (hc:CodeOk P fi pg n) {fn:IFunc} {F:Nat} {Fn:Func} {c:Code} (hf:P.funcs[F]?=some Fn) (hb:Fn.body=some c) (hm:matchC P fi Fn.ntmps fn.body c=true) (hr:mRes P fn.res Fn.results.toList=true)
  {vs:List PV} {gh gh':List GObj} {x:IExit×St} {r:PV} (hrun:irun pg n fn.body ⟨enum 0 vs,[],gh⟩=some x) (hfin:finish fn gh x=some (r,gh')):CallOk P fi F vs gh r gh':=
 jgd hf hb hr (fun a M w hI hN=>hc Fn.ntmps fn.body c _ x.1 x.2 a M w hm hrun hI hN) hfin
end
end Go.Lw
end

/-! Whole programs: what the machine comes to, the program comes to. -/
section
namespace Go.Lw
open Go Go.RowKit
section
variable {fi:FI} {M M':Mem} {w w':World} {P:Program} {s s':St} {a:Act} {cf:CallF} {pg:Prg}
def HasBody (P : Program) (F : Nat) : Prop := ∃ fn c, P.funcs[F]? = some fn ∧ (fn.name == "runtime.NumGoroutine") = false ∧ fn.body = some c
def LinkOk (P:Program) (fi:FI) (pg:Prg):Prop:=
 ∀f F,fi f=some F→HasBody P F∧match pg f with
  |some (.code fn)=>∃Fn c,P.funcs[F]?=some Fn∧Fn.body=some c∧matchC P fi Fn.ntmps fn.body c=true∧mRes P fn.res Fn.results.toList=true
  |some (.lib L)=>∀vs gh r gh',L vs gh=some (r,gh')→(∀p∈vs,argOk p=true)→CallOk P fi F vs gh r gh'
  |none=>True
theorem cf_ok (hL:LinkOk P fi pg) {n:Nat} (hc:CodeOk P fi pg n):CfOk P fi (callBy (irun pg n) pg):=by
 intro f vs gh r gh' F h hok hf
 obtain⟨h1,h2⟩:=hL f F hf
 refine⟨h1,?_⟩
 unfold callBy at h
 cases hp:pg f with
 |none=>rw[hp] at h;cases h
 | some df=>
  cases df with
  |lib L=>
   rw[hp] at h h2
   exact h2 vs gh r gh' h hok
  | code fn=>
   rw[hp] at h h2
   obtain⟨Fn,c,e1,e2,e3,e4⟩:=h2
   simp only at h
   split at h
   ·simp only[Option.bind_eq_some_iff] at h
    obtain⟨x,hx,hfin⟩:=h
    exact fun_ok hc e1 e2 e3 e4 hx hfin
   ·cases h
theorem je2 (hP:P.follows .mixedOrders=true) (hL:LinkOk P fi pg):∀n,CodeOk P fi pg n
 |0=>fun N ic c s e s' a M w _ h=>by simp[irun] at h
 |n+1=>jlo hP (je2 hP hL n) (cf_ok hL (je2 hP hL n))
theorem jlu (hP:P.follows .mixedOrders=true) (hL:LinkOk P fi pg) {f:Nat} {vs:List PV} {gh:List GObj} {r:PV} {gh':List GObj} {F:Nat} (h:callL pg f vs gh=some (r,gh')) (hok:∀p∈vs,argOk p=true) (hf:fi f=some F) :
  CallOk P fi F vs gh r gh':=by
 obtain⟨n,hn⟩:=jfc pg h
 exact (cf_ok hL (je2 hP hL n) f vs gh r gh' F hn hok hf).2
theorem jc5 {w:World} {b k:Nat} {v:Value} (h:w.cell? ⟨b,k,none⟩=some v):b<w.heap.size:=by
 rcases Nat.lt_or_ge b w.heap.size with h'|h'
 ·exact h'
 ·simp[World.cell?,Array.getElem?_eq_none h'] at h
def Mem.start (w:World):Mem:={lb:=[],gb:=[],imm:=fun b _=>b<w.heap.size,own:=fun _=>none,st:=fun _=>(0,0,0) }
theorem GI.start (fi:FI) (w:World) (hg:∀x∈fi.gl,x.1<w.heap.size∧w.cell? ⟨x.1,x.2.1,none⟩=x.2.2):GI fi (Mem.start w) w []:=
 ⟨fun t v hv=>by simp[get] at hv,rfl,rfl,rfl,by simp[Mem.start],fun i cs blk h=>by simp at h,fun i o blk h=>by simp at h,fun x hx=>⟨(hg x hx).1,(hg x hx).2⟩,fun b k h=>h,fun b l h=>by simp[Mem.start] at h,fun b h=>by simp[Mem.start] at h⟩
theorem top_ok (hP:P.follows .mixedOrders=true) (hL:LinkOk P fi pg) {f F:Nat} {vs:List PV} {r:PV} (h:callL pg f vs []=some (r,[])) (hok:∀p∈vs,argOk p=true) (hf:fi f=some F) {args:List Value} (hl:args.length=vs.length) (hg:∀x∈fi.gl,x.1<w.heap.size∧w.cell? ⟨x.1,x.2.1,none⟩=x.2.2)
  (hr:∀(i:Nat) (p:PV) (v:Value),vs[i]?=some p→args[i]?=some v→RepP fi (Mem.start w) w p v) :
  Calls P F args.toArray w fun e w'=>∃v M',e= .returned v∧resOk r=true∧RepAt fi M' w' Loc.res r v∧w'.os=w.os∧w'.tape=w.tape∧w'.output=w.output∧w.heap.size≤w'.heap.size∧∀k,k<w.heap.size→w'.heap[k]?=w.heap[k]?:=by
 refine Calls.mono (jlu hP hL h hok hf (Mem.start w) w args (GI.start fi w hg) rfl (fun b l h=>by simp[Mem.start] at h) hl hr) ?_
 rintro e w' ⟨v,M',rfl,_,_,h3,h4,h5⟩
 exact⟨v,M',rfl,h3,h4,h5.os,h5.tape,h5.output,h5.size,fun k hk=>h5.block k hk (by simp[Mem.start]) (by simp[Mem.start]) rfl⟩
end
end Go.Lw
end
