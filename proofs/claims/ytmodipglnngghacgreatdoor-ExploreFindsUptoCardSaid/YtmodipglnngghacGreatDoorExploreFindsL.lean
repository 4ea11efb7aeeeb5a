/-
  The texts that the proof stands on, part 12.
-/
import Derived.Test.YtmodipglnngghacGreatDoorExploreFindsK
import Derived.Laws.MakeOwn
set_option linter.unusedVariables false
set_option linter.unusedSimpArgs false
set_option linter.unnecessarySimpa false

set_option maxRecDepth 100000
set_option maxHeartbeats 4000000
namespace Go.Lw
open Go
section
open Go.RowKit
section
variable {fi:FI} {M M':Mem} {w w':World} {P:Program} {s s':St} {a:Act} {cf:CallF}
theorem vw {o:Oper} {d z m:Nat} {agg:Bool} {x i:IX} (A:de P fi M w s a o (.index d z m agg x i)) (h:ae cf s (.index d z m agg x i)=some s'):Sim P fi o M w s' a:=by
 obtain⟨dst,op,ty,pos,aft,gd⟩:=o;obtain⟨hI,hm,hd,hlt⟩:=A;cases op<;>simp[mOp] at hm;rename_i t y j;obtain⟨⟨hx,hi⟩,hm⟩:=hm;split at hm
 ·rename_i m' e ht
  simp at hm;obtain⟨⟨rfl,hz⟩,ha⟩:=hm;simp only[ae] at h;split at h
  ·rename_i k n hn
   have hiv:=(bc hI hi hn).int;split at h
   ·rename_i cs hp
    split at h
    ·rename_i hc
     simp only[aE] at h;obtain⟨p,hg,rfl⟩:=h;obtain⟨vs,hv,hl,hvv⟩:=(bc hI hx hp).agg;obtain⟨r,h1,h2⟩:=uD (P:=P) hg hl hvv ha (λ_=>hz);refine Sim.pure hI hd (hlt d rfl) ?_ h2.repE.repAt;simp[execOp,hiv,hv,Instr.index,run_underlying ht,asIntOf,hc.1,hc.2,run_sizeOf' hz,h1]
    ·cases h
   ·cases h
  ·cases h
 ·cases hm
theorem vx {o:Oper} {d kn:Nat} {m k:IX} {ok:Bool} {zero:PV} (A:de P fi M w s a o (.lookup d kn m k ok zero)) (h:ae cf s (.lookup d kn m k ok zero)=some s'):Sim P fi o M w s' a:=by
 obtain⟨dst,op,ty,pos,aft,gd⟩:=o;obtain⟨hI,hm,hd,hlt⟩:=A;cases op<;>simp[mOp] at hm;rename_i t y j ok';obtain⟨⟨⟨hx,hk⟩,rfl⟩,hm⟩:=hm;split at hm
 ·rename_i kt et ht
  simp only[aX] at hm;obtain⟨hkt,hz⟩:=hm;simp only[ae] at h;split at h
  ·rename_i b kv hp hkv
   split at h
   ·rename_i es hes
    split at h
    ·cases h
    ·rename_i hki
     have hki':dE kn kv=true:=by simpa using hki
     unfold jE at hz;cases hit:P.info? et with
     |none=>simp[hit] at hz
     | some it=>
      cases hzv:it.zero with
      |none=>simp[hit,hzv] at hz
      | some zv=>
       simp[hit,hzv] at hz;have L:=λ(r:Option PV) (hr:eU kn es kv=some r)=>uY (P:=P) hI ht hkt hit hzv hz (bc hI hx hp) hes (bc hI hk hkv) hki' (ok:=ok) hr
       split at h
       ·rename_i v hf
        cases h;obtain⟨r,h1,h2⟩:=L _ hf;exact Sim.pure hI hd (hlt d rfl) (by simp[execOp,h1]) h2.repE.repAt
       ·rename_i hf
        cases h;obtain⟨r,h1,h2⟩:=L _ hf;exact Sim.pure hI hd (hlt d rfl) (by simp[execOp,h1]) h2.repE.repAt
       ·cases h
   ·cases h
  ·cases h
 ·cases hm
theorem vy {o:Oper} {kn:Nat} {m k x:IX} (A:de P fi M w s a o (.mupd kn m k x)) (h:ae cf s (.mupd kn m k x)=some s'):Sim P fi o M w s' a:=by
 obtain⟨dst,op,ty,pos,aft,gd⟩:=o;obtain⟨hI,hm,hd,hlt⟩:=A;have hdn:dst=none:=hd;subst hdn;simp only[ae] at h;split at h
 ·rename_i b kv v hp hkv hv
  split at h
  ·rename_i es hes
   split at h
   ·rename_i hc
    simp only[aE] at h;obtain⟨es',hs,rfl⟩:=h;cases op<;>simp[mOp] at hm<;>rename_i t y j z<;>obtain⟨⟨⟨hx,hk⟩,hy⟩,hm⟩:=hm<;>split at hm<;>try (cases hm;done)
    all_goals
     rename_i kt et ht;obtain⟨w2,h1,h2,h3⟩:=u9 (P:=P) hI ht hm (bc hI hx hp) hes (bc hI hk hkv) hc.2.2 (bc hI hy hv) hc.1 hc.2.1 hs;exact⟨.skip,undef,M,w2,by simp[execOp,h1],.inr ⟨rfl,rfl⟩,h2,h3⟩
   ·cases h
  ·cases h
 ·cases h
theorem ku {b:Builtin} {ats:Array TypeId} {ty:TypeId} {cs:Array Bool} {args:Array Value}:invoke (.builtin b ats ty cs) args=builtin b ats ty cs args:=rfl
theorem vz {o:Oper} {d kd:Nat} {x:IX} (A:de P fi M w s a o (.len d kd x)) (h:ae cf s (.len d kd x)=some s'):Sim P fi o M w s' a:=by
 obtain⟨dst,op,ty,pos,aft,gd⟩:=o;obtain⟨hI,hm,hd,hlt⟩:=A;cases op with
 | call c=>
  obtain⟨callee,args,argTypes⟩:=c;cases callee with
  | builtin b=>
   cases b<;>simp[mOp] at hm;split at hm
   ·rename_i y t ha ht
    simp only[aX] at hm;obtain⟨hx,hm⟩:=hm;have ha':args= #[y]:=by apply Array.ext';simpa using ha
    subst ha';have fin:∀(n:Nat),(Builtin.len_ argTypes ty #[a.eval y]).run P w= .ok (.int .i64 n) w->Sim P fi ⟨dst,.call ⟨.builtin .len,#[y],argTypes⟩,ty,pos,aft,gd⟩ M w (s.put d (.int .i64 n)) a:=λn hn=>by refine Sim.pure hI hd (hlt d rfl) (v:= .int .i64 n) ?_ (RepP.repE (.int _ _)).repAt;simp[execOp,resolve,ku,builtin,hn]
    obtain rfl|rfl|rfl|h4:kd=0\/kd=1\/kd=2\/3<=kd:=by omega
    ·split at hm<;>try (first|(simp at hm;done)|omega)
     rename_i e _ hu;simp only[ae] at h;split at h<;>try (first|(simp at h;done)|omega)
     ·rename_i ow z xs _ hp
      cases h;obtain⟨A,c,hv,hcl⟩:=(bc hI hx hp).slC;exact fin _ (by rw[hv];exact iM (P:=P) ht hu w)
     ·rename_i g b off n z _ hp
      cases h;have hx':=bc hI hx hp;have hv:∃A c,a.eval y= .slice A n c:=by
       cases g with
       |true=>
        generalize hu:a.eval y=u at hx';cases (show RepP fi M w (.bs true b off n z) u from hx') with
        |bs _ _ _ _ A c blk hb hA hc=>exact⟨A,c,rfl⟩
       |false=>obtain⟨blk,A,c,_,hv,_⟩:=hx';exact⟨A,c,hv⟩
      obtain⟨A,c,hv⟩:=hv;exact fin _ (by rw[hv];exact iM (P:=P) ht hu w)
     ·rename_i b gen n _ hp
      cases h;have hx':=bc hI hx hp;have hv:∃A c,a.eval y= .slice A n c:=by
       generalize hu:a.eval y=u at hx';cases (show RepP fi M w (.stk b gen n) u from hx') with
       |stk _ _ _ blk c hb hg hA hc=>exact⟨_,c,rfl⟩
      obtain⟨A,c,hv⟩:=hv;exact fin _ (by rw[hv];exact iM (P:=P) ht hu w)
     ·rename_i b gen off n _ hp
      cases h;have hx':=bc hI hx hp;have hv:∃A c,a.eval y= .slice A n c:=by
       generalize hu:a.eval y=u at hx';cases (show RepP fi M w (.sub b gen off n) u from hx') with
       |sub _ _ _ _ blk c A hb hg hA hc hAd=>exact⟨_,c,rfl⟩
      obtain⟨A,c,hv⟩:=hv;exact fin _ (by rw[hv];exact iM (P:=P) ht hu w)
     ·rename_i _ hp
      cases h;have hx':=bc hI hx hp;have hv:a.eval y= .slice none 0 0:=by
       generalize hu:a.eval y=u at hx';cases (show RepP fi M w .nils u from hx') with
       |nils=>rfl
      exact fin _ (by rw[hv];exact iM (P:=P) ht hu w)
    ·split at hm<;>try (first|(simp at hm;done)|omega)
     rename_i _ hu;simp only[ae] at h;split at h<;>try (first|(simp at h;done)|omega)
     rename_i b _ hp;cases h;have hv:=(bc hI hx hp).str;exact fin _ (by rw[hv];exact uF (P:=P) ht hu w)
    ·split at hm<;>try (first|(simp at hm;done)|omega)
     rename_i kt et _ hu;simp only[ae] at h;split at h<;>try (first|(simp at h;done)|omega)
     rename_i b _ hp;split at h
     ·rename_i es hes
      cases h;exact fin _ (uZ (P:=P) hI ht hu (bc hI hx hp) hes)
     ·cases h
    ·split at hm<;>first|(simp at hm;done)|omega
   ·cases hm
  |_=>simp[mOp] at hm
 |_=>simp[mOp] at hm
theorem vA {o:Oper} {d z bytes:Nat} {sx x:IX} (A:de P fi M w s a o (.append d z bytes sx x)) (h:ae cf s (.append d z bytes sx x)=some s'):Sim P fi o M w s' a:=by
 obtain⟨dst,op,ty,pos,aft,gd⟩:=o;obtain⟨hI,hm,hd,hlt⟩:=A;cases op with
 | call c=>
  obtain⟨callee,args,argTypes⟩:=c;cases callee with
  | builtin b=>
   cases b<;>simp[mOp] at hm;split at hm
   ·rename_i y y' t t' ha ht
    simp only[aX,cR,aH] at hm;obtain⟨⟨⟨⟨⟨hs,hx⟩,rfl⟩,hz0⟩,hb0⟩,hm⟩:=hm;have ha':args= #[y,y']:=by apply Array.ext';simpa using ha
    have ht':argTypes= #[t,t]:=by apply Array.ext';simpa using ht
    subst ha';subst ht';split at hm<;>try (cases hm;done)
    rename_i e hu;split at hm<;>try (cases hm;done)
    rename_i i hi;simp only[aX,cR] at hm;obtain⟨⟨hsz,hby⟩,hm⟩:=hm;split at hm<;>try (cases hm;done)
    rename_i zv hzv;simp at hm;simp only[ae,aC] at h;obtain⟨xv,hxv,h⟩:=h;split at h
    ·rename_i o2 z2 ys
     simp only[aC] at h;obtain⟨⟨v,e'⟩,hv,h⟩:=h;cases v with
     | sl o1 z1 xs=>
      simp only at h;split at h
      ·rename_i hc
       obtain⟨rfl,rfl,rfl,hbd⟩:=hc;cases h;obtain⟨M1,hI1,k1,hr,_,hgb,himm⟩:=jz hI hs hv;have hxr:RepP fi M w (.sl false z2 ys) (a.eval y'):=by
        have:=bc hI hx hxv;cases o2 with
        |false=>exact this
        |true=>
         cases x with
         |t n=>simp only[ai,aE] at hxv;obtain⟨q,_,hq⟩:=hxv;cases q<;>simp[degr] at hq
         |c q=>simp only[ai,bU] at hxv;cases q<;>simp[degr] at hxv
         |f id=>simp[ai] at hxv
       have hx1:RepP fi M1 w (.sl false z2 ys) (a.eval y'):=hxr.mono k1.ext;obtain⟨r,M2,w2,h1,h2,k2⟩:=uR (P:=P) (ty:=ty) hI1 hu hi hzv hsz hby hm hz0 hb0 hr hx1 hbd (hlt d rfl);refine⟨.value r,r,M2,w2,?_,.inl rfl,by rw[show dst=some d from hd];exact h2,k1.trans k2⟩;simp[execOp,resolve,ku,builtin,h1]
      ·cases h
     |_=>cases h
    ·cases h
   ·cases hm
  |_=>simp[mOp] at hm
 |_=>simp[mOp] at hm
theorem vB {o:Oper} {d i:Nat} {x:IX} (A:de P fi M w s a o (.extract d x i)) (h:ae cf s (.extract d x i)=some s'):Sim P fi o M w s' a:=by
 obtain⟨dst,op,ty,pos,aft,gd⟩:=o;obtain⟨hI,hm,hd,hlt⟩:=A;cases op<;>simp[mOp] at hm;rename_i y j;obtain⟨hx,rfl⟩:=hm;simp only[ae] at h;split at h
 ·rename_i vs hp
  simp only[aE] at h;obtain⟨p,hg,rfl⟩:=h;obtain⟨us,hv,hl,hvv⟩:=(bc hI hx hp).tup;have hi:i<us.length:=by rw[hl];exact (aD.1 hg).1
  have hr:=hvv i p _ hg (aA hi);refine Sim.pure hI hd (hlt d rfl) (v:=us[i]) ?_ hr.repE.repAt;simp[execOp,hv,Instr.extract,aA hi]
 ·cases h
end
end
section
open Go.RowKit
section
variable {fi:FI} {M M':Mem} {w w':World} {P:Program} {s s':St} {a:Act} {cf:CallF}
theorem lZ {z:Nat} (x:PV) (hx:x.cells.length=z):∀(n j:Nat),((List.replicate n x).flatMap PV.cells)[j]?=if j<n*z then x.cells[j%z]? else none
 |0,j=>by simp
 | n+1,j=>by
  rw[List.replicate_succ,cL,Nat.add_mul,Nat.one_mul];by_cases h:j<z
  ·rw[aJ (by omega),if_pos (by omega),cM h]
  ·rw[aR (by omega),lZ x hx n,hx]
   by_cases h2:j<n*z+z
   ·rw[if_pos (by omega),if_pos h2,<-Nat.mod_eq_sub_mod (by omega)]
   ·rw[if_neg (by omega),if_neg h2]
theorem pp {z:Nat} (x:PV) (hx:x.cells.length=z) (n:Nat):((List.replicate n x).flatMap PV.cells).length=n*z:=by simp[List.length_flatMap,hx]
theorem vC (zs:Array Value) (n j:Nat) (h:j<n):(madeCells zs n).toList[j]?=some (zs[j%zs.size]!):=by simp[madeCells,h]
theorem pq {zero:PV} {zv:Value} {z:Nat} (hc:cOk zero zv=true) (hl:zero.cells.length=z) (ha:ah zero=true) (hs:zv.cells.size=z) (n:Nat) (mk:Nat->Loc) :
  RepAt fi M w mk (.agg ((List.replicate n zero).flatMap PV.cells)) (.agg (madeCells zv.cells (n*z))):=by
 refine⟨(madeCells zv.cells (n*z)).toList,by simp,by rw[pp zero hl];simp[size_madeCells],λj c u hcj huj=>?_⟩;rw[lZ zero hl] at hcj;split at hcj
 ·rename_i hj
  rw[vC _ _ _ hj,hs] at huj;obtain⟨vs,e1,e2,e3,_⟩:=(iK (fi:=fi) (M:=M) (w:=w) hc (λ_=>mk j)).cells ha;have hjz:j%z<z:=Nat.mod_lt _ (by rcases z with _|z;simp at hj;omega);refine e3 (j%z) c u hcj ?_;have:zv.cells.toList[j%z]?=some u:=by rw[<-huj];simp only[Array.getElem?_toList];rw[getElem!_pos zv.cells (j%z) (by omega)];exact Array.getElem?_eq_getElem (by omega)
  rw[e1] at this;exact this
 ·cases hcj
theorem vD {o:Oper} {d z bytes:Nat} {g:Bool} {zero:PV} {l:IX} (A:de P fi M w s a o (.mksl d g z bytes zero l)) (h:ae cf s (.mksl d g z bytes zero l)=some s'):Sim P fi o M w s' a:=by
 obtain⟨dst,op,ty,pos,aft,gd⟩:=o;obtain⟨hI,hm,hd,hlt⟩:=A;cases op<;>simp[mOp] at hm;rename_i t y y';obtain⟨⟨⟨hx,hx'⟩,hb0⟩,hm⟩:=hm;split at hm<;>try (cases hm;done)
 rename_i e hu;split at hm<;>try (cases hm;done)
 rename_i i hi;simp only[aX,cR] at hm;obtain⟨⟨hsz,hby⟩,hm⟩:=hm;split at hm<;>try (cases hm;done)
 rename_i zv hzv;simp only[aX,cR] at hm;obtain⟨hzc,hzs⟩:=hm;simp only[ae] at h;split at h
 ·rename_i k n hn
  split at h
  ·rename_i hc
   obtain⟨h0,hbd,hzl,hok⟩:=hc;have v1:=(bc hI hx hn).int;have v2:=(bc hI hx' hn).int;have hok':ah (.agg ((List.replicate n.toNat zero).flatMap PV.cells))=true:=by simp only[ah,PV.cells,bS,List.mem_flatMap,List.mem_replicate] at hok ⊢;rintro c ⟨x,⟨_,rfl⟩,hc⟩;exact hok c hc
   have hb1:n*1<=n*(bytes:Int):=Int.mul_le_mul_of_nonneg_left (by omega) h0;have hmx:(maxBytes:Int)=140737488355328:=rfl;have hrun:=run_make (P:=P) w t e i zv hu hi hzv k k n n h0 (Int.le_refl _) (by rw[hby,Int.mul_comm];omega) (by omega);rw[hsz] at hrun;cases g with
   | true=>
    cases h;obtain⟨M2,hI2,k2,hr2⟩:=hI.newBox true (pq (fi:=fi) (M:=M) (w:=w) hzc hzl hok hzs n.toNat Loc.lim) hok' e;refine⟨_,.slice (some ⟨w.heap.size,0,none⟩) n.toNat n.toNat,M2,_,?_,.inl rfl,?_,k2⟩
    ·simp only[execOp,v1,v2,Sem.run_bind,hrun];rfl
    ·rw[show dst=some d from hd]
     refine hI2.put (hlt d rfl) (RepE.repAt ?_);cases (show RepP fi M2 _ (.ptr true _ 0) _ from hr2) with
     |ptr _ _ _ hb=>exact RepP.repE (.bs _ _ _ _ _ _ _ hb (.inr rfl) (cN _))
   | false=>
    simp only at h;split at h<;>try (cases h;done)
    rename_i hfl;cases h;obtain⟨us,u1,u2,u3⟩:=pq (fi:=fi) (M:=M) (w:=w) hzc hzl hok hzs n.toNat Loc.lim;rw[pp zero hzl] at u2;have u1':(madeCells zv.cells (n.toNat*z))=us.toArray:=Value.agg.inj u1;rw[u1'] at hrun
    obtain⟨M1,hI1,k1⟩:=hI.newOwn (hlt d rfl) (xs:=List.replicate n.toNat zero) (z:=z) (λe he=>by rw[List.eq_of_mem_replicate he];exact hzl) (λe he=>by rw[List.eq_of_mem_replicate he];exact hok) us [] (by simpa using u2)
     (λi e j p he hp=>by
      obtain⟨hi',rfl⟩:=aD.1 he;rw[List.getElem_replicate] at hp;have hjz:j<z:=by have:=(aD.1 hp).1;omega
      have hin:i<n.toNat:=by simpa using hi'
      have hlt2:i*z+j<n.toNat*z:=by have:=cP z (show i+1<=n.toNat by omega);rw[Nat.add_mul,Nat.one_mul] at this;omega
      have hg:=lZ zero hzl n.toNat (i*z+j);rw[if_pos hlt2,Nat.mul_comm i z,Nat.mul_add_mod,cM hjz,hp] at hg;rw[Nat.mul_comm i z];have hul:z*i+j<us.length:=by rw[u2,Nat.mul_comm z i];exact hlt2
      refine⟨us[z*i+j],aA hul,?_⟩;have:=u3 (z*i+j) p _ hg (aA hul);cases zero<;>simp[dU] at hfl<;>(cases j<;>simp[PV.cells] at hp;subst hp;exact this))
     n.toNat (by simp) (by simp[u2]) e us.toArray (by simp)
    refine⟨_,.slice (some ⟨w.heap.size,0,none⟩) n.toNat n.toNat,M1,_,?_,.inl rfl,?_,k1⟩
    ·simp only[execOp,v1,v2,Sem.run_bind,hrun];rfl
    ·rw[show dst=some d from hd]
     simpa using hI1
  ·cases h
 ·cases h
theorem pr {α β:Type} (F:α->Sem β) (G:α->Option β) (hFG:∀x y,G x=some y->(F x).run P w= .ok y w):∀{l:List α} {L:List β},l.mapM G=some L->(l.mapM F).run P w= .ok L w
 |[],L,h=>by simp at h;subst h;simp
 |x::l,L,h=>by simp only[List.mapM_cons,Option.bind_eq_bind,aC] at h;obtain⟨y,hy,L',hL,h⟩:=h;simp at h;subst h;simp[List.mapM_cons,hFG x y hy,pr F G hFG hL]
theorem vE {α β:Type} (F:α->Sem β) (G:α->Option β) (hFG:∀x y,G x=some y->(F x).run P w= .ok y w) {l:Array α} {L:List β} (h:l.toList.mapM G=some L):(l.mapM F).run P w= .ok L.toArray w:=by rw[Array.mapM_eq_mapM_toList,map_eq_pure_bind,Sem.run_bind,pr F G hFG h];rfl
theorem vF {t:TypeId} {zv:Value} {i:TypeInfo} {parts:Array (Nat×Value)} {us:List Value} (hi:P.info? t=some i) (hz:i.zero=some zv)
  (h:∀place:Nat->Option (Nat×Nat),(∀j q,fd P t j=some q->place j=some q)->Instr.fill place zv.cells parts.toList=some us.toArray)
  (hp:∃j q,fd P t j=some q):(Instr.build t parts).run P w= .ok (.agg us.toArray) w:=by
 obtain⟨j,q,hjq⟩:=hp;unfold fd at h hjq;split at hjq
 ·rename_i fs ht
  simp only[aC] at hjq;obtain⟨L,hL,_⟩:=hjq;simp only[ht,hL,cC] at h;have h2:=h (L.toArray[·]?) (λj q hq=>by simpa using hq);have h3:(fs.mapM (m:=Sem) λf=>do pure (f.offset,<-sizeOf f.type)).run P w= .ok L.toArray w:=vE _ _ (λf q hq=>by simp only[aE] at hq;obtain⟨i,hi,rfl⟩:=hq;simp[sizeOf,typeInfo,hi]) hL;have h4:(zeroValue t).run P w= .ok zv w:=by simp[zeroValue,typeInfo,hi,hz]
  simp only[Instr.build,Sem.run_bind,h4,Result.andThen,run_underlying ht,h3,h2];rfl
 ·rename_i m e ht
  simp only[aE] at hjq;obtain⟨z,hsz,_⟩:=hjq;simp only[ht,hsz,cD] at h;have h2:=h (λi=>some (i*z,z)) (λj q hq=>by simpa using hq);simp[Instr.build,zeroValue,typeInfo,hi,hz,run_underlying ht,run_sizeOf' hsz,h2]
 ·cases hjq
end
end
section
open Go.RowKit
section
variable {fi:FI} {M M':Mem} {w w':World} {P:Program} {s s':St} {a:Act} {cf:CallF}
def fP (a:Act) (q:Nat×Operand):Nat×Value:=(q.1,a.eval q.2)
theorem pt (hI:Inv fi M w s a) {t:TypeId} {place:Nat->Option (Nat×Nat)} (hpl:∀j q,fd P t j=some q->place j=some q) (mk:Nat->Loc):∀{ps:List (Nat×Nat×IX)} {os:List (Nat×Operand)} {vs:List (Nat×Nat×PV)},
  eW P fi t ps os=true->fb s.env ps=some vs->(∀p∈vs,ah p.2.2=true)->gK fi M w place mk vs (os.map (fP a))
 |[],[],vs,_,h,_=>by simp[fb] at h;subst h;exact trivial
 |[],_::_,_,hm,_,_=>by simp[eW] at hm
 |(_,_,_)::_,[],_,hm,_,_=>by simp[eW] at hm
 |(off,k,x)::ps,(i,o)::os,vs,hm,h,hok=>by simp only[eW,aX,cR] at hm;simp only[fb,aC,aE] at h;obtain⟨v,hv,vs',hvs,rfl⟩:=h;exact⟨hpl _ _ hm.1.1,(bc hI hm.1.2 hv).repAt,hok (off,k,v) (by simp),pt hI hpl mk hm.2 hvs (λp hp=>hok p (by simp[hp]))⟩
theorem vG {t:TypeId} {z:List PV} (h:kq P t z=true):∃i zv,P.info? t=some i/\i.zero=some zv/\zv.cells.toList.length=z.length/\
  ∀(mk:Nat->Loc) (i:Nat) (c:PV) (u:Value),z[i]?=some c->zv.cells.toList[i]?=some u->RepC fi M w (mk i) c u:=by
 unfold kq at h;split at h
 ·rename_i zv hz
  simp only[aC] at hz;obtain⟨i,hi,hzv⟩:=hz;obtain⟨h1,h2⟩:=lV h;exact⟨i,zv,hi,hzv,h1,λmk i c u hc hu=>lU (h2 i c u hc hu) _⟩
 ·cases h
theorem pu {t:TypeId} {z cs:List PV} {vs:List (Nat×Nat×PV)} {parts:Array (Nat×Value)} (hpl:(fd P t 0).isSome=true) (hz:kq P t z=true) (hz1:∀c∈z,c.one=true) (h:fq z vs=some cs) (mk:Nat->Loc)
  (hp:∀place:Nat->Option (Nat×Nat),(∀j q,fd P t j=some q->place j=some q)->gK fi M w place mk vs parts.toList) :
  ∃v,(Instr.build t parts).run P w= .ok v w/\RepAt fi M w mk (.agg cs) v:=by
 obtain⟨i,zv,hi,hzv,hl,hzr⟩:=vG (fi:=fi) (M:=M) (w:=w) hz;obtain⟨q,hq⟩:=Option.isSome_iff_exists.1 hpl;have F:=λ(place:Nat->Option (Nat×Nat)) (hpl:∀j q,fd P t j=some q->place j=some q)=>vc vs parts.toList z cs zv.cells.toList h hl (hzr mk) (hp place hpl) hz1
 obtain⟨us,h1,h2,h3,_⟩:=F (fd P t) (λ_ _ h=>h);refine⟨.agg us.toArray,vF hi hzv (λplace hpl=>?_) ⟨0,q,hq⟩,⟨us,rfl,h2,h3⟩⟩;obtain⟨us',g1,_⟩:=F place hpl;have mono:∀(l:List (Nat×Value)) (cells:Array Value) (r:Array Value),Instr.fill (fd P t) cells l=some r->Instr.fill place cells l=some r:=by
  intro l
  induction l with
  |nil=>intro cells r h;exact h
  | cons x l ih=>
   intro cells r h;obtain⟨i,v⟩:=x;simp only[Instr.fill] at h ⊢;split at h
   ·cases h
   ·rename_i off size hq
    rw[hpl _ _ hq];simp only;split at h
    ·cases h
    ·rename_i hc
     rw[if_neg hc];exact ih _ _ h
 exact mono _ _ _ (by simpa using h1)
theorem vH {o:Oper} {d:Nat} {z:List PV} {ps:List (Nat×Nat×IX)} (A:de P fi M w s a o (.build d z ps)) (h:ae cf s (.build d z ps)=some s'):Sim P fi o M w s' a:=by
 obtain⟨dst,op,ty,pos,aft,gd⟩:=o;obtain⟨hI,hm,hd,hlt⟩:=A;cases op<;>simp only[mOp,bP] at hm;rename_i t parts;simp only[aX] at hm;obtain⟨⟨hpl,hz⟩,hps⟩:=hm;simp only[ae,aC] at h;obtain⟨vs,hvs,h⟩:=h;split at h
 ·rename_i hc
  simp only[bS] at hc;simp only[aE] at h;obtain⟨cs,hcs,rfl⟩:=h;obtain⟨v,h1,h2⟩:=pu (P:=P) (parts:=parts.map (fP a)) hpl hz hc.2 hcs (Loc.env d) (λplace hp=>by have:=pt hI hp (Loc.env d) hps hvs hc.1;simpa using this);refine Sim.pure hI hd (hlt d rfl) (v:=v) ?_ h2;have e:(parts.map λ(x:Nat×Operand)=>match x with|(i,x)=>(i,a.eval x))=parts.map (fP a):=rfl;simp only[execOp,e,Sem.run_bind,h1];rfl
 ·cases h
theorem vI (hI:Inv fi M w s a) {x:IX} {o:Operand} (hm:mX fi x o=true) {v:PV} {e:List (Nat×PV)} (h:dD s.env x=some (v,e)) :
  ∃f:Loc->Loc,(∀i,f (.res i)= .res i)/\Inv fi (M.rel f) w ⟨e,s.lh,s.gh⟩ a/\RepAt fi (M.rel f) w Loc.lim v (a.eval o):=by
 cases x with
 | t n=>
  cases o with
  | tmp m=>
   simp only[mX,cR] at hm;subst hm;simp only[dD,aE,bW] at h;obtain⟨v',hv,rfl,rfl⟩:=h;have hn:=hI.env n v' hv;refine⟨iN n,λ_=>rfl,hI.rel _ _ (λt u hu=>?_) (λ_ _=>rfl) (λ_ _=>rfl),hn.2.rel _ (λi=>by simp[iN])⟩;rw[ec] at hu;by_cases htn:n=t
   ·subst htn
    simp at hu;subst hu;exact⟨hn.1,(hn.2.degr.rel _).repAt⟩
   ·simp[htn] at hu
    exact⟨(hI.env t u hu).1,(hI.env t u hu).2.rel _ (λi=>by simp[iN,Ne.symm htn])⟩
  |_=>simp[mX] at hm
 | c p=>
  cases o with
  |const u=>
   simp only[dD,bU,bW] at h;obtain⟨rfl,rfl⟩:=h;exact⟨id,λ_=>rfl,hI.rel _ _ (λt u hu=>⟨(hI.env t u hu).1,(hI.env t u hu).2.rel _ (λ_=>rfl)⟩) (λ_ _=>rfl) (λ_ _=>rfl),iK hm _⟩
  |_=>simp[mX] at hm
 | f id'=>
  cases o with
  |func F=>
   simp only[dD,bU,bW] at h;obtain⟨rfl,rfl⟩:=h;refine⟨id,λ_=>rfl,hI.rel _ _ (λt u hu=>⟨(hI.env t u hu).1,(hI.env t u hu).2.rel _ (λ_=>rfl)⟩) (λ_ _=>rfl) (λ_ _=>rfl),?_⟩;exact ((bc hI (x:= .f id') hm rfl).rel _).repAt
  |_=>simp[mX] at hm
theorem pw {t:TypeId}:∀{ps:List (Nat×Nat×IX)} {os:List (Nat×Operand)} {vs:List (Nat×Nat×PV)} {M:Mem} {s:St} {e:List (Nat×PV)},Inv fi M w s a->
  eW P fi t ps os=true->ft s.env ps=some (vs,e)->(∀p∈vs,ah p.2.2=true)->
  ∃M1,Inv fi M1 w ⟨e,s.lh,s.gh⟩ a/\Kp M w M1 w/\(∀(mk:Nat->Nat) p v,RepAt fi M w (λi=> .res (mk i)) p v->RepAt fi M1 w (λi=> .res (mk i)) p v)/\
   ∀place:Nat->Option (Nat×Nat),(∀j q,fd P t j=some q->place j=some q)->gK fi M1 w place Loc.res vs (os.map (fP a))
 |[],[],vs,M,s,e,hI,_,h,_=>by simp[ft] at h;obtain⟨rfl,rfl⟩:=h;exact⟨M,hI,Kp.refl M w,λ_ _ _ h=>h,λ_ _=>trivial⟩
 |[],_::_,_,_,_,_,_,hm,_,_=>by simp[eW] at hm
 |(_,_,_)::_,[],_,_,_,_,_,hm,_,_=>by simp[eW] at hm
 |(off,k,x)::ps,(i,o)::os,vs,M,s,e,hI,hm,h,hok=>by
  simp only[eW,aX,cR] at hm;simp only[ft,aC,aE,bW,Prod.exists] at h;obtain⟨v,e1,hv,vs',e2,hvs,rfl,rfl⟩:=h;obtain⟨f,hf,hI1,hr1⟩:=vI hI hm.1.2 hv;have hI2:=hI1.rel (gm λj=> .res (off+j)) e1 (λt u hu=>⟨(hI1.env t u hu).1,(hI1.env t u hu).2.rel _ (λi=>rfl)⟩) (λ_ _=>rfl) (λ_ _=>rfl);have hr2:=hr1.rel (mk':=λj=> .res (off+j)) (gm λj=> .res (off+j)) (λi=>rfl);obtain⟨M3,hI3,k3,p3,r3⟩:=pw (t:=t) hI2 hm.2 hvs (λp hp=>hok p (by simp[hp]))
  refine⟨M3,hI3,((Kp.rel M w f).trans (Kp.rel _ w _)).trans k3,λmk p u hu=>p3 mk p u ((hu.rel f (λi=>hf _)).rel _ (λi=>rfl)),λplace hpl=>?_⟩;exact⟨hpl _ _ hm.1.1,p3 (λj=>off+j) _ _ hr2,hok (off,k,v) (by simp),r3 place hpl⟩
def px (mk:Nat->Loc):Loc->Loc
 | .res i=>mk i
 |l=>l
theorem vJ {o:Oper} {d:Nat} {z:List PV} {ps:List (Nat×Nat×IX)} (A:de P fi M w s a o (.buildT d z ps)) (h:ae cf s (.buildT d z ps)=some s'):Sim P fi o M w s' a:=by
 obtain⟨dst,op,ty,pos,aft,gd⟩:=o;obtain⟨hI,hm,hd,hlt⟩:=A;cases op<;>simp only[mOp,bP] at hm;rename_i t parts;simp only[aX] at hm;obtain⟨⟨hpl,hz⟩,hps⟩:=hm;simp only[ae,aC] at h;obtain⟨⟨vs,e⟩,hvs,h⟩:=h;simp only at h;split at h
 ·rename_i hc
  simp only[bS] at hc;simp only[aE] at h;obtain⟨cs,hcs,rfl⟩:=h;obtain⟨M1,hI1,k1,_,r1⟩:=pw (P:=P) hI hps hvs hc.1;obtain⟨v,h1,h2⟩:=pu (P:=P) (parts:=parts.map (fP a)) hpl hz hc.2 hcs Loc.res (λplace hp=>by simpa using r1 place hp);have hI2:=hI1.rel (px (Loc.env d)) e (λt u hu=>⟨(hI1.env t u hu).1,(hI1.env t u hu).2.rel _ (λi=>rfl)⟩) (λ_ _=>rfl) (λ_ _=>rfl);have h3:=h2.rel (mk':=Loc.env d) (px (Loc.env d)) (λi=>rfl);refine⟨.value v,v,_,w,?_,.inl rfl,by rw[show dst=some d from hd];exact Inv.put (s:=⟨e,s.lh,s.gh⟩) hI2 (hlt d rfl) h3,k1.trans (Kp.rel _ w _)⟩
  have e:(parts.map λ(x:Nat×Operand)=>match x with|(i,x)=>(i,a.eval x))=parts.map (fP a):=rfl;simp only[execOp,e,Sem.run_bind,h1];rfl
 ·cases h
theorem vK {o:Oper} {d z:Nat} {els:List IX} (A:de P fi M w s a o (.buildSl d z els)) (h:ae cf s (.buildSl d z els)=some s'):Sim P fi o M w s' a:=by
 obtain⟨dst,op,ty,pos,aft,gd⟩:=o;obtain⟨hI,hm,hd,hlt⟩:=A;cases op<;>simp only[mOp,bP] at hm;rename_i t len parts;simp only[aX,cR,aH] at hm;obtain⟨⟨⟨⟨⟨⟨he,hz0⟩,hlen⟩,hbd⟩,hidx⟩,hmx⟩,hzs⟩:=hm;obtain⟨e,ht,hsz⟩:=kr he;rw[ht] at hzs;simp only[Option.isSome_iff_exists,aC] at hzs;obtain⟨zv,i,hi,hzv⟩:=hzs;simp only[ae,aC] at h;obtain⟨vs,hvs,h⟩:=h;split at h
 ·rename_i hc
  simp only[bS,aX,cR] at hc;cases h;obtain⟨h1,h2⟩:=il hI hmx hvs;have hvl:vs.length=len:=by rw[<-h1,bC,<-bC (f:=Prod.fst) (as:=parts.toList),hidx,List.length_range']
  generalize hrest:((Array.range (len*z)).map ((if len*z=0 then #[] else zv.cells)[· %(if len*z=0 then (#[]:Array Value) else zv.cells).size]!)).toList=rest;have hrl:rest.length=vs.length*z:=by rw[<-hrest];simp[hvl]
  obtain⟨us,f1,f2,f3⟩:=vd (fi:=fi) (M:=M) (w:=w) (z:=z) vs 0 (parts.toList.map (fP a)) [] rest (by simp) hrl hc (by
   rw[List.map_map,hvl,<-hidx];rfl) (λi p y hp hy=>by
   simp only[aB,aE] at hy;obtain⟨q,hq,rfl⟩:=hy;have:=h2 i p q.2 hp (by simp[hq]);exact this.repP (by simpa [ah] using (hc p (aP hp)).1))
  simp only[bI] at f1;obtain⟨M1,hI1,k1⟩:=hI.newOwn (hlt d rfl) (λe he=>(hc e he).2) (λe he=>(hc e he).1) us [] f2 f3 vs.length (cN _) (by simp[f2]) e us.toArray (by simp);refine⟨_,.slice (some ⟨w.heap.size,0,none⟩) vs.length vs.length,M1,_,?_,.inl rfl,by rw[show dst=some d from hd];exact hI1,k1⟩;have e1:(parts.map λ(x:Nat×Operand)=>match x with|(i,x)=>(i,a.eval x))=parts.map (fP a):=rfl;have hbd':¬(len*z>2^24):=by omega
  have f1':Instr.fill (λi=>some (i*z,z)) ((Array.range (len*z)).map ((if len*z=0 then #[] else zv.cells)[· %(if len*z=0 then (#[]:Array Value) else zv.cells).size]!)) (parts.map (fP a)).toList=some us.toArray:=by rw[<-f1,<-hrest,Array.toArray_toList];congr 1;simp
  have hrun:(Instr.buildSlice t len (parts.map (fP a))).run P w= .ok (.slice (some ⟨w.heap.size,0,none⟩) len len) (w.alloc (.cells us.toArray e)):=by
   have hzv':(zeroValue e).run P w= .ok zv w:=by simp[zeroValue,typeInfo,hi,hzv]
   by_cases h0:len*z=0
   ·simp only[if_pos h0] at f1'
    simp only[Instr.buildSlice,Sem.run_bind,run_underlying ht,run_sizeOf' hsz,Result.andThen_ok,if_neg hbd',if_pos h0,Sem.run_pure,f1'];simp[newRow]
   ·simp only[if_neg h0] at f1'
    simp only[Instr.buildSlice,Sem.run_bind,run_underlying ht,run_sizeOf' hsz,Result.andThen_ok,if_neg hbd',if_neg h0,hzv',Sem.run_pure,f1'];simp[newRow]
  simp only[execOp,e1,Sem.run_bind,hrun,hvl];rfl
 ·cases h
end
end
section
open Go.RowKit
section
variable {fi:FI} {M M' M2:Mem} {w w' W:World} {P:Program} {s s':St} {a:Act} {cf:CallF} {xl:Loc->Prop} {xb:Nat->Prop}
def ip (M:Mem) (b:Nat) (t:Nat×Nat×Nat):Nat->Nat×Nat×Nat:=λi=>if i=b then t else M.st i
theorem Good.stk (g:Good M w M2 W xl xb) (hst:M2.st=M.st) (b:Nat) (t:Nat×Nat×Nat) (hgen:b<M.gb.length->(M.st b).1<t.1) :
  Good M w {M2 with st:=ip M b t } W (λl=>xl l\/l=Loc.gh b 0) xb where
 ext:=⟨g.ext.gb,g.ext.imm,g.ext.cell,λi hi=>by
  by_cases h:i=b
  ·subst h
   simp only[ip,if_true];have:=hgen hi;exact⟨by omega,λe=>by omega⟩
  ·have e:ip M b t i=M.st i:=if_neg h
   show (M.st i).1<=(ip M b t i).1/\((ip M b t i).1=(M.st i).1->ip M b t i=M.st i)
   rw[e];exact⟨cN _,λ_=>rfl⟩⟩
 size:=g.size
 lb:=g.lb
 own:=λb l h hl=>g.own b l h (λhx=>hl (.inl hx))
 box:=g.box
 st:=λi hi=>by
  have:i≠b:=λe=>hi (.inr (by rw[e]))
  simp only[ip,if_neg this]
theorem Kp.stk {xl':Loc->Prop} {xb':Nat->Prop} {f:Nat->Nat×Nat×Nat} (k:Kp M w M2 W) (g:Good M w {M2 with st:=f } W xl' xb'):Kp M w {M2 with st:=f } W:=
 ⟨k.os,k.tape,k.output,k.size,g.ext,k.block,k.lbn,k.gbn,k.ownn,k.immn,k.ds⟩
theorem vM {p:PV} {u:Value} (h:RepP fi M w p u) (hf:dU p=true):∀(M':Mem) (w':World),RepP fi M' w' p u:=by intro M' w';cases h<;>first|exact .int _ _|exact .bool _|(simp[dU] at hf)
theorem Good.refl (M:Mem) (w:World):Good M w M w (λ_=>False) (λ_=>False):=
 ⟨Ext.refl M w,cN _,λ_ _ h=>h,λ_ _ h _=>⟨h,rfl,λ_ h=>h,id,id⟩,λ_ _ _ h=>⟨rfl,λ_ h=>h,h⟩,λ_ _=>rfl⟩
end
end
section
open Go.RowKit
section
variable {fi:FI} {M M':Mem} {w w':World} {P:Program} {s s':St} {a:Act} {cf:CallF}
def Mem.noLb (M:Mem):Mem:={M with lb:=[] }
theorem Ext.noLb (M:Mem) (w:World):Ext M w M.noLb w:=⟨λ_ _ h=>h,λ_ _ h=>h,λ_ _ _=>rfl,λ_ _=>⟨cN _,λ_=>rfl⟩⟩
theorem OwnRep.noLb {l:Loc} {z:Nat} {xs:List PV} {v:Value} (h:OwnRep fi M w l z xs v):OwnRep fi M.noLb w l z xs v:=by
  obtain⟨h1,h2⟩:=h;refine⟨h1.mono (Ext.noLb M w),?_⟩;rcases h2 with h2|⟨b,o,c,cs,e,hv,ho,hh,hs,hk,hb1,hb2⟩
  · exact .inl h2
  · exact .inr ⟨b,o,c,cs,e,hv,ho,hh,hs,hk,by simp[Mem.noLb],hb2⟩
theorem RepC.noLb {l:Loc} {p:PV} {v:Value} (h:RepC fi M w l p v):RepC fi M.noLb w l p v:=by
  unfold RepC at *;split at h
  · exact OwnRep.noLb h
  · exact h.mono (Ext.noLb M w)
theorem RepObj.noLb {i blk:Nat} {o:GObj} (h:RepObj fi M w i blk o):RepObj fi M.noLb w i blk o:=by
  cases o with
  | cells cs=>
    obtain⟨h1,h2,h3,h4,vs,T,h5,h6,h7⟩:=h;exact⟨h1,h2,h3,h4,vs,T,h5,h6,λi c u hc hu=>(h7 i c u hc hu).noLb⟩
  | map es=>
    obtain⟨h1,h2,l,clock,h3,h4,h5⟩:=h;exact⟨h1,h2,l,clock,h3,h4,λi e m he hm=>⟨(h5 i e m he hm).1.mono (Ext.noLb M w),(h5 i e m he hm).2.1.mono (Ext.noLb M w),(h5 i e m he hm).2.2⟩⟩
  | stk gen xs=>
    obtain⟨h1,h2,h3,h4,h5,cs,T,h6,h7,h8,h9⟩:=h;exact⟨h1,h2,h3,h4,h5,cs,T,h6,h7,h8,λj x hj=>by obtain⟨u,hu,hr⟩:=h9 j x hj;exact⟨u,hu,hr.mono (Ext.noLb M w)⟩⟩
  | bld s=>
    obtain⟨h1,h2,h3,T,hT,h4⟩:=h;refine⟨h1,h2,h3,T,hT,?_⟩;rcases h4 with h4|⟨c,cap,cur,h5,h6,h7,h8⟩
    · exact .inl h4
    · exact .inr ⟨c,cap,cur,h5,h6,by simp[Mem.noLb],h8⟩
  |lrec rdy y caps=>exact RepLoop.to h (Ext.noLb M w) rfl h.2.1 (cN _)
theorem l5 {p:PV} (h:al p=true) (h1:∀cs,p≠ .tup cs):ah p=true:=by
  cases p with
  |tup cs=>exact absurd rfl (h1 cs)
  |_=>exact h
theorem RepAt.noLb {mk:Nat->Loc} {p:PV} {v:Value} (h:RepAt fi M w mk p v) (hok:al p=true):RepAt fi M.noLb w mk p v:=by
  unfold RepAt at *;split at h
  · exact OwnRep.noLb h
  · cases hok
  · obtain⟨vs,h1,h2,h3⟩:=h
    exact⟨vs,h1,h2,λi c u hc hu=>(h3 i c u hc hu).noLb⟩
  · obtain⟨vs,h1,h2,h3⟩:=h
    exact⟨vs,h1,h2,λi c u hc hu=>(h3 i c u hc hu).noLb⟩
  · rename_i h3
    exact ((h.repP (l5 hok (λcs=>h3 cs))).mono (Ext.noLb M w)).repE
theorem l7 (hI:Inv fi M w s a) {b:Nat} (hb:b∈M.gb):M.own b=none\/∃i j,M.own b=some (Loc.gh i j):=by
  obtain⟨i,hi,rfl⟩:=cG.1 hb;have h2:i<s.gh.length:=by rw[<-hI.gbl];exact hi
  have:=hI.gh i _ _ (aA h2) (aA hi);cases ho:s.gh[i] with
  |cells cs=>rw[ho] at this;exact .inl this.2.2.1
  |map es=>rw[ho] at this;exact .inl this.2.1
  |stk gen xs=>rw[ho] at this;exact .inr ⟨_,_,this.1⟩
  |bld s=>rw[ho] at this;exact .inl this.2.2.1
  |lrec rdy y caps=>rw[ho] at this;exact .inl this.2.1
theorem l8 (hI:Inv fi M w s a) {b:Nat} (hb:b∈M.lb):M.own b=none:=by
  obtain⟨i,hi,rfl⟩:=cG.1 hb;have h2:i<s.lh.length:=by rw[<-hI.lbl];exact hi
  exact (hI.lh i _ _ (aA h2) (aA hi)).2.2.1
def GI (fi:FI) (M:Mem) (w:World) (gh:List GObj):Prop:=Inv fi M w ⟨[],[],gh⟩ ⟨#[],[]⟩
def dh (g:Bool):Loc->Bool
  | .gh _ _=> !g
  |_=>true
def Mem.callee (M:Mem) (g:Bool):Mem:={lb:=[],gb:=if g then M.gb else [],imm:=M.imm,own:=λb=>(M.own b).bind λl=>if dh g l then none else some l,st:=M.st }
def l9 (g:Bool) (mk:Nat->Loc):Loc->Option Loc
  | .gh i j=>if g then some (.gh i j) else none
  | .res i=>some (mk i)
  |_=>none
def Mem.back (M M':Mem) (g:Bool) (mk:Nat->Loc):Mem:=
  { lb:=M.lb,gb:=if g then M'.gb else M.gb,imm:=M'.imm,
    own:=λb=>match M.own b with
      |some l=>if dh g l then some l else (M'.own b).bind (l9 g mk)
      |none=>(M'.own b).bind (l9 g mk),
    st:=if g then M'.st else M.st,ds:=M.ds }
theorem callee_own {g:Bool} {b:Nat} {l:Loc}:(M.callee g).own b=some l↔M.own b=some l/\dh g l=false:=by
  simp only[Mem.callee,aC];constructor
  · rintro⟨l',h1,h2⟩
    cases hp:dh g l'<;>simp[hp] at h2;subst h2;exact⟨h1,hp⟩
  · rintro⟨h1,h2⟩
    exact⟨l,h1,by simp[h2]⟩
theorem callee_own_none {g:Bool} {b:Nat}:(M.callee g).own b=none↔(∀l,M.own b=some l->dh g l=true):=by
  cases ho:(M.callee g).own b with
  | none=>
    simp only[true_iff];intro l hl;cases hp:dh g l with
    |true=>rfl
    |false=>rw[callee_own.2 ⟨hl,hp⟩] at ho;cases ho
  | some l=>
    obtain⟨h1,h2⟩:=callee_own.1 ho;constructor
    · intro h;cases h
    · intro h;rw[h l h1] at h2;cases h2
theorem vO {g:Bool} {l:Loc} (h:dh g l=false):∃i j,l= .gh i j:=by cases l<;>simp[dh] at h;exact⟨_,_,rfl⟩
theorem Inv.callee (hI:Inv fi M w s a) (g:Bool):GI fi (M.callee g) w (if g then s.gh else [])/\(M.callee g).lb=[]/\∀b l,(M.callee g).own b=some l->∃i j,l= .gh i j:=by
  refine⟨⟨λt v h=>by simp[get] at h,rfl,rfl,?_,?_,λi cs blk h=>by simp at h,λi o blk h1 h2=>?_,hI.gl,hI.immlt,λb l h=>hI.ownlt b l (callee_own.1 h).1,λb hb=>?_⟩,rfl,λb l h=>vO (callee_own.1 h).2⟩
  · cases g
    · rfl
    · exact hI.gbl
  · cases g
    · simp[Mem.callee]
    · have:=hI.nodup
      rw[cK] at this;simpa [Mem.callee] using this.2.1
  · cases g with
    |false=>simp at h1
    | true=>
      have h3:=(hI.gh i o blk h1 h2).noLb
      have G:Good M.noLb w (M.callee true) w (λl=>dh true l=true) (λ_=>False):=
        ⟨⟨λ_ _ h=>h,λ_ _ h=>h,λ_ _ _=>rfl,λ_ _=>⟨cN _,λ_=>rfl⟩⟩,cN _,λi k h=>by simp[Mem.noLb] at h,
          λb l h hl=>⟨callee_own.2 ⟨h,by simpa using hl⟩,rfl,λ_ h=>h,λh=>h,λh=>h⟩,
          λb _ _ h=>⟨rfl,λ_ h=>h,callee_own_none.2 λl hl=>by rw[show M.own b=none from h] at hl;cases hl⟩,λ_ _=>rfl⟩
      exact h3.good G (by simp) (by simp[dh])
  · cases g with
    |false=>simp[Mem.callee] at hb
    |true=>exact hI.gblt b hb
theorem Inv.back (hI:Inv fi M w s a) (g:Bool) {gh':List GObj} (mk:Nat->Loc) (hmk:∀i,dh g (mk i)=true) (hG:GI fi M' w' gh') (hlb:M'.lb=[])
    (hk:Kp (M.callee g) w M' w') {r:PV} {v:Value} (hr:RepAt fi M' w' Loc.res r v) (hg:g=false->r.noG=true) (hok:al r=true) :
    Inv fi (M.back M' g mk) w' ⟨s.env,s.lh,if g then gh' else s.gh⟩ a/\Kp M w (M.back M' g mk) w'/\RepAt fi (M.back M' g mk) w' mk r v:=by
  have bown:∀b l,M.own b=some l->dh g l=true->(M.back M' g mk).own b=some l:=λb l h hp=>by simp[Mem.back,h,hp]
  have bown2:∀b,(∀l,M.own b=some l->dh g l=false)->(M.back M' g mk).own b=(M'.own b).bind (l9 g mk):=λb h=>by
    cases ho:M.own b with
    |none=>simp[Mem.back,ho]
    |some l=>simp[Mem.back,ho,h l ho]
  -- what is the caller's own, the callee leaves
  have pv:∀b l,M.own b=some l->dh g l=true->M'.own b=none/\w'.heap[b]?=w.heap[b]?/\∀k,M'.imm b k->M.imm b k:=λb l h hp=>by
    have hc:(M.callee g).own b=none:=callee_own_none.2 λl' hl'=>by rw[h] at hl';cases hl';exact hp
    have hlt:=hI.ownlt b l h;refine⟨hk.ownn b hlt hc,hk.block b hlt (by simp[Mem.callee]) (λhb=>?_) hc,λk hi=>?_⟩
    · cases g with
      |false=>simp[Mem.callee] at hb
      | true=>
        rcases l7 hI hb with this|⟨i,j,this⟩<;>rw[h] at this<;>cases this
        simp[dh] at hp
    · rcases hk.immn b k hi with h1|h1|h1
      · exact h1
      · omega
      · exact absurd hc h1
  have no:∀b,b<w.heap.size->¬(g=true/\b∈M.gb)->M.own b=none->w'.heap[b]?=w.heap[b]?/\(∀k,M'.imm b k->M.imm b k)/\M'.own b=none:=λb hlt hx h=>by
    have hc:(M.callee g).own b=none:=callee_own_none.2 λl' hl'=>by rw[h] at hl';cases hl'
    refine⟨hk.block b hlt (by simp[Mem.callee]) (λhb=>?_) hc,λk hi=>?_,hk.ownn b hlt hc⟩
    · cases g with
      |false=>simp[Mem.callee] at hb
      |true=>exact hx ⟨rfl,hb⟩
    · rcases hk.immn b k hi with h1|h1|h1
      · exact h1
      · omega
      · exact absurd hc h1
  have gbx:∀b,b∈M'.gb->b∈M.gb\/w.heap.size<=b\/(M.callee g).own b≠none:=λb hb=>by
    rcases hk.gbn b hb with h1|h1
    · cases g with
      |false=>simp[Mem.callee] at h1
      |true=>exact .inl h1
    · rcases h1 with h1|h1|h1
      · exact .inr (.inl h1)
      · exact .inr (.inr h1)
      · simp[Mem.callee] at h1
  have lbg:∀b,b∈M.lb->b∉M.gb:=λb h1 h2=>by have:=hI.nodup;rw[cK] at this;exact this.2.2 b h1 b h2 rfl
  have gbb:∀b,b∈(M.back M' g mk).gb->b∈M.gb\/w.heap.size<=b\/(M.callee g).own b≠none:=λb hb=>by
    cases g with
    |false=>exact .inl hb
    |true=>exact gbx b hb
  have hext:Ext M w (M.back M' g mk) w':=⟨λi k h=>by
      cases g with
      |false=>exact h
      |true=>exact hk.ext.gb i k h,hk.ext.imm,hk.ext.cell,λb hb=>by
      cases g with
      |false=>exact⟨cN _,λ_=>rfl⟩
      |true=>exact hk.ext.st b hb⟩
  have G:Good M w (M.back M' g mk) w' (λl=>dh g l=false) (λb=>g=true/\b∈M.gb):=
    ⟨hext,hk.size,λ_ _ h=>h,
      λb l h hl=>by
        have hp:dh g l=true:=by simpa using hl
        obtain⟨p1,p2,p3⟩:=pv b l h hp;refine⟨bown b l h hp,p2,λk h1 h2=>h1 (p3 k h2),λh=>h,λh1 h2=>?_⟩;rcases gbb b h2 with h3|h3|h3
        · exact h1 h3
        · have:=hI.ownlt b l h;omega
        · exact h3 (callee_own_none.2 λl' hl'=>by rw[h] at hl';cases hl';exact hp),
      λb hlt hx h=>by obtain⟨n1,n2,n3⟩:=no b hlt hx h;refine⟨n1,λk h1 h2=>h1 (n2 k h2),?_⟩;rw[bown2 b (λl hl=>by rw[h] at hl;cases hl),n3];rfl,
      λi hi=>by
        cases g with
        |false=>rfl
        |true=>exact absurd (show dh true (Loc.gh i 0)=false from rfl) hi⟩
  -- the callee's boxes
  have G2 :Good M' w' (M.back M' g mk) w' (λl=>¬∃i j,l= .gh i j/\g=true) (λb=>∃l,M.own b=some l/\dh g l=true)\/g=false:=by
    cases hgb:g with
    |false=>exact .inr rfl
    | true=>
      subst hgb;refine .inl ⟨⟨λ_ _ h=>h,λ_ _ h=>h,λ_ _ _=>rfl,λ_ _=>⟨cN _,λ_=>rfl⟩⟩,cN _,λi k h=>by rw[hlb] at h;simp at h,λb l h hl=>?_,λb hlt hx h=>?_,λ_ _=>rfl⟩
      · obtain⟨i,j,rfl,_⟩:=Classical.not_not.1 hl
        have np:∀l,M.own b=some l->dh true l=false:=λl hl=>by
          cases hp:dh true l with
          |false=>rfl
          |true=>rw[(pv b l hl hp).1] at h;cases h
        refine⟨by rw[bown2 b np,h];rfl,rfl,λ_ h=>h,λ_ h2=>?_,λh=>h⟩;have h3:=l8 hI h2;have h4:=(no b (gI hI b h2) (λhx=>lbg b h2 hx.2) h3).2.2;rw[h4] at h;cases h
      · refine⟨rfl,λ_ h=>h,?_⟩
        rw[bown2 b (λl hl=>by
          cases hp:dh true l with
          |false=>rfl
          |true=>exact absurd ⟨l,hl,hp⟩ hx),h];rfl
  refine⟨⟨λt u hu=>⟨(hI.env t u hu).1,(hI.env t u hu).2.good G (λi=>by simp[dh])⟩,hI.defers,hI.lbl,?_,?_,λi cs blk h1 h2=>(hI.lh i cs blk h1 h2).good G (λhx=>lbg blk (aP h2) hx.2) (λi=>by simp[dh]),
    λi o blk h1 h2=>?_,hG.gl,hG.immlt,λb l h=>?_,λb hb=>?_⟩,⟨hk.os,hk.tape,hk.output,hk.size,hext,λk hlt h1 h2 h3=>(no k hlt (λhx=>h2 hx.2) h3).1,λk h=> .inl h,λb hb=>(gbb b hb).imp_right λh=>h.imp_right λh=> .inl λh2=>h (callee_own_none.2 λl' hl'=>by rw[h2] at hl';cases hl'),λk hlt h=>?_,λb k h=>?_,.same rfl⟩,?_⟩
  · cases g with
    |false=>exact hI.gbl
    |true=>exact hG.gbl
  · cases g with
    |false=>exact hI.nodup
    | true=>
      have h1:=hI.nodup;have h2:=hG.nodup;rw[cK] at h1 ⊢;rw[hlb,bI] at h2;refine⟨h1.1,h2,λx hx y hy hxy=>?_⟩;subst hxy;rcases gbx x hy with h3|h3|h3
      · exact lbg x hx h3
      · have:=gI hI x hx;omega
      · exact h3 (callee_own_none.2 λl' hl'=>by rw[l8 hI hx] at hl';cases hl')
  · cases g with
    |false=>exact (hI.gh i o blk h1 h2).good G (by simp) (λj=>by simp[dh])
    | true=>
      have h3:=hG.gh i o blk h1 h2;refine h3.good (G2.resolve_right (by simp)) ?_ (λj h=>h ⟨i,j,rfl,rfl⟩);rintro⟨l,h4,h5⟩;rcases gbx blk (aP h2) with h6|h6|h6
      · rcases l7 hI h6 with this|⟨i',j',this⟩<;>rw[h4] at this<;>cases this
        simp[dh] at h5
      · have:=hI.ownlt blk l h4;omega
      · exact h6 (callee_own_none.2 λl' hl'=>by rw[h4] at hl';cases hl';exact h5)
  · cases ho:M.own b with
    |some l'=>exact aS (hI.ownlt b l' ho) hk.size
    | none=>
      rw[bown2 b (λl hl=>by rw[ho] at hl;cases hl),aC] at h;obtain⟨l',h1,_⟩:=h;exact hG.ownlt b l' h1
  · cases g with
    |false=>exact aS (hI.gblt b hb) hk.size
    |true=>exact hG.gblt b hb
  · by_cases hx:g=true/\k∈M.gb
    · obtain⟨rfl,hx⟩:=hx
      have hc:(M.callee true).own k=none:=callee_own_none.2 λl' hl'=>by rw[h] at hl';cases hl'
      rw[bown2 k (λl hl=>by rw[h] at hl;cases hl),hk.ownn k hlt hc];rfl
    · rw[bown2 k (λl hl=>by rw[h] at hl;cases hl),(no k hlt hx h).2.2];rfl
  · rcases hk.immn b k h with h1|h1|h1
    · exact .inl h1
    · exact .inr (.inl h1)
    · refine .inr (.inr λh2=>h1 (callee_own_none.2 λl hl=>by rw[h2] at hl;cases hl))
  · -- the result
    have ow : ∀{i:Nat} {z:Nat} {xs:List PV} {u:Value},OwnRep fi M' w' (.res i) z xs u->(g=false->cU xs=true)->OwnRep fi (M.back M' g mk) w' (mk i) z xs u:=by
      intro i z xs u h hng;obtain⟨h1,h2⟩:=h;have e1:RepP fi (M.back M' g mk) w' (.sl false z xs) u:=by
        cases hgb:g with
        |true=>subst hgb;exact h1.mono (show Ext M' w' (M.back M' true mk) w' from⟨λ_ _ h=>h,λ_ _ h=>h,λ_ _ _=>rfl,λ_ _=>⟨cN _,λ_=>rfl⟩⟩)
        | false=>
          subst hgb;exact (h1.noG M.gb M.st (by simpa [PV.noG] using hng rfl)).mono (show Ext {M' with gb:=M.gb,st:=M.st } w' (M.back M' false mk) w' from⟨λ_ _ h=>h,λ_ _ h=>h,λ_ _ _=>rfl,λ_ _=>⟨cN _,λ_=>rfl⟩⟩)
      refine⟨e1,?_⟩;rcases h2 with h2|⟨b,o,c,cs,e,hv,ho,hh,hs,hk',hb1,hb2⟩
      · exact .inl h2
      · have np:∀l,M.own b=some l->dh g l=false:=λl hl=>by
          cases hp:dh g l with
          |false=>rfl
          |true=>rw[(pv b l hl hp).1] at ho;cases ho
        refine .inr ⟨b,o,c,cs,e,hv,by rw[bown2 b np,ho];rfl,hh,hs,hk',λh2=>?_,λh2=>?_⟩
        · have h3:=l8 hI h2
          have h4:=(no b (gI hI b h2) (λhx=>lbg b h2 hx.2) h3).2.2;rw[h4] at ho;cases ho
        · cases hgb:g with
          |true=>subst hgb;exact hb2 h2
          | false=>
            subst hgb;rcases l7 hI (b:=b) h2 with h3|⟨i',j',h3⟩
            · have h4:=(no b (hI.gblt b h2) (by simp) h3).2.2
              rw[h4] at ho;cases ho
            · rw[(pv b _ h3 rfl).1] at ho;cases ho
    have rp:∀{p:PV} {u:Value},RepP fi M' w' p u->(g=false->p.noG=true)->RepP fi (M.back M' g mk) w' p u:=by
      intro p u h hng;cases hgb:g with
      |true=>subst hgb;exact h.mono (show Ext M' w' (M.back M' true mk) w' from⟨λ_ _ h=>h,λ_ _ h=>h,λ_ _ _=>rfl,λ_ _=>⟨cN _,λ_=>rfl⟩⟩)
      | false=>
        subst hgb;exact (h.noG M.gb M.st (hng rfl)).mono (show Ext {M' with gb:=M.gb,st:=M.st } w' (M.back M' false mk) w' from⟨λ_ _ h=>h,λ_ _ h=>h,λ_ _ _=>rfl,λ_ _=>⟨cN _,λ_=>rfl⟩⟩)
    have rc:∀{i:Nat} {p:PV} {u:Value},RepC fi M' w' (.res i) p u->(g=false->p.noG=true)->RepC fi (M.back M' g mk) w' (mk i) p u:=by
      intro i p u h hng;unfold RepC at *;split at h
      · exact ow h (λe=>by simpa [PV.noG] using hng e)
      · exact rp h hng
    unfold RepAt at hr ⊢;split at hr
    · exact ow hr (λe=>by simpa [PV.noG] using hg e)
    · cases hok
    · obtain⟨vs,h1,h2,h3⟩:=hr
      exact⟨vs,h1,h2,λi c u hc hu=>rc (h3 i c u hc hu) (λe=>fx (by simpa [PV.noG] using hg e) hc)⟩
    · obtain⟨vs,h1,h2,h3⟩:=hr
      exact⟨vs,h1,h2,λi c u hc hu=>rc (h3 i c u hc hu) (λe=>fx (by simpa [PV.noG] using hg e) hc)⟩
    · rename_i h3
      exact (rp (hr.repP (l5 hok (λcs=>h3 cs))) hg).repE
end
end
section
open Go.RowKit
section
variable {fi:FI} {M M':Mem} {w w':World} {P:Program} {s s':St} {a:Act} {cf:CallF}
end
end
section
open Go.RowKit
section
variable {fi:FI} {M M':Mem} {w w':World} {P:Program} {s s':St} {a:Act} {cf:CallF}
theorem OwnRep.tail {l:Loc} {xs:List PV} {v:Value} (h:OwnRep fi M w l 1 xs v) {lo:Nat} (hlo:lo<=xs.length) :
  ∃A c,v= .slice A xs.length c/\xs.length<=c/\OwnRep fi M w l 1 (xs.drop lo) (.slice (if c=lo then A else A.map (·.add (lo*1))) (xs.length-lo) (c-lo)):=by
 obtain⟨h1,h2⟩:=h;obtain⟨A,c,hv,hc⟩:=(RepP.repE h1).slC;refine⟨A,c,hv,hc,?_,?_⟩
 ·rw[hv] at h1
  have:=o8 (l:=lo) (h:=xs.length) (RepP.repE h1) hlo (cN _) hc
  rwa [List.take_length] at this
 ·rcases h2 with h2|⟨b,o,c',cs,e,h2,ho,hh,hs,hk,hb1,hb2⟩
  ·left
   rw[h2] at hv;simp only[Value.slice.injEq] at hv;obtain⟨rfl,h3,rfl⟩:=hv;have:lo=0:=by omega
   subst this;simp[<-h3]
  ·right
   rw[h2] at hv;simp only[Value.slice.injEq] at hv;obtain⟨rfl,-,rfl⟩:=hv;rw[List.length_drop];by_cases hcl:c'=lo
   ·rw[if_pos hcl]
    exact⟨b,o,c'-lo,cs,e,rfl,ho,hh,by omega,λk h3 h4=>(by omega),hb1,hb2⟩
   ·rw[if_neg hcl]
    refine⟨b,o+lo*1,c'-lo,cs,e,by simp[Addr.add],ho,hh,by omega,λk h3 h4=>hk k (by omega) (by omega),hb1,hb2⟩
theorem vP {o:Oper} {d n lo:Nat} (A:de P fi M w s a o (.tkS d n lo)) (h:ae cf s (.tkS d n lo)=some s'):Sim P fi o M w s' a:=by
 obtain⟨dst,op,ty,pos,aft,g⟩:=o;obtain⟨hI,hm,hd,hlt⟩:=A;simp only[ae] at h;split at h
 ·rename_i xs hv
  split at h
  ·rename_i hlo
   cases h;cases op with
   | slice t x l h2 h3=>
    cases x with
    | tmp m=>
     cases l with
     |none=>simp[mOp] at hm
     | some l=>
      cases l with
      | const lv=>
       cases lv with
       | int k q=>
        cases h2 with
        |some=>simp[mOp] at hm
        | none=>
         cases h3 with
         |some=>simp[mOp] at hm
         |none=>
          simp[mOp] at hm;obtain⟨⟨rfl,he⟩,hq⟩:=hm;obtain⟨e,ht,hz⟩:=kr he;obtain⟨M1,hI1,k1,hr,_⟩:=jz hI (x:= .t n) (o:= .tmp n) (by simp[mX]) (v:= .sl true 1 xs) (e:=put s.env n (.sl false 1 xs)) (by simp[dD,hv,degr]);obtain⟨A,c,hv2,hc,hr2⟩:=OwnRep.tail (lo:=lo) (show OwnRep fi M1 w (Loc.lim 0) 1 xs (a.eval (.tmp n)) from hr) hlo;obtain⟨hI2,k2⟩:=hI1.putLim (p:= .sl true 1 (xs.drop lo)) (hlt d rfl) hr2;refine⟨_,.slice (if c=lo then A else A.map (·.add (lo*1))) (xs.length-lo) (c-lo),_,w,?_,.inl rfl,by rw[show dst=some d from hd];exact hI2,k1.trans k2⟩
          have hrun:=io (P:=P) (n:=xs.length) (c:=c) (l:=lo) (h:=xs.length) (A:=A) (lo:=some (.int k q)) (hi:=none) ht hz (.inr ⟨k,by rw[hq]⟩) (.inl ⟨rfl,rfl⟩) hlo hc w;have e2:a.eval (.const (.int k q))= .int k q:=rfl;simp[execOp,hv2,e2,hrun]
       |_=>simp[mOp] at hm
      |_=>simp[mOp] at hm
    |_=>simp[mOp] at hm
   |_=>simp[mOp] at hm
  ·cases h
 ·cases h
end
end
def pgL:List (Option oz):=[
 none,
 none,
 none,
 none,
 none,
 none,
 none,
 none,
 none,
 none,
 none,
 none,
 none,
 none,
 none,
 none,
 none,
 none,
 none,
 none,
 none,
 none,
 some (.code qg),
 none,
 none,
 none,
 none,
 none,
 none,
 none,
 none,
 none,
 none,
 none,
 none,
 none,
 none,
 none,
 some (.code qf),
 none,
 none,
 none,
 none,
 none,
 none,
 none,
 none,
 none,
 none,
 none,
 none,
 none,
 none,
 none,
 none,
 none,
 none,
 none,
 none,
 none,
 none,
 some (.code q4w),
 some (.code q1m),
 some (.code qh),
 some (.code q4x),
 some (.code q1p),
 some (.code q4y),
 none,
 none,
 none,
 none,
 none,
 none,
 none,
 none,
 some (.code q3q),
 some (.code q43),
 some (.code q44),
 some (.code q46),
 some (.code qy),
 some (.code ql),
 some (.code qm),
 none,
 none,
 none,
 none,
 some (.code q3s),
 none,
 none,
 none,
 none,
 none,
 none,
 none,
 none,
 none,
 some (.code q4z),
 none,
 none,
 none,
 none,
 some (.code q4f),
 none,
 some (.code q1i),
 some (.code q4h),
 some (.code q4k),
 some (.code q4l),
 some (.code q3x),
 some (.code q4m),
 some (.code q4n),
 none,
 some (.code q1e),
 none,
 none,
 some (.code q1q),
 some (.code q1r),
 none,
 none,
 some (.code q1j),
 some (.lib (gV 1 8)),
 none,
 none,
 none,
 none,
 none,
 none,
 none,
 none,
 none,
 none,
 none,
 none,
 none,
 none,
 none,
 some (.code qp),
 some (.code q30),
 none,
 none,
 some (.code q31),
 some (.code q32),
 some (.code q34),
 some (.code q35),
 some (.code q36),
 none,
 none,
 none,
 none,
 none,
 none,
 none,
 none,
 none,
 none,
 none,
 none,
 none,
 none,
 none,
 none,
 none,
 none,
 none,
 none,
 none,
 none,
 none,
 none,
 none,
 none,
 none,
 none,
 none,
 none,
 none,
 none,
 none,
 none,
 none,
 none,
 none,
 none,
 none,
 none,
 none,
 none,
 none,
 none,
 none,
 none,
 none,
 none,
 none,
 none,
 none,
 none,
 none,
 none,
 none,
 none,
 none,
 none,
 none,
 none,
 none,
 none,
 none,
 none,
 none,
 none,
 none,
 none,
 none,
 none,
 none,
 none,
 none,
 none,
 none,
 none,
 none,
 none,
 none,
 none,
 none,
 none,
 none,
 none,
 none,
 none,
 none,
 none,
 none,
 none,
 none,
 none,
 none,
 none,
 none,
 none,
 none,
 some (.code q3r),
 some (.code q9o),
 none,
 some (.code q1c),
 some (.code q1k),
 some (.code q9w),
 some (.code qa4),
 some (.code qe),
 none,
 none,
 some (.code q3c),
 some (.code q4p),
 some (.code q4s),
 some (.code qa9),
 some (.lib libCut),
 some (.code qae),
 none,
 none,
 some (.code q3d),
 some (.lib libItoa),
 none,
 some (.lib libSplit),
 some (.lib libAtoi),
 none,
 none,
 none,
 some (.code q3j),
 some (.code q3m),
 some (.code q3p),
 none,
 none,
 none,
 none,
 none,
 none,
 none,
 none,
 none,
 none,
 none,
 none,
 none,
 none,
 none,
 none,
 none,
 none,
 none,
 none,
 none,
 none,
 none,
 none,
 none,
 none,
 none,
 none,
 none,
 none,
 none,
 none,
 none,
 none,
 none,
 none,
 none,
 none,
 none,
 none,
 none,
 none,
 none,
 none,
 none,
 none,
 none,
 none,
 none,
 some (.code qv),
 none,
 none,
 none,
 none,
 none,
 none,
 none,
 none,
 none,
 none,
 none,
 none,
 none,
 none,
 none,
 none,
 none,
 none,
 none,
 none,
 none,
 none,
 none,
 none,
 none,
 none,
 none,
 none,
 none,
 none,
 none,
 none,
 none,
 none,
 none,
 none,
 none,
 none,
 none,
 none,
 none,
 none,
 none,
 none,
 none,
 none,
 none,
 none,
 none,
 none,
 none,
 none,
 none,
 none,
 none,
 some (.code q1l),
 none,
 none,
 some (.code qw),
 none,
 none,
 none,
 some (.code q4t),
 none,
 none,
 none,
 none,
 none,
 none,
 none,
 none,
 none,
 none,
 some (.yl qr),
 some (.code q1d),
 some (.yl qt)]
def pg:Prg:=λf=>(pgL[f]?).bind id
theorem MB:maxBytes=140737488355328:=rfl
def bj (x:Int×Int):PV:= .agg [I x.1,I x.2]
theorem cS {n:Int} (h1: -9223372036854775808<=n) (h2:n<=9223372036854775807):WI.wrap n=n:=by simp only[IntKind.wrap,IntKind.bits,IntKind.signed];simp;omega
abbrev LI (xs:List Int):PV:= .sl false 1 (xs.map I)
abbrev Sz (n:Nat):Prop:=n<=140737488355328
theorem iA {n:Nat} (h:Sz n):WI.wrap ((n:Int)+1)=(n:Int)+1:=cS (by omega) (by simp only[Sz] at h;omega)
section
variable {kd:IntKind} {z b o n f:Nat} {g:Bool} {l:List PV}
@[simp] theorem one_int (x : Int) : PV.one (.int kd x) = true := rfl
@[simp] theorem one_bool (x : Bool) : PV.one (.bool x) = true := rfl
@[simp] theorem one_str (x : ByteArray) : PV.one (.str x) = true := rfl
@[simp] theorem one_sl : PV.one (.sl g z l) = true := rfl
@[simp] theorem one_bs : PV.one (.bs true b o n z) = true := rfl
@[simp] theorem one_ptr : PV.one (.ptr true b o) = true := rfl
@[simp] theorem one_nilp : PV.one .nilp = true := rfl
@[simp] theorem one_ep (e : PV) : PV.one (.ep e o) = true := rfl
@[simp] theorem one_mp : PV.one (.mp b) = true := rfl
@[simp] theorem one_nilm : PV.one .nilm = true := rfl
@[simp] theorem one_nilf : PV.one .nilf = true := rfl
@[simp] theorem one_nils : PV.one .nils = true := rfl
@[simp] theorem one_sub (b g o n : Nat) : PV.one (.sub b g o n) = true := rfl
@[simp] theorem one_stk (b g n : Nat) : PV.one (.stk b g n) = true := rfl
@[simp] theorem one_fn : PV.one (.fn f l) = true := rfl
@[simp] theorem one_bfn : PV.one (.bfn f l) = true := rfl
@[simp] theorem one_nilI : PV.one .nilI = true := rfl
@[simp] theorem one_someI : PV.one .someI = true := rfl
@[simp] theorem frz_int (G : List GObj) (x : Int) : frz n G (.int kd x) = .int kd x := rfl
@[simp] theorem frzR_int (G : List GObj) (x : Int) : cj n G (.int kd x) = .int kd x := rfl
@[simp] theorem frz_bool (G : List GObj) (x : Bool) : frz n G (.bool x) = .bool x := rfl
@[simp] theorem frzR_bool (G : List GObj) (x : Bool) : cj n G (.bool x) = .bool x := rfl
@[simp] theorem frz_str (G : List GObj) (x : ByteArray) : frz n G (.str x) = .str x := rfl
@[simp] theorem frzR_str (G : List GObj) (x : ByteArray) : cj n G (.str x) = .str x := rfl
@[simp] theorem frz_sl (G : List GObj)  : frz n G (.sl g z l) = .sl g z l := rfl
@[simp] theorem frzR_sl (G : List GObj)  : cj n G (.sl g z l) = .sl g z l := rfl
@[simp] theorem frz_agg (G : List GObj)  : frz n G (.agg l) = .agg l := rfl
@[simp] theorem frzR_agg (G : List GObj)  : cj n G (.agg l) = .agg l := rfl
@[simp] theorem frz_ptr (G : List GObj)  : frz n G (.ptr g b o) = .ptr g b o := rfl
@[simp] theorem frzR_ptr (G : List GObj)  : cj n G (.ptr g b o) = .ptr g b o := rfl
@[simp] theorem frz_nilp (G : List GObj)  : frz n G (.nilp) = .nilp := rfl
@[simp] theorem frzR_nilp (G : List GObj)  : cj n G (.nilp) = .nilp := rfl
@[simp] theorem frz_ep (G : List GObj) (e : PV) : frz n G (.ep e o) = .ep e o := rfl
@[simp] theorem frzR_ep (G : List GObj) (e : PV) : cj n G (.ep e o) = .ep e o := rfl
@[simp] theorem frz_mp (G : List GObj)  : frz n G (.mp b) = .mp b := rfl
@[simp] theorem frzR_mp (G : List GObj)  : cj n G (.mp b) = .mp b := rfl
@[simp] theorem frz_nilm (G : List GObj)  : frz n G (.nilm) = .nilm := rfl
@[simp] theorem frzR_nilm (G : List GObj)  : cj n G (.nilm) = .nilm := rfl
@[simp] theorem frz_nilf (G : List GObj)  : frz n G (.nilf) = .nilf := rfl
@[simp] theorem frzR_nilf (G : List GObj)  : cj n G (.nilf) = .nilf := rfl
@[simp] theorem frz_nils (G : List GObj)  : frz n G (.nils) = .nils := rfl
@[simp] theorem frzR_nils (G : List GObj)  : cj n G (.nils) = .nils := rfl
@[simp] theorem frzR_stk (G : List GObj) (b g i : Nat) : cj n G (.stk b g i) = frz n G (.stk b g i) := rfl
@[simp] theorem frz_fn (G : List GObj)  : frz n G (.fn f l) = .fn f l := rfl
@[simp] theorem frz_bfn (G : List GObj)  : frz n G (.bfn f l) = .bfn f l := rfl
@[simp] theorem frzR_fn (G : List GObj)  : cj n G (.fn f l) = .fn f l := rfl
@[simp] theorem frzR_bfn (G : List GObj)  : cj n G (.bfn f l) = .bfn f l := rfl
@[simp] theorem frz_nilI (G : List GObj)  : frz n G (.nilI) = .nilI := rfl
@[simp] theorem frzR_nilI (G : List GObj)  : cj n G (.nilI) = .nilI := rfl
@[simp] theorem frz_someI (G : List GObj)  : frz n G (.someI) = .someI := rfl
@[simp] theorem frzR_someI (G : List GObj)  : cj n G (.someI) = .someI := rfl
@[simp] theorem frzR_tup (G : List GObj) : cj n G (.tup l) = .tup (l.map (frz n G)) := rfl
@[simp] theorem frzR_bs (G : List GObj) (i : Nat) : cj n G (.bs g b o i z) = frz n G (.bs g b o i z) := rfl
theorem y0 {n b off k:Nat} {gh:List GObj} {cs:List PV} (h:gh[b]?=some (.cells cs)) (h1:n<=b) (h2:off+k<=cs.length):frz n gh (.bs true b off k 1)= .sl false 1 (((cs.drop off).take k).map aa):=by simp[frz,h,h1,h2]
@[simp] theorem aok_int (x : Int) : ah (.int kd x) = true := rfl
@[simp] theorem aok_bool (x : Bool) : ah (.bool x) = true := rfl
@[simp] theorem aok_str (x : ByteArray) : ah (.str x) = true := rfl
@[simp] theorem aok_sl : ah (.sl g z l) = true := rfl
@[simp] theorem aok_bs : ah (.bs true b o n z) = true := rfl
@[simp] theorem aok_ptr : ah (.ptr true b o) = true := rfl
@[simp] theorem aok_nilp : ah .nilp = true := rfl
@[simp] theorem aok_ep (e : PV) : ah (.ep e o) = true := rfl
@[simp] theorem aok_mp : ah (.mp b) = true := rfl
@[simp] theorem aok_nilm : ah .nilm = true := rfl
@[simp] theorem aok_nilf : ah .nilf = true := rfl
@[simp] theorem aok_nils : ah .nils = true := rfl
@[simp] theorem aok_sub (b g o n : Nat) : ah (.sub b g o n) = true := rfl
@[simp] theorem aok_stk (b g n : Nat) : ah (.stk b g n) = true := rfl
@[simp] theorem aok_fn : ah (.fn f l) = true := rfl
@[simp] theorem aok_bfn : ah (.bfn f l) = true := rfl
@[simp] theorem aok_nilI : ah .nilI = true := rfl
@[simp] theorem aok_someI : ah .someI = true := rfl
@[simp] theorem aok_agg : ah (.agg l) = l.all PV.one := rfl
@[simp] theorem noG_int (x : Int) : PV.noG (.int kd x) = true := rfl
@[simp] theorem noG_bool (x : Bool) : PV.noG (.bool x) = true := rfl
@[simp] theorem noG_str (x : ByteArray) : PV.noG (.str x) = true := rfl
@[simp] theorem y1 : PV.noG (.sl g z l) = cU l := rfl
@[simp] theorem noG_agg : PV.noG (.agg l) = cU l := rfl
@[simp] theorem noG_tup : PV.noG (.tup l) = cU l := rfl
@[simp] theorem noGs_nil : cU [] = true := rfl
@[simp] theorem rE (x : PV) : cU (x :: l) = (x.noG && cU l) := rfl
end
section
variable {nl z b o n f:Nat} {g:Bool} {l:List PV} {kd:IntKind}
@[simp] theorem stays_int (x : Int) : bo nl (.int kd x) = true := rfl
@[simp] theorem stays_bool (x : Bool) : bo nl (.bool x) = true := rfl
@[simp] theorem stays_str (x : ByteArray) : bo nl (.str x) = true := rfl
@[simp] theorem stays_sl : bo nl (.sl g z l) = true := rfl
@[simp] theorem stays_agg : bo nl (.agg l) = true := rfl
@[simp] theorem stays_bst : bo nl (.bs true b o n z) = true := rfl
@[simp] theorem stays_sub (b g o n : Nat) : bo nl (.sub b g o n) = true := rfl
@[simp] theorem stays_stk (b g n : Nat) : bo nl (.stk b g n) = true := rfl
@[simp] theorem stays_ptrt : bo nl (.ptr true b o) = true := rfl
@[simp] theorem stays_ptrf : bo nl (.ptr false b o) = decide (b < nl) := rfl
@[simp] theorem stays_nilp : bo nl .nilp = true := rfl
@[simp] theorem stays_mp : bo nl (.mp b) = true := rfl
@[simp] theorem stays_fn : bo nl (.fn f l) = true := rfl
@[simp] theorem stays_bfn : bo nl (.bfn f l) = true := rfl
end
@[simp] theorem y2 (a b : Int) : (a == b) = decide (a = b) := by by_cases h:a=b<;>simp[h]
@[simp] theorem bneI (a b : Int) : (a != b) = !decide (a = b) := by by_cases h:a=b<;>simp[bne,h]
section
variable {R:Type} {a b c d e f:PV}
@[simp] theorem unT_1 (k : PV -> Option R) : unT (R := R) 1 (.tup [a]) k = k a := rfl
@[simp] theorem unT_2 (k : PV -> PV -> Option R) : unT (R := R) 2 (.tup [a, b]) k = k a b := rfl
@[simp] theorem unT_3 (k : PV -> PV -> PV -> Option R) : unT (R := R) 3 (.tup [a, b, c]) k = k a b c := rfl
@[simp] theorem unT_4 (k : PV -> PV -> PV -> PV -> Option R) : unT (R := R) 4 (.tup [a, b, c, d]) k = k a b c d := rfl
@[simp] theorem unT_5 (k : PV -> PV -> PV -> PV -> PV -> Option R) : unT (R := R) 5 (.tup [a, b, c, d, e]) k = k a b c d e := rfl
@[simp] theorem unT_6 (k : PV -> PV -> PV -> PV -> PV -> PV -> Option R) : unT (R := R) 6 (.tup [a, b, c, d, e, f]) k = k a b c d e f := rfl
@[simp] theorem unA_1 (k : PV -> Option R) : unA (R := R) 1 (.agg [a]) k = k a := rfl
@[simp] theorem unA_2 (k : PV -> PV -> Option R) : unA (R := R) 2 (.agg [a, b]) k = k a b := rfl
@[simp] theorem unA_3 (k : PV -> PV -> PV -> Option R) : unA (R := R) 3 (.agg [a, b, c]) k = k a b c := rfl
@[simp] theorem unA_4 (k : PV -> PV -> PV -> PV -> Option R) : unA (R := R) 4 (.agg [a, b, c, d]) k = k a b c d := rfl
@[simp] theorem unA_5 (k : PV -> PV -> PV -> PV -> PV -> Option R) : unA (R := R) 5 (.agg [a, b, c, d, e]) k = k a b c d e := rfl
@[simp] theorem lc (k : PV -> PV -> PV -> PV -> PV -> PV -> Option R) : unA (R := R) 6 (.agg [a, b, c, d, e, f]) k = k a b c d e f := rfl
end
def bf (l:List (Int×Int)):List (PV×PV):=l.map λx=>(I x.1,I x.2)
def dW:List (Int×Int)->Int->Int->List (Int×Int)
 |[],k,v=>[(k,v)]
 |(a,u)::l,k,v=>if k=a then (k,v)::l else (a,u)::dW l k v
def bl:List (Int×Int)->Int->Option Int
 |[],_=>none
 |(a,u)::l,k=>if k=a then some u else bl l k
@[simp] theorem isKey_int (kn : Nat) (x : Int) (kd : IntKind) : dE kn (.int kd x) = (kn == 0) := rfl
@[simp] theorem isKey_agg (kn : Nat) (l : List PV) : dE kn (.agg l) = (kn != 0 && l.length == kn) := rfl
@[simp] theorem y3 (l : List (Int × Int)) (k v : Int) : eb 0 (bf l) (I k) (I v) = some (bf (dW l k v)) := by
 induction l with
 |nil=>rfl
 | cons x l ih=>
  obtain⟨a,u⟩:=x;by_cases h:k=a
  ·simp[bf,dW,eb,dq,h]
  ·have:eb 0 (l.map λx=>(I x.1,I x.2)) (I k) (I v)=some (bf (dW l k v)):=ih
   simp[bf,dW,eb,dq,aZ h,h,this]
@[simp] theorem y4 (l : List (Int × Int)) (k : Int) : eU 0 (bf l) (I k) = some ((bl l k).map I) := by
 induction l with
 |nil=>rfl
 |cons x l ih=>
  obtain⟨a,u⟩:=x;have:eU 0 (l.map λx=>(I x.1,I x.2)) (I k)=some ((bl l k).map I):=ih;by_cases h:k=a
  ·simp[bf,bl,eU,dq,h]
  ·simp[bf,bl,eU,dq,aZ h,h,this]
theorem mY {R:Type} (gh:List GObj) (l:List (Int×Int)) (k v:Int) (f:List GObj->Option R) :
  muX (gh++[.map (bf l)]) 0 (.mp gh.length) (I k) (I v) f=f (gh++[.map (bf (dW l k v))]):=by
 simp[y3,dE]
theorem rF {R:Type} (gh:List GObj) (l:List (Int×Int)) (k:Int) (f:Option PV->Option R) :
  lkX (gh++[.map (bf l)]) 0 (.mp gh.length) (I k) f=f ((bl l k).map I):=by
 simp[y4,dE]
theorem na {A:Nat} (h:A<18446744073709551616):(BitVec.ofInt 64 (A:Int)).toNat=A:=by rw[BitVec.toNat_ofInt];omega
theorem zw {A B:Nat} (ha:A<65536) (hb:B<65536):iOr .i64 A B=((A |||B:Nat):Int):=by
 have:A |||B<65536:=Nat.or_lt_two_pow (n:=16) ha hb
 unfold iOr;rw[BitVec.toNat_or]
 show WI.wrap (((BitVec.ofInt 64 (A:Int)).toNat |||(BitVec.ofInt 64 (B:Int)).toNat:Nat):Int)=_
 rw[na (by omega),na (by omega)];exact cS (by omega) (by omega)
theorem zx {w:Nat} (hw:w<=8):1<=(2:Int)^w/\(2:Int)^w<=256:=by
 have:∀v:Fin 9,1<=(2:Int)^v.val/\(2:Int)^v.val<=256:=by decide
 exact this ⟨w,by omega⟩
theorem rK (x:Int) {w:Nat} (hw:w<=8):gt .i64 x (2^w-1:Int)=x%(2^w:Int):=by
 have h1:(2:Nat)^w<=2^8:=bO (by decide) hw;have h0:1<=(2:Nat)^w:=Nat.one_le_two_pow;have e:(2^w-1:Int)=((2^w-1:Nat):Int):=by rw[Int.natCast_sub h0];simp
 unfold gt;rw[BitVec.toNat_and,e]
 show WI.wrap (((BitVec.ofInt 64 x).toNat &&&(BitVec.ofInt 64 ((2^w-1:Nat):Int)).toNat:Nat):Int)=_
 rw[na (by omega),Nat.and_two_pow_sub_one_eq_mod,BitVec.toNat_ofInt];have h2:(2:Nat)^w ∣ 18446744073709551616:=Nat.pow_dvd_pow (n:=64) 2 (by omega);have h3:(x%18446744073709551616).toNat%2^w<2^w:=Nat.mod_lt _ (by omega)
 show WI.wrap ((((x%((2^64:Nat):Int)).toNat%2^w:Nat)):Int)=_
 rw[show ((2^64:Nat):Int)=18446744073709551616 from rfl,cS (by omega) (by omega)];rw[Int.natCast_emod,Int.toNat_of_nonneg (Int.emod_nonneg _ (by decide))];have h4:((2^w:Nat):Int) ∣ ((18446744073709551616:Nat):Int):=Int.natCast_dvd_natCast.2 h2;have h5:=Int.emod_emod_of_dvd x h4;rw[Int.natCast_pow] at h5 ⊢;exact h5
theorem zy {w:Nat} (hw:w<=8):cW .i64 1 (w:Int)=2^w:=by
 have:∀v:Fin 9,cW .i64 1 (v.val:Int)=2^v.val:=by decide
 exact this ⟨w,by omega⟩
theorem rL {w:Nat} (hw:w<=8):WI.wrap (cW .i64 1 (w:Int)-1)=2^w-1:=by rw[zy hw];have:=zx hw;exact cS (by omega) (by omega)
theorem zz (A b:Nat) (ha:A<2^64):ff .i64 (A:Int) (b:Int)=(A/2^b:Nat):=by
 unfold ff;rw[show min (b:Int).toNat IntKind.i64.bits=min b 64 by simp[IntKind.bits]];by_cases h:b<=64
 ·rw[Nat.min_eq_left h,Int.fdiv_eq_ediv_of_nonneg _ (Int.pow_nonneg (by decide))]
  simp
 ·rw[Nat.min_eq_right (by omega),Int.fdiv_eq_ediv_of_nonneg _ (Int.pow_nonneg (by decide))]
  have h3:A<2^b:=aS ha (bO (by decide) (by omega));rw[Nat.div_eq_of_lt h3];have e:(2:Int)^64=((2^64:Nat):Int):=by simp
  rw[e,<-Int.natCast_ediv,Nat.div_eq_of_lt ha]
end Go.Lw