/-
  The texts that the proof stands on, part 12.
-/
import Derived.Test.YtmodipglnngghabBlastTellsK
import Derived.Laws.MakeOwn
set_option linter.unusedVariables false
set_option linter.unusedSimpArgs false
set_option linter.unnecessarySimpa false

set_option maxRecDepth 100000
set_option maxHeartbeats 4000000
namespace Go.Lw
open Go
section
open Go.RowKit
variable {o:Oper} {d z kn:Nat} {m x k:IX}
section
variable {fi:FI} {M M':Mem} {w w':World} {P:Program} {s s':St} {a:Act} {cf:CallF}
theorem Ay {m:Nat} {agg:Bool} {i:IX} (A:dW P fi M w s a o (.index d z m agg x i)) (h:ae cf s (.index d z m agg x i)=some s'):Sim P fi o M w s' a:=by
 obtain⟨dst,op,ty,pos,aft,gd⟩:=o;obtain⟨hI,hm,hd,hlt⟩:=A;cases op<;>simp[mOp] at hm;rename_i t y j;obtain⟨⟨hx,hi⟩,hm⟩:=hm;split at hm
 ·rename_i m' e ht
  simp at hm;obtain⟨⟨rfl,hz⟩,ha⟩:=hm;simp only[ae] at h;split at h
  ·rename_i k n hn
   have hiv:=(cj hI hi hn).int;split at h
   ·rename_i cs hp
    split at h
    ·rename_i hc
     simp only[aE] at h;obtain⟨p,hg,rfl⟩:=h;obtain⟨vs,hv,hl,hvv⟩:=(cj hI hx hp).agg;obtain⟨r,h1,h2⟩:=zO (P:=P) hg hl hvv ha (λ_=>hz);refine Sim.pure hI hd (hlt d rfl) ?_ h2.repE.repAt;simp[execOp,hiv,hv,Instr.index,run_underlying ht,asIntOf,hc.1,hc.2,run_sizeOf' hz,h1]
    ·cases h
   ·cases h
  ·cases h
 ·cases hm
theorem Az {ok:Bool} {zero:PV} (A:dW P fi M w s a o (.lookup d kn m k ok zero)) (h:ae cf s (.lookup d kn m k ok zero)=some s'):Sim P fi o M w s' a:=by
 obtain⟨dst,op,ty,pos,aft,gd⟩:=o;obtain⟨hI,hm,hd,hlt⟩:=A;cases op<;>simp[mOp] at hm;rename_i t y j ok';obtain⟨⟨⟨hx,hk⟩,rfl⟩,hm⟩:=hm;split at hm
 ·rename_i kt et ht
  simp only[aY] at hm;obtain⟨hkt,hz⟩:=hm;simp only[ae] at h;split at h
  ·rename_i b kv hp hkv
   split at h
   ·rename_i es hes
    split at h
    ·cases h
    ·rename_i hki
     have hki':eC kn kv=true:=by simpa using hki
     unfold lG at hz;cases hit:P.info? et with
     |none=>simp[hit] at hz
     | some it=>
      cases hzv:it.zero with
      |none=>simp[hit,hzv] at hz
      | some zv=>
       simp[hit,hzv] at hz;have L:=λ(r:Option PV) (hr:fu kn es kv=some r)=>z5 (P:=P) hI ht hkt hit hzv hz (cj hI hx hp) hes (cj hI hk hkv) hki' (ok:=ok) hr
       split at h
       ·rename_i v hf
        cases h;obtain⟨r,h1,h2⟩:=L _ hf;exact Sim.pure hI hd (hlt d rfl) (by simp[execOp,h1]) h2.repE.repAt
       ·rename_i hf
        cases h;obtain⟨r,h1,h2⟩:=L _ hf;exact Sim.pure hI hd (hlt d rfl) (by simp[execOp,h1]) h2.repE.repAt
       ·cases h
   ·cases h
  ·cases h
 ·cases hm
theorem AA (A:dW P fi M w s a o (.mupd kn m k x)) (h:ae cf s (.mupd kn m k x)=some s'):Sim P fi o M w s' a:=by
 obtain⟨dst,op,ty,pos,aft,gd⟩:=o;obtain⟨hI,hm,hd,hlt⟩:=A;have hdn:dst=none:=hd;subst hdn;simp only[ae] at h;split at h
 ·rename_i b kv v hp hkv hv
  split at h
  ·rename_i es hes
   split at h
   ·rename_i hc
    simp only[aE] at h;obtain⟨es',hs,rfl⟩:=h;cases op<;>simp[mOp] at hm<;>rename_i t y j z<;>obtain⟨⟨⟨hx,hk⟩,hy⟩,hm⟩:=hm<;>split at hm<;>try (cases hm;done)
    all_goals
     rename_i kt et ht;obtain⟨w2,h1,h2,h3⟩:=Aa (P:=P) hI ht hm (cj hI hx hp) hes (cj hI hk hkv) hc.2.2 (cj hI hy hv) hc.1 hc.2.1 hs;exact⟨.skip,undef,M,w2,by simp[execOp,h1],.inr ⟨rfl,rfl⟩,h2,h3⟩
   ·cases h
  ·cases h
 ·cases h
theorem jp {b:Builtin} {ats:Array TypeId} {ty:TypeId} {cs:Array Bool} {args:Array Value}:invoke (.builtin b ats ty cs) args=builtin b ats ty cs args:=rfl
theorem AB {kd:Nat} (A:dW P fi M w s a o (.len d kd x)) (h:ae cf s (.len d kd x)=some s'):Sim P fi o M w s' a:=by
 obtain⟨dst,op,ty,pos,aft,gd⟩:=o;obtain⟨hI,hm,hd,hlt⟩:=A;cases op with
 | call c=>
  obtain⟨callee,args,argTypes⟩:=c;cases callee with
  | builtin b=>
   cases b<;>simp[mOp] at hm;split at hm
   ·rename_i y t ha ht
    simp only[aY] at hm;obtain⟨hx,hm⟩:=hm;have ha':args= #[y]:=by apply Array.ext';simpa using ha
    subst ha';have fin:∀(n:Nat),(Builtin.len_ argTypes ty #[a.eval y]).run P w= .ok (.int .i64 n) w->Sim P fi ⟨dst,.call ⟨.builtin .len,#[y],argTypes⟩,ty,pos,aft,gd⟩ M w (s.put d (.int .i64 n)) a:=λn hn=>by refine Sim.pure hI hd (hlt d rfl) (v:= .int .i64 n) ?_ (RepP.repE (.int _ _)).repAt;simp[execOp,resolve,jp,builtin,hn]
    obtain rfl|rfl|rfl|h4:kd=0\/kd=1\/kd=2\/3<=kd:=by omega
    ·split at hm<;>try (first|(simp at hm;done)|omega)
     rename_i e _ hu;simp only[ae] at h;split at h<;>try (first|(simp at h;done)|omega)
     ·rename_i ow z xs _ hp
      cases h;obtain⟨A,c,hv,hcl⟩:=(cj hI hx hp).slC;exact fin _ (by rw[hv];exact ku (P:=P) ht hu w)
     ·rename_i g b off n z _ hp
      cases h;have hx':=cj hI hx hp;have hv:∃A c,a.eval y= .slice A n c:=by
       cases g with
       |true=>
        generalize hu:a.eval y=u at hx';cases (show RepP fi M w (.bs true b off n z) u from hx') with
        |bs _ _ _ _ A c blk hb hA hc=>exact⟨A,c,rfl⟩
       |false=>obtain⟨blk,A,c,_,hv,_⟩:=hx';exact⟨A,c,hv⟩
      obtain⟨A,c,hv⟩:=hv;exact fin _ (by rw[hv];exact ku (P:=P) ht hu w)
     ·rename_i b gen n _ hp
      cases h;have hx':=cj hI hx hp;have hv:∃A c,a.eval y= .slice A n c:=by
       generalize hu:a.eval y=u at hx';cases (show RepP fi M w (.stk b gen n) u from hx') with
       |stk _ _ _ blk c hb hg hA hc=>exact⟨_,c,rfl⟩
      obtain⟨A,c,hv⟩:=hv;exact fin _ (by rw[hv];exact ku (P:=P) ht hu w)
     ·rename_i b gen off n _ hp
      cases h;have hx':=cj hI hx hp;have hv:∃A c,a.eval y= .slice A n c:=by
       generalize hu:a.eval y=u at hx';cases (show RepP fi M w (.sub b gen off n) u from hx') with
       |sub _ _ _ _ blk c A hb hg hA hc hAd=>exact⟨_,c,rfl⟩
      obtain⟨A,c,hv⟩:=hv;exact fin _ (by rw[hv];exact ku (P:=P) ht hu w)
     ·rename_i _ hp
      cases h;have hx':=cj hI hx hp;have hv:a.eval y= .slice none 0 0:=by
       generalize hu:a.eval y=u at hx';cases (show RepP fi M w .nils u from hx') with
       |nils=>rfl
      exact fin _ (by rw[hv];exact ku (P:=P) ht hu w)
    ·split at hm<;>try (first|(simp at hm;done)|omega)
     rename_i _ hu;simp only[ae] at h;split at h<;>try (first|(simp at h;done)|omega)
     rename_i b _ hp;cases h;have hv:=(cj hI hx hp).str;exact fin _ (by rw[hv];exact zQ (P:=P) ht hu w)
    ·split at hm<;>try (first|(simp at hm;done)|omega)
     rename_i kt et _ hu;simp only[ae] at h;split at h<;>try (first|(simp at h;done)|omega)
     rename_i b _ hp;split at h
     ·rename_i es hes
      cases h;exact fin _ (z6 (P:=P) hI ht hu (cj hI hx hp) hes)
     ·cases h
    ·split at hm<;>first|(simp at hm;done)|omega
   ·cases hm
  |_=>simp[mOp] at hm
 |_=>simp[mOp] at hm
theorem AD {bytes:Nat} {sx:IX} (A:dW P fi M w s a o (.append d z bytes sx x)) (h:ae cf s (.append d z bytes sx x)=some s'):Sim P fi o M w s' a:=by
 obtain⟨dst,op,ty,pos,aft,gd⟩:=o;obtain⟨hI,hm,hd,hlt⟩:=A;cases op with
 | call c=>
  obtain⟨callee,args,argTypes⟩:=c;cases callee with
  | builtin b=>
   cases b<;>simp[mOp] at hm;split at hm
   ·rename_i y y' t t' ha ht
    simp only[aY,cX,aH] at hm;obtain⟨⟨⟨⟨⟨hs,hx⟩,rfl⟩,hz0⟩,hb0⟩,hm⟩:=hm;have ha':args= #[y,y']:=by apply Array.ext';simpa using ha
    have ht':argTypes= #[t,t]:=by apply Array.ext';simpa using ht
    subst ha';subst ht';split at hm<;>try (cases hm;done)
    rename_i e hu;split at hm<;>try (cases hm;done)
    rename_i i hi;simp only[aY,cX] at hm;obtain⟨⟨hsz,hby⟩,hm⟩:=hm;split at hm<;>try (cases hm;done)
    rename_i zv hzv;simp at hm;simp only[ae,aC] at h;obtain⟨xv,hxv,h⟩:=h;split at h
    ·rename_i o2 z2 ys
     simp only[aC] at h;obtain⟨⟨v,e'⟩,hv,h⟩:=h;cases v with
     | sl o1 z1 xs=>
      simp only at h;split at h
      ·rename_i hc
       obtain⟨rfl,rfl,rfl,hbd⟩:=hc;cases h;obtain⟨M1,hI1,k1,hr,_,hgb,himm⟩:=lD hI hs hv;have hxr:RepP fi M w (.sl false z2 ys) (a.eval y'):=by
        have:=cj hI hx hxv;cases o2 with
        |false=>exact this
        |true=>
         cases x with
         |t n=>simp only[ah,aE] at hxv;obtain⟨q,_,hq⟩:=hxv;cases q<;>simp[degr] at hq
         |c q=>simp only[ah,bU] at hxv;cases q<;>simp[degr] at hxv
         |f id=>simp[ah] at hxv
       have hx1:RepP fi M1 w (.sl false z2 ys) (a.eval y'):=hxr.mono k1.ext;obtain⟨r,M2,w2,h1,h2,k2⟩:=zX (P:=P) (ty:=ty) hI1 hu hi hzv hsz hby hm hz0 hb0 hr hx1 hbd (hlt d rfl);refine⟨.value r,r,M2,w2,?_,.inl rfl,by rw[show dst=some d from hd];exact h2,k1.trans k2⟩;simp[execOp,resolve,jp,builtin,h1]
      ·cases h
     |_=>cases h
    ·cases h
   ·cases hm
  |_=>simp[mOp] at hm
 |_=>simp[mOp] at hm
theorem AE {i:Nat} (A:dW P fi M w s a o (.extract d x i)) (h:ae cf s (.extract d x i)=some s'):Sim P fi o M w s' a:=by
 obtain⟨dst,op,ty,pos,aft,gd⟩:=o;obtain⟨hI,hm,hd,hlt⟩:=A;cases op<;>simp[mOp] at hm;rename_i y j;obtain⟨hx,rfl⟩:=hm;simp only[ae] at h;split at h
 ·rename_i vs hp
  simp only[aE] at h;obtain⟨p,hg,rfl⟩:=h;obtain⟨us,hv,hl,hvv⟩:=(cj hI hx hp).tup;have hi:i<us.length:=by rw[hl];exact (aD.1 hg).1
  have hr:=hvv i p _ hg (aA hi);refine Sim.pure hI hd (hlt d rfl) (v:=us[i]) ?_ hr.repE.repAt;simp[execOp,hv,Instr.extract,aA hi]
 ·cases h
end
end
section
open Go.RowKit
section
variable {fi:FI} {M M':Mem} {w w':World} {P:Program} {s s':St} {a:Act} {cf:CallF}
theorem pZ {z:Nat} (x:PV) (hx:x.cells.length=z):∀(n j:Nat),((List.replicate n x).flatMap PV.cells)[j]?=if j<n*z then x.cells[j%z]? else none
 |0,j=>by simp
 | n+1,j=>by
  rw[List.replicate_succ,cO,Nat.add_mul,Nat.one_mul];by_cases h:j<z
  ·rw[aJ (by omega),if_pos (by omega),cP h]
  ·rw[aR (by omega),pZ x hx n,hx]
   by_cases h2:j<n*z+z
   ·rw[if_pos (by omega),if_pos h2,<-Nat.mod_eq_sub_mod (by omega)]
   ·rw[if_neg (by omega),if_neg h2]
theorem ug {z:Nat} (x:PV) (hx:x.cells.length=z) (n:Nat):((List.replicate n x).flatMap PV.cells).length=n*z:=by simp[List.length_flatMap,hx]
theorem AF (zs:Array Value) (n j:Nat) (h:j<n):(madeCells zs n).toList[j]?=some (zs[j%zs.size]!):=by simp[madeCells,h]
theorem uh {zero:PV} {zv:Value} {z:Nat} (hc:cOk zero zv=true) (hl:zero.cells.length=z) (ha:ar zero=true) (hs:zv.cells.size=z) (n:Nat) (mk:Nat->Loc) :
  RepAt fi M w mk (.agg ((List.replicate n zero).flatMap PV.cells)) (.agg (madeCells zv.cells (n*z))):=by
 refine⟨(madeCells zv.cells (n*z)).toList,by simp,by rw[ug zero hl];simp[size_madeCells],λj c u hcj huj=>?_⟩;rw[pZ zero hl] at hcj;split at hcj
 ·rename_i hj
  rw[AF _ _ _ hj,hs] at huj;obtain⟨vs,e1,e2,e3,_⟩:=(kr (fi:=fi) (M:=M) (w:=w) hc (λ_=>mk j)).cells ha;have hjz:j%z<z:=Nat.mod_lt _ (by rcases z with _|z;simp at hj;omega);refine e3 (j%z) c u hcj ?_;have:zv.cells.toList[j%z]?=some u:=by rw[<-huj];simp only[Array.getElem?_toList];rw[getElem!_pos zv.cells (j%z) (by omega)];exact Array.getElem?_eq_getElem (by omega)
  rw[e1] at this;exact this
 ·cases hcj
theorem AG {o:Oper} {d z bytes:Nat} {g:Bool} {zero:PV} {l:IX} (A:dW P fi M w s a o (.mksl d g z bytes zero l)) (h:ae cf s (.mksl d g z bytes zero l)=some s'):Sim P fi o M w s' a:=by
 obtain⟨dst,op,ty,pos,aft,gd⟩:=o;obtain⟨hI,hm,hd,hlt⟩:=A;cases op<;>simp[mOp] at hm;rename_i t y y';obtain⟨⟨⟨hx,hx'⟩,hb0⟩,hm⟩:=hm;split at hm<;>try (cases hm;done)
 rename_i e hu;split at hm<;>try (cases hm;done)
 rename_i i hi;simp only[aY,cX] at hm;obtain⟨⟨hsz,hby⟩,hm⟩:=hm;split at hm<;>try (cases hm;done)
 rename_i zv hzv;simp only[aY,cX] at hm;obtain⟨hzc,hzs⟩:=hm;simp only[ae] at h;split at h
 ·rename_i k n hn
  split at h
  ·rename_i hc
   obtain⟨h0,hbd,hzl,hok⟩:=hc;have v1:=(cj hI hx hn).int;have v2:=(cj hI hx' hn).int;have hok':ar (.agg ((List.replicate n.toNat zero).flatMap PV.cells))=true:=by simp only[ar,PV.cells,bS,List.mem_flatMap,List.mem_replicate] at hok ⊢;rintro c ⟨x,⟨_,rfl⟩,hc⟩;exact hok c hc
   have hb1:n*1<=n*(bytes:Int):=Int.mul_le_mul_of_nonneg_left (by omega) h0;have hmx:(maxBytes:Int)=140737488355328:=rfl;have hrun:=run_make (P:=P) w t e i zv hu hi hzv k k n n h0 (Int.le_refl _) (by rw[hby,Int.mul_comm];omega) (by omega);rw[hsz] at hrun;cases g with
   | true=>
    cases h;obtain⟨M2,hI2,k2,hr2⟩:=hI.newBox true (uh (fi:=fi) (M:=M) (w:=w) hzc hzl hok hzs n.toNat Loc.lim) hok' e;refine⟨_,.slice (some ⟨w.heap.size,0,none⟩) n.toNat n.toNat,M2,_,?_,.inl rfl,?_,k2⟩
    ·simp only[execOp,v1,v2,Sem.run_bind,hrun];rfl
    ·rw[show dst=some d from hd]
     refine hI2.put (hlt d rfl) (RepE.repAt ?_);cases (show RepP fi M2 _ (.ptr true _ 0) _ from hr2) with
     |ptr _ _ _ hb=>exact RepP.repE (.bs _ _ _ _ _ _ _ hb (.inr rfl) (cQ _))
   | false=>
    simp only at h;split at h<;>try (cases h;done)
    rename_i hfl;cases h;obtain⟨us,u1,u2,u3⟩:=uh (fi:=fi) (M:=M) (w:=w) hzc hzl hok hzs n.toNat Loc.lim;rw[ug zero hzl] at u2;have u1':(madeCells zv.cells (n.toNat*z))=us.toArray:=Value.agg.inj u1;rw[u1'] at hrun
    obtain⟨M1,hI1,k1⟩:=hI.newOwn (hlt d rfl) (xs:=List.replicate n.toNat zero) (z:=z) (λe he=>by rw[List.eq_of_mem_replicate he];exact hzl) (λe he=>by rw[List.eq_of_mem_replicate he];exact hok) us [] (by simpa using u2)
     (λi e j p he hp=>by
      obtain⟨hi',rfl⟩:=aD.1 he;rw[List.getElem_replicate] at hp;have hjz:j<z:=by have:=(aD.1 hp).1;omega
      have hin:i<n.toNat:=by simpa using hi'
      have hlt2:i*z+j<n.toNat*z:=by have:=cU z (show i+1<=n.toNat by omega);rw[Nat.add_mul,Nat.one_mul] at this;omega
      have hg:=pZ zero hzl n.toNat (i*z+j);rw[if_pos hlt2,Nat.mul_comm i z,Nat.mul_add_mod,cP hjz,hp] at hg;rw[Nat.mul_comm i z];have hul:z*i+j<us.length:=by rw[u2,Nat.mul_comm z i];exact hlt2
      refine⟨us[z*i+j],aA hul,?_⟩;have:=u3 (z*i+j) p _ hg (aA hul);cases zero<;>simp[cx] at hfl<;>(cases j<;>simp[PV.cells] at hp;subst hp;exact this))
     n.toNat (by simp) (by simp[u2]) e us.toArray (by simp)
    refine⟨_,.slice (some ⟨w.heap.size,0,none⟩) n.toNat n.toNat,M1,_,?_,.inl rfl,?_,k1⟩
    ·simp only[execOp,v1,v2,Sem.run_bind,hrun];rfl
    ·rw[show dst=some d from hd]
     simpa using hI1
  ·cases h
 ·cases h
theorem ui {α β:Type} (F:α->Sem β) (G:α->Option β) (hFG:∀x y,G x=some y->(F x).run P w= .ok y w):∀{l:List α} {L:List β},l.mapM G=some L->(l.mapM F).run P w= .ok L w
 |[],L,h=>by simp at h;subst h;simp
 |x::l,L,h=>by simp only[List.mapM_cons,Option.bind_eq_bind,aC] at h;obtain⟨y,hy,L',hL,h⟩:=h;simp at h;subst h;simp[List.mapM_cons,hFG x y hy,ui F G hFG hL]
theorem AH {α β:Type} (F:α->Sem β) (G:α->Option β) (hFG:∀x y,G x=some y->(F x).run P w= .ok y w) {l:Array α} {L:List β} (h:l.toList.mapM G=some L):(l.mapM F).run P w= .ok L.toArray w:=by rw[Array.mapM_eq_mapM_toList,map_eq_pure_bind,Sem.run_bind,ui F G hFG h];rfl
theorem AI {t:TypeId} {zv:Value} {i:TypeInfo} {parts:Array (Nat×Value)} {us:List Value} (hi:P.info? t=some i) (hz:i.zero=some zv)
  (h:∀place:Nat->Option (Nat×Nat),(∀j q,gD P t j=some q->place j=some q)->Instr.fill place zv.cells parts.toList=some us.toArray)
  (hp:∃j q,gD P t j=some q):(Instr.build t parts).run P w= .ok (.agg us.toArray) w:=by
 obtain⟨j,q,hjq⟩:=hp;unfold gD at h hjq;split at hjq
 ·rename_i fs ht
  simp only[aC] at hjq;obtain⟨L,hL,_⟩:=hjq;simp only[ht,hL,cC] at h;have h2:=h (L.toArray[·]?) (λj q hq=>by simpa using hq);have h3:(fs.mapM (m:=Sem) λf=>do pure (f.offset,<-sizeOf f.type)).run P w= .ok L.toArray w:=AH _ _ (λf q hq=>by simp only[aE] at hq;obtain⟨i,hi,rfl⟩:=hq;simp[sizeOf,typeInfo,hi]) hL;have h4:(zeroValue t).run P w= .ok zv w:=by simp[zeroValue,typeInfo,hi,hz]
  simp only[Instr.build,Sem.run_bind,h4,Result.andThen,run_underlying ht,h3,h2];rfl
 ·rename_i m e ht
  simp only[aE] at hjq;obtain⟨z,hsz,_⟩:=hjq;simp only[ht,hsz,cD] at h;have h2:=h (λi=>some (i*z,z)) (λj q hq=>by simpa using hq);simp[Instr.build,zeroValue,typeInfo,hi,hz,run_underlying ht,run_sizeOf' hsz,h2]
 ·cases hjq
end
end
section
open Go.RowKit
variable {z:List PV} {o:Oper} {d:Nat} {ps:List (Nat×Nat×IX)}
section
variable {fi:FI} {M M':Mem} {w w':World} {P:Program} {s s':St} {a:Act} {cf:CallF}
def fZ (a:Act) (q:Nat×Operand):Nat×Value:=(q.1,a.eval q.2)
theorem uj (hI:Inv fi M w s a) {t:TypeId} {place:Nat->Option (Nat×Nat)} (hpl:∀j q,gD P t j=some q->place j=some q) (mk:Nat->Loc):∀{ps:List (Nat×Nat×IX)} {os:List (Nat×Operand)} {vs:List (Nat×Nat×PV)},
  iz P fi t ps os=true->gB s.env ps=some vs->(∀p∈vs,ar p.2.2=true)->jo fi M w place mk vs (os.map (fZ a))
 |[],[],vs,_,h,_=>by simp[gB] at h;subst h;exact trivial
 |[],_::_,_,hm,_,_=>by simp[iz] at hm
 |(_,_,_)::_,[],_,hm,_,_=>by simp[iz] at hm
 |(off,k,x)::ps,(i,o)::os,vs,hm,h,hok=>by simp only[iz,aY,cX] at hm;simp only[gB,aC,aE] at h;obtain⟨v,hv,vs',hvs,rfl⟩:=h;exact⟨hpl _ _ hm.1.1,(cj hI hm.1.2 hv).repAt,hok (off,k,v) (by simp),uj hI hpl mk hm.2 hvs (λp hp=>hok p (by simp[hp]))⟩
theorem AJ {t:TypeId} (h:nj P t z=true):∃i zv,P.info? t=some i/\i.zero=some zv/\zv.cells.toList.length=z.length/\
  ∀(mk:Nat->Loc) (i:Nat) (c:PV) (u:Value),z[i]?=some c->zv.cells.toList[i]?=some u->RepC fi M w (mk i) c u:=by
 unfold nj at h;split at h
 ·rename_i zv hz
  simp only[aC] at hz;obtain⟨i,hi,hzv⟩:=hz;obtain⟨h1,h2⟩:=pT h;exact⟨i,zv,hi,hzv,h1,λmk i c u hc hu=>pP (h2 i c u hc hu) _⟩
 ·cases h
theorem uk {t:TypeId} {z cs:List PV} {vs:List (Nat×Nat×PV)} {parts:Array (Nat×Value)} (hpl:(gD P t 0).isSome=true) (hz:nj P t z=true) (hz1:∀c∈z,c.one=true) (h:gW z vs=some cs) (mk:Nat->Loc)
  (hp:∀place:Nat->Option (Nat×Nat),(∀j q,gD P t j=some q->place j=some q)->jo fi M w place mk vs parts.toList) :
  ∃v,(Instr.build t parts).run P w= .ok v w/\RepAt fi M w mk (.agg cs) v:=by
 obtain⟨i,zv,hi,hzv,hl,hzr⟩:=AJ (fi:=fi) (M:=M) (w:=w) hz;obtain⟨q,hq⟩:=Option.isSome_iff_exists.1 hpl;have F:=λ(place:Nat->Option (Nat×Nat)) (hpl:∀j q,gD P t j=some q->place j=some q)=>Ad vs parts.toList z cs zv.cells.toList h hl (hzr mk) (hp place hpl) hz1
 obtain⟨us,h1,h2,h3,_⟩:=F (gD P t) (λ_ _ h=>h);refine⟨.agg us.toArray,AI hi hzv (λplace hpl=>?_) ⟨0,q,hq⟩,⟨us,rfl,h2,h3⟩⟩;obtain⟨us',g1,_⟩:=F place hpl;have mono:∀(l:List (Nat×Value)) (cells:Array Value) (r:Array Value),Instr.fill (gD P t) cells l=some r->Instr.fill place cells l=some r:=by
  intro l
  induction l with
  |nil=>intro cells r h;exact h
  | cons x l ih=>
   intro cells r h;obtain⟨i,v⟩:=x;simp only[Instr.fill] at h ⊢;split at h
   ·cases h
   ·rename_i off size hq
    rw[hpl _ _ hq];simp only;split at h
    ·cases h
    ·rename_i hc
     rw[if_neg hc];exact ih _ _ h
 exact mono _ _ _ (by simpa using h1)
theorem AK (A:dW P fi M w s a o (.build d z ps)) (h:ae cf s (.build d z ps)=some s'):Sim P fi o M w s' a:=by
 obtain⟨dst,op,ty,pos,aft,gd⟩:=o;obtain⟨hI,hm,hd,hlt⟩:=A;cases op<;>simp only[mOp,bP] at hm;rename_i t parts;simp only[aY] at hm;obtain⟨⟨hpl,hz⟩,hps⟩:=hm;simp only[ae,aC] at h;obtain⟨vs,hvs,h⟩:=h;split at h
 ·rename_i hc
  simp only[bS] at hc;simp only[aE] at h;obtain⟨cs,hcs,rfl⟩:=h;obtain⟨v,h1,h2⟩:=uk (P:=P) (parts:=parts.map (fZ a)) hpl hz hc.2 hcs (Loc.env d) (λplace hp=>by have:=uj hI hp (Loc.env d) hps hvs hc.1;simpa using this);refine Sim.pure hI hd (hlt d rfl) (v:=v) ?_ h2;have e:(parts.map λ(x:Nat×Operand)=>match x with|(i,x)=>(i,a.eval x))=parts.map (fZ a):=rfl;simp only[execOp,e,Sem.run_bind,h1];rfl
 ·cases h
theorem AM (hI:Inv fi M w s a) {x:IX} {o:Operand} (hm:mX fi x o=true) {v:PV} {e:List (Nat×PV)} (h:eY s.env x=some (v,e)) :
  ∃f:Loc->Loc,(∀i,f (.res i)= .res i)/\Inv fi (M.rel f) w ⟨e,s.lh,s.gh⟩ a/\RepAt fi (M.rel f) w Loc.lim v (a.eval o):=by
 cases x with
 | t n=>
  cases o with
  | tmp m=>
   simp only[mX,cX] at hm;subst hm;simp only[eY,aE,bV] at h;obtain⟨v',hv,rfl,rfl⟩:=h;have hn:=hI.env n v' hv;refine⟨kz n,λ_=>rfl,hI.rel _ _ (λt u hu=>?_) (λ_ _=>rfl) (λ_ _=>rfl),hn.2.rel _ (λi=>by simp[kz])⟩;rw[eg] at hu;by_cases htn:n=t
   ·subst htn
    simp at hu;subst hu;exact⟨hn.1,(hn.2.degr.rel _).repAt⟩
   ·simp[htn] at hu
    exact⟨(hI.env t u hu).1,(hI.env t u hu).2.rel _ (λi=>by simp[kz,Ne.symm htn])⟩
  |_=>simp[mX] at hm
 | c p=>
  cases o with
  |const u=>
   simp only[eY,bU,bV] at h;obtain⟨rfl,rfl⟩:=h;exact⟨id,λ_=>rfl,hI.rel _ _ (λt u hu=>⟨(hI.env t u hu).1,(hI.env t u hu).2.rel _ (λ_=>rfl)⟩) (λ_ _=>rfl) (λ_ _=>rfl),kr hm _⟩
  |_=>simp[mX] at hm
 | f id'=>
  cases o with
  |func F=>
   simp only[eY,bU,bV] at h;obtain⟨rfl,rfl⟩:=h;refine⟨id,λ_=>rfl,hI.rel _ _ (λt u hu=>⟨(hI.env t u hu).1,(hI.env t u hu).2.rel _ (λ_=>rfl)⟩) (λ_ _=>rfl) (λ_ _=>rfl),?_⟩;exact ((cj hI (x:= .f id') hm rfl).rel _).repAt
  |_=>simp[mX] at hm
theorem ul {t:TypeId}:∀{ps:List (Nat×Nat×IX)} {os:List (Nat×Operand)} {vs:List (Nat×Nat×PV)} {M:Mem} {s:St} {e:List (Nat×PV)},Inv fi M w s a->
  iz P fi t ps os=true->gX s.env ps=some (vs,e)->(∀p∈vs,ar p.2.2=true)->
  ∃M1,Inv fi M1 w ⟨e,s.lh,s.gh⟩ a/\Kp M w M1 w/\(∀(mk:Nat->Nat) p v,RepAt fi M w (λi=> .res (mk i)) p v->RepAt fi M1 w (λi=> .res (mk i)) p v)/\
   ∀place:Nat->Option (Nat×Nat),(∀j q,gD P t j=some q->place j=some q)->jo fi M1 w place Loc.res vs (os.map (fZ a))
 |[],[],vs,M,s,e,hI,_,h,_=>by simp[gX] at h;obtain⟨rfl,rfl⟩:=h;exact⟨M,hI,Kp.refl M w,λ_ _ _ h=>h,λ_ _=>trivial⟩
 |[],_::_,_,_,_,_,_,hm,_,_=>by simp[iz] at hm
 |(_,_,_)::_,[],_,_,_,_,_,hm,_,_=>by simp[iz] at hm
 |(off,k,x)::ps,(i,o)::os,vs,M,s,e,hI,hm,h,hok=>by
  simp only[iz,aY,cX] at hm;simp only[gX,aC,aE,bV,Prod.exists] at h;obtain⟨v,e1,hv,vs',e2,hvs,rfl,rfl⟩:=h;obtain⟨f,hf,hI1,hr1⟩:=AM hI hm.1.2 hv;have hI2:=hI1.rel (iR λj=> .res (off+j)) e1 (λt u hu=>⟨(hI1.env t u hu).1,(hI1.env t u hu).2.rel _ (λi=>rfl)⟩) (λ_ _=>rfl) (λ_ _=>rfl);have hr2:=hr1.rel (mk':=λj=> .res (off+j)) (iR λj=> .res (off+j)) (λi=>rfl);obtain⟨M3,hI3,k3,p3,r3⟩:=ul (t:=t) hI2 hm.2 hvs (λp hp=>hok p (by simp[hp]))
  refine⟨M3,hI3,((Kp.rel M w f).trans (Kp.rel _ w _)).trans k3,λmk p u hu=>p3 mk p u ((hu.rel f (λi=>hf _)).rel _ (λi=>rfl)),λplace hpl=>?_⟩;exact⟨hpl _ _ hm.1.1,p3 (λj=>off+j) _ _ hr2,hok (off,k,v) (by simp),r3 place hpl⟩
def um (mk:Nat->Loc):Loc->Loc
 | .res i=>mk i
 |l=>l
theorem AN (A:dW P fi M w s a o (.buildT d z ps)) (h:ae cf s (.buildT d z ps)=some s'):Sim P fi o M w s' a:=by
 obtain⟨dst,op,ty,pos,aft,gd⟩:=o;obtain⟨hI,hm,hd,hlt⟩:=A;cases op<;>simp only[mOp,bP] at hm;rename_i t parts;simp only[aY] at hm;obtain⟨⟨hpl,hz⟩,hps⟩:=hm;simp only[ae,aC] at h;obtain⟨⟨vs,e⟩,hvs,h⟩:=h;simp only at h;split at h
 ·rename_i hc
  simp only[bS] at hc;simp only[aE] at h;obtain⟨cs,hcs,rfl⟩:=h;obtain⟨M1,hI1,k1,_,r1⟩:=ul (P:=P) hI hps hvs hc.1;obtain⟨v,h1,h2⟩:=uk (P:=P) (parts:=parts.map (fZ a)) hpl hz hc.2 hcs Loc.res (λplace hp=>by simpa using r1 place hp);have hI2:=hI1.rel (um (Loc.env d)) e (λt u hu=>⟨(hI1.env t u hu).1,(hI1.env t u hu).2.rel _ (λi=>rfl)⟩) (λ_ _=>rfl) (λ_ _=>rfl);have h3:=h2.rel (mk':=Loc.env d) (um (Loc.env d)) (λi=>rfl);refine⟨.value v,v,_,w,?_,.inl rfl,by rw[show dst=some d from hd];exact Inv.put (s:=⟨e,s.lh,s.gh⟩) hI2 (hlt d rfl) h3,k1.trans (Kp.rel _ w _)⟩
  have e:(parts.map λ(x:Nat×Operand)=>match x with|(i,x)=>(i,a.eval x))=parts.map (fZ a):=rfl;simp only[execOp,e,Sem.run_bind,h1];rfl
 ·cases h
theorem AO {z:Nat} {els:List IX} (A:dW P fi M w s a o (.buildSl d z els)) (h:ae cf s (.buildSl d z els)=some s'):Sim P fi o M w s' a:=by
 obtain⟨dst,op,ty,pos,aft,gd⟩:=o;obtain⟨hI,hm,hd,hlt⟩:=A;cases op<;>simp only[mOp,bP] at hm;rename_i t len parts;simp only[aY,cX,aH] at hm;obtain⟨⟨⟨⟨⟨⟨he,hz0⟩,hlen⟩,hbd⟩,hidx⟩,hmx⟩,hzs⟩:=hm;obtain⟨e,ht,hsz⟩:=nk he;rw[ht] at hzs;simp only[Option.isSome_iff_exists,aC] at hzs;obtain⟨zv,i,hi,hzv⟩:=hzs;simp only[ae,aC] at h;obtain⟨vs,hvs,h⟩:=h;split at h
 ·rename_i hc
  simp only[bS,aY,cX] at hc;cases h;obtain⟨h1,h2⟩:=iy hI hmx hvs;have hvl:vs.length=len:=by rw[<-h1,bC,<-bC (f:=Prod.fst) (as:=parts.toList),hidx,List.length_range']
  generalize hrest:((Array.range (len*z)).map ((if len*z=0 then #[] else zv.cells)[· %(if len*z=0 then (#[]:Array Value) else zv.cells).size]!)).toList=rest;have hrl:rest.length=vs.length*z:=by rw[<-hrest];simp[hvl]
  obtain⟨us,f1,f2,f3⟩:=ud (fi:=fi) (M:=M) (w:=w) (z:=z) vs 0 (parts.toList.map (fZ a)) [] rest (by simp) hrl hc (by
   rw[List.map_map,hvl,<-hidx];rfl) (λi p y hp hy=>by
   simp only[aB,aE] at hy;obtain⟨q,hq,rfl⟩:=hy;have:=h2 i p q.2 hp (by simp[hq]);exact this.repP (by simpa [ar] using (hc p (aP hp)).1))
  simp only[bI] at f1;obtain⟨M1,hI1,k1⟩:=hI.newOwn (hlt d rfl) (λe he=>(hc e he).2) (λe he=>(hc e he).1) us [] f2 f3 vs.length (cQ _) (by simp[f2]) e us.toArray (by simp);refine⟨_,.slice (some ⟨w.heap.size,0,none⟩) vs.length vs.length,M1,_,?_,.inl rfl,by rw[show dst=some d from hd];exact hI1,k1⟩;have e1:(parts.map λ(x:Nat×Operand)=>match x with|(i,x)=>(i,a.eval x))=parts.map (fZ a):=rfl;have hbd':¬(len*z>2^24):=by omega
  have f1':Instr.fill (λi=>some (i*z,z)) ((Array.range (len*z)).map ((if len*z=0 then #[] else zv.cells)[· %(if len*z=0 then (#[]:Array Value) else zv.cells).size]!)) (parts.map (fZ a)).toList=some us.toArray:=by rw[<-f1,<-hrest,Array.toArray_toList];congr 1;simp
  have hrun:(Instr.buildSlice t len (parts.map (fZ a))).run P w= .ok (.slice (some ⟨w.heap.size,0,none⟩) len len) (w.alloc (.cells us.toArray e)):=by
   have hzv':(zeroValue e).run P w= .ok zv w:=by simp[zeroValue,typeInfo,hi,hzv]
   by_cases h0:len*z=0
   ·simp only[if_pos h0] at f1'
    simp only[Instr.buildSlice,Sem.run_bind,run_underlying ht,run_sizeOf' hsz,Result.andThen_ok,if_neg hbd',if_pos h0,Sem.run_pure,f1'];simp[newRow]
   ·simp only[if_neg h0] at f1'
    simp only[Instr.buildSlice,Sem.run_bind,run_underlying ht,run_sizeOf' hsz,Result.andThen_ok,if_neg hbd',if_neg h0,hzv',Sem.run_pure,f1'];simp[newRow]
  simp only[execOp,e1,Sem.run_bind,hrun,hvl];rfl
 ·cases h
end
end
section
open Go.RowKit
variable {p:PV} {u:Value} {o:Oper} {x:IX}
section
variable {fi:FI} {M M' M2:Mem} {w w' W:World} {P:Program} {s s':St} {a:Act} {cf:CallF} {xl:Loc->Prop} {xb:Nat->Prop}
def hE (M:Mem) (b:Nat) (t:Nat×Nat×Nat):Nat->Nat×Nat×Nat:=λi=>if i=b then t else M.st i
theorem Good.stk (g:Good M w M2 W xl xb) (hst:M2.st=M.st) (b:Nat) (t:Nat×Nat×Nat) (hgen:b<M.gb.length->(M.st b).1<t.1) :
  Good M w {M2 with st:=hE M b t } W (λl=>xl l\/l=Loc.gh b 0) xb where
 ext:=⟨g.ext.gb,g.ext.imm,g.ext.cell,λi hi=>by
  by_cases h:i=b
  ·subst h
   simp only[hE,if_true];have:=hgen hi;exact⟨by omega,λe=>by omega⟩
  ·have e:hE M b t i=M.st i:=if_neg h
   show (M.st i).1<=(hE M b t i).1/\((hE M b t i).1=(M.st i).1->hE M b t i=M.st i)
   rw[e];exact⟨cQ _,λ_=>rfl⟩⟩
 size:=g.size
 lb:=g.lb
 own:=λb l h hl=>g.own b l h (λhx=>hl (.inl hx))
 box:=g.box
 st:=λi hi=>by
  have:i≠b:=λe=>hi (.inr (by rw[e]))
  simp only[hE,if_neg this]
theorem Kp.stk {xl':Loc->Prop} {xb':Nat->Prop} {f:Nat->Nat×Nat×Nat} (k:Kp M w M2 W) (g:Good M w {M2 with st:=f } W xl' xb'):Kp M w {M2 with st:=f } W:=
 ⟨k.os,k.tape,k.output,k.size,g.ext,k.block,k.lbn,k.gbn,k.ownn,k.immn⟩
theorem qA (h:RepP fi M w p u) (hf:cx p=true):u.oneCell'=true:=by cases h<;>first|rfl|(simp[cx] at hf)
theorem uo (hI:Inv fi M w s a) {xv:PV} {ys:List PV} {v:Value} (hx:RepE fi M w xv v) (hsl:∀z xs,xv≠ .sl true z xs) (he:gC s.gh xv=some ys) (hf:ys.all cx=true) :
  ∃(A:Option Addr) (c b o:Nat) (us:List Value),v= .slice A ys.length c/\ys.length<=c/\us.length=ys.length/\(ys=[]\/A=some ⟨b,o,none⟩)/\
   (∀(j:Nat) (u:Value),us[j]?=some u->w.cell? ⟨b,o+j,none⟩=some u/\u.oneCell'=true)/\
   (∀(j:Nat) (y:PV),ys[j]?=some y->∃u,us[j]?=some u/\RepP fi M w y u):=by
 unfold gC at he;split at he
 ·rename_i ow ys'
  cases he;cases ow with
  |true=>exact absurd rfl (hsl 1 ys)
  |false=>
   obtain⟨A,c,b,o,us,rfl,h1,h2,h3,h4,h5,h6,h7⟩:=pV (z:=1) (by omega) (show RepP fi M w (.sl false 1 ys) v from hx);rw[Nat.mul_one] at h2;refine⟨A,c,b,o,us,rfl,h1,h2,h3,λj u hu=>(h6 j u hu).2,λj y hy=>?_⟩;have hfy:=bS.1 hf y (aP hy);have hc:y.cells[0]?=some y:=by cases y<;>first|rfl|(simp[cx] at hfy)
   obtain⟨u,hu,hr⟩:=h7 j y 0 y hy hc;exact⟨u,by simpa using hu,hr⟩
 ·rename_i b gen n
  split at he
  ·rename_i g xs hgh
   split at he
   ·rename_i hc
    obtain⟨rfl,hn⟩:=hc;cases he;cases (show RepP fi M w (.stk b g n) v from hx) with
    | stk _ _ _ blk c hb hg hA hcn=>
     obtain⟨h1,h2,h3,h4,h5,cs,T,h6,h7,h8,h9⟩:RepStk fi M w b M.gb[b] g xs:=hI.gh b _ _ hgh (aA hb);obtain⟨rfl,hcc⟩:=hA h2.symm;have hl:(xs.take n).length=n:=by simp;omega
     refine⟨some ⟨(M.st b).2.1,0,none⟩,c,(M.st b).2.1,0,cs.toList.take n,by rw[hl],by rw[hl];exact hcn,by simp;omega,.inr rfl,λj u hu=>?_,λj y hy=>?_⟩
     ·rw[cE] at hu
      split at hu
      ·rename_i hj
       rw[cR,cell_of_row w (M.st b).2.1 j cs T (0,0) h6];have hu':cs[j]?=some u:=by simpa using hu
       refine⟨hu',?_⟩;have hjx:j<xs.length:=by omega
       obtain⟨u2,e2,r2⟩:=h9 j xs[j] (aA hjx);rw[hu'] at e2;cases e2;exact qA r2 (h5 _ (bX hjx))
      ·cases hu
     ·rw[cE] at hy
      split at hy
      ·rename_i hj
       obtain⟨u,hu,hr⟩:=h9 j y hy;exact⟨u,by rw[cE,if_pos hj];simpa using hu,hr⟩
      ·cases hy
   ·cases he
  ·cases he
 ·rename_i b gen off n
  split at he
  ·rename_i g xs hgh
   split at he
   ·rename_i hc
    obtain⟨rfl,hn⟩:=hc;cases he;cases (show RepP fi M w (.sub b g off n) v from hx) with
    | sub _ _ _ _ blk c A hb hg hA hcn hAd=>
     obtain⟨h1,h2,h3,h4,h5,cs,T,h6,h7,h8,h9⟩:RepStk fi M w b M.gb[b] g xs:=hI.gh b _ _ hgh (aA hb);obtain⟨rfl,hcc⟩:=hA h2.symm;have hl:((xs.drop off).take n).length=n:=by simp;omega
     refine⟨A,c,(M.st b).2.1,off,(cs.toList.drop off).take n,by rw[hl],by rw[hl];exact hcn,by simp;omega,?_,λj u hu=>?_,λj y hy=>?_⟩
     ·rcases hAd with h|h
      ·left;subst h;simp
      ·exact .inr h
     ·rw[cE] at hu
      split at hu
      ·rename_i hj
       rw[List.getElem?_drop] at hu;rw[cell_of_row w (M.st b).2.1 (off+j) cs T (0,0) h6];have hu':cs[off+j]?=some u:=by simpa using hu
       refine⟨hu',?_⟩;have hjx:off+j<xs.length:=by omega
       obtain⟨u2,e2,r2⟩:=h9 (off+j) xs[off+j] (aA hjx);rw[hu'] at e2;cases e2;exact qA r2 (h5 _ (bX hjx))
      ·cases hu
     ·rw[cE] at hy
      split at hy
      ·rename_i hj
       rw[List.getElem?_drop] at hy;obtain⟨u,hu,hr⟩:=h9 (off+j) y hy;exact⟨u,by rw[cE,if_pos hj,List.getElem?_drop];simpa using hu,hr⟩
      ·cases hy
   ·cases he
  ·cases he
 ·cases he
  cases (show RepP fi M w .nils v from hx) with
  |nils=>exact⟨none,0,0,0,[],rfl,cQ _,rfl,.inl rfl,λj u hu=>by simp at hu,λj y hy=>by simp at hy⟩
 ·cases he
theorem Inv.newStk (hI:Inv fi M w s a) {d:Nat} (hd:d<a.tmps.size) {xs:List PV} (hf:∀x∈xs,cx x=true) (us rest:List Value) (hul:us.length=xs.length)
  (hrep:∀(j:Nat) (x:PV),xs[j]?=some x->∃u,us[j]?=some u/\RepP fi M w x u) (c:Nat) (hc:xs.length<=c) (hcap:c<=us.length+rest.length) (T:TypeId) (O:Array Value) (hO:O=(us++rest).toArray) :
  ∃M',Inv fi M' (w.alloc (.cells O T)) ((⟨s.env,s.lh,s.gh++[.stk 0 xs]⟩:St).put d (.stk s.gh.length 0 xs.length)) (a.put (some d) (.slice (some ⟨w.heap.size,0,none⟩) xs.length c))/\Kp M w M' (w.alloc (.cells O T)):=by
 subst hO;have hni:∀k,¬M.imm w.heap.size k:=λk hk=>absurd (hI.immlt _ k hk) (by omega)
 have hnl:w.heap.size∉M.lb++M.gb:=by
  rw[bY];rintro (hk|hk)
  ·exact absurd (jS hI _ hk) (by omega)
  ·exact absurd (hI.gblt _ hk) (by omega)
 let M2:Mem:={M with gb:=M.gb++[w.heap.size],own:=λb=>if b=w.heap.size then some (Loc.gh s.gh.length 0) else M.own b }
 obtain⟨g2,k2⟩:=Good.alloc hI (.cells (us++rest).toArray T) M2 [] [w.heap.size] (by simp[M2]) rfl (by simp) (by simp) (λ_=>False) (by simp[M2]) (λb hb=>by simp[M2,hb]);generalize hW:w.alloc (.cells (us++rest).toArray T)=W at *;have g1:=g2.stk rfl s.gh.length (0,w.heap.size,us.length+rest.length) (λh=>by rw[hI.gbl] at h;omega);have k1:=k2.stk g1;generalize hM1:({M2 with st:=hE M s.gh.length (0,w.heap.size,us.length+rest.length) }:Mem)=M1 at *;have e_lb:M1.lb=M.lb:=by rw[<-hM1]
 have e_gb:M1.gb=M.gb++[w.heap.size]:=by rw[<-hM1]
 have e_st:M1.st s.gh.length=(0,w.heap.size,us.length+rest.length):=by rw[<-hM1];simp[hE]
 have e_own:M1.own w.heap.size=some (Loc.gh s.gh.length 0):=by rw[<-hM1];simp[M2]
 have e_imm:M1.imm=M.imm:=by rw[<-hM1]
 have hsz:W.heap.size=w.heap.size+1:=by rw[<-hW,size_alloc']
 have hI1:Inv fi M1 W ⟨s.env,s.lh,s.gh++[.stk 0 xs]⟩ a:=by
  refine⟨λt u hu=>⟨(hI.env t u hu).1,(hI.env t u hu).2.good g1 (by simp)⟩,hI.defers,by rw[e_lb];exact hI.lbl,by rw[e_gb];simp[hI.gbl],?_,λi cs blk h1 h2=>?_,λi o blk h1 h2=>?_,g1.ext.gl hI.gl,λb k hb=>?_,λb l hb=>?_,λb hb=>?_⟩
  ·rw[e_lb,e_gb,<-aZ];exact nf hI.nodup hnl
  ·rw[e_lb] at h2;exact (hI.lh i cs blk h1 h2).good g1 (by simp) (by simp)
  ·rw[e_gb] at h2
   by_cases hlt:i<s.gh.length
   ·rw[aJ hlt] at h1
    rw[aJ (by rw[hI.gbl];exact hlt)] at h2;exact (hI.gh i o blk h1 h2).good g1 (by simp) (λj h=>by
     rcases h with h|h
     ·exact h
     ·injection h with h3 h4;omega)
   ·have hil:=(aD.1 h1).1
    simp at hil;obtain rfl:i=s.gh.length:=by omega
    simp at h1;subst h1;rw[aR (by rw[hI.gbl];exact cQ _),hI.gbl] at h2;simp at h2;subst h2;refine⟨e_own,by rw[e_st],by rw[e_st];exact e_own,by rw[e_st,e_imm];exact hni,hf,(us++rest).toArray,T,by rw[e_st,<-hW];exact heap_alloc_new w _,by rw[e_st];simp,by simp;omega,λj x hj=>?_⟩;obtain⟨u,hu,hr⟩:=hrep j x hj;refine⟨u,?_,hr.mono g1.ext⟩;simp only[List.getElem?_toArray];rw[aJ (aD.1 hu).1];exact hu
  ·rw[e_imm] at hb;exact aU (hI.immlt b k hb) k1.size
  ·by_cases hbe:b=w.heap.size
   ·subst hbe;omega
   ·have:M.own b=some l:=by rw[<-hM1] at hb;simpa [M2,hbe] using hb
    exact aU (hI.ownlt b l this) k1.size
  ·rw[e_gb,bY,List.mem_singleton] at hb
   rcases hb with hb|rfl
   ·exact aU (hI.gblt b hb) k1.size
   ·omega
 refine⟨M1,hI1.put hd (RepP.repE (.stk _ _ _ _ c ?_ (Nat.zero_le _) (λ_=>?_) hc)).repAt,k1⟩
 ·rw[e_gb];simp[hI.gbl]
 ·rw[e_st];exact⟨rfl,hcap⟩
theorem Inv.setStk (hI:Inv fi M w s a) {b g0:Nat} {ys zs:List PV} (hgh:s.gh[b]?=some (.stk g0 ys)) (hg:Good M w M2 W xl xb) (hst:M2.st=M.st) (hlb:M2.lb=M.lb) (hgb:M2.gb=M.gb) (hxl:∀l,xl l->l=Loc.gh b 0) (hxb:∀k,¬xb k)
  {blk cap:Nat} (hk:Kp M w M2 W) (ho:∀k,M.own k=some (Loc.gh b 0)->M2.own k=some (Loc.gh b 0)) (hown:M2.own blk=some (Loc.gh b 0)) (hown2:∀k l,M2.own k=some l->k<W.heap.size) (himm:∀k,¬M2.imm blk k) (himm2:∀k j,M2.imm k j->k<W.heap.size)
  (hf:∀x∈zs,cx x=true) {cs:Array Value} {T:TypeId} (hh:W.heap[blk]?=some (.cells cs T (0,0))) (hcs:cs.size=cap) (hlen:zs.length<=cs.size)
  (hr:∀(j:Nat) (x:PV),zs[j]?=some x->∃u,cs[j]?=some u/\∀(M':Mem) (w':World),RepP fi M' w' x u) {d n c:Nat} (hd:d<a.tmps.size) (hnc:n<=c) (hcc:c<=cap) :
  ∃M',Inv fi M' W ((⟨s.env,s.lh,s.gh.set b (.stk (g0+1) zs)⟩:St).put d (.stk b (g0+1) n)) (a.put (some d) (.slice (some ⟨blk,0,none⟩) n c))/\Kp M w M' W:=by
 have hbl:b<s.gh.length:=(aD.1 hgh).1;have hbg:b<M.gb.length:=by rw[hI.gbl];exact hbl
 obtain⟨o1,o2,_⟩:RepStk fi M w b M.gb[b] g0 ys:=hI.gh b _ _ hgh (aA hbg);have g1:=hg.stk hst b (g0+1,blk,cap) (λ_=>by rw[o2];exact Nat.lt_succ_self _);have k1:=hk.stk g1;generalize hM1:({M2 with st:=hE M b (g0+1,blk,cap) }:Mem)=M1 at *;have e_lb:M1.lb=M.lb:=by rw[<-hM1];exact hlb
 have e_gb:M1.gb=M.gb:=by rw[<-hM1];exact hgb
 have e_st:M1.st b=(g0+1,blk,cap):=by rw[<-hM1];simp[hE]
 have e_own:M1.own=M2.own:=by rw[<-hM1]
 have e_imm:M1.imm=M2.imm:=by rw[<-hM1]
 have hxg:∀i j,i≠b->¬(xl (Loc.gh i j)\/Loc.gh i j=Loc.gh b 0):=λi j hne h=>by have:Loc.gh i j=Loc.gh b 0:=h.elim (hxl _) id;injection this with h1 h2;exact hne h1
 have hI1:Inv fi M1 W ⟨s.env,s.lh,s.gh.set b (.stk (g0+1) zs)⟩ a:=by
  refine⟨λt u hu=>⟨(hI.env t u hu).1,(hI.env t u hu).2.good g1 (λi h=>?_)⟩,hI.defers,by rw[e_lb];exact hI.lbl,by rw[e_gb];simp[hI.gbl],by rw[e_lb,e_gb];exact hI.nodup,λi cs blk h1 h2=>?_,λi o blk' h1 h2=>?_,g1.ext.gl hI.gl,λk j hb=>?_,λk l hb=>?_,λk hb=>?_⟩
  ·have:Loc.env t i=Loc.gh b 0:=h.elim (hxl _) id
   cases this
  ·rw[e_lb] at h2
   refine (hI.lh i cs blk h1 h2).good g1 (hxb _) (λj h=>?_);have:Loc.lh i j=Loc.gh b 0:=h.elim (hxl _) id;cases this
  ·rw[e_gb] at h2
   simp only at h1;rw[cF] at h1;by_cases hbi:b=i
   ·subst hbi
    rw[if_pos rfl,if_pos hbl] at h1;cases h1;have eb:M.gb[b]=blk':=by rw[aA hbg] at h2;exact cW h2
    rw[eb] at o1;refine⟨by rw[e_own];exact ho _ o1,by rw[e_st],by rw[e_st,e_own];exact hown,by rw[e_st,e_imm];exact himm,hf,cs,T,by rw[e_st];exact hh,by rw[e_st];exact hcs,hlen,λj x hj=>?_⟩;obtain⟨u,hu,hru⟩:=hr j x hj;exact⟨u,hu,hru _ _⟩
   ·rw[if_neg hbi] at h1
    exact (hI.gh i o blk' h1 h2).good g1 (hxb _) (λj=>hxg i j (Ne.symm hbi))
  ·rw[e_imm] at hb;exact himm2 k j hb
  ·rw[e_own] at hb;exact hown2 k l hb
  ·rw[e_gb] at hb;exact aU (hI.gblt k hb) k1.size
 refine⟨M1,hI1.put hd (RepP.repE (.stk b (g0+1) n blk c ?_ ?_ (λ_=>?_) hnc)).repAt,k1⟩
 ·rw[e_gb];exact hbg
 ·rw[e_st];exact cQ _
 ·rw[e_st];exact⟨rfl,hcc⟩
theorem iB (h:RepP fi M w p u) (hf:cx p=true):∀(M':Mem) (w':World),RepP fi M' w' p u:=by intro M' w';cases h<;>first|exact .int _ _|exact .bool _|(simp[cx] at hf)
theorem Good.refl (M:Mem) (w:World):Good M w M w (λ_=>False) (λ_=>False):=
 ⟨Ext.refl M w,cQ _,λ_ _ h=>h,λ_ _ h _=>⟨h,rfl,λ_ h=>h,id,id⟩,λ_ _ _ h=>⟨rfl,λ_ h=>h,h⟩,λ_ _=>rfl⟩
theorem AP (hI:Inv fi M w s a) {t ty e:TypeId} {i:TypeInfo} {zv:Value} {bytes:Nat} (ht:P.underlying t=some (.slice e)) (hi:P.info? e=some i) (hzv:i.zero=some zv)
  (hsz:i.size=1) (hby:i.bytes=bytes) (hzs:zv.cells.size=1) (hb0:0<bytes) {b gen n:Nat} {xs ys:List PV} {xv:PV} {v x:Value} (hv:RepP fi M w (.stk b gen n) v) (hgh:s.gh[b]?=some (.stk gen xs)) (hn:n<=xs.length)
  (hx:RepE fi M w xv x) (hsl:∀z xs,xv≠ .sl true z xs) (he:gC s.gh xv=some ys) (hf:ys.all cx=true) (hap:gY b xv=true) (hbd:(n+ys.length)*bytes<=maxBytes) {d:Nat} (hd:d<a.tmps.size) :
  ∃r M' w',(Builtin.append_ #[t,t] ty #[v,x]).run P w= .ok r w'/\
   Inv fi M' w' ((⟨s.env,s.lh,s.gh.set b (.stk (gen+1) (xs.take n++ys))⟩:St).put d (.stk b (gen+1) (n+ys.length))) (a.put (some d) r)/\Kp M w M' w':=by
 subst hby;obtain⟨A2,c2,b2,o2,us2,rfl,hc2,hul2,hA2,huy,hry⟩:=uo hI hx hsl he hf;cases hv with
 |stk _ _ _ blk c hb hg hA hcn=>
 obtain⟨h1,h2,h3,h4,h5,cs,T,h6,h7,h8,h9⟩:RepStk fi M w b M.gb[b] gen xs:=hI.gh b _ _ hgh (aA hb);obtain⟨rfl,hcc⟩:=hA h2.symm;have hff:∀x∈xs.take n++ys,cx x=true:=λx hx=>by
  rcases bY.1 hx with h|h
  ·exact h5 x (cJ h)
  ·exact bS.1 hf x h
 have htl:(xs.take n).length=n:=by simp;omega
 have hlen:(xs.take n++ys).length=n+ys.length:=by rw[aW,htl]
 by_cases hy:ys=[]
 ·subst hy
  have hrun:=tW (P:=P) (ty:=ty) ht hi (some ⟨(M.st b).2.1,0,none⟩) A2 n c c2 hcn w;obtain⟨M',r1,r2⟩:=hI.setStk hgh (Good.refl M w) rfl rfl rfl (λ_ h=>h.elim) (λ_ h=>h) (Kp.refl M w) (λ_ h=>h) h3 (λk l h=>hI.ownlt k l h) h4 (λk j h=>hI.immlt k j h) hff h6 h7 (by rw[hlen,h7];simp only[bZ];omega) (λj x hj=>by
   rw[bH,cE] at hj;split at hj
   ·obtain⟨u,hu,hr⟩:=h9 j x hj
    exact⟨u,hu,iB hr (h5 x (aP hj))⟩
   ·cases hj) hd (n:=n) hcn hcc
  exact⟨_,M',w,hrun,r1,r2⟩
 have hA2':=hA2.resolve_left hy;subst hA2';have hm0:0<ys.length:=List.length_pos_iff.2 hy;have hneed:(n+ys.length)*i.bytes<=140737488355328:=hbd;have h63:((n+ys.length:Nat):Int)<=9223372036854775807:=by have:(n+ys.length)*1<=(n+ys.length)*i.bytes:=Nat.mul_le_mul_left _ hb0;omega
 have hnews:∀(j:Nat) (u:Value),us2[j]?=some u->w.cell? ((⟨b2,o2,none⟩:Addr).add j)=some u:=λj u hu=>by rw[fN];exact (huy j u hu).1
 have hcell:∀j,w.cell? ⟨(M.st b).2.1,j,none⟩=cs[j]?:=λj=>cell_of_row w _ j cs T (0,0) h6
 by_cases hroom:n+ys.length<=c
 ·have hrun:=tX (P:=P) (ty:=ty) ht hi (M.st b).2.1 0 n c cs h6 ⟨b2,o2,none⟩ ys.length c2 us2 (by rw[hsz,Nat.mul_one];exact hul2) hnews (λu hu=>by
    obtain⟨j,hj,hx⟩:=cH.1 hu;exact (huy j u (by rw[aA hj,hx])).2) hroom (by rw[hsz,hul2,h7];omega)
  rw[hsz,Nat.mul_one,cR] at hrun;generalize hcs2:(cs.toList.take n++us2++cs.toList.drop (n+us2.length))=cs2 at hrun;have hfit:n+us2.length<=cs.toList.length:=by simp;omega
  have hget:∀k,cs2[k]?=if k<n then cs[k]? else if k<n+us2.length then us2[k-n]? else cs[k]?:=λk=>by rw[<-hcs2,gq _ _ _ _ hfit];simp
  have hlen2:cs2.length=cs.size:=by rw[<-hcs2,iS _ _ _ hfit];simp
  have g1:Good M w M (w.setRow (M.st b).2.1 cs2.toArray) (λl=>l=Loc.gh b 0) (λ_=>False):=
   Good.setRow (M:=M) (M':=M) h6 rfl rfl (λ_=>False) (by simp) (λk hk=>absurd hk (h4 k)) (λ_ _=>rfl) _ _ (λl h=>by rw[h3] at h;cases h;rfl) (λh=>by rw[h3] at h;cases h)
  have k1:Kp M w M (w.setRow (M.st b).2.1 cs2.toArray):=Kp.setRow g1 rfl rfl (λ_=>False) (by simp) (λ_ _=>rfl) (.inr (.inr (by rw[h3];simp))) id (λ⟨_,h⟩=>h.elim)
  obtain⟨M',r1,r2⟩:=hI.setStk (d:=d) (n:=n+ys.length) (c:=c) hgh g1 rfl rfl rfl (λ_ h=>h) (λ_ h=>h) k1 (λ_ h=>h) h3 (λk l h=>by rw[size_setRow'];exact hI.ownlt k l h) h4 (λk j h=>by rw[size_setRow'];exact hI.immlt k j h) hff
   (setRow_heap w (M.st b).2.1 _ cs2.toArray T (0,0) h6) (cap:=(M.st b).2.2) (by simp[hlen2,h7]) (by rw[hlen];simp[hlen2,h7];omega) (λj x hj=>by
    simp only[List.getElem?_toArray];rw[hget];by_cases hjn:j<n
    ·rw[aJ (by rw[htl];exact hjn),cE,if_pos hjn] at hj
     rw[if_pos hjn];obtain⟨u,hu,hr⟩:=h9 j x hj;exact⟨u,hu,iB hr (h5 x (aP hj))⟩
    ·rw[aR (by rw[htl];omega),htl] at hj
     have hjl:=(aD.1 hj).1;rw[if_neg hjn,if_pos (by omega)];obtain⟨u,hu,hr⟩:=hry _ x hj;exact⟨u,hu,iB hr (bS.1 hf x (aP hj))⟩) hd hroom hcc
  exact⟨_,M',_,hrun,r1,r2⟩
 ·have hul:(cs.toList.take n).length=n*i.size:=by rw[hsz];simp;omega
  have holds:∀(j:Nat) (u:Value),(cs.toList.take n)[j]?=some u->w.cell? ((⟨(M.st b).2.1,0,none⟩:Addr).add j)=some u:=λj u hu=>by
   rw[fN,cR,hcell];rw[cE] at hu;split at hu
   ·simpa using hu
   ·cases hu
  have hrun:=run_append_grow (P:=P) w t ty e i zv ht hi hzv ⟨(M.st b).2.1,0,none⟩ n c (cs.toList.take n) hul holds ⟨b2,o2,none⟩ ys.length c2 us2 (by rw[hsz,Nat.mul_one];exact hul2) hnews (by omega) h63 (growslice_fits (by omega) hneed);have hge:=grownCap_ge w (n+ys.length) c e;generalize grownCap w (n+ys.length) c e=gc at *;have hae:∀(l:List Value) (x:Array Value),l.toArray++x=(l++x.toList).toArray:=λl x=>by apply Array.ext';simp
  have hzl:∀m,(Builtin.zeroCells zv.cells m).toList.length=m*i.size:=λm=>by rw[Array.length_toList,size_zeroCells,hzs,hsz]
  obtain⟨hI1,k1⟩:=hI.drew;generalize hrest:(Builtin.zeroCells zv.cells (gc-(n+ys.length))).toList=rest at *;have hrl:rest.length=gc-(n+ys.length):=by rw[<-hrest,hzl,hsz,Nat.mul_one]
  have hul':(cs.toList.take n).length=n:=by simp;omega
  let M2:Mem:={M with own:=λk=>if k=w.drew.heap.size then some (Loc.gh b 0) else M.own k }
  have hOl:((cs.toList.take n++us2)++rest).toArray.size=gc:=by simp[hul2,hrl];omega
  have hrun2:(Builtin.append_ #[t,t] ty #[.slice (some ⟨(M.st b).2.1,0,none⟩) n c,.slice (some ⟨b2,o2,none⟩) ys.length c2]).run P w=
    .ok (.slice (some ⟨w.drew.heap.size,0,none⟩) (n+ys.length) gc) (w.drew.alloc (.cells ((cs.toList.take n++us2)++rest).toArray e)):=by
   rw[hrun];have e1:(cs.toList.take n++us2).toArray++Builtin.zeroCells zv.cells (gc-(n+ys.length))=((cs.toList.take n++us2)++rest).toArray:=by rw[<-hrest,hae]
   rw[<-e1];simp
  generalize hO:((cs.toList.take n++us2)++rest).toArray=O at *;obtain⟨g2,k2⟩:=Good.alloc hI1 (.cells O e) M2 [] [] (by simp[M2]) (by simp[M2]) (by simp) (by simp) (λ_=>False) (by simp[M2]) (λk hk=>if_neg hk);have hsz2:(w.drew.alloc (.cells O e)).heap.size=w.drew.heap.size+1:=size_alloc' _ _;have hni:∀k,¬M.imm w.drew.heap.size k:=λk hk=>absurd (hI1.immlt _ k hk) (by omega)
  obtain⟨M',r1,r2⟩:=hI1.setStk (d:=d) (n:=n+ys.length) (c:=gc) (blk:=w.drew.heap.size) (cap:=gc) hgh g2 rfl rfl rfl (λ_ h=>h.elim) (λ_ h=>h) k2 (λk h=>by
    have:=hI1.ownlt k _ h;simp only[M2];rw[if_neg (by omega)];exact h) (by simp[M2]) (λk l h=>by
    simp only[M2] at h;split at h
    ·rename_i hk;omega
    ·have:=hI1.ownlt k l h;omega) hni (λk j h=>by have:=hI1.immlt k j h;omega) hff (heap_alloc_new w.drew _) hOl (by rw[hlen,hOl];omega) (λj x hj=>by
    rw[<-hO];simp only[List.getElem?_toArray];by_cases hjn:j<n
    ·rw[aJ (by rw[htl];exact hjn),cE,if_pos hjn] at hj
     have hjl:=(aD.1 hj).1;obtain⟨u,hu,hr⟩:=h9 j x hj;refine⟨u,?_,iB hr (h5 x (aP hj))⟩;rw[aJ (by simp;omega),aJ (by omega),cE,if_pos hjn];simpa using hu
    ·rw[aR (by rw[htl];omega),htl] at hj
     have hjl:=(aD.1 hj).1;obtain⟨u,hu,hr⟩:=hry _ x hj;refine⟨u,?_,iB hr (bS.1 hf x (aP hj))⟩;rw[aJ (by rw[aW];omega),aR (by omega),hul'];exact hu) hd hge (cQ _)
  exact⟨_,M',_,hrun2,r1,k1.trans r2⟩
theorem AQ {d bytes:Nat} {sx:IX} (hI:Inv fi M w s a) (hm:mOp P fi (.append d 1 bytes sx x) o.op=true) (hd:o.dst=some d) (hlt:d<a.tmps.size) (h:ae cf s (.appendK d bytes sx x)=some s'):Sim P fi o M w s' a:=by
 obtain⟨dst,op,ty,pos,aft,gd⟩:=o;cases op with
 | call c=>
  obtain⟨callee,args,argTypes⟩:=c;cases callee with
  | builtin b=>
   cases b<;>simp[mOp] at hm;split at hm
   ·rename_i y y' t t' ha ht
    simp only[aY,cX,aH] at hm;obtain⟨⟨⟨⟨hs,hx⟩,rfl⟩,hb0⟩,hm⟩:=hm;have ha':args= #[y,y']:=by apply Array.ext';simpa using ha
    have ht':argTypes= #[t,t]:=by apply Array.ext';simpa using ht
    subst ha';subst ht';split at hm<;>try (cases hm;done)
    rename_i e hu;split at hm<;>try (cases hm;done)
    rename_i i hi;simp only[aY,cX] at hm;obtain⟨⟨hsz,hby⟩,hm⟩:=hm;split at hm<;>try (cases hm;done)
    rename_i zv hzv;simp at hm;simp only[ae,aC] at h;obtain⟨xv,hxv,ys,hys,h⟩:=h;have hxr:=cj hI hx hxv;have hsl:∀z xs,xv≠ .sl true z xs:=λz xs e=>by
     subst e;cases x with
     |t n=>simp only[ah,aE] at hxv;obtain⟨q,_,hq⟩:=hxv;cases q<;>simp[degr] at hq
     |c q=>simp only[ah,bU] at hxv;cases q<;>simp[degr] at hxv
     |f id=>simp[ah] at hxv
    split at h
    ·rename_i b gen n hsv
     split at h
     ·rename_i g xs hgh
      split at h
      ·rename_i hc
       obtain⟨rfl,hn,hbd,hap,hf⟩:=hc;cases h;obtain⟨r,M2,w2,h1,h2,k2⟩:=AP (P:=P) (ty:=ty) hI hu hi hzv hsz hby hm hb0 (cj hI hs hsv) hgh hn hxr hsl hys hf hap hbd hlt;refine⟨.value r,r,M2,w2,?_,.inl rfl,by rw[show dst=some d from hd];exact h2,k2⟩;simp[execOp,resolve,jp,builtin,h1]
      ·cases h
     ·cases h
    ·cases h
   ·cases hm
  |_=>simp[mOp] at hm
 |_=>simp[mOp] at hm
theorem AR {d:Nat} {els:List IX} (hI:Inv fi M w s a) (hm:mOp P fi (.buildSl d 1 els) o.op=true) (hd:o.dst=some d) (hlt:d<a.tmps.size) (h:ae cf s (.buildSlK d els)=some s'):Sim P fi o M w s' a:=by
 obtain⟨z,hz1⟩:∃z,z=1:=⟨1,rfl⟩
 rw[<-hz1] at hm;obtain⟨dst,op,ty,pos,aft,gd⟩:=o;cases op<;>simp only[mOp,bP] at hm;rename_i t len parts;simp only[aY,cX,aH] at hm;obtain⟨⟨⟨⟨⟨⟨he,hz0⟩,hlen⟩,hbd⟩,hidx⟩,hmx⟩,hzs⟩:=hm;obtain⟨e,ht,hsz⟩:=nk he;rw[ht] at hzs;simp only[Option.isSome_iff_exists,aC] at hzs;obtain⟨zv,i,hi,hzv⟩:=hzs;simp only[ae,aC] at h;obtain⟨vs,hvs,h⟩:=h;split at h
 ·rename_i hc
  have hflat:=hc;have hcell:∀v∈vs,v.cells=[v]:=λv hv=>by have:=bS.1 hflat v hv;cases v<;>first|rfl|(simp[cx] at this)
  have hc:∀v∈vs,ar v=true/\v.cells.length=z:=λv hv=>by have h1:=hcell v hv;have h2:=bS.1 hflat v hv;refine⟨?_,by rw[h1,hz1];rfl⟩;unfold ar;rw[h1];cases v<;>first|rfl|(simp[cx] at h2)
  cases h;obtain⟨h1,h2⟩:=iy hI hmx hvs;have hvl:vs.length=len:=by rw[<-h1,bC,<-bC (f:=Prod.fst) (as:=parts.toList),hidx,List.length_range']
  generalize hrest:((Array.range (len*z)).map ((if len*z=0 then #[] else zv.cells)[· %(if len*z=0 then (#[]:Array Value) else zv.cells).size]!)).toList=rest;have hrl:rest.length=vs.length*z:=by rw[<-hrest];simp[hvl]
  obtain⟨us,f1,f2,f3⟩:=ud (fi:=fi) (M:=M) (w:=w) (z:=z) vs 0 (parts.toList.map (fZ a)) [] rest (by simp) hrl hc (by
   rw[List.map_map,hvl,<-hidx];rfl) (λi p y hp hy=>by
   simp only[aB,aE] at hy;obtain⟨q,hq,rfl⟩:=hy;have:=h2 i p q.2 hp (by simp[hq]);exact this.repP (by simpa [ar] using (hc p (aP hp)).1))
  simp only[bI] at f1;obtain⟨M1,hI1,k1⟩:=hI.newStk hlt (λx hx=>bS.1 hflat x hx) us [] (by rw[f2,hz1,Nat.mul_one]) (λj x hj=>by obtain⟨u,hu,hr⟩:=f3 j x 0 x hj (by rw[hcell x (aP hj)];rfl);exact⟨u,by rw[hz1] at hu;simpa using hu,hr⟩) vs.length (cQ _) (by rw[f2,hz1];simp) e us.toArray (by simp);refine⟨_,.slice (some ⟨w.heap.size,0,none⟩) vs.length vs.length,M1,_,?_,.inl rfl,by rw[show dst=some d from hd];exact hI1,k1⟩;have e1:(parts.map λ(x:Nat×Operand)=>match x with|(i,x)=>(i,a.eval x))=parts.map (fZ a):=rfl;have hbd':¬(len*z>2^24):=by omega
  have f1':Instr.fill (λi=>some (i*z,z)) ((Array.range (len*z)).map ((if len*z=0 then #[] else zv.cells)[· %(if len*z=0 then (#[]:Array Value) else zv.cells).size]!)) (parts.map (fZ a)).toList=some us.toArray:=by rw[<-f1,<-hrest,Array.toArray_toList];congr 1;simp
  have hrun:(Instr.buildSlice t len (parts.map (fZ a))).run P w= .ok (.slice (some ⟨w.heap.size,0,none⟩) len len) (w.alloc (.cells us.toArray e)):=by
   have hzv':(zeroValue e).run P w= .ok zv w:=by simp[zeroValue,typeInfo,hi,hzv]
   by_cases h0:len*z=0
   ·simp only[if_pos h0] at f1'
    simp only[Instr.buildSlice,Sem.run_bind,run_underlying ht,run_sizeOf' hsz,Result.andThen_ok,if_neg hbd',if_pos h0,Sem.run_pure,f1'];simp[newRow]
   ·simp only[if_neg h0] at f1'
    simp only[Instr.buildSlice,Sem.run_bind,run_underlying ht,run_sizeOf' hsz,Result.andThen_ok,if_neg hbd',if_neg h0,hzv',Sem.run_pure,f1'];simp[newRow]
  simp only[execOp,e1,Sem.run_bind,hrun,hvl];rfl
 ·cases h
theorem Inv.restk (hI:Inv fi M w s a) {b gen:Nat} {xs zs:List PV} (hgh:s.gh[b]?=some (.stk gen xs)) {cs cs2:Array Value} {T:TypeId} (hh:w.heap[(M.st b).2.1]?=some (.cells cs T (0,0))) (hsz:cs2.size=cs.size)
  (hlen:zs.length<=cs2.size) (hf:∀x∈zs,cx x=true) (hr:∀(j:Nat) (x:PV),zs[j]?=some x->∃u,cs2[j]?=some u/\∀(M':Mem) (w':World),RepP fi M' w' x u) :
  Inv fi M (w.setRow (M.st b).2.1 cs2) ⟨s.env,s.lh,s.gh.set b (.stk gen zs)⟩ a/\Kp M w M (w.setRow (M.st b).2.1 cs2):=by
 have hbl:b<s.gh.length:=(aD.1 hgh).1;have hbg:b<M.gb.length:=by rw[hI.gbl];exact hbl
 obtain⟨o1,o2,o3,o4,o5,cs0,T0,o6,o7,o8,o9⟩:RepStk fi M w b M.gb[b] gen xs:=hI.gh b _ _ hgh (aA hbg);rw[hh] at o6;cases o6
 have g1:Good M w M (w.setRow (M.st b).2.1 cs2) (λl=>l=Loc.gh b 0) (λ_=>False):=
  Good.setRow (M:=M) (M':=M) hh rfl rfl (λ_=>False) (by simp) (λk hk=>absurd hk (o4 k)) (λ_ _=>rfl) _ _ (λl h=>by rw[o3] at h;cases h;rfl) (λh=>by rw[o3] at h;cases h)
 have k1:Kp M w M (w.setRow (M.st b).2.1 cs2):=Kp.setRow g1 rfl rfl (λ_=>False) (by simp) (λ_ _=>rfl) (.inr (.inr (by rw[o3];simp))) id (λ⟨_,h⟩=>h.elim)
 refine⟨⟨λt u hu=>⟨(hI.env t u hu).1,(hI.env t u hu).2.good g1 (λi h=>by cases h)⟩,hI.defers,hI.lbl,by simpa using hI.gbl,hI.nodup,λi cs blk h1 h2=>(hI.lh i cs blk h1 h2).good g1 id (λj h=>by cases h),λi o blk' h1 h2=>?_,
  g1.ext.gl hI.gl,λk j h=>by rw[size_setRow'];exact hI.immlt k j h,λk l h=>by rw[size_setRow'];exact hI.ownlt k l h,λk h=>by rw[size_setRow'];exact hI.gblt k h⟩,k1⟩
 simp only at h1;rw[cF] at h1;by_cases hbi:b=i
 ·subst hbi
  rw[if_pos rfl,if_pos hbl] at h1;cases h1;have eb:M.gb[b]=blk':=by rw[aA hbg] at h2;exact cW h2
  refine⟨by rw[<-eb];exact o1,o2,o3,o4,hf,cs2,T,setRow_heap w (M.st b).2.1 _ cs2 T (0,0) hh,by rw[hsz];exact o7,hlen,λj x hj=>?_⟩;obtain⟨u,hu,hru⟩:=hr j x hj;exact⟨u,hu,hru _ _⟩
 ·rw[if_neg hbi] at h1
  exact (hI.gh i o blk' h1 h2).good g1 id (λj h=>by injection h with h1 h2;exact hbi h1.symm)
theorem AS {y:IX} (hI:Inv fi M w s a) (hm:mOp P fi (.store false 1 y x) o.op=true) (hd:o.dst=none) (h:ae cf s (.storeK y x)=some s'):Sim P fi o M w s' a:=by
 obtain⟨dst,op,ty,pos,aft,gd⟩:=o;cases op<;>simp[mOp] at hm;rename_i t y' x';simp only[ae] at h;split at h
 ·rename_i b gen i v hp hv
  split at h
  ·rename_i g xs hgh
   split at h
   ·rename_i hc
    obtain⟨rfl,hi,hfl⟩:=hc;cases h;have hp':=cj hI hm.1.1 hp;have hv':=cj hI hm.1.2 hv;generalize hu:a.eval y'=u at hp';cases (show RepP fi M w (.pstk b g i) u from hp') with
    |pstk _ _ _ blk hb hgn hA=>
    obtain⟨o1,o2,o3,o4,o5,cs,T,o6,o7,o8,o9⟩:RepStk fi M w b M.gb[b] g xs:=hI.gh b _ _ hgh (aA hb);have hblk:=hA o2.symm;subst hblk;have hrv:RepP fi M w v (a.eval x'):=hv'.repP (by cases v<;>first|rfl|(simp[cx] at hfl));have hst:=run_storeCells_at P (M.st b).2.1 i T [a.eval x'] 0 cs w o6 (by simp;omega) (by simpa using qA hrv hfl);simp only[cA] at hst;generalize hcs2:(cs.toList.take i++[a.eval x']++cs.toList.drop (i+[a.eval x'].length)).toArray=cs2 at hst;have hfit:i+[a.eval x'].length<=cs.toList.length:=by simp;omega
    have hget:∀k,cs2[k]?=if k<i then cs[k]? else if k<i+1 then [a.eval x'][k-i]? else cs[k]?:=λk=>by rw[<-hcs2];simp only[List.getElem?_toArray];rw[gq _ _ _ _ hfit];simp
    have hsz2:cs2.size=cs.size:=by rw[<-hcs2];simp only[List.size_toArray];rw[iS _ _ _ hfit];simp
    obtain⟨r1,r2⟩:=hI.restk (zs:=xs.set i v) hgh o6 hsz2 (by simp;omega) (λz hz=>by
     rcases List.mem_or_eq_of_mem_set hz with h|h
     ·exact o5 z h
     ·rw[h];exact hfl) (λj z hj=>by
     rw[cF] at hj;rw[hget];by_cases hji:i=j
     ·subst hji
      rw[if_pos rfl,if_pos hi] at hj;cases hj;rw[if_neg (by omega),if_pos (by omega)];exact⟨_,by simp,iB hrv hfl⟩
     ·rw[if_neg hji] at hj
      obtain⟨u,hu,hr⟩:=o9 j z hj;refine⟨u,?_,iB hr (o5 z (aP hj))⟩;by_cases hlt:j<i
      ·rw[if_pos hlt];exact hu
      ·rw[if_neg hlt,if_neg (by omega)];exact hu)
    refine⟨_,undef,M,_,?_,.inr ⟨rfl,rfl⟩,by rw[show dst=none from hd];exact r1,r2⟩;have hcell:(a.eval x').cells= #[a.eval x']:=by have:=hrv;generalize a.eval x'=u at this;cases this<;>first|rfl|(simp[cx] at hfl)
    have hrun:(Instr.storeAt t (.pointer (some ⟨(M.st b).2.1,i,none⟩)) (a.eval x')).run P w= .ok () (w.setRow (M.st b).2.1 cs2):=by
     have hst':(storeCells ⟨(M.st b).2.1,i,none⟩ (a.eval x').cells.toList).run P w= .ok () (w.setRow (M.st b).2.1 cs2):=by rw[hcell];exact hst
     simp[Instr.storeAt,Instr.sureAddr,storeVar,run_sizeOf' hm.2,hcell,hst]
    simp[execOp,hu,hrun]
   ·cases h
  ·cases h
 ·cases h
theorem AT (hI:Inv fi M w s a) (hm:mOp P fi (.clearK x) o.op=true) (hd:o.dst=none) (h:ae cf s (.clearK x)=some s'):Sim P fi o M w s' a:=by
 obtain⟨dst,op,ty,pos,aft,gd⟩:=o;cases op with
 | call c =>
  obtain⟨callee,args,argTypes⟩:=c;cases callee with
  | builtin bi=>
   cases bi<;>simp[mOp] at hm;split at hm
   ·rename_i y t ha ht
    have ha':args= #[y]:=by apply Array.ext';simpa using ha
    have ht':argTypes= #[t]:=by apply Array.ext';simpa using ht
    subst ha';subst ht';simp only[aY] at hm;obtain⟨hx,hm⟩:=hm;split at hm<;>try (cases hm;done)
    rename_i e hu;split at hm<;>try (cases hm;done)
    rename_i zn hzv;have hz0:zn=0:=by simpa using hm
    subst hz0;simp only[ae] at h;split at h
    ·rename_i b gen off n hp
     split at h
     ·rename_i g xs hgh
      split at h
      ·rename_i hc
       obtain⟨rfl,hn⟩:=hc;cases h;have hx':=cj hI hx hp;generalize hv:a.eval y=v at hx';cases (show RepP fi M w (.sub b g off n) v from hx') with
       |sub _ _ _ _ blk c A hb hgn hA hcn hAd=>
       obtain⟨o1,o2,o3,o4,o5,cs,T,o6,o7,o8,o9⟩:RepStk fi M w b M.gb[b] g xs:=hI.gh b _ _ hgh (aA hb);obtain⟨hblk,hcc⟩:=hA o2.symm;subst hblk;rcases Nat.eq_zero_or_pos n with h0|h0
       ·subst h0
        have hset:s.gh.set b (.stk g (xs.take off++List.replicate 0 (PV.int .i64 0)++xs.drop (off+0)))=s.gh:=by
         simp only[List.replicate_zero,bH,cA,List.take_append_drop];apply List.ext_getElem?;intro j;rw[cF];by_cases hj:b=j
         ·subst hj
          rw[if_pos rfl,if_pos (aD.1 hgh).1,hgh]
         ·rw[if_neg hj]
        rw[hset];refine⟨.value (.tuple #[]),.tuple #[],M,w,?_,.inl rfl,by rw[show dst=none from hd];exact hI,Kp.refl M w⟩;cases A<;>simp[execOp,resolve,jp,builtin,hv,Builtin.clear_,run_underlying hu]
       have hzr:∀w,(zeroValue e).run P w= .ok (.int .i64 0) w:=λw=>by simp only[aC] at hzv;obtain⟨i,hi,hz⟩:=hzv;simp[zeroValue,typeInfo,hi,hz]
       have hst:=run_storeCells_at P (M.st b).2.1 off T (List.replicate n (.int .i64 0)) 0 cs w o6 (by simp;omega) (by intro u hu';rw[List.eq_of_mem_replicate hu'];rfl);simp only[cA] at hst;generalize hcs2:(cs.toList.take off++List.replicate n (Value.int .i64 0)++cs.toList.drop (off+(List.replicate n (Value.int .i64 0)).length)).toArray=cs2 at hst;have hfit:off+(List.replicate n (Value.int .i64 0)).length<=cs.toList.length:=by simp;omega
       have hget:∀k,cs2[k]?=if k<off then cs[k]? else if k<off+n then (List.replicate n (Value.int .i64 0))[k-off]? else cs[k]?:=λk=>by rw[<-hcs2];simp only[List.getElem?_toArray];rw[gq _ _ _ _ hfit];simp
       have hsz2:cs2.size=cs.size:=by rw[<-hcs2];simp only[List.size_toArray];rw[iS _ _ _ hfit];simp
       have hzl:(xs.take off++List.replicate n (PV.int .i64 0)++xs.drop (off+n)).length=xs.length:=by simp;omega
       have hzg:∀j,(xs.take off++List.replicate n (PV.int .i64 0)++xs.drop (off+n))[j]?=if j<off then xs[j]? else if j<off+n then (List.replicate n (PV.int .i64 0))[j-off]? else xs[j]?:=λj=>by have:=gq xs (List.replicate n (PV.int .i64 0)) off j (by simp;omega);simpa using this
       obtain⟨r1,r2⟩:=hI.restk (zs:=xs.take off++List.replicate n (PV.int .i64 0)++xs.drop (off+n)) hgh o6 hsz2 (by rw[hzl,hsz2];exact o8) (λz hz=>by
        simp only[bY] at hz;rcases hz with (hz|hz)|hz
        ·exact o5 z (cJ hz)
        ·rw[List.eq_of_mem_replicate hz];rfl
        ·exact o5 z (List.mem_of_mem_drop hz)) (λj z hj=>by
        rw[hzg] at hj;rw[hget];by_cases h1:j<off
        ·rw[if_pos h1] at hj ⊢
         obtain⟨u,hu',hr⟩:=o9 j z hj;exact⟨u,hu',iB hr (o5 z (aP hj))⟩
        ·rw[if_neg h1] at hj ⊢
         by_cases h2:j<off+n
         ·rw[if_pos h2] at hj ⊢
          rw[List.getElem?_replicate,if_pos (by omega)] at hj ⊢;cases hj;exact⟨_,rfl,λ_ _=> .int _ _⟩
         ·rw[if_neg h2] at hj ⊢
          obtain⟨u,hu',hr⟩:=o9 j z hj;exact⟨u,hu',iB hr (o5 z (aP hj))⟩)
       have hzc:(Builtin.zeroCells #[Value.int .i64 0] n).toList=List.replicate n (Value.int .i64 0):=by
        simp[Builtin.zeroCells];apply List.ext_getElem
        ·simp
        ·intro i h1 h2
         simp[Nat.mod_one]
       refine⟨.value (.tuple #[]),.tuple #[],M,_,?_,.inl rfl,by rw[show dst=none from hd];exact r1,r2⟩;have hA':=hAd.resolve_left (by omega);subst hA';obtain⟨m,rfl⟩:∃m,n=m+1:=⟨n-1,by omega⟩
       simp[execOp,resolve,jp,builtin,hv,Builtin.clear_,run_underlying hu,hzr,hzc,hst,Value.cells]
      ·cases h
     ·cases h
    ·cases h
   ·cases hm
  |_=>simp[mOp] at hm
 |_=>simp[mOp] at hm
theorem AU {d:Nat} (hI:Inv fi M w s a) (hm:mOp P fi (.load d false 1 x) o.op=true) (hd:o.dst=some d) (hlt:d<a.tmps.size) (h:ae cf s (.loadK d x)=some s'):Sim P fi o M w s' a:=by
 obtain⟨dst,op,ty,pos,aft,gd⟩:=o;cases op<;>simp[mOp] at hm;rename_i t y;simp only[ae] at h;split at h
 ·rename_i b gen i hp
  simp only[aE] at h;obtain⟨v,hg,rfl⟩:=h;obtain⟨r,h1,h2⟩:=Aj (P:=P) hI hm.1.2 (cj hI hm.1.1 hp) hg;exact Sim.pure hI hd hlt (by simp[execOp,h1]) h2.repE.repAt
 ·cases h
end
end
section
open Go.RowKit
section
variable {fi:FI} {M M':Mem} {w w':World} {P:Program} {s s':St} {a:Act} {cf:CallF}
def Mem.noLb (M:Mem):Mem:={M with lb:=[] }
theorem Ext.noLb (M:Mem) (w:World):Ext M w M.noLb w:=⟨λ_ _ h=>h,λ_ _ h=>h,λ_ _ _=>rfl,λ_ _=>⟨cQ _,λ_=>rfl⟩⟩
theorem OwnRep.noLb {l:Loc} {z:Nat} {xs:List PV} {v:Value} (h:OwnRep fi M w l z xs v):OwnRep fi M.noLb w l z xs v:=by
  obtain⟨h1,h2⟩:=h;refine⟨h1.mono (Ext.noLb M w),?_⟩;rcases h2 with h2|⟨b,o,c,cs,e,hv,ho,hh,hs,hk,hb1,hb2⟩
  · exact .inl h2
  · exact .inr ⟨b,o,c,cs,e,hv,ho,hh,hs,hk,by simp[Mem.noLb],hb2⟩
theorem RepC.noLb {l:Loc} {p:PV} {v:Value} (h:RepC fi M w l p v):RepC fi M.noLb w l p v:=by
  unfold RepC at *;split at h
  · exact OwnRep.noLb h
  · exact h.mono (Ext.noLb M w)
theorem RepObj.noLb {i blk:Nat} {o:GObj} (h:RepObj fi M w i blk o):RepObj fi M.noLb w i blk o:=by
  cases o with
  | cells cs=>
    obtain⟨h1,h2,h3,h4,vs,T,h5,h6,h7⟩:=h;exact⟨h1,h2,h3,h4,vs,T,h5,h6,λi c u hc hu=>(h7 i c u hc hu).noLb⟩
  | map es=>
    obtain⟨h1,h2,l,clock,h3,h4,h5⟩:=h;exact⟨h1,h2,l,clock,h3,h4,λi e m he hm=>⟨(h5 i e m he hm).1.mono (Ext.noLb M w),(h5 i e m he hm).2.1.mono (Ext.noLb M w),(h5 i e m he hm).2.2⟩⟩
  | stk gen xs=>
    obtain⟨h1,h2,h3,h4,h5,cs,T,h6,h7,h8,h9⟩:=h;exact⟨h1,h2,h3,h4,h5,cs,T,h6,h7,h8,λj x hj=>by obtain⟨u,hu,hr⟩:=h9 j x hj;exact⟨u,hu,hr.mono (Ext.noLb M w)⟩⟩
  | bld s=>
    obtain⟨h1,h2,h3,T,hT,h4⟩:=h;refine⟨h1,h2,h3,T,hT,?_⟩;rcases h4 with h4|⟨c,cap,cur,h5,h6,h7,h8⟩
    · exact .inl h4
    · exact .inr ⟨c,cap,cur,h5,h6,by simp[Mem.noLb],h8⟩
theorem qC {p:PV} (h:ai p=true) (h1:∀cs,p≠ .tup cs):ar p=true:=by
  cases p with
  |tup cs=>exact absurd rfl (h1 cs)
  |_=>exact h
theorem RepAt.noLb {mk:Nat->Loc} {p:PV} {v:Value} (h:RepAt fi M w mk p v) (hok:ai p=true):RepAt fi M.noLb w mk p v:=by
  unfold RepAt at *;split at h
  · exact OwnRep.noLb h
  · cases hok
  · obtain⟨vs,h1,h2,h3⟩:=h
    exact⟨vs,h1,h2,λi c u hc hu=>(h3 i c u hc hu).noLb⟩
  · obtain⟨vs,h1,h2,h3⟩:=h
    exact⟨vs,h1,h2,λi c u hc hu=>(h3 i c u hc hu).noLb⟩
  · rename_i h3
    exact ((h.repP (qC hok (λcs=>h3 cs))).mono (Ext.noLb M w)).repE
theorem qD (hI:Inv fi M w s a) {b:Nat} (hb:b∈M.gb):M.own b=none\/∃i j,M.own b=some (Loc.gh i j):=by
  obtain⟨i,hi,rfl⟩:=cH.1 hb;have h2:i<s.gh.length:=by rw[<-hI.gbl];exact hi
  have:=hI.gh i _ _ (aA h2) (aA hi);cases ho:s.gh[i] with
  |cells cs=>rw[ho] at this;exact .inl this.2.2.1
  |map es=>rw[ho] at this;exact .inl this.2.1
  |stk gen xs=>rw[ho] at this;exact .inr ⟨_,_,this.1⟩
  |bld s=>rw[ho] at this;exact .inl this.2.2.1
theorem qE (hI:Inv fi M w s a) {b:Nat} (hb:b∈M.lb):M.own b=none:=by
  obtain⟨i,hi,rfl⟩:=cH.1 hb;have h2:i<s.lh.length:=by rw[<-hI.lbl];exact hi
  exact (hI.lh i _ _ (aA h2) (aA hi)).2.2.1
def GI (fi:FI) (M:Mem) (w:World) (gh:List GObj):Prop:=Inv fi M w ⟨[],[],gh⟩ ⟨#[],[]⟩
def eh (g:Bool):Loc->Bool
  | .gh _ _=> !g
  |_=>true
def Mem.callee (M:Mem) (g:Bool):Mem:={lb:=[],gb:=if g then M.gb else [],imm:=M.imm,own:=λb=>(M.own b).bind λl=>if eh g l then none else some l,st:=M.st }
def qF (g:Bool) (mk:Nat->Loc):Loc->Option Loc
  | .gh i j=>if g then some (.gh i j) else none
  | .res i=>some (mk i)
  |_=>none
def Mem.back (M M':Mem) (g:Bool) (mk:Nat->Loc):Mem:=
  { lb:=M.lb,gb:=if g then M'.gb else M.gb,imm:=M'.imm,
    own:=λb=>match M.own b with
      |some l=>if eh g l then some l else (M'.own b).bind (qF g mk)
      |none=>(M'.own b).bind (qF g mk),
    st:=if g then M'.st else M.st }
theorem callee_own {g:Bool} {b:Nat} {l:Loc}:(M.callee g).own b=some l↔M.own b=some l/\eh g l=false:=by
  simp only[Mem.callee,aC];constructor
  · rintro⟨l',h1,h2⟩
    cases hp:eh g l'<;>simp[hp] at h2;subst h2;exact⟨h1,hp⟩
  · rintro⟨h1,h2⟩
    exact⟨l,h1,by simp[h2]⟩
theorem callee_own_none {g:Bool} {b:Nat}:(M.callee g).own b=none↔(∀l,M.own b=some l->eh g l=true):=by
  cases ho:(M.callee g).own b with
  | none=>
    simp only[true_iff];intro l hl;cases hp:eh g l with
    |true=>rfl
    |false=>rw[callee_own.2 ⟨hl,hp⟩] at ho;cases ho
  | some l=>
    obtain⟨h1,h2⟩:=callee_own.1 ho;constructor
    · intro h;cases h
    · intro h;rw[h l h1] at h2;cases h2
theorem AW {g:Bool} {l:Loc} (h:eh g l=false):∃i j,l= .gh i j:=by cases l<;>simp[eh] at h;exact⟨_,_,rfl⟩
theorem Inv.callee (hI:Inv fi M w s a) (g:Bool):GI fi (M.callee g) w (if g then s.gh else [])/\(M.callee g).lb=[]/\∀b l,(M.callee g).own b=some l->∃i j,l= .gh i j:=by
  refine⟨⟨λt v h=>by simp[get] at h,rfl,rfl,?_,?_,λi cs blk h=>by simp at h,λi o blk h1 h2=>?_,hI.gl,hI.immlt,λb l h=>hI.ownlt b l (callee_own.1 h).1,λb hb=>?_⟩,rfl,λb l h=>AW (callee_own.1 h).2⟩
  · cases g
    · rfl
    · exact hI.gbl
  · cases g
    · simp[Mem.callee]
    · have:=hI.nodup
      rw[cM] at this;simpa [Mem.callee] using this.2.1
  · cases g with
    |false=>simp at h1
    | true=>
      have h3:=(hI.gh i o blk h1 h2).noLb
      have G:Good M.noLb w (M.callee true) w (λl=>eh true l=true) (λ_=>False):=
        ⟨⟨λ_ _ h=>h,λ_ _ h=>h,λ_ _ _=>rfl,λ_ _=>⟨cQ _,λ_=>rfl⟩⟩,cQ _,λi k h=>by simp[Mem.noLb] at h,
          λb l h hl=>⟨callee_own.2 ⟨h,by simpa using hl⟩,rfl,λ_ h=>h,λh=>h,λh=>h⟩,
          λb _ _ h=>⟨rfl,λ_ h=>h,callee_own_none.2 λl hl=>by rw[show M.own b=none from h] at hl;cases hl⟩,λ_ _=>rfl⟩
      exact h3.good G (by simp) (by simp[eh])
  · cases g with
    |false=>simp[Mem.callee] at hb
    |true=>exact hI.gblt b hb
theorem Inv.back (hI:Inv fi M w s a) (g:Bool) {gh':List GObj} (mk:Nat->Loc) (hmk:∀i,eh g (mk i)=true) (hG:GI fi M' w' gh') (hlb:M'.lb=[])
    (hk:Kp (M.callee g) w M' w') {r:PV} {v:Value} (hr:RepAt fi M' w' Loc.res r v) (hg:g=false->r.noG=true) (hok:ai r=true) :
    Inv fi (M.back M' g mk) w' ⟨s.env,s.lh,if g then gh' else s.gh⟩ a/\Kp M w (M.back M' g mk) w'/\RepAt fi (M.back M' g mk) w' mk r v:=by
  have bown:∀b l,M.own b=some l->eh g l=true->(M.back M' g mk).own b=some l:=λb l h hp=>by simp[Mem.back,h,hp]
  have bown2:∀b,(∀l,M.own b=some l->eh g l=false)->(M.back M' g mk).own b=(M'.own b).bind (qF g mk):=λb h=>by
    cases ho:M.own b with
    |none=>simp[Mem.back,ho]
    |some l=>simp[Mem.back,ho,h l ho]
  -- what is the caller's own, the callee leaves
  have pv:∀b l,M.own b=some l->eh g l=true->M'.own b=none/\w'.heap[b]?=w.heap[b]?/\∀k,M'.imm b k->M.imm b k:=λb l h hp=>by
    have hc:(M.callee g).own b=none:=callee_own_none.2 λl' hl'=>by rw[h] at hl';cases hl';exact hp
    have hlt:=hI.ownlt b l h;refine⟨hk.ownn b hlt hc,hk.block b hlt (by simp[Mem.callee]) (λhb=>?_) hc,λk hi=>?_⟩
    · cases g with
      |false=>simp[Mem.callee] at hb
      | true=>
        rcases qD hI hb with this|⟨i,j,this⟩<;>rw[h] at this<;>cases this
        simp[eh] at hp
    · rcases hk.immn b k hi with h1|h1|h1
      · exact h1
      · omega
      · exact absurd hc h1
  have no:∀b,b<w.heap.size->¬(g=true/\b∈M.gb)->M.own b=none->w'.heap[b]?=w.heap[b]?/\(∀k,M'.imm b k->M.imm b k)/\M'.own b=none:=λb hlt hx h=>by
    have hc:(M.callee g).own b=none:=callee_own_none.2 λl' hl'=>by rw[h] at hl';cases hl'
    refine⟨hk.block b hlt (by simp[Mem.callee]) (λhb=>?_) hc,λk hi=>?_,hk.ownn b hlt hc⟩
    · cases g with
      |false=>simp[Mem.callee] at hb
      |true=>exact hx ⟨rfl,hb⟩
    · rcases hk.immn b k hi with h1|h1|h1
      · exact h1
      · omega
      · exact absurd hc h1
  have gbx:∀b,b∈M'.gb->b∈M.gb\/w.heap.size<=b\/(M.callee g).own b≠none:=λb hb=>by
    rcases hk.gbn b hb with h1|h1
    · cases g with
      |false=>simp[Mem.callee] at h1
      |true=>exact .inl h1
    · exact .inr h1
  have lbg:∀b,b∈M.lb->b∉M.gb:=λb h1 h2=>by have:=hI.nodup;rw[cM] at this;exact this.2.2 b h1 b h2 rfl
  have gbb:∀b,b∈(M.back M' g mk).gb->b∈M.gb\/w.heap.size<=b\/(M.callee g).own b≠none:=λb hb=>by
    cases g with
    |false=>exact .inl hb
    |true=>exact gbx b hb
  have hext:Ext M w (M.back M' g mk) w':=⟨λi k h=>by
      cases g with
      |false=>exact h
      |true=>exact hk.ext.gb i k h,hk.ext.imm,hk.ext.cell,λb hb=>by
      cases g with
      |false=>exact⟨cQ _,λ_=>rfl⟩
      |true=>exact hk.ext.st b hb⟩
  have G:Good M w (M.back M' g mk) w' (λl=>eh g l=false) (λb=>g=true/\b∈M.gb):=
    ⟨hext,hk.size,λ_ _ h=>h,
      λb l h hl=>by
        have hp:eh g l=true:=by simpa using hl
        obtain⟨p1,p2,p3⟩:=pv b l h hp;refine⟨bown b l h hp,p2,λk h1 h2=>h1 (p3 k h2),λh=>h,λh1 h2=>?_⟩;rcases gbb b h2 with h3|h3|h3
        · exact h1 h3
        · have:=hI.ownlt b l h;omega
        · exact h3 (callee_own_none.2 λl' hl'=>by rw[h] at hl';cases hl';exact hp),
      λb hlt hx h=>by obtain⟨n1,n2,n3⟩:=no b hlt hx h;refine⟨n1,λk h1 h2=>h1 (n2 k h2),?_⟩;rw[bown2 b (λl hl=>by rw[h] at hl;cases hl),n3];rfl,
      λi hi=>by
        cases g with
        |false=>rfl
        |true=>exact absurd (show eh true (Loc.gh i 0)=false from rfl) hi⟩
  -- the callee's boxes
  have G2 :Good M' w' (M.back M' g mk) w' (λl=>¬∃i j,l= .gh i j/\g=true) (λb=>∃l,M.own b=some l/\eh g l=true)\/g=false:=by
    cases hgb:g with
    |false=>exact .inr rfl
    | true=>
      subst hgb;refine .inl ⟨⟨λ_ _ h=>h,λ_ _ h=>h,λ_ _ _=>rfl,λ_ _=>⟨cQ _,λ_=>rfl⟩⟩,cQ _,λi k h=>by rw[hlb] at h;simp at h,λb l h hl=>?_,λb hlt hx h=>?_,λ_ _=>rfl⟩
      · obtain⟨i,j,rfl,_⟩:=Classical.not_not.1 hl
        have np:∀l,M.own b=some l->eh true l=false:=λl hl=>by
          cases hp:eh true l with
          |false=>rfl
          |true=>rw[(pv b l hl hp).1] at h;cases h
        refine⟨by rw[bown2 b np,h];rfl,rfl,λ_ h=>h,λ_ h2=>?_,λh=>h⟩;have h3:=qE hI h2;have h4:=(no b (jS hI b h2) (λhx=>lbg b h2 hx.2) h3).2.2;rw[h4] at h;cases h
      · refine⟨rfl,λ_ h=>h,?_⟩
        rw[bown2 b (λl hl=>by
          cases hp:eh true l with
          |false=>rfl
          |true=>exact absurd ⟨l,hl,hp⟩ hx),h];rfl
  refine⟨⟨λt u hu=>⟨(hI.env t u hu).1,(hI.env t u hu).2.good G (λi=>by simp[eh])⟩,hI.defers,hI.lbl,?_,?_,λi cs blk h1 h2=>(hI.lh i cs blk h1 h2).good G (λhx=>lbg blk (aP h2) hx.2) (λi=>by simp[eh]),
    λi o blk h1 h2=>?_,hG.gl,hG.immlt,λb l h=>?_,λb hb=>?_⟩,⟨hk.os,hk.tape,hk.output,hk.size,hext,λk hlt h1 h2 h3=>(no k hlt (λhx=>h2 hx.2) h3).1,λk h=> .inl h,λb hb=>(gbb b hb).imp_right λh=>h.imp_right λh h2=>h (callee_own_none.2 λl' hl'=>by rw[h2] at hl';cases hl'),λk hlt h=>?_,λb k h=>?_⟩,?_⟩
  · cases g with
    |false=>exact hI.gbl
    |true=>exact hG.gbl
  · cases g with
    |false=>exact hI.nodup
    | true=>
      have h1:=hI.nodup;have h2:=hG.nodup;rw[cM] at h1 ⊢;rw[hlb,bI] at h2;refine⟨h1.1,h2,λx hx y hy hxy=>?_⟩;subst hxy;rcases gbx x hy with h3|h3|h3
      · exact lbg x hx h3
      · have:=jS hI x hx;omega
      · exact h3 (callee_own_none.2 λl' hl'=>by rw[qE hI hx] at hl';cases hl')
  · cases g with
    |false=>exact (hI.gh i o blk h1 h2).good G (by simp) (λj=>by simp[eh])
    | true=>
      have h3:=hG.gh i o blk h1 h2;refine h3.good (G2.resolve_right (by simp)) ?_ (λj h=>h ⟨i,j,rfl,rfl⟩);rintro⟨l,h4,h5⟩;rcases gbx blk (aP h2) with h6|h6|h6
      · rcases qD hI h6 with this|⟨i',j',this⟩<;>rw[h4] at this<;>cases this
        simp[eh] at h5
      · have:=hI.ownlt blk l h4;omega
      · exact h6 (callee_own_none.2 λl' hl'=>by rw[h4] at hl';cases hl';exact h5)
  · cases ho:M.own b with
    |some l'=>exact aU (hI.ownlt b l' ho) hk.size
    | none=>
      rw[bown2 b (λl hl=>by rw[ho] at hl;cases hl),aC] at h;obtain⟨l',h1,_⟩:=h;exact hG.ownlt b l' h1
  · cases g with
    |false=>exact aU (hI.gblt b hb) hk.size
    |true=>exact hG.gblt b hb
  · by_cases hx:g=true/\k∈M.gb
    · obtain⟨rfl,hx⟩:=hx
      have hc:(M.callee true).own k=none:=callee_own_none.2 λl' hl'=>by rw[h] at hl';cases hl'
      rw[bown2 k (λl hl=>by rw[h] at hl;cases hl),hk.ownn k hlt hc];rfl
    · rw[bown2 k (λl hl=>by rw[h] at hl;cases hl),(no k hlt hx h).2.2];rfl
  · rcases hk.immn b k h with h1|h1|h1
    · exact .inl h1
    · exact .inr (.inl h1)
    · refine .inr (.inr λh2=>h1 (callee_own_none.2 λl hl=>by rw[h2] at hl;cases hl))
  · -- the result
    have ow : ∀{i:Nat} {z:Nat} {xs:List PV} {u:Value},OwnRep fi M' w' (.res i) z xs u->(g=false->dL xs=true)->OwnRep fi (M.back M' g mk) w' (mk i) z xs u:=by
      intro i z xs u h hng;obtain⟨h1,h2⟩:=h;have e1:RepP fi (M.back M' g mk) w' (.sl false z xs) u:=by
        cases hgb:g with
        |true=>subst hgb;exact h1.mono (show Ext M' w' (M.back M' true mk) w' from⟨λ_ _ h=>h,λ_ _ h=>h,λ_ _ _=>rfl,λ_ _=>⟨cQ _,λ_=>rfl⟩⟩)
        | false=>
          subst hgb;exact (h1.noG M.gb M.st (by simpa [PV.noG] using hng rfl)).mono (show Ext {M' with gb:=M.gb,st:=M.st } w' (M.back M' false mk) w' from⟨λ_ _ h=>h,λ_ _ h=>h,λ_ _ _=>rfl,λ_ _=>⟨cQ _,λ_=>rfl⟩⟩)
      refine⟨e1,?_⟩;rcases h2 with h2|⟨b,o,c,cs,e,hv,ho,hh,hs,hk',hb1,hb2⟩
      · exact .inl h2
      · have np:∀l,M.own b=some l->eh g l=false:=λl hl=>by
          cases hp:eh g l with
          |false=>rfl
          |true=>rw[(pv b l hl hp).1] at ho;cases ho
        refine .inr ⟨b,o,c,cs,e,hv,by rw[bown2 b np,ho];rfl,hh,hs,hk',λh2=>?_,λh2=>?_⟩
        · have h3:=qE hI h2
          have h4:=(no b (jS hI b h2) (λhx=>lbg b h2 hx.2) h3).2.2;rw[h4] at ho;cases ho
        · cases hgb:g with
          |true=>subst hgb;exact hb2 h2
          | false=>
            subst hgb;rcases qD hI (b:=b) h2 with h3|⟨i',j',h3⟩
            · have h4:=(no b (hI.gblt b h2) (by simp) h3).2.2
              rw[h4] at ho;cases ho
            · rw[(pv b _ h3 rfl).1] at ho;cases ho
    have rp:∀{p:PV} {u:Value},RepP fi M' w' p u->(g=false->p.noG=true)->RepP fi (M.back M' g mk) w' p u:=by
      intro p u h hng;cases hgb:g with
      |true=>subst hgb;exact h.mono (show Ext M' w' (M.back M' true mk) w' from⟨λ_ _ h=>h,λ_ _ h=>h,λ_ _ _=>rfl,λ_ _=>⟨cQ _,λ_=>rfl⟩⟩)
      | false=>
        subst hgb;exact (h.noG M.gb M.st (hng rfl)).mono (show Ext {M' with gb:=M.gb,st:=M.st } w' (M.back M' false mk) w' from⟨λ_ _ h=>h,λ_ _ h=>h,λ_ _ _=>rfl,λ_ _=>⟨cQ _,λ_=>rfl⟩⟩)
    have rc:∀{i:Nat} {p:PV} {u:Value},RepC fi M' w' (.res i) p u->(g=false->p.noG=true)->RepC fi (M.back M' g mk) w' (mk i) p u:=by
      intro i p u h hng;unfold RepC at *;split at h
      · exact ow h (λe=>by simpa [PV.noG] using hng e)
      · exact rp h hng
    unfold RepAt at hr ⊢;split at hr
    · exact ow hr (λe=>by simpa [PV.noG] using hg e)
    · cases hok
    · obtain⟨vs,h1,h2,h3⟩:=hr
      exact⟨vs,h1,h2,λi c u hc hu=>rc (h3 i c u hc hu) (λe=>gZ (by simpa [PV.noG] using hg e) hc)⟩
    · obtain⟨vs,h1,h2,h3⟩:=hr
      exact⟨vs,h1,h2,λi c u hc hu=>rc (h3 i c u hc hu) (λe=>gZ (by simpa [PV.noG] using hg e) hc)⟩
    · rename_i h3
      exact (rp (hr.repP (qC hok (λcs=>h3 cs))) hg).repE
end
end
section
open Go.RowKit
section
variable {fi:FI} {M M':Mem} {w w':World} {P:Program} {s s':St} {a:Act} {cf:CallF}
theorem qG {z:PV} (h:cx z=true):z.cells=[z]/\z.one=true/\ar z=true:=by cases z<;>simp[cx] at h<;>exact⟨rfl,rfl,rfl⟩
theorem AX {o:Oper} {d bytes:Nat} {sx x:IX} (hI:Inv fi M w s a) (hm:mOp P fi (.append d 1 bytes sx x) o.op=true) (hd:o.dst=some d) (hlt:d<a.tmps.size) (h:ae cf s (.appendE d bytes sx x)=some s'):Sim P fi o M w s' a:=by
 obtain⟨dst,op,ty,pos,aft,gd⟩:=o;cases op with
 | call c=>
  obtain⟨callee,args,argTypes⟩:=c;cases callee with
  | builtin b=>
   cases b<;>simp[mOp] at hm;split at hm
   ·rename_i y y' t t' ha ht
    simp only[aY,cX,aH] at hm;obtain⟨⟨⟨⟨hs,hx⟩,rfl⟩,hb0⟩,hm⟩:=hm;have ha':args= #[y,y']:=by apply Array.ext';simpa using ha
    have ht':argTypes= #[t,t]:=by apply Array.ext';simpa using ht
    subst ha';subst ht';split at hm<;>try (cases hm;done)
    rename_i e hu;split at hm<;>try (cases hm;done)
    rename_i i hi;simp only[aY,cX] at hm;obtain⟨⟨hsz,hby⟩,hm⟩:=hm;split at hm<;>try (cases hm;done)
    rename_i zv hzv;simp at hm;simp only[ae,aC] at h;obtain⟨xv,hxv,ys,hys,⟨v,e'⟩,hv,h⟩:=h;cases v with
    | sl o1 z1 xs=>
     simp only at h;split at h
     ·rename_i hc
      obtain⟨rfl,rfl,hfl,hbd⟩:=hc;cases h;have hxr:=cj hI hx hxv;have hno:∀z xs,xv≠ .sl true z xs:=λz xs he=>by
       subst he;cases x with
       |t n=>simp only[ah,aE] at hxv;obtain⟨q,_,hq⟩:=hxv;cases q<;>simp[degr] at hq
       |c q=>simp only[ah,bU] at hxv;cases q<;>simp[degr] at hxv
       |f id=>simp[ah] at hxv
      obtain⟨A2,c2,b2,o2,us2,hav,hc2,hul2,hA2,huy,hry⟩:=uo hI hxr hno hys hfl;obtain⟨M1,hI1,k1,hr,_,hgb,himm⟩:=lD hI hs hv;have hfl':∀y∈ys,cx y=true:=by simpa using hfl
      obtain⟨r,M2,w2,h1,h2,k2⟩:=tY (P:=P) (ty:=ty) (ys:=ys) hI1 hu hi hzv (by rw[hsz];exact hm) (by omega) (by omega) (by rw[hsz];exact hr) hc2 (by rw[hsz,Nat.mul_one];exact hul2) hA2
       (λy hy=>by rw[(qG (hfl' y hy)).1,hsz];rfl) (λy hy=>(qG (hfl' y hy)).2.2) (λj u hu=>⟨trivial,huy j u hu⟩)
       (λk y j p hy hp=>by
        rw[(qG (hfl' y (aP hy))).1] at hp;have hj:j=0:=by
         cases j with
         |zero=>rfl
         |succ j=>simp at hp
        subst hj;simp at hp;subst hp;obtain⟨u,e1,e2⟩:=hry k y hy;exact⟨u,by rw[hsz,Nat.mul_one,cA];exact e1,e2.mono k1.ext⟩) (by rw[hby];exact hbd) hlt
      rw[hsz] at h2;refine⟨.value r,r,M2,w2,?_,.inl rfl,by rw[show dst=some d from hd];exact h2,k1.trans k2⟩;simp[execOp,resolve,jp,builtin,hav,h1]
     ·cases h
    |_=>cases h
   ·cases hm
  |_=>simp[mOp] at hm
 |_=>simp[mOp] at hm
end
end
def pgL:List (Option tK):=[
 none,
 none,
 some (.code qg),
 some (.code q7z),
 none,
 none,
 some (.code qhx),
 some (.code q82),
 none,
 none,
 some (.code q27),
 some (.code q87),
 some (.code q28),
 none,
 none,
 none,
 none,
 none,
 none,
 none,
 none,
 none,
 some (.code qh),
 some (.code qr),
 none,
 none,
 some (.code qt),
 some (.code q8a),
 some (.code q8b),
 none,
 some (.code q1x),
 none,
 none,
 none,
 none,
 none,
 some (.code qu),
 none,
 some (.code qf),
 some (.code q8k),
 none,
 none,
 none,
 none,
 none,
 none,
 none,
 some (.code qhz),
 some (.code q6t),
 some (.code q1v),
 some (.code q2j),
 some (.code q2k),
 none,
 none,
 none,
 none,
 none,
 none,
 none,
 none,
 none,
 some (.code q9h),
 some (.code q2t),
 some (.code qi),
 some (.code q9i),
 some (.code q2w),
 some (.code q9j),
 some (.code q8p),
 some (.code q2l),
 some (.code q2m),
 none,
 none,
 some (.code q8q),
 some (.code q8t),
 some (.code q8w),
 some (.code qi3),
 some (.code q7a),
 some (.code q7b),
 some (.code q7d),
 some (.code q1a),
 some (.code qp),
 some (.code qq),
 none,
 some (.lib (gf 1 8)),
 none,
 some (.code qi1),
 some (.code q6z),
 some (.lib (gf 2 16)),
 some (.code q6u),
 none,
 none,
 none,
 none,
 none,
 none,
 none,
 some (.code q9k),
 some (.code q8x),
 none,
 none,
 none,
 some (.code q7m),
 some (.code q8y),
 some (.code q25),
 some (.code q7o),
 some (.code q7r),
 some (.code q7s),
 some (.code q74),
 some (.code q7t),
 some (.code q7u),
 none,
 some (.code q1z),
 none,
 none,
 some (.code q2x),
 some (.code q2y),
 none,
 none,
 some (.code q26),
 some (.lib (ju 1 8)),
 none,
 some (.lib (jt 8)),
 none,
 none,
 none,
 some (.code q90),
 none,
 none,
 none,
 none,
 none,
 none,
 some (.code q92),
 some (.code q94),
 none,
 none,
 none,
 some (.code q2s),
 none,
 some (.code q6p),
 none,
 none,
 none,
 some (.code q6q),
 none,
 none,
 none,
 none,
 none,
 none,
 none,
 none,
 none,
 none,
 none,
 none,
 none,
 none,
 none,
 none,
 none,
 none,
 none,
 none,
 none,
 none,
 none,
 none,
 none,
 none,
 none,
 none,
 none,
 none,
 none,
 none,
 none,
 none,
 none,
 none,
 none,
 none,
 none,
 none,
 none,
 none,
 none,
 none,
 none,
 none,
 none,
 none,
 none,
 none,
 none,
 none,
 none,
 none,
 none,
 none,
 none,
 none,
 none,
 none,
 none,
 none,
 none,
 none,
 some (.code qia),
 none,
 none,
 some (.code qi5),
 some (.code qhq),
 some (.code q99),
 some (.code q1p),
 some (.code qhs),
 none,
 some (.code q5t),
 some (.code q5w),
 some (.code q5x),
 some (.code q5y),
 some (.code q5z),
 some (.code q61),
 some (.code q62),
 some (.code q63),
 some (.code q65),
 some (.code q67),
 some (.code q6a),
 some (.code q6b),
 some (.code q6d),
 some (.code q6e),
 some (.code q6f),
 some (.code q6g),
 some (.code q6h),
 some (.code q6i),
 some (.code q6k),
 some (.code q6l),
 some (.code q6m),
 some (.code q6n),
 none,
 none,
 none,
 none,
 none,
 none,
 none,
 none,
 none,
 none,
 none,
 none,
 none,
 none,
 none,
 none,
 none,
 none,
 none,
 none,
 none,
 none,
 none,
 none,
 none,
 none,
 none,
 none,
 none,
 none,
 none,
 none,
 none,
 none,
 none,
 none,
 none,
 none,
 none,
 none,
 none,
 none,
 none,
 none,
 none,
 none,
 none,
 none,
 none,
 none,
 none,
 none,
 none,
 none,
 none,
 none,
 none,
 none,
 none,
 none,
 none,
 none,
 none,
 none,
 none,
 none,
 none,
 none,
 none,
 none,
 none,
 none,
 none,
 none,
 none,
 none,
 none,
 none,
 none,
 none,
 none,
 none,
 none,
 none,
 none,
 none,
 some (.code q1y),
 some (.code q9b),
 some (.code q9e),
 none,
 none,
 none,
 none,
 none,
 none,
 none,
 none,
 none,
 none,
 none,
 none,
 none,
 none,
 none,
 some (.code qig),
 some (.code qio),
 none,
 none,
 none,
 none,
 none,
 none,
 none,
 none,
 none,
 none,
 none,
 none,
 none,
 none,
 none,
 none,
 none,
 none,
 none,
 none,
 none,
 none,
 none,
 none,
 none,
 none,
 none,
 none,
 none,
 none,
 none,
 none,
 none,
 none,
 none,
 none,
 none,
 none,
 none,
 none,
 none,
 none,
 none,
 none,
 none,
 none,
 none,
 some (.code q6o)]
def pg:Prg:=λf=>(pgL[f]?).bind id
theorem MB:maxBytes=140737488355328:=rfl
def aj (x:Int×Int):PV:= .agg [I x.1,I x.2]
def fq (ins:Int) (ands:List (Int×Int)):PV:= .agg [I ins,.sl false 2 (ands.map aj)]
theorem a9 {n:Int} (h1: -9223372036854775808<=n) (h2:n<=9223372036854775807):WI.wrap n=n:=by simp only[IntKind.wrap,IntKind.bits,IntKind.signed];simp;omega
abbrev LI (xs:List Int):PV:= .sl false 1 (xs.map I)
abbrev Sz (n:Nat):Prop:=n<=140737488355328
theorem gg {n:Nat} (h:Sz n):WI.wrap ((n:Int)+1)=(n:Int)+1:=a9 (by omega) (by simp only[Sz] at h;omega)
section
variable {kd:IntKind} {z b o n f:Nat} {g:Bool} {l:List PV}
@[simp] theorem one_int (x : Int) : PV.one (.int kd x) = true := rfl
@[simp] theorem one_bool (x : Bool) : PV.one (.bool x) = true := rfl
@[simp] theorem one_str (x : ByteArray) : PV.one (.str x) = true := rfl
@[simp] theorem one_sl : PV.one (.sl g z l) = true := rfl
@[simp] theorem one_bs : PV.one (.bs true b o n z) = true := rfl
@[simp] theorem one_ptr : PV.one (.ptr true b o) = true := rfl
@[simp] theorem one_nilp : PV.one .nilp = true := rfl
@[simp] theorem one_ep (e : PV) : PV.one (.ep e o) = true := rfl
@[simp] theorem one_mp : PV.one (.mp b) = true := rfl
@[simp] theorem one_nilm : PV.one .nilm = true := rfl
@[simp] theorem one_nilf : PV.one .nilf = true := rfl
@[simp] theorem one_nils : PV.one .nils = true := rfl
@[simp] theorem one_sub (b g o n : Nat) : PV.one (.sub b g o n) = true := rfl
@[simp] theorem one_stk (b g n : Nat) : PV.one (.stk b g n) = true := rfl
@[simp] theorem one_fn : PV.one (.fn f l) = true := rfl
@[simp] theorem one_bfn : PV.one (.bfn f l) = true := rfl
@[simp] theorem one_nilI : PV.one .nilI = true := rfl
@[simp] theorem one_someI : PV.one .someI = true := rfl
@[simp] theorem frz_int (G : List GObj) (x : Int) : frz n G (.int kd x) = .int kd x := rfl
@[simp] theorem frzR_int (G : List GObj) (x : Int) : du n G (.int kd x) = .int kd x := rfl
@[simp] theorem frz_bool (G : List GObj) (x : Bool) : frz n G (.bool x) = .bool x := rfl
@[simp] theorem frzR_bool (G : List GObj) (x : Bool) : du n G (.bool x) = .bool x := rfl
@[simp] theorem frz_str (G : List GObj) (x : ByteArray) : frz n G (.str x) = .str x := rfl
@[simp] theorem frzR_str (G : List GObj) (x : ByteArray) : du n G (.str x) = .str x := rfl
@[simp] theorem frz_sl (G : List GObj)  : frz n G (.sl g z l) = .sl g z l := rfl
@[simp] theorem frzR_sl (G : List GObj)  : du n G (.sl g z l) = .sl g z l := rfl
@[simp] theorem frz_agg (G : List GObj)  : frz n G (.agg l) = .agg l := rfl
@[simp] theorem frzR_agg (G : List GObj)  : du n G (.agg l) = .agg l := rfl
@[simp] theorem frz_ptr (G : List GObj)  : frz n G (.ptr g b o) = .ptr g b o := rfl
@[simp] theorem frzR_ptr (G : List GObj)  : du n G (.ptr g b o) = .ptr g b o := rfl
@[simp] theorem frz_nilp (G : List GObj)  : frz n G (.nilp) = .nilp := rfl
@[simp] theorem frzR_nilp (G : List GObj)  : du n G (.nilp) = .nilp := rfl
@[simp] theorem frz_ep (G : List GObj) (e : PV) : frz n G (.ep e o) = .ep e o := rfl
@[simp] theorem frzR_ep (G : List GObj) (e : PV) : du n G (.ep e o) = .ep e o := rfl
@[simp] theorem frz_mp (G : List GObj)  : frz n G (.mp b) = .mp b := rfl
@[simp] theorem frzR_mp (G : List GObj)  : du n G (.mp b) = .mp b := rfl
@[simp] theorem frz_nilm (G : List GObj)  : frz n G (.nilm) = .nilm := rfl
@[simp] theorem frzR_nilm (G : List GObj)  : du n G (.nilm) = .nilm := rfl
@[simp] theorem frz_nilf (G : List GObj)  : frz n G (.nilf) = .nilf := rfl
@[simp] theorem frzR_nilf (G : List GObj)  : du n G (.nilf) = .nilf := rfl
@[simp] theorem frz_nils (G : List GObj)  : frz n G (.nils) = .nils := rfl
@[simp] theorem frzR_nils (G : List GObj)  : du n G (.nils) = .nils := rfl
@[simp] theorem frzR_stk (G : List GObj) (b g i : Nat) : du n G (.stk b g i) = frz n G (.stk b g i) := rfl
theorem D8 {n b g k:Nat} {gh:List GObj} {xs:List PV} (h:gh[b]?=some (.stk g xs)) (h1:n<=b) (h2:k<=xs.length):frz n gh (.stk b g k)= .sl false 1 (xs.take k):=by simp[frz,h,h1,h2]
@[simp] theorem frz_fn (G : List GObj)  : frz n G (.fn f l) = .fn f l := rfl
@[simp] theorem frz_bfn (G : List GObj)  : frz n G (.bfn f l) = .bfn f l := rfl
@[simp] theorem frzR_fn (G : List GObj)  : du n G (.fn f l) = .fn f l := rfl
@[simp] theorem frzR_bfn (G : List GObj)  : du n G (.bfn f l) = .bfn f l := rfl
@[simp] theorem frz_nilI (G : List GObj)  : frz n G (.nilI) = .nilI := rfl
@[simp] theorem frzR_nilI (G : List GObj)  : du n G (.nilI) = .nilI := rfl
@[simp] theorem frz_someI (G : List GObj)  : frz n G (.someI) = .someI := rfl
@[simp] theorem frzR_someI (G : List GObj)  : du n G (.someI) = .someI := rfl
@[simp] theorem frzR_tup (G : List GObj) : du n G (.tup l) = .tup (l.map (frz n G)) := rfl
@[simp] theorem frzR_bs (G : List GObj) (i : Nat) : du n G (.bs g b o i z) = frz n G (.bs g b o i z) := rfl
theorem vH {n b off k:Nat} {gh:List GObj} {cs:List PV} (h:gh[b]?=some (.cells cs)) (h1:n<=b) (h2:off+k<=cs.length):frz n gh (.bs true b off k 1)= .sl false 1 (((cs.drop off).take k).map aa):=by simp[frz,h,h1,h2]
@[simp] theorem aok_int (x : Int) : ar (.int kd x) = true := rfl
@[simp] theorem aok_bool (x : Bool) : ar (.bool x) = true := rfl
@[simp] theorem aok_str (x : ByteArray) : ar (.str x) = true := rfl
@[simp] theorem aok_sl : ar (.sl g z l) = true := rfl
@[simp] theorem aok_bs : ar (.bs true b o n z) = true := rfl
@[simp] theorem aok_ptr : ar (.ptr true b o) = true := rfl
@[simp] theorem aok_nilp : ar .nilp = true := rfl
@[simp] theorem aok_ep (e : PV) : ar (.ep e o) = true := rfl
@[simp] theorem aok_mp : ar (.mp b) = true := rfl
@[simp] theorem aok_nilm : ar .nilm = true := rfl
@[simp] theorem aok_nilf : ar .nilf = true := rfl
@[simp] theorem aok_nils : ar .nils = true := rfl
@[simp] theorem aok_sub (b g o n : Nat) : ar (.sub b g o n) = true := rfl
@[simp] theorem aok_stk (b g n : Nat) : ar (.stk b g n) = true := rfl
@[simp] theorem aok_fn : ar (.fn f l) = true := rfl
@[simp] theorem aok_bfn : ar (.bfn f l) = true := rfl
@[simp] theorem aok_nilI : ar .nilI = true := rfl
@[simp] theorem aok_someI : ar .someI = true := rfl
@[simp] theorem aok_agg : ar (.agg l) = l.all PV.one := rfl
@[simp] theorem noG_int (x : Int) : PV.noG (.int kd x) = true := rfl
@[simp] theorem noG_bool (x : Bool) : PV.noG (.bool x) = true := rfl
@[simp] theorem noG_str (x : ByteArray) : PV.noG (.str x) = true := rfl
@[simp] theorem noG_sl : PV.noG (.sl g z l) = dL l := rfl
@[simp] theorem noG_agg : PV.noG (.agg l) = dL l := rfl
@[simp] theorem noG_tup : PV.noG (.tup l) = dL l := rfl
@[simp] theorem noGs_nil : dL [] = true := rfl
@[simp] theorem D9 (x : PV) : dL (x :: l) = (x.noG && dL l) := rfl
end
section
variable {nl z b o n f:Nat} {g:Bool} {l:List PV} {kd:IntKind}
@[simp] theorem stays_int (x : Int) : co nl (.int kd x) = true := rfl
@[simp] theorem stays_bool (x : Bool) : co nl (.bool x) = true := rfl
@[simp] theorem stays_str (x : ByteArray) : co nl (.str x) = true := rfl
@[simp] theorem stays_sl : co nl (.sl g z l) = true := rfl
@[simp] theorem stays_agg : co nl (.agg l) = true := rfl
@[simp] theorem stays_bst : co nl (.bs true b o n z) = true := rfl
@[simp] theorem stays_sub (b g o n : Nat) : co nl (.sub b g o n) = true := rfl
@[simp] theorem stays_stk (b g n : Nat) : co nl (.stk b g n) = true := rfl
@[simp] theorem stays_ptrt : co nl (.ptr true b o) = true := rfl
@[simp] theorem stays_ptrf : co nl (.ptr false b o) = decide (b < nl) := rfl
@[simp] theorem stays_nilp : co nl .nilp = true := rfl
@[simp] theorem stays_mp : co nl (.mp b) = true := rfl
@[simp] theorem stays_fn : co nl (.fn f l) = true := rfl
@[simp] theorem stays_bfn : co nl (.bfn f l) = true := rfl
end
@[simp] theorem vI (a b : Int) : (a == b) = decide (a = b) := by by_cases h:a=b<;>simp[h]
@[simp] theorem bneI (a b : Int) : (a != b) = !decide (a = b) := by by_cases h:a=b<;>simp[bne,h]
section
variable {R:Type} {a b c d e f:PV}
@[simp] theorem unT_1 (k : PV -> Option R) : unT (R := R) 1 (.tup [a]) k = k a := rfl
@[simp] theorem unT_2 (k : PV -> PV -> Option R) : unT (R := R) 2 (.tup [a, b]) k = k a b := rfl
@[simp] theorem unT_3 (k : PV -> PV -> PV -> Option R) : unT (R := R) 3 (.tup [a, b, c]) k = k a b c := rfl
@[simp] theorem unT_4 (k : PV -> PV -> PV -> PV -> Option R) : unT (R := R) 4 (.tup [a, b, c, d]) k = k a b c d := rfl
@[simp] theorem unT_5 (k : PV -> PV -> PV -> PV -> PV -> Option R) : unT (R := R) 5 (.tup [a, b, c, d, e]) k = k a b c d e := rfl
@[simp] theorem unT_6 (k : PV -> PV -> PV -> PV -> PV -> PV -> Option R) : unT (R := R) 6 (.tup [a, b, c, d, e, f]) k = k a b c d e f := rfl
@[simp] theorem unA_1 (k : PV -> Option R) : unA (R := R) 1 (.agg [a]) k = k a := rfl
@[simp] theorem unA_2 (k : PV -> PV -> Option R) : unA (R := R) 2 (.agg [a, b]) k = k a b := rfl
@[simp] theorem unA_3 (k : PV -> PV -> PV -> Option R) : unA (R := R) 3 (.agg [a, b, c]) k = k a b c := rfl
@[simp] theorem unA_4 (k : PV -> PV -> PV -> PV -> Option R) : unA (R := R) 4 (.agg [a, b, c, d]) k = k a b c d := rfl
@[simp] theorem unA_5 (k : PV -> PV -> PV -> PV -> PV -> Option R) : unA (R := R) 5 (.agg [a, b, c, d, e]) k = k a b c d e := rfl
@[simp] theorem jz (k : PV -> PV -> PV -> PV -> PV -> PV -> Option R) : unA (R := R) 6 (.agg [a, b, c, d, e, f]) k = k a b c d e f := rfl
end
def ay (l:List (Int×Int)):List (PV×PV):=l.map λx=>(I x.1,I x.2)
def fI:List (Int×Int)->Int->Int->List (Int×Int)
 |[],k,v=>[(k,v)]
 |(a,u)::l,k,v=>if k=a then (k,v)::l else (a,u)::fI l k v
def fS:List (Int×Int)->Int->Option Int
 |[],_=>none
 |(a,u)::l,k=>if k=a then some u else fS l k
@[simp] theorem isKey_int (kn : Nat) (x : Int) (kd : IntKind) : eC kn (.int kd x) = (kn == 0) := rfl
@[simp] theorem isKey_agg (kn : Nat) (l : List PV) : eC kn (.agg l) = (kn != 0 && l.length == kn) := rfl
@[simp] theorem rG (l : List (Int × Int)) (k v : Int) : eZ 0 (ay l) (I k) (I v) = some (ay (fI l k v)) := by
 induction l with
 |nil=>rfl
 | cons x l ih=>
  obtain⟨a,u⟩:=x;by_cases h:k=a
  ·simp[ay,fI,eZ,eo,h]
  ·have:eZ 0 (l.map λx=>(I x.1,I x.2)) (I k) (I v)=some (ay (fI l k v)):=ih
   simp[ay,fI,eZ,eo,bA h,h,this]
@[simp] theorem vJ (l : List (Int × Int)) (k : Int) : fu 0 (ay l) (I k) = some ((fS l k).map I) := by
 induction l with
 |nil=>rfl
 |cons x l ih=>
  obtain⟨a,u⟩:=x;have:fu 0 (l.map λx=>(I x.1,I x.2)) (I k)=some ((fS l k).map I):=ih;by_cases h:k=a
  ·simp[ay,fS,fu,eo,h]
  ·simp[ay,fS,fu,eo,bA h,h,this]
theorem rH {R:Type} (gh:List GObj) (l:List (Int×Int)) (k v:Int) (f:List GObj->Option R) :
  muX (gh++[.map (ay l)]) 0 (.mp gh.length) (I k) (I v) f=f (gh++[.map (ay (fI l k v))]):=by
 simp[rG,eC]
section
variable {A w b:Nat}
theorem Ec (x:Int):WI.wrap x=(x+9223372036854775808)%18446744073709551616-9223372036854775808:=by simp only[IntKind.wrap,IntKind.bits,IntKind.signed];simp;omega
theorem i7 (h:A<18446744073709551616):(BitVec.ofInt 64 (A:Int)).toNat=A:=by rw[BitVec.toNat_ofInt];omega
theorem nN {B:Nat} (ha:A<65536) (hb:B<65536):fG .i64 A B=((A &&&B:Nat):Int):=by
 have:A &&&B<65536:=Nat.and_lt_two_pow (n:=16) A hb;unfold fG;rw[BitVec.toNat_and]
 show WI.wrap (((BitVec.ofInt 64 (A:Int)).toNat &&&(BitVec.ofInt 64 (B:Int)).toNat:Nat):Int)=_
 rw[i7 (by omega),i7 (by omega)];exact a9 (by omega) (by omega)
theorem rI {B:Nat} (ha:A<65536) (hb:B<65536):iOr .i64 A B=((A |||B:Nat):Int):=by
 have:A |||B<65536:=Nat.or_lt_two_pow (n:=16) ha hb
 unfold iOr;rw[BitVec.toNat_or]
 show WI.wrap (((BitVec.ofInt 64 (A:Int)).toNat |||(BitVec.ofInt 64 (B:Int)).toNat:Nat):Int)=_
 rw[i7 (by omega),i7 (by omega)];exact a9 (by omega) (by omega)
theorem vM {B:Nat} (ha:A<65536) (hb:B<65536):fH .i64 A B=((A ^^^B:Nat):Int):=by
 have:A ^^^B<65536:=Nat.xor_lt_two_pow (n:=16) ha hb;unfold fH;rw[BitVec.toNat_xor]
 show WI.wrap (((BitVec.ofInt 64 (A:Int)).toNat ^^^(BitVec.ofInt 64 (B:Int)).toNat:Nat):Int)=_
 rw[i7 (by omega),i7 (by omega)];exact a9 (by omega) (by omega)
theorem Ed (hw:w<=8):1<=(2:Int)^w/\(2:Int)^w<=256:=by
 have:∀v:Fin 9,1<=(2:Int)^v.val/\(2:Int)^v.val<=256:=by decide
 exact this ⟨w,by omega⟩
theorem Ee {B:Nat} (ha:A<1099511627776):(fH .i64 (A:Int) 1=(B:Int))↔(A/2=B/2/\A≠B):=by
 have h1:A ^^^1<1099511627776:=Nat.xor_lt_two_pow (n:=40) ha (by decide);have e:fH .i64 (A:Int) 1=((A ^^^1:Nat):Int):=by
  unfold fH;rw[BitVec.toNat_xor]
  show WI.wrap (((BitVec.ofInt 64 (A:Int)).toNat ^^^(BitVec.ofInt 64 ((1:Nat):Int)).toNat:Nat):Int)=_
  rw[i7 (by omega),i7 (by omega)];exact a9 (by omega) (by omega)
 rw[e];have h2:(A ^^^1)/2=A/2:=by rw[Nat.xor_div_two];simp
 have h3:(A ^^^1)%2=(A+1)%2:=by
  have h:=Nat.xor_mod_two_pow (a:=A) (b:=1) (n:=1);simp at h;rw[h];have:A%2=0\/A%2=1:=by omega
  rcases this with h2|h2<;>rw[h2]<;>simp<;>omega
 generalize A ^^^1=X at *;omega
theorem Ef (x:Int) (hw:w<=8):fG .i64 x (2^w-1:Int)=x%(2^w:Int):=by
 have h1:(2:Nat)^w<=2^8:=bO (by decide) hw;have h0:1<=(2:Nat)^w:=Nat.one_le_two_pow;have e:(2^w-1:Int)=((2^w-1:Nat):Int):=by rw[Int.natCast_sub h0];simp
 unfold fG;rw[BitVec.toNat_and,e]
 show WI.wrap (((BitVec.ofInt 64 x).toNat &&&(BitVec.ofInt 64 ((2^w-1:Nat):Int)).toNat:Nat):Int)=_
 rw[i7 (by omega),Nat.and_two_pow_sub_one_eq_mod,BitVec.toNat_ofInt];have h2:(2:Nat)^w ∣ 18446744073709551616:=Nat.pow_dvd_pow (n:=64) 2 (by omega);have h3:(x%18446744073709551616).toNat%2^w<2^w:=Nat.mod_lt _ (by omega)
 show WI.wrap ((((x%((2^64:Nat):Int)).toNat%2^w:Nat)):Int)=_
 rw[show ((2^64:Nat):Int)=18446744073709551616 from rfl,a9 (by omega) (by omega)];rw[Int.natCast_emod,Int.toNat_of_nonneg (Int.emod_nonneg _ (by decide))];have h4:((2^w:Nat):Int) ∣ ((18446744073709551616:Nat):Int):=Int.natCast_dvd_natCast.2 h2;have h5:=Int.emod_emod_of_dvd x h4;rw[Int.natCast_pow] at h5 ⊢;exact h5
theorem nO (hw:w<=8):dH .i64 1 (w:Int)=2^w:=by
 have:∀v:Fin 9,dH .i64 1 (v.val:Int)=2^v.val:=by decide
 exact this ⟨w,by omega⟩
theorem Eg (h:A<256):jY .i64 (A:Int)= -1-A:=by
 have:∀v:Fin 256,jY .i64 (v.val:Int)= -1-v.val:=by decide +kernel
 exact this ⟨A,h⟩
theorem Eh (x:Int) (hw:w<=8):(WI.wrap x)%(2^w:Int)=x%(2^w:Int):=by
 rw[Ec];have:w=0\/w=1\/w=2\/w=3\/w=4\/w=5\/w=6\/w=7\/w=8:=by omega
 rcases this with rfl|rfl|rfl|rfl|rfl|rfl|rfl|rfl|rfl<;>simp<;>omega
theorem Ei (hw:w<=8):WI.wrap (dH .i64 1 (w:Int)-1)=2^w-1:=by rw[nO hw];have:=Ed hw;exact a9 (by omega) (by omega)
theorem vN (hw:w<=8) (hb:w<=b):dH .i64 (A:Int) (b:Int)%(2^w:Int)=0:=by
 unfold dH;rw[Eh _ hw];have:(2:Int)^w ∣ (A:Int)*2^(min (b:Int).toNat 64):=by refine Int.dvd_trans ?_ (Int.dvd_mul_left _ _);exact⟨2^(min (b:Int).toNat 64-w),by rw[<-Int.pow_add];congr 1;simp;omega⟩
 exact Int.emod_eq_zero_of_dvd this
theorem fh (hw:w<=8):(2:Nat)^w<=256:=bO (n:=2) (by decide) hw
theorem vO (ha:A<256) (hb:b<=8):dH .i64 (A:Int) (b:Int)=(A*2^b:Nat):=by
 unfold dH;have h1:=fh hb;have h2:A*2^b<=256*256:=Nat.mul_le_mul (by omega) h1;have e:(A:Int)*2^(min (b:Int).toNat IntKind.i64.bits)=((A*2^b:Nat):Int):=by
  have:min (b:Int).toNat IntKind.i64.bits=b:=by
   show min (b:Int).toNat 64=b
   simp;omega
  rw[this];simp
 rw[e];exact a9 (by omega) (by omega)
theorem j3 (A b:Nat) (ha:A<2^64):fa .i64 (A:Int) (b:Int)=(A/2^b:Nat):=by
 unfold fa;rw[show min (b:Int).toNat IntKind.i64.bits=min b 64 by simp[IntKind.bits]];by_cases h:b<=64
 ·rw[Nat.min_eq_left h,Int.fdiv_eq_ediv_of_nonneg _ (Int.pow_nonneg (by decide))]
  simp
 ·rw[Nat.min_eq_right (by omega),Int.fdiv_eq_ediv_of_nonneg _ (Int.pow_nonneg (by decide))]
  have h3:A<2^b:=aU ha (bO (by decide) (by omega));rw[Nat.div_eq_of_lt h3];have e:(2:Int)^64=((2^64:Nat):Int):=by simp
  rw[e,<-Int.natCast_ediv,Nat.div_eq_of_lt ha]
end
end Go.Lw