/-
  The texts that the proof stands on, part 12.
-/
import Derived.Test.YtmodipglnngghacGreatDoorTextParsesK
import Derived.Laws.MakeOwn
import Derived.KernelRfl
set_option linter.unusedVariables false
set_option linter.unusedSimpArgs false
set_option linter.unnecessarySimpa false

/-! Each operation of the machine (calls apart) does what its Go operation does: parts, maps, lengths, appends. -/
section
namespace Go.Lw
open Go Go.RowKit
section
variable {fi:FI} {M M':Mem} {w w':World} {P:Program} {s s':St} {a:Act} {cf:CallF}
theorem jpe {o:Oper} {d z m:Nat} {agg:Bool} {x i:IX} (A:Asks P fi M w s a o (.index d z m agg x i)) (h:opStep cf s (.index d z m agg x i)=some s'):Sim P fi o M w s' a:=by
 obtain⟨dst,op,ty,pos,aft,gd⟩:=o
 obtain⟨hI,hm,hd,hlt⟩:=A
 cases op<;>simp[mOp] at hm
 rename_i t y j
 obtain⟨⟨hx,hi⟩,hm⟩:=hm
 split at hm
 ·rename_i m' e ht
  simp at hm
  obtain⟨⟨rfl,hz⟩,ha⟩:=hm
  simp only[opStep] at h
  split at h
  ·rename_i k n hn
   have hiv:=(jfo hI hi hn).int
   split at h
   ·rename_i cs hp
    split at h
    ·rename_i hc
     simp only[Option.map_eq_some_iff] at h
     obtain⟨p,hg,rfl⟩:=h
     obtain⟨vs,hv,hl,hvv⟩:=(jfo hI hx hp).agg
     obtain⟨r,h1,h2⟩:=jo2 (P:=P) hg hl hvv ha (fun _=>hz)
     refine Sim.pure hI hd (hlt d rfl) ?_ h2.repE.repAt
     simp[execOp,hiv,hv,Instr.index,run_underlying ht,asIntOf,hc.1,hc.2,run_sizeOf' hz,h1]
    ·cases h
   ·cases h
  ·cases h
 ·cases hm
theorem jpf {o:Oper} {d:Nat} {x i:IX} (A:Asks P fi M w s a o (.indexS d x i)) (h:opStep cf s (.indexS d x i)=some s'):Sim P fi o M w s' a:=by
 obtain⟨dst,op,ty,pos,aft,gd⟩:=o
 obtain⟨hI,hm,hd,hlt⟩:=A
 cases op<;>simp[mOp] at hm
 rename_i t y j
 obtain⟨⟨hx,hi⟩,hm⟩:=hm
 have ht:P.underlying t=some .string:=by
  split at hm
  ·assumption
  ·cases hm
 simp only[opStep] at h
 split at h
 ·rename_i k n hn
  have hiv:=(jfo hI hi hn).int
  split at h
  ·rename_i b hp
   have hv:=(jfo hI hx hp).str
   split at h
   ·rename_i h0
    simp only[Option.map_eq_some_iff] at h
    obtain⟨u,hu,rfl⟩:=h
    exact Sim.pure hI hd (hlt d rfl) (v:= .int .u8 u.toNat) (by simp[execOp,hiv,hv,jo4 (P:=P) ht h0 hu]) (RepP.repE (.int _ _)).repAt
   ·cases h
  ·cases h
 ·cases h
theorem jpg {o:Oper} {d kn:Nat} {m k:IX} {ok:Bool} {zero:PV} (A:Asks P fi M w s a o (.lookup d kn m k ok zero)) (h:opStep cf s (.lookup d kn m k ok zero)=some s'):Sim P fi o M w s' a:=by
 obtain⟨dst,op,ty,pos,aft,gd⟩:=o
 obtain⟨hI,hm,hd,hlt⟩:=A
 cases op<;>simp[mOp] at hm
 rename_i t y j ok'
 obtain⟨⟨⟨hx,hk⟩,rfl⟩,hm⟩:=hm
 split at hm
 ·rename_i kt et ht
  simp only[Bool.and_eq_true] at hm
  obtain⟨hkt,hz⟩:=hm
  simp only[opStep] at h
  split at h
  ·rename_i b kv hp hkv
   split at h
   ·rename_i es hes
    split at h
    ·cases h
    ·rename_i hki
     have hki':isKey kn kv=true:=by simpa using hki
     unfold zeroIs at hz
     cases hit:P.info? et with
     |none=>simp[hit] at hz
     | some it=>
      cases hzv:it.zero with
      |none=>simp[hit,hzv] at hz
      | some zv=>
       simp[hit,hzv] at hz
       have L:=fun (r:Option PV) (hr:mfind kn es kv=some r)=>jom (P:=P) hI ht hkt hit hzv hz (jfo hI hx hp) hes (jfo hI hk hkv) hki' (ok:=ok) hr
       split at h
       ·rename_i v hf
        cases h
        obtain⟨r,h1,h2⟩:=L _ hf
        exact Sim.pure hI hd (hlt d rfl) (by simp[execOp,h1]) h2.repE.repAt
       ·rename_i hf
        cases h
        obtain⟨r,h1,h2⟩:=L _ hf
        exact Sim.pure hI hd (hlt d rfl) (by simp[execOp,h1]) h2.repE.repAt
       ·cases h
   ·cases h
  ·cases h
 ·cases hm
theorem jph {o:Oper} {kn:Nat} {m k x:IX} (A:Asks P fi M w s a o (.mupd kn m k x)) (h:opStep cf s (.mupd kn m k x)=some s'):Sim P fi o M w s' a:=by
 obtain⟨dst,op,ty,pos,aft,gd⟩:=o
 obtain⟨hI,hm,hd,hlt⟩:=A
 have hdn:dst=none:=hd
 subst hdn
 simp only[opStep] at h
 split at h
 ·rename_i b kv v hp hkv hv
  split at h
  ·rename_i es hes
   split at h
   ·rename_i hc
    simp only[Option.map_eq_some_iff] at h
    obtain⟨es',hs,rfl⟩:=h
    cases op<;>simp[mOp] at hm<;>rename_i t y j z<;>obtain⟨⟨⟨hx,hk⟩,hy⟩,hm⟩:=hm<;>split at hm<;>try (cases hm;done)
    all_goals
     rename_i kt et ht
     obtain⟨w2,h1,h2,h3⟩:=jor (P:=P) hI ht hm (jfo hI hx hp) hes (jfo hI hk hkv) hc.2.2 (jfo hI hy hv) hc.1 hc.2.1 hs
     exact⟨.skip,undef,M,w2,by simp[execOp,h1],.inr ⟨rfl,rfl⟩,h2,h3⟩
   ·cases h
  ·cases h
 ·cases h
theorem ji1 {b:Builtin} {ats:Array TypeId} {ty:TypeId} {cs:Array Bool} {args:Array Value}:invoke (.builtin b ats ty cs) args=builtin b ats ty cs args:=rfl
theorem jpi {o:Oper} {d kd:Nat} {x:IX} (A:Asks P fi M w s a o (.len d kd x)) (h:opStep cf s (.len d kd x)=some s'):Sim P fi o M w s' a:=by
 obtain⟨dst,op,ty,pos,aft,gd⟩:=o
 obtain⟨hI,hm,hd,hlt⟩:=A
 cases op with
 | call c=>
  obtain⟨callee,args,argTypes⟩:=c
  cases callee with
  | builtin b=>
   cases b<;>simp[mOp] at hm
   split at hm
   ·rename_i y t ha ht
    simp only[Bool.and_eq_true] at hm
    obtain⟨hx,hm⟩:=hm
    have ha':args= #[y]:=by apply Array.ext';simpa using ha
    subst ha'
    have fin:∀(n:Nat),(Builtin.len_ argTypes ty #[a.eval y]).run P w= .ok (.int .i64 n) w→Sim P fi ⟨dst,.call ⟨.builtin .len,#[y],argTypes⟩,ty,pos,aft,gd⟩ M w (s.put d (.int .i64 n)) a:=fun n hn=>by
     refine Sim.pure hI hd (hlt d rfl) (v:= .int .i64 n) ?_ (RepP.repE (.int _ _)).repAt
     simp[execOp,resolve,ji1,builtin,hn]
    obtain rfl|rfl|rfl|h4:kd=0∨kd=1∨kd=2∨3≤kd:=by omega
    ·split at hm<;>try (first|(simp at hm;done)|omega)
     rename_i e _ hu
     simp only[opStep] at h
     split at h<;>try (first|(simp at h;done)|omega)
     ·rename_i ow z xs _ hp
      cases h
      obtain⟨A,c,hv,hcl⟩:=(jfo hI hx hp).slC
      exact fin _ (by rw[hv];exact len_sl (P:=P) ht hu w)
     ·rename_i g b off n z _ hp
      cases h
      have hx':=jfo hI hx hp
      have hv:∃A c,a.eval y= .slice A n c:=by
       cases g with
       |true=>
        generalize hu:a.eval y=u at hx'
        cases (show RepP fi M w (.bs true b off n z) u from hx') with
        |bs _ _ _ _ A c blk hb hA hc=>exact⟨A,c,rfl⟩
       |false=>obtain⟨blk,A,c,_,hv,_⟩:=hx';exact⟨A,c,hv⟩
      obtain⟨A,c,hv⟩:=hv
      exact fin _ (by rw[hv];exact len_sl (P:=P) ht hu w)
     ·rename_i b gen n _ hp
      cases h
      have hx':=jfo hI hx hp
      have hv:∃A c,a.eval y= .slice A n c:=by
       generalize hu:a.eval y=u at hx'
       cases (show RepP fi M w (.stk b gen n) u from hx') with
       |stk _ _ _ blk c hb hg hA hc=>exact⟨_,c,rfl⟩
      obtain⟨A,c,hv⟩:=hv
      exact fin _ (by rw[hv];exact len_sl (P:=P) ht hu w)
     ·rename_i b gen off n _ hp
      cases h
      have hx':=jfo hI hx hp
      have hv:∃A c,a.eval y= .slice A n c:=by
       generalize hu:a.eval y=u at hx'
       cases (show RepP fi M w (.sub b gen off n) u from hx') with
       |sub _ _ _ _ blk c A hb hg hA hc hAd=>exact⟨_,c,rfl⟩
      obtain⟨A,c,hv⟩:=hv
      exact fin _ (by rw[hv];exact len_sl (P:=P) ht hu w)
     ·rename_i _ hp
      cases h
      have hx':=jfo hI hx hp
      have hv:a.eval y= .slice none 0 0:=by
       generalize hu:a.eval y=u at hx'
       cases (show RepP fi M w .nils u from hx') with
       |nils=>rfl
      exact fin _ (by rw[hv];exact len_sl (P:=P) ht hu w)
    ·split at hm<;>try (first|(simp at hm;done)|omega)
     rename_i _ hu
     simp only[opStep] at h
     split at h<;>try (first|(simp at h;done)|omega)
     rename_i b _ hp
     cases h
     have hv:=(jfo hI hx hp).str
     exact fin _ (by rw[hv];exact jo5 (P:=P) ht hu w)
    ·split at hm<;>try (first|(simp at hm;done)|omega)
     rename_i kt et _ hu
     simp only[opStep] at h
     split at h<;>try (first|(simp at h;done)|omega)
     rename_i b _ hp
     split at h
     ·rename_i es hes
      cases h
      exact fin _ (jon (P:=P) hI ht hu (jfo hI hx hp) hes)
     ·cases h
    ·split at hm<;>first|(simp at hm;done)|omega
   ·cases hm
  |_=>simp[mOp] at hm
 |_=>simp[mOp] at hm
theorem jpj {o:Oper} {d z bytes:Nat} {sx x:IX} (A:Asks P fi M w s a o (.append d z bytes sx x)) (h:opStep cf s (.append d z bytes sx x)=some s'):Sim P fi o M w s' a:=by
 obtain⟨dst,op,ty,pos,aft,gd⟩:=o
 obtain⟨hI,hm,hd,hlt⟩:=A
 cases op with
 | call c=>
  obtain⟨callee,args,argTypes⟩:=c
  cases callee with
  | builtin b=>
   cases b<;>simp[mOp] at hm
   split at hm
   ·rename_i y y' t t' ha ht
    simp only[Bool.and_eq_true,beq_iff_eq,decide_eq_true_eq] at hm
    obtain⟨⟨⟨⟨⟨hs,hx⟩,rfl⟩,hz0⟩,hb0⟩,hm⟩:=hm
    have ha':args= #[y,y']:=by apply Array.ext';simpa using ha
    have ht':argTypes= #[t,t]:=by apply Array.ext';simpa using ht
    subst ha';subst ht'
    split at hm<;>try (cases hm;done)
    rename_i e hu
    split at hm<;>try (cases hm;done)
    rename_i i hi
    simp only[Bool.and_eq_true,beq_iff_eq] at hm
    obtain⟨⟨hsz,hby⟩,hm⟩:=hm
    split at hm<;>try (cases hm;done)
    rename_i zv hzv
    simp at hm
    simp only[opStep,Option.bind_eq_some_iff] at h
    obtain⟨xv,hxv,h⟩:=h
    split at h
    ·rename_i o2 z2 ys
     simp only[Option.bind_eq_some_iff] at h
     obtain⟨⟨v,e'⟩,hv,h⟩:=h
     cases v with
     | sl o1 z1 xs=>
      simp only at h
      split at h
      ·rename_i hc
       obtain⟨rfl,rfl,rfl,hbd⟩:=hc
       cases h
       obtain⟨M1,hI1,k1,hr,_,hgb,himm⟩:=jhy hI hs hv
       have hxr:RepP fi M w (.sl false z2 ys) (a.eval y'):=by
        have:=jfo hI hx hxv
        cases o2 with
        |false=>exact this
        |true=>
         cases x with
         |t n=>simp only[evalX,Option.map_eq_some_iff] at hxv;obtain⟨q,_,hq⟩:=hxv;cases q<;>simp[degr] at hq
         |c q=>simp only[evalX,Option.some.injEq] at hxv;cases q<;>simp[degr] at hxv
         |f id=>simp[evalX] at hxv
       have hx1:RepP fi M1 w (.sl false z2 ys) (a.eval y'):=hxr.mono k1.ext
       obtain⟨r,M2,w2,h1,h2,k2⟩:=jog (P:=P) (ty:=ty) hI1 hu hi hzv hsz hby hm hz0 hb0 hr hx1 hbd (hlt d rfl)
       refine⟨.value r,r,M2,w2,?_,.inl rfl,by rw[show dst=some d from hd];exact h2,k1.trans k2⟩
       simp[execOp,resolve,ji1,builtin,h1]
      ·cases h
     |_=>cases h
    ·cases h
   ·cases hm
  |_=>simp[mOp] at hm
 |_=>simp[mOp] at hm
theorem jpk {o:Oper} {d i:Nat} {x:IX} (A:Asks P fi M w s a o (.extract d x i)) (h:opStep cf s (.extract d x i)=some s'):Sim P fi o M w s' a:=by
 obtain⟨dst,op,ty,pos,aft,gd⟩:=o
 obtain⟨hI,hm,hd,hlt⟩:=A
 cases op<;>simp[mOp] at hm
 rename_i y j
 obtain⟨hx,rfl⟩:=hm
 simp only[opStep] at h
 split at h
 ·rename_i vs hp
  simp only[Option.map_eq_some_iff] at h
  obtain⟨p,hg,rfl⟩:=h
  obtain⟨us,hv,hl,hvv⟩:=(jfo hI hx hp).tup
  have hi:i<us.length:=by rw[hl];exact (List.getElem?_eq_some_iff.1 hg).1
  have hr:=hvv i p _ hg (List.getElem?_eq_getElem hi)
  refine Sim.pure hI hd (hlt d rfl) (v:=us[i]) ?_ hr.repE.repAt
  simp[execOp,hv,Instr.extract,List.getElem?_eq_getElem hi]
 ·cases h
end
end Go.Lw
end

/-! Each operation of the machine (calls apart) does what its Go operation does: structs, arrays, lists that are made. -/
section
namespace Go.Lw
open Go Go.RowKit
section
variable {fi:FI} {M M':Mem} {w w':World} {P:Program} {s s':St} {a:Act} {cf:CallF}
theorem jkr {α β:Type} (F:α→Sem β) (G:α→Option β) (hFG:∀x y,G x=some y→(F x).run P w= .ok y w):∀{l:List α} {L:List β},l.mapM G=some L→(l.mapM F).run P w= .ok L w
 |[],L,h=>by simp at h;subst h;simp
 |x::l,L,h=>by
  simp only[List.mapM_cons,Option.bind_eq_bind,Option.bind_eq_some_iff] at h
  obtain⟨y,hy,L',hL,h⟩:=h
  simp at h;subst h
  simp[List.mapM_cons,hFG x y hy,jkr F G hFG hL]
theorem jpl {α β:Type} (F:α→Sem β) (G:α→Option β) (hFG:∀x y,G x=some y→(F x).run P w= .ok y w) {l:Array α} {L:List β} (h:l.toList.mapM G=some L):(l.mapM F).run P w= .ok L.toArray w:=by
 rw[Array.mapM_eq_mapM_toList,map_eq_pure_bind,Sem.run_bind,jkr F G hFG h];rfl
theorem jpm {t:TypeId} {zv:Value} {i:TypeInfo} {parts:Array (Nat×Value)} {us:List Value} (hi:P.info? t=some i) (hz:i.zero=some zv)
  (h:∀place:Nat→Option (Nat×Nat),(∀j q,placeOf P t j=some q→place j=some q)→Instr.fill place zv.cells parts.toList=some us.toArray)
  (hp:∃j q,placeOf P t j=some q):(Instr.build t parts).run P w= .ok (.agg us.toArray) w:=by
 obtain⟨j,q,hjq⟩:=hp
 unfold placeOf at h hjq
 split at hjq
 ·rename_i fs ht
  simp only[Option.bind_eq_some_iff] at hjq
  obtain⟨L,hL,_⟩:=hjq
  simp only[ht,hL,Option.bind_some] at h
  have h2:=h (L.toArray[·]?) (fun j q hq=>by simpa using hq)
  have h3:(fs.mapM (m:=Sem) fun f=>do pure (f.offset,←sizeOf f.type)).run P w= .ok L.toArray w:=jpl _ _ (fun f q hq=>by
   simp only[Option.map_eq_some_iff] at hq
   obtain⟨i,hi,rfl⟩:=hq
   simp[sizeOf,typeInfo,hi]) hL
  have h4:(zeroValue t).run P w= .ok zv w:=by simp[zeroValue,typeInfo,hi,hz]
  simp only[Instr.build,Sem.run_bind,h4,Result.andThen,run_underlying ht,h3,h2]
  rfl
 ·rename_i m e ht
  simp only[Option.map_eq_some_iff] at hjq
  obtain⟨z,hsz,_⟩:=hjq
  simp only[ht,hsz,Option.map_some] at h
  have h2:=h (fun i=>some (i*z,z)) (fun j q hq=>by simpa using hq)
  simp[Instr.build,zeroValue,typeInfo,hi,hz,run_underlying ht,run_sizeOf' hsz,h2]
 ·cases hjq
end
end Go.Lw
end

/-! Each operation of the machine (calls apart) does what its Go operation does: parts put together. -/
section
namespace Go.Lw
open Go Go.RowKit
section
variable {fi:FI} {M M':Mem} {w w':World} {P:Program} {s s':St} {a:Act} {cf:CallF}
def evPart (a:Act) (q:Nat×Operand):Nat×Value:=(q.1,a.eval q.2)
theorem jks (hI:Inv fi M w s a) {t:TypeId} {place:Nat→Option (Nat×Nat)} (hpl:∀j q,placeOf P t j=some q→place j=some q) (mk:Nat→Loc):∀{ps:List (Nat×Nat×IX)} {os:List (Nat×Operand)} {vs:List (Nat×Nat×PV)},
  mParts P fi t ps os=true→evalPs s.env ps=some vs→(∀p∈vs,argOk p.2.2=true)→PartsRel fi M w place mk vs (os.map (evPart a))
 |[],[],vs,_,h,_=>by simp[evalPs] at h;subst h;exact trivial
 |[],_::_,_,hm,_,_=>by simp[mParts] at hm
 |(_,_,_)::_,[],_,hm,_,_=>by simp[mParts] at hm
 |(off,k,x)::ps,(i,o)::os,vs,hm,h,hok=>by
  simp only[mParts,Bool.and_eq_true,beq_iff_eq] at hm
  simp only[evalPs,Option.bind_eq_some_iff,Option.map_eq_some_iff] at h
  obtain⟨v,hv,vs',hvs,rfl⟩:=h
  exact⟨hpl _ _ hm.1.1,(jfo hI hm.1.2 hv).repAt,hok (off,k,v) (by simp),jks hI hpl mk hm.2 hvs (fun p hp=>hok p (by simp[hp]))⟩
theorem jpn {t:TypeId} {z:List PV} (h:zerosAre P t z=true):∃i zv,P.info? t=some i∧i.zero=some zv∧zv.cells.toList.length=z.length∧
  ∀(mk:Nat→Loc) (i:Nat) (c:PV) (u:Value),z[i]?=some c→zv.cells.toList[i]?=some u→RepC fi M w (mk i) c u:=by
 unfold zerosAre at h
 split at h
 ·rename_i zv hz
  simp only[Option.bind_eq_some_iff] at hz
  obtain⟨i,hi,hzv⟩:=hz
  obtain⟨h1,h2⟩:=jip h
  exact⟨i,zv,hi,hzv,h1,fun mk i c u hc hu=>cOk1_C (h2 i c u hc hu) _⟩
 ·cases h
theorem jkt {t:TypeId} {z cs:List PV} {vs:List (Nat×Nat×PV)} {parts:Array (Nat×Value)} (hpl:(placeOf P t 0).isSome=true) (hz:zerosAre P t z=true) (hz1:∀c∈z,c.one=true) (h:fillAt z vs=some cs) (mk:Nat→Loc)
  (hp:∀place:Nat→Option (Nat×Nat),(∀j q,placeOf P t j=some q→place j=some q)→PartsRel fi M w place mk vs parts.toList) :
  ∃v,(Instr.build t parts).run P w= .ok v w∧RepAt fi M w mk (.agg cs) v:=by
 obtain⟨i,zv,hi,hzv,hl,hzr⟩:=jpn (fi:=fi) (M:=M) (w:=w) hz
 obtain⟨q,hq⟩:=Option.isSome_iff_exists.1 hpl
 have F:=fun (place:Nat→Option (Nat×Nat)) (hpl:∀j q,placeOf P t j=some q→place j=some q)=>jou vs parts.toList z cs zv.cells.toList h hl (hzr mk) (hp place hpl) hz1
 obtain⟨us,h1,h2,h3,_⟩:=F (placeOf P t) (fun _ _ h=>h)
 refine⟨.agg us.toArray,jpm hi hzv (fun place hpl=>?_) ⟨0,q,hq⟩,⟨us,rfl,h2,h3⟩⟩
 obtain⟨us',g1,_⟩:=F place hpl
 have mono:∀(l:List (Nat×Value)) (cells:Array Value) (r:Array Value),Instr.fill (placeOf P t) cells l=some r→Instr.fill place cells l=some r:=by
  intro l
  induction l with
  |nil=>intro cells r h;exact h
  | cons x l ih=>
   intro cells r h
   obtain⟨i,v⟩:=x
   simp only[Instr.fill] at h ⊢
   split at h
   ·cases h
   ·rename_i off size hq
    rw[hpl _ _ hq]
    simp only
    split at h
    ·cases h
    ·rename_i hc
     rw[if_neg hc]
     exact ih _ _ h
 exact mono _ _ _ (by simpa using h1)
theorem jpo {o:Oper} {d:Nat} {z:List PV} {ps:List (Nat×Nat×IX)} (A:Asks P fi M w s a o (.build d z ps)) (h:opStep cf s (.build d z ps)=some s'):Sim P fi o M w s' a:=by
 obtain⟨dst,op,ty,pos,aft,gd⟩:=o
 obtain⟨hI,hm,hd,hlt⟩:=A
 cases op<;>simp only[mOp,Bool.false_eq_true] at hm
 rename_i t parts
 simp only[Bool.and_eq_true] at hm
 obtain⟨⟨hpl,hz⟩,hps⟩:=hm
 simp only[opStep,Option.bind_eq_some_iff] at h
 obtain⟨vs,hvs,h⟩:=h
 split at h
 ·rename_i hc
  simp only[List.all_eq_true] at hc
  simp only[Option.map_eq_some_iff] at h
  obtain⟨cs,hcs,rfl⟩:=h
  obtain⟨v,h1,h2⟩:=jkt (P:=P) (parts:=parts.map (evPart a)) hpl hz hc.2 hcs (Loc.env d) (fun place hp=>by
   have:=jks hI hp (Loc.env d) hps hvs hc.1
   simpa using this)
  refine Sim.pure hI hd (hlt d rfl) (v:=v) ?_ h2
  have e:(parts.map fun (x:Nat×Operand)=>match x with|(i,x)=>(i,a.eval x))=parts.map (evPart a):=rfl
  simp only[execOp,e,Sem.run_bind,h1];rfl
 ·cases h
theorem jpp (hI:Inv fi M w s a) {x:IX} {o:Operand} (hm:mX fi x o=true) {v:PV} {e:List (Nat×PV)} (h:takeX s.env x=some (v,e)) :
  ∃f:Loc→Loc,(∀i,f (.res i)= .res i)∧Inv fi (M.rel f) w ⟨e,s.lh,s.gh⟩ a∧RepAt fi (M.rel f) w Loc.lim v (a.eval o):=by
 cases x with
 | t n=>
  cases o with
  | tmp m=>
   simp only[mX,beq_iff_eq] at hm;subst hm
   simp only[takeX,Option.map_eq_some_iff,Prod.mk.injEq] at h
   obtain⟨v',hv,rfl,rfl⟩:=h
   have hn:=hI.env n v' hv
   refine⟨toLim n,fun _=>rfl,hI.rel _ _ (fun t u hu=>?_) (fun _ _=>rfl) (fun _ _=>rfl),hn.2.rel _ (fun i=>by simp[toLim])⟩
   rw[jgj] at hu
   by_cases htn:n=t
   ·subst htn
    simp at hu;subst hu
    exact⟨hn.1,(hn.2.degr.rel _).repAt⟩
   ·simp[htn] at hu
    exact⟨(hI.env t u hu).1,(hI.env t u hu).2.rel _ (fun i=>by simp[toLim,Ne.symm htn])⟩
  |_=>simp[mX] at hm
 | c p=>
  cases o with
  |const u=>
   simp only[takeX,Option.some.injEq,Prod.mk.injEq] at h
   obtain⟨rfl,rfl⟩:=h
   exact⟨id,fun _=>rfl,hI.rel _ _ (fun t u hu=>⟨(hI.env t u hu).1,(hI.env t u hu).2.rel _ (fun _=>rfl)⟩) (fun _ _=>rfl) (fun _ _=>rfl),cOk_at hm _⟩
  |_=>simp[mX] at hm
 | f id'=>
  cases o with
  |func F=>
   simp only[takeX,Option.some.injEq,Prod.mk.injEq] at h
   obtain⟨rfl,rfl⟩:=h
   refine⟨id,fun _=>rfl,hI.rel _ _ (fun t u hu=>⟨(hI.env t u hu).1,(hI.env t u hu).2.rel _ (fun _=>rfl)⟩) (fun _ _=>rfl) (fun _ _=>rfl),?_⟩
   exact ((jfo hI (x:= .f id') hm rfl).rel _).repAt
  |_=>simp[mX] at hm
theorem jku {t:TypeId}:∀{ps:List (Nat×Nat×IX)} {os:List (Nat×Operand)} {vs:List (Nat×Nat×PV)} {M:Mem} {s:St} {e:List (Nat×PV)},Inv fi M w s a→
  mParts P fi t ps os=true→takePs s.env ps=some (vs,e)→(∀p∈vs,argOk p.2.2=true)→
  ∃M1,Inv fi M1 w ⟨e,s.lh,s.gh⟩ a∧Kp M w M1 w∧(∀(mk:Nat→Nat) p v,RepAt fi M w (fun i=> .res (mk i)) p v→RepAt fi M1 w (fun i=> .res (mk i)) p v)∧
   ∀place:Nat→Option (Nat×Nat),(∀j q,placeOf P t j=some q→place j=some q)→PartsRel fi M1 w place Loc.res vs (os.map (evPart a))
 |[],[],vs,M,s,e,hI,_,h,_=>by
  simp[takePs] at h
  obtain⟨rfl,rfl⟩:=h
  exact⟨M,hI,Kp.refl M w,fun _ _ _ h=>h,fun _ _=>trivial⟩
 |[],_::_,_,_,_,_,_,hm,_,_=>by simp[mParts] at hm
 |(_,_,_)::_,[],_,_,_,_,_,hm,_,_=>by simp[mParts] at hm
 |(off,k,x)::ps,(i,o)::os,vs,M,s,e,hI,hm,h,hok=>by
  simp only[mParts,Bool.and_eq_true,beq_iff_eq] at hm
  simp only[takePs,Option.bind_eq_some_iff,Option.map_eq_some_iff,Prod.mk.injEq,Prod.exists] at h
  obtain⟨v,e1,hv,vs',e2,hvs,rfl,rfl⟩:=h
  obtain⟨f,hf,hI1,hr1⟩:=jpp hI hm.1.2 hv
  have hI2:=hI1.rel (fromLim fun j=> .res (off+j)) e1 (fun t u hu=>⟨(hI1.env t u hu).1,(hI1.env t u hu).2.rel _ (fun i=>rfl)⟩) (fun _ _=>rfl) (fun _ _=>rfl)
  have hr2:=hr1.rel (mk':=fun j=> .res (off+j)) (fromLim fun j=> .res (off+j)) (fun i=>rfl)
  obtain⟨M3,hI3,k3,p3,r3⟩:=jku (t:=t) hI2 hm.2 hvs (fun p hp=>hok p (by simp[hp]))
  refine⟨M3,hI3,((Kp.rel M w f).trans (Kp.rel _ w _)).trans k3,fun mk p u hu=>p3 mk p u ((hu.rel f (fun i=>hf _)).rel _ (fun i=>rfl)),fun place hpl=>?_⟩
  exact⟨hpl _ _ hm.1.1,p3 (fun j=>off+j) _ _ hr2,hok (off,k,v) (by simp),r3 place hpl⟩
def fromRes (mk:Nat→Loc):Loc→Loc
 | .res i=>mk i
 |l=>l
theorem jpq {o:Oper} {d:Nat} {z:List PV} {ps:List (Nat×Nat×IX)} (A:Asks P fi M w s a o (.buildT d z ps)) (h:opStep cf s (.buildT d z ps)=some s'):Sim P fi o M w s' a:=by
 obtain⟨dst,op,ty,pos,aft,gd⟩:=o
 obtain⟨hI,hm,hd,hlt⟩:=A
 cases op<;>simp only[mOp,Bool.false_eq_true] at hm
 rename_i t parts
 simp only[Bool.and_eq_true] at hm
 obtain⟨⟨hpl,hz⟩,hps⟩:=hm
 simp only[opStep,Option.bind_eq_some_iff] at h
 obtain⟨⟨vs,e⟩,hvs,h⟩:=h
 simp only at h
 split at h
 ·rename_i hc
  simp only[List.all_eq_true] at hc
  simp only[Option.map_eq_some_iff] at h
  obtain⟨cs,hcs,rfl⟩:=h
  obtain⟨M1,hI1,k1,_,r1⟩:=jku (P:=P) hI hps hvs hc.1
  obtain⟨v,h1,h2⟩:=jkt (P:=P) (parts:=parts.map (evPart a)) hpl hz hc.2 hcs Loc.res (fun place hp=>by simpa using r1 place hp)
  have hI2:=hI1.rel (fromRes (Loc.env d)) e (fun t u hu=>⟨(hI1.env t u hu).1,(hI1.env t u hu).2.rel _ (fun i=>rfl)⟩) (fun _ _=>rfl) (fun _ _=>rfl)
  have h3:=h2.rel (mk':=Loc.env d) (fromRes (Loc.env d)) (fun i=>rfl)
  refine⟨.value v,v,_,w,?_,.inl rfl,by rw[show dst=some d from hd];exact Inv.put (s:=⟨e,s.lh,s.gh⟩) hI2 (hlt d rfl) h3,k1.trans (Kp.rel _ w _)⟩
  have e:(parts.map fun (x:Nat×Operand)=>match x with|(i,x)=>(i,a.eval x))=parts.map (evPart a):=rfl
  simp only[execOp,e,Sem.run_bind,h1];rfl
 ·cases h
theorem jpr {o:Oper} {d z:Nat} {els:List IX} (A:Asks P fi M w s a o (.buildSl d z els)) (h:opStep cf s (.buildSl d z els)=some s'):Sim P fi o M w s' a:=by
 obtain⟨dst,op,ty,pos,aft,gd⟩:=o
 obtain⟨hI,hm,hd,hlt⟩:=A
 cases op<;>simp only[mOp,Bool.false_eq_true] at hm
 rename_i t len parts
 simp only[Bool.and_eq_true,beq_iff_eq,decide_eq_true_eq] at hm
 obtain⟨⟨⟨⟨⟨⟨he,hz0⟩,hlen⟩,hbd⟩,hidx⟩,hmx⟩,hzs⟩:=hm
 obtain⟨e,ht,hsz⟩:=jis he
 rw[ht] at hzs
 simp only[Option.isSome_iff_exists,Option.bind_eq_some_iff] at hzs
 obtain⟨zv,i,hi,hzv⟩:=hzs
 simp only[opStep,Option.bind_eq_some_iff] at h
 obtain⟨vs,hvs,h⟩:=h
 split at h
 ·rename_i hc
  simp only[List.all_eq_true,Bool.and_eq_true,beq_iff_eq] at hc
  cases h
  obtain⟨h1,h2⟩:=jgz hI hmx hvs
  have hvl:vs.length=len:=by rw[←h1,List.length_map,←List.length_map (f:=Prod.fst) (as:=parts.toList),hidx,List.length_range']
  generalize hrest:((Array.range (len*z)).map ((if len*z=0 then #[] else zv.cells)[· %(if len*z=0 then (#[]:Array Value) else zv.cells).size]!)).toList=rest
  have hrl:rest.length=vs.length*z:=by rw[←hrest];simp[hvl]
  obtain⟨us,f1,f2,f3⟩:=jov (fi:=fi) (M:=M) (w:=w) (z:=z) vs 0 (parts.toList.map (evPart a)) [] rest (by simp) hrl hc (by
   rw[List.map_map,hvl,←hidx];rfl) (fun i p y hp hy=>by
   simp only[List.getElem?_map,Option.map_eq_some_iff] at hy
   obtain⟨q,hq,rfl⟩:=hy
   have:=h2 i p q.2 hp (by simp[hq])
   exact this.repP (by simpa [argOk] using (hc p (List.mem_of_getElem? hp)).1))
  simp only[List.nil_append] at f1
  obtain⟨M1,hI1,k1⟩:=hI.newOwn (hlt d rfl) (fun e he=>(hc e he).2) (fun e he=>(hc e he).1) us [] f2 f3 vs.length (Nat.le_refl _) (by simp[f2]) e us.toArray (by simp)
  refine⟨_,.slice (some ⟨w.heap.size,0,none⟩) vs.length vs.length,M1,_,?_,.inl rfl,by rw[show dst=some d from hd];exact hI1,k1⟩
  have e1:(parts.map fun (x:Nat×Operand)=>match x with|(i,x)=>(i,a.eval x))=parts.map (evPart a):=rfl
  have hbd':¬(len*z>2^24):=by omega
  have f1':Instr.fill (fun i=>some (i*z,z)) ((Array.range (len*z)).map ((if len*z=0 then #[] else zv.cells)[· %(if len*z=0 then (#[]:Array Value) else zv.cells).size]!)) (parts.map (evPart a)).toList=some us.toArray:=by
   rw[←f1,←hrest,Array.toArray_toList];congr 1;simp
  have hrun:(Instr.buildSlice t len (parts.map (evPart a))).run P w= .ok (.slice (some ⟨w.heap.size,0,none⟩) len len) (w.alloc (.cells us.toArray e)):=by
   have hzv':(zeroValue e).run P w= .ok zv w:=by simp[zeroValue,typeInfo,hi,hzv]
   by_cases h0:len*z=0
   ·simp only[if_pos h0] at f1'
    simp only[Instr.buildSlice,Sem.run_bind,run_underlying ht,run_sizeOf' hsz,Result.andThen_ok,if_neg hbd',if_pos h0,Sem.run_pure,f1']
    simp[newRow]
   ·simp only[if_neg h0] at f1'
    simp only[Instr.buildSlice,Sem.run_bind,run_underlying ht,run_sizeOf' hsz,Result.andThen_ok,if_neg hbd',if_neg h0,hzv',Sem.run_pure,f1']
    simp[newRow]
  simp only[execOp,e1,Sem.run_bind,hrun,hvl];rfl
 ·cases h
end
end Go.Lw
end

/-! Stacks: lists that are cut and grow in place. -/
section
namespace Go.Lw
open Go Go.RowKit
section
variable {fi:FI} {M M' M2:Mem} {w w' W:World} {P:Program} {s s':St} {a:Act} {cf:CallF} {xl:Loc→Prop} {xb:Nat→Prop}
def updSt (M:Mem) (b:Nat) (t:Nat×Nat×Nat):Nat→Nat×Nat×Nat:=fun i=>if i=b then t else M.st i
theorem Good.stk (g:Good M w M2 W xl xb) (hst:M2.st=M.st) (b:Nat) (t:Nat×Nat×Nat) (hgen:b<M.gb.length→(M.st b).1<t.1) :
  Good M w {M2 with st:=updSt M b t } W (fun l=>xl l∨l=Loc.gh b 0) xb where
 ext:=⟨g.ext.gb,g.ext.imm,g.ext.cell,fun i hi=>by
  by_cases h:i=b
  ·subst h
   simp only[updSt,if_true]
   have:=hgen hi
   exact⟨by omega,fun e=>by omega⟩
  ·have e:updSt M b t i=M.st i:=if_neg h
   show (M.st i).1≤(updSt M b t i).1∧((updSt M b t i).1=(M.st i).1→updSt M b t i=M.st i)
   rw[e]
   exact⟨Nat.le_refl _,fun _=>rfl⟩⟩
 size:=g.size
 lb:=g.lb
 own:=fun b l h hl=>g.own b l h (fun hx=>hl (.inl hx))
 box:=g.box
 st:=fun i hi=>by
  have:i≠b:=fun e=>hi (.inr (by rw[e]))
  simp only[updSt,if_neg this]
theorem Kp.stk {xl':Loc→Prop} {xb':Nat→Prop} {f:Nat→Nat×Nat×Nat} (k:Kp M w M2 W) (g:Good M w {M2 with st:=f } W xl' xb'):Kp M w {M2 with st:=f } W:=
 ⟨k.os,k.tape,k.output,k.size,g.ext,k.block,k.lbn,k.gbn,k.ownn,k.immn⟩
theorem jps {p:PV} {u:Value} (h:RepP fi M w p u) (hf:isFlat p=true):∀(M':Mem) (w':World),RepP fi M' w' p u:=by
 intro M' w'
 cases h<;>first|exact .int _ _|exact .bool _|(simp[isFlat] at hf)
theorem Good.refl (M:Mem) (w:World):Good M w M w (fun _=>False) (fun _=>False):=
 ⟨Ext.refl M w,Nat.le_refl _,fun _ _ h=>h,fun _ _ h _=>⟨h,rfl,fun _ h=>h,id,id⟩,fun _ _ _ h=>⟨rfl,fun _ h=>h,h⟩,fun _ _=>rfl⟩
end
end Go.Lw
end

/-! What a function that is called sees of memory, and what is told of it when it is back. -/
section
namespace Go.Lw
open Go Go.RowKit
section
variable {fi:FI} {M M':Mem} {w w':World} {P:Program} {s s':St} {a:Act} {cf:CallF}
def Mem.noLb (M:Mem):Mem:={M with lb:=[] }
theorem Ext.noLb (M:Mem) (w:World):Ext M w M.noLb w:=⟨fun _ _ h=>h,fun _ _ h=>h,fun _ _ _=>rfl,fun _ _=>⟨Nat.le_refl _,fun _=>rfl⟩⟩
theorem OwnRep.noLb {l:Loc} {z:Nat} {xs:List PV} {v:Value} (h:OwnRep fi M w l z xs v):OwnRep fi M.noLb w l z xs v:=by
  obtain⟨h1,h2⟩:=h
  refine⟨h1.mono (Ext.noLb M w),?_⟩
  rcases h2 with h2|⟨b,o,c,cs,e,hv,ho,hh,hs,hk,hb1,hb2⟩
  · exact .inl h2
  · exact .inr ⟨b,o,c,cs,e,hv,ho,hh,hs,hk,by simp[Mem.noLb],hb2⟩
theorem RepC.noLb {l:Loc} {p:PV} {v:Value} (h:RepC fi M w l p v):RepC fi M.noLb w l p v:=by
  unfold RepC at *
  split at h
  · exact OwnRep.noLb h
  · exact h.mono (Ext.noLb M w)
theorem RepObj.noLb {i blk:Nat} {o:GObj} (h:RepObj fi M w i blk o):RepObj fi M.noLb w i blk o:=by
  cases o with
  | cells cs=>
    obtain⟨h1,h2,h3,h4,vs,T,h5,h6,h7⟩:=h
    exact⟨h1,h2,h3,h4,vs,T,h5,h6,fun i c u hc hu=>(h7 i c u hc hu).noLb⟩
  | map es=>
    obtain⟨h1,h2,l,clock,h3,h4,h5⟩:=h
    exact⟨h1,h2,l,clock,h3,h4,fun i e m he hm=>⟨(h5 i e m he hm).1.mono (Ext.noLb M w),(h5 i e m he hm).2.1.mono (Ext.noLb M w),(h5 i e m he hm).2.2⟩⟩
  | stk gen xs=>
    obtain⟨h1,h2,h3,h4,h5,cs,T,h6,h7,h8,h9⟩:=h
    exact⟨h1,h2,h3,h4,h5,cs,T,h6,h7,h8,fun j x hj=>by
      obtain⟨u,hu,hr⟩:=h9 j x hj
      exact⟨u,hu,hr.mono (Ext.noLb M w)⟩⟩
  | bld s=>
    obtain⟨h1,h2,h3,T,hT,h4⟩:=h
    refine⟨h1,h2,h3,T,hT,?_⟩
    rcases h4 with h4|⟨c,cap,cur,h5,h6,h7,h8⟩
    · exact .inl h4
    · exact .inr ⟨c,cap,cur,h5,h6,by simp[Mem.noLb],h8⟩
theorem jit {p:PV} (h:resOk p=true) (h1:∀cs,p≠ .tup cs):argOk p=true:=by
  cases p with
  |tup cs=>exact absurd rfl (h1 cs)
  |_=>exact h
theorem RepAt.noLb {mk:Nat→Loc} {p:PV} {v:Value} (h:RepAt fi M w mk p v) (hok:resOk p=true):RepAt fi M.noLb w mk p v:=by
  unfold RepAt at *
  split at h
  · exact OwnRep.noLb h
  · cases hok
  · obtain⟨vs,h1,h2,h3⟩:=h
    exact⟨vs,h1,h2,fun i c u hc hu=>(h3 i c u hc hu).noLb⟩
  · obtain⟨vs,h1,h2,h3⟩:=h
    exact⟨vs,h1,h2,fun i c u hc hu=>(h3 i c u hc hu).noLb⟩
  · rename_i h3
    exact ((h.repP (jit hok (fun cs=>h3 cs))).mono (Ext.noLb M w)).repE
theorem gb_own (hI:Inv fi M w s a) {b:Nat} (hb:b∈M.gb):M.own b=none∨∃i j,M.own b=some (Loc.gh i j):=by
  obtain⟨i,hi,rfl⟩:=List.mem_iff_getElem.1 hb
  have h2:i<s.gh.length:=by rw[←hI.gbl];exact hi
  have:=hI.gh i _ _ (List.getElem?_eq_getElem h2) (List.getElem?_eq_getElem hi)
  cases ho:s.gh[i] with
  |cells cs=>rw[ho] at this;exact .inl this.2.2.1
  |map es=>rw[ho] at this;exact .inl this.2.1
  |stk gen xs=>rw[ho] at this;exact .inr ⟨_,_,this.1⟩
  |bld s=>rw[ho] at this;exact .inl this.2.2.1
theorem lb_own (hI:Inv fi M w s a) {b:Nat} (hb:b∈M.lb):M.own b=none:=by
  obtain⟨i,hi,rfl⟩:=List.mem_iff_getElem.1 hb
  have h2:i<s.lh.length:=by rw[←hI.lbl];exact hi
  exact (hI.lh i _ _ (List.getElem?_eq_getElem h2) (List.getElem?_eq_getElem hi)).2.2.1
def GI (fi:FI) (M:Mem) (w:World) (gh:List GObj):Prop:=Inv fi M w ⟨[],[],gh⟩ ⟨#[],[]⟩
def priv (g:Bool):Loc→Bool
  | .gh _ _=> !g
  |_=>true
def Mem.callee (M:Mem) (g:Bool):Mem:={lb:=[],gb:=if g then M.gb else [],imm:=M.imm,own:=fun b=>(M.own b).bind fun l=>if priv g l then none else some l,st:=M.st }
def backL (g:Bool) (mk:Nat→Loc):Loc→Option Loc
  | .gh i j=>if g then some (.gh i j) else none
  | .res i=>some (mk i)
  |_=>none
def Mem.back (M M':Mem) (g:Bool) (mk:Nat→Loc):Mem:=
  { lb:=M.lb,gb:=if g then M'.gb else M.gb,imm:=M'.imm,
    own:=fun b=>match M.own b with
      |some l=>if priv g l then some l else (M'.own b).bind (backL g mk)
      |none=>(M'.own b).bind (backL g mk),
    st:=if g then M'.st else M.st }
theorem callee_own {g:Bool} {b:Nat} {l:Loc}:(M.callee g).own b=some l↔M.own b=some l∧priv g l=false:=by
  simp only[Mem.callee,Option.bind_eq_some_iff]
  constructor
  · rintro⟨l',h1,h2⟩
    cases hp:priv g l'<;>simp[hp] at h2
    subst h2;exact⟨h1,hp⟩
  · rintro⟨h1,h2⟩
    exact⟨l,h1,by simp[h2]⟩
theorem callee_own_none {g:Bool} {b:Nat}:(M.callee g).own b=none↔(∀l,M.own b=some l→priv g l=true):=by
  cases ho:(M.callee g).own b with
  | none=>
    simp only[true_iff]
    intro l hl
    cases hp:priv g l with
    |true=>rfl
    |false=>rw[callee_own.2 ⟨hl,hp⟩] at ho;cases ho
  | some l=>
    obtain⟨h1,h2⟩:=callee_own.1 ho
    constructor
    · intro h;cases h
    · intro h;rw[h l h1] at h2;cases h2
theorem jpt {g:Bool} {l:Loc} (h:priv g l=false):∃i j,l= .gh i j:=by
  cases l<;>simp[priv] at h
  exact⟨_,_,rfl⟩
theorem Inv.callee (hI:Inv fi M w s a) (g:Bool):GI fi (M.callee g) w (if g then s.gh else [])∧(M.callee g).lb=[]∧∀b l,(M.callee g).own b=some l→∃i j,l= .gh i j:=by
  refine⟨⟨fun t v h=>by simp[get] at h,rfl,rfl,?_,?_,fun i cs blk h=>by simp at h,fun i o blk h1 h2=>?_,hI.gl,hI.immlt,fun b l h=>hI.ownlt b l (callee_own.1 h).1,fun b hb=>?_⟩,rfl,fun b l h=>jpt (callee_own.1 h).2⟩
  · cases g
    · rfl
    · exact hI.gbl
  · cases g
    · simp[Mem.callee]
    · have:=hI.nodup
      rw[List.nodup_append] at this
      simpa [Mem.callee] using this.2.1
  · cases g with
    |false=>simp at h1
    | true=>
      have h3:=(hI.gh i o blk h1 h2).noLb
      have G:Good M.noLb w (M.callee true) w (fun l=>priv true l=true) (fun _=>False):=
        ⟨⟨fun _ _ h=>h,fun _ _ h=>h,fun _ _ _=>rfl,fun _ _=>⟨Nat.le_refl _,fun _=>rfl⟩⟩,Nat.le_refl _,fun i k h=>by simp[Mem.noLb] at h,
          fun b l h hl=>⟨callee_own.2 ⟨h,by simpa using hl⟩,rfl,fun _ h=>h,fun h=>h,fun h=>h⟩,
          fun b _ _ h=>⟨rfl,fun _ h=>h,callee_own_none.2 fun l hl=>by rw[show M.own b=none from h] at hl;cases hl⟩,fun _ _=>rfl⟩
      exact h3.good G (by simp) (by simp[priv])
  · cases g with
    |false=>simp[Mem.callee] at hb
    |true=>exact hI.gblt b hb
theorem Inv.back (hI:Inv fi M w s a) (g:Bool) {gh':List GObj} (mk:Nat→Loc) (hmk:∀i,priv g (mk i)=true) (hG:GI fi M' w' gh') (hlb:M'.lb=[])
    (hk:Kp (M.callee g) w M' w') {r:PV} {v:Value} (hr:RepAt fi M' w' Loc.res r v) (hg:g=false→r.noG=true) (hok:resOk r=true) :
    Inv fi (M.back M' g mk) w' ⟨s.env,s.lh,if g then gh' else s.gh⟩ a∧Kp M w (M.back M' g mk) w'∧RepAt fi (M.back M' g mk) w' mk r v:=by
  have bown:∀b l,M.own b=some l→priv g l=true→(M.back M' g mk).own b=some l:=fun b l h hp=>by simp[Mem.back,h,hp]
  have bown2:∀b,(∀l,M.own b=some l→priv g l=false)→(M.back M' g mk).own b=(M'.own b).bind (backL g mk):=fun b h=>by
    cases ho:M.own b with
    |none=>simp[Mem.back,ho]
    |some l=>simp[Mem.back,ho,h l ho]
  -- what is the caller's own, the callee leaves
  have pv:∀b l,M.own b=some l→priv g l=true→M'.own b=none∧w'.heap[b]?=w.heap[b]?∧∀k,M'.imm b k→M.imm b k:=fun b l h hp=>by
    have hc:(M.callee g).own b=none:=callee_own_none.2 fun l' hl'=>by rw[h] at hl';cases hl';exact hp
    have hlt:=hI.ownlt b l h
    refine⟨hk.ownn b hlt hc,hk.block b hlt (by simp[Mem.callee]) (fun hb=>?_) hc,fun k hi=>?_⟩
    · cases g with
      |false=>simp[Mem.callee] at hb
      | true=>
        rcases gb_own hI hb with this|⟨i,j,this⟩<;>rw[h] at this<;>cases this
        simp[priv] at hp
    · rcases hk.immn b k hi with h1|h1|h1
      · exact h1
      · omega
      · exact absurd hc h1
  have no:∀b,b<w.heap.size→¬(g=true∧b∈M.gb)→M.own b=none→w'.heap[b]?=w.heap[b]?∧(∀k,M'.imm b k→M.imm b k)∧M'.own b=none:=fun b hlt hx h=>by
    have hc:(M.callee g).own b=none:=callee_own_none.2 fun l' hl'=>by rw[h] at hl';cases hl'
    refine⟨hk.block b hlt (by simp[Mem.callee]) (fun hb=>?_) hc,fun k hi=>?_,hk.ownn b hlt hc⟩
    · cases g with
      |false=>simp[Mem.callee] at hb
      |true=>exact hx ⟨rfl,hb⟩
    · rcases hk.immn b k hi with h1|h1|h1
      · exact h1
      · omega
      · exact absurd hc h1
  have gbx:∀b,b∈M'.gb→b∈M.gb∨w.heap.size≤b∨(M.callee g).own b≠none:=fun b hb=>by
    rcases hk.gbn b hb with h1|h1
    · cases g with
      |false=>simp[Mem.callee] at h1
      |true=>exact .inl h1
    · exact .inr h1
  have lbg:∀b,b∈M.lb→b∉M.gb:=fun b h1 h2=>by
    have:=hI.nodup
    rw[List.nodup_append] at this
    exact this.2.2 b h1 b h2 rfl
  have gbb:∀b,b∈(M.back M' g mk).gb→b∈M.gb∨w.heap.size≤b∨(M.callee g).own b≠none:=fun b hb=>by
    cases g with
    |false=>exact .inl hb
    |true=>exact gbx b hb
  have hext:Ext M w (M.back M' g mk) w':=⟨fun i k h=>by
      cases g with
      |false=>exact h
      |true=>exact hk.ext.gb i k h,hk.ext.imm,hk.ext.cell,fun b hb=>by
      cases g with
      |false=>exact⟨Nat.le_refl _,fun _=>rfl⟩
      |true=>exact hk.ext.st b hb⟩
  have G:Good M w (M.back M' g mk) w' (fun l=>priv g l=false) (fun b=>g=true∧b∈M.gb):=
    ⟨hext,hk.size,fun _ _ h=>h,
      fun b l h hl=>by
        have hp:priv g l=true:=by simpa using hl
        obtain⟨p1,p2,p3⟩:=pv b l h hp
        refine⟨bown b l h hp,p2,fun k h1 h2=>h1 (p3 k h2),fun h=>h,fun h1 h2=>?_⟩
        rcases gbb b h2 with h3|h3|h3
        · exact h1 h3
        · have:=hI.ownlt b l h;omega
        · exact h3 (callee_own_none.2 fun l' hl'=>by rw[h] at hl';cases hl';exact hp),
      fun b hlt hx h=>by
        obtain⟨n1,n2,n3⟩:=no b hlt hx h
        refine⟨n1,fun k h1 h2=>h1 (n2 k h2),?_⟩
        rw[bown2 b (fun l hl=>by rw[h] at hl;cases hl),n3];rfl,
      fun i hi=>by
        cases g with
        |false=>rfl
        |true=>exact absurd (show priv true (Loc.gh i 0)=false from rfl) hi⟩
  -- the callee's boxes
  have G2 :Good M' w' (M.back M' g mk) w' (fun l=>¬∃i j,l= .gh i j∧g=true) (fun b=>∃l,M.own b=some l∧priv g l=true)∨g=false:=by
    cases hgb:g with
    |false=>exact .inr rfl
    | true=>
      subst hgb
      refine .inl ⟨⟨fun _ _ h=>h,fun _ _ h=>h,fun _ _ _=>rfl,fun _ _=>⟨Nat.le_refl _,fun _=>rfl⟩⟩,Nat.le_refl _,fun i k h=>by rw[hlb] at h;simp at h,fun b l h hl=>?_,fun b hlt hx h=>?_,fun _ _=>rfl⟩
      · obtain⟨i,j,rfl,_⟩:=Classical.not_not.1 hl
        have np:∀l,M.own b=some l→priv true l=false:=fun l hl=>by
          cases hp:priv true l with
          |false=>rfl
          |true=>rw[(pv b l hl hp).1] at h;cases h
        refine⟨by rw[bown2 b np,h];rfl,rfl,fun _ h=>h,fun _ h2=>?_,fun h=>h⟩
        have h3:=lb_own hI h2
        have h4:=(no b (lb_lt hI b h2) (fun hx=>lbg b h2 hx.2) h3).2.2
        rw[h4] at h;cases h
      · refine⟨rfl,fun _ h=>h,?_⟩
        rw[bown2 b (fun l hl=>by
          cases hp:priv true l with
          |false=>rfl
          |true=>exact absurd ⟨l,hl,hp⟩ hx),h];rfl
  refine⟨⟨fun t u hu=>⟨(hI.env t u hu).1,(hI.env t u hu).2.good G (fun i=>by simp[priv])⟩,hI.defers,hI.lbl,?_,?_,fun i cs blk h1 h2=>(hI.lh i cs blk h1 h2).good G (fun hx=>lbg blk (List.mem_of_getElem? h2) hx.2) (fun i=>by simp[priv]),
    fun i o blk h1 h2=>?_,hG.gl,hG.immlt,fun b l h=>?_,fun b hb=>?_⟩,⟨hk.os,hk.tape,hk.output,hk.size,hext,fun k hlt h1 h2 h3=>(no k hlt (fun hx=>h2 hx.2) h3).1,fun k h=> .inl h,fun b hb=>(gbb b hb).imp_right fun h=>h.imp_right fun h h2=>h (callee_own_none.2 fun l' hl'=>by rw[h2] at hl';cases hl'),fun k hlt h=>?_,fun b k h=>?_⟩,?_⟩
  · cases g with
    |false=>exact hI.gbl
    |true=>exact hG.gbl
  · cases g with
    |false=>exact hI.nodup
    | true=>
      have h1:=hI.nodup
      have h2:=hG.nodup
      rw[List.nodup_append] at h1 ⊢
      rw[hlb,List.nil_append] at h2
      refine⟨h1.1,h2,fun x hx y hy hxy=>?_⟩
      subst hxy
      rcases gbx x hy with h3|h3|h3
      · exact lbg x hx h3
      · have:=lb_lt hI x hx;omega
      · exact h3 (callee_own_none.2 fun l' hl'=>by rw[lb_own hI hx] at hl';cases hl')
  · cases g with
    |false=>exact (hI.gh i o blk h1 h2).good G (by simp) (fun j=>by simp[priv])
    | true=>
      have h3:=hG.gh i o blk h1 h2
      refine h3.good (G2.resolve_right (by simp)) ?_ (fun j h=>h ⟨i,j,rfl,rfl⟩)
      rintro⟨l,h4,h5⟩
      rcases gbx blk (List.mem_of_getElem? h2) with h6|h6|h6
      · rcases gb_own hI h6 with this|⟨i',j',this⟩<;>rw[h4] at this<;>cases this
        simp[priv] at h5
      · have:=hI.ownlt blk l h4;omega
      · exact h6 (callee_own_none.2 fun l' hl'=>by rw[h4] at hl';cases hl';exact h5)
  · cases ho:M.own b with
    |some l'=>exact Nat.lt_of_lt_of_le (hI.ownlt b l' ho) hk.size
    | none=>
      rw[bown2 b (fun l hl=>by rw[ho] at hl;cases hl),Option.bind_eq_some_iff] at h
      obtain⟨l',h1,_⟩:=h
      exact hG.ownlt b l' h1
  · cases g with
    |false=>exact Nat.lt_of_lt_of_le (hI.gblt b hb) hk.size
    |true=>exact hG.gblt b hb
  · by_cases hx:g=true∧k∈M.gb
    · obtain⟨rfl,hx⟩:=hx
      have hc:(M.callee true).own k=none:=callee_own_none.2 fun l' hl'=>by rw[h] at hl';cases hl'
      rw[bown2 k (fun l hl=>by rw[h] at hl;cases hl),hk.ownn k hlt hc];rfl
    · rw[bown2 k (fun l hl=>by rw[h] at hl;cases hl),(no k hlt hx h).2.2];rfl
  · rcases hk.immn b k h with h1|h1|h1
    · exact .inl h1
    · exact .inr (.inl h1)
    · refine .inr (.inr fun h2=>h1 (callee_own_none.2 fun l hl=>by rw[h2] at hl;cases hl))
  · -- the result
    have ow : ∀{i:Nat} {z:Nat} {xs:List PV} {u:Value},OwnRep fi M' w' (.res i) z xs u→(g=false→noGs xs=true)→OwnRep fi (M.back M' g mk) w' (mk i) z xs u:=by
      intro i z xs u h hng
      obtain⟨h1,h2⟩:=h
      have e1:RepP fi (M.back M' g mk) w' (.sl false z xs) u:=by
        cases hgb:g with
        |true=>subst hgb;exact h1.mono (show Ext M' w' (M.back M' true mk) w' from⟨fun _ _ h=>h,fun _ _ h=>h,fun _ _ _=>rfl,fun _ _=>⟨Nat.le_refl _,fun _=>rfl⟩⟩)
        | false=>
          subst hgb
          exact (h1.noG M.gb M.st (by simpa [PV.noG] using hng rfl)).mono (show Ext {M' with gb:=M.gb,st:=M.st } w' (M.back M' false mk) w' from⟨fun _ _ h=>h,fun _ _ h=>h,fun _ _ _=>rfl,fun _ _=>⟨Nat.le_refl _,fun _=>rfl⟩⟩)
      refine⟨e1,?_⟩
      rcases h2 with h2|⟨b,o,c,cs,e,hv,ho,hh,hs,hk',hb1,hb2⟩
      · exact .inl h2
      · have np:∀l,M.own b=some l→priv g l=false:=fun l hl=>by
          cases hp:priv g l with
          |false=>rfl
          |true=>rw[(pv b l hl hp).1] at ho;cases ho
        refine .inr ⟨b,o,c,cs,e,hv,by rw[bown2 b np,ho];rfl,hh,hs,hk',fun h2=>?_,fun h2=>?_⟩
        · have h3:=lb_own hI h2
          have h4:=(no b (lb_lt hI b h2) (fun hx=>lbg b h2 hx.2) h3).2.2
          rw[h4] at ho;cases ho
        · cases hgb:g with
          |true=>subst hgb;exact hb2 h2
          | false=>
            subst hgb
            rcases gb_own hI (b:=b) h2 with h3|⟨i',j',h3⟩
            · have h4:=(no b (hI.gblt b h2) (by simp) h3).2.2
              rw[h4] at ho;cases ho
            · rw[(pv b _ h3 rfl).1] at ho;cases ho
    have rp:∀{p:PV} {u:Value},RepP fi M' w' p u→(g=false→p.noG=true)→RepP fi (M.back M' g mk) w' p u:=by
      intro p u h hng
      cases hgb:g with
      |true=>subst hgb;exact h.mono (show Ext M' w' (M.back M' true mk) w' from⟨fun _ _ h=>h,fun _ _ h=>h,fun _ _ _=>rfl,fun _ _=>⟨Nat.le_refl _,fun _=>rfl⟩⟩)
      | false=>
        subst hgb
        exact (h.noG M.gb M.st (hng rfl)).mono (show Ext {M' with gb:=M.gb,st:=M.st } w' (M.back M' false mk) w' from⟨fun _ _ h=>h,fun _ _ h=>h,fun _ _ _=>rfl,fun _ _=>⟨Nat.le_refl _,fun _=>rfl⟩⟩)
    have rc:∀{i:Nat} {p:PV} {u:Value},RepC fi M' w' (.res i) p u→(g=false→p.noG=true)→RepC fi (M.back M' g mk) w' (mk i) p u:=by
      intro i p u h hng
      unfold RepC at *
      split at h
      · exact ow h (fun e=>by simpa [PV.noG] using hng e)
      · exact rp h hng
    unfold RepAt at hr ⊢
    split at hr
    · exact ow hr (fun e=>by simpa [PV.noG] using hg e)
    · cases hok
    · obtain⟨vs,h1,h2,h3⟩:=hr
      exact⟨vs,h1,h2,fun i c u hc hu=>rc (h3 i c u hc hu) (fun e=>jgd (by simpa [PV.noG] using hg e) hc)⟩
    · obtain⟨vs,h1,h2,h3⟩:=hr
      exact⟨vs,h1,h2,fun i c u hc hu=>rc (h3 i c u hc hu) (fun e=>jgd (by simpa [PV.noG] using hg e) hc)⟩
    · rename_i h3
      exact (rp (hr.repP (jit hok (fun cs=>h3 cs))) hg).repE
end
end Go.Lw
end

/-! New lists of zeros, and how they become boxes. -/
section
namespace Go.Lw
open Go Go.RowKit
section
variable {fi:FI} {M M':Mem} {w w':World} {P:Program} {s s':St} {a:Act} {cf:CallF}
end
end Go.Lw
end

/-! All functions by number. Written by program (gen.py). -/
section
namespace Go.Lw
open Go
def pgL:List (Option IDef):=[
 none,
 none,
 none,
 none,
 none,
 none,
 none,
 none,
 none,
 none,
 none,
 none,
 none,
 none,
 none,
 none,
 none,
 none,
 none,
 none,
 none,
 none,
 some (.code qn),
 some (.code qv),
 none,
 none,
 some (.code qw),
 some (.code q6l),
 none,
 none,
 none,
 none,
 none,
 none,
 none,
 none,
 some (.code qx),
 none,
 some (.code ql),
 some (.code q6u),
 none,
 none,
 none,
 none,
 none,
 none,
 some (.code q6x),
 none,
 none,
 none,
 some (.code q2x),
 none,
 none,
 none,
 none,
 none,
 none,
 none,
 none,
 none,
 none,
 some (.code q7m),
 some (.code q3f),
 some (.code qo),
 some (.code q7n),
 some (.code q3i),
 none,
 none,
 none,
 none,
 none,
 none,
 some (.code q6y),
 some (.code q71),
 some (.code q74),
 some (.code qdv),
 some (.code q5y),
 some (.code q5z),
 some (.code q61),
 some (.code q1k),
 some (.code qt),
 some (.code qu),
 none,
 none,
 none,
 none,
 some (.code q5m),
 none,
 none,
 none,
 none,
 none,
 none,
 none,
 none,
 none,
 none,
 none,
 none,
 none,
 none,
 some (.code q6a),
 some (.code q75),
 some (.code q2l),
 some (.code q6c),
 some (.code q6f),
 some (.code q6g),
 some (.code q5r),
 some (.code q6h),
 some (.code q6i),
 none,
 some (.code q2g),
 none,
 none,
 none,
 none,
 none,
 none,
 some (.code q2m),
 some (.lib (libGrow 1 8)),
 none,
 none,
 none,
 none,
 none,
 none,
 none,
 none,
 none,
 none,
 none,
 none,
 none,
 none,
 none,
 none,
 none,
 none,
 none,
 none,
 none,
 none,
 none,
 none,
 none,
 none,
 none,
 none,
 none,
 none,
 none,
 none,
 none,
 none,
 none,
 none,
 none,
 none,
 none,
 none,
 none,
 none,
 none,
 none,
 none,
 none,
 none,
 none,
 none,
 none,
 none,
 none,
 none,
 none,
 none,
 none,
 none,
 none,
 none,
 none,
 none,
 none,
 none,
 none,
 none,
 none,
 none,
 none,
 none,
 none,
 none,
 none,
 none,
 none,
 none,
 none,
 none,
 none,
 none,
 none,
 none,
 none,
 none,
 none,
 none,
 none,
 none,
 none,
 none,
 none,
 none,
 none,
 none,
 none,
 none,
 none,
 none,
 none,
 none,
 none,
 none,
 none,
 none,
 none,
 none,
 none,
 none,
 none,
 none,
 none,
 none,
 none,
 none,
 none,
 none,
 none,
 none,
 none,
 none,
 none,
 none,
 none,
 none,
 none,
 none,
 none,
 none,
 none,
 none,
 none,
 none,
 none,
 none,
 none,
 none,
 some (.lib libCut),
 none,
 none,
 none,
 none,
 some (.lib libItoa),
 none,
 some (.lib libSplit),
 some (.lib libAtoi),
 none,
 none,
 none,
 none,
 none,
 none,
 none,
 none,
 none,
 none,
 none,
 none,
 none,
 none,
 none,
 none,
 none,
 none,
 none,
 none,
 none,
 none,
 none,
 none,
 none,
 none,
 none,
 none,
 none,
 none,
 none,
 none,
 none,
 none,
 none,
 none,
 none,
 none,
 none,
 none,
 none,
 none,
 none,
 none,
 none,
 none,
 none,
 none,
 none,
 none,
 none,
 none,
 none,
 none,
 none,
 none,
 none,
 none,
 none,
 none,
 none,
 none,
 none,
 none,
 none,
 none,
 none,
 none,
 none,
 none,
 none,
 none,
 none,
 none,
 none,
 none,
 none,
 none,
 none,
 none,
 none,
 none,
 some (.code qdx),
 some (.code qeg),
 some (.code qz),
 some (.code q77),
 none,
 none,
 some (.code q3c),
 some (.code q7g),
 some (.code q79),
 none,
 some (.code qel),
 some (.lib libWS),
 some (.lib libWB),
 some (.lib libBS),
 some (.code q2h),
 some (.code q7i),
 some (.code q3e),
 none,
 none,
 some (.code q1o),
 none,
 none,
 none,
 some (.code q5l),
 some (.code qm),
 none,
 none,
 none,
 none,
 none,
 none,
 none,
 none,
 some (.code q7b),
 some (.code q7d),
 some (.code qh),
 none,
 none,
 none,
 none,
 none,
 none,
 none,
 none,
 none,
 none]
def pg:Prg:=fun f=>(pgL[f]?).bind id
end Go.Lw
end

/-! Words of the laws of functions: numbers, lists of numbers, wrapping. -/
section
namespace Go.Lw
open Go
def andV (x:Int×Int):PV:= .agg [I x.1,I x.2]
theorem jfp {n:Int} (h1: -9223372036854775808≤n) (h2:n≤9223372036854775807):IntKind.i64.wrap n=n:=by
 simp only[IntKind.wrap,IntKind.bits,IntKind.signed]
 simp
 omega
abbrev LI (xs:List Int):PV:= .sl false 1 (xs.map I)
abbrev Sz (n:Nat):Prop:=n≤140737488355328
theorem jg9 {n:Nat} (h:Sz n):IntKind.i64.wrap ((n:Int)+1)=(n:Int)+1:=jfp (by omega) (by simp only[Sz] at h;omega)
section
variable {kd:IntKind} {z b o n f:Nat} {g:Bool} {l:List PV}
@[simp] theorem one_int (x : Int) : PV.one (.int kd x) = true := rfl
@[simp] theorem one_bool (x : Bool) : PV.one (.bool x) = true := rfl
@[simp] theorem one_str (x : ByteArray) : PV.one (.str x) = true := rfl
@[simp] theorem one_sl : PV.one (.sl g z l) = true := rfl
@[simp] theorem one_bs : PV.one (.bs true b o n z) = true := rfl
@[simp] theorem one_ptr : PV.one (.ptr true b o) = true := rfl
@[simp] theorem one_nilp : PV.one .nilp = true := rfl
@[simp] theorem one_ep (e : PV) : PV.one (.ep e o) = true := rfl
@[simp] theorem one_mp : PV.one (.mp b) = true := rfl
@[simp] theorem one_nilm : PV.one .nilm = true := rfl
@[simp] theorem one_nilf : PV.one .nilf = true := rfl
@[simp] theorem one_nils : PV.one .nils = true := rfl
@[simp] theorem one_sub (b g o n : Nat) : PV.one (.sub b g o n) = true := rfl
@[simp] theorem one_stk (b g n : Nat) : PV.one (.stk b g n) = true := rfl
@[simp] theorem one_fn : PV.one (.fn f l) = true := rfl
@[simp] theorem one_nilI : PV.one .nilI = true := rfl
@[simp] theorem one_someI : PV.one .someI = true := rfl
@[simp] theorem frz_int (G : List GObj) (x : Int) : frz n G (.int kd x) = .int kd x := rfl
@[simp] theorem frzR_int (G : List GObj) (x : Int) : frzR n G (.int kd x) = .int kd x := rfl
@[simp] theorem frz_bool (G : List GObj) (x : Bool) : frz n G (.bool x) = .bool x := rfl
@[simp] theorem frzR_bool (G : List GObj) (x : Bool) : frzR n G (.bool x) = .bool x := rfl
@[simp] theorem frz_str (G : List GObj) (x : ByteArray) : frz n G (.str x) = .str x := rfl
@[simp] theorem frzR_str (G : List GObj) (x : ByteArray) : frzR n G (.str x) = .str x := rfl
@[simp] theorem frz_sl (G : List GObj)  : frz n G (.sl g z l) = .sl g z l := rfl
@[simp] theorem frzR_sl (G : List GObj)  : frzR n G (.sl g z l) = .sl g z l := rfl
@[simp] theorem frz_agg (G : List GObj)  : frz n G (.agg l) = .agg l := rfl
@[simp] theorem frzR_agg (G : List GObj)  : frzR n G (.agg l) = .agg l := rfl
@[simp] theorem frz_ptr (G : List GObj)  : frz n G (.ptr g b o) = .ptr g b o := rfl
@[simp] theorem frzR_ptr (G : List GObj)  : frzR n G (.ptr g b o) = .ptr g b o := rfl
@[simp] theorem frz_nilp (G : List GObj)  : frz n G (.nilp) = .nilp := rfl
@[simp] theorem frzR_nilp (G : List GObj)  : frzR n G (.nilp) = .nilp := rfl
@[simp] theorem frz_ep (G : List GObj) (e : PV) : frz n G (.ep e o) = .ep e o := rfl
@[simp] theorem frzR_ep (G : List GObj) (e : PV) : frzR n G (.ep e o) = .ep e o := rfl
@[simp] theorem frz_mp (G : List GObj)  : frz n G (.mp b) = .mp b := rfl
@[simp] theorem frzR_mp (G : List GObj)  : frzR n G (.mp b) = .mp b := rfl
@[simp] theorem frz_nilm (G : List GObj)  : frz n G (.nilm) = .nilm := rfl
@[simp] theorem frzR_nilm (G : List GObj)  : frzR n G (.nilm) = .nilm := rfl
@[simp] theorem frz_nilf (G : List GObj)  : frz n G (.nilf) = .nilf := rfl
@[simp] theorem frzR_nilf (G : List GObj)  : frzR n G (.nilf) = .nilf := rfl
@[simp] theorem frz_nils (G : List GObj)  : frz n G (.nils) = .nils := rfl
@[simp] theorem frzR_nils (G : List GObj)  : frzR n G (.nils) = .nils := rfl
@[simp] theorem frz_stk (G : List GObj) (b g i : Nat) : frz n G (.stk b g i) = .stk b g i := rfl
@[simp] theorem frzR_stk (G : List GObj) (b g i : Nat) : frzR n G (.stk b g i) = .stk b g i := rfl
@[simp] theorem frz_fn (G : List GObj)  : frz n G (.fn f l) = .fn f l := rfl
@[simp] theorem frzR_fn (G : List GObj)  : frzR n G (.fn f l) = .fn f l := rfl
@[simp] theorem frz_nilI (G : List GObj)  : frz n G (.nilI) = .nilI := rfl
@[simp] theorem frzR_nilI (G : List GObj)  : frzR n G (.nilI) = .nilI := rfl
@[simp] theorem frz_someI (G : List GObj)  : frz n G (.someI) = .someI := rfl
@[simp] theorem frzR_someI (G : List GObj)  : frzR n G (.someI) = .someI := rfl
@[simp] theorem frzR_tup (G : List GObj) : frzR n G (.tup l) = .tup (l.map (frz n G)) := rfl
@[simp] theorem frzR_bs (G : List GObj) (i : Nat) : frzR n G (.bs g b o i z) = frz n G (.bs g b o i z) := rfl
@[simp] theorem aok_int (x : Int) : argOk (.int kd x) = true := rfl
@[simp] theorem aok_bool (x : Bool) : argOk (.bool x) = true := rfl
@[simp] theorem aok_str (x : ByteArray) : argOk (.str x) = true := rfl
@[simp] theorem aok_sl : argOk (.sl g z l) = true := rfl
@[simp] theorem aok_bs : argOk (.bs true b o n z) = true := rfl
@[simp] theorem aok_ptr : argOk (.ptr true b o) = true := rfl
@[simp] theorem aok_nilp : argOk .nilp = true := rfl
@[simp] theorem aok_ep (e : PV) : argOk (.ep e o) = true := rfl
@[simp] theorem aok_mp : argOk (.mp b) = true := rfl
@[simp] theorem aok_nilm : argOk .nilm = true := rfl
@[simp] theorem aok_nilf : argOk .nilf = true := rfl
@[simp] theorem aok_nils : argOk .nils = true := rfl
@[simp] theorem aok_sub (b g o n : Nat) : argOk (.sub b g o n) = true := rfl
@[simp] theorem aok_stk (b g n : Nat) : argOk (.stk b g n) = true := rfl
@[simp] theorem aok_fn : argOk (.fn f l) = true := rfl
@[simp] theorem aok_nilI : argOk .nilI = true := rfl
@[simp] theorem aok_someI : argOk .someI = true := rfl
@[simp] theorem aok_agg : argOk (.agg l) = l.all PV.one := rfl
@[simp] theorem noG_int (x : Int) : PV.noG (.int kd x) = true := rfl
@[simp] theorem noG_bool (x : Bool) : PV.noG (.bool x) = true := rfl
@[simp] theorem noG_str (x : ByteArray) : PV.noG (.str x) = true := rfl
@[simp] theorem noG_sl : PV.noG (.sl g z l) = noGs l := rfl
@[simp] theorem noG_agg : PV.noG (.agg l) = noGs l := rfl
@[simp] theorem noG_tup : PV.noG (.tup l) = noGs l := rfl
@[simp] theorem noGs_nil : noGs [] = true := rfl
@[simp] theorem jrn (x : PV) : noGs (x :: l) = (x.noG && noGs l) := rfl
end
section
variable {nl z b o n f:Nat} {g:Bool} {l:List PV} {kd:IntKind}
@[simp] theorem stays_int (x : Int) : stays nl (.int kd x) = true := rfl
@[simp] theorem stays_bool (x : Bool) : stays nl (.bool x) = true := rfl
@[simp] theorem stays_str (x : ByteArray) : stays nl (.str x) = true := rfl
@[simp] theorem stays_sl : stays nl (.sl g z l) = true := rfl
@[simp] theorem stays_agg : stays nl (.agg l) = true := rfl
@[simp] theorem stays_bst : stays nl (.bs true b o n z) = true := rfl
@[simp] theorem stays_sub (b g o n : Nat) : stays nl (.sub b g o n) = true := rfl
@[simp] theorem stays_stk (b g n : Nat) : stays nl (.stk b g n) = true := rfl
@[simp] theorem stays_ptrt : stays nl (.ptr true b o) = true := rfl
@[simp] theorem stays_ptrf : stays nl (.ptr false b o) = decide (b < nl) := rfl
@[simp] theorem stays_nilp : stays nl .nilp = true := rfl
@[simp] theorem stays_mp : stays nl (.mp b) = true := rfl
@[simp] theorem stays_fn : stays nl (.fn f l) = true := rfl
end
@[simp] theorem beqI (a b : Int) : (a == b) = decide (a = b) := by
 by_cases h:a=b<;>simp[h]
@[simp] theorem bneI (a b : Int) : (a != b) = !decide (a = b) := by
 by_cases h:a=b<;>simp[bne,h]
section
variable {R:Type} {a b c d e f:PV}
@[simp] theorem unT_1 (k : PV → Option R) : unT (R := R) 1 (.tup [a]) k = k a := rfl
@[simp] theorem unT_2 (k : PV → PV → Option R) : unT (R := R) 2 (.tup [a, b]) k = k a b := rfl
@[simp] theorem unT_3 (k : PV → PV → PV → Option R) : unT (R := R) 3 (.tup [a, b, c]) k = k a b c := rfl
@[simp] theorem unT_4 (k : PV → PV → PV → PV → Option R) : unT (R := R) 4 (.tup [a, b, c, d]) k = k a b c d := rfl
@[simp] theorem unT_5 (k : PV → PV → PV → PV → PV → Option R) : unT (R := R) 5 (.tup [a, b, c, d, e]) k = k a b c d e := rfl
@[simp] theorem unT_6 (k : PV → PV → PV → PV → PV → PV → Option R) : unT (R := R) 6 (.tup [a, b, c, d, e, f]) k = k a b c d e f := rfl
@[simp] theorem unA_1 (k : PV → Option R) : unA (R := R) 1 (.agg [a]) k = k a := rfl
@[simp] theorem unA_2 (k : PV → PV → Option R) : unA (R := R) 2 (.agg [a, b]) k = k a b := rfl
@[simp] theorem unA_3 (k : PV → PV → PV → Option R) : unA (R := R) 3 (.agg [a, b, c]) k = k a b c := rfl
@[simp] theorem unA_4 (k : PV → PV → PV → PV → Option R) : unA (R := R) 4 (.agg [a, b, c, d]) k = k a b c d := rfl
@[simp] theorem unA_5 (k : PV → PV → PV → PV → PV → Option R) : unA (R := R) 5 (.agg [a, b, c, d, e]) k = k a b c d e := rfl
@[simp] theorem unA_6 (k : PV → PV → PV → PV → PV → PV → Option R) : unA (R := R) 6 (.agg [a, b, c, d, e, f]) k = k a b c d e f := rfl
end
def mapI (l:List (Int×Int)):List (PV×PV):=l.map fun x=>(I x.1,I x.2)
def setI:List (Int×Int)→Int→Int→List (Int×Int)
 |[],k,v=>[(k,v)]
 |(a,u)::l,k,v=>if k=a then (k,v)::l else (a,u)::setI l k v
def findI:List (Int×Int)→Int→Option Int
 |[],_=>none
 |(a,u)::l,k=>if k=a then some u else findI l k
@[simp] theorem isKey_int (kn : Nat) (x : Int) (kd : IntKind) : isKey kn (.int kd x) = (kn == 0) := rfl
@[simp] theorem isKey_agg (kn : Nat) (l : List PV) : isKey kn (.agg l) = (kn != 0 && l.length == kn) := rfl
@[simp] theorem jro (l : List (Int × Int)) (k v : Int) : mset 0 (mapI l) (I k) (I v) = some (mapI (setI l k v)) := by
 induction l with
 |nil=>rfl
 | cons x l ih=>
  obtain⟨a,u⟩:=x
  by_cases h:k=a
  ·simp[mapI,setI,mset,sameKey,h]
  ·have:mset 0 (l.map fun x=>(I x.1,I x.2)) (I k) (I v)=some (mapI (setI l k v)):=ih
   simp[mapI,setI,mset,sameKey,beq_false_of_ne h,h,this]
@[simp] theorem mfind_mapI (l : List (Int × Int)) (k : Int) : mfind 0 (mapI l) (I k) = some ((findI l k).map I) := by
 induction l with
 |nil=>rfl
 |cons x l ih=>
  obtain⟨a,u⟩:=x
  have:mfind 0 (l.map fun x=>(I x.1,I x.2)) (I k)=some ((findI l k).map I):=ih
  by_cases h:k=a
  ·simp[mapI,findI,mfind,sameKey,h]
  ·simp[mapI,findI,mfind,sameKey,beq_false_of_ne h,h,this]
theorem jrp {R:Type} (gh:List GObj) (l:List (Int×Int)) (k v:Int) (f:List GObj→Option R) :
  muX (gh++[.map (mapI l)]) 0 (.mp gh.length) (I k) (I v) f=f (gh++[.map (mapI (setI l k v))]):=by
 simp[jro,isKey]
end Go.Lw
end

/-! What the code of function text_has comes to, piece by piece. Written by program (dprint.py). -/
section
set_option maxRecDepth 10000
set_option maxHeartbeats 4000000
namespace Go.Lw
open Go
noncomputable section
variable {pg:Prg} {gh:List GObj} {e:IExit} {s:St}
def qfa:Tr:=(tB 5 (tI 3 (tB 2 (uI 0) .nil) (uB 4)) (tB 7 (uI 6) (uB 8)))
def q8h (pg:Prg) (x0:Int) (gh:List GObj):DR:=
  br 5 (x0==1) (some (.ret,⟨[(2,B true)],[],gh⟩)) (some (.ret,⟨[(2,(B (x0==21)))],[],gh⟩))
theorem q8h_ {x0:Int} (h:q8h pg x0 gh=some (e,s)):runL pg qb5 ⟨[(0,I x0)],[],gh⟩=some (e,s):=
 jfl qfa (Eq.trans (by kernel_rfl) h)
end
end Go.Lw
end

/-! What the code of function text_number comes to, piece by piece. Written by program (dprint.py). -/
section
set_option maxRecDepth 10000
set_option maxHeartbeats 4000000
namespace Go.Lw
open Go
noncomputable section
variable {pg:Prg} {gh:List GObj} {e:IExit} {s:St}
def qfc:Tr:=(tI 15 (.node 8 (.tup 2) (tI 4 (tI 2 (.node 0 (.ce (.str)) .nil .nil) (uB 3)) (.node 6 (.tup 2) (uO 5) (.node 7 (.ce (.str)) .nil .nil))) (tO 12 (tO 10 (uI 9) (uI 11)) (tB 14 (uB 13) .nil))) (tB 22 (.node 19 (.ce (.str)) (tB 17 (uB 16) (uB 18)) (tB 21 (uI 20) .nil)) (.node 26 (.ce (.str)) (tI 24 (uB 23) (.node 25 (.ce (.str)) .nil .nil)) (tB 28 (uB 27) .nil))))
def q51 (pg:Prg) (s0:ByteArray) (gh:List GObj):DR:=
  callR gh true (callL pg 263 [.str s0] gh) fun r1 gh2=>unT 2 r1 fun r3 r4=>unI .i64 (degr1 (degr1 r3)) fun n5=>isC (degr1 (degr1 r4)) (isC (degr (degr1 (degr1 r4))) (stK 0 (degr (degr1 (degr1 r4))) (isC (degr (degr (degr1 (degr1 r4)))) (nilB (degr (degr (degr (degr1 (degr1 r4))))) fun b6=>
  br 14 b6 (
  br 18 (decide (0≤n5)) (
  br 23 (decide (((ByteArray.size s0:Nat):Int)≤9)) (
  callR gh2 true (callL pg 260 [I n5] gh2) fun r8 gh9=>unS r8 fun s10=>some (.ret,⟨[(2,I n5),(3,(B (ByteArray.toList s10==ByteArray.toList s0)))],[],gh9⟩)) (some (.ret,⟨[(2,I n5),(3,B false)],[],gh2⟩))) (some (.ret,⟨[(2,I n5),(3,B false)],[],gh2⟩))) (some (.ret,⟨[(2,I n5),(3,B false)],[],gh2⟩))))))
theorem q51_ {s0:ByteArray} (h:q51 pg s0 gh=some (e,s)):runL pg qb9 ⟨[(0,.str s0)],[],gh⟩=some (e,s):=
 jfl qfc (Eq.trans (by kernel_rfl) h)
end
end Go.Lw
end

/-! What the code of function text_numbers comes to, piece by piece. Written by program (dprint.py). -/
section
set_option maxRecDepth 10000
set_option maxHeartbeats 4000000
namespace Go.Lw
open Go
noncomputable section
variable {pg:Prg} {gh:List GObj} {e:IExit} {s:St}
def q8i:Tr:=(.node 19 (.tup 2) (tB 10 (tB 5 (tI 1 (uO 0) (uO 4)) (.node 8 (.ce (.str)) (uO 6) (uI 9))) (tB 14 (tI 12 (uO 11) (uI 13)) (.node 17 (.tup 2) (.node 16 (.ce (.str)) .nil .nil) (.node 18 (.ce (.str)) .nil .nil)))) (tO 27 (tB 23 (tB 21 (uI 20) (uB 22)) (tI 25 (uO 24) (uO 26))) (tI 31 (tO 29 (uI 28) (uO 30)) (tB 33 (uI 32) .nil))))
def q52 (pg:Prg) (x1:Int) (v6 v11:PV) (x12 x13:Int) (gh:List GObj):DR:=
  br 14 (decide (x13<x12)) (
  idX 1 none (degr v11) x13 fun p1=>
  ldX [] gh false 1 (degr p1) fun v2=>unS v2 fun s3=>stK 0 v6 (stK 0 v11 (
  callR gh true (callL pg 365 [.str s3] gh) fun r4 gh5=>unT 2 r4 fun r6 r7=>unI .i64 (degr1 (degr1 r6)) fun n8=>unB (degr1 (degr1 r7)) fun b9=>stK 0 v6 (stK 0 v11 (stK 0 v6 (stK 0 v11 (
  br 23 (!b9) (some (.ret,⟨[(4,.sl true 1 []),(5,B false)],[],gh5⟩)) (
  apX 1 8 v6 (.sl false 1 [I n8]) fun l10=>stK 0 v11 (stK 0 v11 (stK 0 v11 (some (.normal,⟨[(1,I x1),(6,.sl true 1 l10),(11,v11),(12,I x12),(13,(I (IntKind.i64.wrap (x13+1))))],[],gh5⟩)))))))))))) (some ((.exit 0),⟨[(1,I x1),(6,v6),(11,v11),(12,I x12),(13,I x13),(14,(B (decide (x13<x12))))],[],gh⟩))
theorem q52_ {x1:Int} {v6 v11:PV} {x12 x13:Int} (h:q52 pg x1 v6 v11 x12 x13 gh=some (e,s)):runL pg qb7 ⟨[(1,I x1),(6,v6),(11,v11),(12,I x12),(13,I x13)],[],gh⟩=some (e,s):=
 jfl q8i (Eq.trans (by kernel_rfl) h)
def qd5 (pg:Prg) (x1:Int) (v6:PV) (gh:List GObj):DR:=isC (degr v6) (isC (degr v6) (lenS (degr (degr v6)) fun n1=>stK 0 (degr v6) (some (.ret,⟨[(4,(degr v6)),(5,(B ((n1:Int)==x1)))],[],gh⟩))))
theorem qd5_ {x1:Int} {v6:PV} (h:qd5 pg x1 v6 gh=some (e,s)):runL pg q4g ⟨[(1,I x1),(6,v6)],[],gh⟩=some (e,s):=
 jfl q8i (Eq.trans (by kernel_rfl) h)
def q8j (pg:Prg) (v0:PV) (x1:Int) (gh:List GObj):DR:=stK 0 v0 (isC (degr v0) (lenS (degr (degr v0)) fun n1=>stK 0 (degr v0) (
  kR (runL pg q7j ⟨[(1,I x1),(6,.sl true 1 []),(11,(degr v0)),(12,(I (n1:Int))),(13,I 0)],[],gh⟩) (fun e s=>nx e s (fun e s=>some (e,s)) fun s=>kR (runL pg q4g s) (fun e s=>some (e,s))))))
theorem q8j_ {v0:PV} {x1:Int} (h:q8j pg v0 x1 gh=some (e,s)):runL pg qb8 ⟨[(0,v0),(1,I x1)],[],gh⟩=some (e,s):=
 jfl q8i (Eq.trans (by kernel_rfl) h)
end
end Go.Lw
end

/-! What the code of function text_reader_node comes to, piece by piece. Written by program (dprint.py). -/
section
set_option maxRecDepth 10000
set_option maxHeartbeats 4000000
namespace Go.Lw
open Go
noncomputable section
variable {pg:Prg} {gh:List GObj} {e:IExit} {s:St}
def q3r:Tr:=(tI 54 (tO 28 (.node 13 (.tup 2) (tI 7 (tB 4 (tO 1 (uG 0) .nil) (tB 6 (uI 5) .nil)) (tG 10 (tO 9 (uI 8) .nil) (tI 12 (uO 11) .nil))) (tB 20 (.node 17 (.tup 2) (.node 16 (.ce (.str)) (uO 14) .nil) (tB 19 (uI 18) .nil)) (tI 23 (tB 22 (uB 21) .nil) (uG 24)))) (tB 42 (tI 34 (tB 31 (tB 30 (uI 29) .nil) (tO 33 (uB 32) .nil)) (tB 37 (tB 36 (uB 35) .nil) (tI 41 (uG 38) .nil))) (tI 49 (tO 45 (tO 44 (uB 43) .nil) (.node 48 (.ce (.str)) (uO 46) .nil)) (tB 52 (tI 51 (uI 50) .nil) (uI 53))))) (tB 81 (tB 66 (.node 60 (.tup 2) (tB 57 (tI 56 (uI 55) .nil) (tI 59 (uI 58) .nil)) (tI 63 (tO 62 (uO 61) .nil) (tO 65 (.node 64 (.tup 2) .nil .nil) .nil))) (.node 73 (.agg [.int .i64,.int .i64,.int .i64,.int .i64,.int .i64,.int .i64]) (tI 69 (tB 68 (uB 67) .nil) (tI 72 (uO 70) .nil)) (tI 79 (tI 78 (uO 77) .nil) (uI 80)))) (tB 95 (tI 88 (tI 84 (tO 83 (uI 82) .nil) (tO 87 (uG 86) .nil)) (tI 93 (tI 91 (uI 89) .nil) (uI 94))) (tG 103 (tI 98 (tI 97 (uO 96) .nil) (tG 102 (uI 100) .nil)) (tO 109 (.node 108 (.agg [.int .i64,.int .i64,.int .i64,.int .i64,.int .i64,.int .i64]) (uO 107) .nil) (uO 110))))))
def q8m (pg:Prg) (g0 o0:Nat) (x7 x8:Int) (v9:PV) (g10 o10:Nat) (v11:PV) (x79 x80:Int) (gh:List GObj):DR:=
  br 81 (decide (x80<x79)) (stK 0 v9 (stK 0 v11 (isC (degr v11) (
  idX 1 none (degr (degr v11)) x80 fun p1=>
  ldX [] gh false 1 (degr p1) fun v2=>unG v2 fun g3 o4=>isC (degr v9) (
  idX 1 none (degr (degr v9)) (IntKind.i64.wrap (1+x80)) fun p5=>
  ldX [] gh false 1 (degr p5) fun v6=>unI .i64 v6 fun n7=>
  ob (ghCells gh g3) fun cs8=>gb (stOk 1 o4 [I n7] cs8) (stK 0 v9 (stK 0 v11 (stK 0 v9 (stK 0 v11 (stK 0 v9 (stK 0 v11 (some (.normal,⟨[(0,.ptr true g0 o0),(7,I x7),(8,I x8),(9,v9),(10,.ptr true g10 o10),(11,v11),(79,I x79),(80,(I (IntKind.i64.wrap (x80+1))))],[],(List.set gh g3 (.cells (spliceAt cs8 o4 [I n7])))⟩))))))))))))) (some ((.exit 0),⟨[(0,.ptr true g0 o0),(7,I x7),(8,I x8),(9,v9),(10,.ptr true g10 o10),(11,v11),(79,I x79),(80,I x80),(81,(B (decide (x80<x79))))],[],gh⟩))
theorem q8m_ {g0 o0:Nat} {x7 x8:Int} {v9:PV} {g10 o10:Nat} {v11:PV} {x79 x80:Int} (h:q8m pg g0 o0 x7 x8 v9 g10 o10 v11 x79 x80 gh=some (e,s)):runL pg qb6 ⟨[(0,.ptr true g0 o0),(7,I x7),(8,I x8),(9,v9),(10,.ptr true g10 o10),(11,v11),(79,I x79),(80,I x80)],[],gh⟩=some (e,s):=
 jfl q3r (Eq.trans (by kernel_rfl) h)
def qd6 (pg:Prg) (g0 o0:Nat) (g10 o10:Nat) (gh:List GObj):DR:=
  ob (ghCells gh g0) fun cs1=>ob (cs1[((o0+0)+0)]?) fun v2=>
  ob (ghCells (List.set gh g0 (.cells (spliceAt cs1 ((o0+0)+0) [degr1 v2]))) g10) fun cs3=>
  ob (grab true 6 o10 cs3) fun v4=>unA 6 (degr v4) fun c5 c6 c7 c8 c9 c10=>unI .i64 c5 fun n11=>unI .i64 c6 fun n12=>unI .i64 c7 fun n13=>unI .i64 c8 fun n14=>unI .i64 c9 fun n15=>unI .i64 c10 fun n16=>
  apX 6 48 v2 (.sl false 6 [.agg [I n11,I n12,I n13,I n14,I n15,I n16]]) fun l17=>
  ob (ghCells (List.set gh g0 (.cells (spliceAt cs1 ((o0+0)+0) [degr1 v2]))) g0) fun cs18=>gb (stOk 1 ((o0+0)+0) [.sl true 6 l17] cs18) (some (.ret,⟨[(4,B true)],[],(List.set (List.set gh g0 (.cells (spliceAt cs1 ((o0+0)+0) [degr1 v2]))) g0 (.cells (spliceAt cs18 ((o0+0)+0) [.sl true 6 l17])))⟩))
theorem qd6_ {g0 o0:Nat} {g10 o10:Nat} (h:qd6 pg g0 o0 g10 o10 gh=some (e,s)):runL pg q3d ⟨[(0,.ptr true g0 o0),(10,.ptr true g10 o10)],[],gh⟩=some (e,s):=
 jfl q3r (Eq.trans (by kernel_rfl) h)
def q8n (pg:Prg) (g0 o0:Nat) (x7 x8:Int) (v9:PV) (g10 o10:Nat) (gh:List GObj):DR:=
  callR gh true (callL pg 352 [I x7] gh) fun r1 gh2=>unB r1 fun b3=>stK 0 v9 (
  br 95 b3 (isC (degr v9) (
  idX 1 none (degr (degr v9)) (IntKind.i64.wrap (x8-1)) fun p4=>
  ldX [] gh2 false 1 (degr p4) fun v5=>unI .i64 v5 fun n6=>
  ob (ghCells gh2 g10) fun cs7=>gb (stOk 1 (o10+5) [I n6] cs7) (
  kR (runL pg q3d ⟨[(0,.ptr true g0 o0),(10,.ptr true g10 o10)],[],(List.set gh2 g10 (.cells (spliceAt cs7 (o10+5) [I n6])))⟩) (fun e s=>some (e,s))))) (
  kR (runL pg q3d ⟨[(0,.ptr true g0 o0),(10,.ptr true g10 o10)],[],gh2⟩) (fun e s=>some (e,s))))
theorem q8n_ {g0 o0:Nat} {x7 x8:Int} {v9:PV} {g10 o10:Nat} (h:q8n pg g0 o0 x7 x8 v9 g10 o10 gh=some (e,s)):runL pg q4f ⟨[(0,.ptr true g0 o0),(7,I x7),(8,I x8),(9,v9),(10,.ptr true g10 o10)],[],gh⟩=some (e,s):=
 jfl q3r (Eq.trans (by kernel_rfl) h)
def q54 (pg:Prg) (g0 o0:Nat) (v1:PV) (x7 x8:Int) (gh:List GObj):DR:=isC (degr v1) (
  slX 1 (degr (degr v1)) (some 2) none fun v2=>isC v2 (arK (degr v2) (
  callR gh true (callL pg 362 [(degr v2),I x8] gh) fun r3 gh4=>unT 2 r3 fun r5 r6=>isC (degr1 (degr1 r5)) (unB (degr1 (degr1 r6)) fun b7=>stK 0 (degr1 (degr1 r5)) (stK 0 (degr1 (degr1 r5)) (
  br 68 (!b7) (some (.ret,⟨[(4,B false)],[],gh4⟩)) (isC (degr (degr1 (degr1 r5))) (
  idX 1 none (degr (degr (degr1 (degr1 r5)))) 0 fun p8=>
  ldX [] gh4 false 1 (degr p8) fun v9=>unI .i64 v9 fun n10=>
  ob (ghCells (gh4++[.cells [I 0,I 0,I 0,I 0,I 0,I 0]]) (List.length gh4)) fun cs11=>gb (stOk 6 0 [I x7,I n10,I 0,I 0,I 0,I 0] cs11) (stK 0 (degr1 (degr1 r5)) (stK 0 (degr1 (degr1 r5)) (
  callR (List.set (gh4++[.cells [I 0,I 0,I 0,I 0,I 0,I 0]]) (List.length gh4) (.cells (spliceAt cs11 0 [I x7,I n10,I 0,I 0,I 0,I 0]))) true (callL pg 63 [I x7] (List.set (gh4++[.cells [I 0,I 0,I 0,I 0,I 0,I 0]]) (List.length gh4) (.cells (spliceAt cs11 0 [I x7,I n10,I 0,I 0,I 0,I 0])))) fun r12 gh13=>unI .i64 r12 fun n14=>stK 0 (degr1 (degr1 r5)) (
  kR (runL pg q25 ⟨[(0,.ptr true g0 o0),(7,I x7),(8,I x8),(9,(degr1 (degr1 r5))),(10,(.ptr true (List.length gh4) 0)),(11,(.sl true 1 [(.ptr true (List.length gh4) 2),(.ptr true (List.length gh4) 3),(.ptr true (List.length gh4) 4)])),(79,I n14),(80,I 0)],[],gh13⟩) (fun e s=>nx e s (fun e s=>some (e,s)) fun s=>kR (runL pg q4f s) (fun e s=>some (e,s)))))))))))))))
theorem q54_ {g0 o0:Nat} {v1:PV} {x7 x8:Int} (h:q54 pg g0 o0 v1 x7 x8 gh=some (e,s)):runL pg q26 ⟨[(0,.ptr true g0 o0),(1,v1),(7,I x7),(8,I x8)],[],gh⟩=some (e,s):=
 jfl q3r (Eq.trans (by kernel_rfl) h)
def q1q (pg:Prg) (g0 o0:Nat) (v1:PV) (gh:List GObj):DR:=stK 0 v1 (isC (degr v1) (
  idX 1 none (degr (degr v1)) 0 fun p1=>
  ldX [] gh false 1 (degr p1) fun v2=>unS v2 fun s3=>
  callR gh true (callL pg 365 [.str s3] gh) fun r4 gh5=>unT 2 r4 fun r6 r7=>unI .i64 (degr1 (degr1 r6)) fun n8=>unB (degr1 (degr1 r7)) fun b9=>stK 0 v1 (
  br 22 (!b9) (stK 0 v1 (some (.ret,⟨[(4,B false)],[],gh5⟩))) (
  ob (ghCells gh5 g0) fun cs10=>
  ob (grab false 1 ((o0+0)+0) cs10) fun v11=>isC (degr v11) (lenS (degr (degr v11)) fun n12=>
  br 32 (n8 !=(n12:Int)) (stK 0 v1 (some (.ret,⟨[(4,B false)],[],gh5⟩))) (isC (degr v1) (lenS (degr (degr v1)) fun n13=>
  br 37 (decide ((n13:Int)<2)) (stK 0 v1 (some (.ret,⟨[(4,B false)],[],gh5⟩))) (
  ob (ghCells gh5 g0) fun cs14=>
  ob (grab false 1 (o0+5) cs14) fun v15=>unI .i64 (degr v15) fun n16=>stK 0 v1 (
  br 43 (decide (0<n16)) (some (.ret,⟨[(4,B false)],[],gh5⟩)) (
  slX 1 (.sl false 1 (List.map PV.str textWords)) (some 1) none fun v17=>isC v17 (isC (degr v1) (
  idX 1 none (degr (degr v1)) 1 fun p18=>
  ldX [] gh5 false 1 (degr p18) fun v19=>unS v19 fun s20=>arK (degr v17) (
  callR gh5 true (callL pg 360 [(degr v17),.str s20] gh5) fun r21 gh22=>unI .i64 r21 fun n23=>stK 0 v1 (stK 0 v1 (
  br 52 ((IntKind.i64.wrap (n23+1))==0) (some (.ret,⟨[(4,B false)],[],gh22⟩)) (
  callR gh22 true (callL pg 63 [(I (IntKind.i64.wrap (n23+1)))] gh22) fun r24 gh25=>unI .i64 r24 fun n26=>stK 0 v1 (
  callR gh25 true (callL pg 352 [(I (IntKind.i64.wrap (n23+1)))] gh25) fun r27 gh28=>unB r27 fun b29=>stK 0 v1 (
  br 57 b29 (stK 0 v1 (stK 0 v1 (
  kR (runL pg q26 ⟨[(0,.ptr true g0 o0),(1,v1),(7,(I (IntKind.i64.wrap (n23+1)))),(8,(I (IntKind.i64.wrap ((IntKind.i64.wrap (1+n26))+1))))],[],gh28⟩) (fun e s=>some (e,s))))) (stK 0 v1 (
  kR (runL pg q26 ⟨[(0,.ptr true g0 o0),(1,v1),(7,(I (IntKind.i64.wrap (n23+1)))),(8,(I (IntKind.i64.wrap (1+n26))))],[],gh28⟩) (fun e s=>some (e,s))))))))))))))))))))))
theorem q1q_ {g0 o0:Nat} {v1:PV} (h:q1q pg g0 o0 v1 gh=some (e,s)):runL pg q7h ⟨[(0,.ptr true g0 o0),(1,v1)],[],gh⟩=some (e,s):=
 jfl q3r (Eq.trans (by kernel_rfl) h)
end
end Go.Lw
end

/-! What the code of function text_reader_line comes to, piece by piece. Written by program (dprint.py). -/
section
set_option maxRecDepth 10000
set_option maxHeartbeats 4000000
namespace Go.Lw
open Go
noncomputable section
variable {pg:Prg} {gh:List GObj} {e:IExit} {s:St}
def q8o:Tr:=(tB 47 (tB 23 (tO 12 (tI 7 (tB 4 (.node 1 (.ce (.str)) (uG 0) .nil) (tI 6 (uO 5) .nil)) (.node 10 (.ce (.str)) (tB 9 (uO 8) .nil) (uO 11))) (tB 18 (tI 16 (.node 15 (.ce (.str)) (uO 13) .nil) (uI 17)) (tB 21 (tO 20 (uG 19) .nil) (uI 22)))) (tB 33 (.node 28 (.tup 2) (tO 26 (tO 25 (.node 24 (.tup 2) .nil .nil) .nil) (uI 27)) (tB 31 (tB 30 (uO 29) .nil) (uB 32))) (tB 40 (tI 38 (tG 35 (uI 34) .nil) (uB 39)) (tI 45 (tI 42 (uG 41) .nil) (uB 46))))) (tO 81 (tB 66 (tO 57 (tO 53 (tG 49 (uG 48) .nil) (tI 56 (uO 54) .nil)) (tO 61 (.node 60 (.agg [.int .i64,.int .i64]) (uI 59) .nil) (uO 62))) (tO 74 (tG 69 (tG 68 (uB 67) .nil) (uO 73)) (tI 79 (tO 77 (uI 76) .nil) (.node 80 (.agg [.int .i64,.int .i64]) .nil .nil)))) (tO 98 (tG 89 (tB 87 (tB 86 (uO 82) .nil) (uG 88)) (tI 96 (tO 94 (uO 93) .nil) (uO 97))) (tO 109 (tG 104 (tB 103 (uB 102) .nil) (uG 105)) (tO 113 (tI 112 (uO 110) .nil) (uO 114))))))
def qfe (pg:Prg) (gh:List GObj):DR:=some (.ret,⟨[(4,B true)],[],gh⟩)
theorem qfe_ (h:qfe pg gh=some (e,s)):runL pg q1b ⟨[],[],gh⟩=some (e,s):=
 jfl q8o (Eq.trans (by kernel_rfl) h)
def q1i (pg:Prg) (g0 o0:Nat) (v5:PV) (x6 x7:Int) (gh:List GObj):DR:=isC (degr v5) (
  slX 1 (degr (degr v5)) (some 1) none fun v1=>isC v1 (arK (degr v1) (
  callR gh true (callL pg 362 [(degr v1),I x7] gh) fun r2 gh3=>unT 2 r2 fun r4 r5=>isC (degr1 (degr1 r4)) (unB (degr1 (degr1 r5)) fun b6=>stK 0 (degr1 (degr1 r4)) (
  br 33 (!b6) (stK 0 (degr1 (degr1 r4)) (some (.ret,⟨[(4,B false)],[],gh3⟩))) (
  ob (ghCells gh3 g0) fun cs7=>
  ob (grab false 1 (o0+5) cs7) fun v8=>unI .i64 (degr v8) fun n9=>stK 0 (degr1 (degr1 r4)) (
  br 40 (decide (x6<n9)) (some (.ret,⟨[(4,B false)],[],gh3⟩)) (
  ob (ghCells gh3 g0) fun cs10=>gb (stOk 1 (o0+5) [I x6] cs10) (stK 0 (degr1 (degr1 r4)) (stK 0 (degr1 (degr1 r4)) (stK 0 (degr1 (degr1 r4)) (
  br 46 (x6==1) (
  ob (ghCells (List.set gh3 g0 (.cells (spliceAt cs10 (o0+5) [I x6]))) g0) fun cs11=>ob (cs11[((o0+0)+1)]?) fun v12=>isC (degr (degr1 (degr1 r4))) (
  idX 1 none (degr (degr (degr1 (degr1 r4)))) 0 fun p13=>
  ldX [] (List.set (List.set gh3 g0 (.cells (spliceAt cs10 (o0+5) [I x6]))) g0 (.cells (spliceAt cs11 ((o0+0)+1) [degr1 v12]))) false 1 (degr p13) fun v14=>unI .i64 v14 fun n15=>isC (degr (degr1 (degr1 r4))) (
  idX 1 none (degr (degr (degr1 (degr1 r4)))) 1 fun p16=>
  ldX [] (List.set (List.set gh3 g0 (.cells (spliceAt cs10 (o0+5) [I x6]))) g0 (.cells (spliceAt cs11 ((o0+0)+1) [degr1 v12]))) false 1 (degr p16) fun v17=>unI .i64 v17 fun n18=>
  apX 2 16 v12 (.sl false 2 [.agg [I n15,I n18]]) fun l19=>
  ob (ghCells (List.set (List.set gh3 g0 (.cells (spliceAt cs10 (o0+5) [I x6]))) g0 (.cells (spliceAt cs11 ((o0+0)+1) [degr1 v12]))) g0) fun cs20=>gb (stOk 1 ((o0+0)+1) [.sl true 2 l19] cs20) (
  kR (runL pg q1b ⟨[],[],(List.set (List.set (List.set gh3 g0 (.cells (spliceAt cs10 (o0+5) [I x6]))) g0 (.cells (spliceAt cs11 ((o0+0)+1) [degr1 v12]))) g0 (.cells (spliceAt cs20 ((o0+0)+1) [.sl true 2 l19])))⟩) (fun e s=>some (e,s)))))) (stK 0 (degr1 (degr1 r4)) (
  br 66 (x6==2) (
  ob (ghCells (List.set gh3 g0 (.cells (spliceAt cs10 (o0+5) [I x6]))) g0) fun cs21=>ob (cs21[((o0+0)+2)]?) fun v22=>isC (degr (degr1 (degr1 r4))) (
  idX 1 none (degr (degr (degr1 (degr1 r4)))) 0 fun p23=>
  ldX [] (List.set (List.set gh3 g0 (.cells (spliceAt cs10 (o0+5) [I x6]))) g0 (.cells (spliceAt cs21 ((o0+0)+2) [degr1 v22]))) false 1 (degr p23) fun v24=>unI .i64 v24 fun n25=>isC (degr (degr1 (degr1 r4))) (
  idX 1 none (degr (degr (degr1 (degr1 r4)))) 1 fun p26=>
  ldX [] (List.set (List.set gh3 g0 (.cells (spliceAt cs10 (o0+5) [I x6]))) g0 (.cells (spliceAt cs21 ((o0+0)+2) [degr1 v22]))) false 1 (degr p26) fun v27=>unI .i64 v27 fun n28=>
  apX 2 16 v22 (.sl false 2 [.agg [I n25,I n28]]) fun l29=>
  ob (ghCells (List.set (List.set gh3 g0 (.cells (spliceAt cs10 (o0+5) [I x6]))) g0 (.cells (spliceAt cs21 ((o0+0)+2) [degr1 v22]))) g0) fun cs30=>gb (stOk 1 ((o0+0)+2) [.sl true 2 l29] cs30) (
  kR (runL pg q1b ⟨[],[],(List.set (List.set (List.set gh3 g0 (.cells (spliceAt cs10 (o0+5) [I x6]))) g0 (.cells (spliceAt cs21 ((o0+0)+2) [degr1 v22]))) g0 (.cells (spliceAt cs30 ((o0+0)+2) [.sl true 2 l29])))⟩) (fun e s=>some (e,s)))))) (stK 0 (degr1 (degr1 r4)) (
  br 86 (x6==3) (
  ob (ghCells (List.set gh3 g0 (.cells (spliceAt cs10 (o0+5) [I x6]))) g0) fun cs31=>ob (cs31[((o0+0)+3)]?) fun v32=>isC (degr (degr1 (degr1 r4))) (
  idX 1 none (degr (degr (degr1 (degr1 r4)))) 0 fun p33=>
  ldX [] (List.set (List.set gh3 g0 (.cells (spliceAt cs10 (o0+5) [I x6]))) g0 (.cells (spliceAt cs31 ((o0+0)+3) [degr1 v32]))) false 1 (degr p33) fun v34=>unI .i64 v34 fun n35=>
  apX 1 8 v32 (.sl false 1 [I n35]) fun l36=>
  ob (ghCells (List.set (List.set gh3 g0 (.cells (spliceAt cs10 (o0+5) [I x6]))) g0 (.cells (spliceAt cs31 ((o0+0)+3) [degr1 v32]))) g0) fun cs37=>gb (stOk 1 ((o0+0)+3) [.sl true 1 l36] cs37) (
  kR (runL pg q1b ⟨[],[],(List.set (List.set (List.set gh3 g0 (.cells (spliceAt cs10 (o0+5) [I x6]))) g0 (.cells (spliceAt cs31 ((o0+0)+3) [degr1 v32]))) g0 (.cells (spliceAt cs37 ((o0+0)+3) [.sl true 1 l36])))⟩) (fun e s=>some (e,s))))) (stK 0 (degr1 (degr1 r4)) (
  br 102 (x6==4) (
  ob (ghCells (List.set gh3 g0 (.cells (spliceAt cs10 (o0+5) [I x6]))) g0) fun cs38=>ob (cs38[((o0+0)+4)]?) fun v39=>isC (degr (degr1 (degr1 r4))) (
  idX 1 none (degr (degr (degr1 (degr1 r4)))) 0 fun p40=>
  ldX [] (List.set (List.set gh3 g0 (.cells (spliceAt cs10 (o0+5) [I x6]))) g0 (.cells (spliceAt cs38 ((o0+0)+4) [degr1 v39]))) false 1 (degr p40) fun v41=>unI .i64 v41 fun n42=>
  apX 1 8 v39 (.sl false 1 [I n42]) fun l43=>
  ob (ghCells (List.set (List.set gh3 g0 (.cells (spliceAt cs10 (o0+5) [I x6]))) g0 (.cells (spliceAt cs38 ((o0+0)+4) [degr1 v39]))) g0) fun cs44=>gb (stOk 1 ((o0+0)+4) [.sl true 1 l43] cs44) (
  kR (runL pg q1b ⟨[],[],(List.set (List.set (List.set gh3 g0 (.cells (spliceAt cs10 (o0+5) [I x6]))) g0 (.cells (spliceAt cs38 ((o0+0)+4) [degr1 v39]))) g0 (.cells (spliceAt cs44 ((o0+0)+4) [.sl true 1 l43])))⟩) (fun e s=>some (e,s))))) (
  kR (runL pg q1b ⟨[],[],(List.set gh3 g0 (.cells (spliceAt cs10 (o0+5) [I x6])))⟩) (fun e s=>some (e,s)))))))))))))))))))))
theorem q1i_ {g0 o0:Nat} {v5:PV} {x6 x7:Int} (h:q1i pg g0 o0 v5 x6 x7 gh=some (e,s)):runL pg q24 ⟨[(0,.ptr true g0 o0),(5,v5),(6,I x6),(7,I x7)],[],gh⟩=some (e,s):=
 jfl q8o (Eq.trans (by kernel_rfl) h)
def q55 (pg:Prg) (g0 o0:Nat) (s1:ByteArray) (gh:List GObj):DR:=
  callR gh true (callL pg 262 [.str s1,(.str (⟨#[32]⟩:ByteArray))] gh) fun r1 gh2=>isC r1 (stK 0 r1 (isC (degr r1) (
  idX 1 none (degr (degr r1)) 0 fun p3=>
  ldX [] gh2 false 1 (degr p3) fun v4=>unS v4 fun s5=>
  callR gh2 true (callL pg 360 [(.sl false 1 [.str ByteArray.empty,(.str (⟨#[105,110,105,116]⟩:ByteArray)),(.str (⟨#[110,101,120,116]⟩:ByteArray)),(.str (⟨#[98,97,100]⟩:ByteArray)),(.str (⟨#[104,111,108,100]⟩:ByteArray))]),.str s5] gh2) fun r6 gh7=>unI .i64 r6 fun n8=>stK 0 r1 (stK 0 r1 (
  br 18 (decide (n8<1)) (isC (degr r1) (arK (degr (degr r1)) (
  callR gh7 false (callL pg 361 [.ptr true g0 o0,(degr (degr r1))] gh7) fun r9 gh10=>unB r9 fun b11=>some (.ret,⟨[(4,B b11)],[],gh10⟩)))) (stK 0 r1 (stK 0 r1 (
  br 23 (decide (2<n8)) (stK 0 r1 (stK 0 r1 (
  kR (runL pg q24 ⟨[(0,.ptr true g0 o0),(5,r1),(6,I n8),(7,I 1)],[],gh7⟩) (fun e s=>some (e,s))))) (stK 0 r1 (
  kR (runL pg q24 ⟨[(0,.ptr true g0 o0),(5,r1),(6,I n8),(7,I 2)],[],gh7⟩) (fun e s=>some (e,s))))))))))))
theorem q55_ {g0 o0:Nat} {s1:ByteArray} (h:q55 pg g0 o0 s1 gh=some (e,s)):runL pg q7f ⟨[(0,.ptr true g0 o0),(1,.str s1)],[],gh⟩=some (e,s):=
 jfl q8o (Eq.trans (by kernel_rfl) h)
end
end Go.Lw
end

/-! What the code of function text_Parse comes to, piece by piece. Written by program (dprint.py). -/
section
set_option maxRecDepth 10000
set_option maxHeartbeats 4000000
namespace Go.Lw
open Go
noncomputable section
variable {pg:Prg} {gh:List GObj} {e:IExit} {s:St}
def q8p:Tr:=(.node 24 (.ce (.str)) (tB 13 (.node 7 (.ce (.str)) (tI 4 (tI 3 (.node 0 (.ce (.str)) .nil .nil) .nil) (tI 6 (uG 5) .nil)) (tI 10 (tB 9 (.node 8 (.ce (.str)) .nil .nil) .nil) (tI 12 (.node 11 (.ce (.str)) .nil .nil) .nil))) (tI 19 (tG 16 (.node 15 (.agg [.any,.any,.any,.any,.any,.int .i64]) (.node 14 (.agg [.any,.any,.any,.any,.any]) .nil .nil) .nil) (tB 18 (.node 17 (.ce (.str)) .nil .nil) .nil)) (.node 22 (.ce (.str)) (.node 21 (.tup 3) (uI 20) .nil) (.node 23 (.tup 3) .nil .nil)))) (tI 36 (tG 30 (tB 27 (tB 26 (.node 25 (.ce (.str)) .nil .nil) .nil) (tB 29 (uB 28) .nil)) (tB 33 (tB 32 (.node 31 (.ce (.str)) .nil .nil) .nil) (.node 35 (.agg [.any,.any,.any,.any,.any]) (uB 34) .nil))) (tB 44 (.node 41 (.agg [.any,.any,.any,.any,.any]) (tG 38 (.node 37 (.ce (.str)) .nil .nil) .nil) (tI 43 (uI 42) .nil)) (tG 47 (tI 46 (.node 45 (.agg [.any,.any,.any,.any,.any]) .nil .nil) .nil) (.node 50 (.agg [.any,.any,.any,.any,.any]) .nil .nil)))))
def q3s (pg:Prg) (s0:ByteArray) (g5 o5:Nat) (x6:Int) (vc0_0 vc0_1:PV) (vc0_2 vc0_3 vc0_4:PV) (gh:List GObj):DR:=
  br 18 (!(ByteArray.toList s0==ByteArray.toList ByteArray.empty)) (
  callR gh true (callL pg 255 [.str s0,(.str (⟨#[10]⟩:ByteArray))] gh) fun r1 gh2=>unT 3 r1 fun r3 r4 r5=>unS (degr1 (degr1 r3)) fun s6=>unS (degr1 (degr1 r4)) fun s7=>unB (degr1 (degr1 r5)) fun b8=>
  br 29 (!b8) (some (.ret,⟨[(2,.ptr false 0 0),(3,I x6),(4,I 1)],[[.sl true 6 [],.sl true 2 [],.sl true 2 [],.sl true 1 [],.sl true 1 []]],gh2⟩)) (
  callR gh2 false (callL pg 353 [.ptr true g5 o5,.str s6] gh2) fun r9 gh10=>unB r9 fun b11=>
  br 34 (!b11) (some (.ret,⟨[(2,.ptr false 0 0),(3,I x6),(4,I 1)],[[.sl true 6 [],.sl true 2 [],.sl true 2 [],.sl true 1 [],.sl true 1 []]],gh10⟩)) (some (.normal,⟨[(0,.str s7),(2,.ptr false 0 0),(5,.ptr true g5 o5),(6,(I (IntKind.i64.wrap (x6+1))))],[[vc0_0,vc0_1,vc0_2,vc0_3,vc0_4]],gh10⟩)))) (some ((.exit 0),⟨[(0,.str s0),(2,.ptr false 0 0),(5,.ptr true g5 o5),(6,I x6),(18,(B (!(ByteArray.toList s0==ByteArray.toList ByteArray.empty))))],[[vc0_0,vc0_1,vc0_2,vc0_3,vc0_4]],gh⟩))
theorem q3s_ {s0:ByteArray} {g5 o5:Nat} {x6:Int} {vc0_0 vc0_1:PV} {vc0_2 vc0_3 vc0_4:PV} (h:q3s pg s0 g5 o5 x6 vc0_0 vc0_1 vc0_2 vc0_3 vc0_4 gh=some (e,s)):runL pg qb3 ⟨[(0,.str s0),(2,.ptr false 0 0),(5,.ptr true g5 o5),(6,I x6)],[[vc0_0,vc0_1,vc0_2,vc0_3,vc0_4]],gh⟩=some (e,s):=
 jfl q8p (Eq.trans (by kernel_rfl) h)
def q8q (pg:Prg) (g5 o5:Nat) (vc0_0 vc0_1:PV) (vc0_2 vc0_3 vc0_4:PV) (gh:List GObj):DR:=
  ob (ghCells gh g5) fun cs1=>
  ob (grab true 5 (o5+0) cs1) fun v2=>unA 5 (degr v2) fun c3 c4 c5 c6 c7=>onK (degr1 c3) (onK (degr1 c4) (onK (degr1 c5) (onK (degr1 c6) (onK (degr1 c7) (
  callR gh true (callL pg 38 [(.agg [(degr1 c3),(degr1 c4),(degr1 c5),(degr1 c6),(degr1 c7)])] gh) fun r8 gh9=>unI .i64 r8 fun n10=>
  br 44 (n10 !=0) (some (.ret,⟨[(2,.ptr false 0 0),(3,I 0),(4,I n10)],[[.sl true 6 [],.sl true 2 [],.sl true 2 [],.sl true 1 [],.sl true 1 []]],gh9⟩)) (
  ob (ghCells gh9 g5) fun cs11=>
  ob (grab true 5 (o5+0) cs11) fun v12=>unA 5 (degr v12) fun c13 c14 c15 c16 c17=>onK c13 (onK c14 (onK c15 (onK c16 (onK c17 (some (.ret,⟨[(2,.ptr false 0 0),(3,I 0),(4,I 0)],[[c13,c14,c15,c16,c17]],gh9⟩))))))))))))
theorem q8q_ {g5 o5:Nat} {vc0_0 vc0_1:PV} {vc0_2 vc0_3 vc0_4:PV} (h:q8q pg g5 o5 vc0_0 vc0_1 vc0_2 vc0_3 vc0_4 gh=some (e,s)):runL pg q3b ⟨[(2,.ptr false 0 0),(5,.ptr true g5 o5)],[[vc0_0,vc0_1,vc0_2,vc0_3,vc0_4]],gh⟩=some (e,s):=
 jfl q8p (Eq.trans (by kernel_rfl) h)
def q3t (pg:Prg) (s0:ByteArray) (gh:List GObj):DR:=
  br 13 (decide (10000<((ByteArray.size s0:Nat):Int))) (some (.ret,⟨[(2,.ptr false 0 0),(3,I 0),(4,I 2)],[[.sl true 6 [],.sl true 2 [],.sl true 2 [],.sl true 1 [],.sl true 1 []]],gh⟩)) (
  kR (runL pg q7e ⟨[(0,.str s0),(2,.ptr false 0 0),(5,(.ptr true (List.length gh) 0)),(6,I 1)],[[.sl true 6 [],.sl true 2 [],.sl true 2 [],.sl true 1 [],.sl true 1 []]],(gh++[.cells [.sl true 6 [],.sl true 2 [],.sl true 2 [],.sl true 1 [],.sl true 1 [],I 0]])⟩) (fun e s=>nx e s (fun e s=>some (e,s)) fun s=>kR (runL pg q3b s) (fun e s=>some (e,s))))
theorem q3t_ {s0:ByteArray} (h:q3t pg s0 gh=some (e,s)):runL pg qb4 ⟨[(0,.str s0)],[],gh⟩=some (e,s):=
 jfl q8p (Eq.trans (by kernel_rfl) h)
end
end Go.Lw
end
