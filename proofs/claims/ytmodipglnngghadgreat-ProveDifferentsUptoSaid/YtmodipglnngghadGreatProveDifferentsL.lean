/-
  The texts that the proof stands on, part 12.
-/
import Derived.Test.YtmodipglnngghadGreatProveDifferentsK
import Derived.Laws.MakeOwn
set_option linter.unusedVariables false
set_option linter.unusedSimpArgs false
set_option linter.unnecessarySimpa false

/-! Each operation of the machine (calls apart) does what its Go operation does: parts, maps, lengths, appends. -/
section
namespace Go.Lw
open Go Go.RowKit
section
variable {fi:FI} {M M':Mem} {w w':World} {P:Program} {s s':St} {a:Act} {cf:CallF}
theorem j113 {o:Oper} {d z m:Nat} {agg:Bool} {x i:IX} (A:Asks P fi M w s a o (.index d z m agg x i)) (h:opStep cf s (.index d z m agg x i)=some s'):Sim P fi o M w s' a:=by
 obtain⟨dst,op,ty,pos,aft,gd⟩:=o
 obtain⟨hI,hm,hd,hlt⟩:=A
 cases op<;>simp[mOp] at hm
 rename_i t y j
 obtain⟨⟨hx,hi⟩,hm⟩:=hm
 split at hm
 ·rename_i m' e ht
  simp at hm
  obtain⟨⟨rfl,hz⟩,ha⟩:=hm
  simp only[opStep] at h
  split at h
  ·rename_i k n hn
   have hiv:=(jqt hI hi hn).int
   split at h
   ·rename_i cs hp
    split at h
    ·rename_i hc
     simp only[Option.map_eq_some_iff] at h
     obtain⟨p,hg,rfl⟩:=h
     obtain⟨vs,hv,hl,hvv⟩:=(jqt hI hx hp).agg
     obtain⟨r,h1,h2⟩:=jvq (P:=P) hg hl hvv ha (fun _=>hz)
     refine Sim.pure hI hd (hlt d rfl) ?_ h2.repE.repAt
     simp[execOp,hiv,hv,Instr.index,run_underlying ht,asIntOf,hc.1,hc.2,run_sizeOf' hz,h1]
    ·cases h
   ·cases h
  ·cases h
 ·cases hm
theorem j114 {o:Oper} {d:Nat} {x i:IX} (A:Asks P fi M w s a o (.indexS d x i)) (h:opStep cf s (.indexS d x i)=some s'):Sim P fi o M w s' a:=by
 obtain⟨dst,op,ty,pos,aft,gd⟩:=o
 obtain⟨hI,hm,hd,hlt⟩:=A
 cases op<;>simp[mOp] at hm
 rename_i t y j
 obtain⟨⟨hx,hi⟩,hm⟩:=hm
 have ht:P.underlying t=some .string:=by
  split at hm
  ·assumption
  ·cases hm
 simp only[opStep] at h
 split at h
 ·rename_i k n hn
  have hiv:=(jqt hI hi hn).int
  split at h
  ·rename_i b hp
   have hv:=(jqt hI hx hp).str
   split at h
   ·rename_i h0
    simp only[Option.map_eq_some_iff] at h
    obtain⟨u,hu,rfl⟩:=h
    exact Sim.pure hI hd (hlt d rfl) (v:= .int .u8 u.toNat) (by simp[execOp,hiv,hv,j101 (P:=P) ht h0 hu]) (RepP.repE (.int _ _)).repAt
   ·cases h
  ·cases h
 ·cases h
theorem j115 {o:Oper} {d kn:Nat} {m k:IX} {ok:Bool} {zero:PV} (A:Asks P fi M w s a o (.lookup d kn m k ok zero)) (h:opStep cf s (.lookup d kn m k ok zero)=some s'):Sim P fi o M w s' a:=by
 obtain⟨dst,op,ty,pos,aft,gd⟩:=o
 obtain⟨hI,hm,hd,hlt⟩:=A
 cases op<;>simp[mOp] at hm
 rename_i t y j ok'
 obtain⟨⟨⟨hx,hk⟩,rfl⟩,hm⟩:=hm
 split at hm
 ·rename_i kt et ht
  simp only[Bool.and_eq_true] at hm
  obtain⟨hkt,hz⟩:=hm
  simp only[opStep] at h
  split at h
  ·rename_i b kv hp hkv
   split at h
   ·rename_i es hes
    split at h
    ·cases h
    ·rename_i hki
     have hki':isKey kn kv=true:=by simpa using hki
     unfold zeroIs at hz
     cases hit:P.info? et with
     |none=>simp[hit] at hz
     | some it=>
      cases hzv:it.zero with
      |none=>simp[hit,hzv] at hz
      | some zv=>
       simp[hit,hzv] at hz
       have L:=fun (r:Option PV) (hr:mfind kn es kv=some r)=>j10f (P:=P) hI ht hkt hit hzv hz (jqt hI hx hp) hes (jqt hI hk hkv) hki' (ok:=ok) hr
       split at h
       ·rename_i v hf
        cases h
        obtain⟨r,h1,h2⟩:=L _ hf
        exact Sim.pure hI hd (hlt d rfl) (by simp[execOp,h1]) h2.repE.repAt
       ·rename_i hf
        cases h
        obtain⟨r,h1,h2⟩:=L _ hf
        exact Sim.pure hI hd (hlt d rfl) (by simp[execOp,h1]) h2.repE.repAt
       ·cases h
   ·cases h
  ·cases h
 ·cases hm
theorem j116 {o:Oper} {kn:Nat} {m k x:IX} (A:Asks P fi M w s a o (.mupd kn m k x)) (h:opStep cf s (.mupd kn m k x)=some s'):Sim P fi o M w s' a:=by
 obtain⟨dst,op,ty,pos,aft,gd⟩:=o
 obtain⟨hI,hm,hd,hlt⟩:=A
 have hdn:dst=none:=hd
 subst hdn
 simp only[opStep] at h
 split at h
 ·rename_i b kv v hp hkv hv
  split at h
  ·rename_i es hes
   split at h
   ·rename_i hc
    simp only[Option.map_eq_some_iff] at h
    obtain⟨es',hs,rfl⟩:=h
    cases op<;>simp[mOp] at hm<;>rename_i t y j z<;>obtain⟨⟨⟨hx,hk⟩,hy⟩,hm⟩:=hm<;>split at hm<;>try (cases hm;done)
    all_goals
     rename_i kt et ht
     obtain⟨w2,h1,h2,h3⟩:=j10k (P:=P) hI ht hm (jqt hI hx hp) hes (jqt hI hk hkv) hc.2.2 (jqt hI hy hv) hc.1 hc.2.1 hs
     exact⟨.skip,undef,M,w2,by simp[execOp,h1],.inr ⟨rfl,rfl⟩,h2,h3⟩
   ·cases h
  ·cases h
 ·cases h
theorem jrh {b:Builtin} {ats:Array TypeId} {ty:TypeId} {cs:Array Bool} {args:Array Value}:invoke (.builtin b ats ty cs) args=builtin b ats ty cs args:=rfl
theorem j117 {o:Oper} {d kd:Nat} {x:IX} (A:Asks P fi M w s a o (.len d kd x)) (h:opStep cf s (.len d kd x)=some s'):Sim P fi o M w s' a:=by
 obtain⟨dst,op,ty,pos,aft,gd⟩:=o
 obtain⟨hI,hm,hd,hlt⟩:=A
 cases op with
 | call c=>
  obtain⟨callee,args,argTypes⟩:=c
  cases callee with
  | builtin b=>
   cases b<;>simp[mOp] at hm
   split at hm
   ·rename_i y t ha ht
    simp only[Bool.and_eq_true] at hm
    obtain⟨hx,hm⟩:=hm
    have ha':args= #[y]:=by apply Array.ext';simpa using ha
    subst ha'
    have fin:∀(n:Nat),(Builtin.len_ argTypes ty #[a.eval y]).run P w= .ok (.int .i64 n) w→Sim P fi ⟨dst,.call ⟨.builtin .len,#[y],argTypes⟩,ty,pos,aft,gd⟩ M w (s.put d (.int .i64 n)) a:=fun n hn=>by
     refine Sim.pure hI hd (hlt d rfl) (v:= .int .i64 n) ?_ (RepP.repE (.int _ _)).repAt
     simp[execOp,resolve,jrh,builtin,hn]
    obtain rfl|rfl|rfl|h4:kd=0∨kd=1∨kd=2∨3≤kd:=by omega
    ·split at hm<;>try (first|(simp at hm;done)|omega)
     rename_i e _ hu
     simp only[opStep] at h
     split at h<;>try (first|(simp at h;done)|omega)
     ·rename_i ow z xs _ hp
      cases h
      obtain⟨A,c,hv,hcl⟩:=(jqt hI hx hp).slC
      exact fin _ (by rw[hv];exact len_sl (P:=P) ht hu w)
     ·rename_i g b off n z _ hp
      cases h
      have hx':=jqt hI hx hp
      have hv:∃A c,a.eval y= .slice A n c:=by
       cases g with
       |true=>
        generalize hu:a.eval y=u at hx'
        cases (show RepP fi M w (.bs true b off n z) u from hx') with
        |bs _ _ _ _ A c blk hb hA hc=>exact⟨A,c,rfl⟩
       |false=>obtain⟨blk,A,c,_,hv,_⟩:=hx';exact⟨A,c,hv⟩
      obtain⟨A,c,hv⟩:=hv
      exact fin _ (by rw[hv];exact len_sl (P:=P) ht hu w)
     ·rename_i b gen n _ hp
      cases h
      have hx':=jqt hI hx hp
      have hv:∃A c,a.eval y= .slice A n c:=by
       generalize hu:a.eval y=u at hx'
       cases (show RepP fi M w (.stk b gen n) u from hx') with
       |stk _ _ _ blk c hb hg hA hc=>exact⟨_,c,rfl⟩
      obtain⟨A,c,hv⟩:=hv
      exact fin _ (by rw[hv];exact len_sl (P:=P) ht hu w)
     ·rename_i b gen off n _ hp
      cases h
      have hx':=jqt hI hx hp
      have hv:∃A c,a.eval y= .slice A n c:=by
       generalize hu:a.eval y=u at hx'
       cases (show RepP fi M w (.sub b gen off n) u from hx') with
       |sub _ _ _ _ blk c A hb hg hA hc hAd=>exact⟨_,c,rfl⟩
      obtain⟨A,c,hv⟩:=hv
      exact fin _ (by rw[hv];exact len_sl (P:=P) ht hu w)
     ·rename_i _ hp
      cases h
      have hx':=jqt hI hx hp
      have hv:a.eval y= .slice none 0 0:=by
       generalize hu:a.eval y=u at hx'
       cases (show RepP fi M w .nils u from hx') with
       |nils=>rfl
      exact fin _ (by rw[hv];exact len_sl (P:=P) ht hu w)
    ·split at hm<;>try (first|(simp at hm;done)|omega)
     rename_i _ hu
     simp only[opStep] at h
     split at h<;>try (first|(simp at h;done)|omega)
     rename_i b _ hp
     cases h
     have hv:=(jqt hI hx hp).str
     exact fin _ (by rw[hv];exact j102 (P:=P) ht hu w)
    ·split at hm<;>try (first|(simp at hm;done)|omega)
     rename_i kt et _ hu
     simp only[opStep] at h
     split at h<;>try (first|(simp at h;done)|omega)
     rename_i b _ hp
     split at h
     ·rename_i es hes
      cases h
      exact fin _ (j10g (P:=P) hI ht hu (jqt hI hx hp) hes)
     ·cases h
    ·split at hm<;>first|(simp at hm;done)|omega
   ·cases hm
  |_=>simp[mOp] at hm
 |_=>simp[mOp] at hm
theorem j118 {o:Oper} {d z bytes:Nat} {sx x:IX} (A:Asks P fi M w s a o (.append d z bytes sx x)) (h:opStep cf s (.append d z bytes sx x)=some s'):Sim P fi o M w s' a:=by
 obtain⟨dst,op,ty,pos,aft,gd⟩:=o
 obtain⟨hI,hm,hd,hlt⟩:=A
 cases op with
 | call c=>
  obtain⟨callee,args,argTypes⟩:=c
  cases callee with
  | builtin b=>
   cases b<;>simp[mOp] at hm
   split at hm
   ·rename_i y y' t t' ha ht
    simp only[Bool.and_eq_true,beq_iff_eq,decide_eq_true_eq] at hm
    obtain⟨⟨⟨⟨⟨hs,hx⟩,rfl⟩,hz0⟩,hb0⟩,hm⟩:=hm
    have ha':args= #[y,y']:=by apply Array.ext';simpa using ha
    have ht':argTypes= #[t,t]:=by apply Array.ext';simpa using ht
    subst ha';subst ht'
    split at hm<;>try (cases hm;done)
    rename_i e hu
    split at hm<;>try (cases hm;done)
    rename_i i hi
    simp only[Bool.and_eq_true,beq_iff_eq] at hm
    obtain⟨⟨hsz,hby⟩,hm⟩:=hm
    split at hm<;>try (cases hm;done)
    rename_i zv hzv
    simp at hm
    simp only[opStep,Option.bind_eq_some_iff] at h
    obtain⟨xv,hxv,h⟩:=h
    split at h
    ·rename_i o2 z2 ys
     simp only[Option.bind_eq_some_iff] at h
     obtain⟨⟨v,e'⟩,hv,h⟩:=h
     cases v with
     | sl o1 z1 xs=>
      simp only at h
      split at h
      ·rename_i hc
       obtain⟨rfl,rfl,rfl,hbd⟩:=hc
       cases h
       obtain⟨M1,hI1,k1,hr,_,hgb,himm⟩:=jss hI hs hv
       have hxr:RepP fi M w (.sl false z2 ys) (a.eval y'):=by
        have:=jqt hI hx hxv
        cases o2 with
        |false=>exact this
        |true=>
         cases x with
         |t n=>simp only[evalX,Option.map_eq_some_iff] at hxv;obtain⟨q,_,hq⟩:=hxv;cases q<;>simp[degr] at hq
         |c q=>simp only[evalX,Option.some.injEq] at hxv;cases q<;>simp[degr] at hxv
         |f id=>simp[evalX] at hxv
       have hx1:RepP fi M1 w (.sl false z2 ys) (a.eval y'):=hxr.mono k1.ext
       obtain⟨r,M2,w2,h1,h2,k2⟩:=j109 (P:=P) (ty:=ty) hI1 hu hi hzv hsz hby hm hz0 hb0 hr hx1 hbd (hlt d rfl)
       refine⟨.value r,r,M2,w2,?_,.inl rfl,by rw[show dst=some d from hd];exact h2,k1.trans k2⟩
       simp[execOp,resolve,jrh,builtin,h1]
      ·cases h
     |_=>cases h
    ·cases h
   ·cases hm
  |_=>simp[mOp] at hm
 |_=>simp[mOp] at hm
theorem j119 {o:Oper} {d i:Nat} {x:IX} (A:Asks P fi M w s a o (.extract d x i)) (h:opStep cf s (.extract d x i)=some s'):Sim P fi o M w s' a:=by
 obtain⟨dst,op,ty,pos,aft,gd⟩:=o
 obtain⟨hI,hm,hd,hlt⟩:=A
 cases op<;>simp[mOp] at hm
 rename_i y j
 obtain⟨hx,rfl⟩:=hm
 simp only[opStep] at h
 split at h
 ·rename_i vs hp
  simp only[Option.map_eq_some_iff] at h
  obtain⟨p,hg,rfl⟩:=h
  obtain⟨us,hv,hl,hvv⟩:=(jqt hI hx hp).tup
  have hi:i<us.length:=by rw[hl];exact (List.getElem?_eq_some_iff.1 hg).1
  have hr:=hvv i p _ hg (List.getElem?_eq_getElem hi)
  refine Sim.pure hI hd (hlt d rfl) (v:=us[i]) ?_ hr.repE.repAt
  simp[execOp,hv,Instr.extract,List.getElem?_eq_getElem hi]
 ·cases h
theorem j11a {o:Oper} {d:Nat} {xs:List IX} (A:Asks P fi M w s a o (.maxi d xs)) (h:opStep cf s (.maxi d xs)=some s'):Sim P fi o M w s' a:=by
 obtain⟨dst,op,ty,pos,aft,gd⟩:=o
 obtain⟨hI,hm,hd,hlt⟩:=A
 cases op with
 | call c=>
  obtain⟨callee,args,argTypes⟩:=c
  cases callee with
  | builtin b=>
   cases b<;>simp[mOp] at hm
   simp only[opStep,Option.bind_eq_some_iff,Option.map_eq_some_iff] at h
   obtain⟨vs,hvs,r,hr,rfl⟩:=h
   obtain⟨h1,h2⟩:=jrg hI hm hvs
   unfold maxL at hr
   split at hr
   ·rename_i k n
    cases hr
    obtain⟨y,ha⟩:∃y,args= #[y]:=by
     obtain⟨l⟩:=args
     match l,h1 with
     |[y],_=>exact⟨y,rfl⟩
    subst ha
    have hv:=(h2 0 _ y rfl rfl).int
    refine Sim.pure hI hd (hlt d rfl) (v:= .int k n) ?_ (RepP.repE (.int _ _)).repAt
    simp[execOp,resolve,jrh,builtin,hv,Builtin.max_]
   ·rename_i k n k' n'
    split at hr
    ·rename_i hk
     subst hk
     cases hr
     obtain⟨y,z,ha⟩:∃y z,args= #[y,z]:=by
      obtain⟨l⟩:=args
      match l,h1 with
      |[y,z],_=>exact⟨y,z,rfl⟩
     subst ha
     have hv:=(h2 0 _ y rfl rfl).int
     have hv2:=(h2 1 _ z rfl rfl).int
     refine Sim.pure hI hd (hlt d rfl) (v:= .int k (if n'>n then n' else n)) ?_ (RepP.repE (.int _ _)).repAt
     simp[execOp,resolve,jrh,builtin,hv,hv2,Builtin.max_,Builtin.max2]
    ·cases hr
   ·cases hr
  |_=>simp[mOp] at hm
 |_=>simp[mOp] at hm
end
end Go.Lw
end

/-! Each operation of the machine (calls apart) does what its Go operation does: structs, arrays, lists that are made. -/
section
namespace Go.Lw
open Go Go.RowKit
section
variable {fi:FI} {M M':Mem} {w w':World} {P:Program} {s s':St} {a:Act} {cf:CallF}
theorem jue {z:Nat} (x:PV) (hx:x.cells.length=z):∀(n j:Nat),((List.replicate n x).flatMap PV.cells)[j]?=if j<n*z then x.cells[j%z]? else none
 |0,j=>by simp
 | n+1,j=>by
  rw[List.replicate_succ,List.flatMap_cons,Nat.add_mul,Nat.one_mul]
  by_cases h:j<z
  ·rw[List.getElem?_append_left (by omega),if_pos (by omega),Nat.mod_eq_of_lt h]
  ·rw[List.getElem?_append_right (by omega),jue x hx n,hx]
   by_cases h2:j<n*z+z
   ·rw[if_pos (by omega),if_pos h2,←Nat.mod_eq_sub_mod (by omega)]
   ·rw[if_neg (by omega),if_neg h2]
theorem jw5 {z:Nat} (x:PV) (hx:x.cells.length=z) (n:Nat):((List.replicate n x).flatMap PV.cells).length=n*z:=by
 simp[List.length_flatMap,hx]
theorem jw6 (zs:Array Value) (n j:Nat) (h:j<n):(madeCells zs n).toList[j]?=some (zs[j%zs.size]!):=by
 simp[madeCells,h]
theorem jw7 {zero:PV} {zv:Value} {z:Nat} (hc:cOk zero zv=true) (hl:zero.cells.length=z) (ha:argOk zero=true) (hs:zv.cells.size=z) (n:Nat) (mk:Nat→Loc) :
  RepAt fi M w mk (.agg ((List.replicate n zero).flatMap PV.cells)) (.agg (madeCells zv.cells (n*z))):=by
 refine⟨(madeCells zv.cells (n*z)).toList,by simp,by rw[jw5 zero hl];simp[size_madeCells],fun j c u hcj huj=>?_⟩
 rw[jue zero hl] at hcj
 split at hcj
 ·rename_i hj
  rw[jw6 _ _ _ hj,hs] at huj
  obtain⟨vs,e1,e2,e3,_⟩:=(cOk_at (fi:=fi) (M:=M) (w:=w) hc (fun _=>mk j)).cells ha
  have hjz:j%z<z:=Nat.mod_lt _ (by rcases z with _|z;simp at hj;omega)
  refine e3 (j%z) c u hcj ?_
  have:zv.cells.toList[j%z]?=some u:=by
   rw[←huj]
   simp only[Array.getElem?_toList]
   rw[getElem!_pos zv.cells (j%z) (by omega)]
   exact Array.getElem?_eq_getElem (by omega)
  rw[e1] at this;exact this
 ·cases hcj
theorem j11b {o:Oper} {d z bytes:Nat} {g:Bool} {zero:PV} {l:IX} (A:Asks P fi M w s a o (.mksl d g z bytes zero l)) (h:opStep cf s (.mksl d g z bytes zero l)=some s'):Sim P fi o M w s' a:=by
 obtain⟨dst,op,ty,pos,aft,gd⟩:=o
 obtain⟨hI,hm,hd,hlt⟩:=A
 cases op<;>simp[mOp] at hm
 rename_i t y y'
 obtain⟨⟨⟨hx,hx'⟩,hb0⟩,hm⟩:=hm
 split at hm<;>try (cases hm;done)
 rename_i e hu
 split at hm<;>try (cases hm;done)
 rename_i i hi
 simp only[Bool.and_eq_true,beq_iff_eq] at hm
 obtain⟨⟨hsz,hby⟩,hm⟩:=hm
 split at hm<;>try (cases hm;done)
 rename_i zv hzv
 simp only[Bool.and_eq_true,beq_iff_eq] at hm
 obtain⟨hzc,hzs⟩:=hm
 simp only[opStep] at h
 split at h
 ·rename_i k n hn
  split at h
  ·rename_i hc
   obtain⟨h0,hbd,hzl,hok⟩:=hc
   have v1:=(jqt hI hx hn).int
   have v2:=(jqt hI hx' hn).int
   have hok':argOk (.agg ((List.replicate n.toNat zero).flatMap PV.cells))=true:=by
    simp only[argOk,PV.cells,List.all_eq_true,List.mem_flatMap,List.mem_replicate] at hok ⊢
    rintro c ⟨x,⟨_,rfl⟩,hc⟩
    exact hok c hc
   have hb1:n*1≤n*(bytes:Int):=Int.mul_le_mul_of_nonneg_left (by omega) h0
   have hmx:(maxBytes:Int)=140737488355328:=rfl
   have hrun:=run_make (P:=P) w t e i zv hu hi hzv k k n n h0 (Int.le_refl _) (by rw[hby,Int.mul_comm];omega) (by omega)
   rw[hsz] at hrun
   cases g with
   | true=>
    cases h
    obtain⟨M2,hI2,k2,hr2⟩:=hI.newBox true (jw7 (fi:=fi) (M:=M) (w:=w) hzc hzl hok hzs n.toNat Loc.lim) hok' e
    refine⟨_,.slice (some ⟨w.heap.size,0,none⟩) n.toNat n.toNat,M2,_,?_,.inl rfl,?_,k2⟩
    ·simp only[execOp,v1,v2,Sem.run_bind,hrun];rfl
    ·rw[show dst=some d from hd]
     refine hI2.put (hlt d rfl) (RepE.repAt ?_)
     cases (show RepP fi M2 _ (.ptr true _ 0) _ from hr2) with
     |ptr _ _ _ hb=>exact RepP.repE (.bs _ _ _ _ _ _ _ hb (.inr rfl) (Nat.le_refl _))
   | false=>
    simp only at h
    split at h<;>try (cases h;done)
    rename_i hfl
    cases h
    obtain⟨us,u1,u2,u3⟩:=jw7 (fi:=fi) (M:=M) (w:=w) hzc hzl hok hzs n.toNat Loc.lim
    rw[jw5 zero hzl] at u2
    have u1':(madeCells zv.cells (n.toNat*z))=us.toArray:=Value.agg.inj u1
    rw[u1'] at hrun
    obtain⟨M1,hI1,k1⟩:=hI.newOwn (hlt d rfl) (xs:=List.replicate n.toNat zero) (z:=z) (fun e he=>by rw[List.eq_of_mem_replicate he];exact hzl) (fun e he=>by rw[List.eq_of_mem_replicate he];exact hok) us [] (by simpa using u2)
     (fun i e j p he hp=>by
      obtain⟨hi',rfl⟩:=List.getElem?_eq_some_iff.1 he
      rw[List.getElem_replicate] at hp
      have hjz:j<z:=by have:=(List.getElem?_eq_some_iff.1 hp).1;omega
      have hin:i<n.toNat:=by simpa using hi'
      have hlt2:i*z+j<n.toNat*z:=by
       have:=Nat.mul_le_mul_right z (show i+1≤n.toNat by omega)
       rw[Nat.add_mul,Nat.one_mul] at this;omega
      have hg:=jue zero hzl n.toNat (i*z+j)
      rw[if_pos hlt2,Nat.mul_comm i z,Nat.mul_add_mod,Nat.mod_eq_of_lt hjz,hp] at hg
      rw[Nat.mul_comm i z]
      have hul:z*i+j<us.length:=by rw[u2,Nat.mul_comm z i];exact hlt2
      refine⟨us[z*i+j],List.getElem?_eq_getElem hul,?_⟩
      have:=u3 (z*i+j) p _ hg (List.getElem?_eq_getElem hul)
      cases zero<;>simp[isFlat] at hfl<;>(cases j<;>simp[PV.cells] at hp;subst hp;exact this))
     n.toNat (by simp) (by simp[u2]) e us.toArray (by simp)
    refine⟨_,.slice (some ⟨w.heap.size,0,none⟩) n.toNat n.toNat,M1,_,?_,.inl rfl,?_,k1⟩
    ·simp only[execOp,v1,v2,Sem.run_bind,hrun];rfl
    ·rw[show dst=some d from hd]
     simpa using hI1
  ·cases h
 ·cases h
theorem jw8 {α β:Type} (F:α→Sem β) (G:α→Option β) (hFG:∀x y,G x=some y→(F x).run P w= .ok y w):∀{l:List α} {L:List β},l.mapM G=some L→(l.mapM F).run P w= .ok L w
 |[],L,h=>by simp at h;subst h;simp
 |x::l,L,h=>by
  simp only[List.mapM_cons,Option.bind_eq_bind,Option.bind_eq_some_iff] at h
  obtain⟨y,hy,L',hL,h⟩:=h
  simp at h;subst h
  simp[List.mapM_cons,hFG x y hy,jw8 F G hFG hL]
theorem j11c {α β:Type} (F:α→Sem β) (G:α→Option β) (hFG:∀x y,G x=some y→(F x).run P w= .ok y w) {l:Array α} {L:List β} (h:l.toList.mapM G=some L):(l.mapM F).run P w= .ok L.toArray w:=by
 rw[Array.mapM_eq_mapM_toList,map_eq_pure_bind,Sem.run_bind,jw8 F G hFG h];rfl
theorem j11d {t:TypeId} {zv:Value} {i:TypeInfo} {parts:Array (Nat×Value)} {us:List Value} (hi:P.info? t=some i) (hz:i.zero=some zv)
  (h:∀place:Nat→Option (Nat×Nat),(∀j q,placeOf P t j=some q→place j=some q)→Instr.fill place zv.cells parts.toList=some us.toArray)
  (hp:∃j q,placeOf P t j=some q):(Instr.build t parts).run P w= .ok (.agg us.toArray) w:=by
 obtain⟨j,q,hjq⟩:=hp
 unfold placeOf at h hjq
 split at hjq
 ·rename_i fs ht
  simp only[Option.bind_eq_some_iff] at hjq
  obtain⟨L,hL,_⟩:=hjq
  simp only[ht,hL,Option.bind_some] at h
  have h2:=h (L.toArray[·]?) (fun j q hq=>by simpa using hq)
  have h3:(fs.mapM (m:=Sem) fun f=>do pure (f.offset,←sizeOf f.type)).run P w= .ok L.toArray w:=j11c _ _ (fun f q hq=>by
   simp only[Option.map_eq_some_iff] at hq
   obtain⟨i,hi,rfl⟩:=hq
   simp[sizeOf,typeInfo,hi]) hL
  have h4:(zeroValue t).run P w= .ok zv w:=by simp[zeroValue,typeInfo,hi,hz]
  simp only[Instr.build,Sem.run_bind,h4,Result.andThen,run_underlying ht,h3,h2]
  rfl
 ·rename_i m e ht
  simp only[Option.map_eq_some_iff] at hjq
  obtain⟨z,hsz,_⟩:=hjq
  simp only[ht,hsz,Option.map_some] at h
  have h2:=h (fun i=>some (i*z,z)) (fun j q hq=>by simpa using hq)
  simp[Instr.build,zeroValue,typeInfo,hi,hz,run_underlying ht,run_sizeOf' hsz,h2]
 ·cases hjq
end
end Go.Lw
end

/-! Each operation of the machine (calls apart) does what its Go operation does: parts put together. -/
section
namespace Go.Lw
open Go Go.RowKit
section
variable {fi:FI} {M M':Mem} {w w':World} {P:Program} {s s':St} {a:Act} {cf:CallF}
def evPart (a:Act) (q:Nat×Operand):Nat×Value:=(q.1,a.eval q.2)
theorem jw9 (hI:Inv fi M w s a) {t:TypeId} {place:Nat→Option (Nat×Nat)} (hpl:∀j q,placeOf P t j=some q→place j=some q) (mk:Nat→Loc):∀{ps:List (Nat×Nat×IX)} {os:List (Nat×Operand)} {vs:List (Nat×Nat×PV)},
  mParts P fi t ps os=true→evalPs s.env ps=some vs→(∀p∈vs,argOk p.2.2=true)→PartsRel fi M w place mk vs (os.map (evPart a))
 |[],[],vs,_,h,_=>by simp[evalPs] at h;subst h;exact trivial
 |[],_::_,_,hm,_,_=>by simp[mParts] at hm
 |(_,_,_)::_,[],_,hm,_,_=>by simp[mParts] at hm
 |(off,k,x)::ps,(i,o)::os,vs,hm,h,hok=>by
  simp only[mParts,Bool.and_eq_true,beq_iff_eq] at hm
  simp only[evalPs,Option.bind_eq_some_iff,Option.map_eq_some_iff] at h
  obtain⟨v,hv,vs',hvs,rfl⟩:=h
  exact⟨hpl _ _ hm.1.1,(jqt hI hm.1.2 hv).repAt,hok (off,k,v) (by simp),jw9 hI hpl mk hm.2 hvs (fun p hp=>hok p (by simp[hp]))⟩
theorem j11e {t:TypeId} {z:List PV} (h:zerosAre P t z=true):∃i zv,P.info? t=some i∧i.zero=some zv∧zv.cells.toList.length=z.length∧
  ∀(mk:Nat→Loc) (i:Nat) (c:PV) (u:Value),z[i]?=some c→zv.cells.toList[i]?=some u→RepC fi M w (mk i) c u:=by
 unfold zerosAre at h
 split at h
 ·rename_i zv hz
  simp only[Option.bind_eq_some_iff] at hz
  obtain⟨i,hi,hzv⟩:=hz
  obtain⟨h1,h2⟩:=ju8 h
  exact⟨i,zv,hi,hzv,h1,fun mk i c u hc hu=>cOk1_C (h2 i c u hc hu) _⟩
 ·cases h
theorem jwa {t:TypeId} {z cs:List PV} {vs:List (Nat×Nat×PV)} {parts:Array (Nat×Value)} (hpl:(placeOf P t 0).isSome=true) (hz:zerosAre P t z=true) (hz1:∀c∈z,c.one=true) (h:fillAt z vs=some cs) (mk:Nat→Loc)
  (hp:∀place:Nat→Option (Nat×Nat),(∀j q,placeOf P t j=some q→place j=some q)→PartsRel fi M w place mk vs parts.toList) :
  ∃v,(Instr.build t parts).run P w= .ok v w∧RepAt fi M w mk (.agg cs) v:=by
 obtain⟨i,zv,hi,hzv,hl,hzr⟩:=j11e (fi:=fi) (M:=M) (w:=w) hz
 obtain⟨q,hq⟩:=Option.isSome_iff_exists.1 hpl
 have F:=fun (place:Nat→Option (Nat×Nat)) (hpl:∀j q,placeOf P t j=some q→place j=some q)=>j10m vs parts.toList z cs zv.cells.toList h hl (hzr mk) (hp place hpl) hz1
 obtain⟨us,h1,h2,h3,_⟩:=F (placeOf P t) (fun _ _ h=>h)
 refine⟨.agg us.toArray,j11d hi hzv (fun place hpl=>?_) ⟨0,q,hq⟩,⟨us,rfl,h2,h3⟩⟩
 obtain⟨us',g1,_⟩:=F place hpl
 have mono:∀(l:List (Nat×Value)) (cells:Array Value) (r:Array Value),Instr.fill (placeOf P t) cells l=some r→Instr.fill place cells l=some r:=by
  intro l
  induction l with
  |nil=>intro cells r h;exact h
  | cons x l ih=>
   intro cells r h
   obtain⟨i,v⟩:=x
   simp only[Instr.fill] at h ⊢
   split at h
   ·cases h
   ·rename_i off size hq
    rw[hpl _ _ hq]
    simp only
    split at h
    ·cases h
    ·rename_i hc
     rw[if_neg hc]
     exact ih _ _ h
 exact mono _ _ _ (by simpa using h1)
theorem j11f {o:Oper} {d:Nat} {z:List PV} {ps:List (Nat×Nat×IX)} (A:Asks P fi M w s a o (.build d z ps)) (h:opStep cf s (.build d z ps)=some s'):Sim P fi o M w s' a:=by
 obtain⟨dst,op,ty,pos,aft,gd⟩:=o
 obtain⟨hI,hm,hd,hlt⟩:=A
 cases op<;>simp only[mOp,Bool.false_eq_true] at hm
 rename_i t parts
 simp only[Bool.and_eq_true] at hm
 obtain⟨⟨hpl,hz⟩,hps⟩:=hm
 simp only[opStep,Option.bind_eq_some_iff] at h
 obtain⟨vs,hvs,h⟩:=h
 split at h
 ·rename_i hc
  simp only[List.all_eq_true] at hc
  simp only[Option.map_eq_some_iff] at h
  obtain⟨cs,hcs,rfl⟩:=h
  obtain⟨v,h1,h2⟩:=jwa (P:=P) (parts:=parts.map (evPart a)) hpl hz hc.2 hcs (Loc.env d) (fun place hp=>by
   have:=jw9 hI hp (Loc.env d) hps hvs hc.1
   simpa using this)
  refine Sim.pure hI hd (hlt d rfl) (v:=v) ?_ h2
  have e:(parts.map fun (x:Nat×Operand)=>match x with|(i,x)=>(i,a.eval x))=parts.map (evPart a):=rfl
  simp only[execOp,e,Sem.run_bind,h1];rfl
 ·cases h
theorem j11g (hI:Inv fi M w s a) {x:IX} {o:Operand} (hm:mX fi x o=true) {v:PV} {e:List (Nat×PV)} (h:takeX s.env x=some (v,e)) :
  ∃f:Loc→Loc,(∀i,f (.res i)= .res i)∧Inv fi (M.rel f) w ⟨e,s.lh,s.gh⟩ a∧RepAt fi (M.rel f) w Loc.lim v (a.eval o):=by
 cases x with
 | t n=>
  cases o with
  | tmp m=>
   simp only[mX,beq_iff_eq] at hm;subst hm
   simp only[takeX,Option.map_eq_some_iff,Prod.mk.injEq] at h
   obtain⟨v',hv,rfl,rfl⟩:=h
   have hn:=hI.env n v' hv
   refine⟨toLim n,fun _=>rfl,hI.rel _ _ (fun t u hu=>?_) (fun _ _=>rfl) (fun _ _=>rfl),hn.2.rel _ (fun i=>by simp[toLim])⟩
   rw[jr7] at hu
   by_cases htn:n=t
   ·subst htn
    simp at hu;subst hu
    exact⟨hn.1,(hn.2.degr.rel _).repAt⟩
   ·simp[htn] at hu
    exact⟨(hI.env t u hu).1,(hI.env t u hu).2.rel _ (fun i=>by simp[toLim,Ne.symm htn])⟩
  |_=>simp[mX] at hm
 | c p=>
  cases o with
  |const u=>
   simp only[takeX,Option.some.injEq,Prod.mk.injEq] at h
   obtain⟨rfl,rfl⟩:=h
   exact⟨id,fun _=>rfl,hI.rel _ _ (fun t u hu=>⟨(hI.env t u hu).1,(hI.env t u hu).2.rel _ (fun _=>rfl)⟩) (fun _ _=>rfl) (fun _ _=>rfl),cOk_at hm _⟩
  |_=>simp[mX] at hm
 | f id'=>
  cases o with
  |func F=>
   simp only[takeX,Option.some.injEq,Prod.mk.injEq] at h
   obtain⟨rfl,rfl⟩:=h
   refine⟨id,fun _=>rfl,hI.rel _ _ (fun t u hu=>⟨(hI.env t u hu).1,(hI.env t u hu).2.rel _ (fun _=>rfl)⟩) (fun _ _=>rfl) (fun _ _=>rfl),?_⟩
   exact ((jqt hI (x:= .f id') hm rfl).rel _).repAt
  |_=>simp[mX] at hm
theorem jwb {t:TypeId}:∀{ps:List (Nat×Nat×IX)} {os:List (Nat×Operand)} {vs:List (Nat×Nat×PV)} {M:Mem} {s:St} {e:List (Nat×PV)},Inv fi M w s a→
  mParts P fi t ps os=true→takePs s.env ps=some (vs,e)→(∀p∈vs,argOk p.2.2=true)→
  ∃M1,Inv fi M1 w ⟨e,s.lh,s.gh⟩ a∧Kp M w M1 w∧(∀(mk:Nat→Nat) p v,RepAt fi M w (fun i=> .res (mk i)) p v→RepAt fi M1 w (fun i=> .res (mk i)) p v)∧
   ∀place:Nat→Option (Nat×Nat),(∀j q,placeOf P t j=some q→place j=some q)→PartsRel fi M1 w place Loc.res vs (os.map (evPart a))
 |[],[],vs,M,s,e,hI,_,h,_=>by
  simp[takePs] at h
  obtain⟨rfl,rfl⟩:=h
  exact⟨M,hI,Kp.refl M w,fun _ _ _ h=>h,fun _ _=>trivial⟩
 |[],_::_,_,_,_,_,_,hm,_,_=>by simp[mParts] at hm
 |(_,_,_)::_,[],_,_,_,_,_,hm,_,_=>by simp[mParts] at hm
 |(off,k,x)::ps,(i,o)::os,vs,M,s,e,hI,hm,h,hok=>by
  simp only[mParts,Bool.and_eq_true,beq_iff_eq] at hm
  simp only[takePs,Option.bind_eq_some_iff,Option.map_eq_some_iff,Prod.mk.injEq,Prod.exists] at h
  obtain⟨v,e1,hv,vs',e2,hvs,rfl,rfl⟩:=h
  obtain⟨f,hf,hI1,hr1⟩:=j11g hI hm.1.2 hv
  have hI2:=hI1.rel (fromLim fun j=> .res (off+j)) e1 (fun t u hu=>⟨(hI1.env t u hu).1,(hI1.env t u hu).2.rel _ (fun i=>rfl)⟩) (fun _ _=>rfl) (fun _ _=>rfl)
  have hr2:=hr1.rel (mk':=fun j=> .res (off+j)) (fromLim fun j=> .res (off+j)) (fun i=>rfl)
  obtain⟨M3,hI3,k3,p3,r3⟩:=jwb (t:=t) hI2 hm.2 hvs (fun p hp=>hok p (by simp[hp]))
  refine⟨M3,hI3,((Kp.rel M w f).trans (Kp.rel _ w _)).trans k3,fun mk p u hu=>p3 mk p u ((hu.rel f (fun i=>hf _)).rel _ (fun i=>rfl)),fun place hpl=>?_⟩
  exact⟨hpl _ _ hm.1.1,p3 (fun j=>off+j) _ _ hr2,hok (off,k,v) (by simp),r3 place hpl⟩
def fromRes (mk:Nat→Loc):Loc→Loc
 | .res i=>mk i
 |l=>l
theorem jwc {o:Oper} {d:Nat} {z:List PV} {ps:List (Nat×Nat×IX)} (A:Asks P fi M w s a o (.buildT d z ps)) (h:opStep cf s (.buildT d z ps)=some s'):Sim P fi o M w s' a:=by
 obtain⟨dst,op,ty,pos,aft,gd⟩:=o
 obtain⟨hI,hm,hd,hlt⟩:=A
 cases op<;>simp only[mOp,Bool.false_eq_true] at hm
 rename_i t parts
 simp only[Bool.and_eq_true] at hm
 obtain⟨⟨hpl,hz⟩,hps⟩:=hm
 simp only[opStep,Option.bind_eq_some_iff] at h
 obtain⟨⟨vs,e⟩,hvs,h⟩:=h
 simp only at h
 split at h
 ·rename_i hc
  simp only[List.all_eq_true] at hc
  simp only[Option.map_eq_some_iff] at h
  obtain⟨cs,hcs,rfl⟩:=h
  obtain⟨M1,hI1,k1,_,r1⟩:=jwb (P:=P) hI hps hvs hc.1
  obtain⟨v,h1,h2⟩:=jwa (P:=P) (parts:=parts.map (evPart a)) hpl hz hc.2 hcs Loc.res (fun place hp=>by simpa using r1 place hp)
  have hI2:=hI1.rel (fromRes (Loc.env d)) e (fun t u hu=>⟨(hI1.env t u hu).1,(hI1.env t u hu).2.rel _ (fun i=>rfl)⟩) (fun _ _=>rfl) (fun _ _=>rfl)
  have h3:=h2.rel (mk':=Loc.env d) (fromRes (Loc.env d)) (fun i=>rfl)
  refine⟨.value v,v,_,w,?_,.inl rfl,by rw[show dst=some d from hd];exact Inv.put (s:=⟨e,s.lh,s.gh⟩) hI2 (hlt d rfl) h3,k1.trans (Kp.rel _ w _)⟩
  have e:(parts.map fun (x:Nat×Operand)=>match x with|(i,x)=>(i,a.eval x))=parts.map (evPart a):=rfl
  simp only[execOp,e,Sem.run_bind,h1];rfl
 ·cases h
theorem j11h {o:Oper} {d z:Nat} {els:List IX} (A:Asks P fi M w s a o (.buildSl d z els)) (h:opStep cf s (.buildSl d z els)=some s'):Sim P fi o M w s' a:=by
 obtain⟨dst,op,ty,pos,aft,gd⟩:=o
 obtain⟨hI,hm,hd,hlt⟩:=A
 cases op<;>simp only[mOp,Bool.false_eq_true] at hm
 rename_i t len parts
 simp only[Bool.and_eq_true,beq_iff_eq,decide_eq_true_eq] at hm
 obtain⟨⟨⟨⟨⟨⟨he,hz0⟩,hlen⟩,hbd⟩,hidx⟩,hmx⟩,hzs⟩:=hm
 obtain⟨e,ht,hsz⟩:=jsv he
 rw[ht] at hzs
 simp only[Option.isSome_iff_exists,Option.bind_eq_some_iff] at hzs
 obtain⟨zv,i,hi,hzv⟩:=hzs
 simp only[opStep,Option.bind_eq_some_iff] at h
 obtain⟨vs,hvs,h⟩:=h
 split at h
 ·rename_i hc
  simp only[List.all_eq_true,Bool.and_eq_true,beq_iff_eq] at hc
  cases h
  obtain⟨h1,h2⟩:=jrg hI hmx hvs
  have hvl:vs.length=len:=by rw[←h1,List.length_map,←List.length_map (f:=Prod.fst) (as:=parts.toList),hidx,List.length_range']
  generalize hrest:((Array.range (len*z)).map ((if len*z=0 then #[] else zv.cells)[· %(if len*z=0 then (#[]:Array Value) else zv.cells).size]!)).toList=rest
  have hrl:rest.length=vs.length*z:=by rw[←hrest];simp[hvl]
  obtain⟨us,f1,f2,f3⟩:=juc (fi:=fi) (M:=M) (w:=w) (z:=z) vs 0 (parts.toList.map (evPart a)) [] rest (by simp) hrl hc (by
   rw[List.map_map,hvl,←hidx];rfl) (fun i p y hp hy=>by
   simp only[List.getElem?_map,Option.map_eq_some_iff] at hy
   obtain⟨q,hq,rfl⟩:=hy
   have:=h2 i p q.2 hp (by simp[hq])
   exact this.repP (by simpa [argOk] using (hc p (List.mem_of_getElem? hp)).1))
  simp only[List.nil_append] at f1
  obtain⟨M1,hI1,k1⟩:=hI.newOwn (hlt d rfl) (fun e he=>(hc e he).2) (fun e he=>(hc e he).1) us [] f2 f3 vs.length (Nat.le_refl _) (by simp[f2]) e us.toArray (by simp)
  refine⟨_,.slice (some ⟨w.heap.size,0,none⟩) vs.length vs.length,M1,_,?_,.inl rfl,by rw[show dst=some d from hd];exact hI1,k1⟩
  have e1:(parts.map fun (x:Nat×Operand)=>match x with|(i,x)=>(i,a.eval x))=parts.map (evPart a):=rfl
  have hbd':¬(len*z>2^24):=by omega
  have f1':Instr.fill (fun i=>some (i*z,z)) ((Array.range (len*z)).map ((if len*z=0 then #[] else zv.cells)[· %(if len*z=0 then (#[]:Array Value) else zv.cells).size]!)) (parts.map (evPart a)).toList=some us.toArray:=by
   rw[←f1,←hrest,Array.toArray_toList];congr 1;simp
  have hrun:(Instr.buildSlice t len (parts.map (evPart a))).run P w= .ok (.slice (some ⟨w.heap.size,0,none⟩) len len) (w.alloc (.cells us.toArray e)):=by
   have hzv':(zeroValue e).run P w= .ok zv w:=by simp[zeroValue,typeInfo,hi,hzv]
   by_cases h0:len*z=0
   ·simp only[if_pos h0] at f1'
    simp only[Instr.buildSlice,Sem.run_bind,run_underlying ht,run_sizeOf' hsz,Result.andThen_ok,if_neg hbd',if_pos h0,Sem.run_pure,f1']
    simp[newRow]
   ·simp only[if_neg h0] at f1'
    simp only[Instr.buildSlice,Sem.run_bind,run_underlying ht,run_sizeOf' hsz,Result.andThen_ok,if_neg hbd',if_neg h0,hzv',Sem.run_pure,f1']
    simp[newRow]
  simp only[execOp,e1,Sem.run_bind,hrun,hvl];rfl
 ·cases h
end
end Go.Lw
end

/-! Stacks: lists that are cut and grow in place. -/
section
namespace Go.Lw
open Go Go.RowKit
section
variable {fi:FI} {M M' M2:Mem} {w w' W:World} {P:Program} {s s':St} {a:Act} {cf:CallF} {xl:Loc→Prop} {xb:Nat→Prop}
def updSt (M:Mem) (b:Nat) (t:Nat×Nat×Nat):Nat→Nat×Nat×Nat:=fun i=>if i=b then t else M.st i
theorem Good.stk (g:Good M w M2 W xl xb) (hst:M2.st=M.st) (b:Nat) (t:Nat×Nat×Nat) (hgen:b<M.gb.length→(M.st b).1<t.1) :
  Good M w {M2 with st:=updSt M b t } W (fun l=>xl l∨l=Loc.gh b 0) xb where
 ext:=⟨g.ext.gb,g.ext.imm,g.ext.cell,fun i hi=>by
  by_cases h:i=b
  ·subst h
   simp only[updSt,if_true]
   have:=hgen hi
   exact⟨by omega,fun e=>by omega⟩
  ·have e:updSt M b t i=M.st i:=if_neg h
   show (M.st i).1≤(updSt M b t i).1∧((updSt M b t i).1=(M.st i).1→updSt M b t i=M.st i)
   rw[e]
   exact⟨Nat.le_refl _,fun _=>rfl⟩⟩
 size:=g.size
 lb:=g.lb
 own:=fun b l h hl=>g.own b l h (fun hx=>hl (.inl hx))
 box:=g.box
 st:=fun i hi=>by
  have:i≠b:=fun e=>hi (.inr (by rw[e]))
  simp only[updSt,if_neg this]
theorem Kp.stk {xl':Loc→Prop} {xb':Nat→Prop} {f:Nat→Nat×Nat×Nat} (k:Kp M w M2 W) (g:Good M w {M2 with st:=f } W xl' xb'):Kp M w {M2 with st:=f } W:=
 ⟨k.os,k.tape,k.output,k.size,g.ext,k.block,k.lbn,k.gbn,k.ownn,k.immn⟩
theorem juf {p:PV} {u:Value} (h:RepP fi M w p u) (hf:isFlat p=true):u.oneCell'=true:=by
 cases h<;>first|rfl|(simp[isFlat] at hf)
theorem jug (hI:Inv fi M w s a) {xv:PV} {ys:List PV} {v:Value} (hx:RepE fi M w xv v) (hsl:∀z xs,xv≠ .sl true z xs) (he:elsOf s.gh xv=some ys) (hf:ys.all isFlat=true) :
  ∃(A:Option Addr) (c b o:Nat) (us:List Value),v= .slice A ys.length c∧ys.length≤c∧us.length=ys.length∧(ys=[]∨A=some ⟨b,o,none⟩)∧
   (∀(j:Nat) (u:Value),us[j]?=some u→w.cell? ⟨b,o+j,none⟩=some u∧u.oneCell'=true)∧
   (∀(j:Nat) (y:PV),ys[j]?=some y→∃u,us[j]?=some u∧RepP fi M w y u):=by
 unfold elsOf at he
 split at he
 ·rename_i ow ys'
  cases he
  cases ow with
  |true=>exact absurd rfl (hsl 1 ys)
  |false=>
   obtain⟨A,c,b,o,us,rfl,h1,h2,h3,h4,h5,h6,h7⟩:=jua (z:=1) (by omega) (show RepP fi M w (.sl false 1 ys) v from hx)
   rw[Nat.mul_one] at h2
   refine⟨A,c,b,o,us,rfl,h1,h2,h3,fun j u hu=>(h6 j u hu).2,fun j y hy=>?_⟩
   have hfy:=List.all_eq_true.1 hf y (List.mem_of_getElem? hy)
   have hc:y.cells[0]?=some y:=by cases y<;>first|rfl|(simp[isFlat] at hfy)
   obtain⟨u,hu,hr⟩:=h7 j y 0 y hy hc
   exact⟨u,by simpa using hu,hr⟩
 ·rename_i b gen n
  split at he
  ·rename_i g xs hgh
   split at he
   ·rename_i hc
    obtain⟨rfl,hn⟩:=hc
    cases he
    cases (show RepP fi M w (.stk b g n) v from hx) with
    | stk _ _ _ blk c hb hg hA hcn=>
     obtain⟨h1,h2,h3,h4,h5,cs,T,h6,h7,h8,h9⟩:RepStk fi M w b M.gb[b] g xs:=hI.gh b _ _ hgh (List.getElem?_eq_getElem hb)
     obtain⟨rfl,hcc⟩:=hA h2.symm
     have hl:(xs.take n).length=n:=by simp;omega
     refine⟨some ⟨(M.st b).2.1,0,none⟩,c,(M.st b).2.1,0,cs.toList.take n,by rw[hl],by rw[hl];exact hcn,by simp;omega,.inr rfl,fun j u hu=>?_,fun j y hy=>?_⟩
     ·rw[List.getElem?_take] at hu
      split at hu
      ·rename_i hj
       rw[Nat.zero_add,cell_of_row w (M.st b).2.1 j cs T (0,0) h6]
       have hu':cs[j]?=some u:=by simpa using hu
       refine⟨hu',?_⟩
       have hjx:j<xs.length:=by omega
       obtain⟨u2,e2,r2⟩:=h9 j xs[j] (List.getElem?_eq_getElem hjx)
       rw[hu'] at e2
       cases e2
       exact juf r2 (h5 _ (List.getElem_mem hjx))
      ·cases hu
     ·rw[List.getElem?_take] at hy
      split at hy
      ·rename_i hj
       obtain⟨u,hu,hr⟩:=h9 j y hy
       exact⟨u,by rw[List.getElem?_take,if_pos hj];simpa using hu,hr⟩
      ·cases hy
   ·cases he
  ·cases he
 ·rename_i b gen off n
  split at he
  ·rename_i g xs hgh
   split at he
   ·rename_i hc
    obtain⟨rfl,hn⟩:=hc
    cases he
    cases (show RepP fi M w (.sub b g off n) v from hx) with
    | sub _ _ _ _ blk c A hb hg hA hcn hAd=>
     obtain⟨h1,h2,h3,h4,h5,cs,T,h6,h7,h8,h9⟩:RepStk fi M w b M.gb[b] g xs:=hI.gh b _ _ hgh (List.getElem?_eq_getElem hb)
     obtain⟨rfl,hcc⟩:=hA h2.symm
     have hl:((xs.drop off).take n).length=n:=by simp;omega
     refine⟨A,c,(M.st b).2.1,off,(cs.toList.drop off).take n,by rw[hl],by rw[hl];exact hcn,by simp;omega,?_,fun j u hu=>?_,fun j y hy=>?_⟩
     ·rcases hAd with h|h
      ·left;subst h;simp
      ·exact .inr h
     ·rw[List.getElem?_take] at hu
      split at hu
      ·rename_i hj
       rw[List.getElem?_drop] at hu
       rw[cell_of_row w (M.st b).2.1 (off+j) cs T (0,0) h6]
       have hu':cs[off+j]?=some u:=by simpa using hu
       refine⟨hu',?_⟩
       have hjx:off+j<xs.length:=by omega
       obtain⟨u2,e2,r2⟩:=h9 (off+j) xs[off+j] (List.getElem?_eq_getElem hjx)
       rw[hu'] at e2
       cases e2
       exact juf r2 (h5 _ (List.getElem_mem hjx))
      ·cases hu
     ·rw[List.getElem?_take] at hy
      split at hy
      ·rename_i hj
       rw[List.getElem?_drop] at hy
       obtain⟨u,hu,hr⟩:=h9 (off+j) y hy
       exact⟨u,by rw[List.getElem?_take,if_pos hj,List.getElem?_drop];simpa using hu,hr⟩
      ·cases hy
   ·cases he
  ·cases he
 ·cases he
  cases (show RepP fi M w .nils v from hx) with
  |nils=>exact⟨none,0,0,0,[],rfl,Nat.le_refl _,rfl,.inl rfl,fun j u hu=>by simp at hu,fun j y hy=>by simp at hy⟩
 ·cases he
theorem Inv.newStk (hI:Inv fi M w s a) {d:Nat} (hd:d<a.tmps.size) {xs:List PV} (hf:∀x∈xs,isFlat x=true) (us rest:List Value) (hul:us.length=xs.length)
  (hrep:∀(j:Nat) (x:PV),xs[j]?=some x→∃u,us[j]?=some u∧RepP fi M w x u) (c:Nat) (hc:xs.length≤c) (hcap:c≤us.length+rest.length) (T:TypeId) (O:Array Value) (hO:O=(us++rest).toArray) :
  ∃M',Inv fi M' (w.alloc (.cells O T)) ((⟨s.env,s.lh,s.gh++[.stk 0 xs]⟩:St).put d (.stk s.gh.length 0 xs.length)) (a.put (some d) (.slice (some ⟨w.heap.size,0,none⟩) xs.length c))∧Kp M w M' (w.alloc (.cells O T)):=by
 subst hO
 have hni:∀k,¬M.imm w.heap.size k:=fun k hk=>absurd (hI.immlt _ k hk) (by omega)
 have hnl:w.heap.size∉M.lb++M.gb:=by
  rw[List.mem_append]
  rintro (hk|hk)
  ·exact absurd (lb_lt hI _ hk) (by omega)
  ·exact absurd (hI.gblt _ hk) (by omega)
 let M2:Mem:={M with gb:=M.gb++[w.heap.size],own:=fun b=>if b=w.heap.size then some (Loc.gh s.gh.length 0) else M.own b }
 obtain⟨g2,k2⟩:=Good.alloc hI (.cells (us++rest).toArray T) M2 [] [w.heap.size] (by simp[M2]) rfl (by simp) (by simp) (fun _=>False) (by simp[M2]) (fun b hb=>by simp[M2,hb])
 generalize hW:w.alloc (.cells (us++rest).toArray T)=W at *
 have g1:=g2.stk rfl s.gh.length (0,w.heap.size,us.length+rest.length) (fun h=>by rw[hI.gbl] at h;omega)
 have k1:=k2.stk g1
 generalize hM1:({M2 with st:=updSt M s.gh.length (0,w.heap.size,us.length+rest.length) }:Mem)=M1 at *
 have e_lb:M1.lb=M.lb:=by rw[←hM1]
 have e_gb:M1.gb=M.gb++[w.heap.size]:=by rw[←hM1]
 have e_st:M1.st s.gh.length=(0,w.heap.size,us.length+rest.length):=by rw[←hM1];simp[updSt]
 have e_own:M1.own w.heap.size=some (Loc.gh s.gh.length 0):=by rw[←hM1];simp[M2]
 have e_imm:M1.imm=M.imm:=by rw[←hM1]
 have hsz:W.heap.size=w.heap.size+1:=by rw[←hW,size_alloc']
 have hI1:Inv fi M1 W ⟨s.env,s.lh,s.gh++[.stk 0 xs]⟩ a:=by
  refine⟨fun t u hu=>⟨(hI.env t u hu).1,(hI.env t u hu).2.good g1 (by simp)⟩,hI.defers,by rw[e_lb];exact hI.lbl,by rw[e_gb];simp[hI.gbl],?_,fun i cs blk h1 h2=>?_,fun i o blk h1 h2=>?_,g1.ext.gl hI.gl,fun b k hb=>?_,fun b l hb=>?_,fun b hb=>?_⟩
  ·rw[e_lb,e_gb,←List.append_assoc];exact jst hI.nodup hnl
  ·rw[e_lb] at h2;exact (hI.lh i cs blk h1 h2).good g1 (by simp) (by simp)
  ·rw[e_gb] at h2
   by_cases hlt:i<s.gh.length
   ·rw[List.getElem?_append_left hlt] at h1
    rw[List.getElem?_append_left (by rw[hI.gbl];exact hlt)] at h2
    exact (hI.gh i o blk h1 h2).good g1 (by simp) (fun j h=>by
     rcases h with h|h
     ·exact h
     ·injection h with h3 h4;omega)
   ·have hil:=(List.getElem?_eq_some_iff.1 h1).1
    simp at hil
    obtain rfl:i=s.gh.length:=by omega
    simp at h1
    subst h1
    rw[List.getElem?_append_right (by rw[hI.gbl];exact Nat.le_refl _),hI.gbl] at h2
    simp at h2;subst h2
    refine⟨e_own,by rw[e_st],by rw[e_st];exact e_own,by rw[e_st,e_imm];exact hni,hf,(us++rest).toArray,T,by rw[e_st,←hW];exact heap_alloc_new w _,by rw[e_st];simp,by simp;omega,fun j x hj=>?_⟩
    obtain⟨u,hu,hr⟩:=hrep j x hj
    refine⟨u,?_,hr.mono g1.ext⟩
    simp only[List.getElem?_toArray]
    rw[List.getElem?_append_left (List.getElem?_eq_some_iff.1 hu).1];exact hu
  ·rw[e_imm] at hb;exact Nat.lt_of_lt_of_le (hI.immlt b k hb) k1.size
  ·by_cases hbe:b=w.heap.size
   ·subst hbe;omega
   ·have:M.own b=some l:=by rw[←hM1] at hb;simpa [M2,hbe] using hb
    exact Nat.lt_of_lt_of_le (hI.ownlt b l this) k1.size
  ·rw[e_gb,List.mem_append,List.mem_singleton] at hb
   rcases hb with hb|rfl
   ·exact Nat.lt_of_lt_of_le (hI.gblt b hb) k1.size
   ·omega
 refine⟨M1,hI1.put hd (RepP.repE (.stk _ _ _ _ c ?_ (Nat.zero_le _) (fun _=>?_) hc)).repAt,k1⟩
 ·rw[e_gb];simp[hI.gbl]
 ·rw[e_st];exact⟨rfl,hcap⟩
theorem Inv.setStk (hI:Inv fi M w s a) {b g0:Nat} {ys zs:List PV} (hgh:s.gh[b]?=some (.stk g0 ys)) (hg:Good M w M2 W xl xb) (hst:M2.st=M.st) (hlb:M2.lb=M.lb) (hgb:M2.gb=M.gb) (hxl:∀l,xl l→l=Loc.gh b 0) (hxb:∀k,¬xb k)
  {blk cap:Nat} (hk:Kp M w M2 W) (ho:∀k,M.own k=some (Loc.gh b 0)→M2.own k=some (Loc.gh b 0)) (hown:M2.own blk=some (Loc.gh b 0)) (hown2:∀k l,M2.own k=some l→k<W.heap.size) (himm:∀k,¬M2.imm blk k) (himm2:∀k j,M2.imm k j→k<W.heap.size)
  (hf:∀x∈zs,isFlat x=true) {cs:Array Value} {T:TypeId} (hh:W.heap[blk]?=some (.cells cs T (0,0))) (hcs:cs.size=cap) (hlen:zs.length≤cs.size)
  (hr:∀(j:Nat) (x:PV),zs[j]?=some x→∃u,cs[j]?=some u∧∀(M':Mem) (w':World),RepP fi M' w' x u) {d n c:Nat} (hd:d<a.tmps.size) (hnc:n≤c) (hcc:c≤cap) :
  ∃M',Inv fi M' W ((⟨s.env,s.lh,s.gh.set b (.stk (g0+1) zs)⟩:St).put d (.stk b (g0+1) n)) (a.put (some d) (.slice (some ⟨blk,0,none⟩) n c))∧Kp M w M' W:=by
 have hbl:b<s.gh.length:=(List.getElem?_eq_some_iff.1 hgh).1
 have hbg:b<M.gb.length:=by rw[hI.gbl];exact hbl
 obtain⟨o1,o2,_⟩:RepStk fi M w b M.gb[b] g0 ys:=hI.gh b _ _ hgh (List.getElem?_eq_getElem hbg)
 have g1:=hg.stk hst b (g0+1,blk,cap) (fun _=>by rw[o2];exact Nat.lt_succ_self _)
 have k1:=hk.stk g1
 generalize hM1:({M2 with st:=updSt M b (g0+1,blk,cap) }:Mem)=M1 at *
 have e_lb:M1.lb=M.lb:=by rw[←hM1];exact hlb
 have e_gb:M1.gb=M.gb:=by rw[←hM1];exact hgb
 have e_st:M1.st b=(g0+1,blk,cap):=by rw[←hM1];simp[updSt]
 have e_own:M1.own=M2.own:=by rw[←hM1]
 have e_imm:M1.imm=M2.imm:=by rw[←hM1]
 have hxg:∀i j,i≠b→¬(xl (Loc.gh i j)∨Loc.gh i j=Loc.gh b 0):=fun i j hne h=>by
  have:Loc.gh i j=Loc.gh b 0:=h.elim (hxl _) id
  injection this with h1 h2;exact hne h1
 have hI1:Inv fi M1 W ⟨s.env,s.lh,s.gh.set b (.stk (g0+1) zs)⟩ a:=by
  refine⟨fun t u hu=>⟨(hI.env t u hu).1,(hI.env t u hu).2.good g1 (fun i h=>?_)⟩,hI.defers,by rw[e_lb];exact hI.lbl,by rw[e_gb];simp[hI.gbl],by rw[e_lb,e_gb];exact hI.nodup,fun i cs blk h1 h2=>?_,fun i o blk' h1 h2=>?_,g1.ext.gl hI.gl,fun k j hb=>?_,fun k l hb=>?_,fun k hb=>?_⟩
  ·have:Loc.env t i=Loc.gh b 0:=h.elim (hxl _) id
   cases this
  ·rw[e_lb] at h2
   refine (hI.lh i cs blk h1 h2).good g1 (hxb _) (fun j h=>?_)
   have:Loc.lh i j=Loc.gh b 0:=h.elim (hxl _) id
   cases this
  ·rw[e_gb] at h2
   simp only at h1
   rw[List.getElem?_set] at h1
   by_cases hbi:b=i
   ·subst hbi
    rw[if_pos rfl,if_pos hbl] at h1
    cases h1
    have eb:M.gb[b]=blk':=by rw[List.getElem?_eq_getElem hbg] at h2;exact Option.some.inj h2
    rw[eb] at o1
    refine⟨by rw[e_own];exact ho _ o1,by rw[e_st],by rw[e_st,e_own];exact hown,by rw[e_st,e_imm];exact himm,hf,cs,T,by rw[e_st];exact hh,by rw[e_st];exact hcs,hlen,fun j x hj=>?_⟩
    obtain⟨u,hu,hru⟩:=hr j x hj
    exact⟨u,hu,hru _ _⟩
   ·rw[if_neg hbi] at h1
    exact (hI.gh i o blk' h1 h2).good g1 (hxb _) (fun j=>hxg i j (Ne.symm hbi))
  ·rw[e_imm] at hb;exact himm2 k j hb
  ·rw[e_own] at hb;exact hown2 k l hb
  ·rw[e_gb] at hb;exact Nat.lt_of_lt_of_le (hI.gblt k hb) k1.size
 refine⟨M1,hI1.put hd (RepP.repE (.stk b (g0+1) n blk c ?_ ?_ (fun _=>?_) hnc)).repAt,k1⟩
 ·rw[e_gb];exact hbg
 ·rw[e_st];exact Nat.le_refl _
 ·rw[e_st];exact⟨rfl,hcc⟩
theorem jro {p:PV} {u:Value} (h:RepP fi M w p u) (hf:isFlat p=true):∀(M':Mem) (w':World),RepP fi M' w' p u:=by
 intro M' w'
 cases h<;>first|exact .int _ _|exact .bool _|(simp[isFlat] at hf)
theorem Good.refl (M:Mem) (w:World):Good M w M w (fun _=>False) (fun _=>False):=
 ⟨Ext.refl M w,Nat.le_refl _,fun _ _ h=>h,fun _ _ h _=>⟨h,rfl,fun _ h=>h,id,id⟩,fun _ _ _ h=>⟨rfl,fun _ h=>h,h⟩,fun _ _=>rfl⟩
theorem jwd (hI:Inv fi M w s a) {t ty e:TypeId} {i:TypeInfo} {zv:Value} {bytes:Nat} (ht:P.underlying t=some (.slice e)) (hi:P.info? e=some i) (hzv:i.zero=some zv)
  (hsz:i.size=1) (hby:i.bytes=bytes) (hzs:zv.cells.size=1) (hb0:0<bytes) {b gen n:Nat} {xs ys:List PV} {xv:PV} {v x:Value} (hv:RepP fi M w (.stk b gen n) v) (hgh:s.gh[b]?=some (.stk gen xs)) (hn:n≤xs.length)
  (hx:RepE fi M w xv x) (hsl:∀z xs,xv≠ .sl true z xs) (he:elsOf s.gh xv=some ys) (hf:ys.all isFlat=true) (hap:apart b xv=true) (hbd:(n+ys.length)*bytes≤maxBytes) {d:Nat} (hd:d<a.tmps.size) :
  ∃r M' w',(Builtin.append_ #[t,t] ty #[v,x]).run P w= .ok r w'∧
   Inv fi M' w' ((⟨s.env,s.lh,s.gh.set b (.stk (gen+1) (xs.take n++ys))⟩:St).put d (.stk b (gen+1) (n+ys.length))) (a.put (some d) r)∧Kp M w M' w':=by
 subst hby
 obtain⟨A2,c2,b2,o2,us2,rfl,hc2,hul2,hA2,huy,hry⟩:=jug hI hx hsl he hf
 cases hv with
 |stk _ _ _ blk c hb hg hA hcn=>
 obtain⟨h1,h2,h3,h4,h5,cs,T,h6,h7,h8,h9⟩:RepStk fi M w b M.gb[b] gen xs:=hI.gh b _ _ hgh (List.getElem?_eq_getElem hb)
 obtain⟨rfl,hcc⟩:=hA h2.symm
 have hff:∀x∈xs.take n++ys,isFlat x=true:=fun x hx=>by
  rcases List.mem_append.1 hx with h|h
  ·exact h5 x (List.mem_of_mem_take h)
  ·exact List.all_eq_true.1 hf x h
 have htl:(xs.take n).length=n:=by simp;omega
 have hlen:(xs.take n++ys).length=n+ys.length:=by rw[List.length_append,htl]
 by_cases hy:ys=[]
 ·subst hy
  have hrun:=jvu (P:=P) (ty:=ty) ht hi (some ⟨(M.st b).2.1,0,none⟩) A2 n c c2 hcn w
  obtain⟨M',r1,r2⟩:=hI.setStk hgh (Good.refl M w) rfl rfl rfl (fun _ h=>h.elim) (fun _ h=>h) (Kp.refl M w) (fun _ h=>h) h3 (fun k l h=>hI.ownlt k l h) h4 (fun k j h=>hI.immlt k j h) hff h6 h7 (by rw[hlen,h7];simp only[List.length_nil];omega) (fun j x hj=>by
   rw[List.append_nil,List.getElem?_take] at hj
   split at hj
   ·obtain⟨u,hu,hr⟩:=h9 j x hj
    exact⟨u,hu,jro hr (h5 x (List.mem_of_getElem? hj))⟩
   ·cases hj) hd (n:=n) hcn hcc
  exact⟨_,M',w,hrun,r1,r2⟩
 have hA2':=hA2.resolve_left hy
 subst hA2'
 have hm0:0<ys.length:=List.length_pos_iff.2 hy
 have hneed:(n+ys.length)*i.bytes≤140737488355328:=hbd
 have h63:((n+ys.length:Nat):Int)≤9223372036854775807:=by
  have:(n+ys.length)*1≤(n+ys.length)*i.bytes:=Nat.mul_le_mul_left _ hb0
  omega
 have hnews:∀(j:Nat) (u:Value),us2[j]?=some u→w.cell? ((⟨b2,o2,none⟩:Addr).add j)=some u:=fun j u hu=>by rw[jrb];exact (huy j u hu).1
 have hcell:∀j,w.cell? ⟨(M.st b).2.1,j,none⟩=cs[j]?:=fun j=>cell_of_row w _ j cs T (0,0) h6
 by_cases hroom:n+ys.length≤c
 ·have hrun:=jvv (P:=P) (ty:=ty) ht hi (M.st b).2.1 0 n c cs h6 ⟨b2,o2,none⟩ ys.length c2 us2 (by rw[hsz,Nat.mul_one];exact hul2) hnews (fun u hu=>by
    obtain⟨j,hj,hx⟩:=List.mem_iff_getElem.1 hu
    exact (huy j u (by rw[List.getElem?_eq_getElem hj,hx])).2) hroom (by rw[hsz,hul2,h7];omega)
  rw[hsz,Nat.mul_one,Nat.zero_add] at hrun
  generalize hcs2:(cs.toList.take n++us2++cs.toList.drop (n+us2.length))=cs2 at hrun
  have hfit:n+us2.length≤cs.toList.length:=by simp;omega
  have hget:∀k,cs2[k]?=if k<n then cs[k]? else if k<n+us2.length then us2[k-n]? else cs[k]?:=fun k=>by
   rw[←hcs2,jrc _ _ _ _ hfit];simp
  have hlen2:cs2.length=cs.size:=by rw[←hcs2,jrt _ _ _ hfit];simp
  have g1:Good M w M (w.setRow (M.st b).2.1 cs2.toArray) (fun l=>l=Loc.gh b 0) (fun _=>False):=
   Good.setRow (M:=M) (M':=M) h6 rfl rfl (fun _=>False) (by simp) (fun k hk=>absurd hk (h4 k)) (fun _ _=>rfl) _ _ (fun l h=>by rw[h3] at h;cases h;rfl) (fun h=>by rw[h3] at h;cases h)
  have k1:Kp M w M (w.setRow (M.st b).2.1 cs2.toArray):=Kp.setRow g1 rfl rfl (fun _=>False) (by simp) (fun _ _=>rfl) (.inr (.inr (by rw[h3];simp))) id (fun ⟨_,h⟩=>h.elim)
  obtain⟨M',r1,r2⟩:=hI.setStk (d:=d) (n:=n+ys.length) (c:=c) hgh g1 rfl rfl rfl (fun _ h=>h) (fun _ h=>h) k1 (fun _ h=>h) h3 (fun k l h=>by rw[size_setRow'];exact hI.ownlt k l h) h4 (fun k j h=>by rw[size_setRow'];exact hI.immlt k j h) hff
   (setRow_heap w (M.st b).2.1 _ cs2.toArray T (0,0) h6) (cap:=(M.st b).2.2) (by simp[hlen2,h7]) (by rw[hlen];simp[hlen2,h7];omega) (fun j x hj=>by
    simp only[List.getElem?_toArray]
    rw[hget]
    by_cases hjn:j<n
    ·rw[List.getElem?_append_left (by rw[htl];exact hjn),List.getElem?_take,if_pos hjn] at hj
     rw[if_pos hjn]
     obtain⟨u,hu,hr⟩:=h9 j x hj
     exact⟨u,hu,jro hr (h5 x (List.mem_of_getElem? hj))⟩
    ·rw[List.getElem?_append_right (by rw[htl];omega),htl] at hj
     have hjl:=(List.getElem?_eq_some_iff.1 hj).1
     rw[if_neg hjn,if_pos (by omega)]
     obtain⟨u,hu,hr⟩:=hry _ x hj
     exact⟨u,hu,jro hr (List.all_eq_true.1 hf x (List.mem_of_getElem? hj))⟩) hd hroom hcc
  exact⟨_,M',_,hrun,r1,r2⟩
 ·have hul:(cs.toList.take n).length=n*i.size:=by rw[hsz];simp;omega
  have holds:∀(j:Nat) (u:Value),(cs.toList.take n)[j]?=some u→w.cell? ((⟨(M.st b).2.1,0,none⟩:Addr).add j)=some u:=fun j u hu=>by
   rw[jrb,Nat.zero_add,hcell]
   rw[List.getElem?_take] at hu
   split at hu
   ·simpa using hu
   ·cases hu
  have hrun:=run_append_grow (P:=P) w t ty e i zv ht hi hzv ⟨(M.st b).2.1,0,none⟩ n c (cs.toList.take n) hul holds ⟨b2,o2,none⟩ ys.length c2 us2 (by rw[hsz,Nat.mul_one];exact hul2) hnews (by omega) h63 (growslice_fits (by omega) hneed)
  have hge:=grownCap_ge w (n+ys.length) c e
  generalize grownCap w (n+ys.length) c e=gc at *
  have hae:∀(l:List Value) (x:Array Value),l.toArray++x=(l++x.toList).toArray:=fun l x=>by apply Array.ext';simp
  have hzl:∀m,(Builtin.zeroCells zv.cells m).toList.length=m*i.size:=fun m=>by rw[Array.length_toList,size_zeroCells,hzs,hsz]
  obtain⟨hI1,k1⟩:=hI.drew
  generalize hrest:(Builtin.zeroCells zv.cells (gc-(n+ys.length))).toList=rest at *
  have hrl:rest.length=gc-(n+ys.length):=by rw[←hrest,hzl,hsz,Nat.mul_one]
  have hul':(cs.toList.take n).length=n:=by simp;omega
  let M2:Mem:={M with own:=fun k=>if k=w.drew.heap.size then some (Loc.gh b 0) else M.own k }
  have hOl:((cs.toList.take n++us2)++rest).toArray.size=gc:=by simp[hul2,hrl];omega
  have hrun2:(Builtin.append_ #[t,t] ty #[.slice (some ⟨(M.st b).2.1,0,none⟩) n c,.slice (some ⟨b2,o2,none⟩) ys.length c2]).run P w=
    .ok (.slice (some ⟨w.drew.heap.size,0,none⟩) (n+ys.length) gc) (w.drew.alloc (.cells ((cs.toList.take n++us2)++rest).toArray e)):=by
   rw[hrun]
   have e1:(cs.toList.take n++us2).toArray++Builtin.zeroCells zv.cells (gc-(n+ys.length))=((cs.toList.take n++us2)++rest).toArray:=by rw[←hrest,hae]
   rw[←e1];simp
  generalize hO:((cs.toList.take n++us2)++rest).toArray=O at *
  obtain⟨g2,k2⟩:=Good.alloc hI1 (.cells O e) M2 [] [] (by simp[M2]) (by simp[M2]) (by simp) (by simp) (fun _=>False) (by simp[M2]) (fun k hk=>if_neg hk)
  have hsz2:(w.drew.alloc (.cells O e)).heap.size=w.drew.heap.size+1:=size_alloc' _ _
  have hni:∀k,¬M.imm w.drew.heap.size k:=fun k hk=>absurd (hI1.immlt _ k hk) (by omega)
  obtain⟨M',r1,r2⟩:=hI1.setStk (d:=d) (n:=n+ys.length) (c:=gc) (blk:=w.drew.heap.size) (cap:=gc) hgh g2 rfl rfl rfl (fun _ h=>h.elim) (fun _ h=>h) k2 (fun k h=>by
    have:=hI1.ownlt k _ h
    simp only[M2];rw[if_neg (by omega)];exact h) (by simp[M2]) (fun k l h=>by
    simp only[M2] at h
    split at h
    ·rename_i hk;omega
    ·have:=hI1.ownlt k l h;omega) hni (fun k j h=>by have:=hI1.immlt k j h;omega) hff (heap_alloc_new w.drew _) hOl (by rw[hlen,hOl];omega) (fun j x hj=>by
    rw[←hO]
    simp only[List.getElem?_toArray]
    by_cases hjn:j<n
    ·rw[List.getElem?_append_left (by rw[htl];exact hjn),List.getElem?_take,if_pos hjn] at hj
     have hjl:=(List.getElem?_eq_some_iff.1 hj).1
     obtain⟨u,hu,hr⟩:=h9 j x hj
     refine⟨u,?_,jro hr (h5 x (List.mem_of_getElem? hj))⟩
     rw[List.getElem?_append_left (by simp;omega),List.getElem?_append_left (by omega),List.getElem?_take,if_pos hjn]
     simpa using hu
    ·rw[List.getElem?_append_right (by rw[htl];omega),htl] at hj
     have hjl:=(List.getElem?_eq_some_iff.1 hj).1
     obtain⟨u,hu,hr⟩:=hry _ x hj
     refine⟨u,?_,jro hr (List.all_eq_true.1 hf x (List.mem_of_getElem? hj))⟩
     rw[List.getElem?_append_left (by rw[List.length_append];omega),List.getElem?_append_right (by omega),hul']
     exact hu) hd hge (Nat.le_refl _)
  exact⟨_,M',_,hrun2,r1,k1.trans r2⟩
theorem j11i {o:Oper} {d bytes:Nat} {sx x:IX} (hI:Inv fi M w s a) (hm:mOp P fi (.append d 1 bytes sx x) o.op=true) (hd:o.dst=some d) (hlt:d<a.tmps.size) (h:opStep cf s (.appendK d bytes sx x)=some s'):Sim P fi o M w s' a:=by
 obtain⟨dst,op,ty,pos,aft,gd⟩:=o
 cases op with
 | call c=>
  obtain⟨callee,args,argTypes⟩:=c
  cases callee with
  | builtin b=>
   cases b<;>simp[mOp] at hm
   split at hm
   ·rename_i y y' t t' ha ht
    simp only[Bool.and_eq_true,beq_iff_eq,decide_eq_true_eq] at hm
    obtain⟨⟨⟨⟨hs,hx⟩,rfl⟩,hb0⟩,hm⟩:=hm
    have ha':args= #[y,y']:=by apply Array.ext';simpa using ha
    have ht':argTypes= #[t,t]:=by apply Array.ext';simpa using ht
    subst ha';subst ht'
    split at hm<;>try (cases hm;done)
    rename_i e hu
    split at hm<;>try (cases hm;done)
    rename_i i hi
    simp only[Bool.and_eq_true,beq_iff_eq] at hm
    obtain⟨⟨hsz,hby⟩,hm⟩:=hm
    split at hm<;>try (cases hm;done)
    rename_i zv hzv
    simp at hm
    simp only[opStep,Option.bind_eq_some_iff] at h
    obtain⟨xv,hxv,ys,hys,h⟩:=h
    have hxr:=jqt hI hx hxv
    have hsl:∀z xs,xv≠ .sl true z xs:=fun z xs e=>by
     subst e
     cases x with
     |t n=>simp only[evalX,Option.map_eq_some_iff] at hxv;obtain⟨q,_,hq⟩:=hxv;cases q<;>simp[degr] at hq
     |c q=>simp only[evalX,Option.some.injEq] at hxv;cases q<;>simp[degr] at hxv
     |f id=>simp[evalX] at hxv
    split at h
    ·rename_i b gen n hsv
     split at h
     ·rename_i g xs hgh
      split at h
      ·rename_i hc
       obtain⟨rfl,hn,hbd,hap,hf⟩:=hc
       cases h
       obtain⟨r,M2,w2,h1,h2,k2⟩:=jwd (P:=P) (ty:=ty) hI hu hi hzv hsz hby hm hb0 (jqt hI hs hsv) hgh hn hxr hsl hys hf hap hbd hlt
       refine⟨.value r,r,M2,w2,?_,.inl rfl,by rw[show dst=some d from hd];exact h2,k2⟩
       simp[execOp,resolve,jrh,builtin,h1]
      ·cases h
     ·cases h
    ·cases h
   ·cases hm
  |_=>simp[mOp] at hm
 |_=>simp[mOp] at hm
theorem j11j (hI:Inv fi M w s a) {t ty e:TypeId} {i:TypeInfo} {zv:Value} {bytes:Nat} (ht:P.underlying t=some (.slice e)) (hi:P.info? e=some i) (hzv:i.zero=some zv)
  (hsz:i.size=1) (hby:i.bytes=bytes) (hzs:zv.cells.size=1) (hb0:0<bytes) {ys:List PV} {xv:PV} {v x:Value} (hv:RepE fi M w .nils v)
  (hx:RepE fi M w xv x) (hsl:∀z xs,xv≠ .sl true z xs) (he:elsOf s.gh xv=some ys) (hf:ys.all isFlat=true) (hy:ys≠[]) (hbd:ys.length*bytes≤maxBytes) {d:Nat} (hd:d<a.tmps.size) :
  ∃r M' w',(Builtin.append_ #[t,t] ty #[v,x]).run P w= .ok r w'∧
   Inv fi M' w' ((⟨s.env,s.lh,s.gh++[.stk 0 ys]⟩:St).put d (.stk s.gh.length 0 ys.length)) (a.put (some d) r)∧Kp M w M' w':=by
 subst hby
 obtain⟨A2,c2,b2,o2,us2,rfl,hc2,hul2,hA2,huy,hry⟩:=jug hI hx hsl he hf
 cases (show RepP fi M w .nils v from hv) with
 |nils=>
 have hA2':=hA2.resolve_left hy
 subst hA2'
 have hm0:0<ys.length:=List.length_pos_iff.2 hy
 have hneed:ys.length*i.bytes≤140737488355328:=hbd
 have h63:((ys.length:Nat):Int)≤9223372036854775807:=by
  have:ys.length*1≤ys.length*i.bytes:=Nat.mul_le_mul_left _ hb0
  omega
 have hnews:∀(j:Nat) (u:Value),us2[j]?=some u→w.cell? ((⟨b2,o2,none⟩:Addr).add j)=some u:=fun j u hu=>by rw[jrb];exact (huy j u hu).1
 have hrun:=run_append_nil (P:=P) w t ty e i zv ht hi hzv ⟨b2,o2,none⟩ ys.length c2 us2 (by rw[hsz,Nat.mul_one];exact hul2) hnews hm0 (by omega) (by omega)
 have hge:=grownCap_ge w ys.length 0 e
 obtain⟨hI1,k1⟩:=hI.drew
 have hae:∀(l:List Value) (x:Array Value),l.toArray++x=(l++x.toList).toArray:=fun l x=>by apply Array.ext';simp
 have hzl:∀m,(Builtin.zeroCells zv.cells m).toList.length=m*i.size:=fun m=>by rw[Array.length_toList,size_zeroCells,hzs,hsz]
 obtain⟨M',hI2,k2⟩:=Inv.newStk hI1 hd (fun x hx=>List.all_eq_true.1 hf x hx) us2 (Builtin.zeroCells zv.cells (grownCap w ys.length 0 e-ys.length)).toList hul2
  (fun j x hj=>by
   obtain⟨u,hu,hr⟩:=hry j x hj
   exact⟨u,hu,hr.mono k1.ext⟩) (grownCap w ys.length 0 e) hge (by rw[hul2,hzl,hsz];omega) e _ rfl
 refine⟨_,M',_,?_,hI2,k1.trans k2⟩
 rw[hrun]
 simp[hae]
theorem jwe {o:Oper} {d bytes:Nat} {sx x:IX} (hI:Inv fi M w s a) (hm:mOp P fi (.append d 1 bytes sx x) o.op=true) (hd:o.dst=some d) (hlt:d<a.tmps.size) (h:opStep cf s (.appendN d bytes sx x)=some s'):Sim P fi o M w s' a:=by
 obtain⟨dst,op,ty,pos,aft,gd⟩:=o
 cases op with
 | call c=>
  obtain⟨callee,args,argTypes⟩:=c
  cases callee with
  | builtin b=>
   cases b<;>simp[mOp] at hm
   split at hm
   ·rename_i y y' t t' ha ht
    simp only[Bool.and_eq_true,beq_iff_eq,decide_eq_true_eq] at hm
    obtain⟨⟨⟨⟨hs,hx⟩,rfl⟩,hb0⟩,hm⟩:=hm
    have ha':args= #[y,y']:=by apply Array.ext';simpa using ha
    have ht':argTypes= #[t,t]:=by apply Array.ext';simpa using ht
    subst ha';subst ht'
    split at hm<;>try (cases hm;done)
    rename_i e hu
    split at hm<;>try (cases hm;done)
    rename_i i hi
    simp only[Bool.and_eq_true,beq_iff_eq] at hm
    obtain⟨⟨hsz,hby⟩,hm⟩:=hm
    split at hm<;>try (cases hm;done)
    rename_i zv hzv
    simp at hm
    simp only[opStep,Option.bind_eq_some_iff] at h
    obtain⟨xv,hxv,ys,hys,h⟩:=h
    have hxr:=jqt hI hx hxv
    have hsl:∀z xs,xv≠ .sl true z xs:=fun z xs e=>by
     subst e
     cases x with
     |t n=>simp only[evalX,Option.map_eq_some_iff] at hxv;obtain⟨q,_,hq⟩:=hxv;cases q<;>simp[degr] at hq
     |c q=>simp only[evalX,Option.some.injEq] at hxv;cases q<;>simp[degr] at hxv
     |f id=>simp[evalX] at hxv
    split at h
    ·rename_i b gen n hsv
     split at h
     ·rename_i g xs hgh
      split at h
      ·rename_i hc
       obtain⟨rfl,hn,hbd,hap,hf⟩:=hc
       cases h
       obtain⟨r,M2,w2,h1,h2,k2⟩:=jwd (P:=P) (ty:=ty) hI hu hi hzv hsz hby hm hb0 (jqt hI hs hsv) hgh hn hxr hsl hys hf hap hbd hlt
       refine⟨.value r,r,M2,w2,?_,.inl rfl,by rw[show dst=some d from hd];exact h2,k2⟩
       simp[execOp,resolve,jrh,builtin,h1]
      ·cases h
     ·cases h
    ·rename_i hsv
     split at h
     ·rename_i hc
      obtain⟨hy,hbd,hf⟩:=hc
      cases h
      obtain⟨r,M2,w2,h1,h2,k2⟩:=j11j (P:=P) (ty:=ty) hI hu hi hzv hsz hby hm hb0 (jqt hI hs hsv) hxr hsl hys hf hy hbd hlt
      refine⟨.value r,r,M2,w2,?_,.inl rfl,by rw[show dst=some d from hd];exact h2,k2⟩
      simp[execOp,resolve,jrh,builtin,h1]
     ·cases h
    ·cases h
   ·cases hm
  |_=>simp[mOp] at hm
 |_=>simp[mOp] at hm
theorem j11k {o:Oper} {d:Nat} {els:List IX} (hI:Inv fi M w s a) (hm:mOp P fi (.buildSl d 1 els) o.op=true) (hd:o.dst=some d) (hlt:d<a.tmps.size) (h:opStep cf s (.buildSlK d els)=some s'):Sim P fi o M w s' a:=by
 obtain⟨z,hz1⟩:∃z,z=1:=⟨1,rfl⟩
 rw[←hz1] at hm
 obtain⟨dst,op,ty,pos,aft,gd⟩:=o
 cases op<;>simp only[mOp,Bool.false_eq_true] at hm
 rename_i t len parts
 simp only[Bool.and_eq_true,beq_iff_eq,decide_eq_true_eq] at hm
 obtain⟨⟨⟨⟨⟨⟨he,hz0⟩,hlen⟩,hbd⟩,hidx⟩,hmx⟩,hzs⟩:=hm
 obtain⟨e,ht,hsz⟩:=jsv he
 rw[ht] at hzs
 simp only[Option.isSome_iff_exists,Option.bind_eq_some_iff] at hzs
 obtain⟨zv,i,hi,hzv⟩:=hzs
 simp only[opStep,Option.bind_eq_some_iff] at h
 obtain⟨vs,hvs,h⟩:=h
 split at h
 ·rename_i hc
  have hflat:=hc
  have hcell:∀v∈vs,v.cells=[v]:=fun v hv=>by
   have:=List.all_eq_true.1 hflat v hv
   cases v<;>first|rfl|(simp[isFlat] at this)
  have hc:∀v∈vs,argOk v=true∧v.cells.length=z:=fun v hv=>by
   have h1:=hcell v hv
   have h2:=List.all_eq_true.1 hflat v hv
   refine⟨?_,by rw[h1,hz1];rfl⟩
   unfold argOk;rw[h1]
   cases v<;>first|rfl|(simp[isFlat] at h2)
  cases h
  obtain⟨h1,h2⟩:=jrg hI hmx hvs
  have hvl:vs.length=len:=by rw[←h1,List.length_map,←List.length_map (f:=Prod.fst) (as:=parts.toList),hidx,List.length_range']
  generalize hrest:((Array.range (len*z)).map ((if len*z=0 then #[] else zv.cells)[· %(if len*z=0 then (#[]:Array Value) else zv.cells).size]!)).toList=rest
  have hrl:rest.length=vs.length*z:=by rw[←hrest];simp[hvl]
  obtain⟨us,f1,f2,f3⟩:=juc (fi:=fi) (M:=M) (w:=w) (z:=z) vs 0 (parts.toList.map (evPart a)) [] rest (by simp) hrl hc (by
   rw[List.map_map,hvl,←hidx];rfl) (fun i p y hp hy=>by
   simp only[List.getElem?_map,Option.map_eq_some_iff] at hy
   obtain⟨q,hq,rfl⟩:=hy
   have:=h2 i p q.2 hp (by simp[hq])
   exact this.repP (by simpa [argOk] using (hc p (List.mem_of_getElem? hp)).1))
  simp only[List.nil_append] at f1
  obtain⟨M1,hI1,k1⟩:=hI.newStk hlt (fun x hx=>List.all_eq_true.1 hflat x hx) us [] (by rw[f2,hz1,Nat.mul_one]) (fun j x hj=>by
   obtain⟨u,hu,hr⟩:=f3 j x 0 x hj (by rw[hcell x (List.mem_of_getElem? hj)];rfl)
   exact⟨u,by rw[hz1] at hu;simpa using hu,hr⟩) vs.length (Nat.le_refl _) (by rw[f2,hz1];simp) e us.toArray (by simp)
  refine⟨_,.slice (some ⟨w.heap.size,0,none⟩) vs.length vs.length,M1,_,?_,.inl rfl,by rw[show dst=some d from hd];exact hI1,k1⟩
  have e1:(parts.map fun (x:Nat×Operand)=>match x with|(i,x)=>(i,a.eval x))=parts.map (evPart a):=rfl
  have hbd':¬(len*z>2^24):=by omega
  have f1':Instr.fill (fun i=>some (i*z,z)) ((Array.range (len*z)).map ((if len*z=0 then #[] else zv.cells)[· %(if len*z=0 then (#[]:Array Value) else zv.cells).size]!)) (parts.map (evPart a)).toList=some us.toArray:=by
   rw[←f1,←hrest,Array.toArray_toList];congr 1;simp
  have hrun:(Instr.buildSlice t len (parts.map (evPart a))).run P w= .ok (.slice (some ⟨w.heap.size,0,none⟩) len len) (w.alloc (.cells us.toArray e)):=by
   have hzv':(zeroValue e).run P w= .ok zv w:=by simp[zeroValue,typeInfo,hi,hzv]
   by_cases h0:len*z=0
   ·simp only[if_pos h0] at f1'
    simp only[Instr.buildSlice,Sem.run_bind,run_underlying ht,run_sizeOf' hsz,Result.andThen_ok,if_neg hbd',if_pos h0,Sem.run_pure,f1']
    simp[newRow]
   ·simp only[if_neg h0] at f1'
    simp only[Instr.buildSlice,Sem.run_bind,run_underlying ht,run_sizeOf' hsz,Result.andThen_ok,if_neg hbd',if_neg h0,hzv',Sem.run_pure,f1']
    simp[newRow]
  simp only[execOp,e1,Sem.run_bind,hrun,hvl];rfl
 ·cases h
theorem Inv.restk (hI:Inv fi M w s a) {b gen:Nat} {xs zs:List PV} (hgh:s.gh[b]?=some (.stk gen xs)) {cs cs2:Array Value} {T:TypeId} (hh:w.heap[(M.st b).2.1]?=some (.cells cs T (0,0))) (hsz:cs2.size=cs.size)
  (hlen:zs.length≤cs2.size) (hf:∀x∈zs,isFlat x=true) (hr:∀(j:Nat) (x:PV),zs[j]?=some x→∃u,cs2[j]?=some u∧∀(M':Mem) (w':World),RepP fi M' w' x u) :
  Inv fi M (w.setRow (M.st b).2.1 cs2) ⟨s.env,s.lh,s.gh.set b (.stk gen zs)⟩ a∧Kp M w M (w.setRow (M.st b).2.1 cs2):=by
 have hbl:b<s.gh.length:=(List.getElem?_eq_some_iff.1 hgh).1
 have hbg:b<M.gb.length:=by rw[hI.gbl];exact hbl
 obtain⟨o1,o2,o3,o4,o5,cs0,T0,o6,o7,o8,o9⟩:RepStk fi M w b M.gb[b] gen xs:=hI.gh b _ _ hgh (List.getElem?_eq_getElem hbg)
 rw[hh] at o6
 cases o6
 have g1:Good M w M (w.setRow (M.st b).2.1 cs2) (fun l=>l=Loc.gh b 0) (fun _=>False):=
  Good.setRow (M:=M) (M':=M) hh rfl rfl (fun _=>False) (by simp) (fun k hk=>absurd hk (o4 k)) (fun _ _=>rfl) _ _ (fun l h=>by rw[o3] at h;cases h;rfl) (fun h=>by rw[o3] at h;cases h)
 have k1:Kp M w M (w.setRow (M.st b).2.1 cs2):=Kp.setRow g1 rfl rfl (fun _=>False) (by simp) (fun _ _=>rfl) (.inr (.inr (by rw[o3];simp))) id (fun ⟨_,h⟩=>h.elim)
 refine⟨⟨fun t u hu=>⟨(hI.env t u hu).1,(hI.env t u hu).2.good g1 (fun i h=>by cases h)⟩,hI.defers,hI.lbl,by simpa using hI.gbl,hI.nodup,fun i cs blk h1 h2=>(hI.lh i cs blk h1 h2).good g1 id (fun j h=>by cases h),fun i o blk' h1 h2=>?_,
  g1.ext.gl hI.gl,fun k j h=>by rw[size_setRow'];exact hI.immlt k j h,fun k l h=>by rw[size_setRow'];exact hI.ownlt k l h,fun k h=>by rw[size_setRow'];exact hI.gblt k h⟩,k1⟩
 simp only at h1
 rw[List.getElem?_set] at h1
 by_cases hbi:b=i
 ·subst hbi
  rw[if_pos rfl,if_pos hbl] at h1
  cases h1
  have eb:M.gb[b]=blk':=by rw[List.getElem?_eq_getElem hbg] at h2;exact Option.some.inj h2
  refine⟨by rw[←eb];exact o1,o2,o3,o4,hf,cs2,T,setRow_heap w (M.st b).2.1 _ cs2 T (0,0) hh,by rw[hsz];exact o7,hlen,fun j x hj=>?_⟩
  obtain⟨u,hu,hru⟩:=hr j x hj
  exact⟨u,hu,hru _ _⟩
 ·rw[if_neg hbi] at h1
  exact (hI.gh i o blk' h1 h2).good g1 id (fun j h=>by injection h with h1 h2;exact hbi h1.symm)
theorem j11l {o:Oper} {y x:IX} (hI:Inv fi M w s a) (hm:mOp P fi (.store false 1 y x) o.op=true) (hd:o.dst=none) (h:opStep cf s (.storeK y x)=some s'):Sim P fi o M w s' a:=by
 obtain⟨dst,op,ty,pos,aft,gd⟩:=o
 cases op<;>simp[mOp] at hm
 rename_i t y' x'
 simp only[opStep] at h
 split at h
 ·rename_i b gen i v hp hv
  split at h
  ·rename_i g xs hgh
   split at h
   ·rename_i hc
    obtain⟨rfl,hi,hfl⟩:=hc
    cases h
    have hp':=jqt hI hm.1.1 hp
    have hv':=jqt hI hm.1.2 hv
    generalize hu:a.eval y'=u at hp'
    cases (show RepP fi M w (.pstk b g i) u from hp') with
    |pstk _ _ _ blk hb hgn hA=>
    obtain⟨o1,o2,o3,o4,o5,cs,T,o6,o7,o8,o9⟩:RepStk fi M w b M.gb[b] g xs:=hI.gh b _ _ hgh (List.getElem?_eq_getElem hb)
    have hblk:=hA o2.symm
    subst hblk
    have hrv:RepP fi M w v (a.eval x'):=hv'.repP (by cases v<;>first|rfl|(simp[isFlat] at hfl))
    have hst:=run_storeCells_at P (M.st b).2.1 i T [a.eval x'] 0 cs w o6 (by simp;omega) (by simpa using juf hrv hfl)
    simp only[Nat.add_zero] at hst
    generalize hcs2:(cs.toList.take i++[a.eval x']++cs.toList.drop (i+[a.eval x'].length)).toArray=cs2 at hst
    have hfit:i+[a.eval x'].length≤cs.toList.length:=by simp;omega
    have hget:∀k,cs2[k]?=if k<i then cs[k]? else if k<i+1 then [a.eval x'][k-i]? else cs[k]?:=fun k=>by
     rw[←hcs2]
     simp only[List.getElem?_toArray]
     rw[jrc _ _ _ _ hfit];simp
    have hsz2:cs2.size=cs.size:=by rw[←hcs2];simp only[List.size_toArray];rw[jrt _ _ _ hfit];simp
    obtain⟨r1,r2⟩:=hI.restk (zs:=xs.set i v) hgh o6 hsz2 (by simp;omega) (fun z hz=>by
     rcases List.mem_or_eq_of_mem_set hz with h|h
     ·exact o5 z h
     ·rw[h];exact hfl) (fun j z hj=>by
     rw[List.getElem?_set] at hj
     rw[hget]
     by_cases hji:i=j
     ·subst hji
      rw[if_pos rfl,if_pos hi] at hj
      cases hj
      rw[if_neg (by omega),if_pos (by omega)]
      exact⟨_,by simp,jro hrv hfl⟩
     ·rw[if_neg hji] at hj
      obtain⟨u,hu,hr⟩:=o9 j z hj
      refine⟨u,?_,jro hr (o5 z (List.mem_of_getElem? hj))⟩
      by_cases hlt:j<i
      ·rw[if_pos hlt];exact hu
      ·rw[if_neg hlt,if_neg (by omega)];exact hu)
    refine⟨_,undef,M,_,?_,.inr ⟨rfl,rfl⟩,by rw[show dst=none from hd];exact r1,r2⟩
    have hcell:(a.eval x').cells= #[a.eval x']:=by
     have:=hrv
     generalize a.eval x'=u at this
     cases this<;>first|rfl|(simp[isFlat] at hfl)
    have hrun:(Instr.storeAt t (.pointer (some ⟨(M.st b).2.1,i,none⟩)) (a.eval x')).run P w= .ok () (w.setRow (M.st b).2.1 cs2):=by
     have hst':(storeCells ⟨(M.st b).2.1,i,none⟩ (a.eval x').cells.toList).run P w= .ok () (w.setRow (M.st b).2.1 cs2):=by rw[hcell];exact hst
     simp[Instr.storeAt,Instr.sureAddr,storeVar,run_sizeOf' hm.2,hcell,hst]
    simp[execOp,hu,hrun]
   ·cases h
  ·cases h
 ·cases h
theorem j11m {o:Oper} {x:IX} (hI:Inv fi M w s a) (hm:mOp P fi (.clearK x) o.op=true) (hd:o.dst=none) (h:opStep cf s (.clearK x)=some s'):Sim P fi o M w s' a:=by
 obtain⟨dst,op,ty,pos,aft,gd⟩:=o
 cases op with
 | call c =>
  obtain⟨callee,args,argTypes⟩:=c
  cases callee with
  | builtin bi=>
   cases bi<;>simp[mOp] at hm
   split at hm
   ·rename_i y t ha ht
    have ha':args= #[y]:=by apply Array.ext';simpa using ha
    have ht':argTypes= #[t]:=by apply Array.ext';simpa using ht
    subst ha';subst ht'
    simp only[Bool.and_eq_true] at hm
    obtain⟨hx,hm⟩:=hm
    split at hm<;>try (cases hm;done)
    rename_i e hu
    split at hm<;>try (cases hm;done)
    rename_i zn hzv
    have hz0:zn=0:=by simpa using hm
    subst hz0
    simp only[opStep] at h
    split at h
    ·rename_i b gen off n hp
     split at h
     ·rename_i g xs hgh
      split at h
      ·rename_i hc
       obtain⟨rfl,hn⟩:=hc
       cases h
       have hx':=jqt hI hx hp
       generalize hv:a.eval y=v at hx'
       cases (show RepP fi M w (.sub b g off n) v from hx') with
       |sub _ _ _ _ blk c A hb hgn hA hcn hAd=>
       obtain⟨o1,o2,o3,o4,o5,cs,T,o6,o7,o8,o9⟩:RepStk fi M w b M.gb[b] g xs:=hI.gh b _ _ hgh (List.getElem?_eq_getElem hb)
       obtain⟨hblk,hcc⟩:=hA o2.symm
       subst hblk
       rcases Nat.eq_zero_or_pos n with h0|h0
       ·subst h0
        have hset:s.gh.set b (.stk g (xs.take off++List.replicate 0 (PV.int .i64 0)++xs.drop (off+0)))=s.gh:=by
         simp only[List.replicate_zero,List.append_nil,Nat.add_zero,List.take_append_drop]
         apply List.ext_getElem?
         intro j
         rw[List.getElem?_set]
         by_cases hj:b=j
         ·subst hj
          rw[if_pos rfl,if_pos (List.getElem?_eq_some_iff.1 hgh).1,hgh]
         ·rw[if_neg hj]
        rw[hset]
        refine⟨.value (.tuple #[]),.tuple #[],M,w,?_,.inl rfl,by rw[show dst=none from hd];exact hI,Kp.refl M w⟩
        cases A<;>simp[execOp,resolve,jrh,builtin,hv,Builtin.clear_,run_underlying hu]
       have hzr:∀w,(zeroValue e).run P w= .ok (.int .i64 0) w:=fun w=>by
        simp only[Option.bind_eq_some_iff] at hzv
        obtain⟨i,hi,hz⟩:=hzv
        simp[zeroValue,typeInfo,hi,hz]
       have hst:=run_storeCells_at P (M.st b).2.1 off T (List.replicate n (.int .i64 0)) 0 cs w o6 (by simp;omega) (by intro u hu';rw[List.eq_of_mem_replicate hu'];rfl)
       simp only[Nat.add_zero] at hst
       generalize hcs2:(cs.toList.take off++List.replicate n (Value.int .i64 0)++cs.toList.drop (off+(List.replicate n (Value.int .i64 0)).length)).toArray=cs2 at hst
       have hfit:off+(List.replicate n (Value.int .i64 0)).length≤cs.toList.length:=by simp;omega
       have hget:∀k,cs2[k]?=if k<off then cs[k]? else if k<off+n then (List.replicate n (Value.int .i64 0))[k-off]? else cs[k]?:=fun k=>by
        rw[←hcs2]
        simp only[List.getElem?_toArray]
        rw[jrc _ _ _ _ hfit];simp
       have hsz2:cs2.size=cs.size:=by rw[←hcs2];simp only[List.size_toArray];rw[jrt _ _ _ hfit];simp
       have hzl:(xs.take off++List.replicate n (PV.int .i64 0)++xs.drop (off+n)).length=xs.length:=by simp;omega
       have hzg:∀j,(xs.take off++List.replicate n (PV.int .i64 0)++xs.drop (off+n))[j]?=if j<off then xs[j]? else if j<off+n then (List.replicate n (PV.int .i64 0))[j-off]? else xs[j]?:=fun j=>by
        have:=jrc xs (List.replicate n (PV.int .i64 0)) off j (by simp;omega)
        simpa using this
       obtain⟨r1,r2⟩:=hI.restk (zs:=xs.take off++List.replicate n (PV.int .i64 0)++xs.drop (off+n)) hgh o6 hsz2 (by rw[hzl,hsz2];exact o8) (fun z hz=>by
        simp only[List.mem_append] at hz
        rcases hz with (hz|hz)|hz
        ·exact o5 z (List.mem_of_mem_take hz)
        ·rw[List.eq_of_mem_replicate hz];rfl
        ·exact o5 z (List.mem_of_mem_drop hz)) (fun j z hj=>by
        rw[hzg] at hj
        rw[hget]
        by_cases h1:j<off
        ·rw[if_pos h1] at hj ⊢
         obtain⟨u,hu',hr⟩:=o9 j z hj
         exact⟨u,hu',jro hr (o5 z (List.mem_of_getElem? hj))⟩
        ·rw[if_neg h1] at hj ⊢
         by_cases h2:j<off+n
         ·rw[if_pos h2] at hj ⊢
          rw[List.getElem?_replicate,if_pos (by omega)] at hj ⊢
          cases hj
          exact⟨_,rfl,fun _ _=> .int _ _⟩
         ·rw[if_neg h2] at hj ⊢
          obtain⟨u,hu',hr⟩:=o9 j z hj
          exact⟨u,hu',jro hr (o5 z (List.mem_of_getElem? hj))⟩)
       have hzc:(Builtin.zeroCells #[Value.int .i64 0] n).toList=List.replicate n (Value.int .i64 0):=by
        simp[Builtin.zeroCells]
        apply List.ext_getElem
        ·simp
        ·intro i h1 h2
         simp[Nat.mod_one]
       refine⟨.value (.tuple #[]),.tuple #[],M,_,?_,.inl rfl,by rw[show dst=none from hd];exact r1,r2⟩
       have hA':=hAd.resolve_left (by omega)
       subst hA'
       obtain⟨m,rfl⟩:∃m,n=m+1:=⟨n-1,by omega⟩
       simp[execOp,resolve,jrh,builtin,hv,Builtin.clear_,run_underlying hu,hzr,hzc,hst,Value.cells]
      ·cases h
     ·cases h
    ·cases h
   ·cases hm
  |_=>simp[mOp] at hm
 |_=>simp[mOp] at hm
theorem jwf {o:Oper} {d:Nat} {x:IX} (hI:Inv fi M w s a) (hm:mOp P fi (.load d false 1 x) o.op=true) (hd:o.dst=some d) (hlt:d<a.tmps.size) (h:opStep cf s (.loadK d x)=some s'):Sim P fi o M w s' a:=by
 obtain⟨dst,op,ty,pos,aft,gd⟩:=o
 cases op<;>simp[mOp] at hm
 rename_i t y
 simp only[opStep] at h
 split at h
 ·rename_i b gen i hp
  simp only[Option.map_eq_some_iff] at h
  obtain⟨v,hg,rfl⟩:=h
  obtain⟨r,h1,h2⟩:=j10q (P:=P) hI hm.1.2 (jqt hI hm.1.1 hp) hg
  exact Sim.pure hI hd hlt (by simp[execOp,h1]) h2.repE.repAt
 ·cases h
end
end Go.Lw
end

/-! What a function that is called sees of memory, and what is told of it when it is back. -/
section
namespace Go.Lw
open Go Go.RowKit
section
variable {fi:FI} {M M':Mem} {w w':World} {P:Program} {s s':St} {a:Act} {cf:CallF}
def Mem.noLb (M:Mem):Mem:={M with lb:=[] }
theorem Ext.noLb (M:Mem) (w:World):Ext M w M.noLb w:=⟨fun _ _ h=>h,fun _ _ h=>h,fun _ _ _=>rfl,fun _ _=>⟨Nat.le_refl _,fun _=>rfl⟩⟩
theorem OwnRep.noLb {l:Loc} {z:Nat} {xs:List PV} {v:Value} (h:OwnRep fi M w l z xs v):OwnRep fi M.noLb w l z xs v:=by
  obtain⟨h1,h2⟩:=h
  refine⟨h1.mono (Ext.noLb M w),?_⟩
  rcases h2 with h2|⟨b,o,c,cs,e,hv,ho,hh,hs,hk,hb1,hb2⟩
  · exact .inl h2
  · exact .inr ⟨b,o,c,cs,e,hv,ho,hh,hs,hk,by simp[Mem.noLb],hb2⟩
theorem RepC.noLb {l:Loc} {p:PV} {v:Value} (h:RepC fi M w l p v):RepC fi M.noLb w l p v:=by
  unfold RepC at *
  split at h
  · exact OwnRep.noLb h
  · exact h.mono (Ext.noLb M w)
theorem RepObj.noLb {i blk:Nat} {o:GObj} (h:RepObj fi M w i blk o):RepObj fi M.noLb w i blk o:=by
  cases o with
  | cells cs=>
    obtain⟨h1,h2,h3,h4,vs,T,h5,h6,h7⟩:=h
    exact⟨h1,h2,h3,h4,vs,T,h5,h6,fun i c u hc hu=>(h7 i c u hc hu).noLb⟩
  | map es=>
    obtain⟨h1,h2,l,clock,h3,h4,h5⟩:=h
    exact⟨h1,h2,l,clock,h3,h4,fun i e m he hm=>⟨(h5 i e m he hm).1.mono (Ext.noLb M w),(h5 i e m he hm).2.1.mono (Ext.noLb M w),(h5 i e m he hm).2.2⟩⟩
  | stk gen xs=>
    obtain⟨h1,h2,h3,h4,h5,cs,T,h6,h7,h8,h9⟩:=h
    exact⟨h1,h2,h3,h4,h5,cs,T,h6,h7,h8,fun j x hj=>by
      obtain⟨u,hu,hr⟩:=h9 j x hj
      exact⟨u,hu,hr.mono (Ext.noLb M w)⟩⟩
  | bld s=>
    obtain⟨h1,h2,h3,T,hT,h4⟩:=h
    refine⟨h1,h2,h3,T,hT,?_⟩
    rcases h4 with h4|⟨c,cap,cur,h5,h6,h7,h8⟩
    · exact .inl h4
    · exact .inr ⟨c,cap,cur,h5,h6,by simp[Mem.noLb],h8⟩
theorem juh {p:PV} (h:resOk p=true) (h1:∀cs,p≠ .tup cs):argOk p=true:=by
  cases p with
  |tup cs=>exact absurd rfl (h1 cs)
  |_=>exact h
theorem RepAt.noLb {mk:Nat→Loc} {p:PV} {v:Value} (h:RepAt fi M w mk p v) (hok:resOk p=true):RepAt fi M.noLb w mk p v:=by
  unfold RepAt at *
  split at h
  · exact OwnRep.noLb h
  · cases hok
  · obtain⟨vs,h1,h2,h3⟩:=h
    exact⟨vs,h1,h2,fun i c u hc hu=>(h3 i c u hc hu).noLb⟩
  · obtain⟨vs,h1,h2,h3⟩:=h
    exact⟨vs,h1,h2,fun i c u hc hu=>(h3 i c u hc hu).noLb⟩
  · rename_i h3
    exact ((h.repP (juh hok (fun cs=>h3 cs))).mono (Ext.noLb M w)).repE
theorem gb_own (hI:Inv fi M w s a) {b:Nat} (hb:b∈M.gb):M.own b=none∨∃i j,M.own b=some (Loc.gh i j):=by
  obtain⟨i,hi,rfl⟩:=List.mem_iff_getElem.1 hb
  have h2:i<s.gh.length:=by rw[←hI.gbl];exact hi
  have:=hI.gh i _ _ (List.getElem?_eq_getElem h2) (List.getElem?_eq_getElem hi)
  cases ho:s.gh[i] with
  |cells cs=>rw[ho] at this;exact .inl this.2.2.1
  |map es=>rw[ho] at this;exact .inl this.2.1
  |stk gen xs=>rw[ho] at this;exact .inr ⟨_,_,this.1⟩
  |bld s=>rw[ho] at this;exact .inl this.2.2.1
theorem lb_own (hI:Inv fi M w s a) {b:Nat} (hb:b∈M.lb):M.own b=none:=by
  obtain⟨i,hi,rfl⟩:=List.mem_iff_getElem.1 hb
  have h2:i<s.lh.length:=by rw[←hI.lbl];exact hi
  exact (hI.lh i _ _ (List.getElem?_eq_getElem h2) (List.getElem?_eq_getElem hi)).2.2.1
def GI (fi:FI) (M:Mem) (w:World) (gh:List GObj):Prop:=Inv fi M w ⟨[],[],gh⟩ ⟨#[],[]⟩
def priv (g:Bool):Loc→Bool
  | .gh _ _=> !g
  |_=>true
def Mem.callee (M:Mem) (g:Bool):Mem:={lb:=[],gb:=if g then M.gb else [],imm:=M.imm,own:=fun b=>(M.own b).bind fun l=>if priv g l then none else some l,st:=M.st }
def backL (g:Bool) (mk:Nat→Loc):Loc→Option Loc
  | .gh i j=>if g then some (.gh i j) else none
  | .res i=>some (mk i)
  |_=>none
def Mem.back (M M':Mem) (g:Bool) (mk:Nat→Loc):Mem:=
  { lb:=M.lb,gb:=if g then M'.gb else M.gb,imm:=M'.imm,
    own:=fun b=>match M.own b with
      |some l=>if priv g l then some l else (M'.own b).bind (backL g mk)
      |none=>(M'.own b).bind (backL g mk),
    st:=if g then M'.st else M.st }
theorem callee_own {g:Bool} {b:Nat} {l:Loc}:(M.callee g).own b=some l↔M.own b=some l∧priv g l=false:=by
  simp only[Mem.callee,Option.bind_eq_some_iff]
  constructor
  · rintro⟨l',h1,h2⟩
    cases hp:priv g l'<;>simp[hp] at h2
    subst h2;exact⟨h1,hp⟩
  · rintro⟨h1,h2⟩
    exact⟨l,h1,by simp[h2]⟩
theorem callee_own_none {g:Bool} {b:Nat}:(M.callee g).own b=none↔(∀l,M.own b=some l→priv g l=true):=by
  cases ho:(M.callee g).own b with
  | none=>
    simp only[true_iff]
    intro l hl
    cases hp:priv g l with
    |true=>rfl
    |false=>rw[callee_own.2 ⟨hl,hp⟩] at ho;cases ho
  | some l=>
    obtain⟨h1,h2⟩:=callee_own.1 ho
    constructor
    · intro h;cases h
    · intro h;rw[h l h1] at h2;cases h2
theorem j11n {g:Bool} {l:Loc} (h:priv g l=false):∃i j,l= .gh i j:=by
  cases l<;>simp[priv] at h
  exact⟨_,_,rfl⟩
theorem Inv.callee (hI:Inv fi M w s a) (g:Bool):GI fi (M.callee g) w (if g then s.gh else [])∧(M.callee g).lb=[]∧∀b l,(M.callee g).own b=some l→∃i j,l= .gh i j:=by
  refine⟨⟨fun t v h=>by simp[get] at h,rfl,rfl,?_,?_,fun i cs blk h=>by simp at h,fun i o blk h1 h2=>?_,hI.gl,hI.immlt,fun b l h=>hI.ownlt b l (callee_own.1 h).1,fun b hb=>?_⟩,rfl,fun b l h=>j11n (callee_own.1 h).2⟩
  · cases g
    · rfl
    · exact hI.gbl
  · cases g
    · simp[Mem.callee]
    · have:=hI.nodup
      rw[List.nodup_append] at this
      simpa [Mem.callee] using this.2.1
  · cases g with
    |false=>simp at h1
    | true=>
      have h3:=(hI.gh i o blk h1 h2).noLb
      have G:Good M.noLb w (M.callee true) w (fun l=>priv true l=true) (fun _=>False):=
        ⟨⟨fun _ _ h=>h,fun _ _ h=>h,fun _ _ _=>rfl,fun _ _=>⟨Nat.le_refl _,fun _=>rfl⟩⟩,Nat.le_refl _,fun i k h=>by simp[Mem.noLb] at h,
          fun b l h hl=>⟨callee_own.2 ⟨h,by simpa using hl⟩,rfl,fun _ h=>h,fun h=>h,fun h=>h⟩,
          fun b _ _ h=>⟨rfl,fun _ h=>h,callee_own_none.2 fun l hl=>by rw[show M.own b=none from h] at hl;cases hl⟩,fun _ _=>rfl⟩
      exact h3.good G (by simp) (by simp[priv])
  · cases g with
    |false=>simp[Mem.callee] at hb
    |true=>exact hI.gblt b hb
theorem Inv.back (hI:Inv fi M w s a) (g:Bool) {gh':List GObj} (mk:Nat→Loc) (hmk:∀i,priv g (mk i)=true) (hG:GI fi M' w' gh') (hlb:M'.lb=[])
    (hk:Kp (M.callee g) w M' w') {r:PV} {v:Value} (hr:RepAt fi M' w' Loc.res r v) (hg:g=false→r.noG=true) (hok:resOk r=true) :
    Inv fi (M.back M' g mk) w' ⟨s.env,s.lh,if g then gh' else s.gh⟩ a∧Kp M w (M.back M' g mk) w'∧RepAt fi (M.back M' g mk) w' mk r v:=by
  have bown:∀b l,M.own b=some l→priv g l=true→(M.back M' g mk).own b=some l:=fun b l h hp=>by simp[Mem.back,h,hp]
  have bown2:∀b,(∀l,M.own b=some l→priv g l=false)→(M.back M' g mk).own b=(M'.own b).bind (backL g mk):=fun b h=>by
    cases ho:M.own b with
    |none=>simp[Mem.back,ho]
    |some l=>simp[Mem.back,ho,h l ho]
  -- what is the caller's own, the callee leaves
  have pv:∀b l,M.own b=some l→priv g l=true→M'.own b=none∧w'.heap[b]?=w.heap[b]?∧∀k,M'.imm b k→M.imm b k:=fun b l h hp=>by
    have hc:(M.callee g).own b=none:=callee_own_none.2 fun l' hl'=>by rw[h] at hl';cases hl';exact hp
    have hlt:=hI.ownlt b l h
    refine⟨hk.ownn b hlt hc,hk.block b hlt (by simp[Mem.callee]) (fun hb=>?_) hc,fun k hi=>?_⟩
    · cases g with
      |false=>simp[Mem.callee] at hb
      | true=>
        rcases gb_own hI hb with this|⟨i,j,this⟩<;>rw[h] at this<;>cases this
        simp[priv] at hp
    · rcases hk.immn b k hi with h1|h1|h1
      · exact h1
      · omega
      · exact absurd hc h1
  have no:∀b,b<w.heap.size→¬(g=true∧b∈M.gb)→M.own b=none→w'.heap[b]?=w.heap[b]?∧(∀k,M'.imm b k→M.imm b k)∧M'.own b=none:=fun b hlt hx h=>by
    have hc:(M.callee g).own b=none:=callee_own_none.2 fun l' hl'=>by rw[h] at hl';cases hl'
    refine⟨hk.block b hlt (by simp[Mem.callee]) (fun hb=>?_) hc,fun k hi=>?_,hk.ownn b hlt hc⟩
    · cases g with
      |false=>simp[Mem.callee] at hb
      |true=>exact hx ⟨rfl,hb⟩
    · rcases hk.immn b k hi with h1|h1|h1
      · exact h1
      · omega
      · exact absurd hc h1
  have gbx:∀b,b∈M'.gb→b∈M.gb∨w.heap.size≤b∨(M.callee g).own b≠none:=fun b hb=>by
    rcases hk.gbn b hb with h1|h1
    · cases g with
      |false=>simp[Mem.callee] at h1
      |true=>exact .inl h1
    · exact .inr h1
  have lbg:∀b,b∈M.lb→b∉M.gb:=fun b h1 h2=>by
    have:=hI.nodup
    rw[List.nodup_append] at this
    exact this.2.2 b h1 b h2 rfl
  have gbb:∀b,b∈(M.back M' g mk).gb→b∈M.gb∨w.heap.size≤b∨(M.callee g).own b≠none:=fun b hb=>by
    cases g with
    |false=>exact .inl hb
    |true=>exact gbx b hb
  have hext:Ext M w (M.back M' g mk) w':=⟨fun i k h=>by
      cases g with
      |false=>exact h
      |true=>exact hk.ext.gb i k h,hk.ext.imm,hk.ext.cell,fun b hb=>by
      cases g with
      |false=>exact⟨Nat.le_refl _,fun _=>rfl⟩
      |true=>exact hk.ext.st b hb⟩
  have G:Good M w (M.back M' g mk) w' (fun l=>priv g l=false) (fun b=>g=true∧b∈M.gb):=
    ⟨hext,hk.size,fun _ _ h=>h,
      fun b l h hl=>by
        have hp:priv g l=true:=by simpa using hl
        obtain⟨p1,p2,p3⟩:=pv b l h hp
        refine⟨bown b l h hp,p2,fun k h1 h2=>h1 (p3 k h2),fun h=>h,fun h1 h2=>?_⟩
        rcases gbb b h2 with h3|h3|h3
        · exact h1 h3
        · have:=hI.ownlt b l h;omega
        · exact h3 (callee_own_none.2 fun l' hl'=>by rw[h] at hl';cases hl';exact hp),
      fun b hlt hx h=>by
        obtain⟨n1,n2,n3⟩:=no b hlt hx h
        refine⟨n1,fun k h1 h2=>h1 (n2 k h2),?_⟩
        rw[bown2 b (fun l hl=>by rw[h] at hl;cases hl),n3];rfl,
      fun i hi=>by
        cases g with
        |false=>rfl
        |true=>exact absurd (show priv true (Loc.gh i 0)=false from rfl) hi⟩
  -- the callee's boxes
  have G2 :Good M' w' (M.back M' g mk) w' (fun l=>¬∃i j,l= .gh i j∧g=true) (fun b=>∃l,M.own b=some l∧priv g l=true)∨g=false:=by
    cases hgb:g with
    |false=>exact .inr rfl
    | true=>
      subst hgb
      refine .inl ⟨⟨fun _ _ h=>h,fun _ _ h=>h,fun _ _ _=>rfl,fun _ _=>⟨Nat.le_refl _,fun _=>rfl⟩⟩,Nat.le_refl _,fun i k h=>by rw[hlb] at h;simp at h,fun b l h hl=>?_,fun b hlt hx h=>?_,fun _ _=>rfl⟩
      · obtain⟨i,j,rfl,_⟩:=Classical.not_not.1 hl
        have np:∀l,M.own b=some l→priv true l=false:=fun l hl=>by
          cases hp:priv true l with
          |false=>rfl
          |true=>rw[(pv b l hl hp).1] at h;cases h
        refine⟨by rw[bown2 b np,h];rfl,rfl,fun _ h=>h,fun _ h2=>?_,fun h=>h⟩
        have h3:=lb_own hI h2
        have h4:=(no b (lb_lt hI b h2) (fun hx=>lbg b h2 hx.2) h3).2.2
        rw[h4] at h;cases h
      · refine⟨rfl,fun _ h=>h,?_⟩
        rw[bown2 b (fun l hl=>by
          cases hp:priv true l with
          |false=>rfl
          |true=>exact absurd ⟨l,hl,hp⟩ hx),h];rfl
  refine⟨⟨fun t u hu=>⟨(hI.env t u hu).1,(hI.env t u hu).2.good G (fun i=>by simp[priv])⟩,hI.defers,hI.lbl,?_,?_,fun i cs blk h1 h2=>(hI.lh i cs blk h1 h2).good G (fun hx=>lbg blk (List.mem_of_getElem? h2) hx.2) (fun i=>by simp[priv]),
    fun i o blk h1 h2=>?_,hG.gl,hG.immlt,fun b l h=>?_,fun b hb=>?_⟩,⟨hk.os,hk.tape,hk.output,hk.size,hext,fun k hlt h1 h2 h3=>(no k hlt (fun hx=>h2 hx.2) h3).1,fun k h=> .inl h,fun b hb=>(gbb b hb).imp_right fun h=>h.imp_right fun h h2=>h (callee_own_none.2 fun l' hl'=>by rw[h2] at hl';cases hl'),fun k hlt h=>?_,fun b k h=>?_⟩,?_⟩
  · cases g with
    |false=>exact hI.gbl
    |true=>exact hG.gbl
  · cases g with
    |false=>exact hI.nodup
    | true=>
      have h1:=hI.nodup
      have h2:=hG.nodup
      rw[List.nodup_append] at h1 ⊢
      rw[hlb,List.nil_append] at h2
      refine⟨h1.1,h2,fun x hx y hy hxy=>?_⟩
      subst hxy
      rcases gbx x hy with h3|h3|h3
      · exact lbg x hx h3
      · have:=lb_lt hI x hx;omega
      · exact h3 (callee_own_none.2 fun l' hl'=>by rw[lb_own hI hx] at hl';cases hl')
  · cases g with
    |false=>exact (hI.gh i o blk h1 h2).good G (by simp) (fun j=>by simp[priv])
    | true=>
      have h3:=hG.gh i o blk h1 h2
      refine h3.good (G2.resolve_right (by simp)) ?_ (fun j h=>h ⟨i,j,rfl,rfl⟩)
      rintro⟨l,h4,h5⟩
      rcases gbx blk (List.mem_of_getElem? h2) with h6|h6|h6
      · rcases gb_own hI h6 with this|⟨i',j',this⟩<;>rw[h4] at this<;>cases this
        simp[priv] at h5
      · have:=hI.ownlt blk l h4;omega
      · exact h6 (callee_own_none.2 fun l' hl'=>by rw[h4] at hl';cases hl';exact h5)
  · cases ho:M.own b with
    |some l'=>exact Nat.lt_of_lt_of_le (hI.ownlt b l' ho) hk.size
    | none=>
      rw[bown2 b (fun l hl=>by rw[ho] at hl;cases hl),Option.bind_eq_some_iff] at h
      obtain⟨l',h1,_⟩:=h
      exact hG.ownlt b l' h1
  · cases g with
    |false=>exact Nat.lt_of_lt_of_le (hI.gblt b hb) hk.size
    |true=>exact hG.gblt b hb
  · by_cases hx:g=true∧k∈M.gb
    · obtain⟨rfl,hx⟩:=hx
      have hc:(M.callee true).own k=none:=callee_own_none.2 fun l' hl'=>by rw[h] at hl';cases hl'
      rw[bown2 k (fun l hl=>by rw[h] at hl;cases hl),hk.ownn k hlt hc];rfl
    · rw[bown2 k (fun l hl=>by rw[h] at hl;cases hl),(no k hlt hx h).2.2];rfl
  · rcases hk.immn b k h with h1|h1|h1
    · exact .inl h1
    · exact .inr (.inl h1)
    · refine .inr (.inr fun h2=>h1 (callee_own_none.2 fun l hl=>by rw[h2] at hl;cases hl))
  · -- the result
    have ow : ∀{i:Nat} {z:Nat} {xs:List PV} {u:Value},OwnRep fi M' w' (.res i) z xs u→(g=false→noGs xs=true)→OwnRep fi (M.back M' g mk) w' (mk i) z xs u:=by
      intro i z xs u h hng
      obtain⟨h1,h2⟩:=h
      have e1:RepP fi (M.back M' g mk) w' (.sl false z xs) u:=by
        cases hgb:g with
        |true=>subst hgb;exact h1.mono (show Ext M' w' (M.back M' true mk) w' from⟨fun _ _ h=>h,fun _ _ h=>h,fun _ _ _=>rfl,fun _ _=>⟨Nat.le_refl _,fun _=>rfl⟩⟩)
        | false=>
          subst hgb
          exact (h1.noG M.gb M.st (by simpa [PV.noG] using hng rfl)).mono (show Ext {M' with gb:=M.gb,st:=M.st } w' (M.back M' false mk) w' from⟨fun _ _ h=>h,fun _ _ h=>h,fun _ _ _=>rfl,fun _ _=>⟨Nat.le_refl _,fun _=>rfl⟩⟩)
      refine⟨e1,?_⟩
      rcases h2 with h2|⟨b,o,c,cs,e,hv,ho,hh,hs,hk',hb1,hb2⟩
      · exact .inl h2
      · have np:∀l,M.own b=some l→priv g l=false:=fun l hl=>by
          cases hp:priv g l with
          |false=>rfl
          |true=>rw[(pv b l hl hp).1] at ho;cases ho
        refine .inr ⟨b,o,c,cs,e,hv,by rw[bown2 b np,ho];rfl,hh,hs,hk',fun h2=>?_,fun h2=>?_⟩
        · have h3:=lb_own hI h2
          have h4:=(no b (lb_lt hI b h2) (fun hx=>lbg b h2 hx.2) h3).2.2
          rw[h4] at ho;cases ho
        · cases hgb:g with
          |true=>subst hgb;exact hb2 h2
          | false=>
            subst hgb
            rcases gb_own hI (b:=b) h2 with h3|⟨i',j',h3⟩
            · have h4:=(no b (hI.gblt b h2) (by simp) h3).2.2
              rw[h4] at ho;cases ho
            · rw[(pv b _ h3 rfl).1] at ho;cases ho
    have rp:∀{p:PV} {u:Value},RepP fi M' w' p u→(g=false→p.noG=true)→RepP fi (M.back M' g mk) w' p u:=by
      intro p u h hng
      cases hgb:g with
      |true=>subst hgb;exact h.mono (show Ext M' w' (M.back M' true mk) w' from⟨fun _ _ h=>h,fun _ _ h=>h,fun _ _ _=>rfl,fun _ _=>⟨Nat.le_refl _,fun _=>rfl⟩⟩)
      | false=>
        subst hgb
        exact (h.noG M.gb M.st (hng rfl)).mono (show Ext {M' with gb:=M.gb,st:=M.st } w' (M.back M' false mk) w' from⟨fun _ _ h=>h,fun _ _ h=>h,fun _ _ _=>rfl,fun _ _=>⟨Nat.le_refl _,fun _=>rfl⟩⟩)
    have rc:∀{i:Nat} {p:PV} {u:Value},RepC fi M' w' (.res i) p u→(g=false→p.noG=true)→RepC fi (M.back M' g mk) w' (mk i) p u:=by
      intro i p u h hng
      unfold RepC at *
      split at h
      · exact ow h (fun e=>by simpa [PV.noG] using hng e)
      · exact rp h hng
    unfold RepAt at hr ⊢
    split at hr
    · exact ow hr (fun e=>by simpa [PV.noG] using hg e)
    · cases hok
    · obtain⟨vs,h1,h2,h3⟩:=hr
      exact⟨vs,h1,h2,fun i c u hc hu=>rc (h3 i c u hc hu) (fun e=>jrk (by simpa [PV.noG] using hg e) hc)⟩
    · obtain⟨vs,h1,h2,h3⟩:=hr
      exact⟨vs,h1,h2,fun i c u hc hu=>rc (h3 i c u hc hu) (fun e=>jrk (by simpa [PV.noG] using hg e) hc)⟩
    · rename_i h3
      exact (rp (hr.repP (juh hok (fun cs=>h3 cs))) hg).repE
end
end Go.Lw
end

/-! New lists of zeros, and how they become boxes. -/
section
namespace Go.Lw
open Go Go.RowKit
section
variable {fi:FI} {M M':Mem} {w w':World} {P:Program} {s s':St} {a:Act} {cf:CallF}
theorem jsw {z:PV} (h:isFlat z=true):z.cells=[z]∧z.one=true∧argOk z=true:=by
 cases z<;>simp[isFlat] at h<;>exact⟨rfl,rfl,rfl⟩
theorem j11o {z:PV} (h:isFlat z=true):RepP fi M w z (flatV z):=by
 cases z<;>simp[isFlat] at h
 ·exact .int _ _
 ·exact .bool _
theorem j11p {z:PV} {v:Value} (h:isFlat z=true) (hr:RepP fi M w z v):v=flatV z:=by
 cases z<;>simp[isFlat] at h<;>cases hr<;>rfl
theorem j11q {o:Oper} {d z bytes:Nat} {zero:PV} {l:IX} (hI:Inv fi M w s a) (hm:mOp P fi (.mksl d true z bytes zero l) o.op=true) (hd:o.dst=some d) (hlt:d<a.tmps.size) (h:opStep cf s (.mkarr d z bytes zero l)=some s'):Sim P fi o M w s' a:=by
 obtain⟨dst,op,ty,pos,aft,gd⟩:=o
 cases op<;>simp[mOp] at hm
 rename_i t y y'
 obtain⟨⟨⟨hx,hx'⟩,hb0⟩,hm⟩:=hm
 split at hm<;>try (cases hm;done)
 rename_i e hu
 split at hm<;>try (cases hm;done)
 rename_i i hi
 simp only[Bool.and_eq_true,beq_iff_eq] at hm
 obtain⟨⟨hsz,hby⟩,hm⟩:=hm
 split at hm<;>try (cases hm;done)
 rename_i zv hzv
 simp only[Bool.and_eq_true,beq_iff_eq] at hm
 obtain⟨hzc,hzs⟩:=hm
 simp only[opStep] at h
 split at h
 ·rename_i k n hn
  split at h
  ·rename_i hc
   obtain⟨h0,hbd,rfl,hfl⟩:=hc
   cases h
   obtain⟨f1,f2,f3⟩:=jsw hfl
   have v1:=(jqt hI hx hn).int
   have v2:=(jqt hI hx' hn).int
   have hb1:n*1≤n*(bytes:Int):=Int.mul_le_mul_of_nonneg_left (by omega) h0
   have hmx:(maxBytes:Int)=140737488355328:=rfl
   have hrun:=run_make (P:=P) w t e i zv hu hi hzv k k n n h0 (Int.le_refl _) (by rw[hby,Int.mul_comm];omega) (by omega)
   rw[hsz,Nat.mul_one] at hrun
   -- the zeros
   have hzv0:∃u,zv.cells= #[u]∧u=flatV zero:=by
    obtain⟨vs,e1,e2,e3,_⟩:=(cOk_at (fi:=fi) (M:=M) (w:=w) hzc Loc.lim).cells f3
    rw[f1] at e2 e3
    obtain⟨u,rfl⟩:=List.length_eq_one_iff.1 e2
    refine⟨u,by simpa using e1,?_⟩
    have:=(e3 0 zero u rfl rfl)
    have h2:RepP fi M w zero u:=by
     cases zero<;>simp[isFlat] at hfl<;>exact this
    exact j11p hfl h2
   obtain⟨u,hzu,rfl⟩:=hzv0
   have hmade:madeCells zv.cells n.toNat=Array.replicate n.toNat (flatV zero):=by
    apply Array.ext'
    apply List.ext_getElem?
    intro j
    by_cases hj:j<n.toNat
    ·rw[jw6 _ _ _ hj,hzu]
     simp[hj,Nat.mod_one]
    ·rw[List.getElem?_eq_none (by simp[madeCells];omega),List.getElem?_eq_none (by simp;omega)]
   rw[hmade] at hrun
   let M1:Mem:={M with own:=fun b=>if b=w.heap.size then some (Loc.env d 0) else M.own b }
   obtain⟨g1,k1⟩:=Good.alloc hI (.cells (Array.replicate n.toNat (flatV zero)) e) M1 [] [] (by simp[M1]) (by simp[M1]) (by simp) (by simp) (fun _=>False) (by simp[M1]) (fun b hb=>by simp[M1,hb])
   generalize hW:w.alloc (.cells (Array.replicate n.toNat (flatV zero)) e)=W at *
   have hI1:Inv fi M1 W s a:=by
    refine⟨fun t u hu=>⟨(hI.env t u hu).1,(hI.env t u hu).2.good g1 (by simp)⟩,hI.defers,hI.lbl,hI.gbl,hI.nodup,fun i cs blk h1 h2=>(hI.lh i cs blk h1 h2).good g1 (by simp) (by simp),
     fun i o blk h1 h2=>(hI.gh i o blk h1 h2).good g1 (by simp) (by simp),g1.ext.gl hI.gl,fun b k hb=>Nat.lt_of_lt_of_le (hI.immlt b k hb) k1.size,fun b l hb=>?_,fun b hb=>Nat.lt_of_lt_of_le (hI.gblt b hb) k1.size⟩
    simp only[M1] at hb
    split at hb
    ·rename_i hbe;subst hbe;rw[←hW,size_alloc'];omega
    ·exact Nat.lt_of_lt_of_le (hI.ownlt b l hb) k1.size
   refine⟨_,.slice (some ⟨w.heap.size,0,none⟩) n.toNat n.toNat,M1,W,?_,.inl rfl,?_,k1⟩
   ·simp only[execOp,v1,v2,Sem.run_bind,hrun];rfl
   ·rw[show dst=some d from hd]
    refine hI1.put hlt ?_
    refine⟨hfl,w.heap.size,e,n.toNat,rfl,Nat.le_refl _,by simp[M1],by rw[←hW];exact heap_alloc_new w _,fun k hk=>absurd (hI.immlt _ k hk) (by omega),fun hk=>absurd (lb_lt hI _ hk) (by omega),fun hk=>absurd (hI.gblt _ hk) (by omega)⟩
  ·cases h
 ·cases h
theorem Inv.adopt1 (hI:Inv fi M w s a) {t:Nat} {z:PV} {n:Nat} (ht:get s.env t=some (.arr z n)) :
  ∃M',Inv fi M' w ⟨Lw.put s.env t (.bs true s.gh.length 0 n 1),s.lh,s.gh++[.cells (List.replicate n z)]⟩ a∧Kp M w M' w:=by
 obtain⟨htl,hfl,b,T,c,hv,hc,ho,hh,hk,hb1,hb2⟩:=hI.env t _ ht
 obtain⟨f1,f2,f3⟩:=jsw hfl
 have hbl:b<w.heap.size:=hI.ownlt b _ ho
 let M':Mem:={M with gb:=M.gb++[b],own:=fun k=>if k=b then none else M.own k }
 have hext:Ext M w M' w:=⟨fun i k h=>by
   show (M.gb++[b])[i]?=some k
   rw[List.getElem?_append_left (List.getElem?_eq_some_iff.1 h).1];exact h,fun _ _ h=>h,fun _ _ _=>rfl,fun _ _=>⟨Nat.le_refl _,fun _=>rfl⟩⟩
 have hG:Good M w M' w (fun l=>l=Loc.env t 0) (fun _=>False):=by
  refine⟨hext,Nat.le_refl _,fun _ _ h=>h,fun k l h hl=>?_,fun k hk1 _ h=>?_,fun _ _=>rfl⟩
  ·have hkb:k≠b:=fun e=>hl (by subst e;rw[ho] at h;cases h;rfl)
   refine⟨by simp only[M',if_neg hkb];exact h,rfl,fun _ h=>h,fun h=>h,fun h1 h2=>?_⟩
   rcases List.mem_append.1 (show k∈M.gb++[b] from h2) with h3|h3
   ·exact h1 h3
   ·exact hkb (List.mem_singleton.1 h3)
  ·exact⟨rfl,fun _ h=>h,by simp only[M'];split<;>first|rfl|exact h⟩
 have hK:Kp M w M' w:=by
  refine⟨rfl,rfl,rfl,Nat.le_refl _,hext,fun _ _ _ _ _=>rfl,fun _ h=> .inl h,fun k h=>?_,fun k _ h=>?_,fun _ _ h=> .inl h⟩
  ·rcases List.mem_append.1 (show k∈M.gb++[b] from h) with h3|h3
   ·exact .inl h3
   ·rw[List.mem_singleton.1 h3]
    exact .inr (.inr (by rw[ho];simp))
  ·simp only[M'];split<;>first|rfl|exact h
 refine⟨M',⟨fun t2 v hv2=>?_,hI.defers,hI.lbl,by simp[M',hI.gbl],?_,fun i cs blk h1 h2=>(hI.lh i cs blk h1 h2).good hG (by simp) (fun j h=>by cases h),fun i o blk h1 h2=>?_,hext.gl hI.gl,hI.immlt,fun k l h=>?_,fun k h=>?_⟩,hK⟩
 ·simp only[jr7] at hv2
  split at hv2
  ·rename_i he
   subst he
   cases hv2
   refine⟨htl,RepE.repAt (RepP.repE ?_)⟩
   rw[hv]
   exact .bs _ _ _ _ _ _ b (by simp[M',←hI.gbl]) (.inr rfl) hc
  ·rename_i he
   refine⟨(hI.env t2 v hv2).1,(hI.env t2 v hv2).2.good hG (fun i h=>?_)⟩
   injection h with h1 h2
   exact he h1.symm
 ·show (M.lb++(M.gb++[b])).Nodup
  rw[←List.append_assoc]
  exact jst hI.nodup (by rw[List.mem_append,not_or];exact⟨hb1,hb2⟩)
 ·have h2':(M.gb++[b])[i]?=some blk:=h2
  by_cases hlt:i<s.gh.length
  ·rw[List.getElem?_append_left hlt] at h1
   rw[List.getElem?_append_left (by rw[hI.gbl];exact hlt)] at h2'
   exact (hI.gh i o blk h1 h2').good hG (by simp) (fun j h=>by cases h)
  ·have hil:=(List.getElem?_eq_some_iff.1 h1).1
   simp at hil
   obtain rfl:i=s.gh.length:=by omega
   simp at h1
   subst h1
   rw[List.getElem?_append_right (by rw[hI.gbl];exact Nat.le_refl _),hI.gbl] at h2'
   simp at h2';subst h2'
   refine⟨hbl,hk,by simp[M'],fun x hx=>by rw[List.eq_of_mem_replicate hx];exact f2,List.replicate n (flatV z),T,by rw[hh];congr 1,by simp,fun j x u hx hu=>?_⟩
   rw[List.getElem?_replicate] at hx hu
   split at hx
   ·cases hx
    rw[if_pos (by assumption)] at hu
    cases hu
    exact (j11o hfl).repC
   ·cases hx
 ·simp only[M'] at h
  split at h
  ·cases h
  ·exact hI.ownlt k l h
 ·rcases List.mem_append.1 (show k∈M.gb++[b] from h) with h3|h3
  ·exact hI.gblt k h3
  ·rw[List.mem_singleton.1 h3];exact hbl
theorem Inv.adopt:∀{l:List Nat} {s:St} {M:Mem},Inv fi M w s a→∃M',Inv fi M' w (Lw.adopt l s) a∧Kp M w M' w
 |[],s,M,hI=>⟨M,hI,Kp.refl M w⟩
 | t::l,s,M,hI=>by
  unfold Lw.adopt
  split
  ·rename_i z n ht
   obtain⟨M1,h1,k1⟩:=hI.adopt1 ht
   obtain⟨M2,h2,k2⟩:=Inv.adopt (l:=l) h1
   exact⟨M2,h2,k1.trans k2⟩
  ·exact Inv.adopt hI
theorem j11r {o:Oper} {d:Nat} {z:List PV} {ps:List (Nat×Nat×IX)} (hI:Inv fi M w s a) (hm:mOp P fi (.buildT d z ps) o.op=true) (hd:o.dst=some d) (hlt:∀e,opDst (.buildA d z ps)=some e→e<a.tmps.size) (h:opStep cf s (.buildA d z ps)=some s'):Sim P fi o M w s' a:=by
 obtain⟨M1,h1,k1⟩:=hI.adopt (l:=ps.flatMap fun p=>slotX p.2.2)
 obtain⟨r,v,M2,w2,e1,e2,e3,e4⟩:=jwc (cf:=cf) (s':=s') ⟨h1,hm,hd,hlt⟩ h
 exact⟨r,v,M2,w2,e1,e2,e3,k1.trans e4⟩
theorem j11s {o:Oper} {d bytes:Nat} {sx x:IX} (hI:Inv fi M w s a) (hm:mOp P fi (.append d 1 bytes sx x) o.op=true) (hd:o.dst=some d) (hlt:d<a.tmps.size) (h:opStep cf s (.appendE d bytes sx x)=some s'):Sim P fi o M w s' a:=by
 obtain⟨dst,op,ty,pos,aft,gd⟩:=o
 cases op with
 | call c=>
  obtain⟨callee,args,argTypes⟩:=c
  cases callee with
  | builtin b=>
   cases b<;>simp[mOp] at hm
   split at hm
   ·rename_i y y' t t' ha ht
    simp only[Bool.and_eq_true,beq_iff_eq,decide_eq_true_eq] at hm
    obtain⟨⟨⟨⟨hs,hx⟩,rfl⟩,hb0⟩,hm⟩:=hm
    have ha':args= #[y,y']:=by apply Array.ext';simpa using ha
    have ht':argTypes= #[t,t]:=by apply Array.ext';simpa using ht
    subst ha';subst ht'
    split at hm<;>try (cases hm;done)
    rename_i e hu
    split at hm<;>try (cases hm;done)
    rename_i i hi
    simp only[Bool.and_eq_true,beq_iff_eq] at hm
    obtain⟨⟨hsz,hby⟩,hm⟩:=hm
    split at hm<;>try (cases hm;done)
    rename_i zv hzv
    simp at hm
    simp only[opStep,Option.bind_eq_some_iff] at h
    obtain⟨xv,hxv,ys,hys,⟨v,e'⟩,hv,h⟩:=h
    cases v with
    | sl o1 z1 xs=>
     simp only at h
     split at h
     ·rename_i hc
      obtain⟨rfl,rfl,hfl,hbd⟩:=hc
      cases h
      have hxr:=jqt hI hx hxv
      have hno:∀z xs,xv≠ .sl true z xs:=fun z xs he=>by
       subst he
       cases x with
       |t n=>simp only[evalX,Option.map_eq_some_iff] at hxv;obtain⟨q,_,hq⟩:=hxv;cases q<;>simp[degr] at hq
       |c q=>simp only[evalX,Option.some.injEq] at hxv;cases q<;>simp[degr] at hxv
       |f id=>simp[evalX] at hxv
      obtain⟨A2,c2,b2,o2,us2,hav,hc2,hul2,hA2,huy,hry⟩:=jug hI hxr hno hys hfl
      obtain⟨M1,hI1,k1,hr,_,hgb,himm⟩:=jss hI hs hv
      have hfl':∀y∈ys,isFlat y=true:=by simpa using hfl
      obtain⟨r,M2,w2,h1,h2,k2⟩:=jvw (P:=P) (ty:=ty) (ys:=ys) hI1 hu hi hzv (by rw[hsz];exact hm) (by omega) (by omega) (by rw[hsz];exact hr) hc2 (by rw[hsz,Nat.mul_one];exact hul2) hA2
       (fun y hy=>by rw[(jsw (hfl' y hy)).1,hsz];rfl) (fun y hy=>(jsw (hfl' y hy)).2.2) (fun j u hu=>⟨trivial,huy j u hu⟩)
       (fun k y j p hy hp=>by
        rw[(jsw (hfl' y (List.mem_of_getElem? hy))).1] at hp
        have hj:j=0:=by
         cases j with
         |zero=>rfl
         |succ j=>simp at hp
        subst hj
        simp at hp;subst hp
        obtain⟨u,e1,e2⟩:=hry k y hy
        exact⟨u,by rw[hsz,Nat.mul_one,Nat.add_zero];exact e1,e2.mono k1.ext⟩) (by rw[hby];exact hbd) hlt
      rw[hsz] at h2
      refine⟨.value r,r,M2,w2,?_,.inl rfl,by rw[show dst=some d from hd];exact h2,k1.trans k2⟩
      simp[execOp,resolve,jrh,builtin,hav,h1]
     ·cases h
    |_=>cases h
   ·cases hm
  |_=>simp[mOp] at hm
 |_=>simp[mOp] at hm
theorem jwg {z:Nat}:∀(vs:List PV),(∀v∈vs,v.cells.length=z)→∀n c,(vs.flatMap PV.cells)[n]?=some c→∃i j e,n=i*z+j∧vs[i]?=some e∧e.cells[j]?=some c
 |[],_,n,c,h=>by simp at h
 | v::l,hz,n,c,h=>by
  have hv:=hz v (by simp)
  rw[List.flatMap_cons] at h
  by_cases hn:n<v.cells.length
  ·rw[List.getElem?_append_left hn] at h
   exact⟨0,n,v,by omega,rfl,h⟩
  ·rw[List.getElem?_append_right (by omega)] at h
   obtain⟨i,j,e,h1,h2,h3⟩:=jwg l (fun v hv=>hz v (by simp[hv])) _ _ h
   refine⟨i+1,j,e,?_,by simpa using h2,h3⟩
   rw[Nat.add_mul];omega
theorem jwh {z:Nat}:∀(vs:List PV),(∀v∈vs,v.cells.length=z)→(vs.flatMap PV.cells).length=vs.length*z
 |[],_=>by simp
 |v::l,hz=>by
  rw[List.flatMap_cons,List.length_append,hz v (by simp),jwh l (fun v hv=>hz v (by simp[hv])),List.length_cons,Nat.add_mul];omega
theorem j11t {o:Oper} {d z:Nat} {els:List IX} (hI:Inv fi M w s a) (hm:mOp P fi (.buildSl d z els) o.op=true) (hd:o.dst=some d) (hlt:d<a.tmps.size) (h:opStep cf s (.boxSl d z els)=some s'):Sim P fi o M w s' a:=by
 obtain⟨dst,op,ty,pos,aft,gd⟩:=o
 cases op<;>simp only[mOp,Bool.false_eq_true] at hm
 rename_i t len parts
 simp only[Bool.and_eq_true,beq_iff_eq,decide_eq_true_eq] at hm
 obtain⟨⟨⟨⟨⟨⟨he,hz0⟩,hlen⟩,hbd⟩,hidx⟩,hmx⟩,hzs⟩:=hm
 obtain⟨e,ht,hsz⟩:=jsv he
 rw[ht] at hzs
 simp only[Option.isSome_iff_exists,Option.bind_eq_some_iff] at hzs
 obtain⟨zv,i,hi,hzv⟩:=hzs
 simp only[opStep,Option.bind_eq_some_iff] at h
 obtain⟨vs,hvs,h⟩:=h
 split at h
 ·rename_i hc
  have hc:∀v∈vs,argOk v=true∧v.cells.length=z:=fun v hv=>by
   have:=List.all_eq_true.1 hc v hv
   simpa using this
  cases h
  obtain⟨h1,h2⟩:=jrg hI hmx hvs
  have hvl:vs.length=len:=by rw[←h1,List.length_map,←List.length_map (f:=Prod.fst) (as:=parts.toList),hidx,List.length_range']
  generalize hrest:((Array.range (len*z)).map ((if len*z=0 then #[] else zv.cells)[· %(if len*z=0 then (#[]:Array Value) else zv.cells).size]!)).toList=rest
  have hrl:rest.length=vs.length*z:=by rw[←hrest];simp[hvl]
  obtain⟨us,f1,f2,f3⟩:=juc (fi:=fi) (M:=M) (w:=w) (z:=z) vs 0 (parts.toList.map (evPart a)) [] rest (by simp) hrl hc (by
   rw[List.map_map,hvl,←hidx];rfl) (fun i p y hp hy=>by
   simp only[List.getElem?_map,Option.map_eq_some_iff] at hy
   obtain⟨q,hq,rfl⟩:=hy
   have:=h2 i p q.2 hp (by simp[hq])
   exact this.repP (by simpa [argOk] using (hc p (List.mem_of_getElem? hp)).1))
  simp only[List.nil_append] at f1
  have hrep:RepAt fi M w Loc.lim (.agg (vs.flatMap PV.cells)) (.agg us.toArray):=by
   refine⟨us,rfl,by rw[f2,jwh vs (fun v hv=>(hc v hv).2)],fun n c u hn hu=>?_⟩
   obtain⟨i,j,e,rfl,hi,hj⟩:=jwg vs (fun v hv=>(hc v hv).2) n c hn
   obtain⟨u',e1,e2⟩:=f3 i e j c hi hj
   rw[hu] at e1;cases e1
   exact e2.repC
  have hok:argOk (.agg (vs.flatMap PV.cells))=true:=by
   simp only[argOk,PV.cells,List.all_eq_true,List.mem_flatMap]
   rintro c ⟨v,hv,hcc⟩
   have:=(hc v hv).1
   simp only[argOk,List.all_eq_true] at this
   exact this c hcc
  obtain⟨M1,hI1,k1,hr2⟩:=hI.newBox true hrep hok e
  refine⟨_,.slice (some ⟨w.heap.size,0,none⟩) vs.length vs.length,M1,_,?_,.inl rfl,?_,k1⟩
  ·have e1:(parts.map fun (x:Nat×Operand)=>match x with|(i,x)=>(i,a.eval x))=parts.map (evPart a):=rfl
   have hbd':¬(len*z>2^24):=by omega
   have f1':Instr.fill (fun i=>some (i*z,z)) ((Array.range (len*z)).map ((if len*z=0 then #[] else zv.cells)[· %(if len*z=0 then (#[]:Array Value) else zv.cells).size]!)) (parts.map (evPart a)).toList=some us.toArray:=by
    rw[←f1,←hrest,Array.toArray_toList];congr 1;simp
   have hrun:(Instr.buildSlice t len (parts.map (evPart a))).run P w= .ok (.slice (some ⟨w.heap.size,0,none⟩) len len) (w.alloc (.cells us.toArray e)):=by
    have hzv':(zeroValue e).run P w= .ok zv w:=by simp[zeroValue,typeInfo,hi,hzv]
    by_cases h0:len*z=0
    ·simp only[if_pos h0] at f1'
     simp only[Instr.buildSlice,Sem.run_bind,run_underlying ht,run_sizeOf' hsz,Result.andThen_ok,if_neg hbd',if_pos h0,Sem.run_pure,f1']
     simp[newRow]
    ·simp only[if_neg h0] at f1'
     simp only[Instr.buildSlice,Sem.run_bind,run_underlying ht,run_sizeOf' hsz,Result.andThen_ok,if_neg hbd',if_neg h0,hzv',Sem.run_pure,f1']
     simp[newRow]
   simp only[execOp,e1,Sem.run_bind,hrun,hvl];rfl
  ·rw[show dst=some d from hd]
   refine hI1.put hlt (RepE.repAt ?_)
   cases (show RepP fi M1 _ (.ptr true _ 0) _ from hr2) with
   |ptr _ _ _ hb=>exact RepP.repE (.bs _ _ _ _ _ _ _ hb (.inr rfl) (Nat.le_refl _))
 ·cases h
end
end Go.Lw
end

/-! All functions by number. Written by program (gen.py). -/
section
namespace Go.Lw
open Go
def pgL:List (Option IDef):=[
 none,
 none,
 some (.code qc),
 some (.code q4u),
 none,
 none,
 some (.code q9),
 none,
 none,
 none,
 some (.code q1e),
 none,
 none,
 none,
 none,
 none,
 none,
 none,
 none,
 some (.code q19),
 none,
 none,
 some (.code qp5),
 none,
 none,
 none,
 none,
 none,
 none,
 none,
 none,
 none,
 none,
 none,
 none,
 none,
 none,
 none,
 some (.code qkj),
 none,
 none,
 none,
 none,
 none,
 none,
 some (.code q1f),
 some (.code q51),
 some (.code q43),
 some (.code qgt),
 some (.code qgw),
 some (.code q1g),
 some (.code q1h),
 none,
 some (.code q3w),
 some (.code q3y),
 some (.code q16),
 some (.code q56),
 some (.code qo),
 some (.code q1i),
 some (.code qb),
 some (.code q57),
 some (.code qp7),
 some (.code qp9),
 some (.code qpd),
 some (.code qpf),
 some (.code qph),
 some (.code qpj),
 none,
 none,
 none,
 none,
 none,
 none,
 none,
 none,
 none,
 some (.code qkr),
 some (.code qkt),
 some (.code ql1),
 some (.code qlg),
 some (.code qli),
 some (.code qlk),
 none,
 some (.lib (libClone 1 8)),
 none,
 some (.code q18),
 some (.code q47),
 some (.lib (libClone 2 16)),
 some (.code q44),
 none,
 some (.code q17),
 some (.code q41),
 some (.code q1j),
 some (.code qd),
 some (.code qk),
 some (.code q5c),
 some (.code qpl),
 none,
 none,
 none,
 none,
 some (.code qlq),
 none,
 some (.code qls),
 some (.code qlx),
 some (.code qm2),
 some (.code qm4),
 some (.code qh8),
 some (.code qm6),
 some (.code qm8),
 none,
 some (.code q1b),
 some (.code qp),
 some (.code ql),
 some (.code qpn),
 some (.code qpp),
 none,
 none,
 some (.code qma),
 some (.lib (libGrow 1 8)),
 none,
 some (.lib (libCloneK 8)),
 none,
 none,
 none,
 none,
 none,
 none,
 none,
 none,
 none,
 none,
 none,
 none,
 none,
 none,
 none,
 none,
 none,
 some (.code qgm),
 none,
 none,
 none,
 some (.code qgo),
 none,
 none,
 none,
 none,
 none,
 none,
 none,
 none,
 none,
 none,
 none,
 none,
 none,
 none,
 none,
 none,
 none,
 some (.lib libSortK),
 some (.lib libCompactK),
 none,
 some (.code qml),
 none,
 none,
 none,
 none,
 some (.code qmr),
 some (.code qmz),
 some (.code qn1),
 some (.code qha),
 some (.code qn4),
 some (.code qn6),
 some (.code qn9),
 some (.code qnb),
 some (.code qng),
 some (.code qnl),
 some (.code qny),
 some (.code qo3),
 some (.code qhc),
 some (.code qhg),
 some (.code qhl),
 some (.code qhn),
 none,
 none,
 some (.code qo5),
 some (.code qoc),
 some (.code qoe),
 some (.code qhp),
 some (.code qoj),
 some (.code qhw),
 some (.code qhy),
 some (.code qi0),
 some (.code qi7),
 some (.code qie),
 some (.code qik),
 some (.code qio),
 some (.code qis),
 some (.code qj6),
 some (.code qjh),
 some (.code qjy),
 some (.code qk3),
 some (.code qk5),
 some (.code qk7),
 some (.code qk9),
 none,
 some (.code qm),
 some (.code qke),
 none,
 none,
 some (.code q3t),
 some (.code q5h),
 none,
 some (.code q3u),
 none,
 some (.code qed),
 some (.code qep),
 some (.code qer),
 some (.code qet),
 some (.code qev),
 some (.code qf0),
 some (.code qf2),
 some (.code qf4),
 some (.code qf9),
 some (.code qfe),
 some (.code qfm),
 some (.code qfo),
 some (.code qfv),
 some (.code qfx),
 some (.code qfz),
 some (.code qg1),
 some (.code qg3),
 some (.code qg5),
 some (.code qga),
 some (.code qgc),
 some (.code qge),
 some (.code qgg),
 none,
 none,
 none,
 none,
 none,
 none,
 none,
 none,
 none,
 none,
 none,
 none,
 none,
 none,
 none,
 none,
 none,
 none,
 some (.code qmc),
 none,
 none,
 none,
 none,
 none,
 none,
 some (.code qme),
 some (.code q1p),
 some (.code qoo),
 none,
 none,
 none,
 none,
 none,
 none,
 none,
 none,
 some (.code q4k),
 some (.code q64),
 some (.code q4m),
 some (.code q4o),
 some (.code qoq),
 some (.code qp0),
 none,
 none,
 none,
 none,
 none,
 none,
 none,
 none,
 none,
 none,
 some (.code q66),
 some (.code q1r),
 some (.code q1t),
 none,
 none,
 none,
 none,
 none,
 none,
 none,
 none,
 none,
 none,
 none,
 none,
 none,
 none,
 none,
 none,
 none,
 none,
 none,
 none,
 none,
 none,
 none,
 none,
 none,
 none,
 none,
 none,
 none,
 none,
 none,
 none,
 none,
 none,
 none,
 none,
 some (.code q5j),
 some (.code q5w),
 none,
 some (.code q46),
 some (.code q1d),
 some (.code qgy),
 some (.code q6b),
 none,
 some (.code q5y),
 some (.code q5z),
 none,
 some (.code q4p),
 some (.code qmj),
 some (.code qn),
 some (.code q4g),
 none,
 none,
 none,
 none,
 none,
 none,
 none,
 none,
 none,
 none,
 none,
 none,
 none,
 none,
 none,
 none,
 none,
 none,
 none,
 none,
 none,
 none,
 none,
 none,
 none,
 none,
 none,
 none,
 none,
 none,
 none,
 none,
 none,
 none,
 none,
 none,
 none,
 none,
 none,
 none,
 none,
 none,
 none,
 none,
 none,
 none,
 some (.code qh0)]
def pg:Prg:=fun f=>(pgL[f]?).bind id
end Go.Lw
end

/-! Words of the laws of functions: numbers, lists of numbers, wrapping. -/
section
namespace Go.Lw
open Go
def andV (x:Int×Int):PV:= .agg [I x.1,I x.2]
def graphV (ins:Int) (ands:List (Int×Int)):PV:= .agg [I ins,.sl false 2 (ands.map andV)]
theorem jqv {n:Int} (h1: -9223372036854775808≤n) (h2:n≤9223372036854775807):IntKind.i64.wrap n=n:=by
 simp only[IntKind.wrap,IntKind.bits,IntKind.signed]
 simp
 omega
abbrev LI (xs:List Int):PV:= .sl false 1 (xs.map I)
abbrev Sz (n:Nat):Prop:=n≤140737488355328
theorem jrj {n:Nat} (h:Sz n):IntKind.i64.wrap ((n:Int)+1)=(n:Int)+1:=jqv (by omega) (by simp only[Sz] at h;omega)
section
variable {kd:IntKind} {z b o n f:Nat} {g:Bool} {l:List PV}
@[simp] theorem one_int (x : Int) : PV.one (.int kd x) = true := rfl
@[simp] theorem one_bool (x : Bool) : PV.one (.bool x) = true := rfl
@[simp] theorem one_str (x : ByteArray) : PV.one (.str x) = true := rfl
@[simp] theorem one_sl : PV.one (.sl g z l) = true := rfl
@[simp] theorem one_bs : PV.one (.bs true b o n z) = true := rfl
@[simp] theorem one_ptr : PV.one (.ptr true b o) = true := rfl
@[simp] theorem one_nilp : PV.one .nilp = true := rfl
@[simp] theorem one_ep (e : PV) : PV.one (.ep e o) = true := rfl
@[simp] theorem one_mp : PV.one (.mp b) = true := rfl
@[simp] theorem one_nilm : PV.one .nilm = true := rfl
@[simp] theorem one_nilf : PV.one .nilf = true := rfl
@[simp] theorem one_nils : PV.one .nils = true := rfl
@[simp] theorem one_sub (b g o n : Nat) : PV.one (.sub b g o n) = true := rfl
@[simp] theorem one_stk (b g n : Nat) : PV.one (.stk b g n) = true := rfl
@[simp] theorem one_fn : PV.one (.fn f l) = true := rfl
@[simp] theorem one_nilI : PV.one .nilI = true := rfl
@[simp] theorem one_someI : PV.one .someI = true := rfl
@[simp] theorem frz_int (G : List GObj) (x : Int) : frz n G (.int kd x) = .int kd x := rfl
@[simp] theorem frzR_int (G : List GObj) (x : Int) : frzR n G (.int kd x) = .int kd x := rfl
@[simp] theorem frz_bool (G : List GObj) (x : Bool) : frz n G (.bool x) = .bool x := rfl
@[simp] theorem frzR_bool (G : List GObj) (x : Bool) : frzR n G (.bool x) = .bool x := rfl
@[simp] theorem frz_str (G : List GObj) (x : ByteArray) : frz n G (.str x) = .str x := rfl
@[simp] theorem frzR_str (G : List GObj) (x : ByteArray) : frzR n G (.str x) = .str x := rfl
@[simp] theorem frz_sl (G : List GObj)  : frz n G (.sl g z l) = .sl g z l := rfl
@[simp] theorem frzR_sl (G : List GObj)  : frzR n G (.sl g z l) = .sl g z l := rfl
@[simp] theorem frz_agg (G : List GObj)  : frz n G (.agg l) = .agg l := rfl
@[simp] theorem frzR_agg (G : List GObj)  : frzR n G (.agg l) = .agg l := rfl
@[simp] theorem frz_ptr (G : List GObj)  : frz n G (.ptr g b o) = .ptr g b o := rfl
@[simp] theorem frzR_ptr (G : List GObj)  : frzR n G (.ptr g b o) = .ptr g b o := rfl
@[simp] theorem frz_nilp (G : List GObj)  : frz n G (.nilp) = .nilp := rfl
@[simp] theorem frzR_nilp (G : List GObj)  : frzR n G (.nilp) = .nilp := rfl
@[simp] theorem frz_ep (G : List GObj) (e : PV) : frz n G (.ep e o) = .ep e o := rfl
@[simp] theorem frzR_ep (G : List GObj) (e : PV) : frzR n G (.ep e o) = .ep e o := rfl
@[simp] theorem frz_mp (G : List GObj)  : frz n G (.mp b) = .mp b := rfl
@[simp] theorem frzR_mp (G : List GObj)  : frzR n G (.mp b) = .mp b := rfl
@[simp] theorem frz_nilm (G : List GObj)  : frz n G (.nilm) = .nilm := rfl
@[simp] theorem frzR_nilm (G : List GObj)  : frzR n G (.nilm) = .nilm := rfl
@[simp] theorem frz_nilf (G : List GObj)  : frz n G (.nilf) = .nilf := rfl
@[simp] theorem frzR_nilf (G : List GObj)  : frzR n G (.nilf) = .nilf := rfl
@[simp] theorem frz_nils (G : List GObj)  : frz n G (.nils) = .nils := rfl
@[simp] theorem frzR_nils (G : List GObj)  : frzR n G (.nils) = .nils := rfl
@[simp] theorem frz_stk (G : List GObj) (b g i : Nat) : frz n G (.stk b g i) = .stk b g i := rfl
@[simp] theorem frzR_stk (G : List GObj) (b g i : Nat) : frzR n G (.stk b g i) = .stk b g i := rfl
@[simp] theorem frz_fn (G : List GObj)  : frz n G (.fn f l) = .fn f l := rfl
@[simp] theorem frzR_fn (G : List GObj)  : frzR n G (.fn f l) = .fn f l := rfl
@[simp] theorem frz_nilI (G : List GObj)  : frz n G (.nilI) = .nilI := rfl
@[simp] theorem frzR_nilI (G : List GObj)  : frzR n G (.nilI) = .nilI := rfl
@[simp] theorem frz_someI (G : List GObj)  : frz n G (.someI) = .someI := rfl
@[simp] theorem frzR_someI (G : List GObj)  : frzR n G (.someI) = .someI := rfl
@[simp] theorem frzR_tup (G : List GObj) : frzR n G (.tup l) = .tup (l.map (frz n G)) := rfl
@[simp] theorem frzR_bs (G : List GObj) (i : Nat) : frzR n G (.bs g b o i z) = frz n G (.bs g b o i z) := rfl
@[simp] theorem aok_int (x : Int) : argOk (.int kd x) = true := rfl
@[simp] theorem aok_bool (x : Bool) : argOk (.bool x) = true := rfl
@[simp] theorem aok_str (x : ByteArray) : argOk (.str x) = true := rfl
@[simp] theorem aok_sl : argOk (.sl g z l) = true := rfl
@[simp] theorem aok_bs : argOk (.bs true b o n z) = true := rfl
@[simp] theorem aok_ptr : argOk (.ptr true b o) = true := rfl
@[simp] theorem aok_nilp : argOk .nilp = true := rfl
@[simp] theorem aok_ep (e : PV) : argOk (.ep e o) = true := rfl
@[simp] theorem aok_mp : argOk (.mp b) = true := rfl
@[simp] theorem aok_nilm : argOk .nilm = true := rfl
@[simp] theorem aok_nilf : argOk .nilf = true := rfl
@[simp] theorem aok_nils : argOk .nils = true := rfl
@[simp] theorem aok_sub (b g o n : Nat) : argOk (.sub b g o n) = true := rfl
@[simp] theorem aok_stk (b g n : Nat) : argOk (.stk b g n) = true := rfl
@[simp] theorem aok_fn : argOk (.fn f l) = true := rfl
@[simp] theorem aok_nilI : argOk .nilI = true := rfl
@[simp] theorem aok_someI : argOk .someI = true := rfl
@[simp] theorem aok_agg : argOk (.agg l) = l.all PV.one := rfl
@[simp] theorem noG_int (x : Int) : PV.noG (.int kd x) = true := rfl
@[simp] theorem noG_bool (x : Bool) : PV.noG (.bool x) = true := rfl
@[simp] theorem noG_str (x : ByteArray) : PV.noG (.str x) = true := rfl
@[simp] theorem noG_sl : PV.noG (.sl g z l) = noGs l := rfl
@[simp] theorem noG_agg : PV.noG (.agg l) = noGs l := rfl
@[simp] theorem noG_tup : PV.noG (.tup l) = noGs l := rfl
@[simp] theorem noGs_nil : noGs [] = true := rfl
@[simp] theorem noGs_cons (x : PV) : noGs (x :: l) = (x.noG && noGs l) := rfl
end
section
variable {nl z b o n f:Nat} {g:Bool} {l:List PV} {kd:IntKind}
@[simp] theorem stays_int (x : Int) : stays nl (.int kd x) = true := rfl
@[simp] theorem stays_bool (x : Bool) : stays nl (.bool x) = true := rfl
@[simp] theorem stays_str (x : ByteArray) : stays nl (.str x) = true := rfl
@[simp] theorem stays_sl : stays nl (.sl g z l) = true := rfl
@[simp] theorem stays_agg : stays nl (.agg l) = true := rfl
@[simp] theorem stays_bst : stays nl (.bs true b o n z) = true := rfl
@[simp] theorem stays_sub (b g o n : Nat) : stays nl (.sub b g o n) = true := rfl
@[simp] theorem stays_stk (b g n : Nat) : stays nl (.stk b g n) = true := rfl
@[simp] theorem stays_ptrt : stays nl (.ptr true b o) = true := rfl
@[simp] theorem stays_ptrf : stays nl (.ptr false b o) = decide (b < nl) := rfl
@[simp] theorem stays_nilp : stays nl .nilp = true := rfl
@[simp] theorem stays_mp : stays nl (.mp b) = true := rfl
@[simp] theorem stays_fn : stays nl (.fn f l) = true := rfl
end
@[simp] theorem beqI (a b : Int) : (a == b) = decide (a = b) := by
 by_cases h:a=b<;>simp[h]
@[simp] theorem bneI (a b : Int) : (a != b) = !decide (a = b) := by
 by_cases h:a=b<;>simp[bne,h]
section
variable {R:Type} {a b c d e f:PV}
@[simp] theorem unT_1 (k : PV → Option R) : unT (R := R) 1 (.tup [a]) k = k a := rfl
@[simp] theorem unT_2 (k : PV → PV → Option R) : unT (R := R) 2 (.tup [a, b]) k = k a b := rfl
@[simp] theorem unT_3 (k : PV → PV → PV → Option R) : unT (R := R) 3 (.tup [a, b, c]) k = k a b c := rfl
@[simp] theorem unT_4 (k : PV → PV → PV → PV → Option R) : unT (R := R) 4 (.tup [a, b, c, d]) k = k a b c d := rfl
@[simp] theorem unT_5 (k : PV → PV → PV → PV → PV → Option R) : unT (R := R) 5 (.tup [a, b, c, d, e]) k = k a b c d e := rfl
@[simp] theorem unT_6 (k : PV → PV → PV → PV → PV → PV → Option R) : unT (R := R) 6 (.tup [a, b, c, d, e, f]) k = k a b c d e f := rfl
@[simp] theorem unA_1 (k : PV → Option R) : unA (R := R) 1 (.agg [a]) k = k a := rfl
@[simp] theorem unA_2 (k : PV → PV → Option R) : unA (R := R) 2 (.agg [a, b]) k = k a b := rfl
@[simp] theorem unA_3 (k : PV → PV → PV → Option R) : unA (R := R) 3 (.agg [a, b, c]) k = k a b c := rfl
@[simp] theorem unA_4 (k : PV → PV → PV → PV → Option R) : unA (R := R) 4 (.agg [a, b, c, d]) k = k a b c d := rfl
@[simp] theorem unA_5 (k : PV → PV → PV → PV → PV → Option R) : unA (R := R) 5 (.agg [a, b, c, d, e]) k = k a b c d e := rfl
@[simp] theorem unA_6 (k : PV → PV → PV → PV → PV → PV → Option R) : unA (R := R) 6 (.agg [a, b, c, d, e, f]) k = k a b c d e f := rfl
end
def mapI (l:List (Int×Int)):List (PV×PV):=l.map fun x=>(I x.1,I x.2)
def setI:List (Int×Int)→Int→Int→List (Int×Int)
 |[],k,v=>[(k,v)]
 |(a,u)::l,k,v=>if k=a then (k,v)::l else (a,u)::setI l k v
def findI:List (Int×Int)→Int→Option Int
 |[],_=>none
 |(a,u)::l,k=>if k=a then some u else findI l k
@[simp] theorem isKey_int (kn : Nat) (x : Int) (kd : IntKind) : isKey kn (.int kd x) = (kn == 0) := rfl
@[simp] theorem isKey_agg (kn : Nat) (l : List PV) : isKey kn (.agg l) = (kn != 0 && l.length == kn) := rfl
@[simp] theorem mset_mapI (l : List (Int × Int)) (k v : Int) : mset 0 (mapI l) (I k) (I v) = some (mapI (setI l k v)) := by
 induction l with
 |nil=>rfl
 | cons x l ih=>
  obtain⟨a,u⟩:=x
  by_cases h:k=a
  ·simp[mapI,setI,mset,sameKey,h]
  ·have:mset 0 (l.map fun x=>(I x.1,I x.2)) (I k) (I v)=some (mapI (setI l k v)):=ih
   simp[mapI,setI,mset,sameKey,beq_false_of_ne h,h,this]
@[simp] theorem mfind_mapI (l : List (Int × Int)) (k : Int) : mfind 0 (mapI l) (I k) = some ((findI l k).map I) := by
 induction l with
 |nil=>rfl
 |cons x l ih=>
  obtain⟨a,u⟩:=x
  have:mfind 0 (l.map fun x=>(I x.1,I x.2)) (I k)=some ((findI l k).map I):=ih
  by_cases h:k=a
  ·simp[mapI,findI,mfind,sameKey,h]
  ·simp[mapI,findI,mfind,sameKey,beq_false_of_ne h,h,this]
end Go.Lw
end

/-! Numbers: cut to a width, bit by bit. -/
section
namespace Go.Lw
open Go
theorem bv_nat {A:Nat} (h:A<18446744073709551616):(BitVec.ofInt 64 (A:Int)).toNat=A:=by
 rw[BitVec.toNat_ofInt]
 omega
theorem iXor1 {A B:Nat} (ha:A<1099511627776):(iXor .i64 (A:Int) 1=(B:Int))↔(A/2=B/2∧A≠B):=by
 have h1:A ^^^1<1099511627776:=Nat.xor_lt_two_pow (n:=40) ha (by decide)
 have e:iXor .i64 (A:Int) 1=((A ^^^1:Nat):Int):=by
  unfold iXor
  rw[BitVec.toNat_xor]
  show IntKind.i64.wrap (((BitVec.ofInt 64 (A:Int)).toNat ^^^(BitVec.ofInt 64 ((1:Nat):Int)).toNat:Nat):Int)=_
  rw[bv_nat (by omega),bv_nat (by omega)]
  exact jqv (by omega) (by omega)
 rw[e]
 have h2:(A ^^^1)/2=A/2:=by rw[Nat.xor_div_two];simp
 have h3:(A ^^^1)%2=(A+1)%2:=by
  have h:=Nat.xor_mod_two_pow (a:=A) (b:=1) (n:=1)
  simp at h
  rw[h]
  have:A%2=0∨A%2=1:=by omega
  rcases this with h2|h2<;>rw[h2]<;>simp<;>omega
 generalize A ^^^1=X at *
 omega
end Go.Lw
end
