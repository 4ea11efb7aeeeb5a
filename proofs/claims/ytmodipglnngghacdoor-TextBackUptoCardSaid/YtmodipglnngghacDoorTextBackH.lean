/-
  The texts that the proof stands on, part 8.
-/
import Derived.Test.YtmodipglnngghacDoorTextBackG
set_option linter.unusedVariables false
set_option linter.unusedSimpArgs false
set_option linter.unnecessarySimpa false

/-! What the machine does at an operation that touches no memory, the Go operation does. -/
section
namespace Go.Lw
open Go
def cOk1:PV→Value→Bool
 | .int k n,.int k' m=>decide (k=k')&&decide (n=m)
 | .bool a,.bool b=>a==b
 | .str s,.string t=>decide (s.data.toList=t.data.toList)
 | .sl true _ [],.slice none 0 0=>true
 | .nilp,.pointer none=>true
 | .nilm,.map none=>true
 | .nilf,.nilFunc=>true
 | .nils,.slice none 0 0=>true
 | .nilI,.nilIface=>true
 |_,_=>false
def cOks:List PV→List Value→Bool
 |[],[]=>true
 |c::l,v::m=>cOk1 c v&&cOks l m
 |_,_=>false
def cOk:PV→Value→Bool
 | .agg cs,.agg vs=>cOks cs vs.toList
 |p,v=>cOk1 p v
def mX (fi:FI):IX→Operand→Bool
 | .t n,.tmp m=>n==m
 | .c p,.const v=>cOk p v
 | .f id,.func F=>fi id==some F
 |_,_=>false
def mXs (fi:FI):List IX→List Operand→Bool
 |[],[]=>true
 |x::l,o::m=>mX fi x o&&mXs fi l m
 |_,_=>false
section
variable {fi:FI} {M M':Mem} {w w':World} {P:Program}
theorem ownNil (l:Loc) (z:Nat):OwnRep fi M w l z [] (.slice none 0 0):=
 ⟨.sl z [] none 0 0 0 (fun _=>undef) (.inl rfl) (by simp) (by simp) (by simp) (by simp) (by simp),.inl rfl⟩
theorem cOk1_C {p:PV} {v:Value} (h:cOk1 p v=true) (l:Loc):RepC fi M w l p v:=by
 unfold cOk1 at h
 split at h<;>try (simp at h)
 ·obtain⟨rfl,rfl⟩:=h;exact .int _ _
 ·subst h;exact .bool _
 ·rename_i s t
  have:s=t:=by cases s;cases t;simp at h;rw[h]
  subst this;exact .str _
 ·exact ownNil l _
 ·exact .nilp
 ·exact .nilm
 ·exact .nilf
 ·exact .nils
 ·exact .nilI
theorem jdq {cs:List PV} {vs:List Value} (h:cOks cs vs=true):vs.length=cs.length∧∀(i:Nat) (c:PV) (u:Value),cs[i]?=some c→vs[i]?=some u→cOk1 c u=true:=by
 induction cs generalizing vs with
 |nil=>cases vs with
  |nil=>simp
  |cons=>simp[cOks] at h
 | cons c l ih=>cases vs with
  |nil=>simp[cOks] at h
  |cons v m=>
   simp only[cOks,Bool.and_eq_true] at h
   obtain⟨h1,h2⟩:=ih h.2
   refine⟨by simp[h1],fun i c' u hc hu=>?_⟩
   cases i with
   |zero=>simp at hc hu;subst hc;subst hu;exact h.1
   |succ i=>exact h2 i c' u (by simpa using hc) (by simpa using hu)
theorem cOk_at {p:PV} {v:Value} (h:cOk p v=true) (mk:Nat→Loc):RepAt fi M w mk p v:=by
 unfold cOk at h
 split at h
 ·rename_i cs vs
  obtain⟨h1,h2⟩:=jdq h
  exact⟨vs.toList,by simp,h1,fun i c u hc hu=>cOk1_C (h2 i c u hc hu) _⟩
 ·have:=cOk1_C (fi:=fi) (M:=M) (w:=w) h (mk 0)
  unfold cOk1 at h
  split at h<;>first|exact this|simp at h
theorem jfe {p:PV} {v:Value} (h:cOk p v=true):RepP fi M w (degr p) v:=by
 have h1:=(cOk_at (fi:=fi) (M:=M) (w:=w) h (Loc.env 0)).degr
 refine h1.repP ?_
 unfold cOk at h
 split at h
 ·rename_i cs vs
  obtain⟨hl,h2⟩:=jdq h
  simp only[degr,PV.cells,List.all_eq_true,List.mem_map]
  rintro x ⟨c,hc,rfl⟩
  obtain⟨i,hi,hx⟩:=List.mem_iff_getElem.1 hc
  have hu:vs.toList[i]?=some (vs.toList[i]'(by omega)):=List.getElem?_eq_getElem (by omega)
  have:=h2 i c _ (by rw[List.getElem?_eq_getElem hi,hx]) hu
  unfold cOk1 at this
  split at this<;>first|rfl|simp at this
 ·unfold cOk1 at h
  split at h<;>first|rfl|simp at h
theorem jb7 (e:List (Nat×PV)) (d t:Nat) (v:PV):get (put e d v) t=if d=t then some v else get e t:=by
 induction e with
 |nil=>simp[put,get]
 | cons x l ih=>
  obtain⟨a,u⟩:=x
  simp only[put]
  by_cases h:a=d
  ·subst h;simp[get]
   by_cases h2:a=t<;>simp[h2]
  ·simp only[h,if_false,get,ih]
   by_cases h2:a=t
   ·subst h2;simp;intro h3;exact absurd h3.symm h
   ·simp[h2]
theorem jag {s:St} {a:Act} (hI:Inv fi M w s a) {x:IX} {o:Operand} (hm:mX fi x o=true) {p:PV} (h:evalX s.env x=some p):RepE fi M w p (a.eval o):=by
 unfold mX at hm
 split at hm
 ·simp at hm;subst hm
  simp only[evalX,Option.map_eq_some_iff] at h
  obtain⟨v,hv,rfl⟩:=h
  exact (hI.env _ _ hv).2.degr
 ·simp only[evalX,Option.some.injEq] at h
  subst h
  exact (jfe hm).repE
 ·simp only[evalX,Option.some.injEq] at h
  subst h
  exact RepP.repE (.fn _ _ [] [] (by simpa using hm) rfl rfl (by simp))
 ·cases hm
theorem jff {s:St} {a:Act} (hI:Inv fi M w s a) {x:IX} {o:Operand} (hm:mX fi x o=true) {p:PV} (h:evalK s.env x=some p) (mk:Nat→Loc):RepAt fi M w mk p (a.eval o):=by
 cases x with
 |t n=>exact (jag hI hm (x:= .t n) h).repAt
 |f id=>exact (jag hI hm (x:= .f id) h).repAt
 |c v=>
  cases o with
  |const u=>simp only[evalK,Option.some.injEq] at h;subst h;exact cOk_at hm mk
  |_=>simp[mX] at hm
theorem jbm {s:St} {a:Act} (hI:Inv fi M w s a):∀{xs:List IX} {os:List Operand} {ps:List PV},mXs fi xs os=true→evalXs s.env xs=some ps→
  os.length=ps.length∧∀(i:Nat) (p:PV) (o:Operand),ps[i]?=some p→os[i]?=some o→RepE fi M w p (a.eval o)
 |[],[],ps,_,h=>by simp[evalXs] at h;subst h;simp
 |[],_::_,_,hm,_=>by simp[mXs] at hm
 |_::_,[],_,hm,_=>by simp[mXs] at hm
 |x::l,o::m,ps,hm,h=>by
  simp only[mXs,Bool.and_eq_true] at hm
  simp only[evalXs,Option.bind_eq_some_iff,Option.map_eq_some_iff] at h
  obtain⟨p,hp,ps',hps,rfl⟩:=h
  obtain⟨h1,h2⟩:=jbm hI hm.2 hps
  refine⟨by simp[h1],fun i q o' hq ho=>?_⟩
  cases i with
  |zero=>simp at hq ho;subst hq;subst ho;exact jag hI hm.1 hp
  |succ i=>exact h2 i q o' (by simpa using hq) (by simpa using ho)
def Sim (P:Program) (fi:FI) (o:Oper) (M:Mem) (w:World) (s':St) (a:Act):Prop:=
 ∃(n:Next) (v:Value) (M':Mem) (w':World),(execOp a.eval o).run P w= .ok n w'∧(n= .value v∨n= .skip∧v=undef)∧Inv fi M' w' s' (a.put o.dst v)∧Kp M w M' w'
theorem jj8 (t:Array Value) (d k:Nat) (v:Value):(t.setIfInBounds d v).getD k undef=if d=k∧d<t.size then v else t.getD k undef:=by
 simp only[Array.getD_eq_getD_getElem?,Array.getElem?_setIfInBounds]
 by_cases h:d=k
 ·subst h
  by_cases h2:d<t.size
  ·simp[h2]
  ·simp[h2]
 ·simp[h]
theorem Inv.put {s:St} {a:Act} (hI:Inv fi M w s a) {d:Nat} (hd:d<a.tmps.size) {p:PV} {v:Value} (h:RepAt fi M w (Loc.env d) p v):Inv fi M w (s.put d p) (a.put (some d) v) where
 env:=fun t q hq=>by
  simp only[St.put,jb7] at hq
  simp only[Act.put,Array.size_setIfInBounds,jj8]
  by_cases hdt:d=t
  ·subst hdt
   simp only[if_true,Option.some.injEq] at hq
   subst hq
   simp[hd,h]
  ·simp only[hdt,if_false] at hq
   simp only[hdt,false_and,if_false]
   exact hI.env t q hq
 defers:=hI.defers
 lbl:=hI.lbl
 gbl:=hI.gbl
 nodup:=hI.nodup
 lh:=hI.lh
 gh:=hI.gh
 gl:=hI.gl
 immlt:=hI.immlt
 ownlt:=hI.ownlt
 gblt:=hI.gblt
theorem Sim.pure {o:Oper} {s:St} {a:Act} (hI:Inv fi M w s a) {d:Nat} (hdst:o.dst=some d) (hd:d<a.tmps.size) {p:PV} {v:Value}
  (hr:(execOp a.eval o).run P w= .ok (.value v) w) (h:RepAt fi M w (Loc.env d) p v):Sim P fi o M w (s.put d p) a:=
 ⟨_,v,M,w,hr,.inl rfl,by rw[hdst];exact hI.put hd h,Kp.refl M w⟩
end
end Go.Lw
end

/-! Operations that touch no memory: each as the machine has it. -/
section
namespace Go.Lw
open Go
def tyAgg (P:Program) (t:TypeId):Option Bool:=
 match P.underlying t with
 |some (.struct _)=>some true
 |some (.array _ _)=>some true
 |some _=>some false
 |none=>none
def tySize (P:Program) (t:TypeId):Option Nat:=(P.info? t).map (·.size)
section
variable {fi:FI} {M M':Mem} {w w':World} {P:Program}
theorem jbc {t:TypeId} {b:Bool} (h:tyAgg P t=some b) (w:World):(isAgg t).run P w= .ok b w:=by
 unfold tyAgg at h
 cases hu:P.underlying t with
 |none=>simp[hu] at h
 |some d=>
  rw[hu] at h
  cases d<;>simp at h<;>subst h<;>simp[isAgg,run_underlying hu]
theorem run_sizeOf' {t:TypeId} {n:Nat} (h:tySize P t=some n) (w:World):(sizeOf t).run P w= .ok n w:=by
 unfold tySize at h
 obtain⟨i,hi,rfl⟩:=Option.map_eq_some_iff.1 h
 simp[sizeOf,typeInfo,hi]
theorem RepE.int {k:IntKind} {n:Int} {v:Value} (h:RepE fi M w (.int k n) v):v= .int k n:=by
 cases (show RepP fi M w (.int k n) v from h);rfl
theorem RepE.bool {b:Bool} {v:Value} (h:RepE fi M w (.bool b) v):v= .bool b:=by
 cases (show RepP fi M w (.bool b) v from h);rfl
theorem RepE.str {s:ByteArray} {v:Value} (h:RepE fi M w (.str s) v):v= .string s:=by
 cases (show RepP fi M w (.str s) v from h);rfl
theorem RepE.nilI {v:Value} (h:RepE fi M w .nilI v):v= .nilIface:=by
 cases (show RepP fi M w .nilI v from h);rfl
theorem RepE.someI {v:Value} (h:RepE fi M w .someI v):∃t u,v= .iface t u:=by
 cases (show RepP fi M w .someI v from h);exact⟨_,_,rfl⟩
theorem RepE.agg {cs:List PV} {v:Value} (h:RepE fi M w (.agg cs) v):∃vs:List Value,v= .agg vs.toArray∧vs.length=cs.length∧
  ∀(i:Nat) (c:PV) (u:Value),cs[i]?=some c→vs[i]?=some u→RepP fi M w c u:=by
 cases (show RepP fi M w (.agg cs) v from h) with
 |agg _ vs hl hh=>exact⟨vs,rfl,hl,hh⟩
theorem RepE.tup {cs:List PV} {v:Value} (h:RepE fi M w (.tup cs) v):∃vs:List Value,v= .tuple vs.toArray∧vs.length=cs.length∧
  ∀(i:Nat) (c:PV) (u:Value),cs[i]?=some c→vs[i]?=some u→RepP fi M w c u:=by
 cases (show RepP fi M w (.tup cs) v from h) with
 |tup _ vs hl hh=>exact⟨vs,rfl,hl,hh⟩
theorem jco {op:BinOp} {p q r:PV} {u v:Value} {t:TypeId} {x y:Operand} (h:binPV op p q=some r) (hx:RepE fi M w p u) (hy:RepE fi M w q v) :
  ∃r',(eqGuard op t x y u v).run P w= .ok () w∧(binOp op t u v).run P w= .ok r' w∧RepP fi M w r r':=by
 unfold binPV at h
 split at h
 ·rename_i k a k' b
  obtain rfl:=hx.int
  obtain rfl:=hy.int
  have hG:(eqGuard op t x y (.int k a) (.int k' b)).run P w= .ok () w:=by cases op<;>simp[eqGuard]
  refine Exists.imp (fun r' hr'=>⟨hG,hr'⟩) ?_
  cases op<;>simp only at h<;>first
   | (split at h
      ·cases h
      ·rename_i hb;cases h
       refine⟨_,?_,RepP.int _ _⟩
       simp[binOp,Op.shift,hb])
   | (split at h
      ·rename_i hk;subst hk
       split at h
       ·cases h
       ·rename_i hb
        cases h
        refine⟨_,?_,RepP.int _ _⟩
        simp[binOp,Op.intDiv,hb]
      ·cases h)
   | (split at h
      ·rename_i hk;subst hk
       cases h
       refine⟨_,?_,RepP.int _ _⟩
       simp[binOp,Op.intArith,Op.intBits]
      ·cases h)
   | (split at h
      ·rename_i hk;subst hk
       cases h
       refine⟨_,?_,RepP.bool _⟩
       simp[binOp,Op.intCmp]
      ·cases h)
   |cases h
 ·rename_i a b
  obtain rfl:=hx.str
  obtain rfl:=hy.str
  have hG:(eqGuard op t x y (.string a) (.string b)).run P w= .ok () w:=by cases op<;>simp[eqGuard]
  refine Exists.imp (fun r' hr'=>⟨hG,hr'⟩) ?_
  cases op<;>simp only at h<;>first
   | (split at h
      ·cases h
      ·rename_i hb;cases h
       refine⟨_,?_,RepP.str _⟩
       simp only[binOp,Op.stringOp,if_neg hb,Sem.run_pure])
   | (cases h
      refine⟨_,?_,RepP.bool _⟩
      simp[binOp,Op.stringOp])
   |cases h
 ·cases h
theorem un_sim {op:UnOp} {p r:PV} {u:Value} (h:unPV op p=some r) (hx:RepE fi M w p u):∃r',(Op.unary op u).run P w= .ok r' w∧RepP fi M w r r':=by
 unfold unPV at h
 split at h
 ·obtain rfl:=hx.int;cases h
  refine⟨_,?_,RepP.int _ _⟩
  simp[Op.unary,Op.intArith]
 ·obtain rfl:=hx.int;cases h
  refine⟨_,?_,RepP.int _ _⟩
  simp[Op.unary,Op.intBits]
 ·obtain rfl:=hx.bool;cases h
  refine⟨_,?_,RepP.bool _⟩
  simp[Op.unary]
 ·cases h
end
end Go.Lw
end

/-! Operations on lists, structs and pointers that change nothing in memory. -/
section
namespace Go.Lw
open Go
section
variable {fi:FI} {M M':Mem} {w w':World} {P:Program}
theorem jaz (b o n:Nat):(⟨b,o,none⟩:Addr).add n=⟨b,o+n,none⟩:=by
 unfold Addr.add;split<;>simp_all
theorem jj9 {agg:Bool} {k off:Nat} {cs:List PV} {vs:List Value} {p:PV} {t:TypeId} (h:grab agg k off cs=some p) (hl:vs.length=cs.length)
  (hv:∀(i:Nat) (c:PV) (u:Value),cs[i]?=some c→vs[i]?=some u→RepP fi M w c u) (ht:tyAgg P t=some agg) (hs:agg=true→tySize P t=some k) :
  ∃r,(part t vs.toArray off).run P w= .ok r w∧RepP fi M w p r:=by
 unfold grab at h
 cases agg with
 | true=>
  simp only[if_true] at h
  split at h
  ·rename_i hk
   cases h
   refine⟨.agg ((vs.drop off).take k).toArray,?_,RepP.agg _ _ (by simp[hl]) fun i c u hc hu=>?_⟩
   ·simp[part,jbc ht,run_sizeOf' (hs rfl)]
   ·rw[List.getElem?_take] at hc hu
    split at hc
    ·rename_i hi
     rw[if_pos hi] at hu
     rw[List.getElem?_drop] at hc hu
     exact hv _ _ _ hc hu
    ·cases hc
  ·cases h
 |false=>
  simp only[Bool.false_eq_true,if_false] at h
  have hlt:off<vs.length:=by rw[hl];exact (List.getElem?_eq_some_iff.1 h).1
  refine⟨vs[off],?_,hv off p _ h (List.getElem?_eq_getElem hlt)⟩
  simp[part,jbc ht,hlt]
theorem RepE.slC {z:Nat} {xs:List PV} {v:Value} {o:Bool} (h:RepE fi M w (.sl o z xs) v):∃A c,v= .slice A xs.length c∧xs.length≤c:=by
 cases (show RepP fi M w (.sl o z xs) v from h) with
 |sl _ _ A c=>exact⟨A,c,rfl,by assumption⟩
theorem jja {t e:TypeId} {z:Nat} {xs:List PV} {i:Int} {k:IntKind} {o:Bool} {el:PV} {v:Value} (ht:P.underlying t=some (.slice e)) (hs:tySize P e=some z)
  (hx:RepE fi M w (.sl o z xs) v) (h0:0≤i) (he:xs[i.toNat]?=some el):∃r,(Instr.indexAt t v (.int k i)).run P w= .ok r w∧RepP fi M w (.ep el 0) r:=by
 cases (show RepP fi M w (.sl o z xs) v from hx) with
 | sl _ _ A c b o vf hA hc hz h1 hm hr=>
  have hlt:=(List.getElem?_eq_some_iff.1 he).1
  have hA':A=some ⟨b,o,none⟩:=hA.resolve_left (fun h=>by subst h;simp at hlt)
  subst hA'
  have hi:i<(xs.length:Int):=by omega
  refine⟨.pointer (some ⟨b,o+i.toNat*z,none⟩),?_,RepP.ep el 0 b (o+i.toNat*z) (fun j=>vf (i.toNat*z+j)) (h1 el (List.mem_of_getElem? he)) (fun j p hp=>?_) fun j p hp=>hr _ _ _ _ he hp⟩
  ·simp[Instr.indexAt,asIntOf,run_underlying ht,h0,hi,run_sizeOf' hs,jaz]
  ·have:=hm _ _ _ _ he hp
   rw[Nat.add_assoc];exact this
theorem jfg {t e:TypeId} {z m:Nat} {i:Int} {k:IntKind} {b o:Nat} (ht:P.underlying t=some (.array m e)) (hs:tySize P e=some z) (h0:0≤i) (hi:i<m) (w:World) :
  (Instr.indexAt t (.pointer (some ⟨b,o,none⟩)) (.int k i)).run P w= .ok (.pointer (some ⟨b,o+i.toNat*z,none⟩)) w:=by
 simp[Instr.indexAt,asIntOf,Instr.sureAddr,run_underlying ht,h0,hi,run_sizeOf' hs,jaz]
theorem jcp {t e:TypeId} {z n c:Nat} {i:Int} {k:IntKind} {b o:Nat} (ht:P.underlying t=some (.slice e)) (hs:tySize P e=some z) (h0:0≤i) (hi:i<n) (w:World) :
  (Instr.indexAt t (.slice (some ⟨b,o,none⟩) n c) (.int k i)).run P w= .ok (.pointer (some ⟨b,o+i.toNat*z,none⟩)) w:=by
 simp[Instr.indexAt,asIntOf,run_underlying ht,h0,hi,run_sizeOf' hs,jaz]
theorem jfh {t:TypeId} {fs:Array Field} {fld off n:Nat} {f:Field} {b o:Nat} (ht:P.underlying t=some (.struct fs)) (hf:fs[fld]?=some f) (ho:f.offset=off)
  (hn:tySize P f.type=some n) (h0:n≠0) (w:World):(Instr.fieldAt t (.pointer (some ⟨b,o,none⟩)) fld).run P w= .ok (.pointer (some ⟨b,o+off,none⟩)) w:=by
 simp[Instr.fieldAt,run_underlying ht,hf,Instr.sureAddr,fieldPlace,run_sizeOf' hn,h0,ho,jaz]
theorem len_sl {ats:Array TypeId} {t e ty:TypeId} {A:Option Addr} {n c:Nat} (h0:ats[0]?=some t) (ht:P.underlying t=some (.slice e)) (w:World) :
  (Builtin.len_ ats ty #[.slice A n c]).run P w= .ok (.int .i64 n) w:=by
 simp[Builtin.len_,h0,run_underlying ht,goInt]
theorem jjb {ats:Array TypeId} {t ty:TypeId} {s:ByteArray} (h0:ats[0]?=some t) (ht:P.underlying t=some .string) (w:World) :
  (Builtin.len_ ats ty #[.string s]).run P w= .ok (.int .i64 s.size) w:=by
 simp[Builtin.len_,h0,run_underlying ht,goInt]
def SB (v:Option Value) (d l:Nat):Prop:=(v=none∧l=d)∨∃k,v=some (.int k (l:Int))
theorem jbn {t e:TypeId} {z n c l h:Nat} {A:Option Addr} {lo hi:Option Value} (ht:P.underlying t=some (.slice e)) (hs:tySize P e=some z) (hl:SB lo 0 l) (hh:SB hi n h)
  (h1:l≤h) (h2:h≤c) (w:World):(Instr.sliceAt t (.slice A n c) lo hi none).run P w= .ok (.slice (if c=l then A else A.map (·.add (l*z))) (h-l) (c-l)) w:=by
 have b1:∀k code,(Instr.sliceBound (.int k (l:Int)) h code).run P w= .ok l w:=fun k code=>by
  rw[run_sliceBound w k (l:Int) h code (by omega) (by omega)];simp
 have b2:∀k code,(Instr.sliceBound (.int k (h:Int)) c code).run P w= .ok h w:=fun k code=>by
  rw[run_sliceBound w k (h:Int) c code (by omega) (by omega)];simp
 rcases hl with ⟨rfl,rfl⟩|⟨k,rfl⟩<;>rcases hh with ⟨rfl,rfl⟩|⟨k',rfl⟩<;>simp[Instr.sliceAt,Instr.slice,Instr.sliceBounds,run_underlying ht,run_sizeOf' hs,b1,b2]
theorem jjc {z l h:Nat} {xs:List PV} {o:Bool} {A:Option Addr} {c:Nat} (hx:RepE fi M w (.sl o z xs) (.slice A xs.length c)) (h1:l≤h) (h2:h≤xs.length) (hc:xs.length≤c) :
  RepP fi M w (.sl false z ((xs.take h).drop l)) (.slice (if c=l then A else A.map (·.add (l*z))) (h-l) (c-l)):=by
 generalize hv:Value.slice A xs.length c=v at hx
 cases (show RepP fi M w (.sl o z xs) v from hx) with
 | sl _ _ A' c' b o vf hA hc' hz h1' hm hr=>
  injection hv with e1 e2 e3
  subst e1;subst e3
  have hlen:((xs.take h).drop l).length=h-l:=by simp;omega
  have hget:∀i e,((xs.take h).drop l)[i]?=some e→xs[l+i]?=some e:=fun i e he=>by
   rw[List.getElem?_drop,List.getElem?_take] at he
   split at he
   ·exact he
   ·cases he
  rw[←hlen]
  refine RepP.sl z _ _ _ b (o+l*z) (fun j=>vf (l*z+j)) ?_ (by rw[hlen];omega) (fun e he=>hz e ?_) (fun e he=>h1' e ?_) (fun i e j p he hp=>?_) (fun i e j p he hp=>?_)
  ·by_cases hcl:c=l
   ·left
    apply List.eq_nil_of_length_eq_zero
    omega
   ·rw[if_neg hcl]
    rcases hA with rfl|rfl
    ·left;simp
    ·right;simp[jaz]
  ·exact List.mem_of_mem_take (List.mem_of_mem_drop he)
  ·exact List.mem_of_mem_take (List.mem_of_mem_drop he)
  ·have:=hm _ _ _ _ (hget _ _ he) hp
   have e:o+((l+i)*z+j)=o+l*z+(i*z+j):=by rw[Nat.add_mul];omega
   rw[e] at this
   have e2:(l+i)*z+j=l*z+(i*z+j):=by rw[Nat.add_mul];omega
   rw[e2] at this
   exact this
  ·have:=hr _ _ _ _ (hget _ _ he) hp
   have e2:(l+i)*z+j=l*z+(i*z+j):=by rw[Nat.add_mul];omega
   rw[e2] at this
   exact this
end
end Go.Lw
end

/-! What changes in memory leaves of what was told of it. -/
section
namespace Go.Lw
open Go
section
variable {fi:FI} {M M':Mem} {w w':World} {P:Program}
structure Good (M:Mem) (w:World) (M':Mem) (w':World) (xl:Loc→Prop) (xb:Nat→Prop):Prop where
 ext:Ext M w M' w'
 size:w.heap.size≤w'.heap.size
 lb:∀(i k:Nat),M.lb[i]?=some k→M'.lb[i]?=some k
 own:∀(b:Nat) (l:Loc),M.own b=some l→¬xl l→M'.own b=some l∧w'.heap[b]?=w.heap[b]?∧(∀k,¬M.imm b k→¬M'.imm b k)∧(b∉M.lb→b∉M'.lb)∧(b∉M.gb→b∉M'.gb)
 box:∀b,b<w.heap.size→¬xb b→M.own b=none→w'.heap[b]?=w.heap[b]?∧(∀k,¬M.imm b k→¬M'.imm b k)∧M'.own b=none
 st:∀i,¬xl (Loc.gh i 0)→M'.st i=M.st i
variable {xl:Loc→Prop} {xb:Nat→Prop}
theorem OwnRep.good (g:Good M w M' w' xl xb) {l:Loc} {z:Nat} {xs:List PV} {v:Value} (h:OwnRep fi M w l z xs v) (hl:¬xl l):OwnRep fi M' w' l z xs v:=by
 obtain⟨h1,h2⟩:=h
 refine⟨h1.mono g.ext,?_⟩
 rcases h2 with h2|⟨b,o,c,cs,e,hv,ho,hh,hs,hk,hb1,hb2⟩
 ·exact .inl h2
 ·obtain⟨g1,g2,g3,g4,g5⟩:=g.own b l ho hl
  exact .inr ⟨b,o,c,cs,e,hv,g1,by rw[g2];exact hh,hs,fun k hk'=>g3 k (hk k hk'),g4 hb1,g5 hb2⟩
theorem ArrRep.good (g:Good M w M' w' xl xb) {l:Loc} {z:PV} {n:Nat} {v:Value} (h:ArrRep M w l z n v) (hl:¬xl l):ArrRep M' w' l z n v:=by
 obtain⟨h0,b,T,c,hv,hc,ho,hh,hk,hb1,hb2⟩:=h
 obtain⟨g1,g2,g3,g4,g5⟩:=g.own b l ho hl
 exact⟨h0,b,T,c,hv,hc,g1,by rw[g2];exact hh,fun k=>g3 k (hk k),g4 hb1,g5 hb2⟩
theorem RepC.good (g:Good M w M' w' xl xb) {l:Loc} {p:PV} {v:Value} (h:RepC fi M w l p v) (hl:¬xl l):RepC fi M' w' l p v:=by
 unfold RepC at *
 split at h
 ·exact OwnRep.good g h hl
 ·exact h.mono g.ext
theorem RepE.good (g:Good M w M' w' xl xb) {p:PV} {v:Value} (h:RepE fi M w p v):RepE fi M' w' p v:=by
 unfold RepE at *
 split at h
 ·obtain⟨blk,h1,h2⟩:=h;exact⟨blk,g.lb _ _ h1,h2⟩
 ·obtain⟨blk,A,c,h1,h2⟩:=h;exact⟨blk,A,c,g.lb _ _ h1,h2⟩
 ·exact h.mono g.ext
theorem RepAt.good (g:Good M w M' w' xl xb) {mk:Nat→Loc} {p:PV} {v:Value} (h:RepAt fi M w mk p v) (hl:∀i,¬xl (mk i)):RepAt fi M' w' mk p v:=by
 unfold RepAt at *
 split at h
 ·exact OwnRep.good g h (hl 0)
 ·exact ArrRep.good g h (hl 0)
 ·obtain⟨vs,h1,h2,h3⟩:=h
  exact⟨vs,h1,h2,fun i c u hc hu=>(h3 i c u hc hu).good g (hl i)⟩
 ·obtain⟨vs,h1,h2,h3⟩:=h
  exact⟨vs,h1,h2,fun i c u hc hu=>(h3 i c u hc hu).good g (hl i)⟩
 ·exact h.good g
theorem RepBox.good (g:Good M w M' w' xl xb) {mk:Nat→Loc} {blk:Nat} {cs:List PV} (h:RepBox fi M w mk blk cs) (hb:¬xb blk) (hl:∀i,¬xl (mk i)):RepBox fi M' w' mk blk cs:=by
 obtain⟨h1,h2,h3,h4,vs,T,h5,h6,h7⟩:=h
 obtain⟨g1,g2,g3⟩:=g.box blk h1 hb h3
 exact⟨Nat.lt_of_lt_of_le h1 g.size,fun k=>g2 k (h2 k),g3,h4,vs,T,by rw[g1];exact h5,h6,fun i c u hc hu=>(h7 i c u hc hu).good g (hl i)⟩
theorem RepMap.good (g:Good M w M' w' xl xb) {blk:Nat} {es:List (PV×PV)} (h:RepMap fi M w blk es) (hb:¬xb blk):RepMap fi M' w' blk es:=by
 obtain⟨h1,h2,l,clock,h3,h4,h5⟩:=h
 obtain⟨g1,_,g3⟩:=g.box blk h1 hb h2
 exact⟨Nat.lt_of_lt_of_le h1 g.size,g3,l,clock,by rw[g1];exact h3,h4,fun i e m he hm=>
  ⟨(h5 i e m he hm).1.mono g.ext,(h5 i e m he hm).2.1.mono g.ext,(h5 i e m he hm).2.2⟩⟩
theorem RepStk.good (g:Good M w M' w' xl xb) {i blk gen:Nat} {xs:List PV} (h:RepStk fi M w i blk gen xs) (hl:∀j,¬xl (Loc.gh i j)):RepStk fi M' w' i blk gen xs:=by
 obtain⟨h1,h2,h3,h4,h5,cs,T,h6,h7,h8,h9⟩:=h
 obtain⟨g1,_⟩:=g.own blk _ h1 (hl 0)
 obtain⟨g2,g3,g4,_⟩:=g.own _ _ h3 (hl 0)
 have e:=g.st i (hl 0)
 exact⟨g1,by rw[e];exact h2,by rw[e];exact g2,fun k=>by rw[e];exact g4 k (h4 k),h5,cs,T,by rw[e,g3];exact h6,by rw[e];exact h7,h8,fun j x hj=>by
  obtain⟨u,hu,hr⟩:=h9 j x hj
  exact⟨u,hu,hr.mono g.ext⟩⟩
theorem RepBld.good (g:Good M w M' w' xl xb) {i blk:Nat} {s:ByteArray} (h:RepBld fi M w i blk s) (hb:¬xb blk) (hl:∀j,¬xl (Loc.gh i j)):RepBld fi M' w' i blk s:=by
 obtain⟨h1,h2,h3,T,hT,h4⟩:=h
 obtain⟨g1,g2,g3⟩:=g.box blk h1 hb h3
 refine⟨Nat.lt_of_lt_of_le h1 g.size,fun k=>g2 k (h2 k),g3,T,hT,?_⟩
 rcases h4 with ⟨e,h4⟩|⟨c,cap,cur,h5,h6,h7,h8,h9,h10,h11⟩
 ·exact .inl ⟨e,by rw[g1];exact h4⟩
 ·obtain⟨k1,k2,k3,k4,k5⟩:=g.own c _ h6 (hl 0)
  exact .inr ⟨c,cap,cur,by rw[g1];exact h5,k1,k4 h7,k5 h8,fun k=>k3 k (h9 k),by rw[k2];exact h10,h11⟩
theorem RepObj.good (g:Good M w M' w' xl xb) {i blk:Nat} {o:GObj} (h:RepObj fi M w i blk o) (hb:¬xb blk) (hl:∀j,¬xl (Loc.gh i j)):RepObj fi M' w' i blk o:=by
 cases o with
 |cells cs=>exact RepBox.good (mk:=Loc.gh i) g h hb hl
 |map es=>exact RepMap.good g h hb
 |stk gen xs=>exact RepStk.good g h hl
 |bld s=>exact RepBld.good g h hb hl
def Mem.rel (M:Mem) (f:Loc→Loc):Mem:={M with own:=fun b=>(M.own b).map f }
theorem Ext.rel (M:Mem) (w:World) (f:Loc→Loc):Ext M w (M.rel f) w:=⟨fun _ _ h=>h,fun _ _ h=>h,fun _ _ _=>rfl,fun _ _=>⟨Nat.le_refl _,fun _=>rfl⟩⟩
theorem OwnRep.rel {l:Loc} {z:Nat} {xs:List PV} {v:Value} (h:OwnRep fi M w l z xs v) (f:Loc→Loc):OwnRep fi (M.rel f) w (f l) z xs v:=by
 obtain⟨h1,h2⟩:=h
 refine⟨h1.mono (Ext.rel M w f),?_⟩
 rcases h2 with h2|⟨b,o,c,cs,e,hv,ho,hr⟩
 ·exact .inl h2
 ·exact .inr ⟨b,o,c,cs,e,hv,by simp[Mem.rel,ho],hr⟩
theorem ArrRep.rel {l:Loc} {z:PV} {n:Nat} {v:Value} (h:ArrRep M w l z n v) (f:Loc→Loc):ArrRep (M.rel f) w (f l) z n v:=by
 obtain⟨h0,b,T,c,hv,hc,ho,hr⟩:=h
 exact⟨h0,b,T,c,hv,hc,by simp[Mem.rel,ho],hr⟩
theorem RepC.rel {l l':Loc} {p:PV} {v:Value} (h:RepC fi M w l p v) (f:Loc→Loc) (hf:f l=l'):RepC fi (M.rel f) w l' p v:=by
 subst hf
 unfold RepC at *
 split at h
 ·exact OwnRep.rel h f
 ·exact h.mono (Ext.rel M w f)
theorem RepE.rel {p:PV} {v:Value} (h:RepE fi M w p v) (f:Loc→Loc):RepE fi (M.rel f) w p v:=by
 unfold RepE at *
 split at h
 ·exact h
 ·exact h
 ·exact h.mono (Ext.rel M w f)
theorem RepAt.rel {mk mk':Nat→Loc} {p:PV} {v:Value} (h:RepAt fi M w mk p v) (f:Loc→Loc) (hf:∀i,f (mk i)=mk' i):RepAt fi (M.rel f) w mk' p v:=by
 unfold RepAt at *
 split at h
 ·rw[←hf 0];exact OwnRep.rel h f
 ·rw[←hf 0];exact ArrRep.rel h f
 ·obtain⟨vs,h1,h2,h3⟩:=h
  exact⟨vs,h1,h2,fun i c u hc hu=>(h3 i c u hc hu).rel f (hf i)⟩
 ·obtain⟨vs,h1,h2,h3⟩:=h
  exact⟨vs,h1,h2,fun i c u hc hu=>(h3 i c u hc hu).rel f (hf i)⟩
 ·exact h.rel f
theorem RepBox.rel {mk:Nat→Loc} {blk:Nat} {cs:List PV} (h:RepBox fi M w mk blk cs) (f:Loc→Loc) (hf:∀i,f (mk i)=mk i):RepBox fi (M.rel f) w mk blk cs:=by
 obtain⟨h1,h2,h3,h4,vs,T,h5,h6,h7⟩:=h
 exact⟨h1,h2,by simp[Mem.rel,h3],h4,vs,T,h5,h6,fun i c u hc hu=>(h7 i c u hc hu).rel f (hf i)⟩
theorem RepObj.rel {i blk:Nat} {o:GObj} (h:RepObj fi M w i blk o) (f:Loc→Loc) (hf:∀j,f (Loc.gh i j)=Loc.gh i j):RepObj fi (M.rel f) w i blk o:=by
 cases o with
 |cells cs=>exact RepBox.rel (mk:=Loc.gh i) h f hf
 |map es=>
  obtain⟨h1,h2,l,clock,h3,h4,h5⟩:=h
  exact⟨h1,by simp[Mem.rel,h2],l,clock,h3,h4,fun i e m he hm=>⟨(h5 i e m he hm).1.mono (Ext.rel M w f),(h5 i e m he hm).2.1.mono (Ext.rel M w f),(h5 i e m he hm).2.2⟩⟩
 | stk gen xs=>
  obtain⟨h1,h2,h3,h4,h5,cs,T,h6,h7,h8,h9⟩:=h
  exact⟨by simp[Mem.rel,h1,hf],h2,by simp only[Mem.rel];rw[h3];simp[hf],h4,h5,cs,T,h6,h7,h8,fun j x hj=>by
   obtain⟨u,hu,hr⟩:=h9 j x hj
   exact⟨u,hu,hr.mono (Ext.rel M w f)⟩⟩
 |bld s=>
  obtain⟨h1,h2,h3,T,hT,h4⟩:=h
  refine⟨h1,h2,by simp[Mem.rel,h3],T,hT,?_⟩
  rcases h4 with h4|⟨c,cap,cur,h5,h6,h7⟩
  ·exact .inl h4
  ·exact .inr ⟨c,cap,cur,h5,by simp[Mem.rel,h6,hf],h7⟩
theorem Kp.rel (M:Mem) (w:World) (f:Loc→Loc):Kp M w (M.rel f) w where
 os:=rfl
 tape:=rfl
 output:=rfl
 size:=Nat.le_refl _
 ext:=Ext.rel M w f
 block:=fun _ _ _ _ _=>rfl
 lbn:=fun _ h=> .inl h
 gbn:=fun _ h=> .inl h
 ownn:=fun k _ h=>by simp[Mem.rel,h]
 immn:=fun _ _ h=> .inl h
theorem Inv.rel {s:St} {a:Act} (hI:Inv fi M w s a) (f:Loc→Loc) (e:List (Nat×PV)) (he:∀t v,get e t=some v→t<a.tmps.size∧RepAt fi (M.rel f) w (Loc.env t) v (a.tmps.getD t undef))
  (hl:∀i j,f (Loc.lh i j)=Loc.lh i j) (hg:∀i j,f (Loc.gh i j)=Loc.gh i j):Inv fi (M.rel f) w ⟨e,s.lh,s.gh⟩ a where
 env:=he
 defers:=hI.defers
 lbl:=hI.lbl
 gbl:=hI.gbl
 nodup:=hI.nodup
 lh:=fun i cs blk h1 h2=>(hI.lh i cs blk h1 h2).rel f (hl i)
 gh:=fun i o blk h1 h2=>(hI.gh i o blk h1 h2).rel f (hg i)
 gl:=hI.gl
 immlt:=hI.immlt
 ownlt:=fun b l h=>by
  simp only[Mem.rel,Option.map_eq_some_iff] at h
  obtain⟨l',h1,_⟩:=h
  exact hI.ownlt b l' h1
 gblt:=hI.gblt
def toLim (n:Nat):Loc→Loc
 | .env t i=>if t=n then .lim i else .env t i
 |l=>l
def fromLim (mk:Nat→Loc):Loc→Loc
 | .lim i=>mk i
 |l=>l
theorem jcq {s:St} {a:Act} (hI:Inv fi M w s a) {x:IX} {o:Operand} (hm:mX fi x o=true) {v:PV} {e:List (Nat×PV)} (h:takeX s.env x=some (v,e)) :
  ∃M1,Inv fi M1 w ⟨e,s.lh,s.gh⟩ a∧Kp M w M1 w∧RepAt fi M1 w Loc.lim v (a.eval o)∧M1.lb=M.lb∧M1.gb=M.gb∧M1.imm=M.imm:=by
 cases x with
 | t n=>
  cases o with
  | tmp m=>
   simp only[mX,beq_iff_eq] at hm;subst hm
   simp only[takeX,Option.map_eq_some_iff,Prod.mk.injEq] at h
   obtain⟨v',hv,rfl,rfl⟩:=h
   have hn:=hI.env n v' hv
   refine⟨M.rel (toLim n),hI.rel _ _ (fun t u hu=>?_) (fun _ _=>rfl) (fun _ _=>rfl),Kp.rel M w _,hn.2.rel _ (fun i=>by simp[toLim]),rfl,rfl,rfl⟩
   rw[jb7] at hu
   by_cases htn:n=t
   ·subst htn
    simp at hu;subst hu
    exact⟨hn.1,(hn.2.degr.rel _).repAt⟩
   ·simp[htn] at hu
    exact⟨(hI.env t u hu).1,(hI.env t u hu).2.rel _ (fun i=>by simp[toLim,Ne.symm htn])⟩
  |_=>simp[mX] at hm
 | c p=>
  cases o with
  |const u=>
   simp only[takeX,Option.some.injEq,Prod.mk.injEq] at h
   obtain⟨rfl,rfl⟩:=h
   exact⟨M,hI,Kp.refl M w,cOk_at hm _,rfl,rfl,rfl⟩
  |_=>simp[mX] at hm
 | f id=>
  cases o with
  |func F=>
   simp only[takeX,Option.some.injEq,Prod.mk.injEq] at h
   obtain⟨rfl,rfl⟩:=h
   exact⟨M,hI,Kp.refl M w,(jag hI (x:= .f id) hm rfl).repAt,rfl,rfl,rfl⟩
  |_=>simp[mX] at hm
theorem Inv.putLim {s:St} {a:Act} (hI:Inv fi M w s a) {d:Nat} (hd:d<a.tmps.size) {p:PV} {v:Value} (h:RepAt fi M w Loc.lim p v) :
  Inv fi (M.rel (fromLim (Loc.env d))) w (s.put d p) (a.put (some d) v)∧Kp M w (M.rel (fromLim (Loc.env d))) w:=by
 refine⟨Inv.put (s:=⟨s.env,s.lh,s.gh⟩) (hI.rel _ _ (fun t u hu=>⟨(hI.env t u hu).1,(hI.env t u hu).2.rel _ (fun i=>rfl)⟩) (fun _ _=>rfl) (fun _ _=>rfl)) hd (h.rel _ (fun i=>rfl)),Kp.rel M w _⟩
end
end Go.Lw
end

/-! Operations that make memory. -/
section
namespace Go.Lw
open Go Go.RowKit
section
variable {fi:FI} {M M':Mem} {w w':World} {P:Program}
theorem RepP.cells1 {p:PV} {v:Value} (h:RepP fi M w p v) (h1:p.one=true):v.cells= #[v]∧v.oneCell'=true:=by
 cases h<;>first|(exact⟨rfl,rfl⟩)|(simp[PV.one] at h1)
theorem RepC.cells1 {l:Loc} {p:PV} {v:Value} (h:RepC fi M w l p v) (h1:p.one=true):v.cells= #[v]∧v.oneCell'=true:=by
 unfold RepC at h
 split at h
 ·rcases h.2 with h|⟨b,o,c,cs,e,h,_⟩<;>subst h<;>exact⟨rfl,rfl⟩
 ·exact h.cells1 h1
theorem RepAt.cells {mk:Nat→Loc} {p:PV} {v:Value} (h:RepAt fi M w mk p v) (h1:argOk p=true) :
  ∃vs:List Value,v.cells=vs.toArray∧vs.length=p.cells.length∧(∀(i:Nat) (c:PV) (u:Value),p.cells[i]?=some c→vs[i]?=some u→RepC fi M w (mk i) c u)∧∀u∈vs,u.oneCell'=true:=by
 have hall:∀c∈p.cells,c.one=true:=by simpa [argOk] using h1
 have key:∀(vs:List Value),vs.length=p.cells.length→(∀(i:Nat) (c:PV) (u:Value),p.cells[i]?=some c→vs[i]?=some u→RepC fi M w (mk i) c u)→∀u∈vs,u.oneCell'=true:=by
  intro vs hl hv u hu
  obtain⟨i,hi,hx⟩:=List.mem_iff_getElem.1 hu
  have hc:p.cells[i]?=some (p.cells[i]'(by omega)):=List.getElem?_eq_getElem (by omega)
  exact ((hv i _ u hc (by rw[List.getElem?_eq_getElem hi,hx])).cells1 (hall _ (List.getElem_mem _))).2
 have single:∀(q:PV),q.cells=[q]→q.one=true→RepC fi M w (mk 0) q v→∃vs:List Value,v.cells=vs.toArray∧vs.length=q.cells.length∧(∀(i:Nat) (c:PV) (u:Value),q.cells[i]?=some c→vs[i]?=some u→RepC fi M w (mk i) c u)∧∀u∈vs,u.oneCell'=true:=by
  intro q hq h1 hc
  refine⟨[v],by simpa using (hc.cells1 h1).1,by simp[hq],fun i c u hc' hu=>?_,by simpa using (hc.cells1 h1).2⟩
  rw[hq] at hc'
  cases i with
  |zero=>simp at hc' hu;subst hc';subst hu;exact hc
  |succ i=>simp at hu
 unfold RepAt at h
 split at h
 ·exact single _ rfl rfl h
 ·cases h1
 ·obtain⟨vs,rfl,hl,hv⟩:=h
  exact⟨vs,rfl,hl,hv,key vs hl hv⟩
 ·simp[argOk,PV.cells,PV.one] at h1
 ·have hp:=h.repP h1
  rename_i g1 g4 g2 g3
  have hq:p.cells=[p]:=by
   cases p with
   |agg cs=>exact absurd rfl (g2 cs)
   |_=>rfl
  exact single p hq (by simpa [argOk,hq] using h1) hp.repC
theorem size_alloc' (w:World) (o:Obj):(w.alloc o).heap.size=w.heap.size+1:=by
 show (w.heap.push o).size=_;simp
theorem jjd (w:World) (o:Obj) (b k:Nat) (h:b<w.heap.size):(w.alloc o).cell? ⟨b,k,none⟩=w.cell? ⟨b,k,none⟩:=
 World.cell?_of_block (w:=w) (a:=⟨b,k,none⟩) (Below.heap_alloc w o b h)
theorem Good.alloc {s:St} {a:Act} (hI:Inv fi M w s a) (o:Obj) (M':Mem) (l g:List Nat) (hl:M'.lb=M.lb++l) (hg:M'.gb=M.gb++g) (hl':∀k∈l,k=w.heap.size) (hg':∀k∈g,k=w.heap.size)
  (Z:Nat→Prop) (hi:∀b k,M'.imm b k↔M.imm b k∨(b=w.heap.size∧Z k)) (ho:∀b,b≠w.heap.size→M'.own b=M.own b) (hst:M'.st=M.st:=by rfl) :
  Good M w M' (w.alloc o) (fun _=>False) (fun _=>False)∧Kp M w M' (w.alloc o):=by
 have hlt:∀b,b<w.heap.size→b≠w.heap.size:=fun b h e=>by omega
 have hext:Ext M w M' (w.alloc o):=⟨fun i k hk=>by
   rw[hg,List.getElem?_append_left (List.getElem?_eq_some_iff.1 hk).1];exact hk,
  fun b k hb=>(hi b k).2 (.inl hb),fun b k hb=>jjd w o b k (hI.immlt b k hb),fun b _=>by rw[hst];exact⟨Nat.le_refl _,fun _=>rfl⟩⟩
 have hsz:w.heap.size≤(w.alloc o).heap.size:=by rw[size_alloc'];omega
 refine⟨⟨hext,hsz,fun i k hk=>?_,fun b l' hb _=>?_,fun b hb _ hno=>?_,fun i _=>by rw[hst]⟩,⟨rfl,rfl,rfl,hsz,hext,fun k hk _ _ _=>Below.heap_alloc w o k hk,fun k hk=>?_,fun k hk=>?_,fun k hk hno=>?_,fun b k hb=>?_⟩⟩
 ·rw[hl,List.getElem?_append_left (List.getElem?_eq_some_iff.1 hk).1];exact hk
 ·have hb':=hI.ownlt b l' hb
  refine⟨by rw[ho b (hlt b hb')];exact hb,Below.heap_alloc w o b hb',fun k hk h=>?_,fun h1 h2=>?_,fun h1 h2=>?_⟩
  ·rcases (hi b k).1 h with h|⟨h,_⟩
   ·exact hk h
   ·omega
  ·rw[hl,List.mem_append] at h2
   rcases h2 with h2|h2
   ·exact h1 h2
   ·have:=hl' b h2;omega
  ·rw[hg,List.mem_append] at h2
   rcases h2 with h2|h2
   ·exact h1 h2
   ·have:=hg' b h2;omega
 ·refine⟨Below.heap_alloc w o b hb,fun k hk h=>?_,by rw[ho b (hlt b hb)];exact hno⟩
  rcases (hi b k).1 h with h|⟨h,_⟩
  ·exact hk h
  ·omega
 ·rw[hl,List.mem_append] at hk
  rcases hk with hk|hk
  ·exact .inl hk
  ·exact .inr (by rw[hl' k hk];exact Nat.le_refl _)
 ·rw[hg,List.mem_append] at hk
  rcases hk with hk|hk
  ·exact .inl hk
  ·exact .inr (.inl (by rw[hg' k hk];exact Nat.le_refl _))
 ·rw[ho k (hlt k hk)];exact hno
 ·rcases (hi b k).1 hb with h|⟨h,_⟩
  ·exact .inl h
  ·exact .inr (.inl (by omega))
theorem jcr {l:List Nat} {n:Nat} (h:l.Nodup) (hn:n∉l):(l++[n]).Nodup:=by
 rw[List.nodup_append]
 exact⟨h,by simp,fun a ha b hb=>by simp at hb;subst hb;intro e;subst e;exact hn ha⟩
theorem lb_lt {s:St} {a:Act} (hI:Inv fi M w s a):∀k∈M.lb,k<w.heap.size:=by
 intro k hk
 obtain⟨i,hi,rfl⟩:=List.mem_iff_getElem.1 hk
 have h2:i<s.lh.length:=by rw[←hI.lbl];exact hi
 exact (hI.lh i _ _ (List.getElem?_eq_getElem h2) (List.getElem?_eq_getElem hi)).1
theorem Inv.newBox {s:St} {a:Act} (hI:Inv fi M w s a) (g:Bool) {p:PV} {v:Value} (h:RepAt fi M w Loc.lim p v) (h1:argOk p=true) (T:TypeId) :
  ∃M',Inv fi M' (w.alloc (.cells v.cells T)) (s.newBox g p.cells).1 a∧Kp M w M' (w.alloc (.cells v.cells T))∧
   RepE fi M' (w.alloc (.cells v.cells T)) (.ptr g (s.newBox g p.cells).2 0) (.pointer (some ⟨w.heap.size,0,none⟩)):=by
 obtain⟨vs,hc,hlen,hrep,_⟩:=h.cells h1
 have hno:M.own w.heap.size=none:=by
  cases ho:M.own w.heap.size with
  |none=>rfl
  |some l=>exact absurd (hI.ownlt _ l ho) (by omega)
 have hni:∀k,¬M.imm w.heap.size k:=fun k hk=>absurd (hI.immlt _ k hk) (by omega)
 have hnl:w.heap.size∉M.lb++M.gb:=by
  rw[List.mem_append]
  rintro (hk|hk)
  ·exact absurd (lb_lt hI _ hk) (by omega)
  ·exact absurd (hI.gblt _ hk) (by omega)
 have hall:∀c∈p.cells,c.one=true:=by simpa [argOk] using h1
 generalize hW:w.alloc (.cells v.cells T)=W
 cases g with
 | true=>
  let M1:Mem:={M with gb:=M.gb++[w.heap.size] }
  obtain⟨g1,k1⟩:=Good.alloc hI (.cells v.cells T) M1 [] [w.heap.size] (by simp[M1]) rfl (by simp) (by simp) (fun _=>False) (by simp[M1]) (fun _ _=>rfl)
  rw[hW] at g1 k1
  have hf:∀(i:Nat) (c:PV) (u:Value),p.cells[i]?=some c→vs[i]?=some u→RepC fi (M1.rel (fromLim (Loc.gh s.gh.length))) W (Loc.gh s.gh.length i) c u:=
   fun i c u hc hu=>((hrep i c u hc hu).good g1 (by simp)).rel _ rfl
  refine⟨M1.rel (fromLim (Loc.gh s.gh.length)),?_,k1.trans (Kp.rel _ _ _),?_⟩
  ·refine⟨fun t u hu=>⟨(hI.env t u hu).1,((hI.env t u hu).2.good g1 (by simp)).rel _ (fun _=>rfl)⟩,hI.defers,hI.lbl,by simp[St.newBox,M1,Mem.rel,hI.gbl],?_,?_,?_,g1.ext.gl hI.gl,?_,?_,?_⟩
   ·show (M.lb++(M.gb++[w.heap.size])).Nodup
    rw[←List.append_assoc];exact jcr hI.nodup hnl
   ·exact fun i cs blk hi hb=>((hI.lh i cs blk hi hb).good g1 (by simp) (by simp)).rel _ (fun _=>rfl)
   ·intro i o blk hi hb
    simp only[St.newBox,if_true] at hi
    have hb':(M.gb++[w.heap.size])[i]?=some blk:=hb
    by_cases hlt:i<s.gh.length
    ·rw[List.getElem?_append_left hlt] at hi
     rw[List.getElem?_append_left (by rw[hI.gbl];exact hlt)] at hb'
     exact ((hI.gh i o blk hi hb').good g1 (by simp) (by simp)).rel _ (fun _=>rfl)
    ·have hil:=(List.getElem?_eq_some_iff.1 hi).1
     simp at hil
     obtain rfl:i=s.gh.length:=by omega
     simp at hi
     subst hi
     rw[List.getElem?_append_right (by rw[hI.gbl];exact Nat.le_refl _),hI.gbl] at hb'
     simp at hb';subst hb'
     refine⟨by rw[←hW,size_alloc'];omega,fun k=>hni k,by simp[Mem.rel,M1,hno],hall,vs,T,?_,hlen,hf⟩
     rw[←hW,hc];exact heap_alloc_new w _
   ·exact fun b k hb=>Nat.lt_of_lt_of_le (hI.immlt b k hb) k1.size
   ·intro b l hb
    simp only[Mem.rel,M1,Option.map_eq_some_iff] at hb
    obtain⟨l',h2,_⟩:=hb
    exact Nat.lt_of_lt_of_le (hI.ownlt b l' h2) k1.size
   ·intro b hb
    have hb':b∈M.gb++[w.heap.size]:=hb
    rw[←hW]
    simp only[List.mem_append,List.mem_singleton] at hb'
    rcases hb' with h2|h2
    ·have:=hI.gblt b h2;rw[size_alloc'];omega
    ·subst h2;rw[size_alloc'];omega
  ·refine RepP.repE (.ptr _ _ _ ?_)
   show (M.gb++[w.heap.size])[s.gh.length]?=some w.heap.size
   rw[List.getElem?_append_right (by rw[hI.gbl];exact Nat.le_refl _),hI.gbl];simp
 | false=>
  let M1:Mem:={M with lb:=M.lb++[w.heap.size] }
  obtain⟨g1,k1⟩:=Good.alloc hI (.cells v.cells T) M1 [w.heap.size] [] rfl (by simp[M1]) (by simp) (by simp) (fun _=>False) (by simp[M1]) (fun _ _=>rfl)
  rw[hW] at g1 k1
  have hf:∀(i:Nat) (c:PV) (u:Value),p.cells[i]?=some c→vs[i]?=some u→RepC fi (M1.rel (fromLim (Loc.lh s.lh.length))) W (Loc.lh s.lh.length i) c u:=
   fun i c u hc hu=>((hrep i c u hc hu).good g1 (by simp)).rel _ rfl
  refine⟨M1.rel (fromLim (Loc.lh s.lh.length)),?_,k1.trans (Kp.rel _ _ _),?_⟩
  ·refine⟨fun t u hu=>⟨(hI.env t u hu).1,((hI.env t u hu).2.good g1 (by simp)).rel _ (fun _=>rfl)⟩,hI.defers,by simp[St.newBox,M1,Mem.rel,hI.lbl],hI.gbl,?_,?_,?_,g1.ext.gl hI.gl,?_,?_,?_⟩
   ·show ((M.lb++[w.heap.size])++M.gb).Nodup
    have:=hI.nodup
    rw[List.nodup_append] at this ⊢
    rw[List.mem_append,not_or] at hnl
    refine⟨jcr this.1 hnl.1,this.2.1,fun a ha b hb=>?_⟩
    rw[List.mem_append,List.mem_singleton] at ha
    rcases ha with ha|ha
    ·exact this.2.2 a ha b hb
    ·subst ha;intro e;subst e;exact hnl.2 hb
   ·intro i cs blk hi hb
    simp only[St.newBox,Bool.false_eq_true,if_false] at hi
    have hb':(M.lb++[w.heap.size])[i]?=some blk:=hb
    by_cases hlt:i<s.lh.length
    ·rw[List.getElem?_append_left hlt] at hi
     rw[List.getElem?_append_left (by rw[hI.lbl];exact hlt)] at hb'
     exact ((hI.lh i cs blk hi hb').good g1 (by simp) (by simp)).rel _ (fun _=>rfl)
    ·have hil:=(List.getElem?_eq_some_iff.1 hi).1
     simp at hil
     obtain rfl:i=s.lh.length:=by omega
     simp at hi
     subst hi
     rw[List.getElem?_append_right (by rw[hI.lbl];exact Nat.le_refl _),hI.lbl] at hb'
     simp at hb';subst hb'
     refine⟨by rw[←hW,size_alloc'];omega,fun k=>hni k,by simp[Mem.rel,M1,hno],hall,vs,T,?_,hlen,hf⟩
     rw[←hW,hc];exact heap_alloc_new w _
   ·exact fun i o blk hi hb=>((hI.gh i o blk hi hb).good g1 (by simp) (by simp)).rel _ (fun _=>rfl)
   ·exact fun b k hb=>Nat.lt_of_lt_of_le (hI.immlt b k hb) k1.size
   ·intro b l hb
    simp only[Mem.rel,M1,Option.map_eq_some_iff] at hb
    obtain⟨l',h2,_⟩:=hb
    exact Nat.lt_of_lt_of_le (hI.ownlt b l' h2) k1.size
   ·exact fun b hb=>Nat.lt_of_lt_of_le (hI.gblt b hb) k1.size
  ·show ∃blk,_∧_
   refine⟨w.heap.size,?_,rfl⟩
   show (M.lb++[w.heap.size])[s.lh.length]?=some w.heap.size
   rw[List.getElem?_append_right (by rw[hI.lbl];exact Nat.le_refl _),hI.lbl];simp
end
end Go.Lw
end

/-! Loads, stores, lists that are made and grow. -/
section
namespace Go.Lw
open Go Go.RowKit
section
variable {fi:FI} {M M':Mem} {w w':World} {P:Program}
theorem Inv.drew {s:St} {a:Act} (hI:Inv fi M w s a):Inv fi M w.drew s a∧Kp M w M w.drew:=by
 have g:Good M w M w.drew (fun _=>False) (fun _=>False):=⟨⟨fun _ _ h=>h,fun _ _ h=>h,fun _ _ _=>rfl,fun _ _=>⟨Nat.le_refl _,fun _=>rfl⟩⟩,Nat.le_refl _,fun _ _ h=>h,fun b l h _=>⟨h,rfl,fun _ h=>h,id,id⟩,fun b _ _ h=>⟨rfl,fun _ h=>h,h⟩,fun _ _=>rfl⟩
 exact⟨⟨fun t u hu=>⟨(hI.env t u hu).1,(hI.env t u hu).2.good g (by simp)⟩,hI.defers,hI.lbl,hI.gbl,hI.nodup,fun i cs blk h1 h2=>(hI.lh i cs blk h1 h2).good g (by simp) (by simp),
  fun i o blk h1 h2=>(hI.gh i o blk h1 h2).good g (by simp) (by simp),hI.gl,hI.immlt,hI.ownlt,hI.gblt⟩,
  ⟨rfl,rfl,rfl,Nat.le_refl _,g.ext,fun _ _ _ _ _=>rfl,fun _ h=> .inl h,fun _ h=> .inl h,fun _ _ h=>h,fun _ _ h=> .inl h⟩⟩
theorem Inv.newOwn {s:St} {a:Act} (hI:Inv fi M w s a) {d:Nat} (hd:d<a.tmps.size) {z:Nat} {xs:List PV} (hz:∀e∈xs,e.cells.length=z) (h1:∀e∈xs,argOk e=true)
  (us rest:List Value) (hus:us.length=xs.length*z) (hrep:∀(i:Nat) (e:PV) (j:Nat) (p:PV),xs[i]?=some e→e.cells[j]?=some p→∃u,us[i*z+j]?=some u∧RepP fi M w p u)
  (c:Nat) (hc:xs.length≤c) (hcap:c*z≤us.length+rest.length) (T:TypeId) (O:Array Value) (hO:O=(us++rest).toArray) :
  ∃M',Inv fi M' (w.alloc (.cells O T)) (s.put d (.sl true z xs)) (a.put (some d) (.slice (some ⟨w.heap.size,0,none⟩) xs.length c))∧Kp M w M' (w.alloc (.cells O T)):=by
 subst hO
 have hnl:w.heap.size∉M.lb:=fun hk=>absurd (lb_lt hI _ hk) (by omega)
 have hng:w.heap.size∉M.gb:=fun hk=>absurd (hI.gblt _ hk) (by omega)
 have hni:∀k,¬M.imm w.heap.size k:=fun k hk=>absurd (hI.immlt _ k hk) (by omega)
 let M1:Mem:={M with imm:=fun b k=>M.imm b k∨(b=w.heap.size∧k<xs.length*z),own:=fun b=>if b=w.heap.size then some (Loc.env d 0) else M.own b }
 obtain⟨g1,k1⟩:=Good.alloc hI (.cells (us++rest).toArray T) M1 [] [] (by simp[M1]) (by simp[M1]) (by simp) (by simp) (fun k=>k<xs.length*z) (fun _ _=>Iff.rfl) (fun b hb=>by simp[M1,hb])
 generalize hW:w.alloc (.cells (us++rest).toArray T)=W at *
 have hcell:∀k,W.cell? ⟨w.heap.size,k,none⟩=(us++rest)[k]?:=fun k=>by
  rw[←hW,cell_of_row _ w.heap.size k (us++rest).toArray T (0,0) (heap_alloc_new w _)];simp
 have hR:RepP fi M1 W (.sl false z xs) (.slice (some ⟨w.heap.size,0,none⟩) xs.length c):=by
  refine RepP.sl z xs _ c w.heap.size 0 (fun j=>us.getD j undef) (.inr rfl) hc hz h1 (fun i e j p he hp=>?_) (fun i e j p he hp=>?_)
  ·obtain⟨u,hu,_⟩:=hrep i e j p he hp
   have hlt:=(List.getElem?_eq_some_iff.1 hu).1
   refine⟨.inr ⟨rfl,by omega⟩,?_⟩
   rw[Nat.zero_add,hcell,List.getElem?_append_left hlt,hu]
   simp[List.getD,hu]
  ·obtain⟨u,hu,hr⟩:=hrep i e j p he hp
   simp only[List.getD,hu,Option.getD_some]
   exact hr.mono g1.ext
 have hI1:Inv fi M1 W s a:=by
  refine⟨fun t u hu=>⟨(hI.env t u hu).1,(hI.env t u hu).2.good g1 (by simp)⟩,hI.defers,hI.lbl,hI.gbl,hI.nodup,fun i cs blk h1 h2=>(hI.lh i cs blk h1 h2).good g1 (by simp) (by simp),
   fun i o blk h1 h2=>(hI.gh i o blk h1 h2).good g1 (by simp) (by simp),g1.ext.gl hI.gl,fun b k hb=>?_,fun b l hb=>?_,fun b hb=>Nat.lt_of_lt_of_le (hI.gblt b hb) k1.size⟩
  ·rcases hb with hb|⟨hb,_⟩
   ·exact Nat.lt_of_lt_of_le (hI.immlt b k hb) k1.size
   ·subst hb;rw[←hW,size_alloc'];omega
  ·simp only[M1] at hb
   split at hb
   ·rename_i hbe;subst hbe;rw[←hW,size_alloc'];omega
   ·exact Nat.lt_of_lt_of_le (hI.ownlt b l hb) k1.size
 refine⟨M1,hI1.put hd ?_,k1⟩
 show OwnRep fi M1 W (Loc.env d 0) z xs _
 refine⟨hR,.inr ⟨w.heap.size,0,c,(us++rest).toArray,T,rfl,by simp[M1],by rw[←hW];exact heap_alloc_new w _,by simp;omega,fun k hk h=>?_,hnl,hng⟩⟩
 rcases h with h|⟨_,h⟩
 ·exact hni k h
 ·omega
theorem jdr {t:TypeId} {agg:Bool} {k blk off:Nat} {vs:List Value} {T:TypeId} (ha:tyAgg P t=some agg) (hs:agg=true→tySize P t=some k)
  (hb:w.heap[blk]?=some (.cells vs.toArray T (0,0))) (hk:if agg then off+k≤vs.length else off<vs.length) :
  (loadVar t ⟨blk,off,none⟩).run P w= .ok (if agg then .agg ((vs.drop off).take k).toArray else vs.getD off undef) w:=by
 have hc:∀j,w.cell? ⟨blk,j,none⟩=vs[j]?:=fun j=>by rw[cell_of_row w blk j _ T (0,0) hb];simp
 cases agg with
 | true=>
  simp only[if_true] at hk ⊢
  have hl:((vs.drop off).take k).length=k:=by simp;omega
  have:=run_loadCells_list (P:=P) w ⟨blk,off,none⟩ ((vs.drop off).take k) (fun j v hj=>by
   rw[jaz,hc]
   rw[List.getElem?_take] at hj
   split at hj
   ·rwa [List.getElem?_drop] at hj
   ·cases hj)
  rw[hl] at this
  simp[loadVar,jbc ha,run_sizeOf' (hs rfl),this]
 |false=>
  simp only[Bool.false_eq_true,if_false] at hk ⊢
  simp[loadVar,jbc ha,load,Sem.run,hc,hk,List.getD]
theorem boxAt {s:St} {a:Act} (hI:Inv fi M w s a) {g:Bool} {b off:Nat} {cs:List PV} {v:Value} (hp:RepE fi M w (.ptr g b off) v) (hc:s.cellsAt g b=some cs) :
  ∃blk,v= .pointer (some ⟨blk,off,none⟩)∧RepBox fi M w (if g then Loc.gh b else Loc.lh b) blk cs∧(if g then M.gb[b]?=some blk else M.lb[b]?=some blk):=by
 cases g with
 | true=>
  cases (show RepP fi M w (.ptr true b off) v from hp) with
  | ptr _ _ blk hb=>
   simp only[St.cellsAt,if_true] at hc
   split at hc
   ·rename_i cs' hg
    cases hc
    exact⟨blk,rfl,hI.gh b _ blk hg hb,hb⟩
   ·cases hc
 |false=>
  obtain⟨blk,hb,rfl⟩:=hp
  exact⟨blk,rfl,hI.lh b cs blk hc hb,hb⟩
theorem jfi {agg:Bool} {k off:Nat} {cs:List PV} {vs:List Value} {mk:Nat→Loc} {p:PV} (h:grab agg k off cs=some p) (hl:vs.length=cs.length)
  (hv:∀(i:Nat) (c:PV) (u:Value),cs[i]?=some c→vs[i]?=some u→RepC fi M w (mk i) c u) (h1:∀c∈cs,c.one=true) :
  (if agg then off+k≤vs.length else off<vs.length)∧RepP fi M w (degr p) (if agg then .agg ((vs.drop off).take k).toArray else vs.getD off undef):=by
 unfold grab at h
 cases agg with
 | true=>
  simp only[if_true] at h ⊢
  split at h
  ·rename_i hk
   cases h
   refine⟨by omega,RepP.agg _ _ (by simp[hl]) fun i c u hc hu=>?_⟩
   simp only[List.getElem?_map,Option.map_eq_some_iff] at hc
   obtain⟨c',hc',rfl⟩:=hc
   rw[List.getElem?_take] at hc' hu
   split at hc'
   ·rename_i hi
    rw[if_pos hi] at hu
    rw[List.getElem?_drop] at hc' hu
    exact (hv _ _ _ hc' hu).degr1
   ·cases hc'
  ·cases h
 |false=>
  simp only[Bool.false_eq_true,if_false] at h ⊢
  have hlt:off<vs.length:=by rw[hl];exact (List.getElem?_eq_some_iff.1 h).1
  refine⟨hlt,?_⟩
  have hone:=h1 p (List.mem_of_getElem? h)
  have:=(hv off p _ h (List.getElem?_eq_getElem hlt)).degr1
  simp only[List.getD,List.getElem?_eq_getElem hlt,Option.getD_some]
  cases p<;>first|exact this|(simp[PV.one] at hone)
theorem jje {s:St} {a:Act} (hI:Inv fi M w s a) {g:Bool} {b off k:Nat} {agg:Bool} {cs:List PV} {p:PV} {v:Value} {t:TypeId} (ha:tyAgg P t=some agg) (hs:agg=true→tySize P t=some k)
  (hp:RepE fi M w (.ptr g b off) v) (hc:s.cellsAt g b=some cs) (hg:grab agg k off cs=some p):∃r,(Instr.loadAt t v).run P w= .ok r w∧RepP fi M w (degr p) r:=by
 obtain⟨blk,rfl,⟨_,_,_,h1,vs,T,hh,hl,hv⟩,_⟩:=boxAt hI hp hc
 obtain⟨hk,hr⟩:=jfi hg hl hv h1
 exact⟨_,by simp only[Instr.loadAt,Instr.sureAddr];simp[jdr ha hs hh hk],hr⟩
theorem jjf {e:PV} {off k:Nat} {agg:Bool} {p:PV} {v:Value} {t:TypeId} (ha:tyAgg P t=some agg) (hs:agg=true→tySize P t=some k)
  (hp:RepE fi M w (.ep e off) v) (hg:grab agg k off e.cells=some p):∃r,(Instr.loadAt t v).run P w= .ok r w∧RepP fi M w p r:=by
 cases (show RepP fi M w (.ep e off) v from hp) with
 | ep _ _ b o vf h1 hm hr=>
  have hall:∀c∈e.cells,c.one=true:=by simpa [argOk] using h1
  unfold grab at hg
  cases agg with
  | true=>
   simp only[if_true] at hg
   split at hg
   ·rename_i hk
    cases hg
    have hrun:=run_loadCells (P:=P) w ⟨b,o+off,none⟩ k (fun j=>vf (off+j)) (fun j hj=>by
     rw[jaz,Nat.add_assoc]
     exact (hm (off+j) _ (List.getElem?_eq_getElem (by omega))).2)
    refine⟨.agg ((List.range k).map fun j=>vf (off+j)).toArray,?_,RepP.agg _ _ (by simp;omega) fun i c u hc hu=>?_⟩
    ·simp[Instr.loadAt,Instr.sureAddr,loadVar,jbc ha,run_sizeOf' (hs rfl),hrun]
    ·rw[List.getElem?_take] at hc
     split at hc
     ·rename_i hi
      simp only[List.getElem?_map,List.getElem?_range hi,Option.map_some,Option.some.injEq] at hu
      rw[List.getElem?_drop] at hc
      subst hu
      exact hr _ _ hc
     ·cases hc
   ·cases hg
  |false=>
   simp only[Bool.false_eq_true,if_false] at hg
   refine⟨vf off,?_,hr off p hg⟩
   simp[Instr.loadAt,Instr.sureAddr,loadVar,jbc ha,load,Sem.run,(hm off p hg).2]
end
end Go.Lw
end

/-! Stores into boxes; lists that grow. -/
section
namespace Go.Lw
open Go Go.RowKit
section
variable {fi:FI} {M M':Mem} {w w':World} {P:Program}
theorem jb8 {α:Type} (l n:List α) (off i:Nat) (h:off+n.length≤l.length) :
  (l.take off++n++l.drop (off+n.length))[i]?=if i<off then l[i]? else if i<off+n.length then n[i-off]? else l[i]?:=by
 have h1:(l.take off).length=off:=by simp;omega
 by_cases ha:i<off
 ·rw[if_pos ha,List.append_assoc,List.getElem?_append_left (by omega),List.getElem?_take,if_pos ha]
 ·rw[if_neg ha]
  by_cases hb:i<off+n.length
  ·rw[if_pos hb,List.append_assoc,List.getElem?_append_right (by omega),h1,List.getElem?_append_left (by omega)]
  ·rw[if_neg hb,List.getElem?_append_right (by simp;omega),List.getElem?_drop]
   congr 1
   simp;omega
theorem jbo {α:Type} (l n:List α) (off:Nat) (h:off+n.length≤l.length):(l.take off++n++l.drop (off+n.length)).length=l.length:=by
 simp;omega
theorem size_setRow' (w:World) (g:Nat) (cs:Array Value):(w.setRow g cs).heap.size=w.heap.size:=by simp[World.setRow]
theorem Good.setRow {blk:Nat} {cs cs2:Array Value} {T:TypeId} (hb:w.heap[blk]?=some (.cells cs T (0,0))) (hlb:M'.lb=M.lb) (hgb:M'.gb=M.gb) (Z:Nat→Prop)
  (hi:∀b k,M'.imm b k↔M.imm b k∨(b=blk∧Z k)) (hk:∀k,M.imm blk k→cs2[k]?=cs[k]?) (ho:∀b,b≠blk→M'.own b=M.own b) (xl:Loc→Prop) (xb:Nat→Prop)
  (hx:∀l,M.own blk=some l→xl l) (hxb:M.own blk=none→xb blk)
  (hS:(∀i,¬xl (Loc.gh i 0)→M'.st i=M.st i)∧∀b,(M.st b).1≤(M'.st b).1∧((M'.st b).1=(M.st b).1→M'.st b=M.st b):=by exact⟨fun _ _=>rfl,fun _=>⟨Nat.le_refl _,fun _=>rfl⟩⟩):Good M w M' (w.setRow blk cs2) xl xb:=by
 have hoth:∀b,b≠blk→(w.setRow blk cs2).heap[b]?=w.heap[b]?:=fun b h=>setRow_other w blk b cs2 h
 refine⟨⟨fun i k h=>by rw[hgb];exact h,fun b k h=>(hi b k).2 (.inl h),fun b k h=>?_,fun b _=>hS.2 b⟩,by rw[size_setRow'];exact Nat.le_refl _,fun i k h=>by rw[hlb];exact h,fun b l h hl=>?_,fun b _ hn h=>?_,hS.1⟩
 ·by_cases hbe:b=blk
  ·subst hbe
   rw[cell_setRow_same w b k cs cs2 T (0,0) hb,hk k h,cell_of_row w b k cs T (0,0) hb]
  ·exact cell_setRow_other w blk cs2 ⟨b,k,none⟩ hbe
 ·have hne:b≠blk:=fun e=>hl (hx l (by rw[←e];exact h))
  refine⟨by rw[ho b hne];exact h,hoth b hne,fun k hk h=>?_,by rw[hlb];exact id,by rw[hgb];exact id⟩
  rcases (hi b k).1 h with h|⟨h,_⟩
  ·exact hk h
  ·exact hne h
 ·have hne:b≠blk:=fun e=>hn (by rw[e];exact hxb (by rw[←e];exact h))
  refine⟨hoth b hne,fun k hk h=>?_,by rw[ho b hne];exact h⟩
  rcases (hi b k).1 h with h|⟨h,_⟩
  ·exact hk h
  ·exact hne h
theorem Kp.setRow {xl:Loc→Prop} {xb:Nat→Prop} {blk:Nat} {cs2:Array Value} (g:Good M w M' (w.setRow blk cs2) xl xb) (hlb:M'.lb=M.lb) (hgb:M'.gb=M.gb) (Z:Nat→Prop)
  (hi:∀b k,M'.imm b k↔M.imm b k∨(b=blk∧Z k)) (ho:∀b,b≠blk→M'.own b=M.own b) (hb:blk∈M.lb∨blk∈M.gb∨M.own blk≠none)
  (hon:M.own blk=none→M'.own blk=none) (hz:(∃k,Z k)→M.own blk≠none):Kp M w M' (w.setRow blk cs2) where
 os:=rfl
 tape:=rfl
 output:=rfl
 size:=g.size
 ext:=g.ext
 block:=fun k _ h1 h2 h3=>setRow_other w blk k cs2 (fun e=>by
  subst e
  rcases hb with h|h|h
  ·exact h1 h
  ·exact h2 h
  ·exact h h3)
 lbn:=fun k h=> .inl (by rw[←hlb];exact h)
 gbn:=fun k h=> .inl (by rw[←hgb];exact h)
 ownn:=fun k _ h=>by
  by_cases hk:k=blk
  ·subst hk;exact hon h
  ·rw[ho k hk];exact h
 immn:=fun b k h=>by
  rcases (hi b k).1 h with h|⟨h,hk⟩
  ·exact .inl h
  ·subst h;exact .inr (.inr (hz ⟨k,hk⟩))
theorem jbp {l:List Nat} (h:l.Nodup) {i j k:Nat} (h1:l[i]?=some k) (h2:l[j]?=some k):i=j:=by
 have hi:=(List.getElem?_eq_some_iff.1 h1).1
 exact (List.getElem?_inj hi h).1 (h1.trans h2.symm)
theorem jjg {s:St} {a:Act} (hI:Inv fi M w s a) {g:Bool} {b off k:Nat} {cs:List PV} {p:PV} {u v:Value} {t:TypeId} (hs:tySize P t=some k)
  (hp:RepE fi M w (.ptr g b off) u) (hc:s.cellsAt g b=some cs) (hv:RepAt fi M w Loc.lim p v) (hk:p.cells.length=k) (hle:off+k≤cs.length) (h1:argOk p=true) :
  ∃M' w',(Instr.storeAt t u v).run P w= .ok () w'∧Inv fi M' w' (s.setCells g b (spliceAt cs off p.cells)) a∧Kp M w M' w':=by
 obtain⟨blk,rfl,⟨hb1,hb2,hb3,hone,vs,T,hh,hl,hrep⟩,hat⟩:=boxAt hI hp hc
 obtain⟨us,hus,hul,hur,hu1⟩:=hv.cells h1
 have hall:∀c∈p.cells,c.one=true:=by simpa [argOk] using h1
 have hst:=run_storeCells_at P blk off T us 0 vs.toArray w hh (by simp;omega) hu1
 simp only[Nat.add_zero] at hst
 generalize hcs2:(vs.toArray.toList.take off++us++vs.toArray.toList.drop (off+us.length)).toArray=cs2 at hst
 have hcs2':cs2=(vs.take off++us++vs.drop (off+us.length)).toArray:=by rw[←hcs2]
 obtain⟨g1⟩:Nonempty (Good M w M (w.setRow blk cs2) (fun _=>False) (fun b=>b=blk)):=
  ⟨Good.setRow hh rfl rfl (fun _=>False) (by simp) (fun k h=>absurd h (hb2 k)) (fun _ _=>rfl) _ _ (fun l h=>by rw[hb3] at h;cases h) (fun _=>rfl)⟩
 have k1:Kp M w M (w.setRow blk cs2):=Kp.setRow g1 rfl rfl (fun _=>False) (by simp) (fun _ _=>rfl) (by
  cases g with
  |true=>exact .inr (.inl (List.mem_of_getElem? hat))
  |false=>exact .inl (List.mem_of_getElem? hat)) id (fun ⟨_,h⟩=>h.elim)
 have hlen2:(vs.take off++us++vs.drop (off+us.length)).length=vs.length:=jbo _ _ _ (by omega)
 let mk:Nat→Loc:=if g then Loc.gh b else Loc.lh b
 have hnd:∀i j blk',M.lb[i]?=some blk'→M.gb[j]?=some blk'→False:=fun i j blk' hi hj=>by
  have:=hI.nodup
  rw[List.nodup_append] at this
  exact this.2.2 blk' (List.mem_of_getElem? hi) blk' (List.mem_of_getElem? hj) rfl
 have hndl:M.lb.Nodup:=(List.nodup_append.1 hI.nodup).1
 have hndg:M.gb.Nodup:=(List.nodup_append.1 hI.nodup).2.1
 let f:Loc→Loc:=fromLim (fun i=>mk (off+i))
 have hnew:RepBox fi (M.rel f) (w.setRow blk cs2) mk blk (spliceAt cs off p.cells):=by
  refine⟨by rw[size_setRow'];exact hb1,hb2,by simp[Mem.rel,hb3],fun c hcm=>?_,vs.take off++us++vs.drop (off+us.length),T,by rw[setRow_heap w blk _ cs2 T (0,0) hh,hcs2'],by rw[hlen2];rw[spliceAt,jbo _ _ _ (by omega)];exact hl,fun i c x hci hxi=>?_⟩
  ·simp only[spliceAt,List.mem_append] at hcm
   rcases hcm with (hcm|hcm)|hcm
   ·exact hone c (List.mem_of_mem_take hcm)
   ·exact hall c hcm
   ·exact hone c (List.mem_of_mem_drop hcm)
  ·rw[spliceAt,jb8 _ _ _ _ (by omega)] at hci
   rw[jb8 _ _ _ _ (by omega),hul] at hxi
   have old:cs[i]?=some c→vs[i]?=some x→RepC fi (M.rel f) (w.setRow blk cs2) (mk i) c x:=fun h2 h3=>
    ((hrep i c x h2 h3).good g1 (by simp)).rel _ (by cases g<;>rfl)
   by_cases ha:i<off
   ·rw[if_pos ha] at hci hxi;exact old hci hxi
   ·rw[if_neg ha] at hci hxi
    by_cases hb:i<off+p.cells.length
    ·rw[if_pos hb] at hci hxi
     refine ((hur _ c x hci hxi).good g1 (by simp)).rel _ ?_
     show mk (off+(i-off))=mk i
     congr 1;omega
    ·rw[if_neg hb] at hci hxi;exact old hci hxi
 refine⟨M.rel f,w.setRow blk cs2,?_,?_,k1.trans (Kp.rel _ _ _)⟩
 ·have hsz:v.cells.size=k:=by rw[hus];simp[hul,hk]
  have hst':(storeCells ⟨blk,off,none⟩ v.cells.toList).run P w= .ok () (w.setRow blk cs2):=by rw[hus];exact hst
  simp[Instr.storeAt,Instr.sureAddr,storeVar,run_sizeOf' hs,hsz,hst']
 ·cases g with
  | true=>
   refine⟨fun t u hu=>⟨(hI.env t u hu).1,((hI.env t u hu).2.good g1 (by simp)).rel _ (fun _=>rfl)⟩,hI.defers,hI.lbl,by simp[St.setCells,Mem.rel,hI.gbl],hI.nodup,?_,?_,g1.ext.gl hI.gl,fun b k h=>by rw[size_setRow'];exact hI.immlt b k h,?_,fun b h=>by rw[size_setRow'];exact hI.gblt b h⟩
   ·intro i cs' blk' hi hb
    exact ((hI.lh i cs' blk' hi hb).good g1 (fun e=>by subst e;exact hnd _ _ _ hb hat) (by simp)).rel _ (fun _=>rfl)
   ·intro i o blk' hi hb
    simp only[St.setCells,if_true] at hi
    rw[List.getElem?_set] at hi
    by_cases hbi:b=i
    ·subst hbi
     simp only[if_true] at hi
     split at hi
     ·cases hi
      have:blk'=blk:=by rw[show M.gb[b]?=some blk' from hb] at hat;exact Option.some.inj hat
      subst this
      exact hnew
     ·cases hi
    ·rw[if_neg hbi] at hi
     exact ((hI.gh i o blk' hi hb).good g1 (fun e=>by subst e;exact hbi (jbp hndg hat hb)) (by simp)).rel _ (fun _=>rfl)
   ·intro b l hb
    simp only[Mem.rel,Option.map_eq_some_iff] at hb
    obtain⟨l',h2,_⟩:=hb
    rw[size_setRow'];exact hI.ownlt b l' h2
  | false=>
   refine⟨fun t u hu=>⟨(hI.env t u hu).1,((hI.env t u hu).2.good g1 (by simp)).rel _ (fun _=>rfl)⟩,hI.defers,by simp[St.setCells,Mem.rel,hI.lbl],hI.gbl,hI.nodup,?_,?_,g1.ext.gl hI.gl,fun b k h=>by rw[size_setRow'];exact hI.immlt b k h,?_,fun b h=>by rw[size_setRow'];exact hI.gblt b h⟩
   ·intro i cs' blk' hi hb
    simp only[St.setCells,Bool.false_eq_true,if_false] at hi
    rw[List.getElem?_set] at hi
    by_cases hbi:b=i
    ·subst hbi
     simp only[if_true] at hi
     split at hi
     ·cases hi
      have:blk'=blk:=by rw[show M.lb[b]?=some blk' from hb] at hat;exact Option.some.inj hat
      subst this
      exact hnew
     ·cases hi
    ·rw[if_neg hbi] at hi
     exact ((hI.lh i cs' blk' hi hb).good g1 (fun e=>by subst e;exact hbi (jbp hndl hat hb)) (by simp)).rel _ (fun _=>rfl)
   ·intro i o blk' hi hb
    exact ((hI.gh i o blk' hi hb).good g1 (fun e=>by subst e;exact hnd _ _ _ hat hb) (by simp)).rel _ (fun _=>rfl)
   ·intro b l hb
    simp only[Mem.rel,Option.map_eq_some_iff] at hb
    obtain⟨l',h2,_⟩:=hb
    rw[size_setRow'];exact hI.ownlt b l' h2
end
end Go.Lw
end

/-! Lists that grow; what is taken out of a box. -/
section
namespace Go.Lw
open Go Go.RowKit
section
variable {fi:FI} {M M':Mem} {w w':World} {P:Program}
theorem RepC.repAt {mk:Nat→Loc} {p:PV} {v:Value} (h:RepC fi M w (mk 0) p v) (h1:p.one=true):RepAt fi M w mk p v:=by
 unfold RepC at h
 split at h
 ·exact h
 ·exact h.repE.repAt
theorem jjh {s:St} {a:Act} (hI:Inv fi M w s a) {g:Bool} {b off:Nat} {cs:List PV} {p:PV} {v:Value} {t:TypeId} (ha:tyAgg P t=some false)
  (hp:RepE fi M w (.ptr g b off) v) (hc:s.cellsAt g b=some cs) (hg:cs[off]?=some p) {d:Nat} (hd:d<a.tmps.size) :
  ∃r M',(Instr.loadAt t v).run P w= .ok r w∧Inv fi M' w ((s.setCells g b (spliceAt cs off [degr1 p])).put d p) (a.put (some d) r)∧Kp M w M' w:=by
 obtain⟨blk,rfl,⟨hb1,hb2,hb3,hone,vs,T,hh,hl,hrep⟩,hat⟩:=boxAt hI hp hc
 have hlt:off<cs.length:=(List.getElem?_eq_some_iff.1 hg).1
 have hlt':off<vs.length:=by omega
 have hpone:=hone p (List.mem_of_getElem? hg)
 have hrun:=jdr (P:=P) (k:=1) ha (by simp) hh (by simpa using hlt')
 simp only[Bool.false_eq_true,if_false] at hrun
 have hu:vs.getD off undef=vs[off]:=by simp[List.getD,List.getElem?_eq_getElem hlt']
 rw[hu] at hrun
 let mk:Nat→Loc:=if g then Loc.gh b else Loc.lh b
 let f:Loc→Loc:=fun l=>if l=mk off then .lim 0 else l
 have hmk:∀i,i≠off→f (mk i)=mk i:=fun i hi=>by
  have:mk i≠mk off:=by
   show (if g then Loc.gh b else Loc.lh b) i≠(if g then Loc.gh b else Loc.lh b) off
   cases g<;>simp[hi]
  simp only[f,if_neg this]
 have henv:∀t i,f (Loc.env t i)=Loc.env t i:=fun t i=>by
  have:Loc.env t i≠mk off:=by
   show _≠(if g then Loc.gh b else Loc.lh b) off
   cases g<;>simp
  simp only[f,if_neg this]
 have hlh:∀i j,(g=true∨i≠b)→f (Loc.lh i j)=Loc.lh i j:=fun i j h=>by
  have:Loc.lh i j≠mk off:=by
   show _≠(if g then Loc.gh b else Loc.lh b) off
   cases g with
   |true=>simp
   |false=>simp at h;simp[h]
  simp only[f,if_neg this]
 have hgh:∀i j,(g=false∨i≠b)→f (Loc.gh i j)=Loc.gh i j:=fun i j h=>by
  have:Loc.gh i j≠mk off:=by
   show _≠(if g then Loc.gh b else Loc.lh b) off
   cases g with
   |false=>simp
   |true=>simp at h;simp[h]
  simp only[f,if_neg this]
 have hd1:(degr1 p).one=true:=by cases p<;>first|rfl|exact hpone
 have hnew:RepBox fi (M.rel f) w mk blk (spliceAt cs off [degr1 p]):=by
  refine⟨hb1,hb2,by simp[Mem.rel,hb3],fun c hcm=>?_,vs,T,hh,by rw[spliceAt,jbo _ _ _ (by simp;omega)];exact hl,fun i c x hci hxi=>?_⟩
  ·simp only[spliceAt,List.mem_append,List.mem_singleton] at hcm
   rcases hcm with (hcm|hcm)|hcm
   ·exact hone c (List.mem_of_mem_take hcm)
   ·subst hcm;exact hd1
   ·exact hone c (List.mem_of_mem_drop hcm)
  ·rw[spliceAt,jb8 _ _ _ _ (by simp;omega)] at hci
   by_cases hio:i=off
   ·subst hio
    simp at hci
    subst hci
    exact ((hrep i p x hg hxi).degr1.mono (Ext.rel M w f)).repC
   ·refine (hrep i c x ?_ hxi).rel f (hmk i hio)
    split at hci
    ·exact hci
    ·split at hci
     ·rename_i h1 h2;simp at h2;omega
     ·exact hci
 have hval:RepAt fi (M.rel f) w Loc.lim p vs[off]:=by
  refine RepC.repAt ?_ hpone
  exact (hrep off p _ hg (List.getElem?_eq_getElem hlt')).rel f (by
   show f ((if g then Loc.gh b else Loc.lh b) off)=_
   simp only[f,mk,if_true])
 have hnd:∀i j blk',M.lb[i]?=some blk'→M.gb[j]?=some blk'→False:=fun i j blk' hi hj=>by
  have:=hI.nodup
  rw[List.nodup_append] at this
  exact this.2.2 blk' (List.mem_of_getElem? hi) blk' (List.mem_of_getElem? hj) rfl
 have hown:∀b l,(M.rel f).own b=some l→b<w.heap.size:=fun b l hb=>by
  simp only[Mem.rel,Option.map_eq_some_iff] at hb
  obtain⟨l',h2,_⟩:=hb
  exact hI.ownlt b l' h2
 have hI1:Inv fi (M.rel f) w (s.setCells g b (spliceAt cs off [degr1 p])) a:=by
  cases g with
  | true=>
   refine⟨fun t u hu=>⟨(hI.env t u hu).1,(hI.env t u hu).2.rel _ (henv t)⟩,hI.defers,hI.lbl,by simp[St.setCells,Mem.rel,hI.gbl],hI.nodup,?_,?_,hI.gl,hI.immlt,hown,hI.gblt⟩
   ·exact fun i cs' blk' hi hb=>(hI.lh i cs' blk' hi hb).rel _ (fun j=>hlh i j (.inl rfl))
   ·intro i o blk' hi hb
    simp only[St.setCells,if_true] at hi
    rw[List.getElem?_set] at hi
    by_cases hbi:b=i
    ·subst hbi
     simp only[if_true] at hi
     split at hi
     ·cases hi
      have:blk'=blk:=by rw[show M.gb[b]?=some blk' from hb] at hat;exact Option.some.inj hat
      subst this
      exact hnew
     ·cases hi
    ·rw[if_neg hbi] at hi
     exact (hI.gh i o blk' hi hb).rel _ (fun j=>hgh i j (.inr (Ne.symm hbi)))
  | false=>
   refine⟨fun t u hu=>⟨(hI.env t u hu).1,(hI.env t u hu).2.rel _ (henv t)⟩,hI.defers,by simp[St.setCells,Mem.rel,hI.lbl],hI.gbl,hI.nodup,?_,?_,hI.gl,hI.immlt,hown,hI.gblt⟩
   ·intro i cs' blk' hi hb
    simp only[St.setCells,Bool.false_eq_true,if_false] at hi
    rw[List.getElem?_set] at hi
    by_cases hbi:b=i
    ·subst hbi
     simp only[if_true] at hi
     split at hi
     ·cases hi
      have:blk'=blk:=by rw[show M.lb[b]?=some blk' from hb] at hat;exact Option.some.inj hat
      subst this
      exact hnew
     ·cases hi
    ·rw[if_neg hbi] at hi
     exact (hI.lh i cs' blk' hi hb).rel _ (fun j=>hlh i j (.inr (Ne.symm hbi)))
   ·exact fun i o blk' hi hb=>(hI.gh i o blk' hi hb).rel _ (fun j=>hgh i j (.inl rfl))
 obtain⟨h2,k2⟩:=hI1.putLim hd hval
 exact⟨vs[off],_,by simp only[Instr.loadAt,Instr.sureAddr];simp[hrun],h2,(Kp.rel M w f).trans k2⟩
theorem jfj {z:Nat} {xs:List PV} {v:Value} (hz0:0<z) (h:RepP fi M w (.sl false z xs) v) :
  ∃(A:Option Addr) (c b o:Nat) (us:List Value),v= .slice A xs.length c∧xs.length≤c∧us.length=xs.length*z∧(xs=[]∨A=some ⟨b,o,none⟩)∧(∀e∈xs,e.cells.length=z)∧(∀e∈xs,argOk e=true)∧
   (∀(j:Nat) (u:Value),us[j]?=some u→M.imm b (o+j)∧w.cell? ⟨b,o+j,none⟩=some u∧u.oneCell'=true)∧
   (∀(i:Nat) (e:PV) (j:Nat) (p:PV),xs[i]?=some e→e.cells[j]?=some p→∃u,us[i*z+j]?=some u∧RepP fi M w p u):=by
 cases h with
 | sl _ _ A c b o vf hA hc hz h1 hm hr=>
  refine⟨A,c,b,o,(List.range (xs.length*z)).map vf,rfl,hc,by simp,hA,hz,h1,fun j u hu=>?_,fun i e j p he hp=>?_⟩
  ·simp only[List.getElem?_map,Option.map_eq_some_iff,List.getElem?_eq_some_iff,List.length_range,List.getElem_range] at hu
   obtain⟨_,⟨hlt,rfl⟩,rfl⟩:=hu
   have hi:j/z<xs.length:=by rw[Nat.div_lt_iff_lt_mul hz0];exact hlt
   have he:=List.getElem?_eq_getElem hi
   have hl:=hz _ (List.getElem_mem hi)
   have hj:j%z<(xs[j/z]).cells.length:=by rw[hl];exact Nat.mod_lt _ hz0
   have hp:=List.getElem?_eq_getElem hj
   have e:j/z*z+j%z=j:=by rw[Nat.mul_comm];exact Nat.div_add_mod j z
   have h2:=hm _ _ _ _ he hp
   have h3:=hr _ _ _ _ he hp
   rw[e] at h2 h3
   refine⟨h2.1,h2.2,(h3.cells1 ?_).2⟩
   have:=h1 _ (List.getElem_mem hi)
   simp only[argOk,List.all_eq_true] at this
   exact this _ (List.getElem_mem hj)
  ·have hl:=hz _ (List.mem_of_getElem? he)
   have hj:=(List.getElem?_eq_some_iff.1 hp).1
   have hi:=(List.getElem?_eq_some_iff.1 he).1
   have hlt:i*z+j<xs.length*z:=by
    have:(i+1)*z≤xs.length*z:=Nat.mul_le_mul_right z hi
    rw[Nat.add_mul] at this;omega
   exact⟨vf (i*z+j),by simp[hlt],hr _ _ _ _ he hp⟩
theorem jji {t ty e:TypeId} {i:TypeInfo} (ht:P.underlying t=some (.slice e)) (hi:P.info? e=some i) (A A2:Option Addr) (n c c2:Nat) (hn:n≤c) (w:World) :
  (Builtin.append_ #[t,t] ty #[.slice A n c,.slice A2 0 c2]).run P w= .ok (.slice A n c) w:=by
 cases A<;>cases A2<;>simp[Builtin.append_,run_underlying ht,sizeOf,typeInfo,hi,Builtin.lenOf,Builtin.firstCells,hn,storeCells,loadCells,loadCellsFrom]
theorem jjj {t ty e e':TypeId} {i:TypeInfo} (ht:P.underlying t=some (.slice e)) (hi:P.info? e=some i)
  (b o n c:Nat) (cur:Array Value) (hg:w.heap[b]?=some (.cells cur e' (0,0))) (ad:Addr) (m c2:Nat) (news:List Value) (hl:news.length=m*i.size)
  (hnews:∀j u,news[j]?=some u→w.cell? (ad.add j)=some u) (h1:∀u∈news,u.oneCell'=true) (hroom:n+m≤c) (hfit:o+n*i.size+news.length≤cur.size) :
  (Builtin.append_ #[t,t] ty #[.slice (some ⟨b,o,none⟩) n c,.slice (some ad) m c2]).run P w=
   .ok (.slice (some ⟨b,o,none⟩) (n+m) c) (w.setRow b (cur.toList.take (o+n*i.size)++news++cur.toList.drop (o+n*i.size+news.length)).toArray):=by
 have hf:=run_firstCells_some (P:=P) w i.size m ad m c2 news hl hnews
 have hst:=run_storeCells_at P b (o+n*i.size) e' news 0 cur w hg (by simpa using hfit) h1
 simp only[Nat.add_zero] at hst
 simp[Builtin.append_,run_underlying ht,sizeOf,typeInfo,hi,Builtin.lenOf,hroom,hf,jaz,hst]
theorem jjk {s:St} {a:Act} (hI:Inv fi M w s a) {t ty e:TypeId} {i:TypeInfo} {zv:Value} (ht:P.underlying t=some (.slice e)) (hi:P.info? e=some i) (hzv:i.zero=some zv)
  (hzs:zv.cells.size=i.size) (hz0:0<i.size) (hb0:0<i.bytes) {xs ys:List PV} {v:Value} (hv:OwnRep fi M w (Loc.lim 0) i.size xs v)
  {A2:Option Addr} {c2 b2 o2:Nat} {us2:List Value} (hc2:ys.length≤c2) (hul2:us2.length=ys.length*i.size) (hA2:ys=[]∨A2=some ⟨b2,o2,none⟩) (hzy:∀e∈ys,e.cells.length=i.size) (h1y:∀e∈ys,argOk e=true)
  (huy:∀(j:Nat) (u:Value),us2[j]?=some u→True∧w.cell? ⟨b2,o2+j,none⟩=some u∧u.oneCell'=true)
  (hry:∀(k:Nat) (e:PV) (j:Nat) (p:PV),ys[k]?=some e→e.cells[j]?=some p→∃u,us2[k*i.size+j]?=some u∧RepP fi M w p u)
  (hbd:(xs.length+ys.length)*i.bytes≤maxBytes) {d:Nat} (hd:d<a.tmps.size) :
  ∃r M' w',(Builtin.append_ #[t,t] ty #[v,.slice A2 ys.length c2]).run P w= .ok r w'∧Inv fi M' w' (s.put d (.sl true i.size (xs++ys))) (a.put (some d) r)∧Kp M w M' w':=by
 obtain⟨A,c,b,o,us,rfl,hc,hul,hA,hzx,h1x,hux,hrx⟩:=jfj hz0 hv.1
 by_cases hy:ys=[]
 ·subst hy
  rw[List.append_nil]
  obtain⟨h2,k2⟩:=hI.putLim hd (p:= .sl true i.size xs) (v:= .slice A xs.length c) hv
  exact⟨_,_,w,jji ht hi A A2 _ _ _ hc w,h2,k2⟩
 ·have hA2':=hA2.resolve_left hy
  subst hA2'
  have hm0:0<ys.length:=List.length_pos_iff.2 hy
  have hneed:(xs.length+ys.length)*i.bytes≤140737488355328:=hbd
  have h63:((xs.length+ys.length:Nat):Int)≤9223372036854775807:=by
   have:(xs.length+ys.length)*1≤(xs.length+ys.length)*i.bytes:=Nat.mul_le_mul_left _ hb0
   omega
  have hnews:∀(j:Nat) (u:Value),us2[j]?=some u→w.cell? ((⟨b2,o2,none⟩:Addr).add j)=some u:=fun j u hu=>by rw[jaz];exact (huy j u hu).2.1
  have hzxy:∀e∈xs++ys,e.cells.length=i.size:=fun e he=>by
   rcases List.mem_append.1 he with h|h
   ·exact hzx e h
   ·exact hzy e h
  have h1xy:∀e∈xs++ys,argOk e=true:=fun e he=>by
   rcases List.mem_append.1 he with h|h
   ·exact h1x e h
   ·exact h1y e h
  have hcomb:∀(k:Nat) (e:PV) (j:Nat) (p:PV),(xs++ys)[k]?=some e→e.cells[j]?=some p→∃u,(us++us2)[k*i.size+j]?=some u∧RepP fi M w p u:=by
   intro k e j p he hp
   by_cases hk:k<xs.length
   ·rw[List.getElem?_append_left hk] at he
    obtain⟨u,hu,hr⟩:=hrx k e j p he hp
    exact⟨u,by rw[List.getElem?_append_left (List.getElem?_eq_some_iff.1 hu).1];exact hu,hr⟩
   ·rw[List.getElem?_append_right (by omega)] at he
    obtain⟨u,hu,hr⟩:=hry _ e j p he hp
    refine⟨u,?_,hr⟩
    have:us.length≤k*i.size+j:=by
     rw[hul]
     have:=Nat.mul_le_mul_right i.size (show xs.length≤k by omega)
     omega
    rw[List.getElem?_append_right this,←hu]
    congr 1
    rw[hul,Nat.sub_mul]
    have:=Nat.mul_le_mul_right i.size (show xs.length≤k by omega)
    omega
  have grown:∀oc,xs.length+ys.length≤grownCap w (xs.length+ys.length) oc e→
    (Builtin.append_ #[t,t] ty #[.slice A xs.length c,.slice (some ⟨b2,o2,none⟩) ys.length c2]).run P w=
     .ok (.slice (some ⟨w.heap.size,0,none⟩) (xs.length+ys.length) (grownCap w (xs.length+ys.length) oc e))
      (w.drew.alloc (.cells ((us++us2)++(Builtin.zeroCells zv.cells (grownCap w (xs.length+ys.length) oc e-(xs.length+ys.length))).toList).toArray e))→
    ∃r M' w',(Builtin.append_ #[t,t] ty #[.slice A xs.length c,.slice (some ⟨b2,o2,none⟩) ys.length c2]).run P w= .ok r w'∧Inv fi M' w' (s.put d (.sl true i.size (xs++ys))) (a.put (some d) r)∧Kp M w M' w':=by
   intro oc hge hrun
   obtain⟨hI1,k1⟩:=hI.drew
   have hzl:∀n,(Builtin.zeroCells zv.cells n).toList.length=n*i.size:=fun n=>by rw[Array.length_toList,size_zeroCells,hzs]
   obtain⟨M',hI2,k2⟩:=Inv.newOwn hI1 hd hzxy h1xy (us++us2) (Builtin.zeroCells zv.cells (grownCap w (xs.length+ys.length) oc e-(xs.length+ys.length))).toList
    (by rw[List.length_append,List.length_append,hul,hul2,Nat.add_mul]) (fun k e j p he hp=>by
     obtain⟨u,hu,hr⟩:=hcomb k e j p he hp
     exact⟨u,hu,hr.mono k1.ext⟩)
    (grownCap w (xs.length+ys.length) oc e) (by rw[List.length_append];exact hge) (by
     rw[List.length_append,hul,hul2,hzl,←Nat.add_mul,←Nat.add_mul]
     exact Nat.mul_le_mul_right _ (by omega)) e _ rfl
   refine⟨_,M',_,hrun,?_,k1.trans k2⟩
   rw[List.length_append] at hI2
   exact hI2
  rcases hv.2 with hnil|⟨b',o',c',cs,T,hv',hown,hh,hcap,hfr,hnl,hng⟩
  ·injection hnil with e1 e2 e3
   subst e1
   have hxs:xs=[]:=List.eq_nil_of_length_eq_zero e2
   subst hxs;subst e3
   simp only[List.length_nil,Nat.zero_add] at *
   have hus:us=[]:=List.eq_nil_of_length_eq_zero (by simpa using hul)
   subst hus
   refine grown 0 (grownCap_ge _ _ _ _) ?_
   have:=run_append_nil (P:=P) w t ty e i zv ht hi hzv ⟨b2,o2,none⟩ ys.length c2 us2 hul2 hnews hm0 (by omega) (by omega)
   rw[this]
   have hae:∀(l:List Value) (x:Array Value),l.toArray++x=(l++x.toList).toArray:=fun l x=>by apply Array.ext';simp
   simp[hae]
  ·injection hv' with e1 e2 e3
   subst e3;subst e1
   have hbo:xs=[]∨(b=b'∧o=o'):=hA.imp id fun h=>by
    have:=Option.some.inj h
    injection this with h1 h2
    exact⟨h1.symm,h2.symm⟩
   have holds:∀(j:Nat) (u:Value),us[j]?=some u→w.cell? ((⟨b',o',none⟩:Addr).add j)=some u:=fun j u hu=>by
    rcases hbo with h|⟨h2,h3⟩
    ·subst h;simp at hul;subst hul;simp at hu
    ·subst h2;subst h3;rw[jaz];exact (hux j u hu).2.1
   by_cases hroom:xs.length+ys.length≤c
   ·have hfit:o'+xs.length*i.size+us2.length≤cs.size:=by
     rw[hul2,Nat.add_assoc,←Nat.add_mul]
     have:=Nat.mul_le_mul_right i.size hroom
     omega
    have hrun:=jjj (P:=P) (ty:=ty) ht hi b' o' xs.length c cs hh ⟨b2,o2,none⟩ ys.length c2 us2 hul2 hnews (fun u hu=>by
     obtain⟨j,hj,hx⟩:=List.mem_iff_getElem.1 hu
     exact (huy j u (by rw[List.getElem?_eq_getElem hj,hx])).2.2) hroom hfit
    generalize hcs2:(cs.toList.take (o'+xs.length*i.size)++us2++cs.toList.drop (o'+xs.length*i.size+us2.length))=cs2 at hrun
    have hget:∀k,cs2[k]?=if k<o'+xs.length*i.size then cs[k]? else if k<o'+xs.length*i.size+us2.length then us2[k-(o'+xs.length*i.size)]? else cs[k]?:=fun k=>by
     rw[←hcs2,jb8 _ _ _ _ (by simpa using hfit)];simp
    have hlen2:cs2.length=cs.size:=by rw[←hcs2,jbo _ _ _ (by simpa using hfit)];simp
    let Z:Nat→Prop:=fun k=>o'+xs.length*i.size≤k∧k<o'+(xs.length+ys.length)*i.size
    let M1:Mem:={M with imm:=fun b k=>M.imm b k∨(b=b'∧Z k),own:=fun b=>if b=b' then some (Loc.env d 0) else M.own b }
    have hkeep:∀k,M.imm b' k→cs2.toArray[k]?=cs[k]?:=fun k hk=>by
     have hlt:k<o'+xs.length*i.size:=by
      rcases Nat.lt_or_ge k (o'+xs.length*i.size) with h|h
      ·exact h
      ·exact absurd hk (hfr k h)
     rw[List.getElem?_toArray,hget,if_pos hlt]
    have g1:Good M w M1 (w.setRow b' cs2.toArray) (fun l=>l=Loc.lim 0) (fun _=>False):=
     Good.setRow (M:=M) (M':=M1) hh rfl rfl Z (fun _ _=>Iff.rfl) hkeep (fun b hb=>by simp[M1,hb]) _ _ (fun l h=>by rw[hown] at h;cases h;rfl) (fun h=>by rw[hown] at h;cases h)
    have k1:Kp M w M1 (w.setRow b' cs2.toArray):=Kp.setRow g1 rfl rfl Z (fun _ _=>Iff.rfl) (fun b hb=>by simp[M1,hb]) (.inr (.inr (by rw[hown];simp))) (fun h=>by rw[hown] at h;cases h) (fun _=>by rw[hown];simp)
    have hb'lt:b'<w.heap.size:=hI.ownlt b' _ hown
    have hI1:Inv fi M1 (w.setRow b' cs2.toArray) s a:=by
     refine⟨fun t u hu=>⟨(hI.env t u hu).1,(hI.env t u hu).2.good g1 (by simp)⟩,hI.defers,hI.lbl,hI.gbl,hI.nodup,fun i cs blk h1 h2=>(hI.lh i cs blk h1 h2).good g1 (by simp) (by simp),
      fun i o blk h1 h2=>(hI.gh i o blk h1 h2).good g1 (by simp) (by simp),g1.ext.gl hI.gl,fun b k hb=>?_,fun b l hb=>?_,fun b hb=>by rw[size_setRow'];exact hI.gblt b hb⟩
     ·rw[size_setRow']
      rcases hb with hb|⟨hb,_⟩
      ·exact hI.immlt b k hb
      ·subst hb;exact hb'lt
     ·rw[size_setRow']
      simp only[M1] at hb
      split at hb
      ·rename_i hbe;subst hbe;exact hb'lt
      ·exact hI.ownlt b l hb
    have hcell:∀k,(w.setRow b' cs2.toArray).cell? ⟨b',k,none⟩=cs2[k]?:=fun k=>by rw[cell_setRow_same w b' k cs _ T (0,0) hh];simp
    have hall:∀(j:Nat) (u:Value),(us++us2)[j]?=some u→M1.imm b' (o'+j)∧(w.setRow b' cs2.toArray).cell? ⟨b',o'+j,none⟩=some u:=by
     intro j u hu
     rw[hcell,hget]
     by_cases hj:j<us.length
     ·rw[List.getElem?_append_left hj] at hu
      rcases hbo with h|⟨h2,h3⟩
      ·subst h;simp at hul;rw[hul] at hj;simp at hj
      ·subst h2;subst h3
       have:=hux j u hu
       refine⟨.inl this.1,?_⟩
       rw[if_pos (by omega)]
       have h4:=this.2.1
       rw[cell_of_row w b _ cs T (0,0) hh] at h4
       exact h4
     ·rw[List.getElem?_append_right (by omega)] at hu
      have hj2:=(List.getElem?_eq_some_iff.1 hu).1
      rw[hul2] at hj2
      have hmul:(xs.length+ys.length)*i.size=xs.length*i.size+ys.length*i.size:=Nat.add_mul _ _ _
      refine⟨.inr ⟨rfl,by omega,by omega⟩,?_⟩
      rw[if_neg (by omega),if_pos (by omega),←hu]
      congr 1;omega
    refine⟨_,M1,_,hrun,hI1.put hd ?_,k1⟩
    show OwnRep fi M1 _ (Loc.env d 0) i.size (xs++ys) _
    refine⟨?_,.inr ⟨b',o',c,cs2.toArray,T,by rw[List.length_append],by simp[M1],by rw[setRow_heap w b' _ _ T (0,0) hh],by simp[hlen2];exact hcap,fun k hk h=>?_,hnl,hng⟩⟩
    ·have hl:=List.length_append (as:=xs) (bs:=ys)
     rw[←hl]
     refine RepP.sl i.size (xs++ys) _ c b' o' (fun j=>(us++us2).getD j undef) (.inr rfl) (by rw[hl];exact hroom) hzxy h1xy (fun k e j p he hp=>?_) (fun k e j p he hp=>?_)
     ·obtain⟨u,hu,_⟩:=hcomb k e j p he hp
      obtain⟨h3,h4⟩:=hall _ u hu
      exact⟨h3,by rw[h4];simp[List.getD,hu]⟩
     ·obtain⟨u,hu,hr⟩:=hcomb k e j p he hp
      simp only[List.getD,hu,Option.getD_some]
      exact hr.mono g1.ext
    ·rw[List.length_append] at hk
     rcases h with h|⟨_,h⟩
     ·exact hfr k (by have:=Nat.mul_le_mul_right i.size (Nat.le_add_right xs.length ys.length);omega) h
     ·have:=h.2;omega
   ·refine grown c (grownCap_ge _ _ _ _) ?_
    have:=run_append_grow (P:=P) w t ty e i zv ht hi hzv ⟨b',o',none⟩ xs.length c us hul holds ⟨b2,o2,none⟩ ys.length c2 us2 hul2 hnews (by omega) h63 (growslice_fits (by omega) hneed)
    rw[this]
    have hae:∀(l:List Value) (x:Array Value),l.toArray++x=(l++x.toList).toArray:=fun l x=>by apply Array.ext';simp
    simp[hae]
theorem jjl {s:St} {a:Act} (hI:Inv fi M w s a) {t ty e:TypeId} {i:TypeInfo} {zv:Value} {z bytes:Nat} (ht:P.underlying t=some (.slice e)) (hi:P.info? e=some i) (hzv:i.zero=some zv)
  (hsz:i.size=z) (hby:i.bytes=bytes) (hzs:zv.cells.size=z) (hz0:0<z) (hb0:0<bytes) {xs ys:List PV} {v x:Value} (hv:OwnRep fi M w (Loc.lim 0) z xs v)
  (hx:RepP fi M w (.sl false z ys) x) (hbd:(xs.length+ys.length)*bytes≤maxBytes) {d:Nat} (hd:d<a.tmps.size) :
  ∃r M' w',(Builtin.append_ #[t,t] ty #[v,x]).run P w= .ok r w'∧Inv fi M' w' (s.put d (.sl true z (xs++ys))) (a.put (some d) r)∧Kp M w M' w':=by
 subst hsz;subst hby
 obtain⟨A2,c2,b2,o2,us2,rfl,hc2,hul2,hA2,hzy,h1y,huy,hry⟩:=jfj hz0 hx
 exact jjk hI ht hi hzv hzs hz0 hb0 hv hc2 hul2 hA2 hzy h1y (fun j u hu=>⟨trivial,(huy j u hu).2⟩) hry hbd hd
end
end Go.Lw
end

/-! '==' on rows of numbers and bools; maps with such keys. -/
section
namespace Go.Lw
open Go Go.RowKit
def kindT (P:Program) (t:TypeId) (b:Bool):Bool:=
 match P.underlying t with
 |some (.int _)=> !b
 |some .bool=>b
 |_=>false
def flatFields (P:Program):Nat→List Field→List Bool→Bool
 |_,[],[]=>true
 | n, f :: l, b :: r => f.name != "_" && f.offset == n && kindT P f.type b && flatFields P (n + 1) l r
 |_,_,_=>false
def flatT (P:Program) (t:TypeId) (ks:List Bool):Bool:=
 match P.underlying t with
 |some (.struct fs)=>flatFields P 0 fs.toList ks&& !P.stoodInHeld t
 |some (.array m e)=>ks.all (fun b=>kindT P e b)&&m==ks.length&&tySize P e==some 1
 |_=>false
section
variable {fi:FI} {M M':Mem} {w w':World} {P:Program}
theorem jjm {t:TypeId} {b:Bool} (h:kindT P t b=true):tyAgg P t=some false:=by
 unfold kindT at h
 unfold tyAgg
 split at h<;>first|(rename_i hu;rw[hu])|cases h
theorem jc1 {t:TypeId} {b:Bool} (h:kindT P t b=true) {xs:Array Value} {off:Nat} {v:Value} (hv:xs[off]?=some v) (w:World):(part t xs off).run P w= .ok v w:=by
 simp[part,jbc (jjm h),hv]
theorem jfk {t:TypeId} {b:Bool} (h:kindT P t b=true) {p q:PV} {u v:Value} {r:Bool} (hs:sameCell b p q=some r) (hp:RepP fi M w p u) (hq:RepP fi M w q v) (d:Nat) (w':World) :
  (Op.equalIn (d+1) t u v).run P w'= .ok r w':=by
 unfold sameCell at hs
 split at hs
 ·split at hs
  ·rename_i hk
   subst hk;cases hs
   cases hp;cases hq
   unfold kindT at h
   split at h
   ·rename_i hu;exact run_equalIn_int w' d t _ _ _ _ hu
   ·cases h
   ·cases h
  ·cases hs
 ·cases hs
  cases hp;cases hq
  unfold kindT at h
  split at h
  ·cases h
  ·rename_i hu;exact run_equalIn_bool w' d t _ _ hu
  ·cases h
 ·cases hs
theorem jjn {us vs:List Value} {r:Bool} (d:Nat) (w':World):∀(n:Nat) (fs:List Field) (ks:List Bool) (a b:List PV),flatFields P n fs ks=true→flatEq ks a b=some r→
  (∀(i:Nat) (c:PV),a[i]?=some c→∃u,us[n+i]?=some u∧RepP fi M w c u)→(∀(i:Nat) (c:PV),b[i]?=some c→∃u,vs[n+i]?=some u∧RepP fi M w c u)→
  (Op.eqFields (d+1) us.toArray vs.toArray fs).run P w'= .ok r w':=by
 intro n fs
 induction fs generalizing n with
 | nil=>
  intro ks a b hf he _ _
  cases ks with
  |nil=>
   cases a<;>cases b<;>simp[flatEq] at he
   subst he;simp[Op.eqFields]
  |cons=>simp[flatFields] at hf
 | cons f fs ih=>
  intro ks a b hf he ha hb
  cases ks with
  |nil=>simp[flatFields] at hf
  | cons k ks=>
   simp only[flatFields,Bool.and_eq_true,bne_iff_ne,ne_eq,beq_iff_eq] at hf
   obtain⟨⟨⟨h1,h2⟩,h3⟩,h4⟩:=hf
   cases a with
   |nil=>simp[flatEq] at he
   | cons x a=>
    cases b with
    |nil=>simp[flatEq] at he
    | cons y b=>
     simp only[flatEq] at he
     obtain⟨u,hu,hru⟩:=ha 0 x (by simp)
     obtain⟨v,hv,hrv⟩:=hb 0 y (by simp)
     have p1:=jc1 (P:=P) h3 (xs:=us.toArray) (off:=f.offset) (v:=u) (by rw[h2];simpa using hu)
     have p2:=jc1 (P:=P) h3 (xs:=vs.toArray) (off:=f.offset) (v:=v) (by rw[h2];simpa using hv)
     cases hs:sameCell k x y with
     |none=>simp[hs] at he
     | some q=>
      have p3:=jfk (P:=P) h3 hs hru hrv d
      rw[hs] at he
      cases q with
      |false=>simp at he;subst he;simp[Op.eqFields,h1,p1,p2,p3]
      | true=>
       simp only at he
       have:=ih (n+1) ks a b h4 he (fun i c hc=>by have:=ha (i+1) c (by simpa using hc);rwa [show n+(i+1)=n+1+i by omega] at this)
        (fun i c hc=>by have:=hb (i+1) c (by simpa using hc);rwa [show n+(i+1)=n+1+i by omega] at this)
       simp[Op.eqFields,h1,p1,p2,p3,this]
theorem jfl {t:TypeId} {ks:List Bool} {a b:List PV} {us vs:List Value} {r:Bool} (hf:flatT P t ks=true) (he:flatEq ks a b=some r) (hu:us.length=a.length) (hv:vs.length=b.length)
  (ha:∀(i:Nat) (c:PV) (u:Value),a[i]?=some c→us[i]?=some u→RepP fi M w c u) (hb:∀(i:Nat) (c:PV) (u:Value),b[i]?=some c→vs[i]?=some u→RepP fi M w c u) (d:Nat) (w':World) :
  (Op.equalIn (d+2) t (.agg us.toArray) (.agg vs.toArray)).run P w'= .ok r w':=by
 have ha':∀(i:Nat) (c:PV),a[i]?=some c→∃u,us[0+i]?=some u∧RepP fi M w c u:=fun i c hc=>by
  have hi:=(List.getElem?_eq_some_iff.1 hc).1
  exact⟨us[i],by rw[Nat.zero_add];exact List.getElem?_eq_getElem (by omega),ha i c _ hc (List.getElem?_eq_getElem (by omega))⟩
 have hb':∀(i:Nat) (c:PV),b[i]?=some c→∃u,vs[0+i]?=some u∧RepP fi M w c u:=fun i c hc=>by
  have hi:=(List.getElem?_eq_some_iff.1 hc).1
  exact⟨vs[i],by rw[Nat.zero_add];exact List.getElem?_eq_getElem (by omega),hb i c _ hc (List.getElem?_eq_getElem (by omega))⟩
 unfold flatT at hf
 split at hf
 ·rename_i fs hfs
  simp only[Bool.and_eq_true,Bool.not_eq_true'] at hf
  have hF:P.fieldsOf t=fs:=by simp[Program.fieldsOf,hfs]
  rw[run_equalIn_struct w' (d+1) t _ _ (by rw[hF];exact hfs) hf.2,hF]
  exact jjn d w' 0 fs.toList ks a b hf.1 he ha' hb'
 ·rename_i m e hte
  simp only[Bool.and_eq_true,beq_iff_eq] at hf
  obtain⟨⟨h1,h2⟩,h3⟩:=hf
  subst h2
  rw[show d+2=(d+1)+1 from rfl,Op.equalIn]
  simp only[Sem.run_bind,run_underlying hte,Result.andThen_ok,run_sizeOf' h3,Std.Legacy.Range.forIn_eq_forIn_range',Std.Legacy.Range.size,Nat.sub_zero,Nat.add_one_sub_one,Nat.div_one]
  clear ha hb hu hv hte
  generalize (0:Nat)=n at ha' hb' ⊢
  induction ks generalizing n a b with
  |nil=>
   cases a<;>cases b<;>simp[flatEq] at he
   subst he;simp
  | cons k ks ih=>
   simp only[List.all_cons,Bool.and_eq_true] at h1
   cases a with
   |nil=>simp[flatEq] at he
   | cons x a=>
    cases b with
    |nil=>simp[flatEq] at he
    | cons y b=>
     simp only[flatEq] at he
     obtain⟨u,hu,hru⟩:=ha' 0 x (by simp)
     obtain⟨v,hv,hrv⟩:=hb' 0 y (by simp)
     have p1:=jc1 (P:=P) h1.1 (xs:=us.toArray) (off:=n*1) (v:=u) (by simpa using hu)
     have p2:=jc1 (P:=P) h1.1 (xs:=vs.toArray) (off:=n*1) (v:=v) (by simpa using hv)
     cases hs:sameCell k x y with
     |none=>simp[hs] at he
     | some q=>
      have p3:=jfk (P:=P) h1.1 hs hru hrv d
      rw[hs] at he
      cases q with
      |false=>simp at he;subst he;simp only[List.length_cons,List.range'_succ,List.forIn_cons];simp only[Sem.run_bind,p1,p2,p3,Result.andThen_ok];simp
      | true=>
       simp only at he
       have:=ih (a:=a) (b:=b) (n:=n+1) he h1.2 (fun i c hc=>by have:=ha' (i+1) c (by simpa using hc);rwa [show n+(i+1)=n+1+i by omega] at this)
        (fun i c hc=>by have:=hb' (i+1) c (by simpa using hc);rwa [show n+(i+1)=n+1+i by omega] at this)
       simp only[List.length_cons,List.range'_succ,List.forIn_cons]
       simp only[Sem.run_bind,p1,p2,p3,Result.andThen_ok,Bool.not_true,Bool.false_eq_true,if_false,Sem.run_pure]
       exact this
 ·cases hf
end
end Go.Lw
end

/-! Maps. -/
section
namespace Go.Lw
open Go Go.RowKit
def keyT (P:Program) (t:TypeId) (kn:Nat):Bool:=
 match P.underlying t with
 |some (.int _)=>kn==0
 |some (.array _ _)=>kn !=0&&flatT P t (List.replicate kn false)
 |_=>false
def midx (kn:Nat):List (PV×PV)→PV→Option (Option Nat)
 |[],_=>some none
 |(a,_)::l,k=>match sameKey kn k a with
  |some true=>some (some 0)
  |some false=>(midx kn l k).map fun r=>r.map (· +1)
  |none=>none
section
variable {fi:FI} {M M':Mem} {w w':World} {P:Program}
theorem jjo {kn:Nat} {k:PV}:∀{es:List (PV×PV)} {r:Option PV},mfind kn es k=some r→
  (r=none∧midx kn es k=some none)∨∃i e,midx kn es k=some (some i)∧es[i]?=some e∧r=some e.2:=by
 intro es
 induction es with
 |nil=>intro r h;simp[mfind] at h;subst h;exact .inl ⟨rfl,rfl⟩
 | cons x l ih=>
  intro r h
  obtain⟨a,v⟩:=x
  simp only[mfind,midx] at *
  cases hs:sameKey kn k a with
  |none=>simp[hs] at h
  | some q=>
   rw[hs] at h
   cases q with
   |true=>simp at h;subst h;exact .inr ⟨0,(a,v),rfl,rfl,rfl⟩
   |false=>
    simp only at h
    rcases ih h with ⟨h1,h2⟩|⟨i,e,h1,h2,h3⟩
    ·exact .inl ⟨h1,by simp[h2]⟩
    ·exact .inr ⟨i+1,e,by simp[h1],by simpa using h2,h3⟩
theorem jjp {kn:Nat} {k v:PV}:∀{es es':List (PV×PV)},mset kn es k v=some es'→
  (midx kn es k=some none∧es'=es++[(k,v)])∨∃i e,midx kn es k=some (some i)∧es[i]?=some e∧sameKey kn k e.1=some true∧es'=es.set i (k,v):=by
 intro es
 induction es with
 |nil=>intro es' h;simp[mset] at h;subst h;exact .inl ⟨rfl,rfl⟩
 | cons x l ih=>
  intro es' h
  obtain⟨a,u⟩:=x
  simp only[mset,midx] at *
  cases hs:sameKey kn k a with
  |none=>simp[hs] at h
  | some q=>
   rw[hs] at h
   cases q with
   |true=>simp at h;subst h;exact .inr ⟨0,(a,u),rfl,rfl,hs,rfl⟩
   |false=>
    simp only[Option.map_eq_some_iff] at h
    obtain⟨l',h,rfl⟩:=h
    rcases ih h with ⟨h1,h2⟩|⟨i,e,h1,h2,h3,h4⟩
    ·exact .inl ⟨by simp[h1],by simp[h2]⟩
    ·exact .inr ⟨i+1,e,by simp[h1],by simpa using h2,h3,by simp[h4]⟩
theorem jjq {e:TypeId} {b:Bool} (h:kindT P e b=true) (em:Bool) (n:Nat) (v:Value) (w:World):(Instr.checkKey em (n+1) e v).run P w= .ok () w:=by
 unfold kindT at h
 split at h
 ·rename_i hu;simp[Instr.checkKey,run_underlying hu]
 ·rename_i hu;simp[Instr.checkKey,run_underlying hu]
 ·cases h
theorem jfm {t:TypeId} {kn:Nat} {k:PV} {v:Value} (h:keyT P t kn=true) (hk:isKey kn k=true) (hr:RepP fi M w k v) (em:Bool):(Instr.checkKey em 10000 t v).run P w= .ok () w:=by
 unfold keyT at h
 split at h
 ·rename_i hu;rw[show (10000:Nat)=9999+1 from rfl,Instr.checkKey];simp[run_underlying hu]
 ·rename_i m e hu
  simp only[Bool.and_eq_true,bne_iff_ne,ne_eq] at h
  obtain⟨h0,hf⟩:=h
  unfold flatT at hf
  rw[hu] at hf
  simp only[Bool.and_eq_true,beq_iff_eq,List.length_replicate] at hf
  obtain⟨⟨h1,h2⟩,h3⟩:=hf
  cases k with
  | agg cs=>
   simp only[isKey,Bool.and_eq_true,beq_iff_eq] at hk
   obtain⟨vs,rfl,hl,hv⟩:=hr.repE.agg
   subst h2
   have hk1:kindT P e false=true:=by
    simp only[List.all_eq_true] at h1
    exact h1 false (by simp[List.mem_replicate,h0])
   rw[show (10000:Nat)=9999+1 from rfl,Instr.checkKey]
   simp only[Sem.run_bind,run_underlying hu,Result.andThen_ok,Std.Legacy.Range.forIn_eq_forIn_range',Std.Legacy.Range.size,Nat.sub_zero,Nat.add_one_sub_one,Nat.div_one]
   have hall:∀i,i<m→∃u,vs[0+i]?=some u:=fun i hi=>⟨vs[i]'(by omega),by rw[Nat.zero_add];exact List.getElem?_eq_getElem (by omega)⟩
   clear hl hv hu h0 h1 hk
   generalize (0:Nat)=n at hall ⊢
   induction m generalizing n with
   |zero=>simp
   |succ m ih=>
    obtain⟨u,hu⟩:=hall 0 (by omega)
    have p1:=jc1 (P:=P) hk1 (xs:=vs.toArray) (off:=n*1) (v:=u) (by simpa using hu)
    have:=ih (n:=n+1) (fun i hi=>by have:=hall (i+1) (by omega);rwa [show n+(i+1)=n+1+i by omega] at this)
    simp only[List.range'_succ,List.forIn_cons]
    simp only[Sem.run_bind,run_sizeOf' h3,p1,Result.andThen_ok,jjq hk1 em 9998,Sem.run_pure] at this ⊢
    exact this
  |_=>simp[isKey] at hk<;>omega
 ·cases h
theorem jfn {kn:Nat} {k:PV} {kd:IntKind} {a:Int} {q:Bool} (h:sameKey kn (.int kd a) k=some q):∃b,k= .int kd b∧q=(a==b):=by
 cases k with
 |int kd2 b=>
  simp only[sameKey] at h
  split at h
  ·rename_i hk;obtain⟨_,rfl⟩:=hk;cases h;exact⟨b,rfl,rfl⟩
  ·cases h
 |_=>simp[sameKey] at h
theorem jcs {t:TypeId} {kn:Nat} {k:PV} {v:Value} (ht:keyT P t kn=true) (hk:isKey kn k=true) (hr:RepP fi M w k v) {es:List (PV×PV)} {l:List MapEntry} (hl:l.length=es.length)
  (hrep:∀(i:Nat) (e:PV×PV) (m:MapEntry),es[i]?=some e→l[i]?=some m→RepP fi M w e.1 m.key) {r:Option Nat} (h:midx kn es k=some r) (w':World) :
  (Instr.findKey t v l).run P w'= .ok (r.map fun i=>(i,((l[i]?).map (·.val)).getD undef)) w':=by
 unfold keyT at ht
 split at ht
 ·rename_i kd hu
  simp only[beq_iff_eq] at ht
  subst ht
  cases k with
  | int kd' a=>
   obtain rfl:=hr.repE.int
   have key:∀(es:List (PV×PV)) (l:List MapEntry) (n:Nat) (r:Option Nat),l.length=es.length→
     (∀(i:Nat) (e:PV×PV) (m:MapEntry),es[i]?=some e→l[i]?=some m→RepP fi M w e.1 m.key)→midx 0 es (.int kd' a)=some r→
     Instr.findNow (.int kd) (.int kd' a) l n=some (r.map fun i=>(n+i,((l[i]?).map (·.val)).getD undef)):=by
    intro es
    induction es with
    |nil=>intro l n r hl _ h;cases l with
     |nil=>simp[midx] at h;subst h;simp[Instr.findNow]
     |cons=>simp at hl
    | cons x es ih=>
     intro l n r hl hrep h
     obtain⟨b,u⟩:=x
     cases l with
     |nil=>simp at hl
     | cons m l=>
      have hm:=hrep 0 (b,u) m rfl rfl
      simp only[midx] at h
      cases hs:sameKey 0 (.int kd' a) b with
      |none=>simp[hs] at h
      | some q=>
       obtain⟨b',rfl,rfl⟩:=jfn hs
       have hmk:m.key= .int kd' b':=hm.repE.int
       rw[hs] at h
       by_cases hab:a=b'
       ·subst hab
        simp at h;subst h
        simp[Instr.findNow,hmk,Instr.sameNow]
       ·have hq:(a==b')=false:=by simpa using hab
        simp only[hq,Option.map_eq_some_iff] at h
        obtain⟨r',h,rfl⟩:=h
        have:=ih l (n+1) r' (by simpa using hl) (fun i e m he hm=>hrep (i+1) e m (by simpa using he) (by simpa using hm)) h
        simp[Instr.findNow,hmk,Instr.sameNow,hq,this]
        cases r' with
        |none=>rfl
        |some i=>simp;omega
   have:=key es l 0 r hl hrep h
   simp only[Nat.zero_add] at this
   simp[Instr.findKey,run_underlying hu,this]
  |_=>simp[isKey] at hk
 ·rename_i m e hu
  simp only[Bool.and_eq_true,bne_iff_ne,ne_eq] at ht
  obtain⟨h0,hf⟩:=ht
  have hasking:(Instr.findKey t v l).run P w'=(Instr.findAsking t v l).run P w':=run_findKey_eq w' (by rw[hu]) v l
  rw[hasking]
  cases k with
  | agg cs=>
   obtain⟨vs,rfl,hvl,hv⟩:=hr.repE.agg
   have key:∀(es:List (PV×PV)) (l:List MapEntry) (n:Nat) (r:Option Nat),l.length=es.length→
     (∀(i:Nat) (e:PV×PV) (m:MapEntry),es[i]?=some e→l[i]?=some m→RepP fi M w e.1 m.key)→midx kn es (.agg cs)=some r→
     (Instr.findAsking t (.agg vs.toArray) l n).run P w'= .ok (r.map fun i=>(n+i,((l[i]?).map (·.val)).getD undef)) w':=by
    intro es
    induction es with
    |nil=>intro l n r hl _ h;cases l with
     |nil=>simp[midx] at h;subst h;simp[Instr.findAsking]
     |cons=>simp at hl
    | cons x es ih=>
     intro l n r hl hrep h
     obtain⟨b,u⟩:=x
     cases l with
     |nil=>simp at hl
     | cons m l=>
      have hm:=hrep 0 (b,u) m rfl rfl
      simp only[midx] at h
      cases hs:sameKey kn (.agg cs) b with
      |none=>simp[hs] at h
      | some q=>
       cases b with
       | agg bs=>
        simp only[sameKey,h0,if_false] at hs
        obtain⟨us,hmk,hul,huv⟩:=hm.repE.agg
        have heq:=jfl (P:=P) (fi:=fi) (M:=M) (w:=w) hf hs hvl hul hv huv 9998 w'
        have heq':(Op.equal t (.agg vs.toArray) m.key).run P w'= .ok q w':=by rw[hmk];exact heq
        have hs':sameKey kn (.agg cs) (.agg bs)=some q:=by simp only[sameKey,h0,if_false];exact hs
        rw[hs'] at h
        cases q with
        |true=>simp at h;subst h;simp[Instr.findAsking,heq']
        |false=>
         simp only[Option.map_eq_some_iff] at h
         obtain⟨r',h,rfl⟩:=h
         have:=ih l (n+1) r' (by simpa using hl) (fun i e m he hm=>hrep (i+1) e m (by simpa using he) (by simpa using hm)) h
         simp[Instr.findAsking,heq',this]
         cases r' with
         |none=>rfl
         |some i=>simp;omega
       |_=>simp[sameKey] at hs
   have:=key es l 0 r hl hrep h
   simpa using this
  |_=>simp[isKey] at hk<;>omega
 ·cases ht
end
end Go.Lw
end

/-! Maps asked and written. -/
section
namespace Go.Lw
open Go Go.RowKit
section
variable {fi:FI} {M M':Mem} {w w':World} {P:Program}
theorem mapAt {s:St} {a:Act} (hI:Inv fi M w s a) {b:Nat} {es:List (PV×PV)} {v:Value} (hp:RepE fi M w (.mp b) v) (hc:s.gh[b]?=some (.map es)) :
  ∃blk,v= .map (some blk)∧RepMap fi M w blk es∧M.gb[b]?=some blk:=by
 cases (show RepP fi M w (.mp b) v from hp) with
 |mp _ blk hb=>exact⟨blk,rfl,hI.gh b _ blk hc hb,hb⟩
theorem jds {blk clock:Nat} {l:Array MapEntry} (h:w.heap[blk]?=some (.map l clock)):(getObj blk).run P w= .ok (.map l clock) w:=by
 simp[getObj,Sem.run,h]
theorem jfo {kn:Nat} {k:PV} {v:Value} (h:RepE fi M w k v) (hk:isKey kn k=true):RepP fi M w k v:=by
 cases k with
 |int=>exact h
 |agg=>exact h
 |_=>simp[isKey] at hk
theorem jjr {s:St} {a:Act} (hI:Inv fi M w s a) {t kt et:TypeId} {kn b:Nat} {es:List (PV×PV)} {k:PV} {u v:Value} {it:TypeInfo} {zv:Value} {zero:PV} {ok:Bool} (ht:P.underlying t=some (.map kt et))
  (hk:keyT P kt kn=true) (hit:P.info? et=some it) (hz:it.zero=some zv) (hzc:cOk zero zv=true) (hp:RepE fi M w (.mp b) u) (hc:s.gh[b]?=some (.map es)) (hkv:RepE fi M w k v) (hki:isKey kn k=true)
  {r:Option PV} (h:mfind kn es k=some r) :
  ∃x,(Instr.lookup t u v ok).run P w= .ok x w∧RepP fi M w (match r with|some q=>if ok then .tup [q,.bool true] else q|none=>if ok then .tup [degr zero,.bool false] else degr zero) x:=by
 obtain⟨blk,rfl,⟨h1,h2,l,clock,h3,h4,h5⟩,_⟩:=mapAt hI hp hc
 have hkr:=jfo hkv hki
 have c1:=fun em=>jfm (P:=P) hk hki hkr em
 have c3:=jds (P:=P) h3
 have pair:∀(q:PV) (y:Value) (o:Bool),RepP fi M w q y→RepP fi M w (.tup [q,.bool o]) (.tuple #[y,.bool o]):=fun q y o hq=>by
  refine RepP.tup [q,.bool o] [y,.bool o] rfl fun i c u hc hu=>?_
  cases i with
  |zero=>simp at hc hu;subst hc;subst hu;exact hq
  |succ i=>cases i with
   |zero=>simp at hc hu;subst hc;subst hu;exact .bool o
   |succ i=>simp at hu
 rcases jjo h with ⟨rfl,h6⟩|⟨i,e,h6,h7,rfl⟩
 ·have c2:=jcs (P:=P) hk hki hkr h4 (fun i e m he hm=>(h5 i e m he hm).1) h6 w
  have hzr:RepP fi M w (degr zero) zv:=jfe hzc
  refine⟨if ok then .tuple #[zv,.bool false] else zv,?_,?_⟩
  ·simp[Instr.lookup,run_underlying ht,c3,c1,c2,zeroValue,typeInfo,hit,hz]
  ·cases ok
   ·exact hzr
   ·exact pair _ _ _ hzr
 ·have c2:=jcs (P:=P) hk hki hkr h4 (fun i e m he hm=>(h5 i e m he hm).1) h6 w
  have hi:i<l.length:=by rw[h4];exact (List.getElem?_eq_some_iff.1 h7).1
  have hm:=h5 i e _ h7 (List.getElem?_eq_getElem hi)
  refine⟨if ok then .tuple #[l[i].val,.bool true] else l[i].val,?_,?_⟩
  ·simp[Instr.lookup,run_underlying ht,c3,c1,c2,List.getElem?_eq_getElem hi]
  ·cases ok
   ·exact hm.2.1
   ·exact pair _ _ _ hm.2.1
theorem jjs {s:St} {a:Act} (hI:Inv fi M w s a) {ats:Array TypeId} {t kt et ty:TypeId} {b:Nat} {es:List (PV×PV)} {u:Value} (h0:ats[0]?=some t) (ht:P.underlying t=some (.map kt et))
  (hp:RepE fi M w (.mp b) u) (hc:s.gh[b]?=some (.map es)):(Builtin.len_ ats ty #[u]).run P w= .ok (.int .i64 es.length) w:=by
 obtain⟨blk,rfl,⟨h1,h2,l,clock,h3,h4,h5⟩,_⟩:=mapAt hI hp hc
 simp[Builtin.len_,h0,run_underlying ht,jds (P:=P) h3,goInt,h4]
def World.putMap (w:World) (blk:Nat) (l:Array MapEntry) (clock:Nat):World:={w with heap:=w.heap.setIfInBounds blk (.map l clock) }
theorem jjt (w:World) (blk k:Nat) (l:Array MapEntry) (c:Nat) (h:k≠blk):(World.putMap w blk l c).heap[k]?=w.heap[k]?:=by
 simp[World.putMap,Ne.symm h]
theorem jfp (w:World) (blk:Nat) (l:Array MapEntry) (c:Nat) (h:blk<w.heap.size):(World.putMap w blk l c).heap[blk]?=some (.map l c):=by
 simp[World.putMap,h]
theorem jju (w:World) (blk:Nat) (l:Array MapEntry) (c:Nat):(World.putMap w blk l c).heap.size=w.heap.size:=by simp[World.putMap]
theorem Inv.putMap {s:St} {a:Act} (hI:Inv fi M w s a) {b blk:Nat} {es es':List (PV×PV)} (hb:M.gb[b]?=some blk) (hr:RepMap fi M w blk es) {l:List MapEntry} {clock:Nat}
  (hl:l.length=es'.length) (hrep:∀(i:Nat) (e:PV×PV) (m:MapEntry),es'[i]?=some e→l[i]?=some m→RepP fi M w e.1 m.key∧RepP fi M w e.2 m.val∧argOk e.1=true∧argOk e.2=true) :
  Inv fi M (World.putMap w blk l.toArray clock) ⟨s.env,s.lh,s.gh.set b (.map es')⟩ a∧Kp M w M (World.putMap w blk l.toArray clock):=by
 obtain⟨h1,h2,l0,clock0,h3,_,_⟩:=hr
 generalize hW:World.putMap w blk l.toArray clock=W
 have hoth:∀k,k≠blk→W.heap[k]?=w.heap[k]?:=fun k h=>by rw[←hW];exact jjt w blk k _ _ h
 have hsz:W.heap.size=w.heap.size:=by rw[←hW];exact jju w blk _ _
 have hcell:∀b k,W.cell? ⟨b,k,none⟩=w.cell? ⟨b,k,none⟩:=fun b k=>by
  by_cases h:b=blk
  ·subst h
   have e1:W.heap[b]?=some (.map l.toArray clock):=by rw[←hW];exact jfp w b _ _ h1
   simp[World.cell?,e1,h3]
  ·exact World.cell?_of_block (w:=w) (a:=⟨b,k,none⟩) (hoth b h)
 have hext:Ext M w M W:=⟨fun _ _ h=>h,fun _ _ h=>h,fun b k _=>hcell b k,fun _ _=>⟨Nat.le_refl _,fun _=>rfl⟩⟩
 have g:Good M w M W (fun _=>False) (fun k=>k=blk):=⟨hext,by rw[hsz];exact Nat.le_refl _,fun _ _ h=>h,
  fun b' l' hb' _=>⟨hb',hoth b' (fun e=>by subst e;rw[h2] at hb';cases hb'),fun _ h=>h,id,id⟩,fun b' _ hn h=>⟨hoth b' hn,fun _ h=>h,h⟩,fun _ _=>rfl⟩
 have hnd:∀i j blk',M.lb[i]?=some blk'→M.gb[j]?=some blk'→False:=fun i j blk' hi hj=>by
  have:=hI.nodup
  rw[List.nodup_append] at this
  exact this.2.2 blk' (List.mem_of_getElem? hi) blk' (List.mem_of_getElem? hj) rfl
 have hndg:M.gb.Nodup:=(List.nodup_append.1 hI.nodup).2.1
 have hmem:blk∈M.gb:=List.mem_of_getElem? hb
 refine⟨⟨fun t u hu=>⟨(hI.env t u hu).1,(hI.env t u hu).2.good g (by simp)⟩,hI.defers,hI.lbl,by simp[hI.gbl],hI.nodup,
  fun i cs blk' hi hb'=>(hI.lh i cs blk' hi hb').good g (fun e=>by subst e;exact hnd _ _ _ hb' hb) (by simp),fun i o blk' hi hb'=>?_,hext.gl hI.gl,fun b k h=>by rw[hsz];exact hI.immlt b k h,fun b l h=>by rw[hsz];exact hI.ownlt b l h,fun b h=>by rw[hsz];exact hI.gblt b h⟩,
  ⟨by rw[←hW];rfl,by rw[←hW];rfl,by rw[←hW];rfl,by rw[hsz];exact Nat.le_refl _,hext,fun k _ _ hg _=>hoth k (fun e=>by subst e;exact hg hmem),fun _ h=> .inl h,fun _ h=> .inl h,fun _ _ h=>h,fun _ _ h=> .inl h⟩⟩
 rw[List.getElem?_set] at hi
 by_cases hbi:b=i
 ·subst hbi
  simp only[if_true] at hi
  split at hi
  ·cases hi
   have:blk'=blk:=by rw[hb] at hb';exact (Option.some.inj hb').symm
   subst this
   refine⟨by rw[hsz];exact h1,h2,l,clock,by rw[←hW];exact jfp w _ _ _ h1,hl,fun i e m he hm=>?_⟩
   have:=hrep i e m he hm
   exact⟨this.1.mono hext,this.2.1.mono hext,this.2.2⟩
  ·cases hi
 ·rw[if_neg hbi] at hi
  exact (hI.gh i o blk' hi hb').good g (fun e=>by subst e;exact hbi (jbp hndg hb hb')) (by simp)
theorem jjv {ks:List Bool}:∀{a b:List PV} {us vs:List Value},flatEq ks a b=some true→us.length=a.length→vs.length=b.length→
  (∀(i:Nat) (c:PV) (u:Value),a[i]?=some c→us[i]?=some u→RepP fi M w c u)→(∀(i:Nat) (c:PV) (u:Value),b[i]?=some c→vs[i]?=some u→RepP fi M w c u)→∀n,(vs.zip us).all (fun (x,y)=>Instr.sameBits n x y)=true∧us.length=vs.length:=by
 induction ks with
 |nil=>intro a b us vs h h1 h2 _ _ n;cases a<;>cases b<;>simp[flatEq] at h;simp at h1 h2;subst h1;subst h2;simp
 | cons k ks ih=>
  intro a b us vs h h1 h2 ha hb n
  cases a with
  |nil=>simp[flatEq] at h
  | cons x a=>
   cases b with
   |nil=>simp[flatEq] at h
   | cons y b=>
    cases us with
    |nil=>simp at h1
    | cons u us=>
     cases vs with
     |nil=>simp at h2
     | cons v vs=>
      simp only[flatEq] at h
      have hu:=ha 0 x u rfl rfl
      have hv:=hb 0 y v rfl rfl
      cases hs:sameCell k x y with
      |none=>simp[hs] at h
      | some q=>
       rw[hs] at h
       cases q with
       |false=>simp at h
       | true=>
        simp only at h
        obtain⟨r1,r2⟩:=ih h (by simpa using h1) (by simpa using h2) (fun i c u hc hu=>ha (i+1) c u (by simpa using hc) (by simpa using hu)) (fun i c u hc hu=>hb (i+1) c u (by simpa using hc) (by simpa using hu)) n
        refine⟨?_,by simp[r2]⟩
        simp only[List.zip_cons_cons,List.all_cons,Bool.and_eq_true]
        refine⟨?_,r1⟩
        unfold sameCell at hs
        split at hs
        ·split at hs
         ·rename_i hk;subst hk
          cases hu;cases hv
          simp at hs;subst hs
          cases n<;>simp[Instr.sameBits]
         ·cases hs
        ·cases hu;cases hv
         simp at hs;subst hs
         cases n<;>simp[Instr.sameBits]
        ·cases hs
theorem jjw {s:St} {a:Act} (hI:Inv fi M w s a) {t kt et:TypeId} {kn b:Nat} {es es':List (PV×PV)} {k x:PV} {u v y:Value} (ht:P.underlying t=some (.map kt et))
  (hk:keyT P kt kn=true) (hp:RepE fi M w (.mp b) u) (hc:s.gh[b]?=some (.map es)) (hkv:RepE fi M w k v) (hki:isKey kn k=true) (hx:RepE fi M w x y) (ha1:argOk k=true) (ha2:argOk x=true)
  (h:mset kn es k x=some es') :
  ∃w',(Instr.mapUpdate t u v y).run P w= .ok () w'∧Inv fi M w' ⟨s.env,s.lh,s.gh.set b (.map es')⟩ a∧Kp M w M w':=by
 obtain⟨blk,rfl,hrm,hat⟩:=mapAt hI hp hc
 obtain⟨h1,h2,l,clock,h3,h4,h5⟩:=id hrm
 have hkr:=jfo hkv hki
 have hxr:RepP fi M w x y:=hx.repP (by simpa [argOk] using ha2)
 have c1:=jfm (P:=P) hk hki hkr false
 have c3:=jds (P:=P) h3
 have setO:∀l' c',(setObj blk (.map l' c')).run P w= .ok () (World.putMap w blk l' c'):=fun l' c'=>by simp[setObj,Sem.run,h3,World.putMap]
 rcases jjp h with ⟨h6,rfl⟩|⟨i,e,h6,h7,h8,rfl⟩
 ·have c2:=jcs (P:=P) hk hki hkr h4 (fun i e m he hm=>(h5 i e m he hm).1) h6 w
  obtain⟨q1,q2⟩:=hI.putMap hat hrm (es':=es++[(k,x)]) (l:=l++[{key:=v,val:=y,born:=clock }]) (clock:=clock+1) (by simp[h4]) (fun i e m he hm=>by
   by_cases hi:i<es.length
   ·rw[List.getElem?_append_left hi] at he
    rw[List.getElem?_append_left (by omega)] at hm
    exact h5 i e m he hm
   ·rw[List.getElem?_append_right (by omega)] at he
    rw[List.getElem?_append_right (by omega),h4] at hm
    have h0:=(List.getElem?_eq_some_iff.1 he).1
    simp at h0
    rw[h0] at he hm
    simp at he hm
    subst he;subst hm
    exact⟨hkr,hxr,ha1,ha2⟩)
  refine⟨_,?_,q1,q2⟩
  simp[Instr.mapUpdate,run_underlying ht,c3,c1,c2,setO]
 ·have c2:=jcs (P:=P) hk hki hkr h4 (fun i e m he hm=>(h5 i e m he hm).1) h6 w
  have hi:i<l.length:=by rw[h4];exact (List.getElem?_eq_some_iff.1 h7).1
  have hm:=h5 i e _ h7 (List.getElem?_eq_getElem hi)
  have hbits:Instr.sameBits 10000 l[i].key v=true:=by
   cases hkk:k with
   |int kd a=>
    rw[hkk] at h8 hkr
    obtain⟨b',hb',hq⟩:=jfn h8
    have hab:a=b':=by simpa using hq.symm
    have:=hm.1
    rw[hb'] at this
    have e1:=this.repE.int
    have e2:=hkr.repE.int
    rw[e1,e2,hab];simp[Instr.sameBits]
   | agg cs=>
    rw[hkk] at h8 hkr
    cases hbb:e.1 with
    | agg bs=>
     rw[hbb] at h8
     have hmk:=hm.1
     rw[hbb] at hmk
     obtain⟨us,e1,e2,e3⟩:=hmk.repE.agg
     obtain⟨vs,f1,f2,f3⟩:=hkr.repE.agg
     simp only[sameKey] at h8
     split at h8
     ·cases h8
     ·obtain⟨r1,r2⟩:=jjv (fi:=fi) (M:=M) (w:=w) h8 f2 e2 f3 e3 9999
      rw[e1,f1]
      simp only[Instr.sameBits,Bool.and_eq_true,beq_iff_eq]
      exact⟨by simp[r2],r1⟩
    |_=>rw[hbb] at h8;simp[sameKey] at h8
   |_=>rw[hkk] at hki;simp[isKey] at hki
  obtain⟨q1,q2⟩:=hI.putMap hat hrm (es':=es.set i (k,x)) (l:=l.set i {l[i] with key:=v,val:=y }) (clock:=clock) (by simp[h4]) (fun j e' m he hm'=>by
   rw[List.getElem?_set] at he hm'
   by_cases hij:i=j
   ·subst hij
    simp[hi] at hm'
    have hie:i<es.length:=by omega
    simp[hie] at he
    subst he;subst hm'
    exact⟨hkr,hxr,ha1,ha2⟩
   ·rw[if_neg hij] at he hm'
    exact h5 j e' m he hm')
  refine⟨_,?_,q1,q2⟩
  have hmod:(l.modify i fun e=>{key:=v,val:=y,born:=e.born })=l.set i {key:=v,val:=y,born:=l[i].born }:=by
   simp[List.modify_eq_set,List.getElem?_eq_getElem hi]
  simp[Instr.mapUpdate,run_underlying ht,c3,c1,c2,setO,List.getElem?_eq_getElem hi,Instr.keyThatStays,hbits,hmod]
theorem jjx {s:St} {a:Act} (hI:Inv fi M w s a) {d:Nat} (hd:d<a.tmps.size) :
  ∃M',Inv fi M' (w.alloc (.map #[] 0)) ⟨put s.env d (.mp s.gh.length),s.lh,s.gh++[.map []]⟩ (a.put (some d) (.map (some w.heap.size)))∧Kp M w M' (w.alloc (.map #[] 0)):=by
 have hno:M.own w.heap.size=none:=by
  cases ho:M.own w.heap.size with
  |none=>rfl
  |some l=>exact absurd (hI.ownlt _ l ho) (by omega)
 have hnl:w.heap.size∉M.lb++M.gb:=by
  rw[List.mem_append]
  rintro (hk|hk)
  ·exact absurd (lb_lt hI _ hk) (by omega)
  ·exact absurd (hI.gblt _ hk) (by omega)
 let M1:Mem:={M with gb:=M.gb++[w.heap.size] }
 obtain⟨g1,k1⟩:=Good.alloc hI (.map #[] 0) M1 [] [w.heap.size] (by simp[M1]) rfl (by simp) (by simp) (fun _=>False) (by simp[M1]) (fun _ _=>rfl)
 generalize hW:w.alloc (.map #[] 0)=W at *
 have hWs:W.heap.size=w.heap.size+1:=by rw[←hW,size_alloc']
 have hI1:Inv fi M1 W ⟨s.env,s.lh,s.gh++[.map []]⟩ a:=by
  refine⟨fun t u hu=>⟨(hI.env t u hu).1,(hI.env t u hu).2.good g1 (by simp)⟩,hI.defers,hI.lbl,by simp[M1,hI.gbl],?_,fun i cs blk hi hb=>(hI.lh i cs blk hi hb).good g1 (by simp) (by simp),?_,g1.ext.gl hI.gl,?_,?_,?_⟩
  ·show (M.lb++(M.gb++[w.heap.size])).Nodup
   rw[←List.append_assoc];exact jcr hI.nodup hnl
  ·intro i o blk hi hb
   have hb':(M.gb++[w.heap.size])[i]?=some blk:=hb
   by_cases hlt:i<s.gh.length
   ·rw[List.getElem?_append_left hlt] at hi
    rw[List.getElem?_append_left (by rw[hI.gbl];exact hlt)] at hb'
    exact (hI.gh i o blk hi hb').good g1 (by simp) (by simp)
   ·have hil:=(List.getElem?_eq_some_iff.1 hi).1
    simp at hil
    obtain rfl:i=s.gh.length:=by omega
    simp at hi
    subst hi
    rw[List.getElem?_append_right (by rw[hI.gbl];exact Nat.le_refl _),hI.gbl] at hb'
    simp at hb';subst hb'
    exact⟨by rw[hWs];omega,hno,[],0,by rw[←hW];exact heap_alloc_new w _,rfl,by simp⟩
  ·exact fun b k hb=>Nat.lt_of_lt_of_le (hI.immlt b k hb) k1.size
  ·exact fun b l hb=>Nat.lt_of_lt_of_le (hI.ownlt b l hb) k1.size
  ·intro b hb
   have hb':b∈M.gb++[w.heap.size]:=hb
   simp only[List.mem_append,List.mem_singleton] at hb'
   rcases hb' with h2|h2
   ·have:=hI.gblt b h2;rw[hWs];omega
   ·subst h2;rw[hWs];omega
 refine⟨M1,hI1.put hd (RepE.repAt (RepP.repE (.mp _ _ ?_))),k1⟩
 show (M.gb++[w.heap.size])[s.gh.length]?=some w.heap.size
 rw[List.getElem?_append_right (by rw[hI.gbl];exact Nat.le_refl _),hI.gbl];simp
theorem jjy {s:St} {a:Act} (hI:Inv fi M w s a) {d:Nat} (hd:d<a.tmps.size) {T:TypeId} (hT:T∈fi.bT) :
  ∃M',Inv fi M' (w.alloc (.cells #[.pointer none,.slice none 0 0] T)) ⟨put s.env d (.ptr true s.gh.length 0),s.lh,s.gh++[.bld .empty]⟩ (a.put (some d) (.pointer (some ⟨w.heap.size,0,none⟩)))∧Kp M w M' (w.alloc (.cells #[.pointer none,.slice none 0 0] T)):=by
 have hno:M.own w.heap.size=none:=by
  cases ho:M.own w.heap.size with
  |none=>rfl
  |some l=>exact absurd (hI.ownlt _ l ho) (by omega)
 have hnl:w.heap.size∉M.lb++M.gb:=by
  rw[List.mem_append]
  rintro (hk|hk)
  ·exact absurd (lb_lt hI _ hk) (by omega)
  ·exact absurd (hI.gblt _ hk) (by omega)
 let M1:Mem:={M with gb:=M.gb++[w.heap.size] }
 obtain⟨g1,k1⟩:=Good.alloc hI (.cells #[.pointer none,.slice none 0 0] T) M1 [] [w.heap.size] (by simp[M1]) rfl (by simp) (by simp) (fun _=>False) (by simp[M1]) (fun _ _=>rfl)
 generalize hW:w.alloc (.cells #[.pointer none,.slice none 0 0] T)=W at *
 have hWs:W.heap.size=w.heap.size+1:=by rw[←hW,size_alloc']
 have hI1:Inv fi M1 W ⟨s.env,s.lh,s.gh++[.bld .empty]⟩ a:=by
  refine⟨fun t u hu=>⟨(hI.env t u hu).1,(hI.env t u hu).2.good g1 (by simp)⟩,hI.defers,hI.lbl,by simp[M1,hI.gbl],?_,fun i cs blk hi hb=>(hI.lh i cs blk hi hb).good g1 (by simp) (by simp),?_,g1.ext.gl hI.gl,?_,?_,?_⟩
  ·show (M.lb++(M.gb++[w.heap.size])).Nodup
   rw[←List.append_assoc];exact jcr hI.nodup hnl
  ·intro i o blk hi hb
   have hb':(M.gb++[w.heap.size])[i]?=some blk:=hb
   by_cases hlt:i<s.gh.length
   ·rw[List.getElem?_append_left hlt] at hi
    rw[List.getElem?_append_left (by rw[hI.gbl];exact hlt)] at hb'
    exact (hI.gh i o blk hi hb').good g1 (by simp) (by simp)
   ·have hil:=(List.getElem?_eq_some_iff.1 hi).1
    simp at hil
    obtain rfl:i=s.gh.length:=by omega
    simp at hi
    subst hi
    rw[List.getElem?_append_right (by rw[hI.gbl];exact Nat.le_refl _),hI.gbl] at hb'
    simp at hb';subst hb'
    exact⟨by rw[hWs];omega,fun k hk=>absurd (hI.immlt _ k hk) (by omega),hno,T,hT,.inl ⟨rfl,by rw[←hW];exact heap_alloc_new w _⟩⟩
  ·exact fun b k hb=>Nat.lt_of_lt_of_le (hI.immlt b k hb) k1.size
  ·exact fun b l hb=>Nat.lt_of_lt_of_le (hI.ownlt b l hb) k1.size
  ·intro b hb
   have hb':b∈M.gb++[w.heap.size]:=hb
   simp only[List.mem_append,List.mem_singleton] at hb'
   rcases hb' with h2|h2
   ·have:=hI.gblt b h2;rw[hWs];omega
   ·subst h2;rw[hWs];omega
 refine⟨M1,hI1.put hd (RepE.repAt (RepP.repE (.ptr _ _ _ ?_))),k1⟩
 show (M.gb++[w.heap.size])[s.gh.length]?=some w.heap.size
 rw[List.getElem?_append_right (by rw[hI.gbl];exact Nat.le_refl _),hI.gbl];simp
end
end Go.Lw
end

/-! Structs, arrays, lists written out; lists that are made. -/
section
namespace Go.Lw
open Go Go.RowKit
section
variable {fi:FI} {M M':Mem} {w w':World} {P:Program}
theorem set_at (l:List Value) (v:Value) (off:Nat):∀(i:Nat),(l.set off v)[i]?=if i=off∧off<l.length then some v else l[i]?:=by
 intro i
 rw[List.getElem?_set]
 by_cases h:off=i
 ·subst h
  by_cases h2:off<l.length
  ·simp[h2]
  ·simp[h2]
 ·simp[h,Ne.symm h]
theorem jfq {α:Type} (vs:List Value) (f:α→Value×Nat→α) (x:α):vs.toArray.zipIdx.foldl f x=vs.zipIdx.foldl f x:=by
 rw[←Array.foldl_toList];simp
theorem RepP.noOwn {p:PV} {v:Value} (h:RepP fi M w p v):degr1 p=p:=by cases h<;>rfl
theorem jfr (vs:List Value):∀(n off:Nat) (us:List Value),off+n+vs.length≤us.length→
  (vs.zipIdx n).foldl (fun (cs:Array Value) (p:Value×Nat)=>cs.setIfInBounds (off+p.2) p.1) us.toArray=(us.take (off+n)++vs++us.drop (off+n+vs.length)).toArray:=by
 induction vs with
 |nil=>intro n off us _;simp
 | cons v vs ih=>
  intro n off us h
  simp only[List.length_cons] at h
  simp only[List.zipIdx_cons,List.foldl_cons]
  rw[List.setIfInBounds_toArray,ih (n+1) off (us.set (off+n) v) (by rw[List.length_set];omega)]
  congr 1
  apply List.ext_getElem?
  intro i
  have e1:=jb8 (us.set (off+n) v) vs (off+(n+1)) i (by rw[List.length_set];omega)
  have e2:=jb8 us (v::vs) (off+n) i (by simp only[List.length_cons];omega)
  rw[e1,e2,set_at]
  simp only[List.length_cons]
  by_cases h1:i<off+n
  ·rw[if_pos (by omega),if_pos h1,if_neg (by omega)]
  ·by_cases h2:i=off+n
   ·subst h2
    have c1:off+n<off+(n+1):=by omega
    have c3:off+n<off+n+(vs.length+1):=by omega
    have c4:off+n<us.length:=by omega
    simp[c1,c3,c4]
   ·rw[if_neg (by omega),if_neg h1]
    by_cases h3:i<off+n+(vs.length+1)
    ·rw[if_pos (by omega),if_pos h3]
     rw[show i-(off+n)=(i-(off+(n+1)))+1 by omega,List.getElem?_cons_succ]
    ·rw[if_neg (by omega),if_neg h3,if_neg (by omega)]
def PartsRel (fi:FI) (M:Mem) (w:World) (place:Nat→Option (Nat×Nat)) (mk:Nat→Loc):List (Nat×Nat×PV)→List (Nat×Value)→Prop
 |[],[]=>True
 |(off,k,p)::ps,(i,v)::vs=>place i=some (off,k)∧RepAt fi M w (fun j=>mk (off+j)) p v∧argOk p=true∧PartsRel fi M w place mk ps vs
 |_,_=>False
theorem jjz {place:Nat→Option (Nat×Nat)} {mk:Nat→Loc}:∀(ps:List (Nat×Nat×PV)) (parts:List (Nat×Value)) (cs cs':List PV) (us:List Value),fillAt cs ps=some cs'→us.length=cs.length→
  (∀(i:Nat) (c:PV) (u:Value),cs[i]?=some c→us[i]?=some u→RepC fi M w (mk i) c u)→PartsRel fi M w place mk ps parts→(∀c∈cs,c.one=true)→
  ∃us':List Value,Instr.fill place us.toArray parts=some us'.toArray∧us'.length=cs'.length∧(∀(i:Nat) (c:PV) (u:Value),cs'[i]?=some c→us'[i]?=some u→RepC fi M w (mk i) c u)∧∀c∈cs',c.one=true:=by
 intro ps
 induction ps with
 |nil=>
  intro parts cs cs' us h hl hr hp h1
  cases parts with
  |nil=>simp[fillAt] at h;subst h;exact⟨us,rfl,hl,hr,h1⟩
  |cons=>simp[PartsRel] at hp
 | cons x ps ih=>
  intro parts cs cs' us h hl hr hp h1
  obtain⟨off,k,p⟩:=x
  cases parts with
  |nil=>simp[PartsRel] at hp
  | cons y parts=>
   obtain⟨i,v⟩:=y
   simp only[PartsRel] at hp
   obtain⟨hpl,hrep,hok,hrest⟩:=hp
   simp only[fillAt] at h
   split at h
   ·rename_i hk
    obtain⟨hk1,hk2⟩:=hk
    obtain⟨vs,hvc,hvl,hvr,_⟩:=hrep.cells hok
    have hall:∀c∈p.cells,c.one=true:=by simpa [argOk] using hok
    have hsz:v.cells.size=k:=by rw[hvc];simp[hvl,hk1]
    obtain⟨us',e1,e2,e3,e4⟩:=ih parts _ cs' (us.take off++vs++us.drop (off+vs.length)) h (by rw[spliceAt,jbo _ _ _ (by omega),jbo _ _ _ (by omega)];exact hl) (fun j c u hc hu=>by
     rw[spliceAt,jb8 _ _ _ _ (by omega)] at hc
     rw[jb8 _ _ _ _ (by omega),hvl] at hu
     split at hc
     ·rename_i h2;rw[if_pos h2] at hu;exact hr j c u hc hu
     ·rename_i h2
      rw[if_neg h2] at hu
      split at hc
      ·rename_i h3
       rw[if_pos h3] at hu
       have:=hvr _ c u hc hu
       rwa [show off+(j-off)=j by omega] at this
      ·rename_i h3;rw[if_neg h3] at hu;exact hr j c u hc hu) hrest (fun c hc=>by
     simp only[spliceAt,List.mem_append] at hc
     rcases hc with (hc|hc)|hc
     ·exact h1 c (List.mem_of_mem_take hc)
     ·exact hall c hc
     ·exact h1 c (List.mem_of_mem_drop hc))
    refine⟨us',?_,e2,e3,e4⟩
    have hfold:=jfr vs 0 off us (by omega)
    simp only[Nat.add_zero] at hfold
    have hle:¬(off+v.cells.size>us.toArray.size):=by rw[hsz];simp;omega
    have hz:(v.cells.zipIdx.foldl (fun (cs:Array Value) (p:Value×Nat)=>cs.setIfInBounds (off+p.2) p.1) us.toArray)=(us.take off++vs++us.drop (off+vs.length)).toArray:=by
     rw[hvc,jfq];exact hfold
    simp only[Instr.fill,hpl,hsz,ne_eq,not_true,decide_false,Bool.false_or,decide_eq_true_eq]
    rw[if_neg (by rw[hsz] at hle;simpa using hle)]
    rw[←e1,←hz]
   ·cases h
theorem jk0 {z:Nat}:∀(vs:List PV) (n:Nat) (parts:List (Nat×Value)) (pre rest:List Value),pre.length=n*z→rest.length=vs.length*z→(∀p∈vs,argOk p=true∧p.cells.length=z)→parts.map (·.1)=List.range' n vs.length→
  (∀(i:Nat) (p:PV) (y:Nat×Value),vs[i]?=some p→parts[i]?=some y→RepP fi M w p y.2)→
  ∃us:List Value,Instr.fill (fun i=>some (i*z,z)) (pre++rest).toArray parts=some (pre++us).toArray∧us.length=vs.length*z∧
   ∀(i:Nat) (e:PV) (j:Nat) (p:PV),vs[i]?=some e→e.cells[j]?=some p→∃u,us[i*z+j]?=some u∧RepP fi M w p u:=by
 intro vs
 induction vs with
 |nil=>
  intro n parts pre rest _ hrl _ hpi _
  simp at hrl hpi
  subst hrl;subst hpi
  exact⟨[],by simp[Instr.fill],by simp,by simp⟩
 | cons p vs ih=>
  intro n parts pre rest hpl hrl hok hpi hrep
  cases parts with
  |nil=>simp at hpi
  | cons y parts=>
   obtain⟨i,v⟩:=y
   simp only[List.map_cons,List.length_cons,List.range'_succ,List.cons.injEq] at hpi
   obtain⟨rfl,hpi⟩:=hpi
   have h0:=hrep 0 p (i,v) rfl rfl
   obtain⟨hok1,hz1⟩:=hok p (by simp)
   obtain⟨ws,hvc,hvl,hvr,_⟩:=(RepE.repAt (mk:=Loc.lim) h0.repE).cells hok1
   have hsz:v.cells.size=z:=by rw[hvc];simp[hvl,hz1]
   have hrl':rest.length=z+vs.length*z:=by rw[hrl,List.length_cons,Nat.add_mul,Nat.one_mul,Nat.add_comm]
   have hfold:=jfr ws 0 (i*z) (pre++rest) (by simp;omega)
   simp only[Nat.add_zero] at hfold
   have hpre:(pre++rest).take (i*z)=pre:=by rw[←hpl];simp
   have hdrop:(pre++rest).drop (i*z+ws.length)=rest.drop z:=by
    rw[←hpl,List.drop_append,List.drop_eq_nil_of_le (by omega),List.nil_append]
    congr 1;omega
   rw[hpre,hdrop] at hfold
   obtain⟨us,e1,e2,e3⟩:=ih (i+1) parts (pre++ws) (rest.drop z) (by simp[hpl,hvl,hz1,Nat.add_mul]) (by simp;omega) (fun q hq=>hok q (by simp[hq])) hpi (fun j q y hq hy=>hrep (j+1) q y (by simpa using hq) (by simpa using hy))
   refine⟨ws++us,?_,by simp[hvl,hz1,e2,Nat.add_mul,Nat.add_comm],fun k e j q he hq=>?_⟩
   ·have hle:¬(i*z+v.cells.size>(pre++rest).toArray.size):=by rw[hsz];simp;omega
    have hz:(v.cells.zipIdx.foldl (fun (cs:Array Value) (p:Value×Nat)=>cs.setIfInBounds (i*z+p.2) p.1) (pre++rest).toArray)=(pre++ws++rest.drop z).toArray:=by
     rw[hvc,jfq];exact hfold
    simp only[Instr.fill,hsz,ne_eq,not_true,decide_false,Bool.false_or,decide_eq_true_eq]
    rw[if_neg (by rw[hsz] at hle;simpa using hle)]
    rw[←List.append_assoc,←e1,←hz]
   ·cases k with
    | zero=>
     simp at he;subst he
     have hj:=(List.getElem?_eq_some_iff.1 hq).1
     refine⟨ws[j]'(by omega),?_,?_⟩
     ·rw[Nat.zero_mul,Nat.zero_add,List.getElem?_append_left (by omega)];exact List.getElem?_eq_getElem (by omega)
     ·have:=(hvr j q _ hq (List.getElem?_eq_getElem (by omega))).degr1
      have hqn:degr1 q=q:=by
       cases h0 with
       |agg cs us' hl' hh=>
        have hjl:j<us'.length:=by rw[hl'];exact hj
        exact (hh j q us'[j] hq (List.getElem?_eq_getElem hjl)).noOwn
       |_=>simp[PV.cells] at hq;cases j<;>simp at hq;subst hq;rfl
      rwa [hqn] at this
    |succ k=>
     obtain⟨u,hu,hr⟩:=e3 k e j q (by simpa using he) hq
     refine⟨u,?_,hr⟩
     rw[List.getElem?_append_right (by rw[hvl,hz1,Nat.add_mul];omega),←hu]
     congr 1
     rw[hvl,hz1,Nat.add_mul];omega
end
end Go.Lw
end

/-! Which operation of the machine stands for which operation of Go; and that each does what the other does (calls apart). -/
section
namespace Go.Lw
open Go Go.RowKit
def mXo (fi:FI):Option IX→Option Operand→Bool
 |none,none=>true
 |some x,some o=>mX fi x o
 |_,_=>false
def zeroIs (P:Program) (t:TypeId) (z:PV):Bool:=
 match (P.info? t).bind (·.zero) with
 |some v=>cOk z v
 |none=>false
def placeOf (P:Program) (t:TypeId) (i:Nat):Option (Nat×Nat):=
 match P.underlying t with
 |some (.struct fs)=>(fs.toList.mapM fun f=>(P.info? f.type).map fun i=>(f.offset,i.size)).bind (·[i]?)
 |some (.array _ e)=>(tySize P e).map fun n=>(i*n,n)
 |_=>none
def mParts (P:Program) (fi:FI) (t:TypeId):List (Nat×Nat×IX)→List (Nat×Operand)→Bool
 |[],[]=>true
 |(off,k,x)::ps,(i,o)::os=>placeOf P t i==some (off,k)&&mX fi x o&&mParts P fi t ps os
 |_,_=>false
def zerosAre (P:Program) (t:TypeId) (z:List PV):Bool:=
 match (P.info? t).bind (·.zero) with
 |some v=>cOks z v.cells.toList
 |none=>false
def isElem (P:Program) (t:TypeId) (z:Nat):Bool:=
 match P.underlying t with
 |some (.slice e)=>tySize P e==some z
 |_=>false
def binIs (op:BinOp):BinOp→Bool:=fun o=>decide (op=o)
def mOp (P:Program) (fi:FI) (i:IOp) (op:Op):Bool:=
 match i,op with
 | .mv _ x,.move y| .mv _ x,.assign y=>mX fi x y
 | .tk _ s,.move (.tmp n)| .tk _ s,.assign (.tmp n)=>n==s
 | .pick _ c x y,.pick c' x' y'=>mX fi c c'&&mX fi x x'&&mX fi y y'
 | .box _ _ _ x,.box _ y=>mX fi x y
 | .alloc _ _ z,.alloc t=>zeroIs P t z
 | .build _ z ps,.build t parts| .buildT _ z ps,.build t parts=>(placeOf P t 0).isSome&&zerosAre P t z&&mParts P fi t ps parts.toList
 | .buildSl _ z els,.buildSlice t len parts=>
  isElem P t z&&decide (0<z)&&len==els.length&&decide (len*z≤16777216)&&decide (parts.toList.map (·.1)=List.range' 0 len)&&mXs fi els (parts.toList.map (·.2)) &&
   (match P.underlying t with|some (.slice e)=>((P.info? e).bind (·.zero)).isSome|_=>false)
 | .load _ agg k a,.load t y=>mX fi a y&&tyAgg P t==some agg&&tySize P t==some k
 | .loadT _ a,.load t y=>mX fi a y&&tyAgg P t==some false
 | .store _ k a x,.store t y z=>mX fi a y&&mX fi x z&&tySize P t==some k
 | .nilc _ x,.nilCheck y=>mX fi x y
 | .bin _ o x y,.binOp o' _ x' y' _=>binIs o o'&&mX fi x x'&&mX fi y y'
 | .eqa _ neg ks x y,.binOp o t x' y' _=>binIs (if neg then .neq else .eql) o&&flatT P t ks&& !P.eqGuardType P.depth t&&mX fi x x'&&mX fi y y'
 | .eqb _ neg x y,.binOp o t x' y' _=>binIs (if neg then .neq else .eql) o&&(match P.underlying t with|some .bool=>true|_=>false)&&mX fi x x'&&mX fi y y'
 | .eqn _ neg x,.binOp o t x' (.const .nilIface) _=>binIs (if neg then .neq else .eql) o&&(match P.underlying t with|some (.interface _)=>true|_=>false)&&mX fi x x'
 | .un _ o x,.unOp o' _ x'=>decide (o=o')&&mX fi x x'
 | .conv _ k x,.convert s t y=>(match P.underlying t with|some (.int k')=>decide (k=k')|_=>false)&&(P.underlying s).isSome&&mX fi x y
 | .mkfn _ f caps,.makeFunc (.func F) first captured=>fi f==some F&&first.isEmpty&&mXs fi caps captured.toList
 | .mkbf _ f fs,.makeFunc (.func F) first captured=>fi f==some F&&captured.isEmpty&&mXs fi fs first.toList
 | .clearK x,.call {callee:= .builtin .clear,args,argTypes }=>(match args.toList,argTypes.toList with
   |[y],[t]=>mX fi x y&&(match P.underlying t with
    |some (.slice e)=>(match (P.info? e).bind (·.zero) with|some (.int .i64 n)=>n==0|_=>false)
    |_=>false)
   |_,_=>false)
 | .loadG _ ss,.load t (.global g)=>(tyAgg P t==some false)&&(fi.gw.any fun x=>x.1==g&&decide (x.2.map (fun s=>s.data.toList)=ss.map (fun s=>s.data.toList)))
 | .boxB _ x,.box el y=>fi.bT.contains el&&mX fi x y
 | .mkbld _,.alloc t=>fi.bT.contains t&&zeroIs P t (.agg [.nilp,.sl true 1 []])
 | .mkmap _,.makeMap _ none=>true
 | .mksl _ _ z bytes zero l,.makeSlice t y y'=>
  mX fi l y&&mX fi l y'&&decide (0<bytes)&&(match P.underlying t with
   |some (.slice e)=>(match P.info? e with|some i=>i.size==z&&i.bytes==bytes&&(match i.zero with|some v=>cOk zero v&&v.cells.size==z|none=>false)|none=>false)
   |_=>false)
 | .slice _ z x lo hi,.slice t y lo' hi' none=>isElem P t z&&mX fi x y&&mXo fi lo lo'&&mXo fi hi hi'
 | .sliceS _ x lo hi,.slice t y lo' hi' none=>(match P.underlying t with|some .string=>true|_=>false)&&mX fi x y&&mXo fi lo lo'&&mXo fi hi hi'
 | .faddr _ x off,.fieldAddr t y fld=>mX fi x y&&(match P.underlying t with
   |some (.struct fs)=>(match fs[fld]? with|some f=>f.offset==off&&(match tySize P f.type with|some n=>n !=0|none=>false)|none=>false)
   |_=>false)
 | .field _ agg k off x,.field t y fld=>mX fi x y&&(match P.underlying t with
   |some (.struct fs)=>(match fs[fld]? with|some f=>f.offset==off&&tyAgg P f.type==some agg&&tySize P f.type==some k|none=>false)
   |_=>false)
 | .iaddr _ z none x i,.indexAddr t y j=>isElem P t z&&mX fi x y&&mX fi i j
 | .iaddr _ z (some m) x i,.indexAddr t y j=>mX fi x y&&mX fi i j&&(match P.underlying t with|some (.array m' e)=>m==m'&&tySize P e==some z|_=>false)
 | .index _ z arr agg x i,.index t y j=>mX fi x y&&mX fi i j&&(match P.underlying t with|some (.array m e)=>m==arr&&tySize P e==some z&&tyAgg P e==some agg|_=>false)
 | .indexS _ x i,.index t y j=>mX fi x y&&mX fi i j&&(match P.underlying t with|some .string=>true|_=>false)
 | .lookup _ kn m k ok zero,.lookup t y j ok'=>mX fi m y&&mX fi k j&&ok==ok'&&(match P.underlying t with|some (.map kt et)=>keyT P kt kn&&zeroIs P et zero|_=>false)
 | .mupd kn m k x,.mapUpdate t m' k' x'| .mupd kn m k x,.insert t m' k' x'=>mX fi m m'&&mX fi k k'&&mX fi x x'&&(match P.underlying t with|some (.map kt _)=>keyT P kt kn|_=>false)
 | .len _ kd x,.call {callee:= .builtin .len,args,argTypes }=>(match args.toList,argTypes[0]? with
   |[y],some t=>mX fi x y&&(match kd,P.underlying t with
    |0,some (.slice _)=>true
    |1,some .string=>true
    |2,some (.map _ _)=>true
    |_,_=>false)
   |_,_=>false)
 | .append _ z bytes s x,.call {callee:= .builtin .append,args,argTypes }=>(match args.toList,argTypes.toList with
   |[y,y'],[t,t']=>mX fi s y&&mX fi x y'&&t==t'&&decide (0<z)&&decide (0<bytes)&&(match P.underlying t with
    |some (.slice e)=>(match P.info? e with|some i=>i.size==z&&i.bytes==bytes&&(match i.zero with|some v=>v.cells.size==z|none=>false)|none=>false)
    |_=>false)
   |_,_=>false)
 | .maxi _ xs,.call {callee:= .builtin .max,args,.. }=>mXs fi xs args.toList
 | .extract _ x i,.extract y j=>mX fi x y&&i==j
 |_,_=>false
end Go.Lw
end

/-! Each operation of the machine (calls apart) does what its Go operation does. -/
section
namespace Go.Lw
open Go Go.RowKit
section
variable {fi:FI} {M M':Mem} {w w':World} {P:Program} {s s':St} {a:Act} {cf:CallF}
structure Asks (P:Program) (fi:FI) (M:Mem) (w:World) (s:St) (a:Act) (o:Oper) (i:IOp):Prop where
 inv:Inv fi M w s a
 m:mOp P fi i o.op=true
 dst:o.dst=opDst i
 lt:∀d,opDst i=some d→d<a.tmps.size
theorem sim_mv {o:Oper} {d:Nat} {x:IX} (A:Asks P fi M w s a o (.mv d x)) (h:opStep cf s (.mv d x)=some s'):Sim P fi o M w s' a:=by
 obtain⟨dst,op,ty,pos,aft,g⟩:=o
 obtain⟨hI,hm,hd,hlt⟩:=A
 simp only[opStep,Option.map_eq_some_iff] at h
 obtain⟨p,hp,rfl⟩:=h
 cases op<;>simp[mOp] at hm
 ·exact Sim.pure hI hd (hlt d rfl) (by simp[execOp]) (jff hI hm hp _)
 ·exact Sim.pure hI hd (hlt d rfl) (by simp[execOp]) (jff hI hm hp _)
theorem sim_tk {o:Oper} {d n:Nat} (A:Asks P fi M w s a o (.tk d n)) (h:opStep cf s (.tk d n)=some s'):Sim P fi o M w s' a:=by
 obtain⟨dst,op,ty,pos,aft,g⟩:=o
 obtain⟨hI,hm,hd,hlt⟩:=A
 simp only[opStep,Option.map_eq_some_iff] at h
 obtain⟨v,hv,rfl⟩:=h
 have key:∀y,mX fi (.t n) y=true→∃M',Inv fi M' w ⟨put (put s.env n (degr v)) d v,s.lh,s.gh⟩ (a.put (some d) (a.eval y))∧Kp M w M' w:=by
  intro y hy
  obtain⟨M1,hI1,k1,hr,_⟩:=jcq hI hy (v:=v) (e:=put s.env n (degr v)) (by simp[takeX,hv])
  obtain⟨hI2,k2⟩:=hI1.putLim (hlt d rfl) hr
  exact⟨_,hI2,k1.trans k2⟩
 cases op with
 | move y=>
  cases y with
  |tmp m=>
   simp[mOp] at hm
   obtain⟨M',h1,h2⟩:=key (.tmp m) (by simp[mX,hm])
   exact⟨_,a.eval (.tmp m),M',w,by simp[execOp],.inl rfl,by rw[show dst=some d from hd];exact h1,h2⟩
  |_=>simp[mOp] at hm
 | assign y=>
  cases y with
  |tmp m=>
   simp[mOp] at hm
   obtain⟨M',h1,h2⟩:=key (.tmp m) (by simp[mX,hm])
   exact⟨_,a.eval (.tmp m),M',w,by simp[execOp],.inl rfl,by rw[show dst=some d from hd];exact h1,h2⟩
  |_=>simp[mOp] at hm
 |_=>simp[mOp] at hm
theorem jk1 {o:Oper} {d:Nat} {c x y:IX} (A:Asks P fi M w s a o (.pick d c x y)) (h:opStep cf s (.pick d c x y)=some s'):Sim P fi o M w s' a:=by
 obtain⟨dst,op,ty,pos,aft,g⟩:=o
 obtain⟨hI,hm,hd,hlt⟩:=A
 cases op<;>simp[mOp] at hm
 rename_i c' x' y'
 simp only[opStep] at h
 split at h
 ·rename_i hc
  simp only[Option.map_eq_some_iff] at h
  obtain⟨p,hp,rfl⟩:=h
  have hcv:=(jag hI hm.1.1 hc).bool
  exact Sim.pure hI hd (hlt d rfl) (by simp[execOp,hcv,asBool]) (jag hI hm.1.2 hp).repAt
 ·rename_i hc
  simp only[Option.map_eq_some_iff] at h
  obtain⟨p,hp,rfl⟩:=h
  have hcv:=(jag hI hm.1.1 hc).bool
  exact Sim.pure hI hd (hlt d rfl) (by simp[execOp,hcv,asBool]) (jag hI hm.2 hp).repAt
 ·cases h
theorem jk2 {o:Oper} {d:Nat} {g tk:Bool} {x:IX} (A:Asks P fi M w s a o (.box d g tk x)) (h:opStep cf s (.box d g tk x)=some s'):Sim P fi o M w s' a:=by
 obtain⟨dst,op,ty,pos,aft,gd⟩:=o
 obtain⟨hI,hm,hd,hlt⟩:=A
 cases op<;>simp[mOp] at hm
 rename_i el y
 have key:∀(M1:Mem) (s1:St) (p:PV),Inv fi M1 w s1 a→Kp M w M1 w→RepAt fi M1 w Loc.lim p (a.eval y)→argOk p=true→Sim P fi ⟨dst,.box el y,ty,pos,aft,gd⟩ M w (putNew s1 d g p.cells) a:=by
  intro M1 s1 p hI1 k1 hr hok
  obtain⟨M2,hI2,k2,hr2⟩:=hI1.newBox g hr hok el
  refine⟨_,.pointer (some ⟨w.heap.size,0,none⟩),M2,_,?_,.inl rfl,?_,k1.trans k2⟩
  ·simp[execOp,Instr.box,newVar,newRow]
  ·rw[show dst=some d from hd]
   exact hI2.put (hlt d rfl) hr2.repAt
 simp only[opStep] at h
 split at h
 ·simp only[Option.bind_eq_some_iff] at h
  obtain⟨⟨v,e⟩,hv,h⟩:=h
  split at h
  ·rename_i hok
   cases h
   obtain⟨M1,hI1,k1,hr,_⟩:=jcq hI hm hv
   exact key M1 _ v hI1 k1 hr hok
  ·cases h
 ·simp only[Option.bind_eq_some_iff] at h
  obtain⟨v,hv,h⟩:=h
  split at h
  ·rename_i hok
   cases h
   exact key M s v hI (Kp.refl M w) (jag hI hm hv).repAt hok
  ·cases h
theorem jk3 {o:Oper} {d:Nat} {g:Bool} {z:PV} (A:Asks P fi M w s a o (.alloc d g z)) (h:opStep cf s (.alloc d g z)=some s'):Sim P fi o M w s' a:=by
 obtain⟨dst,op,ty,pos,aft,gd⟩:=o
 obtain⟨hI,hm,hd,hlt⟩:=A
 cases op<;>simp[mOp] at hm
 rename_i el
 simp only[opStep] at h
 split at h
 ·rename_i hok
  cases h
  unfold zeroIs at hm
  cases hi:P.info? el with
  |none=>simp[hi] at hm
  | some i=>
   cases hz:i.zero with
   |none=>simp[hi,hz] at hm
   | some zv=>
    simp[hi,hz] at hm
    obtain⟨M2,hI2,k2,hr2⟩:=hI.newBox g (cOk_at hm Loc.lim) hok el
    refine⟨_,.pointer (some ⟨w.heap.size,0,none⟩),M2,_,?_,.inl rfl,?_,k2⟩
    ·simp[execOp,Instr.alloc,zeroValue,typeInfo,hi,hz,newVar,newRow]
    ·rw[show dst=some d from hd]
     exact hI2.put (hlt d rfl) hr2.repAt
 ·cases h
theorem jk4 {o:Oper} {d k:Nat} {agg:Bool} {x:IX} (A:Asks P fi M w s a o (.load d agg k x)) (h:opStep cf s (.load d agg k x)=some s'):Sim P fi o M w s' a:=by
 obtain⟨dst,op,ty,pos,aft,gd⟩:=o
 obtain⟨hI,hm,hd,hlt⟩:=A
 cases op<;>simp[mOp] at hm
 rename_i t y
 simp only[opStep] at h
 split at h
 ·rename_i g b off hp
  simp only[Option.bind_eq_some_iff,Option.map_eq_some_iff] at h
  obtain⟨cs,hc,v,hg,rfl⟩:=h
  obtain⟨r,h1,h2⟩:=jje (P:=P) hI hm.1.2 (fun _=>hm.2) (jag hI hm.1.1 hp) hc hg
  exact Sim.pure hI hd (hlt d rfl) (by simp[execOp,h1]) h2.repE.repAt
 ·rename_i e off hp
  simp only[Option.map_eq_some_iff] at h
  obtain⟨v,hg,rfl⟩:=h
  obtain⟨r,h1,h2⟩:=jjf (P:=P) hm.1.2 (fun _=>hm.2) (jag hI hm.1.1 hp) hg
  exact Sim.pure hI hd (hlt d rfl) (by simp[execOp,h1]) h2.repE.repAt
 ·cases h
theorem jfs:∀{l m:List ByteArray},l.map (fun s=>s.data.toList)=m.map (fun s=>s.data.toList)→l=m
 |[],[],_=>rfl
 |[],_::_,h=>by simp at h
 |_::_,[],h=>by simp at h
 |a::l,b::m,h=>by
  simp only[List.map_cons,List.cons.injEq] at h
  obtain⟨⟨x⟩⟩:=a;obtain⟨⟨y⟩⟩:=b
  simp only at h
  rw[h.1,jfs h.2]
theorem jk5 {o:Oper} {d:Nat} {ss:List ByteArray} (A:Asks P fi M w s a o (.loadG d ss)) (h:opStep cf s (.loadG d ss)=some s'):Sim P fi o M w s' a:=by
 obtain⟨dst,op,ty,pos,aft,gd⟩:=o
 obtain⟨hI,hm,hd,hlt⟩:=A
 cases op<;>simp[mOp] at hm
 rename_i t y
 cases y<;>simp at hm
 rename_i g
 obtain⟨hag,g2,l,hg,rfl,hs⟩:=hm
 obtain rfl:=jfs hs
 obtain⟨b,o,c,h1,h2,h3⟩:=fi.gwok _ hg
 simp only[opStep,Option.some.injEq] at h
 subst h
 have e1:=(hI.gl _ h1).2
 have hl:(l.map PV.str).length=l.length:=List.length_map _
 refine Sim.pure hI hd (hlt d rfl) (v:= .slice (some ⟨b,o,none⟩) l.length c) ?_ (RepP.repE ?_).repAt
 ·have ev:a.eval (.global g2)= .pointer (some ⟨g2,0,none⟩):=rfl
  simp only[execOp,ev]
  simp[Instr.loadAt,Instr.sureAddr,loadVar,jbc hag,load,Sem.run,e1]
 ·rw[←hl]
  refine .sl 1 _ _ c b o (fun i=>((l.map Value.string)[i]?).getD undef) (.inr rfl) (by rw[hl];exact h2) ?_ ?_ ?_ ?_
  ·intro e he;obtain⟨x,_,rfl⟩:=List.mem_map.1 he;rfl
  ·intro e he;obtain⟨x,_,rfl⟩:=List.mem_map.1 he;rfl
  ·intro i e j p he hp
   rw[List.getElem?_map,Option.map_eq_some_iff] at he
   obtain⟨x,hx,rfl⟩:=he
   obtain rfl:j=0:=by
    match j,hp with
    |0,_=>rfl
    |j+1,hp=>cases hp
   have:=hI.gl _ (h3 i x hx)
   simp only[Nat.mul_one,Nat.add_zero,List.getElem?_map,hx]
   exact this
  ·intro i e j p he hp
   rw[List.getElem?_map,Option.map_eq_some_iff] at he
   obtain⟨x,hx,rfl⟩:=he
   obtain rfl:j=0:=by
    match j,hp with
    |0,_=>rfl
    |j+1,hp=>cases hp
   cases hp
   simp only[Nat.mul_one,Nat.add_zero,List.getElem?_map,hx]
   exact .str _
theorem jk6 {o:Oper} {d:Nat} {x:IX} (A:Asks P fi M w s a o (.loadT d x)) (h:opStep cf s (.loadT d x)=some s'):Sim P fi o M w s' a:=by
 obtain⟨dst,op,ty,pos,aft,gd⟩:=o
 obtain⟨hI,hm,hd,hlt⟩:=A
 cases op<;>simp[mOp] at hm
 rename_i t y
 simp only[opStep] at h
 split at h
 ·rename_i g b off hp
  simp only[Option.bind_eq_some_iff,Option.map_eq_some_iff] at h
  obtain⟨cs,hc,v,hg,rfl⟩:=h
  obtain⟨r,M',h1,h2,k2⟩:=jjh (P:=P) hI hm.2 (jag hI hm.1 hp) hc hg (hlt d rfl)
  exact⟨_,r,M',w,by simp[execOp,h1],.inl rfl,by rw[show dst=some d from hd];exact h2,k2⟩
 ·cases h
theorem jk7 {o:Oper} {k:Nat} {tk:Bool} {y x:IX} (A:Asks P fi M w s a o (.store tk k y x)) (h:opStep cf s (.store tk k y x)=some s'):Sim P fi o M w s' a:=by
 obtain⟨dst,op,ty,pos,aft,gd⟩:=o
 obtain⟨hI,hm,hd,hlt⟩:=A
 cases op<;>simp[mOp] at hm
 rename_i t y' x'
 have key:∀(M1:Mem) (e:List (Nat×PV)) (g:Bool) (b off:Nat) (cs:List PV) (p:PV),Inv fi M1 w ⟨e,s.lh,s.gh⟩ a→Kp M w M1 w→RepE fi M1 w (.ptr g b off) (a.eval y')→RepAt fi M1 w Loc.lim p (a.eval x')→
   St.cellsAt ⟨e,s.lh,s.gh⟩ g b=some cs→p.cells.length=k→off+k≤cs.length→argOk p=true→Sim P fi ⟨dst,.store t y' x',ty,pos,aft,gd⟩ M w (St.setCells ⟨e,s.lh,s.gh⟩ g b (spliceAt cs off p.cells)) a:=by
  intro M1 e g b off cs p hI1 k1 hp hr hc hk hle hok
  obtain⟨M',w',h1,h2,k2⟩:=jjg (P:=P) hI1 hm.2 hp hc hr hk hle hok
  refine⟨_,undef,M',w',?_,.inr ⟨rfl,rfl⟩,?_,k1.trans k2⟩
  ·simp[execOp,h1]
  ·rw[show dst=none from hd];exact h2
 simp only[opStep] at h
 split at h
 ·rename_i g b off hp
  have hp':=jag hI hm.1.1 hp
  split at h
  ·simp only[Option.bind_eq_some_iff] at h
   obtain⟨⟨v,e⟩,hv,cs,hc,h⟩:=h
   split at h
   ·rename_i hk
    cases h
    obtain⟨M1,hI1,k1,hr,hlb,hgb,himm⟩:=jcq hI hm.1.2 hv
    have hp1:RepE fi M1 w (.ptr g b off) (a.eval y'):=by
     cases g with
     |true=>
      generalize hu:a.eval y'=u at hp' ⊢
      cases (show RepP fi M w (.ptr true b off) u from hp') with
      |ptr _ _ blk hb=>exact RepP.repE (.ptr _ _ blk (by rw[hgb];exact hb))
     |false=>obtain⟨blk,h1,h2⟩:=hp';exact⟨blk,by rw[hlb];exact h1,h2⟩
    exact key M1 e g b off cs v hI1 k1 hp1 hr hc hk.1 hk.2.1 hk.2.2
   ·cases h
  ·simp only[Option.bind_eq_some_iff] at h
   obtain⟨v,hv,cs,hc,h⟩:=h
   split at h
   ·rename_i hk
    cases h
    exact key M s.env g b off cs v hI (Kp.refl M w) hp' (jag hI hm.1.2 hv).repAt hc hk.1 hk.2.1 hk.2.2
   ·cases h
 ·cases h
theorem jk8 {o:Oper} {d:Nat} {x:IX} (A:Asks P fi M w s a o (.nilc d x)) (h:opStep cf s (.nilc d x)=some s'):Sim P fi o M w s' a:=by
 obtain⟨dst,op,ty,pos,aft,gd⟩:=o
 obtain⟨hI,hm,hd,hlt⟩:=A
 cases op<;>simp[mOp] at hm
 rename_i y
 simp only[opStep] at h
 split at h
 ·rename_i g b off hp
  cases h
  have hp':=jag hI hm hp
  have hv:∃ad,a.eval y= .pointer (some ad):=by
   cases g with
   |true=>
    generalize hu:a.eval y=u at hp'
    cases (show RepP fi M w (.ptr true b off) u from hp') with
    |ptr _ _ blk hb=>exact⟨_,rfl⟩
   |false=>obtain⟨blk,h1,h2⟩:=hp';exact⟨_,h2⟩
  obtain⟨ad,hv⟩:=hv
  exact Sim.pure hI hd (hlt d rfl) (v:=a.eval y) (by simp[execOp,hv]) hp'.repAt
 ·rename_i e off hp
  cases h
  have hp':=jag hI hm hp
  have hv:∃ad,a.eval y= .pointer (some ad):=by
   generalize hu:a.eval y=u at hp'
   cases (show RepP fi M w (.ep e off) u from hp');exact⟨_,rfl⟩
  obtain⟨ad,hv⟩:=hv
  exact Sim.pure hI hd (hlt d rfl) (v:=a.eval y) (by simp[execOp,hv]) hp'.repAt
 ·rename_i f cs hp
  cases h
  have hp':=jag hI hm hp
  have hv:∃F vs,a.eval y= .func (.func F) #[] vs:=by
   generalize hu:a.eval y=u at hp'
   cases (show RepP fi M w (.fn f cs) u from hp');exact⟨_,_,rfl⟩
  obtain⟨F,vs,hv⟩:=hv
  exact Sim.pure hI hd (hlt d rfl) (v:=a.eval y) (by simp[execOp,hv]) hp'.repAt
 ·rename_i f cs hp
  cases h
  have hp':=jag hI hm hp
  have hv:∃F vs,a.eval y= .func (.func F) vs #[]:=by
   generalize hu:a.eval y=u at hp'
   cases (show RepP fi M w (.bfn f cs) u from hp');exact⟨_,_,rfl⟩
  obtain⟨F,vs,hv⟩:=hv
  exact Sim.pure hI hd (hlt d rfl) (v:=a.eval y) (by simp[execOp,hv]) hp'.repAt
 ·cases h
theorem jk9 {o:Oper} {d:Nat} {b:BinOp} {x y:IX} (A:Asks P fi M w s a o (.bin d b x y)) (h:opStep cf s (.bin d b x y)=some s'):Sim P fi o M w s' a:=by
 obtain⟨dst,op,ty,pos,aft,gd⟩:=o
 obtain⟨hI,hm,hd,hlt⟩:=A
 cases op<;>simp[mOp,binIs] at hm
 rename_i b' t x' y' t2
 obtain⟨⟨rfl,hx⟩,hy⟩:=hm
 simp only[opStep,Option.bind_eq_some_iff,Option.map_eq_some_iff] at h
 obtain⟨p,hp,q,hq,r,hr,rfl⟩:=h
 obtain⟨r',h1,h2,h3⟩:=jco (P:=P) (t:=t) (x:=x') (y:=y') hr (jag hI hx hp) (jag hI hy hq)
 exact Sim.pure hI hd (hlt d rfl) (by simp[execOp,h1,h2]) h3.repE.repAt
theorem jka {o:Oper} {d:Nat} {neg:Bool} {ks:List Bool} {x y:IX} (A:Asks P fi M w s a o (.eqa d neg ks x y)) (h:opStep cf s (.eqa d neg ks x y)=some s'):Sim P fi o M w s' a:=by
 obtain⟨dst,op,ty,pos,aft,gd⟩:=o
 obtain⟨hI,hm,hd,hlt⟩:=A
 cases op<;>simp[mOp,binIs] at hm
 rename_i b' t x' y' t2
 obtain⟨⟨⟨⟨rfl,hf⟩,hg⟩,hx⟩,hy⟩:=hm
 simp only[opStep] at h
 split at h
 ·rename_i cs ds hp hq
  simp only[Option.map_eq_some_iff] at h
  obtain⟨r,hr,rfl⟩:=h
  obtain⟨vs,hv1,hv2,hv3⟩:=(jag hI hx hp).agg
  obtain⟨us,hu1,hu2,hu3⟩:=(jag hI hy hq).agg
  have h1:(Op.equal t (.agg vs.toArray) (.agg us.toArray)).run P w= .ok r w:=jfl (P:=P) (fi:=fi) (M:=M) (w:=w) hf hr hv2 hu2 hv3 hu3 9998 w
  refine Sim.pure hI hd (hlt d rfl) (v:= .bool (if neg then !r else r)) ?_ (RepP.repE (.bool _)).repAt
  cases neg<;>simp[execOp,hv1,hu1,eqGuard,hg,binOp,h1]
 ·cases h
end
end Go.Lw
end

/-! Each operation of the machine (calls apart) does what its Go operation does: the others. -/
section
namespace Go.Lw
open Go Go.RowKit
section
variable {fi:FI} {M M':Mem} {w w':World} {P:Program} {s s':St} {a:Act} {cf:CallF}
theorem jkb {o:Oper} {d:Nat} {neg:Bool} {x:IX} (A:Asks P fi M w s a o (.eqn d neg x)) (h:opStep cf s (.eqn d neg x)=some s'):Sim P fi o M w s' a:=by
 obtain⟨dst,op,ty,pos,aft,gd⟩:=o
 obtain⟨hI,hm,hd,hlt⟩:=A
 cases op with
 | binOp b' t x' y' t2=>
  cases y' with
  | const c=>
   cases c with
   | nilIface=>
    simp[mOp,binIs] at hm
    obtain⟨⟨rfl,ht⟩,hx⟩:=hm
    obtain⟨ms,ht'⟩:∃ms,P.underlying t=some (.interface ms):=by
     split at ht
     ·exact⟨_,by assumption⟩
     ·cases ht
    simp only[opStep] at h
    split at h
    ·rename_i hp
     cases h
     have h1:=(jag hI hx hp).nilI
     have e1:∀d,(Op.equalIn (d+1) t .nilIface .nilIface).run P w= .ok true w:=fun d=>by simp[Op.equalIn,run_underlying ht']
     have e2:(Op.equal t .nilIface .nilIface).run P w= .ok true w:=e1 9999
     refine Sim.pure hI hd (hlt d rfl) (v:= .bool (!neg)) ?_ (RepP.repE (.bool _)).repAt
     have hc:a.eval (.const .nilIface)= .nilIface:=rfl
     cases neg<;>simp[execOp,h1,hc,eqGuard,binOp,e2]
    ·rename_i hp
     cases h
     obtain⟨t',u,h1⟩:=(jag hI hx hp).someI
     have e1:∀d,(Op.equalIn (d+1) t (.iface t' u) .nilIface).run P w= .ok false w:=fun d=>by simp[Op.equalIn,run_underlying ht']
     have e2:(Op.equal t (.iface t' u) .nilIface).run P w= .ok false w:=e1 9999
     refine Sim.pure hI hd (hlt d rfl) (v:= .bool neg) ?_ (RepP.repE (.bool _)).repAt
     have hc:a.eval (.const .nilIface)= .nilIface:=rfl
     cases neg<;>simp[execOp,h1,hc,eqGuard,binOp,e2]
    ·cases h
   |_=>simp[mOp] at hm
  |_=>simp[mOp] at hm
 |_=>simp[mOp] at hm
theorem sim_un {o:Oper} {d:Nat} {u:UnOp} {x:IX} (A:Asks P fi M w s a o (.un d u x)) (h:opStep cf s (.un d u x)=some s'):Sim P fi o M w s' a:=by
 obtain⟨dst,op,ty,pos,aft,gd⟩:=o
 obtain⟨hI,hm,hd,hlt⟩:=A
 cases op<;>simp[mOp] at hm
 obtain⟨rfl,hx⟩:=hm
 simp only[opStep,Option.bind_eq_some_iff,Option.map_eq_some_iff] at h
 obtain⟨p,hp,r,hr,rfl⟩:=h
 obtain⟨r',h1,h2⟩:=un_sim (P:=P) hr (jag hI hx hp)
 exact Sim.pure hI hd (hlt d rfl) (by simp[execOp,h1]) h2.repE.repAt
theorem jkc {o:Oper} {d f:Nat} {caps:List IX} (A:Asks P fi M w s a o (.mkfn d f caps)) (h:opStep cf s (.mkfn d f caps)=some s'):Sim P fi o M w s' a:=by
 obtain⟨dst,op,ty,pos,aft,gd⟩:=o
 obtain⟨hI,hm,hd,hlt⟩:=A
 cases op with
 | makeFunc fn first captured=>
  cases fn with
  | func F=>
   simp[mOp] at hm
   obtain⟨⟨hf,hfe⟩,hc⟩:=hm
   subst hfe
   simp only[opStep,Option.bind_eq_some_iff] at h
   obtain⟨vs,hv,h⟩:=h
   split at h
   ·rename_i hok
    cases h
    obtain⟨h1,h2⟩:=jbm hI hc hv
    refine Sim.pure hI hd (hlt d rfl) (v:= .func (.func F) #[] (captured.toList.map a.eval).toArray) ?_ (RepP.repE (.fn f F vs _ hf (by simpa using h1) hok fun i c v hcv hvv=>?_)).repAt
    ·have hcap:Array.map a.eval captured=(List.map a.eval captured.toList).toArray:=by apply Array.ext';simp
     simp[execOp,Instr.makeFunc,hcap]
    ·simp only[List.getElem?_map,Option.map_eq_some_iff] at hvv
     obtain⟨y,hy,rfl⟩:=hvv
     refine (h2 i c y hcv hy).repP ?_
     simp only[List.all_eq_true] at hok
     exact hok c (List.mem_of_getElem? hcv)
   ·cases h
  |_=>simp[mOp] at hm
 |_=>simp[mOp] at hm
theorem jkd {o:Oper} {d:Nat} (A:Asks P fi M w s a o (.mkmap d)) (h:opStep cf s (.mkmap d)=some s'):Sim P fi o M w s' a:=by
 obtain⟨dst,op,ty,pos,aft,gd⟩:=o
 obtain⟨hI,hm,hd,hlt⟩:=A
 cases op with
 | makeMap t r=>
  cases r with
  |none=>
   simp only[opStep,Option.some.injEq] at h
   subst h
   obtain⟨M',h1,h2⟩:=jjx hI (hlt d rfl)
   refine⟨_,.map (some w.heap.size),M',_,?_,.inl rfl,by rw[show dst=some d from hd];exact h1,h2⟩
   simp[execOp,Instr.makeMap]
  |some=>simp[mOp] at hm
 |_=>simp[mOp] at hm
theorem aggB {v:Value} (h:RepP fi M w (.agg [.nilp,.nils]) v):v= .agg #[.pointer none,.slice none 0 0]:=by
 cases h with
 | agg _ vs hl h=>
  match vs,hl,h with
  |[a,b],_,h=>
   have h0:=h 0 _ _ rfl rfl
   have h1:=h 1 _ _ rfl rfl
   cases h0
   cases h1
   rfl
theorem jke {o:Oper} {d:Nat} {x:IX} (A:Asks P fi M w s a o (.boxB d x)) (h:opStep cf s (.boxB d x)=some s'):Sim P fi o M w s' a:=by
 obtain⟨dst,op,ty,pos,aft,gd⟩:=o
 obtain⟨hI,hm,hd,hlt⟩:=A
 cases op<;>simp[mOp] at hm
 rename_i el y
 obtain⟨hT,hm⟩:=hm
 simp only[opStep] at h
 split at h
 ·rename_i hv
  simp only[Option.some.injEq] at h
  subst h
  have e:=aggB (jag hI hm hv)
  obtain⟨M',h1,h2⟩:=jjy hI (hlt d rfl) hT
  refine⟨_,.pointer (some ⟨w.heap.size,0,none⟩),M',_,?_,.inl rfl,by rw[show dst=some d from hd];exact h1,h2⟩
  simp[execOp,Instr.box,newVar,newRow,e]
  rfl
 ·cases h
theorem jdt {t:TypeId} {z:Nat} (h:isElem P t z=true):∃e,P.underlying t=some (.slice e)∧tySize P e=some z:=by
 unfold isElem at h
 split at h
 ·rename_i e hh;exact⟨e,hh,by simpa using h⟩
 ·cases h
theorem sb_of {hI:Inv fi M w s a} {x:Option IX} {y:Option Operand} (hm:mXo fi x y=true) {n l:Nat} (h:sliceBd s.env n x=some l):SB (y.map a.eval) n l:=by
 cases x with
 |none=>
  cases y with
  |none=>simp[sliceBd] at h;subst h;exact .inl ⟨rfl,rfl⟩
  |some=>simp[mXo] at hm
 | some x=>
  cases y with
  |none=>simp[mXo] at hm
  | some y=>
   simp only[sliceBd] at h
   split at h
   ·rename_i k i hp
    split at h
    ·rename_i h0
     cases h
     refine .inr ⟨k,?_⟩
     have:=(jag hI (by simpa [mXo] using hm) hp).int
     simp[this];omega
    ·cases h
   ·cases h
theorem jkf {o:Oper} {d z:Nat} {x:IX} {lo hi:Option IX} (A:Asks P fi M w s a o (.slice d z x lo hi)) (h:opStep cf s (.slice d z x lo hi)=some s'):Sim P fi o M w s' a:=by
 obtain⟨dst,op,ty,pos,aft,gd⟩:=o
 obtain⟨hI,hm,hd,hlt⟩:=A
 cases op with
 | slice t y lo' hi' mx=>
  cases mx with
  |some=>simp[mOp] at hm
  | none=>
   simp[mOp] at hm
   obtain⟨⟨⟨he,hx⟩,hlo⟩,hhi⟩:=hm
   obtain⟨e,ht,hz⟩:=jdt he
   simp only[opStep] at h
   split at h
   ·rename_i ow z' xs hp
    simp only[Option.bind_eq_some_iff] at h
    obtain⟨hh,hh1,l,hl1,h⟩:=h
    split at h
    ·rename_i hc
     obtain⟨c1,c2,rfl⟩:=hc
     cases h
     have hx':=jag hI hx hp
     obtain⟨A,c,hv,hcl⟩:=hx'.slC
     rw[hv] at hx'
     refine Sim.pure hI hd (hlt d rfl) ?_ (jjc hx' c1 c2 hcl).repE.repAt
     have:=jbn (P:=P) ht hz (sb_of (hI:=hI) hlo hl1) (sb_of (hI:=hI) hhi hh1) c1 (Nat.le_trans c2 hcl) (A:=A) w
     simp[execOp,hv,this]
    ·cases h
   ·rename_i g b off n z' hp
    simp only[Option.bind_eq_some_iff] at h
    obtain⟨hh,hh1,l,hl1,h⟩:=h
    split at h
    ·rename_i hc
     obtain⟨c1,c2,rfl⟩:=hc
     cases h
     have hx':=jag hI hx hp
     have fin:∀(A:Option Addr) (c:Nat),a.eval y= .slice A n c→n≤c→RepE fi M w (.bs g b (off+l*z) (hh-l) z) (.slice (if c=l then A else A.map (·.add (l*z))) (hh-l) (c-l))→Sim P fi ⟨dst,.slice t y lo' hi' none,ty,pos,aft,gd⟩ M w (s.put d (.bs g b (off+l*z) (hh-l) z)) a:=by
      intro A c hv hc hr
      refine Sim.pure hI hd (hlt d rfl) ?_ hr.repAt
      have:=jbn (P:=P) ht hz (sb_of (hI:=hI) hlo hl1) (sb_of (hI:=hI) hhi hh1) c1 (Nat.le_trans c2 hc) (A:=A) w
      simp[execOp,hv,this]
     have adr:∀(A:Option Addr) (blk c:Nat),n≤c→(n=0∨A=some ⟨blk,off,none⟩)→(hh-l=0∨(if c=l then A else A.map (·.add (l*z)))=some ⟨blk,off+l*z,none⟩):=by
      intro A blk c hc hA
      by_cases h0:hh-l=0
      ·exact .inl h0
      ·right
       rw[if_neg (by omega)]
       rcases hA with hA|rfl
       ·omega
       ·simp[jaz]
     cases g with
     |true=>
      generalize hu:a.eval y=u at hx'
      cases (show RepP fi M w (.bs true b off n z) u from hx') with
      |bs _ _ _ _ A c blk hb hA hc=>exact fin A c hu hc (RepP.repE (.bs b _ _ z _ _ blk hb (adr A blk c hc hA) (by omega)))
     |false=>
      obtain⟨blk,A,c,hb,hv,hA,hc⟩:=hx'
      exact fin A c hv hc ⟨blk,_,_,hb,rfl,adr A blk c hc hA,by omega⟩
    ·cases h
   ·rename_i b gen n hp
    split at h
    ·rename_i hlon
     simp only[Option.bind_eq_some_iff] at h
     obtain⟨hh,hh1,h⟩:=h
     split at h
     ·rename_i hc
      obtain⟨c2,rfl⟩:=hc
      cases h
      have hx':=jag hI hx hp
      generalize hu:a.eval y=u at hx'
      have hl0:lo=none:=by simpa using hlon
      subst hl0
      cases (show RepP fi M w (.stk b gen n) u from hx') with
      |stk _ _ _ blk c hb hg hA hc=>
       have:=jbn (P:=P) ht hz (sb_of (hI:=hI) hlo (show sliceBd s.env 0 none=some 0 from rfl)) (sb_of (hI:=hI) hhi hh1) (Nat.zero_le _) (Nat.le_trans c2 hc) (A:=some ⟨blk,0,none⟩) w
       refine Sim.pure hI hd (hlt d rfl) (v:= .slice (some ⟨blk,0,none⟩) hh c) ?_ (RepP.repE (.stk b gen hh blk c hb hg hA (by omega))).repAt
       have e:(⟨blk,0,none⟩:Addr).add (0*1)=⟨blk,0,none⟩:=rfl
       simp only[Option.map_some,e,ite_self,Nat.sub_zero] at this
       simp[execOp,hu,this]
     ·cases h
    ·simp only[Option.bind_eq_some_iff] at h
     obtain⟨hh,hh1,l,hl1,h⟩:=h
     split at h
     ·rename_i hc
      obtain⟨c1,c2,rfl⟩:=hc
      cases h
      have hx':=jag hI hx hp
      generalize hu:a.eval y=u at hx'
      cases (show RepP fi M w (.stk b gen n) u from hx') with
      | stk _ _ _ blk c hb hg hA hc=>
       have:=jbn (P:=P) ht hz (sb_of (hI:=hI) hlo hl1) (sb_of (hI:=hI) hhi hh1) c1 (Nat.le_trans c2 hc) (A:=some ⟨blk,0,none⟩) w
       refine Sim.pure hI hd (hlt d rfl) (p:= .sub b gen l (hh-l)) (v:= .slice (if c=l then some ⟨blk,0,none⟩ else (some ⟨blk,0,none⟩:Option Addr).map (·.add (l*1))) (hh-l) (c-l)) (by simp[execOp,hu,this]) (RepP.repE (.sub b gen l (hh-l) blk (c-l) _ hb hg (fun e=>⟨(hA e).1,by have:=(hA e).2;omega⟩) (by omega) ?_)).repAt
       by_cases h0:hh-l=0
       ·exact .inl h0
       ·right
        rw[if_neg (by omega)]
        simp[jaz]
     ·cases h
   ·rename_i b gen off n hp
    simp only[Option.bind_eq_some_iff] at h
    obtain⟨hh,hh1,l,hl1,h⟩:=h
    split at h
    ·rename_i hc
     obtain⟨c1,c2,rfl⟩:=hc
     cases h
     have hx':=jag hI hx hp
     generalize hu:a.eval y=u at hx'
     cases (show RepP fi M w (.sub b gen off n) u from hx') with
     | sub _ _ _ _ blk c A hb hg hA hc hAd=>
      have:=jbn (P:=P) ht hz (sb_of (hI:=hI) hlo hl1) (sb_of (hI:=hI) hhi hh1) c1 (Nat.le_trans c2 hc) (A:=A) w
      refine Sim.pure hI hd (hlt d rfl) (p:= .sub b gen (off+l) (hh-l)) (v:= .slice (if c=l then A else A.map (·.add (l*1))) (hh-l) (c-l)) (by simp[execOp,hu,this]) (RepP.repE (.sub b gen (off+l) (hh-l) blk (c-l) _ hb hg (fun e=>⟨(hA e).1,by have:=(hA e).2;omega⟩) (by omega) ?_)).repAt
      by_cases h0:hh-l=0
      ·exact .inl h0
      ·right
       rw[if_neg (by omega),hAd.resolve_left (by omega)]
       simp[jaz]
    ·cases h
   ·cases h
 |_=>simp[mOp] at hm
theorem ptr_of {g:Bool} {b off:Nat} {v:Value} (h:RepE fi M w (.ptr g b off) v):∃blk,v= .pointer (some ⟨blk,off,none⟩)∧∀off',RepE fi M w (.ptr g b off') (.pointer (some ⟨blk,off',none⟩)):=by
 cases g with
 |true=>
  cases (show RepP fi M w (.ptr true b off) v from h) with
  |ptr _ _ blk hb=>exact⟨blk,rfl,fun off'=>RepP.repE (.ptr b off' blk hb)⟩
 |false=>obtain⟨blk,h1,h2⟩:=h;exact⟨blk,h2,fun off'=>⟨blk,h1,rfl⟩⟩
theorem ep_of {e:PV} {off:Nat} {v:Value} (h:RepE fi M w (.ep e off) v):∃blk o,v= .pointer (some ⟨blk,o+off,none⟩)∧∀off',RepE fi M w (.ep e off') (.pointer (some ⟨blk,o+off',none⟩)):=by
 cases (show RepP fi M w (.ep e off) v from h) with
 |ep _ _ b o vf h1 hm hr=>exact⟨b,o,rfl,fun off'=>RepP.repE (.ep e off' b o vf h1 hm hr)⟩
theorem jkg {o:Oper} {d off:Nat} {x:IX} (A:Asks P fi M w s a o (.faddr d x off)) (h:opStep cf s (.faddr d x off)=some s'):Sim P fi o M w s' a:=by
 obtain⟨dst,op,ty,pos,aft,gd⟩:=o
 obtain⟨hI,hm,hd,hlt⟩:=A
 cases op<;>simp[mOp] at hm
 rename_i t y fld
 obtain⟨hx,hm⟩:=hm
 split at hm
 ·rename_i fs ht
  split at hm
  ·rename_i f hf
   simp at hm
   obtain⟨ho,hn⟩:=hm
   split at hn
   ·rename_i n hsz
    simp at hn
    simp only[opStep] at h
    split at h
    ·rename_i g b o' hp
     cases h
     obtain⟨blk,hv,hr⟩:=ptr_of (jag hI hx hp)
     exact Sim.pure hI hd (hlt d rfl) (by simp[execOp,hv,jfh (P:=P) ht hf ho hsz hn]) (hr _).repAt
    ·rename_i e o' hp
     cases h
     obtain⟨blk,o,hv,hr⟩:=ep_of (jag hI hx hp)
     refine Sim.pure hI hd (hlt d rfl) (v:= .pointer (some ⟨blk,o+(o'+off),none⟩)) ?_ (hr _).repAt
     simp[execOp,hv,jfh (P:=P) ht hf ho hsz hn,Nat.add_assoc]
    ·cases h
   ·cases hn
  ·cases hm
 ·cases hm
theorem jkh {o:Oper} {d z:Nat} {arr:Option Nat} {x i:IX} (A:Asks P fi M w s a o (.iaddr d z arr x i)) (h:opStep cf s (.iaddr d z arr x i)=some s'):Sim P fi o M w s' a:=by
 obtain⟨dst,op,ty,pos,aft,gd⟩:=o
 obtain⟨hI,hm,hd,hlt⟩:=A
 cases arr with
 | none=>
  cases op<;>simp[mOp] at hm
  rename_i t y j
  obtain⟨⟨he,hx⟩,hi⟩:=hm
  obtain⟨e,ht,hz⟩:=jdt he
  simp only[opStep] at h
  split at h
  ·rename_i k n hn
   have hiv:=(jag hI hi hn).int
   split at h
   ·rename_i ow z' xs hp _
    split at h
    ·rename_i hc
     obtain⟨h0,rfl⟩:=hc
     simp only[Option.map_eq_some_iff] at h
     obtain⟨el,hel,rfl⟩:=h
     obtain⟨r,h1,h2⟩:=jja (P:=P) (k:=k) ht hz (jag hI hx hp) h0 hel
     exact Sim.pure hI hd (hlt d rfl) (by simp[execOp,hiv,h1]) h2.repE.repAt
    ·cases h
   ·rename_i g b off m z' hp _
    split at h
    ·rename_i hc
     obtain⟨h0,h1,rfl⟩:=hc
     cases h
     have hx':=jag hI hx hp
     cases g with
     | true=>
      generalize hu:a.eval y=u at hx'
      cases (show RepP fi M w (.bs true b off m z) u from hx') with
      |bs _ _ _ _ A c blk hb hA hc=>
       have hA':=hA.resolve_left (by omega)
       subst hA'
       exact Sim.pure hI hd (hlt d rfl) (by simp[execOp,hiv,hu,jcp (P:=P) ht hz h0 h1]) (RepP.repE (.ptr b _ blk hb)).repAt
     |false=>
      obtain⟨blk,A,c,hb,hv,hA,hc⟩:=hx'
      have hA':=hA.resolve_left (by omega)
      subst hA'
      exact Sim.pure hI hd (hlt d rfl) (p:= .ptr false b (off+n.toNat*z)) (by simp[execOp,hiv,hv,jcp (P:=P) ht hz h0 h1]) (RepE.repAt ⟨blk,hb,rfl⟩)
    ·cases h
   ·rename_i hx;cases hx
   ·rename_i hx;cases hx
   ·rename_i b gen m hp _
    split at h
    ·rename_i hc
     obtain⟨h0,h1,rfl⟩:=hc
     cases h
     have hx':=jag hI hx hp
     generalize hu:a.eval y=u at hx'
     cases (show RepP fi M w (.stk b gen m) u from hx') with
     |stk _ _ _ blk c hb hg hA hc=>
      have hrun:=jcp (P:=P) (k:=k) (b:=blk) (o:=0) (c:=c) ht hz h0 h1 w
      rw[Nat.zero_add,Nat.mul_one] at hrun
      exact Sim.pure hI hd (hlt d rfl) (by simp[execOp,hiv,hu,hrun]) (RepP.repE (.pstk b gen n.toNat blk hb hg (fun e=>(hA e).1))).repAt
    ·cases h
   ·rename_i b gen off m hp _
    split at h
    ·rename_i hc
     obtain⟨h0,h1,rfl⟩:=hc
     cases h
     have hx':=jag hI hx hp
     generalize hu:a.eval y=u at hx'
     cases (show RepP fi M w (.sub b gen off m) u from hx') with
     |sub _ _ _ _ blk c A hb hg hA hc hAd=>
      have hA':=hAd.resolve_left (by omega)
      subst hA'
      have hrun:=jcp (P:=P) (k:=k) (b:=blk) (o:=off) (c:=c) ht hz h0 h1 w
      rw[Nat.mul_one] at hrun
      exact Sim.pure hI hd (hlt d rfl) (by simp[execOp,hiv,hu,hrun]) (RepP.repE (.pstk b gen (off+n.toNat) blk hb hg (fun e=>(hA e).1))).repAt
    ·cases h
   ·cases h
  ·cases h
 | some m=>
  cases op<;>simp[mOp] at hm
  rename_i t y j
  obtain⟨⟨hx,hi⟩,hm⟩:=hm
  split at hm
  ·rename_i m' e ht
   simp at hm
   obtain⟨rfl,hz⟩:=hm
   simp only[opStep] at h
   split at h
   ·rename_i k n hn
    have hiv:=(jag hI hi hn).int
    split at h
    ·rename_i hx;cases hx
    ·rename_i hx;cases hx
    ·rename_i g b o' m2 hp hmm
     cases hmm
     split at h
     ·rename_i hc
      cases h
      obtain⟨blk,hv,hr⟩:=ptr_of (jag hI hx hp)
      exact Sim.pure hI hd (hlt d rfl) (by simp[execOp,hiv,hv,jfg (P:=P) ht hz hc.1 hc.2]) (hr _).repAt
     ·cases h
    ·rename_i e' o' m2 hp hmm
     cases hmm
     split at h
     ·rename_i hc
      cases h
      obtain⟨blk,o,hv,hr⟩:=ep_of (jag hI hx hp)
      refine Sim.pure hI hd (hlt d rfl) (v:= .pointer (some ⟨blk,o+(o'+n.toNat*z),none⟩)) ?_ (hr _).repAt
      simp[execOp,hiv,hv,jfg (P:=P) ht hz hc.1 hc.2,Nat.add_assoc]
     ·cases h
    ·rename_i hx;cases hx
    ·rename_i hx;cases hx
    ·cases h
   ·cases h
  ·cases hm
end
end Go.Lw
end
