/-
  The texts that the proof stands on, part 9.
-/
import Derived.Test.YtmodipglnngghacGreatDoorExploreFindsH
set_option linter.unusedVariables false
set_option linter.unusedSimpArgs false
set_option linter.unnecessarySimpa false

set_option maxRecDepth 100000
set_option maxHeartbeats 4000000
namespace Go.Lw
open Go
def gH:PV->Value->Bool
 | .int k n,.int k' m=>decide (k=k')&&decide (n=m)
 | .bool a,.bool b=>a==b
 | .str s,.string t=>decide (s.data.toList=t.data.toList)
 | .sl true _ [],.slice none 0 0=>true
 | .nilp,.pointer none=>true
 | .nilm,.map none=>true
 | .nilf,.nilFunc=>true
 | .nils,.slice none 0 0=>true
 | .nilI,.nilIface=>true
 |_,_=>false
def ik:List PV->List Value->Bool
 |[],[]=>true
 |c::l,v::m=>gH c v&&ik l m
 |_,_=>false
def cOk:PV->Value->Bool
 | .agg cs,.agg vs=>ik cs vs.toList
 |p,v=>gH p v
def mX (fi:FI):IX->Operand->Bool
 | .t n,.tmp m=>n==m
 | .c p,.const v=>cOk p v
 | .f id,.func F=>fi id==some F
 |_,_=>false
def mXs (fi:FI):List IX->List Operand->Bool
 |[],[]=>true
 |x::l,o::m=>mX fi x o&&mXs fi l m
 |_,_=>false
section
variable {fi:FI} {M M':Mem} {w w':World} {P:Program}
theorem oQ (l:Loc) (z:Nat):OwnRep fi M w l z [] (.slice none 0 0):=
 ⟨.sl z [] none 0 0 0 (λ_=>undef) (.inl rfl) (by simp) (by simp) (by simp) (by simp) (by simp),.inl rfl⟩
theorem lU {p:PV} {v:Value} (h:gH p v=true) (l:Loc):RepC fi M w l p v:=by
 unfold gH at h;split at h<;>try (simp at h)
 ·obtain⟨rfl,rfl⟩:=h;exact .int _ _
 ·subst h;exact .bool _
 ·rename_i s t
  have:s=t:=by cases s;cases t;simp at h;rw[h]
  subst this;exact .str _
 ·exact oQ l _
 ·exact .nilp
 ·exact .nilm
 ·exact .nilf
 ·exact .nils
 ·exact .nilI
theorem lV {cs:List PV} {vs:List Value} (h:ik cs vs=true):vs.length=cs.length/\∀(i:Nat) (c:PV) (u:Value),cs[i]?=some c->vs[i]?=some u->gH c u=true:=by
 induction cs generalizing vs with
 |nil=>cases vs with
  |nil=>simp
  |cons=>simp[ik] at h
 | cons c l ih=>cases vs with
  |nil=>simp[ik] at h
  |cons v m=>
   simp only[ik,aX] at h;obtain⟨h1,h2⟩:=ih h.2;refine⟨by simp[h1],λi c' u hc hu=>?_⟩;cases i with
   |zero=>simp at hc hu;subst hc;subst hu;exact h.1
   |succ i=>exact h2 i c' u (by simpa using hc) (by simpa using hu)
theorem iK {p:PV} {v:Value} (h:cOk p v=true) (mk:Nat->Loc):RepAt fi M w mk p v:=by
 unfold cOk at h;split at h
 ·rename_i cs vs
  obtain⟨h1,h2⟩:=lV h;exact⟨vs.toList,by simp,h1,λi c u hc hu=>lU (h2 i c u hc hu) _⟩
 ·have:=lU (fi:=fi) (M:=M) (w:=w) h (mk 0)
  unfold gH at h;split at h<;>first|exact this|simp at h
theorem oR {p:PV} {v:Value} (h:cOk p v=true):RepP fi M w (degr p) v:=by
 have h1:=(iK (fi:=fi) (M:=M) (w:=w) h (Loc.env 0)).degr;refine h1.repP ?_;unfold cOk at h;split at h
 ·rename_i cs vs
  obtain⟨hl,h2⟩:=lV h;simp only[degr,PV.cells,bS,List.mem_map];rintro x ⟨c,hc,rfl⟩;obtain⟨i,hi,hx⟩:=cG.1 hc;have hu:vs.toList[i]?=some (vs.toList[i]'(by omega)):=aA (by omega);have:=h2 i c _ (by rw[aA hi,hx]) hu;unfold gH at this;split at this<;>first|rfl|simp at this
 ·unfold gH at h
  split at h<;>first|rfl|simp at h
theorem ec (e:List (Nat×PV)) (d t:Nat) (v:PV):get (put e d v) t=if d=t then some v else get e t:=by
 induction e with
 |nil=>simp[put,get]
 | cons x l ih=>
  obtain⟨a,u⟩:=x;simp only[put];by_cases h:a=d
  ·subst h;simp[get]
   by_cases h2:a=t<;>simp[h2]
  ·simp only[h,if_false,get,ih]
   by_cases h2:a=t
   ·subst h2;simp;intro h3;exact absurd h3.symm h
   ·simp[h2]
theorem bc {s:St} {a:Act} (hI:Inv fi M w s a) {x:IX} {o:Operand} (hm:mX fi x o=true) {p:PV} (h:ai s.env x=some p):RepE fi M w p (a.eval o):=by
 unfold mX at hm;split at hm
 ·simp at hm;subst hm
  simp only[ai,aE] at h;obtain⟨v,hv,rfl⟩:=h;exact (hI.env _ _ hv).2.degr
 ·simp only[ai,bU] at h
  subst h;exact (oR hm).repE
 ·simp only[ai,bU] at h
  subst h;exact RepP.repE (.fn _ _ [] [] (by simpa using hm) rfl rfl (by simp))
 ·cases hm
theorem oU {s:St} {a:Act} (hI:Inv fi M w s a) {x:IX} {o:Operand} (hm:mX fi x o=true) {p:PV} (h:fN s.env x=some p) (mk:Nat->Loc):RepAt fi M w mk p (a.eval o):=by
 cases x with
 |t n=>exact (bc hI hm (x:= .t n) h).repAt
 |f id=>exact (bc hI hm (x:= .f id) h).repAt
 |c v=>
  cases o with
  |const u=>simp only[fN,bU] at h;subst h;exact iK hm mk
  |_=>simp[mX] at hm
theorem il {s:St} {a:Act} (hI:Inv fi M w s a):∀{xs:List IX} {os:List Operand} {ps:List PV},mXs fi xs os=true->cv s.env xs=some ps->
  os.length=ps.length/\∀(i:Nat) (p:PV) (o:Operand),ps[i]?=some p->os[i]?=some o->RepE fi M w p (a.eval o)
 |[],[],ps,_,h=>by simp[cv] at h;subst h;simp
 |[],_::_,_,hm,_=>by simp[mXs] at hm
 |_::_,[],_,hm,_=>by simp[mXs] at hm
 |x::l,o::m,ps,hm,h=>by
  simp only[mXs,aX] at hm;simp only[cv,aC,aE] at h;obtain⟨p,hp,ps',hps,rfl⟩:=h;obtain⟨h1,h2⟩:=il hI hm.2 hps;refine⟨by simp[h1],λi q o' hq ho=>?_⟩;cases i with
  |zero=>simp at hq ho;subst hq;subst ho;exact bc hI hm.1 hp
  |succ i=>exact h2 i q o' (by simpa using hq) (by simpa using ho)
def Sim (P:Program) (fi:FI) (o:Oper) (M:Mem) (w:World) (s':St) (a:Act):Prop:=
 ∃(n:Next) (v:Value) (M':Mem) (w':World),(execOp a.eval o).run P w= .ok n w'/\(n= .value v\/n= .skip/\v=undef)/\Inv fi M' w' s' (a.put o.dst v)/\Kp M w M' w'
theorem uA (t:Array Value) (d k:Nat) (v:Value):(t.setIfInBounds d v).getD k undef=if d=k/\d<t.size then v else t.getD k undef:=by
 simp only[cJ,Array.getElem?_setIfInBounds];by_cases h:d=k
 ·subst h
  by_cases h2:d<t.size
  ·simp[h2]
  ·simp[h2]
 ·simp[h]
theorem Inv.put {s:St} {a:Act} (hI:Inv fi M w s a) {d:Nat} (hd:d<a.tmps.size) {p:PV} {v:Value} (h:RepAt fi M w (Loc.env d) p v):Inv fi M w (s.put d p) (a.put (some d) v) where
 env:=λt q hq=>by
  simp only[St.put,ec] at hq;simp only[Act.put,Array.size_setIfInBounds,uA];by_cases hdt:d=t
  ·subst hdt
   simp only[if_true,bU] at hq;subst hq;simp[hd,h]
  ·simp only[hdt,if_false] at hq
   simp only[hdt,false_and,if_false];exact hI.env t q hq
 defers:=hI.defers
 lbl:=hI.lbl
 gbl:=hI.gbl
 nodup:=hI.nodup
 lh:=hI.lh
 gh:=hI.gh
 gl:=hI.gl
 immlt:=hI.immlt
 ownlt:=hI.ownlt
 gblt:=hI.gblt
theorem Sim.pure {o:Oper} {s:St} {a:Act} (hI:Inv fi M w s a) {d:Nat} (hdst:o.dst=some d) (hd:d<a.tmps.size) {p:PV} {v:Value}
  (hr:(execOp a.eval o).run P w= .ok (.value v) w) (h:RepAt fi M w (Loc.env d) p v):Sim P fi o M w (s.put d p) a:=
 ⟨_,v,M,w,hr,.inl rfl,by rw[hdst];exact hI.put hd h,Kp.refl M w⟩
end
def eA (P:Program) (t:TypeId):Option Bool:=
 match P.underlying t with
 |some (.struct _)=>some true
 |some (.array _ _)=>some true
 |some _=>some false
 |none=>none
def dn (P:Program) (t:TypeId):Option Nat:=(P.info? t).map (·.size)
section
variable {fi:FI} {M M':Mem} {w w':World} {P:Program}
theorem im {t:TypeId} {b:Bool} (h:eA P t=some b) (w:World):(isAgg t).run P w= .ok b w:=by
 unfold eA at h;cases hu:P.underlying t with
 |none=>simp[hu] at h
 |some d=>
  rw[hu] at h;cases d<;>simp at h<;>subst h<;>simp[isAgg,run_underlying hu]
theorem run_sizeOf' {t:TypeId} {n:Nat} (h:dn P t=some n) (w:World):(sizeOf t).run P w= .ok n w:=by unfold dn at h;obtain⟨i,hi,rfl⟩:=aE.1 h;simp[sizeOf,typeInfo,hi]
theorem RepE.int {k:IntKind} {n:Int} {v:Value} (h:RepE fi M w (.int k n) v):v= .int k n:=by cases (show RepP fi M w (.int k n) v from h);rfl
theorem RepE.bool {b:Bool} {v:Value} (h:RepE fi M w (.bool b) v):v= .bool b:=by cases (show RepP fi M w (.bool b) v from h);rfl
theorem RepE.str {s:ByteArray} {v:Value} (h:RepE fi M w (.str s) v):v= .string s:=by cases (show RepP fi M w (.str s) v from h);rfl
theorem RepE.nilI {v:Value} (h:RepE fi M w .nilI v):v= .nilIface:=by cases (show RepP fi M w .nilI v from h);rfl
theorem RepE.someI {v:Value} (h:RepE fi M w .someI v):∃t u,v= .iface t u:=by cases (show RepP fi M w .someI v from h);exact⟨_,_,rfl⟩
theorem RepE.agg {cs:List PV} {v:Value} (h:RepE fi M w (.agg cs) v):∃vs:List Value,v= .agg vs.toArray/\vs.length=cs.length/\
  ∀(i:Nat) (c:PV) (u:Value),cs[i]?=some c->vs[i]?=some u->RepP fi M w c u:=by
 cases (show RepP fi M w (.agg cs) v from h) with
 |agg _ vs hl hh=>exact⟨vs,rfl,hl,hh⟩
theorem RepE.tup {cs:List PV} {v:Value} (h:RepE fi M w (.tup cs) v):∃vs:List Value,v= .tuple vs.toArray/\vs.length=cs.length/\
  ∀(i:Nat) (c:PV) (u:Value),cs[i]?=some c->vs[i]?=some u->RepP fi M w c u:=by
 cases (show RepP fi M w (.tup cs) v from h) with
 |tup _ vs hl hh=>exact⟨vs,rfl,hl,hh⟩
theorem kj {op:BinOp} {p q r:PV} {u v:Value} {t:TypeId} {x y:Operand} (h:fp op p q=some r) (hx:RepE fi M w p u) (hy:RepE fi M w q v) :
  ∃r',(eqGuard op t x y u v).run P w= .ok () w/\(binOp op t u v).run P w= .ok r' w/\RepP fi M w r r':=by
 unfold fp at h;split at h
 ·rename_i k a k' b
  obtain rfl:=hx.int;obtain rfl:=hy.int;have hG:(eqGuard op t x y (.int k a) (.int k' b)).run P w= .ok () w:=by cases op<;>simp[eqGuard]
  refine Exists.imp (λr' hr'=>⟨hG,hr'⟩) ?_
  cases op<;>simp only at h<;>first
   | (split at h
      ·cases h
      ·rename_i hb;cases h
       refine⟨_,?_,RepP.int _ _⟩;simp[binOp,Op.shift,hb])
   | (split at h
      ·rename_i hk;subst hk
       split at h
       ·cases h
       ·rename_i hb
        cases h;refine⟨_,?_,RepP.int _ _⟩;simp[binOp,Op.intDiv,hb]
      ·cases h)
   | (split at h
      ·rename_i hk;subst hk
       cases h;refine⟨_,?_,RepP.int _ _⟩;simp[binOp,Op.intArith,Op.intBits]
      ·cases h)
   | (split at h
      ·rename_i hk;subst hk
       cases h;refine⟨_,?_,RepP.bool _⟩;simp[binOp,Op.intCmp]
      ·cases h)
   |cases h
 ·rename_i a b
  obtain rfl:=hx.str;obtain rfl:=hy.str;have hG:(eqGuard op t x y (.string a) (.string b)).run P w= .ok () w:=by cases op<;>simp[eqGuard]
  refine Exists.imp (λr' hr'=>⟨hG,hr'⟩) ?_
  cases op<;>simp only at h<;>first
   | (split at h
      ·cases h
      ·rename_i hb;cases h
       refine⟨_,?_,RepP.str _⟩;simp only[binOp,Op.stringOp,if_neg hb,Sem.run_pure])
   | (cases h
      refine⟨_,?_,RepP.bool _⟩;simp[binOp,Op.stringOp])
   |cases h
 ·cases h
theorem uC {op:UnOp} {p r:PV} {u:Value} (h:ke op p=some r) (hx:RepE fi M w p u):∃r',(Op.unary op u).run P w= .ok r' w/\RepP fi M w r r':=by
 unfold ke at h;split at h
 ·obtain rfl:=hx.int;cases h
  refine⟨_,?_,RepP.int _ _⟩;simp[Op.unary,Op.intArith]
 ·obtain rfl:=hx.int;cases h
  refine⟨_,?_,RepP.int _ _⟩;simp[Op.unary,Op.intBits]
 ·obtain rfl:=hx.bool;cases h
  refine⟨_,?_,RepP.bool _⟩;simp[Op.unary]
 ·cases h
end
section
variable {fi:FI} {M M':Mem} {w w':World} {P:Program}
theorem eV (b o n:Nat):(⟨b,o,none⟩:Addr).add n=⟨b,o+n,none⟩:=by unfold Addr.add;split<;>simp_all
theorem uD {agg:Bool} {k off:Nat} {cs:List PV} {vs:List Value} {p:PV} {t:TypeId} (h:aq agg k off cs=some p) (hl:vs.length=cs.length)
  (hv:∀(i:Nat) (c:PV) (u:Value),cs[i]?=some c->vs[i]?=some u->RepP fi M w c u) (ht:eA P t=some agg) (hs:agg=true->dn P t=some k) :
  ∃r,(part t vs.toArray off).run P w= .ok r w/\RepP fi M w p r:=by
 unfold aq at h;cases agg with
 | true=>
  simp only[if_true] at h;split at h
  ·rename_i hk
   cases h;refine⟨.agg ((vs.drop off).take k).toArray,?_,RepP.agg _ _ (by simp[hl]) λi c u hc hu=>?_⟩
   ·simp[part,im ht,run_sizeOf' (hs rfl)]
   ·rw[cE] at hc hu
    split at hc
    ·rename_i hi
     rw[if_pos hi] at hu;rw[List.getElem?_drop] at hc hu;exact hv _ _ _ hc hu
    ·cases hc
  ·cases h
 |false=>
  simp only[bP,if_false] at h;have hlt:off<vs.length:=by rw[hl];exact (aD.1 h).1
  refine⟨vs[off],?_,hv off p _ h (aA hlt)⟩;simp[part,im ht,hlt]
theorem RepE.slC {z:Nat} {xs:List PV} {v:Value} {o:Bool} (h:RepE fi M w (.sl o z xs) v):∃A c,v= .slice A xs.length c/\xs.length<=c:=by
 cases (show RepP fi M w (.sl o z xs) v from h) with
 |sl _ _ A c=>exact⟨A,c,rfl,by assumption⟩
theorem uE {t e:TypeId} {z:Nat} {xs:List PV} {i:Int} {k:IntKind} {o:Bool} {el:PV} {v:Value} (ht:P.underlying t=some (.slice e)) (hs:dn P e=some z)
  (hx:RepE fi M w (.sl o z xs) v) (h0:0<=i) (he:xs[i.toNat]?=some el):∃r,(Instr.indexAt t v (.int k i)).run P w= .ok r w/\RepP fi M w (.ep el 0) r:=by
 cases (show RepP fi M w (.sl o z xs) v from hx) with
 | sl _ _ A c b o vf hA hc hz h1 hm hr=>
  have hlt:=(aD.1 he).1;have hA':A=some ⟨b,o,none⟩:=hA.resolve_left (λh=>by subst h;simp at hlt);subst hA';have hi:i<(xs.length:Int):=by omega
  refine⟨.pointer (some ⟨b,o+i.toNat*z,none⟩),?_,RepP.ep el 0 b (o+i.toNat*z) (λj=>vf (i.toNat*z+j)) (h1 el (aP he)) (λj p hp=>?_) λj p hp=>hr _ _ _ _ he hp⟩
  ·simp[Instr.indexAt,asIntOf,run_underlying ht,h0,hi,run_sizeOf' hs,eV]
  ·have:=hm _ _ _ _ he hp
   rw[Nat.add_assoc];exact this
theorem oV {t e:TypeId} {z m:Nat} {i:Int} {k:IntKind} {b o:Nat} (ht:P.underlying t=some (.array m e)) (hs:dn P e=some z) (h0:0<=i) (hi:i<m) (w:World) :
  (Instr.indexAt t (.pointer (some ⟨b,o,none⟩)) (.int k i)).run P w= .ok (.pointer (some ⟨b,o+i.toNat*z,none⟩)) w:=by
 simp[Instr.indexAt,asIntOf,Instr.sureAddr,run_underlying ht,h0,hi,run_sizeOf' hs,eV]
theorem km {t e:TypeId} {z n c:Nat} {i:Int} {k:IntKind} {b o:Nat} (ht:P.underlying t=some (.slice e)) (hs:dn P e=some z) (h0:0<=i) (hi:i<n) (w:World) :
  (Instr.indexAt t (.slice (some ⟨b,o,none⟩) n c) (.int k i)).run P w= .ok (.pointer (some ⟨b,o+i.toNat*z,none⟩)) w:=by
 simp[Instr.indexAt,asIntOf,run_underlying ht,h0,hi,run_sizeOf' hs,eV]
theorem oZ {t:TypeId} {fs:Array Field} {fld off n:Nat} {f:Field} {b o:Nat} (ht:P.underlying t=some (.struct fs)) (hf:fs[fld]?=some f) (ho:f.offset=off)
  (hn:dn P f.type=some n) (h0:n≠0) (w:World):(Instr.fieldAt t (.pointer (some ⟨b,o,none⟩)) fld).run P w= .ok (.pointer (some ⟨b,o+off,none⟩)) w:=by
 simp[Instr.fieldAt,run_underlying ht,hf,Instr.sureAddr,fieldPlace,run_sizeOf' hn,h0,ho,eV]
theorem iM {ats:Array TypeId} {t e ty:TypeId} {A:Option Addr} {n c:Nat} (h0:ats[0]?=some t) (ht:P.underlying t=some (.slice e)) (w:World) :
  (Builtin.len_ ats ty #[.slice A n c]).run P w= .ok (.int .i64 n) w:=by
 simp[Builtin.len_,h0,run_underlying ht,goInt]
theorem uF {ats:Array TypeId} {t ty:TypeId} {s:ByteArray} (h0:ats[0]?=some t) (ht:P.underlying t=some .string) (w:World) :
  (Builtin.len_ ats ty #[.string s]).run P w= .ok (.int .i64 s.size) w:=by
 simp[Builtin.len_,h0,run_underlying ht,goInt]
def SB (v:Option Value) (d l:Nat):Prop:=(v=none/\l=d)\/∃k,v=some (.int k (l:Int))
theorem io {t e:TypeId} {z n c l h:Nat} {A:Option Addr} {lo hi:Option Value} (ht:P.underlying t=some (.slice e)) (hs:dn P e=some z) (hl:SB lo 0 l) (hh:SB hi n h)
  (h1:l<=h) (h2:h<=c) (w:World):(Instr.sliceAt t (.slice A n c) lo hi none).run P w= .ok (.slice (if c=l then A else A.map (·.add (l*z))) (h-l) (c-l)) w:=by
 have b1:∀k code,(Instr.sliceBound (.int k (l:Int)) h code).run P w= .ok l w:=λk code=>by rw[run_sliceBound w k (l:Int) h code (by omega) (by omega)];simp
 have b2:∀k code,(Instr.sliceBound (.int k (h:Int)) c code).run P w= .ok h w:=λk code=>by rw[run_sliceBound w k (h:Int) c code (by omega) (by omega)];simp
 rcases hl with ⟨rfl,rfl⟩|⟨k,rfl⟩<;>rcases hh with ⟨rfl,rfl⟩|⟨k',rfl⟩<;>simp[Instr.sliceAt,Instr.slice,Instr.sliceBounds,run_underlying ht,run_sizeOf' hs,b1,b2]
theorem o8 {z l h:Nat} {xs:List PV} {o:Bool} {A:Option Addr} {c:Nat} (hx:RepE fi M w (.sl o z xs) (.slice A xs.length c)) (h1:l<=h) (h2:h<=xs.length) (hc:xs.length<=c) :
  RepP fi M w (.sl false z ((xs.take h).drop l)) (.slice (if c=l then A else A.map (·.add (l*z))) (h-l) (c-l)):=by
 generalize hv:Value.slice A xs.length c=v at hx;cases (show RepP fi M w (.sl o z xs) v from hx) with
 | sl _ _ A' c' b o vf hA hc' hz h1' hm hr=>
  injection hv with e1 e2 e3
  subst e1;subst e3;have hlen:((xs.take h).drop l).length=h-l:=by simp;omega
  have hget:∀i e,((xs.take h).drop l)[i]?=some e->xs[l+i]?=some e:=λi e he=>by
   rw[List.getElem?_drop,cE] at he;split at he
   ·exact he
   ·cases he
  rw[<-hlen];refine RepP.sl z _ _ _ b (o+l*z) (λj=>vf (l*z+j)) ?_ (by rw[hlen];omega) (λe he=>hz e ?_) (λe he=>h1' e ?_) (λi e j p he hp=>?_) (λi e j p he hp=>?_)
  ·by_cases hcl:c=l
   ·left
    apply List.eq_nil_of_length_eq_zero;omega
   ·rw[if_neg hcl]
    rcases hA with rfl|rfl
    ·left;simp
    ·right;simp[eV]
  ·exact cH (List.mem_of_mem_drop he)
  ·exact cH (List.mem_of_mem_drop he)
  ·have:=hm _ _ _ _ (hget _ _ he) hp
   have e:o+((l+i)*z+j)=o+l*z+(i*z+j):=by rw[Nat.add_mul];omega
   rw[e] at this;have e2:(l+i)*z+j=l*z+(i*z+j):=by rw[Nat.add_mul];omega
   rw[e2] at this;exact this
  ·have:=hr _ _ _ _ (hget _ _ he) hp
   have e2:(l+i)*z+j=l*z+(i*z+j):=by rw[Nat.add_mul];omega
   rw[e2] at this;exact this
end
section
variable {fi:FI} {M M':Mem} {w w':World} {P:Program}
structure Good (M:Mem) (w:World) (M':Mem) (w':World) (xl:Loc->Prop) (xb:Nat->Prop):Prop where
 ext:Ext M w M' w'
 size:w.heap.size<=w'.heap.size
 lb:∀(i k:Nat),M.lb[i]?=some k->M'.lb[i]?=some k
 own:∀(b:Nat) (l:Loc),M.own b=some l->¬xl l->M'.own b=some l/\w'.heap[b]?=w.heap[b]?/\(∀k,¬M.imm b k->¬M'.imm b k)/\(b∉M.lb->b∉M'.lb)/\(b∉M.gb->b∉M'.gb)
 box:∀b,b<w.heap.size->¬xb b->M.own b=none->w'.heap[b]?=w.heap[b]?/\(∀k,¬M.imm b k->¬M'.imm b k)/\M'.own b=none
 st:∀i,¬xl (Loc.gh i 0)->M'.st i=M.st i
variable {xl:Loc->Prop} {xb:Nat->Prop}
theorem OwnRep.good (g:Good M w M' w' xl xb) {l:Loc} {z:Nat} {xs:List PV} {v:Value} (h:OwnRep fi M w l z xs v) (hl:¬xl l):OwnRep fi M' w' l z xs v:=by
 obtain⟨h1,h2⟩:=h;refine⟨h1.mono g.ext,?_⟩;rcases h2 with h2|⟨b,o,c,cs,e,hv,ho,hh,hs,hk,hb1,hb2⟩
 ·exact .inl h2
 ·obtain⟨g1,g2,g3,g4,g5⟩:=g.own b l ho hl
  exact .inr ⟨b,o,c,cs,e,hv,g1,by rw[g2];exact hh,hs,λk hk' hk2=>g3 k (hk k hk' hk2),g4 hb1,g5 hb2⟩
theorem ArrRep.good (g:Good M w M' w' xl xb) {l:Loc} {z:PV} {n:Nat} {v:Value} (h:ArrRep M w l z n v) (hl:¬xl l):ArrRep M' w' l z n v:=by obtain⟨h0,b,T,c,hv,hc,ho,hh,hk,hb1,hb2⟩:=h;obtain⟨g1,g2,g3,g4,g5⟩:=g.own b l ho hl;exact⟨h0,b,T,c,hv,hc,g1,by rw[g2];exact hh,λk=>g3 k (hk k),g4 hb1,g5 hb2⟩
theorem RepC.good (g:Good M w M' w' xl xb) {l:Loc} {p:PV} {v:Value} (h:RepC fi M w l p v) (hl:¬xl l):RepC fi M' w' l p v:=by
 unfold RepC at *;split at h
 ·exact OwnRep.good g h hl
 ·exact h.mono g.ext
theorem RepE.good (g:Good M w M' w' xl xb) {p:PV} {v:Value} (h:RepE fi M w p v):RepE fi M' w' p v:=by
 unfold RepE at *;split at h
 ·obtain⟨blk,h1,h2⟩:=h;exact⟨blk,g.lb _ _ h1,h2⟩
 ·obtain⟨blk,A,c,h1,h2⟩:=h;exact⟨blk,A,c,g.lb _ _ h1,h2⟩
 ·exact h.mono g.ext
theorem RepAt.good (g:Good M w M' w' xl xb) {mk:Nat->Loc} {p:PV} {v:Value} (h:RepAt fi M w mk p v) (hl:∀i,¬xl (mk i)):RepAt fi M' w' mk p v:=by
 unfold RepAt at *;split at h
 ·exact OwnRep.good g h (hl 0)
 ·exact ArrRep.good g h (hl 0)
 ·obtain⟨vs,h1,h2,h3⟩:=h
  exact⟨vs,h1,h2,λi c u hc hu=>(h3 i c u hc hu).good g (hl i)⟩
 ·obtain⟨vs,h1,h2,h3⟩:=h
  exact⟨vs,h1,h2,λi c u hc hu=>(h3 i c u hc hu).good g (hl i)⟩
 ·exact h.good g
theorem RepBox.good (g:Good M w M' w' xl xb) {mk:Nat->Loc} {blk:Nat} {cs:List PV} (h:RepBox fi M w mk blk cs) (hb:¬xb blk) (hl:∀i,¬xl (mk i)):RepBox fi M' w' mk blk cs:=by obtain⟨h1,h2,h3,h4,vs,T,h5,h6,h7⟩:=h;obtain⟨g1,g2,g3⟩:=g.box blk h1 hb h3;exact⟨aS h1 g.size,λk=>g2 k (h2 k),g3,h4,vs,T,by rw[g1];exact h5,h6,λi c u hc hu=>(h7 i c u hc hu).good g (hl i)⟩
theorem RepMap.good (g:Good M w M' w' xl xb) {blk:Nat} {es:List (PV×PV)} (h:RepMap fi M w blk es) (hb:¬xb blk):RepMap fi M' w' blk es:=by
 obtain⟨h1,h2,l,clock,h3,h4,h5⟩:=h;obtain⟨g1,_,g3⟩:=g.box blk h1 hb h2
 exact⟨aS h1 g.size,g3,l,clock,by rw[g1];exact h3,h4,λi e m he hm=>
  ⟨(h5 i e m he hm).1.mono g.ext,(h5 i e m he hm).2.1.mono g.ext,(h5 i e m he hm).2.2⟩⟩
theorem RepStk.good (g:Good M w M' w' xl xb) {i blk gen:Nat} {xs:List PV} (h:RepStk fi M w i blk gen xs) (hl:∀j,¬xl (Loc.gh i j)):RepStk fi M' w' i blk gen xs:=by obtain⟨h1,h2,h3,h4,h5,cs,T,h6,h7,h8,h9⟩:=h;obtain⟨g1,_⟩:=g.own blk _ h1 (hl 0);obtain⟨g2,g3,g4,_⟩:=g.own _ _ h3 (hl 0);have e:=g.st i (hl 0);exact⟨g1,by rw[e];exact h2,by rw[e];exact g2,λk=>by rw[e];exact g4 k (h4 k),h5,cs,T,by rw[e,g3];exact h6,by rw[e];exact h7,h8,λj x hj=>by obtain⟨u,hu,hr⟩:=h9 j x hj;exact⟨u,hu,hr.mono g.ext⟩⟩
theorem RepBld.good (g:Good M w M' w' xl xb) {i blk:Nat} {s:ByteArray} (h:RepBld fi M w i blk s) (hb:¬xb blk) (hl:∀j,¬xl (Loc.gh i j)):RepBld fi M' w' i blk s:=by
 obtain⟨h1,h2,h3,T,hT,h4⟩:=h;obtain⟨g1,g2,g3⟩:=g.box blk h1 hb h3;refine⟨aS h1 g.size,λk=>g2 k (h2 k),g3,T,hT,?_⟩;rcases h4 with ⟨e,h4⟩|⟨c,cap,cur,h5,h6,h7,h8,h9,h10,h11⟩
 ·exact .inl ⟨e,by rw[g1];exact h4⟩
 ·obtain⟨k1,k2,k3,k4,k5⟩:=g.own c _ h6 (hl 0)
  exact .inr ⟨c,cap,cur,by rw[g1];exact h5,k1,k4 h7,k5 h8,λk=>k3 k (h9 k),by rw[k2];exact h10,h11⟩
theorem RepObj.good (g:Good M w M' w' xl xb) {i blk:Nat} {o:GObj} (h:RepObj fi M w i blk o) (hb:¬xb blk) (hl:∀j,¬xl (Loc.gh i j)):RepObj fi M' w' i blk o:=by
 cases o with
 |cells cs=>exact RepBox.good (mk:=Loc.gh i) g h hb hl
 |map es=>exact RepMap.good g h hb
 |stk gen xs=>exact RepStk.good g h hl
 |bld s=>exact RepBld.good g h hb hl
 |lrec rdy y caps=>
  have g1:=g.box blk h.1 hb h.2.1;exact RepLoop.to h g.ext g1.1 g1.2.2 g.size
def Mem.rel (M:Mem) (f:Loc->Loc):Mem:={M with own:=λb=>(M.own b).map f }
theorem Ext.rel (M:Mem) (w:World) (f:Loc->Loc):Ext M w (M.rel f) w:=⟨λ_ _ h=>h,λ_ _ h=>h,λ_ _ _=>rfl,λ_ _=>⟨cN _,λ_=>rfl⟩⟩
theorem OwnRep.rel {l:Loc} {z:Nat} {xs:List PV} {v:Value} (h:OwnRep fi M w l z xs v) (f:Loc->Loc):OwnRep fi (M.rel f) w (f l) z xs v:=by
 obtain⟨h1,h2⟩:=h;refine⟨h1.mono (Ext.rel M w f),?_⟩;rcases h2 with h2|⟨b,o,c,cs,e,hv,ho,hr⟩
 ·exact .inl h2
 ·exact .inr ⟨b,o,c,cs,e,hv,by simp[Mem.rel,ho],hr⟩
theorem ArrRep.rel {l:Loc} {z:PV} {n:Nat} {v:Value} (h:ArrRep M w l z n v) (f:Loc->Loc):ArrRep (M.rel f) w (f l) z n v:=by obtain⟨h0,b,T,c,hv,hc,ho,hr⟩:=h;exact⟨h0,b,T,c,hv,hc,by simp[Mem.rel,ho],hr⟩
theorem RepC.rel {l l':Loc} {p:PV} {v:Value} (h:RepC fi M w l p v) (f:Loc->Loc) (hf:f l=l'):RepC fi (M.rel f) w l' p v:=by
 subst hf;unfold RepC at *;split at h
 ·exact OwnRep.rel h f
 ·exact h.mono (Ext.rel M w f)
theorem RepE.rel {p:PV} {v:Value} (h:RepE fi M w p v) (f:Loc->Loc):RepE fi (M.rel f) w p v:=by
 unfold RepE at *;split at h
 ·exact h
 ·exact h
 ·exact h.mono (Ext.rel M w f)
theorem RepAt.rel {mk mk':Nat->Loc} {p:PV} {v:Value} (h:RepAt fi M w mk p v) (f:Loc->Loc) (hf:∀i,f (mk i)=mk' i):RepAt fi (M.rel f) w mk' p v:=by
 unfold RepAt at *;split at h
 ·rw[<-hf 0];exact OwnRep.rel h f
 ·rw[<-hf 0];exact ArrRep.rel h f
 ·obtain⟨vs,h1,h2,h3⟩:=h
  exact⟨vs,h1,h2,λi c u hc hu=>(h3 i c u hc hu).rel f (hf i)⟩
 ·obtain⟨vs,h1,h2,h3⟩:=h
  exact⟨vs,h1,h2,λi c u hc hu=>(h3 i c u hc hu).rel f (hf i)⟩
 ·exact h.rel f
theorem RepBox.rel {mk:Nat->Loc} {blk:Nat} {cs:List PV} (h:RepBox fi M w mk blk cs) (f:Loc->Loc) (hf:∀i,f (mk i)=mk i):RepBox fi (M.rel f) w mk blk cs:=by obtain⟨h1,h2,h3,h4,vs,T,h5,h6,h7⟩:=h;exact⟨h1,h2,by simp[Mem.rel,h3],h4,vs,T,h5,h6,λi c u hc hu=>(h7 i c u hc hu).rel f (hf i)⟩
theorem RepObj.rel {i blk:Nat} {o:GObj} (h:RepObj fi M w i blk o) (f:Loc->Loc) (hf:∀j,f (Loc.gh i j)=Loc.gh i j):RepObj fi (M.rel f) w i blk o:=by
 cases o with
 |cells cs=>exact RepBox.rel (mk:=Loc.gh i) h f hf
 |map es=>
  obtain⟨h1,h2,l,clock,h3,h4,h5⟩:=h;exact⟨h1,by simp[Mem.rel,h2],l,clock,h3,h4,λi e m he hm=>⟨(h5 i e m he hm).1.mono (Ext.rel M w f),(h5 i e m he hm).2.1.mono (Ext.rel M w f),(h5 i e m he hm).2.2⟩⟩
 | stk gen xs=>
  obtain⟨h1,h2,h3,h4,h5,cs,T,h6,h7,h8,h9⟩:=h;exact⟨by simp[Mem.rel,h1,hf],h2,by simp only[Mem.rel];rw[h3];simp[hf],h4,h5,cs,T,h6,h7,h8,λj x hj=>by obtain⟨u,hu,hr⟩:=h9 j x hj;exact⟨u,hu,hr.mono (Ext.rel M w f)⟩⟩
 |bld s=>
  obtain⟨h1,h2,h3,T,hT,h4⟩:=h;refine⟨h1,h2,by simp[Mem.rel,h3],T,hT,?_⟩;rcases h4 with h4|⟨c,cap,cur,h5,h6,h7⟩
  ·exact .inl h4
  ·exact .inr ⟨c,cap,cur,h5,by simp[Mem.rel,h6,hf],h7⟩
 |lrec rdy y caps=>exact RepLoop.to h (Ext.rel M w f) rfl (by simp[Mem.rel,h.2.1]) (cN _)
theorem Kp.rel (M:Mem) (w:World) (f:Loc->Loc):Kp M w (M.rel f) w where
 os:=rfl
 tape:=rfl
 output:=rfl
 size:=cN _
 ext:=Ext.rel M w f
 block:=λ_ _ _ _ _=>rfl
 lbn:=λ_ h=> .inl h
 gbn:=λ_ h=> .inl h
 ownn:=λk _ h=>by simp[Mem.rel,h]
 immn:=λ_ _ h=> .inl h
 ds:= .same rfl
theorem Inv.rel {s:St} {a:Act} (hI:Inv fi M w s a) (f:Loc->Loc) (e:List (Nat×PV)) (he:∀t v,get e t=some v->t<a.tmps.size/\RepAt fi (M.rel f) w (Loc.env t) v (a.tmps.getD t undef))
  (hl:∀i j,f (Loc.lh i j)=Loc.lh i j) (hg:∀i j,f (Loc.gh i j)=Loc.gh i j):Inv fi (M.rel f) w ⟨e,s.lh,s.gh⟩ a where
 env:=he
 defers:=hI.defers
 lbl:=hI.lbl
 gbl:=hI.gbl
 nodup:=hI.nodup
 lh:=λi cs blk h1 h2=>(hI.lh i cs blk h1 h2).rel f (hl i)
 gh:=λi o blk h1 h2=>(hI.gh i o blk h1 h2).rel f (hg i)
 gl:=hI.gl
 immlt:=hI.immlt
 ownlt:=λb l h=>by simp only[Mem.rel,aE] at h;obtain⟨l',h1,_⟩:=h;exact hI.ownlt b l' h1
 gblt:=hI.gblt
def iN (n:Nat):Loc->Loc
 | .env t i=>if t=n then .lim i else .env t i
 |l=>l
def gm (mk:Nat->Loc):Loc->Loc
 | .lim i=>mk i
 |l=>l
theorem jz {s:St} {a:Act} (hI:Inv fi M w s a) {x:IX} {o:Operand} (hm:mX fi x o=true) {v:PV} {e:List (Nat×PV)} (h:dD s.env x=some (v,e)) :
  ∃M1,Inv fi M1 w ⟨e,s.lh,s.gh⟩ a/\Kp M w M1 w/\RepAt fi M1 w Loc.lim v (a.eval o)/\M1.lb=M.lb/\M1.gb=M.gb/\M1.imm=M.imm:=by
 cases x with
 | t n=>
  cases o with
  | tmp m=>
   simp only[mX,cR] at hm;subst hm;simp only[dD,aE,bW] at h;obtain⟨v',hv,rfl,rfl⟩:=h;have hn:=hI.env n v' hv;refine⟨M.rel (iN n),hI.rel _ _ (λt u hu=>?_) (λ_ _=>rfl) (λ_ _=>rfl),Kp.rel M w _,hn.2.rel _ (λi=>by simp[iN]),rfl,rfl,rfl⟩;rw[ec] at hu;by_cases htn:n=t
   ·subst htn
    simp at hu;subst hu;exact⟨hn.1,(hn.2.degr.rel _).repAt⟩
   ·simp[htn] at hu
    exact⟨(hI.env t u hu).1,(hI.env t u hu).2.rel _ (λi=>by simp[iN,Ne.symm htn])⟩
  |_=>simp[mX] at hm
 | c p=>
  cases o with
  |const u=>
   simp only[dD,bU,bW] at h;obtain⟨rfl,rfl⟩:=h;exact⟨M,hI,Kp.refl M w,iK hm _,rfl,rfl,rfl⟩
  |_=>simp[mX] at hm
 | f id=>
  cases o with
  |func F=>
   simp only[dD,bU,bW] at h;obtain⟨rfl,rfl⟩:=h;exact⟨M,hI,Kp.refl M w,(bc hI (x:= .f id) hm rfl).repAt,rfl,rfl,rfl⟩
  |_=>simp[mX] at hm
theorem Inv.putLim {s:St} {a:Act} (hI:Inv fi M w s a) {d:Nat} (hd:d<a.tmps.size) {p:PV} {v:Value} (h:RepAt fi M w Loc.lim p v) :
  Inv fi (M.rel (gm (Loc.env d))) w (s.put d p) (a.put (some d) v)/\Kp M w (M.rel (gm (Loc.env d))) w:=by
 refine⟨Inv.put (s:=⟨s.env,s.lh,s.gh⟩) (hI.rel _ _ (λt u hu=>⟨(hI.env t u hu).1,(hI.env t u hu).2.rel _ (λi=>rfl)⟩) (λ_ _=>rfl) (λ_ _=>rfl)) hd (h.rel _ (λi=>rfl)),Kp.rel M w _⟩
end
section
open Go.RowKit
section
variable {fi:FI} {M M':Mem} {w w':World} {P:Program}
theorem RepP.cells1 {p:PV} {v:Value} (h:RepP fi M w p v) (h1:p.one=true):v.cells= #[v]/\v.oneCell'=true:=by cases h<;>first|(exact⟨rfl,rfl⟩)|(simp[PV.one] at h1)
theorem RepC.cells1 {l:Loc} {p:PV} {v:Value} (h:RepC fi M w l p v) (h1:p.one=true):v.cells= #[v]/\v.oneCell'=true:=by
 unfold RepC at h;split at h
 ·rcases h.2 with h|⟨b,o,c,cs,e,h,_⟩<;>subst h<;>exact⟨rfl,rfl⟩
 ·exact h.cells1 h1
theorem RepAt.cells {mk:Nat->Loc} {p:PV} {v:Value} (h:RepAt fi M w mk p v) (h1:ah p=true) :
  ∃vs:List Value,v.cells=vs.toArray/\vs.length=p.cells.length/\(∀(i:Nat) (c:PV) (u:Value),p.cells[i]?=some c->vs[i]?=some u->RepC fi M w (mk i) c u)/\∀u∈vs,u.oneCell'=true:=by
 have hall:∀c∈p.cells,c.one=true:=by simpa [ah] using h1
 have key:∀(vs:List Value),vs.length=p.cells.length->(∀(i:Nat) (c:PV) (u:Value),p.cells[i]?=some c->vs[i]?=some u->RepC fi M w (mk i) c u)->∀u∈vs,u.oneCell'=true:=by intro vs hl hv u hu;obtain⟨i,hi,hx⟩:=cG.1 hu;have hc:p.cells[i]?=some (p.cells[i]'(by omega)):=aA (by omega);exact ((hv i _ u hc (by rw[aA hi,hx])).cells1 (hall _ (bY _))).2
 have single:∀(q:PV),q.cells=[q]->q.one=true->RepC fi M w (mk 0) q v->∃vs:List Value,v.cells=vs.toArray/\vs.length=q.cells.length/\(∀(i:Nat) (c:PV) (u:Value),q.cells[i]?=some c->vs[i]?=some u->RepC fi M w (mk i) c u)/\∀u∈vs,u.oneCell'=true:=by
  intro q hq h1 hc;refine⟨[v],by simpa using (hc.cells1 h1).1,by simp[hq],λi c u hc' hu=>?_,by simpa using (hc.cells1 h1).2⟩;rw[hq] at hc';cases i with
  |zero=>simp at hc' hu;subst hc';subst hu;exact hc
  |succ i=>simp at hu
 unfold RepAt at h;split at h
 ·exact single _ rfl rfl h
 ·cases h1
 ·obtain⟨vs,rfl,hl,hv⟩:=h
  exact⟨vs,rfl,hl,hv,key vs hl hv⟩
 ·simp[ah,PV.cells,PV.one] at h1
 ·have hp:=h.repP h1
  rename_i g1 g4 g2 g3;have hq:p.cells=[p]:=by
   cases p with
   |agg cs=>exact absurd rfl (g2 cs)
   |_=>rfl
  exact single p hq (by simpa [ah,hq] using h1) hp.repC
theorem size_alloc' (w:World) (o:Obj):(w.alloc o).heap.size=w.heap.size+1:=by show (w.heap.push o).size=_;simp
theorem uH (w:World) (o:Obj) (b k:Nat) (h:b<w.heap.size):(w.alloc o).cell? ⟨b,k,none⟩=w.cell? ⟨b,k,none⟩:=
 World.cell?_of_block (w:=w) (a:=⟨b,k,none⟩) (Below.heap_alloc w o b h)
theorem Good.alloc {s:St} {a:Act} (hI:Inv fi M w s a) (o:Obj) (M':Mem) (l g:List Nat) (hl:M'.lb=M.lb++l) (hg:M'.gb=M.gb++g) (hl':∀k∈l,k=w.heap.size) (hg':∀k∈g,k=w.heap.size)
  (Z:Nat->Prop) (hi:∀b k,M'.imm b k↔M.imm b k\/(b=w.heap.size/\Z k)) (ho:∀b,b≠w.heap.size->M'.own b=M.own b) (hst:M'.st=M.st:=by rfl) (hds:M'.ds=M.ds:=by rfl) :
  Good M w M' (w.alloc o) (λ_=>False) (λ_=>False)/\Kp M w M' (w.alloc o):=by
 have hlt:∀b,b<w.heap.size->b≠w.heap.size:=λb h e=>by omega
 have hext:Ext M w M' (w.alloc o):=⟨λi k hk=>by
   rw[hg,aJ (aD.1 hk).1];exact hk,
  λb k hb=>(hi b k).2 (.inl hb),λb k hb=>uH w o b k (hI.immlt b k hb),λb _=>by rw[hst];exact⟨cN _,λ_=>rfl⟩⟩
 have hsz:w.heap.size<=(w.alloc o).heap.size:=by rw[size_alloc'];omega
 refine⟨⟨hext,hsz,λi k hk=>?_,λb l' hb _=>?_,λb hb _ hno=>?_,λi _=>by rw[hst]⟩,⟨rfl,rfl,rfl,hsz,hext,λk hk _ _ _=>Below.heap_alloc w o k hk,λk hk=>?_,λk hk=>?_,λk hk hno=>?_,λb k hb=>?_,.same hds⟩⟩
 ·rw[hl,aJ (aD.1 hk).1];exact hk
 ·have hb':=hI.ownlt b l' hb
  refine⟨by rw[ho b (hlt b hb')];exact hb,Below.heap_alloc w o b hb',λk hk h=>?_,λh1 h2=>?_,λh1 h2=>?_⟩
  ·rcases (hi b k).1 h with h|⟨h,_⟩
   ·exact hk h
   ·omega
  ·rw[hl,bZ] at h2
   rcases h2 with h2|h2
   ·exact h1 h2
   ·have:=hl' b h2;omega
  ·rw[hg,bZ] at h2
   rcases h2 with h2|h2
   ·exact h1 h2
   ·have:=hg' b h2;omega
 ·refine⟨Below.heap_alloc w o b hb,λk hk h=>?_,by rw[ho b (hlt b hb)];exact hno⟩
  rcases (hi b k).1 h with h|⟨h,_⟩
  ·exact hk h
  ·omega
 ·rw[hl,bZ] at hk
  rcases hk with hk|hk
  ·exact .inl hk
  ·exact .inr (by rw[hl' k hk];exact cN _)
 ·rw[hg,bZ] at hk
  rcases hk with hk|hk
  ·exact .inl hk
  ·exact .inr (.inl (by rw[hg' k hk];exact cN _))
 ·rw[ho k (hlt k hk)];exact hno
 ·rcases (hi b k).1 hb with h|⟨h,_⟩
  ·exact .inl h
  ·exact .inr (.inl (by omega))
theorem jA {l:List Nat} {n:Nat} (h:l.Nodup) (hn:n∉l):(l++[n]).Nodup:=by rw[cK];exact⟨h,by simp,λa ha b hb=>by simp at hb;subst hb;intro e;subst e;exact hn ha⟩
theorem gI {s:St} {a:Act} (hI:Inv fi M w s a):∀k∈M.lb,k<w.heap.size:=by
 intro k hk;obtain⟨i,hi,rfl⟩:=cG.1 hk;have h2:i<s.lh.length:=by rw[<-hI.lbl];exact hi
 exact (hI.lh i _ _ (aA h2) (aA hi)).1
theorem Inv.newBox {s:St} {a:Act} (hI:Inv fi M w s a) (g:Bool) {p:PV} {v:Value} (h:RepAt fi M w Loc.lim p v) (h1:ah p=true) (T:TypeId) :
  ∃M',Inv fi M' (w.alloc (.cells v.cells T)) (s.newBox g p.cells).1 a/\Kp M w M' (w.alloc (.cells v.cells T))/\
   RepE fi M' (w.alloc (.cells v.cells T)) (.ptr g (s.newBox g p.cells).2 0) (.pointer (some ⟨w.heap.size,0,none⟩)):=by
 obtain⟨vs,hc,hlen,hrep,_⟩:=h.cells h1;have hno:M.own w.heap.size=none:=by
  cases ho:M.own w.heap.size with
  |none=>rfl
  |some l=>exact absurd (hI.ownlt _ l ho) (by omega)
 have hni:∀k,¬M.imm w.heap.size k:=λk hk=>absurd (hI.immlt _ k hk) (by omega)
 have hnl:w.heap.size∉M.lb++M.gb:=by
  rw[bZ];rintro (hk|hk)
  ·exact absurd (gI hI _ hk) (by omega)
  ·exact absurd (hI.gblt _ hk) (by omega)
 have hall:∀c∈p.cells,c.one=true:=by simpa [ah] using h1
 generalize hW:w.alloc (.cells v.cells T)=W;cases g with
 | true=>
  let M1:Mem:={M with gb:=M.gb++[w.heap.size] }
  obtain⟨g1,k1⟩:=Good.alloc hI (.cells v.cells T) M1 [] [w.heap.size] (by simp[M1]) rfl (by simp) (by simp) (λ_=>False) (by simp[M1]) (λ_ _=>rfl);rw[hW] at g1 k1
  have hf:∀(i:Nat) (c:PV) (u:Value),p.cells[i]?=some c->vs[i]?=some u->RepC fi (M1.rel (gm (Loc.gh s.gh.length))) W (Loc.gh s.gh.length i) c u:=
   λi c u hc hu=>((hrep i c u hc hu).good g1 (by simp)).rel _ rfl
  refine⟨M1.rel (gm (Loc.gh s.gh.length)),?_,k1.trans (Kp.rel _ _ _),?_⟩
  ·refine⟨λt u hu=>⟨(hI.env t u hu).1,((hI.env t u hu).2.good g1 (by simp)).rel _ (λ_=>rfl)⟩,hI.defers,hI.lbl,by simp[St.newBox,M1,Mem.rel,hI.gbl],?_,?_,?_,g1.ext.gl hI.gl,?_,?_,?_⟩
   ·show (M.lb++(M.gb++[w.heap.size])).Nodup
    rw[<-aY];exact jA hI.nodup hnl
   ·exact λi cs blk hi hb=>((hI.lh i cs blk hi hb).good g1 (by simp) (by simp)).rel _ (λ_=>rfl)
   ·intro i o blk hi hb
    simp only[St.newBox,if_true] at hi;have hb':(M.gb++[w.heap.size])[i]?=some blk:=hb;by_cases hlt:i<s.gh.length
    ·rw[aJ hlt] at hi
     rw[aJ (by rw[hI.gbl];exact hlt)] at hb';exact ((hI.gh i o blk hi hb').good g1 (by simp) (by simp)).rel _ (λ_=>rfl)
    ·have hil:=(aD.1 hi).1
     simp at hil;obtain rfl:i=s.gh.length:=by omega
     simp at hi;subst hi;rw[aR (by rw[hI.gbl];exact cN _),hI.gbl] at hb';simp at hb';subst hb';refine⟨by rw[<-hW,size_alloc'];omega,λk=>hni k,by simp[Mem.rel,M1,hno],hall,vs,T,?_,hlen,hf⟩;rw[<-hW,hc];exact heap_alloc_new w _
   ·exact λb k hb=>aS (hI.immlt b k hb) k1.size
   ·intro b l hb
    simp only[Mem.rel,M1,aE] at hb;obtain⟨l',h2,_⟩:=hb;exact aS (hI.ownlt b l' h2) k1.size
   ·intro b hb
    have hb':b∈M.gb++[w.heap.size]:=hb;rw[<-hW];simp only[bZ,List.mem_singleton] at hb';rcases hb' with h2|h2
    ·have:=hI.gblt b h2;rw[size_alloc'];omega
    ·subst h2;rw[size_alloc'];omega
  ·refine RepP.repE (.ptr _ _ _ ?_)
   show (M.gb++[w.heap.size])[s.gh.length]?=some w.heap.size
   rw[aR (by rw[hI.gbl];exact cN _),hI.gbl];simp
 | false=>
  let M1:Mem:={M with lb:=M.lb++[w.heap.size] }
  obtain⟨g1,k1⟩:=Good.alloc hI (.cells v.cells T) M1 [w.heap.size] [] rfl (by simp[M1]) (by simp) (by simp) (λ_=>False) (by simp[M1]) (λ_ _=>rfl);rw[hW] at g1 k1
  have hf:∀(i:Nat) (c:PV) (u:Value),p.cells[i]?=some c->vs[i]?=some u->RepC fi (M1.rel (gm (Loc.lh s.lh.length))) W (Loc.lh s.lh.length i) c u:=
   λi c u hc hu=>((hrep i c u hc hu).good g1 (by simp)).rel _ rfl
  refine⟨M1.rel (gm (Loc.lh s.lh.length)),?_,k1.trans (Kp.rel _ _ _),?_⟩
  ·refine⟨λt u hu=>⟨(hI.env t u hu).1,((hI.env t u hu).2.good g1 (by simp)).rel _ (λ_=>rfl)⟩,hI.defers,by simp[St.newBox,M1,Mem.rel,hI.lbl],hI.gbl,?_,?_,?_,g1.ext.gl hI.gl,?_,?_,?_⟩
   ·show ((M.lb++[w.heap.size])++M.gb).Nodup
    have:=hI.nodup;rw[cK] at this ⊢;rw[bZ,not_or] at hnl;refine⟨jA this.1 hnl.1,this.2.1,λa ha b hb=>?_⟩;rw[bZ,List.mem_singleton] at ha;rcases ha with ha|ha
    ·exact this.2.2 a ha b hb
    ·subst ha;intro e;subst e;exact hnl.2 hb
   ·intro i cs blk hi hb
    simp only[St.newBox,bP,if_false] at hi;have hb':(M.lb++[w.heap.size])[i]?=some blk:=hb;by_cases hlt:i<s.lh.length
    ·rw[aJ hlt] at hi
     rw[aJ (by rw[hI.lbl];exact hlt)] at hb';exact ((hI.lh i cs blk hi hb').good g1 (by simp) (by simp)).rel _ (λ_=>rfl)
    ·have hil:=(aD.1 hi).1
     simp at hil;obtain rfl:i=s.lh.length:=by omega
     simp at hi;subst hi;rw[aR (by rw[hI.lbl];exact cN _),hI.lbl] at hb';simp at hb';subst hb';refine⟨by rw[<-hW,size_alloc'];omega,λk=>hni k,by simp[Mem.rel,M1,hno],hall,vs,T,?_,hlen,hf⟩;rw[<-hW,hc];exact heap_alloc_new w _
   ·exact λi o blk hi hb=>((hI.gh i o blk hi hb).good g1 (by simp) (by simp)).rel _ (λ_=>rfl)
   ·exact λb k hb=>aS (hI.immlt b k hb) k1.size
   ·intro b l hb
    simp only[Mem.rel,M1,aE] at hb;obtain⟨l',h2,_⟩:=hb;exact aS (hI.ownlt b l' h2) k1.size
   ·exact λb hb=>aS (hI.gblt b hb) k1.size
  ·show ∃blk,_/\_
   refine⟨w.heap.size,?_,rfl⟩
   show (M.lb++[w.heap.size])[s.lh.length]?=some w.heap.size
   rw[aR (by rw[hI.lbl];exact cN _),hI.lbl];simp
end
end
section
open Go.RowKit
section
variable {fi:FI} {M M':Mem} {w w':World} {P:Program}
theorem Inv.drew {s:St} {a:Act} (hI:Inv fi M w s a):Inv fi M w.drew s a/\Kp M w M w.drew:=by
 have g:Good M w M w.drew (λ_=>False) (λ_=>False):=⟨⟨λ_ _ h=>h,λ_ _ h=>h,λ_ _ _=>rfl,λ_ _=>⟨cN _,λ_=>rfl⟩⟩,cN _,λ_ _ h=>h,λb l h _=>⟨h,rfl,λ_ h=>h,id,id⟩,λb _ _ h=>⟨rfl,λ_ h=>h,h⟩,λ_ _=>rfl⟩
 exact⟨⟨λt u hu=>⟨(hI.env t u hu).1,(hI.env t u hu).2.good g (by simp)⟩,hI.defers,hI.lbl,hI.gbl,hI.nodup,λi cs blk h1 h2=>(hI.lh i cs blk h1 h2).good g (by simp) (by simp),
  λi o blk h1 h2=>(hI.gh i o blk h1 h2).good g (by simp) (by simp),hI.gl,hI.immlt,hI.ownlt,hI.gblt⟩,
  ⟨rfl,rfl,rfl,cN _,g.ext,λ_ _ _ _ _=>rfl,λ_ h=> .inl h,λ_ h=> .inl h,λ_ _ h=>h,λ_ _ h=> .inl h,.same rfl⟩⟩
theorem Inv.newOwn {s:St} {a:Act} (hI:Inv fi M w s a) {d:Nat} (hd:d<a.tmps.size) {z:Nat} {xs:List PV} (hz:∀e∈xs,e.cells.length=z) (h1:∀e∈xs,ah e=true)
  (us rest:List Value) (hus:us.length=xs.length*z) (hrep:∀(i:Nat) (e:PV) (j:Nat) (p:PV),xs[i]?=some e->e.cells[j]?=some p->∃u,us[i*z+j]?=some u/\RepP fi M w p u)
  (c:Nat) (hc:xs.length<=c) (hcap:c*z<=us.length+rest.length) (T:TypeId) (O:Array Value) (hO:O=(us++rest).toArray) :
  ∃M',Inv fi M' (w.alloc (.cells O T)) (s.put d (.sl true z xs)) (a.put (some d) (.slice (some ⟨w.heap.size,0,none⟩) xs.length c))/\Kp M w M' (w.alloc (.cells O T)):=by
 subst hO;have hnl:w.heap.size∉M.lb:=λhk=>absurd (gI hI _ hk) (by omega)
 have hng:w.heap.size∉M.gb:=λhk=>absurd (hI.gblt _ hk) (by omega)
 have hni:∀k,¬M.imm w.heap.size k:=λk hk=>absurd (hI.immlt _ k hk) (by omega)
 let M1:Mem:={M with imm:=λb k=>M.imm b k\/(b=w.heap.size/\k<xs.length*z),own:=λb=>if b=w.heap.size then some (Loc.env d 0) else M.own b }
 obtain⟨g1,k1⟩:=Good.alloc hI (.cells (us++rest).toArray T) M1 [] [] (by simp[M1]) (by simp[M1]) (by simp) (by simp) (λk=>k<xs.length*z) (λ_ _=>Iff.rfl) (λb hb=>by simp[M1,hb]);generalize hW:w.alloc (.cells (us++rest).toArray T)=W at *;have hcell:∀k,W.cell? ⟨w.heap.size,k,none⟩=(us++rest)[k]?:=λk=>by rw[<-hW,cell_of_row _ w.heap.size k (us++rest).toArray T (0,0) (heap_alloc_new w _)];simp
 have hR:RepP fi M1 W (.sl false z xs) (.slice (some ⟨w.heap.size,0,none⟩) xs.length c):=by
  refine RepP.sl z xs _ c w.heap.size 0 (λj=>us.getD j undef) (.inr rfl) hc hz h1 (λi e j p he hp=>?_) (λi e j p he hp=>?_)
  ·obtain⟨u,hu,_⟩:=hrep i e j p he hp
   have hlt:=(aD.1 hu).1;refine⟨.inr ⟨rfl,by omega⟩,?_⟩;rw[cO,hcell,aJ hlt,hu];simp[List.getD,hu]
  ·obtain⟨u,hu,hr⟩:=hrep i e j p he hp
   simp only[List.getD,hu,Option.getD_some];exact hr.mono g1.ext
 have hI1:Inv fi M1 W s a:=by
  refine⟨λt u hu=>⟨(hI.env t u hu).1,(hI.env t u hu).2.good g1 (by simp)⟩,hI.defers,hI.lbl,hI.gbl,hI.nodup,λi cs blk h1 h2=>(hI.lh i cs blk h1 h2).good g1 (by simp) (by simp),
   λi o blk h1 h2=>(hI.gh i o blk h1 h2).good g1 (by simp) (by simp),g1.ext.gl hI.gl,λb k hb=>?_,λb l hb=>?_,λb hb=>aS (hI.gblt b hb) k1.size⟩
  ·rcases hb with hb|⟨hb,_⟩
   ·exact aS (hI.immlt b k hb) k1.size
   ·subst hb;rw[<-hW,size_alloc'];omega
  ·simp only[M1] at hb
   split at hb
   ·rename_i hbe;subst hbe;rw[<-hW,size_alloc'];omega
   ·exact aS (hI.ownlt b l hb) k1.size
 refine⟨M1,hI1.put hd ?_,k1⟩
 show OwnRep fi M1 W (Loc.env d 0) z xs _
 refine⟨hR,.inr ⟨w.heap.size,0,c,(us++rest).toArray,T,rfl,by simp[M1],by rw[<-hW];exact heap_alloc_new w _,by simp;omega,λk hk _ h=>?_,hnl,hng⟩⟩;rcases h with h|⟨_,h⟩
 ·exact hni k h
 ·omega
theorem lW {t:TypeId} {agg:Bool} {k blk off:Nat} {vs:List Value} {T:TypeId} (ha:eA P t=some agg) (hs:agg=true->dn P t=some k)
  (hb:w.heap[blk]?=some (.cells vs.toArray T (0,0))) (hk:if agg then off+k<=vs.length else off<vs.length) :
  (loadVar t ⟨blk,off,none⟩).run P w= .ok (if agg then .agg ((vs.drop off).take k).toArray else vs.getD off undef) w:=by
 have hc:∀j,w.cell? ⟨blk,j,none⟩=vs[j]?:=λj=>by rw[cell_of_row w blk j _ T (0,0) hb];simp
 cases agg with
 | true=>
  simp only[if_true] at hk ⊢;have hl:((vs.drop off).take k).length=k:=by simp;omega
  have:=run_loadCells_list (P:=P) w ⟨blk,off,none⟩ ((vs.drop off).take k) (λj v hj=>by
   rw[eV,hc];rw[cE] at hj;split at hj
   ·rwa [List.getElem?_drop] at hj
   ·cases hj)
  rw[hl] at this;simp[loadVar,im ha,run_sizeOf' (hs rfl),this]
 |false=>
  simp only[bP,if_false] at hk ⊢;simp[loadVar,im ha,load,Sem.run,hc,hk,List.getD]
theorem ko {s:St} {a:Act} (hI:Inv fi M w s a) {g:Bool} {b off:Nat} {cs:List PV} {v:Value} (hp:RepE fi M w (.ptr g b off) v) (hc:s.cellsAt g b=some cs) :
  ∃blk,v= .pointer (some ⟨blk,off,none⟩)/\RepBox fi M w (if g then Loc.gh b else Loc.lh b) blk cs/\(if g then M.gb[b]?=some blk else M.lb[b]?=some blk):=by
 cases g with
 | true=>
  cases (show RepP fi M w (.ptr true b off) v from hp) with
  | ptr _ _ blk hb=>
   simp only[St.cellsAt,if_true] at hc;split at hc
   ·rename_i cs' hg
    cases hc;exact⟨blk,rfl,hI.gh b _ blk hg hb,hb⟩
   ·cases hc
 |false=>
  obtain⟨blk,hb,rfl⟩:=hp;exact⟨blk,rfl,hI.lh b cs blk hc hb,hb⟩
theorem pa {agg:Bool} {k off:Nat} {cs:List PV} {vs:List Value} {mk:Nat->Loc} {p:PV} (h:aq agg k off cs=some p) (hl:vs.length=cs.length)
  (hv:∀(i:Nat) (c:PV) (u:Value),cs[i]?=some c->vs[i]?=some u->RepC fi M w (mk i) c u) (h1:∀c∈cs,c.one=true) :
  (if agg then off+k<=vs.length else off<vs.length)/\RepP fi M w (degr p) (if agg then .agg ((vs.drop off).take k).toArray else vs.getD off undef):=by
 unfold aq at h;cases agg with
 | true=>
  simp only[if_true] at h ⊢;split at h
  ·rename_i hk
   cases h;refine⟨by omega,RepP.agg _ _ (by simp[hl]) λi c u hc hu=>?_⟩;simp only[aB,aE] at hc;obtain⟨c',hc',rfl⟩:=hc;rw[cE] at hc' hu;split at hc'
   ·rename_i hi
    rw[if_pos hi] at hu;rw[List.getElem?_drop] at hc' hu;exact (hv _ _ _ hc' hu).degr1
   ·cases hc'
  ·cases h
 |false=>
  simp only[bP,if_false] at h ⊢;have hlt:off<vs.length:=by rw[hl];exact (aD.1 h).1
  refine⟨hlt,?_⟩;have hone:=h1 p (aP h);have:=(hv off p _ h (aA hlt)).degr1;simp only[List.getD,aA hlt,Option.getD_some];cases p<;>first|exact this|(simp[PV.one] at hone)
theorem uJ {s:St} {a:Act} (hI:Inv fi M w s a) {g:Bool} {b off k:Nat} {agg:Bool} {cs:List PV} {p:PV} {v:Value} {t:TypeId} (ha:eA P t=some agg) (hs:agg=true->dn P t=some k)
  (hp:RepE fi M w (.ptr g b off) v) (hc:s.cellsAt g b=some cs) (hg:aq agg k off cs=some p):∃r,(Instr.loadAt t v).run P w= .ok r w/\RepP fi M w (degr p) r:=by
 obtain⟨blk,rfl,⟨_,_,_,h1,vs,T,hh,hl,hv⟩,_⟩:=ko hI hp hc;obtain⟨hk,hr⟩:=pa hg hl hv h1;exact⟨_,by simp only[Instr.loadAt,Instr.sureAddr];simp[lW ha hs hh hk],hr⟩
theorem uK {e:PV} {off k:Nat} {agg:Bool} {p:PV} {v:Value} {t:TypeId} (ha:eA P t=some agg) (hs:agg=true->dn P t=some k)
  (hp:RepE fi M w (.ep e off) v) (hg:aq agg k off e.cells=some p):∃r,(Instr.loadAt t v).run P w= .ok r w/\RepP fi M w p r:=by
 cases (show RepP fi M w (.ep e off) v from hp) with
 | ep _ _ b o vf h1 hm hr=>
  have hall:∀c∈e.cells,c.one=true:=by simpa [ah] using h1
  unfold aq at hg;cases agg with
  | true=>
   simp only[if_true] at hg;split at hg
   ·rename_i hk
    cases hg;have hrun:=run_loadCells (P:=P) w ⟨b,o+off,none⟩ k (λj=>vf (off+j)) (λj hj=>by rw[eV,Nat.add_assoc];exact (hm (off+j) _ (aA (by omega))).2);refine⟨.agg ((List.range k).map λj=>vf (off+j)).toArray,?_,RepP.agg _ _ (by simp;omega) λi c u hc hu=>?_⟩
    ·simp[Instr.loadAt,Instr.sureAddr,loadVar,im ha,run_sizeOf' (hs rfl),hrun]
    ·rw[cE] at hc
     split at hc
     ·rename_i hi
      simp only[aB,List.getElem?_range hi,cD,bU] at hu;rw[List.getElem?_drop] at hc;subst hu;exact hr _ _ hc
     ·cases hc
   ·cases hg
  |false=>
   simp only[bP,if_false] at hg;refine⟨vf off,?_,hr off p hg⟩;simp[Instr.loadAt,Instr.sureAddr,loadVar,im ha,load,Sem.run,(hm off p hg).2]
end
end
section
open Go.RowKit
section
variable {fi:FI} {M M':Mem} {w w':World} {P:Program}
theorem gn {α:Type} (l n:List α) (off i:Nat) (h:off+n.length<=l.length) :
  (l.take off++n++l.drop (off+n.length))[i]?=if i<off then l[i]? else if i<off+n.length then n[i-off]? else l[i]?:=by
 have h1:(l.take off).length=off:=by simp;omega
 by_cases ha:i<off
 ·rw[if_pos ha,aY,aJ (by omega),cE,if_pos ha]
 ·rw[if_neg ha]
  by_cases hb:i<off+n.length
  ·rw[if_pos hb,aY,aR (by omega),h1,aJ (by omega)]
  ·rw[if_neg hb,aR (by simp;omega),List.getElem?_drop]
   congr 1
   simp;omega
theorem iO {α:Type} (l n:List α) (off:Nat) (h:off+n.length<=l.length):(l.take off++n++l.drop (off+n.length)).length=l.length:=by simp;omega
theorem size_setRow' (w:World) (g:Nat) (cs:Array Value):(w.setRow g cs).heap.size=w.heap.size:=by simp[World.setRow]
theorem Good.setRow {blk:Nat} {cs cs2:Array Value} {T:TypeId} (hb:w.heap[blk]?=some (.cells cs T (0,0))) (hlb:M'.lb=M.lb) (hgb:M'.gb=M.gb) (Z:Nat->Prop)
  (hi:∀b k,M'.imm b k↔M.imm b k\/(b=blk/\Z k)) (hk:∀k,M.imm blk k->cs2[k]?=cs[k]?) (ho:∀b,b≠blk->M'.own b=M.own b) (xl:Loc->Prop) (xb:Nat->Prop)
  (hx:∀l,M.own blk=some l->xl l) (hxb:M.own blk=none->xb blk)
  (hS:(∀i,¬xl (Loc.gh i 0)->M'.st i=M.st i)/\∀b,(M.st b).1<=(M'.st b).1/\((M'.st b).1=(M.st b).1->M'.st b=M.st b):=by exact⟨λ_ _=>rfl,λ_=>⟨cN _,λ_=>rfl⟩⟩):Good M w M' (w.setRow blk cs2) xl xb:=by
 have hoth:∀b,b≠blk->(w.setRow blk cs2).heap[b]?=w.heap[b]?:=λb h=>setRow_other w blk b cs2 h
 refine⟨⟨λi k h=>by rw[hgb];exact h,λb k h=>(hi b k).2 (.inl h),λb k h=>?_,λb _=>hS.2 b⟩,by rw[size_setRow'];exact cN _,λi k h=>by rw[hlb];exact h,λb l h hl=>?_,λb _ hn h=>?_,hS.1⟩
 ·by_cases hbe:b=blk
  ·subst hbe
   rw[cell_setRow_same w b k cs cs2 T (0,0) hb,hk k h,cell_of_row w b k cs T (0,0) hb]
  ·exact cell_setRow_other w blk cs2 ⟨b,k,none⟩ hbe
 ·have hne:b≠blk:=λe=>hl (hx l (by rw[<-e];exact h))
  refine⟨by rw[ho b hne];exact h,hoth b hne,λk hk h=>?_,by rw[hlb];exact id,by rw[hgb];exact id⟩;rcases (hi b k).1 h with h|⟨h,_⟩
  ·exact hk h
  ·exact hne h
 ·have hne:b≠blk:=λe=>hn (by rw[e];exact hxb (by rw[<-e];exact h))
  refine⟨hoth b hne,λk hk h=>?_,by rw[ho b hne];exact h⟩;rcases (hi b k).1 h with h|⟨h,_⟩
  ·exact hk h
  ·exact hne h
theorem Kp.setRow {xl:Loc->Prop} {xb:Nat->Prop} {blk:Nat} {cs2:Array Value} (g:Good M w M' (w.setRow blk cs2) xl xb) (hlb:M'.lb=M.lb) (hgb:M'.gb=M.gb) (Z:Nat->Prop)
  (hi:∀b k,M'.imm b k↔M.imm b k\/(b=blk/\Z k)) (ho:∀b,b≠blk->M'.own b=M.own b) (hb:blk∈M.lb\/blk∈M.gb\/M.own blk≠none)
  (hon:M.own blk=none->M'.own blk=none) (hz:(∃k,Z k)->M.own blk≠none) (hds:M'.ds=M.ds:=by rfl):Kp M w M' (w.setRow blk cs2) where
 os:=rfl
 tape:=rfl
 output:=rfl
 size:=g.size
 ext:=g.ext
 block:=λk _ h1 h2 h3=>setRow_other w blk k cs2 (λe=>by
  subst e;rcases hb with h|h|h
  ·exact h1 h
  ·exact h2 h
  ·exact h h3)
 lbn:=λk h=> .inl (by rw[<-hlb];exact h)
 gbn:=λk h=> .inl (by rw[<-hgb];exact h)
 ownn:=λk _ h=>by
  by_cases hk:k=blk
  ·subst hk;exact hon h
  ·rw[ho k hk];exact h
 immn:=λb k h=>by
  rcases (hi b k).1 h with h|⟨h,hk⟩
  ·exact .inl h
  ·subst h;exact .inr (.inr (hz ⟨k,hk⟩))
 ds:= .same hds
theorem jB {l:List Nat} (h:l.Nodup) {i j k:Nat} (h1:l[i]?=some k) (h2:l[j]?=some k):i=j:=by have hi:=(aD.1 h1).1;exact (List.getElem?_inj hi h).1 (h1.trans h2.symm)
theorem uL {s:St} {a:Act} (hI:Inv fi M w s a) {g:Bool} {b off k:Nat} {cs:List PV} {p:PV} {u v:Value} {t:TypeId} (hs:dn P t=some k)
  (hp:RepE fi M w (.ptr g b off) u) (hc:s.cellsAt g b=some cs) (hv:RepAt fi M w Loc.lim p v) (hk:p.cells.length=k) (hle:off+k<=cs.length) (h1:ah p=true) :
  ∃M' w',(Instr.storeAt t u v).run P w= .ok () w'/\Inv fi M' w' (s.setCells g b (ar cs off p.cells)) a/\Kp M w M' w':=by
 obtain⟨blk,rfl,⟨hb1,hb2,hb3,hone,vs,T,hh,hl,hrep⟩,hat⟩:=ko hI hp hc;obtain⟨us,hus,hul,hur,hu1⟩:=hv.cells h1;have hall:∀c∈p.cells,c.one=true:=by simpa [ah] using h1
 have hst:=run_storeCells_at P blk off T us 0 vs.toArray w hh (by simp;omega) hu1;simp only[cB] at hst;generalize hcs2:(vs.toArray.toList.take off++us++vs.toArray.toList.drop (off+us.length)).toArray=cs2 at hst;have hcs2':cs2=(vs.take off++us++vs.drop (off+us.length)).toArray:=by rw[<-hcs2]
 obtain⟨g1⟩:Nonempty (Good M w M (w.setRow blk cs2) (λ_=>False) (λb=>b=blk)):=
  ⟨Good.setRow hh rfl rfl (λ_=>False) (by simp) (λk h=>absurd h (hb2 k)) (λ_ _=>rfl) _ _ (λl h=>by rw[hb3] at h;cases h) (λ_=>rfl)⟩
 have k1:Kp M w M (w.setRow blk cs2):=Kp.setRow g1 rfl rfl (λ_=>False) (by simp) (λ_ _=>rfl) (by
  cases g with
  |true=>exact .inr (.inl (aP hat))
  |false=>exact .inl (aP hat)) id (λ⟨_,h⟩=>h.elim)
 have hlen2:(vs.take off++us++vs.drop (off+us.length)).length=vs.length:=iO _ _ _ (by omega)
 let mk:Nat->Loc:=if g then Loc.gh b else Loc.lh b
 have hnd:∀i j blk',M.lb[i]?=some blk'->M.gb[j]?=some blk'->False:=λi j blk' hi hj=>by have:=hI.nodup;rw[cK] at this;exact this.2.2 blk' (aP hi) blk' (aP hj) rfl
 have hndl:M.lb.Nodup:=(cK.1 hI.nodup).1;have hndg:M.gb.Nodup:=(cK.1 hI.nodup).2.1
 let f:Loc->Loc:=gm (λi=>mk (off+i))
 have hnew:RepBox fi (M.rel f) (w.setRow blk cs2) mk blk (ar cs off p.cells):=by
  refine⟨by rw[size_setRow'];exact hb1,hb2,by simp[Mem.rel,hb3],λc hcm=>?_,vs.take off++us++vs.drop (off+us.length),T,by rw[setRow_heap w blk _ cs2 T (0,0) hh,hcs2'],by rw[hlen2];rw[ar,iO _ _ _ (by omega)];exact hl,λi c x hci hxi=>?_⟩
  ·simp only[ar,bZ] at hcm
   rcases hcm with (hcm|hcm)|hcm
   ·exact hone c (cH hcm)
   ·exact hall c hcm
   ·exact hone c (List.mem_of_mem_drop hcm)
  ·rw[ar,gn _ _ _ _ (by omega)] at hci
   rw[gn _ _ _ _ (by omega),hul] at hxi
   have old:cs[i]?=some c->vs[i]?=some x->RepC fi (M.rel f) (w.setRow blk cs2) (mk i) c x:=λh2 h3=>
    ((hrep i c x h2 h3).good g1 (by simp)).rel _ (by cases g<;>rfl)
   by_cases ha:i<off
   ·rw[if_pos ha] at hci hxi;exact old hci hxi
   ·rw[if_neg ha] at hci hxi
    by_cases hb:i<off+p.cells.length
    ·rw[if_pos hb] at hci hxi
     refine ((hur _ c x hci hxi).good g1 (by simp)).rel _ ?_
     show mk (off+(i-off))=mk i
     congr 1;omega
    ·rw[if_neg hb] at hci hxi;exact old hci hxi
 refine⟨M.rel f,w.setRow blk cs2,?_,?_,k1.trans (Kp.rel _ _ _)⟩
 ·have hsz:v.cells.size=k:=by rw[hus];simp[hul,hk]
  have hst':(storeCells ⟨blk,off,none⟩ v.cells.toList).run P w= .ok () (w.setRow blk cs2):=by rw[hus];exact hst
  simp[Instr.storeAt,Instr.sureAddr,storeVar,run_sizeOf' hs,hsz,hst']
 ·cases g with
  | true=>
   refine⟨λt u hu=>⟨(hI.env t u hu).1,((hI.env t u hu).2.good g1 (by simp)).rel _ (λ_=>rfl)⟩,hI.defers,hI.lbl,by simp[St.setCells,Mem.rel,hI.gbl],hI.nodup,?_,?_,g1.ext.gl hI.gl,λb k h=>by rw[size_setRow'];exact hI.immlt b k h,?_,λb h=>by rw[size_setRow'];exact hI.gblt b h⟩
   ·intro i cs' blk' hi hb
    exact ((hI.lh i cs' blk' hi hb).good g1 (λe=>by subst e;exact hnd _ _ _ hb hat) (by simp)).rel _ (λ_=>rfl)
   ·intro i o blk' hi hb
    simp only[St.setCells,if_true] at hi;rw[cF] at hi;by_cases hbi:b=i
    ·subst hbi
     simp only[if_true] at hi;split at hi
     ·cases hi
      have:blk'=blk:=by rw[show M.gb[b]?=some blk' from hb] at hat;exact cQ hat
      subst this;exact hnew
     ·cases hi
    ·rw[if_neg hbi] at hi
     exact ((hI.gh i o blk' hi hb).good g1 (λe=>by subst e;exact hbi (jB hndg hat hb)) (by simp)).rel _ (λ_=>rfl)
   ·intro b l hb
    simp only[Mem.rel,aE] at hb;obtain⟨l',h2,_⟩:=hb;rw[size_setRow'];exact hI.ownlt b l' h2
  | false=>
   refine⟨λt u hu=>⟨(hI.env t u hu).1,((hI.env t u hu).2.good g1 (by simp)).rel _ (λ_=>rfl)⟩,hI.defers,by simp[St.setCells,Mem.rel,hI.lbl],hI.gbl,hI.nodup,?_,?_,g1.ext.gl hI.gl,λb k h=>by rw[size_setRow'];exact hI.immlt b k h,?_,λb h=>by rw[size_setRow'];exact hI.gblt b h⟩
   ·intro i cs' blk' hi hb
    simp only[St.setCells,bP,if_false] at hi;rw[cF] at hi;by_cases hbi:b=i
    ·subst hbi
     simp only[if_true] at hi;split at hi
     ·cases hi
      have:blk'=blk:=by rw[show M.lb[b]?=some blk' from hb] at hat;exact cQ hat
      subst this;exact hnew
     ·cases hi
    ·rw[if_neg hbi] at hi
     exact ((hI.lh i cs' blk' hi hb).good g1 (λe=>by subst e;exact hbi (jB hndl hat hb)) (by simp)).rel _ (λ_=>rfl)
   ·intro i o blk' hi hb
    exact ((hI.gh i o blk' hi hb).good g1 (λe=>by subst e;exact hnd _ _ _ hat hb) (by simp)).rel _ (λ_=>rfl)
   ·intro b l hb
    simp only[Mem.rel,aE] at hb;obtain⟨l',h2,_⟩:=hb;rw[size_setRow'];exact hI.ownlt b l' h2
end
end
section
open Go.RowKit
section
variable {fi:FI} {M M':Mem} {w w':World} {P:Program}
theorem RepC.repAt {mk:Nat->Loc} {p:PV} {v:Value} (h:RepC fi M w (mk 0) p v) (h1:p.one=true):RepAt fi M w mk p v:=by
 unfold RepC at h;split at h
 ·exact h
 ·exact h.repE.repAt
theorem uM {s:St} {a:Act} (hI:Inv fi M w s a) {g:Bool} {b off:Nat} {cs:List PV} {p:PV} {v:Value} {t:TypeId} (ha:eA P t=some false)
  (hp:RepE fi M w (.ptr g b off) v) (hc:s.cellsAt g b=some cs) (hg:cs[off]?=some p) {d:Nat} (hd:d<a.tmps.size) :
  ∃r M',(Instr.loadAt t v).run P w= .ok r w/\Inv fi M' w ((s.setCells g b (ar cs off [aa p])).put d p) (a.put (some d) r)/\Kp M w M' w:=by
 obtain⟨blk,rfl,⟨hb1,hb2,hb3,hone,vs,T,hh,hl,hrep⟩,hat⟩:=ko hI hp hc;have hlt:off<cs.length:=(aD.1 hg).1;have hlt':off<vs.length:=by omega
 have hpone:=hone p (aP hg);have hrun:=lW (P:=P) (k:=1) ha (by simp) hh (by simpa using hlt');simp only[bP,if_false] at hrun;have hu:vs.getD off undef=vs[off]:=by simp[List.getD,aA hlt']
 rw[hu] at hrun
 let mk:Nat->Loc:=if g then Loc.gh b else Loc.lh b
 let f:Loc->Loc:=λl=>if l=mk off then .lim 0 else l
 have hmk:∀i,i≠off->f (mk i)=mk i:=λi hi=>by
  have:mk i≠mk off:=by
   show (if g then Loc.gh b else Loc.lh b) i≠(if g then Loc.gh b else Loc.lh b) off
   cases g<;>simp[hi]
  simp only[f,if_neg this]
 have henv:∀t i,f (Loc.env t i)=Loc.env t i:=λt i=>by
  have:Loc.env t i≠mk off:=by
   show _≠(if g then Loc.gh b else Loc.lh b) off
   cases g<;>simp
  simp only[f,if_neg this]
 have hlh:∀i j,(g=true\/i≠b)->f (Loc.lh i j)=Loc.lh i j:=λi j h=>by
  have:Loc.lh i j≠mk off:=by
   show _≠(if g then Loc.gh b else Loc.lh b) off
   cases g with
   |true=>simp
   |false=>simp at h;simp[h]
  simp only[f,if_neg this]
 have hgh:∀i j,(g=false\/i≠b)->f (Loc.gh i j)=Loc.gh i j:=λi j h=>by
  have:Loc.gh i j≠mk off:=by
   show _≠(if g then Loc.gh b else Loc.lh b) off
   cases g with
   |false=>simp
   |true=>simp at h;simp[h]
  simp only[f,if_neg this]
 have hd1:(aa p).one=true:=by cases p<;>first|rfl|exact hpone
 have hnew:RepBox fi (M.rel f) w mk blk (ar cs off [aa p]):=by
  refine⟨hb1,hb2,by simp[Mem.rel,hb3],λc hcm=>?_,vs,T,hh,by rw[ar,iO _ _ _ (by simp;omega)];exact hl,λi c x hci hxi=>?_⟩
  ·simp only[ar,bZ,List.mem_singleton] at hcm
   rcases hcm with (hcm|hcm)|hcm
   ·exact hone c (cH hcm)
   ·subst hcm;exact hd1
   ·exact hone c (List.mem_of_mem_drop hcm)
  ·rw[ar,gn _ _ _ _ (by simp;omega)] at hci
   by_cases hio:i=off
   ·subst hio
    simp at hci;subst hci;exact ((hrep i p x hg hxi).degr1.mono (Ext.rel M w f)).repC
   ·refine (hrep i c x ?_ hxi).rel f (hmk i hio)
    split at hci
    ·exact hci
    ·split at hci
     ·rename_i h1 h2;simp at h2;omega
     ·exact hci
 have hval:RepAt fi (M.rel f) w Loc.lim p vs[off]:=by
  refine RepC.repAt ?_ hpone;exact (hrep off p _ hg (aA hlt')).rel f (by
   show f ((if g then Loc.gh b else Loc.lh b) off)=_
   simp only[f,mk,if_true])
 have hnd:∀i j blk',M.lb[i]?=some blk'->M.gb[j]?=some blk'->False:=λi j blk' hi hj=>by have:=hI.nodup;rw[cK] at this;exact this.2.2 blk' (aP hi) blk' (aP hj) rfl
 have hown:∀b l,(M.rel f).own b=some l->b<w.heap.size:=λb l hb=>by simp only[Mem.rel,aE] at hb;obtain⟨l',h2,_⟩:=hb;exact hI.ownlt b l' h2
 have hI1:Inv fi (M.rel f) w (s.setCells g b (ar cs off [aa p])) a:=by
  cases g with
  | true=>
   refine⟨λt u hu=>⟨(hI.env t u hu).1,(hI.env t u hu).2.rel _ (henv t)⟩,hI.defers,hI.lbl,by simp[St.setCells,Mem.rel,hI.gbl],hI.nodup,?_,?_,hI.gl,hI.immlt,hown,hI.gblt⟩
   ·exact λi cs' blk' hi hb=>(hI.lh i cs' blk' hi hb).rel _ (λj=>hlh i j (.inl rfl))
   ·intro i o blk' hi hb
    simp only[St.setCells,if_true] at hi;rw[cF] at hi;by_cases hbi:b=i
    ·subst hbi
     simp only[if_true] at hi;split at hi
     ·cases hi
      have:blk'=blk:=by rw[show M.gb[b]?=some blk' from hb] at hat;exact cQ hat
      subst this;exact hnew
     ·cases hi
    ·rw[if_neg hbi] at hi
     exact (hI.gh i o blk' hi hb).rel _ (λj=>hgh i j (.inr (Ne.symm hbi)))
  | false=>
   refine⟨λt u hu=>⟨(hI.env t u hu).1,(hI.env t u hu).2.rel _ (henv t)⟩,hI.defers,by simp[St.setCells,Mem.rel,hI.lbl],hI.gbl,hI.nodup,?_,?_,hI.gl,hI.immlt,hown,hI.gblt⟩
   ·intro i cs' blk' hi hb
    simp only[St.setCells,bP,if_false] at hi;rw[cF] at hi;by_cases hbi:b=i
    ·subst hbi
     simp only[if_true] at hi;split at hi
     ·cases hi
      have:blk'=blk:=by rw[show M.lb[b]?=some blk' from hb] at hat;exact cQ hat
      subst this;exact hnew
     ·cases hi
    ·rw[if_neg hbi] at hi
     exact (hI.lh i cs' blk' hi hb).rel _ (λj=>hlh i j (.inr (Ne.symm hbi)))
   ·exact λi o blk' hi hb=>(hI.gh i o blk' hi hb).rel _ (λj=>hgh i j (.inl rfl))
 obtain⟨h2,k2⟩:=hI1.putLim hd hval;exact⟨vs[off],_,by simp only[Instr.loadAt,Instr.sureAddr];simp[hrun],h2,(Kp.rel M w f).trans k2⟩
theorem pb {z:Nat} {xs:List PV} {v:Value} (hz0:0<z) (h:RepP fi M w (.sl false z xs) v) :
  ∃(A:Option Addr) (c b o:Nat) (us:List Value),v= .slice A xs.length c/\xs.length<=c/\us.length=xs.length*z/\(xs=[]\/A=some ⟨b,o,none⟩)/\(∀e∈xs,e.cells.length=z)/\(∀e∈xs,ah e=true)/\
   (∀(j:Nat) (u:Value),us[j]?=some u->M.imm b (o+j)/\w.cell? ⟨b,o+j,none⟩=some u/\u.oneCell'=true)/\
   (∀(i:Nat) (e:PV) (j:Nat) (p:PV),xs[i]?=some e->e.cells[j]?=some p->∃u,us[i*z+j]?=some u/\RepP fi M w p u):=by
 cases h with
 | sl _ _ A c b o vf hA hc hz h1 hm hr=>
  refine⟨A,c,b,o,(List.range (xs.length*z)).map vf,rfl,hc,by simp,hA,hz,h1,λj u hu=>?_,λi e j p he hp=>?_⟩
  ·simp only[aB,aE,aD,List.length_range,List.getElem_range] at hu
   obtain⟨_,⟨hlt,rfl⟩,rfl⟩:=hu;have hi:j/z<xs.length:=by rw[Nat.div_lt_iff_lt_mul hz0];exact hlt
   have he:=aA hi;have hl:=hz _ (bY hi);have hj:j%z<(xs[j/z]).cells.length:=by rw[hl];exact Nat.mod_lt _ hz0
   have hp:=aA hj;have e:j/z*z+j%z=j:=by rw[Nat.mul_comm];exact Nat.div_add_mod j z
   have h2:=hm _ _ _ _ he hp;have h3:=hr _ _ _ _ he hp;rw[e] at h2 h3;refine⟨h2.1,h2.2,(h3.cells1 ?_).2⟩;have:=h1 _ (bY hi);simp only[ah,bS] at this;exact this _ (bY hj)
  ·have hl:=hz _ (aP he)
   have hj:=(aD.1 hp).1;have hi:=(aD.1 he).1;have hlt:i*z+j<xs.length*z:=by have:(i+1)*z<=xs.length*z:=cP z hi;rw[Nat.add_mul] at this;omega
   exact⟨vf (i*z+j),by simp[hlt],hr _ _ _ _ he hp⟩
theorem uN {t ty e:TypeId} {i:TypeInfo} (ht:P.underlying t=some (.slice e)) (hi:P.info? e=some i) (A A2:Option Addr) (n c c2:Nat) (hn:n<=c) (w:World) :
  (Builtin.append_ #[t,t] ty #[.slice A n c,.slice A2 0 c2]).run P w= .ok (.slice A n c) w:=by
 cases A<;>cases A2<;>simp[Builtin.append_,run_underlying ht,sizeOf,typeInfo,hi,Builtin.lenOf,Builtin.firstCells,hn,storeCells,loadCells,loadCellsFrom]
theorem uP {t ty e e':TypeId} {i:TypeInfo} (ht:P.underlying t=some (.slice e)) (hi:P.info? e=some i)
  (b o n c:Nat) (cur:Array Value) (hg:w.heap[b]?=some (.cells cur e' (0,0))) (ad:Addr) (m c2:Nat) (news:List Value) (hl:news.length=m*i.size)
  (hnews:∀j u,news[j]?=some u->w.cell? (ad.add j)=some u) (h1:∀u∈news,u.oneCell'=true) (hroom:n+m<=c) (hfit:o+n*i.size+news.length<=cur.size) :
  (Builtin.append_ #[t,t] ty #[.slice (some ⟨b,o,none⟩) n c,.slice (some ad) m c2]).run P w=
   .ok (.slice (some ⟨b,o,none⟩) (n+m) c) (w.setRow b (cur.toList.take (o+n*i.size)++news++cur.toList.drop (o+n*i.size+news.length)).toArray):=by
 have hf:=run_firstCells_some (P:=P) w i.size m ad m c2 news hl hnews;have hst:=run_storeCells_at P b (o+n*i.size) e' news 0 cur w hg (by simpa using hfit) h1;simp only[cB] at hst;simp[Builtin.append_,run_underlying ht,sizeOf,typeInfo,hi,Builtin.lenOf,hroom,hf,eV,hst]
theorem uQ {s:St} {a:Act} (hI:Inv fi M w s a) {t ty e:TypeId} {i:TypeInfo} {zv:Value} (ht:P.underlying t=some (.slice e)) (hi:P.info? e=some i) (hzv:i.zero=some zv)
  (hzs:zv.cells.size=i.size) (hz0:0<i.size) (hb0:0<i.bytes) {xs ys:List PV} {v:Value} (hv:OwnRep fi M w (Loc.lim 0) i.size xs v)
  {A2:Option Addr} {c2 b2 o2:Nat} {us2:List Value} (hc2:ys.length<=c2) (hul2:us2.length=ys.length*i.size) (hA2:ys=[]\/A2=some ⟨b2,o2,none⟩) (hzy:∀e∈ys,e.cells.length=i.size) (h1y:∀e∈ys,ah e=true)
  (huy:∀(j:Nat) (u:Value),us2[j]?=some u->True/\w.cell? ⟨b2,o2+j,none⟩=some u/\u.oneCell'=true)
  (hry:∀(k:Nat) (e:PV) (j:Nat) (p:PV),ys[k]?=some e->e.cells[j]?=some p->∃u,us2[k*i.size+j]?=some u/\RepP fi M w p u)
  (hbd:(xs.length+ys.length)*i.bytes<=maxBytes) {d:Nat} (hd:d<a.tmps.size) :
  ∃r M' w',(Builtin.append_ #[t,t] ty #[v,.slice A2 ys.length c2]).run P w= .ok r w'/\Inv fi M' w' (s.put d (.sl true i.size (xs++ys))) (a.put (some d) r)/\Kp M w M' w':=by
 obtain⟨A,c,b,o,us,rfl,hc,hul,hA,hzx,h1x,hux,hrx⟩:=pb hz0 hv.1;by_cases hy:ys=[]
 ·subst hy
  rw[bH];obtain⟨h2,k2⟩:=hI.putLim hd (p:= .sl true i.size xs) (v:= .slice A xs.length c) hv;exact⟨_,_,w,uN ht hi A A2 _ _ _ hc w,h2,k2⟩
 ·have hA2':=hA2.resolve_left hy
  subst hA2';have hm0:0<ys.length:=List.length_pos_iff.2 hy;have hneed:(xs.length+ys.length)*i.bytes<=140737488355328:=hbd;have h63:((xs.length+ys.length:Nat):Int)<=9223372036854775807:=by have:(xs.length+ys.length)*1<=(xs.length+ys.length)*i.bytes:=Nat.mul_le_mul_left _ hb0;omega
  have hnews:∀(j:Nat) (u:Value),us2[j]?=some u->w.cell? ((⟨b2,o2,none⟩:Addr).add j)=some u:=λj u hu=>by rw[eV];exact (huy j u hu).2.1
  have hzxy:∀e∈xs++ys,e.cells.length=i.size:=λe he=>by
   rcases bZ.1 he with h|h
   ·exact hzx e h
   ·exact hzy e h
  have h1xy:∀e∈xs++ys,ah e=true:=λe he=>by
   rcases bZ.1 he with h|h
   ·exact h1x e h
   ·exact h1y e h
  have hcomb:∀(k:Nat) (e:PV) (j:Nat) (p:PV),(xs++ys)[k]?=some e->e.cells[j]?=some p->∃u,(us++us2)[k*i.size+j]?=some u/\RepP fi M w p u:=by
   intro k e j p he hp;by_cases hk:k<xs.length
   ·rw[aJ hk] at he
    obtain⟨u,hu,hr⟩:=hrx k e j p he hp;exact⟨u,by rw[aJ (aD.1 hu).1];exact hu,hr⟩
   ·rw[aR (by omega)] at he
    obtain⟨u,hu,hr⟩:=hry _ e j p he hp;refine⟨u,?_,hr⟩;have:us.length<=k*i.size+j:=by rw[hul];have:=cP i.size (show xs.length<=k by omega);omega
    rw[aR this,<-hu]
    congr 1
    rw[hul,Nat.sub_mul];have:=cP i.size (show xs.length<=k by omega);omega
  have grown:∀oc,xs.length+ys.length<=grownCap w (xs.length+ys.length) oc e->
    (Builtin.append_ #[t,t] ty #[.slice A xs.length c,.slice (some ⟨b2,o2,none⟩) ys.length c2]).run P w=
     .ok (.slice (some ⟨w.heap.size,0,none⟩) (xs.length+ys.length) (grownCap w (xs.length+ys.length) oc e))
      (w.drew.alloc (.cells ((us++us2)++(Builtin.zeroCells zv.cells (grownCap w (xs.length+ys.length) oc e-(xs.length+ys.length))).toList).toArray e))->
    ∃r M' w',(Builtin.append_ #[t,t] ty #[.slice A xs.length c,.slice (some ⟨b2,o2,none⟩) ys.length c2]).run P w= .ok r w'/\Inv fi M' w' (s.put d (.sl true i.size (xs++ys))) (a.put (some d) r)/\Kp M w M' w':=by
   intro oc hge hrun;obtain⟨hI1,k1⟩:=hI.drew;have hzl:∀n,(Builtin.zeroCells zv.cells n).toList.length=n*i.size:=λn=>by rw[Array.length_toList,size_zeroCells,hzs]
   obtain⟨M',hI2,k2⟩:=Inv.newOwn hI1 hd hzxy h1xy (us++us2) (Builtin.zeroCells zv.cells (grownCap w (xs.length+ys.length) oc e-(xs.length+ys.length))).toList
    (by rw[aV,aV,hul,hul2,Nat.add_mul]) (λk e j p he hp=>by obtain⟨u,hu,hr⟩:=hcomb k e j p he hp;exact⟨u,hu,hr.mono k1.ext⟩)
    (grownCap w (xs.length+ys.length) oc e) (by rw[aV];exact hge) (by rw[aV,hul,hul2,hzl,<-Nat.add_mul,<-Nat.add_mul];exact cP _ (by omega)) e _ rfl
   refine⟨_,M',_,hrun,?_,k1.trans k2⟩;rw[aV] at hI2;exact hI2
  rcases hv.2 with hnil|⟨b',o',c',cs,T,hv',hown,hh,hcap,hfr,hnl,hng⟩
  ·injection hnil with e1 e2 e3
   subst e1;have hxs:xs=[]:=List.eq_nil_of_length_eq_zero e2;subst hxs;subst e3;simp only[cA,cO] at *;have hus:us=[]:=List.eq_nil_of_length_eq_zero (by simpa using hul);subst hus;refine grown 0 (grownCap_ge _ _ _ _) ?_;have:=run_append_nil (P:=P) w t ty e i zv ht hi hzv ⟨b2,o2,none⟩ ys.length c2 us2 hul2 hnews hm0 (by omega) (by omega);rw[this];have hae:∀(l:List Value) (x:Array Value),l.toArray++x=(l++x.toList).toArray:=λl x=>by apply Array.ext';simp
   simp[hae]
  ·injection hv' with e1 e2 e3
   subst e3;subst e1;have hbo:xs=[]\/(b=b'/\o=o'):=hA.imp id λh=>by
    have:=cQ h;injection this with h1 h2
    exact⟨h1.symm,h2.symm⟩
   have holds:∀(j:Nat) (u:Value),us[j]?=some u->w.cell? ((⟨b',o',none⟩:Addr).add j)=some u:=λj u hu=>by
    rcases hbo with h|⟨h2,h3⟩
    ·subst h;simp at hul;subst hul;simp at hu
    ·subst h2;subst h3;rw[eV];exact (hux j u hu).2.1
   by_cases hroom:xs.length+ys.length<=c
   ·have hfit:o'+xs.length*i.size+us2.length<=cs.size:=by
     rw[hul2,Nat.add_assoc,<-Nat.add_mul];have:=cP i.size hroom;omega
    have hrun:=uP (P:=P) (ty:=ty) ht hi b' o' xs.length c cs hh ⟨b2,o2,none⟩ ys.length c2 us2 hul2 hnews (λu hu=>by obtain⟨j,hj,hx⟩:=cG.1 hu;exact (huy j u (by rw[aA hj,hx])).2.2) hroom hfit;generalize hcs2:(cs.toList.take (o'+xs.length*i.size)++us2++cs.toList.drop (o'+xs.length*i.size+us2.length))=cs2 at hrun;have hget:∀k,cs2[k]?=if k<o'+xs.length*i.size then cs[k]? else if k<o'+xs.length*i.size+us2.length then us2[k-(o'+xs.length*i.size)]? else cs[k]?:=λk=>by rw[<-hcs2,gn _ _ _ _ (by simpa using hfit)];simp
    have hlen2:cs2.length=cs.size:=by rw[<-hcs2,iO _ _ _ (by simpa using hfit)];simp
    let Z:Nat->Prop:=λk=>o'+xs.length*i.size<=k/\k<o'+(xs.length+ys.length)*i.size
    let M1:Mem:={M with imm:=λb k=>M.imm b k\/(b=b'/\Z k),own:=λb=>if b=b' then some (Loc.env d 0) else M.own b }
    have hkeep:∀k,M.imm b' k->cs2.toArray[k]?=cs[k]?:=λk hk=>by
     rw[List.getElem?_toArray,hget];split
     ·rfl
     ·rename_i h
      have hge:o'+c*i.size<=k:=by
       rcases Nat.lt_or_ge k (o'+c*i.size) with h2|h2
       ·exact absurd hk (hfr k (by omega) h2)
       ·exact h2
      have:=cP i.size hroom;rw[Nat.add_mul] at this;rw[if_neg (by omega)]
    have g1:Good M w M1 (w.setRow b' cs2.toArray) (λl=>l=Loc.lim 0) (λ_=>False):=
     Good.setRow (M:=M) (M':=M1) hh rfl rfl Z (λ_ _=>Iff.rfl) hkeep (λb hb=>by simp[M1,hb]) _ _ (λl h=>by rw[hown] at h;cases h;rfl) (λh=>by rw[hown] at h;cases h)
    have k1:Kp M w M1 (w.setRow b' cs2.toArray):=Kp.setRow g1 rfl rfl Z (λ_ _=>Iff.rfl) (λb hb=>by simp[M1,hb]) (.inr (.inr (by rw[hown];simp))) (λh=>by rw[hown] at h;cases h) (λ_=>by rw[hown];simp);have hb'lt:b'<w.heap.size:=hI.ownlt b' _ hown;have hI1:Inv fi M1 (w.setRow b' cs2.toArray) s a:=by
     refine⟨λt u hu=>⟨(hI.env t u hu).1,(hI.env t u hu).2.good g1 (by simp)⟩,hI.defers,hI.lbl,hI.gbl,hI.nodup,λi cs blk h1 h2=>(hI.lh i cs blk h1 h2).good g1 (by simp) (by simp),
      λi o blk h1 h2=>(hI.gh i o blk h1 h2).good g1 (by simp) (by simp),g1.ext.gl hI.gl,λb k hb=>?_,λb l hb=>?_,λb hb=>by rw[size_setRow'];exact hI.gblt b hb⟩
     ·rw[size_setRow']
      rcases hb with hb|⟨hb,_⟩
      ·exact hI.immlt b k hb
      ·subst hb;exact hb'lt
     ·rw[size_setRow']
      simp only[M1] at hb;split at hb
      ·rename_i hbe;subst hbe;exact hb'lt
      ·exact hI.ownlt b l hb
    have hcell:∀k,(w.setRow b' cs2.toArray).cell? ⟨b',k,none⟩=cs2[k]?:=λk=>by rw[cell_setRow_same w b' k cs _ T (0,0) hh];simp
    have hall:∀(j:Nat) (u:Value),(us++us2)[j]?=some u->M1.imm b' (o'+j)/\(w.setRow b' cs2.toArray).cell? ⟨b',o'+j,none⟩=some u:=by
     intro j u hu;rw[hcell,hget];by_cases hj:j<us.length
     ·rw[aJ hj] at hu
      rcases hbo with h|⟨h2,h3⟩
      ·subst h;simp at hul;rw[hul] at hj;simp at hj
      ·subst h2;subst h3
       have:=hux j u hu;refine⟨.inl this.1,?_⟩;rw[if_pos (by omega)];have h4:=this.2.1;rw[cell_of_row w b _ cs T (0,0) hh] at h4;exact h4
     ·rw[aR (by omega)] at hu
      have hj2:=(aD.1 hu).1;rw[hul2] at hj2;have hmul:(xs.length+ys.length)*i.size=xs.length*i.size+ys.length*i.size:=Nat.add_mul _ _ _;refine⟨.inr ⟨rfl,by omega,by omega⟩,?_⟩;rw[if_neg (by omega),if_pos (by omega),<-hu]
      congr 1;omega
    refine⟨_,M1,_,hrun,hI1.put hd ?_,k1⟩
    show OwnRep fi M1 _ (Loc.env d 0) i.size (xs++ys) _
    refine⟨?_,.inr ⟨b',o',c,cs2.toArray,T,by rw[aV],by simp[M1],by rw[setRow_heap w b' _ _ T (0,0) hh],by simp[hlen2];exact hcap,λk hk hk3 h=>?_,hnl,hng⟩⟩
    ·have hl:=aV (as:=xs) (bs:=ys)
     rw[<-hl];refine RepP.sl i.size (xs++ys) _ c b' o' (λj=>(us++us2).getD j undef) (.inr rfl) (by rw[hl];exact hroom) hzxy h1xy (λk e j p he hp=>?_) (λk e j p he hp=>?_)
     ·obtain⟨u,hu,_⟩:=hcomb k e j p he hp
      obtain⟨h3,h4⟩:=hall _ u hu;exact⟨h3,by rw[h4];simp[List.getD,hu]⟩
     ·obtain⟨u,hu,hr⟩:=hcomb k e j p he hp
      simp only[List.getD,hu,Option.getD_some];exact hr.mono g1.ext
    ·rw[aV] at hk
     rcases h with h|⟨_,h⟩
     ·exact hfr k (by have:=cP i.size (Nat.le_add_right xs.length ys.length);omega) hk3 h
     ·have:=h.2;omega
   ·refine grown c (grownCap_ge _ _ _ _) ?_
    have:=run_append_grow (P:=P) w t ty e i zv ht hi hzv ⟨b',o',none⟩ xs.length c us hul holds ⟨b2,o2,none⟩ ys.length c2 us2 hul2 hnews (by omega) h63 (growslice_fits (by omega) hneed);rw[this];have hae:∀(l:List Value) (x:Array Value),l.toArray++x=(l++x.toList).toArray:=λl x=>by apply Array.ext';simp
    simp[hae]
theorem uR {s:St} {a:Act} (hI:Inv fi M w s a) {t ty e:TypeId} {i:TypeInfo} {zv:Value} {z bytes:Nat} (ht:P.underlying t=some (.slice e)) (hi:P.info? e=some i) (hzv:i.zero=some zv)
  (hsz:i.size=z) (hby:i.bytes=bytes) (hzs:zv.cells.size=z) (hz0:0<z) (hb0:0<bytes) {xs ys:List PV} {v x:Value} (hv:OwnRep fi M w (Loc.lim 0) z xs v)
  (hx:RepP fi M w (.sl false z ys) x) (hbd:(xs.length+ys.length)*bytes<=maxBytes) {d:Nat} (hd:d<a.tmps.size) :
  ∃r M' w',(Builtin.append_ #[t,t] ty #[v,x]).run P w= .ok r w'/\Inv fi M' w' (s.put d (.sl true z (xs++ys))) (a.put (some d) r)/\Kp M w M' w':=by
 subst hsz;subst hby;obtain⟨A2,c2,b2,o2,us2,rfl,hc2,hul2,hA2,hzy,h1y,huy,hry⟩:=pb hz0 hx;exact uQ hI ht hi hzv hzs hz0 hb0 hv hc2 hul2 hA2 hzy h1y (λj u hu=>⟨trivial,(huy j u hu).2⟩) hry hbd hd
end
end
section
open Go.RowKit
def fy (P:Program) (t:TypeId) (b:Bool):Bool:=
 match P.underlying t with
 |some (.int _)=> !b
 |some .bool=>b
 |_=>false
def iP (P:Program):Nat->List Field->List Bool->Bool
 |_,[],[]=>true
 | n, f :: l, b :: r => f.name != "_" && f.offset == n && fy P f.type b && iP P (n + 1) l r
 |_,_,_=>false
def jC (P:Program) (t:TypeId) (ks:List Bool):Bool:=
 match P.underlying t with
 |some (.struct fs)=>iP P 0 fs.toList ks&& !P.stoodInHeld t
 |some (.array m e)=>ks.all (λb=>fy P e b)&&m==ks.length&&dn P e==some 1
 |_=>false
section
variable {fi:FI} {M M':Mem} {w w':World} {P:Program}
theorem uS {t:TypeId} {b:Bool} (h:fy P t b=true):eA P t=some false:=by unfold fy at h;unfold eA;split at h<;>first|(rename_i hu;rw[hu])|cases h
theorem jD {t:TypeId} {b:Bool} (h:fy P t b=true) {xs:Array Value} {off:Nat} {v:Value} (hv:xs[off]?=some v) (w:World):(part t xs off).run P w= .ok v w:=by simp[part,im (uS h),hv]
theorem pc {t:TypeId} {b:Bool} (h:fy P t b=true) {p q:PV} {u v:Value} {r:Bool} (hs:ie b p q=some r) (hp:RepP fi M w p u) (hq:RepP fi M w q v) (d:Nat) (w':World) :
  (Op.equalIn (d+1) t u v).run P w'= .ok r w':=by
 unfold ie at hs;split at hs
 ·split at hs
  ·rename_i hk
   subst hk;cases hs;cases hp;cases hq;unfold fy at h;split at h
   ·rename_i hu;exact run_equalIn_int w' d t _ _ _ _ hu
   ·cases h
   ·cases h
  ·cases hs
 ·cases hs
  cases hp;cases hq;unfold fy at h;split at h
  ·cases h
  ·rename_i hu;exact run_equalIn_bool w' d t _ _ hu
  ·cases h
 ·cases hs
theorem uT {us vs:List Value} {r:Bool} (d:Nat) (w':World):∀(n:Nat) (fs:List Field) (ks:List Bool) (a b:List PV),iP P n fs ks=true->ea ks a b=some r->
  (∀(i:Nat) (c:PV),a[i]?=some c->∃u,us[n+i]?=some u/\RepP fi M w c u)->(∀(i:Nat) (c:PV),b[i]?=some c->∃u,vs[n+i]?=some u/\RepP fi M w c u)->
  (Op.eqFields (d+1) us.toArray vs.toArray fs).run P w'= .ok r w':=by
 intro n fs
 induction fs generalizing n with
 | nil=>
  intro ks a b hf he _ _;cases ks with
  |nil=>
   cases a<;>cases b<;>simp[ea] at he;subst he;simp[Op.eqFields]
  |cons=>simp[iP] at hf
 | cons f fs ih=>
  intro ks a b hf he ha hb;cases ks with
  |nil=>simp[iP] at hf
  | cons k ks=>
   simp only[iP,aX,bne_iff_ne,ne_eq,cR] at hf;obtain⟨⟨⟨h1,h2⟩,h3⟩,h4⟩:=hf;cases a with
   |nil=>simp[ea] at he
   | cons x a=>
    cases b with
    |nil=>simp[ea] at he
    | cons y b=>
     simp only[ea] at he;obtain⟨u,hu,hru⟩:=ha 0 x (by simp);obtain⟨v,hv,hrv⟩:=hb 0 y (by simp);have p1:=jD (P:=P) h3 (xs:=us.toArray) (off:=f.offset) (v:=u) (by rw[h2];simpa using hu);have p2:=jD (P:=P) h3 (xs:=vs.toArray) (off:=f.offset) (v:=v) (by rw[h2];simpa using hv);cases hs:ie k x y with
     |none=>simp[hs] at he
     | some q=>
      have p3:=pc (P:=P) h3 hs hru hrv d;rw[hs] at he;cases q with
      |false=>simp at he;subst he;simp[Op.eqFields,h1,p1,p2,p3]
      | true=>
       simp only at he
       have:=ih (n+1) ks a b h4 he (λi c hc=>by have:=ha (i+1) c (by simpa using hc);rwa [show n+(i+1)=n+1+i by omega] at this)
        (λi c hc=>by have:=hb (i+1) c (by simpa using hc);rwa [show n+(i+1)=n+1+i by omega] at this)
       simp[Op.eqFields,h1,p1,p2,p3,this]
theorem uU {t:TypeId} {ks:List Bool} {a b:List PV} {us vs:List Value} {r:Bool} (hf:jC P t ks=true) (he:ea ks a b=some r) (hu:us.length=a.length) (hv:vs.length=b.length)
  (ha:∀(i:Nat) (c:PV) (u:Value),a[i]?=some c->us[i]?=some u->RepP fi M w c u) (hb:∀(i:Nat) (c:PV) (u:Value),b[i]?=some c->vs[i]?=some u->RepP fi M w c u) (d:Nat) (w':World) :
  (Op.equalIn (d+2) t (.agg us.toArray) (.agg vs.toArray)).run P w'= .ok r w':=by
 have ha':∀(i:Nat) (c:PV),a[i]?=some c->∃u,us[0+i]?=some u/\RepP fi M w c u:=λi c hc=>by have hi:=(aD.1 hc).1;exact⟨us[i],by rw[cO];exact aA (by omega),ha i c _ hc (aA (by omega))⟩
 have hb':∀(i:Nat) (c:PV),b[i]?=some c->∃u,vs[0+i]?=some u/\RepP fi M w c u:=λi c hc=>by have hi:=(aD.1 hc).1;exact⟨vs[i],by rw[cO];exact aA (by omega),hb i c _ hc (aA (by omega))⟩
 unfold jC at hf;split at hf
 ·rename_i fs hfs
  simp only[aX,Bool.not_eq_true'] at hf;have hF:P.fieldsOf t=fs:=by simp[Program.fieldsOf,hfs]
  rw[run_equalIn_struct w' (d+1) t _ _ (by rw[hF];exact hfs) hf.2,hF];exact uT d w' 0 fs.toList ks a b hf.1 he ha' hb'
 ·rename_i m e hte
  simp only[aX,cR] at hf;obtain⟨⟨h1,h2⟩,h3⟩:=hf;subst h2;rw[show d+2=(d+1)+1 from rfl,Op.equalIn];simp only[Sem.run_bind,run_underlying hte,Result.andThen_ok,run_sizeOf' h3,Std.Legacy.Range.forIn_eq_forIn_range',Std.Legacy.Range.size,Nat.sub_zero,Nat.add_one_sub_one,Nat.div_one];clear ha hb hu hv hte;generalize (0:Nat)=n at ha' hb' ⊢
  induction ks generalizing n a b with
  |nil=>
   cases a<;>cases b<;>simp[ea] at he;subst he;simp
  | cons k ks ih=>
   simp only[List.all_cons,aX] at h1;cases a with
   |nil=>simp[ea] at he
   | cons x a=>
    cases b with
    |nil=>simp[ea] at he
    | cons y b=>
     simp only[ea] at he;obtain⟨u,hu,hru⟩:=ha' 0 x (by simp);obtain⟨v,hv,hrv⟩:=hb' 0 y (by simp);have p1:=jD (P:=P) h1.1 (xs:=us.toArray) (off:=n*1) (v:=u) (by simpa using hu);have p2:=jD (P:=P) h1.1 (xs:=vs.toArray) (off:=n*1) (v:=v) (by simpa using hv);cases hs:ie k x y with
     |none=>simp[hs] at he
     | some q=>
      have p3:=pc (P:=P) h1.1 hs hru hrv d;rw[hs] at he;cases q with
      |false=>simp at he;subst he;simp only[bB,List.range'_succ,List.forIn_cons];simp only[Sem.run_bind,p1,p2,p3,Result.andThen_ok];simp
      | true=>
       simp only at he
       have:=ih (a:=a) (b:=b) (n:=n+1) he h1.2 (λi c hc=>by have:=ha' (i+1) c (by simpa using hc);rwa [show n+(i+1)=n+1+i by omega] at this)
        (λi c hc=>by have:=hb' (i+1) c (by simpa using hc);rwa [show n+(i+1)=n+1+i by omega] at this)
       simp only[bB,List.range'_succ,List.forIn_cons];simp only[Sem.run_bind,p1,p2,p3,Result.andThen_ok,Bool.not_true,bP,if_false,Sem.run_pure];exact this
 ·cases hf
end
end
section
open Go.RowKit
def gJ (P:Program) (t:TypeId) (kn:Nat):Bool:=
 match P.underlying t with
 |some (.int _)=>kn==0
 |some (.array _ _)=>kn !=0&&jC P t (List.replicate kn false)
 |_=>false
def eN (kn:Nat):List (PV×PV)->PV->Option (Option Nat)
 |[],_=>some none
 |(a,_)::l,k=>match dq kn k a with
  |some true=>some (some 0)
  |some false=>(eN kn l k).map λr=>r.map (· +1)
  |none=>none
section
variable {fi:FI} {M M':Mem} {w w':World} {P:Program}
theorem uV {kn:Nat} {k:PV}:∀{es:List (PV×PV)} {r:Option PV},eU kn es k=some r->
  (r=none/\eN kn es k=some none)\/∃i e,eN kn es k=some (some i)/\es[i]?=some e/\r=some e.2:=by
 intro es
 induction es with
 |nil=>intro r h;simp[eU] at h;subst h;exact .inl ⟨rfl,rfl⟩
 | cons x l ih=>
  intro r h;obtain⟨a,v⟩:=x;simp only[eU,eN] at *;cases hs:dq kn k a with
  |none=>simp[hs] at h
  | some q=>
   rw[hs] at h;cases q with
   |true=>simp at h;subst h;exact .inr ⟨0,(a,v),rfl,rfl,rfl⟩
   |false=>
    simp only at h;rcases ih h with ⟨h1,h2⟩|⟨i,e,h1,h2,h3⟩
    ·exact .inl ⟨h1,by simp[h2]⟩
    ·exact .inr ⟨i+1,e,by simp[h1],by simpa using h2,h3⟩
theorem uW {kn:Nat} {k v:PV}:∀{es es':List (PV×PV)},eb kn es k v=some es'->
  (eN kn es k=some none/\es'=es++[(k,v)])\/∃i e,eN kn es k=some (some i)/\es[i]?=some e/\dq kn k e.1=some true/\es'=es.set i (k,v):=by
 intro es
 induction es with
 |nil=>intro es' h;simp[eb] at h;subst h;exact .inl ⟨rfl,rfl⟩
 | cons x l ih=>
  intro es' h;obtain⟨a,u⟩:=x;simp only[eb,eN] at *;cases hs:dq kn k a with
  |none=>simp[hs] at h
  | some q=>
   rw[hs] at h;cases q with
   |true=>simp at h;subst h;exact .inr ⟨0,(a,u),rfl,rfl,hs,rfl⟩
   |false=>
    simp only[aE] at h;obtain⟨l',h,rfl⟩:=h;rcases ih h with ⟨h1,h2⟩|⟨i,e,h1,h2,h3,h4⟩
    ·exact .inl ⟨by simp[h1],by simp[h2]⟩
    ·exact .inr ⟨i+1,e,by simp[h1],by simpa using h2,h3,by simp[h4]⟩
theorem uX {e:TypeId} {b:Bool} (h:fy P e b=true) (em:Bool) (n:Nat) (v:Value) (w:World):(Instr.checkKey em (n+1) e v).run P w= .ok () w:=by
 unfold fy at h;split at h
 ·rename_i hu;simp[Instr.checkKey,run_underlying hu]
 ·rename_i hu;simp[Instr.checkKey,run_underlying hu]
 ·cases h
theorem pd {t:TypeId} {kn:Nat} {k:PV} {v:Value} (h:gJ P t kn=true) (hk:dE kn k=true) (hr:RepP fi M w k v) (em:Bool):(Instr.checkKey em 10000 t v).run P w= .ok () w:=by
 unfold gJ at h;split at h
 ·rename_i hu;rw[show (10000:Nat)=9999+1 from rfl,Instr.checkKey];simp[run_underlying hu]
 ·rename_i m e hu
  simp only[aX,bne_iff_ne,ne_eq] at h;obtain⟨h0,hf⟩:=h;unfold jC at hf;rw[hu] at hf;simp only[aX,cR,List.length_replicate] at hf;obtain⟨⟨h1,h2⟩,h3⟩:=hf;cases k with
  | agg cs=>
   simp only[dE,aX,cR] at hk;obtain⟨vs,rfl,hl,hv⟩:=hr.repE.agg;subst h2;have hk1:fy P e false=true:=by simp only[bS] at h1;exact h1 false (by simp[List.mem_replicate,h0])
   rw[show (10000:Nat)=9999+1 from rfl,Instr.checkKey];simp only[Sem.run_bind,run_underlying hu,Result.andThen_ok,Std.Legacy.Range.forIn_eq_forIn_range',Std.Legacy.Range.size,Nat.sub_zero,Nat.add_one_sub_one,Nat.div_one];have hall:∀i,i<m->∃u,vs[0+i]?=some u:=λi hi=>⟨vs[i]'(by omega),by rw[cO];exact aA (by omega)⟩
   clear hl hv hu h0 h1 hk;generalize (0:Nat)=n at hall ⊢
   induction m generalizing n with
   |zero=>simp
   |succ m ih=>
    obtain⟨u,hu⟩:=hall 0 (by omega);have p1:=jD (P:=P) hk1 (xs:=vs.toArray) (off:=n*1) (v:=u) (by simpa using hu);have:=ih (n:=n+1) (λi hi=>by have:=hall (i+1) (by omega);rwa [show n+(i+1)=n+1+i by omega] at this);simp only[List.range'_succ,List.forIn_cons];simp only[Sem.run_bind,run_sizeOf' h3,p1,Result.andThen_ok,uX hk1 em 9998,Sem.run_pure] at this ⊢;exact this
  |_=>simp[dE] at hk<;>omega
 ·cases h
theorem pf {kn:Nat} {k:PV} {kd:IntKind} {a:Int} {q:Bool} (h:dq kn (.int kd a) k=some q):∃b,k= .int kd b/\q=(a==b):=by
 cases k with
 |int kd2 b=>
  simp only[dq] at h;split at h
  ·rename_i hk;obtain⟨_,rfl⟩:=hk;cases h;exact⟨b,rfl,rfl⟩
  ·cases h
 |_=>simp[dq] at h
theorem kp {t:TypeId} {kn:Nat} {k:PV} {v:Value} (ht:gJ P t kn=true) (hk:dE kn k=true) (hr:RepP fi M w k v) {es:List (PV×PV)} {l:List MapEntry} (hl:l.length=es.length)
  (hrep:∀(i:Nat) (e:PV×PV) (m:MapEntry),es[i]?=some e->l[i]?=some m->RepP fi M w e.1 m.key) {r:Option Nat} (h:eN kn es k=some r) (w':World) :
  (Instr.findKey t v l).run P w'= .ok (r.map λi=>(i,((l[i]?).map (·.val)).getD undef)) w':=by
 unfold gJ at ht;split at ht
 ·rename_i kd hu
  simp only[cR] at ht;subst ht;cases k with
  | int kd' a=>
   obtain rfl:=hr.repE.int
   have key:∀(es:List (PV×PV)) (l:List MapEntry) (n:Nat) (r:Option Nat),l.length=es.length->
     (∀(i:Nat) (e:PV×PV) (m:MapEntry),es[i]?=some e->l[i]?=some m->RepP fi M w e.1 m.key)->eN 0 es (.int kd' a)=some r->
     Instr.findNow (.int kd) (.int kd' a) l n=some (r.map λi=>(n+i,((l[i]?).map (·.val)).getD undef)):=by
    intro es
    induction es with
    |nil=>intro l n r hl _ h;cases l with
     |nil=>simp[eN] at h;subst h;simp[Instr.findNow]
     |cons=>simp at hl
    | cons x es ih=>
     intro l n r hl hrep h;obtain⟨b,u⟩:=x;cases l with
     |nil=>simp at hl
     | cons m l=>
      have hm:=hrep 0 (b,u) m rfl rfl;simp only[eN] at h;cases hs:dq 0 (.int kd' a) b with
      |none=>simp[hs] at h
      | some q=>
       obtain⟨b',rfl,rfl⟩:=pf hs;have hmk:m.key= .int kd' b':=hm.repE.int;rw[hs] at h;by_cases hab:a=b'
       ·subst hab
        simp at h;subst h;simp[Instr.findNow,hmk,Instr.sameNow]
       ·have hq:(a==b')=false:=by simpa using hab
        simp only[hq,aE] at h;obtain⟨r',h,rfl⟩:=h;have:=ih l (n+1) r' (by simpa using hl) (λi e m he hm=>hrep (i+1) e m (by simpa using he) (by simpa using hm)) h;simp[Instr.findNow,hmk,Instr.sameNow,hq,this];cases r' with
        |none=>rfl
        |some i=>simp;omega
   have:=key es l 0 r hl hrep h;simp only[cO] at this;simp[Instr.findKey,run_underlying hu,this]
  |_=>simp[dE] at hk
 ·rename_i m e hu
  simp only[aX,bne_iff_ne,ne_eq] at ht;obtain⟨h0,hf⟩:=ht;have hasking:(Instr.findKey t v l).run P w'=(Instr.findAsking t v l).run P w':=run_findKey_eq w' (by rw[hu]) v l;rw[hasking];cases k with
  | agg cs=>
   obtain⟨vs,rfl,hvl,hv⟩:=hr.repE.agg
   have key:∀(es:List (PV×PV)) (l:List MapEntry) (n:Nat) (r:Option Nat),l.length=es.length->
     (∀(i:Nat) (e:PV×PV) (m:MapEntry),es[i]?=some e->l[i]?=some m->RepP fi M w e.1 m.key)->eN kn es (.agg cs)=some r->
     (Instr.findAsking t (.agg vs.toArray) l n).run P w'= .ok (r.map λi=>(n+i,((l[i]?).map (·.val)).getD undef)) w':=by
    intro es
    induction es with
    |nil=>intro l n r hl _ h;cases l with
     |nil=>simp[eN] at h;subst h;simp[Instr.findAsking]
     |cons=>simp at hl
    | cons x es ih=>
     intro l n r hl hrep h;obtain⟨b,u⟩:=x;cases l with
     |nil=>simp at hl
     | cons m l=>
      have hm:=hrep 0 (b,u) m rfl rfl;simp only[eN] at h;cases hs:dq kn (.agg cs) b with
      |none=>simp[hs] at h
      | some q=>
       cases b with
       | agg bs=>
        simp only[dq,h0,if_false] at hs;obtain⟨us,hmk,hul,huv⟩:=hm.repE.agg;have heq:=uU (P:=P) (fi:=fi) (M:=M) (w:=w) hf hs hvl hul hv huv 9998 w';have heq':(Op.equal t (.agg vs.toArray) m.key).run P w'= .ok q w':=by rw[hmk];exact heq
        have hs':dq kn (.agg cs) (.agg bs)=some q:=by simp only[dq,h0,if_false];exact hs
        rw[hs'] at h;cases q with
        |true=>simp at h;subst h;simp[Instr.findAsking,heq']
        |false=>
         simp only[aE] at h;obtain⟨r',h,rfl⟩:=h;have:=ih l (n+1) r' (by simpa using hl) (λi e m he hm=>hrep (i+1) e m (by simpa using he) (by simpa using hm)) h;simp[Instr.findAsking,heq',this];cases r' with
         |none=>rfl
         |some i=>simp;omega
       |_=>simp[dq] at hs
   have:=key es l 0 r hl hrep h;simpa using this
  |_=>simp[dE] at hk<;>omega
 ·cases ht
end
end
section
open Go.RowKit
section
variable {fi:FI} {M M':Mem} {w w':World} {P:Program}
theorem lX {s:St} {a:Act} (hI:Inv fi M w s a) {b:Nat} {es:List (PV×PV)} {v:Value} (hp:RepE fi M w (.mp b) v) (hc:s.gh[b]?=some (.map es)) :
  ∃blk,v= .map (some blk)/\RepMap fi M w blk es/\M.gb[b]?=some blk:=by
 cases (show RepP fi M w (.mp b) v from hp) with
 |mp _ blk hb=>exact⟨blk,rfl,hI.gh b _ blk hc hb,hb⟩
theorem lY {blk clock:Nat} {l:Array MapEntry} (h:w.heap[blk]?=some (.map l clock)):(getObj blk).run P w= .ok (.map l clock) w:=by simp[getObj,Sem.run,h]
theorem ph {kn:Nat} {k:PV} {v:Value} (h:RepE fi M w k v) (hk:dE kn k=true):RepP fi M w k v:=by
 cases k with
 |int=>exact h
 |agg=>exact h
 |_=>simp[dE] at hk
theorem uY {s:St} {a:Act} (hI:Inv fi M w s a) {t kt et:TypeId} {kn b:Nat} {es:List (PV×PV)} {k:PV} {u v:Value} {it:TypeInfo} {zv:Value} {zero:PV} {ok:Bool} (ht:P.underlying t=some (.map kt et))
  (hk:gJ P kt kn=true) (hit:P.info? et=some it) (hz:it.zero=some zv) (hzc:cOk zero zv=true) (hp:RepE fi M w (.mp b) u) (hc:s.gh[b]?=some (.map es)) (hkv:RepE fi M w k v) (hki:dE kn k=true)
  {r:Option PV} (h:eU kn es k=some r) :
  ∃x,(Instr.lookup t u v ok).run P w= .ok x w/\RepP fi M w (match r with|some q=>if ok then .tup [q,.bool true] else q|none=>if ok then .tup [degr zero,.bool false] else degr zero) x:=by
 obtain⟨blk,rfl,⟨h1,h2,l,clock,h3,h4,h5⟩,_⟩:=lX hI hp hc;have hkr:=ph hkv hki;have c1:=λem=>pd (P:=P) hk hki hkr em
 have c3:=lY (P:=P) h3;have pair:∀(q:PV) (y:Value) (o:Bool),RepP fi M w q y->RepP fi M w (.tup [q,.bool o]) (.tuple #[y,.bool o]):=λq y o hq=>by
  refine RepP.tup [q,.bool o] [y,.bool o] rfl λi c u hc hu=>?_
  cases i with
  |zero=>simp at hc hu;subst hc;subst hu;exact hq
  |succ i=>cases i with
   |zero=>simp at hc hu;subst hc;subst hu;exact .bool o
   |succ i=>simp at hu
 rcases uV h with ⟨rfl,h6⟩|⟨i,e,h6,h7,rfl⟩
 ·have c2:=kp (P:=P) hk hki hkr h4 (λi e m he hm=>(h5 i e m he hm).1) h6 w
  have hzr:RepP fi M w (degr zero) zv:=oR hzc;refine⟨if ok then .tuple #[zv,.bool false] else zv,?_,?_⟩
  ·simp[Instr.lookup,run_underlying ht,c3,c1,c2,zeroValue,typeInfo,hit,hz]
  ·cases ok
   ·exact hzr
   ·exact pair _ _ _ hzr
 ·have c2:=kp (P:=P) hk hki hkr h4 (λi e m he hm=>(h5 i e m he hm).1) h6 w
  have hi:i<l.length:=by rw[h4];exact (aD.1 h7).1
  have hm:=h5 i e _ h7 (aA hi);refine⟨if ok then .tuple #[l[i].val,.bool true] else l[i].val,?_,?_⟩
  ·simp[Instr.lookup,run_underlying ht,c3,c1,c2,aA hi]
  ·cases ok
   ·exact hm.2.1
   ·exact pair _ _ _ hm.2.1
theorem uZ {s:St} {a:Act} (hI:Inv fi M w s a) {ats:Array TypeId} {t kt et ty:TypeId} {b:Nat} {es:List (PV×PV)} {u:Value} (h0:ats[0]?=some t) (ht:P.underlying t=some (.map kt et))
  (hp:RepE fi M w (.mp b) u) (hc:s.gh[b]?=some (.map es)):(Builtin.len_ ats ty #[u]).run P w= .ok (.int .i64 es.length) w:=by
 obtain⟨blk,rfl,⟨h1,h2,l,clock,h3,h4,h5⟩,_⟩:=lX hI hp hc;simp[Builtin.len_,h0,run_underlying ht,lY (P:=P) h3,goInt,h4]
def World.putMap (w:World) (blk:Nat) (l:Array MapEntry) (clock:Nat):World:={w with heap:=w.heap.setIfInBounds blk (.map l clock) }
theorem u5 (w:World) (blk k:Nat) (l:Array MapEntry) (c:Nat) (h:k≠blk):(World.putMap w blk l c).heap[k]?=w.heap[k]?:=by simp[World.putMap,Ne.symm h]
theorem pi (w:World) (blk:Nat) (l:Array MapEntry) (c:Nat) (h:blk<w.heap.size):(World.putMap w blk l c).heap[blk]?=some (.map l c):=by simp[World.putMap,h]
theorem u6 (w:World) (blk:Nat) (l:Array MapEntry) (c:Nat):(World.putMap w blk l c).heap.size=w.heap.size:=by simp[World.putMap]
theorem Inv.putMap {s:St} {a:Act} (hI:Inv fi M w s a) {b blk:Nat} {es es':List (PV×PV)} (hb:M.gb[b]?=some blk) (hr:RepMap fi M w blk es) {l:List MapEntry} {clock:Nat}
  (hl:l.length=es'.length) (hrep:∀(i:Nat) (e:PV×PV) (m:MapEntry),es'[i]?=some e->l[i]?=some m->RepP fi M w e.1 m.key/\RepP fi M w e.2 m.val/\ah e.1=true/\ah e.2=true) :
  Inv fi M (World.putMap w blk l.toArray clock) ⟨s.env,s.lh,s.gh.set b (.map es')⟩ a/\Kp M w M (World.putMap w blk l.toArray clock):=by
 obtain⟨h1,h2,l0,clock0,h3,_,_⟩:=hr;generalize hW:World.putMap w blk l.toArray clock=W;have hoth:∀k,k≠blk->W.heap[k]?=w.heap[k]?:=λk h=>by rw[<-hW];exact u5 w blk k _ _ h
 have hsz:W.heap.size=w.heap.size:=by rw[<-hW];exact u6 w blk _ _
 have hcell:∀b k,W.cell? ⟨b,k,none⟩=w.cell? ⟨b,k,none⟩:=λb k=>by
  by_cases h:b=blk
  ·subst h
   have e1:W.heap[b]?=some (.map l.toArray clock):=by rw[<-hW];exact pi w b _ _ h1
   simp[World.cell?,e1,h3]
  ·exact World.cell?_of_block (w:=w) (a:=⟨b,k,none⟩) (hoth b h)
 have hext:Ext M w M W:=⟨λ_ _ h=>h,λ_ _ h=>h,λb k _=>hcell b k,λ_ _=>⟨cN _,λ_=>rfl⟩⟩
 have g:Good M w M W (λ_=>False) (λk=>k=blk):=⟨hext,by rw[hsz];exact cN _,λ_ _ h=>h,
  λb' l' hb' _=>⟨hb',hoth b' (λe=>by subst e;rw[h2] at hb';cases hb'),λ_ h=>h,id,id⟩,λb' _ hn h=>⟨hoth b' hn,λ_ h=>h,h⟩,λ_ _=>rfl⟩
 have hnd:∀i j blk',M.lb[i]?=some blk'->M.gb[j]?=some blk'->False:=λi j blk' hi hj=>by have:=hI.nodup;rw[cK] at this;exact this.2.2 blk' (aP hi) blk' (aP hj) rfl
 have hndg:M.gb.Nodup:=(cK.1 hI.nodup).2.1;have hmem:blk∈M.gb:=aP hb
 refine⟨⟨λt u hu=>⟨(hI.env t u hu).1,(hI.env t u hu).2.good g (by simp)⟩,hI.defers,hI.lbl,by simp[hI.gbl],hI.nodup,
  λi cs blk' hi hb'=>(hI.lh i cs blk' hi hb').good g (λe=>by subst e;exact hnd _ _ _ hb' hb) (by simp),λi o blk' hi hb'=>?_,hext.gl hI.gl,λb k h=>by rw[hsz];exact hI.immlt b k h,λb l h=>by rw[hsz];exact hI.ownlt b l h,λb h=>by rw[hsz];exact hI.gblt b h⟩,
  ⟨by rw[<-hW];rfl,by rw[<-hW];rfl,by rw[<-hW];rfl,by rw[hsz];exact cN _,hext,λk _ _ hg _=>hoth k (λe=>by subst e;exact hg hmem),λ_ h=> .inl h,λ_ h=> .inl h,λ_ _ h=>h,λ_ _ h=> .inl h,.same rfl⟩⟩
 rw[cF] at hi;by_cases hbi:b=i
 ·subst hbi
  simp only[if_true] at hi;split at hi
  ·cases hi
   have:blk'=blk:=by rw[hb] at hb';exact (cQ hb').symm
   subst this;refine⟨by rw[hsz];exact h1,h2,l,clock,by rw[<-hW];exact pi w _ _ _ h1,hl,λi e m he hm=>?_⟩;have:=hrep i e m he hm;exact⟨this.1.mono hext,this.2.1.mono hext,this.2.2⟩
  ·cases hi
 ·rw[if_neg hbi] at hi
  exact (hI.gh i o blk' hi hb').good g (λe=>by subst e;exact hbi (jB hndg hb hb')) (by simp)
theorem u7 {ks:List Bool}:∀{a b:List PV} {us vs:List Value},ea ks a b=some true->us.length=a.length->vs.length=b.length->
  (∀(i:Nat) (c:PV) (u:Value),a[i]?=some c->us[i]?=some u->RepP fi M w c u)->(∀(i:Nat) (c:PV) (u:Value),b[i]?=some c->vs[i]?=some u->RepP fi M w c u)->∀n,(vs.zip us).all (λ(x,y)=>Instr.sameBits n x y)=true/\us.length=vs.length:=by
 induction ks with
 |nil=>intro a b us vs h h1 h2 _ _ n;cases a<;>cases b<;>simp[ea] at h;simp at h1 h2;subst h1;subst h2;simp
 | cons k ks ih=>
  intro a b us vs h h1 h2 ha hb n;cases a with
  |nil=>simp[ea] at h
  | cons x a=>
   cases b with
   |nil=>simp[ea] at h
   | cons y b=>
    cases us with
    |nil=>simp at h1
    | cons u us=>
     cases vs with
     |nil=>simp at h2
     | cons v vs=>
      simp only[ea] at h;have hu:=ha 0 x u rfl rfl;have hv:=hb 0 y v rfl rfl;cases hs:ie k x y with
      |none=>simp[hs] at h
      | some q=>
       rw[hs] at h;cases q with
       |false=>simp at h
       | true=>
        simp only at h;obtain⟨r1,r2⟩:=ih h (by simpa using h1) (by simpa using h2) (λi c u hc hu=>ha (i+1) c u (by simpa using hc) (by simpa using hu)) (λi c u hc hu=>hb (i+1) c u (by simpa using hc) (by simpa using hu)) n;refine⟨?_,by simp[r2]⟩;simp only[List.zip_cons_cons,List.all_cons,aX];refine⟨?_,r1⟩;unfold ie at hs;split at hs
        ·split at hs
         ·rename_i hk;subst hk
          cases hu;cases hv;simp at hs;subst hs;cases n<;>simp[Instr.sameBits]
         ·cases hs
        ·cases hu;cases hv
         simp at hs;subst hs;cases n<;>simp[Instr.sameBits]
        ·cases hs
theorem u9 {s:St} {a:Act} (hI:Inv fi M w s a) {t kt et:TypeId} {kn b:Nat} {es es':List (PV×PV)} {k x:PV} {u v y:Value} (ht:P.underlying t=some (.map kt et))
  (hk:gJ P kt kn=true) (hp:RepE fi M w (.mp b) u) (hc:s.gh[b]?=some (.map es)) (hkv:RepE fi M w k v) (hki:dE kn k=true) (hx:RepE fi M w x y) (ha1:ah k=true) (ha2:ah x=true)
  (h:eb kn es k x=some es') :
  ∃w',(Instr.mapUpdate t u v y).run P w= .ok () w'/\Inv fi M w' ⟨s.env,s.lh,s.gh.set b (.map es')⟩ a/\Kp M w M w':=by
 obtain⟨blk,rfl,hrm,hat⟩:=lX hI hp hc;obtain⟨h1,h2,l,clock,h3,h4,h5⟩:=id hrm;have hkr:=ph hkv hki;have hxr:RepP fi M w x y:=hx.repP (by simpa [ah] using ha2);have c1:=pd (P:=P) hk hki hkr false;have c3:=lY (P:=P) h3;have ix:∀l' c',(setObj blk (.map l' c')).run P w= .ok () (World.putMap w blk l' c'):=λl' c'=>by simp[setObj,Sem.run,h3,World.putMap]
 rcases uW h with ⟨h6,rfl⟩|⟨i,e,h6,h7,h8,rfl⟩
 ·have c2:=kp (P:=P) hk hki hkr h4 (λi e m he hm=>(h5 i e m he hm).1) h6 w
  obtain⟨q1,q2⟩:=hI.putMap hat hrm (es':=es++[(k,x)]) (l:=l++[{key:=v,val:=y,born:=clock }]) (clock:=clock+1) (by simp[h4]) (λi e m he hm=>by
   by_cases hi:i<es.length
   ·rw[aJ hi] at he
    rw[aJ (by omega)] at hm;exact h5 i e m he hm
   ·rw[aR (by omega)] at he
    rw[aR (by omega),h4] at hm;have h0:=(aD.1 he).1;simp at h0;rw[h0] at he hm;simp at he hm;subst he;subst hm;exact⟨hkr,hxr,ha1,ha2⟩)
  refine⟨_,?_,q1,q2⟩;simp[Instr.mapUpdate,run_underlying ht,c3,c1,c2,ix]
 ·have c2:=kp (P:=P) hk hki hkr h4 (λi e m he hm=>(h5 i e m he hm).1) h6 w
  have hi:i<l.length:=by rw[h4];exact (aD.1 h7).1
  have hm:=h5 i e _ h7 (aA hi);have hbits:Instr.sameBits 10000 l[i].key v=true:=by
   cases hkk:k with
   |int kd a=>
    rw[hkk] at h8 hkr;obtain⟨b',hb',hq⟩:=pf h8;have hab:a=b':=by simpa using hq.symm
    have:=hm.1;rw[hb'] at this;have e1:=this.repE.int;have e2:=hkr.repE.int;rw[e1,e2,hab];simp[Instr.sameBits]
   | agg cs=>
    rw[hkk] at h8 hkr;cases hbb:e.1 with
    | agg bs=>
     rw[hbb] at h8;have hmk:=hm.1;rw[hbb] at hmk;obtain⟨us,e1,e2,e3⟩:=hmk.repE.agg;obtain⟨vs,f1,f2,f3⟩:=hkr.repE.agg;simp only[dq] at h8;split at h8
     ·cases h8
     ·obtain⟨r1,r2⟩:=u7 (fi:=fi) (M:=M) (w:=w) h8 f2 e2 f3 e3 9999
      rw[e1,f1];simp only[Instr.sameBits,aX,cR];exact⟨by simp[r2],r1⟩
    |_=>rw[hbb] at h8;simp[dq] at h8
   |_=>rw[hkk] at hki;simp[dE] at hki
  obtain⟨q1,q2⟩:=hI.putMap hat hrm (es':=es.set i (k,x)) (l:=l.set i {l[i] with key:=v,val:=y }) (clock:=clock) (by simp[h4]) (λj e' m he hm'=>by
   rw[cF] at he hm';by_cases hij:i=j
   ·subst hij
    simp[hi] at hm';have hie:i<es.length:=by omega
    simp[hie] at he;subst he;subst hm';exact⟨hkr,hxr,ha1,ha2⟩
   ·rw[if_neg hij] at he hm'
    exact h5 j e' m he hm')
  refine⟨_,?_,q1,q2⟩;have hmod:(l.modify i λe=>{key:=v,val:=y,born:=e.born })=l.set i {key:=v,val:=y,born:=l[i].born }:=by simp[List.modify_eq_set,aA hi]
  simp[Instr.mapUpdate,run_underlying ht,c3,c1,c2,ix,aA hi,Instr.keyThatStays,hbits,hmod]
theorem va {s:St} {a:Act} (hI:Inv fi M w s a) {d:Nat} (hd:d<a.tmps.size) :
  ∃M',Inv fi M' (w.alloc (.map #[] 0)) ⟨put s.env d (.mp s.gh.length),s.lh,s.gh++[.map []]⟩ (a.put (some d) (.map (some w.heap.size)))/\Kp M w M' (w.alloc (.map #[] 0)):=by
 have hno:M.own w.heap.size=none:=by
  cases ho:M.own w.heap.size with
  |none=>rfl
  |some l=>exact absurd (hI.ownlt _ l ho) (by omega)
 have hnl:w.heap.size∉M.lb++M.gb:=by
  rw[bZ];rintro (hk|hk)
  ·exact absurd (gI hI _ hk) (by omega)
  ·exact absurd (hI.gblt _ hk) (by omega)
 let M1:Mem:={M with gb:=M.gb++[w.heap.size] }
 obtain⟨g1,k1⟩:=Good.alloc hI (.map #[] 0) M1 [] [w.heap.size] (by simp[M1]) rfl (by simp) (by simp) (λ_=>False) (by simp[M1]) (λ_ _=>rfl);generalize hW:w.alloc (.map #[] 0)=W at *;have hWs:W.heap.size=w.heap.size+1:=by rw[<-hW,size_alloc']
 have hI1:Inv fi M1 W ⟨s.env,s.lh,s.gh++[.map []]⟩ a:=by
  refine⟨λt u hu=>⟨(hI.env t u hu).1,(hI.env t u hu).2.good g1 (by simp)⟩,hI.defers,hI.lbl,by simp[M1,hI.gbl],?_,λi cs blk hi hb=>(hI.lh i cs blk hi hb).good g1 (by simp) (by simp),?_,g1.ext.gl hI.gl,?_,?_,?_⟩
  ·show (M.lb++(M.gb++[w.heap.size])).Nodup
   rw[<-aY];exact jA hI.nodup hnl
  ·intro i o blk hi hb
   have hb':(M.gb++[w.heap.size])[i]?=some blk:=hb;by_cases hlt:i<s.gh.length
   ·rw[aJ hlt] at hi
    rw[aJ (by rw[hI.gbl];exact hlt)] at hb';exact (hI.gh i o blk hi hb').good g1 (by simp) (by simp)
   ·have hil:=(aD.1 hi).1
    simp at hil;obtain rfl:i=s.gh.length:=by omega
    simp at hi;subst hi;rw[aR (by rw[hI.gbl];exact cN _),hI.gbl] at hb';simp at hb';subst hb';exact⟨by rw[hWs];omega,hno,[],0,by rw[<-hW];exact heap_alloc_new w _,rfl,by simp⟩
  ·exact λb k hb=>aS (hI.immlt b k hb) k1.size
  ·exact λb l hb=>aS (hI.ownlt b l hb) k1.size
  ·intro b hb
   have hb':b∈M.gb++[w.heap.size]:=hb;simp only[bZ,List.mem_singleton] at hb';rcases hb' with h2|h2
   ·have:=hI.gblt b h2;rw[hWs];omega
   ·subst h2;rw[hWs];omega
 refine⟨M1,hI1.put hd (RepE.repAt (RepP.repE (.mp _ _ ?_))),k1⟩
 show (M.gb++[w.heap.size])[s.gh.length]?=some w.heap.size
 rw[aR (by rw[hI.gbl];exact cN _),hI.gbl];simp
end
end
section
open Go.RowKit
section
variable {fi:FI} {M M':Mem} {w w':World} {P:Program}
theorem vb (l:List Value) (v:Value) (off:Nat):∀(i:Nat),(l.set off v)[i]?=if i=off/\off<l.length then some v else l[i]?:=by
 intro i;rw[cF];by_cases h:off=i
 ·subst h
  by_cases h2:off<l.length
  ·simp[h2]
  ·simp[h2]
 ·simp[h,Ne.symm h]
theorem pj {α:Type} (vs:List Value) (f:α->Value×Nat->α) (x:α):vs.toArray.zipIdx.foldl f x=vs.zipIdx.foldl f x:=by rw[<-Array.foldl_toList];simp
theorem RepP.noOwn {p:PV} {v:Value} (h:RepP fi M w p v):aa p=p:=by cases h<;>rfl
theorem pk (vs:List Value):∀(n off:Nat) (us:List Value),off+n+vs.length<=us.length->
  (vs.zipIdx n).foldl (λ(cs:Array Value) (p:Value×Nat)=>cs.setIfInBounds (off+p.2) p.1) us.toArray=(us.take (off+n)++vs++us.drop (off+n+vs.length)).toArray:=by
 induction vs with
 |nil=>intro n off us _;simp
 | cons v vs ih=>
  intro n off us h;simp only[bB] at h;simp only[List.zipIdx_cons,List.foldl_cons];rw[List.setIfInBounds_toArray,ih (n+1) off (us.set (off+n) v) (by rw[List.length_set];omega)]
  congr 1
  apply List.ext_getElem?;intro i;have e1:=gn (us.set (off+n) v) vs (off+(n+1)) i (by rw[List.length_set];omega);have e2:=gn us (v::vs) (off+n) i (by simp only[bB];omega);rw[e1,e2,vb];simp only[bB];by_cases h1:i<off+n
  ·rw[if_pos (by omega),if_pos h1,if_neg (by omega)]
  ·by_cases h2:i=off+n
   ·subst h2
    have c1:off+n<off+(n+1):=by omega
    have c3:off+n<off+n+(vs.length+1):=by omega
    have c4:off+n<us.length:=by omega
    simp[c1,c3,c4]
   ·rw[if_neg (by omega),if_neg h1]
    by_cases h3:i<off+n+(vs.length+1)
    ·rw[if_pos (by omega),if_pos h3]
     rw[show i-(off+n)=(i-(off+(n+1)))+1 by omega,List.getElem?_cons_succ]
    ·rw[if_neg (by omega),if_neg h3,if_neg (by omega)]
def gK (fi:FI) (M:Mem) (w:World) (place:Nat->Option (Nat×Nat)) (mk:Nat->Loc):List (Nat×Nat×PV)->List (Nat×Value)->Prop
 |[],[]=>True
 |(off,k,p)::ps,(i,v)::vs=>place i=some (off,k)/\RepAt fi M w (λj=>mk (off+j)) p v/\ah p=true/\gK fi M w place mk ps vs
 |_,_=>False
theorem vc {place:Nat->Option (Nat×Nat)} {mk:Nat->Loc}:∀(ps:List (Nat×Nat×PV)) (parts:List (Nat×Value)) (cs cs':List PV) (us:List Value),fq cs ps=some cs'->us.length=cs.length->
  (∀(i:Nat) (c:PV) (u:Value),cs[i]?=some c->us[i]?=some u->RepC fi M w (mk i) c u)->gK fi M w place mk ps parts->(∀c∈cs,c.one=true)->
  ∃us':List Value,Instr.fill place us.toArray parts=some us'.toArray/\us'.length=cs'.length/\(∀(i:Nat) (c:PV) (u:Value),cs'[i]?=some c->us'[i]?=some u->RepC fi M w (mk i) c u)/\∀c∈cs',c.one=true:=by
 intro ps
 induction ps with
 |nil=>
  intro parts cs cs' us h hl hr hp h1;cases parts with
  |nil=>simp[fq] at h;subst h;exact⟨us,rfl,hl,hr,h1⟩
  |cons=>simp[gK] at hp
 | cons x ps ih=>
  intro parts cs cs' us h hl hr hp h1;obtain⟨off,k,p⟩:=x;cases parts with
  |nil=>simp[gK] at hp
  | cons y parts=>
   obtain⟨i,v⟩:=y;simp only[gK] at hp;obtain⟨hpl,hrep,hok,hrest⟩:=hp;simp only[fq] at h;split at h
   ·rename_i hk
    obtain⟨hk1,hk2⟩:=hk;obtain⟨vs,hvc,hvl,hvr,_⟩:=hrep.cells hok;have hall:∀c∈p.cells,c.one=true:=by simpa [ah] using hok
    have hsz:v.cells.size=k:=by rw[hvc];simp[hvl,hk1]
    obtain⟨us',e1,e2,e3,e4⟩:=ih parts _ cs' (us.take off++vs++us.drop (off+vs.length)) h (by rw[ar,iO _ _ _ (by omega),iO _ _ _ (by omega)];exact hl) (λj c u hc hu=>by
     rw[ar,gn _ _ _ _ (by omega)] at hc;rw[gn _ _ _ _ (by omega),hvl] at hu;split at hc
     ·rename_i h2;rw[if_pos h2] at hu;exact hr j c u hc hu
     ·rename_i h2
      rw[if_neg h2] at hu;split at hc
      ·rename_i h3
       rw[if_pos h3] at hu;have:=hvr _ c u hc hu
       rwa [show off+(j-off)=j by omega] at this
      ·rename_i h3;rw[if_neg h3] at hu;exact hr j c u hc hu) hrest (λc hc=>by
     simp only[ar,bZ] at hc;rcases hc with (hc|hc)|hc
     ·exact h1 c (cH hc)
     ·exact hall c hc
     ·exact h1 c (List.mem_of_mem_drop hc))
    refine⟨us',?_,e2,e3,e4⟩;have hfold:=pk vs 0 off us (by omega);simp only[cB] at hfold;have hle:¬(off+v.cells.size>us.toArray.size):=by rw[hsz];simp;omega
    have hz:(v.cells.zipIdx.foldl (λ(cs:Array Value) (p:Value×Nat)=>cs.setIfInBounds (off+p.2) p.1) us.toArray)=(us.take off++vs++us.drop (off+vs.length)).toArray:=by rw[hvc,pj];exact hfold
    simp only[Instr.fill,hpl,hsz,ne_eq,not_true,decide_false,Bool.false_or,aH];rw[if_neg (by rw[hsz] at hle;simpa using hle)];rw[<-e1,<-hz]
   ·cases h
theorem vd {z:Nat}:∀(vs:List PV) (n:Nat) (parts:List (Nat×Value)) (pre rest:List Value),pre.length=n*z->rest.length=vs.length*z->(∀p∈vs,ah p=true/\p.cells.length=z)->parts.map (·.1)=List.range' n vs.length->
  (∀(i:Nat) (p:PV) (y:Nat×Value),vs[i]?=some p->parts[i]?=some y->RepP fi M w p y.2)->
  ∃us:List Value,Instr.fill (λi=>some (i*z,z)) (pre++rest).toArray parts=some (pre++us).toArray/\us.length=vs.length*z/\
   ∀(i:Nat) (e:PV) (j:Nat) (p:PV),vs[i]?=some e->e.cells[j]?=some p->∃u,us[i*z+j]?=some u/\RepP fi M w p u:=by
 intro vs
 induction vs with
 |nil=>
  intro n parts pre rest _ hrl _ hpi _;simp at hrl hpi;subst hrl;subst hpi;exact⟨[],by simp[Instr.fill],by simp,by simp⟩
 | cons p vs ih=>
  intro n parts pre rest hpl hrl hok hpi hrep;cases parts with
  |nil=>simp at hpi
  | cons y parts=>
   obtain⟨i,v⟩:=y;simp only[bQ,bB,List.range'_succ,List.cons.injEq] at hpi;obtain⟨rfl,hpi⟩:=hpi;have h0:=hrep 0 p (i,v) rfl rfl;obtain⟨hok1,hz1⟩:=hok p (by simp);obtain⟨ws,hvc,hvl,hvr,_⟩:=(RepE.repAt (mk:=Loc.lim) h0.repE).cells hok1;have hsz:v.cells.size=z:=by rw[hvc];simp[hvl,hz1]
   have hrl':rest.length=z+vs.length*z:=by rw[hrl,bB,Nat.add_mul,Nat.one_mul,Nat.add_comm]
   have hfold:=pk ws 0 (i*z) (pre++rest) (by simp;omega);simp only[cB] at hfold;have hpre:(pre++rest).take (i*z)=pre:=by rw[<-hpl];simp
   have hdrop:(pre++rest).drop (i*z+ws.length)=rest.drop z:=by
    rw[<-hpl,List.drop_append,aQ (by omega),bI]
    congr 1;omega
   rw[hpre,hdrop] at hfold;obtain⟨us,e1,e2,e3⟩:=ih (i+1) parts (pre++ws) (rest.drop z) (by simp[hpl,hvl,hz1,Nat.add_mul]) (by simp;omega) (λq hq=>hok q (by simp[hq])) hpi (λj q y hq hy=>hrep (j+1) q y (by simpa using hq) (by simpa using hy));refine⟨ws++us,?_,by simp[hvl,hz1,e2,Nat.add_mul,Nat.add_comm],λk e j q he hq=>?_⟩
   ·have hle:¬(i*z+v.cells.size>(pre++rest).toArray.size):=by rw[hsz];simp;omega
    have hz:(v.cells.zipIdx.foldl (λ(cs:Array Value) (p:Value×Nat)=>cs.setIfInBounds (i*z+p.2) p.1) (pre++rest).toArray)=(pre++ws++rest.drop z).toArray:=by rw[hvc,pj];exact hfold
    simp only[Instr.fill,hsz,ne_eq,not_true,decide_false,Bool.false_or,aH];rw[if_neg (by rw[hsz] at hle;simpa using hle)];rw[<-aY,<-e1,<-hz]
   ·cases k with
    | zero=>
     simp at he;subst he;have hj:=(aD.1 hq).1;refine⟨ws[j]'(by omega),?_,?_⟩
     ·rw[Nat.zero_mul,cO,aJ (by omega)];exact aA (by omega)
     ·have:=(hvr j q _ hq (aA (by omega))).degr1
      have hqn:aa q=q:=by
       cases h0 with
       |agg cs us' hl' hh=>
        have hjl:j<us'.length:=by rw[hl'];exact hj
        exact (hh j q us'[j] hq (aA hjl)).noOwn
       |_=>simp[PV.cells] at hq;cases j<;>simp at hq;subst hq;rfl
      rwa [hqn] at this
    |succ k=>
     obtain⟨u,hu,hr⟩:=e3 k e j q (by simpa using he) hq;refine⟨u,?_,hr⟩;rw[aR (by rw[hvl,hz1,Nat.add_mul];omega),<-hu]
     congr 1
     rw[hvl,hz1,Nat.add_mul];omega
end
end
section
open Go.RowKit
def mXo (fi:FI):Option IX->Option Operand->Bool
 |none,none=>true
 |some x,some o=>mX fi x o
 |_,_=>false
def jE (P:Program) (t:TypeId) (z:PV):Bool:=
 match (P.info? t).bind (·.zero) with
 |some v=>cOk z v
 |none=>false
def fd (P:Program) (t:TypeId) (i:Nat):Option (Nat×Nat):=
 match P.underlying t with
 |some (.struct fs)=>(fs.toList.mapM λf=>(P.info? f.type).map λi=>(f.offset,i.size)).bind (·[i]?)
 |some (.array _ e)=>(dn P e).map λn=>(i*n,n)
 |_=>none
def eW (P:Program) (fi:FI) (t:TypeId):List (Nat×Nat×IX)->List (Nat×Operand)->Bool
 |[],[]=>true
 |(off,k,x)::ps,(i,o)::os=>fd P t i==some (off,k)&&mX fi x o&&eW P fi t ps os
 |_,_=>false
def kq (P:Program) (t:TypeId) (z:List PV):Bool:=
 match (P.info? t).bind (·.zero) with
 |some v=>ik z v.cells.toList
 |none=>false
def iQ (P:Program) (t:TypeId) (z:Nat):Bool:=
 match P.underlying t with
 |some (.slice e)=>dn P e==some z
 |_=>false
def iR (op:BinOp):BinOp->Bool:=λo=>decide (op=o)
def mOp (P:Program) (fi:FI) (i:IOp) (op:Op):Bool:=
 match i,op with
 | .mv _ x,.move y| .mv _ x,.assign y=>mX fi x y
 | .tkS _ n lo,.slice t (.tmp m) (some (.const (.int _ l))) none none=>n==m&&iQ P t 1&&l==(lo:Int)
 | .tk _ s,.move (.tmp n)| .tk _ s,.assign (.tmp n)=>n==s
 | .pick _ c x y,.pick c' x' y'=>mX fi c c'&&mX fi x x'&&mX fi y y'
 | .box _ _ _ x,.box _ y=>mX fi x y
 | .alloc _ _ z,.alloc t=>jE P t z
 | .build _ z ps,.build t parts| .buildT _ z ps,.build t parts=>(fd P t 0).isSome&&kq P t z&&eW P fi t ps parts.toList
 | .buildSl _ z els,.buildSlice t len parts=>
  iQ P t z&&decide (0<z)&&len==els.length&&decide (len*z<=16777216)&&decide (parts.toList.map (·.1)=List.range' 0 len)&&mXs fi els (parts.toList.map (·.2)) &&
   (match P.underlying t with|some (.slice e)=>((P.info? e).bind (·.zero)).isSome|_=>false)
 | .load _ agg k a,.load t y=>mX fi a y&&eA P t==some agg&&dn P t==some k
 | .loadT _ a,.load t y=>mX fi a y&&eA P t==some false
 | .store _ k a x,.store t y z=>mX fi a y&&mX fi x z&&dn P t==some k
 | .nilc _ x,.nilCheck y=>mX fi x y
 | .bin _ o x y,.binOp o' _ x' y' _=>iR o o'&&mX fi x x'&&mX fi y y'
 | .eqa _ neg ks x y,.binOp o t x' y' _=>iR (if neg then .neq else .eql) o&&jC P t ks&& !P.eqGuardType P.depth t&&mX fi x x'&&mX fi y y'
 | .eqb _ neg x y,.binOp o t x' y' _=>iR (if neg then .neq else .eql) o&&(match P.underlying t with|some .bool=>true|_=>false)&&mX fi x x'&&mX fi y y'
 | .eqn _ neg x,.binOp o t x' (.const .nilIface) _=>iR (if neg then .neq else .eql) o&&(match P.underlying t with|some (.interface _)=>true|_=>false)&&mX fi x x'
 | .un _ o x,.unOp o' _ x'=>decide (o=o')&&mX fi x x'
 | .conv _ k x,.convert s t y=>(match P.underlying t with|some (.int k')=>decide (k=k')|_=>false)&&(P.underlying s).isSome&&mX fi x y
 | .mkfn _ f caps,.makeFunc (.func F) first captured=>fi f==some F&&first.isEmpty&&mXs fi caps captured.toList
 | .mkbf _ f fs,.makeFunc (.func F) first captured=>fi f==some F&&captured.isEmpty&&mXs fi fs first.toList
 | .clearK x,.call {callee:= .builtin .clear,args,argTypes }=>(match args.toList,argTypes.toList with
   |[y],[t]=>mX fi x y&&(match P.underlying t with
    |some (.slice e)=>(match (P.info? e).bind (·.zero) with|some (.int .i64 n)=>n==0|_=>false)
    |_=>false)
   |_,_=>false)
 | .loadG _ ss,.load t (.global g)=>(eA P t==some false)&&(fi.gw.any λx=>x.1==g&&decide (x.2.map (λs=>s.data.toList)=ss.map (λs=>s.data.toList)))
 | .boxB _ x,.box el y=>fi.bT.contains el&&mX fi x y
 | .mkbld _,.alloc t=>fi.bT.contains t&&jE P t (.agg [.nilp,.sl true 1 []])
 | .mkmap _,.makeMap _ none=>true
 | .mksl _ _ z bytes zero l,.makeSlice t y y'=>
  mX fi l y&&mX fi l y'&&decide (0<bytes)&&(match P.underlying t with
   |some (.slice e)=>(match P.info? e with|some i=>i.size==z&&i.bytes==bytes&&(match i.zero with|some v=>cOk zero v&&v.cells.size==z|none=>false)|none=>false)
   |_=>false)
 | .slice _ z x lo hi,.slice t y lo' hi' none=>iQ P t z&&mX fi x y&&mXo fi lo lo'&&mXo fi hi hi'
 | .sliceS _ x lo hi,.slice t y lo' hi' none=>(match P.underlying t with|some .string=>true|_=>false)&&mX fi x y&&mXo fi lo lo'&&mXo fi hi hi'
 | .faddr _ x off,.fieldAddr t y fld=>mX fi x y&&(match P.underlying t with
   |some (.struct fs)=>(match fs[fld]? with|some f=>f.offset==off&&(match dn P f.type with|some n=>n !=0|none=>false)|none=>false)
   |_=>false)
 | .field _ agg k off x,.field t y fld=>mX fi x y&&(match P.underlying t with
   |some (.struct fs)=>(match fs[fld]? with|some f=>f.offset==off&&eA P f.type==some agg&&dn P f.type==some k|none=>false)
   |_=>false)
 | .iaddr _ z none x i,.indexAddr t y j=>iQ P t z&&mX fi x y&&mX fi i j
 | .iaddr _ z (some m) x i,.indexAddr t y j=>mX fi x y&&mX fi i j&&(match P.underlying t with|some (.array m' e)=>m==m'&&dn P e==some z|_=>false)
 | .index _ z arr agg x i,.index t y j=>mX fi x y&&mX fi i j&&(match P.underlying t with|some (.array m e)=>m==arr&&dn P e==some z&&eA P e==some agg|_=>false)
 | .indexS _ x i,.index t y j=>mX fi x y&&mX fi i j&&(match P.underlying t with|some .string=>true|_=>false)
 | .lookup _ kn m k ok zero,.lookup t y j ok'=>mX fi m y&&mX fi k j&&ok==ok'&&(match P.underlying t with|some (.map kt et)=>gJ P kt kn&&jE P et zero|_=>false)
 | .mupd kn m k x,.mapUpdate t m' k' x'| .mupd kn m k x,.insert t m' k' x'=>mX fi m m'&&mX fi k k'&&mX fi x x'&&(match P.underlying t with|some (.map kt _)=>gJ P kt kn|_=>false)
 | .len _ kd x,.call {callee:= .builtin .len,args,argTypes }=>(match args.toList,argTypes[0]? with
   |[y],some t=>mX fi x y&&(match kd,P.underlying t with
    |0,some (.slice _)=>true
    |1,some .string=>true
    |2,some (.map _ _)=>true
    |_,_=>false)
   |_,_=>false)
 | .append _ z bytes s x,.call {callee:= .builtin .append,args,argTypes }=>(match args.toList,argTypes.toList with
   |[y,y'],[t,t']=>mX fi s y&&mX fi x y'&&t==t'&&decide (0<z)&&decide (0<bytes)&&(match P.underlying t with
    |some (.slice e)=>(match P.info? e with|some i=>i.size==z&&i.bytes==bytes&&(match i.zero with|some v=>v.cells.size==z|none=>false)|none=>false)
    |_=>false)
   |_,_=>false)
 | .maxi _ xs,.call {callee:= .builtin .max,args,.. }=>mXs fi xs args.toList
 | .extract _ x i,.extract y j=>mX fi x y&&i==j
 |_,_=>false
end
section
open Go.RowKit
section
variable {fi:FI} {M M':Mem} {w w':World} {P:Program} {s s':St} {a:Act} {cf:CallF}
structure de (P:Program) (fi:FI) (M:Mem) (w:World) (s:St) (a:Act) (o:Oper) (i:IOp):Prop where
 inv:Inv fi M w s a
 m:mOp P fi i o.op=true
 dst:o.dst=ba i
 lt:∀d,ba i=some d->d<a.tmps.size
theorem ve {o:Oper} {d:Nat} {x:IX} (A:de P fi M w s a o (.mv d x)) (h:ae cf s (.mv d x)=some s'):Sim P fi o M w s' a:=by
 obtain⟨dst,op,ty,pos,aft,g⟩:=o;obtain⟨hI,hm,hd,hlt⟩:=A;simp only[ae,aE] at h;obtain⟨p,hp,rfl⟩:=h;cases op<;>simp[mOp] at hm
 ·exact Sim.pure hI hd (hlt d rfl) (by simp[execOp]) (oU hI hm hp _)
 ·exact Sim.pure hI hd (hlt d rfl) (by simp[execOp]) (oU hI hm hp _)
theorem vg {o:Oper} {d n:Nat} (A:de P fi M w s a o (.tk d n)) (h:ae cf s (.tk d n)=some s'):Sim P fi o M w s' a:=by
 obtain⟨dst,op,ty,pos,aft,g⟩:=o;obtain⟨hI,hm,hd,hlt⟩:=A;simp only[ae,aE] at h;obtain⟨v,hv,rfl⟩:=h;have key:∀y,mX fi (.t n) y=true->∃M',Inv fi M' w ⟨put (put s.env n (degr v)) d v,s.lh,s.gh⟩ (a.put (some d) (a.eval y))/\Kp M w M' w:=by intro y hy;obtain⟨M1,hI1,k1,hr,_⟩:=jz hI hy (v:=v) (e:=put s.env n (degr v)) (by simp[dD,hv]);obtain⟨hI2,k2⟩:=hI1.putLim (hlt d rfl) hr;exact⟨_,hI2,k1.trans k2⟩
 cases op with
 | move y=>
  cases y with
  |tmp m=>
   simp[mOp] at hm;obtain⟨M',h1,h2⟩:=key (.tmp m) (by simp[mX,hm]);exact⟨_,a.eval (.tmp m),M',w,by simp[execOp],.inl rfl,by rw[show dst=some d from hd];exact h1,h2⟩
  |_=>simp[mOp] at hm
 | assign y=>
  cases y with
  |tmp m=>
   simp[mOp] at hm;obtain⟨M',h1,h2⟩:=key (.tmp m) (by simp[mX,hm]);exact⟨_,a.eval (.tmp m),M',w,by simp[execOp],.inl rfl,by rw[show dst=some d from hd];exact h1,h2⟩
  |_=>simp[mOp] at hm
 |_=>simp[mOp] at hm
theorem vh {o:Oper} {d:Nat} {c x y:IX} (A:de P fi M w s a o (.pick d c x y)) (h:ae cf s (.pick d c x y)=some s'):Sim P fi o M w s' a:=by
 obtain⟨dst,op,ty,pos,aft,g⟩:=o;obtain⟨hI,hm,hd,hlt⟩:=A;cases op<;>simp[mOp] at hm;rename_i c' x' y';simp only[ae] at h;split at h
 ·rename_i hc
  simp only[aE] at h;obtain⟨p,hp,rfl⟩:=h;have hcv:=(bc hI hm.1.1 hc).bool;exact Sim.pure hI hd (hlt d rfl) (by simp[execOp,hcv,asBool]) (bc hI hm.1.2 hp).repAt
 ·rename_i hc
  simp only[aE] at h;obtain⟨p,hp,rfl⟩:=h;have hcv:=(bc hI hm.1.1 hc).bool;exact Sim.pure hI hd (hlt d rfl) (by simp[execOp,hcv,asBool]) (bc hI hm.2 hp).repAt
 ·cases h
theorem vi {o:Oper} {d:Nat} {g tk:Bool} {x:IX} (A:de P fi M w s a o (.box d g tk x)) (h:ae cf s (.box d g tk x)=some s'):Sim P fi o M w s' a:=by
 obtain⟨dst,op,ty,pos,aft,gd⟩:=o;obtain⟨hI,hm,hd,hlt⟩:=A;cases op<;>simp[mOp] at hm;rename_i el y;have key:∀(M1:Mem) (s1:St) (p:PV),Inv fi M1 w s1 a->Kp M w M1 w->RepAt fi M1 w Loc.lim p (a.eval y)->ah p=true->Sim P fi ⟨dst,.box el y,ty,pos,aft,gd⟩ M w (gk s1 d g p.cells) a:=by
  intro M1 s1 p hI1 k1 hr hok;obtain⟨M2,hI2,k2,hr2⟩:=hI1.newBox g hr hok el;refine⟨_,.pointer (some ⟨w.heap.size,0,none⟩),M2,_,?_,.inl rfl,?_,k1.trans k2⟩
  ·simp[execOp,Instr.box,newVar,newRow]
  ·rw[show dst=some d from hd]
   exact hI2.put (hlt d rfl) hr2.repAt
 simp only[ae] at h;split at h
 ·simp only[aC] at h
  obtain⟨⟨v,e⟩,hv,h⟩:=h;split at h
  ·rename_i hok
   cases h;obtain⟨M1,hI1,k1,hr,_⟩:=jz hI hm hv;exact key M1 _ v hI1 k1 hr hok
  ·cases h
 ·simp only[aC] at h
  obtain⟨v,hv,h⟩:=h;split at h
  ·rename_i hok
   cases h;exact key M s v hI (Kp.refl M w) (bc hI hm hv).repAt hok
  ·cases h
theorem vj {o:Oper} {d:Nat} {g:Bool} {z:PV} (A:de P fi M w s a o (.alloc d g z)) (h:ae cf s (.alloc d g z)=some s'):Sim P fi o M w s' a:=by
 obtain⟨dst,op,ty,pos,aft,gd⟩:=o;obtain⟨hI,hm,hd,hlt⟩:=A;cases op<;>simp[mOp] at hm;rename_i el;simp only[ae] at h;split at h
 ·rename_i hok
  cases h;unfold jE at hm;cases hi:P.info? el with
  |none=>simp[hi] at hm
  | some i=>
   cases hz:i.zero with
   |none=>simp[hi,hz] at hm
   | some zv=>
    simp[hi,hz] at hm;obtain⟨M2,hI2,k2,hr2⟩:=hI.newBox g (iK hm Loc.lim) hok el;refine⟨_,.pointer (some ⟨w.heap.size,0,none⟩),M2,_,?_,.inl rfl,?_,k2⟩
    ·simp[execOp,Instr.alloc,zeroValue,typeInfo,hi,hz,newVar,newRow]
    ·rw[show dst=some d from hd]
     exact hI2.put (hlt d rfl) hr2.repAt
 ·cases h
theorem vk {o:Oper} {d k:Nat} {agg:Bool} {x:IX} (A:de P fi M w s a o (.load d agg k x)) (h:ae cf s (.load d agg k x)=some s'):Sim P fi o M w s' a:=by
 obtain⟨dst,op,ty,pos,aft,gd⟩:=o;obtain⟨hI,hm,hd,hlt⟩:=A;cases op<;>simp[mOp] at hm;rename_i t y;simp only[ae] at h;split at h
 ·rename_i g b off hp
  simp only[aC,aE] at h;obtain⟨cs,hc,v,hg,rfl⟩:=h;obtain⟨r,h1,h2⟩:=uJ (P:=P) hI hm.1.2 (λ_=>hm.2) (bc hI hm.1.1 hp) hc hg;exact Sim.pure hI hd (hlt d rfl) (by simp[execOp,h1]) h2.repE.repAt
 ·rename_i e off hp
  simp only[aE] at h;obtain⟨v,hg,rfl⟩:=h;obtain⟨r,h1,h2⟩:=uK (P:=P) hm.1.2 (λ_=>hm.2) (bc hI hm.1.1 hp) hg;exact Sim.pure hI hd (hlt d rfl) (by simp[execOp,h1]) h2.repE.repAt
 ·cases h
theorem vl {o:Oper} {d:Nat} {x:IX} (A:de P fi M w s a o (.loadT d x)) (h:ae cf s (.loadT d x)=some s'):Sim P fi o M w s' a:=by
 obtain⟨dst,op,ty,pos,aft,gd⟩:=o;obtain⟨hI,hm,hd,hlt⟩:=A;cases op<;>simp[mOp] at hm;rename_i t y;simp only[ae] at h;split at h
 ·rename_i g b off hp
  simp only[aC,aE] at h;obtain⟨cs,hc,v,hg,rfl⟩:=h;obtain⟨r,M',h1,h2,k2⟩:=uM (P:=P) hI hm.2 (bc hI hm.1 hp) hc hg (hlt d rfl);exact⟨_,r,M',w,by simp[execOp,h1],.inl rfl,by rw[show dst=some d from hd];exact h2,k2⟩
 ·cases h
theorem pl {o:Oper} {k:Nat} {tk:Bool} {y x:IX} (A:de P fi M w s a o (.store tk k y x)) (h:ae cf s (.store tk k y x)=some s'):Sim P fi o M w s' a:=by
 obtain⟨dst,op,ty,pos,aft,gd⟩:=o;obtain⟨hI,hm,hd,hlt⟩:=A;cases op<;>simp[mOp] at hm;rename_i t y' x'
 have key:∀(M1:Mem) (e:List (Nat×PV)) (g:Bool) (b off:Nat) (cs:List PV) (p:PV),Inv fi M1 w ⟨e,s.lh,s.gh⟩ a->Kp M w M1 w->RepE fi M1 w (.ptr g b off) (a.eval y')->RepAt fi M1 w Loc.lim p (a.eval x')->
   St.cellsAt ⟨e,s.lh,s.gh⟩ g b=some cs->p.cells.length=k->off+k<=cs.length->ah p=true->Sim P fi ⟨dst,.store t y' x',ty,pos,aft,gd⟩ M w (St.setCells ⟨e,s.lh,s.gh⟩ g b (ar cs off p.cells)) a:=by
  intro M1 e g b off cs p hI1 k1 hp hr hc hk hle hok;obtain⟨M',w',h1,h2,k2⟩:=uL (P:=P) hI1 hm.2 hp hc hr hk hle hok;refine⟨_,undef,M',w',?_,.inr ⟨rfl,rfl⟩,?_,k1.trans k2⟩
  ·simp[execOp,h1]
  ·rw[show dst=none from hd];exact h2
 simp only[ae] at h;split at h
 ·rename_i g b off hp
  have hp':=bc hI hm.1.1 hp;split at h
  ·simp only[aC] at h
   obtain⟨⟨v,e⟩,hv,cs,hc,h⟩:=h;split at h
   ·rename_i hk
    cases h;obtain⟨M1,hI1,k1,hr,hlb,hgb,himm⟩:=jz hI hm.1.2 hv;have hp1:RepE fi M1 w (.ptr g b off) (a.eval y'):=by
     cases g with
     |true=>
      generalize hu:a.eval y'=u at hp' ⊢;cases (show RepP fi M w (.ptr true b off) u from hp') with
      |ptr _ _ blk hb=>exact RepP.repE (.ptr _ _ blk (by rw[hgb];exact hb))
     |false=>obtain⟨blk,h1,h2⟩:=hp';exact⟨blk,by rw[hlb];exact h1,h2⟩
    exact key M1 e g b off cs v hI1 k1 hp1 hr hc hk.1 hk.2.1 hk.2.2
   ·cases h
  ·simp only[aC] at h
   obtain⟨v,hv,cs,hc,h⟩:=h;split at h
   ·rename_i hk
    cases h;exact key M s.env g b off cs v hI (Kp.refl M w) hp' (bc hI hm.1.2 hv).repAt hc hk.1 hk.2.1 hk.2.2
   ·cases h
 ·cases h
theorem vm {o:Oper} {d:Nat} {x:IX} (A:de P fi M w s a o (.nilc d x)) (h:ae cf s (.nilc d x)=some s'):Sim P fi o M w s' a:=by
 obtain⟨dst,op,ty,pos,aft,gd⟩:=o;obtain⟨hI,hm,hd,hlt⟩:=A;cases op<;>simp[mOp] at hm;rename_i y;simp only[ae] at h;split at h
 ·rename_i g b off hp
  cases h;have hp':=bc hI hm hp;have hv:∃ad,a.eval y= .pointer (some ad):=by
   cases g with
   |true=>
    generalize hu:a.eval y=u at hp';cases (show RepP fi M w (.ptr true b off) u from hp') with
    |ptr _ _ blk hb=>exact⟨_,rfl⟩
   |false=>obtain⟨blk,h1,h2⟩:=hp';exact⟨_,h2⟩
  obtain⟨ad,hv⟩:=hv;exact Sim.pure hI hd (hlt d rfl) (v:=a.eval y) (by simp[execOp,hv]) hp'.repAt
 ·rename_i e off hp
  cases h;have hp':=bc hI hm hp;have hv:∃ad,a.eval y= .pointer (some ad):=by generalize hu:a.eval y=u at hp';cases (show RepP fi M w (.ep e off) u from hp');exact⟨_,rfl⟩
  obtain⟨ad,hv⟩:=hv;exact Sim.pure hI hd (hlt d rfl) (v:=a.eval y) (by simp[execOp,hv]) hp'.repAt
 ·rename_i f cs hp
  cases h;have hp':=bc hI hm hp;have hv:∃F vs,a.eval y= .func (.func F) #[] vs:=by generalize hu:a.eval y=u at hp';cases (show RepP fi M w (.fn f cs) u from hp');exact⟨_,_,rfl⟩
  obtain⟨F,vs,hv⟩:=hv;exact Sim.pure hI hd (hlt d rfl) (v:=a.eval y) (by simp[execOp,hv]) hp'.repAt
 ·rename_i f cs hp
  cases h;have hp':=bc hI hm hp;have hv:∃F vs,a.eval y= .func (.func F) vs #[]:=by generalize hu:a.eval y=u at hp';cases (show RepP fi M w (.bfn f cs) u from hp');exact⟨_,_,rfl⟩
  obtain⟨F,vs,hv⟩:=hv;exact Sim.pure hI hd (hlt d rfl) (v:=a.eval y) (by simp[execOp,hv]) hp'.repAt
 ·cases h
theorem vn {o:Oper} {d:Nat} {b:BinOp} {x y:IX} (A:de P fi M w s a o (.bin d b x y)) (h:ae cf s (.bin d b x y)=some s'):Sim P fi o M w s' a:=by obtain⟨dst,op,ty,pos,aft,gd⟩:=o;obtain⟨hI,hm,hd,hlt⟩:=A;cases op<;>simp[mOp,iR] at hm;rename_i b' t x' y' t2;obtain⟨⟨rfl,hx⟩,hy⟩:=hm;simp only[ae,aC,aE] at h;obtain⟨p,hp,q,hq,r,hr,rfl⟩:=h;obtain⟨r',h1,h2,h3⟩:=kj (P:=P) (t:=t) (x:=x') (y:=y') hr (bc hI hx hp) (bc hI hy hq);exact Sim.pure hI hd (hlt d rfl) (by simp[execOp,h1,h2]) h3.repE.repAt
end
end
section
open Go.RowKit
section
variable {fi:FI} {M M':Mem} {w w':World} {P:Program} {s s':St} {a:Act} {cf:CallF}
theorem vo {o:Oper} {d:Nat} {neg:Bool} {x:IX} (A:de P fi M w s a o (.eqn d neg x)) (h:ae cf s (.eqn d neg x)=some s'):Sim P fi o M w s' a:=by
 obtain⟨dst,op,ty,pos,aft,gd⟩:=o;obtain⟨hI,hm,hd,hlt⟩:=A;cases op with
 | binOp b' t x' y' t2=>
  cases y' with
  | const c=>
   cases c with
   | nilIface=>
    simp[mOp,iR] at hm;obtain⟨⟨rfl,ht⟩,hx⟩:=hm;obtain⟨ms,ht'⟩:∃ms,P.underlying t=some (.interface ms):=by
     split at ht
     ·exact⟨_,by assumption⟩
     ·cases ht
    simp only[ae] at h;split at h
    ·rename_i hp
     cases h;have h1:=(bc hI hx hp).nilI;have e1:∀d,(Op.equalIn (d+1) t .nilIface .nilIface).run P w= .ok true w:=λd=>by simp[Op.equalIn,run_underlying ht']
     have e2:(Op.equal t .nilIface .nilIface).run P w= .ok true w:=e1 9999;refine Sim.pure hI hd (hlt d rfl) (v:= .bool (!neg)) ?_ (RepP.repE (.bool _)).repAt;have hc:a.eval (.const .nilIface)= .nilIface:=rfl;cases neg<;>simp[execOp,h1,hc,eqGuard,binOp,e2]
    ·rename_i hp
     cases h;obtain⟨t',u,h1⟩:=(bc hI hx hp).someI;have e1:∀d,(Op.equalIn (d+1) t (.iface t' u) .nilIface).run P w= .ok false w:=λd=>by simp[Op.equalIn,run_underlying ht']
     have e2:(Op.equal t (.iface t' u) .nilIface).run P w= .ok false w:=e1 9999;refine Sim.pure hI hd (hlt d rfl) (v:= .bool neg) ?_ (RepP.repE (.bool _)).repAt;have hc:a.eval (.const .nilIface)= .nilIface:=rfl;cases neg<;>simp[execOp,h1,hc,eqGuard,binOp,e2]
    ·cases h
   |_=>simp[mOp] at hm
  |_=>simp[mOp] at hm
 |_=>simp[mOp] at hm
theorem vp {o:Oper} {d:Nat} {u:UnOp} {x:IX} (A:de P fi M w s a o (.un d u x)) (h:ae cf s (.un d u x)=some s'):Sim P fi o M w s' a:=by obtain⟨dst,op,ty,pos,aft,gd⟩:=o;obtain⟨hI,hm,hd,hlt⟩:=A;cases op<;>simp[mOp] at hm;obtain⟨rfl,hx⟩:=hm;simp only[ae,aC,aE] at h;obtain⟨p,hp,r,hr,rfl⟩:=h;obtain⟨r',h1,h2⟩:=uC (P:=P) hr (bc hI hx hp);exact Sim.pure hI hd (hlt d rfl) (by simp[execOp,h1]) h2.repE.repAt
theorem vq {o:Oper} {d f:Nat} {caps:List IX} (A:de P fi M w s a o (.mkfn d f caps)) (h:ae cf s (.mkfn d f caps)=some s'):Sim P fi o M w s' a:=by
 obtain⟨dst,op,ty,pos,aft,gd⟩:=o;obtain⟨hI,hm,hd,hlt⟩:=A;cases op with
 | makeFunc fn first captured=>
  cases fn with
  | func F=>
   simp[mOp] at hm;obtain⟨⟨hf,hfe⟩,hc⟩:=hm;subst hfe;simp only[ae,aC] at h;obtain⟨vs,hv,h⟩:=h;split at h
   ·rename_i hok
    cases h;obtain⟨h1,h2⟩:=il hI hc hv;refine Sim.pure hI hd (hlt d rfl) (v:= .func (.func F) #[] (captured.toList.map a.eval).toArray) ?_ (RepP.repE (.fn f F vs _ hf (by simpa using h1) hok λi c v hcv hvv=>?_)).repAt
    ·have hcap:Array.map a.eval captured=(List.map a.eval captured.toList).toArray:=by apply Array.ext';simp
     simp[execOp,Instr.makeFunc,hcap]
    ·simp only[aB,aE] at hvv
     obtain⟨y,hy,rfl⟩:=hvv;refine (h2 i c y hcv hy).repP ?_;simp only[bS] at hok;exact hok c (aP hcv)
   ·cases h
  |_=>simp[mOp] at hm
 |_=>simp[mOp] at hm
theorem vr {o:Oper} {d:Nat} (A:de P fi M w s a o (.mkmap d)) (h:ae cf s (.mkmap d)=some s'):Sim P fi o M w s' a:=by
 obtain⟨dst,op,ty,pos,aft,gd⟩:=o;obtain⟨hI,hm,hd,hlt⟩:=A;cases op with
 | makeMap t r=>
  cases r with
  |none=>
   simp only[ae,bU] at h;subst h;obtain⟨M',h1,h2⟩:=va hI (hlt d rfl);refine⟨_,.map (some w.heap.size),M',_,?_,.inl rfl,by rw[show dst=some d from hd];exact h1,h2⟩;simp[execOp,Instr.makeMap]
  |some=>simp[mOp] at hm
 |_=>simp[mOp] at hm
theorem kr {t:TypeId} {z:Nat} (h:iQ P t z=true):∃e,P.underlying t=some (.slice e)/\dn P e=some z:=by
 unfold iQ at h;split at h
 ·rename_i e hh;exact⟨e,hh,by simpa using h⟩
 ·cases h
theorem fO {hI:Inv fi M w s a} {x:Option IX} {y:Option Operand} (hm:mXo fi x y=true) {n l:Nat} (h:dm s.env n x=some l):SB (y.map a.eval) n l:=by
 cases x with
 |none=>
  cases y with
  |none=>simp[dm] at h;subst h;exact .inl ⟨rfl,rfl⟩
  |some=>simp[mXo] at hm
 | some x=>
  cases y with
  |none=>simp[mXo] at hm
  | some y=>
   simp only[dm] at h;split at h
   ·rename_i k i hp
    split at h
    ·rename_i h0
     cases h;refine .inr ⟨k,?_⟩;have:=(bc hI (by simpa [mXo] using hm) hp).int;simp[this];omega
    ·cases h
   ·cases h
theorem vt {o:Oper} {d z:Nat} {x:IX} {lo hi:Option IX} (A:de P fi M w s a o (.slice d z x lo hi)) (h:ae cf s (.slice d z x lo hi)=some s'):Sim P fi o M w s' a:=by
 obtain⟨dst,op,ty,pos,aft,gd⟩:=o;obtain⟨hI,hm,hd,hlt⟩:=A;cases op with
 | slice t y lo' hi' mx=>
  cases mx with
  |some=>simp[mOp] at hm
  | none=>
   simp[mOp] at hm;obtain⟨⟨⟨he,hx⟩,hlo⟩,hhi⟩:=hm;obtain⟨e,ht,hz⟩:=kr he;simp only[ae] at h;split at h
   ·rename_i ow z' xs hp
    simp only[aC] at h;obtain⟨hh,hh1,l,hl1,h⟩:=h;split at h
    ·rename_i hc
     obtain⟨c1,c2,rfl⟩:=hc;cases h;have hx':=bc hI hx hp;obtain⟨A,c,hv,hcl⟩:=hx'.slC;rw[hv] at hx';refine Sim.pure hI hd (hlt d rfl) ?_ (o8 hx' c1 c2 hcl).repE.repAt;have:=io (P:=P) ht hz (fO (hI:=hI) hlo hl1) (fO (hI:=hI) hhi hh1) c1 (bX c2 hcl) (A:=A) w;simp[execOp,hv,this]
    ·cases h
   ·rename_i g b off n z' hp
    simp only[aC] at h;obtain⟨hh,hh1,l,hl1,h⟩:=h;split at h
    ·rename_i hc
     obtain⟨c1,c2,rfl⟩:=hc;cases h;have hx':=bc hI hx hp;have fin:∀(A:Option Addr) (c:Nat),a.eval y= .slice A n c->n<=c->RepE fi M w (.bs g b (off+l*z) (hh-l) z) (.slice (if c=l then A else A.map (·.add (l*z))) (hh-l) (c-l))->Sim P fi ⟨dst,.slice t y lo' hi' none,ty,pos,aft,gd⟩ M w (s.put d (.bs g b (off+l*z) (hh-l) z)) a:=by intro A c hv hc hr;refine Sim.pure hI hd (hlt d rfl) ?_ hr.repAt;have:=io (P:=P) ht hz (fO (hI:=hI) hlo hl1) (fO (hI:=hI) hhi hh1) c1 (bX c2 hc) (A:=A) w;simp[execOp,hv,this]
     have adr:∀(A:Option Addr) (blk c:Nat),n<=c->(n=0\/A=some ⟨blk,off,none⟩)->(hh-l=0\/(if c=l then A else A.map (·.add (l*z)))=some ⟨blk,off+l*z,none⟩):=by
      intro A blk c hc hA;by_cases h0:hh-l=0
      ·exact .inl h0
      ·right
       rw[if_neg (by omega)];rcases hA with hA|rfl
       ·omega
       ·simp[eV]
     cases g with
     |true=>
      generalize hu:a.eval y=u at hx';cases (show RepP fi M w (.bs true b off n z) u from hx') with
      |bs _ _ _ _ A c blk hb hA hc=>exact fin A c hu hc (RepP.repE (.bs b _ _ z _ _ blk hb (adr A blk c hc hA) (by omega)))
     |false=>
      obtain⟨blk,A,c,hb,hv,hA,hc⟩:=hx';exact fin A c hv hc ⟨blk,_,_,hb,rfl,adr A blk c hc hA,by omega⟩
    ·cases h
   ·rename_i b gen n hp
    split at h
    ·rename_i hlon
     simp only[aC] at h;obtain⟨hh,hh1,h⟩:=h;split at h
     ·rename_i hc
      obtain⟨c2,rfl⟩:=hc;cases h;have hx':=bc hI hx hp;generalize hu:a.eval y=u at hx';have hl0:lo=none:=by simpa using hlon
      subst hl0;cases (show RepP fi M w (.stk b gen n) u from hx') with
      |stk _ _ _ blk c hb hg hA hc=>
       have:=io (P:=P) ht hz (fO (hI:=hI) hlo (show dm s.env 0 none=some 0 from rfl)) (fO (hI:=hI) hhi hh1) (Nat.zero_le _) (bX c2 hc) (A:=some ⟨blk,0,none⟩) w;refine Sim.pure hI hd (hlt d rfl) (v:= .slice (some ⟨blk,0,none⟩) hh c) ?_ (RepP.repE (.stk b gen hh blk c hb hg hA (by omega))).repAt;have e:(⟨blk,0,none⟩:Addr).add (0*1)=⟨blk,0,none⟩:=rfl;simp only[cD,e,ite_self,Nat.sub_zero] at this;simp[execOp,hu,this]
     ·cases h
    ·simp only[aC] at h
     obtain⟨hh,hh1,l,hl1,h⟩:=h;split at h
     ·rename_i hc
      obtain⟨c1,c2,rfl⟩:=hc;cases h;have hx':=bc hI hx hp;generalize hu:a.eval y=u at hx';cases (show RepP fi M w (.stk b gen n) u from hx') with
      | stk _ _ _ blk c hb hg hA hc=>
       have:=io (P:=P) ht hz (fO (hI:=hI) hlo hl1) (fO (hI:=hI) hhi hh1) c1 (bX c2 hc) (A:=some ⟨blk,0,none⟩) w;refine Sim.pure hI hd (hlt d rfl) (p:= .sub b gen l (hh-l)) (v:= .slice (if c=l then some ⟨blk,0,none⟩ else (some ⟨blk,0,none⟩:Option Addr).map (·.add (l*1))) (hh-l) (c-l)) (by simp[execOp,hu,this]) (RepP.repE (.sub b gen l (hh-l) blk (c-l) _ hb hg (λe=>⟨(hA e).1,by have:=(hA e).2;omega⟩) (by omega) ?_)).repAt;by_cases h0:hh-l=0
       ·exact .inl h0
       ·right
        rw[if_neg (by omega)];simp[eV]
     ·cases h
   ·rename_i b gen off n hp
    simp only[aC] at h;obtain⟨hh,hh1,l,hl1,h⟩:=h;split at h
    ·rename_i hc
     obtain⟨c1,c2,rfl⟩:=hc;cases h;have hx':=bc hI hx hp;generalize hu:a.eval y=u at hx';cases (show RepP fi M w (.sub b gen off n) u from hx') with
     | sub _ _ _ _ blk c A hb hg hA hc hAd=>
      have:=io (P:=P) ht hz (fO (hI:=hI) hlo hl1) (fO (hI:=hI) hhi hh1) c1 (bX c2 hc) (A:=A) w;refine Sim.pure hI hd (hlt d rfl) (p:= .sub b gen (off+l) (hh-l)) (v:= .slice (if c=l then A else A.map (·.add (l*1))) (hh-l) (c-l)) (by simp[execOp,hu,this]) (RepP.repE (.sub b gen (off+l) (hh-l) blk (c-l) _ hb hg (λe=>⟨(hA e).1,by have:=(hA e).2;omega⟩) (by omega) ?_)).repAt;by_cases h0:hh-l=0
      ·exact .inl h0
      ·right
       rw[if_neg (by omega),hAd.resolve_left (by omega)];simp[eV]
    ·cases h
   ·cases h
 |_=>simp[mOp] at hm
theorem pm {g:Bool} {b off:Nat} {v:Value} (h:RepE fi M w (.ptr g b off) v):∃blk,v= .pointer (some ⟨blk,off,none⟩)/\∀off',RepE fi M w (.ptr g b off') (.pointer (some ⟨blk,off',none⟩)):=by
 cases g with
 |true=>
  cases (show RepP fi M w (.ptr true b off) v from h) with
  |ptr _ _ blk hb=>exact⟨blk,rfl,λoff'=>RepP.repE (.ptr b off' blk hb)⟩
 |false=>obtain⟨blk,h1,h2⟩:=h;exact⟨blk,h2,λoff'=>⟨blk,h1,rfl⟩⟩
theorem pn {e:PV} {off:Nat} {v:Value} (h:RepE fi M w (.ep e off) v):∃blk o,v= .pointer (some ⟨blk,o+off,none⟩)/\∀off',RepE fi M w (.ep e off') (.pointer (some ⟨blk,o+off',none⟩)):=by
 cases (show RepP fi M w (.ep e off) v from h) with
 |ep _ _ b o vf h1 hm hr=>exact⟨b,o,rfl,λoff'=>RepP.repE (.ep e off' b o vf h1 hm hr)⟩
theorem vu {o:Oper} {d off:Nat} {x:IX} (A:de P fi M w s a o (.faddr d x off)) (h:ae cf s (.faddr d x off)=some s'):Sim P fi o M w s' a:=by
 obtain⟨dst,op,ty,pos,aft,gd⟩:=o;obtain⟨hI,hm,hd,hlt⟩:=A;cases op<;>simp[mOp] at hm;rename_i t y fld;obtain⟨hx,hm⟩:=hm;split at hm
 ·rename_i fs ht
  split at hm
  ·rename_i f hf
   simp at hm;obtain⟨ho,hn⟩:=hm;split at hn
   ·rename_i n hsz
    simp at hn;simp only[ae] at h;split at h
    ·rename_i g b o' hp
     cases h;obtain⟨blk,hv,hr⟩:=pm (bc hI hx hp);exact Sim.pure hI hd (hlt d rfl) (by simp[execOp,hv,oZ (P:=P) ht hf ho hsz hn]) (hr _).repAt
    ·rename_i e o' hp
     cases h;obtain⟨blk,o,hv,hr⟩:=pn (bc hI hx hp);refine Sim.pure hI hd (hlt d rfl) (v:= .pointer (some ⟨blk,o+(o'+off),none⟩)) ?_ (hr _).repAt;simp[execOp,hv,oZ (P:=P) ht hf ho hsz hn,Nat.add_assoc]
    ·cases h
   ·cases hn
  ·cases hm
 ·cases hm
theorem vv {o:Oper} {d z:Nat} {arr:Option Nat} {x i:IX} (A:de P fi M w s a o (.iaddr d z arr x i)) (h:ae cf s (.iaddr d z arr x i)=some s'):Sim P fi o M w s' a:=by
 obtain⟨dst,op,ty,pos,aft,gd⟩:=o;obtain⟨hI,hm,hd,hlt⟩:=A;cases arr with
 | none=>
  cases op<;>simp[mOp] at hm;rename_i t y j;obtain⟨⟨he,hx⟩,hi⟩:=hm;obtain⟨e,ht,hz⟩:=kr he;simp only[ae] at h;split at h
  ·rename_i k n hn
   have hiv:=(bc hI hi hn).int;split at h
   ·rename_i ow z' xs hp _
    split at h
    ·rename_i hc
     obtain⟨h0,rfl⟩:=hc;simp only[aE] at h;obtain⟨el,hel,rfl⟩:=h;obtain⟨r,h1,h2⟩:=uE (P:=P) (k:=k) ht hz (bc hI hx hp) h0 hel;exact Sim.pure hI hd (hlt d rfl) (by simp[execOp,hiv,h1]) h2.repE.repAt
    ·cases h
   ·rename_i g b off m z' hp _
    split at h
    ·rename_i hc
     obtain⟨h0,h1,rfl⟩:=hc;cases h;have hx':=bc hI hx hp;cases g with
     | true=>
      generalize hu:a.eval y=u at hx';cases (show RepP fi M w (.bs true b off m z) u from hx') with
      |bs _ _ _ _ A c blk hb hA hc=>
       have hA':=hA.resolve_left (by omega);subst hA';exact Sim.pure hI hd (hlt d rfl) (by simp[execOp,hiv,hu,km (P:=P) ht hz h0 h1]) (RepP.repE (.ptr b _ blk hb)).repAt
     |false=>
      obtain⟨blk,A,c,hb,hv,hA,hc⟩:=hx';have hA':=hA.resolve_left (by omega);subst hA';exact Sim.pure hI hd (hlt d rfl) (p:= .ptr false b (off+n.toNat*z)) (by simp[execOp,hiv,hv,km (P:=P) ht hz h0 h1]) (RepE.repAt ⟨blk,hb,rfl⟩)
    ·cases h
   ·rename_i hx;cases hx
   ·rename_i hx;cases hx
   ·rename_i b gen m hp _
    split at h
    ·rename_i hc
     obtain⟨h0,h1,rfl⟩:=hc;cases h;have hx':=bc hI hx hp;generalize hu:a.eval y=u at hx';cases (show RepP fi M w (.stk b gen m) u from hx') with
     |stk _ _ _ blk c hb hg hA hc=>
      have hrun:=km (P:=P) (k:=k) (b:=blk) (o:=0) (c:=c) ht hz h0 h1 w;rw[cO,Nat.mul_one] at hrun;exact Sim.pure hI hd (hlt d rfl) (by simp[execOp,hiv,hu,hrun]) (RepP.repE (.pstk b gen n.toNat blk hb hg (λe=>(hA e).1))).repAt
    ·cases h
   ·rename_i b gen off m hp _
    split at h
    ·rename_i hc
     obtain⟨h0,h1,rfl⟩:=hc;cases h;have hx':=bc hI hx hp;generalize hu:a.eval y=u at hx';cases (show RepP fi M w (.sub b gen off m) u from hx') with
     |sub _ _ _ _ blk c A hb hg hA hc hAd=>
      have hA':=hAd.resolve_left (by omega);subst hA';have hrun:=km (P:=P) (k:=k) (b:=blk) (o:=off) (c:=c) ht hz h0 h1 w;rw[Nat.mul_one] at hrun;exact Sim.pure hI hd (hlt d rfl) (by simp[execOp,hiv,hu,hrun]) (RepP.repE (.pstk b gen (off+n.toNat) blk hb hg (λe=>(hA e).1))).repAt
    ·cases h
   ·cases h
  ·cases h
 | some m=>
  cases op<;>simp[mOp] at hm;rename_i t y j;obtain⟨⟨hx,hi⟩,hm⟩:=hm;split at hm
  ·rename_i m' e ht
   simp at hm;obtain⟨rfl,hz⟩:=hm;simp only[ae] at h;split at h
   ·rename_i k n hn
    have hiv:=(bc hI hi hn).int;split at h
    ·rename_i hx;cases hx
    ·rename_i hx;cases hx
    ·rename_i g b o' m2 hp hmm
     cases hmm;split at h
     ·rename_i hc
      cases h;obtain⟨blk,hv,hr⟩:=pm (bc hI hx hp);exact Sim.pure hI hd (hlt d rfl) (by simp[execOp,hiv,hv,oV (P:=P) ht hz hc.1 hc.2]) (hr _).repAt
     ·cases h
    ·rename_i e' o' m2 hp hmm
     cases hmm;split at h
     ·rename_i hc
      cases h;obtain⟨blk,o,hv,hr⟩:=pn (bc hI hx hp);refine Sim.pure hI hd (hlt d rfl) (v:= .pointer (some ⟨blk,o+(o'+n.toNat*z),none⟩)) ?_ (hr _).repAt;simp[execOp,hiv,hv,oV (P:=P) ht hz hc.1 hc.2,Nat.add_assoc]
     ·cases h
    ·rename_i hx;cases hx
    ·rename_i hx;cases hx
    ·cases h
   ·cases h
  ·cases hm
end
end
end Go.Lw