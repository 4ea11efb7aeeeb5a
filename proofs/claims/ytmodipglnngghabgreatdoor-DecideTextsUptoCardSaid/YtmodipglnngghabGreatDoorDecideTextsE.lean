/-
  The texts that the proof stands on, part 5.
-/
import Derived.Test.YtmodipglnngghabGreatDoorDecideTextsD
set_option linter.unusedVariables false
set_option linter.unusedSimpArgs false
set_option linter.unnecessarySimpa false

set_option maxRecDepth 100000
set_option maxHeartbeats 4000000
namespace Go.Lw
open Go
section
variable {p:PV} {v:Value} {s:St} {a:Act} {x:IX} {o:Operand}
def kK:PV->Value->Bool
 | .int k n,.int c m=>decide (k=c)&&decide (n=m)
 | .bool a,.bool b=>a==b
 | .str s,.string t=>decide (s.data.toList=t.data.toList)
 | .sl true _ [],.slice none 0 0=>true
 | .nilp,.pointer none=>true
 | .nilm,.map none=>true
 | .nilf,.nilFunc=>true
 | .nils,.slice none 0 0=>true
 | .nilI,.nilIface=>true
 |_,_=>false
def lD:Ok->Ou->Bool
 |[],[]=>true
 |c::l,v::m=>kK c v&&lD l m
 |_,_=>false
def cOk:PV->Value->Bool
 | .agg cs,.agg a=>lD cs a.toList
 |p,v=>kK p v
def mX (b:FI):IX->Operand->Bool
 | .t n,.tmp m=>n==m
 | .c p,.const v=>cOk p v
 | .f a,.func F=>b a==some F
 |_,_=>false
def mXs (a:FI):List IX->List Operand->Bool
 |[],[]=>true
 |x::l,o::m=>mX a x o&&mXs a l m
 |_,_=>false
section
variable {fi:FI} {M M':Mem} {w w':World} {P:Program}
theorem wy (l:Loc) (z:Nat):OwnRep fi M w l z [] (.slice none 0 0):=
 ⟨.sl z [] none 0 0 0 (λ_=>undef) (.inl rfl) NX NX NX NX NX,.inl rfl⟩
theorem sC (h:kK p v=true) (l:Loc):RepC fi M w l p v:=by
 unfold kK at h;split at h<;>try (simp at h)
 ·obtain⟨rfl,rfl⟩:=h;exact .int _ _
 ·subst h;exact .bool _
 ·rename_i s t
  have:s=t:=by cases s;cases t;simp at h;rw[h]
  subst this;exact .str _
 ·exact wy l _
 ·exact .nilp
 ·exact .nilm
 ·exact .nilf
 ·exact .nils
 ·exact .nilI
theorem sD {cs:Ok} {a:Ou} (h:lD cs a=true):a.length=cs.length/\∀(i:Nat) (c:PV) (u:Value),cs[i]?=some c->a[i]?=some u->kK c u=true:=by
 induction cs generalizing a with
 |nil=>cases a with
  |nil=>simp
  |cons=>simp[lD] at h
 | cons c l e=>cases a with
  |nil=>simp[lD] at h
  |cons v m=>
   simp only[lD,aS] at h;obtain⟨g,f⟩:=e h.2;refine⟨by simp[g],λi j u d b=>?_⟩;cases i with
   |zero=>simp at d b;subst d;subst b;exact h.1
   |succ i=>exact f i j u (by simpa using d) (by simpa using b)
theorem lE (h:cOk p v=true) (mk:Nat->Loc):RepAt fi M w mk p v:=by
 unfold cOk at h;split at h
 ·rename_i cs a
  obtain⟨f,e⟩:=sD h;exact⟨a.toList,NX,f,λi c u d b=>sC (e i c u d b) _⟩
 ·have:=sC (fi:=fi) (M:=M) (w:=w) h (mk 0)
  unfold kK at h;split at h<;>first|exact this|simp at h
theorem wz (h:cOk p v=true):RepP fi M w (degr p) v:=by
 have j:=(lE (fi:=fi) (M:=M) (w:=w) h (Loc.env 0)).degr;refine j.repP ?_;unfold cOk at h;split at h
 ·rename_i cs a
  obtain⟨k,g⟩:=sD h;simp only[degr,PV.cells,bV,List.mem_map];rintro x ⟨c,f,rfl⟩;obtain⟨i,e,b⟩:=cN.1 f;have d:a.toList[i]?=some (a.toList[i]' NW):=aA NW;have:=g i c _ (by rw[aA e,b]) d;unfold kK at this;split at this<;>first|rfl|simp at this
 ·unfold kK at h
  split at h<;>first|rfl|simp at h
theorem dl (e:Oo) (d t:Nat) (v:PV):get (put e d v) t=if d=t then some v else get e t:=by
 induction e with
 |nil=>simp[put,get]
 | cons x l c=>
  obtain⟨a,u⟩:=x;simp only[put];by_cases h:a=d
  ·subst h;simp[get]
   by_cases b:a=t<;>simp[b]
  ·simp only[h,if_false,get,c]
   by_cases b:a=t
   ·subst b;simp;intro f;exact absurd f.symm h
   ·simp[b]
theorem bt (d:Inv fi M w s a) (b:mX fi x o=true) (h:ai s.env x=some p):RepE fi M w p (a.eval o):=by
 unfold mX at b;split at b
 ·simp at b;subst b
  simp only[ai,aE] at h;obtain⟨v,c,rfl⟩:=h;exact (d.env _ _ c).2.degr
 ·simp only[ai,bW] at h
  subst h;exact (wz b).repE
 ·simp only[ai,bW] at h
  subst h;exact RepP.repE (.fn _ _ [] [] (by simpa using b) rfl rfl NX)
 ·cases b
theorem wA (d:Inv fi M w s a) (b:mX fi x o=true) (h:gG s.env x=some p) (mk:Nat->Loc):RepAt fi M w mk p (a.eval o):=by
 cases x with
 |t n=>exact (bt d b (x:= .t n) h).repAt
 |f e=>exact (bt d b (x:= .f e) h).repAt
 |c v=>
  cases o with
  |const u=>simp only[gG,bW] at h;subst h;exact lE b mk
  |_=>simp[mX] at b
theorem i8 {s:St} {a:Act} (k:Inv fi M w s a):∀{j:List IX} {d:List Operand} {c:Ok},mXs fi j d=true->ct s.env j=some c->
  d.length=c.length/\∀(i:Nat) (p:PV) (o:Operand),c[i]?=some p->d[i]?=some o->RepE fi M w p (a.eval o)
 |[],[],c,_,h=>by simp[ct] at h;subst h;simp
 |[],_::_,_,b,_=>by simp[mXs] at b
 |_::_,[],_,b,_=>by simp[mXs] at b
 |x::l,o::m,c,b,h=>by
  simp only[mXs,aS] at b;simp only[ct,aC,aE] at h;obtain⟨p,t,n,f,rfl⟩:=h;obtain⟨v,u⟩:=i8 k b.2 f;refine⟨by simp[v],λi q r e g=>?_⟩;cases i with
  |zero=>simp at e g;subst e;subst g;exact bt k b.1 t
  |succ i=>exact u i q r (by simpa using e) (by simpa using g)
def Sim (P:Program) (c:FI) (o:Oper) (M:Mem) (w:World) (b:St) (a:Act):Prop:=
 ∃(n:Next) (v:Value) (M':Mem) (w':World),(execOp a.eval o).run P w= .ok n w'/\(n= .value v\/n= .skip/\v=undef)/\Inv c M' w' b (a.put o.dst v)/\Kp M w M' w'
theorem DD (t:Array Value) (d k:Nat) (v:Value):(t.setIfInBounds d v).getD k undef=if d=k/\d<t.size then v else t.getD k undef:=by
 simp only[cQ,Array.getElem?_setIfInBounds];by_cases h:d=k
 ·subst h
  by_cases a:d<t.size
  ·simp[a]
  ·simp[a]
 ·simp[h]
theorem Inv.put {s:St} {a:Act} (b:Inv fi M w s a) {d:Nat} (f:d<a.tmps.size) {p:PV} {v:Value} (h:RepAt fi M w (Loc.env d) p v):Inv fi M w (s.put d p) (a.put (some d) v) where
 env:=λt q e=>by
  simp only[St.put,dl] at e;simp only[Act.put,Array.size_setIfInBounds,DD];by_cases c:d=t
  ·subst c
   simp only[if_true,bW] at e;subst e;simp[f,h]
  ·simp only[c,if_false] at e
   simp only[c,false_and,if_false];exact b.env t q e
 defers:=b.defers
 lbl:=b.lbl
 gbl:=b.gbl
 nodup:=b.nodup
 lh:=b.lh
 gh:=b.gh
 gl:=b.gl
 immlt:=b.immlt
 ownlt:=b.ownlt
 gblt:=b.gblt
theorem Sim.pure {o:Oper} {s:St} {a:Act} (e:Inv fi M w s a) {d:Nat} (b:o.dst=some d) (c:d<a.tmps.size) {p:PV} {v:Value}
  (hr:(execOp a.eval o).run P w= .ok (.value v) w) (h:RepAt fi M w (Loc.env d) p v):Sim P fi o M w (s.put d p) a:=
 ⟨_,v,M,w,hr,.inl rfl,by rw[b];exact e.put c h,Kp.refl M w⟩
end
end
section
variable {t:TypeId} {p r:PV} {u:Value}
def fW (P:Program) (t:TypeId):Option Bool:=
 match P.underlying t with
 |some (.struct _)=>some true
 |some (.array _ _)=>some true
 |some _=>some false
 |none=>none
def eP (P:Program) (t:TypeId):Option Nat:=(P.info? t).map (·.size)
section
variable {fi:FI} {M M':Mem} {w w':World} {P:Program}
theorem kL {b:Bool} (h:fW P t=some b) (w:World):(isAgg t).run P w= .ok b w:=by
 unfold fW at h;cases a:P.underlying t with
 |none=>simp[a] at h
 |some d=>
  rw[a] at h;cases d<;>simp at h<;>subst h<;>simp[isAgg,run_underlying a]
theorem run_sizeOf' {n:Nat} (h:eP P t=some n) (w:World):(sizeOf t).run P w= .ok n w:=by unfold eP at h;obtain⟨i,a,rfl⟩:=aE.1 h;simp[sizeOf,typeInfo,a]
theorem RepE.int {k:IntKind} {n:Int} {v:Value} (h:RepE fi M w (.int k n) v):v= .int k n:=by cases (show RepP fi M w (.int k n) v from h);rfl
theorem RepE.bool {b:Bool} {v:Value} (h:RepE fi M w (.bool b) v):v= .bool b:=by cases (show RepP fi M w (.bool b) v from h);rfl
theorem RepE.str {s:ByteArray} {v:Value} (h:RepE fi M w (.str s) v):v= .string s:=by cases (show RepP fi M w (.str s) v from h);rfl
theorem RepE.nilI {v:Value} (h:RepE fi M w .nilI v):v= .nilIface:=by cases (show RepP fi M w .nilI v from h);rfl
theorem RepE.someI {v:Value} (h:RepE fi M w .someI v):∃t u,v= .iface t u:=by cases (show RepP fi M w .someI v from h);exact⟨_,_,rfl⟩
theorem RepE.agg {cs:Ok} {v:Value} (h:RepE fi M w (.agg cs) v):∃a:Ou,v= .agg a.toArray/\a.length=cs.length/\
  ∀(i:Nat) (c:PV) (u:Value),cs[i]?=some c->a[i]?=some u->RepP fi M w c u:=by
 cases (show RepP fi M w (.agg cs) v from h) with
 |agg _ a b d=>exact⟨a,rfl,b,d⟩
theorem RepE.tup {cs:Ok} {v:Value} (h:RepE fi M w (.tup cs) v):∃a:Ou,v= .tuple a.toArray/\a.length=cs.length/\
  ∀(i:Nat) (c:PV) (u:Value),cs[i]?=some c->a[i]?=some u->RepP fi M w c u:=by
 cases (show RepP fi M w (.tup cs) v from h) with
 |tup _ a b d=>exact⟨a,rfl,b,d⟩
theorem pU {op:BinOp} {q:PV} {v:Value} {x y:Operand} (h:dj op p q=some r) (j:RepE fi M w p u) (i:RepE fi M w q v) :
  ∃f,(eqGuard op t x y u v).run P w= .ok () w/\(binOp op t u v).run P w= .ok f w/\RepP fi M w r f:=by
 unfold dj at h;split at h
 ·rename_i k a l b
  obtain rfl:=j.int;obtain rfl:=i.int;have g:(eqGuard op t x y (.int k a) (.int l b)).run P w= .ok () w:=by cases op<;>simp[eqGuard]
  refine Exists.imp (λf c=>⟨g,c⟩) ?_
  cases op<;>simp only at h<;>first
   | (split at h
      ·cases h
      ·rename_i e;cases h
       refine⟨_,?_,RepP.int _ _⟩;simp[binOp,Op.shift,e])
   | (split at h
      ·rename_i d;subst d
       split at h
       ·cases h
       ·rename_i e
        cases h;refine⟨_,?_,RepP.int _ _⟩;simp[binOp,Op.intDiv,e]
      ·cases h)
   | (split at h
      ·rename_i d;subst d
       cases h;refine⟨_,?_,RepP.int _ _⟩;simp[binOp,Op.intArith,Op.intBits]
      ·cases h)
   | (split at h
      ·rename_i d;subst d
       cases h;refine⟨_,?_,RepP.bool _⟩;simp[binOp,Op.intCmp]
      ·cases h)
   |cases h
 ·rename_i a b
  obtain rfl:=j.str;obtain rfl:=i.str;have g:(eqGuard op t x y (.string a) (.string b)).run P w= .ok () w:=by cases op<;>simp[eqGuard]
  refine Exists.imp (λf c=>⟨g,c⟩) ?_
  cases op<;>simp only at h<;>first
   | (split at h
      ·cases h
      ·rename_i e;cases h
       refine⟨_,?_,RepP.str _⟩;simp only[binOp,Op.stringOp,if_neg e,Sem.run_pure])
   | (cases h
      refine⟨_,?_,RepP.bool _⟩;simp[binOp,Op.stringOp])
   |cases h
 ·cases h
theorem DE {op:UnOp} (h:mn op p=some r) (a:RepE fi M w p u):∃b,(Op.unary op u).run P w= .ok b w/\RepP fi M w r b:=by
 unfold mn at h;split at h
 ·obtain rfl:=a.int;cases h
  refine⟨_,?_,RepP.int _ _⟩;simp[Op.unary,Op.intArith]
 ·obtain rfl:=a.int;cases h
  refine⟨_,?_,RepP.int _ _⟩;simp[Op.unary,Op.intBits]
 ·obtain rfl:=a.bool;cases h
  refine⟨_,?_,RepP.bool _⟩;simp[Op.unary]
 ·cases h
end
end
section
variable {t e ty:TypeId} {z b o n c:Nat} {i:Int} {k:IntKind} {s:ByteArray} {ats:Array TypeId} {A:Option Addr}
section
variable {fi:FI} {M M':Mem} {w w':World} {P:Program}
theorem gi (b o n:Nat):(⟨b,o,none⟩:Addr).add n=⟨b,o+n,none⟩:=by unfold Addr.add;split<;>simp_all
theorem wB {agg:Bool} {k a:Nat} {cs:Ok} {b:Ou} {p:PV} {t:TypeId} (h:dD agg k a cs=some p) (l:b.length=cs.length)
  (g:∀(i:Nat) (c:PV) (u:Value),cs[i]?=some c->b[i]?=some u->RepP fi M w c u) (j:fW P t=some agg) (m:agg=true->eP P t=some k) :
  ∃r,(part t b.toArray a).run P w= .ok r w/\RepP fi M w p r:=by
 unfold dD at h;cases agg with
 | true=>
  simp only[if_true] at h;split at h
  ·rename_i o
   cases h;refine⟨.agg ((b.drop a).take k).toArray,?_,RepP.agg _ _ (by simp[l]) λi c u e f=>?_⟩
   ·simp[part,kL j,run_sizeOf' (m rfl)]
   ·rw[cK] at e f
    split at e
    ·rename_i n
     rw[if_pos n] at f;rw[List.getElem?_drop] at e f;exact g _ _ _ e f
    ·cases e
  ·cases h
 |false=>
  simp only[bR,if_false] at h;have d:a<b.length:=by rw[l];exact (aD.1 h).1
  refine⟨b[a],?_,g a p _ h (aA d)⟩;simp[part,kL j,d]
theorem RepE.slC {z:Nat} {a:Ok} {v:Value} {o:Bool} (h:RepE fi M w (.sl o z a) v):∃A c,v= .slice A a.length c/\a.length<=c:=by
 cases (show RepP fi M w (.sl o z a) v from h) with
 |sl _ _ A c=>exact⟨A,c,rfl,by assumption⟩
theorem DF {t e:TypeId} {z:Nat} {a:Ok} {i:Int} {k:IntKind} {o:Bool} {f:PV} {v:Value} (s:P.underlying t=some (.slice e)) (u:eP P e=some z)
  (q:RepE fi M w (.sl o z a) v) (D:0<=i) (d:a[i.toNat]?=some f):∃r,(Instr.indexAt t v (.int k i)).run P w= .ok r w/\RepP fi M w (.ep f 0) r:=by
 cases (show RepP fi M w (.sl o z a) v from q) with
 | sl _ _ A c b o n B F E C x hr=>
  have l:=(aD.1 d).1;have m:A=some ⟨b,o,none⟩:=B.resolve_left (λh=>by subst h;simp at l);subst m;have y:i<(a.length:Int):=NW;refine⟨.pointer (some ⟨b,o+i.toNat*z,none⟩),?_,RepP.ep f 0 b (o+i.toNat*z) (λj=>n (i.toNat*z+j)) (C f (aL d)) (λj p g=>?_) λj p g=>hr _ _ _ _ d g⟩
  ·simp[Instr.indexAt,asIntOf,run_underlying s,D,y,run_sizeOf' u,gi]
  ·have:=x _ _ _ _ d g
   rw[Nat.add_assoc];exact this
theorem wC {m:Nat} (a:P.underlying t=some (.array m e)) (c:eP P e=some z) (f:0<=i) (d:i<m) (w:World) :
  (Instr.indexAt t (.pointer (some ⟨b,o,none⟩)) (.int k i)).run P w= .ok (.pointer (some ⟨b,o+i.toNat*z,none⟩)) w:=by
 simp[Instr.indexAt,asIntOf,Instr.sureAddr,run_underlying a,f,d,run_sizeOf' c,gi]
theorem pV (a:P.underlying t=some (.slice e)) (d:eP P e=some z) (g:0<=i) (f:i<n) (w:World) :
  (Instr.indexAt t (.slice (some ⟨b,o,none⟩) n c) (.int k i)).run P w= .ok (.pointer (some ⟨b,o+i.toNat*z,none⟩)) w:=by
 simp[Instr.indexAt,asIntOf,run_underlying a,g,f,run_sizeOf' d,gi]
theorem wD {t:TypeId} {d:Array Field} {c a n:Nat} {f:Field} {b o:Nat} (e:P.underlying t=some (.struct d)) (h:d[c]?=some f) (g:f.offset=a)
  (hn:eP P f.type=some n) (i:n≠0) (w:World):(Instr.fieldAt t (.pointer (some ⟨b,o,none⟩)) c).run P w= .ok (.pointer (some ⟨b,o+a,none⟩)) w:=by
 simp[Instr.fieldAt,run_underlying e,h,Instr.sureAddr,fieldPlace,run_sizeOf' hn,i,g,gi]
theorem DG {t:TypeId} {c:Array Field} {b a k:Nat} {agg:Bool} {f:Field} {cs:Ok} {p:PV} {v:Value} (g:P.underlying t=some (.struct c)) (m:c[b]?=some f)
  (j:f.offset=a) (ha:fW P f.type=some agg) (i:agg=true->eP P f.type=some k) (d:RepE fi M w (.agg cs) v) (h:dD agg k a cs=some p) :
  ∃r,(Instr.field t v b).run P w= .ok r w/\RepP fi M w p r:=by
 obtain⟨q,rfl,l,e⟩:=d.agg;obtain⟨r,o,n⟩:=wB (P:=P) h l e ha i;exact⟨r,by simp[Instr.field,run_underlying g,m,asAgg,j,o],n⟩
theorem DH {u:UInt8} (a:P.underlying t=some .string) (b:0<=i) (h:s[i.toNat]?=some u) (w:World) :
  (Instr.index t (.string s) (.int k i)).run P w= .ok (.int .u8 u.toNat) w:=by
 simp[Instr.index,run_underlying a,asIntOf,b,h]
theorem mq (b:ats[0]?=some t) (a:P.underlying t=some (.slice e)) (w:World) :
  (Builtin.len_ ats ty #[.slice A n c]).run P w= .ok (.int .i64 n) w:=by
 simp[Builtin.len_,b,run_underlying a,goInt]
theorem DI (b:ats[0]?=some t) (a:P.underlying t=some .string) (w:World) :
  (Builtin.len_ ats ty #[.string s]).run P w= .ok (.int .i64 s.size) w:=by
 simp[Builtin.len_,b,run_underlying a,goInt]
def SB (v:Option Value) (d l:Nat):Prop:=(v=none/\l=d)\/∃k,v=some (.int k (l:Int))
theorem mr {t e:TypeId} {z n c l h:Nat} {A:Option Addr} {lo hi:Option Value} (b:P.underlying t=some (.slice e)) (d:eP P e=some z) (f:SB lo 0 l) (g:SB hi n h)
  (p:l<=h) (o:h<=c) (w:World):(Instr.sliceAt t (.slice A n c) lo hi none).run P w= .ok (.slice (if c=l then A else A.map (·.add (l*z))) (h-l) (c-l)) w:=by
 have j:∀k a,(Instr.sliceBound (.int k (l:Int)) h a).run P w= .ok l w:=λk a=>by rw[run_sliceBound w k (l:Int) h a NW NW];simp
 have i:∀k a,(Instr.sliceBound (.int k (h:Int)) c a).run P w= .ok h w:=λk a=>by rw[run_sliceBound w k (h:Int) c a NW NW];simp
 rcases f with ⟨rfl,rfl⟩|⟨k,rfl⟩<;>rcases g with ⟨rfl,rfl⟩|⟨m,rfl⟩<;>simp[Instr.sliceAt,Instr.slice,Instr.sliceBounds,run_underlying b,run_sizeOf' d,j,i]
theorem DJ {t:TypeId} {l h:Nat} {s:ByteArray} {b c:Option Value} (d:P.underlying t=some .string) (e:SB b 0 l) (f:SB c s.size h)
  (n:l<=h) (m:h<=s.size) (w:World):(Instr.sliceAt t (.string s) b c none).run P w= .ok (.string (s.extract l h)) w:=by
 have i:∀k a,(Instr.sliceBound (.int k (l:Int)) h a).run P w= .ok l w:=λk a=>by rw[run_sliceBound w k (l:Int) h a NW NW];simp
 have g:∀k a,(Instr.sliceBound (.int k (h:Int)) s.size a).run P w= .ok h w:=λk a=>by rw[run_sliceBound w k (h:Int) s.size a NW NW];simp
 rcases e with ⟨rfl,rfl⟩|⟨k,rfl⟩<;>rcases f with ⟨rfl,rfl⟩|⟨j,rfl⟩<;>simp[Instr.sliceAt,Instr.slice,Instr.sliceBounds,run_underlying d,i,g]
theorem wE {l h:Nat} {d:Ok} {o:Bool} (r:RepE fi M w (.sl o z d) (.slice A d.length c)) (G:l<=h) (F:h<=d.length) (E:d.length<=c) :
  RepP fi M w (.sl false z ((d.take h).drop l)) (.slice (if c=l then A else A.map (·.add (l*z))) (h-l) (c-l)):=by
 generalize u:Value.slice A d.length c=v at r;cases (show RepP fi M w (.sl o z d) v from r) with
 | sl _ _ I H b o s B y t q x hr=>
  injection u with D k C
  subst D;subst C;have f:((d.take h).drop l).length=h-l:=by simp;omega
  have g:∀i e,((d.take h).drop l)[i]?=some e->d[l+i]?=some e:=λi e a=>by
   rw[List.getElem?_drop,cK] at a;split at a
   ·exact a
   ·cases a
  rw[<-f];refine RepP.sl z _ _ _ b (o+l*z) (λj=>s (l*z+j)) ?_ (by rw[f];omega) (λe a=>t e ?_) (λe a=>q e ?_) (λi e j p a m=>?_) (λi e j p a m=>?_)
  ·by_cases n:c=l
   ·left
    apply List.eq_nil_of_length_eq_zero;omega
   ·rw[if_neg n]
    rcases B with rfl|rfl
    ·left;simp
    ·right;simp[gi]
  ·exact cO (List.mem_of_mem_drop a)
  ·exact cO (List.mem_of_mem_drop a)
  ·have:=x _ _ _ _ (g _ _ a) m
   have e:o+((l+i)*z+j)=o+l*z+(i*z+j):=by rw[Nat.add_mul];omega
   rw[e] at this;have k:(l+i)*z+j=l*z+(i*z+j):=by rw[Nat.add_mul];omega
   rw[k] at this;exact this
  ·have:=hr _ _ _ _ (g _ _ a) m
   have k:(l+i)*z+j=l*z+(i*z+j):=by rw[Nat.add_mul];omega
   rw[k] at this;exact this
end
end
section
variable {fi:FI} {M M':Mem} {w w':World} {P:Program}
structure Good (M:Mem) (w:World) (M':Mem) (w':World) (xl:Loc->Prop) (xb:Nat->Prop):Prop where
 ext:Ext M w M' w'
 size:w.heap.size<=w'.heap.size
 lb:∀(i k:Nat),M.lb[i]?=some k->M'.lb[i]?=some k
 own:∀(b:Nat) (l:Loc),M.own b=some l->¬xl l->M'.own b=some l/\w'.heap[b]?=w.heap[b]?/\(∀k,¬M.imm b k->¬M'.imm b k)/\(b∉M.lb->b∉M'.lb)/\(b∉M.gb->b∉M'.gb)
 box:∀b,b<w.heap.size->¬xb b->M.own b=none->w'.heap[b]?=w.heap[b]?/\(∀k,¬M.imm b k->¬M'.imm b k)/\M'.own b=none
 st:∀i,¬xl (Loc.gh i 0)->M'.st i=M.st i
variable {xl:Loc->Prop} {xb:Nat->Prop}
theorem OwnRep.good (g:Good M w M' w' xl xb) {l:Loc} {z:Nat} {m:Ok} {v:Value} (h:OwnRep fi M w l z m v) (r:¬xl l):OwnRep fi M' w' l z m v:=by
 obtain⟨u,j⟩:=h;refine⟨u.mono g.ext,?_⟩;rcases j with j|⟨b,o,c,cs,e,n,q,t,p,s,i,f⟩
 ·exact .inl j
 ·obtain⟨C,B,A,y,x⟩:=g.own b l q r
  exact .inr ⟨b,o,c,cs,e,n,C,by rw[B];exact t,p,λk d a=>A k (s k d a),y i,x f⟩
theorem ArrRep.good (g:Good M w M' w' xl xb) {l:Loc} {z:PV} {n:Nat} {v:Value} (h:ArrRep M w l z n v) (i:¬xl l):ArrRep M' w' l z n v:=by obtain⟨p,b,T,c,e,o,f,m,j,d,a⟩:=h;obtain⟨u,t,s,r,q⟩:=g.own b l f i;exact⟨p,b,T,c,e,o,u,by rw[t];exact m,λk=>s k (j k),r d,q a⟩
theorem RepC.good (g:Good M w M' w' xl xb) {l:Loc} {p:PV} {v:Value} (h:RepC fi M w l p v) (a:¬xl l):RepC fi M' w' l p v:=by
 unfold RepC at *;split at h
 ·exact OwnRep.good g h a
 ·exact h.mono g.ext
theorem RepE.good (g:Good M w M' w' xl xb) {p:PV} {v:Value} (h:RepE fi M w p v):RepE fi M' w' p v:=by
 unfold RepE at *;split at h
 ·obtain⟨a,d,b⟩:=h;exact⟨a,g.lb _ _ d,b⟩
 ·obtain⟨a,A,c,d,b⟩:=h;exact⟨a,A,c,g.lb _ _ d,b⟩
 ·exact h.mono g.ext
theorem RepAt.good (g:Good M w M' w' xl xb) {mk:Nat->Loc} {p:PV} {v:Value} (h:RepAt fi M w mk p v) (a:∀i,¬xl (mk i)):RepAt fi M' w' mk p v:=by
 unfold RepAt at *;split at h
 ·exact OwnRep.good g h (a 0)
 ·exact ArrRep.good g h (a 0)
 ·obtain⟨b,k,j,f⟩:=h
  exact⟨b,k,j,λi c u e d=>(f i c u e d).good g (a i)⟩
 ·obtain⟨b,k,j,f⟩:=h
  exact⟨b,k,j,λi c u e d=>(f i c u e d).good g (a i)⟩
 ·exact h.good g
theorem RepBox.good (g:Good M w M' w' xl xb) {mk:Nat->Loc} {a:Nat} {cs:Ok} (h:RepBox fi M w mk a cs) (l:¬xb a) (f:∀i,¬xl (mk i)):RepBox fi M' w' mk a cs:=by obtain⟨b,r,q,p,d,T,o,n,m⟩:=h;obtain⟨v,t,s⟩:=g.box a b l q;exact⟨aO b g.size,λk=>t k (r k),s,p,d,T,by rw[v];exact o,n,λi c u j e=>(m i c u j e).good g (f i)⟩
theorem RepMap.good (g:Good M w M' w' xl xb) {a:Nat} {k:List (PV×PV)} (h:RepMap fi M w a k) (n:¬xb a):RepMap fi M' w' a k:=by
 obtain⟨j,q,l,b,p,o,f⟩:=h;obtain⟨s,_,r⟩:=g.box a j n q
 exact⟨aO j g.size,r,l,b,by rw[s];exact p,o,λi e m d c=>
  ⟨(f i e m d c).1.mono g.ext,(f i e m d c).2.1.mono g.ext,(f i e m d c).2.2⟩⟩
theorem RepStk.good (g:Good M w M' w' xl xb) {i a b:Nat} {d:Ok} (h:RepStk fi M w i a b d) (c:∀j,¬xl (Loc.gh i j)):RepStk fi M' w' i a b d:=by obtain⟨v,t,s,r,q,cs,T,p,o,n,m⟩:=h;obtain⟨B,_⟩:=g.own a _ v (c 0);obtain⟨A,z,y,_⟩:=g.own _ _ s (c 0);have e:=g.st i (c 0);exact⟨B,by rw[e];exact t,by rw[e];exact A,λk=>by rw[e];exact y k (r k),q,cs,T,by rw[e,z];exact p,by rw[e];exact o,n,λj x l=>by obtain⟨u,f,hr⟩:=m j x l;exact⟨u,f,hr.mono g.ext⟩⟩
theorem RepBld.good (g:Good M w M' w' xl xb) {i a:Nat} {s:ByteArray} (h:RepBld fi M w i a s) (x:¬xb a) (v:∀j,¬xl (Loc.gh i j)):RepBld fi M' w' i a s:=by
 obtain⟨n,F,E,T,y,b⟩:=h;obtain⟨o,H,G⟩:=g.box a n x E;refine⟨aO n g.size,λk=>H k (F k),G,T,y,?_⟩;rcases b with ⟨e,b⟩|⟨c,m,l,D,C,B,A,z,f,d⟩
 ·exact .inl ⟨e,by rw[o];exact b⟩
 ·obtain⟨u,t,r,q,p⟩:=g.own c _ C (v 0)
  exact .inr ⟨c,m,l,by rw[o];exact D,u,q B,p A,λk=>r k (z k),by rw[t];exact f,d⟩
theorem RepObj.good (g:Good M w M' w' xl xb) {i a:Nat} {o:GObj} (h:RepObj fi M w i a o) (c:¬xb a) (b:∀j,¬xl (Loc.gh i j)):RepObj fi M' w' i a o:=by
 cases o with
 |cells cs=>exact RepBox.good (mk:=Loc.gh i) g h c b
 |map f=>exact RepMap.good g h c
 |stk d e=>exact RepStk.good g h b
 |bld s=>exact RepBld.good g h c b
def Mem.rel (M:Mem) (f:Loc->Loc):Mem:={M with own:=λb=>(M.own b).map f }
theorem Ext.rel (M:Mem) (w:World) (f:Loc->Loc):Ext M w (M.rel f) w:=⟨λ_ _ h=>h,λ_ _ h=>h,λ_ _ _=>rfl,λ_ _=>⟨cU _,λ_=>rfl⟩⟩
theorem OwnRep.rel {l:Loc} {z:Nat} {d:Ok} {v:Value} (h:OwnRep fi M w l z d v) (f:Loc->Loc):OwnRep fi (M.rel f) w (f l) z d v:=by
 obtain⟨j,a⟩:=h;refine⟨j.mono (Ext.rel M w f),?_⟩;rcases a with a|⟨b,o,c,cs,e,g,i,hr⟩
 ·exact .inl a
 ·exact .inr ⟨b,o,c,cs,e,g,by simp[Mem.rel,i],hr⟩
theorem ArrRep.rel {l:Loc} {z:PV} {n:Nat} {v:Value} (h:ArrRep M w l z n v) (f:Loc->Loc):ArrRep (M.rel f) w (f l) z n v:=by obtain⟨g,b,T,c,a,e,d,hr⟩:=h;exact⟨g,b,T,c,a,e,by simp[Mem.rel,d],hr⟩
theorem RepC.rel {l l':Loc} {p:PV} {v:Value} (h:RepC fi M w l p v) (f:Loc->Loc) (a:f l=l'):RepC fi (M.rel f) w l' p v:=by
 subst a;unfold RepC at *;split at h
 ·exact OwnRep.rel h f
 ·exact h.mono (Ext.rel M w f)
theorem RepE.rel {p:PV} {v:Value} (h:RepE fi M w p v) (f:Loc->Loc):RepE fi (M.rel f) w p v:=by
 unfold RepE at *;split at h
 ·exact h
 ·exact h
 ·exact h.mono (Ext.rel M w f)
theorem RepAt.rel {mk mk':Nat->Loc} {p:PV} {v:Value} (h:RepAt fi M w mk p v) (f:Loc->Loc) (a:∀i,f (mk i)=mk' i):RepAt fi (M.rel f) w mk' p v:=by
 unfold RepAt at *;split at h
 ·rw[<-a 0];exact OwnRep.rel h f
 ·rw[<-a 0];exact ArrRep.rel h f
 ·obtain⟨b,k,j,g⟩:=h
  exact⟨b,k,j,λi c u e d=>(g i c u e d).rel f (a i)⟩
 ·obtain⟨b,k,j,g⟩:=h
  exact⟨b,k,j,λi c u e d=>(g i c u e d).rel f (a i)⟩
 ·exact h.rel f
theorem RepBox.rel {mk:Nat->Loc} {a:Nat} {cs:Ok} (h:RepBox fi M w mk a cs) (f:Loc->Loc) (e:∀i,f (mk i)=mk i):RepBox fi (M.rel f) w mk a cs:=by obtain⟨p,o,n,m,b,T,l,k,j⟩:=h;exact⟨p,o,by simp[Mem.rel,n],m,b,T,l,k,λi c u g d=>(j i c u g d).rel f (e i)⟩
theorem RepObj.rel {i p:Nat} {o:GObj} (h:RepObj fi M w i p o) (f:Loc->Loc) (q:∀j,f (Loc.gh i j)=Loc.gh i j):RepObj fi (M.rel f) w i p o:=by
 cases o with
 |cells cs=>exact RepBox.rel (mk:=Loc.gh i) h f q
 |map I=>
  obtain⟨n,k,l,d,g,b,a⟩:=h;exact⟨n,by simp[Mem.rel,k],l,d,g,b,λi e m t r=>⟨(a i e m t r).1.mono (Ext.rel M w f),(a i e m t r).2.1.mono (Ext.rel M w f),(a i e m t r).2.2⟩⟩
 | stk G H=>
  obtain⟨n,k,g,b,a,cs,T,y,v,F,E⟩:=h;exact⟨by simp[Mem.rel,n,q],k,by simp only[Mem.rel];rw[g];simp[q],b,a,cs,T,y,v,F,λj x C=>by obtain⟨u,B,hr⟩:=E j x C;exact⟨u,B,hr.mono (Ext.rel M w f)⟩⟩
 |bld s=>
  obtain⟨n,k,g,T,D,b⟩:=h;refine⟨n,k,by simp[Mem.rel,g],T,D,?_⟩;rcases b with b|⟨c,A,z,a,y,v⟩
  ·exact .inl b
  ·exact .inr ⟨c,A,z,a,by simp[Mem.rel,y,q],v⟩
theorem Kp.rel (M:Mem) (w:World) (f:Loc->Loc):Kp M w (M.rel f) w where
 os:=rfl
 tape:=rfl
 output:=rfl
 size:=cU _
 ext:=Ext.rel M w f
 block:=λ_ _ _ _ _=>rfl
 lbn:=λ_ h=> .inl h
 gbn:=λ_ h=> .inl h
 ownn:=λk _ h=>by simp[Mem.rel,h]
 immn:=λ_ _ h=> .inl h
 ds:= .same rfl
theorem Inv.rel {s:St} {a:Act} (c:Inv fi M w s a) (f:Loc->Loc) (e:Oo) (p:∀t v,get e t=some v->t<a.tmps.size/\RepAt fi (M.rel f) w (Loc.env t) v (a.tmps.getD t undef))
  (m:∀i j,f (Loc.lh i j)=Loc.lh i j) (n:∀i j,f (Loc.gh i j)=Loc.gh i j):Inv fi (M.rel f) w ⟨e,s.lh,s.gh⟩ a where
 env:=p
 defers:=c.defers
 lbl:=c.lbl
 gbl:=c.gbl
 nodup:=c.nodup
 lh:=λi cs d g k=>(c.lh i cs d g k).rel f (m i)
 gh:=λi o d g k=>(c.gh i o d g k).rel f (n i)
 gl:=c.gl
 immlt:=c.immlt
 ownlt:=λb l h=>by simp only[Mem.rel,aE] at h;obtain⟨l',g,_⟩:=h;exact c.ownlt b l' g
 gblt:=c.gblt
def mu (n:Nat):Loc->Loc
 | .env t i=>if t=n then .lim i else .env t i
 |l=>l
def j7 (mk:Nat->Loc):Loc->Loc
 | .lim i=>mk i
 |l=>l
theorem pW {s:St} {a:Act} (g:Inv fi M w s a) {x:IX} {o:Operand} (d:mX fi x o=true) {v:PV} {e:Oo} (h:eL s.env x=some (v,e)) :
  ∃k,Inv fi k w ⟨e,s.lh,s.gh⟩ a/\Kp M w k w/\RepAt fi k w Loc.lim v (a.eval o)/\k.lb=M.lb/\k.gb=M.gb/\k.imm=M.imm:=by
 cases x with
 | t n=>
  cases o with
  | tmp m=>
   simp only[mX,cY] at d;subst d;simp only[eL,aE,bZ] at h;obtain⟨l,r,rfl,rfl⟩:=h;have hn:=g.env n l r;refine⟨M.rel (mu n),g.rel _ _ (λt u j=>?_) (λ_ _=>rfl) (λ_ _=>rfl),Kp.rel M w _,hn.2.rel _ (λi=>by simp[mu]),rfl,rfl,rfl⟩;rw[dl] at j;by_cases b:n=t
   ·subst b
    simp at j;subst j;exact⟨hn.1,(hn.2.degr.rel _).repAt⟩
   ·simp[b] at j
    exact⟨(g.env t u j).1,(g.env t u j).2.rel _ (λi=>by simp[mu,Ne.symm b])⟩
  |_=>simp[mX] at d
 | c p=>
  cases o with
  |const u=>
   simp only[eL,bW,bZ] at h;obtain⟨rfl,rfl⟩:=h;exact⟨M,g,Kp.refl M w,lE d _,rfl,rfl,rfl⟩
  |_=>simp[mX] at d
 | f q=>
  cases o with
  |func F=>
   simp only[eL,bW,bZ] at h;obtain⟨rfl,rfl⟩:=h;exact⟨M,g,Kp.refl M w,(bt g (x:= .f q) d rfl).repAt,rfl,rfl,rfl⟩
  |_=>simp[mX] at d
theorem Inv.putLim {s:St} {a:Act} (b:Inv fi M w s a) {d:Nat} (e:d<a.tmps.size) {p:PV} {v:Value} (h:RepAt fi M w Loc.lim p v) :
  Inv fi (M.rel (j7 (Loc.env d))) w (s.put d p) (a.put (some d) v)/\Kp M w (M.rel (j7 (Loc.env d))) w:=by
 refine⟨Inv.put (s:=⟨s.env,s.lh,s.gh⟩) (b.rel _ _ (λt u c=>⟨(b.env t u c).1,(b.env t u c).2.rel _ (λi=>rfl)⟩) (λ_ _=>rfl) (λ_ _=>rfl)) e (h.rel _ (λi=>rfl)),Kp.rel M w _⟩
end
section
open Go.RowKit
section
variable {fi:FI} {M M':Mem} {w w':World} {P:Program}
theorem RepP.cells1 {p:PV} {v:Value} (h:RepP fi M w p v) (a:p.one=true):v.cells= #[v]/\v.oneCell'=true:=by cases h<;>first|(exact⟨rfl,rfl⟩)|(simp[PV.one] at a)
theorem RepC.cells1 {l:Loc} {p:PV} {v:Value} (h:RepC fi M w l p v) (a:p.one=true):v.cells= #[v]/\v.oneCell'=true:=by
 unfold RepC at h;split at h
 ·rcases h.2 with h|⟨b,o,c,cs,e,h,_⟩<;>subst h<;>exact⟨rfl,rfl⟩
 ·exact h.cells1 a
theorem RepAt.cells {mk:Nat->Loc} {p:PV} {v:Value} (h:RepAt fi M w mk p v) (b:az p=true) :
  ∃a:Ou,v.cells=a.toArray/\a.length=p.cells.length/\(∀(i:Nat) (c:PV) (u:Value),p.cells[i]?=some c->a[i]?=some u->RepC fi M w (mk i) c u)/\∀u∈a,u.oneCell'=true:=by
 have j:∀c∈p.cells,c.one=true:=by simpa [az] using b
 have l:∀(a:Ou),a.length=p.cells.length->(∀(i:Nat) (c:PV) (u:Value),p.cells[i]?=some c->a[i]?=some u->RepC fi M w (mk i) c u)->∀u∈a,u.oneCell'=true:=by intro a m k u e;obtain⟨i,r,n⟩:=cN.1 e;have g:p.cells[i]?=some (p.cells[i]' NW):=aA NW;exact ((k i _ u g (by rw[aA r,n])).cells1 (j _ (cD _))).2
 have single:∀(q:PV),q.cells=[q]->q.one=true->RepC fi M w (mk 0) q v->∃a:Ou,v.cells=a.toArray/\a.length=q.cells.length/\(∀(i:Nat) (c:PV) (u:Value),q.cells[i]?=some c->a[i]?=some u->RepC fi M w (mk i) c u)/\∀u∈a,u.oneCell'=true:=by
  intro q f b g;refine⟨[v],by simpa using (g.cells1 b).1,by simp[f],λi c u d e=>?_,by simpa using (g.cells1 b).2⟩;rw[f] at d;cases i with
  |zero=>simp at d e;subst d;subst e;exact g
  |succ i=>simp at e
 unfold RepAt at h;split at h
 ·exact single _ rfl rfl h
 ·cases b
 ·obtain⟨a,rfl,m,k⟩:=h
  exact⟨a,rfl,m,k,l a m k⟩
 ·simp[az,PV.cells,PV.one] at b
 ·have o:=h.repP b
  rename_i y t s x;have f:p.cells=[p]:=by
   cases p with
   |agg cs=>exact absurd rfl (s cs)
   |_=>rfl
  exact single p f (by simpa [az,f] using b) o.repC
theorem size_alloc' (w:World) (o:Obj):(w.alloc o).heap.size=w.heap.size+1:=by show (w.heap.push o).size=_;simp
theorem DK (w:World) (o:Obj) (b k:Nat) (h:b<w.heap.size):(w.alloc o).cell? ⟨b,k,none⟩=w.cell? ⟨b,k,none⟩:=
 World.cell?_of_block (w:=w) (a:=⟨b,k,none⟩) (Below.heap_alloc w o b h)
theorem Good.alloc {s:St} {a:Act} (E:Inv fi M w s a) (o:Obj) (m:Mem) (l g:Oq) (A:m.lb=M.lb++l) (B:m.gb=M.gb++g) (u:∀k∈l,k=w.heap.size) (v:∀k∈g,k=w.heap.size)
  (c:Nat->Prop) (y:∀b k,m.imm b k↔M.imm b k\/(b=w.heap.size/\c k)) (z:∀b,b≠w.heap.size->m.own b=M.own b) (t:m.st=M.st:=by rfl) (C:m.ds=M.ds:=by rfl) :
  Good M w m (w.alloc o) (λ_=>False) (λ_=>False)/\Kp M w m (w.alloc o):=by
 have q:∀b,b<w.heap.size->b≠w.heap.size:=λb h e=>NW
 have n:Ext M w m (w.alloc o):=⟨λi k d=>by
   rw[B,aI (aD.1 d).1];exact d,
  λb k j=>(y b k).2 (.inl j),λb k j=>DK w o b k (E.immlt b k j),λb _=>by rw[t];exact⟨cU _,λ_=>rfl⟩⟩
 have r:w.heap.size<=(w.alloc o).heap.size:=by rw[size_alloc'];omega
 refine⟨⟨n,r,λi k d=>?_,λb F j _=>?_,λb j _ p=>?_,λi _=>by rw[t]⟩,⟨rfl,rfl,rfl,r,n,λk d _ _ _=>Below.heap_alloc w o k d,λk d=>?_,λk d=>?_,λk d p=>?_,λb k j=>?_,.same C⟩⟩
 ·rw[A,aI (aD.1 d).1];exact d
 ·have x:=E.ownlt b F j
  refine⟨by rw[z b (q b x)];exact j,Below.heap_alloc w o b x,λk d h=>?_,λD f=>?_,λD f=>?_⟩
  ·rcases (y b k).1 h with h|⟨h,_⟩
   ·exact d h
   ·omega
  ·rw[A,cE] at f
   rcases f with f|f
   ·exact D f
   ·have:=u b f;omega
  ·rw[B,cE] at f
   rcases f with f|f
   ·exact D f
   ·have:=v b f;omega
 ·refine⟨Below.heap_alloc w o b j,λk d h=>?_,by rw[z b (q b j)];exact p⟩
  rcases (y b k).1 h with h|⟨h,_⟩
  ·exact d h
  ·omega
 ·rw[A,cE] at d
  rcases d with d|d
  ·exact .inl d
  ·exact .inr (by rw[u k d];exact cU _)
 ·rw[B,cE] at d
  rcases d with d|d
  ·exact .inl d
  ·exact .inr (.inl (by rw[v k d];exact cU _))
 ·rw[z k (q k d)];exact p
 ·rcases (y b k).1 j with h|⟨h,_⟩
  ·exact .inl h
  ·exact .inr (.inl NW)
theorem lF {l:Oq} {n:Nat} (h:l.Nodup) (hn:n∉l):(l++[n]).Nodup:=by rw[cR];exact⟨h,NX,λa ha b c=>by simp at c;subst c;intro e;subst e;exact hn ha⟩
theorem j8 {s:St} {a:Act} (c:Inv fi M w s a):∀k∈M.lb,k<w.heap.size:=by
 intro k d;obtain⟨i,b,rfl⟩:=cN.1 d;have e:i<s.lh.length:=by rw[<-c.lbl];exact b
 exact (c.lh i _ _ (aA e) (aA b)).1
theorem Inv.newBox {s:St} {a:Act} (d:Inv fi M w s a) (g:Bool) {p:PV} {v:Value} (h:RepAt fi M w Loc.lim p v) (R:az p=true) (T:TypeId) :
  ∃M',Inv fi M' (w.alloc (.cells v.cells T)) (s.newBox g p.cells).1 a/\Kp M w M' (w.alloc (.cells v.cells T))/\
   RepE fi M' (w.alloc (.cells v.cells T)) (.ptr g (s.newBox g p.cells).2 0) (.pointer (some ⟨w.heap.size,0,none⟩)):=by
 obtain⟨O,H,C,B,_⟩:=h.cells R;have I:M.own w.heap.size=none:=by
  cases S:M.own w.heap.size with
  |none=>rfl
  |some l=>exact absurd (d.ownlt _ l S) NW
 have L:∀k,¬M.imm w.heap.size k:=λk N=>absurd (d.immlt _ k N) NW
 have A:w.heap.size∉M.lb++M.gb:=by
  rw[cE];rintro (N|N)
  ·exact absurd (j8 d _ N) NW
  ·exact absurd (d.gblt _ N) NW
 have D:∀c∈p.cells,c.one=true:=by simpa [az] using R
 generalize F:w.alloc (.cells v.cells T)=W;cases g with
 | true=>
  let q:Mem:={M with gb:=M.gb++[w.heap.size] }
  obtain⟨r,y⟩:=Good.alloc d (.cells v.cells T) q [] [w.heap.size] (by simp[q]) rfl NX NX (λ_=>False) (by simp[q]) (λ_ _=>rfl);rw[F] at r y
  have Q:∀(i:Nat) (c:PV) (u:Value),p.cells[i]?=some c->O[i]?=some u->RepC fi (q.rel (j7 (Loc.gh s.gh.length))) W (Loc.gh s.gh.length i) c u:=
   λi c u H z=>((B i c u H z).good r NX).rel _ rfl
  refine⟨q.rel (j7 (Loc.gh s.gh.length)),?_,y.trans (Kp.rel _ _ _),?_⟩
  ·refine⟨λt u z=>⟨(d.env t u z).1,((d.env t u z).2.good r NX).rel _ (λ_=>rfl)⟩,d.defers,d.lbl,by simp[St.newBox,q,Mem.rel,d.gbl],?_,?_,?_,r.ext.gl d.gl,?_,?_,?_⟩
   ·show (M.lb++(M.gb++[w.heap.size])).Nodup
    rw[<-aT];exact lF d.nodup A
   ·exact λi cs m n j=>((d.lh i cs m n j).good r NX NX).rel _ (λ_=>rfl)
   ·intro i o m n j
    simp only[St.newBox,if_true] at n;have f:(M.gb++[w.heap.size])[i]?=some m:=j;by_cases x:i<s.gh.length
    ·rw[aI x] at n
     rw[aI (by rw[d.gbl];exact x)] at f;exact ((d.gh i o m n f).good r NX NX).rel _ (λ_=>rfl)
    ·have E:=(aD.1 n).1
     simp at E;obtain rfl:i=s.gh.length:=NW;simp at n;subst n;rw[aN (by rw[d.gbl];exact cU _),d.gbl] at f;simp at f;subst f;refine⟨by rw[<-F,size_alloc'];omega,λk=>L k,by simp[Mem.rel,q,I],D,O,T,?_,C,Q⟩;rw[<-F,H];exact heap_alloc_new w _
   ·exact λb k j=>aO (d.immlt b k j) y.size
   ·intro b l j
    simp only[Mem.rel,q,aE] at j;obtain⟨P,G,_⟩:=j;exact aO (d.ownlt b P G) y.size
   ·intro b j
    have f:b∈M.gb++[w.heap.size]:=j;rw[<-F];simp only[cE,List.mem_singleton] at f;rcases f with G|G
    ·have:=d.gblt b G;rw[size_alloc'];omega
    ·subst G;rw[size_alloc'];omega
  ·refine RepP.repE (.ptr _ _ _ ?_)
   show (M.gb++[w.heap.size])[s.gh.length]?=some w.heap.size
   rw[aN (by rw[d.gbl];exact cU _),d.gbl];simp
 | false=>
  let q:Mem:={M with lb:=M.lb++[w.heap.size] }
  obtain⟨r,y⟩:=Good.alloc d (.cells v.cells T) q [w.heap.size] [] rfl (by simp[q]) NX NX (λ_=>False) (by simp[q]) (λ_ _=>rfl);rw[F] at r y
  have Q:∀(i:Nat) (c:PV) (u:Value),p.cells[i]?=some c->O[i]?=some u->RepC fi (q.rel (j7 (Loc.lh s.lh.length))) W (Loc.lh s.lh.length i) c u:=
   λi c u H z=>((B i c u H z).good r NX).rel _ rfl
  refine⟨q.rel (j7 (Loc.lh s.lh.length)),?_,y.trans (Kp.rel _ _ _),?_⟩
  ·refine⟨λt u z=>⟨(d.env t u z).1,((d.env t u z).2.good r NX).rel _ (λ_=>rfl)⟩,d.defers,by simp[St.newBox,q,Mem.rel,d.lbl],d.gbl,?_,?_,?_,r.ext.gl d.gl,?_,?_,?_⟩
   ·show ((M.lb++[w.heap.size])++M.gb).Nodup
    have:=d.nodup;rw[cR] at this ⊢;rw[cE,not_or] at A;refine⟨lF this.1 A.1,this.2.1,λa ha b j=>?_⟩;rw[cE,List.mem_singleton] at ha;rcases ha with ha|ha
    ·exact this.2.2 a ha b j
    ·subst ha;intro e;subst e;exact A.2 j
   ·intro i cs m n j
    simp only[St.newBox,bR,if_false] at n;have f:(M.lb++[w.heap.size])[i]?=some m:=j;by_cases x:i<s.lh.length
    ·rw[aI x] at n
     rw[aI (by rw[d.lbl];exact x)] at f;exact ((d.lh i cs m n f).good r NX NX).rel _ (λ_=>rfl)
    ·have E:=(aD.1 n).1
     simp at E;obtain rfl:i=s.lh.length:=NW;simp at n;subst n;rw[aN (by rw[d.lbl];exact cU _),d.lbl] at f;simp at f;subst f;refine⟨by rw[<-F,size_alloc'];omega,λk=>L k,by simp[Mem.rel,q,I],D,O,T,?_,C,Q⟩;rw[<-F,H];exact heap_alloc_new w _
   ·exact λi o m n j=>((d.gh i o m n j).good r NX NX).rel _ (λ_=>rfl)
   ·exact λb k j=>aO (d.immlt b k j) y.size
   ·intro b l j
    simp only[Mem.rel,q,aE] at j;obtain⟨P,G,_⟩:=j;exact aO (d.ownlt b P G) y.size
   ·exact λb j=>aO (d.gblt b j) y.size
  ·show ∃m,_/\_
   refine⟨w.heap.size,?_,rfl⟩
   show (M.lb++[w.heap.size])[s.lh.length]?=some w.heap.size
   rw[aN (by rw[d.lbl];exact cU _),d.lbl];simp
end
end
section
open Go.RowKit
section
variable {fi:FI} {M M':Mem} {w w':World} {P:Program}
theorem Inv.drew {s:St} {a:Act} (c:Inv fi M w s a):Inv fi M w.drew s a/\Kp M w M w.drew:=by
 have g:Good M w M w.drew (λ_=>False) (λ_=>False):=⟨⟨λ_ _ h=>h,λ_ _ h=>h,λ_ _ _=>rfl,λ_ _=>⟨cU _,λ_=>rfl⟩⟩,cU _,λ_ _ h=>h,λb l h _=>⟨h,rfl,λ_ h=>h,id,id⟩,λb _ _ h=>⟨rfl,λ_ h=>h,h⟩,λ_ _=>rfl⟩
 exact⟨⟨λt u j=>⟨(c.env t u j).1,(c.env t u j).2.good g NX⟩,c.defers,c.lbl,c.gbl,c.nodup,λi cs d f e=>(c.lh i cs d f e).good g NX NX,
  λi o d f e=>(c.gh i o d f e).good g NX NX,c.gl,c.immlt,c.ownlt,c.gblt⟩,
  ⟨rfl,rfl,rfl,cU _,g.ext,λ_ _ _ _ _=>rfl,λ_ h=> .inl h,λ_ h=> .inl h,λ_ _ h=>h,λ_ _ h=> .inl h,.same rfl⟩⟩
theorem Inv.newOwn {s:St} {a:Act} (f:Inv fi M w s a) {d:Nat} (X:d<a.tmps.size) {z:Nat} {xs:Ok} (S:∀e∈xs,e.cells.length=z) (A:∀e∈xs,az e=true)
  (m rest:Ou) (U:m.length=xs.length*z) (r:∀(i:Nat) (e:PV) (j:Nat) (p:PV),xs[i]?=some e->e.cells[j]?=some p->∃u,m[i*z+j]?=some u/\RepP fi M w p u)
  (c:Nat) (hc:xs.length<=c) (R:c*z<=m.length+rest.length) (T:TypeId) (O:Array Value) (hO:O=(m++rest).toArray) :
  ∃M',Inv fi M' (w.alloc (.cells O T)) (s.put d (.sl true z xs)) (a.put (some d) (.slice (some ⟨w.heap.size,0,none⟩) xs.length c))/\Kp M w M' (w.alloc (.cells O T)):=by
 subst hO;have F:w.heap.size∉M.lb:=λy=>absurd (j8 f _ y) NW
 have H:w.heap.size∉M.gb:=λy=>absurd (f.gblt _ y) NW
 have G:∀k,¬M.imm w.heap.size k:=λk y=>absurd (f.immlt _ k y) NW
 let n:Mem:={M with imm:=λb k=>M.imm b k\/(b=w.heap.size/\k<xs.length*z),own:=λb=>if b=w.heap.size then some (Loc.env d 0) else M.own b }
 obtain⟨B,C⟩:=Good.alloc f (.cells (m++rest).toArray T) n [] [] (by simp[n]) (by simp[n]) NX NX (λk=>k<xs.length*z) (λ_ _=>Iff.rfl) (λb g=>by simp[n,g]);generalize D:w.alloc (.cells (m++rest).toArray T)=W at *;have v:∀k,W.cell? ⟨w.heap.size,k,none⟩=(m++rest)[k]?:=λk=>by rw[<-D,cell_of_row _ w.heap.size k (m++rest).toArray T (0,0) (heap_alloc_new w _)];simp
 have hR:RepP fi n W (.sl false z xs) (.slice (some ⟨w.heap.size,0,none⟩) xs.length c):=by
  refine RepP.sl z xs _ c w.heap.size 0 (λj=>m.getD j undef) (.inr rfl) hc S A (λi e j p L E=>?_) (λi e j p L E=>?_)
  ·obtain⟨u,q,_⟩:=r i e j p L E
   have I:=(aD.1 q).1;refine⟨.inr ⟨rfl,NW⟩,?_⟩;rw[cV,v,aI I,q];simp[List.getD,q]
  ·obtain⟨u,q,hr⟩:=r i e j p L E
   simp only[List.getD,q,Option.getD_some];exact hr.mono B.ext
 have P:Inv fi n W s a:=by
  refine⟨λt u q=>⟨(f.env t u q).1,(f.env t u q).2.good B NX⟩,f.defers,f.lbl,f.gbl,f.nodup,λi cs x A Q=>(f.lh i cs x A Q).good B NX NX,
   λi o x A Q=>(f.gh i o x A Q).good B NX NX,B.ext.gl f.gl,λb k g=>?_,λb l g=>?_,λb g=>aO (f.gblt b g) C.size⟩
  ·rcases g with g|⟨g,_⟩
   ·exact aO (f.immlt b k g) C.size
   ·subst g;rw[<-D,size_alloc'];omega
  ·simp only[n] at g
   split at g
   ·rename_i N;subst N;rw[<-D,size_alloc'];omega
   ·exact aO (f.ownlt b l g) C.size
 refine⟨n,P.put X ?_,C⟩
 show OwnRep fi n W (Loc.env d 0) z xs _
 refine⟨hR,.inr ⟨w.heap.size,0,c,(m++rest).toArray,T,rfl,by simp[n],by rw[<-D];exact heap_alloc_new w _,by simp;omega,λk y _ h=>?_,F,H⟩⟩;rcases h with h|⟨_,h⟩
 ·exact G k h
 ·omega
theorem pX {t:TypeId} {agg:Bool} {k a off:Nat} {vs:Ou} {T:TypeId} (ha:fW P t=some agg) (e:agg=true->eP P t=some k)
  (g:w.heap[a]?=some (.cells vs.toArray T (0,0))) (c:if agg then off+k<=vs.length else off<vs.length) :
  (loadVar t ⟨a,off,none⟩).run P w= .ok (if agg then .agg ((vs.drop off).take k).toArray else vs.getD off undef) w:=by
 have d:∀j,w.cell? ⟨a,j,none⟩=vs[j]?:=λj=>by rw[cell_of_row w a j _ T (0,0) g];simp
 cases agg with
 | true=>
  simp only[if_true] at c ⊢;have f:((vs.drop off).take k).length=k:=by simp;omega
  have:=run_loadCells_list (P:=P) w ⟨a,off,none⟩ ((vs.drop off).take k) (λj v b=>by
   rw[gi,d];rw[cK] at b;split at b
   ·rwa [List.getElem?_drop] at b
   ·cases b)
  rw[f] at this;simp[loadVar,kL ha,run_sizeOf' (e rfl),this]
 |false=>
  simp only[bR,if_false] at c ⊢;simp[loadVar,kL ha,load,Sem.run,d,c,List.getD]
theorem pY {s:St} {a:Act} (i:Inv fi M w s a) {g:Bool} {b d:Nat} {cs:Ok} {v:Value} (h:RepE fi M w (.ptr g b d) v) (e:s.cellsAt g b=some cs) :
  ∃c,v= .pointer (some ⟨c,d,none⟩)/\RepBox fi M w (if g then Loc.gh b else Loc.lh b) c cs/\(if g then M.gb[b]?=some c else M.lb[b]?=some c):=by
 cases g with
 | true=>
  cases (show RepP fi M w (Oe b d) v from h) with
  | ptr _ _ c f=>
   simp only[St.cellsAt,if_true] at e;split at e
   ·rename_i k j
    cases e;exact⟨c,rfl,i.gh b _ c j f,f⟩
   ·cases e
 |false=>
  obtain⟨c,f,rfl⟩:=h;exact⟨c,rfl,i.lh b cs c e f,f⟩
theorem wF {agg:Bool} {k a:Nat} {cs:Ok} {d:Ou} {mk:Nat->Loc} {p:PV} (h:dD agg k a cs=some p) (l:d.length=cs.length)
  (j:∀(i:Nat) (c:PV) (u:Value),cs[i]?=some c->d[i]?=some u->RepC fi M w (mk i) c u) (o:∀c∈cs,c.one=true) :
  (if agg then a+k<=d.length else a<d.length)/\RepP fi M w (degr p) (if agg then .agg ((d.drop a).take k).toArray else d.getD a undef):=by
 unfold dD at h;cases agg with
 | true=>
  simp only[if_true] at h ⊢;split at h
  ·rename_i q
   cases h;refine⟨NW,RepP.agg _ _ (by simp[l]) λi c u m g=>?_⟩;simp only[aB,aE] at m;obtain⟨r,b,rfl⟩:=m;rw[cK] at b g;split at b
   ·rename_i n
    rw[if_pos n] at g;rw[List.getElem?_drop] at b g;exact (j _ _ _ b g).degr1
   ·cases b
  ·cases h
 |false=>
  simp only[bR,if_false] at h ⊢;have e:a<d.length:=by rw[l];exact (aD.1 h).1
  refine⟨e,?_⟩;have f:=o p (aL h);have:=(j a p _ h (aA e)).degr1;simp only[List.getD,aA e,Option.getD_some];cases p<;>first|exact this|(simp[PV.one] at f)
theorem DL {s:St} {a:Act} (n:Inv fi M w s a) {g:Bool} {b c k:Nat} {agg:Bool} {cs:Ok} {p:PV} {v:Value} {t:TypeId} (ha:fW P t=some agg) (e:agg=true->eP P t=some k)
  (f:RepE fi M w (.ptr g b c) v) (m:s.cellsAt g b=some cs) (l:dD agg k c cs=some p):∃r,(Instr.loadAt t v).run P w= .ok r w/\RepP fi M w (degr p) r:=by
 obtain⟨q,rfl,⟨_,_,_,o,u,T,j,h,d⟩,_⟩:=pY n f m;obtain⟨i,hr⟩:=wF l h d o;exact⟨_,by simp only[Instr.loadAt,Instr.sureAddr];simp[pX ha e j i],hr⟩
theorem DM {e:PV} {a k:Nat} {agg:Bool} {p:PV} {v:Value} {t:TypeId} (ha:fW P t=some agg) (q:agg=true->eP P t=some k)
  (s:RepE fi M w (.ep e a) v) (d:dD agg k a e.cells=some p):∃r,(Instr.loadAt t v).run P w= .ok r w/\RepP fi M w p r:=by
 cases (show RepP fi M w (.ep e a) v from s) with
 | ep _ _ b o h y m hr=>
  have n:∀c∈e.cells,c.one=true:=by simpa [az] using y
  unfold dD at d;cases agg with
  | true=>
   simp only[if_true] at d;split at d
   ·rename_i z
    cases d;have f:=run_loadCells (P:=P) w ⟨b,o+a,none⟩ k (λj=>h (a+j)) (λj A=>by rw[gi,Nat.add_assoc];exact (m (a+j) _ (aA NW)).2);refine⟨.agg ((List.range k).map λj=>h (a+j)).toArray,?_,RepP.agg _ _ (by simp;omega) λi c u g l=>?_⟩
    ·simp[Instr.loadAt,Instr.sureAddr,loadVar,kL ha,run_sizeOf' (q rfl),f]
    ·rw[cK] at g
     split at g
     ·rename_i x
      simp only[aB,List.getElem?_range x,cJ,bW] at l;rw[List.getElem?_drop] at g;subst l;exact hr _ _ g
     ·cases g
   ·cases d
  |false=>
   simp only[bR,if_false] at d;refine⟨h a,?_,hr a p d⟩;simp[Instr.loadAt,Instr.sureAddr,loadVar,kL ha,load,Sem.run,(m a p d).2]
end
end
section
open Go.RowKit
section
variable {fi:FI} {M M':Mem} {w w':World} {P:Program}
theorem ja {α:Type} (l n:List α) (a i:Nat) (h:a+n.length<=l.length) :
  (l.take a++n++l.drop (a+n.length))[i]?=if i<a then l[i]? else if i<a+n.length then n[i-a]? else l[i]?:=by
 have c:(l.take a).length=a:=by simp;omega
 by_cases ha:i<a
 ·rw[if_pos ha,aT,aI NW,cK,if_pos ha]
 ·rw[if_neg ha]
  by_cases b:i<a+n.length
  ·rw[if_pos b,aT,aN NW,c,aI NW]
  ·rw[if_neg b,aN (by simp;omega),List.getElem?_drop]
   congr 1
   simp;omega
theorem kM {α:Type} (l n:List α) (a:Nat) (h:a+n.length<=l.length):(l.take a++n++l.drop (a+n.length)).length=l.length:=by simp;omega
theorem size_setRow' (w:World) (g:Nat) (cs:Array Value):(w.setRow g cs).heap.size=w.heap.size:=by simp[World.setRow]
theorem Good.setRow {c:Nat} {cs f:Array Value} {T:TypeId} (u:w.heap[c]?=some (.cells cs T (0,0))) (j:M'.lb=M.lb) (n:M'.gb=M.gb) (a:Nat->Prop)
  (r:∀b k,M'.imm b k↔M.imm b k\/(b=c/\a k)) (m:∀k,M.imm c k->f[k]?=cs[k]?) (t:∀b,b≠c->M'.own b=M.own b) (p:Loc->Prop) (s:Nat->Prop)
  (x:∀l,M.own c=some l->p l) (q:M.own c=none->s c)
  (v:(∀i,¬p (Loc.gh i 0)->M'.st i=M.st i)/\∀b,(M.st b).1<=(M'.st b).1/\((M'.st b).1=(M.st b).1->M'.st b=M.st b):=by exact⟨λ_ _=>rfl,λ_=>⟨cU _,λ_=>rfl⟩⟩):Good M w M' (w.setRow c f) p s:=by
 have g:∀b,b≠c->(w.setRow c f).heap[b]?=w.heap[b]?:=λb h=>setRow_other w c b f h
 refine⟨⟨λi k h=>by rw[n];exact h,λb k h=>(r b k).2 (.inl h),λb k h=>?_,λb _=>v.2 b⟩,by rw[size_setRow'];exact cU _,λi k h=>by rw[j];exact h,λb l h y=>?_,λb _ hn h=>?_,v.1⟩
 ·by_cases o:b=c
  ·subst o
   rw[cell_setRow_same w b k cs f T (0,0) u,m k h,cell_of_row w b k cs T (0,0) u]
  ·exact cell_setRow_other w c f ⟨b,k,none⟩ o
 ·have d:b≠c:=λe=>y (x l (by rw[<-e];exact h))
  refine⟨by rw[t b d];exact h,g b d,λk m h=>?_,by rw[j];exact id,by rw[n];exact id⟩;rcases (r b k).1 h with h|⟨h,_⟩
  ·exact m h
  ·exact d h
 ·have d:b≠c:=λe=>hn (by rw[e];exact q (by rw[<-e];exact h))
  refine⟨g b d,λk m h=>?_,by rw[t b d];exact h⟩;rcases (r b k).1 h with h|⟨h,_⟩
  ·exact m h
  ·exact d h
theorem Kp.setRow {n:Loc->Prop} {o:Nat->Prop} {c:Nat} {d:Array Value} (g:Good M w M' (w.setRow c d) n o) (j:M'.lb=M.lb) (l:M'.gb=M.gb) (a:Nat->Prop)
  (r:∀b k,M'.imm b k↔M.imm b k\/(b=c/\a k)) (q:∀b,b≠c->M'.own b=M.own b) (s:c∈M.lb\/c∈M.gb\/M.own c≠none)
  (i:M.own c=none->M'.own c=none) (p:(∃k,a k)->M.own c≠none) (m:M'.ds=M.ds:=by rfl):Kp M w M' (w.setRow c d) where
 os:=rfl
 tape:=rfl
 output:=rfl
 size:=g.size
 ext:=g.ext
 block:=λk _ v u t=>setRow_other w c k d (λe=>by
  subst e;rcases s with h|h|h
  ·exact v h
  ·exact u h
  ·exact h t)
 lbn:=λk h=> .inl (by rw[<-j];exact h)
 gbn:=λk h=> .inl (by rw[<-l];exact h)
 ownn:=λk _ h=>by
  by_cases f:k=c
  ·subst f;exact i h
  ·rw[q k f];exact h
 immn:=λb k h=>by
  rcases (r b k).1 h with h|⟨h,f⟩
  ·exact .inl h
  ·subst h;exact .inr (.inr (p ⟨k,f⟩))
 ds:= .same m
theorem lG {l:Oq} (h:l.Nodup) {i j k:Nat} (a:l[i]?=some k) (c:l[j]?=some k):i=j:=by have b:=(aD.1 a).1;exact (List.getElem?_inj b h).1 (a.trans c.symm)
theorem DN {s:St} {a:Act} (n:Inv fi M w s a) {g:Bool} {b m k:Nat} {cs:Ok} {p:PV} {u v:Value} {t:TypeId} (hs:eP P t=some k)
  (hp:RepE fi M w (.ptr g b m) u) (hc:s.cellsAt g b=some cs) (hv:RepAt fi M w Loc.lim p v) (hk:p.cells.length=k) (aH:m+k<=cs.length) (h1:az p=true) :
  ∃M' w',(Instr.storeAt t u v).run P w= .ok () w'/\Inv fi M' w' (s.setCells g b (au cs m p.cells)) a/\Kp M w M' w':=by
 obtain⟨q,rfl,⟨aG,aA,ax,I,F,T,hh,hl,al⟩,z⟩:=pY n hp hc;obtain⟨H,U,X,aC,aD⟩:=hv.cells h1;have aB:∀c∈p.cells,c.one=true:=by simpa [az] using h1
 have N:=run_storeCells_at P q m T H 0 F.toArray w hh (by simp;omega) aD;simp only[cG] at N;generalize av:(F.toArray.toList.take m++H++F.toArray.toList.drop (m+H.length)).toArray=D at N;have Q:D=(F.take m++H++F.drop (m+H.length)).toArray:=by rw[<-av]
 obtain⟨G⟩:Nonempty (Good M w M (w.setRow q D) (λ_=>False) (λb=>b=q)):=
  ⟨Good.setRow hh rfl rfl (λ_=>False) NX (λk h=>absurd h (aA k)) (λ_ _=>rfl) _ _ (λl h=>by rw[ax] at h;cases h) (λ_=>rfl)⟩
 have k1:Kp M w M (w.setRow q D):=Kp.setRow G rfl rfl (λ_=>False) NX (λ_ _=>rfl) (by
  cases g with
  |true=>exact .inr (.inl (aL z))
  |false=>exact .inl (aL z)) id (λ⟨_,h⟩=>h.elim)
 have O:(F.take m++H++F.drop (m+H.length)).length=F.length:=kM _ _ _ NW
 let mk:Nat->Loc:=if g then Loc.gh b else Loc.lh b
 have ap:∀i j d,M.lb[i]?=some d->M.gb[j]?=some d->False:=λi j d r hj=>by have:=n.nodup;rw[cR] at this;exact this.2.2 d (aL r) d (aL hj) rfl
 have an:M.lb.Nodup:=(cR.1 n.nodup).1;have ao:M.gb.Nodup:=(cR.1 n.nodup).2.1
 let f:Loc->Loc:=j7 (λi=>mk (m+i))
 have L:RepBox fi (M.rel f) (w.setRow q D) mk q (au cs m p.cells):=by
  refine⟨by rw[size_setRow'];exact aG,aA,by simp[Mem.rel,ax],λc B=>?_,F.take m++H++F.drop (m+H.length),T,by rw[setRow_heap w q _ D T (0,0) hh,Q],by rw[O];rw[au,kM _ _ _ NW];exact hl,λi c x C A=>?_⟩
  ·simp only[au,cE] at B
   rcases B with (B|B)|B
   ·exact I c (cO B)
   ·exact aB c B
   ·exact I c (List.mem_of_mem_drop B)
  ·rw[au,ja _ _ _ _ NW] at C
   rw[ja _ _ _ _ NW,X] at A
   have S:cs[i]?=some c->F[i]?=some x->RepC fi (M.rel f) (w.setRow q D) (mk i) c x:=λh2 h3=>
    ((al i c x h2 h3).good G NX).rel _ (by cases g<;>rfl)
   by_cases ha:i<m
   ·rw[if_pos ha] at C A;exact S C A
   ·rw[if_neg ha] at C A
    by_cases y:i<m+p.cells.length
    ·rw[if_pos y] at C A
     refine ((aC _ c x C A).good G NX).rel _ ?_
     show mk (m+(i-m))=mk i
     congr 1;omega
    ·rw[if_neg y] at C A;exact S C A
 refine⟨M.rel f,w.setRow q D,?_,?_,k1.trans (Kp.rel _ _ _)⟩
 ·have aF:v.cells.size=k:=by rw[U];simp[X,hk]
  have ad:(storeCells ⟨q,m,none⟩ v.cells.toList).run P w= .ok () (w.setRow q D):=by rw[U];exact N
  simp[Instr.storeAt,Instr.sureAddr,storeVar,run_sizeOf' hs,aF,ad]
 ·cases g with
  | true=>
   refine⟨λt u hu=>⟨(n.env t u hu).1,((n.env t u hu).2.good G NX).rel _ (λ_=>rfl)⟩,n.defers,n.lbl,by simp[St.setCells,Mem.rel,n.gbl],n.nodup,?_,?_,G.ext.gl n.gl,λb k h=>by rw[size_setRow'];exact n.immlt b k h,?_,λb h=>by rw[size_setRow'];exact n.gblt b h⟩
   ·intro i R d r y
    exact ((n.lh i R d r y).good G (λe=>by subst e;exact ap _ _ _ y z) NX).rel _ (λ_=>rfl)
   ·intro i o d r y
    simp only[St.setCells,if_true] at r;rw[cL] at r;by_cases E:b=i
    ·subst E
     simp only[if_true] at r;split at r
     ·cases r
      have:d=q:=by rw[show M.gb[b]?=some d from y] at z;exact cX z
      subst this;exact L
     ·cases r
    ·rw[if_neg E] at r
     exact ((n.gh i o d r y).good G (λe=>by subst e;exact E (lG ao z y)) NX).rel _ (λ_=>rfl)
   ·intro b l y
    simp only[Mem.rel,aE] at y;obtain⟨l',h2,_⟩:=y;rw[size_setRow'];exact n.ownlt b l' h2
  | false=>
   refine⟨λt u hu=>⟨(n.env t u hu).1,((n.env t u hu).2.good G NX).rel _ (λ_=>rfl)⟩,n.defers,by simp[St.setCells,Mem.rel,n.lbl],n.gbl,n.nodup,?_,?_,G.ext.gl n.gl,λb k h=>by rw[size_setRow'];exact n.immlt b k h,?_,λb h=>by rw[size_setRow'];exact n.gblt b h⟩
   ·intro i R d r y
    simp only[St.setCells,bR,if_false] at r;rw[cL] at r;by_cases E:b=i
    ·subst E
     simp only[if_true] at r;split at r
     ·cases r
      have:d=q:=by rw[show M.lb[b]?=some d from y] at z;exact cX z
      subst this;exact L
     ·cases r
    ·rw[if_neg E] at r
     exact ((n.lh i R d r y).good G (λe=>by subst e;exact E (lG an z y)) NX).rel _ (λ_=>rfl)
   ·intro i o d r y
    exact ((n.gh i o d r y).good G (λe=>by subst e;exact ap _ _ _ z y) NX).rel _ (λ_=>rfl)
   ·intro b l y
    simp only[Mem.rel,aE] at y;obtain⟨l',h2,_⟩:=y;rw[size_setRow'];exact n.ownlt b l' h2
end
end
section
open Go.RowKit
section
variable {fi:FI} {M M':Mem} {w w':World} {P:Program}
theorem RepC.repAt {mk:Nat->Loc} {p:PV} {v:Value} (h:RepC fi M w (mk 0) p v) (a:p.one=true):RepAt fi M w mk p v:=by
 unfold RepC at h;split at h
 ·exact h
 ·exact h.repE.repAt
theorem DO {s:St} {a:Act} (q:Inv fi M w s a) {g:Bool} {b m:Nat} {cs:Ok} {p:PV} {v:Value} {t:TypeId} (ha:fW P t=some false)
  (hp:RepE fi M w (.ptr g b m) v) (hc:s.cellsAt g b=some cs) (hg:cs[m]?=some p) {d:Nat} (hd:d<a.tmps.size) :
  ∃r M',(Instr.loadAt t v).run P w= .ok r w/\Inv fi M' w ((s.setCells g b (au cs m [aw p])).put d p) (a.put (some d) r)/\Kp M w M' w:=by
 obtain⟨R,rfl,⟨aB,ax,av,F,S,T,hh,hl,D⟩,H⟩:=pY q hp hc;have aG:m<cs.length:=(aD.1 hg).1;have G:m<S.length:=NW;have E:=F p (aL hg);have C:=pX (P:=P) (k:=1) ha NX hh (by simpa using G);simp only[bR,if_false] at C;have O:S.getD m undef=S[m]:=by simp[List.getD,aA G]
 rw[O] at C
 let mk:Nat->Loc:=if g then Loc.gh b else Loc.lh b
 let f:Loc->Loc:=λl=>if l=mk m then .lim 0 else l
 have ao:∀i,i≠m->f (mk i)=mk i:=λi n=>by
  have:mk i≠mk m:=by
   show (if g then Loc.gh b else Loc.lh b) i≠(if g then Loc.gh b else Loc.lh b) m
   cases g<;>simp[n]
  simp only[f,if_neg this]
 have N:∀t i,f (Loc.env t i)=Loc.env t i:=λt i=>by
  have:Loc.env t i≠mk m:=by
   show _≠(if g then Loc.gh b else Loc.lh b) m
   cases g<;>simp
  simp only[f,if_neg this]
 have ad:∀i j,(g=true\/i≠b)->f (Loc.lh i j)=Loc.lh i j:=λi j h=>by
  have:Loc.lh i j≠mk m:=by
   show _≠(if g then Loc.gh b else Loc.lh b) m
   cases g with
   |true=>simp
   |false=>simp at h;simp[h]
  simp only[f,if_neg this]
 have an:∀i j,(g=false\/i≠b)->f (Loc.gh i j)=Loc.gh i j:=λi j h=>by
  have:Loc.gh i j≠mk m:=by
   show _≠(if g then Loc.gh b else Loc.lh b) m
   cases g with
   |false=>simp
   |true=>simp at h;simp[h]
  simp only[f,if_neg this]
 have ap:(aw p).one=true:=by cases p<;>first|rfl|exact E
 have L:RepBox fi (M.rel f) w mk R (au cs m [aw p]):=by
  refine⟨aB,ax,by simp[Mem.rel,av],λc y=>?_,S,T,hh,by rw[au,kM _ _ _ (by simp;omega)];exact hl,λi c x z U=>?_⟩
  ·simp only[au,cE,List.mem_singleton] at y
   rcases y with (y|y)|y
   ·exact F c (cO y)
   ·subst y;exact ap
   ·exact F c (List.mem_of_mem_drop y)
  ·rw[au,ja _ _ _ _ (by simp;omega)] at z
   by_cases al:i=m
   ·subst al
    simp at z;subst z;exact ((D i p x hg U).degr1.mono (Ext.rel M w f)).repC
   ·refine (D i c x ?_ U).rel f (ao i al)
    split at z
    ·exact z
    ·split at z
     ·rename_i h1 h2;simp at h2;omega
     ·exact z
 have X:RepAt fi (M.rel f) w Loc.lim p S[m]:=by
  refine RepC.repAt ?_ E;exact (D m p _ hg (aA G)).rel f (by
   show f ((if g then Loc.gh b else Loc.lh b) m)=_
   simp only[f,mk,if_true])
 have aF:∀i j e,M.lb[i]?=some e->M.gb[j]?=some e->False:=λi j e n hj=>by have:=q.nodup;rw[cR] at this;exact this.2.2 e (aL n) e (aL hj) rfl
 have I:∀b l,(M.rel f).own b=some l->b<w.heap.size:=λb l B=>by simp only[Mem.rel,aE] at B;obtain⟨l',h2,_⟩:=B;exact q.ownlt b l' h2
 have aC:Inv fi (M.rel f) w (s.setCells g b (au cs m [aw p])) a:=by
  cases g with
  | true=>
   refine⟨λt u O=>⟨(q.env t u O).1,(q.env t u O).2.rel _ (N t)⟩,q.defers,q.lbl,by simp[St.setCells,Mem.rel,q.gbl],q.nodup,?_,?_,q.gl,q.immlt,I,q.gblt⟩
   ·exact λi Q e n B=>(q.lh i Q e n B).rel _ (λj=>ad i j (.inl rfl))
   ·intro i o e n B
    simp only[St.setCells,if_true] at n;rw[cL] at n;by_cases A:b=i
    ·subst A
     simp only[if_true] at n;split at n
     ·cases n
      have:e=R:=by rw[show M.gb[b]?=some e from B] at H;exact cX H
      subst this;exact L
     ·cases n
    ·rw[if_neg A] at n
     exact (q.gh i o e n B).rel _ (λj=>an i j (.inr (Ne.symm A)))
  | false=>
   refine⟨λt u O=>⟨(q.env t u O).1,(q.env t u O).2.rel _ (N t)⟩,q.defers,by simp[St.setCells,Mem.rel,q.lbl],q.gbl,q.nodup,?_,?_,q.gl,q.immlt,I,q.gblt⟩
   ·intro i Q e n B
    simp only[St.setCells,bR,if_false] at n;rw[cL] at n;by_cases A:b=i
    ·subst A
     simp only[if_true] at n;split at n
     ·cases n
      have:e=R:=by rw[show M.lb[b]?=some e from B] at H;exact cX H
      subst this;exact L
     ·cases n
    ·rw[if_neg A] at n
     exact (q.lh i Q e n B).rel _ (λj=>ad i j (.inr (Ne.symm A)))
   ·exact λi o e n B=>(q.gh i o e n B).rel _ (λj=>an i j (.inl rfl))
 obtain⟨h2,k2⟩:=aC.putLim hd X;exact⟨S[m],_,by simp only[Instr.loadAt,Instr.sureAddr];simp[C],h2,(Kp.rel M w f).trans k2⟩
theorem sF {z:Nat} {a:Ok} {v:Value} (g:0<z) (h:RepP fi M w (.sl false z a) v) :
  ∃(A:Option Addr) (c b o:Nat) (m:Ou),v= .slice A a.length c/\a.length<=c/\m.length=a.length*z/\(a=[]\/A=some ⟨b,o,none⟩)/\(∀e∈a,e.cells.length=z)/\(∀e∈a,az e=true)/\
   (∀(j:Nat) (u:Value),m[j]?=some u->M.imm b (o+j)/\w.cell? ⟨b,o+j,none⟩=some u/\u.oneCell'=true)/\
   (∀(i:Nat) (e:PV) (j:Nat) (p:PV),a[i]?=some e->e.cells[j]?=some p->∃u,m[i*z+j]?=some u/\RepP fi M w p u):=by
 cases h with
 | sl _ _ A c b o s E D n B C hr=>
  refine⟨A,c,b,o,(List.range (a.length*z)).map s,rfl,D,NX,E,n,B,λj u t=>?_,λi e j p f k=>?_⟩
  ·simp only[aB,aE,aD,List.length_range,List.getElem_range] at t
   obtain⟨_,⟨d,rfl⟩,rfl⟩:=t;have l:j/z<a.length:=by rw[Nat.div_lt_iff_lt_mul g];exact d
   have f:=aA l;have x:=n _ (cD l);have q:j%z<(a[j/z]).cells.length:=by rw[x];exact Nat.mod_lt _ g
   have k:=aA q;have e:j/z*z+j%z=j:=by rw[Nat.mul_comm];exact Nat.div_add_mod j z
   have r:=C _ _ _ _ f k;have y:=hr _ _ _ _ f k;rw[e] at r y;refine⟨r.1,r.2,(y.cells1 ?_).2⟩;have:=B _ (cD l);simp only[az,bV] at this;exact this _ (cD q)
  ·have x:=n _ (aL f)
   have q:=(aD.1 k).1;have l:=(aD.1 f).1;have d:i*z+j<a.length*z:=by have:(i+1)*z<=a.length*z:=cW z l;rw[Nat.add_mul] at this;omega
   exact⟨s (i*z+j),by simp[d],hr _ _ _ _ f k⟩
theorem wG {t ty e:TypeId} {i:TypeInfo} (b:P.underlying t=some (.slice e)) (d:P.info? e=some i) (A a:Option Addr) (n c f:Nat) (hn:n<=c) (w:World) :
  (Builtin.append_ #[t,t] ty #[.slice A n c,.slice a 0 f]).run P w= .ok (.slice A n c) w:=by
 cases A<;>cases a<;>simp[Builtin.append_,run_underlying b,sizeOf,typeInfo,d,Builtin.lenOf,Builtin.firstCells,hn,storeCells,loadCells,loadCellsFrom]
theorem wH {t ty e p:TypeId} {i:TypeInfo} (r:P.underlying t=some (.slice e)) (v:P.info? e=some i)
  (b o n c:Nat) (d:Array Value) (x:w.heap[b]?=some (.cells d p (0,0))) (l:Addr) (m q:Nat) (a:Ou) (s:a.length=m*i.size)
  (g:∀j u,a[j]?=some u->w.cell? (l.add j)=some u) (z:∀u∈a,u.oneCell'=true) (f:n+m<=c) (k:o+n*i.size+a.length<=d.size) :
  (Builtin.append_ #[t,t] ty #[.slice (some ⟨b,o,none⟩) n c,.slice (some l) m q]).run P w=
   .ok (.slice (some ⟨b,o,none⟩) (n+m) c) (w.setRow b (d.toList.take (o+n*i.size)++a++d.toList.drop (o+n*i.size+a.length)).toArray):=by
 have y:=run_firstCells_some (P:=P) w i.size m l m q a s g;have h:=run_storeCells_at P b (o+n*i.size) p a 0 d w x (by simpa using k) z;simp only[cG] at h;simp[Builtin.append_,run_underlying r,sizeOf,typeInfo,v,Builtin.lenOf,f,y,gi,h]
theorem DP {s:St} {a:Act} (N:Inv fi M w s a) {t ty e:TypeId} {i:TypeInfo} {zv:Value} (ht:P.underlying t=some (.slice e)) (hi:P.info? e=some i) (aH:i.zero=some zv)
  (aX:zv.cells.size=i.size) (aZ:0<i.size) (bx:0<i.bytes) {g m:Ok} {v:Value} (hv:OwnRep fi M w (Loc.lim 0) i.size g v)
  {A2:Option Addr} {c2 b2 o2:Nat} {q:Ou} (bK:m.length<=c2) (z:q.length=m.length*i.size) (bC:m=[]\/A2=some ⟨b2,o2,none⟩) (aV:∀e∈m,e.cells.length=i.size) (bH:∀e∈m,az e=true)
  (aJ:∀(j:Nat) (u:Value),q[j]?=some u->True/\w.cell? ⟨b2,o2+j,none⟩=some u/\u.oneCell'=true)
  (bd:∀(k:Nat) (e:PV) (j:Nat) (p:PV),m[k]?=some e->e.cells[j]?=some p->∃u,q[k*i.size+j]?=some u/\RepP fi M w p u)
  (bw:(g.length+m.length)*i.bytes<=maxBytes) {d:Nat} (hd:d<a.tmps.size) :
  ∃r M' w',(Builtin.append_ #[t,t] ty #[v,.slice A2 m.length c2]).run P w= .ok r w'/\Inv fi M' w' (s.put d (.sl true i.size (g++m))) (a.put (some d) r)/\Kp M w M' w':=by
 obtain⟨A,c,b,o,us,rfl,hc,B,hA,aW,bI,aK,be⟩:=sF aZ hv.1;by_cases hy:m=[]
 ·subst hy
  rw[bE];obtain⟨O,k2⟩:=N.putLim hd (p:= .sl true i.size g) (v:= .slice A g.length c) hv;exact⟨_,_,w,wG ht hi A A2 _ _ _ hc w,O,k2⟩
 ·have aU:=bC.resolve_left hy
  subst aU;have bl:0<m.length:=List.length_pos_iff.2 hy;have av:(g.length+m.length)*i.bytes<=140737488355328:=bw;have bF:((g.length+m.length:Nat):Int)<=9223372036854775807:=by have:(g.length+m.length)*1<=(g.length+m.length)*i.bytes:=Nat.mul_le_mul_left _ bx;omega
  have H:∀(j:Nat) (u:Value),q[j]?=some u->w.cell? ((⟨b2,o2,none⟩:Addr).add j)=some u:=λj u y=>by rw[gi];exact (aJ j u y).2.1
  have ad:∀e∈g++m,e.cells.length=i.size:=λe R=>by
   rcases cE.1 R with h|h
   ·exact aW e h
   ·exact aV e h
  have ao:∀e∈g++m,az e=true:=λe R=>by
   rcases cE.1 R with h|h
   ·exact bI e h
   ·exact bH e h
  have I:∀(k:Nat) (e:PV) (j:Nat) (p:PV),(g++m)[k]?=some e->e.cells[j]?=some p->∃u,(us++q)[k*i.size+j]?=some u/\RepP fi M w p u:=by
   intro k e j p R hp;by_cases hk:k<g.length
   ·rw[aI hk] at R
    obtain⟨u,y,hr⟩:=be k e j p R hp;exact⟨u,by rw[aI (aD.1 y).1];exact y,hr⟩
   ·rw[aN NW] at R
    obtain⟨u,y,hr⟩:=bd _ e j p R hp;refine⟨u,?_,hr⟩;have:us.length<=k*i.size+j:=by rw[B];have:=cW i.size (show g.length<=k by omega);omega
    rw[aN this,<-y]
    congr 1
    rw[B,Nat.sub_mul];have:=cW i.size (show g.length<=k by omega);omega
  have X:∀oc,g.length+m.length<=grownCap w (g.length+m.length) oc e->
    (Builtin.append_ #[t,t] ty #[.slice A g.length c,.slice (some ⟨b2,o2,none⟩) m.length c2]).run P w=
     .ok (.slice (some ⟨w.heap.size,0,none⟩) (g.length+m.length) (grownCap w (g.length+m.length) oc e))
      (w.drew.alloc (.cells ((us++q)++(Builtin.zeroCells zv.cells (grownCap w (g.length+m.length) oc e-(g.length+m.length))).toList).toArray e))->
    ∃r M' w',(Builtin.append_ #[t,t] ty #[.slice A g.length c,.slice (some ⟨b2,o2,none⟩) m.length c2]).run P w= .ok r w'/\Inv fi M' w' (s.put d (.sl true i.size (g++m))) (a.put (some d) r)/\Kp M w M' w':=by
   intro oc aM Q;obtain⟨aF,k1⟩:=N.drew;have aY:∀n,(Builtin.zeroCells zv.cells n).toList.length=n*i.size:=λn=>by rw[Array.length_toList,size_zeroCells,aX]
   obtain⟨M',aT,k2⟩:=Inv.newOwn aF hd ad ao (us++q) (Builtin.zeroCells zv.cells (grownCap w (g.length+m.length) oc e-(g.length+m.length))).toList
    (by rw[aQ,aQ,B,z,Nat.add_mul]) (λk e j p R hp=>by obtain⟨u,y,hr⟩:=I k e j p R hp;exact⟨u,y,hr.mono k1.ext⟩)
    (grownCap w (g.length+m.length) oc e) (by rw[aQ];exact aM) (by rw[aQ,B,z,aY,<-Nat.add_mul,<-Nat.add_mul];exact cW _ NW) e _ rfl
   refine⟨_,M',_,Q,?_,k1.trans k2⟩;rw[aQ] at aT;exact aT
  rcases hv.2 with aL|⟨D,G,c',cs,T,bb,E,hh,aP,aO,bg,bk⟩
  ·injection aL with e1 e2 e3
   subst e1;have ba:g=[]:=List.eq_nil_of_length_eq_zero e2;subst ba;subst e3;simp only[cF,cV] at *;have bc:us=[]:=List.eq_nil_of_length_eq_zero (by simpa using B);subst bc;refine X 0 (grownCap_ge _ _ _ _) ?_;have:=run_append_nil (P:=P) w t ty e i zv ht hi aH ⟨b2,o2,none⟩ m.length c2 q z H bl NW NW;rw[this];have aE:∀(l:Ou) (x:Array Value),l.toArray++x=(l++x.toList).toArray:=λl x=>by apply Array.ext';simp
   simp[aE]
  ·injection bb with e1 e2 e3
   subst e3;subst e1;have aR:g=[]\/(b=D/\o=G):=hA.imp id λh=>by
    have:=cX h;injection this with h1 O
    exact⟨h1.symm,O.symm⟩
   have ap:∀(j:Nat) (u:Value),us[j]?=some u->w.cell? ((⟨D,G,none⟩:Addr).add j)=some u:=λj u y=>by
    rcases aR with h|⟨O,h3⟩
    ·subst h;simp at B;subst B;simp at y
    ·subst O;subst h3;rw[gi];exact (aK j u y).2.1
   by_cases F:g.length+m.length<=c
   ·have S:G+g.length*i.size+q.length<=cs.size:=by
     rw[z,Nat.add_assoc,<-Nat.add_mul];have:=cW i.size F;omega
    have Q:=wH (P:=P) (ty:=ty) ht hi D G g.length c cs hh ⟨b2,o2,none⟩ m.length c2 q z H (λu y=>by obtain⟨j,hj,hx⟩:=cN.1 y;exact (aJ j u (by rw[aA hj,hx])).2.2) F S;generalize an:(cs.toList.take (G+g.length*i.size)++q++cs.toList.drop (G+g.length*i.size+q.length))=C at Q;have al:∀k,C[k]?=if k<G+g.length*i.size then cs[k]? else if k<G+g.length*i.size+q.length then q[k-(G+g.length*i.size)]? else cs[k]?:=λk=>by rw[<-an,ja _ _ _ _ (by simpa using S)];simp
    have ax:C.length=cs.size:=by rw[<-an,kM _ _ _ (by simpa using S)];simp
    let f:Nat->Prop:=λk=>G+g.length*i.size<=k/\k<G+(g.length+m.length)*i.size
    let M1:Mem:={M with imm:=λb k=>M.imm b k\/(b=D/\f k),own:=λb=>if b=D then some (Loc.env d 0) else M.own b }
    have aB:∀k,M.imm D k->C.toArray[k]?=cs[k]?:=λk hk=>by
     rw[List.getElem?_toArray,al];split
     ·rfl
     ·rename_i h
      have aM:G+c*i.size<=k:=by
       rcases Nat.lt_or_ge k (G+c*i.size) with O|O
       ·exact absurd hk (aO k NW O)
       ·exact O
      have:=cW i.size F;rw[Nat.add_mul] at this;rw[if_neg NW]
    have g1:Good M w M1 (w.setRow D C.toArray) (λl=>l=Loc.lim 0) (λ_=>False):=
     Good.setRow (M:=M) (M':=M1) hh rfl rfl f (λ_ _=>Iff.rfl) aB (λb L=>by simp[M1,L]) _ _ (λl h=>by rw[E] at h;cases h;rfl) (λh=>by rw[E] at h;cases h)
    have k1:Kp M w M1 (w.setRow D C.toArray):=Kp.setRow g1 rfl rfl f (λ_ _=>Iff.rfl) (λb L=>by simp[M1,L]) (.inr (.inr (by rw[E];simp))) (λh=>by rw[E] at h;cases h) (λ_=>by rw[E];simp);have U:D<w.heap.size:=N.ownlt D _ E;have aF:Inv fi M1 (w.setRow D C.toArray) s a:=by
     refine⟨λt u y=>⟨(N.env t u y).1,(N.env t u y).2.good g1 NX⟩,N.defers,N.lbl,N.gbl,N.nodup,λi cs aG h1 O=>(N.lh i cs aG h1 O).good g1 NX NX,
      λi o aG h1 O=>(N.gh i o aG h1 O).good g1 NX NX,g1.ext.gl N.gl,λb k L=>?_,λb l L=>?_,λb L=>by rw[size_setRow'];exact N.gblt b L⟩
     ·rw[size_setRow']
      rcases L with L|⟨L,_⟩
      ·exact N.immlt b k L
      ·subst L;exact U
     ·rw[size_setRow']
      simp only[M1] at L;split at L
      ·rename_i bv;subst bv;exact U
      ·exact N.ownlt b l L
    have aC:∀k,(w.setRow D C.toArray).cell? ⟨D,k,none⟩=C[k]?:=λk=>by rw[cell_setRow_same w D k cs _ T (0,0) hh];simp
    have aS:∀(j:Nat) (u:Value),(us++q)[j]?=some u->M1.imm D (G+j)/\(w.setRow D C.toArray).cell? ⟨D,G+j,none⟩=some u:=by
     intro j u y;rw[aC,al];by_cases hj:j<us.length
     ·rw[aI hj] at y
      rcases aR with h|⟨O,h3⟩
      ·subst h;simp at B;rw[B] at hj;simp at hj
      ·subst O;subst h3
       have:=aK j u y;refine⟨.inl this.1,?_⟩;rw[if_pos NW];have h4:=this.2.1;rw[cell_of_row w b _ cs T (0,0) hh] at h4;exact h4
     ·rw[aN NW] at y
      have bo:=(aD.1 y).1;rw[z] at bo;have bJ:(g.length+m.length)*i.size=g.length*i.size+m.length*i.size:=Nat.add_mul _ _ _;refine⟨.inr ⟨rfl,NW,NW⟩,?_⟩;rw[if_neg NW,if_pos NW,<-y]
      congr 1;omega
    refine⟨_,M1,_,Q,aF.put hd ?_,k1⟩
    show OwnRep fi M1 _ (Loc.env d 0) i.size (g++m) _
    refine⟨?_,.inr ⟨D,G,c,C.toArray,T,by rw[aQ],by simp[M1],by rw[setRow_heap w D _ _ T (0,0) hh],by simp[ax];exact aP,λk hk bm h=>?_,bg,bk⟩⟩
    ·have hl:=aQ (as:=g) (bs:=m)
     rw[<-hl];refine RepP.sl i.size (g++m) _ c D G (λj=>(us++q).getD j undef) (.inr rfl) (by rw[hl];exact F) ad ao (λk e j p R hp=>?_) (λk e j p R hp=>?_)
     ·obtain⟨u,y,_⟩:=I k e j p R hp
      obtain⟨h3,h4⟩:=aS _ u y;exact⟨h3,by rw[h4];simp[List.getD,y]⟩
     ·obtain⟨u,y,hr⟩:=I k e j p R hp
      simp only[List.getD,y,Option.getD_some];exact hr.mono g1.ext
    ·rw[aQ] at hk
     rcases h with h|⟨_,h⟩
     ·exact aO k (by have:=cW i.size (Nat.le_add_right g.length m.length);omega) bm h
     ·have:=h.2;omega
   ·refine X c (grownCap_ge _ _ _ _) ?_
    have:=run_append_grow (P:=P) w t ty e i zv ht hi aH ⟨D,G,none⟩ g.length c us B ap ⟨b2,o2,none⟩ m.length c2 q z H NW bF (growslice_fits NW av);rw[this];have aE:∀(l:Ou) (x:Array Value),l.toArray++x=(l++x.toList).toArray:=λl x=>by apply Array.ext';simp
    simp[aE]
theorem DQ {s:St} {a:Act} (Q:Inv fi M w s a) {t ty e:TypeId} {i:TypeInfo} {E:Value} {z b:Nat} (L:P.underlying t=some (.slice e)) (N:P.info? e=some i) (l:i.zero=some E)
  (o:i.size=z) (y:i.bytes=b) (m:E.cells.size=z) (c:0<z) (B:0<b) {h g:Ok} {v x:Value} (H:OwnRep fi M w (Loc.lim 0) z h v)
  (G:RepP fi M w (.sl false z g) x) (A:(h.length+g.length)*b<=maxBytes) {d:Nat} (O:d<a.tmps.size) :
  ∃r M' w',(Builtin.append_ #[t,t] ty #[v,x]).run P w= .ok r w'/\Inv fi M' w' (s.put d (.sl true z (h++g))) (a.put (some d) r)/\Kp M w M' w':=by
 subst o;subst y;obtain⟨U,S,T,R,F,rfl,q,f,C,k,D,n,p⟩:=sF c G;exact DP Q L N l m c B H q f C k D (λj u I=>⟨trivial,(n j u I).2⟩) p A O
end
end
section
open Go.RowKit
variable {t:TypeId} {b r:Bool} {v:Value}
def jb (P:Program) (t:TypeId) (b:Bool):Bool:=
 match P.underlying t with
 |some (.int _)=> !b
 |some .bool=>b
 |_=>false
def mw (P:Program):Nat->List Field->On->Bool
 |_,[],[]=>true
 | n, f :: l, b :: r => f.name != "_" && f.offset == n && jb P f.type b && mw P (n + 1) l r
 |_,_,_=>false
def nQ (P:Program) (t:TypeId) (a:On):Bool:=
 match P.underlying t with
 |some (.struct c)=>mw P 0 c.toList a&& !P.stoodInHeld t
 |some (.array m e)=>a.all (λb=>jb P e b)&&m==a.length&&eP P e==some 1
 |_=>false
section
variable {fi:FI} {M M':Mem} {w w':World} {P:Program}
theorem DS (h:jb P t b=true):fW P t=some false:=by unfold jb at h;unfold fW;split at h<;>first|(rename_i a;rw[a])|cases h
theorem nR (h:jb P t b=true) {xs:Array Value} {off:Nat} (a:xs[off]?=some v) (w:World):(part t xs off).run P w= .ok v w:=by simp[part,kL (DS h),a]
theorem wI (h:jb P t b=true) {p q:PV} {u:Value} (a:jB b p q=some r) (g:RepP fi M w p u) (f:RepP fi M w q v) (d:Nat) (c:World) :
  (Op.equalIn (d+1) t u v).run P c= .ok r c:=by
 unfold jB at a;split at a
 ·split at a
  ·rename_i i
   subst i;cases a;cases g;cases f;unfold jb at h;split at h
   ·rename_i e;exact run_equalIn_int c d t _ _ _ _ e
   ·cases h
   ·cases h
  ·cases a
 ·cases a
  cases g;cases f;unfold jb at h;split at h
  ·cases h
  ·rename_i e;exact run_equalIn_bool c d t _ _ e
  ·cases h
 ·cases a
theorem DT {m l:Ou} (d:Nat) (A:World):∀(n:Nat) (j:List Field) (g:On) (a b:Ok),mw P n j g=true->fj g a b=some r->
  (∀(i:Nat) (c:PV),a[i]?=some c->∃u,m[n+i]?=some u/\RepP fi M w c u)->(∀(i:Nat) (c:PV),b[i]?=some c->∃u,l[n+i]?=some u/\RepP fi M w c u)->
  (Op.eqFields (d+1) m.toArray l.toArray j).run P A= .ok r A:=by
 intro n j
 induction j generalizing n with
 | nil=>
  intro g a b h e _ _;cases g with
  |nil=>
   cases a<;>cases b<;>simp[fj] at e;subst e;simp[Op.eqFields]
  |cons=>simp[mw] at h
 | cons f j H=>
  intro g a b h e ha E;cases g with
  |nil=>simp[mw] at h
  | cons k g=>
   simp only[mw,aS,bne_iff_ne,ne_eq,cY] at h;obtain⟨⟨⟨G,F⟩,z⟩,N⟩:=h;cases a with
   |nil=>simp[fj] at e
   | cons x a=>
    cases b with
    |nil=>simp[fj] at e
    | cons y b=>
     simp only[fj] at e;obtain⟨u,L,s⟩:=ha 0 x NX;obtain⟨v,I,p⟩:=E 0 y NX;have D:=nR (P:=P) z (xs:=m.toArray) (off:=f.offset) (v:=u) (by rw[F];simpa using L);have C:=nR (P:=P) z (xs:=l.toArray) (off:=f.offset) (v:=v) (by rw[F];simpa using I);cases o:jB k x y with
     |none=>simp[o] at e
     | some q=>
      have B:=wI (P:=P) z o s p d;rw[o] at e;cases q with
      |false=>simp at e;subst e;simp[Op.eqFields,G,D,C,B]
      | true=>
       simp only at e
       have:=H (n+1) g a b N e (λi c t=>by have:=ha (i+1) c (by simpa using t);rwa [show n+(i+1)=n+1+i by omega] at this)
        (λi c t=>by have:=E (i+1) c (by simpa using t);rwa [show n+(i+1)=n+1+i by omega] at this)
       simp[Op.eqFields,G,D,C,B,this]
theorem wJ {t:TypeId} {s:On} {a b:Ok} {p o:Ou} {r:Bool} (l:nQ P t s=true) (f:fj s a b=some r) (E:p.length=a.length) (D:o.length=b.length)
  (ha:∀(i:Nat) (c:PV) (u:Value),a[i]?=some c->p[i]?=some u->RepP fi M w c u) (O:∀(i:Nat) (c:PV) (u:Value),b[i]?=some c->o[i]?=some u->RepP fi M w c u) (d:Nat) (C:World) :
  (Op.equalIn (d+2) t (.agg p.toArray) (.agg o.toArray)).run P C= .ok r C:=by
 have j:∀(i:Nat) (c:PV),a[i]?=some c->∃u,p[0+i]?=some u/\RepP fi M w c u:=λi c g=>by have T:=(aD.1 g).1;exact⟨p[i],by rw[cV];exact aA NW,ha i c _ g (aA NW)⟩
 have h:∀(i:Nat) (c:PV),b[i]?=some c->∃u,o[0+i]?=some u/\RepP fi M w c u:=λi c g=>by have T:=(aD.1 g).1;exact⟨o[i],by rw[cV];exact aA NW,O i c _ g (aA NW)⟩
 unfold nQ at l;split at l
 ·rename_i R A
  simp only[aS,Bool.not_eq_true'] at l;have Q:P.fieldsOf t=R:=by simp[Program.fieldsOf,A]
  rw[run_equalIn_struct C (d+1) t _ _ (by rw[Q];exact A) l.2,Q];exact DT d C 0 R.toList s a b l.1 f j h
 ·rename_i m e z
  simp only[aS,cY] at l;obtain⟨⟨B,X⟩,U⟩:=l;subst X;rw[show d+2=(d+1)+1 from rfl,Op.equalIn];simp only[Sem.run_bind,run_underlying z,Result.andThen_ok,run_sizeOf' U,Std.Legacy.Range.forIn_eq_forIn_range',Std.Legacy.Range.size,Nat.sub_zero,Nat.add_one_sub_one,Nat.div_one];clear ha O E D z;generalize (0:Nat)=n at j h ⊢
  induction s generalizing n a b with
  |nil=>
   cases a<;>cases b<;>simp[fj] at f;subst f;simp
  | cons k s S=>
   simp only[List.all_cons,aS] at B;cases a with
   |nil=>simp[fj] at f
   | cons x a=>
    cases b with
    |nil=>simp[fj] at f
    | cons y b=>
     simp only[fj] at f;obtain⟨u,E,H⟩:=j 0 x NX;obtain⟨v,D,G⟩:=h 0 y NX;have N:=nR (P:=P) B.1 (xs:=p.toArray) (off:=n*1) (v:=u) (by simpa using E);have L:=nR (P:=P) B.1 (xs:=o.toArray) (off:=n*1) (v:=v) (by simpa using D);cases F:jB k x y with
     |none=>simp[F] at f
     | some q=>
      have I:=wI (P:=P) B.1 F H G d;rw[F] at f;cases q with
      |false=>simp at f;subst f;simp only[aV,List.range'_succ,List.forIn_cons];simp only[Sem.run_bind,N,L,I,Result.andThen_ok];simp
      | true=>
       simp only at f
       have:=S (a:=a) (b:=b) (n:=n+1) f B.2 (λi c g=>by have:=j (i+1) c (by simpa using g);rwa [show n+(i+1)=n+1+i by omega] at this)
        (λi c g=>by have:=h (i+1) c (by simpa using g);rwa [show n+(i+1)=n+1+i by omega] at this)
       simp only[aV,List.range'_succ,List.forIn_cons];simp only[Sem.run_bind,N,L,I,Result.andThen_ok,Bool.not_true,bR,if_false,Sem.run_pure];exact this
 ·cases l
end
end
section
open Go.RowKit
variable {kn:Nat} {k:PV}
def kN (P:Program) (t:TypeId) (a:Nat):Bool:=
 match P.underlying t with
 |some (.int _)=>a==0
 |some (.array _ _)=>a !=0&&nQ P t (List.replicate a false)
 |_=>false
def gI (b:Nat):List (PV×PV)->PV->Option (Option Nat)
 |[],_=>some none
 |(a,_)::l,k=>match dB b k a with
  |some true=>some (some 0)
  |some false=>(gI b l k).map λr=>r.map (· +1)
  |none=>none
section
variable {fi:FI} {M M':Mem} {w w':World} {P:Program}
theorem DU:∀{b:List (PV×PV)} {r:Option PV},eD kn b k=some r->
  (r=none/\gI kn b k=some none)\/∃i e,gI kn b k=some (some i)/\b[i]?=some e/\r=some e.2:=by
 intro b
 induction b with
 |nil=>intro r h;simp[eD] at h;subst h;exact .inl ⟨rfl,rfl⟩
 | cons x l g=>
  intro r h;obtain⟨a,v⟩:=x;simp only[eD,gI] at *;cases f:dB kn k a with
  |none=>simp[f] at h
  | some q=>
   rw[f] at h;cases q with
   |true=>simp at h;subst h;exact .inr ⟨0,(a,v),rfl,rfl,rfl⟩
   |false=>
    simp only at h;rcases g h with ⟨d,c⟩|⟨i,e,d,c,j⟩
    ·exact .inl ⟨d,by simp[c]⟩
    ·exact .inr ⟨i+1,e,by simp[d],by simpa using c,j⟩
theorem DV {v:PV}:∀{c b:List (PV×PV)},ef kn c k v=some b->
  (gI kn c k=some none/\b=c++[(k,v)])\/∃i e,gI kn c k=some (some i)/\c[i]?=some e/\dB kn k e.1=some true/\b=c.set i (k,v):=by
 intro c
 induction c with
 |nil=>intro b h;simp[ef] at h;subst h;exact .inl ⟨rfl,rfl⟩
 | cons x l j=>
  intro b h;obtain⟨a,u⟩:=x;simp only[ef,gI] at *;cases d:dB kn k a with
  |none=>simp[d] at h
  | some q=>
   rw[d] at h;cases q with
   |true=>simp at h;subst h;exact .inr ⟨0,(a,u),rfl,rfl,d,rfl⟩
   |false=>
    simp only[aE] at h;obtain⟨o,h,rfl⟩:=h;rcases j h with ⟨g,f⟩|⟨i,e,g,f,n,m⟩
    ·exact .inl ⟨by simp[g],by simp[f]⟩
    ·exact .inr ⟨i+1,e,by simp[g],by simpa using f,n,by simp[m]⟩
theorem DW {e:TypeId} {b:Bool} (h:jb P e b=true) (c:Bool) (n:Nat) (v:Value) (w:World):(Instr.checkKey c (n+1) e v).run P w= .ok () w:=by
 unfold jb at h;split at h
 ·rename_i a;simp[Instr.checkKey,run_underlying a]
 ·rename_i a;simp[Instr.checkKey,run_underlying a]
 ·cases h
theorem wK {t:TypeId} {v:Value} (h:kN P t kn=true) (g:eS kn k=true) (hr:RepP fi M w k v) (o:Bool):(Instr.checkKey o 10000 t v).run P w= .ok () w:=by
 unfold kN at h;split at h
 ·rename_i b;rw[show (10000:Nat)=9999+1 from rfl,Instr.checkKey];simp[run_underlying b]
 ·rename_i m e b
  simp only[aS,bne_iff_ne,ne_eq] at h;obtain⟨l,d⟩:=h;unfold nQ at d;rw[b] at d;simp only[aS,cY,bM] at d;obtain⟨⟨j,z⟩,y⟩:=d;cases k with
  | agg cs=>
   simp only[eS,aS,cY] at g;obtain⟨f,rfl,s,r⟩:=hr.repE.agg;subst z;have c:jb P e false=true:=by simp only[bV] at j;exact j false (by simp[List.mem_replicate,l])
   rw[show (10000:Nat)=9999+1 from rfl,Instr.checkKey];simp only[Sem.run_bind,run_underlying b,Result.andThen_ok,Std.Legacy.Range.forIn_eq_forIn_range',Std.Legacy.Range.size,Nat.sub_zero,Nat.add_one_sub_one,Nat.div_one];have a:∀i,i<m->∃u,f[0+i]?=some u:=λi x=>⟨f[i]' NW,by rw[cV];exact aA NW⟩
   clear s r b l j g;generalize (0:Nat)=n at a ⊢
   induction m generalizing n with
   |zero=>simp
   |succ m q=>
    obtain⟨u,b⟩:=a 0 NW;have p:=nR (P:=P) c (xs:=f.toArray) (off:=n*1) (v:=u) (by simpa using b);have:=q (n:=n+1) (λi x=>by have:=a (i+1) NW;rwa [show n+(i+1)=n+1+i by omega] at this);simp only[List.range'_succ,List.forIn_cons];simp only[Sem.run_bind,run_sizeOf' y,p,Result.andThen_ok,DW c o 9998,Sem.run_pure] at this ⊢;exact this
  |_=>simp[eS] at g<;>omega
 ·cases h
theorem wL {c:IntKind} {a:Int} {q:Bool} (h:dB kn (.int c a) k=some q):∃b,k= .int c b/\q=(a==b):=by
 cases k with
 |int d b=>
  simp only[dB] at h;split at h
  ·rename_i e;obtain⟨_,rfl⟩:=e;cases h;exact⟨b,rfl,rfl⟩
  ·cases h
 |_=>simp[dB] at h
theorem pZ {t:TypeId} {C:Nat} {k:PV} {v:Value} (A:kN P t C=true) (U:eS C k=true) (hr:RepP fi M w k v) {d:List (PV×PV)} {l:List MapEntry} (f:l.length=d.length)
  (c:∀(i:Nat) (e:PV×PV) (m:MapEntry),d[i]?=some e->l[i]?=some m->RepP fi M w e.1 m.key) {r:Option Nat} (h:gI C d k=some r) (j:World) :
  (Instr.findKey t v l).run P j= .ok (r.map λi=>(i,((l[i]?).map (·.val)).getD undef)) j:=by
 unfold kN at A;split at A
 ·rename_i kd L
  simp only[cY] at A;subst A;cases k with
  | int o a=>
   obtain rfl:=hr.repE.int
   have z:∀(d:List (PV×PV)) (l:List MapEntry) (n:Nat) (r:Option Nat),l.length=d.length->
     (∀(i:Nat) (e:PV×PV) (m:MapEntry),d[i]?=some e->l[i]?=some m->RepP fi M w e.1 m.key)->gI 0 d (.int o a)=some r->
     Instr.findNow (.int kd) (.int o a) l n=some (r.map λi=>(n+i,((l[i]?).map (·.val)).getD undef)):=by
    intro d
    induction d with
    |nil=>intro l n r f _ h;cases l with
     |nil=>simp[gI] at h;subst h;simp[Instr.findNow]
     |cons=>simp at f
    | cons x d F=>
     intro l n r f c h;obtain⟨b,u⟩:=x;cases l with
     |nil=>simp at f
     | cons m l=>
      have B:=c 0 (b,u) m rfl rfl;simp only[gI] at h;cases p:dB 0 (.int o a) b with
      |none=>simp[p] at h
      | some q=>
       obtain⟨R,rfl,rfl⟩:=wL p;have s:m.key= .int o R:=B.repE.int;rw[p] at h;by_cases E:a=R
       ·subst E
        simp at h;subst h;simp[Instr.findNow,s,Instr.sameNow]
       ·have T:(a==R)=false:=by simpa using E
        simp only[T,aE] at h;obtain⟨D,h,rfl⟩:=h;have:=F l (n+1) D (by simpa using f) (λi e m Q B=>c (i+1) e m (by simpa using Q) (by simpa using B)) h;simp[Instr.findNow,s,Instr.sameNow,T,this];cases D with
        |none=>rfl
        |some i=>simp;omega
   have:=z d l 0 r f c h;simp only[cV] at this;simp[Instr.findKey,run_underlying L,this]
  |_=>simp[eS] at U
 ·rename_i m e L
  simp only[aS,bne_iff_ne,ne_eq] at A;obtain⟨X,hf⟩:=A;have g:(Instr.findKey t v l).run P j=(Instr.findAsking t v l).run P j:=run_findKey_eq j (by rw[L]) v l;rw[g];cases k with
  | agg cs=>
   obtain⟨S,rfl,G,hv⟩:=hr.repE.agg
   have z:∀(d:List (PV×PV)) (l:List MapEntry) (n:Nat) (r:Option Nat),l.length=d.length->
     (∀(i:Nat) (e:PV×PV) (m:MapEntry),d[i]?=some e->l[i]?=some m->RepP fi M w e.1 m.key)->gI C d (.agg cs)=some r->
     (Instr.findAsking t (.agg S.toArray) l n).run P j= .ok (r.map λi=>(n+i,((l[i]?).map (·.val)).getD undef)) j:=by
    intro d
    induction d with
    |nil=>intro l n r f _ h;cases l with
     |nil=>simp[gI] at h;subst h;simp[Instr.findAsking]
     |cons=>simp at f
    | cons x d F=>
     intro l n r f c h;obtain⟨b,u⟩:=x;cases l with
     |nil=>simp at f
     | cons m l=>
      have B:=c 0 (b,u) m rfl rfl;simp only[gI] at h;cases p:dB C (.agg cs) b with
      |none=>simp[p] at h
      | some q=>
       cases b with
       | agg bs=>
        simp only[dB,X,if_false] at p;obtain⟨us,s,I,H⟩:=B.repE.agg;have O:=wJ (P:=P) (fi:=fi) (M:=M) (w:=w) hf p G I hv H 9998 j;have y:(Op.equal t (.agg S.toArray) m.key).run P j= .ok q j:=by rw[s];exact O
        have N:dB C (.agg cs) (.agg bs)=some q:=by simp only[dB,X,if_false];exact p
        rw[N] at h;cases q with
        |true=>simp at h;subst h;simp[Instr.findAsking,y]
        |false=>
         simp only[aE] at h;obtain⟨D,h,rfl⟩:=h;have:=F l (n+1) D (by simpa using f) (λi e m Q B=>c (i+1) e m (by simpa using Q) (by simpa using B)) h;simp[Instr.findAsking,y,this];cases D with
         |none=>rfl
         |some i=>simp;omega
       |_=>simp[dB] at p
   have:=z d l 0 r f c h;simpa using this
  |_=>simp[eS] at U<;>omega
 ·cases A
end
end
section
open Go.RowKit
variable {s:St} {a:Act} {v:Value} {d:Nat}
section
variable {fi:FI} {M M':Mem} {w w':World} {P:Program}
theorem sG (h:Inv fi M w s a) {b:Nat} {e:List (PV×PV)} (f:RepE fi M w (.mp b) v) (g:s.gh[b]?=some (.map e)) :
  ∃c,v= .map (some c)/\RepMap fi M w c e/\M.gb[b]?=some c:=by
 cases (show RepP fi M w (.mp b) v from f) with
 |mp _ c d=>exact⟨c,rfl,h.gh b _ c g d,d⟩
theorem sH {b a:Nat} {l:Array MapEntry} (h:w.heap[b]?=some (.map l a)):(getObj b).run P w= .ok (.map l a) w:=by simp[getObj,Sem.run,h]
theorem wM {a:Nat} {k:PV} (h:RepE fi M w k v) (b:eS a k=true):RepP fi M w k v:=by
 cases k with
 |int=>exact h
 |agg=>exact h
 |_=>simp[eS] at b
theorem DX {s:St} {a:Act} (hI:Inv fi M w s a) {t Q X:TypeId} {B b:Nat} {es:List (PV×PV)} {k:PV} {u v:Value} {R:TypeInfo} {p:Value} {zero:PV} {ok:Bool} (S:P.underlying t=some (.map Q X))
  (E:kN P Q B=true) (F:P.info? X=some R) (hz:R.zero=some p) (C:cOk zero p=true) (hp:RepE fi M w (.mp b) u) (n:s.gh[b]?=some (.map es)) (D:RepE fi M w k v) (d:eS B k=true)
  {r:Option PV} (h:eD B es k=some r) :
  ∃x,(Instr.lookup t u v ok).run P w= .ok x w/\RepP fi M w (match r with|some q=>if ok then .tup [q,.bool true] else q|none=>if ok then .tup [degr zero,.bool false] else degr zero) x:=by
 obtain⟨ad,rfl,⟨h1,h2,l,N,h3,L,I⟩,_⟩:=sG hI hp n;have g:=wM D d;have c1:=λem=>wK (P:=P) E d g em
 have c3:=sH (P:=P) h3;have f:∀(q:PV) (y:Value) (o:Bool),RepP fi M w q y->RepP fi M w (.tup [q,.bool o]) (.tuple #[y,.bool o]):=λq y o hq=>by
  refine RepP.tup [q,.bool o] [y,.bool o] rfl λi c u n A=>?_
  cases i with
  |zero=>simp at n A;subst n;subst A;exact hq
  |succ i=>cases i with
   |zero=>simp at n A;subst n;subst A;exact .bool o
   |succ i=>simp at A
 rcases DU h with ⟨rfl,H⟩|⟨i,e,H,U,rfl⟩
 ·have O:=pZ (P:=P) E d g L (λi e m G j=>(I i e m G j).1) H w
  have z:RepP fi M w (degr zero) p:=wz C;refine⟨if ok then .tuple #[p,.bool false] else p,?_,?_⟩
  ·simp[Instr.lookup,run_underlying S,c3,c1,O,zeroValue,typeInfo,F,hz]
  ·cases ok
   ·exact z
   ·exact f _ _ _ z
 ·have O:=pZ (P:=P) E d g L (λi e m G j=>(I i e m G j).1) H w
  have T:i<l.length:=by rw[L];exact (aD.1 U).1
  have j:=I i e _ U (aA T);refine⟨if ok then .tuple #[l[i].val,.bool true] else l[i].val,?_,?_⟩
  ·simp[Instr.lookup,run_underlying S,c3,c1,O,aA T]
  ·cases ok
   ·exact j.2.1
   ·exact f _ _ _ j.2.1
theorem DY {s:St} {a:Act} (k:Inv fi M w s a) {c:Array TypeId} {t g p f:TypeId} {b:Nat} {e:List (PV×PV)} {u:Value} (o:c[0]?=some t) (h:P.underlying t=some (.map g p))
  (i:RepE fi M w (.mp b) u) (j:s.gh[b]?=some (.map e)):(Builtin.len_ c f #[u]).run P w= .ok (.int .i64 e.length) w:=by
 obtain⟨q,rfl,⟨x,v,l,d,n,m,r⟩,_⟩:=sG k i j;simp[Builtin.len_,o,run_underlying h,sH (P:=P) n,goInt,m]
def World.putMap (w:World) (a:Nat) (l:Array MapEntry) (clock:Nat):World:={w with heap:=w.heap.setIfInBounds a (.map l clock) }
theorem DZ (w:World) (a k:Nat) (l:Array MapEntry) (c:Nat) (h:k≠a):(World.putMap w a l c).heap[k]?=w.heap[k]?:=by simp[World.putMap,Ne.symm h]
theorem wN (w:World) (a:Nat) (l:Array MapEntry) (c:Nat) (h:a<w.heap.size):(World.putMap w a l c).heap[a]?=some (.map l c):=by simp[World.putMap,h]
theorem D0 (w:World) (a:Nat) (l:Array MapEntry) (c:Nat):(World.putMap w a l c).heap.size=w.heap.size:=by simp[World.putMap]
theorem Inv.putMap {s:St} {a:Act} (q:Inv fi M w s a) {b d:Nat} {T es':List (PV×PV)} (D:M.gb[b]?=some d) (hr:RepMap fi M w d T) {l:List MapEntry} {clock:Nat}
  (O:l.length=es'.length) (A:∀(i:Nat) (e:PV×PV) (m:MapEntry),es'[i]?=some e->l[i]?=some m->RepP fi M w e.1 m.key/\RepP fi M w e.2 m.val/\az e.1=true/\az e.2=true) :
  Inv fi M (World.putMap w d l.toArray clock) ⟨s.env,s.lh,s.gh.set b (.map es')⟩ a/\Kp M w M (World.putMap w d l.toArray clock):=by
 obtain⟨G,L,X,E,S,_,_⟩:=hr;generalize z:World.putMap w d l.toArray clock=W;have p:∀k,k≠d->W.heap[k]?=w.heap[k]?:=λk h=>by rw[<-z];exact DZ w d k _ _ h
 have r:W.heap.size=w.heap.size:=by rw[<-z];exact D0 w d _ _
 have x:∀b k,W.cell? ⟨b,k,none⟩=w.cell? ⟨b,k,none⟩:=λb k=>by
  by_cases h:b=d
  ·subst h
   have U:W.heap[b]?=some (.map l.toArray clock):=by rw[<-z];exact wN w b _ _ G
   simp[World.cell?,U,S]
  ·exact World.cell?_of_block (w:=w) (a:=⟨b,k,none⟩) (p b h)
 have n:Ext M w M W:=⟨λ_ _ h=>h,λ_ _ h=>h,λb k _=>x b k,λ_ _=>⟨cU _,λ_=>rfl⟩⟩
 have g:Good M w M W (λ_=>False) (λk=>k=d):=⟨n,by rw[r];exact cU _,λ_ _ h=>h,
  λH l' f _=>⟨f,p H (λe=>by subst e;rw[L] at f;cases f),λ_ h=>h,id,id⟩,λH _ hn h=>⟨p H hn,λ_ h=>h,h⟩,λ_ _=>rfl⟩
 have F:∀i j c,M.lb[i]?=some c->M.gb[j]?=some c->False:=λi j c v P=>by have:=q.nodup;rw[cR] at this;exact this.2.2 c (aL v) c (aL P) rfl
 have B:M.gb.Nodup:=(cR.1 q.nodup).2.1;have C:d∈M.gb:=aL D
 refine⟨⟨λt u I=>⟨(q.env t u I).1,(q.env t u I).2.good g NX⟩,q.defers,q.lbl,by simp[q.gbl],q.nodup,
  λi cs c v f=>(q.lh i cs c v f).good g (λe=>by subst e;exact F _ _ _ f D) NX,λi o c v f=>?_,n.gl q.gl,λb k h=>by rw[r];exact q.immlt b k h,λb l h=>by rw[r];exact q.ownlt b l h,λb h=>by rw[r];exact q.gblt b h⟩,
  ⟨by rw[<-z];rfl,by rw[<-z];rfl,by rw[<-z];rfl,by rw[r];exact cU _,n,λk _ _ Q _=>p k (λe=>by subst e;exact Q C),λ_ h=> .inl h,λ_ h=> .inl h,λ_ _ h=>h,λ_ _ h=> .inl h,.same rfl⟩⟩
 rw[cL] at v;by_cases y:b=i
 ·subst y
  simp only[if_true] at v;split at v
  ·cases v
   have:c=d:=by rw[D] at f;exact (cX f).symm
   subst this;refine⟨by rw[r];exact G,L,l,clock,by rw[<-z];exact wN w _ _ _ G,O,λi e m R N=>?_⟩;have:=A i e m R N;exact⟨this.1.mono n,this.2.1.mono n,this.2.2⟩
  ·cases v
 ·rw[if_neg y] at v
  exact (q.gh i o c v f).good g (λe=>by subst e;exact y (lG B D f)) NX
theorem D1 {m:On}:∀{a b:Ok} {f e:Ou},fj m a b=some true->f.length=a.length->e.length=b.length->
  (∀(i:Nat) (c:PV) (u:Value),a[i]?=some c->f[i]?=some u->RepP fi M w c u)->(∀(i:Nat) (c:PV) (u:Value),b[i]?=some c->e[i]?=some u->RepP fi M w c u)->∀n,(e.zip f).all (λ(x,y)=>Instr.sameBits n x y)=true/\f.length=e.length:=by
 induction m with
 |nil=>intro a b f e h l j _ _ n;cases a<;>cases b<;>simp[fj] at h;simp at l j;subst l;subst j;simp
 | cons k m z=>
  intro a b f e h l j ha r n;cases a with
  |nil=>simp[fj] at h
  | cons x a=>
   cases b with
   |nil=>simp[fj] at h
   | cons y b=>
    cases f with
    |nil=>simp at l
    | cons u f=>
     cases e with
     |nil=>simp at j
     | cons v e=>
      simp only[fj] at h;have g:=ha 0 x u rfl rfl;have p:=r 0 y v rfl rfl;cases d:jB k x y with
      |none=>simp[d] at h
      | some q=>
       rw[d] at h;cases q with
       |false=>simp at h
       | true=>
        simp only at h;obtain⟨t,s⟩:=z h (by simpa using l) (by simpa using j) (λi c u o g=>ha (i+1) c u (by simpa using o) (by simpa using g)) (λi c u o g=>r (i+1) c u (by simpa using o) (by simpa using g)) n;refine⟨?_,by simp[s]⟩;simp only[List.zip_cons_cons,List.all_cons,aS];refine⟨?_,t⟩;unfold jB at d;split at d
        ·split at d
         ·rename_i A;subst A
          cases g;cases p;simp at d;subst d;cases n<;>simp[Instr.sameBits]
         ·cases d
        ·cases g;cases p
         simp at d;subst d;cases n<;>simp[Instr.sameBits]
        ·cases d
theorem D2 {s:St} {a:Act} (hI:Inv fi M w s a) {t kt et:TypeId} {X b:Nat} {F es':List (PV×PV)} {k x:PV} {u v y:Value} (ht:P.underlying t=some (.map kt et))
  (hk:kN P kt X=true) (hp:RepE fi M w (.mp b) u) (hc:s.gh[b]?=some (.map F)) (ad:RepE fi M w k v) (n:eS X k=true) (hx:RepE fi M w x y) (O:az k=true) (C:az x=true)
  (h:ef X F k x=some es') :
  ∃w',(Instr.mapUpdate t u v y).run P w= .ok () w'/\Inv fi M w' ⟨s.env,s.lh,s.gh.set b (.map es')⟩ a/\Kp M w M w':=by
 obtain⟨R,rfl,r,N⟩:=sG hI hp hc;obtain⟨h1,h2,l,clock,h3,E,Q⟩:=id r;have d:=wM ad n;have G:RepP fi M w x y:=hx.repP (by simpa [az] using C);have c1:=wK (P:=P) hk n d false;have c3:=sH (P:=P) h3;have q:∀U c',(setObj R (.map U c')).run P w= .ok () (World.putMap w R U c'):=λU c'=>by simp[setObj,Sem.run,h3,World.putMap]
 rcases DV h with ⟨h6,rfl⟩|⟨i,e,h6,h7,p,rfl⟩
 ·have c2:=pZ (P:=P) hk n d E (λi e m f g=>(Q i e m f g).1) h6 w
  obtain⟨T,S⟩:=hI.putMap N r (es':=F++[(k,x)]) (l:=l++[{key:=v,val:=y,born:=clock }]) (clock:=clock+1) (by simp[E]) (λi e m f g=>by
   by_cases D:i<F.length
   ·rw[aI D] at f
    rw[aI NW] at g;exact Q i e m f g
   ·rw[aN NW] at f
    rw[aN NW,E] at g;have h0:=(aD.1 f).1;simp at h0;rw[h0] at f g;simp at f g;subst f;subst g;exact⟨d,G,O,C⟩)
  refine⟨_,?_,T,S⟩;simp[Instr.mapUpdate,run_underlying ht,c3,c1,c2,q]
 ·have c2:=pZ (P:=P) hk n d E (λi e m f g=>(Q i e m f g).1) h6 w
  have D:i<l.length:=by rw[E];exact (aD.1 h7).1
  have g:=Q i e _ h7 (aA D);have A:Instr.sameBits 10000 l[i].key v=true:=by
   cases z:k with
   |int kd a=>
    rw[z] at p d;obtain⟨b',an,hq⟩:=wL p;have ao:a=b':=by simpa using hq.symm
    have:=g.1;rw[an] at this;have e1:=this.repE.int;have e2:=d.repE.int;rw[e1,e2,ao];simp[Instr.sameBits]
   | agg cs=>
    rw[z] at p d;cases B:e.1 with
    | agg bs=>
     rw[B] at p;have I:=g.1;rw[B] at I;obtain⟨us,e1,e2,e3⟩:=I.repE.agg;obtain⟨vs,f1,f2,f3⟩:=d.repE.agg;simp only[dB] at p;split at p
     ·cases p
     ·obtain⟨r1,r2⟩:=D1 (fi:=fi) (M:=M) (w:=w) p f2 e2 f3 e3 9999
      rw[e1,f1];simp only[Instr.sameBits,aS,cY];exact⟨by simp[r2],r1⟩
    |_=>rw[B] at p;simp[dB] at p
   |_=>rw[z] at n;simp[eS] at n
  obtain⟨T,S⟩:=hI.putMap N r (es':=F.set i (k,x)) (l:=l.set i {l[i] with key:=v,val:=y }) (clock:=clock) (by simp[E]) (λj e' m f o=>by
   rw[cL] at f o;by_cases L:i=j
   ·subst L
    simp[D] at o;have al:i<F.length:=NW;simp[al] at f;subst f;subst o;exact⟨d,G,O,C⟩
   ·rw[if_neg L] at f o
    exact Q j e' m f o)
  refine⟨_,?_,T,S⟩;have H:(l.modify i λe=>{key:=v,val:=y,born:=e.born })=l.set i {key:=v,val:=y,born:=l[i].born }:=by simp[List.modify_eq_set,aA D]
  simp[Instr.mapUpdate,run_underlying ht,c3,c1,c2,q,aA D,Instr.keyThatStays,A,H]
theorem D3 (c:Inv fi M w s a) (E:d<a.tmps.size) :
  ∃M',Inv fi M' (w.alloc (.map #[] 0)) ⟨put s.env d (.mp s.gh.length),s.lh,s.gh++[.map []]⟩ (a.put (some d) (.map (some w.heap.size)))/\Kp M w M' (w.alloc (.map #[] 0)):=by
 have r:M.own w.heap.size=none:=by
  cases D:M.own w.heap.size with
  |none=>rfl
  |some l=>exact absurd (c.ownlt _ l D) NW
 have v:w.heap.size∉M.lb++M.gb:=by
  rw[cE];rintro (x|x)
  ·exact absurd (j8 c _ x) NW
  ·exact absurd (c.gblt _ x) NW
 let m:Mem:={M with gb:=M.gb++[w.heap.size] }
 obtain⟨p,q⟩:=Good.alloc c (.map #[] 0) m [] [w.heap.size] (by simp[m]) rfl NX NX (λ_=>False) (by simp[m]) (λ_ _=>rfl);generalize C:w.alloc (.map #[] 0)=W at *;have j:W.heap.size=w.heap.size+1:=by rw[<-C,size_alloc']
 have z:Inv fi m W ⟨s.env,s.lh,s.gh++[.map []]⟩ a:=by
  refine⟨λt u B=>⟨(c.env t u B).1,(c.env t u B).2.good p NX⟩,c.defers,c.lbl,by simp[m,c.gbl],?_,λi cs g h f=>(c.lh i cs g h f).good p NX NX,?_,p.ext.gl c.gl,?_,?_,?_⟩
  ·show (M.lb++(M.gb++[w.heap.size])).Nodup
   rw[<-aT];exact lF c.nodup v
  ·intro i o g h f
   have e:(M.gb++[w.heap.size])[i]?=some g:=f;by_cases n:i<s.gh.length
   ·rw[aI n] at h
    rw[aI (by rw[c.gbl];exact n)] at e;exact (c.gh i o g h e).good p NX NX
   ·have y:=(aD.1 h).1
    simp at y;obtain rfl:i=s.gh.length:=NW;simp at h;subst h;rw[aN (by rw[c.gbl];exact cU _),c.gbl] at e;simp at e;subst e;exact⟨by rw[j];omega,r,[],0,by rw[<-C];exact heap_alloc_new w _,rfl,NX⟩
  ·exact λb k f=>aO (c.immlt b k f) q.size
  ·exact λb l f=>aO (c.ownlt b l f) q.size
  ·intro b f
   have e:b∈M.gb++[w.heap.size]:=f;simp only[cE,List.mem_singleton] at e;rcases e with A|A
   ·have:=c.gblt b A;rw[j];omega
   ·subst A;rw[j];omega
 refine⟨m,z.put E (RepE.repAt (RepP.repE (.mp _ _ ?_))),q⟩
 show (M.gb++[w.heap.size])[s.gh.length]?=some w.heap.size
 rw[aN (by rw[c.gbl];exact cU _),c.gbl];simp
theorem D4 (c:Inv fi M w s a) (E:d<a.tmps.size) {T:TypeId} (F:T∈fi.bT) :
  ∃M',Inv fi M' (w.alloc (.cells #[.pointer none,.slice none 0 0] T)) ⟨put s.env d (Oe s.gh.length 0),s.lh,s.gh++[.bld .empty]⟩ (a.put (some d) (.pointer (some ⟨w.heap.size,0,none⟩)))/\Kp M w M' (w.alloc (.cells #[.pointer none,.slice none 0 0] T)):=by
 have v:M.own w.heap.size=none:=by
  cases D:M.own w.heap.size with
  |none=>rfl
  |some l=>exact absurd (c.ownlt _ l D) NW
 have x:w.heap.size∉M.lb++M.gb:=by
  rw[cE];rintro (p|p)
  ·exact absurd (j8 c _ p) NW
  ·exact absurd (c.gblt _ p) NW
 let m:Mem:={M with gb:=M.gb++[w.heap.size] }
 obtain⟨q,r⟩:=Good.alloc c (.cells #[.pointer none,.slice none 0 0] T) m [] [w.heap.size] (by simp[m]) rfl NX NX (λ_=>False) (by simp[m]) (λ_ _=>rfl);generalize C:w.alloc (.cells #[.pointer none,.slice none 0 0] T)=W at *;have j:W.heap.size=w.heap.size+1:=by rw[<-C,size_alloc']
 have z:Inv fi m W ⟨s.env,s.lh,s.gh++[.bld .empty]⟩ a:=by
  refine⟨λt u B=>⟨(c.env t u B).1,(c.env t u B).2.good q NX⟩,c.defers,c.lbl,by simp[m,c.gbl],?_,λi cs g h f=>(c.lh i cs g h f).good q NX NX,?_,q.ext.gl c.gl,?_,?_,?_⟩
  ·show (M.lb++(M.gb++[w.heap.size])).Nodup
   rw[<-aT];exact lF c.nodup x
  ·intro i o g h f
   have e:(M.gb++[w.heap.size])[i]?=some g:=f;by_cases n:i<s.gh.length
   ·rw[aI n] at h
    rw[aI (by rw[c.gbl];exact n)] at e;exact (c.gh i o g h e).good q NX NX
   ·have y:=(aD.1 h).1
    simp at y;obtain rfl:i=s.gh.length:=NW;simp at h;subst h;rw[aN (by rw[c.gbl];exact cU _),c.gbl] at e;simp at e;subst e;exact⟨by rw[j];omega,λk p=>absurd (c.immlt _ k p) NW,v,T,F,.inl ⟨rfl,by rw[<-C];exact heap_alloc_new w _⟩⟩
  ·exact λb k f=>aO (c.immlt b k f) r.size
  ·exact λb l f=>aO (c.ownlt b l f) r.size
  ·intro b f
   have e:b∈M.gb++[w.heap.size]:=f;simp only[cE,List.mem_singleton] at e;rcases e with A|A
   ·have:=c.gblt b A;rw[j];omega
   ·subst A;rw[j];omega
 refine⟨m,z.put E (RepE.repAt (RepP.repE (.ptr _ _ _ ?_))),r⟩
 show (M.gb++[w.heap.size])[s.gh.length]?=some w.heap.size
 rw[aN (by rw[c.gbl];exact cU _),c.gbl];simp
end
end
section
open Go.RowKit
section
variable {fi:FI} {M M':Mem} {w w':World} {P:Program}
theorem D5 (l:Ou) (v:Value) (a:Nat):∀(i:Nat),(l.set a v)[i]?=if i=a/\a<l.length then some v else l[i]?:=by
 intro i;rw[cL];by_cases h:a=i
 ·subst h
  by_cases b:a<l.length
  ·simp[b]
  ·simp[b]
 ·simp[h,Ne.symm h]
theorem wO {α:Type} (a:Ou) (f:α->Value×Nat->α) (x:α):a.toArray.zipIdx.foldl f x=a.zipIdx.foldl f x:=by rw[<-Array.foldl_toList];simp
theorem RepP.noOwn {p:PV} {v:Value} (h:RepP fi M w p v):aw p=p:=by cases h<;>rfl
theorem wP (b:Ou):∀(n a:Nat) (c:Ou),a+n+b.length<=c.length->
  (b.zipIdx n).foldl (λ(cs:Array Value) (p:Value×Nat)=>cs.setIfInBounds (a+p.2) p.1) c.toArray=(c.take (a+n)++b++c.drop (a+n+b.length)).toArray:=by
 induction b with
 |nil=>intro n a c _;simp
 | cons v b f=>
  intro n a c h;simp only[aV] at h;simp only[List.zipIdx_cons,List.foldl_cons];rw[List.setIfInBounds_toArray,f (n+1) a (c.set (a+n) v) (by rw[cM];omega)]
  congr 1
  apply List.ext_getElem?;intro i;have k:=ja (c.set (a+n) v) b (a+(n+1)) i (by rw[cM];omega);have j:=ja c (v::b) (a+n) i (by simp only[aV];omega);rw[k,j,D5];simp only[aV];by_cases e:i<a+n
  ·rw[if_pos NW,if_pos e,if_neg NW]
  ·by_cases g:i=a+n
   ·subst g
    have o:a+n<a+(n+1):=NW;have m:a+n<a+n+(b.length+1):=NW;have l:a+n<c.length:=NW;simp[o,m,l]
   ·rw[if_neg NW,if_neg e]
    by_cases d:i<a+n+(b.length+1)
    ·rw[if_pos NW,if_pos d]
     rw[show i-(a+n)=(i-(a+(n+1)))+1 by omega,List.getElem?_cons_succ]
    ·rw[if_neg NW,if_neg d,if_neg NW]
def kO (c:FI) (M:Mem) (w:World) (a:Nat->Option (Nat×Nat)) (mk:Nat->Loc):List (Nat×Nat×PV)->List (Nat×Value)->Prop
 |[],[]=>True
 |(b,k,p)::e,(i,v)::d=>a i=some (b,k)/\RepAt c M w (λj=>mk (b+j)) p v/\az p=true/\kO c M w a mk e d
 |_,_=>False
theorem D6 {l:Nat->Option (Nat×Nat)} {mk:Nat->Loc}:∀(s:List (Nat×Nat×PV)) (a:List (Nat×Value)) (cs e:Ok) (f:Ou),j5 cs s=some e->f.length=cs.length->
  (∀(i:Nat) (c:PV) (u:Value),cs[i]?=some c->f[i]?=some u->RepC fi M w (mk i) c u)->kO fi M w l mk s a->(∀c∈cs,c.one=true)->
  ∃g:Ou,Instr.fill l f.toArray a=some g.toArray/\g.length=e.length/\(∀(i:Nat) (c:PV) (u:Value),e[i]?=some c->g[i]?=some u->RepC fi M w (mk i) c u)/\∀c∈e,c.one=true:=by
 intro s
 induction s with
 |nil=>
  intro a cs e f h I hr B F;cases a with
  |nil=>simp[j5] at h;subst h;exact⟨f,rfl,I,hr,F⟩
  |cons=>simp[kO] at B
 | cons x s P=>
  intro a cs e f h I hr B F;obtain⟨b,k,p⟩:=x;cases a with
  |nil=>simp[kO] at B
  | cons y a=>
   obtain⟨i,v⟩:=y;simp only[kO] at B;obtain⟨H,A,C,q⟩:=B;simp only[j5] at h;split at h
   ·rename_i S
    obtain⟨L,R⟩:=S;obtain⟨r,z,t,G,_⟩:=A.cells C;have E:∀c∈p.cells,c.one=true:=by simpa [az] using C
    have o:v.cells.size=k:=by rw[z];simp[t,L]
    obtain⟨g,e1,X,U,T⟩:=P a _ e (f.take b++r++f.drop (b+r.length)) h (by rw[au,kM _ _ _ NW,kM _ _ _ NW];exact I) (λj c u d n=>by
     rw[au,ja _ _ _ _ NW] at d;rw[ja _ _ _ _ NW,t] at n;split at d
     ·rename_i O;rw[if_pos O] at n;exact hr j c u d n
     ·rename_i O
      rw[if_neg O] at n;split at d
      ·rename_i N
       rw[if_pos N] at n;have:=G _ c u d n
       rwa [show b+(j-b)=j by omega] at this
      ·rename_i N;rw[if_neg N] at n;exact hr j c u d n) q (λc d=>by
     simp only[au,cE] at d;rcases d with (d|d)|d
     ·exact F c (cO d)
     ·exact E c d
     ·exact F c (List.mem_of_mem_drop d))
    refine⟨g,?_,X,U,T⟩;have m:=wP r 0 b f NW;simp only[cG] at m;have D:¬(b+v.cells.size>f.toArray.size):=by rw[o];simp;omega
    have Q:(v.cells.zipIdx.foldl (λ(cs:Array Value) (p:Value×Nat)=>cs.setIfInBounds (b+p.2) p.1) f.toArray)=(f.take b++r++f.drop (b+r.length)).toArray:=by rw[z,wO];exact m
    simp only[Instr.fill,H,o,ne_eq,not_true,decide_false,Bool.false_or,aH];rw[if_neg (by rw[o] at D;simpa using D)];rw[<-e1,<-Q]
   ·cases h
theorem wQ {z:Nat}:∀(l:Ok) (n:Nat) (a:List (Nat×Value)) (b rest:Ou),b.length=n*z->rest.length=l.length*z->(∀p∈l,az p=true/\p.cells.length=z)->a.map (·.1)=List.range' n l.length->
  (∀(i:Nat) (p:PV) (y:Nat×Value),l[i]?=some p->a[i]?=some y->RepP fi M w p y.2)->
  ∃B:Ou,Instr.fill (λi=>some (i*z,z)) (b++rest).toArray a=some (b++B).toArray/\B.length=l.length*z/\
   ∀(i:Nat) (e:PV) (j:Nat) (p:PV),l[i]?=some e->e.cells[j]?=some p->∃u,B[i*z+j]?=some u/\RepP fi M w p u:=by
 intro l
 induction l with
 |nil=>
  intro n a b rest _ m _ c _;simp at m c;subst m;subst c;exact⟨[],by simp[Instr.fill],NX,NX⟩
 | cons p l R=>
  intro n a b rest s m F c o;cases a with
  |nil=>simp at c
  | cons y a=>
   obtain⟨i,v⟩:=y;simp only[bS,aV,List.range'_succ,List.cons.injEq] at c;obtain⟨rfl,c⟩:=c;have Q:=o 0 p (i,v) rfl rfl;obtain⟨E,f⟩:=F p NX;obtain⟨x,C,g,H,_⟩:=(RepE.repAt (mk:=Loc.lim) Q.repE).cells E;have r:v.cells.size=z:=by rw[C];simp[g,f]
   have P:rest.length=z+l.length*z:=by rw[m,aV,Nat.add_mul,Nat.one_mul,Nat.add_comm]
   have d:=wP x 0 (i*z) (b++rest) (by simp;omega);simp only[cG] at d;have D:(b++rest).take (i*z)=b:=by rw[<-s];simp
   have t:(b++rest).drop (i*z+x.length)=rest.drop z:=by
    rw[<-s,List.drop_append,aM NW,bF]
    congr 1;omega
   rw[D,t] at d;obtain⟨B,e1,e2,e3⟩:=R (i+1) a (b++x) (rest.drop z) (by simp[s,g,f,Nat.add_mul]) (by simp;omega) (λq h=>F q (by simp[h])) c (λj q y h T=>o (j+1) q y (by simpa using h) (by simpa using T));refine⟨x++B,?_,by simp[g,f,e2,Nat.add_mul,Nat.add_comm],λk e j q O h=>?_⟩
   ·have G:¬(i*z+v.cells.size>(b++rest).toArray.size):=by rw[r];simp;omega
    have S:(v.cells.zipIdx.foldl (λ(cs:Array Value) (p:Value×Nat)=>cs.setIfInBounds (i*z+p.2) p.1) (b++rest).toArray)=(b++x++rest.drop z).toArray:=by rw[C,wO];exact d
    simp only[Instr.fill,r,ne_eq,not_true,decide_false,Bool.false_or,aH];rw[if_neg (by rw[r] at G;simpa using G)];rw[<-aT,<-e1,<-S]
   ·cases k with
    | zero=>
     simp at O;subst O;have X:=(aD.1 h).1;refine⟨x[j]' NW,?_,?_⟩
     ·rw[Nat.zero_mul,cV,aI NW];exact aA NW
     ·have:=(H j q _ h (aA NW)).degr1
      have I:aw q=q:=by
       cases Q with
       |agg cs A L hh=>
        have N:j<A.length:=by rw[L];exact X
        exact (hh j q A[j] h (aA N)).noOwn
       |_=>simp[PV.cells] at h;cases j<;>simp at h;subst h;rfl
      rwa [I] at this
    |succ k=>
     obtain⟨u,U,hr⟩:=e3 k e j q (by simpa using O) h;refine⟨u,?_,hr⟩;rw[aN (by rw[g,f,Nat.add_mul];omega),<-U]
     congr 1
     rw[g,f,Nat.add_mul];omega
end
end
section
open Go.RowKit
def mXo (a:FI):Option IX->Option Operand->Bool
 |none,none=>true
 |some x,some o=>mX a x o
 |_,_=>false
def nU (P:Program) (t:TypeId) (z:PV):Bool:=
 match (P.info? t).bind (·.zero) with
 |some v=>cOk z v
 |none=>false
def iE (P:Program) (t:TypeId) (i:Nat):Option (Nat×Nat):=
 match P.underlying t with
 |some (.struct a)=>(a.toList.mapM λf=>(P.info? f.type).map λi=>(f.offset,i.size)).bind (·[i]?)
 |some (.array _ e)=>(eP P e).map λn=>(i*n,n)
 |_=>none
def jE (P:Program) (b:FI) (t:TypeId):List (Nat×Nat×IX)->List (Nat×Operand)->Bool
 |[],[]=>true
 |(a,k,x)::c,(i,o)::d=>iE P t i==some (a,k)&&mX b x o&&jE P b t c d
 |_,_=>false
def qA (P:Program) (t:TypeId) (z:Ok):Bool:=
 match (P.info? t).bind (·.zero) with
 |some v=>lD z v.cells.toList
 |none=>false
def mB (P:Program) (t:TypeId) (z:Nat):Bool:=
 match P.underlying t with
 |some (.slice e)=>eP P e==some z
 |_=>false
def lH (op:BinOp):BinOp->Bool:=λo=>decide (op=o)
def mOp (P:Program) (b:FI) (i:IOp) (op:Op):Bool:=
 match i,op with
 | .mv _ x,.move y| .mv _ x,.assign y=>mX b x y
 | .tkS _ n D,.slice t (.tmp m) (some (.const (.int _ l))) none none=>n==m&&mB P t 1&&l==(D:Int)
 | .tk _ s,.move (.tmp n)| .tk _ s,.assign (.tmp n)=>n==s
 | .pick _ c x y,.pick c' q r=>mX b c c'&&mX b x q&&mX b y r
 | .box _ _ _ x,.box _ y=>mX b x y
 | .alloc _ _ z,.alloc t=>nU P t z
 | .build _ z S,.build t h| .buildT _ z S,.build t h=>(iE P t 0).isSome&&qA P t z&&jE P b t S h.toList
 | .buildSl _ z els,.buildSlice t len h=>
  mB P t z&&decide (0<z)&&len==els.length&&decide (len*z<=16777216)&&decide (h.toList.map (·.1)=List.range' 0 len)&&mXs b els (h.toList.map (·.2)) &&
   (match P.underlying t with|some (.slice e)=>((P.info? e).bind (·.zero)).isSome|_=>false)
 | .load _ agg k a,.load t y=>mX b a y&&fW P t==some agg&&eP P t==some k
 | .loadT _ a,.load t y=>mX b a y&&fW P t==some false
 | .store _ k a x,.store t y z=>mX b a y&&mX b x z&&eP P t==some k
 | .nilc _ x,.nilCheck y=>mX b x y
 | .bin _ o x y,.binOp N _ q r _=>lH o N&&mX b x q&&mX b y r
 | .eqa _ u ks x y,.binOp o t q r _=>lH (if u then .neq else .eql) o&&nQ P t ks&& !P.eqGuardType P.depth t&&mX b x q&&mX b y r
 | .eqb _ u x y,.binOp o t q r _=>lH (if u then .neq else .eql) o&&(match P.underlying t with|some .bool=>true|_=>false)&&mX b x q&&mX b y r
 | .eqn _ u x,.binOp o t q (.const .nilIface) _=>lH (if u then .neq else .eql) o&&(match P.underlying t with|some (.interface _)=>true|_=>false)&&mX b x q
 | .un _ o x,.unOp N _ q=>decide (o=N)&&mX b x q
 | .conv _ k x,.convert s t y=>(match P.underlying t with|some (.int L)=>decide (k=L)|_=>false)&&(P.underlying s).isSome&&mX b x y
 | .mkfn _ f G,.makeFunc (.func F) first d=>b f==some F&&first.isEmpty&&mXs b G d.toList
 | .mkbf _ f E,.makeFunc (.func F) first d=>b f==some F&&d.isEmpty&&mXs b E first.toList
 | .clearK x,.call {callee:= .builtin .clear,args,argTypes }=>(match args.toList,argTypes.toList with
   |[y],[t]=>mX b x y&&(match P.underlying t with
    |some (.slice e)=>(match (P.info? e).bind (·.zero) with|some (.int .i64 n)=>n==0|_=>false)
    |_=>false)
   |_,_=>false)
 | .loadG _ X,.load t (.global g)=>(fW P t==some false)&&(b.gw.any λx=>x.1==g&&decide (x.2.map (λs=>s.data.toList)=X.map (λs=>s.data.toList)))
 | .boxB _ x,.box el y=>b.bT.contains el&&mX b x y
 | .mkbld _,.alloc t=>b.bT.contains t&&nU P t (.agg [.nilp,Oa []])
 | .mkmap _,.makeMap _ none=>true
 | .mksl _ _ z p zero l,.makeSlice t y r=>
  mX b l y&&mX b l r&&decide (0<p)&&(match P.underlying t with
   |some (.slice e)=>(match P.info? e with|some i=>i.size==z&&i.bytes==p&&(match i.zero with|some v=>cOk zero v&&v.cells.size==z|none=>false)|none=>false)
   |_=>false)
 | .slice _ z x D Q,.slice t y A B none=>mB P t z&&mX b x y&&mXo b D A&&mXo b Q B
 | .sliceS _ x D Q,.slice t y A B none=>(match P.underlying t with|some .string=>true|_=>false)&&mX b x y&&mXo b D A&&mXo b Q B
 | .faddr _ x w,.fieldAddr t y C=>mX b x y&&(match P.underlying t with
   |some (.struct E)=>(match E[C]? with|some f=>f.offset==w&&(match eP P f.type with|some n=>n !=0|none=>false)|none=>false)
   |_=>false)
 | .field _ agg k w x,.field t y C=>mX b x y&&(match P.underlying t with
   |some (.struct E)=>(match E[C]? with|some f=>f.offset==w&&fW P f.type==some agg&&eP P f.type==some k|none=>false)
   |_=>false)
 | .iaddr _ z none x i,.indexAddr t y j=>mB P t z&&mX b x y&&mX b i j
 | .iaddr _ z (some m) x i,.indexAddr t y j=>mX b x y&&mX b i j&&(match P.underlying t with|some (.array H e)=>m==H&&eP P e==some z|_=>false)
 | .index _ z R agg x i,.index t y j=>mX b x y&&mX b i j&&(match P.underlying t with|some (.array m e)=>m==R&&eP P e==some z&&fW P e==some agg|_=>false)
 | .indexS _ x i,.index t y j=>mX b x y&&mX b i j&&(match P.underlying t with|some .string=>true|_=>false)
 | .lookup _ I m k ok zero,.lookup t y j M=>mX b m y&&mX b k j&&ok==M&&(match P.underlying t with|some (.map O et)=>kN P O I&&nU P et zero|_=>false)
 | .mupd I m k x,.mapUpdate t H L q| .mupd I m k x,.insert t H L q=>mX b m H&&mX b k L&&mX b x q&&(match P.underlying t with|some (.map O _)=>kN P O I|_=>false)
 | .len _ kd x,.call {callee:= .builtin .len,args,argTypes }=>(match args.toList,argTypes[0]? with
   |[y],some t=>mX b x y&&(match kd,P.underlying t with
    |0,some (.slice _)=>true
    |1,some .string=>true
    |2,some (.map _ _)=>true
    |_,_=>false)
   |_,_=>false)
 | .append _ z p s x,.call {callee:= .builtin .append,args,argTypes }=>(match args.toList,argTypes.toList with
   |[y,r],[t,U]=>mX b s y&&mX b x r&&t==U&&decide (0<z)&&decide (0<p)&&(match P.underlying t with
    |some (.slice e)=>(match P.info? e with|some i=>i.size==z&&i.bytes==p&&(match i.zero with|some v=>v.cells.size==z|none=>false)|none=>false)
    |_=>false)
   |_,_=>false)
 | .maxi _ T,.call {callee:= .builtin .max,args,.. }=>mXs b T args.toList
 | .extract _ x i,.extract y j=>mX b x y&&i==j
 |_,_=>false
end
section
open Go.RowKit
variable {o:Oper} {d k:Nat} {x y:IX}
section
variable {fi:FI} {M M':Mem} {w w':World} {P:Program} {s s':St} {a:Act} {cf:CallF}
structure dv (P:Program) (fi:FI) (M:Mem) (w:World) (s:St) (a:Act) (o:Oper) (i:IOp):Prop where
 inv:Inv fi M w s a
 m:mOp P fi i o.op=true
 dst:o.dst=bq i
 lt:∀d,bq i=some d->d<a.tmps.size
theorem D7 (A:dv P fi M w s a o (.mv d x)) (h:ae cf s (.mv d x)=some s'):Sim P fi o M w s' a:=by
 obtain⟨k,op,m,j,l,g⟩:=o;obtain⟨c,e,i,b⟩:=A;simp only[ae,aE] at h;obtain⟨p,f,rfl⟩:=h;cases op<;>simp[mOp] at e
 ·exact Sim.pure c i (b d rfl) (by simp[execOp]) (wA c e f _)
 ·exact Sim.pure c i (b d rfl) (by simp[execOp]) (wA c e f _)
theorem D8 {n:Nat} (A:dv P fi M w s a o (.tk d n)) (h:ae cf s (.tk d n)=some s'):Sim P fi o M w s' a:=by
 obtain⟨f,op,E,r,D,g⟩:=o;obtain⟨C,b,q,i⟩:=A;simp only[ae,aE] at h;obtain⟨v,B,rfl⟩:=h;have c:∀y,mX fi (.t n) y=true->∃M',Inv fi M' w ⟨put (put s.env n (degr v)) d v,s.lh,s.gh⟩ (a.put (some d) (a.eval y))/\Kp M w M' w:=by intro y z;obtain⟨F,k,x,hr,_⟩:=pW C z (v:=v) (e:=put s.env n (degr v)) (by simp[eL,B]);obtain⟨j,u⟩:=k.putLim (i d rfl) hr;exact⟨_,j,x.trans u⟩
 cases op with
 | move y=>
  cases y with
  |tmp m=>
   simp[mOp] at b;obtain⟨M',p,l⟩:=c (.tmp m) (by simp[mX,b]);exact⟨_,a.eval (.tmp m),M',w,by simp[execOp],.inl rfl,by rw[show f=some d from q];exact p,l⟩
  |_=>simp[mOp] at b
 | assign y=>
  cases y with
  |tmp m=>
   simp[mOp] at b;obtain⟨M',p,l⟩:=c (.tmp m) (by simp[mX,b]);exact⟨_,a.eval (.tmp m),M',w,by simp[execOp],.inl rfl,by rw[show f=some d from q];exact p,l⟩
  |_=>simp[mOp] at b
 |_=>simp[mOp] at b
theorem D9 {c:IX} (A:dv P fi M w s a o (.pick d c x y)) (h:ae cf s (.pick d c x y)=some s'):Sim P fi o M w s' a:=by
 obtain⟨n,op,u,m,q,g⟩:=o;obtain⟨e,f,l,i⟩:=A;cases op<;>simp[mOp] at f;rename_i v t r;simp only[ae] at h;split at h
 ·rename_i k
  simp only[aE] at h;obtain⟨p,j,rfl⟩:=h;have b:=(bt e f.1.1 k).bool;exact Sim.pure e l (i d rfl) (by simp[execOp,b,asBool]) (bt e f.1.2 j).repAt
 ·rename_i k
  simp only[aE] at h;obtain⟨p,j,rfl⟩:=h;have b:=(bt e f.1.1 k).bool;exact Sim.pure e l (i d rfl) (by simp[execOp,b,asBool]) (bt e f.2 j).repAt
 ·cases h
theorem Ea {g tk:Bool} (A:dv P fi M w s a o (.box d g tk x)) (h:ae cf s (.box d g tk x)=some s'):Sim P fi o M w s' a:=by
 obtain⟨j,op,D,l,B,G⟩:=o;obtain⟨z,r,F,t⟩:=A;cases op<;>simp[mOp] at r;rename_i C y;have i:∀(f:Mem) (k:St) (p:PV),Inv fi f w k a->Kp M w f w->RepAt fi f w Loc.lim p (a.eval y)->az p=true->Sim P fi ⟨j,.box C y,D,l,B,G⟩ M w (kG k d g p.cells) a:=by
  intro f k p c m hr b;obtain⟨H,u,E,q⟩:=c.newBox g hr b C;refine⟨_,.pointer (some ⟨w.heap.size,0,none⟩),H,_,?_,.inl rfl,?_,m.trans E⟩
  ·simp[execOp,Instr.box,newVar,newRow]
  ·rw[show j=some d from F]
   exact u.put (t d rfl) q.repAt
 simp only[ae] at h;split at h
 ·simp only[aC] at h
  obtain⟨⟨v,e⟩,n,h⟩:=h;split at h
  ·rename_i b
   cases h;obtain⟨f,c,m,hr,_⟩:=pW z r n;exact i f _ v c m hr b
  ·cases h
 ·simp only[aC] at h
  obtain⟨v,n,h⟩:=h;split at h
  ·rename_i b
   cases h;exact i M s v z (Kp.refl M w) (bt z r n).repAt b
  ·cases h
theorem Eb {g:Bool} {z:PV} (A:dv P fi M w s a o (.alloc d g z)) (h:ae cf s (.alloc d g z)=some s'):Sim P fi o M w s' a:=by
 obtain⟨m,op,y,p,u,B⟩:=o;obtain⟨t,b,r,k⟩:=A;cases op<;>simp[mOp] at b;rename_i n;simp only[ae] at h;split at h
 ·rename_i j
  cases h;unfold nU at b;cases c:P.info? n with
  |none=>simp[c] at b
  | some i=>
   cases e:i.zero with
   |none=>simp[c,e] at b
   | some x=>
    simp[c,e] at b;obtain⟨v,l,q,f⟩:=t.newBox g (lE b Loc.lim) j n;refine⟨_,.pointer (some ⟨w.heap.size,0,none⟩),v,_,?_,.inl rfl,?_,q⟩
    ·simp[execOp,Instr.alloc,zeroValue,typeInfo,c,e,newVar,newRow]
    ·rw[show m=some d from r]
     exact l.put (k d rfl) f.repAt
 ·cases h
theorem Ec {b j i:Nat} {p:PV} {v:Value} {t:TypeId} (A:Inv fi M w s a) (ha:fW P t=some false) (x:RepE fi M w (.pstk b j i) v) (d:j6 s.gh b j i=some p) :
  ∃r,(Instr.loadAt t v).run P w= .ok r w/\RepP fi M w p r:=by
 unfold j6 at d;split at d
 ·rename_i g o m
  split at d
  ·rename_i n
   subst n;cases (show RepP fi M w (.pstk b g i) v from x) with
   |pstk _ _ _ F z y B=>
    obtain⟨O,E,N,L,I,cs,T,D,H,G,C⟩:RepStk fi M w b M.gb[b] g o:=A.gh b _ _ m (aA z);have h:=B E.symm;subst h;obtain⟨u,q,hr⟩:=C i p d;obtain⟨f,l⟩:=Array.getElem?_eq_some_iff.1 q;have c:=pX (P:=P) (t:=t) (agg:=false) (k:=1) (off:=i) (vs:=cs.toList) (T:=T) ha NX (by simpa using D) (by simpa using f);simp only[bR,if_false] at c;refine⟨u,?_,hr⟩;have e:cs.toList.getD i undef=u:=by simp[List.getD,f,l]
    rw[e] at c;simpa [Instr.loadAt,Instr.sureAddr] using c
  ·cases d
 ·cases d
theorem sim_load {agg:Bool} (A:dv P fi M w s a o (.load d agg k x)) (h:ae cf s (.load d agg k x)=some s'):Sim P fi o M w s' a:=by
 obtain⟨B,op,D,u,C,E⟩:=o;obtain⟨i,c,q,f⟩:=A;cases op<;>simp[mOp] at c;rename_i t y;simp only[ae] at h;split at h
 ·rename_i g b j l
  simp only[aC,aE] at h;obtain⟨cs,z,v,m,rfl⟩:=h;obtain⟨r,p,n⟩:=DL (P:=P) i c.1.2 (λ_=>c.2) (bt i c.1.1 l) z m;exact Sim.pure i q (f d rfl) (by simp[execOp,p]) n.repE.repAt
 ·rename_i e j l
  simp only[aE] at h;obtain⟨v,m,rfl⟩:=h;obtain⟨r,p,n⟩:=DM (P:=P) c.1.2 (λ_=>c.2) (bt i c.1.1 l) m;exact Sim.pure i q (f d rfl) (by simp[execOp,p]) n.repE.repAt
 ·cases h
theorem wR:∀{l m:List ByteArray},l.map (λs=>s.data.toList)=m.map (λs=>s.data.toList)->l=m
 |[],[],_=>rfl
 |[],_::_,h=>by simp at h
 |_::_,[],h=>by simp at h
 |a::l,b::m,h=>by simp only[bS,List.cons.injEq] at h;obtain⟨⟨x⟩⟩:=a;obtain⟨⟨y⟩⟩:=b;simp only at h;rw[h.1,wR h.2]
theorem Ed {z:List ByteArray} (A:dv P fi M w s a o (.loadG d z)) (h:ae cf s (.loadG d z)=some s'):Sim P fi o M w s' a:=by
 obtain⟨Q,op,S,D,R,T⟩:=o;obtain⟨u,n,G,q⟩:=A;cases op<;>simp[mOp] at n;rename_i t y;cases y<;>simp at n;rename_i g;obtain⟨r,C,l,F,rfl,E⟩:=n;obtain rfl:=wR E;obtain⟨b,o,c,L,I,H⟩:=fi.gwok _ F;simp only[ae,bW] at h;subst h;have O:=(u.gl _ L).2;have B:(l.map PV.str).length=l.length:=aW _;refine Sim.pure u G (q d rfl) (v:= .slice (some ⟨b,o,none⟩) l.length c) ?_ (RepP.repE ?_).repAt
 ·have N:a.eval (.global C)= .pointer (some ⟨C,0,none⟩):=rfl
  simp only[execOp,N];simp[Instr.loadAt,Instr.sureAddr,loadVar,kL r,load,Sem.run,O]
 ·rw[<-B]
  refine .sl 1 _ _ c b o (λi=>((l.map Value.string)[i]?).getD undef) (.inr rfl) (by rw[B];exact I) ?_ ?_ ?_ ?_
  ·intro e f;obtain⟨x,_,rfl⟩:=List.mem_map.1 f;rfl
  ·intro e f;obtain⟨x,_,rfl⟩:=List.mem_map.1 f;rfl
  ·intro i e j p f k
   rw[aB,aE] at f;obtain⟨x,m,rfl⟩:=f;obtain rfl:j=0:=by
    match j,k with
    |0,_=>rfl
    |j+1,k=>cases k
   have:=u.gl _ (H i x m);simp only[Nat.mul_one,cG,aB,m];exact this
  ·intro i e j p f k
   rw[aB,aE] at f;obtain⟨x,m,rfl⟩:=f;obtain rfl:j=0:=by
    match j,k with
    |0,_=>rfl
    |j+1,k=>cases k
   cases k;simp only[Nat.mul_one,cG,aB,m];exact .str _
theorem sI (A:dv P fi M w s a o (.loadT d x)) (h:ae cf s (.loadT d x)=some s'):Sim P fi o M w s' a:=by
 obtain⟨f,op,C,j,B,D⟩:=o;obtain⟨i,c,p,e⟩:=A;cases op<;>simp[mOp] at c;rename_i t y;simp only[ae] at h;split at h
 ·rename_i g b k m
  simp only[aC,aE] at h;obtain⟨cs,q,v,n,rfl⟩:=h;obtain⟨r,M',z,u,l⟩:=DO (P:=P) i c.2 (bt i c.1 m) q n (e d rfl);exact⟨_,r,M',w,by simp[execOp,z],.inl rfl,by rw[show f=some d from p];exact u,l⟩
 ·cases h
theorem Ee {tk:Bool} (A:dv P fi M w s a o (.store tk k y x)) (h:ae cf s (.store tk k y x)=some s'):Sim P fi o M w s' a:=by
 obtain⟨r,op,U,C,R,gd⟩:=o;obtain⟨B,n,hd,ad⟩:=A;cases op<;>simp[mOp] at n;rename_i t z S
 have m:∀(i:Mem) (e:Oo) (g:Bool) (b c:Nat) (cs:Ok) (p:PV),Inv fi i w ⟨e,s.lh,s.gh⟩ a->Kp M w i w->RepE fi i w (.ptr g b c) (a.eval z)->RepAt fi i w Loc.lim p (a.eval S)->
   St.cellsAt ⟨e,s.lh,s.gh⟩ g b=some cs->p.cells.length=k->c+k<=cs.length->az p=true->Sim P fi ⟨r,.store t z S,U,C,R,gd⟩ M w (St.setCells ⟨e,s.lh,s.gh⟩ g b (au cs c p.cells)) a:=by
  intro i e g b c cs p j D G hr q f I H;obtain⟨M',w',Q,O,X⟩:=DN (P:=P) j n.2 G q hr f I H;refine⟨_,undef,M',w',?_,.inr ⟨rfl,rfl⟩,?_,D.trans X⟩
  ·simp[execOp,Q]
  ·rw[show r=none from hd];exact O
 simp only[ae] at h;split at h
 ·rename_i g b c G
  have d:=bt B n.1.1 G;split at h
  ·simp only[aC] at h
   obtain⟨⟨v,e⟩,E,cs,q,h⟩:=h;split at h
   ·rename_i f
    cases h;obtain⟨i,j,D,hr,L,N,T⟩:=pW B n.1.2 E;have F:RepE fi i w (.ptr g b c) (a.eval z):=by
     cases g with
     |true=>
      generalize hu:a.eval z=u at d ⊢;cases (show RepP fi M w (Oe b c) u from d) with
      |ptr _ _ l hb=>exact RepP.repE (.ptr _ _ l (by rw[N];exact hb))
     |false=>obtain⟨l,Q,O⟩:=d;exact⟨l,by rw[L];exact Q,O⟩
    exact m i e g b c cs v j D F hr q f.1 f.2.1 f.2.2
   ·cases h
  ·simp only[aC] at h
   obtain⟨v,E,cs,q,h⟩:=h;split at h
   ·rename_i f
    cases h;exact m M s.env g b c cs v B (Kp.refl M w) d (bt B n.1.2 E).repAt q f.1 f.2.1 f.2.2
   ·cases h
 ·cases h
theorem Ef (A:dv P fi M w s a o (.nilc d x)) (h:ae cf s (.nilc d x)=some s'):Sim P fi o M w s' a:=by
 obtain⟨D,op,G,B,E,L⟩:=o;obtain⟨k,p,r,j⟩:=A;cases op<;>simp[mOp] at p;rename_i y;simp only[ae] at h;split at h
 ·rename_i g b l m
  cases h;have c:=bt k p m;have i:∃q,a.eval y= .pointer (some q):=by
   cases g with
   |true=>
    generalize t:a.eval y=u at c;cases (show RepP fi M w (Oe b l) u from c) with
    |ptr _ _ z H=>exact⟨_,rfl⟩
   |false=>obtain⟨z,I,C⟩:=c;exact⟨_,C⟩
  obtain⟨q,i⟩:=i;exact Sim.pure k r (j d rfl) (v:=a.eval y) (by simp[execOp,i]) c.repAt
 ·rename_i e l m
  cases h;have c:=bt k p m;have i:∃q,a.eval y= .pointer (some q):=by generalize t:a.eval y=u at c;cases (show RepP fi M w (.ep e l) u from c);exact⟨_,rfl⟩
  obtain⟨q,i⟩:=i;exact Sim.pure k r (j d rfl) (v:=a.eval y) (by simp[execOp,i]) c.repAt
 ·rename_i f cs m
  cases h;have c:=bt k p m;have i:∃F n,a.eval y= .func (.func F) #[] n:=by generalize t:a.eval y=u at c;cases (show RepP fi M w (.fn f cs) u from c);exact⟨_,_,rfl⟩
  obtain⟨F,n,i⟩:=i;exact Sim.pure k r (j d rfl) (v:=a.eval y) (by simp[execOp,i]) c.repAt
 ·rename_i f cs m
  cases h;have c:=bt k p m;have i:∃F n,a.eval y= .func (.func F) n #[]:=by generalize t:a.eval y=u at c;cases (show RepP fi M w (.bfn f cs) u from c);exact⟨_,_,rfl⟩
  obtain⟨F,n,i⟩:=i;exact Sim.pure k r (j d rfl) (v:=a.eval y) (by simp[execOp,i]) c.repAt
 ·cases h
theorem Eg {b:BinOp} (A:dv P fi M w s a o (.bin d b x y)) (h:ae cf s (.bin d b x y)=some s'):Sim P fi o M w s' a:=by obtain⟨C,op,E,j,D,H⟩:=o;obtain⟨e,f,u,c⟩:=A;cases op<;>simp[mOp,lH] at f;rename_i I t i g F;obtain⟨⟨rfl,l⟩,k⟩:=f;simp only[ae,aC,aE] at h;obtain⟨p,n,q,m,r,hr,rfl⟩:=h;obtain⟨G,B,z,v⟩:=pU (P:=P) (t:=t) (x:=i) (y:=g) hr (bt e l n) (bt e k m);exact Sim.pure e u (c d rfl) (by simp[execOp,B,z]) v.repE.repAt
theorem Eh {c:Bool} {n:On} (A:dv P fi M w s a o (.eqa d c n x y)) (h:ae cf s (.eqa d c n x y)=some s'):Sim P fi o M w s' a:=by
 obtain⟨L,op,R,z,N,T⟩:=o;obtain⟨m,p,H,l⟩:=A;cases op<;>simp[mOp,lH] at p;rename_i X t Q O S;obtain⟨⟨⟨⟨rfl,G⟩,F⟩,C⟩,B⟩:=p;simp only[ae] at h;split at h
 ·rename_i cs U E D
  simp only[aE] at h;obtain⟨r,hr,rfl⟩:=h;obtain⟨q,g,f,e⟩:=(bt m C E).agg;obtain⟨u,k,j,i⟩:=(bt m B D).agg;have I:(Op.equal t (.agg q.toArray) (.agg u.toArray)).run P w= .ok r w:=wJ (P:=P) (fi:=fi) (M:=M) (w:=w) G hr f j e i 9998 w;refine Sim.pure m H (l d rfl) (v:= .bool (if c then !r else r)) ?_ (RepP.repE (.bool _)).repAt;cases c<;>simp[execOp,g,k,eqGuard,F,binOp,I]
 ·cases h
end
end
section
open Go.RowKit
variable {o:Oper} {d f z off:Nat} {x:IX} {caps:List IX} {v:Value} {lo hi:Option IX}
section
variable {fi:FI} {M M':Mem} {w w':World} {P:Program} {s s':St} {a:Act} {cf:CallF}
theorem Ei {e:Bool} (A:dv P fi M w s a o (.eqn d e x)) (h:ae cf s (.eqn d e x)=some s'):Sim P fi o M w s' a:=by
 obtain⟨F,op,I,E,G,N⟩:=o;obtain⟨j,g,C,i⟩:=A;cases op with
 | binOp O t H D L=>
  cases D with
  | const c=>
   cases c with
   | nilIface=>
    simp[mOp,lH] at g;obtain⟨⟨rfl,B⟩,z⟩:=g;obtain⟨r,f⟩:∃r,P.underlying t=some (.interface r):=by
     split at B
     ·exact⟨_,by assumption⟩
     ·cases B
    simp only[ae] at h;split at h
    ·rename_i k
     cases h;have m:=(bt j z k).nilI;have p:∀d,(Op.equalIn (d+1) t .nilIface .nilIface).run P w= .ok true w:=λd=>by simp[Op.equalIn,run_underlying f]
     have n:(Op.equal t .nilIface .nilIface).run P w= .ok true w:=p 9999;refine Sim.pure j C (i d rfl) (v:= .bool (!e)) ?_ (RepP.repE (.bool _)).repAt;have l:a.eval (.const .nilIface)= .nilIface:=rfl;cases e<;>simp[execOp,m,l,eqGuard,binOp,n]
    ·rename_i k
     cases h;obtain⟨q,u,m⟩:=(bt j z k).someI;have p:∀d,(Op.equalIn (d+1) t (.iface q u) .nilIface).run P w= .ok false w:=λd=>by simp[Op.equalIn,run_underlying f]
     have n:(Op.equal t (.iface q u) .nilIface).run P w= .ok false w:=p 9999;refine Sim.pure j C (i d rfl) (v:= .bool e) ?_ (RepP.repE (.bool _)).repAt;have l:a.eval (.const .nilIface)= .nilIface:=rfl;cases e<;>simp[execOp,m,l,eqGuard,binOp,n]
    ·cases h
   |_=>simp[mOp] at g
  |_=>simp[mOp] at g
 |_=>simp[mOp] at g
theorem Ej {u:UnOp} (A:dv P fi M w s a o (.un d u x)) (h:ae cf s (.un d u x)=some s'):Sim P fi o M w s' a:=by obtain⟨m,op,q,f,n,v⟩:=o;obtain⟨e,c,j,b⟩:=A;cases op<;>simp[mOp] at c;obtain⟨rfl,g⟩:=c;simp only[ae,aC,aE] at h;obtain⟨p,i,r,hr,rfl⟩:=h;obtain⟨t,l,k⟩:=DE (P:=P) hr (bt e g i);exact Sim.pure e j (b d rfl) (by simp[execOp,l]) k.repE.repAt
theorem Ek {k:IntKind} (A:dv P fi M w s a o (.conv d k x)) (h:ae cf s (.conv d k x)=some s'):Sim P fi o M w s' a:=by
 obtain⟨B,op,D,l,C,F⟩:=o;obtain⟨i,g,u,f⟩:=A;cases op<;>simp[mOp] at g;rename_i j t y;obtain⟨⟨b,p⟩,m⟩:=g;have c:P.underlying t=some (.int k):=by
  split at b
  ·rename_i r;simp at b;subst b;exact r
  ·cases b
 obtain⟨G,e⟩:=Option.isSome_iff_exists.1 p;simp only[ae] at h;split at h
 ·rename_i E n q
  cases h;have z:=(bt i m q).int;exact Sim.pure i u (f d rfl) (v:= .int k (k.wrap n)) (by simp[execOp,z,convert,run_underlying c,run_underlying e,Conv.intToInt]) (RepP.repE (.int _ _)).repAt
 ·cases h
theorem El (A:dv P fi M w s a o (.mkfn d f caps)) (h:ae cf s (.mkfn d f caps)=some s'):Sim P fi o M w s' a:=by
 obtain⟨G,op,I,r,H,L⟩:=o;obtain⟨p,l,z,m⟩:=A;cases op with
 | makeFunc E first b=>
  cases E with
  | func F=>
   simp[mOp] at l;obtain⟨⟨x,n⟩,B⟩:=l;subst n;simp only[ae,aC] at h;obtain⟨q,u,h⟩:=h;split at h
   ·rename_i e
    cases h;obtain⟨D,C⟩:=i8 p B u;refine Sim.pure p z (m d rfl) (v:= .func (.func F) #[] (b.toList.map a.eval).toArray) ?_ (RepP.repE (.fn f F q _ x (by simpa using D) e λi c v j g=>?_)).repAt
    ·have k:Array.map a.eval b=(List.map a.eval b.toList).toArray:=by apply Array.ext';simp
     simp[execOp,Instr.makeFunc,k]
    ·simp only[aB,aE] at g
     obtain⟨y,t,rfl⟩:=g;refine (C i c y j t).repP ?_;simp only[bV] at e;exact e c (aL j)
   ·cases h
  |_=>simp[mOp] at l
 |_=>simp[mOp] at l
theorem Em (A:dv P fi M w s a o (.mkbf d f caps)) (h:ae cf s (.mkbf d f caps)=some s'):Sim P fi o M w s' a:=by
 obtain⟨G,op,I,r,H,L⟩:=o;obtain⟨p,l,z,m⟩:=A;cases op with
 | makeFunc E first e=>
  cases E with
  | func F=>
   simp[mOp] at l;obtain⟨⟨x,n⟩,B⟩:=l;subst n;simp only[ae,aC] at h;obtain⟨q,u,h⟩:=h;split at h
   ·rename_i b
    cases h;obtain⟨D,C⟩:=i8 p B u;refine Sim.pure p z (m d rfl) (v:= .func (.func F) (first.toList.map a.eval).toArray #[]) ?_ (RepP.repE (.bfn f F q _ x (by simpa using D) b λi c v j g=>?_)).repAt
    ·have k:Array.map a.eval first=(List.map a.eval first.toList).toArray:=by apply Array.ext';simp
     simp[execOp,Instr.makeFunc,k]
    ·simp only[aB,aE] at g
     obtain⟨y,t,rfl⟩:=g;refine (C i c y j t).repP ?_;simp only[bV] at b;exact b c (aL j)
   ·cases h
  |_=>simp[mOp] at l
 |_=>simp[mOp] at l
theorem En (A:dv P fi M w s a o (.mkmap d)) (h:ae cf s (.mkmap d)=some s'):Sim P fi o M w s' a:=by
 obtain⟨c,op,m,f,l,n⟩:=o;obtain⟨i,e,g,b⟩:=A;cases op with
 | makeMap t r=>
  cases r with
  |none=>
   simp only[ae,bW] at h;subst h;obtain⟨M',k,j⟩:=D3 i (b d rfl);refine⟨_,.map (some w.heap.size),M',_,?_,.inl rfl,by rw[show c=some d from g];exact k,j⟩;simp[execOp,Instr.makeMap]
  |some=>simp[mOp] at e
 |_=>simp[mOp] at e
theorem Eo (h:RepP fi M w (.agg [.nilp,.nils]) v):v= .agg #[.pointer none,.slice none 0 0]:=by
 cases h with
 | agg _ c d h=>
  match c,d,h with
  |[a,b],_,h=>
   have f:=h 0 _ _ rfl rfl;have e:=h 1 _ _ rfl rfl;cases f;cases e;rfl
theorem Ep (A:dv P fi M w s a o (.boxB d x)) (h:ae cf s (.boxB d x)=some s'):Sim P fi o M w s' a:=by
 obtain⟨f,op,q,i,p,r⟩:=o;obtain⟨g,b,k,c⟩:=A;cases op<;>simp[mOp] at b;rename_i t y;obtain⟨l,b⟩:=b;simp only[ae] at h;split at h
 ·rename_i j
  simp only[bW] at h;subst h;have e:=Eo (bt g b j);obtain⟨M',n,m⟩:=D4 g (c d rfl) l;refine⟨_,.pointer (some ⟨w.heap.size,0,none⟩),M',_,?_,.inl rfl,by rw[show f=some d from k];exact n,m⟩;simp[execOp,Instr.box,newVar,newRow,e];rfl
 ·cases h
theorem qC {t:TypeId} (h:mB P t z=true):∃e,P.underlying t=some (.slice e)/\eP P e=some z:=by
 unfold mB at h;split at h
 ·rename_i e a;exact⟨e,a,by simpa using h⟩
 ·cases h
theorem iF {hI:Inv fi M w s a} {x:Option IX} {y:Option Operand} (b:mXo fi x y=true) {n l:Nat} (h:eF s.env n x=some l):SB (y.map a.eval) n l:=by
 cases x with
 |none=>
  cases y with
  |none=>simp[eF] at h;subst h;exact .inl ⟨rfl,rfl⟩
  |some=>simp[mXo] at b
 | some x=>
  cases y with
  |none=>simp[mXo] at b
  | some y=>
   simp only[eF] at h;split at h
   ·rename_i k i c
    split at h
    ·rename_i d
     cases h;refine .inr ⟨k,?_⟩;have:=(bt hI (by simpa [mXo] using b) c).int;simp[this];omega
    ·cases h
   ·cases h
theorem Er (A:dv P fi M w s a o (.slice d z x lo hi)) (h:ae cf s (.slice d z x lo hi)=some s'):Sim P fi o M w s' a:=by
 obtain⟨aA,op,ty,an,aB,gd⟩:=o;obtain⟨hI,hm,U,C⟩:=A;cases op with
 | slice t y ao av mx=>
  cases mx with
  |some=>simp[mOp] at hm
  | none=>
   simp[mOp] at hm;obtain⟨⟨⟨he,Q⟩,D⟩,E⟩:=hm;obtain⟨e,R,O⟩:=qC he;simp only[ae] at h;split at h
   ·rename_i ow z' xs H
    simp only[aC] at h;obtain⟨m,k,l,r,h⟩:=h;split at h
    ·rename_i j
     obtain⟨I,F,rfl⟩:=j;cases h;have i:=bt hI Q H;obtain⟨A,c,N,X⟩:=i.slC;rw[N] at i;refine Sim.pure hI U (C d rfl) ?_ (wE i I F X).repE.repAt;have:=mr (P:=P) R O (iF (hI:=hI) D r) (iF (hI:=hI) E k) I (cA F X) (A:=A) w;simp[execOp,N,this]
    ·cases h
   ·rename_i g b off n z' H
    simp only[aC] at h;obtain⟨m,k,l,r,h⟩:=h;split at h
    ·rename_i j
     obtain⟨I,F,rfl⟩:=j;cases h;have i:=bt hI Q H;have ad:∀(A:Option Addr) (c:Nat),a.eval y= .slice A n c->n<=c->RepE fi M w (.bs g b (off+l*z) (m-l) z) (.slice (if c=l then A else A.map (·.add (l*z))) (m-l) (c-l))->Sim P fi ⟨aA,.slice t y ao av none,ty,an,aB,gd⟩ M w (s.put d (.bs g b (off+l*z) (m-l) z)) a:=by intro A c N j hr;refine Sim.pure hI U (C d rfl) ?_ hr.repAt;have:=mr (P:=P) R O (iF (hI:=hI) D r) (iF (hI:=hI) E k) I (cA F j) (A:=A) w;simp[execOp,N,this]
     have al:∀(A:Option Addr) (f c:Nat),n<=c->(n=0\/A=some ⟨f,off,none⟩)->(m-l=0\/(if c=l then A else A.map (·.add (l*z)))=some ⟨f,off+l*z,none⟩):=by
      intro A f c j B;by_cases h0:m-l=0
      ·exact .inl h0
      ·right
       rw[if_neg NW];rcases B with B|rfl
       ·omega
       ·simp[gi]
     cases g with
     |true=>
      generalize L:a.eval y=u at i;cases (show RepP fi M w (.bs true b off n z) u from i) with
      |bs _ _ _ _ A c f G B j=>exact ad A c L j (RepP.repE (.bs b _ _ z _ _ f G (al A f c j B) NW))
     |false=>
      obtain⟨f,A,c,G,N,B,j⟩:=i;exact ad A c N j ⟨f,_,_,G,rfl,al A f c j B,NW⟩
    ·cases h
   ·rename_i b q n H
    split at h
    ·rename_i S
     simp only[aC] at h;obtain⟨m,k,h⟩:=h;split at h
     ·rename_i j
      obtain⟨F,rfl⟩:=j;cases h;have i:=bt hI Q H;generalize L:a.eval y=u at i;have ap:lo=none:=by simpa using S
      subst ap;cases (show RepP fi M w (.stk b q n) u from i) with
      |stk _ _ _ f c G T B j=>
       have:=mr (P:=P) R O (iF (hI:=hI) D (show eF s.env 0 none=some 0 from rfl)) (iF (hI:=hI) E k) (Nat.zero_le _) (cA F j) (A:=some ⟨f,0,none⟩) w;refine Sim.pure hI U (C d rfl) (v:= .slice (some ⟨f,0,none⟩) m c) ?_ (RepP.repE (.stk b q m f c G T B NW)).repAt;have e:(⟨f,0,none⟩:Addr).add (0*1)=⟨f,0,none⟩:=rfl;simp only[cJ,e,ite_self,Nat.sub_zero] at this;simp[execOp,L,this]
     ·cases h
    ·simp only[aC] at h
     obtain⟨m,k,l,r,h⟩:=h;split at h
     ·rename_i j
      obtain⟨I,F,rfl⟩:=j;cases h;have i:=bt hI Q H;generalize L:a.eval y=u at i;cases (show RepP fi M w (.stk b q n) u from i) with
      | stk _ _ _ f c G T B j=>
       have:=mr (P:=P) R O (iF (hI:=hI) D r) (iF (hI:=hI) E k) I (cA F j) (A:=some ⟨f,0,none⟩) w;refine Sim.pure hI U (C d rfl) (p:= .sub b q l (m-l)) (v:= .slice (if c=l then some ⟨f,0,none⟩ else (some ⟨f,0,none⟩:Option Addr).map (·.add (l*1))) (m-l) (c-l)) (by simp[execOp,L,this]) (RepP.repE (.sub b q l (m-l) f (c-l) _ G T (λe=>⟨(B e).1,by have:=(B e).2;omega⟩) NW ?_)).repAt;by_cases h0:m-l=0
       ·exact .inl h0
       ·right
        rw[if_neg NW];simp[gi]
     ·cases h
   ·rename_i b q off n H
    simp only[aC] at h;obtain⟨m,k,l,r,h⟩:=h;split at h
    ·rename_i j
     obtain⟨I,F,rfl⟩:=j;cases h;have i:=bt hI Q H;generalize L:a.eval y=u at i;cases (show RepP fi M w (.sub b q off n) u from i) with
     | sub _ _ _ _ f c A G T B j ax=>
      have:=mr (P:=P) R O (iF (hI:=hI) D r) (iF (hI:=hI) E k) I (cA F j) (A:=A) w;refine Sim.pure hI U (C d rfl) (p:= .sub b q (off+l) (m-l)) (v:= .slice (if c=l then A else A.map (·.add (l*1))) (m-l) (c-l)) (by simp[execOp,L,this]) (RepP.repE (.sub b q (off+l) (m-l) f (c-l) _ G T (λe=>⟨(B e).1,by have:=(B e).2;omega⟩) NW ?_)).repAt;by_cases h0:m-l=0
      ·exact .inl h0
      ·right
       rw[if_neg NW,ax.resolve_left NW];simp[gi]
    ·cases h
   ·cases h
 |_=>simp[mOp] at hm
theorem Es (A:dv P fi M w s a o (.sliceS d x lo hi)) (h:ae cf s (.sliceS d x lo hi)=some s'):Sim P fi o M w s' a:=by
 obtain⟨F,op,H,n,G,I⟩:=o;obtain⟨hI,c,E,e⟩:=A;cases op with
 | slice t y q C p=>
  cases p with
  |some=>simp[mOp] at c
  | none=>
   simp[mOp] at c;obtain⟨⟨⟨k,r⟩,f⟩,i⟩:=c;have z:P.underlying t=some .string:=by
    split at k
    ·assumption
    ·cases k
   simp only[ae] at h;split at h
   ·rename_i b B
    simp only[aC] at h;obtain⟨D,j,l,g,h⟩:=h;split at h
    ·rename_i m
     cases h;have u:=(bt hI r B).str;refine Sim.pure hI E (e d rfl) (v:= .string (b.extract l D)) ?_ (RepP.repE (.str _)).repAt;have:=DJ (P:=P) z (s:=b) (iF (hI:=hI) f g) (iF (hI:=hI) i j) m.1 m.2 w;simp[execOp,u,this]
    ·cases h
   ·cases h
 |_=>simp[mOp] at c
theorem wS {g:Bool} {b:Nat} (h:RepE fi M w (.ptr g b off) v):∃c,v= .pointer (some ⟨c,off,none⟩)/\∀a,RepE fi M w (.ptr g b a) (.pointer (some ⟨c,a,none⟩)):=by
 cases g with
 |true=>
  cases (show RepP fi M w (Oe b off) v from h) with
  |ptr _ _ c d=>exact⟨c,rfl,λa=>RepP.repE (.ptr b a c d)⟩
 |false=>obtain⟨c,f,e⟩:=h;exact⟨c,e,λa=>⟨c,f,rfl⟩⟩
theorem wT {e:PV} (h:RepE fi M w (.ep e off) v):∃c o,v= .pointer (some ⟨c,o+off,none⟩)/\∀a,RepE fi M w (.ep e a) (.pointer (some ⟨c,o+a,none⟩)):=by
 cases (show RepP fi M w (.ep e off) v from h) with
 |ep _ _ b o d g f hr=>exact⟨b,o,rfl,λa=>RepP.repE (.ep e a b o d g f hr)⟩
theorem Et (A:dv P fi M w s a o (.faddr d x off)) (h:ae cf s (.faddr d x off)=some s'):Sim P fi o M w s' a:=by
 obtain⟨F,op,H,D,G,I⟩:=o;obtain⟨l,c,C,j⟩:=A;cases op<;>simp[mOp] at c;rename_i t y E;obtain⟨r,c⟩:=c;split at c
 ·rename_i L u
  split at c
  ·rename_i f B
   simp at c;obtain⟨z,hn⟩:=c;split at hn
   ·rename_i n i
    simp at hn;simp only[ae] at h;split at h
    ·rename_i g b q p
     cases h;obtain⟨k,m,hr⟩:=wS (bt l r p);exact Sim.pure l C (j d rfl) (by simp[execOp,m,wD (P:=P) u B z i hn]) (hr _).repAt
    ·rename_i e q p
     cases h;obtain⟨k,o,m,hr⟩:=wT (bt l r p);refine Sim.pure l C (j d rfl) (v:= .pointer (some ⟨k,o+(q+off),none⟩)) ?_ (hr _).repAt;simp[execOp,m,wD (P:=P) u B z i hn,Nat.add_assoc]
    ·cases h
   ·cases hn
  ·cases c
 ·cases c
theorem Eu {k:Nat} {agg:Bool} (A:dv P fi M w s a o (.field d agg k off x)) (h:ae cf s (.field d agg k off x)=some s'):Sim P fi o M w s' a:=by
 obtain⟨B,op,D,g,C,E⟩:=o;obtain⟨e,b,q,c⟩:=A;cases op<;>simp[mOp] at b;rename_i t y z;obtain⟨i,b⟩:=b;split at b
 ·rename_i F j
  split at b
  ·rename_i f n
   simp at b;simp only[ae] at h;split at h
   ·rename_i cs l
    simp only[aE] at h;obtain⟨p,m,rfl⟩:=h;obtain⟨r,v,u⟩:=DG (P:=P) j n b.1.1 b.1.2 (λ_=>b.2) (bt e i l) m;exact Sim.pure e q (c d rfl) (by simp[execOp,v]) u.repE.repAt
   ·cases h
  ·cases b
 ·cases b
theorem Ev {ad:Option Nat} {i:IX} (A:dv P fi M w s a o (.iaddr d z ad x i)) (h:ae cf s (.iaddr d z ad x i)=some s'):Sim P fi o M w s' a:=by
 obtain⟨ap,op,ty,ao,av,gd⟩:=o;obtain⟨F,L,T,E⟩:=A;cases ad with
 | none=>
  cases op<;>simp[mOp] at L;rename_i t y j;obtain⟨⟨he,q⟩,hi⟩:=L;obtain⟨e,O,N⟩:=qC he;simp only[ae] at h;split at h
  ·rename_i k n hn
   have C:=(bt F hi hn).int;split at h
   ·rename_i ow z' xs G _
    split at h
    ·rename_i D
     obtain⟨R,rfl⟩:=D;simp only[aE] at h;obtain⟨el,al,rfl⟩:=h;obtain⟨r,Q,h2⟩:=DF (P:=P) (k:=k) O N (bt F q G) R al;exact Sim.pure F T (E d rfl) (by simp[execOp,C,Q]) h2.repE.repAt
    ·cases h
   ·rename_i g b off m z' G _
    split at h
    ·rename_i D
     obtain⟨R,Q,rfl⟩:=D;cases h;have l:=bt F q G;cases g with
     | true=>
      generalize hu:a.eval y=u at l;cases (show RepP fi M w (.bs true b off m z) u from l) with
      |bs _ _ _ _ A c f U X D=>
       have H:=X.resolve_left NW;subst H;exact Sim.pure F T (E d rfl) (by simp[execOp,C,hu,pV (P:=P) O N R Q]) (RepP.repE (.ptr b _ f U)).repAt
     |false=>
      obtain⟨f,A,c,U,hv,X,D⟩:=l;have H:=X.resolve_left NW;subst H;exact Sim.pure F T (E d rfl) (p:= Of b (off+n.toNat*z)) (by simp[execOp,C,hv,pV (P:=P) O N R Q]) (RepE.repAt ⟨f,U,rfl⟩)
    ·cases h
   ·rename_i q;cases q
   ·rename_i q;cases q
   ·rename_i b I m G _
    split at h
    ·rename_i D
     obtain⟨R,Q,rfl⟩:=D;cases h;have l:=bt F q G;generalize hu:a.eval y=u at l;cases (show RepP fi M w (.stk b I m) u from l) with
     |stk _ _ _ f c U hg X D=>
      have B:=pV (P:=P) (k:=k) (b:=f) (o:=0) (c:=c) O N R Q w;rw[cV,Nat.mul_one] at B;exact Sim.pure F T (E d rfl) (by simp[execOp,C,hu,B]) (RepP.repE (.pstk b I n.toNat f U hg (λe=>(X e).1))).repAt
    ·cases h
   ·rename_i b I off m G _
    split at h
    ·rename_i D
     obtain⟨R,Q,rfl⟩:=D;cases h;have l:=bt F q G;generalize hu:a.eval y=u at l;cases (show RepP fi M w (.sub b I off m) u from l) with
     |sub _ _ _ _ f c A U hg X D an=>
      have H:=an.resolve_left NW;subst H;have B:=pV (P:=P) (k:=k) (b:=f) (o:=off) (c:=c) O N R Q w;rw[Nat.mul_one] at B;exact Sim.pure F T (E d rfl) (by simp[execOp,C,hu,B]) (RepP.repE (.pstk b I (off+n.toNat) f U hg (λe=>(X e).1))).repAt
    ·cases h
   ·cases h
  ·cases h
 | some m=>
  cases op<;>simp[mOp] at L;rename_i t y j;obtain⟨⟨q,hi⟩,L⟩:=L;split at L
  ·rename_i m' e O
   simp at L;obtain⟨rfl,N⟩:=L;simp only[ae] at h;split at h
   ·rename_i k n hn
    have C:=(bt F hi hn).int;split at h
    ·rename_i q;cases q
    ·rename_i q;cases q
    ·rename_i g b o' m2 G S
     cases S;split at h
     ·rename_i D
      cases h;obtain⟨f,hv,hr⟩:=wS (bt F q G);exact Sim.pure F T (E d rfl) (by simp[execOp,C,hv,wC (P:=P) O N D.1 D.2]) (hr _).repAt
     ·cases h
    ·rename_i e' o' m2 G S
     cases S;split at h
     ·rename_i D
      cases h;obtain⟨f,o,hv,hr⟩:=wT (bt F q G);refine Sim.pure F T (E d rfl) (v:= .pointer (some ⟨f,o+(o'+n.toNat*z),none⟩)) ?_ (hr _).repAt;simp[execOp,C,hv,wC (P:=P) O N D.1 D.2,Nat.add_assoc]
     ·cases h
    ·rename_i q;cases q
    ·rename_i q;cases q
    ·cases h
   ·cases h
  ·cases L
end
end
end Go.Lw