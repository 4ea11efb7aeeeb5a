/-
  The texts that the proof stands on, part 5.
-/
import Derived.Test.YtmodipglnngghadGreatDoorRestModelsD
set_option linter.unusedVariables false
set_option linter.unusedSimpArgs false
set_option linter.unnecessarySimpa false

set_option maxRecDepth 100000
set_option maxHeartbeats 4000000
namespace Go.Lw
open Go
section
variable {p:PV} {v:Value} {s:St} {a:Act} {x:IX} {o:Operand}
def kK:PV->Value->Bool
 | .int k n,.int c m=>decide (k=c)&&decide (n=m)
 | .bool a,.bool b=>a==b
 | .str s,.string t=>decide (s.data.toList=t.data.toList)
 | .sl true _ [],.slice none 0 0=>true
 | .nilp,.pointer none=>true
 | .nilm,.map none=>true
 | .nilf,.nilFunc=>true
 | .nils,.slice none 0 0=>true
 | .nilI,.nilIface=>true
 |_,_=>false
def lD:fw->gA->Bool
 |[],[]=>true
 |c::l,v::m=>kK c v&&lD l m
 |_,_=>false
def cOk:PV->Value->Bool
 | .agg b,.agg a=>lD b a.toList
 |p,v=>kK p v
def mX (b:FI):IX->Operand->Bool
 | .t n,.tmp m=>n==m
 | .c p,.const v=>cOk p v
 | .f a,.func F=>b a==some F
 |_,_=>false
def mXs (a:FI):List IX->List Operand->Bool
 |[],[]=>true
 |x::l,o::m=>mX a x o&&mXs a l m
 |_,_=>false
section
variable {fi:FI} {M M':Mem} {w w':World} {P:Program}
theorem wy (l:Loc) (z:Nat):OwnRep fi M w l z [] (.slice none 0 0):=
 ⟨.sl z [] none 0 0 0 (λ_=>undef) (.inl rfl) bh bh bh bh bh,.inl rfl⟩
theorem sC (h:kK p v=true) (l:Loc):RepC fi M w l p v:=by
 unfold kK at h;split at h<;>try (simp at h)
 ·obtain⟨rfl,rfl⟩:=h;exact .int _ _
 ·subst h;exact .bool _
 ·rename_i s t
  have:s=t:=by cases s;cases t;simp at h;rw[h]
  subst this;exact .str _
 ·exact wy l _
 ·exact .nilp
 ·exact .nilm
 ·exact .nilf
 ·exact .nils
 ·exact .nilI
theorem sD {b:fw} {a:gA} (h:lD b a=true):a.length=b.length/\∀(i:Nat) (c:PV) (u:Value),b[i]?=some c->a[i]?=some u->kK c u=true:=by
 induction b generalizing a with
 |nil=>cases a with
  |nil=>simp
  |cons=>simp[lD] at h
 | cons c l f=>cases a with
  |nil=>simp[lD] at h
  |cons v m=>
   simp only[lD,aS] at h;obtain⟨j,g⟩:=f h.2;refine⟨by simp[j],λi k u e d=>?_⟩;cases i with
   |zero=>simp at e d;subst e;subst d;exact h.1
   |succ i=>exact g i k u (by simpa using e) (by simpa using d)
theorem lE (h:cOk p v=true) (mk:Nat->Loc):RepAt fi M w mk p v:=by
 unfold cOk at h;split at h
 ·rename_i g a
  obtain⟨f,e⟩:=sD h;exact⟨a.toList,bh,f,λi c u d b=>sC (e i c u d b) _⟩
 ·have:=sC (fi:=fi) (M:=M) (w:=w) h (mk 0)
  unfold kK at h;split at h<;>first|exact this|simp at h
theorem wz (h:cOk p v=true):RepP fi M w (degr p) v:=by
 have j:=(lE (fi:=fi) (M:=M) (w:=w) h (Loc.env 0)).degr;refine j.repP ?_;unfold cOk at h;split at h
 ·rename_i l a
  obtain⟨k,g⟩:=sD h;simp only[degr,PV.cells,bV,List.mem_map];rintro x ⟨c,f,rfl⟩;obtain⟨i,e,b⟩:=cP.1 f;have d:a.toList[i]?=some (a.toList[i]' aj):=aA aj;have:=g i c _ (by rw[aA e,b]) d;unfold kK at this;split at this<;>first|rfl|simp at this
 ·unfold kK at h
  split at h<;>first|rfl|simp at h
theorem dl (e:fT) (d t:Nat) (v:PV):get (put e d v) t=if d=t then some v else get e t:=by
 induction e with
 |nil=>simp[put,get]
 | cons x l c=>
  obtain⟨a,u⟩:=x;simp only[put];by_cases h:a=d
  ·subst h;simp[get]
   by_cases b:a=t<;>simp[b]
  ·simp only[h,if_false,get,c]
   by_cases b:a=t
   ·subst b;simp;intro f;exact absurd f.symm h
   ·simp[b]
theorem bt (d:Inv fi M w s a) (b:mX fi x o=true) (h:ai s.env x=some p):RepE fi M w p (a.eval o):=by
 unfold mX at b;split at b
 ·simp at b;subst b
  simp only[ai,aE] at h;obtain⟨v,c,rfl⟩:=h;exact (d.env _ _ c).2.degr
 ·simp only[ai,bW] at h
  subst h;exact (wz b).repE
 ·simp only[ai,bW] at h
  subst h;exact RepP.repE (.fn _ _ [] [] (by simpa using b) rfl rfl bh)
 ·cases b
theorem wA (d:Inv fi M w s a) (b:mX fi x o=true) (h:gG s.env x=some p) (mk:Nat->Loc):RepAt fi M w mk p (a.eval o):=by
 cases x with
 |t n=>exact (bt d b (x:= .t n) h).repAt
 |f e=>exact (bt d b (x:= .f e) h).repAt
 |c v=>
  cases o with
  |const u=>simp only[gG,bW] at h;subst h;exact lE b mk
  |_=>simp[mX] at b
theorem i8 {s:St} {a:Act} (k:Inv fi M w s a):∀{j:List IX} {d:List Operand} {c:fw},mXs fi j d=true->ei s.env j=some c->
  d.length=c.length/\∀(i:Nat) (p:PV) (o:Operand),c[i]?=some p->d[i]?=some o->RepE fi M w p (a.eval o)
 |[],[],c,_,h=>by simp[ei] at h;subst h;simp
 |[],_::_,_,b,_=>by simp[mXs] at b
 |_::_,[],_,b,_=>by simp[mXs] at b
 |x::l,o::m,c,b,h=>by
  simp only[mXs,aS] at b;simp only[ei,aC,aE] at h;obtain⟨p,t,n,f,rfl⟩:=h;obtain⟨v,u⟩:=i8 k b.2 f;refine⟨by simp[v],λi q r e g=>?_⟩;cases i with
  |zero=>simp at e g;subst e;subst g;exact bt k b.1 t
  |succ i=>exact u i q r (by simpa using e) (by simpa using g)
def Sim (P:Program) (c:FI) (o:Oper) (M:Mem) (w:World) (b:St) (a:Act):Prop:=
 ∃(n:Next) (v:Value) (M':Mem) (w':World),(execOp a.eval o).run P w= .ok n w'/\(n= .value v\/n= .skip/\v=undef)/\Inv c M' w' b (a.put o.dst v)/\Kp M w M' w'
theorem DD (t:Array Value) (d k:Nat) (v:Value):(t.setIfInBounds d v).getD k undef=if d=k/\d<t.size then v else t.getD k undef:=by
 simp only[cS,Array.getElem?_setIfInBounds];by_cases h:d=k
 ·subst h
  by_cases a:d<t.size
  ·simp[a]
  ·simp[a]
 ·simp[h]
theorem Inv.put {s:St} {a:Act} (b:Inv fi M w s a) {d:Nat} (f:d<a.tmps.size) {p:PV} {v:Value} (h:RepAt fi M w (Loc.env d) p v):Inv fi M w (s.put d p) (a.put (some d) v) where
 env:=λt q e=>by
  simp only[St.put,dl] at e;simp only[Act.put,Array.size_setIfInBounds,DD];by_cases c:d=t
  ·subst c
   simp only[if_true,bW] at e;subst e;simp[f,h]
  ·simp only[c,if_false] at e
   simp only[c,false_and,if_false];exact b.env t q e
 defers:=b.defers
 lbl:=b.lbl
 gbl:=b.gbl
 nodup:=b.nodup
 lh:=b.lh
 gh:=b.gh
 gl:=b.gl
 immlt:=b.immlt
 ownlt:=b.ownlt
 gblt:=b.gblt
theorem Sim.pure {o:Oper} {s:St} {a:Act} (e:Inv fi M w s a) {d:Nat} (b:o.dst=some d) (c:d<a.tmps.size) {p:PV} {v:Value}
  (hr:(execOp a.eval o).run P w= .ok (.value v) w) (h:RepAt fi M w (Loc.env d) p v):Sim P fi o M w (s.put d p) a:=
 ⟨_,v,M,w,hr,.inl rfl,by rw[b];exact e.put c h,Kp.refl M w⟩
end
end
section
variable {t:TypeId} {b:Bool} {p r:PV} {u:Value} {x y:Operand}
def fW (P:Program) (t:TypeId):Option Bool:=
 match P.underlying t with
 |some (.struct _)=>some true
 |some (.array _ _)=>some true
 |some _=>some false
 |none=>none
def eP (P:Program) (t:TypeId):Option Nat:=(P.info? t).map (·.size)
section
variable {fi:FI} {M M':Mem} {w w':World} {P:Program}
theorem r9 (h:fW P t=some b) (w:World):(isAgg t).run P w= .ok b w:=by
 unfold fW at h;cases a:P.underlying t with
 |none=>simp[a] at h
 |some d=>
  rw[a] at h;cases d<;>simp at h<;>subst h<;>simp[isAgg,run_underlying a]
theorem run_sizeOf' {n:Nat} (h:eP P t=some n) (w:World):(sizeOf t).run P w= .ok n w:=by unfold eP at h;obtain⟨i,a,rfl⟩:=aE.1 h;simp[sizeOf,typeInfo,a]
theorem RepE.int {k:IntKind} {n:Int} {v:Value} (h:RepE fi M w (.int k n) v):v= .int k n:=by cases (show RepP fi M w (.int k n) v from h);rfl
theorem RepE.bool {b:Bool} {v:Value} (h:RepE fi M w (.bool b) v):v= .bool b:=by cases (show RepP fi M w (.bool b) v from h);rfl
theorem RepE.str {s:ByteArray} {v:Value} (h:RepE fi M w (.str s) v):v= .string s:=by cases (show RepP fi M w (.str s) v from h);rfl
theorem RepE.nilI {v:Value} (h:RepE fi M w .nilI v):v= .nilIface:=by cases (show RepP fi M w .nilI v from h);rfl
theorem RepE.someI {v:Value} (h:RepE fi M w .someI v):∃t u,v= .iface t u:=by cases (show RepP fi M w .someI v from h);exact⟨_,_,rfl⟩
theorem RepE.agg {b:fw} {v:Value} (h:RepE fi M w (.agg b) v):∃a:gA,v= .agg a.toArray/\a.length=b.length/\
  ∀(i:Nat) (c:PV) (u:Value),b[i]?=some c->a[i]?=some u->RepP fi M w c u:=by
 cases (show RepP fi M w (.agg b) v from h) with
 |agg _ a d e=>exact⟨a,rfl,d,e⟩
theorem RepE.tup {b:fw} {v:Value} (h:RepE fi M w (.tup b) v):∃a:gA,v= .tuple a.toArray/\a.length=b.length/\
  ∀(i:Nat) (c:PV) (u:Value),b[i]?=some c->a[i]?=some u->RepP fi M w c u:=by
 cases (show RepP fi M w (.tup b) v from h) with
 |tup _ a d e=>exact⟨a,rfl,d,e⟩
theorem pU {op:BinOp} {q:PV} {v:Value} (h:fu op p q=some r) (j:RepE fi M w p u) (i:RepE fi M w q v) :
  ∃f,(eqGuard op t x y u v).run P w= .ok () w/\(binOp op t u v).run P w= .ok f w/\RepP fi M w r f:=by
 unfold fu at h;split at h
 ·rename_i k a l b
  obtain rfl:=j.int;obtain rfl:=i.int;have g:(eqGuard op t x y (.int k a) (.int l b)).run P w= .ok () w:=by cases op<;>simp[eqGuard]
  refine Exists.imp (λf c=>⟨g,c⟩) ?_
  cases op<;>simp only at h<;>first
   | (split at h
      ·cases h
      ·rename_i e;cases h
       refine⟨_,?_,RepP.int _ _⟩;simp[binOp,Op.shift,e])
   | (split at h
      ·rename_i d;subst d
       split at h
       ·cases h
       ·rename_i e
        cases h;refine⟨_,?_,RepP.int _ _⟩;simp[binOp,Op.intDiv,e]
      ·cases h)
   | (split at h
      ·rename_i d;subst d
       cases h;refine⟨_,?_,RepP.int _ _⟩;simp[binOp,Op.intArith,Op.intBits]
      ·cases h)
   | (split at h
      ·rename_i d;subst d
       cases h;refine⟨_,?_,RepP.bool _⟩;simp[binOp,Op.intCmp]
      ·cases h)
   |cases h
 ·rename_i a b
  obtain rfl:=j.str;obtain rfl:=i.str;have g:(eqGuard op t x y (.string a) (.string b)).run P w= .ok () w:=by cases op<;>simp[eqGuard]
  refine Exists.imp (λf c=>⟨g,c⟩) ?_
  cases op<;>simp only at h<;>first
   | (split at h
      ·cases h
      ·rename_i e;cases h
       refine⟨_,?_,RepP.str _⟩;simp only[binOp,Op.stringOp,if_neg e,Sem.run_pure])
   | (cases h
      refine⟨_,?_,RepP.bool _⟩;simp[binOp,Op.stringOp])
   |cases h
 ·cases h
theorem DE {op:UnOp} (h:mn op p=some r) (a:RepE fi M w p u):∃b,(Op.unary op u).run P w= .ok b w/\RepP fi M w r b:=by
 unfold mn at h;split at h
 ·obtain rfl:=a.int;cases h
  refine⟨_,?_,RepP.int _ _⟩;simp[Op.unary,Op.intArith]
 ·obtain rfl:=a.int;cases h
  refine⟨_,?_,RepP.int _ _⟩;simp[Op.unary,Op.intBits]
 ·obtain rfl:=a.bool;cases h
  refine⟨_,?_,RepP.bool _⟩;simp[Op.unary]
 ·cases h
theorem QX (c:P.underlying t=some .bool) {a neg:Bool} (w:World) :
  (do eqGuard (if neg then .neq else .eql) t x y (.bool a) (.bool b);binOp (if neg then .neq else .eql) t (.bool a) (.bool b):Sem Value).run P w= .ok (.bool (if neg then a !=b else a==b)) w:=by
 have h:∀d,(Op.equalIn (d+1) t (.bool a) (.bool b)).run P w= .ok (a==b) w:=λd=>by simp[Op.equalIn,run_underlying c]
 have e:(Op.equal t (.bool a) (.bool b)).run P w= .ok (a==b) w:=h 9999;cases neg<;>simp[eqGuard,binOp,e,bne]
end
end
section
variable {t e ty:TypeId} {z b o n c:Nat} {i:Int} {k:IntKind} {s:ByteArray} {ats:Array TypeId} {A:Option Addr}
section
variable {fi:FI} {M M':Mem} {w w':World} {P:Program}
theorem lv (b o n:Nat):(⟨b,o,none⟩:Addr).add n=⟨b,o+n,none⟩:=by unfold Addr.add;split<;>simp_all
theorem wB {agg:Bool} {k a:Nat} {g:fw} {b:gA} {p:PV} {t:TypeId} (h:dD agg k a g=some p) (m:b.length=g.length)
  (j:∀(i:Nat) (c:PV) (u:Value),g[i]?=some c->b[i]?=some u->RepP fi M w c u) (l:fW P t=some agg) (n:agg=true->eP P t=some k) :
  ∃r,(part t b.toArray a).run P w= .ok r w/\RepP fi M w p r:=by
 unfold dD at h;cases agg with
 | true=>
  simp only[if_true] at h;split at h
  ·rename_i q
   cases h;refine⟨.agg ((b.drop a).take k).toArray,?_,RepP.agg _ _ (by simp[m]) λi c u e f=>?_⟩
   ·simp[part,r9 l,run_sizeOf' (n rfl)]
   ·rw[cL] at e f
    split at e
    ·rename_i o
     rw[if_pos o] at f;rw[List.getElem?_drop] at e f;exact j _ _ _ e f
    ·cases e
  ·cases h
 |false=>
  simp only[bR,if_false] at h;have d:a<b.length:=by rw[m];exact (aD.1 h).1
  refine⟨b[a],?_,j a p _ h (aA d)⟩;simp[part,r9 l,d]
theorem RepE.slC {z:Nat} {a:fw} {v:Value} {o:Bool} (h:RepE fi M w (.sl o z a) v):∃A c,v= .slice A a.length c/\a.length<=c:=by
 cases (show RepP fi M w (.sl o z a) v from h) with
 |sl _ _ A c=>exact⟨A,c,rfl,by assumption⟩
theorem DF {t e:TypeId} {z:Nat} {a:fw} {i:Int} {k:IntKind} {o:Bool} {f:PV} {v:Value} (s:P.underlying t=some (.slice e)) (u:eP P e=some z)
  (q:RepE fi M w (.sl o z a) v) (D:0<=i) (d:a[i.toNat]?=some f):∃r,(Instr.indexAt t v (.int k i)).run P w= .ok r w/\RepP fi M w (.ep f 0) r:=by
 cases (show RepP fi M w (.sl o z a) v from q) with
 | sl _ _ A c b o n B F E C x hr=>
  have l:=(aD.1 d).1;have m:A=some ⟨b,o,none⟩:=B.resolve_left (λh=>by subst h;simp at l);subst m;have y:i<(a.length:Int):=aj;refine⟨.pointer (some ⟨b,o+i.toNat*z,none⟩),?_,RepP.ep f 0 b (o+i.toNat*z) (λj=>n (i.toNat*z+j)) (C f (aL d)) (λj p g=>?_) λj p g=>hr _ _ _ _ d g⟩
  ·simp[Instr.indexAt,asIntOf,run_underlying s,D,y,run_sizeOf' u,lv]
  ·have:=x _ _ _ _ d g
   rw[Nat.add_assoc];exact this
theorem wC {m:Nat} (a:P.underlying t=some (.array m e)) (c:eP P e=some z) (f:0<=i) (d:i<m) (w:World) :
  (Instr.indexAt t (.pointer (some ⟨b,o,none⟩)) (.int k i)).run P w= .ok (.pointer (some ⟨b,o+i.toNat*z,none⟩)) w:=by
 simp[Instr.indexAt,asIntOf,Instr.sureAddr,run_underlying a,f,d,run_sizeOf' c,lv]
theorem pV (a:P.underlying t=some (.slice e)) (d:eP P e=some z) (g:0<=i) (f:i<n) (w:World) :
  (Instr.indexAt t (.slice (some ⟨b,o,none⟩) n c) (.int k i)).run P w= .ok (.pointer (some ⟨b,o+i.toNat*z,none⟩)) w:=by
 simp[Instr.indexAt,asIntOf,run_underlying a,g,f,run_sizeOf' d,lv]
theorem wD {t:TypeId} {d:Array Field} {c a n:Nat} {f:Field} {b o:Nat} (e:P.underlying t=some (.struct d)) (h:d[c]?=some f) (g:f.offset=a)
  (hn:eP P f.type=some n) (i:n≠0) (w:World):(Instr.fieldAt t (.pointer (some ⟨b,o,none⟩)) c).run P w= .ok (.pointer (some ⟨b,o+a,none⟩)) w:=by
 simp[Instr.fieldAt,run_underlying e,h,Instr.sureAddr,fieldPlace,run_sizeOf' hn,i,g,lv]
theorem DH {u:UInt8} (a:P.underlying t=some .string) (b:0<=i) (h:s[i.toNat]?=some u) (w:World) :
  (Instr.index t (.string s) (.int k i)).run P w= .ok (.int .u8 u.toNat) w:=by
 simp[Instr.index,run_underlying a,asIntOf,b,h]
theorem mq (b:ats[0]?=some t) (a:P.underlying t=some (.slice e)) (w:World) :
  (Builtin.len_ ats ty #[.slice A n c]).run P w= .ok (.int .i64 n) w:=by
 simp[Builtin.len_,b,run_underlying a,goInt]
theorem DI (b:ats[0]?=some t) (a:P.underlying t=some .string) (w:World) :
  (Builtin.len_ ats ty #[.string s]).run P w= .ok (.int .i64 s.size) w:=by
 simp[Builtin.len_,b,run_underlying a,goInt]
def SB (v:Option Value) (d l:Nat):Prop:=(v=none/\l=d)\/∃k,v=some (.int k (l:Int))
theorem mr {t e:TypeId} {z n c l h:Nat} {A:Option Addr} {lo hi:Option Value} (b:P.underlying t=some (.slice e)) (d:eP P e=some z) (f:SB lo 0 l) (g:SB hi n h)
  (p:l<=h) (o:h<=c) (w:World):(Instr.sliceAt t (.slice A n c) lo hi none).run P w= .ok (.slice (if c=l then A else A.map (·.add (l*z))) (h-l) (c-l)) w:=by
 have j:∀k a,(Instr.sliceBound (.int k (l:Int)) h a).run P w= .ok l w:=λk a=>by rw[run_sliceBound w k (l:Int) h a aj aj];simp
 have i:∀k a,(Instr.sliceBound (.int k (h:Int)) c a).run P w= .ok h w:=λk a=>by rw[run_sliceBound w k (h:Int) c a aj aj];simp
 rcases f with ⟨rfl,rfl⟩|⟨k,rfl⟩<;>rcases g with ⟨rfl,rfl⟩|⟨m,rfl⟩<;>simp[Instr.sliceAt,Instr.slice,Instr.sliceBounds,run_underlying b,run_sizeOf' d,j,i]
theorem DJ {t:TypeId} {l h:Nat} {s:ByteArray} {b c:Option Value} (d:P.underlying t=some .string) (e:SB b 0 l) (f:SB c s.size h)
  (n:l<=h) (m:h<=s.size) (w:World):(Instr.sliceAt t (.string s) b c none).run P w= .ok (.string (s.extract l h)) w:=by
 have i:∀k a,(Instr.sliceBound (.int k (l:Int)) h a).run P w= .ok l w:=λk a=>by rw[run_sliceBound w k (l:Int) h a aj aj];simp
 have g:∀k a,(Instr.sliceBound (.int k (h:Int)) s.size a).run P w= .ok h w:=λk a=>by rw[run_sliceBound w k (h:Int) s.size a aj aj];simp
 rcases e with ⟨rfl,rfl⟩|⟨k,rfl⟩<;>rcases f with ⟨rfl,rfl⟩|⟨j,rfl⟩<;>simp[Instr.sliceAt,Instr.slice,Instr.sliceBounds,run_underlying d,i,g]
theorem wE {l h:Nat} {d:fw} {o:Bool} (r:RepE fi M w (.sl o z d) (.slice A d.length c)) (G:l<=h) (F:h<=d.length) (E:d.length<=c) :
  RepP fi M w (.sl false z ((d.take h).drop l)) (.slice (if c=l then A else A.map (·.add (l*z))) (h-l) (c-l)):=by
 generalize u:Value.slice A d.length c=v at r;cases (show RepP fi M w (.sl o z d) v from r) with
 | sl _ _ I H b o s B y t q x hr=>
  injection u with D k C
  subst D;subst C;have f:((d.take h).drop l).length=h-l:=by simp;omega
  have g:∀i e,((d.take h).drop l)[i]?=some e->d[l+i]?=some e:=λi e a=>by
   rw[List.getElem?_drop,cL] at a;split at a
   ·exact a
   ·cases a
  rw[<-f];refine RepP.sl z _ _ _ b (o+l*z) (λj=>s (l*z+j)) ?_ (by rw[f];omega) (λe a=>t e ?_) (λe a=>q e ?_) (λi e j p a m=>?_) (λi e j p a m=>?_)
  ·by_cases n:c=l
   ·left
    apply List.eq_nil_of_length_eq_zero;omega
   ·rw[if_neg n]
    rcases B with rfl|rfl
    ·left;simp
    ·right;simp[lv]
  ·exact cQ (List.mem_of_mem_drop a)
  ·exact cQ (List.mem_of_mem_drop a)
  ·have:=x _ _ _ _ (g _ _ a) m
   have e:o+((l+i)*z+j)=o+l*z+(i*z+j):=by rw[Nat.add_mul];omega
   rw[e] at this;have k:(l+i)*z+j=l*z+(i*z+j):=by rw[Nat.add_mul];omega
   rw[k] at this;exact this
  ·have:=hr _ _ _ _ (g _ _ a) m
   have k:(l+i)*z+j=l*z+(i*z+j):=by rw[Nat.add_mul];omega
   rw[k] at this;exact this
end
end
section
variable {fi:FI} {M M':Mem} {w w':World} {P:Program}
structure Good (M:Mem) (w:World) (M':Mem) (w':World) (xl:Loc->Prop) (xb:Nat->Prop):Prop where
 ext:Ext M w M' w'
 size:w.heap.size<=w'.heap.size
 lb:∀(i k:Nat),M.lb[i]?=some k->M'.lb[i]?=some k
 own:∀(b:Nat) (l:Loc),M.own b=some l->¬xl l->M'.own b=some l/\w'.heap[b]?=w.heap[b]?/\(∀k,¬M.imm b k->¬M'.imm b k)/\(b∉M.lb->b∉M'.lb)/\(b∉M.gb->b∉M'.gb)
 box:∀b,b<w.heap.size->¬xb b->M.own b=none->w'.heap[b]?=w.heap[b]?/\(∀k,¬M.imm b k->¬M'.imm b k)/\M'.own b=none
 st:∀i,¬xl (Loc.gh i 0)->M'.st i=M.st i
variable {xl:Loc->Prop} {xb:Nat->Prop}
theorem OwnRep.good (g:Good M w M' w' xl xb) {l:Loc} {z:Nat} {m:fw} {v:Value} (h:OwnRep fi M w l z m v) (r:¬xl l):OwnRep fi M' w' l z m v:=by
 obtain⟨u,j⟩:=h;refine⟨u.mono g.ext,?_⟩;rcases j with j|⟨b,o,c,D,e,n,q,t,p,s,i,f,hn⟩
 ·exact .inl j
 ·obtain⟨C,B,A,y,x⟩:=g.own b l q r
  exact .inr ⟨b,o,c,D,e,n,C,by rw[B];exact t,p,λk d a=>A k (s k d a),y i,x f,hn⟩
theorem ArrRep.good (g:Good M w M' w' xl xb) {l:Loc} {z:PV} {n:Nat} {v:Value} (h:ArrRep M w l z n v) (i:¬xl l):ArrRep M' w' l z n v:=by obtain⟨p,b,T,c,e,o,f,m,j,d,a⟩:=h;obtain⟨u,t,s,r,q⟩:=g.own b l f i;exact⟨p,b,T,c,e,o,u,by rw[t];exact m,λk=>s k (j k),r d,q a⟩
theorem RepC.good (g:Good M w M' w' xl xb) {l:Loc} {p:PV} {v:Value} (h:RepC fi M w l p v) (a:¬xl l):RepC fi M' w' l p v:=by
 unfold RepC at *;split at h
 ·exact OwnRep.good g h a
 ·exact h.mono g.ext
theorem RepE.good (g:Good M w M' w' xl xb) {p:PV} {v:Value} (h:RepE fi M w p v):RepE fi M' w' p v:=by
 unfold RepE at *;split at h
 ·obtain⟨a,d,b⟩:=h;exact⟨a,g.lb _ _ d,b⟩
 ·obtain⟨a,A,c,d,b⟩:=h;exact⟨a,A,c,g.lb _ _ d,b⟩
 ·exact h.mono g.ext
theorem RepAt.good (g:Good M w M' w' xl xb) {mk:Nat->Loc} {p:PV} {v:Value} (h:RepAt fi M w mk p v) (a:∀i,¬xl (mk i)):RepAt fi M' w' mk p v:=by
 unfold RepAt at *;split at h
 ·exact OwnRep.good g h (a 0)
 ·exact ArrRep.good g h (a 0)
 ·obtain⟨b,k,j,f⟩:=h
  exact⟨b,k,j,λi c u e d=>(f i c u e d).good g (a i)⟩
 ·obtain⟨b,k,j,f⟩:=h
  exact⟨b,k,j,λi c u e d=>(f i c u e d).good g (a i)⟩
 ·exact h.good g
theorem RepBox.good (g:Good M w M' w' xl xb) {mk:Nat->Loc} {a:Nat} {d:fw} (h:RepBox fi M w mk a d) (m:¬xb a) (j:∀i,¬xl (mk i)):RepBox fi M' w' mk a d:=by obtain⟨b,s,r,q,e,T,p,o,n⟩:=h;obtain⟨x,v,t⟩:=g.box a b m r;exact⟨aO b g.size,λk=>v k (s k),t,q,e,T,by rw[x];exact p,o,λi c u l f=>(n i c u l f).good g (j i)⟩
theorem RepMap.good (g:Good M w M' w' xl xb) {a:Nat} {k:List (PV×PV)} (h:RepMap fi M w a k) (n:¬xb a):RepMap fi M' w' a k:=by
 obtain⟨j,q,l,b,p,o,f⟩:=h;obtain⟨s,_,r⟩:=g.box a j n q
 exact⟨aO j g.size,r,l,b,by rw[s];exact p,o,λi e m d c=>
  ⟨(f i e m d c).1.mono g.ext,(f i e m d c).2.1.mono g.ext,(f i e m d c).2.2⟩⟩
theorem RepStk.good (g:Good M w M' w' xl xb) {i a b:Nat} {d:fw} (h:RepStk fi M w i a b d) (c:∀j,¬xl (Loc.gh i j)):RepStk fi M' w' i a b d:=by obtain⟨v,t,s,r,q,C,T,p,o,n,m⟩:=h;obtain⟨B,_⟩:=g.own a _ v (c 0);obtain⟨A,z,y,_⟩:=g.own _ _ s (c 0);have e:=g.st i (c 0);exact⟨B,by rw[e];exact t,by rw[e];exact A,λk=>by rw[e];exact y k (r k),q,C,T,by rw[e,z];exact p,by rw[e];exact o,n,λj x l=>by obtain⟨u,f,hr⟩:=m j x l;exact⟨u,f,hr.mono g.ext⟩⟩
theorem RepBld.good (g:Good M w M' w' xl xb) {i a:Nat} {s:ByteArray} (h:RepBld fi M w i a s) (x:¬xb a) (v:∀j,¬xl (Loc.gh i j)):RepBld fi M' w' i a s:=by
 obtain⟨n,F,E,T,y,b⟩:=h;obtain⟨o,H,G⟩:=g.box a n x E;refine⟨aO n g.size,λk=>H k (F k),G,T,y,?_⟩;rcases b with ⟨e,b⟩|⟨c,m,l,D,C,B,A,z,f,d⟩
 ·exact .inl ⟨e,by rw[o];exact b⟩
 ·obtain⟨u,t,r,q,p⟩:=g.own c _ C (v 0)
  exact .inr ⟨c,m,l,by rw[o];exact D,u,q B,p A,λk=>r k (z k),by rw[t];exact f,d⟩
theorem RepObj.good (g:Good M w M' w' xl xb) {i a:Nat} {o:GObj} (h:RepObj fi M w i a o) (d:¬xb a) (c:∀j,¬xl (Loc.gh i j)):RepObj fi M' w' i a o:=by
 cases o with
 |cells l=>exact RepBox.good (mk:=Loc.gh i) g h d c
 |map N=>exact RepMap.good g h d
 |stk E I=>exact RepStk.good g h c
 |bld s=>exact RepBld.good g h d c
 |trash=>
  obtain⟨f,D,A,C⟩:=h;obtain⟨G,L,F⟩:=g.box a f d D;refine⟨aO f g.size,F,G.trans A,λb k B=>?_⟩;obtain⟨z,y,x,v,r,l,T,H,u,t⟩:=C b k B;obtain⟨q,e,p,n,m⟩:=g.own b _ z (c 0);exact⟨q,p k y,n x,m v,(m8 e).trans r,l,T,H,by rw[e];exact u,t⟩
def Mem.rel (M:Mem) (f:Loc->Loc):Mem:={M with own:=λb=>(M.own b).map f }
theorem Ext.rel (M:Mem) (w:World) (f:Loc->Loc):Ext M w (M.rel f) w:=⟨λ_ _ h=>h,λ_ _ h=>h,λ_ _ _=>rfl,λ_ _=>⟨cW _,λ_=>rfl⟩,λ_ _ _=>rfl⟩
theorem OwnRep.rel {l:Loc} {z:Nat} {d:fw} {v:Value} (h:OwnRep fi M w l z d v) (f:Loc->Loc):OwnRep fi (M.rel f) w (f l) z d v:=by
 obtain⟨j,a⟩:=h;refine⟨j.mono (Ext.rel M w f),?_⟩;rcases a with a|⟨b,o,c,k,e,g,i,hr⟩
 ·exact .inl a
 ·exact .inr ⟨b,o,c,k,e,g,by simp[Mem.rel,i],hr⟩
theorem ArrRep.rel {l:Loc} {z:PV} {n:Nat} {v:Value} (h:ArrRep M w l z n v) (f:Loc->Loc):ArrRep (M.rel f) w (f l) z n v:=by obtain⟨g,b,T,c,a,e,d,hr⟩:=h;exact⟨g,b,T,c,a,e,by simp[Mem.rel,d],hr⟩
theorem RepC.rel {l l':Loc} {p:PV} {v:Value} (h:RepC fi M w l p v) (f:Loc->Loc) (a:f l=l'):RepC fi (M.rel f) w l' p v:=by
 subst a;unfold RepC at *;split at h
 ·exact OwnRep.rel h f
 ·exact h.mono (Ext.rel M w f)
theorem RepE.rel {p:PV} {v:Value} (h:RepE fi M w p v) (f:Loc->Loc):RepE fi (M.rel f) w p v:=by
 unfold RepE at *;split at h
 ·exact h
 ·exact h
 ·exact h.mono (Ext.rel M w f)
theorem RepAt.rel {mk mk':Nat->Loc} {p:PV} {v:Value} (h:RepAt fi M w mk p v) (f:Loc->Loc) (a:∀i,f (mk i)=mk' i):RepAt fi (M.rel f) w mk' p v:=by
 unfold RepAt at *;split at h
 ·rw[<-a 0];exact OwnRep.rel h f
 ·rw[<-a 0];exact ArrRep.rel h f
 ·obtain⟨b,k,j,g⟩:=h
  exact⟨b,k,j,λi c u e d=>(g i c u e d).rel f (a i)⟩
 ·obtain⟨b,k,j,g⟩:=h
  exact⟨b,k,j,λi c u e d=>(g i c u e d).rel f (a i)⟩
 ·exact h.rel f
theorem RepBox.rel {mk:Nat->Loc} {a:Nat} {b:fw} (h:RepBox fi M w mk a b) (f:Loc->Loc) (g:∀i,f (mk i)=mk i):RepBox fi (M.rel f) w mk a b:=by obtain⟨q,p,o,n,d,T,m,l,k⟩:=h;exact⟨q,p,by simp[Mem.rel,o],n,d,T,m,l,λi c u j e=>(k i c u j e).rel f (g i)⟩
theorem RepObj.rel {i t:Nat} {o:GObj} (h:RepObj fi M w i t o) (f:Loc->Loc) (r:∀j,f (Loc.gh i j)=Loc.gh i j):RepObj fi (M.rel f) w i t o:=by
 cases o with
 |cells D=>exact RepBox.rel (mk:=Loc.gh i) h f r
 |map S=>
  obtain⟨p,n,l,q,g,d,a⟩:=h;exact⟨p,by simp[Mem.rel,n],l,q,g,d,λi e m y v=>⟨(a i e m y v).1.mono (Ext.rel M w f),(a i e m y v).2.1.mono (Ext.rel M w f),(a i e m y v).2.2⟩⟩
 | stk Q R=>
  obtain⟨p,n,g,d,a,D,T,A,z,P,O⟩:=h;exact⟨by simp[Mem.rel,p,r],n,by simp only[Mem.rel];rw[g];simp[r],d,a,D,T,A,z,P,λj x I=>by obtain⟨u,G,hr⟩:=O j x I;exact⟨u,G,hr.mono (Ext.rel M w f)⟩⟩
 |bld s=>
  obtain⟨p,n,g,T,N,d⟩:=h;refine⟨p,n,by simp[Mem.rel,g],T,N,?_⟩;rcases d with d|⟨c,C,B,a,A,z⟩
  ·exact .inl d
  ·exact .inr ⟨c,C,B,a,by simp[Mem.rel,A,r],z⟩
 |trash=>
  obtain⟨p,n,H,g⟩:=h;refine⟨p,by simp[Mem.rel,n],H,λb k L=>?_⟩;obtain⟨F,E⟩:=g b k L;exact⟨by simp[Mem.rel,F,r],E⟩
theorem Kp.rel (M:Mem) (w:World) (f:Loc->Loc):Kp M w (M.rel f) w where
 os:=rfl
 tape:=rfl
 output:=rfl
 size:=cW _
 ext:=Ext.rel M w f
 block:=λ_ _ _ _ _=>rfl
 lbn:=λ_ h=> .inl h
 gbn:=λ_ h=> .inl h
 ownn:=λk _ h=>by simp[Mem.rel,h]
 immn:=λ_ _ h=> .inl h
 ds:= .same rfl
theorem Inv.rel {s:St} {a:Act} (c:Inv fi M w s a) (f:Loc->Loc) (e:fT) (p:∀t v,get e t=some v->t<a.tmps.size/\RepAt fi (M.rel f) w (Loc.env t) v (a.tmps.getD t undef))
  (m:∀i j,f (Loc.lh i j)=Loc.lh i j) (n:∀i j,f (Loc.gh i j)=Loc.gh i j):Inv fi (M.rel f) w ⟨e,s.lh,s.gh⟩ a where
 env:=p
 defers:=c.defers
 lbl:=c.lbl
 gbl:=c.gbl
 nodup:=c.nodup
 lh:=λi q d g k=>(c.lh i q d g k).rel f (m i)
 gh:=λi o d g k=>(c.gh i o d g k).rel f (n i)
 gl:=c.gl
 immlt:=c.immlt
 ownlt:=λb l h=>by simp only[Mem.rel,aE] at h;obtain⟨l',g,_⟩:=h;exact c.ownlt b l' g
 gblt:=c.gblt
def mu (n:Nat):Loc->Loc
 | .env t i=>if t=n then .lim i else .env t i
 |l=>l
def j7 (mk:Nat->Loc):Loc->Loc
 | .lim i=>mk i
 |l=>l
theorem pW {s:St} {a:Act} (g:Inv fi M w s a) {x:IX} {o:Operand} (d:mX fi x o=true) {v:PV} {e:fT} (h:f6 s.env x=some (v,e)) :
  ∃k,Inv fi k w ⟨e,s.lh,s.gh⟩ a/\Kp M w k w/\RepAt fi k w Loc.lim v (a.eval o)/\k.lb=M.lb/\k.gb=M.gb/\k.imm=M.imm:=by
 cases x with
 | t n=>
  cases o with
  | tmp m=>
   simp only[mX,dA] at d;subst d;simp only[f6,aE,bZ] at h;obtain⟨l,r,rfl,rfl⟩:=h;have hn:=g.env n l r;refine⟨M.rel (mu n),g.rel _ _ (λt u j=>?_) (λ_ _=>rfl) (λ_ _=>rfl),Kp.rel M w _,hn.2.rel _ (λi=>by simp[mu]),rfl,rfl,rfl⟩;rw[dl] at j;by_cases b:n=t
   ·subst b
    simp at j;subst j;exact⟨hn.1,(hn.2.degr.rel _).repAt⟩
   ·simp[b] at j
    exact⟨(g.env t u j).1,(g.env t u j).2.rel _ (λi=>by simp[mu,Ne.symm b])⟩
  |_=>simp[mX] at d
 | c p=>
  cases o with
  |const u=>
   simp only[f6,bW,bZ] at h;obtain⟨rfl,rfl⟩:=h;exact⟨M,g,Kp.refl M w,lE d _,rfl,rfl,rfl⟩
  |_=>simp[mX] at d
 | f q=>
  cases o with
  |func F=>
   simp only[f6,bW,bZ] at h;obtain⟨rfl,rfl⟩:=h;exact⟨M,g,Kp.refl M w,(bt g (x:= .f q) d rfl).repAt,rfl,rfl,rfl⟩
  |_=>simp[mX] at d
theorem Inv.putLim {s:St} {a:Act} (b:Inv fi M w s a) {d:Nat} (e:d<a.tmps.size) {p:PV} {v:Value} (h:RepAt fi M w Loc.lim p v) :
  Inv fi (M.rel (j7 (Loc.env d))) w (s.put d p) (a.put (some d) v)/\Kp M w (M.rel (j7 (Loc.env d))) w:=by
 refine⟨Inv.put (s:=⟨s.env,s.lh,s.gh⟩) (b.rel _ _ (λt u c=>⟨(b.env t u c).1,(b.env t u c).2.rel _ (λi=>rfl)⟩) (λ_ _=>rfl) (λ_ _=>rfl)) e (h.rel _ (λi=>rfl)),Kp.rel M w _⟩
end
section
open Go.RowKit
section
variable {fi:FI} {M M':Mem} {w w':World} {P:Program}
theorem RepP.cells1 {p:PV} {v:Value} (h:RepP fi M w p v) (b:p.one=true):v.cells= #[v]/\v.oneCell'=true:=by
 cases h with
 |fr z a v h c=>cases h;exact⟨rfl,rfl⟩
 |ol z a v h=>cases h;exact⟨rfl,rfl⟩
 |_=>first|(exact⟨rfl,rfl⟩)|(simp[PV.one] at b)
theorem RepC.cells1 {l:Loc} {p:PV} {v:Value} (h:RepC fi M w l p v) (a:p.one=true):v.cells= #[v]/\v.oneCell'=true:=by
 unfold RepC at h;split at h
 ·rcases h.2 with h|⟨b,o,c,d,e,h,_⟩<;>subst h<;>exact⟨rfl,rfl⟩
 ·exact h.cells1 a
theorem RepAt.cells {mk:Nat->Loc} {p:PV} {v:Value} (h:RepAt fi M w mk p v) (b:az p=true) :
  ∃a:gA,v.cells=a.toArray/\a.length=p.cells.length/\(∀(i:Nat) (c:PV) (u:Value),p.cells[i]?=some c->a[i]?=some u->RepC fi M w (mk i) c u)/\∀u∈a,u.oneCell'=true:=by
 have j:∀c∈p.cells,c.one=true:=by simpa [az] using b
 have l:∀(a:gA),a.length=p.cells.length->(∀(i:Nat) (c:PV) (u:Value),p.cells[i]?=some c->a[i]?=some u->RepC fi M w (mk i) c u)->∀u∈a,u.oneCell'=true:=by intro a m k u e;obtain⟨i,r,n⟩:=cP.1 e;have g:p.cells[i]?=some (p.cells[i]' aj):=aA aj;exact ((k i _ u g (by rw[aA r,n])).cells1 (j _ (cD _))).2
 have single:∀(q:PV),q.cells=[q]->q.one=true->RepC fi M w (mk 0) q v->∃a:gA,v.cells=a.toArray/\a.length=q.cells.length/\(∀(i:Nat) (c:PV) (u:Value),q.cells[i]?=some c->a[i]?=some u->RepC fi M w (mk i) c u)/\∀u∈a,u.oneCell'=true:=by
  intro q f b g;refine⟨[v],by simpa using (g.cells1 b).1,by simp[f],λi c u d e=>?_,by simpa using (g.cells1 b).2⟩;rw[f] at d;cases i with
  |zero=>simp at d e;subst d;subst e;exact g
  |succ i=>simp at e
 unfold RepAt at h;split at h
 ·exact single _ rfl rfl h
 ·cases b
 ·obtain⟨a,rfl,m,k⟩:=h
  exact⟨a,rfl,m,k,l a m k⟩
 ·simp[az,PV.cells,PV.one] at b
 ·have o:=h.repP b
  rename_i z x s y;have f:p.cells=[p]:=by
   cases p with
   |agg t=>exact absurd rfl (s t)
   |_=>rfl
  exact single p f (by simpa [az,f] using b) o.repC
theorem size_alloc' (w:World) (o:Obj):(w.alloc o).heap.size=w.heap.size+1:=by show (w.heap.push o).size=_;simp
theorem DK (w:World) (o:Obj) (b k:Nat) (h:b<w.heap.size):(w.alloc o).cell? ⟨b,k,none⟩=w.cell? ⟨b,k,none⟩:=
 World.cell?_of_block (w:=w) (a:=⟨b,k,none⟩) (Below.heap_alloc w o b h)
theorem Good.alloc {s:St} {a:Act} (D:Inv fi M w s a) (o:Obj) (m:Mem) (l g:gj) (A:m.lb=M.lb++l) (B:m.gb=M.gb++g) (u:∀k∈l,k=w.heap.size) (v:∀k∈g,k=w.heap.size)
  (c:Nat->Prop) (y:∀b k,m.imm b k↔M.imm b k\/(b=w.heap.size/\c k)) (z:∀b,b≠w.heap.size->m.own b=M.own b) (t:m.st=M.st:=by rfl) (C:m.ds=M.ds:=by rfl) :
  Good M w m (w.alloc o) (λ_=>False) (λ_=>False)/\Kp M w m (w.alloc o):=by
 have q:∀b,b<w.heap.size->b≠w.heap.size:=λb h e=>aj
 have n:Ext M w m (w.alloc o):=⟨λi k d=>by
   rw[B,aI (aD.1 d).1];exact d,
  λb k f=>(y b k).2 (.inl f),λb k f=>DK w o b k (D.immlt b k f),λb _=>by rw[t];exact⟨cW _,λ_=>rfl⟩,λb k f=>m8 (Below.heap_alloc w o b (D.immlt b k f))⟩
 have r:w.heap.size<=(w.alloc o).heap.size:=by rw[size_alloc'];omega
 refine⟨⟨n,r,λi k d=>?_,λb F f _=>?_,λb f _ p=>?_,λi _=>by rw[t]⟩,⟨rfl,rfl,rfl,r,n,λk d _ _ _=>Below.heap_alloc w o k d,λk d=>?_,λk d=>?_,λk d p=>?_,λb k f=>?_,.same C⟩⟩
 ·rw[A,aI (aD.1 d).1];exact d
 ·have x:=D.ownlt b F f
  refine⟨by rw[z b (q b x)];exact f,Below.heap_alloc w o b x,λk d h=>?_,λE j=>?_,λE j=>?_⟩
  ·rcases (y b k).1 h with h|⟨h,_⟩
   ·exact d h
   ·omega
  ·rw[A,cE] at j
   rcases j with j|j
   ·exact E j
   ·have:=u b j;omega
  ·rw[B,cE] at j
   rcases j with j|j
   ·exact E j
   ·have:=v b j;omega
 ·refine⟨Below.heap_alloc w o b f,λk d h=>?_,by rw[z b (q b f)];exact p⟩
  rcases (y b k).1 h with h|⟨h,_⟩
  ·exact d h
  ·omega
 ·rw[A,cE] at d
  rcases d with d|d
  ·exact .inl d
  ·exact .inr (by rw[u k d];exact cW _)
 ·rw[B,cE] at d
  rcases d with d|d
  ·exact .inl d
  ·exact .inr (.inl (by rw[v k d];exact cW _))
 ·rw[z k (q k d)];exact p
 ·rcases (y b k).1 f with h|⟨h,_⟩
  ·exact .inl h
  ·exact .inr (.inl aj)
theorem lF {l:gj} {n:Nat} (h:l.Nodup) (hn:n∉l):(l++[n]).Nodup:=by rw[cT];exact⟨h,bh,λa ha b c=>by simp at c;subst c;intro e;subst e;exact hn ha⟩
theorem j8 {s:St} {a:Act} (c:Inv fi M w s a):∀k∈M.lb,k<w.heap.size:=by
 intro k d;obtain⟨i,b,rfl⟩:=cP.1 d;have e:i<s.lh.length:=by rw[<-c.lbl];exact b
 exact (c.lh i _ _ (aA e) (aA b)).1
theorem Inv.newBox {s:St} {a:Act} (f:Inv fi M w s a) (g:Bool) {p:PV} {v:Value} (h:RepAt fi M w Loc.lim p v) (U:az p=true) (T:TypeId) :
  ∃M',Inv fi M' (w.alloc (.cells v.cells T)) (s.newBox g p.cells).1 a/\Kp M w M' (w.alloc (.cells v.cells T))/\
   RepE fi M' (w.alloc (.cells v.cells T)) (.ptr g (s.newBox g p.cells).2 0) (.pointer (some ⟨w.heap.size,0,none⟩)):=by
 obtain⟨P,I,D,C,_⟩:=h.cells U;have L:M.own w.heap.size=none:=by
  cases X:M.own w.heap.size with
  |none=>rfl
  |some l=>exact absurd (f.ownlt _ l X) aj
 have N:∀k,¬M.imm w.heap.size k:=λk O=>absurd (f.immlt _ k O) aj
 have B:w.heap.size∉M.lb++M.gb:=by
  rw[cE];rintro (O|O)
  ·exact absurd (j8 f _ O) aj
  ·exact absurd (f.gblt _ O) aj
 have E:∀c∈p.cells,c.one=true:=by simpa [az] using U
 generalize G:w.alloc (.cells v.cells T)=d;cases g with
 | true=>
  let r:Mem:={M with gb:=M.gb++[w.heap.size] }
  obtain⟨x,z⟩:=Good.alloc f (.cells v.cells T) r [] [w.heap.size] (by simp[r]) rfl bh bh (λ_=>False) (by simp[r]) (λ_ _=>rfl);rw[G] at x z
  have R:∀(i:Nat) (c:PV) (u:Value),p.cells[i]?=some c->P[i]?=some u->RepC fi (r.rel (j7 (Loc.gh s.gh.length))) d (Loc.gh s.gh.length i) c u:=
   λi c u I A=>((C i c u I A).good x bh).rel _ rfl
  refine⟨r.rel (j7 (Loc.gh s.gh.length)),?_,z.trans (Kp.rel _ _ _),?_⟩
  ·refine⟨λt u A=>⟨(f.env t u A).1,((f.env t u A).2.good x bh).rel _ (λ_=>rfl)⟩,f.defers,f.lbl,by simp[St.newBox,r,Mem.rel,f.gbl],?_,?_,?_,x.ext.gl f.gl,?_,?_,?_⟩
   ·show (M.lb++(M.gb++[w.heap.size])).Nodup
    rw[<-aT];exact lF f.nodup B
   ·exact λi S n q m=>((f.lh i S n q m).good x bh bh).rel _ (λ_=>rfl)
   ·intro i o n q m
    simp only[St.newBox,if_true] at q;have j:(M.gb++[w.heap.size])[i]?=some n:=m;by_cases y:i<s.gh.length
    ·rw[aI y] at q
     rw[aI (by rw[f.gbl];exact y)] at j;exact ((f.gh i o n q j).good x bh bh).rel _ (λ_=>rfl)
    ·have F:=(aD.1 q).1
     simp at F;obtain rfl:i=s.gh.length:=aj;simp at q;subst q;rw[aN (by rw[f.gbl];exact cW _),f.gbl] at j;simp at j;subst j;refine⟨by rw[<-G,size_alloc'];omega,λk=>N k,by simp[Mem.rel,r,L],E,P,T,?_,D,R⟩;rw[<-G,I];exact heap_alloc_new w _
   ·exact λb k m=>aO (f.immlt b k m) z.size
   ·intro b l m
    simp only[Mem.rel,r,aE] at m;obtain⟨Q,H,_⟩:=m;exact aO (f.ownlt b Q H) z.size
   ·intro b m
    have j:b∈M.gb++[w.heap.size]:=m;rw[<-G];simp only[cE,List.mem_singleton] at j;rcases j with H|H
    ·have:=f.gblt b H;rw[size_alloc'];omega
    ·subst H;rw[size_alloc'];omega
  ·refine RepP.repE (.ptr _ _ _ ?_)
   show (M.gb++[w.heap.size])[s.gh.length]?=some w.heap.size
   rw[aN (by rw[f.gbl];exact cW _),f.gbl];simp
 | false=>
  let r:Mem:={M with lb:=M.lb++[w.heap.size] }
  obtain⟨x,z⟩:=Good.alloc f (.cells v.cells T) r [w.heap.size] [] rfl (by simp[r]) bh bh (λ_=>False) (by simp[r]) (λ_ _=>rfl);rw[G] at x z
  have R:∀(i:Nat) (c:PV) (u:Value),p.cells[i]?=some c->P[i]?=some u->RepC fi (r.rel (j7 (Loc.lh s.lh.length))) d (Loc.lh s.lh.length i) c u:=
   λi c u I A=>((C i c u I A).good x bh).rel _ rfl
  refine⟨r.rel (j7 (Loc.lh s.lh.length)),?_,z.trans (Kp.rel _ _ _),?_⟩
  ·refine⟨λt u A=>⟨(f.env t u A).1,((f.env t u A).2.good x bh).rel _ (λ_=>rfl)⟩,f.defers,by simp[St.newBox,r,Mem.rel,f.lbl],f.gbl,?_,?_,?_,x.ext.gl f.gl,?_,?_,?_⟩
   ·show ((M.lb++[w.heap.size])++M.gb).Nodup
    have:=f.nodup;rw[cT] at this ⊢;rw[cE,not_or] at B;refine⟨lF this.1 B.1,this.2.1,λa ha b m=>?_⟩;rw[cE,List.mem_singleton] at ha;rcases ha with ha|ha
    ·exact this.2.2 a ha b m
    ·subst ha;intro e;subst e;exact B.2 m
   ·intro i S n q m
    simp only[St.newBox,bR,if_false] at q;have j:(M.lb++[w.heap.size])[i]?=some n:=m;by_cases y:i<s.lh.length
    ·rw[aI y] at q
     rw[aI (by rw[f.lbl];exact y)] at j;exact ((f.lh i S n q j).good x bh bh).rel _ (λ_=>rfl)
    ·have F:=(aD.1 q).1
     simp at F;obtain rfl:i=s.lh.length:=aj;simp at q;subst q;rw[aN (by rw[f.lbl];exact cW _),f.lbl] at j;simp at j;subst j;refine⟨by rw[<-G,size_alloc'];omega,λk=>N k,by simp[Mem.rel,r,L],E,P,T,?_,D,R⟩;rw[<-G,I];exact heap_alloc_new w _
   ·exact λi o n q m=>((f.gh i o n q m).good x bh bh).rel _ (λ_=>rfl)
   ·exact λb k m=>aO (f.immlt b k m) z.size
   ·intro b l m
    simp only[Mem.rel,r,aE] at m;obtain⟨Q,H,_⟩:=m;exact aO (f.ownlt b Q H) z.size
   ·exact λb m=>aO (f.gblt b m) z.size
  ·show ∃n,_/\_
   refine⟨w.heap.size,?_,rfl⟩
   show (M.lb++[w.heap.size])[s.lh.length]?=some w.heap.size
   rw[aN (by rw[f.lbl];exact cW _),f.lbl];simp
end
end
section
open Go.RowKit
section
variable {fi:FI} {M M':Mem} {w w':World} {P:Program}
theorem Inv.drew {s:St} {a:Act} (c:Inv fi M w s a):Inv fi M w.drew s a/\Kp M w M w.drew:=by
 have g:Good M w M w.drew (λ_=>False) (λ_=>False):=⟨⟨λ_ _ h=>h,λ_ _ h=>h,λ_ _ _=>rfl,λ_ _=>⟨cW _,λ_=>rfl⟩,λ_ _ _=>rfl⟩,cW _,λ_ _ h=>h,λb l h _=>⟨h,rfl,λ_ h=>h,id,id⟩,λb _ _ h=>⟨rfl,λ_ h=>h,h⟩,λ_ _=>rfl⟩
 exact⟨⟨λt u j=>⟨(c.env t u j).1,(c.env t u j).2.good g bh⟩,c.defers,c.lbl,c.gbl,c.nodup,λi k d f e=>(c.lh i k d f e).good g bh bh,
  λi o d f e=>(c.gh i o d f e).good g bh bh,c.gl,c.immlt,c.ownlt,c.gblt⟩,
  ⟨rfl,rfl,rfl,cW _,g.ext,λ_ _ _ _ _=>rfl,λ_ h=> .inl h,λ_ h=> .inl h,λ_ _ h=>h,λ_ _ h=> .inl h,.same rfl⟩⟩
theorem Inv.newOwn {s:St} {a:Act} (g:Inv fi M w s a) {d:Nat} (hd:d<a.tmps.size) {z:Nat} {xs:fw} (U:∀e∈xs,e.cells.length=z) (B:∀e∈xs,az e=true)
  (n rest:gA) (X:n.length=xs.length*z) (v:∀(i:Nat) (e:PV) (j:Nat) (p:PV),xs[i]?=some e->e.cells[j]?=some p->∃u,n[i*z+j]?=some u/\RepP fi M w p u)
  (c:Nat) (hc:xs.length<=c) (S:c*z<=n.length+rest.length) (T:TypeId) (O:Array Value) (hO:O=(n++rest).toArray) :
  ∃M',Inv fi M' (w.alloc (.cells O T)) (s.put d (.sl true z xs)) (a.put (some d) (.slice (some ⟨w.heap.size,0,none⟩) xs.length c))/\Kp M w M' (w.alloc (.cells O T)):=by
 subst hO;have G:w.heap.size∉M.lb:=λA=>absurd (j8 g _ A) aj
 have I:w.heap.size∉M.gb:=λA=>absurd (g.gblt _ A) aj
 have H:∀k,¬M.imm w.heap.size k:=λk A=>absurd (g.immlt _ k A) aj
 let q:Mem:={M with imm:=λb k=>M.imm b k\/(b=w.heap.size/\k<xs.length*z),own:=λb=>if b=w.heap.size then some (Loc.env d 0) else M.own b }
 obtain⟨C,D⟩:=Good.alloc g (.cells (n++rest).toArray T) q [] [] (by simp[q]) (by simp[q]) bh bh (λk=>k<xs.length*z) (λ_ _=>Iff.rfl) (λb m=>by simp[q,m]);generalize E:w.alloc (.cells (n++rest).toArray T)=f at *;have x:∀k,f.cell? ⟨w.heap.size,k,none⟩=(n++rest)[k]?:=λk=>by rw[<-E,cell_of_row _ w.heap.size k (n++rest).toArray T (0,0) (heap_alloc_new w _)];simp
 have hR:RepP fi q f (.sl false z xs) (.slice (some ⟨w.heap.size,0,none⟩) xs.length c):=by
  refine RepP.sl z xs _ c w.heap.size 0 (λj=>n.getD j undef) (.inr rfl) hc U B (λi e j p N F=>?_) (λi e j p N F=>?_)
  ·obtain⟨u,r,_⟩:=v i e j p N F
   have L:=(aD.1 r).1;refine⟨.inr ⟨rfl,aj⟩,?_⟩;rw[cX,x,aI L,r];simp[List.getD,r]
  ·obtain⟨u,r,hr⟩:=v i e j p N F
   simp only[List.getD,r,Option.getD_some];exact hr.mono C.ext
 have Q:Inv fi q f s a:=by
  refine⟨λt u r=>⟨(g.env t u r).1,(g.env t u r).2.good C bh⟩,g.defers,g.lbl,g.gbl,g.nodup,λi cs y B R=>(g.lh i cs y B R).good C bh bh,
   λi o y B R=>(g.gh i o y B R).good C bh bh,C.ext.gl g.gl,λb k m=>?_,λb l m=>?_,λb m=>aO (g.gblt b m) D.size⟩
  ·rcases m with m|⟨m,_⟩
   ·exact aO (g.immlt b k m) D.size
   ·subst m;rw[<-E,size_alloc'];omega
  ·simp only[q] at m
   split at m
   ·rename_i P;subst P;rw[<-E,size_alloc'];omega
   ·exact aO (g.ownlt b l m) D.size
 refine⟨q,Q.put hd ?_,D⟩
 show OwnRep fi q f (Loc.env d 0) z xs _
 refine⟨hR,.inr ⟨w.heap.size,0,c,(n++rest).toArray,T,rfl,by simp[q],by rw[<-E];exact heap_alloc_new w _,by simp;omega,λk A _ h=>?_,G,I,g.n0le⟩⟩;rcases h with h|⟨_,h⟩
 ·exact H k h
 ·omega
theorem pX {t:TypeId} {agg:Bool} {k a off:Nat} {vs:gA} {T:TypeId} (ha:fW P t=some agg) (e:agg=true->eP P t=some k)
  (g:w.heap[a]?=some (.cells vs.toArray T (0,0))) (c:if agg then off+k<=vs.length else off<vs.length) :
  (loadVar t ⟨a,off,none⟩).run P w= .ok (if agg then .agg ((vs.drop off).take k).toArray else vs.getD off undef) w:=by
 have d:∀j,w.cell? ⟨a,j,none⟩=vs[j]?:=λj=>by rw[cell_of_row w a j _ T (0,0) g];simp
 cases agg with
 | true=>
  simp only[if_true] at c ⊢;have f:((vs.drop off).take k).length=k:=by simp;omega
  have:=run_loadCells_list (P:=P) w ⟨a,off,none⟩ ((vs.drop off).take k) (λj v b=>by
   rw[lv,d];rw[cL] at b;split at b
   ·rwa [List.getElem?_drop] at b
   ·cases b)
  rw[f] at this;simp[loadVar,r9 ha,run_sizeOf' (e rfl),this]
 |false=>
  simp only[bR,if_false] at c ⊢;simp[loadVar,r9 ha,load,Sem.run,d,c,List.getD]
theorem pY {s:St} {a:Act} (j:Inv fi M w s a) {g:Bool} {b d:Nat} {h:fw} {v:Value} (i:RepE fi M w (.ptr g b d) v) (e:s.cellsAt g b=some h) :
  ∃c,v= .pointer (some ⟨c,d,none⟩)/\RepBox fi M w (if g then Loc.gh b else Loc.lh b) c h/\(if g then M.gb[b]?=some c else M.lb[b]?=some c):=by
 cases g with
 | true=>
  cases (show RepP fi M w (fc b d) v from i) with
  | ptr _ _ c f=>
   simp only[St.cellsAt,if_true] at e;split at e
   ·rename_i l k
    cases e;exact⟨c,rfl,j.gh b _ c k f,f⟩
   ·cases e
 |false=>
  obtain⟨c,f,rfl⟩:=i;exact⟨c,rfl,j.lh b h c e f,f⟩
theorem wF {agg:Bool} {k a:Nat} {j:fw} {d:gA} {mk:Nat->Loc} {p:PV} (h:dD agg k a j=some p) (m:d.length=j.length)
  (l:∀(i:Nat) (c:PV) (u:Value),j[i]?=some c->d[i]?=some u->RepC fi M w (mk i) c u) (q:∀c∈j,c.one=true) :
  (if agg then a+k<=d.length else a<d.length)/\RepP fi M w (degr p) (if agg then .agg ((d.drop a).take k).toArray else d.getD a undef):=by
 unfold dD at h;cases agg with
 | true=>
  simp only[if_true] at h ⊢;split at h
  ·rename_i r
   cases h;refine⟨aj,RepP.agg _ _ (by simp[m]) λi c u n g=>?_⟩;simp only[aB,aE] at n;obtain⟨s,b,rfl⟩:=n;rw[cL] at b g;split at b
   ·rename_i o
    rw[if_pos o] at g;rw[List.getElem?_drop] at b g;exact (l _ _ _ b g).degr1
   ·cases b
  ·cases h
 |false=>
  simp only[bR,if_false] at h ⊢;have e:a<d.length:=by rw[m];exact (aD.1 h).1
  refine⟨e,?_⟩;have f:=q p (aL h);have:=(l a p _ h (aA e)).degr1;simp only[List.getD,aA e,Option.getD_some];cases p<;>first|exact this|(simp[PV.one] at f)
theorem DL {s:St} {a:Act} (o:Inv fi M w s a) {g:Bool} {b c k:Nat} {agg:Bool} {d:fw} {p:PV} {v:Value} {t:TypeId} (ha:fW P t=some agg) (f:agg=true->eP P t=some k)
  (h:RepE fi M w (.ptr g b c) v) (n:s.cellsAt g b=some d) (m:dD agg k c d=some p):∃r,(Instr.loadAt t v).run P w= .ok r w/\RepP fi M w (degr p) r:=by
 obtain⟨u,rfl,⟨_,_,_,q,x,T,l,i,e⟩,_⟩:=pY o h n;obtain⟨j,hr⟩:=wF m i e q;exact⟨_,by simp only[Instr.loadAt,Instr.sureAddr];simp[pX ha f l j],hr⟩
theorem DM {e:PV} {a k:Nat} {agg:Bool} {p:PV} {v:Value} {t:TypeId} (ha:fW P t=some agg) (q:agg=true->eP P t=some k)
  (s:RepE fi M w (.ep e a) v) (d:dD agg k a e.cells=some p):∃r,(Instr.loadAt t v).run P w= .ok r w/\RepP fi M w p r:=by
 cases (show RepP fi M w (.ep e a) v from s) with
 | ep _ _ b o h y m hr=>
  have n:∀c∈e.cells,c.one=true:=by simpa [az] using y
  unfold dD at d;cases agg with
  | true=>
   simp only[if_true] at d;split at d
   ·rename_i z
    cases d;have f:=run_loadCells (P:=P) w ⟨b,o+a,none⟩ k (λj=>h (a+j)) (λj A=>by rw[lv,Nat.add_assoc];exact (m (a+j) _ (aA aj)).2);refine⟨.agg ((List.range k).map λj=>h (a+j)).toArray,?_,RepP.agg _ _ (by simp;omega) λi c u g l=>?_⟩
    ·simp[Instr.loadAt,Instr.sureAddr,loadVar,r9 ha,run_sizeOf' (q rfl),f]
    ·rw[cL] at g
     split at g
     ·rename_i x
      simp only[aB,List.getElem?_range x,cK,bW] at l;rw[List.getElem?_drop] at g;subst l;exact hr _ _ g
     ·cases g
   ·cases d
  |false=>
   simp only[bR,if_false] at d;refine⟨h a,?_,hr a p d⟩;simp[Instr.loadAt,Instr.sureAddr,loadVar,r9 ha,load,Sem.run,(m a p d).2]
end
end
section
open Go.RowKit
section
variable {fi:FI} {M M':Mem} {w w':World} {P:Program}
theorem ja {α:Type} (l n:List α) (a i:Nat) (h:a+n.length<=l.length) :
  (l.take a++n++l.drop (a+n.length))[i]?=if i<a then l[i]? else if i<a+n.length then n[i-a]? else l[i]?:=by
 have c:(l.take a).length=a:=by simp;omega
 by_cases ha:i<a
 ·rw[if_pos ha,aT,aI aj,cL,if_pos ha]
 ·rw[if_neg ha]
  by_cases b:i<a+n.length
  ·rw[if_pos b,aT,aN aj,c,aI aj]
  ·rw[if_neg b,aN (by simp;omega),List.getElem?_drop]
   congr 1
   simp;omega
theorem kM {α:Type} (l n:List α) (a:Nat) (h:a+n.length<=l.length):(l.take a++n++l.drop (a+n.length)).length=l.length:=by simp;omega
theorem size_setRow' (w:World) (g:Nat) (a:Array Value):(w.setRow g a).heap.size=w.heap.size:=by simp[World.setRow]
theorem Good.setRow {c:Nat} {p f:Array Value} {T:TypeId} {r:Nat×Nat} (q:w.heap[c]?=some (.cells p T r)) (m:M'.lb=M.lb) (o:M'.gb=M.gb) (a:Nat->Prop)
  (u:∀b k,M'.imm b k↔M.imm b k\/(b=c/\a k)) (n:∀k,M.imm c k->f[k]?=p[k]?) (x:∀b,b≠c->M'.own b=M.own b) (s:Loc->Prop) (v:Nat->Prop)
  (z:∀l,M.own c=some l->s l) (t:M.own c=none->v c)
  (y:(∀i,¬s (Loc.gh i 0)->M'.st i=M.st i)/\∀b,(M.st b).1<=(M'.st b).1/\((M'.st b).1=(M.st b).1->M'.st b=M.st b):=by exact⟨λ_ _=>rfl,λ_=>⟨cW _,λ_=>rfl⟩⟩):Good M w M' (w.setRow c f) s v:=by
 have g:∀b,b≠c->(w.setRow c f).heap[b]?=w.heap[b]?:=λb h=>setRow_other w c b f h
 refine⟨⟨λi k h=>by rw[o];exact h,λb k h=>(u b k).2 (.inl h),λb k h=>?_,λb _=>y.2 b,λb k _=>?_⟩,by rw[size_setRow'];exact cW _,λi k h=>by rw[m];exact h,λb l h A=>?_,λb _ hn h=>?_,y.1⟩
 ·by_cases j:b=c
  ·subst j
   rw[cell_setRow_same w b k p f T r q,n k h,cell_of_row w b k p T r q]
  ·exact cell_setRow_other w c f ⟨b,k,none⟩ j
 ·by_cases j:b=c
  ·subst j
   simp[World.frozen?,q,setRow_heap w b p f T r q]
  ·exact m8 (g b j)
 ·have d:b≠c:=λe=>A (z l (by rw[<-e];exact h))
  refine⟨by rw[x b d];exact h,g b d,λk n h=>?_,by rw[m];exact id,by rw[o];exact id⟩;rcases (u b k).1 h with h|⟨h,_⟩
  ·exact n h
  ·exact d h
 ·have d:b≠c:=λe=>hn (by rw[e];exact t (by rw[<-e];exact h))
  refine⟨g b d,λk n h=>?_,by rw[x b d];exact h⟩;rcases (u b k).1 h with h|⟨h,_⟩
  ·exact n h
  ·exact d h
theorem Kp.setRow {n:Loc->Prop} {o:Nat->Prop} {c:Nat} {d:Array Value} (g:Good M w M' (w.setRow c d) n o) (j:M'.lb=M.lb) (l:M'.gb=M.gb) (a:Nat->Prop)
  (r:∀b k,M'.imm b k↔M.imm b k\/(b=c/\a k)) (q:∀b,b≠c->M'.own b=M.own b) (s:c∈M.lb\/c∈M.gb\/M.own c≠none)
  (i:M.own c=none->M'.own c=none) (p:(∃k,a k)->M.own c≠none) (m:M'.ds=M.ds:=by rfl):Kp M w M' (w.setRow c d) where
 os:=rfl
 tape:=rfl
 output:=rfl
 size:=g.size
 ext:=g.ext
 block:=λk _ v u t=>setRow_other w c k d (λe=>by
  subst e;rcases s with h|h|h
  ·exact v h
  ·exact u h
  ·exact h t)
 lbn:=λk h=> .inl (by rw[<-j];exact h)
 gbn:=λk h=> .inl (by rw[<-l];exact h)
 ownn:=λk _ h=>by
  by_cases f:k=c
  ·subst f;exact i h
  ·rw[q k f];exact h
 immn:=λb k h=>by
  rcases (r b k).1 h with h|⟨h,f⟩
  ·exact .inl h
  ·subst h;exact .inr (.inr (p ⟨k,f⟩))
 ds:= .same m
theorem lG {l:gj} (h:l.Nodup) {i j k:Nat} (a:l[i]?=some k) (c:l[j]?=some k):i=j:=by have b:=(aD.1 a).1;exact (List.getElem?_inj b h).1 (a.trans c.symm)
theorem DN {s:St} {a:Act} (n:Inv fi M w s a) {g:Bool} {b m k:Nat} {cs:fw} {p:PV} {u v:Value} {t:TypeId} (hs:eP P t=some k)
  (hp:RepE fi M w (.ptr g b m) u) (hc:s.cellsAt g b=some cs) (hv:RepAt fi M w Loc.lim p v) (hk:p.cells.length=k) (aF:m+k<=cs.length) (h1:az p=true) :
  ∃M' w',(Instr.storeAt t u v).run P w= .ok () w'/\Inv fi M' w' (s.setCells g b (au cs m p.cells)) a/\Kp M w M' w':=by
 obtain⟨q,rfl,⟨aD,av,ap,I,F,T,hh,hl,ab⟩,z⟩:=pY n hp hc;obtain⟨H,S,U,aA,aB⟩:=hv.cells h1;have ax:∀c∈p.cells,c.one=true:=by simpa [az] using h1
 have N:=run_storeCells_at P q m T H 0 F.toArray w hh (by simp;omega) aB;simp only[cG] at N;generalize ao:(F.toArray.toList.take m++H++F.toArray.toList.drop (m+H.length)).toArray=D at N;have Q:D=(F.take m++H++F.drop (m+H.length)).toArray:=by rw[<-ao]
 obtain⟨G⟩:Nonempty (Good M w M (w.setRow q D) (λ_=>False) (λb=>b=q)):=
  ⟨Good.setRow hh rfl rfl (λ_=>False) bh (λk h=>absurd h (av k)) (λ_ _=>rfl) _ _ (λl h=>by rw[ap] at h;cases h) (λ_=>rfl)⟩
 have k1:Kp M w M (w.setRow q D):=Kp.setRow G rfl rfl (λ_=>False) bh (λ_ _=>rfl) (by
  cases g with
  |true=>exact .inr (.inl (aL z))
  |false=>exact .inl (aL z)) id (λ⟨_,h⟩=>h.elim)
 have O:(F.take m++H++F.drop (m+H.length)).length=F.length:=kM _ _ _ aj
 let mk:Nat->Loc:=if g then Loc.gh b else Loc.lh b
 have an:∀i j d,M.lb[i]?=some d->M.gb[j]?=some d->False:=λi j d r hj=>by have:=n.nodup;rw[cT] at this;exact this.2.2 d (aL r) d (aL hj) rfl
 have ad:M.lb.Nodup:=(cT.1 n.nodup).1;have al:M.gb.Nodup:=(cT.1 n.nodup).2.1
 let f:Loc->Loc:=j7 (λi=>mk (m+i))
 have L:RepBox fi (M.rel f) (w.setRow q D) mk q (au cs m p.cells):=by
  refine⟨by rw[size_setRow'];exact aD,av,by simp[Mem.rel,ap],λc B=>?_,F.take m++H++F.drop (m+H.length),T,by rw[setRow_heap w q _ D T (0,0) hh,Q],by rw[O];rw[au,kM _ _ _ aj];exact hl,λi c x C A=>?_⟩
  ·simp only[au,cE] at B
   rcases B with (B|B)|B
   ·exact I c (cQ B)
   ·exact ax c B
   ·exact I c (List.mem_of_mem_drop B)
  ·rw[au,ja _ _ _ _ aj] at C
   rw[ja _ _ _ _ aj,U] at A
   have old:cs[i]?=some c->F[i]?=some x->RepC fi (M.rel f) (w.setRow q D) (mk i) c x:=λh2 h3=>
    ((ab i c x h2 h3).good G bh).rel _ (by cases g<;>rfl)
   by_cases ha:i<m
   ·rw[if_pos ha] at C A;exact old C A
   ·rw[if_neg ha] at C A
    by_cases y:i<m+p.cells.length
    ·rw[if_pos y] at C A
     refine ((aA _ c x C A).good G bh).rel _ ?_
     show mk (m+(i-m))=mk i
     congr 1;omega
    ·rw[if_neg y] at C A;exact old C A
 refine⟨M.rel f,w.setRow q D,?_,?_,k1.trans (Kp.rel _ _ _)⟩
 ·have aC:v.cells.size=k:=by rw[S];simp[U,hk]
  have aa:(storeCells ⟨q,m,none⟩ v.cells.toList).run P w= .ok () (w.setRow q D):=by rw[S];exact N
  simp[Instr.storeAt,Instr.sureAddr,storeVar,run_sizeOf' hs,aC,aa]
 ·cases g with
  | true=>
   refine⟨λt u X=>⟨(n.env t u X).1,((n.env t u X).2.good G bh).rel _ (λ_=>rfl)⟩,n.defers,n.lbl,by simp[St.setCells,Mem.rel,n.gbl],n.nodup,?_,?_,G.ext.gl n.gl,λb k h=>by rw[size_setRow'];exact n.immlt b k h,?_,λb h=>by rw[size_setRow'];exact n.gblt b h⟩
   ·intro i R d r y
    exact ((n.lh i R d r y).good G (λe=>by subst e;exact an _ _ _ y z) bh).rel _ (λ_=>rfl)
   ·intro i o d r y
    simp only[St.setCells,if_true] at r;rw[cM] at r;by_cases E:b=i
    ·subst E
     simp only[if_true] at r;split at r
     ·cases r
      have:d=q:=by rw[show M.gb[b]?=some d from y] at z;exact cZ z
      subst this;exact L
     ·cases r
    ·rw[if_neg E] at r
     exact ((n.gh i o d r y).good G (λe=>by subst e;exact E (lG al z y)) bh).rel _ (λ_=>rfl)
   ·intro b l y
    simp only[Mem.rel,aE] at y;obtain⟨l',h2,_⟩:=y;rw[size_setRow'];exact n.ownlt b l' h2
  | false=>
   refine⟨λt u X=>⟨(n.env t u X).1,((n.env t u X).2.good G bh).rel _ (λ_=>rfl)⟩,n.defers,by simp[St.setCells,Mem.rel,n.lbl],n.gbl,n.nodup,?_,?_,G.ext.gl n.gl,λb k h=>by rw[size_setRow'];exact n.immlt b k h,?_,λb h=>by rw[size_setRow'];exact n.gblt b h⟩
   ·intro i R d r y
    simp only[St.setCells,bR,if_false] at r;rw[cM] at r;by_cases E:b=i
    ·subst E
     simp only[if_true] at r;split at r
     ·cases r
      have:d=q:=by rw[show M.lb[b]?=some d from y] at z;exact cZ z
      subst this;exact L
     ·cases r
    ·rw[if_neg E] at r
     exact ((n.lh i R d r y).good G (λe=>by subst e;exact E (lG ad z y)) bh).rel _ (λ_=>rfl)
   ·intro i o d r y
    exact ((n.gh i o d r y).good G (λe=>by subst e;exact an _ _ _ z y) bh).rel _ (λ_=>rfl)
   ·intro b l y
    simp only[Mem.rel,aE] at y;obtain⟨l',h2,_⟩:=y;rw[size_setRow'];exact n.ownlt b l' h2
end
end
section
open Go.RowKit
section
variable {fi:FI} {M M':Mem} {w w':World} {P:Program}
theorem RepC.repAt {mk:Nat->Loc} {p:PV} {v:Value} (h:RepC fi M w (mk 0) p v) (a:p.one=true):RepAt fi M w mk p v:=by
 unfold RepC at h;split at h
 ·exact h
 ·exact h.repE.repAt
theorem DO {s:St} {a:Act} (q:Inv fi M w s a) {g:Bool} {b m:Nat} {U:fw} {p:PV} {v:Value} {t:TypeId} (ha:fW P t=some false)
  (hp:RepE fi M w (.ptr g b m) v) (hc:s.cellsAt g b=some U) (hg:U[m]?=some p) {d:Nat} (hd:d<a.tmps.size) :
  ∃r M',(Instr.loadAt t v).run P w= .ok r w/\Inv fi M' w ((s.setCells g b (au U m [aw p])).put d p) (a.put (some d) r)/\Kp M w M' w:=by
 obtain⟨R,rfl,⟨ax,av,ap,F,S,T,hh,hl,D⟩,H⟩:=pY q hp hc;have aF:m<U.length:=(aD.1 hg).1;have G:m<S.length:=aj;have E:=F p (aL hg);have C:=pX (P:=P) (k:=1) ha bh hh (by simpa using G);simp only[bR,if_false] at C;have O:S.getD m undef=S[m]:=by simp[List.getD,aA G]
 rw[O] at C
 let mk:Nat->Loc:=if g then Loc.gh b else Loc.lh b
 let f:Loc->Loc:=λl=>if l=mk m then .lim 0 else l
 have an:∀i,i≠m->f (mk i)=mk i:=λi n=>by
  have:mk i≠mk m:=by
   show (if g then Loc.gh b else Loc.lh b) i≠(if g then Loc.gh b else Loc.lh b) m
   cases g<;>simp[n]
  simp only[f,if_neg this]
 have N:∀t i,f (Loc.env t i)=Loc.env t i:=λt i=>by
  have:Loc.env t i≠mk m:=by
   show _≠(if g then Loc.gh b else Loc.lh b) m
   cases g<;>simp
  simp only[f,if_neg this]
 have ab:∀i j,(g=true\/i≠b)->f (Loc.lh i j)=Loc.lh i j:=λi j h=>by
  have:Loc.lh i j≠mk m:=by
   show _≠(if g then Loc.gh b else Loc.lh b) m
   cases g with
   |true=>simp
   |false=>simp at h;simp[h]
  simp only[f,if_neg this]
 have al:∀i j,(g=false\/i≠b)->f (Loc.gh i j)=Loc.gh i j:=λi j h=>by
  have:Loc.gh i j≠mk m:=by
   show _≠(if g then Loc.gh b else Loc.lh b) m
   cases g with
   |false=>simp
   |true=>simp at h;simp[h]
  simp only[f,if_neg this]
 have ao:(aw p).one=true:=by cases p<;>first|rfl|exact E
 have L:RepBox fi (M.rel f) w mk R (au U m [aw p]):=by
  refine⟨ax,av,by simp[Mem.rel,ap],λc y=>?_,S,T,hh,by rw[au,kM _ _ _ (by simp;omega)];exact hl,λi c x z X=>?_⟩
  ·simp only[au,cE,List.mem_singleton] at y
   rcases y with (y|y)|y
   ·exact F c (cQ y)
   ·subst y;exact ao
   ·exact F c (List.mem_of_mem_drop y)
  ·rw[au,ja _ _ _ _ (by simp;omega)] at z
   by_cases ad:i=m
   ·subst ad
    simp at z;subst z;exact ((D i p x hg X).degr1.mono (Ext.rel M w f)).repC
   ·refine (D i c x ?_ X).rel f (an i ad)
    split at z
    ·exact z
    ·split at z
     ·rename_i h1 h2;simp at h2;omega
     ·exact z
 have aa:RepAt fi (M.rel f) w Loc.lim p S[m]:=by
  refine RepC.repAt ?_ E;exact (D m p _ hg (aA G)).rel f (by
   show f ((if g then Loc.gh b else Loc.lh b) m)=_
   simp only[f,mk,if_true])
 have aC:∀i j e,M.lb[i]?=some e->M.gb[j]?=some e->False:=λi j e n hj=>by have:=q.nodup;rw[cT] at this;exact this.2.2 e (aL n) e (aL hj) rfl
 have I:∀b l,(M.rel f).own b=some l->b<w.heap.size:=λb l B=>by simp only[Mem.rel,aE] at B;obtain⟨l',h2,_⟩:=B;exact q.ownlt b l' h2
 have aB:Inv fi (M.rel f) w (s.setCells g b (au U m [aw p])) a:=by
  cases g with
  | true=>
   refine⟨λt u O=>⟨(q.env t u O).1,(q.env t u O).2.rel _ (N t)⟩,q.defers,q.lbl,by simp[St.setCells,Mem.rel,q.gbl],q.nodup,?_,?_,q.gl,q.immlt,I,q.gblt⟩
   ·exact λi Q e n B=>(q.lh i Q e n B).rel _ (λj=>ab i j (.inl rfl))
   ·intro i o e n B
    simp only[St.setCells,if_true] at n;rw[cM] at n;by_cases A:b=i
    ·subst A
     simp only[if_true] at n;split at n
     ·cases n
      have:e=R:=by rw[show M.gb[b]?=some e from B] at H;exact cZ H
      subst this;exact L
     ·cases n
    ·rw[if_neg A] at n
     exact (q.gh i o e n B).rel _ (λj=>al i j (.inr (Ne.symm A)))
  | false=>
   refine⟨λt u O=>⟨(q.env t u O).1,(q.env t u O).2.rel _ (N t)⟩,q.defers,by simp[St.setCells,Mem.rel,q.lbl],q.gbl,q.nodup,?_,?_,q.gl,q.immlt,I,q.gblt⟩
   ·intro i Q e n B
    simp only[St.setCells,bR,if_false] at n;rw[cM] at n;by_cases A:b=i
    ·subst A
     simp only[if_true] at n;split at n
     ·cases n
      have:e=R:=by rw[show M.lb[b]?=some e from B] at H;exact cZ H
      subst this;exact L
     ·cases n
    ·rw[if_neg A] at n
     exact (q.lh i Q e n B).rel _ (λj=>ab i j (.inr (Ne.symm A)))
   ·exact λi o e n B=>(q.gh i o e n B).rel _ (λj=>al i j (.inl rfl))
 obtain⟨h2,k2⟩:=aB.putLim hd aa;exact⟨S[m],_,by simp only[Instr.loadAt,Instr.sureAddr];simp[C],h2,(Kp.rel M w f).trans k2⟩
theorem sF {z:Nat} {a:fw} {v:Value} (g:0<z) (h:RepP fi M w (.sl false z a) v) :
  ∃(A:Option Addr) (c b o:Nat) (m:gA),v= .slice A a.length c/\a.length<=c/\m.length=a.length*z/\(a=[]\/A=some ⟨b,o,none⟩)/\(∀e∈a,e.cells.length=z)/\(∀e∈a,az e=true)/\
   (∀(j:Nat) (u:Value),m[j]?=some u->M.imm b (o+j)/\w.cell? ⟨b,o+j,none⟩=some u/\u.oneCell'=true)/\
   (∀(i:Nat) (e:PV) (j:Nat) (p:PV),a[i]?=some e->e.cells[j]?=some p->∃u,m[i*z+j]?=some u/\RepP fi M w p u):=by
 cases h with
 | sl _ _ A c b o s E D n B C hr=>
  refine⟨A,c,b,o,(List.range (a.length*z)).map s,rfl,D,bh,E,n,B,λj u t=>?_,λi e j p f k=>?_⟩
  ·simp only[aB,aE,aD,List.length_range,List.getElem_range] at t
   obtain⟨_,⟨d,rfl⟩,rfl⟩:=t;have l:j/z<a.length:=by rw[Nat.div_lt_iff_lt_mul g];exact d
   have f:=aA l;have x:=n _ (cD l);have q:j%z<(a[j/z]).cells.length:=by rw[x];exact Nat.mod_lt _ g
   have k:=aA q;have e:j/z*z+j%z=j:=by rw[Nat.mul_comm];exact Nat.div_add_mod j z
   have r:=C _ _ _ _ f k;have y:=hr _ _ _ _ f k;rw[e] at r y;refine⟨r.1,r.2,(y.cells1 ?_).2⟩;have:=B _ (cD l);simp only[az,bV] at this;exact this _ (cD q)
  ·have x:=n _ (aL f)
   have q:=(aD.1 k).1;have l:=(aD.1 f).1;have d:i*z+j<a.length*z:=by have:(i+1)*z<=a.length*z:=cY z l;rw[Nat.add_mul] at this;omega
   exact⟨s (i*z+j),by simp[d],hr _ _ _ _ f k⟩
theorem wG {t ty e:TypeId} {i:TypeInfo} (b:P.underlying t=some (.slice e)) (d:P.info? e=some i) (A a:Option Addr) (n c f:Nat) (hn:n<=c) (w:World) :
  (Builtin.append_ #[t,t] ty #[.slice A n c,.slice a 0 f]).run P w= .ok (.slice A n c) w:=by
 cases A<;>cases a<;>simp[Builtin.append_,run_underlying b,sizeOf,typeInfo,d,Builtin.lenOf,Builtin.firstCells,hn,storeCells,loadCells,loadCellsFrom]
theorem wH {t ty e p:TypeId} {i:TypeInfo} (r:P.underlying t=some (.slice e)) (v:P.info? e=some i)
  (b o n c:Nat) (d:Array Value) (x:w.heap[b]?=some (.cells d p (0,0))) (l:Addr) (m q:Nat) (a:gA) (s:a.length=m*i.size)
  (g:∀j u,a[j]?=some u->w.cell? (l.add j)=some u) (z:∀u∈a,u.oneCell'=true) (f:n+m<=c) (k:o+n*i.size+a.length<=d.size) :
  (Builtin.append_ #[t,t] ty #[.slice (some ⟨b,o,none⟩) n c,.slice (some l) m q]).run P w=
   .ok (.slice (some ⟨b,o,none⟩) (n+m) c) (w.setRow b (d.toList.take (o+n*i.size)++a++d.toList.drop (o+n*i.size+a.length)).toArray):=by
 have y:=run_firstCells_some (P:=P) w i.size m l m q a s g;have h:=run_storeCells_at P b (o+n*i.size) p a 0 d w x (by simpa using k) z;simp only[cG] at h;simp[Builtin.append_,run_underlying r,sizeOf,typeInfo,v,Builtin.lenOf,f,y,lv,h]
theorem DP {s:St} {a:Act} (L:Inv fi M w s a) {t ty e:TypeId} {i:TypeInfo} {zv:Value} (ht:P.underlying t=some (.slice e)) (hi:P.info? e=some i) (aF:i.zero=some zv)
  (aV:zv.cells.size=i.size) (aX:0<i.size) (bx:0<i.bytes) {g ys:fw} {v:Value} (hv:OwnRep fi M w (Loc.lim 0) i.size g v)
  {A2:Option Addr} {c2 b2 o2:Nat} {m:gA} (bK:ys.length<=c2) (y:m.length=ys.length*i.size) (bC:ys=[]\/A2=some ⟨b2,o2,none⟩) (aT:∀e∈ys,e.cells.length=i.size) (bH:∀e∈ys,az e=true)
  (aG:∀(j:Nat) (u:Value),m[j]?=some u->True/\w.cell? ⟨b2,o2+j,none⟩=some u/\u.oneCell'=true)
  (bb:∀(k:Nat) (e:PV) (j:Nat) (p:PV),ys[k]?=some e->e.cells[j]?=some p->∃u,m[k*i.size+j]?=some u/\RepP fi M w p u)
  (bw:(g.length+ys.length)*i.bytes<=maxBytes) {d:Nat} (hd:d<a.tmps.size) :
  ∃r M' w',(Builtin.append_ #[t,t] ty #[v,.slice A2 ys.length c2]).run P w= .ok r w'/\Inv fi M' w' (s.put d (.sl true i.size (g++ys))) (a.put (some d) r)/\Kp M w M' w':=by
 obtain⟨A,c,b,o,us,rfl,hc,z,hA,aU,bI,aH,bc⟩:=sF aX hv.1;by_cases hy:ys=[]
 ·subst hy
  rw[bE];obtain⟨N,k2⟩:=L.putLim hd (p:= .sl true i.size g) (v:= .slice A g.length c) hv;exact⟨_,_,w,wG ht hi A A2 _ _ _ hc w,N,k2⟩
 ·have aS:=bC.resolve_left hy
  subst aS;have bk:0<ys.length:=List.length_pos_iff.2 hy;have ao:(g.length+ys.length)*i.bytes<=140737488355328:=bw;have bF:((g.length+ys.length:Nat):Int)<=9223372036854775807:=by have:(g.length+ys.length)*1<=(g.length+ys.length)*i.bytes:=Nat.mul_le_mul_left _ bx;omega
  have G:∀(j:Nat) (u:Value),m[j]?=some u->w.cell? ((⟨b2,o2,none⟩:Addr).add j)=some u:=λj u q=>by rw[lv];exact (aG j u q).2.1
  have aa:∀e∈g++ys,e.cells.length=i.size:=λe Q=>by
   rcases cE.1 Q with h|h
   ·exact aU e h
   ·exact aT e h
  have al:∀e∈g++ys,az e=true:=λe Q=>by
   rcases cE.1 Q with h|h
   ·exact bI e h
   ·exact bH e h
  have H:∀(k:Nat) (e:PV) (j:Nat) (p:PV),(g++ys)[k]?=some e->e.cells[j]?=some p->∃u,(us++m)[k*i.size+j]?=some u/\RepP fi M w p u:=by
   intro k e j p Q hp;by_cases hk:k<g.length
   ·rw[aI hk] at Q
    obtain⟨u,q,hr⟩:=bc k e j p Q hp;exact⟨u,by rw[aI (aD.1 q).1];exact q,hr⟩
   ·rw[aN aj] at Q
    obtain⟨u,q,hr⟩:=bb _ e j p Q hp;refine⟨u,?_,hr⟩;have:us.length<=k*i.size+j:=by rw[z];have:=cY i.size (show g.length<=k by omega);omega
    rw[aN this,<-q]
    congr 1
    rw[z,Nat.sub_mul];have:=cY i.size (show g.length<=k by omega);omega
  have X:∀oc,g.length+ys.length<=grownCap w (g.length+ys.length) oc e->
    (Builtin.append_ #[t,t] ty #[.slice A g.length c,.slice (some ⟨b2,o2,none⟩) ys.length c2]).run P w=
     .ok (.slice (some ⟨w.heap.size,0,none⟩) (g.length+ys.length) (grownCap w (g.length+ys.length) oc e))
      (w.drew.alloc (.cells ((us++m)++(Builtin.zeroCells zv.cells (grownCap w (g.length+ys.length) oc e-(g.length+ys.length))).toList).toArray e))->
    ∃r M' w',(Builtin.append_ #[t,t] ty #[.slice A g.length c,.slice (some ⟨b2,o2,none⟩) ys.length c2]).run P w= .ok r w'/\Inv fi M' w' (s.put d (.sl true i.size (g++ys))) (a.put (some d) r)/\Kp M w M' w':=by
   intro oc aK O;obtain⟨aC,k1⟩:=L.drew;have aW:∀n,(Builtin.zeroCells zv.cells n).toList.length=n*i.size:=λn=>by rw[Array.length_toList,size_zeroCells,aV]
   obtain⟨M',aR,k2⟩:=Inv.newOwn aC hd aa al (us++m) (Builtin.zeroCells zv.cells (grownCap w (g.length+ys.length) oc e-(g.length+ys.length))).toList
    (by rw[aQ,aQ,z,y,Nat.add_mul]) (λk e j p Q hp=>by obtain⟨u,q,hr⟩:=H k e j p Q hp;exact⟨u,q,hr.mono k1.ext⟩)
    (grownCap w (g.length+ys.length) oc e) (by rw[aQ];exact aK) (by rw[aQ,z,y,aW,<-Nat.add_mul,<-Nat.add_mul];exact cY _ aj) e _ rfl
   refine⟨_,M',_,O,?_,k1.trans k2⟩;rw[aQ] at aR;exact aR
  rcases hv.2 with aJ|⟨C,F,c',R,T,aZ,D,hh,aM,aL,bd,be,bi⟩
  ·injection aJ with e1 e2 e3
   subst e1;have aY:g=[]:=List.eq_nil_of_length_eq_zero e2;subst aY;subst e3;simp only[cF,cX] at *;have ba:us=[]:=List.eq_nil_of_length_eq_zero (by simpa using z);subst ba;refine X 0 (grownCap_ge _ _ _ _) ?_;have:=run_append_nil (P:=P) w t ty e i zv ht hi aF ⟨b2,o2,none⟩ ys.length c2 m y G bk aj aj;rw[this];have aB:∀(l:gA) (x:Array Value),l.toArray++x=(l++x.toList).toArray:=λl x=>by apply Array.ext';simp
   simp[aB]
  ·injection aZ with e1 e2 e3
   subst e3;subst e1;have aO:g=[]\/(b=C/\o=F):=hA.imp id λh=>by
    have:=cZ h;injection this with h1 N
    exact⟨h1.symm,N.symm⟩
   have an:∀(j:Nat) (u:Value),us[j]?=some u->w.cell? ((⟨C,F,none⟩:Addr).add j)=some u:=λj u q=>by
    rcases aO with h|⟨N,h3⟩
    ·subst h;simp at z;subst z;simp at q
    ·subst N;subst h3;rw[lv];exact (aH j u q).2.1
   by_cases E:g.length+ys.length<=c
   ·have S:F+g.length*i.size+m.length<=R.size:=by
     rw[y,Nat.add_assoc,<-Nat.add_mul];have:=cY i.size E;omega
    have O:=wH (P:=P) (ty:=ty) ht hi C F g.length c R hh ⟨b2,o2,none⟩ ys.length c2 m y G (λu q=>by obtain⟨j,hj,hx⟩:=cP.1 q;exact (aG j u (by rw[aA hj,hx])).2.2) E S;generalize ad:(R.toList.take (F+g.length*i.size)++m++R.toList.drop (F+g.length*i.size+m.length))=B at O;have ab:∀k,B[k]?=if k<F+g.length*i.size then R[k]? else if k<F+g.length*i.size+m.length then m[k-(F+g.length*i.size)]? else R[k]?:=λk=>by rw[<-ad,ja _ _ _ _ (by simpa using S)];simp
    have ap:B.length=R.size:=by rw[<-ad,kM _ _ _ (by simpa using S)];simp
    let f:Nat->Prop:=λk=>F+g.length*i.size<=k/\k<F+(g.length+ys.length)*i.size
    let M1:Mem:={M with imm:=λb k=>M.imm b k\/(b=C/\f k),own:=λb=>if b=C then some (Loc.env d 0) else M.own b }
    have av:∀k,M.imm C k->B.toArray[k]?=R[k]?:=λk hk=>by
     rw[List.getElem?_toArray,ab];split
     ·rfl
     ·rename_i h
      have aK:F+c*i.size<=k:=by
       rcases Nat.lt_or_ge k (F+c*i.size) with N|N
       ·exact absurd hk (aL k aj N)
       ·exact N
      have:=cY i.size E;rw[Nat.add_mul] at this;rw[if_neg aj]
    have g1:Good M w M1 (w.setRow C B.toArray) (λl=>l=Loc.lim 0) (λ_=>False):=
     Good.setRow (M:=M) (M':=M1) hh rfl rfl f (λ_ _=>Iff.rfl) av (λb I=>by simp[M1,I]) _ _ (λl h=>by rw[D] at h;cases h;rfl) (λh=>by rw[D] at h;cases h)
    have k1:Kp M w M1 (w.setRow C B.toArray):=Kp.setRow g1 rfl rfl f (λ_ _=>Iff.rfl) (λb I=>by simp[M1,I]) (.inr (.inr (by rw[D];simp))) (λh=>by rw[D] at h;cases h) (λ_=>by rw[D];simp);have U:C<w.heap.size:=L.ownlt C _ D;have aC:Inv fi M1 (w.setRow C B.toArray) s a:=by
     refine⟨λt u q=>⟨(L.env t u q).1,(L.env t u q).2.good g1 bh⟩,L.defers,L.lbl,L.gbl,L.nodup,λi R aE h1 N=>(L.lh i R aE h1 N).good g1 bh bh,
      λi o aE h1 N=>(L.gh i o aE h1 N).good g1 bh bh,g1.ext.gl L.gl,λb k I=>?_,λb l I=>?_,λb I=>by rw[size_setRow'];exact L.gblt b I⟩
     ·rw[size_setRow']
      rcases I with I|⟨I,_⟩
      ·exact L.immlt b k I
      ·subst I;exact U
     ·rw[size_setRow']
      simp only[M1] at I;split at I
      ·rename_i bv;subst bv;exact U
      ·exact L.ownlt b l I
    have ax:∀k,(w.setRow C B.toArray).cell? ⟨C,k,none⟩=B[k]?:=λk=>by rw[cell_setRow_same w C k R _ T (0,0) hh];simp
    have aP:∀(j:Nat) (u:Value),(us++m)[j]?=some u->M1.imm C (F+j)/\(w.setRow C B.toArray).cell? ⟨C,F+j,none⟩=some u:=by
     intro j u q;rw[ax,ab];by_cases hj:j<us.length
     ·rw[aI hj] at q
      rcases aO with h|⟨N,h3⟩
      ·subst h;simp at z;rw[z] at hj;simp at hj
      ·subst N;subst h3
       have:=aH j u q;refine⟨.inl this.1,?_⟩;rw[if_pos aj];have h4:=this.2.1;rw[cell_of_row w b _ R T (0,0) hh] at h4;exact h4
     ·rw[aN aj] at q
      have bo:=(aD.1 q).1;rw[y] at bo;have bJ:(g.length+ys.length)*i.size=g.length*i.size+ys.length*i.size:=Nat.add_mul _ _ _;refine⟨.inr ⟨rfl,aj,aj⟩,?_⟩;rw[if_neg aj,if_pos aj,<-q]
      congr 1;omega
    refine⟨_,M1,_,O,aC.put hd ?_,k1⟩
    show OwnRep fi M1 _ (Loc.env d 0) i.size (g++ys) _
    refine⟨?_,.inr ⟨C,F,c,B.toArray,T,by rw[aQ],by simp[M1],by rw[setRow_heap w C _ _ T (0,0) hh],by simp[ap];exact aM,λk hk bl h=>?_,bd,be,bi⟩⟩
    ·have hl:=aQ (as:=g) (bs:=ys)
     rw[<-hl];refine RepP.sl i.size (g++ys) _ c C F (λj=>(us++m).getD j undef) (.inr rfl) (by rw[hl];exact E) aa al (λk e j p Q hp=>?_) (λk e j p Q hp=>?_)
     ·obtain⟨u,q,_⟩:=H k e j p Q hp
      obtain⟨h3,h4⟩:=aP _ u q;exact⟨h3,by rw[h4];simp[List.getD,q]⟩
     ·obtain⟨u,q,hr⟩:=H k e j p Q hp
      simp only[List.getD,q,Option.getD_some];exact hr.mono g1.ext
    ·rw[aQ] at hk
     rcases h with h|⟨_,h⟩
     ·exact aL k (by have:=cY i.size (Nat.le_add_right g.length ys.length);omega) bl h
     ·have:=h.2;omega
   ·refine X c (grownCap_ge _ _ _ _) ?_
    have:=run_append_grow (P:=P) w t ty e i zv ht hi aF ⟨C,F,none⟩ g.length c us z an ⟨b2,o2,none⟩ ys.length c2 m y G aj bF (growslice_fits aj ao);rw[this];have aB:∀(l:gA) (x:Array Value),l.toArray++x=(l++x.toList).toArray:=λl x=>by apply Array.ext';simp
    simp[aB]
theorem DQ {s:St} {a:Act} (Q:Inv fi M w s a) {t ty e:TypeId} {i:TypeInfo} {E:Value} {z b:Nat} (L:P.underlying t=some (.slice e)) (N:P.info? e=some i) (l:i.zero=some E)
  (o:i.size=z) (y:i.bytes=b) (m:E.cells.size=z) (c:0<z) (B:0<b) {h g:fw} {v x:Value} (H:OwnRep fi M w (Loc.lim 0) z h v)
  (G:RepP fi M w (.sl false z g) x) (A:(h.length+g.length)*b<=maxBytes) {d:Nat} (O:d<a.tmps.size) :
  ∃r M' w',(Builtin.append_ #[t,t] ty #[v,x]).run P w= .ok r w'/\Inv fi M' w' (s.put d (.sl true z (h++g))) (a.put (some d) r)/\Kp M w M' w':=by
 subst o;subst y;obtain⟨U,S,T,R,F,rfl,q,f,C,k,D,n,p⟩:=sF c G;exact DP Q L N l m c B H q f C k D (λj u I=>⟨trivial,(n j u I).2⟩) p A O
end
end
section
open Go.RowKit
variable {t:TypeId} {b r:Bool} {v:Value}
def jb (P:Program) (t:TypeId) (b:Bool):Bool:=
 match P.underlying t with
 |some (.int _)=> !b
 |some .bool=>b
 |_=>false
def mw (P:Program):Nat->List Field->fS->Bool
 |_,[],[]=>true
 | n, f :: l, b :: r => f.name != "_" && f.offset == n && jb P f.type b && mw P (n + 1) l r
 |_,_,_=>false
def nQ (P:Program) (t:TypeId) (a:fS):Bool:=
 match P.underlying t with
 |some (.struct c)=>mw P 0 c.toList a&& !P.stoodInHeld t
 |some (.array m e)=>a.all (λb=>jb P e b)&&m==a.length&&eP P e==some 1
 |_=>false
section
variable {fi:FI} {M M':Mem} {w w':World} {P:Program}
theorem DS (h:jb P t b=true):fW P t=some false:=by unfold jb at h;unfold fW;split at h<;>first|(rename_i a;rw[a])|cases h
theorem nR (h:jb P t b=true) {xs:Array Value} {off:Nat} (a:xs[off]?=some v) (w:World):(part t xs off).run P w= .ok v w:=by simp[part,r9 (DS h),a]
theorem wI (h:jb P t b=true) {p q:PV} {u:Value} (a:jB b p q=some r) (g:RepP fi M w p u) (f:RepP fi M w q v) (d:Nat) (c:World) :
  (Op.equalIn (d+1) t u v).run P c= .ok r c:=by
 unfold jB at a;split at a
 ·split at a
  ·rename_i i
   subst i;cases a;cases g;cases f;unfold jb at h;split at h
   ·rename_i e;exact run_equalIn_int c d t _ _ _ _ e
   ·cases h
   ·cases h
  ·cases a
 ·cases a
  cases g;cases f;unfold jb at h;split at h
  ·cases h
  ·rename_i e;exact run_equalIn_bool c d t _ _ e
  ·cases h
 ·cases a
theorem DT {m l:gA} (d:Nat) (A:World):∀(n:Nat) (j:List Field) (g:fS) (a b:fw),mw P n j g=true->fj g a b=some r->
  (∀(i:Nat) (c:PV),a[i]?=some c->∃u,m[n+i]?=some u/\RepP fi M w c u)->(∀(i:Nat) (c:PV),b[i]?=some c->∃u,l[n+i]?=some u/\RepP fi M w c u)->
  (Op.eqFields (d+1) m.toArray l.toArray j).run P A= .ok r A:=by
 intro n j
 induction j generalizing n with
 | nil=>
  intro g a b h e _ _;cases g with
  |nil=>
   cases a<;>cases b<;>simp[fj] at e;subst e;simp[Op.eqFields]
  |cons=>simp[mw] at h
 | cons f j H=>
  intro g a b h e ha E;cases g with
  |nil=>simp[mw] at h
  | cons k g=>
   simp only[mw,aS,bne_iff_ne,ne_eq,dA] at h;obtain⟨⟨⟨G,F⟩,z⟩,N⟩:=h;cases a with
   |nil=>simp[fj] at e
   | cons x a=>
    cases b with
    |nil=>simp[fj] at e
    | cons y b=>
     simp only[fj] at e;obtain⟨u,L,s⟩:=ha 0 x bh;obtain⟨v,I,p⟩:=E 0 y bh;have D:=nR (P:=P) z (xs:=m.toArray) (off:=f.offset) (v:=u) (by rw[F];simpa using L);have C:=nR (P:=P) z (xs:=l.toArray) (off:=f.offset) (v:=v) (by rw[F];simpa using I);cases o:jB k x y with
     |none=>simp[o] at e
     | some q=>
      have B:=wI (P:=P) z o s p d;rw[o] at e;cases q with
      |false=>simp at e;subst e;simp[Op.eqFields,G,D,C,B]
      | true=>
       simp only at e
       have:=H (n+1) g a b N e (λi c t=>by have:=ha (i+1) c (by simpa using t);rwa [show n+(i+1)=n+1+i by omega] at this)
        (λi c t=>by have:=E (i+1) c (by simpa using t);rwa [show n+(i+1)=n+1+i by omega] at this)
       simp[Op.eqFields,G,D,C,B,this]
theorem wJ {t:TypeId} {s:fS} {a b:fw} {p o:gA} {r:Bool} (l:nQ P t s=true) (f:fj s a b=some r) (E:p.length=a.length) (D:o.length=b.length)
  (ha:∀(i:Nat) (c:PV) (u:Value),a[i]?=some c->p[i]?=some u->RepP fi M w c u) (O:∀(i:Nat) (c:PV) (u:Value),b[i]?=some c->o[i]?=some u->RepP fi M w c u) (d:Nat) (C:World) :
  (Op.equalIn (d+2) t (.agg p.toArray) (.agg o.toArray)).run P C= .ok r C:=by
 have j:∀(i:Nat) (c:PV),a[i]?=some c->∃u,p[0+i]?=some u/\RepP fi M w c u:=λi c g=>by have T:=(aD.1 g).1;exact⟨p[i],by rw[cX];exact aA aj,ha i c _ g (aA aj)⟩
 have h:∀(i:Nat) (c:PV),b[i]?=some c->∃u,o[0+i]?=some u/\RepP fi M w c u:=λi c g=>by have T:=(aD.1 g).1;exact⟨o[i],by rw[cX];exact aA aj,O i c _ g (aA aj)⟩
 unfold nQ at l;split at l
 ·rename_i R A
  simp only[aS,Bool.not_eq_true'] at l;have Q:P.fieldsOf t=R:=by simp[Program.fieldsOf,A]
  rw[run_equalIn_struct C (d+1) t _ _ (by rw[Q];exact A) l.2,Q];exact DT d C 0 R.toList s a b l.1 f j h
 ·rename_i m e z
  simp only[aS,dA] at l;obtain⟨⟨B,X⟩,U⟩:=l;subst X;rw[show d+2=(d+1)+1 from rfl,Op.equalIn];simp only[Sem.run_bind,run_underlying z,Result.andThen_ok,run_sizeOf' U,Std.Legacy.Range.forIn_eq_forIn_range',Std.Legacy.Range.size,Nat.sub_zero,Nat.add_one_sub_one,Nat.div_one];clear ha O E D z;generalize (0:Nat)=n at j h ⊢
  induction s generalizing n a b with
  |nil=>
   cases a<;>cases b<;>simp[fj] at f;subst f;simp
  | cons k s S=>
   simp only[List.all_cons,aS] at B;cases a with
   |nil=>simp[fj] at f
   | cons x a=>
    cases b with
    |nil=>simp[fj] at f
    | cons y b=>
     simp only[fj] at f;obtain⟨u,E,H⟩:=j 0 x bh;obtain⟨v,D,G⟩:=h 0 y bh;have N:=nR (P:=P) B.1 (xs:=p.toArray) (off:=n*1) (v:=u) (by simpa using E);have L:=nR (P:=P) B.1 (xs:=o.toArray) (off:=n*1) (v:=v) (by simpa using D);cases F:jB k x y with
     |none=>simp[F] at f
     | some q=>
      have I:=wI (P:=P) B.1 F H G d;rw[F] at f;cases q with
      |false=>simp at f;subst f;simp only[aV,List.range'_succ,List.forIn_cons];simp only[Sem.run_bind,N,L,I,Result.andThen_ok];simp
      | true=>
       simp only at f
       have:=S (a:=a) (b:=b) (n:=n+1) f B.2 (λi c g=>by have:=j (i+1) c (by simpa using g);rwa [show n+(i+1)=n+1+i by omega] at this)
        (λi c g=>by have:=h (i+1) c (by simpa using g);rwa [show n+(i+1)=n+1+i by omega] at this)
       simp only[aV,List.range'_succ,List.forIn_cons];simp only[Sem.run_bind,N,L,I,Result.andThen_ok,Bool.not_true,bR,if_false,Sem.run_pure];exact this
 ·cases l
end
end
section
open Go.RowKit
variable {kn:Nat} {k:PV}
def kN (P:Program) (t:TypeId) (a:Nat):Bool:=
 match P.underlying t with
 |some (.int _)=>a==0
 |some (.array _ _)=>a !=0&&nQ P t (List.replicate a false)
 |_=>false
def gI (b:Nat):List (PV×PV)->PV->Option (Option Nat)
 |[],_=>some none
 |(a,_)::l,k=>match dB b k a with
  |some true=>some (some 0)
  |some false=>(gI b l k).map λr=>r.map (· +1)
  |none=>none
section
variable {fi:FI} {M M':Mem} {w w':World} {P:Program}
theorem DU:∀{b:List (PV×PV)} {r:Option PV},eD kn b k=some r->
  (r=none/\gI kn b k=some none)\/∃i e,gI kn b k=some (some i)/\b[i]?=some e/\r=some e.2:=by
 intro b
 induction b with
 |nil=>intro r h;simp[eD] at h;subst h;exact .inl ⟨rfl,rfl⟩
 | cons x l g=>
  intro r h;obtain⟨a,v⟩:=x;simp only[eD,gI] at *;cases f:dB kn k a with
  |none=>simp[f] at h
  | some q=>
   rw[f] at h;cases q with
   |true=>simp at h;subst h;exact .inr ⟨0,(a,v),rfl,rfl,rfl⟩
   |false=>
    simp only at h;rcases g h with ⟨d,c⟩|⟨i,e,d,c,j⟩
    ·exact .inl ⟨d,by simp[c]⟩
    ·exact .inr ⟨i+1,e,by simp[d],by simpa using c,j⟩
theorem DV {v:PV}:∀{c b:List (PV×PV)},ef kn c k v=some b->
  (gI kn c k=some none/\b=c++[(k,v)])\/∃i e,gI kn c k=some (some i)/\c[i]?=some e/\dB kn k e.1=some true/\b=c.set i (k,v):=by
 intro c
 induction c with
 |nil=>intro b h;simp[ef] at h;subst h;exact .inl ⟨rfl,rfl⟩
 | cons x l j=>
  intro b h;obtain⟨a,u⟩:=x;simp only[ef,gI] at *;cases d:dB kn k a with
  |none=>simp[d] at h
  | some q=>
   rw[d] at h;cases q with
   |true=>simp at h;subst h;exact .inr ⟨0,(a,u),rfl,rfl,d,rfl⟩
   |false=>
    simp only[aE] at h;obtain⟨o,h,rfl⟩:=h;rcases j h with ⟨g,f⟩|⟨i,e,g,f,n,m⟩
    ·exact .inl ⟨by simp[g],by simp[f]⟩
    ·exact .inr ⟨i+1,e,by simp[g],by simpa using f,n,by simp[m]⟩
theorem DW {e:TypeId} {b:Bool} (h:jb P e b=true) (c:Bool) (n:Nat) (v:Value) (w:World):(Instr.checkKey c (n+1) e v).run P w= .ok () w:=by
 unfold jb at h;split at h
 ·rename_i a;simp[Instr.checkKey,run_underlying a]
 ·rename_i a;simp[Instr.checkKey,run_underlying a]
 ·cases h
theorem wK {t:TypeId} {v:Value} (h:kN P t kn=true) (g:eS kn k=true) (hr:RepP fi M w k v) (o:Bool):(Instr.checkKey o 10000 t v).run P w= .ok () w:=by
 unfold kN at h;split at h
 ·rename_i b;rw[show (10000:Nat)=9999+1 from rfl,Instr.checkKey];simp[run_underlying b]
 ·rename_i m e b
  simp only[aS,bne_iff_ne,ne_eq] at h;obtain⟨l,d⟩:=h;unfold nQ at d;rw[b] at d;simp only[aS,dA,bM] at d;obtain⟨⟨j,z⟩,y⟩:=d;cases k with
  | agg A=>
   simp only[eS,aS,dA] at g;obtain⟨f,rfl,s,r⟩:=hr.repE.agg;subst z;have c:jb P e false=true:=by simp only[bV] at j;exact j false (by simp[List.mem_replicate,l])
   rw[show (10000:Nat)=9999+1 from rfl,Instr.checkKey];simp only[Sem.run_bind,run_underlying b,Result.andThen_ok,Std.Legacy.Range.forIn_eq_forIn_range',Std.Legacy.Range.size,Nat.sub_zero,Nat.add_one_sub_one,Nat.div_one];have a:∀i,i<m->∃u,f[0+i]?=some u:=λi x=>⟨f[i]' aj,by rw[cX];exact aA aj⟩
   clear s r b l j g;generalize (0:Nat)=n at a ⊢
   induction m generalizing n with
   |zero=>simp
   |succ m q=>
    obtain⟨u,b⟩:=a 0 aj;have p:=nR (P:=P) c (xs:=f.toArray) (off:=n*1) (v:=u) (by simpa using b);have:=q (n:=n+1) (λi x=>by have:=a (i+1) aj;rwa [show n+(i+1)=n+1+i by omega] at this);simp only[List.range'_succ,List.forIn_cons];simp only[Sem.run_bind,run_sizeOf' y,p,Result.andThen_ok,DW c o 9998,Sem.run_pure] at this ⊢;exact this
  |_=>simp[eS] at g<;>omega
 ·cases h
theorem wL {c:IntKind} {a:Int} {q:Bool} (h:dB kn (.int c a) k=some q):∃b,k= .int c b/\q=(a==b):=by
 cases k with
 |int d b=>
  simp only[dB] at h;split at h
  ·rename_i e;obtain⟨_,rfl⟩:=e;cases h;exact⟨b,rfl,rfl⟩
  ·cases h
 |_=>simp[dB] at h
theorem pZ {t:TypeId} {C:Nat} {k:PV} {v:Value} (A:kN P t C=true) (X:eS C k=true) (hr:RepP fi M w k v) {d:List (PV×PV)} {l:List MapEntry} (f:l.length=d.length)
  (c:∀(i:Nat) (e:PV×PV) (m:MapEntry),d[i]?=some e->l[i]?=some m->RepP fi M w e.1 m.key) {r:Option Nat} (h:gI C d k=some r) (j:World) :
  (Instr.findKey t v l).run P j= .ok (r.map λi=>(i,((l[i]?).map (·.val)).getD undef)) j:=by
 unfold kN at A;split at A
 ·rename_i kd L
  simp only[dA] at A;subst A;cases k with
  | int o a=>
   obtain rfl:=hr.repE.int
   have z:∀(d:List (PV×PV)) (l:List MapEntry) (n:Nat) (r:Option Nat),l.length=d.length->
     (∀(i:Nat) (e:PV×PV) (m:MapEntry),d[i]?=some e->l[i]?=some m->RepP fi M w e.1 m.key)->gI 0 d (.int o a)=some r->
     Instr.findNow (.int kd) (.int o a) l n=some (r.map λi=>(n+i,((l[i]?).map (·.val)).getD undef)):=by
    intro d
    induction d with
    |nil=>intro l n r f _ h;cases l with
     |nil=>simp[gI] at h;subst h;simp[Instr.findNow]
     |cons=>simp at f
    | cons x d F=>
     intro l n r f c h;obtain⟨b,u⟩:=x;cases l with
     |nil=>simp at f
     | cons m l=>
      have B:=c 0 (b,u) m rfl rfl;simp only[gI] at h;cases p:dB 0 (.int o a) b with
      |none=>simp[p] at h
      | some q=>
       obtain⟨S,rfl,rfl⟩:=wL p;have s:m.key= .int o S:=B.repE.int;rw[p] at h;by_cases E:a=S
       ·subst E
        simp at h;subst h;simp[Instr.findNow,s,Instr.sameNow]
       ·have U:(a==S)=false:=by simpa using E
        simp only[U,aE] at h;obtain⟨D,h,rfl⟩:=h;have:=F l (n+1) D (by simpa using f) (λi e m Q B=>c (i+1) e m (by simpa using Q) (by simpa using B)) h;simp[Instr.findNow,s,Instr.sameNow,U,this];cases D with
        |none=>rfl
        |some i=>simp;omega
   have:=z d l 0 r f c h;simp only[cX] at this;simp[Instr.findKey,run_underlying L,this]
  |_=>simp[eS] at X
 ·rename_i m e L
  simp only[aS,bne_iff_ne,ne_eq] at A;obtain⟨h0,hf⟩:=A;have g:(Instr.findKey t v l).run P j=(Instr.findAsking t v l).run P j:=run_findKey_eq j (by rw[L]) v l;rw[g];cases k with
  | agg R=>
   obtain⟨T,rfl,G,hv⟩:=hr.repE.agg
   have z:∀(d:List (PV×PV)) (l:List MapEntry) (n:Nat) (r:Option Nat),l.length=d.length->
     (∀(i:Nat) (e:PV×PV) (m:MapEntry),d[i]?=some e->l[i]?=some m->RepP fi M w e.1 m.key)->gI C d (.agg R)=some r->
     (Instr.findAsking t (.agg T.toArray) l n).run P j= .ok (r.map λi=>(n+i,((l[i]?).map (·.val)).getD undef)) j:=by
    intro d
    induction d with
    |nil=>intro l n r f _ h;cases l with
     |nil=>simp[gI] at h;subst h;simp[Instr.findAsking]
     |cons=>simp at f
    | cons x d F=>
     intro l n r f c h;obtain⟨b,u⟩:=x;cases l with
     |nil=>simp at f
     | cons m l=>
      have B:=c 0 (b,u) m rfl rfl;simp only[gI] at h;cases p:dB C (.agg R) b with
      |none=>simp[p] at h
      | some q=>
       cases b with
       | agg bs=>
        simp only[dB,h0,if_false] at p;obtain⟨us,s,I,H⟩:=B.repE.agg;have O:=wJ (P:=P) (fi:=fi) (M:=M) (w:=w) hf p G I hv H 9998 j;have y:(Op.equal t (.agg T.toArray) m.key).run P j= .ok q j:=by rw[s];exact O
        have N:dB C (.agg R) (.agg bs)=some q:=by simp only[dB,h0,if_false];exact p
        rw[N] at h;cases q with
        |true=>simp at h;subst h;simp[Instr.findAsking,y]
        |false=>
         simp only[aE] at h;obtain⟨D,h,rfl⟩:=h;have:=F l (n+1) D (by simpa using f) (λi e m Q B=>c (i+1) e m (by simpa using Q) (by simpa using B)) h;simp[Instr.findAsking,y,this];cases D with
         |none=>rfl
         |some i=>simp;omega
       |_=>simp[dB] at p
   have:=z d l 0 r f c h;simpa using this
  |_=>simp[eS] at X<;>omega
 ·cases A
end
end
section
open Go.RowKit
variable {s:St} {a:Act} {v:Value} {d:Nat}
section
variable {fi:FI} {M M':Mem} {w w':World} {P:Program}
theorem sG (h:Inv fi M w s a) {b:Nat} {e:List (PV×PV)} (f:RepE fi M w (.mp b) v) (g:s.gh[b]?=some (.map e)) :
  ∃c,v= .map (some c)/\RepMap fi M w c e/\M.gb[b]?=some c:=by
 cases (show RepP fi M w (.mp b) v from f) with
 |mp _ c d=>exact⟨c,rfl,h.gh b _ c g d,d⟩
theorem sH {b a:Nat} {l:Array MapEntry} (h:w.heap[b]?=some (.map l a)):(getObj b).run P w= .ok (.map l a) w:=by simp[getObj,Sem.run,h]
theorem wM {a:Nat} {k:PV} (h:RepE fi M w k v) (b:eS a k=true):RepP fi M w k v:=by
 cases k with
 |int=>exact h
 |agg=>exact h
 |_=>simp[eS] at b
theorem DX {s:St} {a:Act} (hI:Inv fi M w s a) {t Q X:TypeId} {B b:Nat} {es:List (PV×PV)} {k:PV} {u v:Value} {R:TypeInfo} {p:Value} {zero:PV} {ok:Bool} (S:P.underlying t=some (.map Q X))
  (E:kN P Q B=true) (F:P.info? X=some R) (hz:R.zero=some p) (C:cOk zero p=true) (hp:RepE fi M w (.mp b) u) (n:s.gh[b]?=some (.map es)) (D:RepE fi M w k v) (d:eS B k=true)
  {r:Option PV} (h:eD B es k=some r) :
  ∃x,(Instr.lookup t u v ok).run P w= .ok x w/\RepP fi M w (match r with|some q=>if ok then .tup [q,.bool true] else q|none=>if ok then .tup [degr zero,.bool false] else degr zero) x:=by
 obtain⟨aa,rfl,⟨h1,h2,l,N,h3,L,I⟩,_⟩:=sG hI hp n;have g:=wM D d;have c1:=λem=>wK (P:=P) E d g em
 have c3:=sH (P:=P) h3;have f:∀(q:PV) (y:Value) (o:Bool),RepP fi M w q y->RepP fi M w (.tup [q,.bool o]) (.tuple #[y,.bool o]):=λq y o hq=>by
  refine RepP.tup [q,.bool o] [y,.bool o] rfl λi c u n A=>?_
  cases i with
  |zero=>simp at n A;subst n;subst A;exact hq
  |succ i=>cases i with
   |zero=>simp at n A;subst n;subst A;exact .bool o
   |succ i=>simp at A
 rcases DU h with ⟨rfl,H⟩|⟨i,e,H,U,rfl⟩
 ·have O:=pZ (P:=P) E d g L (λi e m G j=>(I i e m G j).1) H w
  have z:RepP fi M w (degr zero) p:=wz C;refine⟨if ok then .tuple #[p,.bool false] else p,?_,?_⟩
  ·simp[Instr.lookup,run_underlying S,c3,c1,O,zeroValue,typeInfo,F,hz]
  ·cases ok
   ·exact z
   ·exact f _ _ _ z
 ·have O:=pZ (P:=P) E d g L (λi e m G j=>(I i e m G j).1) H w
  have T:i<l.length:=by rw[L];exact (aD.1 U).1
  have j:=I i e _ U (aA T);refine⟨if ok then .tuple #[l[i].val,.bool true] else l[i].val,?_,?_⟩
  ·simp[Instr.lookup,run_underlying S,c3,c1,O,aA T]
  ·cases ok
   ·exact j.2.1
   ·exact f _ _ _ j.2.1
theorem DY {s:St} {a:Act} (k:Inv fi M w s a) {c:Array TypeId} {t g p f:TypeId} {b:Nat} {e:List (PV×PV)} {u:Value} (o:c[0]?=some t) (h:P.underlying t=some (.map g p))
  (i:RepE fi M w (.mp b) u) (j:s.gh[b]?=some (.map e)):(Builtin.len_ c f #[u]).run P w= .ok (.int .i64 e.length) w:=by
 obtain⟨q,rfl,⟨x,v,l,d,n,m,r⟩,_⟩:=sG k i j;simp[Builtin.len_,o,run_underlying h,sH (P:=P) n,goInt,m]
def World.putMap (w:World) (a:Nat) (l:Array MapEntry) (clock:Nat):World:={w with heap:=w.heap.setIfInBounds a (.map l clock) }
theorem DZ (w:World) (a k:Nat) (l:Array MapEntry) (c:Nat) (h:k≠a):(World.putMap w a l c).heap[k]?=w.heap[k]?:=by simp[World.putMap,Ne.symm h]
theorem wN (w:World) (a:Nat) (l:Array MapEntry) (c:Nat) (h:a<w.heap.size):(World.putMap w a l c).heap[a]?=some (.map l c):=by simp[World.putMap,h]
theorem D0 (w:World) (a:Nat) (l:Array MapEntry) (c:Nat):(World.putMap w a l c).heap.size=w.heap.size:=by simp[World.putMap]
theorem Inv.putMap {s:St} {a:Act} (r:Inv fi M w s a) {b f:Nat} {X es':List (PV×PV)} (E:M.gb[b]?=some f) (hr:RepMap fi M w f X) {l:List MapEntry} {clock:Nat}
  (R:l.length=es'.length) (B:∀(i:Nat) (e:PV×PV) (m:MapEntry),es'[i]?=some e->l[i]?=some m->RepP fi M w e.1 m.key/\RepP fi M w e.2 m.val/\az e.1=true/\az e.2=true) :
  Inv fi M (World.putMap w f l.toArray clock) ⟨s.env,s.lh,s.gh.set b (.map es')⟩ a/\Kp M w M (World.putMap w f l.toArray clock):=by
 obtain⟨F,P,l0,G,O,_,_⟩:=hr;generalize y:World.putMap w f l.toArray clock=c;have p:∀k,k≠f->c.heap[k]?=w.heap[k]?:=λk h=>by rw[<-y];exact DZ w f k _ _ h
 have v:c.heap.size=w.heap.size:=by rw[<-y];exact D0 w f _ _
 have z:∀b k,c.cell? ⟨b,k,none⟩=w.cell? ⟨b,k,none⟩:=λb k=>by
  by_cases h:b=f
  ·subst h
   have I:c.heap[b]?=some (.map l.toArray clock):=by rw[<-y];exact wN w b _ _ F
   simp[World.cell?,I,O]
  ·exact World.cell?_of_block (w:=w) (a:=⟨b,k,none⟩) (p b h)
 have q:Ext M w M c:=⟨λ_ _ h=>h,λ_ _ h=>h,λb k _=>z b k,λ_ _=>⟨cW _,λ_=>rfl⟩,λb k _=>by
  by_cases h:b=f
  ·subst h
   have I:c.heap[b]?=some (.map l.toArray clock):=by rw[<-y];exact wN w b _ _ F
   simp[World.frozen?,I,O]
  ·exact m8 (p b h)⟩
 have g:Good M w M c (λ_=>False) (λk=>k=f):=⟨q,by rw[v];exact cW _,λ_ _ h=>h,
  λL l' n _=>⟨n,p L (λe=>by subst e;rw[P] at n;cases n),λ_ h=>h,id,id⟩,λL _ hn h=>⟨p L hn,λ_ h=>h,h⟩,λ_ _=>rfl⟩
 have H:∀i j d,M.lb[i]?=some d->M.gb[j]?=some d->False:=λi j d x S=>by have:=r.nodup;rw[cT] at this;exact this.2.2 d (aL x) d (aL S) rfl
 have C:M.gb.Nodup:=(cT.1 r.nodup).2.1;have D:f∈M.gb:=aL E
 refine⟨⟨λt u N=>⟨(r.env t u N).1,(r.env t u N).2.good g bh⟩,r.defers,r.lbl,by simp[r.gbl],r.nodup,
  λi cs d x n=>(r.lh i cs d x n).good g (λe=>by subst e;exact H _ _ _ n E) bh,λi o d x n=>?_,q.gl r.gl,λb k h=>by rw[v];exact r.immlt b k h,λb l h=>by rw[v];exact r.ownlt b l h,λb h=>by rw[v];exact r.gblt b h⟩,
  ⟨by rw[<-y];rfl,by rw[<-y];rfl,by rw[<-y];rfl,by rw[v];exact cW _,q,λk _ _ T _=>p k (λe=>by subst e;exact T D),λ_ h=> .inl h,λ_ h=> .inl h,λ_ _ h=>h,λ_ _ h=> .inl h,.same rfl⟩⟩
 rw[cM] at x;by_cases A:b=i
 ·subst A
  simp only[if_true] at x;split at x
  ·cases x
   have:d=f:=by rw[E] at n;exact (cZ n).symm
   subst this;refine⟨by rw[v];exact F,P,l,clock,by rw[<-y];exact wN w _ _ _ F,R,λi e m U Q=>?_⟩;have:=B i e m U Q;exact⟨this.1.mono q,this.2.1.mono q,this.2.2⟩
  ·cases x
 ·rw[if_neg A] at x
  exact (r.gh i o d x n).good g (λe=>by subst e;exact A (lG C E n)) bh
theorem D1 {m:fS}:∀{a b:fw} {f e:gA},fj m a b=some true->f.length=a.length->e.length=b.length->
  (∀(i:Nat) (c:PV) (u:Value),a[i]?=some c->f[i]?=some u->RepP fi M w c u)->(∀(i:Nat) (c:PV) (u:Value),b[i]?=some c->e[i]?=some u->RepP fi M w c u)->∀n,(e.zip f).all (λ(x,y)=>Instr.sameBits n x y)=true/\f.length=e.length:=by
 induction m with
 |nil=>intro a b f e h l j _ _ n;cases a<;>cases b<;>simp[fj] at h;simp at l j;subst l;subst j;simp
 | cons k m z=>
  intro a b f e h l j ha r n;cases a with
  |nil=>simp[fj] at h
  | cons x a=>
   cases b with
   |nil=>simp[fj] at h
   | cons y b=>
    cases f with
    |nil=>simp at l
    | cons u f=>
     cases e with
     |nil=>simp at j
     | cons v e=>
      simp only[fj] at h;have g:=ha 0 x u rfl rfl;have p:=r 0 y v rfl rfl;cases d:jB k x y with
      |none=>simp[d] at h
      | some q=>
       rw[d] at h;cases q with
       |false=>simp at h
       | true=>
        simp only at h;obtain⟨t,s⟩:=z h (by simpa using l) (by simpa using j) (λi c u o g=>ha (i+1) c u (by simpa using o) (by simpa using g)) (λi c u o g=>r (i+1) c u (by simpa using o) (by simpa using g)) n;refine⟨?_,by simp[s]⟩;simp only[List.zip_cons_cons,List.all_cons,aS];refine⟨?_,t⟩;unfold jB at d;split at d
        ·split at d
         ·rename_i A;subst A
          cases g;cases p;simp at d;subst d;cases n<;>simp[Instr.sameBits]
         ·cases d
        ·cases g;cases p
         simp at d;subst d;cases n<;>simp[Instr.sameBits]
        ·cases d
theorem D2 {s:St} {a:Act} (hI:Inv fi M w s a) {t kt et:TypeId} {X b:Nat} {F es':List (PV×PV)} {k x:PV} {u v y:Value} (ht:P.underlying t=some (.map kt et))
  (hk:kN P kt X=true) (hp:RepE fi M w (.mp b) u) (hc:s.gh[b]?=some (.map F)) (aa:RepE fi M w k v) (n:eS X k=true) (hx:RepE fi M w x y) (O:az k=true) (C:az x=true)
  (h:ef X F k x=some es') :
  ∃w',(Instr.mapUpdate t u v y).run P w= .ok () w'/\Inv fi M w' ⟨s.env,s.lh,s.gh.set b (.map es')⟩ a/\Kp M w M w':=by
 obtain⟨R,rfl,r,N⟩:=sG hI hp hc;obtain⟨h1,h2,l,clock,h3,E,Q⟩:=id r;have d:=wM aa n;have G:RepP fi M w x y:=hx.repP (by simpa [az] using C);have c1:=wK (P:=P) hk n d false;have c3:=sH (P:=P) h3;have q:∀U c',(setObj R (.map U c')).run P w= .ok () (World.putMap w R U c'):=λU c'=>by simp[setObj,Sem.run,h3,World.putMap]
 rcases DV h with ⟨h6,rfl⟩|⟨i,e,h6,h7,p,rfl⟩
 ·have c2:=pZ (P:=P) hk n d E (λi e m f g=>(Q i e m f g).1) h6 w
  obtain⟨T,S⟩:=hI.putMap N r (es':=F++[(k,x)]) (l:=l++[{key:=v,val:=y,born:=clock }]) (clock:=clock+1) (by simp[E]) (λi e m f g=>by
   by_cases D:i<F.length
   ·rw[aI D] at f
    rw[aI aj] at g;exact Q i e m f g
   ·rw[aN aj] at f
    rw[aN aj,E] at g;have h0:=(aD.1 f).1;simp at h0;rw[h0] at f g;simp at f g;subst f;subst g;exact⟨d,G,O,C⟩)
  refine⟨_,?_,T,S⟩;simp[Instr.mapUpdate,run_underlying ht,c3,c1,c2,q]
 ·have c2:=pZ (P:=P) hk n d E (λi e m f g=>(Q i e m f g).1) h6 w
  have D:i<l.length:=by rw[E];exact (aD.1 h7).1
  have g:=Q i e _ h7 (aA D);have A:Instr.sameBits 10000 l[i].key v=true:=by
   cases z:k with
   |int kd a=>
    rw[z] at p d;obtain⟨b',ad,hq⟩:=wL p;have al:a=b':=by simpa using hq.symm
    have:=g.1;rw[ad] at this;have e1:=this.repE.int;have e2:=d.repE.int;rw[e1,e2,al];simp[Instr.sameBits]
   | agg cs=>
    rw[z] at p d;cases B:e.1 with
    | agg bs=>
     rw[B] at p;have I:=g.1;rw[B] at I;obtain⟨us,e1,e2,e3⟩:=I.repE.agg;obtain⟨vs,f1,f2,f3⟩:=d.repE.agg;simp only[dB] at p;split at p
     ·cases p
     ·obtain⟨r1,r2⟩:=D1 (fi:=fi) (M:=M) (w:=w) p f2 e2 f3 e3 9999
      rw[e1,f1];simp only[Instr.sameBits,aS,dA];exact⟨by simp[r2],r1⟩
    |_=>rw[B] at p;simp[dB] at p
   |_=>rw[z] at n;simp[eS] at n
  obtain⟨T,S⟩:=hI.putMap N r (es':=F.set i (k,x)) (l:=l.set i {l[i] with key:=v,val:=y }) (clock:=clock) (by simp[E]) (λj e' m f o=>by
   rw[cM] at f o;by_cases L:i=j
   ·subst L
    simp[D] at o;have ab:i<F.length:=aj;simp[ab] at f;subst f;subst o;exact⟨d,G,O,C⟩
   ·rw[if_neg L] at f o
    exact Q j e' m f o)
  refine⟨_,?_,T,S⟩;have H:(l.modify i λe=>{key:=v,val:=y,born:=e.born })=l.set i {key:=v,val:=y,born:=l[i].born }:=by simp[List.modify_eq_set,aA D]
  simp[Instr.mapUpdate,run_underlying ht,c3,c1,c2,q,aA D,Instr.keyThatStays,A,H]
theorem D3 (e:Inv fi M w s a) (F:d<a.tmps.size) :
  ∃M',Inv fi M' (w.alloc (.map #[] 0)) ⟨put s.env d (.mp s.gh.length),s.lh,s.gh++[.map []]⟩ (a.put (some d) (.map (some w.heap.size)))/\Kp M w M' (w.alloc (.map #[] 0)):=by
 have v:M.own w.heap.size=none:=by
  cases E:M.own w.heap.size with
  |none=>rfl
  |some l=>exact absurd (e.ownlt _ l E) aj
 have x:w.heap.size∉M.lb++M.gb:=by
  rw[cE];rintro (y|y)
  ·exact absurd (j8 e _ y) aj
  ·exact absurd (e.gblt _ y) aj
 let n:Mem:={M with gb:=M.gb++[w.heap.size] }
 obtain⟨q,r⟩:=Good.alloc e (.map #[] 0) n [] [w.heap.size] (by simp[n]) rfl bh bh (λ_=>False) (by simp[n]) (λ_ _=>rfl);generalize D:w.alloc (.map #[] 0)=c at *;have m:c.heap.size=w.heap.size+1:=by rw[<-D,size_alloc']
 have A:Inv fi n c ⟨s.env,s.lh,s.gh++[.map []]⟩ a:=by
  refine⟨λt u C=>⟨(e.env t u C).1,(e.env t u C).2.good q bh⟩,e.defers,e.lbl,by simp[n,e.gbl],?_,λi G h j g=>(e.lh i G h j g).good q bh bh,?_,q.ext.gl e.gl,?_,?_,?_⟩
  ·show (M.lb++(M.gb++[w.heap.size])).Nodup
   rw[<-aT];exact lF e.nodup x
  ·intro i o h j g
   have f:(M.gb++[w.heap.size])[i]?=some h:=g;by_cases p:i<s.gh.length
   ·rw[aI p] at j
    rw[aI (by rw[e.gbl];exact p)] at f;exact (e.gh i o h j f).good q bh bh
   ·have z:=(aD.1 j).1
    simp at z;obtain rfl:i=s.gh.length:=aj;simp at j;subst j;rw[aN (by rw[e.gbl];exact cW _),e.gbl] at f;simp at f;subst f;exact⟨by rw[m];omega,v,[],0,by rw[<-D];exact heap_alloc_new w _,rfl,bh⟩
  ·exact λb k g=>aO (e.immlt b k g) r.size
  ·exact λb l g=>aO (e.ownlt b l g) r.size
  ·intro b g
   have f:b∈M.gb++[w.heap.size]:=g;simp only[cE,List.mem_singleton] at f;rcases f with B|B
   ·have:=e.gblt b B;rw[m];omega
   ·subst B;rw[m];omega
 refine⟨n,A.put F (RepE.repAt (RepP.repE (.mp _ _ ?_))),r⟩
 show (M.gb++[w.heap.size])[s.gh.length]?=some w.heap.size
 rw[aN (by rw[e.gbl];exact cW _),e.gbl];simp
theorem D4 (e:Inv fi M w s a) (F:d<a.tmps.size) {T:TypeId} (G:T∈fi.bT) :
  ∃M',Inv fi M' (w.alloc (.cells #[.pointer none,.slice none 0 0] T)) ⟨put s.env d (fc s.gh.length 0),s.lh,s.gh++[.bld .empty]⟩ (a.put (some d) (.pointer (some ⟨w.heap.size,0,none⟩)))/\Kp M w M' (w.alloc (.cells #[.pointer none,.slice none 0 0] T)):=by
 have x:M.own w.heap.size=none:=by
  cases E:M.own w.heap.size with
  |none=>rfl
  |some l=>exact absurd (e.ownlt _ l E) aj
 have y:w.heap.size∉M.lb++M.gb:=by
  rw[cE];rintro (q|q)
  ·exact absurd (j8 e _ q) aj
  ·exact absurd (e.gblt _ q) aj
 let n:Mem:={M with gb:=M.gb++[w.heap.size] }
 obtain⟨r,v⟩:=Good.alloc e (.cells #[.pointer none,.slice none 0 0] T) n [] [w.heap.size] (by simp[n]) rfl bh bh (λ_=>False) (by simp[n]) (λ_ _=>rfl);generalize D:w.alloc (.cells #[.pointer none,.slice none 0 0] T)=c at *;have m:c.heap.size=w.heap.size+1:=by rw[<-D,size_alloc']
 have A:Inv fi n c ⟨s.env,s.lh,s.gh++[.bld .empty]⟩ a:=by
  refine⟨λt u C=>⟨(e.env t u C).1,(e.env t u C).2.good r bh⟩,e.defers,e.lbl,by simp[n,e.gbl],?_,λi H h j g=>(e.lh i H h j g).good r bh bh,?_,r.ext.gl e.gl,?_,?_,?_⟩
  ·show (M.lb++(M.gb++[w.heap.size])).Nodup
   rw[<-aT];exact lF e.nodup y
  ·intro i o h j g
   have f:(M.gb++[w.heap.size])[i]?=some h:=g;by_cases p:i<s.gh.length
   ·rw[aI p] at j
    rw[aI (by rw[e.gbl];exact p)] at f;exact (e.gh i o h j f).good r bh bh
   ·have z:=(aD.1 j).1
    simp at z;obtain rfl:i=s.gh.length:=aj;simp at j;subst j;rw[aN (by rw[e.gbl];exact cW _),e.gbl] at f;simp at f;subst f;exact⟨by rw[m];omega,λk q=>absurd (e.immlt _ k q) aj,x,T,G,.inl ⟨rfl,by rw[<-D];exact heap_alloc_new w _⟩⟩
  ·exact λb k g=>aO (e.immlt b k g) v.size
  ·exact λb l g=>aO (e.ownlt b l g) v.size
  ·intro b g
   have f:b∈M.gb++[w.heap.size]:=g;simp only[cE,List.mem_singleton] at f;rcases f with B|B
   ·have:=e.gblt b B;rw[m];omega
   ·subst B;rw[m];omega
 refine⟨n,A.put F (RepE.repAt (RepP.repE (.ptr _ _ _ ?_))),v⟩
 show (M.gb++[w.heap.size])[s.gh.length]?=some w.heap.size
 rw[aN (by rw[e.gbl];exact cW _),e.gbl];simp
end
end
section
open Go.RowKit
section
variable {fi:FI} {M M':Mem} {w w':World} {P:Program}
theorem D5 (l:gA) (v:Value) (a:Nat):∀(i:Nat),(l.set a v)[i]?=if i=a/\a<l.length then some v else l[i]?:=by
 intro i;rw[cM];by_cases h:a=i
 ·subst h
  by_cases b:a<l.length
  ·simp[b]
  ·simp[b]
 ·simp[h,Ne.symm h]
theorem wO {α:Type} (a:gA) (f:α->Value×Nat->α) (x:α):a.toArray.zipIdx.foldl f x=a.zipIdx.foldl f x:=by rw[<-Array.foldl_toList];simp
theorem RepP.notOwn {p:PV} {v:Value} (h:RepP fi M w p v):∀z a,p≠ .sl true z a:=by rintro z a rfl;cases h
theorem RepC.toP {l:Loc} {p:PV} {v:Value} (h:RepC fi M w l p v) (hn:∀z a,p≠ .sl true z a):RepP fi M w p v:=by
 unfold RepC at h;split at h
 ·exact absurd rfl (hn _ _)
 ·exact h
theorem wP (b:gA):∀(n a:Nat) (c:gA),a+n+b.length<=c.length->
  (b.zipIdx n).foldl (λ(l:Array Value) (p:Value×Nat)=>l.setIfInBounds (a+p.2) p.1) c.toArray=(c.take (a+n)++b++c.drop (a+n+b.length)).toArray:=by
 induction b with
 |nil=>intro n a c _;simp
 | cons v b f=>
  intro n a c h;simp only[aV] at h;simp only[List.zipIdx_cons,List.foldl_cons];rw[List.setIfInBounds_toArray,f (n+1) a (c.set (a+n) v) (by rw[cO];omega)]
  congr 1
  apply List.ext_getElem?;intro i;have k:=ja (c.set (a+n) v) b (a+(n+1)) i (by rw[cO];omega);have j:=ja c (v::b) (a+n) i (by simp only[aV];omega);rw[k,j,D5];simp only[aV];by_cases e:i<a+n
  ·rw[if_pos aj,if_pos e,if_neg aj]
  ·by_cases g:i=a+n
   ·subst g
    have q:a+n<a+(n+1):=aj;have o:a+n<a+n+(b.length+1):=aj;have m:a+n<c.length:=aj;simp[q,o,m]
   ·rw[if_neg aj,if_neg e]
    by_cases d:i<a+n+(b.length+1)
    ·rw[if_pos aj,if_pos d]
     rw[show i-(a+n)=(i-(a+(n+1)))+1 by omega,List.getElem?_cons_succ]
    ·rw[if_neg aj,if_neg d,if_neg aj]
def kO (c:FI) (M:Mem) (w:World) (a:Nat->Option (Nat×Nat)) (mk:Nat->Loc):List (Nat×Nat×PV)->List (Nat×Value)->Prop
 |[],[]=>True
 |(b,k,p)::e,(i,v)::d=>a i=some (b,k)/\RepAt c M w (λj=>mk (b+j)) p v/\az p=true/\kO c M w a mk e d
 |_,_=>False
theorem D6 {l:Nat->Option (Nat×Nat)} {mk:Nat->Loc}:∀(t:List (Nat×Nat×PV)) (a:List (Nat×Value)) (o e:fw) (f:gA),j5 o t=some e->f.length=o.length->
  (∀(i:Nat) (c:PV) (u:Value),o[i]?=some c->f[i]?=some u->RepC fi M w (mk i) c u)->kO fi M w l mk t a->(∀c∈o,c.one=true)->
  ∃g:gA,Instr.fill l f.toArray a=some g.toArray/\g.length=e.length/\(∀(i:Nat) (c:PV) (u:Value),e[i]?=some c->g[i]?=some u->RepC fi M w (mk i) c u)/\∀c∈e,c.one=true:=by
 intro t
 induction t with
 |nil=>
  intro a o e f h L hr C G;cases a with
  |nil=>simp[j5] at h;subst h;exact⟨f,rfl,L,hr,G⟩
  |cons=>simp[kO] at C
 | cons x t Q=>
  intro a o e f h L hr C G;obtain⟨b,k,p⟩:=x;cases a with
  |nil=>simp[kO] at C
  | cons y a=>
   obtain⟨i,v⟩:=y;simp only[kO] at C;obtain⟨I,B,D,r⟩:=C;simp only[j5] at h;split at h
   ·rename_i T
    obtain⟨N,S⟩:=T;obtain⟨s,A,z,H,_⟩:=B.cells D;have F:∀c∈p.cells,c.one=true:=by simpa [az] using D
    have q:v.cells.size=k:=by rw[A];simp[z,N]
    obtain⟨g,e1,e2,X,U⟩:=Q a _ e (f.take b++s++f.drop (b+s.length)) h (by rw[au,kM _ _ _ aj,kM _ _ _ aj];exact L) (λj c u d n=>by
     rw[au,ja _ _ _ _ aj] at d;rw[ja _ _ _ _ aj,z] at n;split at d
     ·rename_i P;rw[if_pos P] at n;exact hr j c u d n
     ·rename_i P
      rw[if_neg P] at n;split at d
      ·rename_i O
       rw[if_pos O] at n;have:=H _ c u d n
       rwa [show b+(j-b)=j by omega] at this
      ·rename_i O;rw[if_neg O] at n;exact hr j c u d n) r (λc d=>by
     simp only[au,cE] at d;rcases d with (d|d)|d
     ·exact G c (cQ d)
     ·exact F c d
     ·exact G c (List.mem_of_mem_drop d))
    refine⟨g,?_,e2,X,U⟩;have m:=wP s 0 b f aj;simp only[cG] at m;have E:¬(b+v.cells.size>f.toArray.size):=by rw[q];simp;omega
    have R:(v.cells.zipIdx.foldl (λ(o:Array Value) (p:Value×Nat)=>o.setIfInBounds (b+p.2) p.1) f.toArray)=(f.take b++s++f.drop (b+s.length)).toArray:=by rw[A,wO];exact m
    simp only[Instr.fill,I,q,ne_eq,not_true,decide_false,Bool.false_or,aH];rw[if_neg (by rw[q] at E;simpa using E)];rw[<-e1,<-R]
   ·cases h
theorem wQ {z:Nat}:∀(l:fw) (n:Nat) (a:List (Nat×Value)) (b rest:gA),b.length=n*z->rest.length=l.length*z->(∀p∈l,az p=true/\p.cells.length=z)->a.map (·.1)=List.range' n l.length->
  (∀(i:Nat) (p:PV) (y:Nat×Value),l[i]?=some p->a[i]?=some y->RepP fi M w p y.2)->
  ∃B:gA,Instr.fill (λi=>some (i*z,z)) (b++rest).toArray a=some (b++B).toArray/\B.length=l.length*z/\
   ∀(i:Nat) (e:PV) (j:Nat) (p:PV),l[i]?=some e->e.cells[j]?=some p->∃u,B[i*z+j]?=some u/\RepP fi M w p u:=by
 intro l
 induction l with
 |nil=>
  intro n a b rest _ m _ c _;simp at m c;subst m;subst c;exact⟨[],by simp[Instr.fill],bh,bh⟩
 | cons p l T=>
  intro n a b rest s m F c o;cases a with
  |nil=>simp at c
  | cons y a=>
   obtain⟨i,v⟩:=y;simp only[bS,aV,List.range'_succ,List.cons.injEq] at c;obtain⟨rfl,c⟩:=c;have R:=o 0 p (i,v) rfl rfl;obtain⟨E,f⟩:=F p bh;obtain⟨x,C,g,H,_⟩:=(RepE.repAt (mk:=Loc.lim) R.repE).cells E;have r:v.cells.size=z:=by rw[C];simp[g,f]
   have Q:rest.length=z+l.length*z:=by rw[m,aV,Nat.add_mul,Nat.one_mul,Nat.add_comm]
   have d:=wP x 0 (i*z) (b++rest) (by simp;omega);simp only[cG] at d;have D:(b++rest).take (i*z)=b:=by rw[<-s];simp
   have t:(b++rest).drop (i*z+x.length)=rest.drop z:=by
    rw[<-s,List.drop_append,aM aj,bF]
    congr 1;omega
   rw[D,t] at d;obtain⟨B,e1,e2,e3⟩:=T (i+1) a (b++x) (rest.drop z) (by simp[s,g,f,Nat.add_mul]) (by simp;omega) (λq h=>F q (by simp[h])) c (λj q y h X=>o (j+1) q y (by simpa using h) (by simpa using X));refine⟨x++B,?_,by simp[g,f,e2,Nat.add_mul,Nat.add_comm],λk e j q O h=>?_⟩
   ·have G:¬(i*z+v.cells.size>(b++rest).toArray.size):=by rw[r];simp;omega
    have U:(v.cells.zipIdx.foldl (λ(S:Array Value) (p:Value×Nat)=>S.setIfInBounds (i*z+p.2) p.1) (b++rest).toArray)=(b++x++rest.drop z).toArray:=by rw[C,wO];exact d
    simp only[Instr.fill,r,ne_eq,not_true,decide_false,Bool.false_or,aH];rw[if_neg (by rw[r] at G;simpa using G)];rw[<-aT,<-e1,<-U]
   ·cases k with
    | zero=>
     simp at O;subst O;have hj:=(aD.1 h).1;refine⟨x[j]' aj,?_,?_⟩
     ·rw[Nat.zero_mul,cX,aI aj];exact aA aj
     ·have h3:=H j q _ h (aA aj)
      have I:∀z P,q≠ .sl true z P:=by
       cases R with
       |agg S A L hh=>
        have N:j<A.length:=by rw[L];exact hj
        exact (hh j q A[j] h (aA N)).notOwn
       |_=>simp[PV.cells] at h;cases j<;>simp at h;subst h;intro z P e;cases e
      exact h3.toP I
    |succ k=>
     obtain⟨u,hu,hr⟩:=e3 k e j q (by simpa using O) h;refine⟨u,?_,hr⟩;rw[aN (by rw[g,f,Nat.add_mul];omega),<-hu]
     congr 1
     rw[g,f,Nat.add_mul];omega
end
end
section
open Go.RowKit
def mXo (a:FI):Option IX->Option Operand->Bool
 |none,none=>true
 |some x,some o=>mX a x o
 |_,_=>false
def nU (P:Program) (t:TypeId) (z:PV):Bool:=
 match (P.info? t).bind (·.zero) with
 |some v=>cOk z v
 |none=>false
def iE (P:Program) (t:TypeId) (i:Nat):Option (Nat×Nat):=
 match P.underlying t with
 |some (.struct a)=>(a.toList.mapM λf=>(P.info? f.type).map λi=>(f.offset,i.size)).bind (·[i]?)
 |some (.array _ e)=>(eP P e).map λn=>(i*n,n)
 |_=>none
def jE (P:Program) (b:FI) (t:TypeId):List (Nat×Nat×IX)->List (Nat×Operand)->Bool
 |[],[]=>true
 |(a,k,x)::c,(i,o)::d=>iE P t i==some (a,k)&&mX b x o&&jE P b t c d
 |_,_=>false
def qA (P:Program) (t:TypeId) (z:fw):Bool:=
 match (P.info? t).bind (·.zero) with
 |some v=>lD z v.cells.toList
 |none=>false
def Bg (P:Program) (t:TypeId) (z:Nat):Bool:=
 match P.underlying t with
 |some (.slice e)=>eP P e==some z
 |_=>false
def lH (op:BinOp):BinOp->Bool:=λo=>decide (op=o)
def mOp (P:Program) (b:FI) (i:IOp) (op:Op):Bool:=
 match i,op with
 | .mv _ x,.move y| .mv _ x,.assign y=>mX b x y
 | .mvF _ s,.move (.tmp n)| .mvF _ s,.assign (.tmp n)=>n==s
 | .tkS _ n D,.slice t (.tmp m) (some (.const (.int _ l))) none none=>n==m&&Bg P t 1&&l==(D:Int)
 | .tk _ s,.move (.tmp n)| .tk _ s,.assign (.tmp n)=>n==s
 | .pick _ c x y,.pick c' q r=>mX b c c'&&mX b x q&&mX b y r
 | .box _ _ _ x,.box _ y=>mX b x y
 | .alloc _ _ z,.alloc t=>nU P t z
 | .build _ z T,.build t h| .buildT _ z T,.build t h=>(iE P t 0).isSome&&qA P t z&&jE P b t T h.toList
 | .buildSl _ z G,.buildSlice t len h=>
  Bg P t z&&decide (0<z)&&len==G.length&&decide (len*z<=16777216)&&decide (h.toList.map (·.1)=List.range' 0 len)&&mXs b G (h.toList.map (·.2)) &&
   (match P.underlying t with|some (.slice e)=>((P.info? e).bind (·.zero)).isSome|_=>false)
 | .load _ agg k a,.load t y=>mX b a y&&fW P t==some agg&&eP P t==some k
 | .loadT _ a,.load t y=>mX b a y&&fW P t==some false
 | .store _ k a x,.store t y z=>mX b a y&&mX b x z&&eP P t==some k
 | .nilc _ x,.nilCheck y=>mX b x y
 | .bin _ o x y,.binOp O _ q r _=>lH o O&&mX b x q&&mX b y r
 | .eqa _ u ks x y,.binOp o t q r _=>lH (if u then .neq else .eql) o&&nQ P t ks&& !P.eqGuardType P.depth t&&mX b x q&&mX b y r
 | .eqb _ u x y,.binOp o t q r _=>lH (if u then .neq else .eql) o&&(match P.underlying t with|some .bool=>true|_=>false)&&mX b x q&&mX b y r
 | .eqn _ u x,.binOp o t q (.const .nilIface) _=>lH (if u then .neq else .eql) o&&(match P.underlying t with|some (.interface _)=>true|_=>false)&&mX b x q
 | .un _ o x,.unOp O _ q=>decide (o=O)&&mX b x q
 | .conv _ k x,.convert s t y=>(match P.underlying t with|some (.int M)=>decide (k=M)|_=>false)&&(P.underlying s).isSome&&mX b x y
 | .mkfn _ f H,.makeFunc (.func F) first d=>b f==some F&&first.isEmpty&&mXs b H d.toList
 | .mkbf _ f E,.makeFunc (.func F) first d=>b f==some F&&d.isEmpty&&mXs b E first.toList
 | .clearK x,.call {callee:= .builtin .clear,args,argTypes }=>(match args.toList,argTypes.toList with
   |[y],[t]=>mX b x y&&(match P.underlying t with
    |some (.slice e)=>(match (P.info? e).bind (·.zero) with|some (.int .i64 n)=>n==0|_=>false)
    |_=>false)
   |_,_=>false)
 | .loadG _ ss,.load t (.global g)=>(fW P t==some false)&&(b.gw.any λx=>x.1==g&&decide (x.2.map (λs=>s.data.toList)=ss.map (λs=>s.data.toList)))
 | .boxB _ x,.box el y=>b.bT.contains el&&mX b x y
 | .mkbld _,.alloc t=>b.bT.contains t&&nU P t (.agg [.nilp,dz []])
 | .mkmap _,.makeMap _ none=>true
 | .mksl _ _ z p zero l,.makeSlice t y r=>
  mX b l y&&mX b l r&&decide (0<p)&&(match P.underlying t with
   |some (.slice e)=>(match P.info? e with|some i=>i.size==z&&i.bytes==p&&(match i.zero with|some v=>cOk zero v&&v.cells.size==z|none=>false)|none=>false)
   |_=>false)
 | .slice _ z x D R,.slice t y A B none=>Bg P t z&&mX b x y&&mXo b D A&&mXo b R B
 | .sliceS _ x D R,.slice t y A B none=>(match P.underlying t with|some .string=>true|_=>false)&&mX b x y&&mXo b D A&&mXo b R B
 | .faddr _ x w,.fieldAddr t y C=>mX b x y&&(match P.underlying t with
   |some (.struct E)=>(match E[C]? with|some f=>f.offset==w&&(match eP P f.type with|some n=>n !=0|none=>false)|none=>false)
   |_=>false)
 | .field _ agg k w x,.field t y C=>mX b x y&&(match P.underlying t with
   |some (.struct E)=>(match E[C]? with|some f=>f.offset==w&&fW P f.type==some agg&&eP P f.type==some k|none=>false)
   |_=>false)
 | .iaddr _ z none x i,.indexAddr t y j=>Bg P t z&&mX b x y&&mX b i j
 | .iaddr _ z (some m) x i,.indexAddr t y j=>mX b x y&&mX b i j&&(match P.underlying t with|some (.array I e)=>m==I&&eP P e==some z|_=>false)
 | .index _ z S agg x i,.index t y j=>mX b x y&&mX b i j&&(match P.underlying t with|some (.array m e)=>m==S&&eP P e==some z&&fW P e==some agg|_=>false)
 | .indexS _ x i,.index t y j=>mX b x y&&mX b i j&&(match P.underlying t with|some .string=>true|_=>false)
 | .lookup _ L m k ok zero,.lookup t y j N=>mX b m y&&mX b k j&&ok==N&&(match P.underlying t with|some (.map Q et)=>kN P Q L&&nU P et zero|_=>false)
 | .mupd L m k x,.mapUpdate t I M q| .mupd L m k x,.insert t I M q=>mX b m I&&mX b k M&&mX b x q&&(match P.underlying t with|some (.map Q _)=>kN P Q L|_=>false)
 | .len _ kd x,.call {callee:= .builtin .len,args,argTypes }=>(match args.toList,argTypes[0]? with
   |[y],some t=>mX b x y&&(match kd,P.underlying t with
    |0,some (.slice _)=>true
    |1,some .string=>true
    |2,some (.map _ _)=>true
    |_,_=>false)
   |_,_=>false)
 | .append _ z p s x,.call {callee:= .builtin .append,args,argTypes }=>(match args.toList,argTypes.toList with
   |[y,r],[t,X]=>mX b s y&&mX b x r&&t==X&&decide (0<z)&&decide (0<p)&&(match P.underlying t with
    |some (.slice e)=>(match P.info? e with|some i=>i.size==z&&i.bytes==p&&(match i.zero with|some v=>v.cells.size==z|none=>false)|none=>false)
    |_=>false)
   |_,_=>false)
 | .maxi _ U,.call {callee:= .builtin .max,args,.. }=>mXs b U args.toList
 | .extract _ x i,.extract y j=>mX b x y&&i==j
 |_,_=>false
end
section
open Go.RowKit
variable {o:Oper} {d z b n k:Nat} {x y:IX} {xs:fw} {v:Value} {p:PV} {neg:Bool}
section
variable {fi:FI} {M M':Mem} {w w':World} {P:Program} {s s':St} {a:Act} {cf:CallF}
structure dv (P:Program) (fi:FI) (M:Mem) (w:World) (s:St) (a:Act) (o:Oper) (i:IOp):Prop where
 inv:Inv fi M w s a
 m:mOp P fi i o.op=true
 dst:o.dst=bq i
 lt:∀d,bq i=some d->d<a.tmps.size
theorem D7 (A:dv P fi M w s a o (.mv d x)) (h:ae cf s (.mv d x)=some s'):Sim P fi o M w s' a:=by
 obtain⟨k,op,m,j,l,g⟩:=o;obtain⟨c,e,i,b⟩:=A;simp only[ae,aE] at h;obtain⟨p,f,rfl⟩:=h;cases op<;>simp[mOp] at e
 ·exact Sim.pure c i (b d rfl) (by simp[execOp]) (wA c e f _)
 ·exact Sim.pure c i (b d rfl) (by simp[execOp]) (wA c e f _)
theorem O7 {o c:Nat} (h:RepP fi M w (.sl false z xs) (.slice (some ⟨b,o,none⟩) n c)) (j:k<xs.length*z):M.imm b (o+k):=by
 cases h with
 | sl _ _ _ _ t q p l r g s i hr=>
  rcases Nat.eq_zero_or_pos z with a|a
  ·subst a;omega
  ·have f:k/z<xs.length:=Nat.div_lt_of_lt_mul (by rw[Nat.mul_comm];exact j)
   have d:=l.resolve_left (λe=>by subst e;simp at f);cases d;have m:=(i (k/z) xs[k/z] (k%z) _ (aA f) (aA (by rw[g _ (cD f)];exact Nat.mod_lt _ a))).1
   rwa [Nat.mul_comm,Nat.div_add_mod] at m
theorem O8 {l:Loc} (h:OwnRep fi M w l z xs v) :
  ∀A n c,v= .slice (some A) n c->fi.n0<=A.block/\∀k,k<xs.length*z->M.imm A.block (A.off+k)/\w.frozen? ⟨A.block,A.off+k,none⟩=false:=by
 intro A n c e;rcases h.2 with a|⟨b,o,p,m,j,a,-,g,-,-,-,-,i⟩
 ·rw[a] at e;cases e
 ·have d:=h.1
  rw[a] at e d;cases e;exact⟨i,λk f=>⟨O7 d f,by simp[World.frozen?,g]⟩⟩
theorem OwnRep.frP {l:Loc} {z:Nat} {a:fw} {v:Value} (h:OwnRep fi M w l z a v):RepP fi M w (.fr z a) v:= .fr _ _ _ h.1 (O8 h)
theorem RepC.degrF1 {l:Loc} {p:PV} {v:Value} (h:RepC fi M w l p v):RepP fi M w (degrF1 p) v:=by
 cases p with
 |sl o z xs=>
  cases o with
  |true=>exact (show OwnRep fi M w l z xs v from h).frP
  |false=>exact h
 |_=>exact h.degr1
theorem RepAt.degrF {mk:Nat->Loc} {p:PV} {v:Value} (h:RepAt fi M w mk p v):RepE fi M w (degrF p) v:=by
 cases p with
 |sl o z xs=>
  cases o with
  |true=>exact (show OwnRep fi M w (mk 0) z xs v from h).frP.repE
  |false=>exact h.degr
 |agg j=>
  obtain⟨d,rfl,f,h⟩:=h;refine RepP.repE (.agg _ d (by simpa using f) λi c u b e=>?_);simp only[aB,aE] at b;obtain⟨g,a,rfl⟩:=b;exact (h i g u a e).degrF1
 |_=>exact h.degr
theorem O9 {agg:Bool} {k a:Nat} {j:fw} {d:gA} {mk:Nat->Loc} {p:PV} (h:dD agg k a j=some p) (m:d.length=j.length)
  (l:∀(i:Nat) (c:PV) (u:Value),j[i]?=some c->d[i]?=some u->RepC fi M w (mk i) c u) (r:∀c∈j,c.one=true) :
  RepP fi M w (degrF p) (if agg then .agg ((d.drop a).take k).toArray else d.getD a undef):=by
 unfold dD at h;cases agg with
 | true=>
  simp only[if_true] at h ⊢;split at h
  ·rename_i s
   cases h;refine RepP.agg _ _ (by simp[m]) λi c u n g=>?_
   simp only[aB,aE] at n;obtain⟨t,b,rfl⟩:=n;rw[cL] at b g;split at b
   ·rename_i q
    rw[if_pos q] at g;rw[List.getElem?_drop] at b g;exact (l _ _ _ b g).degrF1
   ·cases b
  ·cases h
 |false=>
  simp only[bR,if_false] at h ⊢;have f:a<d.length:=by rw[m];exact (aD.1 h).1
  have e:=r p (aL h);have:=(l a p _ h (aA f)).degrF1;simp only[List.getD,aA f,Option.getD_some];cases p with
  |sl o z xs=>cases o<;>exact this
  |_=>first|exact this|(simp[PV.one] at e)
theorem QY {g:Bool} {b c k:Nat} {agg:Bool} {i:fw} {p:PV} {v:Value} {t:TypeId} (q:Inv fi M w s a) (ha:fW P t=some agg) (j:agg=true->eP P t=some k)
  (l:RepE fi M w (.ptr g b c) v) (o:s.cellsAt g b=some i) (f:dD agg k c i=some p):∃r,(Instr.loadAt t v).run P w= .ok r w/\RepP fi M w (degrF p) r:=by
 obtain⟨u,rfl,⟨_,_,_,h,x,T,n,e,d⟩,_⟩:=pY q l o;obtain⟨m,_⟩:=wF f e d h;exact⟨_,by simp only[Instr.loadAt,Instr.sureAddr];simp[pX ha j n m],O9 f e d h⟩
theorem QZ (A:dv P fi M w s a o (.mvF d n)) (h:ae cf s (.mvF d n)=some s'):Sim P fi o M w s' a:=by
 obtain⟨C,op,E,t,D,g⟩:=o;obtain⟨l,f,q,j⟩:=A;simp only[ae] at h;split at h
 ·rename_i z xs u
  cases h;have hr:OwnRep fi M w (Loc.env n 0) z xs (a.tmps.getD n undef):=(l.env n _ u).2;have i:RepAt fi M w (Loc.env d) (.fr z xs) (a.tmps.getD n undef):=by
   refine (RepP.fr _ _ _ hr.1 λA k c e=>?_).repE.repAt;rcases hr.2 with p|⟨b,o,H,G,F,p,-,x,-,-,-,-,B⟩<;>rw[p] at e<;>cases e
   refine⟨B,λk v=>⟨?_,by simp[World.frozen?,x]⟩⟩;have r:=hr.1;rw[p] at r;exact O7 r v
  cases op with
  | move y=>
   cases y with
   |tmp m=>
    simp[mOp] at f;subst f;exact Sim.pure l q (j d rfl) (by simp[execOp,Act.eval]) i
   |_=>simp[mOp] at f
  | assign y=>
   cases y with
   |tmp m=>
    simp[mOp] at f;subst f;exact Sim.pure l q (j d rfl) (by simp[execOp,Act.eval]) i
   |_=>simp[mOp] at f
  |_=>simp[mOp] at f
 ·cases h
theorem Ov (l:fw):gR l=l.map unfr:=by
 induction l with
 |nil=>rfl
 |cons a l b=>rw[gR,b];rfl
theorem Q0 (h:p.one=true):(unfr p).one=true:=by cases p<;>first|exact h|rfl
theorem Ow (e:PV):(unfr e).cells=e.cells.map unfr:=by
 cases e with
 |agg a=>exact Ov a
 |_=>rfl
theorem RepP.unfr {p:PV} {v:Value} (h:RepP fi M w p v):RepP fi M w (unfr p) v:=by
 induction h with
 |agg H C D _ L=>
  show RepP fi M w (.agg (gR H)) _
  rw[Ov];refine .agg _ C (by simpa using D) λi c v k hv=>?_
  rw[aB,aE] at k;obtain⟨c0,k,rfl⟩:=k;exact L i c0 v k hv
 | sl z xs A c b o N t k X G O _ L=>
  show RepP fi M w (.sl false z (gR xs)) _
  rw[Ov];have U:(xs.map Lw.unfr).length=xs.length:=aW _;have I:∀(i:Nat) (e:PV) (j:Nat) (p:PV),(xs.map Lw.unfr)[i]?=some e->e.cells[j]?=some p->∃m y,xs[i]?=some m/\m.cells[j]?=some y/\p=Lw.unfr y:=by intro i e j p l B;rw[aB,aE] at l;obtain⟨m,l,rfl⟩:=l;rw[Ow,aB,aE] at B;obtain⟨y,B,rfl⟩:=B;exact⟨m,y,l,B,rfl⟩
  rw[<-U];refine .sl z _ A c b o N (t.imp (λe=>by rw[e];rfl) id) (by rw[U];exact k) (λe l=>?_) (λe l=>?_) (λi e j p l B=>?_) (λi e j p l B=>?_)
  ·obtain⟨m,E,rfl⟩:=List.mem_map.1 l
   rw[Ow,aW];exact X m E
  ·obtain⟨m,E,rfl⟩:=List.mem_map.1 l
   have R:=G m E;unfold az at R ⊢;rw[Ow,List.all_map];rw[bV] at R ⊢;exact λq hq=>Q0 (R q hq)
  ·obtain⟨m,y,T,S,_⟩:=I i e j p l B
   exact O i m j y T S
  ·obtain⟨m,y,T,S,rfl⟩:=I i e j p l B
   exact L i m j y T S
 |fr z xs v _ _ L=>exact L
 |tup H C D h=>exact .tup H C D h
 |bs b d n z A c a s t k=>exact .bs b d n z A c a s t k
 |ptr b d a s=>exact .ptr b d a s
 |ep e d b o N G O hr=>exact .ep e d b o N G O hr
 |mp b a s=>exact .mp b a s
 |stk b u n a c s x t k=>exact .stk b u n a c s x t k
 |pstk b u i a s x t=>exact .pstk b u i a s x t
 |sub b u d n a c A s x t k Q=>exact .sub b u d n a c A s x t k Q
 |bfn f F H C P D G h=>exact .bfn f F H C P D G h
 |fn f F H C P D G h=>exact .fn f F H C P D G h
 |ol z xs v h=>exact .ol z xs v h
 |dj g z n c A x k t=>exact .dj g z n c A x k t
 |djp g r b o x h=>exact .djp g r b o x h
 |_=>constructor
theorem RepE.unfr {p:PV} {v:Value} (h:RepE fi M w p v):RepE fi M w (unfr p) v:=by
 cases p with
 |ptr g b o=>cases g<;>exact h
 |bs g b o n z=>cases g<;>exact h
 |_=>exact (RepP.unfr h).repE
theorem Q3 (A:dv P fi M w s a o (.mv d x)) (h:ae cf s (.mvS d x)=some s'):Sim P fi o M w s' a:=by
 obtain⟨k,op,m,j,l,g⟩:=o;obtain⟨c,e,i,b⟩:=A;simp only[ae,aE] at h;obtain⟨v,f,rfl⟩:=h;cases op with
 |move y=>exact Sim.pure c i (b d rfl) (by simp[execOp]) (bt c e f).unfr.repAt
 |assign y=>exact Sim.pure c i (b d rfl) (by simp[execOp]) (bt c e f).unfr.repAt
 |_=>simp[mOp] at e
theorem D8 (A:dv P fi M w s a o (.tk d n)) (h:ae cf s (.tk d n)=some s'):Sim P fi o M w s' a:=by
 obtain⟨f,op,E,r,D,g⟩:=o;obtain⟨C,b,q,i⟩:=A;simp only[ae,aE] at h;obtain⟨v,B,rfl⟩:=h;have c:∀y,mX fi (.t n) y=true->∃M',Inv fi M' w ⟨put (put s.env n (degr v)) d v,s.lh,s.gh⟩ (a.put (some d) (a.eval y))/\Kp M w M' w:=by intro y z;obtain⟨F,k,x,hr,_⟩:=pW C z (v:=v) (e:=put s.env n (degr v)) (by simp[f6,B]);obtain⟨j,u⟩:=k.putLim (i d rfl) hr;exact⟨_,j,x.trans u⟩
 cases op with
 | move y=>
  cases y with
  |tmp m=>
   simp[mOp] at b;obtain⟨M',p,l⟩:=c (.tmp m) (by simp[mX,b]);exact⟨_,a.eval (.tmp m),M',w,by simp[execOp],.inl rfl,by rw[show f=some d from q];exact p,l⟩
  |_=>simp[mOp] at b
 | assign y=>
  cases y with
  |tmp m=>
   simp[mOp] at b;obtain⟨M',p,l⟩:=c (.tmp m) (by simp[mX,b]);exact⟨_,a.eval (.tmp m),M',w,by simp[execOp],.inl rfl,by rw[show f=some d from q];exact p,l⟩
  |_=>simp[mOp] at b
 |_=>simp[mOp] at b
theorem D9 {c:IX} (A:dv P fi M w s a o (.pick d c x y)) (h:ae cf s (.pick d c x y)=some s'):Sim P fi o M w s' a:=by
 obtain⟨n,op,u,m,q,g⟩:=o;obtain⟨e,f,l,i⟩:=A;cases op<;>simp[mOp] at f;rename_i v t r;simp only[ae] at h;split at h
 ·rename_i k
  simp only[aE] at h;obtain⟨p,j,rfl⟩:=h;have b:=(bt e f.1.1 k).bool;exact Sim.pure e l (i d rfl) (by simp[execOp,b,asBool]) (bt e f.1.2 j).repAt
 ·rename_i k
  simp only[aE] at h;obtain⟨p,j,rfl⟩:=h;have b:=(bt e f.1.1 k).bool;exact Sim.pure e l (i d rfl) (by simp[execOp,b,asBool]) (bt e f.2 j).repAt
 ·cases h
theorem Ea {g tk:Bool} (A:dv P fi M w s a o (.box d g tk x)) (h:ae cf s (.box d g tk x)=some s'):Sim P fi o M w s' a:=by
 obtain⟨j,op,D,l,B,G⟩:=o;obtain⟨z,r,F,t⟩:=A;cases op<;>simp[mOp] at r;rename_i C y;have i:∀(f:Mem) (k:St) (p:PV),Inv fi f w k a->Kp M w f w->RepAt fi f w Loc.lim p (a.eval y)->az p=true->Sim P fi ⟨j,.box C y,D,l,B,G⟩ M w (kG k d g p.cells) a:=by
  intro f k p c m hr b;obtain⟨H,u,E,q⟩:=c.newBox g hr b C;refine⟨_,.pointer (some ⟨w.heap.size,0,none⟩),H,_,?_,.inl rfl,?_,m.trans E⟩
  ·simp[execOp,Instr.box,newVar,newRow]
  ·rw[show j=some d from F]
   exact u.put (t d rfl) q.repAt
 simp only[ae] at h;split at h
 ·simp only[aC] at h
  obtain⟨⟨v,e⟩,n,h⟩:=h;split at h
  ·rename_i b
   cases h;obtain⟨f,c,m,hr,_⟩:=pW z r n;exact i f _ v c m hr b
  ·cases h
 ·simp only[aC] at h
  obtain⟨v,n,h⟩:=h;split at h
  ·rename_i b
   cases h;exact i M s v z (Kp.refl M w) (bt z r n).repAt b
  ·cases h
theorem Eb {g:Bool} {z:PV} (A:dv P fi M w s a o (.alloc d g z)) (h:ae cf s (.alloc d g z)=some s'):Sim P fi o M w s' a:=by
 obtain⟨m,op,y,p,u,B⟩:=o;obtain⟨t,b,r,k⟩:=A;cases op<;>simp[mOp] at b;rename_i n;simp only[ae] at h;split at h
 ·rename_i j
  cases h;unfold nU at b;cases c:P.info? n with
  |none=>simp[c] at b
  | some i=>
   cases e:i.zero with
   |none=>simp[c,e] at b
   | some x=>
    simp[c,e] at b;obtain⟨v,l,q,f⟩:=t.newBox g (lE b Loc.lim) j n;refine⟨_,.pointer (some ⟨w.heap.size,0,none⟩),v,_,?_,.inl rfl,?_,q⟩
    ·simp[execOp,Instr.alloc,zeroValue,typeInfo,c,e,newVar,newRow]
    ·rw[show m=some d from r]
     exact l.put (k d rfl) f.repAt
 ·cases h
theorem Ec {j i:Nat} {t:TypeId} (A:Inv fi M w s a) (ha:fW P t=some false) (x:RepE fi M w (.pstk b j i) v) (d:j6 s.gh b j i=some p) :
  ∃r,(Instr.loadAt t v).run P w= .ok r w/\RepP fi M w p r:=by
 unfold j6 at d;split at d
 ·rename_i g xs m
  split at d
  ·rename_i n
   subst n;cases (show RepP fi M w (.pstk b g i) v from x) with
   |pstk _ _ _ F z y B=>
    obtain⟨O,E,N,L,I,o,T,D,H,G,C⟩:RepStk fi M w b M.gb[b] g xs:=A.gh b _ _ m (aA z);have h:=B E.symm;subst h;obtain⟨u,q,hr⟩:=C i p d;obtain⟨f,l⟩:=Array.getElem?_eq_some_iff.1 q;have c:=pX (P:=P) (t:=t) (agg:=false) (k:=1) (off:=i) (vs:=o.toList) (T:=T) ha bh (by simpa using D) (by simpa using f);simp only[bR,if_false] at c;refine⟨u,?_,hr⟩;have e:o.toList.getD i undef=u:=by simp[List.getD,f,l]
    rw[e] at c;simpa [Instr.loadAt,Instr.sureAddr] using c
  ·cases d
 ·cases d
theorem sim_load {agg:Bool} (A:dv P fi M w s a o (.load d agg k x)) (h:ae cf s (.load d agg k x)=some s'):Sim P fi o M w s' a:=by
 obtain⟨B,op,D,u,C,E⟩:=o;obtain⟨i,c,q,f⟩:=A;cases op<;>simp[mOp] at c;rename_i t y;simp only[ae] at h;split at h
 ·rename_i g b j l
  simp only[aC,aE] at h;obtain⟨F,z,v,m,rfl⟩:=h;obtain⟨r,p,n⟩:=DL (P:=P) i c.1.2 (λ_=>c.2) (bt i c.1.1 l) z m;exact Sim.pure i q (f d rfl) (by simp[execOp,p]) n.repE.repAt
 ·rename_i e j l
  simp only[aE] at h;obtain⟨v,m,rfl⟩:=h;obtain⟨r,p,n⟩:=DM (P:=P) c.1.2 (λ_=>c.2) (bt i c.1.1 l) m;exact Sim.pure i q (f d rfl) (by simp[execOp,p]) n.repE.repAt
 ·cases h
theorem Q4 {agg:Bool} (A:dv P fi M w s a o (.load d agg k x)) (h:ae cf s (.loadS d agg k x)=some s'):Sim P fi o M w s' a:=by
 obtain⟨B,op,D,u,C,E⟩:=o;obtain⟨i,c,q,f⟩:=A;cases op<;>simp[mOp] at c;rename_i t y;simp only[ae] at h;split at h
 ·rename_i g b j l
  simp only[aC,aE] at h;obtain⟨F,z,v,m,rfl⟩:=h;obtain⟨r,p,n⟩:=DL (P:=P) i c.1.2 (λ_=>c.2) (bt i c.1.1 l) z m;exact Sim.pure i q (f d rfl) (by simp[execOp,p]) n.unfr.repE.repAt
 ·rename_i e j l
  simp only[aE] at h;obtain⟨v,m,rfl⟩:=h;obtain⟨r,p,n⟩:=DM (P:=P) c.1.2 (λ_=>c.2) (bt i c.1.1 l) m;exact Sim.pure i q (f d rfl) (by simp[execOp,p]) n.unfr.repE.repAt
 ·cases h
theorem Q5 {agg:Bool} (A:dv P fi M w s a o (.load d agg k x)) (h:ae cf s (.loadM d agg k x)=some s'):Sim P fi o M w s' a:=by
 obtain⟨z,op,C,i,B,D⟩:=o;obtain⟨f,c,n,e⟩:=A;cases op<;>simp[mOp] at c;rename_i t y;simp only[ae] at h;split at h
 ·rename_i g b j l
  simp only[aC,aE] at h;obtain⟨E,p,v,m,rfl⟩:=h;obtain⟨r,u,q⟩:=QY (P:=P) f c.1.2 (λ_=>c.2) (bt f c.1.1 l) p m;exact Sim.pure f n (e d rfl) (by simp[execOp,u]) q.repE.repAt
 ·cases h
theorem wR:∀{l m:List ByteArray},l.map (λs=>s.data.toList)=m.map (λs=>s.data.toList)->l=m
 |[],[],_=>rfl
 |[],_::_,h=>by simp at h
 |_::_,[],h=>by simp at h
 |a::l,b::m,h=>by simp only[bS,List.cons.injEq] at h;obtain⟨⟨x⟩⟩:=a;obtain⟨⟨y⟩⟩:=b;simp only at h;rw[h.1,wR h.2]
theorem Ed {z:List ByteArray} (A:dv P fi M w s a o (.loadG d z)) (h:ae cf s (.loadG d z)=some s'):Sim P fi o M w s' a:=by
 obtain⟨Q,op,S,D,R,T⟩:=o;obtain⟨u,n,G,q⟩:=A;cases op<;>simp[mOp] at n;rename_i t y;cases y<;>simp at n;rename_i g;obtain⟨r,C,l,F,rfl,E⟩:=n;obtain rfl:=wR E;obtain⟨b,o,c,L,I,H⟩:=fi.gwok _ F;simp only[ae,bW] at h;subst h;have O:=(u.gl _ L).2;have B:(l.map PV.str).length=l.length:=aW _;refine Sim.pure u G (q d rfl) (v:= .slice (some ⟨b,o,none⟩) l.length c) ?_ (RepP.repE ?_).repAt
 ·have N:a.eval (.global C)= .pointer (some ⟨C,0,none⟩):=rfl
  simp only[execOp,N];simp[Instr.loadAt,Instr.sureAddr,loadVar,r9 r,load,Sem.run,O]
 ·rw[<-B]
  refine .sl 1 _ _ c b o (λi=>((l.map Value.string)[i]?).getD undef) (.inr rfl) (by rw[B];exact I) ?_ ?_ ?_ ?_
  ·intro e f;obtain⟨x,_,rfl⟩:=List.mem_map.1 f;rfl
  ·intro e f;obtain⟨x,_,rfl⟩:=List.mem_map.1 f;rfl
  ·intro i e j p f k
   rw[aB,aE] at f;obtain⟨x,m,rfl⟩:=f;obtain rfl:j=0:=by
    match j,k with
    |0,_=>rfl
    |j+1,k=>cases k
   have:=u.gl _ (H i x m);simp only[Nat.mul_one,cG,aB,m];exact this
  ·intro i e j p f k
   rw[aB,aE] at f;obtain⟨x,m,rfl⟩:=f;obtain rfl:j=0:=by
    match j,k with
    |0,_=>rfl
    |j+1,k=>cases k
   cases k;simp only[Nat.mul_one,cG,aB,m];exact .str _
theorem sI (A:dv P fi M w s a o (.loadT d x)) (h:ae cf s (.loadT d x)=some s'):Sim P fi o M w s' a:=by
 obtain⟨f,op,C,j,B,D⟩:=o;obtain⟨i,c,p,e⟩:=A;cases op<;>simp[mOp] at c;rename_i t y;simp only[ae] at h;split at h
 ·rename_i g b k m
  simp only[aC,aE] at h;obtain⟨E,q,v,n,rfl⟩:=h;obtain⟨r,M',z,u,l⟩:=DO (P:=P) i c.2 (bt i c.1 m) q n (e d rfl);exact⟨_,r,M',w,by simp[execOp,z],.inl rfl,by rw[show f=some d from p];exact u,l⟩
 ·cases h
theorem Ee {tk:Bool} (A:dv P fi M w s a o (.store tk k y x)) (h:ae cf s (.store tk k y x)=some s'):Sim P fi o M w s' a:=by
 obtain⟨z,op,X,D,S,gd⟩:=o;obtain⟨C,q,hd,aa⟩:=A;cases op<;>simp[mOp] at q;rename_i t B T
 have n:∀(j:Mem) (e:fT) (g:Bool) (b c:Nat) (i:fw) (p:PV),Inv fi j w ⟨e,s.lh,s.gh⟩ a->Kp M w j w->RepE fi j w (.ptr g b c) (a.eval B)->RepAt fi j w Loc.lim p (a.eval T)->
   St.cellsAt ⟨e,s.lh,s.gh⟩ g b=some i->p.cells.length=k->c+k<=i.length->az p=true->Sim P fi ⟨z,.store t B T,X,D,S,gd⟩ M w (St.setCells ⟨e,s.lh,s.gh⟩ g b (au i c p.cells)) a:=by
  intro j e g b c i p l E H hr r f L I;obtain⟨M',w',R,Q,k2⟩:=DN (P:=P) l q.2 H r hr f L I;refine⟨_,undef,M',w',?_,.inr ⟨rfl,rfl⟩,?_,E.trans k2⟩
  ·simp[execOp,R]
  ·rw[show z=none from hd];exact Q
 simp only[ae] at h;split at h
 ·rename_i g b c H
  have d:=bt C q.1.1 H;split at h
  ·simp only[aC] at h
   obtain⟨⟨v,e⟩,F,i,r,h⟩:=h;split at h
   ·rename_i f
    cases h;obtain⟨j,l,E,hr,N,O,U⟩:=pW C q.1.2 F;have G:RepE fi j w (.ptr g b c) (a.eval B):=by
     cases g with
     |true=>
      generalize hu:a.eval B=u at d ⊢;cases (show RepP fi M w (fc b c) u from d) with
      |ptr _ _ m hb=>exact RepP.repE (.ptr _ _ m (by rw[O];exact hb))
     |false=>obtain⟨m,R,Q⟩:=d;exact⟨m,by rw[N];exact R,Q⟩
    exact n j e g b c i v l E G hr r f.1 f.2.1 f.2.2
   ·cases h
  ·simp only[aC] at h
   obtain⟨v,F,i,r,h⟩:=h;split at h
   ·rename_i f
    cases h;exact n M s.env g b c i v C (Kp.refl M w) d (bt C q.1.2 F).repAt r f.1 f.2.1 f.2.2
   ·cases h
 ·cases h
theorem Ef (A:dv P fi M w s a o (.nilc d x)) (h:ae cf s (.nilc d x)=some s'):Sim P fi o M w s' a:=by
 obtain⟨E,op,H,C,G,N⟩:=o;obtain⟨k,p,r,j⟩:=A;cases op<;>simp[mOp] at p;rename_i y;simp only[ae] at h;split at h
 ·rename_i g b l m
  cases h;have c:=bt k p m;have i:∃q,a.eval y= .pointer (some q):=by
   cases g with
   |true=>
    generalize t:a.eval y=u at c;cases (show RepP fi M w (fc b l) u from c) with
    |ptr _ _ B I=>exact⟨_,rfl⟩
   |false=>obtain⟨B,L,D⟩:=c;exact⟨_,D⟩
  obtain⟨q,i⟩:=i;exact Sim.pure k r (j d rfl) (v:=a.eval y) (by simp[execOp,i]) c.repAt
 ·rename_i e l m
  cases h;have c:=bt k p m;have i:∃q,a.eval y= .pointer (some q):=by generalize t:a.eval y=u at c;cases (show RepP fi M w (.ep e l) u from c);exact⟨_,rfl⟩
  obtain⟨q,i⟩:=i;exact Sim.pure k r (j d rfl) (v:=a.eval y) (by simp[execOp,i]) c.repAt
 ·rename_i f z m
  cases h;have c:=bt k p m;have i:∃F n,a.eval y= .func (.func F) #[] n:=by generalize t:a.eval y=u at c;cases (show RepP fi M w (.fn f z) u from c);exact⟨_,_,rfl⟩
  obtain⟨F,n,i⟩:=i;exact Sim.pure k r (j d rfl) (v:=a.eval y) (by simp[execOp,i]) c.repAt
 ·rename_i f z m
  cases h;have c:=bt k p m;have i:∃F n,a.eval y= .func (.func F) n #[]:=by generalize t:a.eval y=u at c;cases (show RepP fi M w (.bfn f z) u from c);exact⟨_,_,rfl⟩
  obtain⟨F,n,i⟩:=i;exact Sim.pure k r (j d rfl) (v:=a.eval y) (by simp[execOp,i]) c.repAt
 ·cases h
theorem Eg {b:BinOp} (A:dv P fi M w s a o (.bin d b x y)) (h:ae cf s (.bin d b x y)=some s'):Sim P fi o M w s' a:=by obtain⟨C,op,E,j,D,H⟩:=o;obtain⟨e,f,u,c⟩:=A;cases op<;>simp[mOp,lH] at f;rename_i I t i g F;obtain⟨⟨rfl,l⟩,k⟩:=f;simp only[ae,aC,aE] at h;obtain⟨p,n,q,m,r,hr,rfl⟩:=h;obtain⟨G,B,z,v⟩:=pU (P:=P) (t:=t) (x:=i) (y:=g) hr (bt e l n) (bt e k m);exact Sim.pure e u (c d rfl) (by simp[execOp,B,z]) v.repE.repAt
theorem Eh {m:fS} (A:dv P fi M w s a o (.eqa d neg m x y)) (h:ae cf s (.eqa d neg m x y)=some s'):Sim P fi o M w s' a:=by
 obtain⟨I,op,Q,u,L,S⟩:=o;obtain⟨l,n,G,k⟩:=A;cases op<;>simp[mOp,lH] at n;rename_i X t O N R;obtain⟨⟨⟨⟨rfl,F⟩,E⟩,B⟩,z⟩:=n;simp only[ae] at h;split at h
 ·rename_i U T D C
  simp only[aE] at h;obtain⟨r,hr,rfl⟩:=h;obtain⟨p,f,e,c⟩:=(bt l B D).agg;obtain⟨q,j,i,g⟩:=(bt l z C).agg;have H:(Op.equal t (.agg p.toArray) (.agg q.toArray)).run P w= .ok r w:=wJ (P:=P) (fi:=fi) (M:=M) (w:=w) F hr e i c g 9998 w;refine Sim.pure l G (k d rfl) (v:= .bool (if neg then !r else r)) ?_ (RepP.repE (.bool _)).repAt;cases neg<;>simp[execOp,f,j,eqGuard,E,binOp,H]
 ·cases h
theorem Q6 (A:dv P fi M w s a o (.eqb d neg x y)) (h:ae cf s (.eqb d neg x y)=some s'):Sim P fi o M w s' a:=by
 obtain⟨D,op,F,l,E,H⟩:=o;obtain⟨f,i,z,e⟩:=A;cases op<;>simp[mOp,lH] at i;rename_i I t k j G;obtain⟨⟨⟨rfl,g⟩,n⟩,m⟩:=i;have c:P.underlying t=some .bool:=by
  split at g
  ·assumption
  ·cases g
 simp only[ae] at h;split at h
 ·rename_i p q u r
  cases h;have C:=(bt f n u).bool;have B:=(bt f m r).bool;have:=QX (P:=P) c (a:=p) (b:=q) (neg:=neg) (x:=k) (y:=j) w;refine Sim.pure f z (e d rfl) (v:= .bool (if neg then p !=q else p==q)) ?_ (RepP.repE (.bool _)).repAt;rw[<-C,<-B] at this;simp only[execOp,Sem.run_bind] at this ⊢;simp[this]
 ·cases h
end
end
end Go.Lw