/-
  The texts that the proof stands on, part 8.
-/
import Derived.Test.YtmodipglnngghacGreatDoorExploreFindsG
import Derived.WalkKit
set_option linter.unusedVariables false
set_option linter.unusedSimpArgs false
set_option linter.unnecessarySimpa false

set_option maxRecDepth 100000
set_option maxHeartbeats 4000000
namespace Go.Lw
open Go
inductive Loc where
 |env (t i:Nat)
 |lh (b i:Nat)
 |gh (b i:Nat)
 |res (i:Nat)
 |lim (i:Nat)
 deriving DecidableEq
structure Mem where
 lb:List Nat
 gb:List Nat
 imm:Nat->Nat->Prop
 own:Nat->Option Loc
 st:Nat->Nat×Nat×Nat
 ds:List Deferred:=[]
def jy (gl:List (Nat×Nat×Option Value)) (gw:List (Nat×List ByteArray)):Prop:=
 ∀x∈gw,∃b o c,(x.1,0,some (.slice (some ⟨b,o,none⟩) x.2.length c))∈gl/\x.2.length<=c/\∀(i:Nat) (s:ByteArray),x.2[i]?=some s->(b,o+i,some (.string s))∈gl
theorem oJ (gl:List (Nat×Nat×Option Value)):jy gl []:=λ_ h=>by cases h
structure FI where
 f:Nat->Option Nat
 gl:List (Nat×Nat×Option Value)
 bT:List TypeId:=[]
 u8:TypeId:=0
 gw:List (Nat×List ByteArray):=[]
 gwok:jy gl gw:=by exact oJ _
 yk:Nat->List Nat:=λ_=>[]
 yp:Nat->Nat->Array Tmp->Code->Code->Bool:=λ_ _ _ _ _=>false
instance:CoeFun FI (λ_=>Nat->Option Nat):=⟨FI.f⟩
inductive RepP (fi:FI) (M:Mem) (w:World):PV->Value->Prop where
 |und:RepP fi M w .und undef
 |int (k:IntKind) (n:Int):RepP fi M w (.int k n) (.int k n)
 |bool (b:Bool):RepP fi M w (.bool b) (.bool b)
 |str (s:ByteArray):RepP fi M w (.str s) (.string s)
 |agg (cs:List PV) (vs:List Value) (hl:vs.length=cs.length) (h:∀(i:Nat) (c:PV) (v:Value),cs[i]?=some c->vs[i]?=some v->RepP fi M w c v):RepP fi M w (.agg cs) (.agg vs.toArray)
 |tup (cs:List PV) (vs:List Value) (hl:vs.length=cs.length) (h:∀(i:Nat) (c:PV) (v:Value),cs[i]?=some c->vs[i]?=some v->RepP fi M w c v):RepP fi M w (.tup cs) (.tuple vs.toArray)
 | sl (z:Nat) (xs:List PV) (A:Option Addr) (c b o:Nat) (vf:Nat->Value) (hA:xs=[]\/A=some ⟨b,o,none⟩) (hc:xs.length<=c)
   (hz:∀e∈xs,e.cells.length=z) (h1:∀e∈xs,ah e=true)
   (hm:∀(i:Nat) (e:PV) (j:Nat) (p:PV),xs[i]?=some e->e.cells[j]?=some p->M.imm b (o+(i*z+j))/\w.cell? ⟨b,o+(i*z+j),none⟩=some (vf (i*z+j)))
   (hr:∀(i:Nat) (e:PV) (j:Nat) (p:PV),xs[i]?=some e->e.cells[j]?=some p->RepP fi M w p (vf (i*z+j))):RepP fi M w (.sl false z xs) (.slice A xs.length c)
 |bs (b off n z:Nat) (A:Option Addr) (c blk:Nat) (hb:M.gb[b]?=some blk) (hA:n=0\/A=some ⟨blk,off,none⟩) (hc:n<=c):RepP fi M w (.bs true b off n z) (.slice A n c)
 |ptr (b off blk:Nat) (hb:M.gb[b]?=some blk):RepP fi M w (.ptr true b off) (.pointer (some ⟨blk,off,none⟩))
 |nilp:RepP fi M w .nilp (.pointer none)
 | ep (e:PV) (off b o:Nat) (vf:Nat->Value) (h1:ah e=true)
   (hm:∀(j:Nat) (p:PV),e.cells[j]?=some p->M.imm b (o+j)/\w.cell? ⟨b,o+j,none⟩=some (vf j))
   (hr:∀(j:Nat) (p:PV),e.cells[j]?=some p->RepP fi M w p (vf j)):RepP fi M w (.ep e off) (.pointer (some ⟨b,o+off,none⟩))
 |mp (b blk:Nat) (hb:M.gb[b]?=some blk):RepP fi M w (.mp b) (.map (some blk))
 |nilm:RepP fi M w .nilm (.map none)
 |nilf:RepP fi M w .nilf .nilFunc
 |nils:RepP fi M w .nils (.slice none 0 0)
 |stk (b gen n blk c:Nat) (hb:b<M.gb.length) (hg:gen<=(M.st b).1) (hA:gen=(M.st b).1->blk=(M.st b).2.1/\c<=(M.st b).2.2) (hc:n<=c):RepP fi M w (.stk b gen n) (.slice (some ⟨blk,0,none⟩) n c)
 |pstk (b gen i blk:Nat) (hb:b<M.gb.length) (hg:gen<=(M.st b).1) (hA:gen=(M.st b).1->blk=(M.st b).2.1):RepP fi M w (.pstk b gen i) (.pointer (some ⟨blk,i,none⟩))
 |sub (b gen off n blk c:Nat) (A:Option Addr) (hb:b<M.gb.length) (hg:gen<=(M.st b).1) (hA:gen=(M.st b).1->blk=(M.st b).2.1/\off+c<=(M.st b).2.2) (hc:n<=c) (hAd:n=0\/A=some ⟨blk,off,none⟩):RepP fi M w (.sub b gen off n) (.slice A n c)
 | bfn (f F:Nat) (cs:List PV) (vs:List Value) (hf:fi f=some F) (hl:vs.length=cs.length) (h1:cs.all ah=true)
   (h:∀(i:Nat) (c:PV) (v:Value),cs[i]?=some c->vs[i]?=some v->RepP fi M w c v):RepP fi M w (.bfn f cs) (.func (.func F) vs.toArray #[])
 | fn (f F:Nat) (cs:List PV) (vs:List Value) (hf:fi f=some F) (hl:vs.length=cs.length) (h1:cs.all ah=true)
   (h:∀(i:Nat) (c:PV) (v:Value),cs[i]?=some c->vs[i]?=some v->RepP fi M w c v):RepP fi M w (.fn f cs) (.func (.func F) #[] vs.toArray)
 |yl (b blk:Nat) (hb:M.gb[b]?=some blk):RepP fi M w (.yl b) (.func (.yield blk) #[] #[])
 |nilI:RepP fi M w .nilI .nilIface
 |someI (t:TypeId) (v:Value):RepP fi M w .someI (.iface t v)
 |junk (v:Value):RepP fi M w .junk v
structure Ext (M:Mem) (w:World) (M':Mem) (w':World):Prop where
 gb:∀(i k:Nat),M.gb[i]?=some k->M'.gb[i]?=some k
 imm:∀b k,M.imm b k->M'.imm b k
 cell:∀b k,M.imm b k->w'.cell? ⟨b,k,none⟩=w.cell? ⟨b,k,none⟩
 st:∀b,b<M.gb.length->(M.st b).1<=(M'.st b).1/\((M'.st b).1=(M.st b).1->M'.st b=M.st b)
theorem Ext.refl (M:Mem) (w:World):Ext M w M w:=⟨λ_ _ h=>h,λ_ _ h=>h,λ_ _ _=>rfl,λ_ _=>⟨cN _,λ_=>rfl⟩⟩
theorem Ext.len {M M':Mem} {w w':World} (h:Ext M w M' w') {b:Nat} (hb:b<M.gb.length):b<M'.gb.length:=
 (aD.1 (h.gb b _ (aA hb))).1
theorem Ext.trans {M M' M'':Mem} {w w' w'':World} (h:Ext M w M' w') (k:Ext M' w' M'' w''):Ext M w M'' w'':=
 ⟨λi b hb=>k.gb i b (h.gb i b hb),λb o hb=>k.imm b o (h.imm b o hb),λb o hb=>(k.cell b o (h.imm b o hb)).trans (h.cell b o hb),
  λb hb=>by
   obtain⟨h1,h2⟩:=h.st b hb;obtain⟨k1,k2⟩:=k.st b (h.len hb);exact⟨bX h1 k1,λe=>by
    have e2:(M'.st b).1=(M.st b).1:=by omega
    rw[k2 (by omega),h2 e2]⟩⟩
section
variable {fi:FI} {M M':Mem} {w w':World}
theorem RepP.mono (hx:Ext M w M' w') {p:PV} {v:Value} (h:RepP fi M w p v):RepP fi M' w' p v:=by
 induction h with
 |und=>exact .und
 |int k n=>exact .int k n
 |bool b=>exact .bool b
 |str s=>exact .str s
 |agg cs vs hl _ ih=>exact .agg cs vs hl ih
 |tup cs vs hl _ ih=>exact .tup cs vs hl ih
 |sl z xs A c b o vf hA hc hz h1 hm _ ih=>
  exact .sl z xs A c b o vf hA hc hz h1 (λi e j p he hp=>⟨hx.imm _ _ (hm i e j p he hp).1,(hx.cell _ _ (hm i e j p he hp).1).trans (hm i e j p he hp).2⟩) ih
 |bs b off n z A c blk hb hA hc=>exact .bs b off n z A c blk (hx.gb _ _ hb) hA hc
 |ptr b off blk hb=>exact .ptr b off blk (hx.gb _ _ hb)
 |nilp=>exact .nilp
 |ep e off b o vf h1 hm _ ih=>exact .ep e off b o vf h1 (λj p hp=>⟨hx.imm _ _ (hm j p hp).1,(hx.cell _ _ (hm j p hp).1).trans (hm j p hp).2⟩) ih
 |mp b blk hb=>exact .mp b blk (hx.gb _ _ hb)
 |yl b blk hb=>exact .yl b blk (hx.gb _ _ hb)
 |nilm=>exact .nilm
 |nilf=>exact .nilf
 |nils=>exact .nils
 | stk b gen n blk c hb hg hA hc=>
  obtain⟨h1,h2⟩:=hx.st b hb;exact .stk b gen n blk c (hx.len hb) (by omega) (λe=>by rw[h2 (by omega)];exact hA (by omega)) hc
 | pstk b gen i blk hb hg hA=>
  obtain⟨h1,h2⟩:=hx.st b hb;exact .pstk b gen i blk (hx.len hb) (by omega) (λe=>by rw[h2 (by omega)];exact hA (by omega))
 | sub b gen off n blk c A hb hg hA hc hAd=>
  obtain⟨h1,h2⟩:=hx.st b hb;exact .sub b gen off n blk c A (hx.len hb) (by omega) (λe=>by rw[h2 (by omega)];exact hA (by omega)) hc hAd
 |bfn f F cs vs hf hl h1 _ ih=>exact .bfn f F cs vs hf hl h1 ih
 |fn f F cs vs hf hl h1 _ ih=>exact .fn f F cs vs hf hl h1 ih
 |nilI=>exact .nilI
 |someI t v=>exact .someI t v
 |junk v=>exact .junk v
theorem fx {l:List PV} (h:cU l=true) {i:Nat} {c:PV} (hc:l[i]?=some c):c.noG=true:=by
 induction l generalizing i with
 |nil=>simp at hc
 |cons x l ih=>
  simp only[cU,aX] at h;cases i with
  |zero=>simp at hc;exact hc▸h.1
  |succ i=>exact ih h.2 (by simpa using hc)
theorem oO {e:PV} (h:e.noG=true) {j:Nat} {p:PV} (hp:e.cells[j]?=some p):p.noG=true:=by
 cases e with
 |agg cs=>exact fx (l:=cs) (by simpa [PV.noG] using h) hp
 |_=>
  simp only[PV.cells] at hp;cases j with
  |zero=>simp at hp;exact hp▸h
  |succ j=>simp at hp
theorem RepP.noG (gb:List Nat) (st:Nat->Nat×Nat×Nat) {p:PV} {v:Value} (h:RepP fi M w p v) (hg:p.noG=true):RepP fi {M with gb,st } w p v:=by
 induction h with
 |und=>exact .und
 |int k n=>exact .int k n
 |bool b=>exact .bool b
 |str s=>exact .str s
 |agg cs vs hl _ ih=>exact .agg cs vs hl λi c v hc hv=>ih i c v hc hv (fx (by simpa [PV.noG] using hg) hc)
 |tup cs vs hl _ ih=>exact .tup cs vs hl λi c v hc hv=>ih i c v hc hv (fx (by simpa [PV.noG] using hg) hc)
 |sl z xs A c b o vf hA hc hz h1 hm _ ih=>
  exact .sl z xs A c b o vf hA hc hz h1 hm λi e j p he hp=>ih i e j p he hp (oO (fx (by simpa [PV.noG] using hg) he) hp)
 |bs b off n z A c blk hb hA hc=>simp[PV.noG] at hg
 |ptr b off blk hb=>simp[PV.noG] at hg
 |nilp=>exact .nilp
 |ep e off b o vf h1 hm _ ih=>exact .ep e off b o vf h1 hm λj p hp=>ih j p hp (oO (by simpa [PV.noG] using hg) hp)
 |mp b blk hb=>simp[PV.noG] at hg
 |yl b blk hb=>simp[PV.noG] at hg
 |nilm=>exact .nilm
 |nilf=>exact .nilf
 |nils=>exact .nils
 |stk b gen n blk c hb hg' hA hc=>simp[PV.noG] at hg
 |pstk b gen i blk hb hg' hA=>simp[PV.noG] at hg
 |sub b gen off n blk c A hb hg' hA hc hAd=>simp[PV.noG] at hg
 |bfn f F cs vs hf hl h1 _ ih=>exact .bfn f F cs vs hf hl h1 λi c v hc hv=>ih i c v hc hv (fx (by simpa [PV.noG] using hg) hc)
 |fn f F cs vs hf hl h1 _ ih=>exact .fn f F cs vs hf hl h1 λi c v hc hv=>ih i c v hc hv (fx (by simpa [PV.noG] using hg) hc)
 |nilI=>exact .nilI
 |someI t v=>exact .someI t v
 |junk v=>exact .junk v
def OwnRep (fi:FI) (M:Mem) (w:World) (l:Loc) (z:Nat) (xs:List PV) (v:Value):Prop:=
 RepP fi M w (.sl false z xs) v/\
  (v= .slice none 0 0\/∃b o c cs e,v= .slice (some ⟨b,o,none⟩) xs.length c/\M.own b=some l/\w.heap[b]?=some (.cells cs e (0,0))/\o+c*z<=cs.size/\
   (∀k,o+xs.length*z<=k->k<o+c*z->¬M.imm b k)/\b∉M.lb/\b∉M.gb)
def uy:PV->Value
 | .int k n=> .int k n
 | .bool b=> .bool b
 |_=>undef
def ArrRep (M:Mem) (w:World) (l:Loc) (z:PV) (n:Nat) (v:Value):Prop:=
 dU z=true/\∃b T c,v= .slice (some ⟨b,0,none⟩) n c/\n<=c/\M.own b=some l/\w.heap[b]?=some (.cells (Array.replicate n (uy z)) T (0,0))/\(∀k,¬M.imm b k)/\b∉M.lb/\b∉M.gb
def RepC (fi:FI) (M:Mem) (w:World) (l:Loc) (p:PV) (v:Value):Prop:=
 match p with
 | .sl true z xs=>OwnRep fi M w l z xs v
 |p=>RepP fi M w p v
def RepE (fi:FI) (M:Mem) (w:World) (p:PV) (v:Value):Prop:=
 match p with
 | .ptr false b off=>∃blk,M.lb[b]?=some blk/\v= .pointer (some ⟨blk,off,none⟩)
 | .bs false b off n _=>∃blk A c,M.lb[b]?=some blk/\v= .slice A n c/\(n=0\/A=some ⟨blk,off,none⟩)/\n<=c
 |p=>RepP fi M w p v
def RepAt (fi:FI) (M:Mem) (w:World) (mk:Nat->Loc) (p:PV) (v:Value):Prop:=
 match p with
 | .sl true z xs=>OwnRep fi M w (mk 0) z xs v
 | .arr z n=>ArrRep M w (mk 0) z n v
 | .agg cs=>∃vs:List Value,v= .agg vs.toArray/\vs.length=cs.length/\∀(i:Nat) (c:PV) (u:Value),cs[i]?=some c->vs[i]?=some u->RepC fi M w (mk i) c u
 | .tup cs=>∃vs:List Value,v= .tuple vs.toArray/\vs.length=cs.length/\∀(i:Nat) (c:PV) (u:Value),cs[i]?=some c->vs[i]?=some u->RepC fi M w (mk i) c u
 |p=>RepE fi M w p v
theorem RepC.degr1 {l:Loc} {p:PV} {v:Value} (h:RepC fi M w l p v):RepP fi M w (aa p) v:=by
 unfold RepC at h;split at h
 ·exact h.1
 ·rename_i hp
  cases p with
  |sl o z xs=>cases o with
   |true=>exact absurd rfl (hp z xs)
   |false=>exact h
  |arr z n=>cases h
  |_=>exact h
theorem RepP.repC {l:Loc} {p:PV} {v:Value} (h:RepP fi M w p v):RepC fi M w l p v:=by
 unfold RepC;split
 ·cases h
 ·exact h
theorem RepP.repE {p:PV} {v:Value} (h:RepP fi M w p v):RepE fi M w p v:=by
 unfold RepE;split
 ·cases h
 ·cases h
 ·exact h
theorem RepE.repP {p:PV} {v:Value} (h:RepE fi M w p v) (h1:p.cells.all PV.one=true):RepP fi M w p v:=by
 unfold RepE at h;split at h
 ·simp[PV.cells,PV.one] at h1
 ·simp[PV.cells,PV.one] at h1
 ·exact h
theorem RepE.repAt {mk:Nat->Loc} {p:PV} {v:Value} (h:RepE fi M w p v):RepAt fi M w mk p v:=by
 unfold RepAt;split
 ·cases h
 ·cases h
 ·cases h with
  |agg cs vs hl h=>exact⟨vs,rfl,hl,λi c u hc hu=>(h i c u hc hu).repC⟩
 ·cases h with
  |tup cs vs hl h=>exact⟨vs,rfl,hl,λi c u hc hu=>(h i c u hc hu).repC⟩
 ·exact h
theorem RepAt.degr {mk:Nat->Loc} {p:PV} {v:Value} (h:RepAt fi M w mk p v):RepE fi M w (degr p) v:=by
 unfold RepAt at h;split at h
 ·exact h.1.repE
 ·exact RepP.repE (.junk v)
 ·obtain⟨vs,rfl,hl,h⟩:=h
  refine RepP.repE (.agg _ vs (by simpa using hl) λi c u hc hu=>?_);simp only[aB,aE] at hc;obtain⟨c',hc',rfl⟩:=hc;exact (h i c' u hc' hu).degr1
 ·obtain⟨vs,rfl,hl,h⟩:=h
  refine RepP.repE (.tup _ vs (by simpa using hl) λi c u hc hu=>?_);simp only[aB,aE] at hc;obtain⟨c',hc',rfl⟩:=hc;exact (h i c' u hc' hu).degr1
 ·rename_i h1 h4 h2 h3
  cases p with
  |sl o z xs=>cases o with
   |true=>exact absurd rfl (h1 z xs)
   |false=>exact h
  |agg cs=>exact absurd rfl (h2 cs)
  |tup cs=>exact absurd rfl (h3 cs)
  |arr z n=>exact absurd rfl (h4 z n)
  |_=>exact h
def RepBox (fi:FI) (M:Mem) (w:World) (mk:Nat->Loc) (blk:Nat) (cs:List PV):Prop:=
 blk<w.heap.size/\(∀k,¬M.imm blk k)/\M.own blk=none/\(∀c∈cs,c.one=true)/\
  ∃(vs:List Value) (T:TypeId),w.heap[blk]?=some (.cells vs.toArray T (0,0))/\vs.length=cs.length/\∀(i:Nat) (c:PV) (u:Value),cs[i]?=some c->vs[i]?=some u->RepC fi M w (mk i) c u
def RepMap (fi:FI) (M:Mem) (w:World) (blk:Nat) (es:List (PV×PV)):Prop:=
 blk<w.heap.size/\M.own blk=none/\
  ∃(l:List MapEntry) (clock:Nat),w.heap[blk]?=some (.map l.toArray clock)/\l.length=es.length/\
   ∀(i:Nat) (e:PV×PV) (m:MapEntry),es[i]?=some e->l[i]?=some m->RepP fi M w e.1 m.key/\RepP fi M w e.2 m.val/\ah e.1=true/\ah e.2=true
def RepStk (fi:FI) (M:Mem) (w:World) (i blk gen:Nat) (xs:List PV):Prop:=
 M.own blk=some (Loc.gh i 0)/\(M.st i).1=gen/\M.own (M.st i).2.1=some (Loc.gh i 0)/\(∀k,¬M.imm (M.st i).2.1 k)/\(∀x∈xs,dU x=true)/\
  ∃(cs:Array Value) (T:TypeId),w.heap[(M.st i).2.1]?=some (.cells cs T (0,0))/\cs.size=(M.st i).2.2/\xs.length<=cs.size/\∀(j:Nat) (x:PV),xs[j]?=some x->∃u,cs[j]?=some u/\RepP fi M w x u
def uz (s:ByteArray):List Value:=s.data.toList.map λb=>Value.int .u8 b.toNat
def RepBld (fi:FI) (M:Mem) (w:World) (i blk:Nat) (s:ByteArray):Prop:=
 blk<w.heap.size/\(∀k,¬M.imm blk k)/\M.own blk=none/\
  ∃ T∈fi.bT,((s= .empty/\w.heap[blk]?=some (.cells #[.pointer none,.slice none 0 0] T (0,0)))\/
   ∃(g cap:Nat) (cur:Array Value),w.heap[blk]?=some (.cells #[.pointer (some ⟨blk,0,none⟩),.slice (some ⟨g,0,none⟩) s.size cap] T (0,0))/\M.own g=some (Loc.gh i 0)/\g∉M.lb/\g∉M.gb/\(∀k,¬M.imm g k)/\
    w.heap[g]?=some (.cells cur fi.u8 (0,0))/\s.size≠0/\s.size<=cap/\cap<=maxLen/\cur.size=cap/\cur.toList.take s.size=uz s)
def RepLoop (fi:FI) (M:Mem) (w:World) (blk:Nat) (st:Nat) (y:Nat) (caps:List PV):Prop:=
 blk<w.heap.size/\M.own blk=none/\∃r:Loop,w.heap[blk]?=some (.loop r)/\(st=1->r.state= .ready/\r.pending=none)/\(st=2->r.state= .busy)/\(∃N,N<=r.tmps.size/\fi.yp y N r.params r.assign r.body=true)/\caps.length=(fi.yk y).length/\(∀c∈caps,ah c=true)/\
  ∀(i k:Nat) (c:PV),(fi.yk y)[i]?=some k->caps[i]?=some c->k<r.tmps.size/\RepP fi M w c (r.tmps.getD k undef)
def RepObj (fi:FI) (M:Mem) (w:World) (i blk:Nat):GObj->Prop
 | .cells cs=>RepBox fi M w (Loc.gh i) blk cs
 | .map es=>RepMap fi M w blk es
 | .stk gen xs=>RepStk fi M w i blk gen xs
 | .bld s=>RepBld fi M w i blk s
 | .lrec st y caps=>RepLoop fi M w blk st y caps
theorem RepLoop.to {blk y st:Nat} {caps:List PV} (h:RepLoop fi M w blk st y caps) (hx:Ext M w M' w') (hh:w'.heap[blk]?=w.heap[blk]?) (ho:M'.own blk=none) (hs:w.heap.size<=w'.heap.size):RepLoop fi M' w' blk st y caps:=by obtain⟨h1,h2,r,h3,h4,h9,h5,h6,h7,h8⟩:=h;exact⟨aS h1 hs,ho,r,hh.trans h3,h4,h9,h5,h6,h7,λi k c hk hc=>⟨(h8 i k c hk hc).1,(h8 i k c hk hc).2.mono hx⟩⟩
structure Inv (fi:FI) (M:Mem) (w:World) (s:St) (a:Act):Prop where
 env:∀t v,get s.env t=some v->t<a.tmps.size/\RepAt fi M w (Loc.env t) v (a.tmps.getD t undef)
 defers:a.defers=M.ds
 lbl:M.lb.length=s.lh.length
 gbl:M.gb.length=s.gh.length
 nodup:(M.lb++M.gb).Nodup
 lh:∀(i:Nat) (cs:List PV) (blk:Nat),s.lh[i]?=some cs->M.lb[i]?=some blk->RepBox fi M w (Loc.lh i) blk cs
 gh:∀(i:Nat) (o:GObj) (blk:Nat),s.gh[i]?=some o->M.gb[i]?=some blk->RepObj fi M w i blk o
 gl:∀x∈fi.gl,M.imm x.1 x.2.1/\w.cell? ⟨x.1,x.2.1,none⟩=x.2.2
 immlt:∀b k,M.imm b k->b<w.heap.size
 ownlt:∀b l,M.own b=some l->b<w.heap.size
 gblt:∀b∈M.gb,b<w.heap.size
theorem Ext.gl {fi:FI} {M M':Mem} {w w':World} (h:Ext M w M' w') (hg:∀x∈fi.gl,M.imm x.1 x.2.1/\w.cell? ⟨x.1,x.2.1,none⟩=x.2.2) :
  ∀x∈fi.gl,M'.imm x.1 x.2.1/\w'.cell? ⟨x.1,x.2.1,none⟩=x.2.2:=
 λx hx=>⟨h.imm _ _ (hg x hx).1,(h.cell _ _ (hg x hx).1).trans (hg x hx).2⟩
def Mark (M:Mem) (w:World) (n:Nat) (d:Deferred):Prop:=
 ∃D:Nat,n<=D/\d={target:= .collected D,args:= #[] }/\w.heap[D]?=some (.deferred (some []))/\D∉M.lb/\D∉M.gb/\M.own D=none
def Marks (n:Nat) (M:Mem) (w:World) (ds ds':List Deferred):Prop:=∃l,ds'=l++ds/\l.Nodup/\∀d∈l,Mark M w n d
theorem Marks.same {n:Nat} {M:Mem} {w:World} {ds ds':List Deferred} (h:ds'=ds):Marks n M w ds ds':=⟨[],by simp[h],List.nodup_nil,λd hd=>by cases hd⟩
structure Kp (M:Mem) (w:World) (M':Mem) (w':World):Prop where
 os:w'.os=w.os
 tape:w'.tape=w.tape
 output:w'.output=w.output
 size:w.heap.size<=w'.heap.size
 ext:Ext M w M' w'
 block:∀k,k<w.heap.size->k∉M.lb->k∉M.gb->M.own k=none->w'.heap[k]?=w.heap[k]?
 lbn:∀k∈M'.lb,k∈M.lb\/w.heap.size<=k
 gbn:∀k∈M'.gb,k∈M.gb\/w.heap.size<=k\/M.own k≠none\/k∈M.lb
 ownn:∀k,k<w.heap.size->M.own k=none->M'.own k=none
 immn:∀b k,M'.imm b k->M.imm b k\/w.heap.size<=b\/M.own b≠none
 ds:Marks w.heap.size M' w' M.ds M'.ds
theorem Kp.refl (M:Mem) (w:World):Kp M w M w:=
 ⟨rfl,rfl,rfl,cN _,Ext.refl M w,λ_ _ _ _ _=>rfl,λ_ h=> .inl h,λ_ h=> .inl h,λ_ _ h=>h,λ_ _ h=> .inl h,.same rfl⟩
theorem Mark.keep {n:Nat} {d:Deferred} (h:Mark M w n d) (k:Kp M w M' w'):Mark M' w' n d:=by
 obtain⟨D,hn,hd,h1,h2,h3,h4⟩:=h;have hlt:D<w.heap.size:=(Array.getElem?_eq_some_iff.1 h1).1;refine⟨D,hn,hd,(k.block D hlt h2 h3 h4).trans h1,λhm=>?_,λhm=>?_,k.ownn D hlt h4⟩
 ·rcases k.lbn D hm with h5|h5
  ·exact h2 h5
  ·omega
 ·rcases k.gbn D hm with h5|h5|h5|h5
  ·exact h3 h5
  ·omega
  ·exact h5 h4
  ·exact h2 h5
theorem Kp.trans {M'':Mem} {w'':World} (h:Kp M w M' w') (k:Kp M' w' M'' w''):Kp M w M'' w'' where
 os:=k.os.trans h.os
 tape:=k.tape.trans h.tape
 output:=k.output.trans h.output
 size:=bX h.size k.size
 ext:=h.ext.trans k.ext
 block:=λi hi hl hg ho=>by
  have:=h.size;refine (k.block i (by omega) ?_ ?_ (h.ownn i hi ho)).trans (h.block i hi hl hg ho)
  ·intro hm;rcases h.lbn i hm with h1|h1
   ·exact hl h1
   ·omega
  ·intro hm;rcases h.gbn i hm with h1|h1|h1|h1
   ·exact hg h1
   ·omega
   ·exact h1 ho
   ·exact hl h1
 lbn:=λi hi=>by
  have:=h.size;rcases k.lbn i hi with h1|h1
  ·exact h.lbn i h1
  ·exact .inr (by omega)
 gbn:=λi hi=>by
  have:=h.size;rcases k.gbn i hi with h1|h1|h1|h1
  ·exact h.gbn i h1
  ·exact .inr (.inl (by omega))
  ·by_cases hlt:i<w.heap.size
   ·exact .inr (.inr (.inl λho=>h1 (h.ownn i hlt ho)))
   ·exact .inr (.inl (by omega))
  ·rcases h.lbn i h1 with h2|h2
   ·exact .inr (.inr (.inr h2))
   ·exact .inr (.inl h2)
 ownn:=λi hi ho=>k.ownn i (aS hi h.size) (h.ownn i hi ho)
 immn:=λb o hb=>by
  have hs:=h.size;rcases k.immn b o hb with h1|h1|h1
  ·exact h.immn b o h1
  ·exact .inr (.inl (by omega))
  ·by_cases hlt:b<w.heap.size
   ·exact .inr (.inr λho=>h1 (h.ownn b hlt ho))
   ·exact .inr (.inl (by omega))
 ds :=by
  obtain⟨l1,a1,a2,a3⟩:=h.ds;obtain⟨l2,b1,b2,b3⟩:=k.ds;refine⟨l2++l1,by rw[b1,a1,aY],cK.2 ⟨b2,a2,λd hd e he hde=>?_⟩,λd hd=>?_⟩
  ·subst hde
   obtain⟨D,g1,g2,_⟩:=b3 d hd;obtain⟨E,f1,f2,f3,_⟩:=a3 d he;have:D=E:=by rw[g2] at f2;cases f2;rfl
   have:=(Array.getElem?_eq_some_iff.1 f3).1;omega
  ·rcases bZ.1 hd with hd|hd
   ·obtain⟨D,g1,g2⟩:=b3 d hd
    exact⟨D,bX h.size g1,g2⟩
   ·exact (a3 d hd).keep k
end
end Go.Lw