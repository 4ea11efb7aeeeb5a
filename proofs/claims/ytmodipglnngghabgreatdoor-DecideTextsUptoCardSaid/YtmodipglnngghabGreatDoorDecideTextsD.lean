/-
  The texts that the proof stands on, part 4.
-/
import Derived.Test.YtmodipglnngghabGreatDoorDecideTextsB
import Derived.WalkKit
set_option linter.unusedVariables false
set_option linter.unusedSimpArgs false
set_option linter.unnecessarySimpa false

set_option maxRecDepth 100000
set_option maxHeartbeats 4000000
namespace Go.Lw
open Go
inductive Loc where
 |env (t i:Nat)
 |lh (b i:Nat)
 |gh (b i:Nat)
 |res (i:Nat)
 |lim (i:Nat)
 deriving DecidableEq
structure Mem where
 lb:Oq
 gb:Oq
 imm:Nat->Nat->Prop
 own:Nat->Option Loc
 st:Nat->Nat×Nat×Nat
 ds:List Deferred:=[]
def kI (gl:List (Nat×Nat×Option Value)) (a:List (Nat×List ByteArray)):Prop:=
 ∀x∈a,∃b o c,(x.1,0,some (.slice (some ⟨b,o,none⟩) x.2.length c))∈gl/\x.2.length<=c/\∀(i:Nat) (s:ByteArray),x.2[i]?=some s->(b,o+i,some (.string s))∈gl
theorem ww (gl:List (Nat×Nat×Option Value)):kI gl []:=λ_ h=>by cases h
structure FI where
 f:Nat->Option Nat
 gl:List (Nat×Nat×Option Value)
 bT:List TypeId:=[]
 u8:TypeId:=0
 gw:List (Nat×List ByteArray):=[]
 gwok:kI gl gw:=by exact ww _
instance:CoeFun FI (λ_=>Nat->Option Nat):=⟨FI.f⟩
inductive RepP (fi:FI) (M:Mem) (w:World):PV->Value->Prop where
 |und:RepP fi M w .und undef
 |int (k:IntKind) (n:Int):RepP fi M w (.int k n) (.int k n)
 |bool (b:Bool):RepP fi M w (.bool b) (.bool b)
 |str (s:ByteArray):RepP fi M w (.str s) (.string s)
 |agg (cs:Ok) (vs:Ou) (hl:vs.length=cs.length) (h:∀(i:Nat) (c:PV) (v:Value),cs[i]?=some c->vs[i]?=some v->RepP fi M w c v):RepP fi M w (.agg cs) (.agg vs.toArray)
 |tup (cs:Ok) (vs:Ou) (hl:vs.length=cs.length) (h:∀(i:Nat) (c:PV) (v:Value),cs[i]?=some c->vs[i]?=some v->RepP fi M w c v):RepP fi M w (.tup cs) (.tuple vs.toArray)
 | sl (z:Nat) (xs:Ok) (A:Option Addr) (c b o:Nat) (vf:Nat->Value) (hA:xs=[]\/A=some ⟨b,o,none⟩) (hc:xs.length<=c)
   (hz:∀e∈xs,e.cells.length=z) (h1:∀e∈xs,az e=true)
   (hm:∀(i:Nat) (e:PV) (j:Nat) (p:PV),xs[i]?=some e->e.cells[j]?=some p->M.imm b (o+(i*z+j))/\w.cell? ⟨b,o+(i*z+j),none⟩=some (vf (i*z+j)))
   (hr:∀(i:Nat) (e:PV) (j:Nat) (p:PV),xs[i]?=some e->e.cells[j]?=some p->RepP fi M w p (vf (i*z+j))):RepP fi M w (.sl false z xs) (.slice A xs.length c)
 |bs (b off n z:Nat) (A:Option Addr) (c blk:Nat) (hb:M.gb[b]?=some blk) (hA:n=0\/A=some ⟨blk,off,none⟩) (hc:n<=c):RepP fi M w (.bs true b off n z) (.slice A n c)
 |ptr (b off blk:Nat) (hb:M.gb[b]?=some blk):RepP fi M w (.ptr true b off) (.pointer (some ⟨blk,off,none⟩))
 |nilp:RepP fi M w .nilp (.pointer none)
 | ep (e:PV) (off b o:Nat) (vf:Nat->Value) (h1:az e=true)
   (hm:∀(j:Nat) (p:PV),e.cells[j]?=some p->M.imm b (o+j)/\w.cell? ⟨b,o+j,none⟩=some (vf j))
   (hr:∀(j:Nat) (p:PV),e.cells[j]?=some p->RepP fi M w p (vf j)):RepP fi M w (.ep e off) (.pointer (some ⟨b,o+off,none⟩))
 |mp (b blk:Nat) (hb:M.gb[b]?=some blk):RepP fi M w (.mp b) (.map (some blk))
 |nilm:RepP fi M w .nilm (.map none)
 |nilf:RepP fi M w .nilf .nilFunc
 |nils:RepP fi M w .nils (.slice none 0 0)
 |stk (b gen n blk c:Nat) (hb:b<M.gb.length) (hg:gen<=(M.st b).1) (hA:gen=(M.st b).1->blk=(M.st b).2.1/\c<=(M.st b).2.2) (hc:n<=c):RepP fi M w (.stk b gen n) (.slice (some ⟨blk,0,none⟩) n c)
 |pstk (b gen i blk:Nat) (hb:b<M.gb.length) (hg:gen<=(M.st b).1) (hA:gen=(M.st b).1->blk=(M.st b).2.1):RepP fi M w (.pstk b gen i) (.pointer (some ⟨blk,i,none⟩))
 |sub (b gen off n blk c:Nat) (A:Option Addr) (hb:b<M.gb.length) (hg:gen<=(M.st b).1) (hA:gen=(M.st b).1->blk=(M.st b).2.1/\off+c<=(M.st b).2.2) (hc:n<=c) (hAd:n=0\/A=some ⟨blk,off,none⟩):RepP fi M w (.sub b gen off n) (.slice A n c)
 | bfn (f F:Nat) (cs:Ok) (vs:Ou) (hf:fi f=some F) (hl:vs.length=cs.length) (h1:cs.all az=true)
   (h:∀(i:Nat) (c:PV) (v:Value),cs[i]?=some c->vs[i]?=some v->RepP fi M w c v):RepP fi M w (.bfn f cs) (.func (.func F) vs.toArray #[])
 | fn (f F:Nat) (cs:Ok) (vs:Ou) (hf:fi f=some F) (hl:vs.length=cs.length) (h1:cs.all az=true)
   (h:∀(i:Nat) (c:PV) (v:Value),cs[i]?=some c->vs[i]?=some v->RepP fi M w c v):RepP fi M w (.fn f cs) (.func (.func F) #[] vs.toArray)
 |nilI:RepP fi M w .nilI .nilIface
 |someI (t:TypeId) (v:Value):RepP fi M w .someI (.iface t v)
 |junk (v:Value):RepP fi M w .junk v
structure Ext (M:Mem) (w:World) (M':Mem) (w':World):Prop where
 gb:∀(i k:Nat),M.gb[i]?=some k->M'.gb[i]?=some k
 imm:∀b k,M.imm b k->M'.imm b k
 cell:∀b k,M.imm b k->w'.cell? ⟨b,k,none⟩=w.cell? ⟨b,k,none⟩
 st:∀b,b<M.gb.length->(M.st b).1<=(M'.st b).1/\((M'.st b).1=(M.st b).1->M'.st b=M.st b)
theorem Ext.refl (M:Mem) (w:World):Ext M w M w:=⟨λ_ _ h=>h,λ_ _ h=>h,λ_ _ _=>rfl,λ_ _=>⟨cU _,λ_=>rfl⟩⟩
theorem Ext.len {M a:Mem} {w c:World} (h:Ext M w a c) {b:Nat} (d:b<M.gb.length):b<a.gb.length:=
 (aD.1 (h.gb b _ (aA d))).1
theorem Ext.trans {M f d:Mem} {w g c:World} (h:Ext M w f g) (k:Ext f g d c):Ext M w d c:=
 ⟨λi b a=>k.gb i b (h.gb i b a),λb o a=>k.imm b o (h.imm b o a),λb o a=>(k.cell b o (h.imm b o a)).trans (h.cell b o a),
  λb a=>by obtain⟨n,m⟩:=h.st b a;obtain⟨l,j⟩:=k.st b (h.len a);exact⟨cA n l,λe=>by have p:(f.st b).1=(M.st b).1:=NW;rw[j NW,m p]⟩⟩
section
variable {fi:FI} {M M':Mem} {w w':World}
theorem RepP.mono (l:Ext M w M' w') {p:PV} {v:Value} (h:RepP fi M w p v):RepP fi M' w' p v:=by
 induction h with
 |und=>exact .und
 |int k n=>exact .int k n
 |bool b=>exact .bool b
 |str s=>exact .str s
 |agg cs x C _ m=>exact .agg cs x C m
 |tup cs x C _ m=>exact .tup cs x C m
 |sl z O A c b o G u D P r B _ m=>
  exact .sl z O A c b o G u D P r (λi e j p I y=>⟨l.imm _ _ (B i e j p I y).1,(l.cell _ _ (B i e j p I y).1).trans (B i e j p I y).2⟩) m
 |bs b d n z A c a g u D=>exact .bs b d n z A c a (l.gb _ _ g) u D
 |ptr b d a g=>exact .ptr b d a (l.gb _ _ g)
 |nilp=>exact .nilp
 |ep e d b o G r B _ m=>exact .ep e d b o G r (λj p y=>⟨l.imm _ _ (B j p y).1,(l.cell _ _ (B j p y).1).trans (B j p y).2⟩) m
 |mp b a g=>exact .mp b a (l.gb _ _ g)
 |nilm=>exact .nilm
 |nilf=>exact .nilf
 |nils=>exact .nils
 | stk b q n a c g N u D=>
  obtain⟨r,E⟩:=l.st b g;exact .stk b q n a c (l.len g) NW (λe=>by rw[E NW];exact u NW) D
 | pstk b q i a g N u=>
  obtain⟨r,E⟩:=l.st b g;exact .pstk b q i a (l.len g) NW (λe=>by rw[E NW];exact u NW)
 | sub b q d n a c A g N u D L=>
  obtain⟨r,E⟩:=l.st b g;exact .sub b q d n a c A (l.len g) NW (λe=>by rw[E NW];exact u NW) D L
 |bfn f F cs x H C r _ m=>exact .bfn f F cs x H C r m
 |fn f F cs x H C r _ m=>exact .fn f F cs x H C r m
 |nilI=>exact .nilI
 |someI t v=>exact .someI t v
 |junk v=>exact .junk v
theorem iZ {l:Ok} (h:dr l=true) {i:Nat} {c:PV} (a:l[i]?=some c):c.noG=true:=by
 induction l generalizing i with
 |nil=>simp at a
 |cons x l b=>
  simp only[dr,aS] at h;cases i with
  |zero=>simp at a;exact a▸h.1
  |succ i=>exact b h.2 (by simpa using a)
theorem wx {e:PV} (h:e.noG=true) {j:Nat} {p:PV} (a:e.cells[j]?=some p):p.noG=true:=by
 cases e with
 |agg cs=>exact iZ (l:=cs) (by simpa [PV.noG] using h) a
 |_=>
  simp only[PV.cells] at a;cases j with
  |zero=>simp at a;exact a▸h
  |succ j=>simp at a
theorem RepP.noG (gb:Oq) (st:Nat->Nat×Nat×Nat) {p:PV} {v:Value} (h:RepP fi M w p v) (d:p.noG=true):RepP fi {M with gb,st } w p v:=by
 induction h with
 |und=>exact .und
 |int k n=>exact .int k n
 |bool b=>exact .bool b
 |str s=>exact .str s
 |agg cs q u _ g=>exact .agg cs q u λi c v a r=>g i c v a r (iZ (by simpa [PV.noG] using d) a)
 |tup cs q u _ g=>exact .tup cs q u λi c v a r=>g i c v a r (iZ (by simpa [PV.noG] using d) a)
 |sl z N A c b o G D a O x H _ g=>
  exact .sl z N A c b o G D a O x H λi e j p L y=>g i e j p L y (wx (iZ (by simpa [PV.noG] using d) L) y)
 |bs b m n z A c l C D a=>simp[PV.noG] at d
 |ptr b m l C=>simp[PV.noG] at d
 |nilp=>exact .nilp
 |ep e m b o G x H _ g=>exact .ep e m b o G x H λj p y=>g j p y (wx (by simpa [PV.noG] using d) y)
 |mp b l C=>simp[PV.noG] at d
 |nilm=>exact .nilm
 |nilf=>exact .nilf
 |nils=>exact .nils
 |stk b E n l c C B D a=>simp[PV.noG] at d
 |pstk b E i l C B D=>simp[PV.noG] at d
 |sub b E m n l c A C B D a P=>simp[PV.noG] at d
 |bfn f F cs q I u x _ g=>exact .bfn f F cs q I u x λi c v a r=>g i c v a r (iZ (by simpa [PV.noG] using d) a)
 |fn f F cs q I u x _ g=>exact .fn f F cs q I u x λi c v a r=>g i c v a r (iZ (by simpa [PV.noG] using d) a)
 |nilI=>exact .nilI
 |someI t v=>exact .someI t v
 |junk v=>exact .junk v
def OwnRep (d:FI) (M:Mem) (w:World) (l:Loc) (z:Nat) (a:Ok) (v:Value):Prop:=
 RepP d M w (.sl false z a) v/\
  (v= .slice none 0 0\/∃b o c cs e,v= .slice (some ⟨b,o,none⟩) a.length c/\M.own b=some l/\w.heap[b]?=some (.cells cs e (0,0))/\o+c*z<=cs.size/\
   (∀k,o+a.length*z<=k->k<o+c*z->¬M.imm b k)/\b∉M.lb/\b∉M.gb)
def kJ:PV->Value
 | .int k n=> .int k n
 | .bool b=> .bool b
 |_=>undef
def ArrRep (M:Mem) (w:World) (l:Loc) (z:PV) (n:Nat) (v:Value):Prop:=
 co z=true/\∃b T c,v= .slice (some ⟨b,0,none⟩) n c/\n<=c/\M.own b=some l/\w.heap[b]?=some (.cells (Array.replicate n (kJ z)) T (0,0))/\(∀k,¬M.imm b k)/\b∉M.lb/\b∉M.gb
def RepC (a:FI) (M:Mem) (w:World) (l:Loc) (p:PV) (v:Value):Prop:=
 match p with
 | .sl true z b=>OwnRep a M w l z b v
 |p=>RepP a M w p v
def RepE (e:FI) (M:Mem) (w:World) (p:PV) (v:Value):Prop:=
 match p with
 | .ptr false b d=>∃a,M.lb[b]?=some a/\v= .pointer (some ⟨a,d,none⟩)
 | .bs false b d n _=>∃a A c,M.lb[b]?=some a/\v= .slice A n c/\(n=0\/A=some ⟨a,d,none⟩)/\n<=c
 |p=>RepP e M w p v
def RepAt (b:FI) (M:Mem) (w:World) (mk:Nat->Loc) (p:PV) (v:Value):Prop:=
 match p with
 | .sl true z d=>OwnRep b M w (mk 0) z d v
 | .arr z n=>ArrRep M w (mk 0) z n v
 | .agg cs=>∃a:Ou,v= .agg a.toArray/\a.length=cs.length/\∀(i:Nat) (c:PV) (u:Value),cs[i]?=some c->a[i]?=some u->RepC b M w (mk i) c u
 | .tup cs=>∃a:Ou,v= .tuple a.toArray/\a.length=cs.length/\∀(i:Nat) (c:PV) (u:Value),cs[i]?=some c->a[i]?=some u->RepC b M w (mk i) c u
 |p=>RepE b M w p v
theorem RepC.degr1 {l:Loc} {p:PV} {v:Value} (h:RepC fi M w l p v):RepP fi M w (aw p) v:=by
 unfold RepC at h;split at h
 ·exact h.1
 ·rename_i b
  cases p with
  |sl o z a=>cases o with
   |true=>exact absurd rfl (b z a)
   |false=>exact h
  |arr z n=>cases h
  |_=>exact h
theorem RepP.repC {l:Loc} {p:PV} {v:Value} (h:RepP fi M w p v):RepC fi M w l p v:=by
 unfold RepC;split
 ·cases h
 ·exact h
theorem RepP.repE {p:PV} {v:Value} (h:RepP fi M w p v):RepE fi M w p v:=by
 unfold RepE;split
 ·cases h
 ·cases h
 ·exact h
theorem RepE.repP {p:PV} {v:Value} (h:RepE fi M w p v) (a:p.cells.all PV.one=true):RepP fi M w p v:=by
 unfold RepE at h;split at h
 ·simp[PV.cells,PV.one] at a
 ·simp[PV.cells,PV.one] at a
 ·exact h
theorem RepE.repAt {mk:Nat->Loc} {p:PV} {v:Value} (h:RepE fi M w p v):RepAt fi M w mk p v:=by
 unfold RepAt;split
 ·cases h
 ·cases h
 ·cases h with
  |agg cs a d h=>exact⟨a,rfl,d,λi c u e b=>(h i c u e b).repC⟩
 ·cases h with
  |tup cs a d h=>exact⟨a,rfl,d,λi c u e b=>(h i c u e b).repC⟩
 ·exact h
theorem RepAt.degr {mk:Nat->Loc} {p:PV} {v:Value} (h:RepAt fi M w mk p v):RepE fi M w (degr p) v:=by
 unfold RepAt at h;split at h
 ·exact h.1.repE
 ·exact RepP.repE (.junk v)
 ·obtain⟨d,rfl,f,h⟩:=h
  refine RepP.repE (.agg _ d (by simpa using f) λi c u b e=>?_);simp only[aB,aE] at b;obtain⟨g,a,rfl⟩:=b;exact (h i g u a e).degr1
 ·obtain⟨d,rfl,f,h⟩:=h
  refine RepP.repE (.tup _ d (by simpa using f) λi c u b e=>?_);simp only[aB,aE] at b;obtain⟨g,a,rfl⟩:=b;exact (h i g u a e).degr1
 ·rename_i q k m l
  cases p with
  |sl o z j=>cases o with
   |true=>exact absurd rfl (q z j)
   |false=>exact h
  |agg cs=>exact absurd rfl (m cs)
  |tup cs=>exact absurd rfl (l cs)
  |arr z n=>exact absurd rfl (k z n)
  |_=>exact h
def RepBox (d:FI) (M:Mem) (w:World) (mk:Nat->Loc) (a:Nat) (cs:Ok):Prop:=
 a<w.heap.size/\(∀k,¬M.imm a k)/\M.own a=none/\(∀c∈cs,c.one=true)/\
  ∃(b:Ou) (T:TypeId),w.heap[a]?=some (.cells b.toArray T (0,0))/\b.length=cs.length/\∀(i:Nat) (c:PV) (u:Value),cs[i]?=some c->b[i]?=some u->RepC d M w (mk i) c u
def RepMap (c:FI) (M:Mem) (w:World) (b:Nat) (d:List (PV×PV)):Prop:=
 b<w.heap.size/\M.own b=none/\
  ∃(l:List MapEntry) (a:Nat),w.heap[b]?=some (.map l.toArray a)/\l.length=d.length/\
   ∀(i:Nat) (e:PV×PV) (m:MapEntry),d[i]?=some e->l[i]?=some m->RepP c M w e.1 m.key/\RepP c M w e.2 m.val/\az e.1=true/\az e.2=true
def RepStk (d:FI) (M:Mem) (w:World) (i c b:Nat) (a:Ok):Prop:=
 M.own c=some (Loc.gh i 0)/\(M.st i).1=b/\M.own (M.st i).2.1=some (Loc.gh i 0)/\(∀k,¬M.imm (M.st i).2.1 k)/\(∀x∈a,co x=true)/\
  ∃(cs:Array Value) (T:TypeId),w.heap[(M.st i).2.1]?=some (.cells cs T (0,0))/\cs.size=(M.st i).2.2/\a.length<=cs.size/\∀(j:Nat) (x:PV),a[j]?=some x->∃u,cs[j]?=some u/\RepP d M w x u
def i7 (s:ByteArray):Ou:=s.data.toList.map λb=>Value.int .u8 b.toNat
def RepBld (d:FI) (M:Mem) (w:World) (i a:Nat) (s:ByteArray):Prop:=
 a<w.heap.size/\(∀k,¬M.imm a k)/\M.own a=none/\
  ∃ T∈d.bT,((s= .empty/\w.heap[a]?=some (.cells #[.pointer none,.slice none 0 0] T (0,0)))\/
   ∃(g b:Nat) (c:Array Value),w.heap[a]?=some (.cells #[.pointer (some ⟨a,0,none⟩),.slice (some ⟨g,0,none⟩) s.size b] T (0,0))/\M.own g=some (Loc.gh i 0)/\g∉M.lb/\g∉M.gb/\(∀k,¬M.imm g k)/\
    w.heap[g]?=some (.cells c d.u8 (0,0))/\s.size≠0/\s.size<=b/\b<=maxLen/\c.size=b/\c.toList.take s.size=i7 s)
def RepObj (b:FI) (M:Mem) (w:World) (i a:Nat):GObj->Prop
 | .cells cs=>RepBox b M w (Loc.gh i) a cs
 | .map e=>RepMap b M w a e
 | .stk c d=>RepStk b M w i a c d
 | .bld s=>RepBld b M w i a s
structure Inv (fi:FI) (M:Mem) (w:World) (s:St) (a:Act):Prop where
 env:∀t v,get s.env t=some v->t<a.tmps.size/\RepAt fi M w (Loc.env t) v (a.tmps.getD t undef)
 defers:a.defers=M.ds
 lbl:M.lb.length=s.lh.length
 gbl:M.gb.length=s.gh.length
 nodup:(M.lb++M.gb).Nodup
 lh:∀(i:Nat) (cs:Ok) (blk:Nat),s.lh[i]?=some cs->M.lb[i]?=some blk->RepBox fi M w (Loc.lh i) blk cs
 gh:∀(i:Nat) (o:GObj) (blk:Nat),s.gh[i]?=some o->M.gb[i]?=some blk->RepObj fi M w i blk o
 gl:∀x∈fi.gl,M.imm x.1 x.2.1/\w.cell? ⟨x.1,x.2.1,none⟩=x.2.2
 immlt:∀b k,M.imm b k->b<w.heap.size
 ownlt:∀b l,M.own b=some l->b<w.heap.size
 gblt:∀b∈M.gb,b<w.heap.size
theorem Ext.gl {d:FI} {M e:Mem} {w c:World} (h:Ext M w e c) (b:∀x∈d.gl,M.imm x.1 x.2.1/\w.cell? ⟨x.1,x.2.1,none⟩=x.2.2) :
  ∀x∈d.gl,e.imm x.1 x.2.1/\c.cell? ⟨x.1,x.2.1,none⟩=x.2.2:=
 λx a=>⟨h.imm _ _ (b x a).1,(h.cell _ _ (b x a).1).trans (b x a).2⟩
def Mark (M:Mem) (w:World) (n:Nat) (d:Deferred):Prop:=
 ∃D:Nat,n<=D/\d={target:= .collected D,args:= #[] }/\w.heap[D]?=some (.deferred (some []))/\D∉M.lb/\D∉M.gb/\M.own D=none
def Marks (n:Nat) (M:Mem) (w:World) (b a:List Deferred):Prop:=∃l,a=l++b/\l.Nodup/\∀d∈l,Mark M w n d
theorem Marks.same {n:Nat} {M:Mem} {w:World} {b a:List Deferred} (h:a=b):Marks n M w b a:=⟨[],by simp[h],List.nodup_nil,λd c=>by cases c⟩
structure Kp (M:Mem) (w:World) (M':Mem) (w':World):Prop where
 os:w'.os=w.os
 tape:w'.tape=w.tape
 output:w'.output=w.output
 size:w.heap.size<=w'.heap.size
 ext:Ext M w M' w'
 block:∀k,k<w.heap.size->k∉M.lb->k∉M.gb->M.own k=none->w'.heap[k]?=w.heap[k]?
 lbn:∀k∈M'.lb,k∈M.lb\/w.heap.size<=k
 gbn:∀k∈M'.gb,k∈M.gb\/w.heap.size<=k\/M.own k≠none\/k∈M.lb
 ownn:∀k,k<w.heap.size->M.own k=none->M'.own k=none
 immn:∀b k,M'.imm b k->M.imm b k\/w.heap.size<=b\/M.own b≠none
 ds:Marks w.heap.size M' w' M.ds M'.ds
theorem Kp.refl (M:Mem) (w:World):Kp M w M w:=
 ⟨rfl,rfl,rfl,cU _,Ext.refl M w,λ_ _ _ _ _=>rfl,λ_ h=> .inl h,λ_ h=> .inl h,λ_ _ h=>h,λ_ _ h=> .inl h,.same rfl⟩
theorem Mark.keep {n:Nat} {d:Deferred} (h:Mark M w n d) (k:Kp M w M' w'):Mark M' w' n d:=by
 obtain⟨D,hn,j,i,f,g,e⟩:=h;have b:D<w.heap.size:=(Array.getElem?_eq_some_iff.1 i).1;refine⟨D,hn,j,(k.block D b f g e).trans i,λc=>?_,λc=>?_,k.ownn D b e⟩
 ·rcases k.lbn D c with a|a
  ·exact f a
  ·omega
 ·rcases k.gbn D c with a|a|a|a
  ·exact g a
  ·omega
  ·exact a e
  ·exact f a
theorem Kp.trans {m:Mem} {l:World} (h:Kp M w M' w') (k:Kp M' w' m l):Kp M w m l where
 os:=k.os.trans h.os
 tape:=k.tape.trans h.tape
 output:=k.output.trans h.output
 size:=cA h.size k.size
 ext:=h.ext.trans k.ext
 block:=λi f p t c=>by
  have:=h.size;refine (k.block i NW ?_ ?_ (h.ownn i f c)).trans (h.block i f p t c)
  ·intro n;rcases h.lbn i n with a|a
   ·exact p a
   ·omega
  ·intro n;rcases h.gbn i n with a|a|a|a
   ·exact t a
   ·omega
   ·exact a c
   ·exact p a
 lbn:=λi f=>by
  have:=h.size;rcases k.lbn i f with a|a
  ·exact h.lbn i a
  ·exact .inr NW
 gbn:=λi f=>by
  have:=h.size;rcases k.gbn i f with a|a|a|a
  ·exact h.gbn i a
  ·exact .inr (.inl NW)
  ·by_cases g:i<w.heap.size
   ·exact .inr (.inr (.inl λc=>a (h.ownn i g c)))
   ·exact .inr (.inl NW)
  ·rcases h.lbn i a with r|r
   ·exact .inr (.inr (.inr r))
   ·exact .inr (.inl r)
 ownn:=λi f c=>k.ownn i (aO f h.size) (h.ownn i f c)
 immn:=λb o C=>by
  have N:=h.size;rcases k.immn b o C with a|a|a
  ·exact h.immn b o a
  ·exact .inr (.inl NW)
  ·by_cases g:b<w.heap.size
   ·exact .inr (.inr λc=>a (h.ownn b g c))
   ·exact .inr (.inl NW)
 ds :=by
  obtain⟨A,L,I,y⟩:=h.ds;obtain⟨z,H,G,x⟩:=k.ds;refine⟨z++A,by rw[H,L,aT],cR.2 ⟨G,I,λd j e B q=>?_⟩,λd j=>?_⟩
  ·subst q
   obtain⟨D,u,s,_⟩:=x d j;obtain⟨E,O,v,F,_⟩:=y d B;have:D=E:=by rw[s] at v;cases v;rfl
   have:=(Array.getElem?_eq_some_iff.1 F).1;omega
  ·rcases cE.1 j with j|j
   ·obtain⟨D,u,s⟩:=x d j
    exact⟨D,cA h.size u,s⟩
   ·exact (y d j).keep k
end
end Go.Lw