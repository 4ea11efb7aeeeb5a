/-
  The texts that the proof stands on, part 4.
-/
import Derived.Test.YtmodipglnngghadGreatDoorRestModelsB
import Derived.WalkKit
set_option linter.unusedVariables false
set_option linter.unusedSimpArgs false
set_option linter.unnecessarySimpa false

set_option maxRecDepth 100000
set_option maxHeartbeats 4000000
namespace Go.Lw
open Go
inductive Loc where
 |env (t i:Nat)
 |lh (b i:Nat)
 |gh (b i:Nat)
 |res (i:Nat)
 |lim (i:Nat)
 deriving DecidableEq
structure Mem where
 lb:gj
 gb:gj
 imm:Nat->Nat->Prop
 own:Nat->Option Loc
 st:Nat->Nat×Nat×Nat
 ds:List Deferred:=[]
def kI (gl:List (Nat×Nat×Option Value)) (a:List (Nat×List ByteArray)):Prop:=
 ∀x∈a,∃b o c,(x.1,0,some (.slice (some ⟨b,o,none⟩) x.2.length c))∈gl/\x.2.length<=c/\∀(i:Nat) (s:ByteArray),x.2[i]?=some s->(b,o+i,some (.string s))∈gl
theorem ww (gl:List (Nat×Nat×Option Value)):kI gl []:=λ_ h=>by cases h
structure FI where
 f:Nat->Option Nat
 gl:List (Nat×Nat×Option Value)
 bT:List TypeId:=[]
 u8:TypeId:=0
 gw:List (Nat×List ByteArray):=[]
 gwok:kI gl gw:=by exact ww _
 n0:Nat:=0
 dead:Nat->Nat->Prop:=λ_ _=>False
 tob:Option Obj:=none
 n0ok:n0=0\/∃k v,(n0-1,k,v)∈gl:=by exact Or.inl rfl
instance:CoeFun FI (λ_=>Nat->Option Nat):=⟨FI.f⟩
inductive RepO (fi:FI) (M:Mem) (w:World):PV->Value->Prop where
 |int (k:IntKind) (n:Int):RepO fi M w (.int k n) (.int k n)
 |bool (b:Bool):RepO fi M w (.bool b) (.bool b)
 |str (s:ByteArray):RepO fi M w (.str s) (.string s)
 | sl (z:Nat) (xs:fw) (A:Option Addr) (c b o:Nat) (vf:Nat->Value) (hA:xs=[]\/A=some ⟨b,o,none⟩) (hc:xs.length<=c)
   (hz:∀e∈xs,e.cells.length=z) (h1:∀e∈xs,az e=true)
   (hm:∀(i:Nat) (e:PV) (j:Nat) (p:PV),xs[i]?=some e->e.cells[j]?=some p->b<fi.n0/\M.imm b (o+(i*z+j))/\w.cell? ⟨b,o+(i*z+j),none⟩=some (vf (i*z+j)))
   (hr:∀(i:Nat) (e:PV) (j:Nat) (p:PV),xs[i]?=some e->e.cells[j]?=some p->RepO fi M w p (vf (i*z+j))):RepO fi M w (.sl false z xs) (.slice A xs.length c)
inductive RepP (fi:FI) (M:Mem) (w:World):PV->Value->Prop where
 |und:RepP fi M w .und undef
 |int (k:IntKind) (n:Int):RepP fi M w (.int k n) (.int k n)
 |bool (b:Bool):RepP fi M w (.bool b) (.bool b)
 |str (s:ByteArray):RepP fi M w (.str s) (.string s)
 |agg (cs:fw) (vs:gA) (hl:vs.length=cs.length) (h:∀(i:Nat) (c:PV) (v:Value),cs[i]?=some c->vs[i]?=some v->RepP fi M w c v):RepP fi M w (.agg cs) (.agg vs.toArray)
 |tup (cs:fw) (vs:gA) (hl:vs.length=cs.length) (h:∀(i:Nat) (c:PV) (v:Value),cs[i]?=some c->vs[i]?=some v->RepP fi M w c v):RepP fi M w (.tup cs) (.tuple vs.toArray)
 | sl (z:Nat) (xs:fw) (A:Option Addr) (c b o:Nat) (vf:Nat->Value) (hA:xs=[]\/A=some ⟨b,o,none⟩) (hc:xs.length<=c)
   (hz:∀e∈xs,e.cells.length=z) (h1:∀e∈xs,az e=true)
   (hm:∀(i:Nat) (e:PV) (j:Nat) (p:PV),xs[i]?=some e->e.cells[j]?=some p->M.imm b (o+(i*z+j))/\w.cell? ⟨b,o+(i*z+j),none⟩=some (vf (i*z+j)))
   (hr:∀(i:Nat) (e:PV) (j:Nat) (p:PV),xs[i]?=some e->e.cells[j]?=some p->RepP fi M w p (vf (i*z+j))):RepP fi M w (.sl false z xs) (.slice A xs.length c)
 |bs (b off n z:Nat) (A:Option Addr) (c blk:Nat) (hb:M.gb[b]?=some blk) (hA:n=0\/A=some ⟨blk,off,none⟩) (hc:n<=c):RepP fi M w (.bs true b off n z) (.slice A n c)
 |ptr (b off blk:Nat) (hb:M.gb[b]?=some blk):RepP fi M w (.ptr true b off) (.pointer (some ⟨blk,off,none⟩))
 |nilp:RepP fi M w .nilp (.pointer none)
 | ep (e:PV) (off b o:Nat) (vf:Nat->Value) (h1:az e=true)
   (hm:∀(j:Nat) (p:PV),e.cells[j]?=some p->M.imm b (o+j)/\w.cell? ⟨b,o+j,none⟩=some (vf j))
   (hr:∀(j:Nat) (p:PV),e.cells[j]?=some p->RepP fi M w p (vf j)):RepP fi M w (.ep e off) (.pointer (some ⟨b,o+off,none⟩))
 |mp (b blk:Nat) (hb:M.gb[b]?=some blk):RepP fi M w (.mp b) (.map (some blk))
 |nilm:RepP fi M w .nilm (.map none)
 |nilf:RepP fi M w .nilf .nilFunc
 |nils:RepP fi M w .nils (.slice none 0 0)
 |stk (b gen n blk c:Nat) (hb:b<M.gb.length) (hg:gen<=(M.st b).1) (hA:gen=(M.st b).1->blk=(M.st b).2.1/\c<=(M.st b).2.2) (hc:n<=c):RepP fi M w (.stk b gen n) (.slice (some ⟨blk,0,none⟩) n c)
 |pstk (b gen i blk:Nat) (hb:b<M.gb.length) (hg:gen<=(M.st b).1) (hA:gen=(M.st b).1->blk=(M.st b).2.1):RepP fi M w (.pstk b gen i) (.pointer (some ⟨blk,i,none⟩))
 |sub (b gen off n blk c:Nat) (A:Option Addr) (hb:b<M.gb.length) (hg:gen<=(M.st b).1) (hA:gen=(M.st b).1->blk=(M.st b).2.1/\off+c<=(M.st b).2.2) (hc:n<=c) (hAd:n=0\/A=some ⟨blk,off,none⟩):RepP fi M w (.sub b gen off n) (.slice A n c)
 | bfn (f F:Nat) (cs:fw) (vs:gA) (hf:fi f=some F) (hl:vs.length=cs.length) (h1:cs.all az=true)
   (h:∀(i:Nat) (c:PV) (v:Value),cs[i]?=some c->vs[i]?=some v->RepP fi M w c v):RepP fi M w (.bfn f cs) (.func (.func F) vs.toArray #[])
 | fn (f F:Nat) (cs:fw) (vs:gA) (hf:fi f=some F) (hl:vs.length=cs.length) (h1:cs.all az=true)
   (h:∀(i:Nat) (c:PV) (v:Value),cs[i]?=some c->vs[i]?=some v->RepP fi M w c v):RepP fi M w (.fn f cs) (.func (.func F) #[] vs.toArray)
 |nilI:RepP fi M w .nilI .nilIface
 |someI (t:TypeId) (v:Value):RepP fi M w .someI (.iface t v)
 |junk (v:Value):RepP fi M w .junk v
 |fr (z:Nat) (xs:fw) (v:Value) (h:RepP fi M w (.sl false z xs) v) (hf:∀A n c,v= .slice (some A) n c->fi.n0<=A.block/\∀k,k<xs.length*z->M.imm A.block (A.off+k)/\w.frozen? ⟨A.block,A.off+k,none⟩=false):RepP fi M w (.fr z xs) v
 |ol (z:Nat) (xs:fw) (v:Value) (h:RepO fi M w (.sl false z xs) v):RepP fi M w (.ol z xs) v
 |dj (g z n c:Nat) (A:Option Addr) (hg:g<M.gb.length) (hc:n<=c) (hA:n=0\/∃b o,A=some ⟨b,o,none⟩/\∀k,k<n*z->fi.dead b (o+k)):RepP fi M w (.dj g z n) (.slice A n c)
 |djp (g r b o:Nat) (hg:g<M.gb.length) (h:∀k,k<r->fi.dead b (o+k)):RepP fi M w (.djp g r) (.pointer (some ⟨b,o,none⟩))
structure Ext (M:Mem) (w:World) (M':Mem) (w':World):Prop where
 gb:∀(i k:Nat),M.gb[i]?=some k->M'.gb[i]?=some k
 imm:∀b k,M.imm b k->M'.imm b k
 cell:∀b k,M.imm b k->w'.cell? ⟨b,k,none⟩=w.cell? ⟨b,k,none⟩
 st:∀b,b<M.gb.length->(M.st b).1<=(M'.st b).1/\((M'.st b).1=(M.st b).1->M'.st b=M.st b)
 fz:∀b k,M.imm b k->w'.frozen? ⟨b,k,none⟩=w.frozen? ⟨b,k,none⟩
theorem m8 {w a:World} {b k:Nat} (h:a.heap[b]?=w.heap[b]?):a.frozen? ⟨b,k,none⟩=w.frozen? ⟨b,k,none⟩:=by simp[World.frozen?,h]
theorem Ext.refl (M:Mem) (w:World):Ext M w M w:=⟨λ_ _ h=>h,λ_ _ h=>h,λ_ _ _=>rfl,λ_ _=>⟨cW _,λ_=>rfl⟩,λ_ _ _=>rfl⟩
theorem Ext.len {M a:Mem} {w c:World} (h:Ext M w a c) {b:Nat} (d:b<M.gb.length):b<a.gb.length:=
 (aD.1 (h.gb b _ (aA d))).1
theorem Ext.trans {M f d:Mem} {w g c:World} (h:Ext M w f g) (k:Ext f g d c):Ext M w d c:=
 ⟨λi b a=>k.gb i b (h.gb i b a),λb o a=>k.imm b o (h.imm b o a),λb o a=>(k.cell b o (h.imm b o a)).trans (h.cell b o a),
  λb a=>by obtain⟨n,m⟩:=h.st b a;obtain⟨l,j⟩:=k.st b (h.len a);exact⟨cC n l,λe=>by have p:(f.st b).1=(M.st b).1:=aj;rw[j aj,m p]⟩,λb o a=>(k.fz b o (h.imm b o a)).trans (h.fz b o a)⟩
section
variable {fi:FI} {M M':Mem} {w w':World}
theorem RepO.mono (g:Ext M w M' w') {p:PV} {v:Value} (h:RepO fi M w p v):RepO fi M' w' p v:=by
 induction h with
 |int k n=>exact .int k n
 |bool b=>exact .bool b
 |str s=>exact .str s
 |sl z l A c b o m u t r x d _ q=>
  exact .sl z l A c b o m u t r x (λi e j p f a=>⟨(d i e j p f a).1,g.imm _ _ (d i e j p f a).2.1,(g.cell _ _ (d i e j p f a).2.1).trans (d i e j p f a).2.2⟩) q
theorem RepO.noG (gb:gj) (st:Nat->Nat×Nat×Nat) {p:PV} {v:Value} (h:RepO fi M w p v):RepO fi {M with gb,st } w p v:=by
 induction h with
 |int k n=>exact .int k n
 |bool b=>exact .bool b
 |str s=>exact .str s
 |sl z a A c b o d j i f l g _ e=>exact .sl z a A c b o d j i f l g e
theorem RepO.repP {p:PV} {v:Value} (h:RepO fi M w p v):RepP fi M w p v:=by
 induction h with
 |int k n=>exact .int k n
 |bool b=>exact .bool b
 |str s=>exact .str s
 |sl z a A c b o d t r g u m _ f=>exact .sl z a A c b o d t r g u (λi e j p q l=>(m i e j p q l).2) f
theorem RepP.olP {z:Nat} {a:fw} {v:Value} (h:RepP fi M w (.ol z a) v):RepP fi M w (.sl false z a) v:=by
 cases h with
 |ol _ _ _ h=>exact h.repP
theorem RepP.mono (d:Ext M w M' w') {p:PV} {v:Value} (h:RepP fi M w p v):RepP fi M' w' p v:=by
 induction h with
 |und=>exact .und
 |int k n=>exact .int k n
 |bool b=>exact .bool b
 |str s=>exact .str s
 |agg I D H _ q=>exact .agg I D H q
 |tup I D H _ q=>exact .tup I D H q
 |sl z N A c b o P u B T y G _ q=>
  exact .sl z N A c b o P u B T y (λi e j p R E=>⟨d.imm _ _ (G i e j p R E).1,(d.cell _ _ (G i e j p R E).1).trans (G i e j p R E).2⟩) q
 |bs b l n z A c a m u B=>exact .bs b l n z A c a (d.gb _ _ m) u B
 |ptr b l a m=>exact .ptr b l a (d.gb _ _ m)
 |nilp=>exact .nilp
 |ep e l b o P y G _ q=>exact .ep e l b o P y (λj p E=>⟨d.imm _ _ (G j p E).1,(d.cell _ _ (G j p E).1).trans (G j p E).2⟩) q
 |mp b a m=>exact .mp b a (d.gb _ _ m)
 |nilm=>exact .nilm
 |nilf=>exact .nilf
 |nils=>exact .nils
 | stk b x n a c m L u B=>
  obtain⟨y,O⟩:=d.st b m;exact .stk b x n a c (d.len m) aj (λe=>by rw[O aj];exact u aj) B
 | pstk b x i a m L u=>
  obtain⟨y,O⟩:=d.st b m;exact .pstk b x i a (d.len m) aj (λe=>by rw[O aj];exact u aj)
 | sub b x l n a c A m L u B S=>
  obtain⟨y,O⟩:=d.st b m;exact .sub b x l n a c A (d.len m) aj (λe=>by rw[O aj];exact u aj) B S
 |bfn f F I D C H y _ q=>exact .bfn f F I D C H y q
 |fn f F I D C H y _ q=>exact .fn f F I D C H y q
 |nilI=>exact .nilI
 |someI t v=>exact .someI t v
 |junk v=>exact .junk v
 |fr z N v _ C q=>exact .fr z N v q λA n c e=>⟨(C A n c e).1,λk Q=>⟨d.imm _ _ ((C A n c e).2 k Q).1,(d.fz _ _ ((C A n c e).2 k Q).1).trans ((C A n c e).2 k Q).2⟩⟩
 |ol z N v h=>exact .ol z N v (h.mono d)
 |dj g z n c A L B u=>exact .dj g z n c A (d.len L) B u
 |djp g r b o L h=>exact .djp g r b o (d.len L) h
theorem iZ {l:fw} (h:eg l=true) {i:Nat} {c:PV} (a:l[i]?=some c):c.noG=true:=by
 induction l generalizing i with
 |nil=>simp at a
 |cons x l b=>
  simp only[eg,aS] at h;cases i with
  |zero=>simp at a;exact a▸h.1
  |succ i=>exact b h.2 (by simpa using a)
theorem wx {e:PV} (h:e.noG=true) {j:Nat} {p:PV} (a:e.cells[j]?=some p):p.noG=true:=by
 cases e with
 |agg b=>exact iZ (l:=b) (by simpa [PV.noG] using h) a
 |_=>
  simp only[PV.cells] at a;cases j with
  |zero=>simp at a;exact a▸h
  |succ j=>simp at a
theorem RepP.noG (gb:gj) (st:Nat->Nat×Nat×Nat) {p:PV} {v:Value} (h:RepP fi M w p v) (d:p.noG=true):RepP fi {M with gb,st } w p v:=by
 induction h with
 |und=>exact .und
 |int k n=>exact .int k n
 |bool b=>exact .bool b
 |str s=>exact .str s
 |agg D x B _ l=>exact .agg D x B λi c v a y=>l i c v a y (iZ (by simpa [PV.noG] using d) a)
 |tup D x B _ l=>exact .tup D x B λi c v a y=>l i c v a y (iZ (by simpa [PV.noG] using d) a)
 |sl z G A c b o O E a R C P _ l=>
  exact .sl z G A c b o O E a R C P λi e j p Q H=>l i e j p Q H (wx (iZ (by simpa [PV.noG] using d) Q) H)
 |bs b q n z A c m L E a=>simp[PV.noG] at d
 |ptr b q m L=>simp[PV.noG] at d
 |nilp=>exact .nilp
 |ep e q b o O C P _ l=>exact .ep e q b o O C P λj p H=>l j p H (wx (by simpa [PV.noG] using d) H)
 |mp b m L=>simp[PV.noG] at d
 |nilm=>exact .nilm
 |nilf=>exact .nilf
 |nils=>exact .nils
 |stk b N n m c L u E a=>simp[PV.noG] at d
 |pstk b N i m L u E=>simp[PV.noG] at d
 |sub b N q n m c A L u E a S=>simp[PV.noG] at d
 |bfn f F D x I B C _ l=>exact .bfn f F D x I B C λi c v a y=>l i c v a y (iZ (by simpa [PV.noG] using d) a)
 |fn f F D x I B C _ l=>exact .fn f F D x I B C λi c v a y=>l i c v a y (iZ (by simpa [PV.noG] using d) a)
 |nilI=>exact .nilI
 |someI t v=>exact .someI t v
 |junk v=>exact .junk v
 |fr z G v _ I l=>exact .fr z G v (l (by simpa [PV.noG] using d)) I
 |ol z G v h=>exact .ol z G v (h.noG gb st)
 |dj g z n c A u a E=>simp[PV.noG] at d
 |djp g r b o u h=>simp[PV.noG] at d
def OwnRep (d:FI) (M:Mem) (w:World) (l:Loc) (z:Nat) (a:fw) (v:Value):Prop:=
 RepP d M w (.sl false z a) v/\
  (v= .slice none 0 0\/∃b o c f e,v= .slice (some ⟨b,o,none⟩) a.length c/\M.own b=some l/\w.heap[b]?=some (.cells f e (0,0))/\o+c*z<=f.size/\
   (∀k,o+a.length*z<=k->k<o+c*z->¬M.imm b k)/\b∉M.lb/\b∉M.gb/\d.n0<=b)
def kJ:PV->Value
 | .int k n=> .int k n
 | .bool b=> .bool b
 |_=>undef
def ArrRep (M:Mem) (w:World) (l:Loc) (z:PV) (n:Nat) (v:Value):Prop:=
 co z=true/\∃b T c,v= .slice (some ⟨b,0,none⟩) n c/\n<=c/\M.own b=some l/\w.heap[b]?=some (.cells (Array.replicate n (kJ z)) T (0,0))/\(∀k,¬M.imm b k)/\b∉M.lb/\b∉M.gb
def RepC (a:FI) (M:Mem) (w:World) (l:Loc) (p:PV) (v:Value):Prop:=
 match p with
 | .sl true z b=>OwnRep a M w l z b v
 |p=>RepP a M w p v
def RepE (e:FI) (M:Mem) (w:World) (p:PV) (v:Value):Prop:=
 match p with
 | .ptr false b d=>∃a,M.lb[b]?=some a/\v= .pointer (some ⟨a,d,none⟩)
 | .bs false b d n _=>∃a A c,M.lb[b]?=some a/\v= .slice A n c/\(n=0\/A=some ⟨a,d,none⟩)/\n<=c
 |p=>RepP e M w p v
def RepAt (d:FI) (M:Mem) (w:World) (mk:Nat->Loc) (p:PV) (v:Value):Prop:=
 match p with
 | .sl true z e=>OwnRep d M w (mk 0) z e v
 | .arr z n=>ArrRep M w (mk 0) z n v
 | .agg b=>∃a:gA,v= .agg a.toArray/\a.length=b.length/\∀(i:Nat) (c:PV) (u:Value),b[i]?=some c->a[i]?=some u->RepC d M w (mk i) c u
 | .tup b=>∃a:gA,v= .tuple a.toArray/\a.length=b.length/\∀(i:Nat) (c:PV) (u:Value),b[i]?=some c->a[i]?=some u->RepC d M w (mk i) c u
 |p=>RepE d M w p v
theorem RepC.degr1 {l:Loc} {p:PV} {v:Value} (h:RepC fi M w l p v):RepP fi M w (aw p) v:=by
 unfold RepC at h;split at h
 ·exact h.1
 ·rename_i b
  cases p with
  |sl o z a=>cases o with
   |true=>exact absurd rfl (b z a)
   |false=>exact h
  |arr z n=>cases h
  |ol z a=>exact RepP.olP h
  |_=>exact h
theorem RepP.repC {l:Loc} {p:PV} {v:Value} (h:RepP fi M w p v):RepC fi M w l p v:=by
 unfold RepC;split
 ·cases h
 ·exact h
theorem RepP.repE {p:PV} {v:Value} (h:RepP fi M w p v):RepE fi M w p v:=by
 unfold RepE;split
 ·cases h
 ·cases h
 ·exact h
theorem RepE.repP {p:PV} {v:Value} (h:RepE fi M w p v) (a:p.cells.all PV.one=true):RepP fi M w p v:=by
 unfold RepE at h;split at h
 ·simp[PV.cells,PV.one] at a
 ·simp[PV.cells,PV.one] at a
 ·exact h
theorem RepE.repAt {mk:Nat->Loc} {p:PV} {v:Value} (h:RepE fi M w p v):RepAt fi M w mk p v:=by
 unfold RepAt;split
 ·cases h
 ·cases h
 ·cases h with
  |agg f a d h=>exact⟨a,rfl,d,λi c u e b=>(h i c u e b).repC⟩
 ·cases h with
  |tup f a d h=>exact⟨a,rfl,d,λi c u e b=>(h i c u e b).repC⟩
 ·exact h
theorem RepAt.degr {mk:Nat->Loc} {p:PV} {v:Value} (h:RepAt fi M w mk p v):RepE fi M w (degr p) v:=by
 unfold RepAt at h;split at h
 ·exact h.1.repE
 ·exact RepP.repE (.junk v)
 ·obtain⟨e,rfl,g,h⟩:=h
  refine RepP.repE (.agg _ e (by simpa using g) λi c u b f=>?_);simp only[aB,aE] at b;obtain⟨k,a,rfl⟩:=b;exact (h i k u a f).degr1
 ·obtain⟨e,rfl,g,h⟩:=h
  refine RepP.repE (.tup _ e (by simpa using g) λi c u b f=>?_);simp only[aB,aE] at b;obtain⟨k,a,rfl⟩:=b;exact (h i k u a f).degr1
 ·rename_i r l q m
  cases p with
  |sl o z d=>cases o with
   |true=>exact absurd rfl (r z d)
   |false=>exact h
  |agg j=>exact absurd rfl (q j)
  |tup j=>exact absurd rfl (m j)
  |arr z n=>exact absurd rfl (l z n)
  |ol z d=>exact (RepP.olP (show RepP fi M w (.ol z d) v from h)).repE
  |_=>exact h
def RepBox (e:FI) (M:Mem) (w:World) (mk:Nat->Loc) (a:Nat) (d:fw):Prop:=
 a<w.heap.size/\(∀k,¬M.imm a k)/\M.own a=none/\(∀c∈d,c.one=true)/\
  ∃(b:gA) (T:TypeId),w.heap[a]?=some (.cells b.toArray T (0,0))/\b.length=d.length/\∀(i:Nat) (c:PV) (u:Value),d[i]?=some c->b[i]?=some u->RepC e M w (mk i) c u
def RepMap (c:FI) (M:Mem) (w:World) (b:Nat) (d:List (PV×PV)):Prop:=
 b<w.heap.size/\M.own b=none/\
  ∃(l:List MapEntry) (a:Nat),w.heap[b]?=some (.map l.toArray a)/\l.length=d.length/\
   ∀(i:Nat) (e:PV×PV) (m:MapEntry),d[i]?=some e->l[i]?=some m->RepP c M w e.1 m.key/\RepP c M w e.2 m.val/\az e.1=true/\az e.2=true
def RepStk (e:FI) (M:Mem) (w:World) (i d c:Nat) (b:fw):Prop:=
 M.own d=some (Loc.gh i 0)/\(M.st i).1=c/\M.own (M.st i).2.1=some (Loc.gh i 0)/\(∀k,¬M.imm (M.st i).2.1 k)/\(∀x∈b,co x=true)/\
  ∃(a:Array Value) (T:TypeId),w.heap[(M.st i).2.1]?=some (.cells a T (0,0))/\a.size=(M.st i).2.2/\b.length<=a.size/\∀(j:Nat) (x:PV),b[j]?=some x->∃u,a[j]?=some u/\RepP e M w x u
def i7 (s:ByteArray):gA:=s.data.toList.map λb=>Value.int .u8 b.toNat
def RepBld (d:FI) (M:Mem) (w:World) (i a:Nat) (s:ByteArray):Prop:=
 a<w.heap.size/\(∀k,¬M.imm a k)/\M.own a=none/\
  ∃ T∈d.bT,((s= .empty/\w.heap[a]?=some (.cells #[.pointer none,.slice none 0 0] T (0,0)))\/
   ∃(g b:Nat) (c:Array Value),w.heap[a]?=some (.cells #[.pointer (some ⟨a,0,none⟩),.slice (some ⟨g,0,none⟩) s.size b] T (0,0))/\M.own g=some (Loc.gh i 0)/\g∉M.lb/\g∉M.gb/\(∀k,¬M.imm g k)/\
    w.heap[g]?=some (.cells c d.u8 (0,0))/\s.size≠0/\s.size<=b/\b<=maxLen/\c.size=b/\c.toList.take s.size=i7 s)
def O6 (c:FI) (M:Mem) (w:World) (i a:Nat):Prop:=
 a<w.heap.size/\M.own a=none/\w.heap[a]?=c.tob/\∀b k,c.dead b k->M.own b=some (Loc.gh i 0)/\¬M.imm b k/\b∉M.lb/\b∉M.gb/\w.frozen? ⟨b,k,none⟩=false/\∃(d:Array Value) (T:TypeId) (e:Nat×Nat),w.heap[b]?=some (.cells d T e)/\k<d.size
def RepObj (b:FI) (M:Mem) (w:World) (i a:Nat):GObj->Prop
 | .cells f=>RepBox b M w (Loc.gh i) a f
 | .map e=>RepMap b M w a e
 | .stk c d=>RepStk b M w i a c d
 | .bld s=>RepBld b M w i a s
 | .trash=>O6 b M w i a
structure Inv (fi:FI) (M:Mem) (w:World) (s:St) (a:Act):Prop where
 env:∀t v,get s.env t=some v->t<a.tmps.size/\RepAt fi M w (Loc.env t) v (a.tmps.getD t undef)
 defers:a.defers=M.ds
 lbl:M.lb.length=s.lh.length
 gbl:M.gb.length=s.gh.length
 nodup:(M.lb++M.gb).Nodup
 lh:∀(i:Nat) (cs:fw) (blk:Nat),s.lh[i]?=some cs->M.lb[i]?=some blk->RepBox fi M w (Loc.lh i) blk cs
 gh:∀(i:Nat) (o:GObj) (blk:Nat),s.gh[i]?=some o->M.gb[i]?=some blk->RepObj fi M w i blk o
 gl:∀x∈fi.gl,M.imm x.1 x.2.1/\w.cell? ⟨x.1,x.2.1,none⟩=x.2.2
 immlt:∀b k,M.imm b k->b<w.heap.size
 ownlt:∀b l,M.own b=some l->b<w.heap.size
 gblt:∀b∈M.gb,b<w.heap.size
theorem Inv.n0le {b:FI} {M:Mem} {w:World} {s:St} {a:Act} (h:Inv b M w s a):b.n0<=w.heap.size:=by
 rcases b.n0ok with c|⟨k,v,c⟩
 ·omega
 ·have:=h.immlt _ _ (h.gl _ c).1
  simp only at this;omega
theorem Ext.gl {d:FI} {M e:Mem} {w c:World} (h:Ext M w e c) (b:∀x∈d.gl,M.imm x.1 x.2.1/\w.cell? ⟨x.1,x.2.1,none⟩=x.2.2) :
  ∀x∈d.gl,e.imm x.1 x.2.1/\c.cell? ⟨x.1,x.2.1,none⟩=x.2.2:=
 λx a=>⟨h.imm _ _ (b x a).1,(h.cell _ _ (b x a).1).trans (b x a).2⟩
def Mark (M:Mem) (w:World) (n:Nat) (d:Deferred):Prop:=
 ∃D:Nat,n<=D/\d={target:= .collected D,args:= #[] }/\w.heap[D]?=some (.deferred (some []))/\D∉M.lb/\D∉M.gb/\M.own D=none
def Marks (n:Nat) (M:Mem) (w:World) (b a:List Deferred):Prop:=∃l,a=l++b/\l.Nodup/\∀d∈l,Mark M w n d
theorem Marks.same {n:Nat} {M:Mem} {w:World} {b a:List Deferred} (h:a=b):Marks n M w b a:=⟨[],by simp[h],List.nodup_nil,λd c=>by cases c⟩
structure Kp (M:Mem) (w:World) (M':Mem) (w':World):Prop where
 os:w'.os=w.os
 tape:w'.tape=w.tape
 output:w'.output=w.output
 size:w.heap.size<=w'.heap.size
 ext:Ext M w M' w'
 block:∀k,k<w.heap.size->k∉M.lb->k∉M.gb->M.own k=none->w'.heap[k]?=w.heap[k]?
 lbn:∀k∈M'.lb,k∈M.lb\/w.heap.size<=k
 gbn:∀k∈M'.gb,k∈M.gb\/w.heap.size<=k\/M.own k≠none\/k∈M.lb
 ownn:∀k,k<w.heap.size->M.own k=none->M'.own k=none
 immn:∀b k,M'.imm b k->M.imm b k\/w.heap.size<=b\/M.own b≠none
 ds:Marks w.heap.size M' w' M.ds M'.ds
theorem Kp.refl (M:Mem) (w:World):Kp M w M w:=
 ⟨rfl,rfl,rfl,cW _,Ext.refl M w,λ_ _ _ _ _=>rfl,λ_ h=> .inl h,λ_ h=> .inl h,λ_ _ h=>h,λ_ _ h=> .inl h,.same rfl⟩
theorem Mark.keep {n:Nat} {d:Deferred} (h:Mark M w n d) (k:Kp M w M' w'):Mark M' w' n d:=by
 obtain⟨D,hn,j,i,f,g,e⟩:=h;have b:D<w.heap.size:=(Array.getElem?_eq_some_iff.1 i).1;refine⟨D,hn,j,(k.block D b f g e).trans i,λc=>?_,λc=>?_,k.ownn D b e⟩
 ·rcases k.lbn D c with a|a
  ·exact f a
  ·omega
 ·rcases k.gbn D c with a|a|a|a
  ·exact g a
  ·omega
  ·exact a e
  ·exact f a
theorem Kp.trans {m:Mem} {l:World} (h:Kp M w M' w') (k:Kp M' w' m l):Kp M w m l where
 os:=k.os.trans h.os
 tape:=k.tape.trans h.tape
 output:=k.output.trans h.output
 size:=cC h.size k.size
 ext:=h.ext.trans k.ext
 block:=λi f p t c=>by
  have:=h.size;refine (k.block i aj ?_ ?_ (h.ownn i f c)).trans (h.block i f p t c)
  ·intro n;rcases h.lbn i n with a|a
   ·exact p a
   ·omega
  ·intro n;rcases h.gbn i n with a|a|a|a
   ·exact t a
   ·omega
   ·exact a c
   ·exact p a
 lbn:=λi f=>by
  have:=h.size;rcases k.lbn i f with a|a
  ·exact h.lbn i a
  ·exact .inr aj
 gbn:=λi f=>by
  have:=h.size;rcases k.gbn i f with a|a|a|a
  ·exact h.gbn i a
  ·exact .inr (.inl aj)
  ·by_cases g:i<w.heap.size
   ·exact .inr (.inr (.inl λc=>a (h.ownn i g c)))
   ·exact .inr (.inl aj)
  ·rcases h.lbn i a with r|r
   ·exact .inr (.inr (.inr r))
   ·exact .inr (.inl r)
 ownn:=λi f c=>k.ownn i (aO f h.size) (h.ownn i f c)
 immn:=λb o C=>by
  have N:=h.size;rcases k.immn b o C with a|a|a
  ·exact h.immn b o a
  ·exact .inr (.inl aj)
  ·by_cases g:b<w.heap.size
   ·exact .inr (.inr λc=>a (h.ownn b g c))
   ·exact .inr (.inl aj)
 ds :=by
  obtain⟨A,L,I,y⟩:=h.ds;obtain⟨z,H,G,x⟩:=k.ds;refine⟨z++A,by rw[H,L,aT],cT.2 ⟨G,I,λd j e B q=>?_⟩,λd j=>?_⟩
  ·subst q
   obtain⟨D,u,s,_⟩:=x d j;obtain⟨E,O,v,F,_⟩:=y d B;have:D=E:=by rw[s] at v;cases v;rfl
   have:=(Array.getElem?_eq_some_iff.1 F).1;omega
  ·rcases cE.1 j with j|j
   ·obtain⟨D,u,s⟩:=x d j
    exact⟨D,cC h.size u,s⟩
   ·exact (y d j).keep k
end
end Go.Lw