/-
  The texts that the proof stands on, part 8.
-/
import Derived.Test.YtmodipglnngghabGreatDoorDecideTextsE
import Derived.Laws.MakeOwn
set_option linter.unusedVariables false
set_option linter.unusedSimpArgs false
set_option linter.unnecessarySimpa false

set_option maxRecDepth 100000
set_option maxHeartbeats 4000000
namespace Go.Lw
open Go
section
open Go.RowKit
variable {o:Oper} {d z kn:Nat} {m x i k:IX}
section
variable {fi:FI} {M M':Mem} {w w':World} {P:Program} {s s':St} {a:Act} {cf:CallF}
theorem Ew {m:Nat} {agg:Bool} (A:dv P fi M w s a o (.index d z m agg x i)) (h:ae cf s (.index d z m agg x i)=some s'):Sim P fi o M w s' a:=by
 obtain⟨O,op,S,v,Q,U⟩:=o;obtain⟨l,b,I,f⟩:=A;cases op<;>simp[mOp] at b;rename_i t y j;obtain⟨⟨B,G⟩,b⟩:=b;split at b
 ·rename_i T e D
  simp at b;obtain⟨⟨rfl,q⟩,ha⟩:=b;simp only[ae] at h;split at h
  ·rename_i k n hn
   have g:=(bt l G hn).int;split at h
   ·rename_i cs E
    split at h
    ·rename_i u
     simp only[aE] at h;obtain⟨p,H,rfl⟩:=h;obtain⟨R,C,F,c⟩:=(bt l B E).agg;obtain⟨r,N,L⟩:=wB (P:=P) H F c ha (λ_=>q);refine Sim.pure l I (f d rfl) ?_ L.repE.repAt;simp[execOp,g,C,Instr.index,run_underlying D,asIntOf,u.1,u.2,run_sizeOf' q,N]
    ·cases h
   ·cases h
  ·cases h
 ·cases b
theorem Ex (A:dv P fi M w s a o (.indexS d x i)) (h:ae cf s (.indexS d x i)=some s'):Sim P fi o M w s' a:=by
 obtain⟨E,op,G,l,F,H⟩:=o;obtain⟨g,c,C,e⟩:=A;cases op<;>simp[mOp] at c;rename_i t y j;obtain⟨⟨m,B⟩,c⟩:=c;have r:P.underlying t=some .string:=by
  split at c
  ·assumption
  ·cases c
 simp only[ae] at h;split at h
 ·rename_i k n hn
  have f:=(bt g B hn).int;split at h
  ·rename_i b z
   have p:=(bt g m z).str;split at h
   ·rename_i D
    simp only[aE] at h;obtain⟨u,q,rfl⟩:=h;exact Sim.pure g C (e d rfl) (v:= .int .u8 u.toNat) (by simp[execOp,f,p,DH (P:=P) r D q]) (RepP.repE (.int _ _)).repAt
   ·cases h
  ·cases h
 ·cases h
theorem Ey {ok:Bool} {zero:PV} (A:dv P fi M w s a o (.lookup d kn m k ok zero)) (h:ae cf s (.lookup d kn m k ok zero)=some s'):Sim P fi o M w s' a:=by
 obtain⟨T,op,ty,F,U,gd⟩:=o;obtain⟨n,f,E,i⟩:=A;cases op<;>simp[mOp] at f;rename_i t y j G;obtain⟨⟨⟨I,Q⟩,rfl⟩,f⟩:=f;split at f
 ·rename_i kt R N
  simp only[aS] at f;obtain⟨q,g⟩:=f;simp only[ae,nL] at h;split at h
  ·rename_i b D O p
   split at h
   ·rename_i S z
    split at h
    ·cases h
    ·rename_i u
     have l:eS kn D=true:=by simpa using u
     unfold nU at g;cases c:P.info? R with
     |none=>simp[c] at g
     | some H=>
      cases e:H.zero with
      |none=>simp[c,e] at g
      | some X=>
       simp[c,e] at g;have L:=λ(r:Option PV) (hr:eD kn S D=some r)=>DX (P:=P) n N q c e g (bt n I O) z (bt n Q p) l (ok:=ok) hr
       split at h
       ·rename_i v x
        cases h;obtain⟨r,C,B⟩:=L _ x;exact Sim.pure n E (i d rfl) (by simp[execOp,C]) B.repE.repAt
       ·rename_i x
        cases h;obtain⟨r,C,B⟩:=L _ x;exact Sim.pure n E (i d rfl) (by simp[execOp,C]) B.repE.repAt
       ·cases h
   ·cases h
  ·cases h
 ·cases f
theorem Ez (A:dv P fi M w s a o (.mupd kn m k x)) (h:ae cf s (.mupd kn m k x)=some s'):Sim P fi o M w s' a:=by
 obtain⟨l,op,Q,p,O,T⟩:=o;obtain⟨d,c,G,E⟩:=A;have g:l=none:=G;subst g;simp only[ae] at h;split at h
 ·rename_i b R v D e u
  split at h
  ·rename_i X f
   split at h
   ·rename_i i
    simp only[aE] at h;obtain⟨N,C,rfl⟩:=h;cases op<;>simp[mOp] at c<;>rename_i t y j z<;>obtain⟨⟨⟨r,F⟩,q⟩,c⟩:=c<;>split at c<;>try (cases c;done)
    all_goals
     rename_i S U B;obtain⟨n,L,I,H⟩:=D2 (P:=P) d B c (bt d r D) f (bt d F e) i.2.2 (bt d q u) i.1 i.2.1 C;exact⟨.skip,undef,M,n,by simp[execOp,L],.inr ⟨rfl,rfl⟩,I,H⟩
   ·cases h
  ·cases h
 ·cases h
theorem j9 {b:Builtin} {c:Array TypeId} {d:TypeId} {cs:Array Bool} {a:Array Value}:invoke (.builtin b c d cs) a=builtin b c d cs a:=rfl
theorem EA {F:Nat} (A:dv P fi M w s a o (.len d F x)) (h:ae cf s (.len d F x)=some s'):Sim P fi o M w s' a:=by
 obtain⟨O,op,R,H,Q,gd⟩:=o;obtain⟨q,k,hd,I⟩:=A;cases op with
 | call c=>
  obtain⟨callee,G,i⟩:=c;cases callee with
  | builtin b=>
   cases b<;>simp[mOp] at k;split at k
   ·rename_i y t ha C
    simp only[aS] at k;obtain⟨B,k⟩:=k;have N:G= #[y]:=by apply Array.ext';simpa using ha
    subst N;have l:∀(n:Nat),(Builtin.len_ i R #[a.eval y]).run P w= .ok (.int .i64 n) w->Sim P fi ⟨O,.call ⟨.builtin .len,#[y],i⟩,R,H,Q,gd⟩ M w (s.put d (.int .i64 n)) a:=λn hn=>by refine Sim.pure q hd (I d rfl) (v:= .int .i64 n) ?_ (RepP.repE (.int _ _)).repAt;simp[execOp,resolve,j9,builtin,hn]
    obtain rfl|rfl|rfl|h4:F=0\/F=1\/F=2\/3<=F:=NW
    ·split at k<;>try (first|(simp at k;done)|omega)
     rename_i e _ m;simp only[ae,iY] at h;split at h<;>try (first|(simp at h;done)|omega)
     ·rename_i ow z xs _ p
      cases h;obtain⟨A,c,j,ad⟩:=(bt q B p).slC;exact l _ (by rw[j];exact mq (P:=P) C m w)
     ·rename_i g b r n z _ p
      cases h;have f:=bt q B p;have j:∃A c,a.eval y= .slice A n c:=by
       cases g with
       |true=>
        generalize m:a.eval y=u at f;cases (show RepP fi M w (.bs true b r n z) u from f) with
        |bs _ _ _ _ A c E T U S=>exact⟨A,c,rfl⟩
       |false=>obtain⟨E,A,c,_,j,_⟩:=f;exact⟨A,c,j⟩
      obtain⟨A,c,j⟩:=j;exact l _ (by rw[j];exact mq (P:=P) C m w)
     ·rename_i b D n _ p
      cases h;have f:=bt q B p;have j:∃A c,a.eval y= .slice A n c:=by
       generalize m:a.eval y=u at f;cases (show RepP fi M w (.stk b D n) u from f) with
       |stk _ _ _ E c T X U S=>exact⟨_,c,rfl⟩
      obtain⟨A,c,j⟩:=j;exact l _ (by rw[j];exact mq (P:=P) C m w)
     ·rename_i b D r n _ p
      cases h;have f:=bt q B p;have j:∃A c,a.eval y= .slice A n c:=by
       generalize m:a.eval y=u at f;cases (show RepP fi M w (.sub b D r n) u from f) with
       |sub _ _ _ _ E c A T X U S al=>exact⟨_,c,rfl⟩
      obtain⟨A,c,j⟩:=j;exact l _ (by rw[j];exact mq (P:=P) C m w)
     ·rename_i _ p
      cases h;have f:=bt q B p;have j:a.eval y= .slice none 0 0:=by
       generalize m:a.eval y=u at f;cases (show RepP fi M w .nils u from f) with
       |nils=>rfl
      exact l _ (by rw[j];exact mq (P:=P) C m w)
    ·split at k<;>try (first|(simp at k;done)|omega)
     rename_i _ m;simp only[ae,iY] at h;split at h<;>try (first|(simp at h;done)|omega)
     rename_i b _ p;cases h;have j:=(bt q B p).str;exact l _ (by rw[j];exact DI (P:=P) C m w)
    ·split at k<;>try (first|(simp at k;done)|omega)
     rename_i kt et _ m;simp only[ae,iY] at h;split at h<;>try (first|(simp at h;done)|omega)
     rename_i b _ p;split at h
     ·rename_i es L
      cases h;exact l _ (DY (P:=P) q C m (bt q B p) L)
     ·cases h
    ·split at k<;>first|(simp at k;done)|omega
   ·cases k
  |_=>simp[mOp] at k
 |_=>simp[mOp] at k
theorem EB {l:Nat} {T:IX} (A:dv P fi M w s a o (.append d z l T x)) (h:ae cf s (.append d z l T x)=some s'):Sim P fi o M w s' a:=by
 obtain⟨Q,op,ty,ad,an,gd⟩:=o;obtain⟨hI,g,hd,G⟩:=A;cases op with
 | call c=>
  obtain⟨callee,m,k⟩:=c;cases callee with
  | builtin b=>
   cases b<;>simp[mOp] at g;split at g
   ·rename_i y p t t' ha ht
    simp only[aS,cY,aH] at g;obtain⟨⟨⟨⟨⟨hs,hx⟩,rfl⟩,B⟩,L⟩,g⟩:=g;have N:m= #[y,p]:=by apply Array.ext';simpa using ha
    have E:k= #[t,t]:=by apply Array.ext';simpa using ht
    subst N;subst E;split at g<;>try (cases g;done)
    rename_i e hu;split at g<;>try (cases g;done)
    rename_i i hi;simp only[aS,cY] at g;obtain⟨⟨F,H⟩,g⟩:=g;split at g<;>try (cases g;done)
    rename_i zv u;simp at g;simp only[ae,aC] at h;obtain⟨xv,j,h⟩:=h;split at h
    ·rename_i o2 R S
     simp only[aC] at h;obtain⟨⟨v,e'⟩,hv,h⟩:=h;cases v with
     | sl o1 z1 xs=>
      simp only at h;split at h
      ·rename_i hc
       obtain⟨rfl,rfl,rfl,I⟩:=hc;cases h;obtain⟨M1,O,U,hr,_,al,X⟩:=pW hI hs hv;have C:RepP fi M w (.sl false R S) (a.eval p):=by
        have:=bt hI hx j;cases o2 with
        |false=>exact this
        |true=>
         cases x with
         |t n=>simp only[ai,aE] at j;obtain⟨q,_,hq⟩:=j;cases q<;>simp[degr] at hq
         |c q=>simp only[ai,bW] at j;cases q<;>simp[degr] at j
         |f id=>simp[ai] at j
       have D:RepP fi M1 w (.sl false R S) (a.eval p):=C.mono U.ext;obtain⟨r,M2,w2,h1,h2,k2⟩:=DQ (P:=P) (ty:=ty) O hu hi u F H g B L hr D I (G d rfl);refine⟨.value r,r,M2,w2,?_,.inl rfl,by rw[show Q=some d from hd];exact h2,U.trans k2⟩;simp[execOp,resolve,j9,builtin,h1]
      ·cases h
     |_=>cases h
    ·cases h
   ·cases g
  |_=>simp[mOp] at g
 |_=>simp[mOp] at g
theorem EC {i:Nat} (A:dv P fi M w s a o (.extract d x i)) (h:ae cf s (.extract d x i)=some s'):Sim P fi o M w s' a:=by
 obtain⟨z,op,D,m,B,E⟩:=o;obtain⟨l,f,u,c⟩:=A;cases op<;>simp[mOp] at f;rename_i y j;obtain⟨n,rfl⟩:=f;simp only[ae] at h;split at h
 ·rename_i C r
  simp only[aE] at h;obtain⟨p,k,rfl⟩:=h;obtain⟨e,q,t,b⟩:=(bt l n r).tup;have g:i<e.length:=by rw[t];exact (aD.1 k).1
  have hr:=b i p _ k (aA g);refine Sim.pure l u (c d rfl) (v:=e[i]) ?_ hr.repE.repAt;simp[execOp,q,Instr.extract,aA g]
 ·cases h
theorem ED {u:List IX} (A:dv P fi M w s a o (.maxi d u)) (h:ae cf s (.maxi d u)=some s'):Sim P fi o M w s' a:=by
 obtain⟨F,op,I,D,G,N⟩:=o;obtain⟨q,i,B,g⟩:=A;cases op with
 | call c=>
  obtain⟨callee,e,f⟩:=c;cases callee with
  | builtin b=>
   cases b<;>simp[mOp] at i;simp only[ae,aC,aE] at h;obtain⟨H,j,r,hr,rfl⟩:=h;obtain⟨C,t⟩:=i8 q i j;unfold nK at hr;split at hr
   ·rename_i k n
    cases hr;obtain⟨y,ha⟩:∃y,e= #[y]:=by
     obtain⟨l⟩:=e
     match l,C with
     |[y],_=>exact⟨y,rfl⟩
    subst ha;have p:=(t 0 _ y rfl rfl).int;refine Sim.pure q B (g d rfl) (v:= .int k n) ?_ (RepP.repE (.int _ _)).repAt;simp[execOp,resolve,j9,builtin,p,Builtin.max_]
   ·rename_i k n L x
    split at hr
    ·rename_i E
     subst E;cases hr;obtain⟨y,z,ha⟩:∃y z,e= #[y,z]:=by
      obtain⟨l⟩:=e
      match l,C with
      |[y,z],_=>exact⟨y,z,rfl⟩
     subst ha;have p:=(t 0 _ y rfl rfl).int;have m:=(t 1 _ z rfl rfl).int;refine Sim.pure q B (g d rfl) (v:= .int k (if x>n then x else n)) ?_ (RepP.repE (.int _ _)).repAt;simp[execOp,resolve,j9,builtin,p,m,Builtin.max_,Builtin.max2]
    ·cases hr
   ·cases hr
  |_=>simp[mOp] at i
 |_=>simp[mOp] at i
end
end
section
open Go.RowKit
section
variable {fi:FI} {M M':Mem} {w w':World} {P:Program} {s s':St} {a:Act} {cf:CallF}
theorem sJ {z:Nat} (x:PV) (a:x.cells.length=z):∀(n j:Nat),((List.replicate n x).flatMap PV.cells)[j]?=if j<n*z then x.cells[j%z]? else none
 |0,j=>NX
 | n+1,j=>by
  rw[List.replicate_succ,cS,Nat.add_mul,Nat.one_mul];by_cases h:j<z
  ·rw[aI NW,if_pos NW,cT h]
  ·rw[aN NW,sJ x a n,a]
   by_cases b:j<n*z+z
   ·rw[if_pos NW,if_pos b,<-Nat.mod_eq_sub_mod NW]
   ·rw[if_neg NW,if_neg b]
theorem wU {z:Nat} (x:PV) (a:x.cells.length=z) (n:Nat):((List.replicate n x).flatMap PV.cells).length=n*z:=by simp[List.length_flatMap,a]
theorem wV (a:Array Value) (n j:Nat) (h:j<n):(madeCells a n).toList[j]?=some (a[j%a.size]!):=by simp[madeCells,h]
theorem wW {zero:PV} {b:Value} {z:Nat} (i:cOk zero b=true) (e:zero.cells.length=z) (ha:az zero=true) (g:b.cells.size=z) (n:Nat) (mk:Nat->Loc) :
  RepAt fi M w mk (.agg ((List.replicate n zero).flatMap PV.cells)) (.agg (madeCells b.cells (n*z))):=by
 refine⟨(madeCells b.cells (n*z)).toList,NX,by rw[wU zero e];simp[size_madeCells],λj c u a d=>?_⟩;rw[sJ zero e] at a;split at a
 ·rename_i f
  rw[wV _ _ _ f,g] at d;obtain⟨m,l,o,k,_⟩:=(lE (fi:=fi) (M:=M) (w:=w) i (λ_=>mk j)).cells ha;have h:j%z<z:=Nat.mod_lt _ (by rcases z with _|z;simp at f;omega);refine k (j%z) c u a ?_;have:b.cells.toList[j%z]?=some u:=by rw[<-d];simp only[Array.getElem?_toList];rw[getElem!_pos b.cells (j%z) NW];exact Array.getElem?_eq_getElem NW
  rw[l] at this;exact this
 ·cases a
theorem EE {o:Oper} {d z b:Nat} {g:Bool} {zero:PV} {l:IX} (A:dv P fi M w s a o (.mksl d g z b zero l)) (h:ae cf s (.mksl d g z b zero l)=some s'):Sim P fi o M w s' a:=by
 obtain⟨I,op,ty,ap,aF,gd⟩:=o;obtain⟨N,m,hd,G⟩:=A;cases op<;>simp[mOp] at m;rename_i t y y';obtain⟨⟨⟨hx,R⟩,aE⟩,m⟩:=m;split at m<;>try (cases m;done)
 rename_i e hu;split at m<;>try (cases m;done)
 rename_i i hi;simp only[aS,cY] at m;obtain⟨⟨S,al⟩,m⟩:=m;split at m<;>try (cases m;done)
 rename_i zv Q;simp only[aS,cY] at m;obtain⟨C,B⟩:=m;simp only[ae] at h;split at h
 ·rename_i k n hn
  split at h
  ·rename_i hc
   obtain⟨h0,aB,q,r⟩:=hc;have v1:=(bt N hx hn).int;have v2:=(bt N R hn).int;have F:az (.agg ((List.replicate n.toNat zero).flatMap PV.cells))=true:=by simp only[az,PV.cells,bV,List.mem_flatMap,List.mem_replicate] at r ⊢;rintro c ⟨x,⟨_,rfl⟩,hc⟩;exact r c hc
   have aC:n*1<=n*(b:Int):=Int.mul_le_mul_of_nonneg_left NW h0;have av:(maxBytes:Int)=140737488355328:=rfl;have f:=run_make (P:=P) w t e i zv hu hi Q k k n n h0 (Int.le_refl _) (by rw[al,Int.mul_comm];omega) NW;rw[S] at f;cases g with
   | true=>
    cases h;obtain⟨M2,an,k2,T⟩:=N.newBox true (wW (fi:=fi) (M:=M) (w:=w) C q r B n.toNat Loc.lim) F e;refine⟨_,.slice (some ⟨w.heap.size,0,none⟩) n.toNat n.toNat,M2,_,?_,.inl rfl,?_,k2⟩
    ·simp only[execOp,v1,v2,Sem.run_bind,f];rfl
    ·rw[show I=some d from hd]
     refine an.put (G d rfl) (RepE.repAt ?_);cases (show RepP fi M2 _ (Oe _ 0) _ from T) with
     |ptr _ _ _ hb=>exact RepP.repE (.bs _ _ _ _ _ _ _ hb (.inr rfl) (cU _))
   | false=>
    simp only at h;split at h<;>try (cases h;done)
    rename_i ad;cases h;obtain⟨v,u1,L,u3⟩:=wW (fi:=fi) (M:=M) (w:=w) C q r B n.toNat Loc.lim;rw[wU zero q] at L;have O:(madeCells zv.cells (n.toNat*z))=v.toArray:=Value.agg.inj u1;rw[O] at f
    obtain⟨M1,ao,k1⟩:=N.newOwn (G d rfl) (xs:=List.replicate n.toNat zero) (z:=z) (λe H=>by rw[List.eq_of_mem_replicate H];exact q) (λe H=>by rw[List.eq_of_mem_replicate H];exact r) v [] (by simpa using L)
     (λi e j p H E=>by
      obtain⟨X,rfl⟩:=aD.1 H;rw[List.getElem_replicate] at E;have U:j<z:=by have:=(aD.1 E).1;omega
      have ax:i<n.toNat:=by simpa using X
      have u:i*z+j<n.toNat*z:=by have:=cW z (show i+1<=n.toNat by omega);rw[Nat.add_mul,Nat.one_mul] at this;omega
      have hg:=sJ zero q n.toNat (i*z+j);rw[if_pos u,Nat.mul_comm i z,Nat.mul_add_mod,cT U,E] at hg;rw[Nat.mul_comm i z];have D:z*i+j<v.length:=by rw[L,Nat.mul_comm z i];exact u
      refine⟨v[z*i+j],aA D,?_⟩;have:=u3 (z*i+j) p _ hg (aA D);cases zero<;>simp[co] at ad<;>(cases j<;>simp[PV.cells] at E;subst E;exact this))
     n.toNat NX (by simp[L]) e v.toArray NX
    refine⟨_,.slice (some ⟨w.heap.size,0,none⟩) n.toNat n.toNat,M1,_,?_,.inl rfl,?_,k1⟩
    ·simp only[execOp,v1,v2,Sem.run_bind,f];rfl
    ·rw[show I=some d from hd]
     simpa using ao
  ·cases h
 ·cases h
theorem w9 {α β:Type} (F:α->Sem β) (G:α->Option β) (a:∀x y,G x=some y->(F x).run P w= .ok y w):∀{l:List α} {L:List β},l.mapM G=some L->(l.mapM F).run P w= .ok L w
 |[],L,h=>by simp at h;subst h;simp
 |x::l,L,h=>by simp only[List.mapM_cons,Option.bind_eq_bind,aC] at h;obtain⟨y,b,d,c,h⟩:=h;simp at h;subst h;simp[List.mapM_cons,a x y b,w9 F G a c]
theorem EF {α β:Type} (F:α->Sem β) (G:α->Option β) (a:∀x y,G x=some y->(F x).run P w= .ok y w) {l:Array α} {L:List β} (h:l.toList.mapM G=some L):(l.mapM F).run P w= .ok L.toArray w:=by rw[Array.mapM_eq_mapM_toList,map_eq_pure_bind,Sem.run_bind,w9 F G a h];rfl
theorem EG {t:TypeId} {n:Value} {i:TypeInfo} {c:Array (Nat×Value)} {p:Ou} (l:P.info? t=some i) (r:i.zero=some n)
  (h:∀b:Nat->Option (Nat×Nat),(∀j q,iE P t j=some q->b j=some q)->Instr.fill b n.cells c.toList=some p.toArray)
  (u:∃j q,iE P t j=some q):(Instr.build t c).run P w= .ok (.agg p.toArray) w:=by
 obtain⟨j,q,a⟩:=u;unfold iE at h a;split at a
 ·rename_i y g
  simp only[aC] at a;obtain⟨L,s,_⟩:=a;simp only[g,s,cH] at h;have o:=h (L.toArray[·]?) (λj q d=>by simpa using d);have x:(y.mapM (m:=Sem) λf=>do pure (f.offset,<-sizeOf f.type)).run P w= .ok L.toArray w:=EF _ _ (λf q d=>by simp only[aE] at d;obtain⟨i,l,rfl⟩:=d;simp[sizeOf,typeInfo,l]) s;have v:(zeroValue t).run P w= .ok n w:=by simp[zeroValue,typeInfo,l,r]
  simp only[Instr.build,Sem.run_bind,v,Result.andThen,run_underlying g,x,o];rfl
 ·rename_i m e g
  simp only[aE] at a;obtain⟨z,k,_⟩:=a;simp only[g,k,cJ] at h;have o:=h (λi=>some (i*z,z)) (λj q d=>by simpa using d);simp[Instr.build,zeroValue,typeInfo,l,r,run_underlying g,run_sizeOf' k,o]
 ·cases a
end
end
section
open Go.RowKit
variable {z:Ok} {o:Oper} {d:Nat} {ps:List (Nat×Nat×IX)}
section
variable {fi:FI} {M M':Mem} {w w':World} {P:Program} {s s':St} {a:Act} {cf:CallF}
def gJ (a:Act) (q:Nat×Operand):Nat×Value:=(q.1,a.eval q.2)
theorem xa (n:Inv fi M w s a) {t:TypeId} {b:Nat->Option (Nat×Nat)} (e:∀j q,iE P t j=some q->b j=some q) (mk:Nat->Loc):∀{ps:List (Nat×Nat×IX)} {g:List (Nat×Operand)} {d:List (Nat×Nat×PV)},
  jE P fi t ps g=true->iW s.env ps=some d->(∀p∈d,az p.2.2=true)->kO fi M w b mk d (g.map (gJ a))
 |[],[],d,_,h,_=>by simp[iW] at h;subst h;exact trivial
 |[],_::_,_,c,_,_=>by simp[jE] at c
 |(_,_,_)::_,[],_,c,_,_=>by simp[jE] at c
 |(l,k,x)::ps,(i,o)::g,d,c,h,f=>by simp only[jE,aS,cY] at c;simp only[iW,aC,aE] at h;obtain⟨v,u,r,m,rfl⟩:=h;exact⟨e _ _ c.1.1,(bt n c.1.2 u).repAt,f (l,k,v) NX,xa n e mk c.2 m (λp y=>f p (by simp[y]))⟩
theorem EH {t:TypeId} (h:qA P t z=true):∃i a,P.info? t=some i/\i.zero=some a/\a.cells.toList.length=z.length/\
  ∀(mk:Nat->Loc) (i:Nat) (c:PV) (u:Value),z[i]?=some c->a.cells.toList[i]?=some u->RepC fi M w (mk i) c u:=by
 unfold qA at h;split at h
 ·rename_i a d
  simp only[aC] at d;obtain⟨i,f,b⟩:=d;obtain⟨k,j⟩:=sD h;exact⟨i,a,f,b,k,λmk i c u g e=>sC (j i c u g e) _⟩
 ·cases h
theorem xc {t:TypeId} {z cs:Ok} {d:List (Nat×Nat×PV)} {parts:Array (Nat×Value)} (b:(iE P t 0).isSome=true) (y:qA P t z=true) (g:∀c∈z,c.one=true) (h:j5 z d=some cs) (mk:Nat->Loc)
  (A:∀a:Nat->Option (Nat×Nat),(∀j q,iE P t j=some q->a j=some q)->kO fi M w a mk d parts.toList) :
  ∃v,(Instr.build t parts).run P w= .ok v w/\RepAt fi M w mk (.agg cs) v:=by
 obtain⟨i,o,C,e,B,f⟩:=EH (fi:=fi) (M:=M) (w:=w) y;obtain⟨q,k⟩:=Option.isSome_iff_exists.1 b;have F:=λ(a:Nat->Option (Nat×Nat)) (b:∀j q,iE P t j=some q->a j=some q)=>D6 d parts.toList z cs o.cells.toList h B (f mk) (A a b) g
 obtain⟨m,H,G,E,_⟩:=F (iE P t) (λ_ _ h=>h);refine⟨.agg m.toArray,EG C e (λa b=>?_) ⟨0,q,k⟩,⟨m,rfl,G,E⟩⟩;obtain⟨p,I,_⟩:=F a b;have mono:∀(l:List (Nat×Value)) (cells:Array Value) (r:Array Value),Instr.fill (iE P t) cells l=some r->Instr.fill a cells l=some r:=by
  intro l
  induction l with
  |nil=>intro cells r h;exact h
  | cons x l u=>
   intro cells r h;obtain⟨i,v⟩:=x;simp only[Instr.fill] at h ⊢;split at h
   ·cases h
   ·rename_i s n k
    rw[b _ _ k];simp only;split at h
    ·cases h
    ·rename_i D
     rw[if_neg D];exact u _ _ h
 exact mono _ _ _ (by simpa using H)
theorem EI (A:dv P fi M w s a o (.build d z ps)) (h:ae cf s (.build d z ps)=some s'):Sim P fi o M w s' a:=by
 obtain⟨C,op,F,p,D,G⟩:=o;obtain⟨n,j,u,k⟩:=A;cases op<;>simp only[mOp,bR] at j;rename_i t parts;simp only[aS] at j;obtain⟨⟨g,q⟩,f⟩:=j;simp only[ae,aC] at h;obtain⟨E,c,h⟩:=h;split at h
 ·rename_i m
  simp only[bV] at m;simp only[aE] at h;obtain⟨cs,l,rfl⟩:=h;obtain⟨v,B,y⟩:=xc (P:=P) (parts:=parts.map (gJ a)) g q m.2 l (Loc.env d) (λb r=>by have:=xa n r (Loc.env d) f c m.1;simpa using this);refine Sim.pure n u (k d rfl) (v:=v) ?_ y;have e:(parts.map λ(x:Nat×Operand)=>match x with|(i,x)=>(i,a.eval x))=parts.map (gJ a):=rfl;simp only[execOp,e,Sem.run_bind,B];rfl
 ·cases h
theorem EJ (d:Inv fi M w s a) {x:IX} {o:Operand} (j:mX fi x o=true) {v:PV} {e:Oo} (h:eL s.env x=some (v,e)) :
  ∃f:Loc->Loc,(∀i,f (.res i)= .res i)/\Inv fi (M.rel f) w ⟨e,s.lh,s.gh⟩ a/\RepAt fi (M.rel f) w Loc.lim v (a.eval o):=by
 cases x with
 | t n=>
  cases o with
  | tmp m=>
   simp only[mX,cY] at j;subst j;simp only[eL,aE,bZ] at h;obtain⟨l,q,rfl,rfl⟩:=h;have hn:=d.env n l q;refine⟨mu n,λ_=>rfl,d.rel _ _ (λt u b=>?_) (λ_ _=>rfl) (λ_ _=>rfl),hn.2.rel _ (λi=>by simp[mu])⟩;rw[dl] at b;by_cases g:n=t
   ·subst g
    simp at b;subst b;exact⟨hn.1,(hn.2.degr.rel _).repAt⟩
   ·simp[g] at b
    exact⟨(d.env t u b).1,(d.env t u b).2.rel _ (λi=>by simp[mu,Ne.symm g])⟩
  |_=>simp[mX] at j
 | c p=>
  cases o with
  |const u=>
   simp only[eL,bW,bZ] at h;obtain⟨rfl,rfl⟩:=h;exact⟨id,λ_=>rfl,d.rel _ _ (λt u b=>⟨(d.env t u b).1,(d.env t u b).2.rel _ (λ_=>rfl)⟩) (λ_ _=>rfl) (λ_ _=>rfl),lE j _⟩
  |_=>simp[mX] at j
 | f k=>
  cases o with
  |func F=>
   simp only[eL,bW,bZ] at h;obtain⟨rfl,rfl⟩:=h;refine⟨id,λ_=>rfl,d.rel _ _ (λt u b=>⟨(d.env t u b).1,(d.env t u b).2.rel _ (λ_=>rfl)⟩) (λ_ _=>rfl) (λ_ _=>rfl),?_⟩;exact ((bt d (x:= .f k) j rfl).rel _).repAt
  |_=>simp[mX] at j
theorem xd {t:TypeId}:∀{ps:List (Nat×Nat×IX)} {z:List (Nat×Operand)} {l:List (Nat×Nat×PV)} {M:Mem} {s:St} {e:Oo},Inv fi M w s a->
  jE P fi t ps z=true->iX s.env ps=some (l,e)->(∀p∈l,az p.2.2=true)->
  ∃y,Inv fi y w ⟨e,s.lh,s.gh⟩ a/\Kp M w y w/\(∀(mk:Nat->Nat) p v,RepAt fi M w (λi=> .res (mk i)) p v->RepAt fi y w (λi=> .res (mk i)) p v)/\
   ∀b:Nat->Option (Nat×Nat),(∀j q,iE P t j=some q->b j=some q)->kO fi y w b Loc.res l (z.map (gJ a))
 |[],[],l,M,s,e,F,_,h,_=>by simp[iX] at h;obtain⟨rfl,rfl⟩:=h;exact⟨M,F,Kp.refl M w,λ_ _ _ h=>h,λ_ _=>trivial⟩
 |[],_::_,_,_,_,_,_,d,_,_=>by simp[jE] at d
 |(_,_,_)::_,[],_,_,_,_,_,d,_,_=>by simp[jE] at d
 |(c,k,x)::ps,(i,o)::z,l,M,s,e,F,d,h,n=>by
  simp only[jE,aS,cY] at d;simp only[iX,aC,aE,bZ,Prod.exists] at h;obtain⟨v,R,N,H,T,A,rfl,rfl⟩:=h;obtain⟨f,Q,g,C⟩:=EJ F d.1.2 N;have E:=g.rel (j7 λj=> .res (c+j)) R (λt u r=>⟨(g.env t u r).1,(g.env t u r).2.rel _ (λi=>rfl)⟩) (λ_ _=>rfl) (λ_ _=>rfl);have B:=C.rel (mk':=λj=> .res (c+j)) (j7 λj=> .res (c+j)) (λi=>rfl);obtain⟨S,D,L,G,I⟩:=xd (t:=t) E d.2 A (λp O=>n p (by simp[O]))
  refine⟨S,D,((Kp.rel M w f).trans (Kp.rel _ w _)).trans L,λmk p u r=>G mk p u ((r.rel f (λi=>Q _)).rel _ (λi=>rfl)),λb m=>?_⟩;exact⟨m _ _ d.1.1,G (λj=>c+j) _ _ B,n (c,k,v) NX,I b m⟩
def xe (mk:Nat->Loc):Loc->Loc
 | .res i=>mk i
 |l=>l
theorem xf (A:dv P fi M w s a o (.buildT d z ps)) (h:ae cf s (.buildT d z ps)=some s'):Sim P fi o M w s' a:=by
 obtain⟨q,op,Q,B,N,R⟩:=o;obtain⟨G,k,F,l⟩:=A;cases op<;>simp only[mOp,bR] at k;rename_i t parts;simp only[aS] at k;obtain⟨⟨j,D⟩,g⟩:=k;simp only[ae,aC] at h;obtain⟨⟨O,e⟩,f,h⟩:=h;simp only at h;split at h
 ·rename_i n
  simp only[bV] at n;simp only[aE] at h;obtain⟨cs,m,rfl⟩:=h;obtain⟨S,c,C,_,y⟩:=xd (P:=P) G g f n.1;obtain⟨v,L,I⟩:=xc (P:=P) (parts:=parts.map (gJ a)) j D n.2 m Loc.res (λb E=>by simpa using y b E);have p:=c.rel (xe (Loc.env d)) e (λt u r=>⟨(c.env t u r).1,(c.env t u r).2.rel _ (λi=>rfl)⟩) (λ_ _=>rfl) (λ_ _=>rfl);have H:=I.rel (mk':=Loc.env d) (xe (Loc.env d)) (λi=>rfl);refine⟨.value v,v,_,w,?_,.inl rfl,by rw[show q=some d from F];exact Inv.put (s:=⟨e,s.lh,s.gh⟩) p (l d rfl) H,C.trans (Kp.rel _ w _)⟩
  have e:(parts.map λ(x:Nat×Operand)=>match x with|(i,x)=>(i,a.eval x))=parts.map (gJ a):=rfl;simp only[execOp,e,Sem.run_bind,L];rfl
 ·cases h
theorem EK {z:Nat} {els:List IX} (A:dv P fi M w s a o (.buildSl d z els)) (h:ae cf s (.buildSl d z els)=some s'):Sim P fi o M w s' a:=by
 obtain⟨S,op,ty,ad,ao,gd⟩:=o;obtain⟨hI,O,hd,Q⟩:=A;cases op<;>simp only[mOp,bR] at O;rename_i t len b;simp only[aS,cY,aH] at O;obtain⟨⟨⟨⟨⟨⟨C,al⟩,X⟩,an⟩,j⟩,N⟩,l⟩:=O;obtain⟨e,I,v⟩:=qC C;rw[I] at l;simp only[Option.isSome_iff_exists,aC] at l;obtain⟨r,i,hi,G⟩:=l;simp only[ae,aC] at h;obtain⟨n,H,h⟩:=h;split at h
 ·rename_i D
  simp only[bV,aS,cY] at D;cases h;obtain⟨h1,h2⟩:=i8 hI N H;have m:n.length=len:=by rw[<-h1,aW,<-aW (f:=Prod.fst) (as:=b.toList),j,List.length_range']
  generalize c:((Array.range (len*z)).map ((if len*z=0 then #[] else r.cells)[· %(if len*z=0 then (#[]:Array Value) else r.cells).size]!)).toList=rest;have L:rest.length=n.length*z:=by rw[<-c];simp[m]
  obtain⟨E,f1,f2,f3⟩:=wQ (fi:=fi) (M:=M) (w:=w) (z:=z) n 0 (b.toList.map (gJ a)) [] rest NX L D (by
   rw[List.map_map,m,<-j];rfl) (λi p y U T=>by
   simp only[aB,aE] at T;obtain⟨q,hq,rfl⟩:=T;have:=h2 i p q.2 U (by simp[hq]);exact this.repP (by simpa [az] using (D p (aL U)).1))
  simp only[bF] at f1;obtain⟨M1,R,k1⟩:=hI.newOwn (Q d rfl) (λe C=>(D e C).2) (λe C=>(D e C).1) E [] f2 f3 n.length (cU _) (by simp[f2]) e E.toArray NX;refine⟨_,.slice (some ⟨w.heap.size,0,none⟩) n.length n.length,M1,_,?_,.inl rfl,by rw[show S=some d from hd];exact R,k1⟩;have e1:(b.map λ(x:Nat×Operand)=>match x with|(i,x)=>(i,a.eval x))=b.map (gJ a):=rfl;have k:¬(len*z>2^24):=NW
  have g:Instr.fill (λi=>some (i*z,z)) ((Array.range (len*z)).map ((if len*z=0 then #[] else r.cells)[· %(if len*z=0 then (#[]:Array Value) else r.cells).size]!)) (b.map (gJ a)).toList=some E.toArray:=by rw[<-f1,<-c,Array.toArray_toList];congr 1;simp
  have B:(Instr.buildSlice t len (b.map (gJ a))).run P w= .ok (.slice (some ⟨w.heap.size,0,none⟩) len len) (w.alloc (.cells E.toArray e)):=by
   have u:(zeroValue e).run P w= .ok r w:=by simp[zeroValue,typeInfo,hi,G]
   by_cases F:len*z=0
   ·simp only[if_pos F] at g
    simp only[Instr.buildSlice,Sem.run_bind,run_underlying I,run_sizeOf' v,Result.andThen_ok,if_neg k,if_pos F,Sem.run_pure,g];simp[newRow]
   ·simp only[if_neg F] at g
    simp only[Instr.buildSlice,Sem.run_bind,run_underlying I,run_sizeOf' v,Result.andThen_ok,if_neg k,if_neg F,u,Sem.run_pure,g];simp[newRow]
  simp only[execOp,e1,Sem.run_bind,B,m];rfl
 ·cases h
end
end
section
open Go.RowKit
variable {p:PV} {u:Value} {o:Oper} {sx x:IX}
section
variable {fi:FI} {M M' M2:Mem} {w w' W:World} {P:Program} {s s':St} {a:Act} {cf:CallF} {xl:Loc->Prop} {xb:Nat->Prop}
def jc (M:Mem) (b:Nat) (t:Nat×Nat×Nat):Nat->Nat×Nat×Nat:=λi=>if i=b then t else M.st i
theorem Good.stk (g:Good M w M2 W xl xb) (f:M2.st=M.st) (b:Nat) (t:Nat×Nat×Nat) (a:b<M.gb.length->(M.st b).1<t.1) :
  Good M w {M2 with st:=jc M b t } W (λl=>xl l\/l=Loc.gh b 0) xb where
 ext:=⟨g.ext.gb,g.ext.imm,g.ext.cell,λi c=>by
  by_cases h:i=b
  ·subst h
   simp only[jc,if_true];have:=a c;exact⟨NW,λe=>NW⟩
  ·have e:jc M b t i=M.st i:=if_neg h
   show (M.st i).1<=(jc M b t i).1/\((jc M b t i).1=(M.st i).1->jc M b t i=M.st i)
   rw[e];exact⟨cU _,λ_=>rfl⟩⟩
 size:=g.size
 lb:=g.lb
 own:=λb l h j=>g.own b l h (λd=>j (.inl d))
 box:=g.box
 st:=λi c=>by
  have:i≠b:=λe=>c (.inr (by rw[e]))
  simp only[jc,if_neg this]
theorem Kp.stk {a:Loc->Prop} {b:Nat->Prop} {f:Nat->Nat×Nat×Nat} (k:Kp M w M2 W) (g:Good M w {M2 with st:=f } W a b):Kp M w {M2 with st:=f } W:=
 ⟨k.os,k.tape,k.output,k.size,g.ext,k.block,k.lbn,k.gbn,k.ownn,k.immn,k.ds⟩
theorem sK (h:RepP fi M w p u) (a:co p=true):u.oneCell'=true:=by cases h<;>first|rfl|(simp[co] at a)
theorem xh (hI:Inv fi M w s a) {L:PV} {p:Ok} {v:Value} (H:RepE fi M w L v) (O:∀z k,L≠ .sl true z k) (i:gH s.gh L=some p) (hf:p.all co=true) :
  ∃(A:Option Addr) (c b o:Nat) (x:Ou),v= .slice A p.length c/\p.length<=c/\x.length=p.length/\(p=[]\/A=some ⟨b,o,none⟩)/\
   (∀(j:Nat) (u:Value),x[j]?=some u->w.cell? ⟨b,o+j,none⟩=some u/\u.oneCell'=true)/\
   (∀(j:Nat) (y:PV),p[j]?=some y->∃u,x[j]?=some u/\RepP fi M w y u):=by
 unfold gH at i;split at i
 ·rename_i ow an
  cases i;cases ow with
  |true=>exact absurd rfl (O 1 p)
  |false=>
   obtain⟨A,c,b,o,x,rfl,h1,t,h3,h4,I,F,X⟩:=sF (z:=1) NW (show RepP fi M w (NZ p) v from H);rw[Nat.mul_one] at t;refine⟨A,c,b,o,x,rfl,h1,t,h3,λj u e=>(F j u e).2,λj y f=>?_⟩;have P:=bV.1 hf y (aL f);have D:y.cells[0]?=some y:=by cases y<;>first|rfl|(simp[co] at P)
   obtain⟨u,e,hr⟩:=X j y 0 y f D;exact⟨u,by simpa using e,hr⟩
 ·rename_i b ad n
  split at i
  ·rename_i g k q
   split at i
   ·rename_i D
    obtain⟨rfl,hn⟩:=D;cases i;cases (show RepP fi M w (.stk b g n) v from H) with
    | stk _ _ _ al c R hg U r=>
     obtain⟨h1,t,h3,h4,I,cs,T,F,X,h8,E⟩:RepStk fi M w b M.gb[b] g k:=hI.gh b _ _ q (aA R);obtain⟨rfl,Q⟩:=U t.symm;have B:(k.take n).length=n:=by simp;omega
     refine⟨some ⟨(M.st b).2.1,0,none⟩,c,(M.st b).2.1,0,cs.toList.take n,by rw[B],by rw[B];exact r,by simp;omega,.inr rfl,λj u e=>?_,λj y f=>?_⟩
     ·rw[cK] at e
      split at e
      ·rename_i C
       rw[cV,cell_of_row w (M.st b).2.1 j cs T (0,0) F];have l:cs[j]?=some u:=by simpa using e
       refine⟨l,?_⟩;have m:j<k.length:=NW;obtain⟨u2,G,N⟩:=E j k[j] (aA m);rw[l] at G;cases G;exact sK N (I _ (cD m))
      ·cases e
     ·rw[cK] at f
      split at f
      ·rename_i C
       obtain⟨u,e,hr⟩:=E j y f;exact⟨u,by rw[cK,if_pos C];simpa using e,hr⟩
      ·cases f
   ·cases i
  ·cases i
 ·rename_i b ad d n
  split at i
  ·rename_i g k q
   split at i
   ·rename_i D
    obtain⟨rfl,hn⟩:=D;cases i;cases (show RepP fi M w (.sub b g d n) v from H) with
    | sub _ _ _ _ al c A R hg U r S=>
     obtain⟨h1,t,h3,h4,I,cs,T,F,X,h8,E⟩:RepStk fi M w b M.gb[b] g k:=hI.gh b _ _ q (aA R);obtain⟨rfl,Q⟩:=U t.symm;have B:((k.drop d).take n).length=n:=by simp;omega
     refine⟨A,c,(M.st b).2.1,d,(cs.toList.drop d).take n,by rw[B],by rw[B];exact r,by simp;omega,?_,λj u e=>?_,λj y f=>?_⟩
     ·rcases S with h|h
      ·left;subst h;simp
      ·exact .inr h
     ·rw[cK] at e
      split at e
      ·rename_i C
       rw[List.getElem?_drop] at e;rw[cell_of_row w (M.st b).2.1 (d+j) cs T (0,0) F];have l:cs[d+j]?=some u:=by simpa using e
       refine⟨l,?_⟩;have m:d+j<k.length:=NW;obtain⟨u2,G,N⟩:=E (d+j) k[d+j] (aA m);rw[l] at G;cases G;exact sK N (I _ (cD m))
      ·cases e
     ·rw[cK] at f
      split at f
      ·rename_i C
       rw[List.getElem?_drop] at f;obtain⟨u,e,hr⟩:=E (d+j) y f;exact⟨u,by rw[cK,if_pos C,List.getElem?_drop];simpa using e,hr⟩
      ·cases f
   ·cases i
  ·cases i
 ·cases i
  cases (show RepP fi M w .nils v from H) with
  |nils=>exact⟨none,0,0,0,[],rfl,cU _,rfl,.inl rfl,λj u e=>by simp at e,λj y f=>by simp at f⟩
 ·cases i
theorem Inv.newStk (e:Inv fi M w s a) {d:Nat} (hd:d<a.tmps.size) {z:Ok} (hf:∀x∈z,co x=true) (v rest:Ou) (ad:v.length=z.length)
  (F:∀(j:Nat) (x:PV),z[j]?=some x->∃u,v[j]?=some u/\RepP fi M w x u) (c:Nat) (hc:z.length<=c) (I:c<=v.length+rest.length) (T:TypeId) (O:Array Value) (hO:O=(v++rest).toArray) :
  ∃M',Inv fi M' (w.alloc (.cells O T)) ((⟨s.env,s.lh,s.gh++[.stk 0 z]⟩:St).put d (.stk s.gh.length 0 z.length)) (a.put (some d) (.slice (some ⟨w.heap.size,0,none⟩) z.length c))/\Kp M w M' (w.alloc (.cells O T)):=by
 subst hO;have Q:∀k,¬M.imm w.heap.size k:=λk H=>absurd (e.immlt _ k H) NW
 have P:w.heap.size∉M.lb++M.gb:=by
  rw[cE];rintro (H|H)
  ·exact absurd (j8 e _ H) NW
  ·exact absurd (e.gblt _ H) NW
 let M2:Mem:={M with gb:=M.gb++[w.heap.size],own:=λb=>if b=w.heap.size then some (Loc.gh s.gh.length 0) else M.own b }
 obtain⟨g2,X⟩:=Good.alloc e (.cells (v++rest).toArray T) M2 [] [w.heap.size] (by simp[M2]) rfl NX NX (λ_=>False) (by simp[M2]) (λb n=>by simp[M2,n]);generalize U:w.alloc (.cells (v++rest).toArray T)=W at *;have D:=g2.stk rfl s.gh.length (0,w.heap.size,v.length+rest.length) (λh=>by rw[e.gbl] at h;omega);have N:=X.stk D;generalize m:({M2 with st:=jc M s.gh.length (0,w.heap.size,v.length+rest.length) }:Mem)=C at *;have q:C.lb=M.lb:=by rw[<-m]
 have g:C.gb=M.gb++[w.heap.size]:=by rw[<-m]
 have f:C.st s.gh.length=(0,w.heap.size,v.length+rest.length):=by rw[<-m];simp[jc]
 have p:C.own w.heap.size=some (Loc.gh s.gh.length 0):=by rw[<-m];simp[M2]
 have r:C.imm=M.imm:=by rw[<-m]
 have al:W.heap.size=w.heap.size+1:=by rw[<-U,size_alloc']
 have S:Inv fi C W ⟨s.env,s.lh,s.gh++[.stk 0 z]⟩ a:=by
  refine⟨λt u E=>⟨(e.env t u E).1,(e.env t u E).2.good D NX⟩,by rw[<-m];exact e.defers,by rw[q];exact e.lbl,by rw[g];simp[e.gbl],?_,λi cs B A y=>?_,λi o B A y=>?_,D.ext.gl e.gl,λb k n=>?_,λb l n=>?_,λb n=>?_⟩
  ·rw[q,g,<-aT];exact lF e.nodup P
  ·rw[q] at y;exact (e.lh i cs B A y).good D NX NX
  ·rw[g] at y
   by_cases G:i<s.gh.length
   ·rw[aI G] at A
    rw[aI (by rw[e.gbl];exact G)] at y;exact (e.gh i o B A y).good D NX (λj h=>by
     rcases h with h|h
     ·exact h
     ·injection h with h3 h4;omega)
   ·have R:=(aD.1 A).1
    simp at R;obtain rfl:i=s.gh.length:=NW;simp at A;subst A;rw[aN (by rw[e.gbl];exact cU _),e.gbl] at y;simp at y;subst y;refine⟨p,by rw[f],by rw[f];exact p,by rw[f,r];exact Q,hf,(v++rest).toArray,T,by rw[f,<-U];exact heap_alloc_new w _,by rw[f];simp,by simp;omega,λj x hj=>?_⟩;obtain⟨u,E,hr⟩:=F j x hj;refine⟨u,?_,hr.mono D.ext⟩;simp only[List.getElem?_toArray];rw[aI (aD.1 E).1];exact E
  ·rw[r] at n;exact aO (e.immlt b k n) N.size
  ·by_cases L:b=w.heap.size
   ·subst L;omega
   ·have:M.own b=some l:=by rw[<-m] at n;simpa [M2,L] using n
    exact aO (e.ownlt b l this) N.size
  ·rw[g,cE,List.mem_singleton] at n
   rcases n with n|rfl
   ·exact aO (e.gblt b n) N.size
   ·omega
 refine⟨C,S.put hd (RepP.repE (.stk _ _ _ _ c ?_ (Nat.zero_le _) (λ_=>?_) hc)).repAt,N⟩
 ·rw[g];simp[e.gbl]
 ·rw[f];exact⟨rfl,I⟩
theorem Inv.setStk (p:Inv fi M w s a) {b y:Nat} {ys I:Ok} (Q:s.gh[b]?=some (.stk y ys)) (hg:Good M w M2 W xl xb) (ad:M2.st=M.st) (ap:M2.lb=M.lb) (av:M2.gb=M.gb) (C:∀l,xl l->l=Loc.gh b 0) (L:∀k,¬xb k)
  {blk cap:Nat} (hk:Kp M w M2 W) (ho:∀k,M.own k=some (Loc.gh b 0)->M2.own k=some (Loc.gh b 0)) (N:M2.own blk=some (Loc.gh b 0)) (D:∀k l,M2.own k=some l->k<W.heap.size) (P:∀k,¬M2.imm blk k) (E:∀k j,M2.imm k j->k<W.heap.size)
  (hf:∀x∈I,co x=true) {cs:Array Value} {T:TypeId} (hh:W.heap[blk]?=some (.cells cs T (0,0))) (aB:cs.size=cap) (O:I.length<=cs.size)
  (hr:∀(j:Nat) (x:PV),I[j]?=some x->∃u,cs[j]?=some u/\∀(M':Mem) (w':World),RepP fi M' w' x u) {d n c:Nat} (hd:d<a.tmps.size) (ao:n<=c) (aC:c<=cap) (ax:M2.ds=M.ds:=by rfl) :
  ∃M',Inv fi M' W ((⟨s.env,s.lh,s.gh.set b (.stk (y+1) I)⟩:St).put d (.stk b (y+1) n)) (a.put (some d) (.slice (some ⟨blk,0,none⟩) n c))/\Kp M w M' W:=by
 have R:b<s.gh.length:=(aD.1 Q).1;have G:b<M.gb.length:=by rw[p.gbl];exact R
 obtain⟨o1,o2,_⟩:RepStk fi M w b M.gb[b] y ys:=p.gh b _ _ Q (aA G);have S:=hg.stk ad b (y+1,blk,cap) (λ_=>by rw[o2];exact Nat.lt_succ_self _);have k1:=hk.stk S;generalize m:({M2 with st:=jc M b (y+1,blk,cap) }:Mem)=H at *;have q:H.lb=M.lb:=by rw[<-m];exact ap
 have f:H.gb=M.gb:=by rw[<-m];exact av
 have e:H.st b=(y+1,blk,cap):=by rw[<-m];simp[jc]
 have g:H.own=M2.own:=by rw[<-m]
 have r:H.imm=M2.imm:=by rw[<-m]
 have X:∀i j,i≠b->¬(xl (Loc.gh i j)\/Loc.gh i j=Loc.gh b 0):=λi j an h=>by have:Loc.gh i j=Loc.gh b 0:=h.elim (C _) id;injection this with v A;exact an v
 have aE:Inv fi H W ⟨s.env,s.lh,s.gh.set b (.stk (y+1) I)⟩ a:=by
  refine⟨λt u U=>⟨(p.env t u U).1,(p.env t u U).2.good S (λi h=>?_)⟩,by rw[<-m];exact p.defers.trans ax.symm,by rw[q];exact p.lbl,by rw[f];simp[p.gbl],by rw[q,f];exact p.nodup,λi cs blk v A=>?_,λi o B v A=>?_,S.ext.gl p.gl,λk j z=>?_,λk l z=>?_,λk z=>?_⟩
  ·have:Loc.env t i=Loc.gh b 0:=h.elim (C _) id
   cases this
  ·rw[q] at A
   refine (p.lh i cs blk v A).good S (L _) (λj h=>?_);have:Loc.lh i j=Loc.gh b 0:=h.elim (C _) id;cases this
  ·rw[f] at A
   simp only at v;rw[cL] at v;by_cases F:b=i
   ·subst F
    rw[if_pos rfl,if_pos R] at v;cases v;have eb:M.gb[b]=B:=by rw[aA G] at A;exact cX A
    rw[eb] at o1;refine⟨by rw[g];exact ho _ o1,by rw[e],by rw[e,g];exact N,by rw[e,r];exact P,hf,cs,T,by rw[e];exact hh,by rw[e];exact aB,O,λj x hj=>?_⟩;obtain⟨u,U,al⟩:=hr j x hj;exact⟨u,U,al _ _⟩
   ·rw[if_neg F] at v
    exact (p.gh i o B v A).good S (L _) (λj=>X i j (Ne.symm F))
  ·rw[r] at z;exact E k j z
  ·rw[g] at z;exact D k l z
  ·rw[f] at z;exact aO (p.gblt k z) k1.size
 refine⟨H,aE.put hd (RepP.repE (.stk b (y+1) n blk c ?_ ?_ (λ_=>?_) ao)).repAt,k1⟩
 ·rw[f];exact G
 ·rw[e];exact cU _
 ·rw[e];exact⟨rfl,aC⟩
theorem kP (h:RepP fi M w p u) (a:co p=true):∀(M':Mem) (w':World),RepP fi M' w' p u:=by intro M' w';cases h<;>first|exact .int _ _|exact .bool _|(simp[co] at a)
theorem Good.refl (M:Mem) (w:World):Good M w M w (λ_=>False) (λ_=>False):=
 ⟨Ext.refl M w,cU _,λ_ _ h=>h,λ_ _ h _=>⟨h,rfl,λ_ h=>h,id,id⟩,λ_ _ _ h=>⟨rfl,λ_ h=>h,h⟩,λ_ _=>rfl⟩
theorem xi (U:Inv fi M w s a) {t ty e:TypeId} {i:TypeInfo} {zv:Value} {C:Nat} (ht:P.underlying t=some (.slice e)) (hi:P.info? e=some i) (aM:i.zero=some zv)
  (B:i.size=1) (aW:i.bytes=C) (aO:zv.cells.size=1) (aY:0<C) {b N n:Nat} {R g:Ok} {xv:PV} {v x:Value} (hv:RepP fi M w (.stk b N n) v) (S:s.gh[b]?=some (.stk N R)) (hn:n<=R.length)
  (hx:RepE fi M w xv x) (aS:∀z R,xv≠ .sl true z R) (he:gH s.gh xv=some g) (hf:g.all co=true) (bg:fO b xv=true) (aX:(n+g.length)*C<=maxBytes) {d:Nat} (hd:d<a.tmps.size) :
  ∃r M' w',(Builtin.append_ #[t,t] ty #[v,x]).run P w= .ok r w'/\
   Inv fi M' w' ((⟨s.env,s.lh,s.gh.set b (.stk (N+1) (R.take n++g))⟩:St).put d (.stk b (N+1) (n+g.length))) (a.put (some d) r)/\Kp M w M' w':=by
 subst aW;obtain⟨A2,c2,b2,o2,f,rfl,be,D,ba,ax,aC⟩:=xh U hx aS he hf;cases hv with
 |stk _ _ _ blk c hb hg hA aG=>
 obtain⟨h1,h2,h3,h4,h5,cs,T,h6,h7,h8,h9⟩:RepStk fi M w b M.gb[b] N R:=U.gh b _ _ S (aA hb);obtain⟨rfl,aH⟩:=hA h2.symm;have ap:∀x∈R.take n++g,co x=true:=λx hx=>by
  rcases cE.1 hx with h|h
  ·exact h5 x (cO h)
  ·exact bV.1 hf x h
 have A:(R.take n).length=n:=by simp;omega
 have L:(R.take n++g).length=n+g.length:=by rw[aQ,A]
 by_cases hy:g=[]
 ·subst hy
  have p:=wG (P:=P) (ty:=ty) ht hi (some ⟨(M.st b).2.1,0,none⟩) A2 n c c2 aG w;obtain⟨M',r1,r2⟩:=U.setStk S (Good.refl M w) rfl rfl rfl (λ_ h=>h.elim) (λ_ h=>h) (Kp.refl M w) (λ_ h=>h) h3 (λk l h=>U.ownlt k l h) h4 (λk j h=>U.immlt k j h) ap h6 h7 (by rw[L,h7];simp only[cF];omega) (λj x o=>by
   rw[bE,cK] at o;split at o
   ·obtain⟨u,q,hr⟩:=h9 j x o
    exact⟨u,q,kP hr (h5 x (aL o))⟩
   ·cases o) hd (n:=n) aG aH
  exact⟨_,M',w,p,r1,r2⟩
 have aK:=ba.resolve_left hy;subst aK;have bd:0<g.length:=List.length_pos_iff.2 hy;have ao:(n+g.length)*i.bytes<=140737488355328:=aX;have bb:((n+g.length:Nat):Int)<=9223372036854775807:=by have:(n+g.length)*1<=(n+g.length)*i.bytes:=Nat.mul_le_mul_left _ aY;omega
 have H:∀(j:Nat) (u:Value),f[j]?=some u->w.cell? ((⟨b2,o2,none⟩:Addr).add j)=some u:=λj u q=>by rw[gi];exact (ax j u q).1
 have av:∀j,w.cell? ⟨(M.st b).2.1,j,none⟩=cs[j]?:=λj=>cell_of_row w _ j cs T (0,0) h6
 by_cases F:n+g.length<=c
 ·have p:=wH (P:=P) (ty:=ty) ht hi (M.st b).2.1 0 n c cs h6 ⟨b2,o2,none⟩ g.length c2 f (by rw[B,Nat.mul_one];exact D) H (λu q=>by
    obtain⟨j,o,hx⟩:=cN.1 q;exact (ax j u (by rw[aA o,hx])).2) F (by rw[B,D,h7];omega)
  rw[B,Nat.mul_one,cV] at p;generalize ad:(cs.toList.take n++f++cs.toList.drop (n+f.length))=Q at p;have X:n+f.length<=cs.toList.length:=by simp;omega
  have aF:∀k,Q[k]?=if k<n then cs[k]? else if k<n+f.length then f[k-n]? else cs[k]?:=λk=>by rw[<-ad,ja _ _ _ _ X];simp
  have I:Q.length=cs.size:=by rw[<-ad,kM _ _ _ X];simp
  have g1:Good M w M (w.setRow (M.st b).2.1 Q.toArray) (λl=>l=Loc.gh b 0) (λ_=>False):=
   Good.setRow (M:=M) (M':=M) h6 rfl rfl (λ_=>False) NX (λk hk=>absurd hk (h4 k)) (λ_ _=>rfl) _ _ (λl h=>by rw[h3] at h;cases h;rfl) (λh=>by rw[h3] at h;cases h)
  have k1:Kp M w M (w.setRow (M.st b).2.1 Q.toArray):=Kp.setRow g1 rfl rfl (λ_=>False) NX (λ_ _=>rfl) (.inr (.inr (by rw[h3];simp))) id (λ⟨_,h⟩=>h.elim)
  obtain⟨M',r1,r2⟩:=U.setStk (d:=d) (n:=n+g.length) (c:=c) S g1 rfl rfl rfl (λ_ h=>h) (λ_ h=>h) k1 (λ_ h=>h) h3 (λk l h=>by rw[size_setRow'];exact U.ownlt k l h) h4 (λk j h=>by rw[size_setRow'];exact U.immlt k j h) ap
   (setRow_heap w (M.st b).2.1 _ Q.toArray T (0,0) h6) (cap:=(M.st b).2.2) (by simp[I,h7]) (by rw[L];simp[I,h7];omega) (λj x o=>by
    simp only[List.getElem?_toArray];rw[aF];by_cases y:j<n
    ·rw[aI (by rw[A];exact y),cK,if_pos y] at o
     rw[if_pos y];obtain⟨u,q,hr⟩:=h9 j x o;exact⟨u,q,kP hr (h5 x (aL o))⟩
    ·rw[aN (by rw[A];omega),A] at o
     have aE:=(aD.1 o).1;rw[if_neg y,if_pos NW];obtain⟨u,q,hr⟩:=aC _ x o;exact⟨u,q,kP hr (bV.1 hf x (aL o))⟩) hd F aH
  exact⟨_,M',_,p,r1,r2⟩
 ·have aR:(cs.toList.take n).length=n*i.size:=by rw[B];simp;omega
  have an:∀(j:Nat) (u:Value),(cs.toList.take n)[j]?=some u->w.cell? ((⟨(M.st b).2.1,0,none⟩:Addr).add j)=some u:=λj u q=>by
   rw[gi,cV,av];rw[cK] at q;split at q
   ·simpa using q
   ·cases q
  have p:=run_append_grow (P:=P) w t ty e i zv ht hi aM ⟨(M.st b).2.1,0,none⟩ n c (cs.toList.take n) aR an ⟨b2,o2,none⟩ g.length c2 f (by rw[B,Nat.mul_one];exact D) H NW bb (growslice_fits NW ao);have aV:=grownCap_ge w (n+g.length) c e;generalize grownCap w (n+g.length) c e=gc at *;have aZ:∀(l:Ou) (x:Array Value),l.toArray++x=(l++x.toList).toArray:=λl x=>by apply Array.ext';simp
  have aP:∀m,(Builtin.zeroCells zv.cells m).toList.length=m*i.size:=λm=>by rw[Array.length_toList,size_zeroCells,aO,B]
  obtain⟨E,k1⟩:=U.drew;generalize G:(Builtin.zeroCells zv.cells (gc-(n+g.length))).toList=rest at *;have aT:rest.length=gc-(n+g.length):=by rw[<-G,aP,B,Nat.mul_one]
  have aB:(cs.toList.take n).length=n:=by simp;omega
  let M2:Mem:={M with own:=λk=>if k=w.drew.heap.size then some (Loc.gh b 0) else M.own k }
  have aJ:((cs.toList.take n++f)++rest).toArray.size=gc:=by simp[D,aT];omega
  have al:(Builtin.append_ #[t,t] ty #[.slice (some ⟨(M.st b).2.1,0,none⟩) n c,.slice (some ⟨b2,o2,none⟩) g.length c2]).run P w=
    .ok (.slice (some ⟨w.drew.heap.size,0,none⟩) (n+g.length) gc) (w.drew.alloc (.cells ((cs.toList.take n++f)++rest).toArray e)):=by
   rw[p];have e1:(cs.toList.take n++f).toArray++Builtin.zeroCells zv.cells (gc-(n+g.length))=((cs.toList.take n++f)++rest).toArray:=by rw[<-G,aZ]
   rw[<-e1];simp
  generalize hO:((cs.toList.take n++f)++rest).toArray=O at *;obtain⟨g2,k2⟩:=Good.alloc E (.cells O e) M2 [] [] (by simp[M2]) (by simp[M2]) NX NX (λ_=>False) (by simp[M2]) (λk hk=>if_neg hk);have bc:(w.drew.alloc (.cells O e)).heap.size=w.drew.heap.size+1:=size_alloc' _ _;have aU:∀k,¬M.imm w.drew.heap.size k:=λk hk=>absurd (E.immlt _ k hk) NW
  obtain⟨M',r1,r2⟩:=E.setStk (d:=d) (n:=n+g.length) (c:=gc) (blk:=w.drew.heap.size) (cap:=gc) S g2 rfl rfl rfl (λ_ h=>h.elim) (λ_ h=>h) k2 (λk h=>by
    have:=E.ownlt k _ h;simp only[M2];rw[if_neg NW];exact h) (by simp[M2]) (λk l h=>by
    simp only[M2] at h;split at h
    ·rename_i hk;omega
    ·have:=E.ownlt k l h;omega) aU (λk j h=>by have:=E.immlt k j h;omega) ap (heap_alloc_new w.drew _) aJ (by rw[L,aJ];omega) (λj x o=>by
    rw[<-hO];simp only[List.getElem?_toArray];by_cases y:j<n
    ·rw[aI (by rw[A];exact y),cK,if_pos y] at o
     have aE:=(aD.1 o).1;obtain⟨u,q,hr⟩:=h9 j x o;refine⟨u,?_,kP hr (h5 x (aL o))⟩;rw[aI (by simp;omega),aI NW,cK,if_pos y];simpa using q
    ·rw[aN (by rw[A];omega),A] at o
     have aE:=(aD.1 o).1;obtain⟨u,q,hr⟩:=aC _ x o;refine⟨u,?_,kP hr (bV.1 hf x (aL o))⟩;rw[aI (by rw[aQ];omega),aN NW,aB];exact q) hd aV (cU _)
  exact⟨_,M',_,al,r1,k1.trans r2⟩
theorem EM {d m:Nat} (R:Inv fi M w s a) (j:mOp P fi (.append d 1 m sx x) o.op=true) (hd:o.dst=some d) (G:d<a.tmps.size) (h:ae cf s (.appendK d m sx x)=some s'):Sim P fi o M w s' a:=by
 obtain⟨S,op,ty,ad,an,gd⟩:=o;cases op with
 | call c=>
  obtain⟨callee,p,l⟩:=c;cases callee with
  | builtin b=>
   cases b<;>simp[mOp] at j;split at j
   ·rename_i y T t t' ha ht
    simp only[aS,cY,aH] at j;obtain⟨⟨⟨⟨hs,hx⟩,rfl⟩,N⟩,j⟩:=j;have Q:p= #[y,T]:=by apply Array.ext';simpa using ha
    have C:l= #[t,t]:=by apply Array.ext';simpa using ht
    subst Q;subst C;split at j<;>try (cases j;done)
    rename_i e hu;split at j<;>try (cases j;done)
    rename_i i hi;simp only[aS,cY] at j;obtain⟨⟨D,I⟩,j⟩:=j;split at j<;>try (cases j;done)
    rename_i zv v;simp at j;simp only[ae,aC] at h;obtain⟨U,k,ys,A,h⟩:=h;have B:=bt R hx k;have F:∀z u,U≠ .sl true z u:=λz u e=>by
     subst e;cases x with
     |t n=>simp only[ai,aE] at k;obtain⟨q,_,hq⟩:=k;cases q<;>simp[degr] at hq
     |c q=>simp only[ai,bW] at k;cases q<;>simp[degr] at k
     |f id=>simp[ai] at k
    split at h
    ·rename_i b al n E
     split at h
     ·rename_i g u H
      split at h
      ·rename_i hc
       obtain⟨rfl,hn,L,O,hf⟩:=hc;cases h;obtain⟨r,M2,X,h1,h2,k2⟩:=xi (P:=P) (ty:=ty) R hu hi v D I j N (bt R hs E) H hn B F A hf O L G;refine⟨.value r,r,M2,X,?_,.inl rfl,by rw[show S=some d from hd];exact h2,k2⟩;simp[execOp,resolve,j9,builtin,h1]
      ·cases h
     ·cases h
    ·cases h
   ·cases j
  |_=>simp[mOp] at j
 |_=>simp[mOp] at j
theorem EN (hI:Inv fi M w s a) {t ty e:TypeId} {i:TypeInfo} {n:Value} {c:Nat} (ht:P.underlying t=some (.slice e)) (hi:P.info? e=some i) (y:i.zero=some n)
  (h:i.size=1) (N:i.bytes=c) (A:n.cells.size=1) (Q:0<c) {b:Ok} {q:PV} {v x:Value} (hv:RepE fi M w .nils v)
  (C:RepE fi M w q x) (F:∀z xs,q≠ .sl true z xs) (he:gH s.gh q=some b) (hf:b.all co=true) (hy:b≠[]) (O:b.length*c<=maxBytes) {d:Nat} (hd:d<a.tmps.size) :
  ∃r M' w',(Builtin.append_ #[t,t] ty #[v,x]).run P w= .ok r w'/\
   Inv fi M' w' ((⟨s.env,s.lh,s.gh++[.stk 0 b]⟩:St).put d (.stk s.gh.length 0 b.length)) (a.put (some d) r)/\Kp M w M' w':=by
 subst N;obtain⟨A2,c2,b2,X,g,rfl,ad,f,U,D,G⟩:=xh hI C F he hf;cases (show RepP fi M w .nils v from hv) with
 |nils=>
 have p:=U.resolve_left hy;subst p;have I:0<b.length:=List.length_pos_iff.2 hy;have H:b.length*i.bytes<=140737488355328:=O;have al:((b.length:Nat):Int)<=9223372036854775807:=by have:b.length*1<=b.length*i.bytes:=Nat.mul_le_mul_left _ Q;omega
 have k:∀(j:Nat) (u:Value),g[j]?=some u->w.cell? ((⟨b2,X,none⟩:Addr).add j)=some u:=λj u E=>by rw[gi];exact (D j u E).1
 have o:=run_append_nil (P:=P) w t ty e i n ht hi y ⟨b2,X,none⟩ b.length c2 g (by rw[h,Nat.mul_one];exact f) k I NW NW;have L:=grownCap_ge w b.length 0 e;obtain⟨T,k1⟩:=hI.drew;have R:∀(l:Ou) (x:Array Value),l.toArray++x=(l++x.toList).toArray:=λl x=>by apply Array.ext';simp
 have B:∀m,(Builtin.zeroCells n.cells m).toList.length=m*i.size:=λm=>by rw[Array.length_toList,size_zeroCells,A,h]
 obtain⟨M',S,k2⟩:=Inv.newStk T hd (λx C=>bV.1 hf x C) g (Builtin.zeroCells n.cells (grownCap w b.length 0 e-b.length)).toList f
  (λj x hj=>by obtain⟨u,E,hr⟩:=G j x hj;exact⟨u,E,hr.mono k1.ext⟩) (grownCap w b.length 0 e) L (by rw[f,B,h];omega) e _ rfl
 refine⟨_,M',_,?_,S,k1.trans k2⟩;rw[o];simp[R]
theorem xj {d m:Nat} (H:Inv fi M w s a) (j:mOp P fi (.append d 1 m sx x) o.op=true) (hd:o.dst=some d) (E:d<a.tmps.size) (h:ae cf s (.appendN d m sx x)=some s'):Sim P fi o M w s' a:=by
 obtain⟨I,op,ty,al,ao,gd⟩:=o;cases op with
 | call c=>
  obtain⟨callee,L,l⟩:=c;cases callee with
  | builtin b=>
   cases b<;>simp[mOp] at j;split at j
   ·rename_i y y' t t' ha ht
    simp only[aS,cY,aH] at j;obtain⟨⟨⟨⟨hs,hx⟩,rfl⟩,G⟩,j⟩:=j;have ad:L= #[y,y']:=by apply Array.ext';simpa using ha
    have R:l= #[t,t]:=by apply Array.ext';simpa using ht
    subst ad;subst R;split at j<;>try (cases j;done)
    rename_i e hu;split at j<;>try (cases j;done)
    rename_i i hi;simp only[aS,cY] at j;obtain⟨⟨C,F⟩,j⟩:=j;split at j<;>try (cases j;done)
    rename_i zv v;simp at j;simp only[ae,lA,aC] at h;obtain⟨xv,k,ys,A,h⟩:=h;have B:=bt H hx k;have D:∀z N,xv≠ .sl true z N:=λz N e=>by
     subst e;cases x with
     |t n=>simp only[ai,aE] at k;obtain⟨q,_,hq⟩:=k;cases q<;>simp[degr] at hq
     |c q=>simp only[ai,bW] at k;cases q<;>simp[degr] at k
     |f id=>simp[ai] at k
    split at h
    ·rename_i b an n p
     split at h
     ·rename_i g N S
      split at h
      ·rename_i U
       obtain⟨rfl,hn,u,X,T⟩:=U;cases h;obtain⟨r,M2,O,h1,h2,Q⟩:=xi (P:=P) (ty:=ty) H hu hi v C F j G (bt H hs p) S hn B D A T X u E;refine⟨.value r,r,M2,O,?_,.inl rfl,by rw[show I=some d from hd];exact h2,Q⟩;simp[execOp,resolve,j9,builtin,h1]
      ·cases h
     ·cases h
    ·rename_i p
     split at h
     ·rename_i U
      obtain⟨hy,u,T⟩:=U;cases h;obtain⟨r,M2,O,h1,h2,Q⟩:=EN (P:=P) (ty:=ty) H hu hi v C F j G (bt H hs p) B D A T hy u E;refine⟨.value r,r,M2,O,?_,.inl rfl,by rw[show I=some d from hd];exact h2,Q⟩;simp[execOp,resolve,j9,builtin,h1]
     ·cases h
    ·cases h
   ·cases j
  |_=>simp[mOp] at j
 |_=>simp[mOp] at j
theorem EO {d:Nat} {els:List IX} (hI:Inv fi M w s a) (L:mOp P fi (.buildSl d 1 els) o.op=true) (hd:o.dst=some d) (ad:d<a.tmps.size) (h:ae cf s (.buildSlK d els)=some s'):Sim P fi o M w s' a:=by
 obtain⟨z,g⟩:∃z,z=1:=⟨1,rfl⟩
 rw[<-g] at L;obtain⟨an,op,ty,ap,aA,gd⟩:=o;cases op<;>simp only[mOp,bR] at L;rename_i t len b;simp only[aS,cY,aH] at L;obtain⟨⟨⟨⟨⟨⟨he,av⟩,ao⟩,ax⟩,r⟩,X⟩,B⟩:=L;obtain⟨e,T,F⟩:=qC he;rw[T] at B;simp only[Option.isSome_iff_exists,aC] at B;obtain⟨D,i,hi,R⟩:=B;simp only[ae,aC] at h;obtain⟨n,S,h⟩:=h;split at h
 ·rename_i N
  have c:=N;have l:∀v∈n,v.cells=[v]:=λv I=>by have:=bV.1 c v I;cases v<;>first|rfl|(simp[co] at this)
  have N:∀v∈n,az v=true/\v.cells.length=z:=λv I=>by have O:=l v I;have h2:=bV.1 c v I;refine⟨?_,by rw[O,g];rfl⟩;unfold az;rw[O];cases v<;>first|rfl|(simp[co] at h2)
  cases h;obtain⟨O,h2⟩:=i8 hI X S;have C:n.length=len:=by rw[<-O,aW,<-aW (f:=Prod.fst) (as:=b.toList),r,List.length_range']
  generalize k:((Array.range (len*z)).map ((if len*z=0 then #[] else D.cells)[· %(if len*z=0 then (#[]:Array Value) else D.cells).size]!)).toList=rest;have U:rest.length=n.length*z:=by rw[<-k];simp[C]
  obtain⟨H,f1,f2,f3⟩:=wQ (fi:=fi) (M:=M) (w:=w) (z:=z) n 0 (b.toList.map (gJ a)) [] rest NX U N (by
   rw[List.map_map,C,<-r];rfl) (λi p y hp hy=>by
   simp only[aB,aE] at hy;obtain⟨q,hq,rfl⟩:=hy;have:=h2 i p q.2 hp (by simp[hq]);exact this.repP (by simpa [az] using (N p (aL hp)).1))
  simp only[bF] at f1;obtain⟨M1,al,k1⟩:=hI.newStk ad (λx hx=>bV.1 c x hx) H [] (by rw[f2,g,Nat.mul_one]) (λj x hj=>by obtain⟨u,hu,hr⟩:=f3 j x 0 x hj (by rw[l x (aL hj)];rfl);exact⟨u,by rw[g] at hu;simpa using hu,hr⟩) n.length (cU _) (by rw[f2,g];simp) e H.toArray NX
  refine⟨_,.slice (some ⟨w.heap.size,0,none⟩) n.length n.length,M1,_,?_,.inl rfl,by rw[show an=some d from hd];exact al,k1⟩;have e1:(b.map λ(x:Nat×Operand)=>match x with|(i,x)=>(i,a.eval x))=b.map (gJ a):=rfl;have A:¬(len*z>2^24):=NW;have m:Instr.fill (λi=>some (i*z,z)) ((Array.range (len*z)).map ((if len*z=0 then #[] else D.cells)[· %(if len*z=0 then (#[]:Array Value) else D.cells).size]!)) (b.map (gJ a)).toList=some H.toArray:=by rw[<-f1,<-k,Array.toArray_toList];congr 1;simp
  have G:(Instr.buildSlice t len (b.map (gJ a))).run P w= .ok (.slice (some ⟨w.heap.size,0,none⟩) len len) (w.alloc (.cells H.toArray e)):=by
   have E:(zeroValue e).run P w= .ok D w:=by simp[zeroValue,typeInfo,hi,R]
   by_cases Q:len*z=0
   ·simp only[if_pos Q] at m
    simp only[Instr.buildSlice,Sem.run_bind,run_underlying T,run_sizeOf' F,Result.andThen_ok,if_neg A,if_pos Q,Sem.run_pure,m];simp[newRow]
   ·simp only[if_neg Q] at m
    simp only[Instr.buildSlice,Sem.run_bind,run_underlying T,run_sizeOf' F,Result.andThen_ok,if_neg A,if_neg Q,E,Sem.run_pure,m];simp[newRow]
  simp only[execOp,e1,Sem.run_bind,G,C];rfl
 ·cases h
theorem Inv.restk (c:Inv fi M w s a) {b g:Nat} {E zs:Ok} (p:s.gh[b]?=some (.stk g E)) {cs cs2:Array Value} {T:TypeId} (C:w.heap[(M.st b).2.1]?=some (.cells cs T (0,0))) (A:cs2.size=cs.size)
  (n:zs.length<=cs2.size) (Q:∀x∈zs,co x=true) (hr:∀(j:Nat) (x:PV),zs[j]?=some x->∃u,cs2[j]?=some u/\∀(M':Mem) (w':World),RepP fi M' w' x u) :
  Inv fi M (w.setRow (M.st b).2.1 cs2) ⟨s.env,s.lh,s.gh.set b (.stk g zs)⟩ a/\Kp M w M (w.setRow (M.st b).2.1 cs2):=by
 have q:b<s.gh.length:=(aD.1 p).1;have r:b<M.gb.length:=by rw[c.gbl];exact q
 obtain⟨L,I,y,G,o5,S,T0,F,H,X,U⟩:RepStk fi M w b M.gb[b] g E:=c.gh b _ _ p (aA r);rw[C] at F;cases F
 have v:Good M w M (w.setRow (M.st b).2.1 cs2) (λl=>l=Loc.gh b 0) (λ_=>False):=
  Good.setRow (M:=M) (M':=M) C rfl rfl (λ_=>False) NX (λk O=>absurd O (G k)) (λ_ _=>rfl) _ _ (λl h=>by rw[y] at h;cases h;rfl) (λh=>by rw[y] at h;cases h)
 have N:Kp M w M (w.setRow (M.st b).2.1 cs2):=Kp.setRow v rfl rfl (λ_=>False) NX (λ_ _=>rfl) (.inr (.inr (by rw[y];simp))) id (λ⟨_,h⟩=>h.elim)
 refine⟨⟨λt u z=>⟨(c.env t u z).1,(c.env t u z).2.good v (λi h=>by cases h)⟩,c.defers,c.lbl,by simpa using c.gbl,c.nodup,λi cs D d m=>(c.lh i cs D d m).good v id (λj h=>by cases h),λi o e d m=>?_,
  v.ext.gl c.gl,λk j h=>by rw[size_setRow'];exact c.immlt k j h,λk l h=>by rw[size_setRow'];exact c.ownlt k l h,λk h=>by rw[size_setRow'];exact c.gblt k h⟩,N⟩
 simp only at d;rw[cL] at d;by_cases f:b=i
 ·subst f
  rw[if_pos rfl,if_pos q] at d;cases d;have R:M.gb[b]=e:=by rw[aA r] at m;exact cX m
  refine⟨by rw[<-R];exact L,I,y,G,Q,cs2,T,setRow_heap w (M.st b).2.1 _ cs2 T (0,0) C,by rw[A];exact H,n,λj x P=>?_⟩;obtain⟨u,z,B⟩:=hr j x P;exact⟨u,z,B _ _⟩
 ·rw[if_neg f] at d
  exact (c.gh i o e d m).good v id (λj h=>by injection h with d m;exact f d.symm)
theorem EP {y:IX} (L:Inv fi M w s a) (I:mOp P fi (.store false 1 y x) o.op=true) (hd:o.dst=none) (h:ae cf s (.storeK y x)=some s'):Sim P fi o M w s' a:=by
 obtain⟨O,op,ty,ad,ap,gd⟩:=o;cases op<;>simp[mOp] at I;rename_i t X c;simp only[ae] at h;split at h
 ·rename_i b an i v hp hv
  split at h
  ·rename_i g Q E
   split at h
   ·rename_i hc
    obtain⟨rfl,hi,d⟩:=hc;cases h;have B:=bt L I.1.1 hp;have N:=bt L I.1.2 hv;generalize H:a.eval X=u at B;cases (show RepP fi M w (.pstk b g i) u from B) with
    |pstk _ _ _ ao hb al hA=>
    obtain⟨o1,o2,o3,o4,S,cs,T,R,o7,o8,o9⟩:RepStk fi M w b M.gb[b] g Q:=L.gh b _ _ E (aA hb);have G:=hA o2.symm;subst G;have p:RepP fi M w v (a.eval c):=N.repP (by cases v<;>first|rfl|(simp[co] at d));have f:=run_storeCells_at P (M.st b).2.1 i T [a.eval c] 0 cs w R (by simp;omega) (by simpa using sK p d);simp only[cG] at f;generalize n:(cs.toList.take i++[a.eval c]++cs.toList.drop (i+[a.eval c].length)).toArray=l at f;have m:i+[a.eval c].length<=cs.toList.length:=by simp;omega
    have F:∀k,l[k]?=if k<i then cs[k]? else if k<i+1 then [a.eval c][k-i]? else cs[k]?:=λk=>by rw[<-n];simp only[List.getElem?_toArray];rw[ja _ _ _ _ m];simp
    have r:l.size=cs.size:=by rw[<-n];simp only[List.size_toArray];rw[kM _ _ _ m];simp
    obtain⟨r1,r2⟩:=L.restk (zs:=Q.set i v) E R r (by simp;omega) (λz hz=>by
     rcases List.mem_or_eq_of_mem_set hz with h|h
     ·exact S z h
     ·rw[h];exact d) (λj z q=>by
     rw[cL] at q;rw[F];by_cases D:i=j
     ·subst D
      rw[if_pos rfl,if_pos hi] at q;cases q;rw[if_neg NW,if_pos NW];exact⟨_,NX,kP p d⟩
     ·rw[if_neg D] at q
      obtain⟨u,H,hr⟩:=o9 j z q;refine⟨u,?_,kP hr (S z (aL q))⟩;by_cases C:j<i
      ·rw[if_pos C];exact H
      ·rw[if_neg C,if_neg NW];exact H)
    refine⟨_,undef,M,_,?_,.inr ⟨rfl,rfl⟩,by rw[show O=none from hd];exact r1,r2⟩;have e:(a.eval c).cells= #[a.eval c]:=by have:=p;generalize a.eval c=u at this;cases this<;>first|rfl|(simp[co] at d)
    have A:(Instr.storeAt t (.pointer (some ⟨(M.st b).2.1,i,none⟩)) (a.eval c)).run P w= .ok () (w.setRow (M.st b).2.1 l):=by
     have U:(storeCells ⟨(M.st b).2.1,i,none⟩ (a.eval c).cells.toList).run P w= .ok () (w.setRow (M.st b).2.1 l):=by rw[e];exact f
     simp[Instr.storeAt,Instr.sureAddr,storeVar,run_sizeOf' I.2,e,f]
    simp[execOp,H,A]
   ·cases h
  ·cases h
 ·cases h
theorem xk {d:Nat} (f:Inv fi M w s a) (c:mOp P fi (.load d false 1 x) o.op=true) (l:o.dst=some d) (e:d<a.tmps.size) (h:ae cf s (.loadK d x)=some s'):Sim P fi o M w s' a:=by
 obtain⟨q,op,z,g,u,A⟩:=o;cases op<;>simp[mOp] at c;rename_i t y;simp only[ae] at h;split at h
 ·rename_i b p i j
  simp only[aE] at h;obtain⟨v,k,rfl⟩:=h;obtain⟨r,n,m⟩:=Ec (P:=P) f c.1.2 (bt f c.1.1 j) k;exact Sim.pure f l e (by simp[execOp,n]) m.repE.repAt
 ·cases h
end
end
section
open Go.RowKit
section
variable {fi:FI} {M M':Mem} {w w':World} {P:Program} {s s':St} {a:Act} {cf:CallF}
def Mem.noLb (M:Mem):Mem:={M with lb:=[] }
theorem Ext.noLb (M:Mem) (w:World):Ext M w M.noLb w:=⟨λ_ _ h=>h,λ_ _ h=>h,λ_ _ _=>rfl,λ_ _=>⟨cU _,λ_=>rfl⟩⟩
theorem OwnRep.noLb {l:Loc} {z:Nat} {f:Ok} {v:Value} (h:OwnRep fi M w l z f v):OwnRep fi M.noLb w l z f v:=by
  obtain⟨p,d⟩:=h;refine⟨p.mono (Ext.noLb M w),?_⟩;rcases d with d|⟨b,o,c,cs,e,g,j,m,i,k,n,a⟩
  · exact .inl d
  · exact .inr ⟨b,o,c,cs,e,g,j,m,i,k,by simp[Mem.noLb],a⟩
theorem RepC.noLb {l:Loc} {p:PV} {v:Value} (h:RepC fi M w l p v):RepC fi M.noLb w l p v:=by
  unfold RepC at *;split at h
  · exact OwnRep.noLb h
  · exact h.mono (Ext.noLb M w)
theorem RepObj.noLb {i p:Nat} {o:GObj} (h:RepObj fi M w i p o):RepObj fi M.noLb w i p o:=by
  cases o with
  | cells cs=>
    obtain⟨g,f,d,b,B,T,a,n,q⟩:=h;exact⟨g,f,d,b,B,T,a,n,λi c u D r=>(q i c u D r).noLb⟩
  | map I=>
    obtain⟨g,f,l,k,d,b,a⟩:=h;exact⟨g,f,l,k,d,b,λi e m v t=>⟨(a i e m v t).1.mono (Ext.noLb M w),(a i e m v t).2.1.mono (Ext.noLb M w),(a i e m v t).2.2⟩⟩
  | stk G H=>
    obtain⟨g,f,d,b,a,cs,T,n,q,y,F⟩:=h;exact⟨g,f,d,b,a,cs,T,n,q,y,λj x C=>by obtain⟨u,r,hr⟩:=F j x C;exact⟨u,r,hr.mono (Ext.noLb M w)⟩⟩
  | bld s=>
    obtain⟨g,f,d,T,E,b⟩:=h;refine⟨g,f,d,T,E,?_⟩;rcases b with b|⟨c,A,z,a,n,q,y⟩
    · exact .inl b
    · exact .inr ⟨c,A,z,a,n,by simp[Mem.noLb],y⟩
theorem sM {p:PV} (h:af p=true) (a:∀cs,p≠ .tup cs):az p=true:=by
  cases p with
  |tup cs=>exact absurd rfl (a cs)
  |_=>exact h
theorem RepAt.noLb {mk:Nat->Loc} {p:PV} {v:Value} (h:RepAt fi M w mk p v) (a:af p=true):RepAt fi M.noLb w mk p v:=by
  unfold RepAt at *;split at h
  · exact OwnRep.noLb h
  · cases a
  · obtain⟨d,j,g,b⟩:=h
    exact⟨d,j,g,λi c u f e=>(b i c u f e).noLb⟩
  · obtain⟨d,j,g,b⟩:=h
    exact⟨d,j,g,λi c u f e=>(b i c u f e).noLb⟩
  · rename_i b
    exact ((h.repP (sM a (λcs=>b cs))).mono (Ext.noLb M w)).repE
theorem sN (e:Inv fi M w s a) {b:Nat} (f:b∈M.gb):M.own b=none\/∃i j,M.own b=some (Loc.gh i j):=by
  obtain⟨i,d,rfl⟩:=cN.1 f;have g:i<s.gh.length:=by rw[<-e.gbl];exact d
  have:=e.gh i _ _ (aA g) (aA d);cases c:s.gh[i] with
  |cells cs=>rw[c] at this;exact .inl this.2.2.1
  |map l=>rw[c] at this;exact .inl this.2.1
  |stk h k=>rw[c] at this;exact .inr ⟨_,_,this.1⟩
  |bld s=>rw[c] at this;exact .inl this.2.2.1
theorem sO (d:Inv fi M w s a) {b:Nat} (e:b∈M.lb):M.own b=none:=by
  obtain⟨i,c,rfl⟩:=cN.1 e;have f:i<s.lh.length:=by rw[<-d.lbl];exact c
  exact (d.lh i _ _ (aA f) (aA c)).2.2.1
def GI (b:FI) (M:Mem) (w:World) (a:Ol):Prop:=Inv b M w ⟨[],[],a⟩ ⟨#[],[]⟩
def eu (g:Bool):Loc->Bool
  | .gh _ _=> !g
  |_=>true
def Mem.callee (M:Mem) (g:Bool):Mem:={lb:=[],gb:=if g then M.gb else [],imm:=M.imm,own:=λb=>(M.own b).bind λl=>if eu g l then none else some l,st:=M.st }
def sP (g:Bool) (mk:Nat->Loc):Loc->Option Loc
  | .gh i j=>if g then some (.gh i j) else none
  | .res i=>some (mk i)
  |_=>none
def Mem.back (M a:Mem) (g:Bool) (mk:Nat->Loc):Mem:=
  { lb:=M.lb,gb:=if g then a.gb else M.gb,imm:=a.imm,
    own:=λb=>match M.own b with
      |some l=>if eu g l then some l else (a.own b).bind (sP g mk)
      |none=>(a.own b).bind (sP g mk),
    st:=if g then a.st else M.st,ds:=M.ds }
theorem callee_own {g:Bool} {b:Nat} {l:Loc}:(M.callee g).own b=some l↔M.own b=some l/\eu g l=false:=by
  simp only[Mem.callee,aC];constructor
  · rintro⟨e,c,a⟩
    cases d:eu g e<;>simp[d] at a;subst a;exact⟨c,d⟩
  · rintro⟨c,a⟩
    exact⟨l,c,by simp[a]⟩
theorem callee_own_none {g:Bool} {b:Nat}:(M.callee g).own b=none↔(∀l,M.own b=some l->eu g l=true):=by
  cases a:(M.callee g).own b with
  | none=>
    simp only[true_iff];intro l e;cases d:eu g l with
    |true=>rfl
    |false=>rw[callee_own.2 ⟨e,d⟩] at a;cases a
  | some l=>
    obtain⟨f,c⟩:=callee_own.1 a;constructor
    · intro h;cases h
    · intro h;rw[h l f] at c;cases c
theorem EQ {g:Bool} {l:Loc} (h:eu g l=false):∃i j,l= .gh i j:=by cases l<;>simp[eu] at h;exact⟨_,_,rfl⟩
theorem Inv.callee (c:Inv fi M w s a) (g:Bool):GI fi (M.callee g) w (if g then s.gh else [])/\(M.callee g).lb=[]/\∀b l,(M.callee g).own b=some l->∃i j,l= .gh i j:=by
  refine⟨⟨λt v h=>by simp[get] at h,rfl,rfl,?_,?_,λi cs d h=>by simp at h,λi o d m p=>?_,c.gl,c.immlt,λb l h=>c.ownlt b l (callee_own.1 h).1,λb f=>?_⟩,rfl,λb l h=>EQ (callee_own.1 h).2⟩
  · cases g
    · rfl
    · exact c.gbl
  · cases g
    · simp[Mem.callee]
    · have:=c.nodup
      rw[cR] at this;simpa [Mem.callee] using this.2.1
  · cases g with
    |false=>simp at m
    | true=>
      have n:=(c.gh i o d m p).noLb
      have G:Good M.noLb w (M.callee true) w (λl=>eu true l=true) (λ_=>False):=
        ⟨⟨λ_ _ h=>h,λ_ _ h=>h,λ_ _ _=>rfl,λ_ _=>⟨cU _,λ_=>rfl⟩⟩,cU _,λi k h=>by simp[Mem.noLb] at h,
          λb l h e=>⟨callee_own.2 ⟨h,by simpa using e⟩,rfl,λ_ h=>h,λh=>h,λh=>h⟩,
          λb _ _ h=>⟨rfl,λ_ h=>h,callee_own_none.2 λl e=>by rw[show M.own b=none from h] at e;cases e⟩,λ_ _=>rfl⟩
      exact n.good G NX (by simp[eu])
  · cases g with
    |false=>simp[Mem.callee] at f
    |true=>exact c.gblt b f
theorem Inv.back (B:Inv fi M w s a) (g:Bool) {an:Ol} (mk:Nat->Loc) (aB:∀i,eu g (mk i)=true) (U:GI fi M' w' an) (al:M'.lb=[])
    (F:Kp (M.callee g) w M' w') {r:PV} {v:Value} (hr:RepAt fi M' w' Loc.res r v) (hg:g=false->r.noG=true) (ad:af r=true) :
    Inv fi (M.back M' g mk) w' ⟨s.env,s.lh,if g then an else s.gh⟩ a/\Kp M w (M.back M' g mk) w'/\RepAt fi (M.back M' g mk) w' mk r v:=by
  have ap:∀b l,M.own b=some l->eu g l=true->(M.back M' g mk).own b=some l:=λb l h O=>by simp[Mem.back,h,O]
  have n:∀b,(∀l,M.own b=some l->eu g l=false)->(M.back M' g mk).own b=(M'.own b).bind (sP g mk):=λb h=>by
    cases I:M.own b with
    |none=>simp[Mem.back,I]
    |some l=>simp[Mem.back,I,h l I]
  -- what is the caller's own, the callee leaves
  have pv:∀b l,M.own b=some l->eu g l=true->M'.own b=none/\w'.heap[b]?=w.heap[b]?/\∀k,M'.imm b k->M.imm b k:=λb l h O=>by
    have L:(M.callee g).own b=none:=callee_own_none.2 λQ m=>by rw[h] at m;cases m;exact O
    have q:=B.ownlt b l h;refine⟨F.ownn b q L,F.block b q (by simp[Mem.callee]) (λH=>?_) L,λk hi=>?_⟩
    · cases g with
      |false=>simp[Mem.callee] at H
      | true=>
        rcases sN B H with this|⟨i,j,this⟩<;>rw[h] at this<;>cases this
        simp[eu] at O
    · rcases F.immn b k hi with d|d|d
      · exact d
      · omega
      · exact absurd L d
  have no:∀b,b<w.heap.size->¬(g=true/\b∈M.gb)->M.own b=none->w'.heap[b]?=w.heap[b]?/\(∀k,M'.imm b k->M.imm b k)/\M'.own b=none:=λb q D h=>by
    have L:(M.callee g).own b=none:=callee_own_none.2 λQ m=>by rw[h] at m;cases m
    refine⟨F.block b q (by simp[Mem.callee]) (λH=>?_) L,λk hi=>?_,F.ownn b q L⟩
    · cases g with
      |false=>simp[Mem.callee] at H
      |true=>exact D ⟨rfl,H⟩
    · rcases F.immn b k hi with d|d|d
      · exact d
      · omega
      · exact absurd L d
  have X:∀b,b∈M'.gb->b∈M.gb\/w.heap.size<=b\/(M.callee g).own b≠none:=λb H=>by
    rcases F.gbn b H with d|d
    · cases g with
      |false=>simp[Mem.callee] at d
      |true=>exact .inl d
    · rcases d with d|d|d
      · exact .inr (.inl d)
      · exact .inr (.inr d)
      · simp[Mem.callee] at d
  have R:∀b,b∈M.lb->b∉M.gb:=λb d f=>by have:=B.nodup;rw[cR] at this;exact this.2.2 b d b f rfl
  have ao:∀b,b∈(M.back M' g mk).gb->b∈M.gb\/w.heap.size<=b\/(M.callee g).own b≠none:=λb H=>by
    cases g with
    |false=>exact .inl H
    |true=>exact X b H
  have T:Ext M w (M.back M' g mk) w':=⟨λi k h=>by
      cases g with
      |false=>exact h
      |true=>exact F.ext.gb i k h,F.ext.imm,F.ext.cell,λb H=>by
      cases g with
      |false=>exact⟨cU _,λ_=>rfl⟩
      |true=>exact F.ext.st b H⟩
  have G:Good M w (M.back M' g mk) w' (λl=>eu g l=false) (λb=>g=true/\b∈M.gb):=
    ⟨T,F.size,λ_ _ h=>h,
      λb l h C=>by
        have O:eu g l=true:=by simpa using C
        obtain⟨p1,p2,p3⟩:=pv b l h O;refine⟨ap b l h O,p2,λk d f=>d (p3 k f),λh=>h,λd f=>?_⟩;rcases ao b f with A|A|A
        · exact d A
        · have:=B.ownlt b l h;omega
        · exact A (callee_own_none.2 λQ m=>by rw[h] at m;cases m;exact O),
      λb q D h=>by obtain⟨n1,n2,n3⟩:=no b q D h;refine⟨n1,λk d f=>d (n2 k f),?_⟩;rw[n b (λl C=>by rw[h] at C;cases C),n3];rfl,
      λi hi=>by
        cases g with
        |false=>rfl
        |true=>exact absurd (show eu true (Loc.gh i 0)=false from rfl) hi⟩
  -- the callee's boxes
  have G2 :Good M' w' (M.back M' g mk) w' (λl=>¬∃i j,l= .gh i j/\g=true) (λb=>∃l,M.own b=some l/\eu g l=true)\/g=false:=by
    cases E:g with
    |false=>exact .inr rfl
    | true=>
      subst E;refine .inl ⟨⟨λ_ _ h=>h,λ_ _ h=>h,λ_ _ _=>rfl,λ_ _=>⟨cU _,λ_=>rfl⟩⟩,cU _,λi k h=>by rw[al] at h;simp at h,λb l h C=>?_,λb q D h=>?_,λ_ _=>rfl⟩
      · obtain⟨i,j,rfl,_⟩:=Classical.not_not.1 C
        have np:∀l,M.own b=some l->eu true l=false:=λl C=>by
          cases O:eu true l with
          |false=>rfl
          |true=>rw[(pv b l C O).1] at h;cases h
        refine⟨by rw[n b np,h];rfl,rfl,λ_ h=>h,λ_ f=>?_,λh=>h⟩;have A:=sO B f;have S:=(no b (j8 B b f) (λD=>R b f D.2) A).2.2;rw[S] at h;cases h
      · refine⟨rfl,λ_ h=>h,?_⟩
        rw[n b (λl C=>by
          cases O:eu true l with
          |false=>rfl
          |true=>exact absurd ⟨l,C,O⟩ D),h];rfl
  refine⟨⟨λt u hu=>⟨(B.env t u hu).1,(B.env t u hu).2.good G (λi=>by simp[eu])⟩,B.defers,B.lbl,?_,?_,λi cs N d f=>(B.lh i cs N d f).good G (λD=>R N (aL f) D.2) (λi=>by simp[eu]),
    λi o N d f=>?_,U.gl,U.immlt,λb l h=>?_,λb H=>?_⟩,⟨F.os,F.tape,F.output,F.size,T,λk q d f A=>(no k q (λD=>f D.2) A).1,λk h=> .inl h,λb H=>(ao b H).imp_right λh=>h.imp_right λh=> .inl λf=>h (callee_own_none.2 λQ m=>by rw[f] at m;cases m),λk q h=>?_,λb k h=>?_,.same rfl⟩,?_⟩
  · cases g with
    |false=>exact B.gbl
    |true=>exact U.gbl
  · cases g with
    |false=>exact B.nodup
    | true=>
      have d:=B.nodup;have f:=U.nodup;rw[cR] at d ⊢;rw[al,bF] at f;refine⟨d.1,f,λx D y hy av=>?_⟩;subst av;rcases X x hy with A|A|A
      · exact R x D A
      · have:=j8 B x D;omega
      · exact A (callee_own_none.2 λQ m=>by rw[sO B D] at m;cases m)
  · cases g with
    |false=>exact (B.gh i o N d f).good G NX (λj=>by simp[eu])
    | true=>
      have A:=U.gh i o N d f;refine A.good (G2.resolve_right NX) ?_ (λj h=>h ⟨i,j,rfl,rfl⟩);rintro⟨l,S,h5⟩;rcases X N (aL f) with h6|h6|h6
      · rcases sN B h6 with this|⟨i',j',this⟩<;>rw[S] at this<;>cases this
        simp[eu] at h5
      · have:=B.ownlt N l S;omega
      · exact h6 (callee_own_none.2 λQ m=>by rw[S] at m;cases m;exact h5)
  · cases I:M.own b with
    |some Q=>exact aO (B.ownlt b Q I) F.size
    | none=>
      rw[n b (λl C=>by rw[I] at C;cases C),aC] at h;obtain⟨Q,d,_⟩:=h;exact U.ownlt b Q d
  · cases g with
    |false=>exact aO (B.gblt b H) F.size
    |true=>exact U.gblt b H
  · by_cases D:g=true/\k∈M.gb
    · obtain⟨rfl,D⟩:=D
      have L:(M.callee true).own k=none:=callee_own_none.2 λQ m=>by rw[h] at m;cases m
      rw[n k (λl C=>by rw[h] at C;cases C),F.ownn k q L];rfl
    · rw[n k (λl C=>by rw[h] at C;cases C),(no k q D h).2.2];rfl
  · rcases F.immn b k h with d|d|d
    · exact .inl d
    · exact .inr (.inl d)
    · refine .inr (.inr λf=>d (callee_own_none.2 λl C=>by rw[f] at C;cases C))
  · -- the result
    have ow : ∀{i:Nat} {z:Nat} {xs:Ok} {u:Value},OwnRep fi M' w' (.res i) z xs u->(g=false->dr xs=true)->OwnRep fi (M.back M' g mk) w' (mk i) z xs u:=by
      intro i z xs u h P;obtain⟨d,f⟩:=h;have e1:RepP fi (M.back M' g mk) w' (.sl false z xs) u:=by
        cases E:g with
        |true=>subst E;exact d.mono (show Ext M' w' (M.back M' true mk) w' from⟨λ_ _ h=>h,λ_ _ h=>h,λ_ _ _=>rfl,λ_ _=>⟨cU _,λ_=>rfl⟩⟩)
        | false=>
          subst E;exact (d.noG M.gb M.st (by simpa [PV.noG] using P rfl)).mono (show Ext {M' with gb:=M.gb,st:=M.st } w' (M.back M' false mk) w' from⟨λ_ _ h=>h,λ_ _ h=>h,λ_ _ _=>rfl,λ_ _=>⟨cU _,λ_=>rfl⟩⟩)
      refine⟨e1,?_⟩;rcases f with f|⟨b,o,c,cs,e,hv,I,hh,hs,ax,aD,aA⟩
      · exact .inl f
      · have np:∀l,M.own b=some l->eu g l=false:=λl C=>by
          cases O:eu g l with
          |false=>rfl
          |true=>rw[(pv b l C O).1] at I;cases I
        refine .inr ⟨b,o,c,cs,e,hv,by rw[n b np,I];rfl,hh,hs,ax,λf=>?_,λf=>?_⟩
        · have A:=sO B f
          have S:=(no b (j8 B b f) (λD=>R b f D.2) A).2.2;rw[S] at I;cases I
        · cases E:g with
          |true=>subst E;exact aA f
          | false=>
            subst E;rcases sN B (b:=b) f with A|⟨i',j',A⟩
            · have S:=(no b (B.gblt b f) NX A).2.2
              rw[S] at I;cases I
            · rw[(pv b _ A rfl).1] at I;cases I
    have rp:∀{p:PV} {u:Value},RepP fi M' w' p u->(g=false->p.noG=true)->RepP fi (M.back M' g mk) w' p u:=by
      intro p u h P;cases E:g with
      |true=>subst E;exact h.mono (show Ext M' w' (M.back M' true mk) w' from⟨λ_ _ h=>h,λ_ _ h=>h,λ_ _ _=>rfl,λ_ _=>⟨cU _,λ_=>rfl⟩⟩)
      | false=>
        subst E;exact (h.noG M.gb M.st (P rfl)).mono (show Ext {M' with gb:=M.gb,st:=M.st } w' (M.back M' false mk) w' from⟨λ_ _ h=>h,λ_ _ h=>h,λ_ _ _=>rfl,λ_ _=>⟨cU _,λ_=>rfl⟩⟩)
    have rc:∀{i:Nat} {p:PV} {u:Value},RepC fi M' w' (.res i) p u->(g=false->p.noG=true)->RepC fi (M.back M' g mk) w' (mk i) p u:=by
      intro i p u h P;unfold RepC at *;split at h
      · exact ow h (λe=>by simpa [PV.noG] using P e)
      · exact rp h P
    unfold RepAt at hr ⊢;split at hr
    · exact ow hr (λe=>by simpa [PV.noG] using hg e)
    · cases ad
    · obtain⟨vs,d,f,A⟩:=hr
      exact⟨vs,d,f,λi c u L hu=>rc (A i c u L hu) (λe=>iZ (by simpa [PV.noG] using hg e) L)⟩
    · obtain⟨vs,d,f,A⟩:=hr
      exact⟨vs,d,f,λi c u L hu=>rc (A i c u L hu) (λe=>iZ (by simpa [PV.noG] using hg e) L)⟩
    · rename_i A
      exact (rp (hr.repP (sM ad (λcs=>A cs))) hg).repE
end
end
section
open Go.RowKit
variable {z:PV} {o:Oper} {d:Nat}
section
variable {fi:FI} {M M':Mem} {w w':World} {P:Program} {s s':St} {a:Act} {cf:CallF}
theorem xm (h:co z=true):z.cells=[z]/\z.one=true/\az z=true:=by cases z<;>simp[co] at h<;>exact⟨rfl,rfl,rfl⟩
theorem ER (h:co z=true):RepP fi M w z (kJ z):=by
 cases z<;>simp[co] at h
 ·exact .int _ _
 ·exact .bool _
theorem ES {v:Value} (h:co z=true) (hr:RepP fi M w z v):v=kJ z:=by cases z<;>simp[co] at h<;>cases hr<;>rfl
theorem ET {z f:Nat} {zero:PV} {l:IX} (c:Inv fi M w s a) (g:mOp P fi (.mksl d true z f zero l) o.op=true) (hd:o.dst=some d) (Q:d<a.tmps.size) (h:ae cf s (.mkarr d z f zero l)=some s'):Sim P fi o M w s' a:=by
 obtain⟨X,op,ty,ad,ax,gd⟩:=o;cases op<;>simp[mOp] at g;rename_i t y y';obtain⟨⟨⟨hx,N⟩,av⟩,g⟩:=g;split at g<;>try (cases g;done)
 rename_i e E;split at g<;>try (cases g;done)
 rename_i i hi;simp only[aS,cY] at g;obtain⟨⟨O,R⟩,g⟩:=g;split at g<;>try (cases g;done)
 rename_i G H;simp only[aS,cY] at g;obtain⟨L,al⟩:=g;simp only[ae] at h;split at h
 ·rename_i k n hn
  split at h
  ·rename_i hc
   obtain⟨h0,ao,rfl,p⟩:=hc;cases h;obtain⟨f1,f2,f3⟩:=xm p;have v1:=(bt c hx hn).int;have v2:=(bt c N hn).int;have ap:n*1<=n*(f:Int):=Int.mul_le_mul_of_nonneg_left NW h0;have an:(maxBytes:Int)=140737488355328:=rfl;have m:=run_make (P:=P) w t e i G E hi H k k n n h0 (Int.le_refl _) (by rw[R,Int.mul_comm];omega) NW;rw[O,Nat.mul_one] at m
   -- the zeros
   have A:∃u,G.cells= #[u]/\u=kJ zero:=by
    obtain⟨vs,e1,e2,e3,_⟩:=(lE (fi:=fi) (M:=M) (w:=w) L Loc.lim).cells f3;rw[f1] at e2 e3;obtain⟨u,rfl⟩:=List.length_eq_one_iff.1 e2;refine⟨u,by simpa using e1,?_⟩;have:=(e3 0 zero u rfl rfl)
    have C:RepP fi M w zero u:=by cases zero<;>simp[co] at p<;>exact this
    exact ES p C
   obtain⟨u,I,rfl⟩:=A;have v:madeCells G.cells n.toNat=Array.replicate n.toNat (kJ zero):=by
    apply Array.ext';apply List.ext_getElem?;intro j;by_cases hj:j<n.toNat
    ·rw[wV _ _ _ hj,I]
     simp[hj,Nat.mod_one]
    ·rw[List.getElem?_eq_none (by simp[madeCells];omega),List.getElem?_eq_none (by simp;omega)]
   rw[v] at m
   let r:Mem:={M with own:=λb=>if b=w.heap.size then some (Loc.env d 0) else M.own b }
   obtain⟨F,D⟩:=Good.alloc c (.cells (Array.replicate n.toNat (kJ zero)) e) r [] [] (by simp[r]) (by simp[r]) NX NX (λ_=>False) (by simp[r]) (λb q=>by simp[r,q]);generalize hW:w.alloc (.cells (Array.replicate n.toNat (kJ zero)) e)=W at *;have T:Inv fi r W s a:=by
    refine⟨λt u E=>⟨(c.env t u E).1,(c.env t u E).2.good F NX⟩,c.defers,c.lbl,c.gbl,c.nodup,λi cs x U C=>(c.lh i cs x U C).good F NX NX,
     λi o x U C=>(c.gh i o x U C).good F NX NX,F.ext.gl c.gl,λb k q=>aO (c.immlt b k q) D.size,λb l q=>?_,λb q=>aO (c.gblt b q) D.size⟩
    simp only[r] at q;split at q
    ·rename_i S;subst S;rw[<-hW,size_alloc'];omega
    ·exact aO (c.ownlt b l q) D.size
   refine⟨_,.slice (some ⟨w.heap.size,0,none⟩) n.toNat n.toNat,r,W,?_,.inl rfl,?_,D⟩
   ·simp only[execOp,v1,v2,Sem.run_bind,m];rfl
   ·rw[show X=some d from hd]
    refine T.put Q ?_;refine⟨p,w.heap.size,e,n.toNat,rfl,cU _,by simp[r],by rw[<-hW];exact heap_alloc_new w _,λk B=>absurd (c.immlt _ k B) NW,λB=>absurd (j8 c _ B) NW,λB=>absurd (c.gblt _ B) NW⟩
  ·cases h
 ·cases h
theorem Inv.adopt1 (d:Inv fi M w s a) {t:Nat} {z:PV} {n:Nat} (S:get s.env t=some (.arr z n)) :
  ∃M',Inv fi M' w ⟨Lw.put s.env t (.bs true s.gh.length 0 n 1),s.lh,s.gh++[.cells (List.replicate n z)]⟩ a/\Kp M w M' w:=by
 obtain⟨G,D,b,T,c,R,hc,H,hh,hk,O,N⟩:=d.env t _ S;obtain⟨f1,f2,f3⟩:=xm D;have E:b<w.heap.size:=d.ownlt b _ H
 let M':Mem:={M with gb:=M.gb++[b],own:=λk=>if k=b then none else M.own k }
 have g:Ext M w M' w:=⟨λi k h=>by
   show (M.gb++[b])[i]?=some k
   rw[aI (aD.1 h).1];exact h,λ_ _ h=>h,λ_ _ _=>rfl,λ_ _=>⟨cU _,λ_=>rfl⟩⟩
 have P:Good M w M' w (λl=>l=Loc.env t 0) (λ_=>False):=by
  refine⟨g,cU _,λ_ _ h=>h,λk l h U=>?_,λk X _ h=>?_,λ_ _=>rfl⟩
  ·have C:k≠b:=λe=>U (by subst e;rw[H] at h;cases h;rfl)
   refine⟨by simp only[M',if_neg C];exact h,rfl,λ_ h=>h,λh=>h,λq A=>?_⟩;rcases cE.1 (show k∈M.gb++[b] from A) with m|m
   ·exact q m
   ·exact C (List.mem_singleton.1 m)
  ·exact⟨rfl,λ_ h=>h,by simp only[M'];split<;>first|rfl|exact h⟩
 have hK:Kp M w M' w:=by
  refine⟨rfl,rfl,rfl,cU _,g,λ_ _ _ _ _=>rfl,λ_ h=> .inl h,λk h=>?_,λk _ h=>?_,λ_ _ h=> .inl h,.same rfl⟩
  ·rcases cE.1 (show k∈M.gb++[b] from h) with m|m
   ·exact .inl m
   ·rw[List.mem_singleton.1 m]
    exact .inr (.inr (.inl (by rw[H];simp)))
  ·simp only[M'];split<;>first|rfl|exact h
 refine⟨M',⟨λQ v f=>?_,d.defers,d.lbl,by simp[M',d.gbl],?_,λi cs r q A=>(d.lh i cs r q A).good P NX (λj h=>by cases h),λi o r q A=>?_,g.gl d.gl,d.immlt,λk l h=>?_,λk h=>?_⟩,hK⟩
 ·simp only[dl] at f
  split at f
  ·rename_i L
   subst L;cases f;refine⟨G,RepE.repAt (RepP.repE ?_)⟩;rw[R];exact .bs _ _ _ _ _ _ b (by simp[M',<-d.gbl]) (.inr rfl) hc
  ·rename_i L
   refine⟨(d.env Q v f).1,(d.env Q v f).2.good P (λi h=>?_)⟩;injection h with q A
   exact L q.symm
 ·show (M.lb++(M.gb++[b])).Nodup
  rw[<-aT];exact lF d.nodup (by rw[cE,not_or];exact⟨O,N⟩)
 ·have p:(M.gb++[b])[i]?=some r:=A
  by_cases B:i<s.gh.length
  ·rw[aI B] at q
   rw[aI (by rw[d.gbl];exact B)] at p;exact (d.gh i o r q p).good P NX (λj h=>by cases h)
  ·have I:=(aD.1 q).1
   simp at I;obtain rfl:i=s.gh.length:=NW;simp at q;subst q;rw[aN (by rw[d.gbl];exact cU _),d.gbl] at p;simp at p;subst p;refine⟨E,hk,by simp[M'],λx y=>by rw[List.eq_of_mem_replicate y];exact f2,List.replicate n (kJ z),T,by rw[hh];congr 1,NX,λj x u y F=>?_⟩;rw[List.getElem?_replicate] at y F;split at y
   ·cases y
    rw[if_pos (by assumption)] at F;cases F;exact (ER D).repC
   ·cases y
 ·simp only[M'] at h
  split at h
  ·cases h
  ·exact d.ownlt k l h
 ·rcases cE.1 (show k∈M.gb++[b] from h) with m|m
  ·exact d.gblt k m
  ·rw[List.mem_singleton.1 m];exact E
theorem Inv.adopt:∀{l:Oq} {s:St} {M:Mem},Inv fi M w s a->∃M',Inv fi M' w (Lw.adopt l s) a/\Kp M w M' w
 |[],s,M,b=>⟨M,b,Kp.refl M w⟩
 | t::l,s,M,b=>by
  unfold Lw.adopt;split
  ·rename_i z n e
   obtain⟨i,g,d⟩:=b.adopt1 e;obtain⟨h,f,c⟩:=Inv.adopt (l:=l) g;exact⟨h,f,d.trans c⟩
  ·exact Inv.adopt b
theorem EU {z:Ok} {b:List (Nat×Nat×IX)} (k:Inv fi M w s a) (i:mOp P fi (.buildT d z b) o.op=true) (j:o.dst=some d) (c:∀e,bq (.buildA d z b)=some e->e<a.tmps.size) (h:ae cf s (.buildA d z b)=some s'):Sim P fi o M w s' a:=by obtain⟨y,m,g⟩:=k.adopt (l:=b.flatMap λp=>kH p.2.2);obtain⟨r,v,x,f,u,t,q,n⟩:=xf (cf:=cf) (s':=s') ⟨m,i,j,c⟩ h;exact⟨r,v,x,f,u,t,q,g.trans n⟩
end
end
section
open Go.RowKit
section
variable {fi:FI} {M M':Mem} {w w':World} {P:Program} {s s':St} {a:Act} {cf:CallF}
theorem OwnRep.tail {l:Loc} {f:Ok} {v:Value} (h:OwnRep fi M w l 1 f v) {a:Nat} (n:a<=f.length) :
  ∃A c,v= .slice A f.length c/\f.length<=c/\OwnRep fi M w l 1 (f.drop a) (.slice (if c=a then A else A.map (·.add (a*1))) (f.length-a) (c-a)):=by
 obtain⟨q,m⟩:=h;obtain⟨A,c,d,u⟩:=(RepP.repE q).slC;refine⟨A,c,d,u,?_,?_⟩
 ·rw[d] at q
  have:=wE (l:=a) (h:=f.length) (RepP.repE q) n (cU _) u
  rwa [List.take_length] at this
 ·rcases m with m|⟨b,o,r,cs,e,m,s,t,z,x,j,i⟩
  ·left
   rw[m] at d;simp only[Value.slice.injEq] at d;obtain⟨rfl,p,rfl⟩:=d;have:a=0:=NW;subst this;simp[<-p]
  ·right
   rw[m] at d;simp only[Value.slice.injEq] at d;obtain⟨rfl,-,rfl⟩:=d;rw[List.length_drop];by_cases g:r=a
   ·rw[if_pos g]
    exact⟨b,o,r-a,cs,e,rfl,s,t,NW,λk p y=>NW,j,i⟩
   ·rw[if_neg g]
    refine⟨b,o+a*1,r-a,cs,e,by simp[Addr.add],s,t,NW,λk p y=>x k NW NW,j,i⟩
end
end
end Go.Lw