/-
  The texts that the proof stands on, part 9.
-/
import Derived.Test.YtmodipglnngghadGreatDoorRestModelsF
import Derived.Laws.MakeOwn
set_option linter.unusedVariables false
set_option linter.unusedSimpArgs false
set_option linter.unnecessarySimpa false

set_option maxRecDepth 100000
set_option maxHeartbeats 4000000
namespace Go.Lw
open Go
section
open Go.RowKit
variable {o:Oper} {d z kn:Nat} {m x i k:IX}
section
variable {fi:FI} {M M':Mem} {w w':World} {P:Program} {s s':St} {a:Act} {cf:CallF}
theorem Ew {m:Nat} {agg:Bool} (A:dv P fi M w s a o (.index d z m agg x i)) (h:ae cf s (.index d z m agg x i)=some s'):Sim P fi o M w s' a:=by
 obtain⟨O,op,S,v,Q,U⟩:=o;obtain⟨l,b,I,f⟩:=A;cases op<;>simp[mOp] at b;rename_i t y j;obtain⟨⟨B,G⟩,b⟩:=b;split at b
 ·rename_i T e D
  simp at b;obtain⟨⟨rfl,q⟩,ha⟩:=b;simp only[ae] at h;split at h
  ·rename_i k n hn
   have g:=(bt l G hn).int;split at h
   ·rename_i X E
    split at h
    ·rename_i u
     simp only[aE] at h;obtain⟨p,H,rfl⟩:=h;obtain⟨R,C,F,c⟩:=(bt l B E).agg;obtain⟨r,N,L⟩:=wB (P:=P) H F c ha (λ_=>q);refine Sim.pure l I (f d rfl) ?_ L.repE.repAt;simp[execOp,g,C,Instr.index,run_underlying D,asIntOf,u.1,u.2,run_sizeOf' q,N]
    ·cases h
   ·cases h
  ·cases h
 ·cases b
theorem Ex (A:dv P fi M w s a o (.indexS d x i)) (h:ae cf s (.indexS d x i)=some s'):Sim P fi o M w s' a:=by
 obtain⟨E,op,G,l,F,H⟩:=o;obtain⟨g,c,C,e⟩:=A;cases op<;>simp[mOp] at c;rename_i t y j;obtain⟨⟨m,B⟩,c⟩:=c;have r:P.underlying t=some .string:=by
  split at c
  ·assumption
  ·cases c
 simp only[ae] at h;split at h
 ·rename_i k n hn
  have f:=(bt g B hn).int;split at h
  ·rename_i b z
   have p:=(bt g m z).str;split at h
   ·rename_i D
    simp only[aE] at h;obtain⟨u,q,rfl⟩:=h;exact Sim.pure g C (e d rfl) (v:= .int .u8 u.toNat) (by simp[execOp,f,p,DH (P:=P) r D q]) (RepP.repE (.int _ _)).repAt
   ·cases h
  ·cases h
 ·cases h
theorem Ey {ok:Bool} {zero:PV} (A:dv P fi M w s a o (.lookup d kn m k ok zero)) (h:ae cf s (.lookup d kn m k ok zero)=some s'):Sim P fi o M w s' a:=by
 obtain⟨T,op,ty,F,U,gd⟩:=o;obtain⟨n,f,E,i⟩:=A;cases op<;>simp[mOp] at f;rename_i t y j G;obtain⟨⟨⟨I,Q⟩,rfl⟩,f⟩:=f;split at f
 ·rename_i kt R N
  simp only[aS] at f;obtain⟨q,g⟩:=f;simp only[ae,H3] at h;split at h
  ·rename_i b D O p
   split at h
   ·rename_i S z
    split at h
    ·cases h
    ·rename_i u
     have l:eS kn D=true:=by simpa using u
     unfold nU at g;cases c:P.info? R with
     |none=>simp[c] at g
     | some H=>
      cases e:H.zero with
      |none=>simp[c,e] at g
      | some X=>
       simp[c,e] at g;have L:=λ(r:Option PV) (hr:eD kn S D=some r)=>DX (P:=P) n N q c e g (bt n I O) z (bt n Q p) l (ok:=ok) hr
       split at h
       ·rename_i v x
        cases h;obtain⟨r,C,B⟩:=L _ x;exact Sim.pure n E (i d rfl) (by simp[execOp,C]) B.repE.repAt
       ·rename_i x
        cases h;obtain⟨r,C,B⟩:=L _ x;exact Sim.pure n E (i d rfl) (by simp[execOp,C]) B.repE.repAt
       ·cases h
   ·cases h
  ·cases h
 ·cases f
theorem Ez (A:dv P fi M w s a o (.mupd kn m k x)) (h:ae cf s (.mupd kn m k x)=some s'):Sim P fi o M w s' a:=by
 obtain⟨l,op,Q,p,O,T⟩:=o;obtain⟨d,c,G,E⟩:=A;have g:l=none:=G;subst g;simp only[ae] at h;split at h
 ·rename_i b R v D e u
  split at h
  ·rename_i X f
   split at h
   ·rename_i i
    simp only[aE] at h;obtain⟨N,C,rfl⟩:=h;cases op<;>simp[mOp] at c<;>rename_i t y j z<;>obtain⟨⟨⟨r,F⟩,q⟩,c⟩:=c<;>split at c<;>try (cases c;done)
    all_goals
     rename_i S U B;obtain⟨n,L,I,H⟩:=D2 (P:=P) d B c (bt d r D) f (bt d F e) i.2.2 (bt d q u) i.1 i.2.1 C;exact⟨.skip,undef,M,n,by simp[execOp,L],.inr ⟨rfl,rfl⟩,I,H⟩
   ·cases h
  ·cases h
 ·cases h
theorem j9 {b:Builtin} {c:Array TypeId} {d:TypeId} {e:Array Bool} {a:Array Value}:invoke (.builtin b c d e) a=builtin b c d e a:=rfl
theorem EA {F:Nat} (A:dv P fi M w s a o (.len d F x)) (h:ae cf s (.len d F x)=some s'):Sim P fi o M w s' a:=by
 obtain⟨O,op,R,H,Q,gd⟩:=o;obtain⟨q,k,hd,I⟩:=A;cases op with
 | call c=>
  obtain⟨callee,G,i⟩:=c;cases callee with
  | builtin b=>
   cases b<;>simp[mOp] at k;split at k
   ·rename_i y t ha C
    simp only[aS] at k;obtain⟨B,k⟩:=k;have N:G= #[y]:=by apply Array.ext';simpa using ha
    subst N;have l:∀(n:Nat),(Builtin.len_ i R #[a.eval y]).run P w= .ok (.int .i64 n) w->Sim P fi ⟨O,.call ⟨.builtin .len,#[y],i⟩,R,H,Q,gd⟩ M w (s.put d (.int .i64 n)) a:=λn hn=>by refine Sim.pure q hd (I d rfl) (v:= .int .i64 n) ?_ (RepP.repE (.int _ _)).repAt;simp[execOp,resolve,j9,builtin,hn]
    obtain rfl|rfl|rfl|h4:F=0\/F=1\/F=2\/3<=F:=aj
    ·split at k<;>try (first|(simp at k;done)|omega)
     rename_i e _ m;simp only[ae,iY] at h;split at h<;>try (first|(simp at h;done)|omega)
     ·rename_i ow z xs _ p
      cases h;obtain⟨A,c,j,aa⟩:=(bt q B p).slC;exact l _ (by rw[j];exact mq (P:=P) C m w)
     ·rename_i g b r n z _ p
      cases h;have f:=bt q B p;have j:∃A c,a.eval y= .slice A n c:=by
       cases g with
       |true=>
        generalize m:a.eval y=u at f;cases (show RepP fi M w (.bs true b r n z) u from f) with
        |bs _ _ _ _ A c E T U S=>exact⟨A,c,rfl⟩
       |false=>obtain⟨E,A,c,_,j,_⟩:=f;exact⟨A,c,j⟩
      obtain⟨A,c,j⟩:=j;exact l _ (by rw[j];exact mq (P:=P) C m w)
     ·rename_i b D n _ p
      cases h;have f:=bt q B p;have j:∃A c,a.eval y= .slice A n c:=by
       generalize m:a.eval y=u at f;cases (show RepP fi M w (.stk b D n) u from f) with
       |stk _ _ _ E c T X U S=>exact⟨_,c,rfl⟩
      obtain⟨A,c,j⟩:=j;exact l _ (by rw[j];exact mq (P:=P) C m w)
     ·rename_i b D r n _ p
      cases h;have f:=bt q B p;have j:∃A c,a.eval y= .slice A n c:=by
       generalize m:a.eval y=u at f;cases (show RepP fi M w (.sub b D r n) u from f) with
       |sub _ _ _ _ E c A T X U S ab=>exact⟨_,c,rfl⟩
      obtain⟨A,c,j⟩:=j;exact l _ (by rw[j];exact mq (P:=P) C m w)
     ·rename_i _ p
      cases h;have f:=bt q B p;have j:a.eval y= .slice none 0 0:=by
       generalize m:a.eval y=u at f;cases (show RepP fi M w .nils u from f) with
       |nils=>rfl
      exact l _ (by rw[j];exact mq (P:=P) C m w)
    ·split at k<;>try (first|(simp at k;done)|omega)
     rename_i _ m;simp only[ae,iY] at h;split at h<;>try (first|(simp at h;done)|omega)
     rename_i b _ p;cases h;have j:=(bt q B p).str;exact l _ (by rw[j];exact DI (P:=P) C m w)
    ·split at k<;>try (first|(simp at k;done)|omega)
     rename_i kt et _ m;simp only[ae,iY] at h;split at h<;>try (first|(simp at h;done)|omega)
     rename_i b _ p;split at h
     ·rename_i es L
      cases h;exact l _ (DY (P:=P) q C m (bt q B p) L)
     ·cases h
    ·split at k<;>first|(simp at k;done)|omega
   ·cases k
  |_=>simp[mOp] at k
 |_=>simp[mOp] at k
theorem EB {l:Nat} {T:IX} (A:dv P fi M w s a o (.append d z l T x)) (h:ae cf s (.append d z l T x)=some s'):Sim P fi o M w s' a:=by
 obtain⟨Q,op,ty,aa,ad,gd⟩:=o;obtain⟨hI,g,hd,G⟩:=A;cases op with
 | call c=>
  obtain⟨callee,m,k⟩:=c;cases callee with
  | builtin b=>
   cases b<;>simp[mOp] at g;split at g
   ·rename_i y p t t' ha ht
    simp only[aS,dA,aH] at g;obtain⟨⟨⟨⟨⟨hs,hx⟩,rfl⟩,B⟩,L⟩,g⟩:=g;have N:m= #[y,p]:=by apply Array.ext';simpa using ha
    have E:k= #[t,t]:=by apply Array.ext';simpa using ht
    subst N;subst E;split at g<;>try (cases g;done)
    rename_i e hu;split at g<;>try (cases g;done)
    rename_i i hi;simp only[aS,dA] at g;obtain⟨⟨F,H⟩,g⟩:=g;split at g<;>try (cases g;done)
    rename_i zv u;simp at g;simp only[ae,aC] at h;obtain⟨xv,j,h⟩:=h;split at h
    ·rename_i o2 R S
     simp only[aC] at h;obtain⟨⟨v,e'⟩,hv,h⟩:=h;cases v with
     | sl o1 z1 xs=>
      simp only at h;split at h
      ·rename_i hc
       obtain⟨rfl,rfl,rfl,I⟩:=hc;cases h;obtain⟨M1,O,U,hr,_,ab,X⟩:=pW hI hs hv;have C:RepP fi M w (.sl false R S) (a.eval p):=by
        have:=bt hI hx j;cases o2 with
        |false=>exact this
        |true=>
         cases x with
         |t n=>simp only[ai,aE] at j;obtain⟨q,_,hq⟩:=j;cases q<;>simp[degr] at hq
         |c q=>simp only[ai,bW] at j;cases q<;>simp[degr] at j
         |f id=>simp[ai] at j
       have D:RepP fi M1 w (.sl false R S) (a.eval p):=C.mono U.ext;obtain⟨r,M2,w2,h1,h2,k2⟩:=DQ (P:=P) (ty:=ty) O hu hi u F H g B L hr D I (G d rfl);refine⟨.value r,r,M2,w2,?_,.inl rfl,by rw[show Q=some d from hd];exact h2,U.trans k2⟩;simp[execOp,resolve,j9,builtin,h1]
      ·cases h
     |_=>cases h
    ·cases h
   ·cases g
  |_=>simp[mOp] at g
 |_=>simp[mOp] at g
theorem EC {i:Nat} (A:dv P fi M w s a o (.extract d x i)) (h:ae cf s (.extract d x i)=some s'):Sim P fi o M w s' a:=by
 obtain⟨z,op,D,m,B,E⟩:=o;obtain⟨l,f,u,c⟩:=A;cases op<;>simp[mOp] at f;rename_i y j;obtain⟨n,rfl⟩:=f;simp only[ae] at h;split at h
 ·rename_i C r
  simp only[aE] at h;obtain⟨p,k,rfl⟩:=h;obtain⟨e,q,t,b⟩:=(bt l n r).tup;have g:i<e.length:=by rw[t];exact (aD.1 k).1
  have hr:=b i p _ k (aA g);refine Sim.pure l u (c d rfl) (v:=e[i]) ?_ hr.repE.repAt;simp[execOp,q,Instr.extract,aA g]
 ·cases h
end
end
section
open Go.RowKit
section
variable {fi:FI} {M M':Mem} {w w':World} {P:Program} {s s':St} {a:Act} {cf:CallF}
theorem sJ {z:Nat} (x:PV) (a:x.cells.length=z):∀(n j:Nat),((List.replicate n x).flatMap PV.cells)[j]?=if j<n*z then x.cells[j%z]? else none
 |0,j=>bh
 | n+1,j=>by
  rw[List.replicate_succ,cU,Nat.add_mul,Nat.one_mul];by_cases h:j<z
  ·rw[aI aj,if_pos aj,cV h]
  ·rw[aN aj,sJ x a n,a]
   by_cases b:j<n*z+z
   ·rw[if_pos aj,if_pos b,<-Nat.mod_eq_sub_mod aj]
   ·rw[if_neg aj,if_neg b]
theorem wU {z:Nat} (x:PV) (a:x.cells.length=z) (n:Nat):((List.replicate n x).flatMap PV.cells).length=n*z:=by simp[List.length_flatMap,a]
theorem wV (a:Array Value) (n j:Nat) (h:j<n):(madeCells a n).toList[j]?=some (a[j%a.size]!):=by simp[madeCells,h]
theorem wW {zero:PV} {b:Value} {z:Nat} (i:cOk zero b=true) (e:zero.cells.length=z) (ha:az zero=true) (g:b.cells.size=z) (n:Nat) (mk:Nat->Loc) :
  RepAt fi M w mk (.agg ((List.replicate n zero).flatMap PV.cells)) (.agg (madeCells b.cells (n*z))):=by
 refine⟨(madeCells b.cells (n*z)).toList,bh,by rw[wU zero e];simp[size_madeCells],λj c u a d=>?_⟩;rw[sJ zero e] at a;split at a
 ·rename_i f
  rw[wV _ _ _ f,g] at d;obtain⟨m,l,o,k,_⟩:=(lE (fi:=fi) (M:=M) (w:=w) i (λ_=>mk j)).cells ha;have h:j%z<z:=Nat.mod_lt _ (by rcases z with _|z;simp at f;omega);refine k (j%z) c u a ?_;have:b.cells.toList[j%z]?=some u:=by rw[<-d];simp only[Array.getElem?_toList];rw[getElem!_pos b.cells (j%z) aj];exact Array.getElem?_eq_getElem aj
  rw[l] at this;exact this
 ·cases a
theorem EE {o:Oper} {d z b:Nat} {g:Bool} {zero:PV} {l:IX} (A:dv P fi M w s a o (.mksl d g z b zero l)) (h:ae cf s (.mksl d g z b zero l)=some s'):Sim P fi o M w s' a:=by
 obtain⟨I,op,ty,an,aC,gd⟩:=o;obtain⟨N,m,hd,G⟩:=A;cases op<;>simp[mOp] at m;rename_i t y y';obtain⟨⟨⟨hx,R⟩,aB⟩,m⟩:=m;split at m<;>try (cases m;done)
 rename_i e hu;split at m<;>try (cases m;done)
 rename_i i hi;simp only[aS,dA] at m;obtain⟨⟨S,ab⟩,m⟩:=m;split at m<;>try (cases m;done)
 rename_i zv Q;simp only[aS,dA] at m;obtain⟨C,B⟩:=m;simp only[ae] at h;split at h
 ·rename_i k n hn
  split at h
  ·rename_i hc
   obtain⟨h0,av,q,r⟩:=hc;have v1:=(bt N hx hn).int;have v2:=(bt N R hn).int;have F:az (.agg ((List.replicate n.toNat zero).flatMap PV.cells))=true:=by simp only[az,PV.cells,bV,List.mem_flatMap,List.mem_replicate] at r ⊢;rintro c ⟨x,⟨_,rfl⟩,hc⟩;exact r c hc
   have ax:n*1<=n*(b:Int):=Int.mul_le_mul_of_nonneg_left aj h0;have ao:(maxBytes:Int)=140737488355328:=rfl;have f:=run_make (P:=P) w t e i zv hu hi Q k k n n h0 (Int.le_refl _) (by rw[ab,Int.mul_comm];omega) aj;rw[S] at f;cases g with
   | true=>
    cases h;obtain⟨M2,ad,k2,T⟩:=N.newBox true (wW (fi:=fi) (M:=M) (w:=w) C q r B n.toNat Loc.lim) F e;refine⟨_,.slice (some ⟨w.heap.size,0,none⟩) n.toNat n.toNat,M2,_,?_,.inl rfl,?_,k2⟩
    ·simp only[execOp,v1,v2,Sem.run_bind,f];rfl
    ·rw[show I=some d from hd]
     refine ad.put (G d rfl) (RepE.repAt ?_);cases (show RepP fi M2 _ (fc _ 0) _ from T) with
     |ptr _ _ _ hb=>exact RepP.repE (.bs _ _ _ _ _ _ _ hb (.inr rfl) (cW _))
   | false=>
    simp only at h;split at h<;>try (cases h;done)
    rename_i aa;cases h;obtain⟨v,u1,L,u3⟩:=wW (fi:=fi) (M:=M) (w:=w) C q r B n.toNat Loc.lim;rw[wU zero q] at L;have O:(madeCells zv.cells (n.toNat*z))=v.toArray:=Value.agg.inj u1;rw[O] at f
    obtain⟨M1,al,k1⟩:=N.newOwn (G d rfl) (xs:=List.replicate n.toNat zero) (z:=z) (λe H=>by rw[List.eq_of_mem_replicate H];exact q) (λe H=>by rw[List.eq_of_mem_replicate H];exact r) v [] (by simpa using L)
     (λi e j p H E=>by
      obtain⟨X,rfl⟩:=aD.1 H;rw[List.getElem_replicate] at E;have U:j<z:=by have:=(aD.1 E).1;omega
      have ap:i<n.toNat:=by simpa using X
      have u:i*z+j<n.toNat*z:=by have:=cY z (show i+1<=n.toNat by omega);rw[Nat.add_mul,Nat.one_mul] at this;omega
      have hg:=sJ zero q n.toNat (i*z+j);rw[if_pos u,Nat.mul_comm i z,Nat.mul_add_mod,cV U,E] at hg;rw[Nat.mul_comm i z];have D:z*i+j<v.length:=by rw[L,Nat.mul_comm z i];exact u
      refine⟨v[z*i+j],aA D,?_⟩;have:=u3 (z*i+j) p _ hg (aA D);cases zero<;>simp[co] at aa<;>(cases j<;>simp[PV.cells] at E;subst E;exact this))
     n.toNat bh (by simp[L]) e v.toArray bh
    refine⟨_,.slice (some ⟨w.heap.size,0,none⟩) n.toNat n.toNat,M1,_,?_,.inl rfl,?_,k1⟩
    ·simp only[execOp,v1,v2,Sem.run_bind,f];rfl
    ·rw[show I=some d from hd]
     simpa using al
  ·cases h
 ·cases h
theorem w9 {α β:Type} (F:α->Sem β) (G:α->Option β) (a:∀x y,G x=some y->(F x).run P w= .ok y w):∀{l:List α} {L:List β},l.mapM G=some L->(l.mapM F).run P w= .ok L w
 |[],L,h=>by simp at h;subst h;simp
 |x::l,L,h=>by simp only[List.mapM_cons,Option.bind_eq_bind,aC] at h;obtain⟨y,b,d,c,h⟩:=h;simp at h;subst h;simp[List.mapM_cons,a x y b,w9 F G a c]
theorem EF {α β:Type} (F:α->Sem β) (G:α->Option β) (a:∀x y,G x=some y->(F x).run P w= .ok y w) {l:Array α} {L:List β} (h:l.toList.mapM G=some L):(l.mapM F).run P w= .ok L.toArray w:=by rw[Array.mapM_eq_mapM_toList,map_eq_pure_bind,Sem.run_bind,w9 F G a h];rfl
theorem EG {t:TypeId} {n:Value} {i:TypeInfo} {c:Array (Nat×Value)} {p:gA} (l:P.info? t=some i) (r:i.zero=some n)
  (h:∀b:Nat->Option (Nat×Nat),(∀j q,iE P t j=some q->b j=some q)->Instr.fill b n.cells c.toList=some p.toArray)
  (u:∃j q,iE P t j=some q):(Instr.build t c).run P w= .ok (.agg p.toArray) w:=by
 obtain⟨j,q,a⟩:=u;unfold iE at h a;split at a
 ·rename_i y g
  simp only[aC] at a;obtain⟨L,s,_⟩:=a;simp only[g,s,cJ] at h;have o:=h (L.toArray[·]?) (λj q d=>by simpa using d);have x:(y.mapM (m:=Sem) λf=>do pure (f.offset,<-sizeOf f.type)).run P w= .ok L.toArray w:=EF _ _ (λf q d=>by simp only[aE] at d;obtain⟨i,l,rfl⟩:=d;simp[sizeOf,typeInfo,l]) s;have v:(zeroValue t).run P w= .ok n w:=by simp[zeroValue,typeInfo,l,r]
  simp only[Instr.build,Sem.run_bind,v,Result.andThen,run_underlying g,x,o];rfl
 ·rename_i m e g
  simp only[aE] at a;obtain⟨z,k,_⟩:=a;simp only[g,k,cK] at h;have o:=h (λi=>some (i*z,z)) (λj q d=>by simpa using d);simp[Instr.build,zeroValue,typeInfo,l,r,run_underlying g,run_sizeOf' k,o]
 ·cases a
end
end
section
open Go.RowKit
variable {z:fw} {o:Oper} {d:Nat} {ps:List (Nat×Nat×IX)}
section
variable {fi:FI} {M M':Mem} {w w':World} {P:Program} {s s':St} {a:Act} {cf:CallF}
def gJ (a:Act) (q:Nat×Operand):Nat×Value:=(q.1,a.eval q.2)
theorem xa (n:Inv fi M w s a) {t:TypeId} {b:Nat->Option (Nat×Nat)} (e:∀j q,iE P t j=some q->b j=some q) (mk:Nat->Loc):∀{ps:List (Nat×Nat×IX)} {g:List (Nat×Operand)} {d:List (Nat×Nat×PV)},
  jE P fi t ps g=true->iW s.env ps=some d->(∀p∈d,az p.2.2=true)->kO fi M w b mk d (g.map (gJ a))
 |[],[],d,_,h,_=>by simp[iW] at h;subst h;exact trivial
 |[],_::_,_,c,_,_=>by simp[jE] at c
 |(_,_,_)::_,[],_,c,_,_=>by simp[jE] at c
 |(l,k,x)::ps,(i,o)::g,d,c,h,f=>by simp only[jE,aS,dA] at c;simp only[iW,aC,aE] at h;obtain⟨v,u,r,m,rfl⟩:=h;exact⟨e _ _ c.1.1,(bt n c.1.2 u).repAt,f (l,k,v) bh,xa n e mk c.2 m (λp y=>f p (by simp[y]))⟩
theorem EH {t:TypeId} (h:qA P t z=true):∃i a,P.info? t=some i/\i.zero=some a/\a.cells.toList.length=z.length/\
  ∀(mk:Nat->Loc) (i:Nat) (c:PV) (u:Value),z[i]?=some c->a.cells.toList[i]?=some u->RepC fi M w (mk i) c u:=by
 unfold qA at h;split at h
 ·rename_i a d
  simp only[aC] at d;obtain⟨i,f,b⟩:=d;obtain⟨k,j⟩:=sD h;exact⟨i,a,f,b,k,λmk i c u g e=>sC (j i c u g e) _⟩
 ·cases h
theorem xc {t:TypeId} {z m:fw} {d:List (Nat×Nat×PV)} {parts:Array (Nat×Value)} (b:(iE P t 0).isSome=true) (A:qA P t z=true) (g:∀c∈z,c.one=true) (h:j5 z d=some m) (mk:Nat->Loc)
  (B:∀a:Nat->Option (Nat×Nat),(∀j q,iE P t j=some q->a j=some q)->kO fi M w a mk d parts.toList) :
  ∃v,(Instr.build t parts).run P w= .ok v w/\RepAt fi M w mk (.agg m) v:=by
 obtain⟨i,p,D,e,C,f⟩:=EH (fi:=fi) (M:=M) (w:=w) A;obtain⟨q,k⟩:=Option.isSome_iff_exists.1 b;have F:=λ(a:Nat->Option (Nat×Nat)) (b:∀j q,iE P t j=some q->a j=some q)=>D6 d parts.toList z m p.cells.toList h C (f mk) (B a b) g
 obtain⟨n,I,H,G,_⟩:=F (iE P t) (λ_ _ h=>h);refine⟨.agg n.toArray,EG D e (λa b=>?_) ⟨0,q,k⟩,⟨n,rfl,H,G⟩⟩;obtain⟨s,L,_⟩:=F a b;have mono:∀(l:List (Nat×Value)) (cells:Array Value) (r:Array Value),Instr.fill (iE P t) cells l=some r->Instr.fill a cells l=some r:=by
  intro l
  induction l with
  |nil=>intro cells r h;exact h
  | cons x l y=>
   intro cells r h;obtain⟨i,v⟩:=x;simp only[Instr.fill] at h ⊢;split at h
   ·cases h
   ·rename_i u o k
    rw[b _ _ k];simp only;split at h
    ·cases h
    ·rename_i E
     rw[if_neg E];exact y _ _ h
 exact mono _ _ _ (by simpa using I)
theorem EI (A:dv P fi M w s a o (.build d z ps)) (h:ae cf s (.build d z ps)=some s'):Sim P fi o M w s' a:=by
 obtain⟨C,op,F,p,D,G⟩:=o;obtain⟨n,j,u,k⟩:=A;cases op<;>simp only[mOp,bR] at j;rename_i t parts;simp only[aS] at j;obtain⟨⟨g,q⟩,f⟩:=j;simp only[ae,aC] at h;obtain⟨E,c,h⟩:=h;split at h
 ·rename_i m
  simp only[bV] at m;simp only[aE] at h;obtain⟨H,l,rfl⟩:=h;obtain⟨v,B,y⟩:=xc (P:=P) (parts:=parts.map (gJ a)) g q m.2 l (Loc.env d) (λb r=>by have:=xa n r (Loc.env d) f c m.1;simpa using this);refine Sim.pure n u (k d rfl) (v:=v) ?_ y;have e:(parts.map λ(x:Nat×Operand)=>match x with|(i,x)=>(i,a.eval x))=parts.map (gJ a):=rfl;simp only[execOp,e,Sem.run_bind,B];rfl
 ·cases h
theorem EJ (d:Inv fi M w s a) {x:IX} {o:Operand} (j:mX fi x o=true) {v:PV} {e:fT} (h:f6 s.env x=some (v,e)) :
  ∃f:Loc->Loc,(∀i,f (.res i)= .res i)/\Inv fi (M.rel f) w ⟨e,s.lh,s.gh⟩ a/\RepAt fi (M.rel f) w Loc.lim v (a.eval o):=by
 cases x with
 | t n=>
  cases o with
  | tmp m=>
   simp only[mX,dA] at j;subst j;simp only[f6,aE,bZ] at h;obtain⟨l,q,rfl,rfl⟩:=h;have hn:=d.env n l q;refine⟨mu n,λ_=>rfl,d.rel _ _ (λt u b=>?_) (λ_ _=>rfl) (λ_ _=>rfl),hn.2.rel _ (λi=>by simp[mu])⟩;rw[dl] at b;by_cases g:n=t
   ·subst g
    simp at b;subst b;exact⟨hn.1,(hn.2.degr.rel _).repAt⟩
   ·simp[g] at b
    exact⟨(d.env t u b).1,(d.env t u b).2.rel _ (λi=>by simp[mu,Ne.symm g])⟩
  |_=>simp[mX] at j
 | c p=>
  cases o with
  |const u=>
   simp only[f6,bW,bZ] at h;obtain⟨rfl,rfl⟩:=h;exact⟨id,λ_=>rfl,d.rel _ _ (λt u b=>⟨(d.env t u b).1,(d.env t u b).2.rel _ (λ_=>rfl)⟩) (λ_ _=>rfl) (λ_ _=>rfl),lE j _⟩
  |_=>simp[mX] at j
 | f k=>
  cases o with
  |func F=>
   simp only[f6,bW,bZ] at h;obtain⟨rfl,rfl⟩:=h;refine⟨id,λ_=>rfl,d.rel _ _ (λt u b=>⟨(d.env t u b).1,(d.env t u b).2.rel _ (λ_=>rfl)⟩) (λ_ _=>rfl) (λ_ _=>rfl),?_⟩;exact ((bt d (x:= .f k) j rfl).rel _).repAt
  |_=>simp[mX] at j
theorem xd {t:TypeId}:∀{ps:List (Nat×Nat×IX)} {z:List (Nat×Operand)} {l:List (Nat×Nat×PV)} {M:Mem} {s:St} {e:fT},Inv fi M w s a->
  jE P fi t ps z=true->iX s.env ps=some (l,e)->(∀p∈l,az p.2.2=true)->
  ∃y,Inv fi y w ⟨e,s.lh,s.gh⟩ a/\Kp M w y w/\(∀(mk:Nat->Nat) p v,RepAt fi M w (λi=> .res (mk i)) p v->RepAt fi y w (λi=> .res (mk i)) p v)/\
   ∀b:Nat->Option (Nat×Nat),(∀j q,iE P t j=some q->b j=some q)->kO fi y w b Loc.res l (z.map (gJ a))
 |[],[],l,M,s,e,F,_,h,_=>by simp[iX] at h;obtain⟨rfl,rfl⟩:=h;exact⟨M,F,Kp.refl M w,λ_ _ _ h=>h,λ_ _=>trivial⟩
 |[],_::_,_,_,_,_,_,d,_,_=>by simp[jE] at d
 |(_,_,_)::_,[],_,_,_,_,_,d,_,_=>by simp[jE] at d
 |(c,k,x)::ps,(i,o)::z,l,M,s,e,F,d,h,n=>by
  simp only[jE,aS,dA] at d;simp only[iX,aC,aE,bZ,Prod.exists] at h;obtain⟨v,R,N,H,T,A,rfl,rfl⟩:=h;obtain⟨f,Q,g,C⟩:=EJ F d.1.2 N;have E:=g.rel (j7 λj=> .res (c+j)) R (λt u r=>⟨(g.env t u r).1,(g.env t u r).2.rel _ (λi=>rfl)⟩) (λ_ _=>rfl) (λ_ _=>rfl);have B:=C.rel (mk':=λj=> .res (c+j)) (j7 λj=> .res (c+j)) (λi=>rfl);obtain⟨S,D,L,G,I⟩:=xd (t:=t) E d.2 A (λp O=>n p (by simp[O]))
  refine⟨S,D,((Kp.rel M w f).trans (Kp.rel _ w _)).trans L,λmk p u r=>G mk p u ((r.rel f (λi=>Q _)).rel _ (λi=>rfl)),λb m=>?_⟩;exact⟨m _ _ d.1.1,G (λj=>c+j) _ _ B,n (c,k,v) bh,I b m⟩
def xe (mk:Nat->Loc):Loc->Loc
 | .res i=>mk i
 |l=>l
theorem xf (A:dv P fi M w s a o (.buildT d z ps)) (h:ae cf s (.buildT d z ps)=some s'):Sim P fi o M w s' a:=by
 obtain⟨q,op,Q,B,N,R⟩:=o;obtain⟨G,k,F,l⟩:=A;cases op<;>simp only[mOp,bR] at k;rename_i t parts;simp only[aS] at k;obtain⟨⟨j,D⟩,g⟩:=k;simp only[ae,aC] at h;obtain⟨⟨O,e⟩,f,h⟩:=h;simp only at h;split at h
 ·rename_i n
  simp only[bV] at n;simp only[aE] at h;obtain⟨S,m,rfl⟩:=h;obtain⟨T,c,C,_,y⟩:=xd (P:=P) G g f n.1;obtain⟨v,L,I⟩:=xc (P:=P) (parts:=parts.map (gJ a)) j D n.2 m Loc.res (λb E=>by simpa using y b E);have p:=c.rel (xe (Loc.env d)) e (λt u r=>⟨(c.env t u r).1,(c.env t u r).2.rel _ (λi=>rfl)⟩) (λ_ _=>rfl) (λ_ _=>rfl);have H:=I.rel (mk':=Loc.env d) (xe (Loc.env d)) (λi=>rfl);refine⟨.value v,v,_,w,?_,.inl rfl,by rw[show q=some d from F];exact Inv.put (s:=⟨e,s.lh,s.gh⟩) p (l d rfl) H,C.trans (Kp.rel _ w _)⟩
  have e:(parts.map λ(x:Nat×Operand)=>match x with|(i,x)=>(i,a.eval x))=parts.map (gJ a):=rfl;simp only[execOp,e,Sem.run_bind,L];rfl
 ·cases h
theorem EK {z:Nat} {E:List IX} (A:dv P fi M w s a o (.buildSl d z E)) (h:ae cf s (.buildSl d z E)=some s'):Sim P fi o M w s' a:=by
 obtain⟨T,op,ty,ab,an,gd⟩:=o;obtain⟨hI,Q,hd,R⟩:=A;cases op<;>simp only[mOp,bR] at Q;rename_i t len b;simp only[aS,dA,aH] at Q;obtain⟨⟨⟨⟨⟨⟨C,ad⟩,aa⟩,al⟩,j⟩,O⟩,l⟩:=Q;obtain⟨e,L,v⟩:=qC C;rw[L] at l;simp only[Option.isSome_iff_exists,aC] at l;obtain⟨r,i,hi,H⟩:=l;simp only[ae,aC] at h;obtain⟨n,I,h⟩:=h;split at h
 ·rename_i D
  simp only[bV,aS,dA] at D;cases h;obtain⟨h1,h2⟩:=i8 hI O I;have m:n.length=len:=by rw[<-h1,aW,<-aW (f:=Prod.fst) (as:=b.toList),j,List.length_range']
  generalize c:((Array.range (len*z)).map ((if len*z=0 then #[] else r.cells)[· %(if len*z=0 then (#[]:Array Value) else r.cells).size]!)).toList=rest;have N:rest.length=n.length*z:=by rw[<-c];simp[m]
  obtain⟨F,f1,f2,f3⟩:=wQ (fi:=fi) (M:=M) (w:=w) (z:=z) n 0 (b.toList.map (gJ a)) [] rest bh N D (by
   rw[List.map_map,m,<-j];rfl) (λi p y X U=>by
   simp only[aB,aE] at U;obtain⟨q,hq,rfl⟩:=U;have:=h2 i p q.2 X (by simp[hq]);exact this.repP (by simpa [az] using (D p (aL X)).1))
  simp only[bF] at f1;obtain⟨M1,S,k1⟩:=hI.newOwn (R d rfl) (λe C=>(D e C).2) (λe C=>(D e C).1) F [] f2 f3 n.length (cW _) (by simp[f2]) e F.toArray bh;refine⟨_,.slice (some ⟨w.heap.size,0,none⟩) n.length n.length,M1,_,?_,.inl rfl,by rw[show T=some d from hd];exact S,k1⟩;have e1:(b.map λ(x:Nat×Operand)=>match x with|(i,x)=>(i,a.eval x))=b.map (gJ a):=rfl;have k:¬(len*z>2^24):=aj
  have g:Instr.fill (λi=>some (i*z,z)) ((Array.range (len*z)).map ((if len*z=0 then #[] else r.cells)[· %(if len*z=0 then (#[]:Array Value) else r.cells).size]!)) (b.map (gJ a)).toList=some F.toArray:=by rw[<-f1,<-c,Array.toArray_toList];congr 1;simp
  have B:(Instr.buildSlice t len (b.map (gJ a))).run P w= .ok (.slice (some ⟨w.heap.size,0,none⟩) len len) (w.alloc (.cells F.toArray e)):=by
   have u:(zeroValue e).run P w= .ok r w:=by simp[zeroValue,typeInfo,hi,H]
   by_cases G:len*z=0
   ·simp only[if_pos G] at g
    simp only[Instr.buildSlice,Sem.run_bind,run_underlying L,run_sizeOf' v,Result.andThen_ok,if_neg k,if_pos G,Sem.run_pure,g];simp[newRow]
   ·simp only[if_neg G] at g
    simp only[Instr.buildSlice,Sem.run_bind,run_underlying L,run_sizeOf' v,Result.andThen_ok,if_neg k,if_neg G,u,Sem.run_pure,g];simp[newRow]
  simp only[execOp,e1,Sem.run_bind,B,m];rfl
 ·cases h
end
end
section
open Go.RowKit
variable {p:PV} {u:Value} {o:Oper} {x:IX}
section
variable {fi:FI} {M M' M2:Mem} {w w' W:World} {P:Program} {s s':St} {a:Act} {cf:CallF} {xl:Loc->Prop} {xb:Nat->Prop}
def jc (M:Mem) (b:Nat) (t:Nat×Nat×Nat):Nat->Nat×Nat×Nat:=λi=>if i=b then t else M.st i
theorem Good.stk (g:Good M w M2 W xl xb) (f:M2.st=M.st) (b:Nat) (t:Nat×Nat×Nat) (a:b<M.gb.length->(M.st b).1<t.1) :
  Good M w {M2 with st:=jc M b t } W (λl=>xl l\/l=Loc.gh b 0) xb where
 ext:=⟨g.ext.gb,g.ext.imm,g.ext.cell,λi c=>by
  by_cases h:i=b
  ·subst h
   simp only[jc,if_true];have:=a c;exact⟨aj,λe=>aj⟩
  ·have e:jc M b t i=M.st i:=if_neg h
   show (M.st i).1<=(jc M b t i).1/\((jc M b t i).1=(M.st i).1->jc M b t i=M.st i)
   rw[e];exact⟨cW _,λ_=>rfl⟩,g.ext.fz⟩
 size:=g.size
 lb:=g.lb
 own:=λb l h j=>g.own b l h (λd=>j (.inl d))
 box:=g.box
 st:=λi c=>by
  have:i≠b:=λe=>c (.inr (by rw[e]))
  simp only[jc,if_neg this]
theorem Kp.stk {a:Loc->Prop} {b:Nat->Prop} {f:Nat->Nat×Nat×Nat} (k:Kp M w M2 W) (g:Good M w {M2 with st:=f } W a b):Kp M w {M2 with st:=f } W:=
 ⟨k.os,k.tape,k.output,k.size,g.ext,k.block,k.lbn,k.gbn,k.ownn,k.immn,k.ds⟩
theorem sK (h:RepP fi M w p u) (a:co p=true):u.oneCell'=true:=by cases h<;>first|rfl|(simp[co] at a)
theorem xh (hI:Inv fi M w s a) {N:PV} {p:fw} {v:Value} (I:RepE fi M w N v) (P:∀z k,N≠ .sl true z k) (i:gH s.gh N=some p) (hf:p.all co=true) :
  ∃(A:Option Addr) (c b o:Nat) (B:gA),v= .slice A p.length c/\p.length<=c/\B.length=p.length/\(p=[]\/A=some ⟨b,o,none⟩)/\
   (∀(j:Nat) (u:Value),B[j]?=some u->w.cell? ⟨b,o+j,none⟩=some u/\u.oneCell'=true)/\
   (∀(j:Nat) (y:PV),p[j]?=some y->∃u,B[j]?=some u/\RepP fi M w y u):=by
 unfold gH at i;split at i
 ·rename_i ow ad
  cases i;cases ow with
  |true=>exact absurd rfl (P 1 p)
  |false=>
   obtain⟨A,c,b,o,B,rfl,h1,x,h3,h4,L,G,h7⟩:=sF (z:=1) aj (show RepP fi M w (cr p) v from I);rw[Nat.mul_one] at x;refine⟨A,c,b,o,B,rfl,h1,x,h3,λj u e=>(G j u e).2,λj y f=>?_⟩;have Q:=bV.1 hf y (aL f);have E:y.cells[0]?=some y:=by cases y<;>first|rfl|(simp[co] at Q)
   obtain⟨u,e,hr⟩:=h7 j y 0 y f E;exact⟨u,by simpa using e,hr⟩
 ·rename_i b aa n
  split at i
  ·rename_i g k q
   split at i
   ·rename_i E
    obtain⟨rfl,hn⟩:=E;cases i;cases (show RepP fi M w (.stk b g n) v from I) with
    | stk _ _ _ ab c S hg X r=>
     obtain⟨h1,x,h3,h4,L,t,T,G,h7,h8,F⟩:RepStk fi M w b M.gb[b] g k:=hI.gh b _ _ q (aA S);obtain⟨rfl,R⟩:=X x.symm;have C:(k.take n).length=n:=by simp;omega
     refine⟨some ⟨(M.st b).2.1,0,none⟩,c,(M.st b).2.1,0,t.toList.take n,by rw[C],by rw[C];exact r,by simp;omega,.inr rfl,λj u e=>?_,λj y f=>?_⟩
     ·rw[cL] at e
      split at e
      ·rename_i D
       rw[cX,cell_of_row w (M.st b).2.1 j t T (0,0) G];have l:t[j]?=some u:=by simpa using e
       refine⟨l,?_⟩;have m:j<k.length:=aj;obtain⟨u2,H,O⟩:=F j k[j] (aA m);rw[l] at H;cases H;exact sK O (L _ (cD m))
      ·cases e
     ·rw[cL] at f
      split at f
      ·rename_i D
       obtain⟨u,e,hr⟩:=F j y f;exact⟨u,by rw[cL,if_pos D];simpa using e,hr⟩
      ·cases f
   ·cases i
  ·cases i
 ·rename_i b aa d n
  split at i
  ·rename_i g k q
   split at i
   ·rename_i E
    obtain⟨rfl,hn⟩:=E;cases i;cases (show RepP fi M w (.sub b g d n) v from I) with
    | sub _ _ _ _ ab c A S hg X r U=>
     obtain⟨h1,x,h3,h4,L,t,T,G,h7,h8,F⟩:RepStk fi M w b M.gb[b] g k:=hI.gh b _ _ q (aA S);obtain⟨rfl,R⟩:=X x.symm;have C:((k.drop d).take n).length=n:=by simp;omega
     refine⟨A,c,(M.st b).2.1,d,(t.toList.drop d).take n,by rw[C],by rw[C];exact r,by simp;omega,?_,λj u e=>?_,λj y f=>?_⟩
     ·rcases U with h|h
      ·left;subst h;simp
      ·exact .inr h
     ·rw[cL] at e
      split at e
      ·rename_i D
       rw[List.getElem?_drop] at e;rw[cell_of_row w (M.st b).2.1 (d+j) t T (0,0) G];have l:t[d+j]?=some u:=by simpa using e
       refine⟨l,?_⟩;have m:d+j<k.length:=aj;obtain⟨u2,H,O⟩:=F (d+j) k[d+j] (aA m);rw[l] at H;cases H;exact sK O (L _ (cD m))
      ·cases e
     ·rw[cL] at f
      split at f
      ·rename_i D
       rw[List.getElem?_drop] at f;obtain⟨u,e,hr⟩:=F (d+j) y f;exact⟨u,by rw[cL,if_pos D,List.getElem?_drop];simpa using e,hr⟩
      ·cases f
   ·cases i
  ·cases i
 ·cases i
  cases (show RepP fi M w .nils v from I) with
  |nils=>exact⟨none,0,0,0,[],rfl,cW _,rfl,.inl rfl,λj u e=>by simp at e,λj y f=>by simp at f⟩
 ·cases i
theorem Inv.newStk (e:Inv fi M w s a) {d:Nat} (hd:d<a.tmps.size) {z:fw} (hf:∀x∈z,co x=true) (v rest:gA) (aa:v.length=z.length)
  (F:∀(j:Nat) (x:PV),z[j]?=some x->∃u,v[j]?=some u/\RepP fi M w x u) (c:Nat) (hc:z.length<=c) (I:c<=v.length+rest.length) (T:TypeId) (O:Array Value) (hO:O=(v++rest).toArray) :
  ∃M',Inv fi M' (w.alloc (.cells O T)) ((⟨s.env,s.lh,s.gh++[.stk 0 z]⟩:St).put d (.stk s.gh.length 0 z.length)) (a.put (some d) (.slice (some ⟨w.heap.size,0,none⟩) z.length c))/\Kp M w M' (w.alloc (.cells O T)):=by
 subst hO;have Q:∀k,¬M.imm w.heap.size k:=λk H=>absurd (e.immlt _ k H) aj
 have P:w.heap.size∉M.lb++M.gb:=by
  rw[cE];rintro (H|H)
  ·exact absurd (j8 e _ H) aj
  ·exact absurd (e.gblt _ H) aj
 let M2:Mem:={M with gb:=M.gb++[w.heap.size],own:=λb=>if b=w.heap.size then some (Loc.gh s.gh.length 0) else M.own b }
 obtain⟨g2,X⟩:=Good.alloc e (.cells (v++rest).toArray T) M2 [] [w.heap.size] (by simp[M2]) rfl bh bh (λ_=>False) (by simp[M2]) (λb n=>by simp[M2,n]);generalize U:w.alloc (.cells (v++rest).toArray T)=W at *;have D:=g2.stk rfl s.gh.length (0,w.heap.size,v.length+rest.length) (λh=>by rw[e.gbl] at h;omega);have N:=X.stk D;generalize m:({M2 with st:=jc M s.gh.length (0,w.heap.size,v.length+rest.length) }:Mem)=C at *;have q:C.lb=M.lb:=by rw[<-m]
 have g:C.gb=M.gb++[w.heap.size]:=by rw[<-m]
 have f:C.st s.gh.length=(0,w.heap.size,v.length+rest.length):=by rw[<-m];simp[jc]
 have p:C.own w.heap.size=some (Loc.gh s.gh.length 0):=by rw[<-m];simp[M2]
 have r:C.imm=M.imm:=by rw[<-m]
 have ab:W.heap.size=w.heap.size+1:=by rw[<-U,size_alloc']
 have S:Inv fi C W ⟨s.env,s.lh,s.gh++[.stk 0 z]⟩ a:=by
  refine⟨λt u E=>⟨(e.env t u E).1,(e.env t u E).2.good D bh⟩,by rw[<-m];exact e.defers,by rw[q];exact e.lbl,by rw[g];simp[e.gbl],?_,λi cs B A y=>?_,λi o B A y=>?_,D.ext.gl e.gl,λb k n=>?_,λb l n=>?_,λb n=>?_⟩
  ·rw[q,g,<-aT];exact lF e.nodup P
  ·rw[q] at y;exact (e.lh i cs B A y).good D bh bh
  ·rw[g] at y
   by_cases G:i<s.gh.length
   ·rw[aI G] at A
    rw[aI (by rw[e.gbl];exact G)] at y;exact (e.gh i o B A y).good D bh (λj h=>by
     rcases h with h|h
     ·exact h
     ·injection h with h3 h4;omega)
   ·have R:=(aD.1 A).1
    simp at R;obtain rfl:i=s.gh.length:=aj;simp at A;subst A;rw[aN (by rw[e.gbl];exact cW _),e.gbl] at y;simp at y;subst y;refine⟨p,by rw[f],by rw[f];exact p,by rw[f,r];exact Q,hf,(v++rest).toArray,T,by rw[f,<-U];exact heap_alloc_new w _,by rw[f];simp,by simp;omega,λj x hj=>?_⟩;obtain⟨u,E,hr⟩:=F j x hj;refine⟨u,?_,hr.mono D.ext⟩;simp only[List.getElem?_toArray];rw[aI (aD.1 E).1];exact E
  ·rw[r] at n;exact aO (e.immlt b k n) N.size
  ·by_cases L:b=w.heap.size
   ·subst L;omega
   ·have:M.own b=some l:=by rw[<-m] at n;simpa [M2,L] using n
    exact aO (e.ownlt b l this) N.size
  ·rw[g,cE,List.mem_singleton] at n
   rcases n with n|rfl
   ·exact aO (e.gblt b n) N.size
   ·omega
 refine⟨C,S.put hd (RepP.repE (.stk _ _ _ _ c ?_ (Nat.zero_le _) (λ_=>?_) hc)).repAt,N⟩
 ·rw[g];simp[e.gbl]
 ·rw[f];exact⟨rfl,I⟩
theorem Inv.setStk (p:Inv fi M w s a) {b y:Nat} {ys L:fw} (R:s.gh[b]?=some (.stk y ys)) (hg:Good M w M2 W xl xb) (ab:M2.st=M.st) (ao:M2.lb=M.lb) (ap:M2.gb=M.gb) (C:∀l,xl l->l=Loc.gh b 0) (N:∀k,¬xb k)
  {blk cap:Nat} (hk:Kp M w M2 W) (ho:∀k,M.own k=some (Loc.gh b 0)->M2.own k=some (Loc.gh b 0)) (O:M2.own blk=some (Loc.gh b 0)) (D:∀k l,M2.own k=some l->k<W.heap.size) (Q:∀k,¬M2.imm blk k) (E:∀k j,M2.imm k j->k<W.heap.size)
  (hf:∀x∈L,co x=true) {H:Array Value} {T:TypeId} (hh:W.heap[blk]?=some (.cells H T (0,0))) (ax:H.size=cap) (P:L.length<=H.size)
  (hr:∀(j:Nat) (x:PV),L[j]?=some x->∃u,H[j]?=some u/\∀(M':Mem) (w':World),RepP fi M' w' x u) {d n c:Nat} (hd:d<a.tmps.size) (an:n<=c) (aB:c<=cap) (av:M2.ds=M.ds:=by rfl) :
  ∃M',Inv fi M' W ((⟨s.env,s.lh,s.gh.set b (.stk (y+1) L)⟩:St).put d (.stk b (y+1) n)) (a.put (some d) (.slice (some ⟨blk,0,none⟩) n c))/\Kp M w M' W:=by
 have S:b<s.gh.length:=(aD.1 R).1;have G:b<M.gb.length:=by rw[p.gbl];exact S
 obtain⟨o1,o2,_⟩:RepStk fi M w b M.gb[b] y ys:=p.gh b _ _ R (aA G);have U:=hg.stk ab b (y+1,blk,cap) (λ_=>by rw[o2];exact Nat.lt_succ_self _);have k1:=hk.stk U;generalize m:({M2 with st:=jc M b (y+1,blk,cap) }:Mem)=I at *;have q:I.lb=M.lb:=by rw[<-m];exact ao
 have f:I.gb=M.gb:=by rw[<-m];exact ap
 have e:I.st b=(y+1,blk,cap):=by rw[<-m];simp[jc]
 have g:I.own=M2.own:=by rw[<-m]
 have r:I.imm=M2.imm:=by rw[<-m]
 have aa:∀i j,i≠b->¬(xl (Loc.gh i j)\/Loc.gh i j=Loc.gh b 0):=λi j al h=>by have:Loc.gh i j=Loc.gh b 0:=h.elim (C _) id;injection this with v A;exact al v
 have aC:Inv fi I W ⟨s.env,s.lh,s.gh.set b (.stk (y+1) L)⟩ a:=by
  refine⟨λt u X=>⟨(p.env t u X).1,(p.env t u X).2.good U (λi h=>?_)⟩,by rw[<-m];exact p.defers.trans av.symm,by rw[q];exact p.lbl,by rw[f];simp[p.gbl],by rw[q,f];exact p.nodup,λi H blk v A=>?_,λi o B v A=>?_,U.ext.gl p.gl,λk j z=>?_,λk l z=>?_,λk z=>?_⟩
  ·have:Loc.env t i=Loc.gh b 0:=h.elim (C _) id
   cases this
  ·rw[q] at A
   refine (p.lh i H blk v A).good U (N _) (λj h=>?_);have:Loc.lh i j=Loc.gh b 0:=h.elim (C _) id;cases this
  ·rw[f] at A
   simp only at v;rw[cM] at v;by_cases F:b=i
   ·subst F
    rw[if_pos rfl,if_pos S] at v;cases v;have eb:M.gb[b]=B:=by rw[aA G] at A;exact cZ A
    rw[eb] at o1;refine⟨by rw[g];exact ho _ o1,by rw[e],by rw[e,g];exact O,by rw[e,r];exact Q,hf,H,T,by rw[e];exact hh,by rw[e];exact ax,P,λj x hj=>?_⟩;obtain⟨u,X,ad⟩:=hr j x hj;exact⟨u,X,ad _ _⟩
   ·rw[if_neg F] at v
    exact (p.gh i o B v A).good U (N _) (λj=>aa i j (Ne.symm F))
  ·rw[r] at z;exact E k j z
  ·rw[g] at z;exact D k l z
  ·rw[f] at z;exact aO (p.gblt k z) k1.size
 refine⟨I,aC.put hd (RepP.repE (.stk b (y+1) n blk c ?_ ?_ (λ_=>?_) an)).repAt,k1⟩
 ·rw[f];exact G
 ·rw[e];exact cW _
 ·rw[e];exact⟨rfl,aB⟩
theorem kP (h:RepP fi M w p u) (a:co p=true):∀(M':Mem) (w':World),RepP fi M' w' p u:=by intro M' w';cases h<;>first|exact .int _ _|exact .bool _|(simp[co] at a)
theorem Good.refl (M:Mem) (w:World):Good M w M w (λ_=>False) (λ_=>False):=
 ⟨Ext.refl M w,cW _,λ_ _ h=>h,λ_ _ h _=>⟨h,rfl,λ_ h=>h,id,id⟩,λ_ _ _ h=>⟨rfl,λ_ h=>h,h⟩,λ_ _=>rfl⟩
theorem xi (X:Inv fi M w s a) {t ty e:TypeId} {i:TypeInfo} {zv:Value} {D:Nat} (ht:P.underlying t=some (.slice e)) (hi:P.info? e=some i) (aK:i.zero=some zv)
  (C:i.size=1) (aV:i.bytes=D) (aM:zv.cells.size=1) (aX:0<D) {b Q n:Nat} {S g:fw} {xv:PV} {v x:Value} (hv:RepP fi M w (.stk b Q n) v) (U:s.gh[b]?=some (.stk Q S)) (hn:n<=S.length)
  (hx:RepE fi M w xv x) (aR:∀z S,xv≠ .sl true z S) (he:gH s.gh xv=some g) (hf:g.all co=true) (be:fO b xv=true) (aW:(n+g.length)*D<=maxBytes) {d:Nat} (hd:d<a.tmps.size) :
  ∃r M' w',(Builtin.append_ #[t,t] ty #[v,x]).run P w= .ok r w'/\
   Inv fi M' w' ((⟨s.env,s.lh,s.gh.set b (.stk (Q+1) (S.take n++g))⟩:St).put d (.stk b (Q+1) (n+g.length))) (a.put (some d) r)/\Kp M w M' w':=by
 subst aV;obtain⟨A2,c2,b2,o2,f,rfl,bd,E,aZ,av,aB⟩:=xh X hx aR he hf;cases hv with
 |stk _ _ _ blk c hb hg hA aF=>
 obtain⟨h1,h2,h3,h4,h5,y,T,h6,h7,h8,h9⟩:RepStk fi M w b M.gb[b] Q S:=X.gh b _ _ U (aA hb);obtain⟨rfl,aG⟩:=hA h2.symm;have ao:∀x∈S.take n++g,co x=true:=λx hx=>by
  rcases cE.1 hx with h|h
  ·exact h5 x (cQ h)
  ·exact bV.1 hf x h
 have B:(S.take n).length=n:=by simp;omega
 have N:(S.take n++g).length=n+g.length:=by rw[aQ,B]
 by_cases hy:g=[]
 ·subst hy
  have p:=wG (P:=P) (ty:=ty) ht hi (some ⟨(M.st b).2.1,0,none⟩) A2 n c c2 aF w;obtain⟨M',r1,r2⟩:=X.setStk U (Good.refl M w) rfl rfl rfl (λ_ h=>h.elim) (λ_ h=>h) (Kp.refl M w) (λ_ h=>h) h3 (λk l h=>X.ownlt k l h) h4 (λk j h=>X.immlt k j h) ao h6 h7 (by rw[N,h7];simp only[cF];omega) (λj x o=>by
   rw[bE,cL] at o;split at o
   ·obtain⟨u,q,hr⟩:=h9 j x o
    exact⟨u,q,kP hr (h5 x (aL o))⟩
   ·cases o) hd (n:=n) aF aG
  exact⟨_,M',w,p,r1,r2⟩
 have aJ:=aZ.resolve_left hy;subst aJ;have bc:0<g.length:=List.length_pos_iff.2 hy;have an:(n+g.length)*i.bytes<=140737488355328:=aW;have ba:((n+g.length:Nat):Int)<=9223372036854775807:=by have:(n+g.length)*1<=(n+g.length)*i.bytes:=Nat.mul_le_mul_left _ aX;omega
 have I:∀(j:Nat) (u:Value),f[j]?=some u->w.cell? ((⟨b2,o2,none⟩:Addr).add j)=some u:=λj u q=>by rw[lv];exact (av j u q).1
 have ap:∀j,w.cell? ⟨(M.st b).2.1,j,none⟩=y[j]?:=λj=>cell_of_row w _ j y T (0,0) h6
 by_cases G:n+g.length<=c
 ·have p:=wH (P:=P) (ty:=ty) ht hi (M.st b).2.1 0 n c y h6 ⟨b2,o2,none⟩ g.length c2 f (by rw[C,Nat.mul_one];exact E) I (λu q=>by
    obtain⟨j,o,hx⟩:=cP.1 q;exact (av j u (by rw[aA o,hx])).2) G (by rw[C,E,h7];omega)
  rw[C,Nat.mul_one,cX] at p;generalize ab:(y.toList.take n++f++y.toList.drop (n+f.length))=R at p;have aa:n+f.length<=y.toList.length:=by simp;omega
  have aE:∀k,R[k]?=if k<n then y[k]? else if k<n+f.length then f[k-n]? else y[k]?:=λk=>by rw[<-ab,ja _ _ _ _ aa];simp
  have L:R.length=y.size:=by rw[<-ab,kM _ _ _ aa];simp
  have g1:Good M w M (w.setRow (M.st b).2.1 R.toArray) (λl=>l=Loc.gh b 0) (λ_=>False):=
   Good.setRow (M:=M) (M':=M) h6 rfl rfl (λ_=>False) bh (λk hk=>absurd hk (h4 k)) (λ_ _=>rfl) _ _ (λl h=>by rw[h3] at h;cases h;rfl) (λh=>by rw[h3] at h;cases h)
  have k1:Kp M w M (w.setRow (M.st b).2.1 R.toArray):=Kp.setRow g1 rfl rfl (λ_=>False) bh (λ_ _=>rfl) (.inr (.inr (by rw[h3];simp))) id (λ⟨_,h⟩=>h.elim)
  obtain⟨M',r1,r2⟩:=X.setStk (d:=d) (n:=n+g.length) (c:=c) U g1 rfl rfl rfl (λ_ h=>h) (λ_ h=>h) k1 (λ_ h=>h) h3 (λk l h=>by rw[size_setRow'];exact X.ownlt k l h) h4 (λk j h=>by rw[size_setRow'];exact X.immlt k j h) ao
   (setRow_heap w (M.st b).2.1 _ R.toArray T (0,0) h6) (cap:=(M.st b).2.2) (by simp[L,h7]) (by rw[N];simp[L,h7];omega) (λj x o=>by
    simp only[List.getElem?_toArray];rw[aE];by_cases A:j<n
    ·rw[aI (by rw[B];exact A),cL,if_pos A] at o
     rw[if_pos A];obtain⟨u,q,hr⟩:=h9 j x o;exact⟨u,q,kP hr (h5 x (aL o))⟩
    ·rw[aN (by rw[B];omega),B] at o
     have aC:=(aD.1 o).1;rw[if_neg A,if_pos aj];obtain⟨u,q,hr⟩:=aB _ x o;exact⟨u,q,kP hr (bV.1 hf x (aL o))⟩) hd G aG
  exact⟨_,M',_,p,r1,r2⟩
 ·have aP:(y.toList.take n).length=n*i.size:=by rw[C];simp;omega
  have al:∀(j:Nat) (u:Value),(y.toList.take n)[j]?=some u->w.cell? ((⟨(M.st b).2.1,0,none⟩:Addr).add j)=some u:=λj u q=>by
   rw[lv,cX,ap];rw[cL] at q;split at q
   ·simpa using q
   ·cases q
  have p:=run_append_grow (P:=P) w t ty e i zv ht hi aK ⟨(M.st b).2.1,0,none⟩ n c (y.toList.take n) aP al ⟨b2,o2,none⟩ g.length c2 f (by rw[C,Nat.mul_one];exact E) I aj ba (growslice_fits aj an);have aU:=grownCap_ge w (n+g.length) c e;generalize grownCap w (n+g.length) c e=gc at *;have aY:∀(l:gA) (x:Array Value),l.toArray++x=(l++x.toList).toArray:=λl x=>by apply Array.ext';simp
  have aO:∀m,(Builtin.zeroCells zv.cells m).toList.length=m*i.size:=λm=>by rw[Array.length_toList,size_zeroCells,aM,C]
  obtain⟨F,k1⟩:=X.drew;generalize H:(Builtin.zeroCells zv.cells (gc-(n+g.length))).toList=rest at *;have aS:rest.length=gc-(n+g.length):=by rw[<-H,aO,C,Nat.mul_one]
  have ax:(y.toList.take n).length=n:=by simp;omega
  let M2:Mem:={M with own:=λk=>if k=w.drew.heap.size then some (Loc.gh b 0) else M.own k }
  have aH:((y.toList.take n++f)++rest).toArray.size=gc:=by simp[E,aS];omega
  have ad:(Builtin.append_ #[t,t] ty #[.slice (some ⟨(M.st b).2.1,0,none⟩) n c,.slice (some ⟨b2,o2,none⟩) g.length c2]).run P w=
    .ok (.slice (some ⟨w.drew.heap.size,0,none⟩) (n+g.length) gc) (w.drew.alloc (.cells ((y.toList.take n++f)++rest).toArray e)):=by
   rw[p];have e1:(y.toList.take n++f).toArray++Builtin.zeroCells zv.cells (gc-(n+g.length))=((y.toList.take n++f)++rest).toArray:=by rw[<-H,aY]
   rw[<-e1];simp
  generalize hO:((y.toList.take n++f)++rest).toArray=O at *;obtain⟨g2,k2⟩:=Good.alloc F (.cells O e) M2 [] [] (by simp[M2]) (by simp[M2]) bh bh (λ_=>False) (by simp[M2]) (λk hk=>if_neg hk);have bb:(w.drew.alloc (.cells O e)).heap.size=w.drew.heap.size+1:=size_alloc' _ _;have aT:∀k,¬M.imm w.drew.heap.size k:=λk hk=>absurd (F.immlt _ k hk) aj
  obtain⟨M',r1,r2⟩:=F.setStk (d:=d) (n:=n+g.length) (c:=gc) (blk:=w.drew.heap.size) (cap:=gc) U g2 rfl rfl rfl (λ_ h=>h.elim) (λ_ h=>h) k2 (λk h=>by
    have:=F.ownlt k _ h;simp only[M2];rw[if_neg aj];exact h) (by simp[M2]) (λk l h=>by
    simp only[M2] at h;split at h
    ·rename_i hk;omega
    ·have:=F.ownlt k l h;omega) aT (λk j h=>by have:=F.immlt k j h;omega) ao (heap_alloc_new w.drew _) aH (by rw[N,aH];omega) (λj x o=>by
    rw[<-hO];simp only[List.getElem?_toArray];by_cases A:j<n
    ·rw[aI (by rw[B];exact A),cL,if_pos A] at o
     have aC:=(aD.1 o).1;obtain⟨u,q,hr⟩:=h9 j x o;refine⟨u,?_,kP hr (h5 x (aL o))⟩;rw[aI (by simp;omega),aI aj,cL,if_pos A];simpa using q
    ·rw[aN (by rw[B];omega),B] at o
     have aC:=(aD.1 o).1;obtain⟨u,q,hr⟩:=aB _ x o;refine⟨u,?_,kP hr (bV.1 hf x (aL o))⟩;rw[aI (by rw[aQ];omega),aN aj,ax];exact q) hd aU (cW _)
  exact⟨_,M',_,ad,r1,k1.trans r2⟩
theorem EM {d m:Nat} {T:IX} (R:Inv fi M w s a) (j:mOp P fi (.append d 1 m T x) o.op=true) (hd:o.dst=some d) (G:d<a.tmps.size) (h:ae cf s (.appendK d m T x)=some s'):Sim P fi o M w s' a:=by
 obtain⟨S,op,ty,aa,ad,gd⟩:=o;cases op with
 | call c=>
  obtain⟨callee,p,l⟩:=c;cases callee with
  | builtin b=>
   cases b<;>simp[mOp] at j;split at j
   ·rename_i y U t t' ha ht
    simp only[aS,dA,aH] at j;obtain⟨⟨⟨⟨hs,hx⟩,rfl⟩,N⟩,j⟩:=j;have Q:p= #[y,U]:=by apply Array.ext';simpa using ha
    have C:l= #[t,t]:=by apply Array.ext';simpa using ht
    subst Q;subst C;split at j<;>try (cases j;done)
    rename_i e hu;split at j<;>try (cases j;done)
    rename_i i hi;simp only[aS,dA] at j;obtain⟨⟨D,I⟩,j⟩:=j;split at j<;>try (cases j;done)
    rename_i zv v;simp at j;simp only[ae,aC] at h;obtain⟨X,k,ys,A,h⟩:=h;have B:=bt R hx k;have F:∀z u,X≠ .sl true z u:=λz u e=>by
     subst e;cases x with
     |t n=>simp only[ai,aE] at k;obtain⟨q,_,hq⟩:=k;cases q<;>simp[degr] at hq
     |c q=>simp only[ai,bW] at k;cases q<;>simp[degr] at k
     |f id=>simp[ai] at k
    split at h
    ·rename_i b ab n E
     split at h
     ·rename_i g u H
      split at h
      ·rename_i hc
       obtain⟨rfl,hn,L,O,hf⟩:=hc;cases h;obtain⟨r,M2,w2,h1,h2,k2⟩:=xi (P:=P) (ty:=ty) R hu hi v D I j N (bt R hs E) H hn B F A hf O L G;refine⟨.value r,r,M2,w2,?_,.inl rfl,by rw[show S=some d from hd];exact h2,k2⟩;simp[execOp,resolve,j9,builtin,h1]
      ·cases h
     ·cases h
    ·cases h
   ·cases j
  |_=>simp[mOp] at j
 |_=>simp[mOp] at j
theorem EO {d:Nat} {H:List IX} (hI:Inv fi M w s a) (N:mOp P fi (.buildSl d 1 H) o.op=true) (hd:o.dst=some d) (ab:d<a.tmps.size) (h:ae cf s (.buildSlK d H)=some s'):Sim P fi o M w s' a:=by
 obtain⟨z,g⟩:∃z,z=1:=⟨1,rfl⟩
 rw[<-g] at N;obtain⟨al,op,ty,ao,ax,gd⟩:=o;cases op<;>simp only[mOp,bR] at N;rename_i t len b;simp only[aS,dA,aH] at N;obtain⟨⟨⟨⟨⟨⟨he,ap⟩,an⟩,av⟩,r⟩,aa⟩,B⟩:=N;obtain⟨e,U,F⟩:=qC he;rw[U] at B;simp only[Option.isSome_iff_exists,aC] at B;obtain⟨D,i,hi,S⟩:=B;simp only[ae,aC] at h;obtain⟨n,T,h⟩:=h;split at h
 ·rename_i O
  have c:=O;have l:∀v∈n,v.cells=[v]:=λv L=>by have:=bV.1 c v L;cases v<;>first|rfl|(simp[co] at this)
  have O:∀v∈n,az v=true/\v.cells.length=z:=λv L=>by have Q:=l v L;have h2:=bV.1 c v L;refine⟨?_,by rw[Q,g];rfl⟩;unfold az;rw[Q];cases v<;>first|rfl|(simp[co] at h2)
  cases h;obtain⟨Q,h2⟩:=i8 hI aa T;have C:n.length=len:=by rw[<-Q,aW,<-aW (f:=Prod.fst) (as:=b.toList),r,List.length_range']
  generalize k:((Array.range (len*z)).map ((if len*z=0 then #[] else D.cells)[· %(if len*z=0 then (#[]:Array Value) else D.cells).size]!)).toList=rest;have X:rest.length=n.length*z:=by rw[<-k];simp[C]
  obtain⟨I,f1,f2,f3⟩:=wQ (fi:=fi) (M:=M) (w:=w) (z:=z) n 0 (b.toList.map (gJ a)) [] rest bh X O (by
   rw[List.map_map,C,<-r];rfl) (λi p y hp hy=>by
   simp only[aB,aE] at hy;obtain⟨q,hq,rfl⟩:=hy;have:=h2 i p q.2 hp (by simp[hq]);exact this.repP (by simpa [az] using (O p (aL hp)).1))
  simp only[bF] at f1;obtain⟨M1,ad,k1⟩:=hI.newStk ab (λx hx=>bV.1 c x hx) I [] (by rw[f2,g,Nat.mul_one]) (λj x hj=>by obtain⟨u,hu,hr⟩:=f3 j x 0 x hj (by rw[l x (aL hj)];rfl);exact⟨u,by rw[g] at hu;simpa using hu,hr⟩) n.length (cW _) (by rw[f2,g];simp) e I.toArray bh
  refine⟨_,.slice (some ⟨w.heap.size,0,none⟩) n.length n.length,M1,_,?_,.inl rfl,by rw[show al=some d from hd];exact ad,k1⟩;have e1:(b.map λ(x:Nat×Operand)=>match x with|(i,x)=>(i,a.eval x))=b.map (gJ a):=rfl;have A:¬(len*z>2^24):=aj;have m:Instr.fill (λi=>some (i*z,z)) ((Array.range (len*z)).map ((if len*z=0 then #[] else D.cells)[· %(if len*z=0 then (#[]:Array Value) else D.cells).size]!)) (b.map (gJ a)).toList=some I.toArray:=by rw[<-f1,<-k,Array.toArray_toList];congr 1;simp
  have G:(Instr.buildSlice t len (b.map (gJ a))).run P w= .ok (.slice (some ⟨w.heap.size,0,none⟩) len len) (w.alloc (.cells I.toArray e)):=by
   have E:(zeroValue e).run P w= .ok D w:=by simp[zeroValue,typeInfo,hi,S]
   by_cases R:len*z=0
   ·simp only[if_pos R] at m
    simp only[Instr.buildSlice,Sem.run_bind,run_underlying U,run_sizeOf' F,Result.andThen_ok,if_neg A,if_pos R,Sem.run_pure,m];simp[newRow]
   ·simp only[if_neg R] at m
    simp only[Instr.buildSlice,Sem.run_bind,run_underlying U,run_sizeOf' F,Result.andThen_ok,if_neg A,if_neg R,E,Sem.run_pure,m];simp[newRow]
  simp only[execOp,e1,Sem.run_bind,G,C];rfl
 ·cases h
theorem Inv.restk (d:Inv fi M w s a) {b m:Nat} {G zs:fw} (q:s.gh[b]?=some (.stk m G)) {B c:Array Value} {T:TypeId} (E:w.heap[(M.st b).2.1]?=some (.cells B T (0,0))) (C:c.size=B.size)
  (p:zs.length<=c.size) (S:∀x∈zs,co x=true) (hr:∀(j:Nat) (x:PV),zs[j]?=some x->∃u,c[j]?=some u/\∀(M':Mem) (w':World),RepP fi M' w' x u) :
  Inv fi M (w.setRow (M.st b).2.1 c) ⟨s.env,s.lh,s.gh.set b (.stk m zs)⟩ a/\Kp M w M (w.setRow (M.st b).2.1 c):=by
 have r:b<s.gh.length:=(aD.1 q).1;have v:b<M.gb.length:=by rw[d.gbl];exact r
 obtain⟨O,N,z,I,o5,X,T0,H,L,o8,o9⟩:RepStk fi M w b M.gb[b] m G:=d.gh b _ _ q (aA v);rw[E] at H;cases H
 have y:Good M w M (w.setRow (M.st b).2.1 c) (λl=>l=Loc.gh b 0) (λ_=>False):=
  Good.setRow (M:=M) (M':=M) E rfl rfl (λ_=>False) bh (λk Q=>absurd Q (I k)) (λ_ _=>rfl) _ _ (λl h=>by rw[z] at h;cases h;rfl) (λh=>by rw[z] at h;cases h)
 have P:Kp M w M (w.setRow (M.st b).2.1 c):=Kp.setRow y rfl rfl (λ_=>False) bh (λ_ _=>rfl) (.inr (.inr (by rw[z];simp))) id (λ⟨_,h⟩=>h.elim)
 refine⟨⟨λt u A=>⟨(d.env t u A).1,(d.env t u A).2.good y (λi h=>by cases h)⟩,d.defers,d.lbl,by simpa using d.gbl,d.nodup,λi B F e n=>(d.lh i B F e n).good y id (λj h=>by cases h),λi o f e n=>?_,
  y.ext.gl d.gl,λk j h=>by rw[size_setRow'];exact d.immlt k j h,λk l h=>by rw[size_setRow'];exact d.ownlt k l h,λk h=>by rw[size_setRow'];exact d.gblt k h⟩,P⟩
 simp only at e;rw[cM] at e;by_cases g:b=i
 ·subst g
  rw[if_pos rfl,if_pos r] at e;cases e;have U:M.gb[b]=f:=by rw[aA v] at n;exact cZ n
  refine⟨by rw[<-U];exact O,N,z,I,S,c,T,setRow_heap w (M.st b).2.1 _ c T (0,0) E,by rw[C];exact L,p,λj x R=>?_⟩;obtain⟨u,A,D⟩:=hr j x R;exact⟨u,A,D _ _⟩
 ·rw[if_neg g] at e
  exact (d.gh i o f e n).good y id (λj h=>by injection h with e n;exact g e.symm)
theorem EP {y:IX} (N:Inv fi M w s a) (L:mOp P fi (.store false 1 y x) o.op=true) (hd:o.dst=none) (h:ae cf s (.storeK y x)=some s'):Sim P fi o M w s' a:=by
 obtain⟨Q,op,ty,aa,an,gd⟩:=o;cases op<;>simp[mOp] at L;rename_i t y' c;simp only[ae] at h;split at h
 ·rename_i b ad i v hp hv
  split at h
  ·rename_i g R F
   split at h
   ·rename_i hc
    obtain⟨rfl,hi,d⟩:=hc;cases h;have C:=bt N L.1.1 hp;have O:=bt N L.1.2 hv;generalize I:a.eval y'=u at C;cases (show RepP fi M w (.pstk b g i) u from C) with
    |pstk _ _ _ al hb ab hA=>
    obtain⟨o1,o2,o3,o4,U,q,T,S,o7,o8,o9⟩:RepStk fi M w b M.gb[b] g R:=N.gh b _ _ F (aA hb);have H:=hA o2.symm;subst H;have p:RepP fi M w v (a.eval c):=O.repP (by cases v<;>first|rfl|(simp[co] at d));have f:=run_storeCells_at P (M.st b).2.1 i T [a.eval c] 0 q w S (by simp;omega) (by simpa using sK p d);simp only[cG] at f;generalize n:(q.toList.take i++[a.eval c]++q.toList.drop (i+[a.eval c].length)).toArray=l at f;have m:i+[a.eval c].length<=q.toList.length:=by simp;omega
    have G:∀k,l[k]?=if k<i then q[k]? else if k<i+1 then [a.eval c][k-i]? else q[k]?:=λk=>by rw[<-n];simp only[List.getElem?_toArray];rw[ja _ _ _ _ m];simp
    have A:l.size=q.size:=by rw[<-n];simp only[List.size_toArray];rw[kM _ _ _ m];simp
    obtain⟨r1,r2⟩:=N.restk (zs:=R.set i v) F S A (by simp;omega) (λz hz=>by
     rcases List.mem_or_eq_of_mem_set hz with h|h
     ·exact U z h
     ·rw[h];exact d) (λj z r=>by
     rw[cM] at r;rw[G];by_cases E:i=j
     ·subst E
      rw[if_pos rfl,if_pos hi] at r;cases r;rw[if_neg aj,if_pos aj];exact⟨_,bh,kP p d⟩
     ·rw[if_neg E] at r
      obtain⟨u,I,hr⟩:=o9 j z r;refine⟨u,?_,kP hr (U z (aL r))⟩;by_cases D:j<i
      ·rw[if_pos D];exact I
      ·rw[if_neg D,if_neg aj];exact I)
    refine⟨_,undef,M,_,?_,.inr ⟨rfl,rfl⟩,by rw[show Q=none from hd];exact r1,r2⟩;have e:(a.eval c).cells= #[a.eval c]:=by have:=p;generalize a.eval c=u at this;cases this<;>first|rfl|(simp[co] at d)
    have B:(Instr.storeAt t (.pointer (some ⟨(M.st b).2.1,i,none⟩)) (a.eval c)).run P w= .ok () (w.setRow (M.st b).2.1 l):=by
     have X:(storeCells ⟨(M.st b).2.1,i,none⟩ (a.eval c).cells.toList).run P w= .ok () (w.setRow (M.st b).2.1 l):=by rw[e];exact f
     simp[Instr.storeAt,Instr.sureAddr,storeVar,run_sizeOf' L.2,e,f]
    simp[execOp,I,B]
   ·cases h
  ·cases h
 ·cases h
theorem Q8 (hI:Inv fi M w s a) (p:mOp P fi (.clearK x) o.op=true) (hd:o.dst=none) (h:ae cf s (.clearK x)=some s'):Sim P fi o M w s' a:=by
 obtain⟨R,op,ty,aB,aJ,gd⟩:=o;cases op with
 | call c =>
  obtain⟨callee,U,q⟩:=c;cases callee with
  | builtin bi=>
   cases bi<;>simp[mOp] at p;split at p
   ·rename_i y t ha ht
    have ap:U= #[y]:=by apply Array.ext';simpa using ha
    have ao:q= #[t]:=by apply Array.ext';simpa using ht
    subst ap;subst ao;simp only[aS] at p;obtain⟨hx,p⟩:=p;split at p<;>try (cases p;done)
    rename_i e hu;split at p<;>try (cases p;done)
    rename_i zn I;have an:zn=0:=by simpa using p
    subst an;simp only[ae] at h;split at h
    ·rename_i b aH d n hp
     split at h
     ·rename_i g l C
      split at h
      ·rename_i hc
       obtain⟨rfl,hn⟩:=hc;cases h;have L:=bt hI hx hp;generalize hv:a.eval y=v at L;cases (show RepP fi M w (.sub b g d n) v from L) with
       |sub _ _ _ _ aI c A hb aE hA aF av=>
       obtain⟨o1,o2,o3,o4,X,H,T,o6,o7,o8,o9⟩:RepStk fi M w b M.gb[b] g l:=hI.gh b _ _ C (aA hb);obtain⟨Q,aG⟩:=hA o2.symm;subst Q;rcases Nat.eq_zero_or_pos n with h0|h0
       ·subst h0
        have N:s.gh.set b (.stk g (l.take d++List.replicate 0 (PV.int .i64 0)++l.drop (d+0)))=s.gh:=by
         simp only[List.replicate_zero,bE,cG,List.take_append_drop];apply List.ext_getElem?;intro j;rw[cM];by_cases f:b=j
         ·subst f
          rw[if_pos rfl,if_pos (aD.1 C).1,C]
         ·rw[if_neg f]
        rw[N];refine⟨.value (.tuple #[]),.tuple #[],M,w,?_,.inl rfl,by rw[show R=none from hd];exact hI,Kp.refl M w⟩;cases A<;>simp[execOp,resolve,j9,builtin,hv,Builtin.clear_,run_underlying hu]
       have aa:∀w,(zeroValue e).run P w= .ok (.int .i64 0) w:=λw=>by simp only[aC] at I;obtain⟨i,hi,B⟩:=I;simp[zeroValue,typeInfo,hi,B]
       have G:=run_storeCells_at P (M.st b).2.1 d T (List.replicate n (.int .i64 0)) 0 H w o6 (by simp;omega) (by intro u r;rw[List.eq_of_mem_replicate r];rfl);simp only[cG] at G;generalize F:(H.toList.take d++List.replicate n (Value.int .i64 0)++H.toList.drop (d+(List.replicate n (Value.int .i64 0)).length)).toArray=S at G;have E:d+(List.replicate n (Value.int .i64 0)).length<=H.toList.length:=by simp;omega
       have O:∀k,S[k]?=if k<d then H[k]? else if k<d+n then (List.replicate n (Value.int .i64 0))[k-d]? else H[k]?:=λk=>by rw[<-F];simp only[List.getElem?_toArray];rw[ja _ _ _ _ E];simp
       have D:S.size=H.size:=by rw[<-F];simp only[List.size_toArray];rw[kM _ _ _ E];simp
       have ab:(l.take d++List.replicate n (PV.int .i64 0)++l.drop (d+n)).length=l.length:=by simp;omega
       have ad:∀j,(l.take d++List.replicate n (PV.int .i64 0)++l.drop (d+n))[j]?=if j<d then l[j]? else if j<d+n then (List.replicate n (PV.int .i64 0))[j-d]? else l[j]?:=λj=>by have:=ja l (List.replicate n (PV.int .i64 0)) d j (by simp;omega);simpa using this
       obtain⟨r1,r2⟩:=hI.restk (zs:=l.take d++List.replicate n (PV.int .i64 0)++l.drop (d+n)) C o6 D (by rw[ab,D];exact o8) (λz B=>by
        simp only[cE] at B;rcases B with (B|B)|B
        ·exact X z (cQ B)
        ·rw[List.eq_of_mem_replicate B];rfl
        ·exact X z (List.mem_of_mem_drop B)) (λj z f=>by
        rw[ad] at f;rw[O];by_cases h1:j<d
        ·rw[if_pos h1] at f ⊢
         obtain⟨u,r,hr⟩:=o9 j z f;exact⟨u,r,kP hr (X z (aL f))⟩
        ·rw[if_neg h1] at f ⊢
         by_cases h2:j<d+n
         ·rw[if_pos h2] at f ⊢
          rw[List.getElem?_replicate,if_pos aj] at f ⊢;cases f;exact⟨_,rfl,λ_ _=> .int _ _⟩
         ·rw[if_neg h2] at f ⊢
          obtain⟨u,r,hr⟩:=o9 j z f;exact⟨u,r,kP hr (X z (aL f))⟩)
       have al:(Builtin.zeroCells #[Value.int .i64 0] n).toList=List.replicate n (Value.int .i64 0):=by
        simp[Builtin.zeroCells];apply List.ext_getElem
        ·simp
        ·intro i h1 h2
         simp[Nat.mod_one]
       refine⟨.value (.tuple #[]),.tuple #[],M,_,?_,.inl rfl,by rw[show R=none from hd];exact r1,r2⟩;have ax:=av.resolve_left aj;subst ax;obtain⟨m,rfl⟩:∃m,n=m+1:=⟨n-1,aj⟩
       simp[execOp,resolve,j9,builtin,hv,Builtin.clear_,run_underlying hu,aa,al,G,Value.cells]
      ·cases h
     ·cases h
    ·cases h
   ·cases p
  |_=>simp[mOp] at p
 |_=>simp[mOp] at p
theorem xk {d:Nat} (f:Inv fi M w s a) (c:mOp P fi (.load d false 1 x) o.op=true) (l:o.dst=some d) (e:d<a.tmps.size) (h:ae cf s (.loadK d x)=some s'):Sim P fi o M w s' a:=by
 obtain⟨q,op,z,g,u,A⟩:=o;cases op<;>simp[mOp] at c;rename_i t y;simp only[ae] at h;split at h
 ·rename_i b p i j
  simp only[aE] at h;obtain⟨v,k,rfl⟩:=h;obtain⟨r,n,m⟩:=Ec (P:=P) f c.1.2 (bt f c.1.1 j) k;exact Sim.pure f l e (by simp[execOp,n]) m.repE.repAt
 ·cases h
end
end
section
open Go.RowKit
variable {o:Oper} {d z n:Nat} {v:Value} {x i:IX}
section
variable {fi:FI} {M M':Mem} {w w':World} {P:Program} {s s':St} {a:Act} {cf:CallF}
theorem Inv.frSlot {d z:Nat} {f:fw} (b:Inv fi M w (s.put d (.sl true z f)) a):Inv fi M w (s.put d (.fr z f)) a where
 env:=λt q e=>by
  simp only[St.put,dl] at e;by_cases c:d=t
  ·subst c
   simp only[if_true,bW] at e;subst e;obtain⟨h,g⟩:=b.env d (.sl true z f) (by simp[St.put,dl]);exact⟨h,(show OwnRep fi M w (Loc.env d 0) z f _ from g).frP.repE.repAt⟩
  ·simp only[c,if_false] at e
   exact b.env t q (by simp[St.put,dl,c,e])
 defers:=b.defers
 lbl:=b.lbl
 gbl:=b.gbl
 nodup:=b.nodup
 lh:=b.lh
 gh:=b.gh
 gl:=b.gl
 immlt:=b.immlt
 ownlt:=b.ownlt
 gblt:=b.gblt
theorem Q9 {b:List IX} (k:Inv fi M w s a) (g:mOp P fi (.buildSl d z b) o.op=true) (i:o.dst=some d) (e:d<a.tmps.size) (h:ae cf s (.buildSlF d z b)=some s'):Sim P fi o M w s' a:=by
 simp only[ae,aC] at h;obtain⟨f,c,h⟩:=h;split at h
 ·rename_i j
  cases h;have l:ae cf s (.buildSl d z b)=some (s.put d (.sl true z f)):=by simp only[ae,c,cJ];rw[if_pos j]
  obtain⟨r,v,M',w',t,q,p,n⟩:=EK (cf:=cf) ⟨k,g,i,λu m=>by cases m;exact e⟩ l;exact⟨r,v,M',w',t,q,p.frSlot,n⟩
 ·cases h
theorem Pa {g:Nat} (h:RepE fi M w (.dj g z n) v):∃A c,v= .slice A n c/\g<M.gb.length/\n<=c/\(n=0\/∃b o,A=some ⟨b,o,none⟩/\∀k,k<n*z->fi.dead b (o+k)):=by
 cases (show RepP fi M w (.dj g z n) v from h) with
 |dj _ _ _ c A a d e=>exact⟨A,c,rfl,a,d,e⟩
theorem Ox {g r:Nat} (h:RepE fi M w (.djp g r) v):∃b o,v= .pointer (some ⟨b,o,none⟩)/\g<M.gb.length/\∀k,k<r->fi.dead b (o+k):=by
 cases (show RepP fi M w (.djp g r) v from h) with
 |djp _ _ b o a c=>exact⟨b,o,rfl,a,c⟩
theorem Ra (p:Inv fi M w s a) (f:mOp P fi (.len d 0 x) o.op=true) (q:o.dst=some d) (j:d<a.tmps.size) (h:ae cf s (.lenD d x)=some s'):Sim P fi o M w s' a:=by
 simp only[ae] at h;split at h
 case h_2=>
  rename_i l;exact EA (cf:=cf) ⟨p,f,q,λI E=>by cases E;exact j⟩ (by simp only[ae,iY,l];exact h)
 all_goals obtain⟨F,op,ty,r,G,H⟩:=o
 ·rename_i g z n l
  cases h;cases op with
  | call c=>
   obtain⟨callee,k,i⟩:=c;cases callee with
   | builtin b=>
    cases b<;>simp[mOp] at f;split at f
    ·rename_i y t ha D
     simp only[aS] at f;obtain⟨u,f⟩:=f;have m:k= #[y]:=by apply Array.ext';simpa using ha
     subst m;split at f<;>try (first|(simp at f;done)|omega)
     rename_i e _ C;obtain⟨A,c,B,_⟩:=Pa (bt p u l);refine Sim.pure p q j (v:= .int .i64 n) ?_ (RepP.repE (.int _ _)).repAt;have:=mq (P:=P) (A:=A) (n:=n) (c:=c) (ty:=ty) D C w;simp[execOp,resolve,j9,builtin,B,this]
    ·cases f
   |_=>simp[mOp] at f
  |_=>simp[mOp] at f
 ·cases h
theorem Rb (m:Inv fi M w s a) (p:mOp P fi (.iaddr d z none x i) o.op=true) (I:o.dst=some d) (f:d<a.tmps.size) (h:ae cf s (.iaddrD d z x i)=some s'):Sim P fi o M w s' a:=by
 obtain⟨U,op,ty,r,X,gd⟩:=o;cases op<;>simp[mOp] at p;rename_i t y j;obtain⟨⟨H,B⟩,F⟩:=p;obtain⟨e,D,u⟩:=qC H;simp only[ae] at h;split at h
 ·rename_i g z' n ik k E hn
  have l:=(bt m F hn).int;split at h
  ·rename_i N
   obtain⟨T,S,rfl⟩:=N;cases h;obtain⟨A,c,C,G,L,Q⟩:=Pa (bt m B E);obtain⟨b,o,rfl,O⟩:=Q.resolve_left aj;refine Sim.pure m I f (v:= .pointer (some ⟨b,o+k.toNat*z,none⟩)) (by simp[execOp,l,C,pV (P:=P) D u T S]) (RepP.repE (.djp g z b _ G λq hq=>?_)).repAt;have:=O (k.toNat*z+q) (by have R:k.toNat+1<=n:=aj;have:=cY z R;rw[Nat.add_mul] at this;omega)
   rwa [Nat.add_assoc]
  ·cases h
 ·cases h
theorem Rc {k:Nat} (j:Inv fi M w s a) (c:mOp P fi (.faddr d x k) o.op=true) (E:o.dst=some d) (i:d<a.tmps.size) (h:ae cf s (.faddrD d x k)=some s'):Sim P fi o M w s' a:=by
 obtain⟨H,op,L,l,I,Q⟩:=o;cases op<;>simp[mOp] at c;rename_i t y G;obtain⟨p,c⟩:=c;split at c
 ·rename_i R z
  split at c
  ·rename_i f D
   simp at c;obtain⟨B,hn⟩:=c;split at hn
   ·rename_i n e
    simp at hn;simp only[ae] at h;split at h
    ·rename_i g r A
     split at h
     ·rename_i O
      cases h;obtain⟨b,m,u,C,F⟩:=Ox (bt j p A);refine Sim.pure j E i (v:= .pointer (some ⟨b,m+k,none⟩)) (by simp[execOp,u,wD (P:=P) z D B e hn]) (RepP.repE (.djp g (r-k) b _ C λq N=>?_)).repAt;have:=F (k+q) aj
      rwa [Nat.add_assoc]
     ·cases h
    ·cases h
   ·cases hn
  ·cases c
 ·cases c
theorem Rd (p:Inv fi M w s a) (c:mOp P fi (.iaddr d 1 (some n) x i) o.op=true) (H:o.dst=some d) (f:d<a.tmps.size) (h:ae cf s (.paddrD d n x i)=some s'):Sim P fi o M w s' a:=by
 obtain⟨Q,op,S,u,R,gd⟩:=o;cases op<;>simp[mOp] at c;rename_i t y j;obtain⟨⟨B,F⟩,c⟩:=c;split at c
 ·rename_i T e D
  simp at c;obtain⟨rfl,A⟩:=c;simp only[ae] at h;split at h
  ·rename_i g r U k E hn
   have l:=(bt p F hn).int;split at h
   ·rename_i I
    obtain⟨O,N,h2⟩:=I;cases h;obtain⟨b,z,C,G,L⟩:=Ox (bt p B E);refine Sim.pure p H f (v:= .pointer (some ⟨b,z+k.toNat*1,none⟩)) (by simp[execOp,l,C,wC (P:=P) D A O N]) (RepP.repE (.djp g (r-k.toNat) b _ G λq X=>?_)).repAt;have:=L (k.toNat+q) aj;rw[Nat.mul_one];rwa [Nat.add_assoc]
   ·cases h
  ·cases h
 ·cases c
theorem Re {y:IX} (d:Inv fi M w s a) (R:mOp P fi (.store false 1 y x) o.op=true) (hd:o.dst=none) (h:ae cf s (.storeD y x)=some s'):Sim P fi o M w s' a:=by
 obtain⟨ao,op,ty,ax,aB,gd⟩:=o;cases op<;>simp[mOp] at R;rename_i t y' x';simp only[ae] at h;split at h
 ·rename_i g r n hp hv
  split at h
  ·rename_i I
   cases h;obtain⟨b,i,Q,hg,hD⟩:=Ox (bt d R.1.1 hp);have aa:a.eval x'= .int .i64 n:=(bt d R.1.2 hv).int;obtain⟨t1,U,tt,t3⟩:O6 fi M w g M.gb[g]:=d.gh g _ _ I (aA hg);obtain⟨C,k2,k3,k4,kf,A,T,fr,B,k6⟩:=t3 b i (hD 0 aj);have F:(Value.int .i64 n).oneCell'=true:=rfl;have L:w.cell? ⟨b,i,none⟩=some A[i]:=by simp[World.cell?,B,k6]
   have N:(⟨b,i,none⟩:Addr).add 0=⟨b,i,none⟩:=by unfold Addr.add;split<;>simp_all
   generalize f:A.setIfInBounds i (.int .i64 n)=c;have ab:(storeCells ⟨b,i,none⟩ [Value.int .i64 n] 0).run P w= .ok () (w.setRow b c):=by simp only[storeCells,Sem.run_bind,N,run_store P w _ _ _ F,L];simp[kf,setCell_eq_setRow w b i A T fr (.int .i64 n) B,f]
   have D:c.size=A.size:=by rw[<-f];simp
   have q:∀k,M.imm b k->c[k]?=A[k]?:=λk hk=>by
    rw[<-f,Array.getElem?_setIfInBounds];split
    ·rename_i m;subst m;exact absurd hk k2
    ·rfl
   have O:Good M w M (w.setRow b c) (λl=>l=Loc.gh g 0) (λ_=>False):=
    Good.setRow (M:=M) (M':=M) B rfl rfl (λ_=>False) bh q (λ_ _=>rfl) _ _ (λl h=>by rw[C] at h;cases h;rfl) (λh=>by rw[C] at h;cases h)
   have kk:Kp M w M (w.setRow b c):=Kp.setRow O rfl rfl (λ_=>False) bh (λ_ _=>rfl) (.inr (.inr (by rw[C];simp))) id (λ⟨_,h⟩=>h.elim);have al:Inv fi M (w.setRow b c) s a:=by
    refine⟨λt u Q=>⟨(d.env t u Q).1,(d.env t u Q).2.good O (λi h=>by cases h)⟩,d.defers,d.lbl,d.gbl,d.nodup,λi A av z m=>(d.lh i A av z m).good O id (λj h=>by cases h),λi' o p z m=>?_,
     O.ext.gl d.gl,λk j h=>by rw[size_setRow'];exact d.immlt k j h,λk l h=>by rw[size_setRow'];exact d.ownlt k l h,λk h=>by rw[size_setRow'];exact d.gblt k h⟩
    by_cases H:g=i'
    ·subst H
     rw[I] at z;cases z;have eb:M.gb[g]=p:=by rw[aA hg] at m;exact cZ m
     subst eb;refine⟨by rw[size_setRow'];exact t1,U,(setRow_other w b _ c (λe=>by rw[e] at U;rw[U] at C;cases C)).trans tt,λS k' ad=>?_⟩;obtain⟨q1,q2,q3,q4,qf,ap,T',an,X,q6⟩:=t3 S k' ad;by_cases hb:S=b
     ·subst hb
      rw[B] at X;cases X;have G:=setRow_heap w S _ c T fr B;exact⟨q1,q2,q3,q4,by simp only[World.frozen?,G];simpa only[World.frozen?,B] using qf,c,T,fr,G,by rw[D];exact q6⟩
     ·have ho:=setRow_other w b S c hb
      exact⟨q1,q2,q3,q4,(m8 ho).trans qf,ap,T',an,by rw[ho];exact X,q6⟩
    ·exact (d.gh i' o p z m).good O id (λj h=>by injection h with z m;exact H z.symm)
   refine⟨_,undef,M,_,?_,.inr ⟨rfl,rfl⟩,by rw[show ao=none from hd];exact al,kk⟩;have v:(Value.int .i64 n).cells= #[Value.int .i64 n]:=rfl;have E:(Instr.storeAt t (.pointer (some ⟨b,i,none⟩)) (.int .i64 n)).run P w= .ok () (w.setRow b c):=by simp[Instr.storeAt,Instr.sureAddr,storeVar,run_sizeOf' R.2,v,ab]
   simp[execOp,Q,aa,E]
  ·cases h
 ·cases h
end
end
section
open Go.RowKit
section
variable {fi:FI} {M M':Mem} {w w':World} {P:Program} {s s':St} {a:Act} {cf:CallF}
def Mem.noLb (M:Mem):Mem:={M with lb:=[] }
theorem Ext.noLb (M:Mem) (w:World):Ext M w M.noLb w:=⟨λ_ _ h=>h,λ_ _ h=>h,λ_ _ _=>rfl,λ_ _=>⟨cW _,λ_=>rfl⟩,λ_ _ _=>rfl⟩
theorem OwnRep.noLb {l:Loc} {z:Nat} {f:fw} {v:Value} (h:OwnRep fi M w l z f v):OwnRep fi M.noLb w l z f v:=by
  obtain⟨p,d⟩:=h;refine⟨p.mono (Ext.noLb M w),?_⟩;rcases d with d|⟨b,o,c,q,e,g,j,m,i,k,n,a,hn⟩
  · exact .inl d
  · exact .inr ⟨b,o,c,q,e,g,j,m,i,k,by simp[Mem.noLb],a,hn⟩
theorem RepC.noLb {l:Loc} {p:PV} {v:Value} (h:RepC fi M w l p v):RepC fi M.noLb w l p v:=by
  unfold RepC at *;split at h
  · exact OwnRep.noLb h
  · exact h.mono (Ext.noLb M w)
theorem RepObj.noLb {i r:Nat} {o:GObj} (h:RepObj fi M w i r o):RepObj fi M.noLb w i r o:=by
  cases o with
  | cells D=>
    obtain⟨n,g,f,d,E,T,a,q,t⟩:=h;exact⟨n,g,f,d,E,T,a,q,λi c u O v=>(t i c u O v).noLb⟩
  | map X=>
    obtain⟨n,g,l,p,f,d,a⟩:=h;exact⟨n,g,l,p,f,d,λi e m z y=>⟨(a i e m z y).1.mono (Ext.noLb M w),(a i e m z y).2.1.mono (Ext.noLb M w),(a i e m z y).2.2⟩⟩
  | stk R S=>
    obtain⟨n,g,f,d,a,D,T,q,t,A,Q⟩:=h;exact⟨n,g,f,d,a,D,T,q,t,A,λj x L=>by obtain⟨u,v,hr⟩:=Q j x L;exact⟨u,v,hr.mono (Ext.noLb M w)⟩⟩
  | bld s=>
    obtain⟨n,g,f,T,P,d⟩:=h;refine⟨n,g,f,T,P,?_⟩;rcases d with d|⟨c,C,B,a,q,t,A⟩
    · exact .inl d
    · exact .inr ⟨c,C,B,a,q,by simp[Mem.noLb],A⟩
  | trash=>
    obtain⟨n,g,I,f⟩:=h;refine⟨n,g,I,λb k N=>?_⟩;obtain⟨H,G,U,F⟩:=f b k N;exact⟨H,G,by simp[Mem.noLb],F⟩
theorem sM {p:PV} (h:af p=true) (b:∀a,p≠ .tup a):az p=true:=by
  cases p with
  |tup a=>exact absurd rfl (b a)
  |_=>exact h
theorem RepAt.noLb {mk:Nat->Loc} {p:PV} {v:Value} (h:RepAt fi M w mk p v) (a:af p=true):RepAt fi M.noLb w mk p v:=by
  unfold RepAt at *;split at h
  · exact OwnRep.noLb h
  · cases a
  · obtain⟨d,j,g,b⟩:=h
    exact⟨d,j,g,λi c u f e=>(b i c u f e).noLb⟩
  · obtain⟨d,j,g,b⟩:=h
    exact⟨d,j,g,λi c u f e=>(b i c u f e).noLb⟩
  · rename_i b
    exact ((h.repP (sM a (λk=>b k))).mono (Ext.noLb M w)).repE
theorem sN (e:Inv fi M w s a) {b:Nat} (f:b∈M.gb):M.own b=none\/∃i j,M.own b=some (Loc.gh i j):=by
  obtain⟨i,d,rfl⟩:=cP.1 f;have g:i<s.gh.length:=by rw[<-e.gbl];exact d
  have:=e.gh i _ _ (aA g) (aA d);cases c:s.gh[i] with
  |cells m=>rw[c] at this;exact .inl this.2.2.1
  |map l=>rw[c] at this;exact .inl this.2.1
  |stk h k=>rw[c] at this;exact .inr ⟨_,_,this.1⟩
  |bld s=>rw[c] at this;exact .inl this.2.2.1
  |trash=>rw[c] at this;exact .inl this.2.1
theorem sO (d:Inv fi M w s a) {b:Nat} (e:b∈M.lb):M.own b=none:=by
  obtain⟨i,c,rfl⟩:=cP.1 e;have f:i<s.lh.length:=by rw[<-d.lbl];exact c
  exact (d.lh i _ _ (aA f) (aA c)).2.2.1
def GI (b:FI) (M:Mem) (w:World) (a:fB):Prop:=Inv b M w ⟨[],[],a⟩ ⟨#[],[]⟩
def eu (g:Bool):Loc->Bool
  | .gh _ _=> !g
  |_=>true
def Mem.callee (M:Mem) (g:Bool):Mem:={lb:=[],gb:=if g then M.gb else [],imm:=M.imm,own:=λb=>(M.own b).bind λl=>if eu g l then none else some l,st:=M.st }
def sP (g:Bool) (mk:Nat->Loc):Loc->Option Loc
  | .gh i j=>if g then some (.gh i j) else none
  | .res i=>some (mk i)
  |_=>none
def Mem.back (M a:Mem) (g:Bool) (mk:Nat->Loc):Mem:=
  { lb:=M.lb,gb:=if g then a.gb else M.gb,imm:=a.imm,
    own:=λb=>match M.own b with
      |some l=>if eu g l then some l else (a.own b).bind (sP g mk)
      |none=>(a.own b).bind (sP g mk),
    st:=if g then a.st else M.st,ds:=M.ds }
theorem callee_own {g:Bool} {b:Nat} {l:Loc}:(M.callee g).own b=some l↔M.own b=some l/\eu g l=false:=by
  simp only[Mem.callee,aC];constructor
  · rintro⟨e,c,a⟩
    cases d:eu g e<;>simp[d] at a;subst a;exact⟨c,d⟩
  · rintro⟨c,a⟩
    exact⟨l,c,by simp[a]⟩
theorem callee_own_none {g:Bool} {b:Nat}:(M.callee g).own b=none↔(∀l,M.own b=some l->eu g l=true):=by
  cases a:(M.callee g).own b with
  | none=>
    simp only[true_iff];intro l e;cases d:eu g l with
    |true=>rfl
    |false=>rw[callee_own.2 ⟨e,d⟩] at a;cases a
  | some l=>
    obtain⟨f,c⟩:=callee_own.1 a;constructor
    · intro h;cases h
    · intro h;rw[h l f] at c;cases c
theorem EQ {g:Bool} {l:Loc} (h:eu g l=false):∃i j,l= .gh i j:=by cases l<;>simp[eu] at h;exact⟨_,_,rfl⟩
theorem Inv.callee (c:Inv fi M w s a) (g:Bool):GI fi (M.callee g) w (if g then s.gh else [])/\(M.callee g).lb=[]/\∀b l,(M.callee g).own b=some l->∃i j,l= .gh i j:=by
  refine⟨⟨λt v h=>by simp[get] at h,rfl,rfl,?_,?_,λi q d h=>by simp at h,λi o d m p=>?_,c.gl,c.immlt,λb l h=>c.ownlt b l (callee_own.1 h).1,λb f=>?_⟩,rfl,λb l h=>EQ (callee_own.1 h).2⟩
  · cases g
    · rfl
    · exact c.gbl
  · cases g
    · simp[Mem.callee]
    · have:=c.nodup
      rw[cT] at this;simpa [Mem.callee] using this.2.1
  · cases g with
    |false=>simp at m
    | true=>
      have n:=(c.gh i o d m p).noLb
      have G:Good M.noLb w (M.callee true) w (λl=>eu true l=true) (λ_=>False):=
        ⟨⟨λ_ _ h=>h,λ_ _ h=>h,λ_ _ _=>rfl,λ_ _=>⟨cW _,λ_=>rfl⟩,λ_ _ _=>rfl⟩,cW _,λi k h=>by simp[Mem.noLb] at h,
          λb l h e=>⟨callee_own.2 ⟨h,by simpa using e⟩,rfl,λ_ h=>h,λh=>h,λh=>h⟩,
          λb _ _ h=>⟨rfl,λ_ h=>h,callee_own_none.2 λl e=>by rw[show M.own b=none from h] at e;cases e⟩,λ_ _=>rfl⟩
      exact n.good G bh (by simp[eu])
  · cases g with
    |false=>simp[Mem.callee] at f
    |true=>exact c.gblt b f
theorem Inv.back (B:Inv fi M w s a) (g:Bool) {ad:fB} (mk:Nat->Loc) (ax:∀i,eu g (mk i)=true) (U:GI fi M' w' ad) (ab:M'.lb=[])
    (E:Kp (M.callee g) w M' w') {r:PV} {v:Value} (hr:RepAt fi M' w' Loc.res r v) (hg:g=false->r.noG=true) (aa:af r=true) :
    Inv fi (M.back M' g mk) w' ⟨s.env,s.lh,if g then ad else s.gh⟩ a/\Kp M w (M.back M' g mk) w'/\RepAt fi (M.back M' g mk) w' mk r v:=by
  have an:∀b l,M.own b=some l->eu g l=true->(M.back M' g mk).own b=some l:=λb l h O=>by simp[Mem.back,h,O]
  have n:∀b,(∀l,M.own b=some l->eu g l=false)->(M.back M' g mk).own b=(M'.own b).bind (sP g mk):=λb h=>by
    cases I:M.own b with
    |none=>simp[Mem.back,I]
    |some l=>simp[Mem.back,I,h l I]
  -- what is the caller's own, the callee leaves
  have pv:∀b l,M.own b=some l->eu g l=true->M'.own b=none/\w'.heap[b]?=w.heap[b]?/\∀k,M'.imm b k->M.imm b k:=λb l h O=>by
    have L:(M.callee g).own b=none:=callee_own_none.2 λQ m=>by rw[h] at m;cases m;exact O
    have q:=B.ownlt b l h;refine⟨E.ownn b q L,E.block b q (by simp[Mem.callee]) (λH=>?_) L,λk hi=>?_⟩
    · cases g with
      |false=>simp[Mem.callee] at H
      | true=>
        rcases sN B H with this|⟨i,j,this⟩<;>rw[h] at this<;>cases this
        simp[eu] at O
    · rcases E.immn b k hi with d|d|d
      · exact d
      · omega
      · exact absurd L d
  have no:∀b,b<w.heap.size->¬(g=true/\b∈M.gb)->M.own b=none->w'.heap[b]?=w.heap[b]?/\(∀k,M'.imm b k->M.imm b k)/\M'.own b=none:=λb q D h=>by
    have L:(M.callee g).own b=none:=callee_own_none.2 λQ m=>by rw[h] at m;cases m
    refine⟨E.block b q (by simp[Mem.callee]) (λH=>?_) L,λk hi=>?_,E.ownn b q L⟩
    · cases g with
      |false=>simp[Mem.callee] at H
      |true=>exact D ⟨rfl,H⟩
    · rcases E.immn b k hi with d|d|d
      · exact d
      · omega
      · exact absurd L d
  have X:∀b,b∈M'.gb->b∈M.gb\/w.heap.size<=b\/(M.callee g).own b≠none:=λb H=>by
    rcases E.gbn b H with d|d
    · cases g with
      |false=>simp[Mem.callee] at d
      |true=>exact .inl d
    · rcases d with d|d|d
      · exact .inr (.inl d)
      · exact .inr (.inr d)
      · simp[Mem.callee] at d
  have R:∀b,b∈M.lb->b∉M.gb:=λb d f=>by have:=B.nodup;rw[cT] at this;exact this.2.2 b d b f rfl
  have al:∀b,b∈(M.back M' g mk).gb->b∈M.gb\/w.heap.size<=b\/(M.callee g).own b≠none:=λb H=>by
    cases g with
    |false=>exact .inl H
    |true=>exact X b H
  have T:Ext M w (M.back M' g mk) w':=⟨λi k h=>by
      cases g with
      |false=>exact h
      |true=>exact E.ext.gb i k h,E.ext.imm,E.ext.cell,λb H=>by
      cases g with
      |false=>exact⟨cW _,λ_=>rfl⟩
      |true=>exact E.ext.st b H,E.ext.fz⟩
  have G:Good M w (M.back M' g mk) w' (λl=>eu g l=false) (λb=>g=true/\b∈M.gb):=
    ⟨T,E.size,λ_ _ h=>h,
      λb l h C=>by
        have O:eu g l=true:=by simpa using C
        obtain⟨p1,p2,p3⟩:=pv b l h O;refine⟨an b l h O,p2,λk d f=>d (p3 k f),λh=>h,λd f=>?_⟩;rcases al b f with A|A|A
        · exact d A
        · have:=B.ownlt b l h;omega
        · exact A (callee_own_none.2 λQ m=>by rw[h] at m;cases m;exact O),
      λb q D h=>by obtain⟨n1,n2,n3⟩:=no b q D h;refine⟨n1,λk d f=>d (n2 k f),?_⟩;rw[n b (λl C=>by rw[h] at C;cases C),n3];rfl,
      λi hi=>by
        cases g with
        |false=>rfl
        |true=>exact absurd (show eu true (Loc.gh i 0)=false from rfl) hi⟩
  -- the callee's boxes
  have G2 :Good M' w' (M.back M' g mk) w' (λl=>¬∃i j,l= .gh i j/\g=true) (λb=>∃l,M.own b=some l/\eu g l=true)\/g=false:=by
    cases F:g with
    |false=>exact .inr rfl
    | true=>
      subst F;refine .inl ⟨⟨λ_ _ h=>h,λ_ _ h=>h,λ_ _ _=>rfl,λ_ _=>⟨cW _,λ_=>rfl⟩,λ_ _ _=>rfl⟩,cW _,λi k h=>by rw[ab] at h;simp at h,λb l h C=>?_,λb q D h=>?_,λ_ _=>rfl⟩
      · obtain⟨i,j,rfl,_⟩:=Classical.not_not.1 C
        have np:∀l,M.own b=some l->eu true l=false:=λl C=>by
          cases O:eu true l with
          |false=>rfl
          |true=>rw[(pv b l C O).1] at h;cases h
        refine⟨by rw[n b np,h];rfl,rfl,λ_ h=>h,λ_ f=>?_,λh=>h⟩;have A:=sO B f;have S:=(no b (j8 B b f) (λD=>R b f D.2) A).2.2;rw[S] at h;cases h
      · refine⟨rfl,λ_ h=>h,?_⟩
        rw[n b (λl C=>by
          cases O:eu true l with
          |false=>rfl
          |true=>exact absurd ⟨l,C,O⟩ D),h];rfl
  refine⟨⟨λt u hu=>⟨(B.env t u hu).1,(B.env t u hu).2.good G (λi=>by simp[eu])⟩,B.defers,B.lbl,?_,?_,λi cs N d f=>(B.lh i cs N d f).good G (λD=>R N (aL f) D.2) (λi=>by simp[eu]),
    λi o N d f=>?_,U.gl,U.immlt,λb l h=>?_,λb H=>?_⟩,⟨E.os,E.tape,E.output,E.size,T,λk q d f A=>(no k q (λD=>f D.2) A).1,λk h=> .inl h,λb H=>(al b H).imp_right λh=>h.imp_right λh=> .inl λf=>h (callee_own_none.2 λQ m=>by rw[f] at m;cases m),λk q h=>?_,λb k h=>?_,.same rfl⟩,?_⟩
  · cases g with
    |false=>exact B.gbl
    |true=>exact U.gbl
  · cases g with
    |false=>exact B.nodup
    | true=>
      have d:=B.nodup;have f:=U.nodup;rw[cT] at d ⊢;rw[ab,bF] at f;refine⟨d.1,f,λx D y hy ao=>?_⟩;subst ao;rcases X x hy with A|A|A
      · exact R x D A
      · have:=j8 B x D;omega
      · exact A (callee_own_none.2 λQ m=>by rw[sO B D] at m;cases m)
  · cases g with
    |false=>exact (B.gh i o N d f).good G bh (λj=>by simp[eu])
    | true=>
      have A:=U.gh i o N d f;refine A.good (G2.resolve_right bh) ?_ (λj h=>h ⟨i,j,rfl,rfl⟩);rintro⟨l,S,h5⟩;rcases X N (aL f) with h6|h6|h6
      · rcases sN B h6 with this|⟨i',j',this⟩<;>rw[S] at this<;>cases this
        simp[eu] at h5
      · have:=B.ownlt N l S;omega
      · exact h6 (callee_own_none.2 λQ m=>by rw[S] at m;cases m;exact h5)
  · cases I:M.own b with
    |some Q=>exact aO (B.ownlt b Q I) E.size
    | none=>
      rw[n b (λl C=>by rw[I] at C;cases C),aC] at h;obtain⟨Q,d,_⟩:=h;exact U.ownlt b Q d
  · cases g with
    |false=>exact aO (B.gblt b H) E.size
    |true=>exact U.gblt b H
  · by_cases D:g=true/\k∈M.gb
    · obtain⟨rfl,D⟩:=D
      have L:(M.callee true).own k=none:=callee_own_none.2 λQ m=>by rw[h] at m;cases m
      rw[n k (λl C=>by rw[h] at C;cases C),E.ownn k q L];rfl
    · rw[n k (λl C=>by rw[h] at C;cases C),(no k q D h).2.2];rfl
  · rcases E.immn b k h with d|d|d
    · exact .inl d
    · exact .inr (.inl d)
    · refine .inr (.inr λf=>d (callee_own_none.2 λl C=>by rw[f] at C;cases C))
  · -- the result
    have ow : ∀{i:Nat} {z:Nat} {xs:fw} {u:Value},OwnRep fi M' w' (.res i) z xs u->(g=false->eg xs=true)->OwnRep fi (M.back M' g mk) w' (mk i) z xs u:=by
      intro i z xs u h P;obtain⟨d,f⟩:=h;have e1:RepP fi (M.back M' g mk) w' (.sl false z xs) u:=by
        cases F:g with
        |true=>subst F;exact d.mono (show Ext M' w' (M.back M' true mk) w' from⟨λ_ _ h=>h,λ_ _ h=>h,λ_ _ _=>rfl,λ_ _=>⟨cW _,λ_=>rfl⟩,λ_ _ _=>rfl⟩)
        | false=>
          subst F;exact (d.noG M.gb M.st (by simpa [PV.noG] using P rfl)).mono (show Ext {M' with gb:=M.gb,st:=M.st } w' (M.back M' false mk) w' from⟨λ_ _ h=>h,λ_ _ h=>h,λ_ _ _=>rfl,λ_ _=>⟨cW _,λ_=>rfl⟩,λ_ _ _=>rfl⟩)
      refine⟨e1,?_⟩;rcases f with f|⟨b,o,c,cs,e,hv,I,hh,hs,ap,aA,av,hn⟩
      · exact .inl f
      · have np:∀l,M.own b=some l->eu g l=false:=λl C=>by
          cases O:eu g l with
          |false=>rfl
          |true=>rw[(pv b l C O).1] at I;cases I
        refine .inr ⟨b,o,c,cs,e,hv,by rw[n b np,I];rfl,hh,hs,ap,λf=>?_,λf=>?_,hn⟩
        · have A:=sO B f
          have S:=(no b (j8 B b f) (λD=>R b f D.2) A).2.2;rw[S] at I;cases I
        · cases F:g with
          |true=>subst F;exact av f
          | false=>
            subst F;rcases sN B (b:=b) f with A|⟨i',j',A⟩
            · have S:=(no b (B.gblt b f) bh A).2.2
              rw[S] at I;cases I
            · rw[(pv b _ A rfl).1] at I;cases I
    have rp:∀{p:PV} {u:Value},RepP fi M' w' p u->(g=false->p.noG=true)->RepP fi (M.back M' g mk) w' p u:=by
      intro p u h P;cases F:g with
      |true=>subst F;exact h.mono (show Ext M' w' (M.back M' true mk) w' from⟨λ_ _ h=>h,λ_ _ h=>h,λ_ _ _=>rfl,λ_ _=>⟨cW _,λ_=>rfl⟩,λ_ _ _=>rfl⟩)
      | false=>
        subst F;exact (h.noG M.gb M.st (P rfl)).mono (show Ext {M' with gb:=M.gb,st:=M.st } w' (M.back M' false mk) w' from⟨λ_ _ h=>h,λ_ _ h=>h,λ_ _ _=>rfl,λ_ _=>⟨cW _,λ_=>rfl⟩,λ_ _ _=>rfl⟩)
    have rc:∀{i:Nat} {p:PV} {u:Value},RepC fi M' w' (.res i) p u->(g=false->p.noG=true)->RepC fi (M.back M' g mk) w' (mk i) p u:=by
      intro i p u h P;unfold RepC at *;split at h
      · exact ow h (λe=>by simpa [PV.noG] using P e)
      · exact rp h P
    unfold RepAt at hr ⊢;split at hr
    · exact ow hr (λe=>by simpa [PV.noG] using hg e)
    · cases aa
    · obtain⟨vs,d,f,A⟩:=hr
      exact⟨vs,d,f,λi c u L hu=>rc (A i c u L hu) (λe=>iZ (by simpa [PV.noG] using hg e) L)⟩
    · obtain⟨vs,d,f,A⟩:=hr
      exact⟨vs,d,f,λi c u L hu=>rc (A i c u L hu) (λe=>iZ (by simpa [PV.noG] using hg e) L)⟩
    · rename_i A
      exact (rp (hr.repP (sM aa (λcs=>A cs))) hg).repE
end
end
section
open Go.RowKit
section
variable {fi:FI} {M M':Mem} {w w':World} {P:Program} {s s':St} {a:Act} {cf:CallF}
theorem xm {z:PV} (h:co z=true):z.cells=[z]/\z.one=true/\az z=true:=by cases z<;>simp[co] at h<;>exact⟨rfl,rfl,rfl⟩
theorem Rf {o:Oper} {d C:Nat} {sx x:IX} (hI:Inv fi M w s a) (g:mOp P fi (.append d 1 C sx x) o.op=true) (hd:o.dst=some d) (X:d<a.tmps.size) (h:ae cf s (.appendE d C sx x)=some s'):Sim P fi o M w s' a:=by
 obtain⟨av,op,ty,aB,aG,gd⟩:=o;cases op with
 | call c=>
  obtain⟨callee,G,A⟩:=c;cases callee with
  | builtin b=>
   cases b<;>simp[mOp] at g;split at g
   ·rename_i y y' t t' ha ht
    simp only[aS,dA,aH] at g;obtain⟨⟨⟨⟨hs,hx⟩,rfl⟩,aF⟩,g⟩:=g;have an:G= #[y,y']:=by apply Array.ext';simpa using ha
    have S:A= #[t,t]:=by apply Array.ext';simpa using ht
    subst an;subst S;split at g<;>try (cases g;done)
    rename_i e R;split at g<;>try (cases g;done)
    rename_i i hi;simp only[aS,dA] at g;obtain⟨⟨m,ab⟩,g⟩:=g;split at g<;>try (cases g;done)
    rename_i zv L;simp at g;simp only[ae,aC] at h;obtain⟨xv,l,ys,N,⟨v,e'⟩,hv,h⟩:=h;cases v with
    | sl o1 z1 I=>
     simp only at h;split at h
     ·rename_i hc
      obtain⟨rfl,rfl,F,ad⟩:=hc;cases h;have O:=bt hI hx l;have U:∀z I,xv≠ .sl true z I:=λz I he=>by
       subst he;cases x with
       |t n=>simp only[ai,aE] at l;obtain⟨q,_,hq⟩:=l;cases q<;>simp[degr] at hq
       |c q=>simp only[ai,bW] at l;cases q<;>simp[degr] at l
       |f id=>simp[ai] at l
      obtain⟨A2,c2,b2,o2,aA,al,aa,E,ap,Q,T⟩:=xh hI O U N F;obtain⟨M1,ao,k1,hr,_,aD,ax⟩:=pW hI hs hv;have B:∀y∈ys,co y=true:=by simpa using F
      obtain⟨r,M2,w2,h1,h2,k2⟩:=DP (P:=P) (ty:=ty) (ys:=ys) ao R hi L (by rw[m];exact g) aj aj (by rw[m];exact hr) aa (by rw[m,Nat.mul_one];exact E) ap
       (λy D=>by rw[(xm (B y D)).1,m];rfl) (λy D=>(xm (B y D)).2.2) (λj u R=>⟨trivial,Q j u R⟩)
       (λk y j p D H=>by
        rw[(xm (B y (aL D))).1] at H;have hj:j=0:=by
         cases j with
         |zero=>rfl
         |succ j=>simp at H
        subst hj;simp at H;subst H;obtain⟨u,e1,e2⟩:=T k y D;exact⟨u,by rw[m,Nat.mul_one,cG];exact e1,e2.mono k1.ext⟩) (by rw[ab];exact ad) X
      rw[m] at h2;refine⟨.value r,r,M2,w2,?_,.inl rfl,by rw[show av=some d from hd];exact h2,k1.trans k2⟩;simp[execOp,resolve,j9,builtin,al,h1]
     ·cases h
    |_=>cases h
   ·cases g
  |_=>simp[mOp] at g
 |_=>simp[mOp] at g
end
end
section
open Go.RowKit
section
variable {fi:FI} {M M':Mem} {w w':World} {P:Program} {s s':St} {a:Act} {cf:CallF}
theorem OwnRep.tail {l:Loc} {f:fw} {v:Value} (h:OwnRep fi M w l 1 f v) {a:Nat} (n:a<=f.length) :
  ∃A c,v= .slice A f.length c/\f.length<=c/\OwnRep fi M w l 1 (f.drop a) (.slice (if c=a then A else A.map (·.add (a*1))) (f.length-a) (c-a)):=by
 obtain⟨q,m⟩:=h;obtain⟨A,c,d,u⟩:=(RepP.repE q).slC;refine⟨A,c,d,u,?_,?_⟩
 ·rw[d] at q
  have:=wE (l:=a) (h:=f.length) (RepP.repE q) n (cW _) u
  rwa [List.take_length] at this
 ·rcases m with m|⟨b,o,r,x,e,m,s,t,B,y,j,i,hn⟩
  ·left
   rw[m] at d;simp only[Value.slice.injEq] at d;obtain⟨rfl,p,rfl⟩:=d;have:a=0:=aj;subst this;simp[<-p]
  ·right
   rw[m] at d;simp only[Value.slice.injEq] at d;obtain⟨rfl,-,rfl⟩:=d;rw[List.length_drop];by_cases g:r=a
   ·rw[if_pos g]
    exact⟨b,o,r-a,x,e,rfl,s,t,aj,λk p z=>aj,j,i,hn⟩
   ·rw[if_neg g]
    refine⟨b,o+a*1,r-a,x,e,by simp[Addr.add],s,t,aj,λk p z=>y k aj aj,j,i,hn⟩
end
end
end Go.Lw