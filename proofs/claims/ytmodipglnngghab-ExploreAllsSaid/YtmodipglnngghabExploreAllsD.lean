/-
  The texts that the proof stands on, part 4.
-/
import Derived.Test.YtmodipglnngghabExploreAllsC
set_option linter.unusedVariables false
set_option linter.unusedSimpArgs false
set_option linter.unnecessarySimpa false

set_option maxRecDepth 100000
set_option maxHeartbeats 4000000
namespace Go.Lw
open Go
section
variable {R:Type} {α:Type} {r:R}
theorem ee {x:Option α} {f:α->Option R} (h:ob x f=some r):∃a,x=some a/\f a=some r:=by
 cases x with
 |none=>cases h
 |some a=>exact⟨a,rfl,h⟩
theorem dH {b:Bool} {x:Option R} (h:gd b x=some r):b=true/\x=some r:=by
 cases b with
 |false=>cases h
 |true=>exact⟨rfl,h⟩
theorem gq {b:Bool} {x:Option R} (h:gb b x=some r):b=true/\x=some r:=by
 cases b with
 |false=>cases h
 |true=>exact⟨rfl,h⟩
theorem lS {k k':IntKind} {x:Option R} (h:kE k k' x=some r):k=k'/\x=some r:=by obtain⟨h1,h2⟩:=gq h;refine⟨?_,h2⟩;cases k<;>cases k'<;>simp[nJ] at h1 ⊢
theorem z8 {k:IntKind} {v:PV} {f:Int->Option R} (h:unI k v f=some r):∃n,v= .int k n/\f n=some r:=by
 cases v<;>simp only[unI] at h<;>try (cases h;done)
 obtain⟨rfl,h2⟩:=lS h;exact⟨_,rfl,h2⟩
theorem nO {a b:Nat} (h:¬a=b):Nat.beq a b=false:=by
 cases hb:Nat.beq a b with
 |true=>exact absurd (Nat.eq_of_beq_eq_true hb) h
 |false=>rfl
theorem cn:∀(e:List (Nat×PV)) (t:Nat),fG e t=get e t
 |[],_=>rfl
 | (a,v)::l,t=>by
  simp only[fG,get];by_cases h:a=t
  ·subst h;simp
  ·have:Nat.beq a t=false:=nO h
   rw[this,if_neg h];exact cn l t
theorem cr:∀(e:List (Nat×PV)) (t:Nat) (v:PV) (k:List (Nat×PV)->Option R),ez e t v k=k (Lw.put e t v)
 |[],_,_,_=>rfl
 | (a,u)::l,t,v,k=>by
  simp only[ez,Lw.put];by_cases h:a=t
  ·subst h;simp
  ·have:Nat.beq a t=false:=nO h
   rw[this,if_neg h];exact cr l t v _
theorem cX:∀(l:List α) (v:α) (k:List α->Option R),nK l v k=k (l++[v])
 |[],_,_=>rfl
 |u::l,v,k=>cX l v λl=>k (u::l)
theorem cY:∀(l:List α) (i:Nat) (v:α) (k:List α->Option R),lP l i v k=k (l.set i v)
 |[],_,_,_=>rfl
 |_::_,0,_,_=>rfl
 |u::l,i+1,v,k=>cY l i v λl=>k (u::l)
theorem cx:∀(l:List α) (i:Nat),jh l i=l[i]?
 |[],_=>rfl
 |_::_,0=>rfl
 |_::l,i+1=>by rw[jh,cx l i];rfl
theorem lT:∀(n:Nat) (l:List α) (k:List α->Option R),jQ n l k=k (l.take n)
 |0,_,_=>by simp[jQ]
 |n+1,[],k=>by simp[jQ]
 |n+1,u::l,k=>lT n l λl=>k (u::l)
theorem ct (e:List (Nat×PV)) (x:IX):evX e x=aj e x:=by cases x<;>simp only[evX,aj];rw[cn];cases get e _<;>rfl
theorem db (e:List (Nat×PV)) (x:IX):evK e x=gA e x:=by cases x<;>simp only[evK,gA];rw[cn];cases get e _<;>rfl
theorem jS {e:List (Nat×PV)}:∀{l:List IX} {k:List PV->Option R},iF e l k=some r->∃vs,dn e l=some vs/\k vs=some r
 |[],k,h=>⟨[],rfl,h⟩
 | x::l,k,h=>by
  simp only[iF,ct] at h;split at h
  ·rename_i v hv
   obtain⟨vs,h1,h2⟩:=jS h;exact⟨v::vs,by simp[dn,hv,h1],h2⟩
  ·cases h
theorem kJ {e:List (Nat×PV)} {x:IX} {k:PV->List (Nat×PV)->Option R} (h:tkX e x k=some r):∃v e',dW e x=some (v,e')/\k v e'=some r:=by
 cases x with
 | t n=>
  simp only[tkX,cn] at h;split at h
  ·rename_i v hv
   rw[cr] at h;exact⟨v,_,by simp[dW,hv],h⟩
  ·cases h
 |c v=>exact⟨v,e,rfl,h⟩
 |f id=>exact⟨_,e,rfl,h⟩
theorem cU (s:St) (d:Nat) (v:PV) (k:St->Option R):fp s d v k=k (s.put d v):=by unfold fp;rw[cr];rfl
theorem dc (s:St) (d:Nat) (g:Bool) (cs:List PV) (k:St->Option R):kI s d g cs k=k (gZ s d g cs):=by cases g<;>simp[kI,cr,cX,gZ,St.newBox,St.put]
theorem z9 {op:BinOp} {a b:PV} {f:PV->Option R} (h:nN op a b f=some r):∃v,f0 op a b=some v/\f v=some r:=by
 unfold nN at h;split at h
 ·rename_i k x k' y
  cases op<;>simp only at h
  case shl=>
   obtain⟨h1,h2⟩:=dH h;simp only[aH] at h1;exact⟨_,by simp only[f0];rw[if_neg (by omega)];rfl,h2⟩
  case shr=>
   obtain⟨h1,h2⟩:=dH h;simp only[aH] at h1;exact⟨_,by simp only[f0];rw[if_neg (by omega)];rfl,h2⟩
  case quo=>
   obtain⟨rfl,h'⟩:=lS h;obtain⟨h1,h2⟩:=dH h';simp only[aH] at h1;exact⟨_,by simp only[f0,if_true];rw[if_neg h1],h2⟩
  case rem=>
   obtain⟨rfl,h'⟩:=lS h;obtain⟨h1,h2⟩:=dH h';simp only[aH] at h1;exact⟨_,by simp only[f0,if_true];rw[if_neg h1],h2⟩
  all_goals first
   |exact ee h
   | (obtain⟨rfl,h2⟩:=lS h
      exact⟨_,by simp only[f0,if_true,fS,iOr,jg],h2⟩)
 ·cases op<;>simp only at h
  case eql=>exact⟨_,rfl,h⟩
  case neq=>exact⟨_,rfl,h⟩
  all_goals exact ee h
 ·cases h
theorem Aa {op:UnOp} {a:PV} {f:PV->Option R} (h:unX op a f=some r):∃v,lj op a=some v/\f v=some r:=by
 unfold unX at h;split at h
 ·exact⟨_,rfl,h⟩
 ·exact⟨_,rfl,h⟩
 ·exact⟨_,rfl,h⟩
 ·cases h
theorem lU {v:PV} {f:Int->Option R} (h:jP v f=some r):∃k n,v= .int k n/\f n=some r:=by
 cases v<;>simp only[jP] at h<;>try (cases h;done)
 exact⟨_,_,rfl,h⟩
theorem kK {v:PV} {f:Bool->Option R} (h:unB v f=some r):∃n,v= .bool n/\f n=some r:=by
 cases v<;>simp only[unB] at h<;>try (cases h;done)
 exact⟨_,rfl,h⟩
theorem sH {v:PV} {f:ByteArray->Option R} (h:unS v f=some r):∃n,v= .str n/\f n=some r:=by
 cases v<;>simp only[unS] at h<;>try (cases h;done)
 exact⟨_,rfl,h⟩
theorem Ab {v:PV} {f:Nat->Nat->Option R} (h:unG v f=some r):∃b o,v= .ptr true b o/\f b o=some r:=by
 unfold unG at h;split at h
 ·exact⟨_,_,rfl,h⟩
 ·cases h
theorem Ac {z:Nat} {v:PV} {f:List PV->Option R} (h:unO z v f=some r):∃xs,v= .sl true z xs/\f xs=some r:=by
 unfold unO at h;split at h
 ·obtain⟨hz,h2⟩:=gq h
  have hz:=Nat.eq_of_beq_eq_true hz;subst hz;exact⟨_,rfl,h2⟩
 ·cases h
theorem nP:∀{n:Nat} {l:List PV} {g:List PV->Option R},unN n l (jO n g)=some r->g l=some r
 |0,[],_,h=>h
 |0,_::_,_,h=>nomatch (show (none:Option R)=some r from h)
 |n+1,[],_,h=>nomatch (show (none:Option R)=some r from h)
 |n+1,c::l,g,h=>nP (n:=n) (l:=l) (g:=λl=>g (c::l)) h
theorem Ad {n:Nat} {v:PV} {g:List PV->Option R} (h:unA n v (jO n g)=some r):∃cs,v= .agg cs/\g cs=some r:=by
 unfold unA at h;split at h
 ·exact⟨_,rfl,nP h⟩
 ·cases h
theorem Ae {n:Nat} {v:PV} {g:List PV->Option R} (h:unT n v (jO n g)=some r):∃cs,v= .tup cs/\g cs=some r:=by
 unfold unT at h;split at h
 ·exact⟨_,rfl,nP h⟩
 ·cases h
theorem sI {v:PV} {x:Option R} (h:isC v x=some r):v.cells=[v]/\x=some r:=by cases v<;>simp[isC,PV.cells] at * <;>exact h
theorem Af {v:PV} {x:Option R} (h:onK v x=some r):v.one=true/\x=some r:=by
 cases v with
 |agg cs=>cases h
 |und=>cases h
 |tup=>cases h
 |arr z n=>cases h
 |junk=>cases h
 |ptr g b o=>cases g with
  |true=>exact⟨rfl,h⟩
  |false=>cases h
 |bs g b o n z=>cases g with
  |true=>exact⟨rfl,h⟩
  |false=>cases h
 |_=>exact⟨rfl,h⟩
theorem lV:∀{l:List PV} {x:Option R},arL l x=some r->l.all PV.one=true/\x=some r
 |[],x,h=>⟨rfl,h⟩
 |c::l,x,h=>by obtain⟨h1,h2⟩:=Af (show onK c (arL l x)=some r from h);obtain⟨h3,h4⟩:=lV h2;exact⟨by simp[h1,h3],h4⟩
theorem gr {v:PV} {x:Option R} (h:arK v x=some r):ak v=true/\x=some r:=by
 cases v with
 |agg cs=>exact lV h
 |und=>cases h
 |tup=>cases h
 |arr z n=>cases h
 |junk=>cases h
 |ptr g b o=>cases g with
  |true=>exact⟨rfl,h⟩
  |false=>cases h
 |bs g b o n z=>cases g with
  |true=>exact⟨rfl,h⟩
  |false=>cases h
 |_=>exact⟨rfl,h⟩
theorem ig:∀{l:List PV} {x:Option R},ed l x=some r->l.all ak=true/\x=some r
 |[],x,h=>⟨rfl,h⟩
 |c::l,x,h=>by obtain⟨h1,h2⟩:=gr (show arK c (ed l x)=some r from h);obtain⟨h3,h4⟩:=ig h2;exact⟨by simp[h1,h3],h4⟩
theorem lenB_eq:∀(l:List PV) (n:Nat),gK l n=decide (l.length=n)
 |[],0=>rfl
 |[],n+1=>by simp[gK]
 |_::_,0=>by simp[gK]
 |_::l,n+1=>by simp[gK,lenB_eq l n]
theorem sJ:∀(l:List PV) (n:Nat),geB l n=decide (n<=l.length)
 |[],0=>by simp[geB]
 |_::_,0=>by simp[geB]
 |[],n+1=>by simp[geB]
 |_::l,n+1=>by simp[geB,sJ l n]
theorem stOk_iff {k off:Nat} {cs old:List PV}:dv k off cs old=true↔cs.length=k/\off+k<=old.length:=by simp[dv,lenB_eq,sJ]
theorem Ag {z:Nat} {v:PV} {x:Option R} (h:lnK z v x=some r):v.cells.length=z/\x=some r:=by
 cases v with
 |agg cs=>
  obtain⟨h1,h2⟩:=gq (show gb (gK cs z) x=some r from h);rw[lenB_eq] at h1;exact⟨by simpa [PV.cells] using h1,h2⟩
 |_=>
  obtain⟨h1,h2⟩:=gq (show gb (Nat.beq 1 z) x=some r from h);exact⟨by simpa [PV.cells] using Nat.eq_of_beq_eq_true h1,h2⟩
theorem sK {z:Nat}:∀{l:List PV} {x:Option R},slK z l x=some r->(l.all λv=>ak v&&v.cells.length==z)=true/\x=some r
 |[],x,h=>⟨rfl,h⟩
 |c::l,x,h=>by obtain⟨h1,h2⟩:=gr (show arK c (lnK z c (slK z l x))=some r from h);obtain⟨h3,h4⟩:=Ag h2;obtain⟨h5,h6⟩:=sK h4;exact⟨by simp only[List.all_cons,h1,h3,beq_self_eq_true,Bool.and_self,h5],h6⟩
theorem Ah {nl:Nat} {v:PV} {x:Option R} (h:stK nl v x=some r):bh nl v=true/\x=some r:=by
 cases v with
 | ptr g b o=>cases g with
  |true=>exact⟨rfl,h⟩
  |false=>
   obtain⟨h1,h2⟩:=gq (show gb (Nat.ble (b+1) nl) x=some r from h);exact⟨by simp only[bh,aH];exact Nat.le_of_ble_eq_true h1,h2⟩
 | bs g b o n z=>cases g with
  |true=>exact⟨rfl,h⟩
  |false=>
   obtain⟨h1,h2⟩:=gq (show gb (Nat.ble (b+1) nl) x=some r from h);exact⟨by simp only[bh,aH];exact Nat.le_of_ble_eq_true h1,h2⟩
 |_=>exact⟨rfl,h⟩
theorem sM {c:Ce} {v:PV} {f:PV->Option R} (h:lN c v f=some r):f v=some r:=by
 cases c<;>simp only[lN] at h
 ·exact h
 ·exact (sI h).2
 ·obtain⟨n,e,h2⟩:=z8 h;rw[e];exact h2
 ·obtain⟨n,e,h2⟩:=kK h;rw[e];exact h2
 ·obtain⟨n,e,h2⟩:=sH h;rw[e];exact h2
 ·obtain⟨n,o,e,h2⟩:=Ab h;rw[e];exact h2
 ·obtain⟨n,e,h2⟩:=Ac h;rw[e];exact h2
theorem sN:∀{cs:List Ce} {vs:List PV} {f:List PV->Option R},kH cs vs f=some r->f vs=some r
 |[],[],_,h=>h
 |[],_::_,_,h=>by simp[kH] at h
 |_::_,[],_,h=>by simp[kH] at h
 |c::cs,v::vs,f,h=>sN (cs:=cs) (vs:=vs) (f:=λvs=>f (v::vs)) (sM h)
theorem Ai {h:Sh} {v:PV} {f:PV->Option R} (hh:cast h v f=some r):f v=some r:=by
 cases h with
 |raw=>exact hh
 |ce c=>exact sM hh
 |agg l=>
  obtain⟨cs,rfl,h2⟩:=Ad hh;exact sN h2
 |tup n=>
  obtain⟨cs,rfl,h2⟩:=Ae hh;exact h2
theorem iH {h:Sh} {v:PV} {f:List PV->Option R} (hh:iG h v f=some r):f v.cells=some r:=by
 cases h<;>simp only[iG] at hh<;>try exact hh
 obtain⟨h1,h2⟩:=sI hh;rw[h1];exact h2
theorem dz {an:Tr} {s:St} {d:Nat} {v:PV} {k:St->Option R} (h:eX an s d v k=some r):k (s.put d v)=some r:=by
 have:=Ai h
 rwa [cU] at this
theorem lW {an:Tr} {s:St} {d:Option Nat} {v:PV} {k:St->Option R} (h:ji an s d v k=some r):k ⟨fj s.env d v,s.lh,s.gh⟩=some r:=by
 cases d with
 |none=>exact h
 |some d=>exact dz h
theorem lX {gh:List GObj} {b:Nat} {cs:List PV} (h:av gh b=some cs):gh[b]?=some (.cells cs):=by
 unfold av at h;split at h
 ·rename_i hg;cases h;exact hg
 ·cases h
theorem nQ {gh:List GObj} {b:Nat} {cs:List (PV×PV)} (h:ie gh b=some cs):gh[b]?=some (.map cs):=by
 unfold ie at h;split at h
 ·rename_i hg;cases h;exact hg
 ·cases h
theorem Aj {s:St} {agg:Bool} {k:Nat} {p:PV} {f:PV->Option R} (h:ldX s.lh s.gh agg k p f=some r) :
  (∃g b off cs v,p= .ptr g b off/\s.cellsAt g b=some cs/\ar agg k off cs=some v/\f (degr v)=some r)\/(∃e off v,p= .ep e off/\ar agg k off e.cells=some v/\f v=some r):=by
 unfold ldX at h;simp only[cx] at h;split at h
 ·split at h
  ·rename_i cs hc
   split at h
   ·rename_i v h1
    exact .inl ⟨_,_,_,cs,v,rfl,by simp[St.cellsAt,hc],h1,h⟩
   ·cases h
  ·cases h
 ·obtain⟨cs,h1,h2⟩:=ee h
  obtain⟨v,h3,h4⟩:=ee h2;exact .inl ⟨_,_,_,cs,v,rfl,by simp[St.cellsAt,lX h1],h3,h4⟩
 ·obtain⟨v,h3,h4⟩:=ee h
  exact .inr ⟨_,_,v,rfl,h3,h4⟩
 ·cases h
theorem lY {s:St} {p:PV} {kk:Nat} {cs:List PV} {k:St->Option R} (h:lQ s p kk cs k=some r) :
  ∃g b off old,p= .ptr g b off/\s.cellsAt g b=some old/\(cs.length=kk/\off+kk<=old.length)/\k (s.setCells g b (ay old off cs))=some r:=by
 unfold lQ at h;simp only[cx,cY] at h;split at h
 ·split at h
  ·rename_i old hc
   obtain⟨h1,h2⟩:=gq h;exact⟨_,_,_,old,rfl,by simp[St.cellsAt,hc],stOk_iff.1 h1,by simpa [St.setCells] using h2⟩
  ·cases h
 ·obtain⟨old,h1,h2⟩:=ee h
  obtain⟨h3,h4⟩:=gq h2;exact⟨_,_,_,old,rfl,by simp[St.cellsAt,lX h1],stOk_iff.1 h3,by simpa [St.setCells] using h4⟩
 ·cases h
theorem sO {an:Tr} {e:List (Nat×PV)}:∀{ps:List (Nat×Nat×IX)} {z:List PV} {f:List PV->Option R},psX an e ps z f=some r->
  ∃vs cs,fN e ps=some vs/\(vs.all λp=>ak p.2.2)=true/\gf z vs=some cs/\f cs=some r
 |[],z,f,h=>⟨[],z,rfl,rfl,rfl,h⟩
 | (off,k,x)::l,z,f,h=>by
  simp only[psX,ct] at h;split at h
  ·rename_i v hv
   obtain⟨h1,h2⟩:=gr h;obtain⟨h3,h4⟩:=gq (iH h2);obtain⟨vs,cs,e1,e2,e3,e4⟩:=sO h4;refine⟨(off,k,v)::vs,cs,by simp[fN,hv,e1],by simp only[List.all_cons,h1,e2,Bool.and_self],?_,e4⟩;simp only[gf];rw[if_pos (stOk_iff.1 h3)];exact e3
  ·cases h
theorem sP {an:Tr}:∀{ps:List (Nat×Nat×IX)} {e:List (Nat×PV)} {z:List PV} {f:List (Nat×PV)->List PV->Option R},psT an e ps z f=some r->
  ∃vs e' cs,gg e ps=some (vs,e')/\(vs.all λp=>ak p.2.2)=true/\gf z vs=some cs/\f e' cs=some r
 |[],e,z,f,h=>⟨[],e,z,rfl,rfl,rfl,h⟩
 |(off,k,x)::l,e,z,f,h=>by simp only[psT] at h;obtain⟨v,e1,hv,h⟩:=kJ h;obtain⟨h1,h2⟩:=gr h;obtain⟨h3,h4⟩:=gq (iH h2);obtain⟨vs,e',cs,e1,e2,e3,e4⟩:=sP h4;refine⟨(off,k,v)::vs,e',cs,by simp[gg,hv,e1],by simp only[List.all_cons,h1,e2,Bool.and_self],?_,e4⟩;simp only[gf];rw[if_pos (stOk_iff.1 h3)];exact e3
theorem sS {e:List (Nat×PV)} {x:Option IX} {f:Option Int->Option R} (h:boX e x f=some r):∃i,f i=some r/\∀(d n:Nat),(∃g,bd (R:=Nat) d i g=some n/\g=some)->dE e d x=some n:=by
 cases x with
 |none=>
  refine⟨none,h,?_⟩;rintro d n ⟨g,hg,rfl⟩;simp only[bd] at hg;exact hg
 | some x=>
  simp only[boX,ct] at h;split at h
  ·rename_i v hv
   obtain⟨k,i,rfl,h2⟩:=lU h;refine⟨some i,h2,?_⟩;rintro d n ⟨g,hg,rfl⟩;simp only[bd] at hg;obtain⟨h3,h4⟩:=dH hg;simp only[aH] at h3;simp only[dE,hv,if_pos h3];exact h4
  ·cases h
theorem ii {d:Nat} {x:Option Int} {f:Nat->Option R} (h:bd d x f=some r):∃n,f n=some r/\bd d x (some:Nat->Option Nat)=some n:=by
 cases x with
 |none=>exact⟨d,h,rfl⟩
 |some i=>
  obtain⟨h1,h2⟩:=dH (b:=decide (0<=i)) h;exact⟨_,h2,by simp only[bd,h1,gd0]⟩
theorem nR {gh:List GObj} {q:Bool} {x:Option (PV×List GObj)} {f:PV->List GObj->Option R} (h:callR gh q x f=some r):∃v gh',x=some (v,gh')/\(q=true->gh'=gh)/\f v gh'=some r:=by
 unfold callR at h;split at h
 ·rename_i v gh'
  split at h
  ·split at h
   ·rename_i hg;exact⟨v,gh',rfl,λ_=>hg,by rw[hg];exact h⟩
   ·cases h
  ·exact⟨v,gh',rfl,⟨(λhh=>nomatch hh),h⟩⟩
 ·cases h
theorem Ak {v:PV} {f:Nat->List PV->(List PV->List PV)->Option R} (h:fnY v f=some r):∃i cs,(v= .fn i cs/\f i cs (λvs=>vs++cs)=some r)\/(v= .bfn i cs/\f i cs (λvs=>cs++vs)=some r):=by
 cases v<;>simp only[fnY] at h<;>try (cases h;done)
 ·exact⟨_,_,.inl ⟨rfl,h⟩⟩
 ·exact⟨_,_,.inr ⟨rfl,h⟩⟩
theorem nT {cf:CallF} {s:St} {d:Option Nat} {q:Bool} {f:Nat} {vs:List PV} {v:PV} {gh':List GObj} (h1:vs.all ak=true) (h2:cf f vs s.gh=some (v,gh')) (h3:q=true->gh'=s.gh) :
  eh cf s d q f vs=some ⟨fj s.env d v,s.lh,gh'⟩:=by
 unfold eh;rw[if_pos h1,h2];simp only;cases q with
 |true=>rw[h3 rfl];simp
 |false=>simp
theorem Al {gh gh':List GObj} {v:PV} {x:Option R} (h:kbX gh gh' v x=some r):((∃o z l,v= .sl o z l)\/∃b,((∃o,v= .ptr true b o)\/(∃g i,v= .pstk b g i)\/(∃g n,v= .stk b g n))/\(b<gh.length/\gh'[b]?=gh[b]?))/\x=some r:=by
 unfold kbX at h;split at h
 all_goals first
  | (split at h
     ·rename_i hb
      first
      |exact⟨.inr ⟨_,.inl ⟨_,rfl⟩,hb⟩,h⟩
      |exact⟨.inr ⟨_,.inr (.inl ⟨_,_,rfl⟩),hb⟩,h⟩
      |exact⟨.inr ⟨_,.inr (.inr ⟨_,_,rfl⟩),hb⟩,h⟩
     ·cases h)
  |exact⟨.inl ⟨_,_,_,rfl⟩,h⟩
  |cases h
theorem sT {e:List (Nat×PV)} {gh gh':List GObj} {x:Option R}:∀{ns:List Nat},kpX e gh gh' ns x=some r->(∀n∈ns,keptB e gh gh' n)/\x=some r
 |[],h=>⟨nofun,h⟩
 | n::l,h=>by
  simp only[kpX,cn] at h;split at h
  ·rename_i v hv
   obtain⟨hs,h⟩:=Al h;obtain⟨h1,h2⟩:=sT h;refine⟨?_,h2⟩;intro m hm;rcases List.mem_cons.mp hm with rfl|hm
   ·unfold keptB
    rw[hv];rcases hs with ⟨_,_,_,rfl⟩|⟨b,hs,hb⟩
    ·trivial
    ·rcases hs with ⟨o,rfl⟩|⟨g,i,rfl⟩|⟨g,i,rfl⟩<;>exact hb
   ·exact h1 m hm
  ·cases h
theorem Am {cf:CallF} {an:Tr} {s:St} {k:St->Option R} {tk:Bool} {kk:Nat} {a x:IX} (h:(match tk with|true=>q1p cf an s k kk a x|false=>q1q cf an s k kk a x)=some r):∃s',ae cf s (.store tk kk a x)=some s'/\k s'=some r:=by
 cases tk with
 | true=>
  simp only[q1p,ct] at h;split at h
  ·rename_i p hp
   obtain⟨v,e,hv,h⟩:=kJ h;obtain⟨h1,h2⟩:=gr h;obtain⟨g,b,off,old,rfl,h3,h4,h5⟩:=lY (iH h2);refine⟨_,?_,h5⟩;simp only[ae,hp,if_true,hv,cB,h3];rw[if_pos ⟨h4.1,h4.2,h1⟩]
  ·cases h
 | false=>
  simp only[q1q,ct] at h;split at h
  ·rename_i p v hp hv
   obtain⟨h1,h2⟩:=gr h;obtain⟨g,b,off,old,rfl,h3,h4,h5⟩:=lY (iH h2);refine⟨_,?_,h5⟩;simp only[ae,hp,bO,if_false,hv,cB,h3];rw[if_pos ⟨h4.1,h4.2,h1⟩]
  ·cases h
theorem Ao {cf:CallF} {an:Tr} {s:St} {k:St->Option R} {tk:Bool} {kk:Nat} {a x:IX} {ns:List Nat} (h:qas cf an s k tk kk a x ns=some r):∃s',ae cf s (.storeP tk kk a x ns)=some s'/\k s'=some r:=by obtain⟨s',h1,h2⟩:=Am (tk:=tk) h;obtain⟨h5,h6⟩:=sT h2;refine⟨s',?_,h6⟩;have h1':qD s tk kk a x=some s':=h1;simp only[ae,h1',cB];rw[if_pos h5]
theorem Ap {cf:CallF} {an:Tr} {s:St} {k:St->Option R} {d:Nat} {agg:Bool} {kk:Nat} {a:IX} {n:Nat} (h:q5b cf an s k d agg kk a n=some r):∃s',ae cf s (.loadB d agg kk a n)=some s'/\k s'=some r:=by
 simp only[q5b,ct,cn] at h;split at h
 ·rename_i p q hp hq
  unfold lbX at h;split at h
  ·obtain⟨h1,h⟩:=dH h
   obtain⟨cs,h2,h⟩:=ee h;obtain⟨v,h3,h4⟩:=ee h;refine⟨_,?_,dz h4⟩;simp only[ae,hp,hq];rw[if_pos (by simpa only[aH] using h1)];simp[St.cellsAt,lX h2,h3]
  ·obtain⟨v,h3,h4⟩:=ee h
   refine⟨_,?_,dz h4⟩;simp only[ae,hp,hq];simp[h3]
  ·cases h
 ·cases h
theorem nU {cf:CallF} {an:Tr} {s:St} {o:IOp} {k:St->Option R} (h:opX cf an s o k=some r):∃s',ae cf s o=some s'/\k s'=some r:=by
 cases o with
 |callP=>simp[opX] at h
 |storeP=>exact Ao h
 |callR=>simp[opX] at h
 |appendE=>simp[opX] at h
 |loadKB=>simp[opX] at h
 |loadTB=>simp[opX] at h
 |loadB=>exact Ap h
 |loadJ=>simp[opX] at h
 |appendP=>simp[opX] at h
 |mkarr=>simp[opX] at h
 |buildA=>simp[opX] at h
 |boxSl=>simp[opX] at h
 |mv d x=>
  simp only[opX,q9z,cn,ct,db,cr,cU,dc,cx,cY,cX] at h;split at h
  ·rename_i v hv;exact⟨_,by simp[ae,hv],dz h⟩
  ·cases h
 | tkS d n lo=>
  simp only[opX,qa1,cn,ct,db,cr,cU,dc,cx,cY,cX] at h;split at h
  ·rename_i v hv
   unfold lR at h;simp only at h;split at h
   ·rename_i xs
    split at h
    ·rename_i hlo
     exact⟨_,by simp only[ae,hv];rw[if_pos hlo],by simpa only[cr] using h⟩
    ·cases h
   ·cases h
  ·cases h
 |tk d n=>
  simp only[opX,qa0,cn,ct,db,cr,cU,dc,cx,cY,cX] at h;split at h
  ·rename_i v hv;exact⟨_,by simp[ae,hv],h⟩
  ·cases h
 | pick d c x y=>
  simp only[opX,qa2,cn,ct,db,cr,cU,dc,cx,cY,cX] at h;split at h
  ·rename_i c' v w hc hv hw
   obtain⟨b,rfl,h⟩:=kK h;cases b with
   |true=>exact⟨_,by simp[ae,hc,hv],dz h⟩
   |false=>exact⟨_,by simp[ae,hc,hw],dz h⟩
  ·cases h
 | box d g tk x=>
  cases tk with
  |true=>
   simp only[opX,q59,q5a,cn,ct,db,cr,cU,dc,cx,cY,cX] at h;obtain⟨v,e,hv,h⟩:=kJ h;obtain⟨h1,h2⟩:=gr h;exact⟨_,by simp[ae,hv,h1],iH h2⟩
  | false=>
   simp only[opX,q59,q5a,cn,ct,db,cr,cU,dc,cx,cY,cX] at h;split at h
   ·rename_i v hv
    obtain⟨h1,h2⟩:=gr h;exact⟨_,by simp[ae,hv,h1],iH h2⟩
   ·cases h
 |alloc d g z=>
  simp only[opX,qa3,cn,ct,db,cr,cU,dc,cx,cY,cX] at h;obtain⟨h1,h2⟩:=gr h;exact⟨_,by simp[ae,h1],h2⟩
 |build d z ps=>
  simp only[opX,qa4,cn,ct,db,cr,cU,dc,cx,cY,cX] at h;obtain⟨h1,h2⟩:=lV h;obtain⟨vs,cs,e1,e2,e3,e4⟩:=sO h2;refine⟨_,?_,e4⟩;simp only[ae,e1,cB];rw[if_pos ⟨e2,h1⟩,e3];rfl
 |buildT d z ps=>
  simp only[opX,qa5,cn,ct,db,cr,cU,dc,cx,cY,cX] at h;obtain⟨h1,h2⟩:=lV h;obtain⟨vs,e',cs,e1,e2,e3,e4⟩:=sP h2;refine⟨_,?_,e4⟩;simp only[ae,e1,cB];rw[if_pos ⟨e2,h1⟩,e3];rfl
 |buildSl d z els=>
  simp only[opX,qa6,cn,ct,db,cr,cU,dc,cx,cY,cX] at h;obtain⟨vs,hv,h⟩:=jS h;obtain⟨h1,h2⟩:=sK h;refine⟨_,?_,h2⟩;simp only[ae,hv,cB];rw[if_pos h1]
 | load d agg kk a=>
  simp only[opX,qa7,cn,ct,db,cr,cU,dc,cx,cY,cX] at h;split at h
  ·rename_i p hp
   rcases Aj h with ⟨g,b,off,cs,v,rfl,h1,h2,h3⟩|⟨e,off,v,rfl,h1,h2⟩
   ·exact⟨_,by simp[ae,hp,h1,h2],dz h3⟩
   ·exact⟨_,by simp[ae,hp,h1],dz h2⟩
  ·cases h
 | loadT d a=>
  simp only[opX,qa8,cn,ct,db,cr,cU,dc,cx,cY,cX] at h;split at h
  ·rename_i b off hp
   split at h
   ·rename_i cs hc
    obtain⟨v,h1,h2⟩:=ee h;exact⟨_,by simp[ae,hp,St.cellsAt,hc,h1,St.setCells,St.put],h2⟩
   ·cases h
  ·rename_i b off hp
   obtain⟨cs,h0,h⟩:=ee h;obtain⟨v,h1,h2⟩:=ee h;exact⟨_,by simp[ae,hp,St.cellsAt,lX h0,h1,St.setCells,St.put],h2⟩
  ·cases h
 |loadL=>simp[opX] at h
 | store tk kk a x=>
  cases tk with
  | true=>
   simp only[opX,q1p,q1q,cn,ct,db,cr,cU,dc,cx,cY,cX] at h;split at h
   ·rename_i p hp
    obtain⟨v,e,hv,h⟩:=kJ h;obtain⟨h1,h2⟩:=gr h;obtain⟨g,b,off,old,rfl,h3,h4,h5⟩:=lY (iH h2);refine⟨_,?_,h5⟩;simp only[ae,hp,if_true,hv,cB,h3];rw[if_pos ⟨h4.1,h4.2,h1⟩]
   ·cases h
  | false=>
   simp only[opX,q1p,q1q,cn,ct,db,cr,cU,dc,cx,cY,cX] at h;split at h
   ·rename_i p v hp hv
    obtain⟨h1,h2⟩:=gr h;obtain⟨g,b,off,old,rfl,h3,h4,h5⟩:=lY (iH h2);refine⟨_,?_,h5⟩;simp only[ae,hp,bO,if_false,hv,cB,h3];rw[if_pos ⟨h4.1,h4.2,h1⟩]
   ·cases h
 | nilc d x=>
  simp only[opX,qa9,cn,ct,db,cr,cU,dc,cx,cY,cX] at h;split at h
  ·rename_i p hp
   obtain⟨h1,h2⟩:=dH h;refine⟨_,?_,dz h2⟩;cases p<;>simp[sG] at h1<;>simp[ae,hp]
  ·cases h
 | bin d op x y=>
  simp only[opX,qaa,cn,ct,db,cr,cU,dc,cx,cY,cX] at h;split at h
  ·rename_i a b ha hb
   obtain⟨v,h1,h2⟩:=z9 h;exact⟨_,by simp[ae,ha,hb,h1],dz h2⟩
  ·cases h
 | eqa d neg ks x y=>
  simp only[opX,qab,cn,ct,db,cr,cU,dc,cx,cY,cX] at h;split at h
  ·rename_i a b ha hb
   obtain⟨v,h1,h2⟩:=ee h;refine⟨s.put d (.bool (if neg then !v else v)),by simp only[ae,ha,hb,h1,cC],?_⟩;cases neg<;>exact h2
  ·cases h
 | eqb d neg x y=>
  simp only[opX,qac,cn,ct,db,cr,cU,dc,cx,cY,cX] at h;split at h
  ·rename_i a b ha hb
   obtain⟨a',rfl,h2⟩:=kK h;obtain⟨b',rfl,h3⟩:=kK h2;refine⟨s.put d (.bool (if neg then a' !=b' else a'==b')),by simp only[ae,ha,hb],?_⟩;cases neg<;>exact h3
  ·cases h
 |eqn=>simp[opX] at h
 | un d op x=>
  simp only[opX,qad,cn,ct,db,cr,cU,dc,cx,cY,cX] at h;split at h
  ·rename_i a ha
   obtain⟨v,h1,h2⟩:=Aa h;exact⟨_,by simp[ae,ha,h1],dz h2⟩
  ·cases h
 |conv=>simp[opX] at h
 |mkfn d f caps=>
  simp only[opX,qae,cn,ct,db,cr,cU,dc,cx,cY,cX] at h;obtain⟨vs,hv,h⟩:=jS h;obtain⟨h1,h2⟩:=ig h;refine⟨_,?_,h2⟩;simp only[ae,hv,cB];rw[if_pos h1]
 |loadG=>simp[opX] at h
 |boxB=>simp[opX] at h
 |mkbld=>simp[opX] at h
 |mkmap d=>
  simp only[opX,qaf,cr] at h;exact⟨_,rfl,h⟩
 | mksl d g z bytes zero l=>
  simp only[opX,qag,cn,ct,db,cr,cU,dc,cx,cY,cX] at h;split at h
  ·rename_i v hv
   obtain⟨k',n,rfl,h⟩:=lU h;obtain⟨h1,h2⟩:=dH h;cases g with
   |true=>
    refine⟨_,by simp only[ae,hv];rw[if_pos (by simpa only[eP,aH] using h1)],?_⟩;exact h2
   | false=>
    obtain⟨h3,h4⟩:=dH h2;refine⟨s.put d (.sl true z (List.replicate n.toNat zero)),?_,?_⟩
    ·simp only[ae,hv]
     rw[if_pos (by simpa only[eP,aH] using h1)];simp only[if_pos h3]
    ·exact h4
  ·cases h
 | slice d z x lo hi=>
  simp only[opX,qah,cn,ct,db,cr,cU,dc,cx,cY,cX] at h;split at h
  ·rename_i v hv
   obtain⟨i,h,hlo⟩:=sS h;obtain⟨j,h,hhi⟩:=sS h;unfold slX at h;split at h
   ·rename_i o z' xs
    obtain⟨m,h,h1⟩:=ii h;obtain⟨l,h,h2⟩:=ii h;obtain⟨h3,h4⟩:=dH h;refine⟨_,?_,dz h4⟩;simp only[ae,hv,hhi _ _ ⟨_,h1,rfl⟩,hlo _ _ ⟨_,h2,rfl⟩,cB];rw[if_pos (by simpa only[aH] using h3)]
   ·rename_i g b off n z'
    obtain⟨m,h,h1⟩:=ii h;obtain⟨l,h,h2⟩:=ii h;obtain⟨h3,h4⟩:=dH h;refine⟨_,?_,dz h4⟩;simp only[ae,hv,hhi _ _ ⟨_,h1,rfl⟩,hlo _ _ ⟨_,h2,rfl⟩,cB];rw[if_pos (by simpa only[aH] using h3)]
   ·rename_i b gen n
    split at h
    ·obtain⟨m,h,h1⟩:=ii h
     obtain⟨h3,h4⟩:=dH h;refine⟨_,?_,dz h4⟩;have hlo0:lo.isNone=true:=by
      cases lo with
      |none=>rfl
      |some y=>
       have q1:=hlo 0 0 ⟨_,rfl,rfl⟩;have q2:dE s.env 0 (some y)=some 1:=hlo 1 1 ⟨_,rfl,rfl⟩;rw[q1] at q2;cases q2
     simp only[ae,hv,hhi _ _ ⟨_,h1,rfl⟩,hlo0,cB,if_true];rw[if_pos (by simpa only[aH] using h3)]
    ·obtain⟨m,h,h1⟩:=ii h
     obtain⟨l,h,h2⟩:=ii h;obtain⟨h3,h4⟩:=dH h;refine⟨_,?_,dz h4⟩;have e1:=hlo _ _ ⟨_,h2,rfl⟩;have hlo0:lo.isNone=false:=by
      cases lo with
      |some y=>rfl
      |none=>
       exfalso;have h2':bd 1 (some _) _=some _:=h2;have e2:dE s.env 1 none=some l:=hlo 1 l ⟨_,h2',rfl⟩;simp only[dE] at e1 e2;rw[<-e1] at e2;cases e2
     simp only[ae,hv,hhi _ _ ⟨_,h1,rfl⟩,e1,hlo0,cB];rw[if_neg (by decide)];rw[if_pos (by simpa only[aH] using h3)]
   ·rename_i b gen off n
    obtain⟨m,h,h1⟩:=ii h;obtain⟨l,h,h2⟩:=ii h;obtain⟨h3,h4⟩:=dH h;refine⟨_,?_,dz h4⟩;simp only[ae,hv,hhi _ _ ⟨_,h1,rfl⟩,hlo _ _ ⟨_,h2,rfl⟩,cB];rw[if_pos (by simpa only[aH] using h3)]
   ·cases h
  ·cases h
 |sliceS=>simp[opX] at h
 | faddr d x off=>
  simp only[opX,qai,cn,ct,db,cr,cU,dc,cx,cY,cX] at h;split at h
  ·rename_i p hp
   unfold faX at h;split at h
   ·exact⟨_,by simp only[ae,hp],dz h⟩
   ·exact⟨_,by simp only[ae,hp],dz h⟩
   ·cases h
  ·cases h
 |field=>simp[opX] at h
 | iaddr d z arr x i=>
  simp only[opX,qaj,cn,ct,db,cr,cU,dc,cx,cY,cX] at h;split at h
  ·rename_i iv v hi hv
   obtain⟨k',n,rfl,h⟩:=lU h;unfold idX at h;split at h
   ·obtain⟨h1,h2⟩:=dH h
    obtain⟨e,h3,h4⟩:=ee h2;refine⟨_,?_,dz h4⟩;simp only[ae,hi,hv];rw[if_pos (by simpa only[aH] using h1),h3];rfl
   ·obtain⟨h1,h2⟩:=dH h
    refine⟨_,?_,dz h2⟩;simp only[ae,hi,hv];rw[if_pos (by simpa only[aH] using h1)]
   ·obtain⟨h1,h2⟩:=dH h
    refine⟨_,?_,dz h2⟩;simp only[ae,hi,hv];rw[if_pos (by simpa only[aH] using h1)]
   ·obtain⟨h1,h2⟩:=dH h
    refine⟨_,?_,dz h2⟩;simp only[ae,hi,hv];rw[if_pos (by simpa only[aH] using h1)]
   ·obtain⟨h1,h2⟩:=dH h
    refine⟨_,?_,dz h2⟩;simp only[ae,hi,hv];rw[if_pos (by simpa only[aH] using h1)]
   ·obtain⟨h1,h2⟩:=dH h
    refine⟨_,?_,dz h2⟩;simp only[ae,hi,hv];rw[if_pos (by simpa only[aH] using h1)]
   ·cases h
  ·cases h
 | index d z arr agg x i=>
  simp only[opX,qak,cn,ct,db,cr,cU,dc,cx,cY,cX] at h;split at h
  ·rename_i iv v hi hv
   obtain⟨k',n,rfl,h⟩:=lU h;unfold ixX at h;split at h
   ·obtain⟨h1,h2⟩:=dH h
    obtain⟨e,h3,h4⟩:=ee h2;refine⟨_,?_,dz h4⟩;simp only[ae,hi,hv];rw[if_pos (by simpa only[aH] using h1),h3];rfl
   ·cases h
  ·cases h
 |indexS=>simp[opX] at h
 | lookup d kn m kx ok zero=>
  simp only[opX,qal,cn,ct,db,cr,cU,dc,cx,cY,cX] at h;split at h
  ·rename_i mv kv hm hk
   unfold lkX at h;split at h
   ·rename_i b
    obtain⟨es,h1,h⟩:=ee h;obtain⟨h2,h⟩:=dH h;obtain⟨u,h3,h⟩:=ee h;have h1':=nQ h1;cases u with
    |none=>
     refine⟨_,?_,dz h⟩;simp only[ae,hm,hk,h1',h2,h3,Bool.true_eq_false,if_false];cases ok<;>rfl
    |some u=>
     refine⟨_,?_,dz h⟩;simp only[ae,hm,hk,h1',h2,h3,Bool.true_eq_false,if_false];cases ok<;>rfl
   ·cases h
  ·cases h
 | mupd kn m kx x=>
  simp only[opX,qam,cn,ct,db,cr,cU,dc,cx,cY,cX] at h;split at h
  ·rename_i mv kv v hm hk hv
   unfold muX at h;split at h
   ·rename_i b
    obtain⟨es,h1,h⟩:=ee h;obtain⟨h2,h⟩:=dH h;obtain⟨u,h3,h⟩:=ee h;have h1':=nQ h1;simp only[aX] at h2;refine⟨_,?_,h⟩;simp only[ae,hm,hk,hv,h1'];rw[if_pos ⟨h2.1,h2.2.1,h2.2.2⟩,h3];rfl
   ·cases h
  ·cases h
 |call d q f xs=>
  simp only[opX,qan] at h;obtain⟨vs,hv,h⟩:=jS h;obtain⟨h1,h⟩:=ig h;obtain⟨v,gh',h2,h3,h4⟩:=nR h;refine⟨_,?_,lW h4⟩;simp only[ae,hv,cB];exact nT h1 h2 h3
 | cally d x xs=>
  simp only[opX,qap,cn,ct,db,cr,cU,dc,cx,cY,cX] at h;split at h
  ·rename_i w hw
   obtain⟨vs,hv,h⟩:=jS h;unfold ylC at h;simp only at h;split at h
   ·rename_i b
    split at h
    ·rename_i y caps hb
     obtain⟨h1,h⟩:=ig h;obtain⟨h2,h⟩:=ig h;split at h
     ·rename_i gh' hc
      refine⟨_,?_,lW h⟩;simp only[ae,hw,hv,cB,doY,hb];rw[if_pos (by rw[List.all_append,h1,h2];rfl),hc]
     ·cases h
    ·cases h
   ·cases h
  ·cases h
 | callv d q fv xs=>
  simp only[opX,qao,cn,ct,db,cr,cU,dc,cx,cY,cX] at h;split at h
  ·rename_i w hw
   obtain⟨vs,hv,h⟩:=jS h;obtain⟨f,caps,⟨rfl,h⟩|⟨rfl,h⟩⟩:=Ak h
   ·obtain⟨h1,h⟩:=ig h
    obtain⟨h1',h⟩:=ig h;obtain⟨v,gh',h2,h3,h4⟩:=nR h;refine⟨_,?_,lW h4⟩;simp only[ae,hw,hv,cB];exact nT (by rw[List.all_append,h1,h1'];rfl) h2 h3
   ·obtain⟨h1,h⟩:=ig h
    obtain⟨h1',h⟩:=ig h;obtain⟨v,gh',h2,h3,h4⟩:=nR h;refine⟨_,?_,lW h4⟩;simp only[ae,hw,hv,cB];exact nT (by rw[List.all_append,h1,h1'];rfl) h2 h3
  ·cases h
 |callF=>simp[opX] at h
 |callE=>simp[opX] at h
 |loadN=>simp[opX] at h
 | len d kd x=>
  match kd with
  | 0=>
   simp only[opX,q3k,q3l,q3m,cn,ct,db,cr,cU,dc,cx,cY,cX] at h;split at h
   ·rename_i v hv
    unfold a9 at h;split at h
    ·exact⟨_,by simp only[ae,hv],h⟩
    ·exact⟨_,by simp only[ae,hv],h⟩
    ·exact⟨_,by simp only[ae,hv],h⟩
    ·exact⟨_,by simp only[ae,hv],h⟩
    ·exact⟨_,by simp only[ae,hv],h⟩
    ·cases h
   ·cases h
  | 1=>
   simp only[opX,q3k,q3l,q3m,cn,ct,db,cr,cU,dc,cx,cY,cX] at h;split at h
   ·rename_i v hv
    obtain⟨b,rfl,h⟩:=sH h;exact⟨_,by simp only[ae,hv],h⟩
   ·cases h
  | 2=>
   simp only[opX,q3k,q3l,q3m,cn,ct,db,cr,cU,dc,cx,cY,cX] at h;split at h
   ·rename_i v hv
    unfold jR at h;split at h
    ·obtain⟨es,h1,h⟩:=ee h
     exact⟨_,by simp only[ae,hv,nQ h1],h⟩
    ·cases h
   ·cases h
  |n+3=>simp[opX] at h
 | append d z bytes sx x=>
  simp only[opX,qaq,cn,ct,db,cr,cU,dc,cx,cY,cX] at h;split at h
  ·rename_i w hw
   obtain⟨v,e,hv,h⟩:=kJ h;unfold apX at h;split at h
   ·obtain⟨h1,h2⟩:=dH h
    refine⟨_,?_,h2⟩;simp only[ae,hw,hv,cB];rw[if_pos (by simpa only[aH] using h1)]
   ·cases h
  ·cases h
 |appendK=>simp[opX] at h
 |storeK=>simp[opX] at h
 |clearK=>simp[opX] at h
 |mkbf=>simp[opX] at h
 |appendN=>simp[opX] at h
 |loadH=>simp[opX] at h
 |loadK=>simp[opX] at h
 |buildSlK=>simp[opX] at h
 |maxi=>simp[opX] at h
 | extract d x i=>
  simp only[opX,qar,cn,ct,db,cr,cU,dc,cx,cY,cX] at h;split at h
  ·rename_i v hv
   unfold exX at h;split at h
   ·obtain⟨u,h1,h2⟩:=ee h
    exact⟨_,by simp[ae,hv,h1],dz h2⟩
   ·cases h
  ·cases h
theorem Aq (s:St) (o:IOp) (k:St->Option R):skX s o k=k (dY s o):=by
 unfold skX dY;cases bi o with
 |none=>rfl
 |some d=>simp only[cU]
theorem jj {cf:CallF} {an:Tr}:∀{l:List IOpG} {s:St} {k:St->Option R},go cf an l s k=some r->∃s',dp cf l s=some s'/\k s'=some r
 |[],s,k,h=>⟨s,rfl,h⟩
 |⟨o,none⟩::l,s,k,h=>by simp only[go] at h;obtain⟨s1,h1,h2⟩:=nU h;obtain⟨s2,h3,h4⟩:=jj h2;exact⟨s2,by simp only[dp,h1,cB];exact h3,h4⟩
 | ⟨o,some (g,want)⟩::l,s,k,h=>by
  have key:∀b,get s.env g=some (.bool b)->s.put g (.bool b)=s:=by
   intro b hb;have:∀(e:List (Nat×PV)),get e g=some (.bool b)->Lw.put e g (.bool b)=e:=by
    intro e
    induction e with
    |nil=>intro h;simp[get] at h
    |cons a e ih=>
     obtain⟨x,v⟩:=a;intro h;simp only[get] at h;simp only[Lw.put];split at h
     ·rename_i hx;cases h;rw[if_pos hx,hx]
     ·rename_i hx;rw[if_neg hx,ih h]
   simp only[St.put,this s.env hb]
  simp only[go,cn,Aq] at h;simp only[dp];split at h
  ·rename_i b hb
   cases b with
   | true=>
    simp only[br,cU] at h;rw[key true hb] at h;cases want with
    |true=>
     simp only at h;obtain⟨s1,h1,h2⟩:=nU h;obtain⟨s2,h3,h4⟩:=jj h2;exact⟨s2,by simp only[hb,if_true,h1,cB];exact h3,h4⟩
    |false=>
     simp only at h;obtain⟨s2,h3,h4⟩:=jj h;exact⟨s2,by simp only[hb,Bool.true_eq_false,if_false];exact h3,h4⟩
   | false=>
    simp only[br,cU] at h;rw[key false hb] at h;cases want with
    |true=>
     simp only at h;obtain⟨s2,h3,h4⟩:=jj h;exact⟨s2,by simp only[hb,bO,if_false];exact h3,h4⟩
    |false=>
     simp only at h;obtain⟨s1,h1,h2⟩:=nU h;obtain⟨s2,h3,h4⟩:=jj h2;exact⟨s2,by simp only[hb,if_true,h1,cB];exact h3,h4⟩
  ·rename_i hb
   obtain⟨s2,h3,h4⟩:=jj h;exact⟨s2,by simp only[hb];exact h3,h4⟩
  ·cases h
theorem lZ {nl:Nat}:∀{ks:List Nat} {e:List (Nat×PV)} {f:List (Nat×PV)->Option R},fT nl ks e f=some r->f (keep nl ks e)=some r
 |[],_,_,h=>h
 | t::l,e,f,h=>by
  simp only[fT,cn] at h;simp only[keep];split at h
  ·rename_i v hv
   obtain⟨h1,h2⟩:=Ah h;simp only[hv,h1,if_true];exact lZ (f:=λe'=>f ((t,v)::e')) h2
  ·rename_i hv
   simp only[hv];exact lZ h
theorem nV {x:Option (ag×St)} {k:ag->St->Option R} (h:kR x k=some r):∃e s,x=some (e,s)/\k e s=some r:=by
 unfold kR at h;split at h
 ·exact⟨_,_,rfl,h⟩
 ·cases h
theorem Ar {pg:Prg} {an:Tr}:∀{c:ICode} {s:St} {k:ag->St->Option R},fe pg an c s k=some r->∃e s',ab pg c s=some (e,s')/\k e s'=some r:=by
 intro c
 induction c with
 |skip=>intro s k h;exact⟨_,_,vZ pg s,h⟩
 |region ops d=>
  intro s k h;obtain⟨s',h1,h2⟩:=jj (show go (ac pg) an ops s (k .normal)=some r from h);exact⟨_,_,by rw[wc,h1];rfl,h2⟩
 | seq a b iha ihb=>
  intro s k h;obtain⟨e,s1,h1,h2⟩:=iha (show fe pg an a s _=some r from h);rw[wg,h1];cases e with
  |normal=>
   obtain⟨e2,s2,h3,h4⟩:=ihb (show fe pg an b s1 k=some r from h2);exact⟨e2,s2,h3,h4⟩
  |exit i=>exact⟨_,_,rfl,h2⟩
  |ret=>exact⟨_,_,rfl,h2⟩
 | cond x a b iha ihb=>
  intro s k h;simp only[fe,ct] at h;split at h
  ·rename_i v hv
   obtain⟨c,rfl,h2⟩:=kK h;rw[we,hv];cases c with
   |true=>exact iha h2
   |false=>exact ihb h2
  ·cases h
 | block id a iha=>
  intro s k h;obtain⟨e,s1,h1,h2⟩:=iha (show fe pg an a s _=some r from h);rw[ki,h1];cases e with
  |normal=>exact⟨_,_,rfl,h2⟩
  | exit i=>
   simp only[bk] at h2;simp only;by_cases hi:i=id
   ·subst hi
    rw[if_pos rfl];simp only[Nat.beq_refl,br] at h2;exact⟨_,_,rfl,h2⟩
   ·have:Nat.beq i id=false:=nO hi
    rw[this] at h2;rw[if_neg hi];exact⟨_,_,rfl,h2⟩
  |ret=>exact⟨_,_,rfl,h2⟩
 |loop a _=>intro s k h;exact nV (show kR (ab pg (.loop a) s) k=some r from h)
 |rangeF g y ks=>intro s k h;exact nV (show kR (ab pg (.rangeF g y ks) s) k=some r from h)
 |exit i=>intro s k h;exact⟨_,_,wa pg s i,h⟩
 |ret=>intro s k h;exact⟨_,_,wb pg s,h⟩
 | post a ks nl iha=>
  intro s k h;obtain⟨e,s1,h1,h2⟩:=iha (show fe pg an a s _=some r from h);rw[iZ,h1];cases e with
  |normal=>
   simp only[po,lT] at h2;exact⟨_,_,rfl,lZ h2⟩
  |exit i=>exact⟨_,_,rfl,h2⟩
  |ret=>exact⟨_,_,rfl,h2⟩
 | lift a ks t iha=>
  intro s k h;obtain⟨e,s1,h1,h2⟩:=iha (show fe pg an a s _=some r from h);rw[wh,h1];cases e with
  | normal=>
   simp only[lfK,cn,cx,lT,cr] at h2;split at h2
   ·rename_i b hb
    split at h2
    ·rename_i cs hcs
     obtain⟨h3,h4⟩:=gq h2;exact⟨_,_,by simp only[kg,hb,hcs];rw[if_pos (Nat.eq_of_beq_eq_true h3)];rfl,lZ h4⟩
    ·cases h2
   ·cases h2
  |exit i=>exact⟨_,_,rfl,h2⟩
  |ret=>exact⟨_,_,rfl,h2⟩
 |bad=>
  intro s k h;exact absurd (show (none:Option _)=some r from h) (by simp)
 |cut a _=>
  intro s k h;rw[wj];exact nV (show kR (ab pg a s) k=some r from h)
theorem af {pg:Prg} (an:Tr) {c:ICode} {s:St} {e:ag} {s':St} (h:fe pg an c s (λe s=>some (e,s))=some (e,s')):ab pg c s=some (e,s'):=by obtain⟨e1,s1,h1,h2⟩:=Ar h;cases h2;exact h1
theorem KR {pg:Prg} (an:Tr) {c:ICode} {s:St} {D:DR} {e:ag} {s':St} (h:D=some (e,s')) (k:fe pg an c s (λe s=>some (e,s))=D):ab pg c s=some (e,s'):=af an (k.trans h)
end
end Go.Lw