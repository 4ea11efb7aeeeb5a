/-
  The texts that the proof stands on, part 4.
-/
import Derived.Test.YtmodipglnngghacGreatDoorExploreFindsC
set_option linter.unusedVariables false
set_option linter.unusedSimpArgs false
set_option linter.unnecessarySimpa false

set_option maxRecDepth 100000
set_option maxHeartbeats 4000000
namespace Go.Lw
open Go
section
variable {R:Type} {α:Type} {r:R}
theorem ef {x:Option α} {f:α->Option R} (h:ob x f=some r):∃a,x=some a/\f a=some r:=by
 cases x with
 |none=>cases h
 |some a=>exact⟨a,rfl,h⟩
theorem dt {b:Bool} {x:Option R} (h:gd b x=some r):b=true/\x=some r:=by
 cases b with
 |false=>cases h
 |true=>exact⟨rfl,h⟩
theorem fD {b:Bool} {x:Option R} (h:gb b x=some r):b=true/\x=some r:=by
 cases b with
 |false=>cases h
 |true=>exact⟨rfl,h⟩
theorem kX {k k':IntKind} {x:Option R} (h:kE k k' x=some r):k=k'/\x=some r:=by obtain⟨h1,h2⟩:=fD h;refine⟨?_,h2⟩;cases k<;>cases k'<;>simp[mI] at h1 ⊢
theorem yB {k:IntKind} {v:PV} {f:Int->Option R} (h:unI k v f=some r):∃n,v= .int k n/\f n=some r:=by
 cases v<;>simp only[unI] at h<;>try (cases h;done)
 obtain⟨rfl,h2⟩:=kX h;exact⟨_,rfl,h2⟩
theorem mN {a b:Nat} (h:¬a=b):Nat.beq a b=false:=by
 cases hb:Nat.beq a b with
 |true=>exact absurd (Nat.eq_of_beq_eq_true hb) h
 |false=>rfl
theorem b9:∀(e:List (Nat×PV)) (t:Nat),fg e t=get e t
 |[],_=>rfl
 | (a,v)::l,t=>by
  simp only[fg,get];by_cases h:a=t
  ·subst h;simp
  ·have:Nat.beq a t=false:=mN h
   rw[this,if_neg h];exact b9 l t
theorem ci:∀(e:List (Nat×PV)) (t:Nat) (v:PV) (k:List (Nat×PV)->Option R),dQ e t v k=k (Lw.put e t v)
 |[],_,_,_=>rfl
 | (a,u)::l,t,v,k=>by
  simp only[dQ,Lw.put];by_cases h:a=t
  ·subst h;simp
  ·have:Nat.beq a t=false:=mN h
   rw[this,if_neg h];exact ci l t v _
theorem cr:∀(l:List α) (v:α) (k:List α->Option R),mK l v k=k (l++[v])
 |[],_,_=>rfl
 |u::l,v,k=>cr l v λl=>k (u::l)
theorem ct:∀(l:List α) (i:Nat) (v:α) (k:List α->Option R),kU l i v k=k (l.set i v)
 |[],_,_,_=>rfl
 |_::_,0,_,_=>rfl
 |u::l,i+1,v,k=>ct l i v λl=>k (u::l)
theorem cn:∀(l:List α) (i:Nat),iu l i=l[i]?
 |[],_=>rfl
 |_::_,0=>rfl
 |_::l,i+1=>by rw[iu,cn l i];rfl
theorem kY:∀(n:Nat) (l:List α) (k:List α->Option R),ji n l k=k (l.take n)
 |0,_,_=>by simp[ji]
 |n+1,[],k=>by simp[ji]
 |n+1,u::l,k=>kY n l λl=>k (u::l)
theorem ck (e:List (Nat×PV)) (x:IX):evX e x=ai e x:=by cases x<;>simp only[evX,ai];rw[b9];cases get e _<;>rfl
theorem cx (e:List (Nat×PV)) (x:IX):evK e x=fN e x:=by cases x<;>simp only[evK,fN];rw[b9];cases get e _<;>rfl
theorem jk {e:List (Nat×PV)}:∀{l:List IX} {k:List PV->Option R},gR e l k=some r->∃vs,cv e l=some vs/\k vs=some r
 |[],k,h=>⟨[],rfl,h⟩
 | x::l,k,h=>by
  simp only[gR,ck] at h;split at h
  ·rename_i v hv
   obtain⟨vs,h1,h2⟩:=jk h;exact⟨v::vs,by simp[cv,hv,h1],h2⟩
  ·cases h
theorem jP {e:List (Nat×PV)} {x:IX} {k:PV->List (Nat×PV)->Option R} (h:tkX e x k=some r):∃v e',dD e x=some (v,e')/\k v e'=some r:=by
 cases x with
 | t n=>
  simp only[tkX,b9] at h;split at h
  ·rename_i v hv
   rw[ci] at h;exact⟨v,_,by simp[dD,hv],h⟩
  ·cases h
 |c v=>exact⟨v,e,rfl,h⟩
 |f id=>exact⟨_,e,rfl,h⟩
theorem co (s:St) (d:Nat) (v:PV) (k:St->Option R):eZ s d v k=k (s.put d v):=by unfold eZ;rw[ci];rfl
theorem cy (s:St) (d:Nat) (g:Bool) (cs:List PV) (k:St->Option R):jO s d g cs k=k (gk s d g cs):=by cases g<;>simp[jO,ci,cr,gk,St.newBox,St.put]
theorem yC {op:BinOp} {a b:PV} {f:PV->Option R} (h:mM op a b f=some r):∃v,fp op a b=some v/\f v=some r:=by
 unfold mM at h;split at h
 ·rename_i k x k' y
  cases op<;>simp only at h
  case shl=>
   obtain⟨h1,h2⟩:=dt h;simp only[aH] at h1;exact⟨_,by simp only[fp];rw[if_neg (by omega)];rfl,h2⟩
  case shr=>
   obtain⟨h1,h2⟩:=dt h;simp only[aH] at h1;exact⟨_,by simp only[fp];rw[if_neg (by omega)];rfl,h2⟩
  case quo=>
   obtain⟨rfl,h'⟩:=kX h;obtain⟨h1,h2⟩:=dt h';simp only[aH] at h1;exact⟨_,by simp only[fp,if_true];rw[if_neg h1],h2⟩
  case rem=>
   obtain⟨rfl,h'⟩:=kX h;obtain⟨h1,h2⟩:=dt h';simp only[aH] at h1;exact⟨_,by simp only[fp,if_true];rw[if_neg h1],h2⟩
  all_goals first
   |exact ef h
   | (obtain⟨rfl,h2⟩:=kX h
      exact⟨_,by simp only[fp,if_true,gt,iOr,kQ],h2⟩)
 ·cases op<;>simp only at h
  case eql=>exact⟨_,rfl,h⟩
  case neq=>exact⟨_,rfl,h⟩
  all_goals exact ef h
 ·cases h
theorem yD {op:UnOp} {a:PV} {f:PV->Option R} (h:unX op a f=some r):∃v,ke op a=some v/\f v=some r:=by
 unfold unX at h;split at h
 ·exact⟨_,rfl,h⟩
 ·exact⟨_,rfl,h⟩
 ·exact⟨_,rfl,h⟩
 ·cases h
theorem kZ {v:PV} {f:Int->Option R} (h:jh v f=some r):∃k n,v= .int k n/\f n=some r:=by
 cases v<;>simp only[jh] at h<;>try (cases h;done)
 exact⟨_,_,rfl,h⟩
theorem mO {v:PV} {f:Bool->Option R} (h:unB v f=some r):∃n,v= .bool n/\f n=some r:=by
 cases v<;>simp only[unB] at h<;>try (cases h;done)
 exact⟨_,rfl,h⟩
theorem rn {v:PV} {f:ByteArray->Option R} (h:unS v f=some r):∃n,v= .str n/\f n=some r:=by
 cases v<;>simp only[unS] at h<;>try (cases h;done)
 exact⟨_,rfl,h⟩
theorem yE {v:PV} {f:Nat->Nat->Option R} (h:unG v f=some r):∃b o,v= .ptr true b o/\f b o=some r:=by
 unfold unG at h;split at h
 ·exact⟨_,_,rfl,h⟩
 ·cases h
theorem yF {z:Nat} {v:PV} {f:List PV->Option R} (h:unO z v f=some r):∃xs,v= .sl true z xs/\f xs=some r:=by
 unfold unO at h;split at h
 ·obtain⟨hz,h2⟩:=fD h
  have hz:=Nat.eq_of_beq_eq_true hz;subst hz;exact⟨_,rfl,h2⟩
 ·cases h
theorem yG {v:PV} {f:Bool->Option R} (h:mJ v f=some r):(v= .nilI/\f true=some r)\/(v= .someI/\f false=some r):=by
 cases v<;>simp only[mJ] at h<;>try (cases h;done)
 ·exact .inl ⟨rfl,h⟩
 ·exact .inr ⟨rfl,h⟩
theorem mP:∀{n:Nat} {l:List PV} {g:List PV->Option R},unN n l (jg n g)=some r->g l=some r
 |0,[],_,h=>h
 |0,_::_,_,h=>nomatch (show (none:Option R)=some r from h)
 |n+1,[],_,h=>nomatch (show (none:Option R)=some r from h)
 |n+1,c::l,g,h=>mP (n:=n) (l:=l) (g:=λl=>g (c::l)) h
theorem yH {n:Nat} {v:PV} {g:List PV->Option R} (h:unA n v (jg n g)=some r):∃cs,v= .agg cs/\g cs=some r:=by
 unfold unA at h;split at h
 ·exact⟨_,rfl,mP h⟩
 ·cases h
theorem yI {n:Nat} {v:PV} {g:List PV->Option R} (h:unT n v (jg n g)=some r):∃cs,v= .tup cs/\g cs=some r:=by
 unfold unT at h;split at h
 ·exact⟨_,rfl,mP h⟩
 ·cases h
theorem ro {v:PV} {x:Option R} (h:isC v x=some r):v.cells=[v]/\x=some r:=by cases v<;>simp[isC,PV.cells] at * <;>exact h
theorem yJ {v:PV} {x:Option R} (h:onK v x=some r):v.one=true/\x=some r:=by
 cases v with
 |agg cs=>cases h
 |und=>cases h
 |tup=>cases h
 |arr z n=>cases h
 |junk=>cases h
 |ptr g b o=>cases g with
  |true=>exact⟨rfl,h⟩
  |false=>cases h
 |bs g b o n z=>cases g with
  |true=>exact⟨rfl,h⟩
  |false=>cases h
 |_=>exact⟨rfl,h⟩
theorem k6:∀{l:List PV} {x:Option R},arL l x=some r->l.all PV.one=true/\x=some r
 |[],x,h=>⟨rfl,h⟩
 |c::l,x,h=>by obtain⟨h1,h2⟩:=yJ (show onK c (arL l x)=some r from h);obtain⟨h3,h4⟩:=k6 h2;exact⟨by simp[h1,h3],h4⟩
theorem fE {v:PV} {x:Option R} (h:arK v x=some r):ah v=true/\x=some r:=by
 cases v with
 |agg cs=>exact k6 h
 |und=>cases h
 |tup=>cases h
 |arr z n=>cases h
 |junk=>cases h
 |ptr g b o=>cases g with
  |true=>exact⟨rfl,h⟩
  |false=>cases h
 |bs g b o n z=>cases g with
  |true=>exact⟨rfl,h⟩
  |false=>cases h
 |_=>exact⟨rfl,h⟩
theorem gv:∀{l:List PV} {x:Option R},dG l x=some r->l.all ah=true/\x=some r
 |[],x,h=>⟨rfl,h⟩
 |c::l,x,h=>by obtain⟨h1,h2⟩:=fE (show arK c (dG l x)=some r from h);obtain⟨h3,h4⟩:=gv h2;exact⟨by simp[h1,h3],h4⟩
theorem lenB_eq:∀(l:List PV) (n:Nat),fV l n=decide (l.length=n)
 |[],0=>rfl
 |[],n+1=>by simp[fV]
 |_::_,0=>by simp[fV]
 |_::l,n+1=>by simp[fV,lenB_eq l n]
theorem rq:∀(l:List PV) (n:Nat),geB l n=decide (n<=l.length)
 |[],0=>by simp[geB]
 |_::_,0=>by simp[geB]
 |[],n+1=>by simp[geB]
 |_::l,n+1=>by simp[geB,rq l n]
theorem stOk_iff {k off:Nat} {cs old:List PV}:db k off cs old=true↔cs.length=k/\off+k<=old.length:=by simp[db,lenB_eq,rq]
theorem yK {z:Nat} {v:PV} {x:Option R} (h:lnK z v x=some r):v.cells.length=z/\x=some r:=by
 cases v with
 |agg cs=>
  obtain⟨h1,h2⟩:=fD (show gb (fV cs z) x=some r from h);rw[lenB_eq] at h1;exact⟨by simpa [PV.cells] using h1,h2⟩
 |_=>
  obtain⟨h1,h2⟩:=fD (show gb (Nat.beq 1 z) x=some r from h);exact⟨by simpa [PV.cells] using Nat.eq_of_beq_eq_true h1,h2⟩
theorem rr {z:Nat}:∀{l:List PV} {x:Option R},slK z l x=some r->(l.all λv=>ah v&&v.cells.length==z)=true/\x=some r
 |[],x,h=>⟨rfl,h⟩
 |c::l,x,h=>by obtain⟨h1,h2⟩:=fE (show arK c (lnK z c (slK z l x))=some r from h);obtain⟨h3,h4⟩:=yK h2;obtain⟨h5,h6⟩:=rr h4;exact⟨by simp only[List.all_cons,h1,h3,beq_self_eq_true,Bool.and_self,h5],h6⟩
theorem yL {nl:Nat} {v:PV} {x:Option R} (h:stK nl v x=some r):bo nl v=true/\x=some r:=by
 cases v with
 | ptr g b o=>cases g with
  |true=>exact⟨rfl,h⟩
  |false=>
   obtain⟨h1,h2⟩:=fD (show gb (Nat.ble (b+1) nl) x=some r from h);exact⟨by simp only[bo,aH];exact Nat.le_of_ble_eq_true h1,h2⟩
 | bs g b o n z=>cases g with
  |true=>exact⟨rfl,h⟩
  |false=>
   obtain⟨h1,h2⟩:=fD (show gb (Nat.ble (b+1) nl) x=some r from h);exact⟨by simp only[bo,aH];exact Nat.le_of_ble_eq_true h1,h2⟩
 |_=>exact⟨rfl,h⟩
theorem rt {c:Ce} {v:PV} {f:PV->Option R} (h:kS c v f=some r):f v=some r:=by
 cases c<;>simp only[kS] at h
 ·exact h
 ·exact (ro h).2
 ·obtain⟨n,e,h2⟩:=yB h;rw[e];exact h2
 ·obtain⟨n,e,h2⟩:=mO h;rw[e];exact h2
 ·obtain⟨n,e,h2⟩:=rn h;rw[e];exact h2
 ·obtain⟨n,o,e,h2⟩:=yE h;rw[e];exact h2
 ·obtain⟨n,e,h2⟩:=yF h;rw[e];exact h2
theorem ru:∀{cs:List Ce} {vs:List PV} {f:List PV->Option R},jN cs vs f=some r->f vs=some r
 |[],[],_,h=>h
 |[],_::_,_,h=>by simp[jN] at h
 |_::_,[],_,h=>by simp[jN] at h
 |c::cs,v::vs,f,h=>ru (cs:=cs) (vs:=vs) (f:=λvs=>f (v::vs)) (rt h)
theorem yM {h:Sh} {v:PV} {f:PV->Option R} (hh:cast h v f=some r):f v=some r:=by
 cases h with
 |raw=>exact hh
 |ce c=>exact rt hh
 |agg l=>
  obtain⟨cs,rfl,h2⟩:=yH hh;exact ru h2
 |tup n=>
  obtain⟨cs,rfl,h2⟩:=yI hh;exact h2
theorem gU {h:Sh} {v:PV} {f:List PV->Option R} (hh:gS h v f=some r):f v.cells=some r:=by
 cases h<;>simp only[gS] at hh<;>try exact hh
 obtain⟨h1,h2⟩:=ro hh;rw[h1];exact h2
theorem dk {an:Tr} {s:St} {d:Nat} {v:PV} {k:St->Option R} (h:eD an s d v k=some r):k (s.put d v)=some r:=by
 have:=yM h
 rwa [co] at this
theorem k7 {an:Tr} {s:St} {d:Option Nat} {v:PV} {k:St->Option R} (h:ix an s d v k=some r):k ⟨eo s.env d v,s.lh,s.gh⟩=some r:=by
 cases d with
 |none=>exact h
 |some d=>exact dk h
theorem mQ {gh:List GObj} {b:Nat} {cs:List PV} (h:ao gh b=some cs):gh[b]?=some (.cells cs):=by
 unfold ao at h;split at h
 ·rename_i hg;cases h;exact hg
 ·cases h
theorem mR {gh:List GObj} {b:Nat} {cs:List (PV×PV)} (h:gu gh b=some cs):gh[b]?=some (.map cs):=by
 unfold gu at h;split at h
 ·rename_i hg;cases h;exact hg
 ·cases h
theorem yN {s:St} {agg:Bool} {k:Nat} {p:PV} {f:PV->Option R} (h:ldX s.lh s.gh agg k p f=some r) :
  (∃g b off cs v,p= .ptr g b off/\s.cellsAt g b=some cs/\aq agg k off cs=some v/\f (degr v)=some r)\/(∃e off v,p= .ep e off/\aq agg k off e.cells=some v/\f v=some r):=by
 unfold ldX at h;simp only[cn] at h;split at h
 ·split at h
  ·rename_i cs hc
   split at h
   ·rename_i v h1
    exact .inl ⟨_,_,_,cs,v,rfl,by simp[St.cellsAt,hc],h1,h⟩
   ·cases h
  ·cases h
 ·obtain⟨cs,h1,h2⟩:=ef h
  obtain⟨v,h3,h4⟩:=ef h2;exact .inl ⟨_,_,_,cs,v,rfl,by simp[St.cellsAt,mQ h1],h3,h4⟩
 ·obtain⟨v,h3,h4⟩:=ef h
  exact .inr ⟨_,_,v,rfl,h3,h4⟩
 ·cases h
theorem k8 {s:St} {p:PV} {kk:Nat} {cs:List PV} {k:St->Option R} (h:kV s p kk cs k=some r) :
  ∃g b off old,p= .ptr g b off/\s.cellsAt g b=some old/\(cs.length=kk/\off+kk<=old.length)/\k (s.setCells g b (ar old off cs))=some r:=by
 unfold kV at h;simp only[cn,ct] at h;split at h
 ·split at h
  ·rename_i old hc
   obtain⟨h1,h2⟩:=fD h;exact⟨_,_,_,old,rfl,by simp[St.cellsAt,hc],stOk_iff.1 h1,by simpa [St.setCells] using h2⟩
  ·cases h
 ·obtain⟨old,h1,h2⟩:=ef h
  obtain⟨h3,h4⟩:=fD h2;exact⟨_,_,_,old,rfl,by simp[St.cellsAt,mQ h1],stOk_iff.1 h3,by simpa [St.setCells] using h4⟩
 ·cases h
theorem rv {an:Tr} {e:List (Nat×PV)}:∀{ps:List (Nat×Nat×IX)} {z:List PV} {f:List PV->Option R},psX an e ps z f=some r->
  ∃vs cs,fb e ps=some vs/\(vs.all λp=>ah p.2.2)=true/\fq z vs=some cs/\f cs=some r
 |[],z,f,h=>⟨[],z,rfl,rfl,rfl,h⟩
 | (off,k,x)::l,z,f,h=>by
  simp only[psX,ck] at h;split at h
  ·rename_i v hv
   obtain⟨h1,h2⟩:=fE h;obtain⟨h3,h4⟩:=fD (gU h2);obtain⟨vs,cs,e1,e2,e3,e4⟩:=rv h4;refine⟨(off,k,v)::vs,cs,by simp[fb,hv,e1],by simp only[List.all_cons,h1,e2,Bool.and_self],?_,e4⟩;simp only[fq];rw[if_pos (stOk_iff.1 h3)];exact e3
  ·cases h
theorem rx {an:Tr}:∀{ps:List (Nat×Nat×IX)} {e:List (Nat×PV)} {z:List PV} {f:List (Nat×PV)->List PV->Option R},psT an e ps z f=some r->
  ∃vs e' cs,ft e ps=some (vs,e')/\(vs.all λp=>ah p.2.2)=true/\fq z vs=some cs/\f e' cs=some r
 |[],e,z,f,h=>⟨[],e,z,rfl,rfl,rfl,h⟩
 |(off,k,x)::l,e,z,f,h=>by simp only[psT] at h;obtain⟨v,e1,hv,h⟩:=jP h;obtain⟨h1,h2⟩:=fE h;obtain⟨h3,h4⟩:=fD (gU h2);obtain⟨vs,e',cs,e1,e2,e3,e4⟩:=rx h4;refine⟨(off,k,v)::vs,e',cs,by simp[ft,hv,e1],by simp only[List.all_cons,h1,e2,Bool.and_self],?_,e4⟩;simp only[fq];rw[if_pos (stOk_iff.1 h3)];exact e3
theorem ry {e:List (Nat×PV)} {x:Option IX} {f:Option Int->Option R} (h:boX e x f=some r):∃i,f i=some r/\∀(d n:Nat),(∃g,bd (R:=Nat) d i g=some n/\g=some)->dm e d x=some n:=by
 cases x with
 |none=>
  refine⟨none,h,?_⟩;rintro d n ⟨g,hg,rfl⟩;simp only[bd] at hg;exact hg
 | some x=>
  simp only[boX,ck] at h;split at h
  ·rename_i v hv
   obtain⟨k,i,rfl,h2⟩:=kZ h;refine⟨some i,h2,?_⟩;rintro d n ⟨g,hg,rfl⟩;simp only[bd] at hg;obtain⟨h3,h4⟩:=dt hg;simp only[aH] at h3;simp only[dm,hv,if_pos h3];exact h4
  ·cases h
theorem gy {d:Nat} {x:Option Int} {f:Nat->Option R} (h:bd d x f=some r):∃n,f n=some r/\bd d x (some:Nat->Option Nat)=some n:=by
 cases x with
 |none=>exact⟨d,h,rfl⟩
 |some i=>
  obtain⟨h1,h2⟩:=dt (b:=decide (0<=i)) h;exact⟨_,h2,by simp only[bd,h1,gd0]⟩
theorem mS {gh:List GObj} {q:Bool} {x:Option (PV×List GObj)} {f:PV->List GObj->Option R} (h:callR gh q x f=some r):∃v gh',x=some (v,gh')/\(q=true->gh'=gh)/\f v gh'=some r:=by
 unfold callR at h;split at h
 ·rename_i v gh'
  split at h
  ·split at h
   ·rename_i hg;exact⟨v,gh',rfl,λ_=>hg,by rw[hg];exact h⟩
   ·cases h
  ·exact⟨v,gh',rfl,⟨(λhh=>nomatch hh),h⟩⟩
 ·cases h
theorem yO {v:PV} {f:Nat->List PV->(List PV->List PV)->Option R} (h:fnY v f=some r):∃i cs,(v= .fn i cs/\f i cs (λvs=>vs++cs)=some r)\/(v= .bfn i cs/\f i cs (λvs=>cs++vs)=some r):=by
 cases v<;>simp only[fnY] at h<;>try (cases h;done)
 ·exact⟨_,_,.inl ⟨rfl,h⟩⟩
 ·exact⟨_,_,.inr ⟨rfl,h⟩⟩
theorem mT {cf:CallF} {s:St} {d:Option Nat} {q:Bool} {f:Nat} {vs:List PV} {v:PV} {gh':List GObj} (h1:vs.all ah=true) (h2:cf f vs s.gh=some (v,gh')) (h3:q=true->gh'=s.gh) :
  dF cf s d q f vs=some ⟨eo s.env d v,s.lh,gh'⟩:=by
 unfold dF;rw[if_pos h1,h2];simp only;cases q with
 |true=>rw[h3 rfl];simp
 |false=>simp
theorem yP {gh gh':List GObj} {v:PV} {x:Option R} (h:kbX gh gh' v x=some r):((∃o z l,v= .sl o z l)\/∃b,((∃o,v= .ptr true b o)\/(∃g i,v= .pstk b g i)\/(∃g n,v= .stk b g n))/\(b<gh.length/\gh'[b]?=gh[b]?))/\x=some r:=by
 unfold kbX at h;split at h
 all_goals first
  | (split at h
     ·rename_i hb
      first
      |exact⟨.inr ⟨_,.inl ⟨_,rfl⟩,hb⟩,h⟩
      |exact⟨.inr ⟨_,.inr (.inl ⟨_,_,rfl⟩),hb⟩,h⟩
      |exact⟨.inr ⟨_,.inr (.inr ⟨_,_,rfl⟩),hb⟩,h⟩
     ·cases h)
  |exact⟨.inl ⟨_,_,_,rfl⟩,h⟩
  |cases h
theorem rz {e:List (Nat×PV)} {gh gh':List GObj} {x:Option R}:∀{ns:List Nat},kpX e gh gh' ns x=some r->(∀n∈ns,keptB e gh gh' n)/\x=some r
 |[],h=>⟨nofun,h⟩
 | n::l,h=>by
  simp only[kpX,b9] at h;split at h
  ·rename_i v hv
   obtain⟨hs,h⟩:=yP h;obtain⟨h1,h2⟩:=rz h;refine⟨?_,h2⟩;intro m hm;rcases List.mem_cons.mp hm with rfl|hm
   ·unfold keptB
    rw[hv];rcases hs with ⟨_,_,_,rfl⟩|⟨b,hs,hb⟩
    ·trivial
    ·rcases hs with ⟨o,rfl⟩|⟨g,i,rfl⟩|⟨g,i,rfl⟩<;>exact hb
   ·exact h1 m hm
  ·cases h
theorem yQ {cf:CallF} {an:Tr} {s:St} {k:St->Option R} {tk:Bool} {kk:Nat} {a x:IX} (h:(match tk with|true=>q12 cf an s k kk a x|false=>q13 cf an s k kk a x)=some r):∃s',ae cf s (.store tk kk a x)=some s'/\k s'=some r:=by
 cases tk with
 | true=>
  simp only[q12,ck] at h;split at h
  ·rename_i p hp
   obtain⟨v,e,hv,h⟩:=jP h;obtain⟨h1,h2⟩:=fE h;obtain⟨g,b,off,old,rfl,h3,h4,h5⟩:=k8 (gU h2);refine⟨_,?_,h5⟩;simp only[ae,hp,if_true,hv,cC,h3];rw[if_pos ⟨h4.1,h4.2,h1⟩]
  ·cases h
 | false=>
  simp only[q13,ck] at h;split at h
  ·rename_i p v hp hv
   obtain⟨h1,h2⟩:=fE h;obtain⟨g,b,off,old,rfl,h3,h4,h5⟩:=k8 (gU h2);refine⟨_,?_,h5⟩;simp only[ae,hp,bP,if_false,hv,cC,h3];rw[if_pos ⟨h4.1,h4.2,h1⟩]
  ·cases h
theorem yR {cf:CallF} {an:Tr} {s:St} {k:St->Option R} {tk:Bool} {kk:Nat} {a x:IX} {ns:List Nat} (h:q6i cf an s k tk kk a x ns=some r):∃s',ae cf s (.storeP tk kk a x ns)=some s'/\k s'=some r:=by obtain⟨s',h1,h2⟩:=yQ (tk:=tk) h;obtain⟨h5,h6⟩:=rz h2;refine⟨s',?_,h6⟩;have h1':oy s tk kk a x=some s':=h1;simp only[ae,h1',cC];rw[if_pos h5]
theorem mU {cf:CallF} {an:Tr} {s:St} {o:IOp} {k:St->Option R} (h:opX cf an s o k=some r):∃s',ae cf s o=some s'/\k s'=some r:=by
 cases o with
 |callP=>simp[opX] at h
 |storeP=>exact yR h
 |callR=>simp[opX] at h
 |appendE=>simp[opX] at h
 |loadKB=>simp[opX] at h
 |loadTB=>simp[opX] at h
 |loadB=>simp[opX] at h
 |loadJ=>simp[opX] at h
 |appendP=>simp[opX] at h
 |mkarr=>simp[opX] at h
 |buildA=>simp[opX] at h
 |boxSl=>simp[opX] at h
 |mv d x=>
  simp only[opX,q5q,b9,ck,cx,ci,co,cy,cn,ct,cr] at h;split at h
  ·rename_i v hv;exact⟨_,by simp[ae,hv],dk h⟩
  ·cases h
 | tkS d n lo=>
  simp only[opX,q5s,b9,ck,cx,ci,co,cy,cn,ct,cr] at h;split at h
  ·rename_i v hv
   unfold kW at h;simp only at h;split at h
   ·rename_i xs
    split at h
    ·rename_i hlo
     exact⟨_,by simp only[ae,hv];rw[if_pos hlo],by simpa only[ci] using h⟩
    ·cases h
   ·cases h
  ·cases h
 |tk d n=>
  simp only[opX,q5r,b9,ck,cx,ci,co,cy,cn,ct,cr] at h;split at h
  ·rename_i v hv;exact⟨_,by simp[ae,hv],h⟩
  ·cases h
 | pick d c x y=>
  simp only[opX,q5t,b9,ck,cx,ci,co,cy,cn,ct,cr] at h;split at h
  ·rename_i c' v w hc hv hw
   obtain⟨b,rfl,h⟩:=mO h;cases b with
   |true=>exact⟨_,by simp[ae,hc,hv],dk h⟩
   |false=>exact⟨_,by simp[ae,hc,hw],dk h⟩
  ·cases h
 | box d g tk x=>
  cases tk with
  |true=>
   simp only[opX,q2w,q2x,b9,ck,cx,ci,co,cy,cn,ct,cr] at h;obtain⟨v,e,hv,h⟩:=jP h;obtain⟨h1,h2⟩:=fE h;exact⟨_,by simp[ae,hv,h1],gU h2⟩
  | false=>
   simp only[opX,q2w,q2x,b9,ck,cx,ci,co,cy,cn,ct,cr] at h;split at h
   ·rename_i v hv
    obtain⟨h1,h2⟩:=fE h;exact⟨_,by simp[ae,hv,h1],gU h2⟩
   ·cases h
 |alloc d g z=>
  simp only[opX,q5u,b9,ck,cx,ci,co,cy,cn,ct,cr] at h;obtain⟨h1,h2⟩:=fE h;exact⟨_,by simp[ae,h1],h2⟩
 |build d z ps=>
  simp only[opX,q5v,b9,ck,cx,ci,co,cy,cn,ct,cr] at h;obtain⟨h1,h2⟩:=k6 h;obtain⟨vs,cs,e1,e2,e3,e4⟩:=rv h2;refine⟨_,?_,e4⟩;simp only[ae,e1,cC];rw[if_pos ⟨e2,h1⟩,e3];rfl
 |buildT d z ps=>
  simp only[opX,q5w,b9,ck,cx,ci,co,cy,cn,ct,cr] at h;obtain⟨h1,h2⟩:=k6 h;obtain⟨vs,e',cs,e1,e2,e3,e4⟩:=rx h2;refine⟨_,?_,e4⟩;simp only[ae,e1,cC];rw[if_pos ⟨e2,h1⟩,e3];rfl
 |buildSl d z els=>
  simp only[opX,q5x,b9,ck,cx,ci,co,cy,cn,ct,cr] at h;obtain⟨vs,hv,h⟩:=jk h;obtain⟨h1,h2⟩:=rr h;refine⟨_,?_,h2⟩;simp only[ae,hv,cC];rw[if_pos h1]
 | load d agg kk a=>
  simp only[opX,q5y,b9,ck,cx,ci,co,cy,cn,ct,cr] at h;split at h
  ·rename_i p hp
   rcases yN h with ⟨g,b,off,cs,v,rfl,h1,h2,h3⟩|⟨e,off,v,rfl,h1,h2⟩
   ·exact⟨_,by simp[ae,hp,h1,h2],dk h3⟩
   ·exact⟨_,by simp[ae,hp,h1],dk h2⟩
  ·cases h
 | loadT d a=>
  simp only[opX,q5z,b9,ck,cx,ci,co,cy,cn,ct,cr] at h;split at h
  ·rename_i b off hp
   split at h
   ·rename_i cs hc
    obtain⟨v,h1,h2⟩:=ef h;exact⟨_,by simp[ae,hp,St.cellsAt,hc,h1,St.setCells,St.put],h2⟩
   ·cases h
  ·rename_i b off hp
   obtain⟨cs,h0,h⟩:=ef h;obtain⟨v,h1,h2⟩:=ef h;exact⟨_,by simp[ae,hp,St.cellsAt,mQ h0,h1,St.setCells,St.put],h2⟩
  ·cases h
 |loadL=>simp[opX] at h
 | store tk kk a x=>
  cases tk with
  | true=>
   simp only[opX,q12,q13,b9,ck,cx,ci,co,cy,cn,ct,cr] at h;split at h
   ·rename_i p hp
    obtain⟨v,e,hv,h⟩:=jP h;obtain⟨h1,h2⟩:=fE h;obtain⟨g,b,off,old,rfl,h3,h4,h5⟩:=k8 (gU h2);refine⟨_,?_,h5⟩;simp only[ae,hp,if_true,hv,cC,h3];rw[if_pos ⟨h4.1,h4.2,h1⟩]
   ·cases h
  | false=>
   simp only[opX,q12,q13,b9,ck,cx,ci,co,cy,cn,ct,cr] at h;split at h
   ·rename_i p v hp hv
    obtain⟨h1,h2⟩:=fE h;obtain⟨g,b,off,old,rfl,h3,h4,h5⟩:=k8 (gU h2);refine⟨_,?_,h5⟩;simp only[ae,hp,bP,if_false,hv,cC,h3];rw[if_pos ⟨h4.1,h4.2,h1⟩]
   ·cases h
 | nilc d x=>
  simp only[opX,q60,b9,ck,cx,ci,co,cy,cn,ct,cr] at h;split at h
  ·rename_i p hp
   obtain⟨h1,h2⟩:=dt h;refine⟨_,?_,dk h2⟩;cases p<;>simp[rm] at h1<;>simp[ae,hp]
  ·cases h
 | bin d op x y=>
  simp only[opX,q61,b9,ck,cx,ci,co,cy,cn,ct,cr] at h;split at h
  ·rename_i a b ha hb
   obtain⟨v,h1,h2⟩:=yC h;exact⟨_,by simp[ae,ha,hb,h1],dk h2⟩
  ·cases h
 |eqa=>simp[opX] at h
 |eqb=>simp[opX] at h
 | eqn d neg x=>
  simp only[opX,q62,b9,ck,cx,ci,co,cy,cn,ct,cr] at h;split at h
  ·rename_i v hv
   rcases yG h with ⟨rfl,h2⟩|⟨rfl,h2⟩
   ·refine⟨s.put d (.bool (!neg)),by simp only[ae,hv],?_⟩
    cases neg<;>exact h2
   ·refine⟨s.put d (.bool neg),by simp only[ae,hv],?_⟩
    cases neg<;>exact h2
  ·cases h
 | un d op x=>
  simp only[opX,q63,b9,ck,cx,ci,co,cy,cn,ct,cr] at h;split at h
  ·rename_i a ha
   obtain⟨v,h1,h2⟩:=yD h;exact⟨_,by simp[ae,ha,h1],dk h2⟩
  ·cases h
 |conv=>simp[opX] at h
 |mkfn d f caps=>
  simp only[opX,q64,b9,ck,cx,ci,co,cy,cn,ct,cr] at h;obtain⟨vs,hv,h⟩:=jk h;obtain⟨h1,h2⟩:=gv h;refine⟨_,?_,h2⟩;simp only[ae,hv,cC];rw[if_pos h1]
 |loadG=>simp[opX] at h
 |boxB=>simp[opX] at h
 |mkbld=>simp[opX] at h
 |mkmap d=>
  simp only[opX,q65,ci] at h;exact⟨_,rfl,h⟩
 | mksl d g z bytes zero l=>
  simp only[opX,q66,b9,ck,cx,ci,co,cy,cn,ct,cr] at h;split at h
  ·rename_i v hv
   obtain⟨k',n,rfl,h⟩:=kZ h;obtain⟨h1,h2⟩:=dt h;cases g with
   |true=>
    refine⟨_,by simp only[ae,hv];rw[if_pos (by simpa only[iw,aH] using h1)],?_⟩;exact h2
   | false=>
    obtain⟨h3,h4⟩:=dt h2;refine⟨s.put d (.sl true z (List.replicate n.toNat zero)),?_,?_⟩
    ·simp only[ae,hv]
     rw[if_pos (by simpa only[iw,aH] using h1)];simp only[if_pos h3]
    ·exact h4
  ·cases h
 | slice d z x lo hi=>
  simp only[opX,q67,b9,ck,cx,ci,co,cy,cn,ct,cr] at h;split at h
  ·rename_i v hv
   obtain⟨i,h,hlo⟩:=ry h;obtain⟨j,h,hhi⟩:=ry h;unfold slX at h;split at h
   ·rename_i o z' xs
    obtain⟨m,h,h1⟩:=gy h;obtain⟨l,h,h2⟩:=gy h;obtain⟨h3,h4⟩:=dt h;refine⟨_,?_,dk h4⟩;simp only[ae,hv,hhi _ _ ⟨_,h1,rfl⟩,hlo _ _ ⟨_,h2,rfl⟩,cC];rw[if_pos (by simpa only[aH] using h3)]
   ·rename_i g b off n z'
    obtain⟨m,h,h1⟩:=gy h;obtain⟨l,h,h2⟩:=gy h;obtain⟨h3,h4⟩:=dt h;refine⟨_,?_,dk h4⟩;simp only[ae,hv,hhi _ _ ⟨_,h1,rfl⟩,hlo _ _ ⟨_,h2,rfl⟩,cC];rw[if_pos (by simpa only[aH] using h3)]
   ·rename_i b gen n
    split at h
    ·obtain⟨m,h,h1⟩:=gy h
     obtain⟨h3,h4⟩:=dt h;refine⟨_,?_,dk h4⟩;have hlo0:lo.isNone=true:=by
      cases lo with
      |none=>rfl
      |some y=>
       have q1:=hlo 0 0 ⟨_,rfl,rfl⟩;have q2:dm s.env 0 (some y)=some 1:=hlo 1 1 ⟨_,rfl,rfl⟩;rw[q1] at q2;cases q2
     simp only[ae,hv,hhi _ _ ⟨_,h1,rfl⟩,hlo0,cC,if_true];rw[if_pos (by simpa only[aH] using h3)]
    ·obtain⟨m,h,h1⟩:=gy h
     obtain⟨l,h,h2⟩:=gy h;obtain⟨h3,h4⟩:=dt h;refine⟨_,?_,dk h4⟩;have e1:=hlo _ _ ⟨_,h2,rfl⟩;have hlo0:lo.isNone=false:=by
      cases lo with
      |some y=>rfl
      |none=>
       exfalso;have h2':bd 1 (some _) _=some _:=h2;have e2:dm s.env 1 none=some l:=hlo 1 l ⟨_,h2',rfl⟩;simp only[dm] at e1 e2;rw[<-e1] at e2;cases e2
     simp only[ae,hv,hhi _ _ ⟨_,h1,rfl⟩,e1,hlo0,cC];rw[if_neg (by decide)];rw[if_pos (by simpa only[aH] using h3)]
   ·rename_i b gen off n
    obtain⟨m,h,h1⟩:=gy h;obtain⟨l,h,h2⟩:=gy h;obtain⟨h3,h4⟩:=dt h;refine⟨_,?_,dk h4⟩;simp only[ae,hv,hhi _ _ ⟨_,h1,rfl⟩,hlo _ _ ⟨_,h2,rfl⟩,cC];rw[if_pos (by simpa only[aH] using h3)]
   ·cases h
  ·cases h
 |sliceS=>simp[opX] at h
 | faddr d x off=>
  simp only[opX,q68,b9,ck,cx,ci,co,cy,cn,ct,cr] at h;split at h
  ·rename_i p hp
   unfold faX at h;split at h
   ·exact⟨_,by simp only[ae,hp],dk h⟩
   ·exact⟨_,by simp only[ae,hp],dk h⟩
   ·cases h
  ·cases h
 |field=>simp[opX] at h
 | iaddr d z arr x i=>
  simp only[opX,q69,b9,ck,cx,ci,co,cy,cn,ct,cr] at h;split at h
  ·rename_i iv v hi hv
   obtain⟨k',n,rfl,h⟩:=kZ h;unfold idX at h;split at h
   ·obtain⟨h1,h2⟩:=dt h
    obtain⟨e,h3,h4⟩:=ef h2;refine⟨_,?_,dk h4⟩;simp only[ae,hi,hv];rw[if_pos (by simpa only[aH] using h1),h3];rfl
   ·obtain⟨h1,h2⟩:=dt h
    refine⟨_,?_,dk h2⟩;simp only[ae,hi,hv];rw[if_pos (by simpa only[aH] using h1)]
   ·obtain⟨h1,h2⟩:=dt h
    refine⟨_,?_,dk h2⟩;simp only[ae,hi,hv];rw[if_pos (by simpa only[aH] using h1)]
   ·obtain⟨h1,h2⟩:=dt h
    refine⟨_,?_,dk h2⟩;simp only[ae,hi,hv];rw[if_pos (by simpa only[aH] using h1)]
   ·obtain⟨h1,h2⟩:=dt h
    refine⟨_,?_,dk h2⟩;simp only[ae,hi,hv];rw[if_pos (by simpa only[aH] using h1)]
   ·obtain⟨h1,h2⟩:=dt h
    refine⟨_,?_,dk h2⟩;simp only[ae,hi,hv];rw[if_pos (by simpa only[aH] using h1)]
   ·cases h
  ·cases h
 | index d z arr agg x i=>
  simp only[opX,q6a,b9,ck,cx,ci,co,cy,cn,ct,cr] at h;split at h
  ·rename_i iv v hi hv
   obtain⟨k',n,rfl,h⟩:=kZ h;unfold ixX at h;split at h
   ·obtain⟨h1,h2⟩:=dt h
    obtain⟨e,h3,h4⟩:=ef h2;refine⟨_,?_,dk h4⟩;simp only[ae,hi,hv];rw[if_pos (by simpa only[aH] using h1),h3];rfl
   ·cases h
  ·cases h
 |indexS=>simp[opX] at h
 | lookup d kn m kx ok zero=>
  simp only[opX,q6b,b9,ck,cx,ci,co,cy,cn,ct,cr] at h;split at h
  ·rename_i mv kv hm hk
   unfold lkX at h;split at h
   ·rename_i b
    obtain⟨es,h1,h⟩:=ef h;obtain⟨h2,h⟩:=dt h;obtain⟨u,h3,h⟩:=ef h;have h1':=mR h1;cases u with
    |none=>
     refine⟨_,?_,dk h⟩;simp only[ae,hm,hk,h1',h2,h3,Bool.true_eq_false,if_false];cases ok<;>rfl
    |some u=>
     refine⟨_,?_,dk h⟩;simp only[ae,hm,hk,h1',h2,h3,Bool.true_eq_false,if_false];cases ok<;>rfl
   ·cases h
  ·cases h
 | mupd kn m kx x=>
  simp only[opX,q6c,b9,ck,cx,ci,co,cy,cn,ct,cr] at h;split at h
  ·rename_i mv kv v hm hk hv
   unfold muX at h;split at h
   ·rename_i b
    obtain⟨es,h1,h⟩:=ef h;obtain⟨h2,h⟩:=dt h;obtain⟨u,h3,h⟩:=ef h;have h1':=mR h1;simp only[aX] at h2;refine⟨_,?_,h⟩;simp only[ae,hm,hk,hv,h1'];rw[if_pos ⟨h2.1,h2.2.1,h2.2.2⟩,h3];rfl
   ·cases h
  ·cases h
 |call d q f xs=>
  simp only[opX,q6d] at h;obtain⟨vs,hv,h⟩:=jk h;obtain⟨h1,h⟩:=gv h;obtain⟨v,gh',h2,h3,h4⟩:=mS h;refine⟨_,?_,k7 h4⟩;simp only[ae,hv,cC];exact mT h1 h2 h3
 | cally d x xs=>
  simp only[opX,q6f,b9,ck,cx,ci,co,cy,cn,ct,cr] at h;split at h
  ·rename_i w hw
   obtain⟨vs,hv,h⟩:=jk h;unfold ylC at h;simp only at h;split at h
   ·rename_i b
    split at h
    ·rename_i y caps hb
     obtain⟨h1,h⟩:=gv h;obtain⟨h2,h⟩:=gv h;split at h
     ·rename_i gh' hc
      refine⟨_,?_,k7 h⟩;simp only[ae,hw,hv,cC,doY,hb];rw[if_pos (by rw[List.all_append,h1,h2];rfl),hc]
     ·cases h
    ·cases h
   ·cases h
  ·cases h
 | callv d q fv xs=>
  simp only[opX,q6e,b9,ck,cx,ci,co,cy,cn,ct,cr] at h;split at h
  ·rename_i w hw
   obtain⟨vs,hv,h⟩:=jk h;obtain⟨f,caps,⟨rfl,h⟩|⟨rfl,h⟩⟩:=yO h
   ·obtain⟨h1,h⟩:=gv h
    obtain⟨h1',h⟩:=gv h;obtain⟨v,gh',h2,h3,h4⟩:=mS h;refine⟨_,?_,k7 h4⟩;simp only[ae,hw,hv,cC];exact mT (by rw[List.all_append,h1,h1'];rfl) h2 h3
   ·obtain⟨h1,h⟩:=gv h
    obtain⟨h1',h⟩:=gv h;obtain⟨v,gh',h2,h3,h4⟩:=mS h;refine⟨_,?_,k7 h4⟩;simp only[ae,hw,hv,cC];exact mT (by rw[List.all_append,h1,h1'];rfl) h2 h3
  ·cases h
 |callF=>simp[opX] at h
 |callE=>simp[opX] at h
 |loadN=>simp[opX] at h
 | len d kd x=>
  match kd with
  | 0=>
   simp only[opX,q23,q24,q25,b9,ck,cx,ci,co,cy,cn,ct,cr] at h;split at h
   ·rename_i v hv
    unfold bh at h;split at h
    ·exact⟨_,by simp only[ae,hv],h⟩
    ·exact⟨_,by simp only[ae,hv],h⟩
    ·exact⟨_,by simp only[ae,hv],h⟩
    ·exact⟨_,by simp only[ae,hv],h⟩
    ·exact⟨_,by simp only[ae,hv],h⟩
    ·cases h
   ·cases h
  | 1=>
   simp only[opX,q23,q24,q25,b9,ck,cx,ci,co,cy,cn,ct,cr] at h;split at h
   ·rename_i v hv
    obtain⟨b,rfl,h⟩:=rn h;exact⟨_,by simp only[ae,hv],h⟩
   ·cases h
  | 2=>
   simp only[opX,q23,q24,q25,b9,ck,cx,ci,co,cy,cn,ct,cr] at h;split at h
   ·rename_i v hv
    unfold jj at h;split at h
    ·obtain⟨es,h1,h⟩:=ef h
     exact⟨_,by simp only[ae,hv,mR h1],h⟩
    ·cases h
   ·cases h
  |n+3=>simp[opX] at h
 | append d z bytes sx x=>
  simp only[opX,q6g,b9,ck,cx,ci,co,cy,cn,ct,cr] at h;split at h
  ·rename_i w hw
   obtain⟨v,e,hv,h⟩:=jP h;unfold apX at h;split at h
   ·obtain⟨h1,h2⟩:=dt h
    refine⟨_,?_,h2⟩;simp only[ae,hw,hv,cC];rw[if_pos (by simpa only[aH] using h1)]
   ·cases h
  ·cases h
 |appendK=>simp[opX] at h
 |storeK=>simp[opX] at h
 |clearK=>simp[opX] at h
 |mkbf=>simp[opX] at h
 |appendN=>simp[opX] at h
 |loadH=>simp[opX] at h
 |loadK=>simp[opX] at h
 |buildSlK=>simp[opX] at h
 |maxi=>simp[opX] at h
 | extract d x i=>
  simp only[opX,q6h,b9,ck,cx,ci,co,cy,cn,ct,cr] at h;split at h
  ·rename_i v hv
   unfold exX at h;split at h
   ·obtain⟨u,h1,h2⟩:=ef h
    exact⟨_,by simp[ae,hv,h1],dk h2⟩
   ·cases h
  ·cases h
theorem yS (s:St) (o:IOp) (k:St->Option R):skX s o k=k (dr s o):=by
 unfold skX dr;cases ba o with
 |none=>rfl
 |some d=>simp only[co]
theorem iy {cf:CallF} {an:Tr}:∀{l:List IOpG} {s:St} {k:St->Option R},fC cf an l s k=some r->∃s',cw cf l s=some s'/\k s'=some r
 |[],s,k,h=>⟨s,rfl,h⟩
 |⟨o,none⟩::l,s,k,h=>by simp only[fC] at h;obtain⟨s1,h1,h2⟩:=mU h;obtain⟨s2,h3,h4⟩:=iy h2;exact⟨s2,by simp only[cw,h1,cC];exact h3,h4⟩
 | ⟨o,some (g,want)⟩::l,s,k,h=>by
  have key:∀b,get s.env g=some (.bool b)->s.put g (.bool b)=s:=by
   intro b hb;have:∀(e:List (Nat×PV)),get e g=some (.bool b)->Lw.put e g (.bool b)=e:=by
    intro e
    induction e with
    |nil=>intro h;simp[get] at h
    |cons a e ih=>
     obtain⟨x,v⟩:=a;intro h;simp only[get] at h;simp only[Lw.put];split at h
     ·rename_i hx;cases h;rw[if_pos hx,hx]
     ·rename_i hx;rw[if_neg hx,ih h]
   simp only[St.put,this s.env hb]
  simp only[fC,b9,yS] at h;simp only[cw];split at h
  ·rename_i b hb
   cases b with
   | true=>
    simp only[br,co] at h;rw[key true hb] at h;cases want with
    |true=>
     simp only at h;obtain⟨s1,h1,h2⟩:=mU h;obtain⟨s2,h3,h4⟩:=iy h2;exact⟨s2,by simp only[hb,if_true,h1,cC];exact h3,h4⟩
    |false=>
     simp only at h;obtain⟨s2,h3,h4⟩:=iy h;exact⟨s2,by simp only[hb,Bool.true_eq_false,if_false];exact h3,h4⟩
   | false=>
    simp only[br,co] at h;rw[key false hb] at h;cases want with
    |true=>
     simp only at h;obtain⟨s2,h3,h4⟩:=iy h;exact⟨s2,by simp only[hb,bP,if_false];exact h3,h4⟩
    |false=>
     simp only at h;obtain⟨s1,h1,h2⟩:=mU h;obtain⟨s2,h3,h4⟩:=iy h2;exact⟨s2,by simp only[hb,if_true,h1,cC];exact h3,h4⟩
  ·rename_i hb
   obtain⟨s2,h3,h4⟩:=iy h;exact⟨s2,by simp only[hb];exact h3,h4⟩
  ·cases h
theorem k9 {nl:Nat}:∀{ks:List Nat} {e:List (Nat×PV)} {f:List (Nat×PV)->Option R},fh nl ks e f=some r->f (keep nl ks e)=some r
 |[],_,_,h=>h
 | t::l,e,f,h=>by
  simp only[fh,b9] at h;simp only[keep];split at h
  ·rename_i v hv
   obtain⟨h1,h2⟩:=yL h;simp only[hv,h1,if_true];exact k9 (f:=λe'=>f ((t,v)::e')) h2
  ·rename_i hv
   simp only[hv];exact k9 h
theorem mV {x:Option (ag×St)} {k:ag->St->Option R} (h:kR x k=some r):∃e s,x=some (e,s)/\k e s=some r:=by
 unfold kR at h;split at h
 ·exact⟨_,_,rfl,h⟩
 ·cases h
theorem yT {pg:Prg} {an:Tr}:∀{c:ICode} {s:St} {k:ag->St->Option R},eE pg an c s k=some r->∃e s',ac pg c s=some (e,s')/\k e s'=some r:=by
 intro c
 induction c with
 |skip=>intro s k h;exact⟨_,_,uo pg s,h⟩
 |region ops d=>
  intro s k h;obtain⟨s',h1,h2⟩:=iy (show fC (af pg) an ops s (k .normal)=some r from h);exact⟨_,_,by rw[ur,h1];rfl,h2⟩
 | seq a b iha ihb=>
  intro s k h;obtain⟨e,s1,h1,h2⟩:=iha (show eE pg an a s _=some r from h);rw[uu,h1];cases e with
  |normal=>
   obtain⟨e2,s2,h3,h4⟩:=ihb (show eE pg an b s1 k=some r from h2);exact⟨e2,s2,h3,h4⟩
  |exit i=>exact⟨_,_,rfl,h2⟩
  |ret=>exact⟨_,_,rfl,h2⟩
 | cond x a b iha ihb=>
  intro s k h;simp only[eE,ck] at h;split at h
  ·rename_i v hv
   obtain⟨c,rfl,h2⟩:=mO h;rw[ut,hv];cases c with
   |true=>exact iha h2
   |false=>exact ihb h2
  ·cases h
 | block id a iha=>
  intro s k h;obtain⟨e,s1,h1,h2⟩:=iha (show eE pg an a s _=some r from h);rw[jx,h1];cases e with
  |normal=>exact⟨_,_,rfl,h2⟩
  | exit i=>
   simp only[bk] at h2;simp only;by_cases hi:i=id
   ·subst hi
    rw[if_pos rfl];simp only[Nat.beq_refl,br] at h2;exact⟨_,_,rfl,h2⟩
   ·have:Nat.beq i id=false:=mN hi
    rw[this] at h2;rw[if_neg hi];exact⟨_,_,rfl,h2⟩
  |ret=>exact⟨_,_,rfl,h2⟩
 |loop a _=>intro s k h;exact mV (show kR (ac pg (.loop a) s) k=some r from h)
 |rangeF g y ks=>intro s k h;exact mV (show kR (ac pg (.rangeF g y ks) s) k=some r from h)
 |exit i=>intro s k h;exact⟨_,_,up pg s i,h⟩
 |ret=>intro s k h;exact⟨_,_,uq pg s,h⟩
 | post a ks nl iha=>
  intro s k h;obtain⟨e,s1,h1,h2⟩:=iha (show eE pg an a s _=some r from h);rw[ij,h1];cases e with
  |normal=>
   simp only[po,kY] at h2;exact⟨_,_,rfl,k9 h2⟩
  |exit i=>exact⟨_,_,rfl,h2⟩
  |ret=>exact⟨_,_,rfl,h2⟩
 | lift a ks t iha=>
  intro s k h;obtain⟨e,s1,h1,h2⟩:=iha (show eE pg an a s _=some r from h);rw[uv,h1];cases e with
  | normal=>
   simp only[lfK,b9,cn,kY,ci] at h2;split at h2
   ·rename_i b hb
    split at h2
    ·rename_i cs hcs
     obtain⟨h3,h4⟩:=fD h2;exact⟨_,_,by simp only[jv,hb,hcs];rw[if_pos (Nat.eq_of_beq_eq_true h3)];rfl,k9 h4⟩
    ·cases h2
   ·cases h2
  |exit i=>exact⟨_,_,rfl,h2⟩
  |ret=>exact⟨_,_,rfl,h2⟩
 |bad=>
  intro s k h;exact absurd (show (none:Option _)=some r from h) (by simp)
 |cut a _=>
  intro s k h;rw[ux];exact mV (show kR (ac pg a s) k=some r from h)
theorem aj {pg:Prg} (an:Tr) {c:ICode} {s:St} {e:ag} {s':St} (h:eE pg an c s (λe s=>some (e,s))=some (e,s')):ac pg c s=some (e,s'):=by obtain⟨e1,s1,h1,h2⟩:=yT h;cases h2;exact h1
theorem KR {pg:Prg} (an:Tr) {c:ICode} {s:St} {D:DR} {e:ag} {s':St} (h:D=some (e,s')) (k:eE pg an c s (λe s=>some (e,s))=D):ac pg c s=some (e,s'):=aj an (k.trans h)
end
end Go.Lw