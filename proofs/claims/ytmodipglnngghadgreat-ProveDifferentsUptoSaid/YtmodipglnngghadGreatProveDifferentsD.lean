/-
  The texts that the proof stands on, part 4.
-/
import Derived.Test.YtmodipglnngghadGreatProveDifferentsC
set_option linter.unusedVariables false
set_option linter.unusedSimpArgs false
set_option linter.unnecessarySimpa false

/-! What is read off the machine's code is what it comes to. -/
section
set_option maxHeartbeats 1000000
namespace Go.Lw
open Go
section
variable {R:Type} {α:Type} {r:R}
theorem ob_inv {x:Option α} {f:α→Option R} (h:ob x f=some r):∃a,x=some a∧f a=some r:=by
 cases x with
 |none=>cases h
 |some a=>exact⟨a,rfl,h⟩
theorem gd_inv {b:Bool} {x:Option R} (h:gd b x=some r):b=true∧x=some r:=by
 cases b with
 |false=>cases h
 |true=>exact⟨rfl,h⟩
theorem gb_inv {b:Bool} {x:Option R} (h:gb b x=some r):b=true∧x=some r:=by
 cases b with
 |false=>cases h
 |true=>exact⟨rfl,h⟩
theorem kE_inv {k k':IntKind} {x:Option R} (h:kE k k' x=some r):k=k'∧x=some r:=by
 obtain⟨h1,h2⟩:=gb_inv h
 refine⟨?_,h2⟩
 cases k<;>cases k'<;>simp[kIdx] at h1 ⊢
theorem j13j {k:IntKind} {v:PV} {f:Int→Option R} (h:unI k v f=some r):∃n,v= .int k n∧f n=some r:=by
 cases v<;>simp only[unI] at h<;>try (cases h;done)
 obtain⟨rfl,h2⟩:=kE_inv h
 exact⟨_,rfl,h2⟩
theorem jv1 {a b:Nat} (h:¬a=b):Nat.beq a b=false:=by
 cases hb:Nat.beq a b with
 |true=>exact absurd (Nat.eq_of_beq_eq_true hb) h
 |false=>rfl
theorem jqx:∀(e:List (Nat×PV)) (t:Nat),getX e t=get e t
 |[],_=>rfl
 | (a,v)::l,t=>by
  simp only[getX,get]
  by_cases h:a=t
  ·subst h;simp
  ·have:Nat.beq a t=false:=jv1 h
   rw[this,if_neg h];exact jqx l t
theorem jqz:∀(e:List (Nat×PV)) (t:Nat) (v:PV) (k:List (Nat×PV)→Option R),putK e t v k=k (Lw.put e t v)
 |[],_,_,_=>rfl
 | (a,u)::l,t,v,k=>by
  simp only[putK,Lw.put]
  by_cases h:a=t
  ·subst h;simp
  ·have:Nat.beq a t=false:=jv1 h
   rw[this,if_neg h];exact jqz l t v _
theorem jr3:∀(l:List α) (v:α) (k:List α→Option R),snocK l v k=k (l++[v])
 |[],_,_=>rfl
 |u::l,v,k=>jr3 l v fun l=>k (u::l)
theorem jr4:∀(l:List α) (i:Nat) (v:α) (k:List α→Option R),setK l i v k=k (l.set i v)
 |[],_,_,_=>rfl
 |_::_,0,_,_=>rfl
 |u::l,i+1,v,k=>jr4 l i v fun l=>k (u::l)
theorem jr1:∀(l:List α) (i:Nat),nthX l i=l[i]?
 |[],_=>rfl
 |_::_,0=>rfl
 |_::l,i+1=>by rw[nthX,jr1 l i];rfl
theorem jv2:∀(n:Nat) (l:List α) (k:List α→Option R),takeK n l k=k (l.take n)
 |0,_,_=>by simp[takeK]
 |n+1,[],k=>by simp[takeK]
 |n+1,u::l,k=>jv2 n l fun l=>k (u::l)
theorem evX_eq (e:List (Nat×PV)) (x:IX):evX e x=evalX e x:=by
 cases x<;>simp only[evX,evalX]
 rw[jqx];cases get e _<;>rfl
theorem evK_eq (e:List (Nat×PV)) (x:IX):evK e x=evalK e x:=by
 cases x<;>simp only[evK,evalK]
 rw[jqx];cases get e _<;>rfl
theorem jrl {e:List (Nat×PV)}:∀{l:List IX} {k:List PV→Option R},evXs e l k=some r→∃vs,evalXs e l=some vs∧k vs=some r
 |[],k,h=>⟨[],rfl,h⟩
 | x::l,k,h=>by
  simp only[evXs,evX_eq] at h
  split at h
  ·rename_i v hv
   obtain⟨vs,h1,h2⟩:=jrl h
   exact⟨v::vs,by simp[evalXs,hv,h1],h2⟩
  ·cases h
theorem jt3 {e:List (Nat×PV)} {x:IX} {k:PV→List (Nat×PV)→Option R} (h:tkX e x k=some r):∃v e',takeX e x=some (v,e')∧k v e'=some r:=by
 cases x with
 | t n=>
  simp only[tkX,jqx] at h
  split at h
  ·rename_i v hv
   rw[jqz] at h
   exact⟨v,_,by simp[takeX,hv],h⟩
  ·cases h
 |c v=>exact⟨v,e,rfl,h⟩
 |f id=>exact⟨_,e,rfl,h⟩
theorem jr0 (s:St) (d:Nat) (v:PV) (k:St→Option R):putS s d v k=k (s.put d v):=by
 unfold putS;rw[jqz];rfl
theorem jr5 (s:St) (d:Nat) (g:Bool) (cs:List PV) (k:St→Option R):newX s d g cs k=k (putNew s d g cs):=by
 cases g<;>simp[newX,jqz,jr3,putNew,St.newBox,St.put]
theorem j13k {op:BinOp} {a b:PV} {f:PV→Option R} (h:binX op a b f=some r):∃v,binPV op a b=some v∧f v=some r:=by
 unfold binX at h
 split at h
 ·rename_i k x k' y
  cases op<;>simp only at h
  case shl=>
   obtain⟨h1,h2⟩:=gd_inv h
   simp only[decide_eq_true_eq] at h1
   exact⟨_,by simp only[binPV];rw[if_neg (by omega)];rfl,h2⟩
  case shr=>
   obtain⟨h1,h2⟩:=gd_inv h
   simp only[decide_eq_true_eq] at h1
   exact⟨_,by simp only[binPV];rw[if_neg (by omega)];rfl,h2⟩
  case quo=>
   obtain⟨rfl,h'⟩:=kE_inv h
   obtain⟨h1,h2⟩:=gd_inv h'
   simp only[decide_eq_true_eq] at h1
   exact⟨_,by simp only[binPV,if_true];rw[if_neg h1],h2⟩
  case rem=>
   obtain⟨rfl,h'⟩:=kE_inv h
   obtain⟨h1,h2⟩:=gd_inv h'
   simp only[decide_eq_true_eq] at h1
   exact⟨_,by simp only[binPV,if_true];rw[if_neg h1],h2⟩
  all_goals first
   |exact ob_inv h
   | (obtain⟨rfl,h2⟩:=kE_inv h
      exact⟨_,by simp only[binPV,if_true,iAnd,iOr,iXor],h2⟩)
 ·cases op<;>simp only at h
  case eql=>exact⟨_,rfl,h⟩
  case neq=>exact⟨_,rfl,h⟩
  all_goals exact ob_inv h
 ·cases h
theorem j13l {op:UnOp} {a:PV} {f:PV→Option R} (h:unX op a f=some r):∃v,unPV op a=some v∧f v=some r:=by
 unfold unX at h
 split at h
 ·exact⟨_,rfl,h⟩
 ·exact⟨_,rfl,h⟩
 ·exact⟨_,rfl,h⟩
 ·cases h
theorem j13m {vs:List PV} {f:PV→Option R} (h:maxX vs f=some r):∃v,maxL vs=some v∧f v=some r:=by
 unfold maxX at h
 split at h
 ·obtain⟨rfl,h2⟩:=kE_inv h
  exact⟨_,by simp only[maxL,if_true],h2⟩
 ·cases h
theorem js7 {v:PV} {f:Int→Option R} (h:anyI v f=some r):∃k n,v= .int k n∧f n=some r:=by
 cases v<;>simp only[anyI] at h<;>try (cases h;done)
 exact⟨_,_,rfl,h⟩
theorem jv3 {v:PV} {f:Bool→Option R} (h:unB v f=some r):∃n,v= .bool n∧f n=some r:=by
 cases v<;>simp only[unB] at h<;>try (cases h;done)
 exact⟨_,rfl,h⟩
theorem jxk {v:PV} {f:ByteArray→Option R} (h:unS v f=some r):∃n,v= .str n∧f n=some r:=by
 cases v<;>simp only[unS] at h<;>try (cases h;done)
 exact⟨_,rfl,h⟩
theorem j13n {v:PV} {f:Nat→Nat→Option R} (h:unG v f=some r):∃b o,v= .ptr true b o∧f b o=some r:=by
 unfold unG at h
 split at h
 ·exact⟨_,_,rfl,h⟩
 ·cases h
theorem j13o {z:Nat} {v:PV} {f:List PV→Option R} (h:unO z v f=some r):∃xs,v= .sl true z xs∧f xs=some r:=by
 unfold unO at h
 split at h
 ·obtain⟨hz,h2⟩:=gb_inv h
  have hz:=Nat.eq_of_beq_eq_true hz
  subst hz;exact⟨_,rfl,h2⟩
 ·cases h
theorem jv4:∀{n:Nat} {l:List PV} {g:List PV→Option R},unN n l (curry n g)=some r→g l=some r
 |0,[],_,h=>h
 |0,_::_,_,h=>nomatch (show (none:Option R)=some r from h)
 |n+1,[],_,h=>nomatch (show (none:Option R)=some r from h)
 |n+1,c::l,g,h=>jv4 (n:=n) (l:=l) (g:=fun l=>g (c::l)) h
theorem j13p {n:Nat} {v:PV} {g:List PV→Option R} (h:unA n v (curry n g)=some r):∃cs,v= .agg cs∧g cs=some r:=by
 unfold unA at h
 split at h
 ·exact⟨_,rfl,jv4 h⟩
 ·cases h
theorem j13q {n:Nat} {v:PV} {g:List PV→Option R} (h:unT n v (curry n g)=some r):∃cs,v= .tup cs∧g cs=some r:=by
 unfold unT at h
 split at h
 ·exact⟨_,rfl,jv4 h⟩
 ·cases h
theorem jxl {v:PV} {x:Option R} (h:isC v x=some r):v.cells=[v]∧x=some r:=by
 cases v<;>simp[isC,PV.cells] at * <;>exact h
theorem j13r {v:PV} {x:Option R} (h:onK v x=some r):v.one=true∧x=some r:=by
 cases v with
 |agg cs=>cases h
 |und=>cases h
 |tup=>cases h
 |arr z n=>cases h
 |junk=>cases h
 |ptr g b o=>cases g with
  |true=>exact⟨rfl,h⟩
  |false=>cases h
 |bs g b o n z=>cases g with
  |true=>exact⟨rfl,h⟩
  |false=>cases h
 |_=>exact⟨rfl,h⟩
theorem jtr:∀{l:List PV} {x:Option R},arL l x=some r→l.all PV.one=true∧x=some r
 |[],x,h=>⟨rfl,h⟩
 |c::l,x,h=>by
  obtain⟨h1,h2⟩:=j13r (show onK c (arL l x)=some r from h)
  obtain⟨h3,h4⟩:=jtr h2
  exact⟨by simp[h1,h3],h4⟩
theorem jrv {v:PV} {x:Option R} (h:arK v x=some r):argOk v=true∧x=some r:=by
 cases v with
 |agg cs=>exact jtr h
 |und=>cases h
 |tup=>cases h
 |arr z n=>cases h
 |junk=>cases h
 |ptr g b o=>cases g with
  |true=>exact⟨rfl,h⟩
  |false=>cases h
 |bs g b o n z=>cases g with
  |true=>exact⟨rfl,h⟩
  |false=>cases h
 |_=>exact⟨rfl,h⟩
theorem jrw:∀{l:List PV} {x:Option R},allK l x=some r→l.all argOk=true∧x=some r
 |[],x,h=>⟨rfl,h⟩
 |c::l,x,h=>by
  obtain⟨h1,h2⟩:=jrv (show arK c (allK l x)=some r from h)
  obtain⟨h3,h4⟩:=jrw h2
  exact⟨by simp[h1,h3],h4⟩
theorem lenB_eq:∀(l:List PV) (n:Nat),lenB l n=decide (l.length=n)
 |[],0=>rfl
 |[],n+1=>by simp[lenB]
 |_::_,0=>by simp[lenB]
 |_::l,n+1=>by simp[lenB,lenB_eq l n]
theorem geB_eq:∀(l:List PV) (n:Nat),geB l n=decide (n≤l.length)
 |[],0=>by simp[geB]
 |_::_,0=>by simp[geB]
 |[],n+1=>by simp[geB]
 |_::l,n+1=>by simp[geB,geB_eq l n]
theorem stOk_iff {k off:Nat} {cs old:List PV}:stOk k off cs old=true↔cs.length=k∧off+k≤old.length:=by
 simp[stOk,lenB_eq,geB_eq]
theorem j13s {z:Nat} {v:PV} {x:Option R} (h:lnK z v x=some r):v.cells.length=z∧x=some r:=by
 cases v with
 |agg cs=>
  obtain⟨h1,h2⟩:=gb_inv (show gb (lenB cs z) x=some r from h)
  rw[lenB_eq] at h1
  exact⟨by simpa [PV.cells] using h1,h2⟩
 |_=>
  obtain⟨h1,h2⟩:=gb_inv (show gb (Nat.beq 1 z) x=some r from h)
  exact⟨by simpa [PV.cells] using Nat.eq_of_beq_eq_true h1,h2⟩
theorem jxm {z:Nat}:∀{l:List PV} {x:Option R},slK z l x=some r→(l.all fun v=>argOk v&&v.cells.length==z)=true∧x=some r
 |[],x,h=>⟨rfl,h⟩
 |c::l,x,h=>by
  obtain⟨h1,h2⟩:=jrv (show arK c (lnK z c (slK z l x))=some r from h)
  obtain⟨h3,h4⟩:=j13s h2
  obtain⟨h5,h6⟩:=jxm h4
  exact⟨by simp only[List.all_cons,h1,h3,beq_self_eq_true,Bool.and_self,h5],h6⟩
theorem j13t {nl:Nat} {v:PV} {x:Option R} (h:stK nl v x=some r):stays nl v=true∧x=some r:=by
 cases v with
 | ptr g b o=>cases g with
  |true=>exact⟨rfl,h⟩
  |false=>
   obtain⟨h1,h2⟩:=gb_inv (show gb (Nat.ble (b+1) nl) x=some r from h)
   exact⟨by simp only[stays,decide_eq_true_eq];exact Nat.le_of_ble_eq_true h1,h2⟩
 | bs g b o n z=>cases g with
  |true=>exact⟨rfl,h⟩
  |false=>
   obtain⟨h1,h2⟩:=gb_inv (show gb (Nat.ble (b+1) nl) x=some r from h)
   exact⟨by simp only[stays,decide_eq_true_eq];exact Nat.le_of_ble_eq_true h1,h2⟩
 |_=>exact⟨rfl,h⟩
theorem jxn {c:Ce} {v:PV} {f:PV→Option R} (h:castC c v f=some r):f v=some r:=by
 cases c<;>simp only[castC] at h
 ·exact h
 ·exact (jxl h).2
 ·obtain⟨n,e,h2⟩:=j13j h;rw[e];exact h2
 ·obtain⟨n,e,h2⟩:=jv3 h;rw[e];exact h2
 ·obtain⟨n,e,h2⟩:=jxk h;rw[e];exact h2
 ·obtain⟨n,o,e,h2⟩:=j13n h;rw[e];exact h2
 ·obtain⟨n,e,h2⟩:=j13o h;rw[e];exact h2
theorem jxo:∀{cs:List Ce} {vs:List PV} {f:List PV→Option R},castL cs vs f=some r→f vs=some r
 |[],[],_,h=>h
 |[],_::_,_,h=>by simp[castL] at h
 |_::_,[],_,h=>by simp[castL] at h
 |c::cs,v::vs,f,h=>jxo (cs:=cs) (vs:=vs) (f:=fun vs=>f (v::vs)) (jxn h)
theorem j13u {h:Sh} {v:PV} {f:PV→Option R} (hh:cast h v f=some r):f v=some r:=by
 cases h with
 |raw=>exact hh
 |ce c=>exact jxn hh
 |agg l=>
  obtain⟨cs,rfl,h2⟩:=j13p hh
  exact jxo h2
 |tup n=>
  obtain⟨cs,rfl,h2⟩:=j13q hh
  exact h2
theorem jsj {h:Sh} {v:PV} {f:List PV→Option R} (hh:cellsX h v f=some r):f v.cells=some r:=by
 cases h<;>simp only[cellsX] at hh<;>try exact hh
 obtain⟨h1,h2⟩:=jxl hh
 rw[h1];exact h2
theorem jr6 {an:Tr} {s:St} {d:Nat} {v:PV} {k:St→Option R} (h:setX an s d v k=some r):k (s.put d v)=some r:=by
 have:=j13u h
 rwa [jr0] at this
theorem jt4 {an:Tr} {s:St} {d:Option Nat} {v:PV} {k:St→Option R} (h:setO an s d v k=some r):k ⟨putO s.env d v,s.lh,s.gh⟩=some r:=by
 cases d with
 |none=>exact h
 |some d=>exact jr6 h
theorem jt5 {gh:List GObj} {b:Nat} {cs:List PV} (h:ghCells gh b=some cs):gh[b]?=some (.cells cs):=by
 unfold ghCells at h
 split at h
 ·rename_i hg;cases h;exact hg
 ·cases h
theorem jv5 {gh:List GObj} {b:Nat} {cs:List (PV×PV)} (h:ghMap gh b=some cs):gh[b]?=some (.map cs):=by
 unfold ghMap at h
 split at h
 ·rename_i hg;cases h;exact hg
 ·cases h
theorem jt6 {gh:List GObj} {b g:Nat} {xs:List PV} (h:ghStk gh b=some (g,xs)):gh[b]?=some (.stk g xs):=by
 unfold ghStk at h
 split at h
 ·rename_i hg;cases h;exact hg
 ·cases h
theorem j13v {s:St} {agg:Bool} {k:Nat} {p:PV} {f:PV→Option R} (h:ldX s.lh s.gh agg k p f=some r) :
  (∃g b off cs v,p= .ptr g b off∧s.cellsAt g b=some cs∧grab agg k off cs=some v∧f (degr v)=some r)∨(∃e off v,p= .ep e off∧grab agg k off e.cells=some v∧f v=some r):=by
 unfold ldX at h
 simp only[jr1] at h
 split at h
 ·split at h
  ·rename_i cs hc
   split at h
   ·rename_i v h1
    exact .inl ⟨_,_,_,cs,v,rfl,by simp[St.cellsAt,hc],h1,h⟩
   ·cases h
  ·cases h
 ·obtain⟨cs,h1,h2⟩:=ob_inv h
  obtain⟨v,h3,h4⟩:=ob_inv h2
  exact .inl ⟨_,_,_,cs,v,rfl,by simp[St.cellsAt,jt5 h1],h3,h4⟩
 ·obtain⟨v,h3,h4⟩:=ob_inv h
  exact .inr ⟨_,_,v,rfl,h3,h4⟩
 ·cases h
theorem jxp {s:St} {p:PV} {kk:Nat} {cs:List PV} {k:St→Option R} (h:stoX s p kk cs k=some r) :
  ∃g b off old,p= .ptr g b off∧s.cellsAt g b=some old∧(cs.length=kk∧off+kk≤old.length)∧k (s.setCells g b (spliceAt old off cs))=some r:=by
 unfold stoX at h
 simp only[jr1,jr4] at h
 split at h
 ·split at h
  ·rename_i old hc
   obtain⟨h1,h2⟩:=gb_inv h
   exact⟨_,_,_,old,rfl,by simp[St.cellsAt,hc],stOk_iff.1 h1,by simpa [St.setCells] using h2⟩
  ·cases h
 ·obtain⟨old,h1,h2⟩:=ob_inv h
  obtain⟨h3,h4⟩:=gb_inv h2
  exact⟨_,_,_,old,rfl,by simp[St.cellsAt,jt5 h1],stOk_iff.1 h3,by simpa [St.setCells] using h4⟩
 ·cases h
theorem jxq {an:Tr} {e:List (Nat×PV)}:∀{ps:List (Nat×Nat×IX)} {z:List PV} {f:List PV→Option R},psX an e ps z f=some r→
  ∃vs cs,evalPs e ps=some vs∧(vs.all fun p=>argOk p.2.2)=true∧fillAt z vs=some cs∧f cs=some r
 |[],z,f,h=>⟨[],z,rfl,rfl,rfl,h⟩
 | (off,k,x)::l,z,f,h=>by
  simp only[psX,evX_eq] at h
  split at h
  ·rename_i v hv
   obtain⟨h1,h2⟩:=jrv h
   obtain⟨h3,h4⟩:=gb_inv (jsj h2)
   obtain⟨vs,cs,e1,e2,e3,e4⟩:=jxq h4
   refine⟨(off,k,v)::vs,cs,by simp[evalPs,hv,e1],by simp only[List.all_cons,h1,e2,Bool.and_self],?_,e4⟩
   simp only[fillAt]
   rw[if_pos (stOk_iff.1 h3)];exact e3
  ·cases h
theorem jxr {an:Tr}:∀{ps:List (Nat×Nat×IX)} {e:List (Nat×PV)} {z:List PV} {f:List (Nat×PV)→List PV→Option R},psT an e ps z f=some r→
  ∃vs e' cs,takePs e ps=some (vs,e')∧(vs.all fun p=>argOk p.2.2)=true∧fillAt z vs=some cs∧f e' cs=some r
 |[],e,z,f,h=>⟨[],e,z,rfl,rfl,rfl,h⟩
 |(off,k,x)::l,e,z,f,h=>by
  simp only[psT] at h
  obtain⟨v,e1,hv,h⟩:=jt3 h
  obtain⟨h1,h2⟩:=jrv h
  obtain⟨h3,h4⟩:=gb_inv (jsj h2)
  obtain⟨vs,e',cs,e1,e2,e3,e4⟩:=jxr h4
  refine⟨(off,k,v)::vs,e',cs,by simp[takePs,hv,e1],by simp only[List.all_cons,h1,e2,Bool.and_self],?_,e4⟩
  simp only[fillAt]
  rw[if_pos (stOk_iff.1 h3)];exact e3
theorem jxs {e:List (Nat×PV)} {x:Option IX} {f:Option Int→Option R} (h:boX e x f=some r):∃i,f i=some r∧∀(d n:Nat),(∃g,bd (R:=Nat) d i g=some n∧g=some)→sliceBd e d x=some n:=by
 cases x with
 |none=>
  refine⟨none,h,?_⟩
  rintro d n ⟨g,hg,rfl⟩
  simp only[bd] at hg
  exact hg
 | some x=>
  simp only[boX,evX_eq] at h
  split at h
  ·rename_i v hv
   obtain⟨k,i,rfl,h2⟩:=js7 h
   refine⟨some i,h2,?_⟩
   rintro d n ⟨g,hg,rfl⟩
   simp only[bd] at hg
   obtain⟨h3,h4⟩:=gd_inv hg
   simp only[decide_eq_true_eq] at h3
   simp only[sliceBd,hv,if_pos h3];exact h4
  ·cases h
theorem bd_inv {d:Nat} {x:Option Int} {f:Nat→Option R} (h:bd d x f=some r):∃n,f n=some r∧bd d x (some:Nat→Option Nat)=some n:=by
 cases x with
 |none=>exact⟨d,h,rfl⟩
 |some i=>
  obtain⟨h1,h2⟩:=gd_inv (b:=decide (0≤i)) h
  exact⟨_,h2,by simp only[bd,h1,gd0]⟩
theorem jts {gh:List GObj} {q:Bool} {x:Option (PV×List GObj)} {f:PV→List GObj→Option R} (h:callR gh q x f=some r):∃v gh',x=some (v,gh')∧(q=true→gh'=gh)∧f v gh'=some r:=by
 unfold callR at h
 split at h
 ·rename_i v gh'
  split at h
  ·split at h
   ·rename_i hg;exact⟨v,gh',rfl,fun _=>hg,by rw[hg];exact h⟩
   ·cases h
  ·exact⟨v,gh',rfl,⟨(fun hh=>nomatch hh),h⟩⟩
 ·cases h
theorem j13w {vs:List PV} {x:Option (PV×List GObj)} {f:PV→Option R} (h:callN vs x f=some r):noGs vs=true∧∃v,x=some (v,[])∧v.noG=true∧f v=some r:=by
 unfold callN at h
 obtain⟨h1,h2⟩:=gd_inv h
 refine⟨h1,?_⟩
 split at h2
 ·rename_i v
  obtain⟨h3,h4⟩:=gd_inv h2
  exact⟨v,rfl,h3,h4⟩
 ·cases h2
theorem j13x {v:PV} {f:Nat→List PV→Option R} (h:fnX v f=some r):∃i cs,v= .fn i cs∧f i cs=some r:=by
 cases v<;>simp only[fnX] at h<;>try (cases h;done)
 exact⟨_,_,rfl,h⟩
theorem jtt {cf:CallF} {s:St} {d:Option Nat} {q:Bool} {f:Nat} {vs:List PV} {v:PV} {gh':List GObj} (h1:vs.all argOk=true) (h2:cf f vs s.gh=some (v,gh')) (h3:q=true→gh'=s.gh) :
  doCall cf s d q f vs=some ⟨putO s.env d v,s.lh,gh'⟩:=by
 unfold doCall
 rw[if_pos h1,h2]
 simp only
 cases q with
 |true=>rw[h3 rfl];simp
 |false=>simp
theorem j13y {gh gh':List GObj} {v:PV} {x:Option R} (h:kbX gh gh' v x=some r):∃b,((∃o,v= .ptr true b o)∨(∃g i,v= .pstk b g i)∨(∃g n,v= .stk b g n))∧(b<gh.length∧gh'[b]?=gh[b]?)∧x=some r:=by
 unfold kbX at h
 split at h
 all_goals first
  | (split at h
     ·rename_i hb
      first
      |exact⟨_,.inl ⟨_,rfl⟩,hb,h⟩
      |exact⟨_,.inr (.inl ⟨_,_,rfl⟩),hb,h⟩
      |exact⟨_,.inr (.inr ⟨_,_,rfl⟩),hb,h⟩
     ·cases h)
  |cases h
theorem jtu {e:List (Nat×PV)} {gh gh':List GObj} {x:Option R}:∀{ns:List Nat},kpX e gh gh' ns x=some r→(∀n∈ns,keptB e gh gh' n)∧x=some r
 |[],h=>⟨nofun,h⟩
 | n::l,h=>by
  simp only[kpX,jqx] at h
  split at h
  ·rename_i v hv
   obtain⟨b,hs,hb,h⟩:=j13y h
   obtain⟨h1,h2⟩:=jtu h
   refine⟨?_,h2⟩
   intro m hm
   rcases List.mem_cons.mp hm with rfl|hm
   ·unfold keptB
    rw[hv]
    rcases hs with ⟨o,rfl⟩|⟨g,i,rfl⟩|⟨g,i,rfl⟩<;>exact hb
   ·exact h1 m hm
  ·cases h
theorem j13z {c:List GObj→Option (PV×List GObj)} {gh:List GObj} {v:PV} {off:Nat} {x:Option R} (h:rtK c gh v off x=some r):∃b o,v= .ptr true b o∧rtP c gh b (o+off)∧x=some r:=by
 unfold rtK at h
 split at h
 ·split at h
  ·rename_i hp;exact⟨_,_,rfl,hp,h⟩
  ·cases h
 ·cases h
theorem j140 {cf:CallF} {an:Tr} {s:St} {k:St→Option R} {a x:IX} (h:q6g cf an s k a x=some r):∃s',opStep cf s (.storeK a x)=some s'∧k s'=some r:=by
 simp only[q6g,evX_eq] at h
 split at h
 ·rename_i v w hv hw
  unfold skK at h
  split at h
  ·obtain⟨⟨g,xs⟩,hg,h⟩:=ob_inv h
   obtain⟨h1,h2⟩:=gd_inv h
   refine⟨_,?_,h2⟩
   simp only[opStep,hv,hw,jt6 hg]
   rw[if_pos (by simpa only[decide_eq_true_eq] using h1)]
  ·cases h
 ·cases h
theorem j141 {cf:CallF} {an:Tr} {s:St} {k:St→Option R} {x:IX} (h:q6h cf an s k x=some r):∃s',opStep cf s (.clearK x)=some s'∧k s'=some r:=by
 simp only[q6h,evX_eq] at h
 split at h
 ·rename_i v hv
  unfold ckK at h
  split at h
  ·obtain⟨⟨g,xs⟩,hg,h⟩:=ob_inv h
   obtain⟨h1,h2⟩:=gd_inv h
   simp only[decide_eq_true_eq] at h1
   obtain⟨h3,h4⟩:=h1
   refine⟨_,?_,h2⟩
   simp only[opStep,hv,jt6 hg]
   rw[if_pos ⟨h3,h4⟩]
  ·cases h
 ·cases h
theorem j142 {cf:CallF} {an:Tr} {s:St} {k:St→Option R} {d f:Nat} {fs:List IX} (h:q6i cf an s k d f fs=some r):∃s',opStep cf s (.mkbf d f fs)=some s'∧k s'=some r:=by
 simp only[q6i,jr0] at h
 obtain⟨vs,hv,h⟩:=jrl h
 obtain⟨h1,h2⟩:=jrw h
 refine⟨_,?_,h2⟩
 simp only[opStep,hv,Option.bind_some]
 rw[if_pos h1]
theorem j143 {cf:CallF} {an:Tr} {s:St} {k:St→Option R} {d:Option Nat} {f:Nat} {xs:List IX} {ns:List Nat} (h:q6j cf an s k d f xs ns=some r):∃s',opStep cf s (.callP d f xs ns)=some s'∧k s'=some r:=by
 simp only[q6j] at h
 obtain⟨vs,hv,h⟩:=jrl h
 obtain⟨h1,h⟩:=jrw h
 obtain⟨v,gh',h2,h3,h4⟩:=jts h
 obtain⟨h5,h6⟩:=jtu h4
 refine⟨_,?_,jt4 h6⟩
 simp only[opStep,hv,Option.bind_some]
 rw[jtt (q:=false) h1 h2 (by nofun)]
 simp only[Option.bind_some]
 rw[if_pos h5]
theorem j144 {cf:CallF} {an:Tr} {s:St} {k:St→Option R} {d:Option Nat} {f:Nat} {xs:List IX} {n off:Nat} (h:q6k cf an s k d f xs n off=some r):∃s',opStep cf s (.callR d f xs n off)=some s'∧k s'=some r:=by
 simp only[q6k,jqx] at h
 obtain⟨vs,hv,h⟩:=jrl h
 split at h
 ·rename_i w hw
  obtain⟨h1,h⟩:=jrw h
  obtain⟨v,gh',h2,h3,h4⟩:=jts h
  obtain⟨b,o,rfl,⟨g1,g2,r1,r2,e1,e2,e3,e4,e5⟩,h6⟩:=j13z h4
  refine⟨_,?_,jt4 h6⟩
  simp only[opStep,hv,Option.bind_some,hw,doCallR]
  rw[jtt (q:=false) h1 h2 (by nofun)]
  simp only[Option.bind_some,e1,e2,e3,e4]
  rw[if_pos e5]
 ·cases h
theorem j145 {cf:CallF} {an:Tr} {s:St} {k:St→Option R} {d bytes:Nat} {sx x:IX} (h:q6l cf an s k d bytes sx x=some r):∃s',opStep cf s (.appendE d bytes sx x)=some s'∧k s'=some r:=by
 simp only[q6l,evX_eq,jqz] at h
 split at h
 ·rename_i w hw
  obtain⟨v,e,ht,h⟩:=jt3 h
  unfold aeX at h
  split at h
  ·obtain⟨ys,hys,h⟩:=ob_inv h
   obtain⟨h1,h2⟩:=gd_inv h
   refine⟨_,?_,h2⟩
   simp only[opStep,hw,hys,ht,Option.bind_some]
   rw[if_pos (by simpa only[decide_eq_true_eq] using h1)]
  ·cases h
 ·cases h
theorem j146 {cf:CallF} {an:Tr} {s:St} {k:St→Option R} {d:Nat} {a:IX} {n:Nat} (h:q6m cf an s k d a n=some r):∃s',opStep cf s (.loadKB d a n)=some s'∧k s'=some r:=by
 simp only[q6m,evX_eq,jqx] at h
 split at h
 ·rename_i p q hp hq
  unfold lkbX at h
  split at h
  ·obtain⟨h1,h⟩:=gd_inv h
   obtain⟨v,h2,h3⟩:=ob_inv h
   refine⟨_,?_,jr6 h3⟩
   simp only[opStep,hp,hq]
   rw[if_pos (by simpa only[decide_eq_true_eq] using h1),h2];rfl
  ·cases h
 ·cases h
theorem j147 {cf:CallF} {an:Tr} {s:St} {k:St→Option R} {d:Nat} {a:IX} {n o2:Nat} (h:q6n cf an s k d a n o2=some r):∃s',opStep cf s (.loadTB d a n o2)=some s'∧k s'=some r:=by
 simp only[q6n,evX_eq,jqx,jqz] at h
 split at h
 ·rename_i p q hp hq
  unfold ltbX at h
  split at h
  ·obtain⟨h1,h⟩:=gd_inv h
   obtain⟨cs,h2,h⟩:=ob_inv h
   obtain⟨v,h3,h4⟩:=ob_inv h
   refine⟨_,?_,h4⟩
   simp only[opStep,hp,hq]
   rw[if_pos (by simpa only[decide_eq_true_eq] using h1)]
   simp[St.cellsAt,jt5 h2,h3,St.setCells,St.put]
  ·cases h
 ·cases h
theorem j148 {cf:CallF} {an:Tr} {s:St} {k:St→Option R} {d:Nat} {agg:Bool} {kk:Nat} {a:IX} {n:Nat} (h:q6o cf an s k d agg kk a n=some r):∃s',opStep cf s (.loadB d agg kk a n)=some s'∧k s'=some r:=by
 simp only[q6o,evX_eq,jqx] at h
 split at h
 ·rename_i p q hp hq
  unfold lbX at h
  split at h
  ·obtain⟨h1,h⟩:=gd_inv h
   obtain⟨cs,h2,h⟩:=ob_inv h
   obtain⟨v,h3,h4⟩:=ob_inv h
   refine⟨_,?_,jr6 h4⟩
   simp only[opStep,hp,hq]
   rw[if_pos (by simpa only[decide_eq_true_eq] using h1)]
   simp[St.cellsAt,jt5 h2,h3]
  ·cases h
 ·cases h
theorem j149 {cf:CallF} {an:Tr} {s:St} {k:St→Option R} {d:Nat} {agg:Bool} {kk:Nat} {a:IX} (h:q6p cf an s k d agg kk a=some r):∃s',opStep cf s (.loadJ d agg kk a)=some s'∧k s'=some r:=by
 simp only[q6p,evX_eq,jr1] at h
 split at h
 ·rename_i b off hp
  split at h
  ·rename_i cs hc
   obtain⟨v,h1,h2⟩:=ob_inv h
   exact⟨_,by simp[opStep,hp,hc,h1,St.cellsAt],jr6 h2⟩
  ·cases h
 ·cases h
theorem j14a {cf:CallF} {an:Tr} {s:St} {k:St→Option R} {d bytes:Nat} {sx x:IX} {ns:List Nat} (h:q6q cf an s k d bytes sx x ns=some r):∃s',opStep cf s (.appendP d bytes sx x ns)=some s'∧k s'=some r:=by
 simp only[q6q,evX_eq] at h
 split at h
 ·rename_i w v hw hv
  unfold anX at h
  split at h
  ·obtain⟨ys,hys,h⟩:=ob_inv h
   obtain⟨h1,h2⟩:=gd_inv h
   obtain⟨h5,h6⟩:=jtu h2
   refine⟨_,?_,jr6 h6⟩
   simp only[opStep,appN,hw,hv,hys,Option.bind_some]
   rw[if_pos (by simpa only[decide_eq_true_eq] using h1)]
   exact if_pos h5
  ·unfold akX at h
   obtain⟨ys,hys,h⟩:=ob_inv h
   split at h
   ·rename_i b gen n _
    obtain⟨⟨g,xs⟩,hg,h⟩:=ob_inv h
    obtain⟨h1,h2⟩:=gd_inv h
    obtain⟨h5,h6⟩:=jtu h2
    refine⟨_,?_,jr6 h6⟩
    simp only[opStep,appN,hw,hv,hys,Option.bind_some,jt6 hg]
    rw[if_pos (by simpa only[decide_eq_true_eq] using h1)]
    exact if_pos h5
   ·cases h
 ·cases h
theorem j14b {cf:CallF} {an:Tr} {s:St} {k:St→Option R} {d z bytes:Nat} {zero:PV} {l:IX} (h:q6r cf an s k d z bytes zero l=some r):∃s',opStep cf s (.mkarr d z bytes zero l)=some s'∧k s'=some r:=by
 simp only[q6r,evX_eq,jr0] at h
 split at h
 ·rename_i v hv
  obtain⟨kd,n,rfl,h⟩:=js7 h
  obtain⟨h1,h2⟩:=gd_inv h
  refine⟨_,?_,h2⟩
  simp only[opStep,hv]
  rw[if_pos (by simpa only[mkaOk,decide_eq_true_eq] using h1)]
 ·cases h
theorem jv6 {cf:CallF} {an:Tr} {s:St} {o:IOp} {k:St→Option R} (h:opX cf an s o k=some r):∃s',opStep cf s o=some s'∧k s'=some r:=by
 cases o with
 |callP=>exact j143 h
 |callR=>exact j144 h
 |appendE=>exact j145 (an:=an) h
 |loadKB=>exact j146 h
 |loadTB=>exact j147 (an:=an) h
 |loadB=>exact j148 h
 |loadJ=>exact j149 h
 |appendP=>exact j14a h
 |mkarr=>exact j14b (an:=an) h
 |buildA=>cases h
 |boxSl=>cases h
 |mv d x=>
  simp only[opX,qau,jqx,evX_eq,evK_eq,jqz,jr0,jr5,jr1,jr4,jr3] at h
  split at h
  ·rename_i v hv;exact⟨_,by simp[opStep,hv],jr6 h⟩
  ·cases h
 |tk d n=>
  simp only[opX,qav,jqx,evX_eq,evK_eq,jqz,jr0,jr5,jr1,jr4,jr3] at h
  split at h
  ·rename_i v hv;exact⟨_,by simp[opStep,hv],h⟩
  ·cases h
 | pick d c x y=>
  simp only[opX,qaw,jqx,evX_eq,evK_eq,jqz,jr0,jr5,jr1,jr4,jr3] at h
  split at h
  ·rename_i c' v w hc hv hw
   obtain⟨b,rfl,h⟩:=jv3 h
   cases b with
   |true=>exact⟨_,by simp[opStep,hc,hv],jr6 h⟩
   |false=>exact⟨_,by simp[opStep,hc,hw],jr6 h⟩
  ·cases h
 | box d g tk x=>
  cases tk with
  |true=>
   simp only[opX,q6c,q6d,jqx,evX_eq,evK_eq,jqz,jr0,jr5,jr1,jr4,jr3] at h
   obtain⟨v,e,hv,h⟩:=jt3 h
   obtain⟨h1,h2⟩:=jrv h
   exact⟨_,by simp[opStep,hv,h1],jsj h2⟩
  | false=>
   simp only[opX,q6c,q6d,jqx,evX_eq,evK_eq,jqz,jr0,jr5,jr1,jr4,jr3] at h
   split at h
   ·rename_i v hv
    obtain⟨h1,h2⟩:=jrv h
    exact⟨_,by simp[opStep,hv,h1],jsj h2⟩
   ·cases h
 |alloc d g z=>
  simp only[opX,qax,jqx,evX_eq,evK_eq,jqz,jr0,jr5,jr1,jr4,jr3] at h
  obtain⟨h1,h2⟩:=jrv h
  exact⟨_,by simp[opStep,h1],h2⟩
 |build d z ps=>
  simp only[opX,qay,jqx,evX_eq,evK_eq,jqz,jr0,jr5,jr1,jr4,jr3] at h
  obtain⟨h1,h2⟩:=jtr h
  obtain⟨vs,cs,e1,e2,e3,e4⟩:=jxq h2
  refine⟨_,?_,e4⟩
  simp only[opStep,e1,Option.bind_some]
  rw[if_pos ⟨e2,h1⟩,e3];rfl
 |buildT d z ps=>
  simp only[opX,qaz,jqx,evX_eq,evK_eq,jqz,jr0,jr5,jr1,jr4,jr3] at h
  obtain⟨h1,h2⟩:=jtr h
  obtain⟨vs,e',cs,e1,e2,e3,e4⟩:=jxr h2
  refine⟨_,?_,e4⟩
  simp only[opStep,e1,Option.bind_some]
  rw[if_pos ⟨e2,h1⟩,e3];rfl
 |buildSl d z els=>
  simp only[opX,qb0,jqx,evX_eq,evK_eq,jqz,jr0,jr5,jr1,jr4,jr3] at h
  obtain⟨vs,hv,h⟩:=jrl h
  obtain⟨h1,h2⟩:=jxm h
  refine⟨_,?_,h2⟩
  simp only[opStep,hv,Option.bind_some]
  rw[if_pos h1]
 | load d agg kk a=>
  simp only[opX,qb1,jqx,evX_eq,evK_eq,jqz,jr0,jr5,jr1,jr4,jr3] at h
  split at h
  ·rename_i p hp
   rcases j13v h with ⟨g,b,off,cs,v,rfl,h1,h2,h3⟩|⟨e,off,v,rfl,h1,h2⟩
   ·exact⟨_,by simp[opStep,hp,h1,h2],jr6 h3⟩
   ·exact⟨_,by simp[opStep,hp,h1],jr6 h2⟩
  ·cases h
 | loadT d a=>
  simp only[opX,qb2,jqx,evX_eq,evK_eq,jqz,jr0,jr5,jr1,jr4,jr3] at h
  split at h
  ·rename_i b off hp
   split at h
   ·rename_i cs hc
    obtain⟨v,h1,h2⟩:=ob_inv h
    exact⟨_,by simp[opStep,hp,St.cellsAt,hc,h1,St.setCells,St.put],h2⟩
   ·cases h
  ·rename_i b off hp
   obtain⟨cs,h0,h⟩:=ob_inv h
   obtain⟨v,h1,h2⟩:=ob_inv h
   exact⟨_,by simp[opStep,hp,St.cellsAt,jt5 h0,h1,St.setCells,St.put],h2⟩
  ·cases h
 | loadL d a=>
  simp only[opX,qb3,jqx,evX_eq,evK_eq,jqz,jr0,jr5,jr1,jr4,jr3] at h
  split at h
  ·rename_i b off hp
   split at h
   ·rename_i cs hc
    obtain⟨v,h1,h2⟩:=ob_inv h
    exact⟨_,by simp[opStep,hp,hc,h1,St.put],h2⟩
   ·cases h
  ·cases h
 | store tk kk a x=>
  cases tk with
  | true=>
   simp only[opX,q6e,q6f,jqx,evX_eq,evK_eq,jqz,jr0,jr5,jr1,jr4,jr3] at h
   split at h
   ·rename_i p hp
    obtain⟨v,e,hv,h⟩:=jt3 h
    obtain⟨h1,h2⟩:=jrv h
    obtain⟨g,b,off,old,rfl,h3,h4,h5⟩:=jxp (jsj h2)
    refine⟨_,?_,h5⟩
    simp only[opStep,hp,if_true,hv,Option.bind_some,h3]
    rw[if_pos ⟨h4.1,h4.2,h1⟩]
   ·cases h
  | false=>
   simp only[opX,q6e,q6f,jqx,evX_eq,evK_eq,jqz,jr0,jr5,jr1,jr4,jr3] at h
   split at h
   ·rename_i p v hp hv
    obtain⟨h1,h2⟩:=jrv h
    obtain⟨g,b,off,old,rfl,h3,h4,h5⟩:=jxp (jsj h2)
    refine⟨_,?_,h5⟩
    simp only[opStep,hp,Bool.false_eq_true,if_false,hv,Option.bind_some,h3]
    rw[if_pos ⟨h4.1,h4.2,h1⟩]
   ·cases h
 | nilc d x=>
  simp only[opX,qb4,jqx,evX_eq,evK_eq,jqz,jr0,jr5,jr1,jr4,jr3] at h
  split at h
  ·rename_i p hp
   obtain⟨h1,h2⟩:=gd_inv h
   refine⟨_,?_,jr6 h2⟩
   cases p<;>simp[isPtr] at h1<;>simp[opStep,hp]
  ·cases h
 | bin d op x y=>
  simp only[opX,qb5,jqx,evX_eq,evK_eq,jqz,jr0,jr5,jr1,jr4,jr3] at h
  split at h
  ·rename_i a b ha hb
   obtain⟨v,h1,h2⟩:=j13k h
   exact⟨_,by simp[opStep,ha,hb,h1],jr6 h2⟩
  ·cases h
 | eqa d neg ks x y=>
  simp only[opX,qb6,jqx,evX_eq,evK_eq,jqz,jr0,jr5,jr1,jr4,jr3] at h
  split at h
  ·rename_i a b ha hb
   obtain⟨v,h1,h2⟩:=ob_inv h
   refine⟨s.put d (.bool (if neg then !v else v)),by simp only[opStep,ha,hb,h1,Option.map_some],?_⟩
   cases neg<;>exact h2
  ·cases h
 |eqb=>simp[opX] at h
 |eqn=>simp[opX] at h
 | un d op x=>
  simp only[opX,qb7,jqx,evX_eq,evK_eq,jqz,jr0,jr5,jr1,jr4,jr3] at h
  split at h
  ·rename_i a ha
   obtain⟨v,h1,h2⟩:=j13l h
   exact⟨_,by simp[opStep,ha,h1],jr6 h2⟩
  ·cases h
 | conv d kd x=>
  simp only[opX,qb8,jqx,evX_eq,evK_eq,jqz,jr0,jr5,jr1,jr4,jr3] at h
  split at h
  ·rename_i v hv
   obtain⟨k',n,rfl,h⟩:=js7 h
   exact⟨_,by simp only[opStep,hv],h⟩
  ·cases h
 |mkfn d f caps=>
  simp only[opX,qb9,jqx,evX_eq,evK_eq,jqz,jr0,jr5,jr1,jr4,jr3] at h
  obtain⟨vs,hv,h⟩:=jrl h
  obtain⟨h1,h2⟩:=jrw h
  refine⟨_,?_,h2⟩
  simp only[opStep,hv,Option.bind_some]
  rw[if_pos h1]
 |loadG=>simp[opX] at h
 |mkbld=>simp[opX] at h
 |mkmap d=>
  simp only[opX,qba,jqz] at h
  exact⟨_,rfl,h⟩
 | mksl d g z bytes zero l=>
  simp only[opX,qbb,jqx,evX_eq,evK_eq,jqz,jr0,jr5,jr1,jr4,jr3] at h
  split at h
  ·rename_i v hv
   obtain⟨k',n,rfl,h⟩:=js7 h
   obtain⟨h1,h2⟩:=gd_inv h
   cases g with
   |true=>
    refine⟨_,by simp only[opStep,hv];rw[if_pos (by simpa only[mkOk,decide_eq_true_eq] using h1)],?_⟩
    exact h2
   | false=>
    obtain⟨h3,h4⟩:=gd_inv h2
    refine⟨s.put d (.sl true z (List.replicate n.toNat zero)),?_,?_⟩
    ·simp only[opStep,hv]
     rw[if_pos (by simpa only[mkOk,decide_eq_true_eq] using h1)]
     simp only[if_pos h3]
    ·exact h4
  ·cases h
 | slice d z x lo hi=>
  simp only[opX,qbc,jqx,evX_eq,evK_eq,jqz,jr0,jr5,jr1,jr4,jr3] at h
  split at h
  ·rename_i v hv
   obtain⟨i,h,hlo⟩:=jxs h
   obtain⟨j,h,hhi⟩:=jxs h
   unfold slX at h
   split at h
   ·rename_i o z' xs
    obtain⟨m,h,h1⟩:=bd_inv h
    obtain⟨l,h,h2⟩:=bd_inv h
    obtain⟨h3,h4⟩:=gd_inv h
    refine⟨_,?_,jr6 h4⟩
    simp only[opStep,hv,hhi _ _ ⟨_,h1,rfl⟩,hlo _ _ ⟨_,h2,rfl⟩,Option.bind_some]
    rw[if_pos (by simpa only[decide_eq_true_eq] using h3)]
   ·rename_i g b off n z'
    obtain⟨m,h,h1⟩:=bd_inv h
    obtain⟨l,h,h2⟩:=bd_inv h
    obtain⟨h3,h4⟩:=gd_inv h
    refine⟨_,?_,jr6 h4⟩
    simp only[opStep,hv,hhi _ _ ⟨_,h1,rfl⟩,hlo _ _ ⟨_,h2,rfl⟩,Option.bind_some]
    rw[if_pos (by simpa only[decide_eq_true_eq] using h3)]
   ·rename_i b gen n
    split at h
    ·obtain⟨m,h,h1⟩:=bd_inv h
     obtain⟨h3,h4⟩:=gd_inv h
     refine⟨_,?_,jr6 h4⟩
     have hlo0:lo.isNone=true:=by
      cases lo with
      |none=>rfl
      |some y=>
       have q1:=hlo 0 0 ⟨_,rfl,rfl⟩
       have q2:sliceBd s.env 0 (some y)=some 1:=hlo 1 1 ⟨_,rfl,rfl⟩
       rw[q1] at q2;cases q2
     simp only[opStep,hv,hhi _ _ ⟨_,h1,rfl⟩,hlo0,Option.bind_some,if_true]
     rw[if_pos (by simpa only[decide_eq_true_eq] using h3)]
    ·obtain⟨m,h,h1⟩:=bd_inv h
     obtain⟨l,h,h2⟩:=bd_inv h
     obtain⟨h3,h4⟩:=gd_inv h
     refine⟨_,?_,jr6 h4⟩
     have e1:=hlo _ _ ⟨_,h2,rfl⟩
     have hlo0:lo.isNone=false:=by
      cases lo with
      |some y=>rfl
      |none=>
       exfalso
       have h2':bd 1 (some _) _=some _:=h2
       have e2:sliceBd s.env 1 none=some l:=hlo 1 l ⟨_,h2',rfl⟩
       simp only[sliceBd] at e1 e2
       rw[←e1] at e2;cases e2
     simp only[opStep,hv,hhi _ _ ⟨_,h1,rfl⟩,e1,hlo0,Option.bind_some]
     rw[if_neg (by decide)]
     rw[if_pos (by simpa only[decide_eq_true_eq] using h3)]
   ·rename_i b gen off n
    obtain⟨m,h,h1⟩:=bd_inv h
    obtain⟨l,h,h2⟩:=bd_inv h
    obtain⟨h3,h4⟩:=gd_inv h
    refine⟨_,?_,jr6 h4⟩
    simp only[opStep,hv,hhi _ _ ⟨_,h1,rfl⟩,hlo _ _ ⟨_,h2,rfl⟩,Option.bind_some]
    rw[if_pos (by simpa only[decide_eq_true_eq] using h3)]
   ·cases h
  ·cases h
 |sliceS=>simp[opX] at h
 | faddr d x off=>
  simp only[opX,qbd,jqx,evX_eq,evK_eq,jqz,jr0,jr5,jr1,jr4,jr3] at h
  split at h
  ·rename_i p hp
   unfold faX at h
   split at h
   ·exact⟨_,by simp only[opStep,hp],jr6 h⟩
   ·exact⟨_,by simp only[opStep,hp],jr6 h⟩
   ·cases h
  ·cases h
 | field d agg kk off x=>
  simp only[opX,qbe,jqx,evX_eq,evK_eq,jqz,jr0,jr5,jr1,jr4,jr3] at h
  split at h
  ·rename_i v hv
   unfold fdX at h
   split at h
   ·obtain⟨u,h1,h2⟩:=ob_inv h
    exact⟨_,by simp[opStep,hv,h1],jr6 h2⟩
   ·cases h
  ·cases h
 | iaddr d z arr x i=>
  simp only[opX,qbf,jqx,evX_eq,evK_eq,jqz,jr0,jr5,jr1,jr4,jr3] at h
  split at h
  ·rename_i iv v hi hv
   obtain⟨k',n,rfl,h⟩:=js7 h
   unfold idX at h
   split at h
   ·obtain⟨h1,h2⟩:=gd_inv h
    obtain⟨e,h3,h4⟩:=ob_inv h2
    refine⟨_,?_,jr6 h4⟩
    simp only[opStep,hi,hv]
    rw[if_pos (by simpa only[decide_eq_true_eq] using h1),h3];rfl
   ·obtain⟨h1,h2⟩:=gd_inv h
    refine⟨_,?_,jr6 h2⟩
    simp only[opStep,hi,hv]
    rw[if_pos (by simpa only[decide_eq_true_eq] using h1)]
   ·obtain⟨h1,h2⟩:=gd_inv h
    refine⟨_,?_,jr6 h2⟩
    simp only[opStep,hi,hv]
    rw[if_pos (by simpa only[decide_eq_true_eq] using h1)]
   ·obtain⟨h1,h2⟩:=gd_inv h
    refine⟨_,?_,jr6 h2⟩
    simp only[opStep,hi,hv]
    rw[if_pos (by simpa only[decide_eq_true_eq] using h1)]
   ·obtain⟨h1,h2⟩:=gd_inv h
    refine⟨_,?_,jr6 h2⟩
    simp only[opStep,hi,hv]
    rw[if_pos (by simpa only[decide_eq_true_eq] using h1)]
   ·obtain⟨h1,h2⟩:=gd_inv h
    refine⟨_,?_,jr6 h2⟩
    simp only[opStep,hi,hv]
    rw[if_pos (by simpa only[decide_eq_true_eq] using h1)]
   ·cases h
  ·cases h
 | index d z arr agg x i=>
  simp only[opX,qbg,jqx,evX_eq,evK_eq,jqz,jr0,jr5,jr1,jr4,jr3] at h
  split at h
  ·rename_i iv v hi hv
   obtain⟨k',n,rfl,h⟩:=js7 h
   unfold ixX at h
   split at h
   ·obtain⟨h1,h2⟩:=gd_inv h
    obtain⟨e,h3,h4⟩:=ob_inv h2
    refine⟨_,?_,jr6 h4⟩
    simp only[opStep,hi,hv]
    rw[if_pos (by simpa only[decide_eq_true_eq] using h1),h3];rfl
   ·cases h
  ·cases h
 | indexS d x i=>
  simp only[opX,qbh,jqx,evX_eq,evK_eq,jqz,jr0,jr5,jr1,jr4,jr3] at h
  split at h
  ·rename_i iv v hi hv
   obtain⟨k',n,rfl,h⟩:=js7 h
   unfold isX at h
   split at h
   ·obtain⟨h1,h2⟩:=gd_inv h
    obtain⟨e,h3,h4⟩:=ob_inv h2
    refine⟨_,?_,h4⟩
    simp only[opStep,hi,hv]
    rw[if_pos (by simpa only[decide_eq_true_eq] using h1),h3];rfl
   ·cases h
  ·cases h
 | lookup d kn m kx ok zero=>
  simp only[opX,qbi,jqx,evX_eq,evK_eq,jqz,jr0,jr5,jr1,jr4,jr3] at h
  split at h
  ·rename_i mv kv hm hk
   unfold lkX at h
   split at h
   ·rename_i b
    obtain⟨es,h1,h⟩:=ob_inv h
    obtain⟨h2,h⟩:=gd_inv h
    obtain⟨u,h3,h⟩:=ob_inv h
    have h1':=jv5 h1
    cases u with
    |none=>
     refine⟨_,?_,jr6 h⟩
     simp only[opStep,hm,hk,h1',h2,h3,Bool.true_eq_false,if_false]
     cases ok<;>rfl
    |some u=>
     refine⟨_,?_,jr6 h⟩
     simp only[opStep,hm,hk,h1',h2,h3,Bool.true_eq_false,if_false]
     cases ok<;>rfl
   ·cases h
  ·cases h
 | mupd kn m kx x=>
  simp only[opX,qbj,jqx,evX_eq,evK_eq,jqz,jr0,jr5,jr1,jr4,jr3] at h
  split at h
  ·rename_i mv kv v hm hk hv
   unfold muX at h
   split at h
   ·rename_i b
    obtain⟨es,h1,h⟩:=ob_inv h
    obtain⟨h2,h⟩:=gd_inv h
    obtain⟨u,h3,h⟩:=ob_inv h
    have h1':=jv5 h1
    simp only[Bool.and_eq_true] at h2
    refine⟨_,?_,h⟩
    simp only[opStep,hm,hk,hv,h1']
    rw[if_pos ⟨h2.1,h2.2.1,h2.2.2⟩,h3];rfl
   ·cases h
  ·cases h
 |call d q f xs=>
  simp only[opX,qbk] at h
  obtain⟨vs,hv,h⟩:=jrl h
  obtain⟨h1,h⟩:=jrw h
  obtain⟨v,gh',h2,h3,h4⟩:=jts h
  refine⟨_,?_,jt4 h4⟩
  simp only[opStep,hv,Option.bind_some]
  exact jtt h1 h2 h3
 | callv d q fv xs=>
  simp only[opX,qbl,jqx,evX_eq,evK_eq,jqz,jr0,jr5,jr1,jr4,jr3] at h
  split at h
  ·rename_i w hw
   obtain⟨vs,hv,h⟩:=jrl h
   obtain⟨f,caps,rfl,h⟩:=j13x h
   obtain⟨h1,h⟩:=jrw h
   obtain⟨h1',h⟩:=jrw h
   obtain⟨v,gh',h2,h3,h4⟩:=jts h
   refine⟨_,?_,jt4 h4⟩
   simp only[opStep,hw,hv,Option.bind_some]
   exact jtt (by rw[List.all_append,h1,h1'];rfl) h2 h3
  ·cases h
 |callF d f xs=>
  simp only[opX,qbm,jqx,evX_eq,evK_eq,jqz,jr0,jr5,jr1,jr4,jr3] at h
  obtain⟨vs,hv,h⟩:=jrl h
  obtain⟨h0,h⟩:=jrw h
  obtain⟨h1,v,h2,h3,h4⟩:=j13w h
  refine⟨_,?_,jt4 h4⟩
  simp only[opStep,hv,Option.bind_some,doFree]
  rw[if_pos ⟨h0,h1⟩,h2]
  simp only
  rw[if_pos h3]
 |callE=>simp[opX] at h
 |loadN=>simp[opX] at h
 | len d kd x=>
  match kd with
  | 0=>
   simp only[opX,q32,q33,q34,jqx,evX_eq,evK_eq,jqz,jr0,jr5,jr1,jr4,jr3] at h
   split at h
   ·rename_i v hv
    unfold lenS at h
    split at h
    ·exact⟨_,by simp only[opStep,hv],h⟩
    ·exact⟨_,by simp only[opStep,hv],h⟩
    ·exact⟨_,by simp only[opStep,hv],h⟩
    ·exact⟨_,by simp only[opStep,hv],h⟩
    ·exact⟨_,by simp only[opStep,hv],h⟩
    ·cases h
   ·cases h
  | 1=>
   simp only[opX,q32,q33,q34,jqx,evX_eq,evK_eq,jqz,jr0,jr5,jr1,jr4,jr3] at h
   split at h
   ·rename_i v hv
    obtain⟨b,rfl,h⟩:=jxk h
    exact⟨_,by simp only[opStep,hv],h⟩
   ·cases h
  | 2=>
   simp only[opX,q32,q33,q34,jqx,evX_eq,evK_eq,jqz,jr0,jr5,jr1,jr4,jr3] at h
   split at h
   ·rename_i v hv
    unfold lenM at h
    split at h
    ·obtain⟨es,h1,h⟩:=ob_inv h
     exact⟨_,by simp only[opStep,hv,jv5 h1],h⟩
    ·cases h
   ·cases h
  |n+3=>simp[opX] at h
 | append d z bytes sx x=>
  simp only[opX,qbn,jqx,evX_eq,evK_eq,jqz,jr0,jr5,jr1,jr4,jr3] at h
  split at h
  ·rename_i w hw
   obtain⟨v,e,hv,h⟩:=jt3 h
   unfold apX at h
   split at h
   ·obtain⟨h1,h2⟩:=gd_inv h
    refine⟨_,?_,h2⟩
    simp only[opStep,hw,hv,Option.bind_some]
    rw[if_pos (by simpa only[decide_eq_true_eq] using h1)]
   ·cases h
  ·cases h
 | appendK d bytes sx x=>
  simp only[opX,qbo,jqx,evX_eq,evK_eq,jqz,jr0,jr5,jr1,jr4,jr3] at h
  split at h
  ·rename_i w v hw hv
   unfold akX at h
   obtain⟨ys,hys,h⟩:=ob_inv h
   split at h
   ·rename_i b gen n
    obtain⟨⟨g,xs⟩,hg,h⟩:=ob_inv h
    obtain⟨h1,h2⟩:=gd_inv h
    refine⟨_,?_,jr6 h2⟩
    simp only[opStep,hw,hv,hys,Option.bind_some,jt6 hg]
    rw[if_pos (by simpa only[decide_eq_true_eq] using h1)]
   ·cases h
  ·cases h
 |storeK a x=>exact j140 (an:=an) h
 |clearK x=>exact j141 (an:=an) h
 |mkbf d f fs=>exact j142 (an:=an) h
 | appendN d bytes sx x=>
  simp only[opX,qbp,jqx,evX_eq,evK_eq,jqz,jr0,jr5,jr1,jr4,jr3] at h
  split at h
  ·rename_i w v hw hv
   unfold anX at h
   split at h
   ·obtain⟨ys,hys,h⟩:=ob_inv h
    obtain⟨h1,h2⟩:=gd_inv h
    refine⟨_,?_,jr6 h2⟩
    simp only[opStep,hw,hv,hys,Option.bind_some]
    rw[if_pos (by simpa only[decide_eq_true_eq] using h1)]
   ·unfold akX at h
    obtain⟨ys,hys,h⟩:=ob_inv h
    split at h
    ·rename_i b gen n _
     obtain⟨⟨g,xs⟩,hg,h⟩:=ob_inv h
     obtain⟨h1,h2⟩:=gd_inv h
     refine⟨_,?_,jr6 h2⟩
     simp only[opStep,hw,hv,hys,Option.bind_some,jt6 hg]
     rw[if_pos (by simpa only[decide_eq_true_eq] using h1)]
    ·cases h
  ·cases h
 |loadH=>simp[opX] at h
 | loadK d a=>
  simp only[opX,qbq,jqx,evX_eq,evK_eq,jqz,jr0,jr5,jr1,jr4,jr3] at h
  split at h
  ·rename_i v hv
   unfold lkK at h
   split at h
   ·obtain⟨u,h1,h2⟩:=ob_inv h
    exact⟨_,by simp[opStep,hv,h1],jr6 h2⟩
   ·cases h
  ·cases h
 |buildSlK d els=>
  simp only[opX,qbr,jqx,evX_eq,evK_eq,jqz,jr0,jr5,jr1,jr4,jr3] at h
  obtain⟨vs,hv,h⟩:=jrl h
  obtain⟨h1,h2⟩:=gd_inv h
  refine⟨_,?_,h2⟩
  simp only[opStep,hv,Option.bind_some]
  rw[if_pos h1];rfl
 |maxi d xs=>
  simp only[opX,qbs,jqx,evX_eq,evK_eq,jqz,jr0,jr5,jr1,jr4,jr3] at h
  obtain⟨vs,hv,h⟩:=jrl h
  obtain⟨v,h1,h2⟩:=j13m h
  exact⟨_,by simp[opStep,hv,h1],jr6 h2⟩
 | extract d x i=>
  simp only[opX,qbt,jqx,evX_eq,evK_eq,jqz,jr0,jr5,jr1,jr4,jr3] at h
  split at h
  ·rename_i v hv
   unfold exX at h
   split at h
   ·obtain⟨u,h1,h2⟩:=ob_inv h
    exact⟨_,by simp[opStep,hv,h1],jr6 h2⟩
   ·cases h
  ·cases h
theorem skX_eq (s:St) (o:IOp) (k:St→Option R):skX s o k=k (skipped s o):=by
 unfold skX skipped
 cases opDst o with
 |none=>rfl
 |some d=>simp only[jr0]
theorem js8 {cf:CallF} {an:Tr}:∀{l:List IOpG} {s:St} {k:St→Option R},opsX cf an l s k=some r→∃s',opsRun cf l s=some s'∧k s'=some r
 |[],s,k,h=>⟨s,rfl,h⟩
 |⟨o,none⟩::l,s,k,h=>by
  simp only[opsX] at h
  obtain⟨s1,h1,h2⟩:=jv6 h
  obtain⟨s2,h3,h4⟩:=js8 h2
  exact⟨s2,by simp only[opsRun,h1,Option.bind_some];exact h3,h4⟩
 | ⟨o,some (g,want)⟩::l,s,k,h=>by
  have key:∀b,get s.env g=some (.bool b)→s.put g (.bool b)=s:=by
   intro b hb
   have:∀(e:List (Nat×PV)),get e g=some (.bool b)→Lw.put e g (.bool b)=e:=by
    intro e
    induction e with
    |nil=>intro h;simp[get] at h
    |cons a e ih=>
     obtain⟨x,v⟩:=a
     intro h
     simp only[get] at h
     simp only[Lw.put]
     split at h
     ·rename_i hx;cases h;rw[if_pos hx,hx]
     ·rename_i hx;rw[if_neg hx,ih h]
   simp only[St.put,this s.env hb]
  simp only[opsX,jqx,skX_eq] at h
  simp only[opsRun]
  split at h
  ·rename_i b hb
   cases b with
   | true=>
    simp only[br,jr0] at h
    rw[key true hb] at h
    cases want with
    |true=>
     simp only at h
     obtain⟨s1,h1,h2⟩:=jv6 h
     obtain⟨s2,h3,h4⟩:=js8 h2
     exact⟨s2,by simp only[hb,if_true,h1,Option.bind_some];exact h3,h4⟩
    |false=>
     simp only at h
     obtain⟨s2,h3,h4⟩:=js8 h
     exact⟨s2,by simp only[hb,Bool.true_eq_false,if_false];exact h3,h4⟩
   | false=>
    simp only[br,jr0] at h
    rw[key false hb] at h
    cases want with
    |true=>
     simp only at h
     obtain⟨s2,h3,h4⟩:=js8 h
     exact⟨s2,by simp only[hb,Bool.false_eq_true,if_false];exact h3,h4⟩
    |false=>
     simp only at h
     obtain⟨s1,h1,h2⟩:=jv6 h
     obtain⟨s2,h3,h4⟩:=js8 h2
     exact⟨s2,by simp only[hb,if_true,h1,Option.bind_some];exact h3,h4⟩
  ·rename_i hb
   obtain⟨s2,h3,h4⟩:=js8 h
   exact⟨s2,by simp only[hb];exact h3,h4⟩
  ·cases h
theorem jv7 {nl:Nat}:∀{ks:List Nat} {e:List (Nat×PV)} {f:List (Nat×PV)→Option R},keepX nl ks e f=some r→f (keep nl ks e)=some r
 |[],_,_,h=>h
 | t::l,e,f,h=>by
  simp only[keepX,jqx] at h
  simp only[keep]
  split at h
  ·rename_i v hv
   obtain⟨h1,h2⟩:=j13t h
   simp only[hv,h1,if_true]
   exact jv7 (f:=fun e'=>f ((t,v)::e')) h2
  ·rename_i hv
   simp only[hv]
   exact jv7 h
theorem kR_inv {x:Option (IExit×St)} {k:IExit→St→Option R} (h:kR x k=some r):∃e s,x=some (e,s)∧k e s=some r:=by
 unfold kR at h
 split at h
 ·exact⟨_,_,rfl,h⟩
 ·cases h
theorem j14c {pg:Prg} {an:Tr}:∀{c:ICode} {s:St} {k:IExit→St→Option R},runX pg an c s k=some r→∃e s',runL pg c s=some (e,s')∧k e s'=some r:=by
 intro c
 induction c with
 |skip=>intro s k h;exact⟨_,_,jzr pg s,h⟩
 |region ops d=>
  intro s k h
  obtain⟨s',h1,h2⟩:=js8 (show opsX (callL pg) an ops s (k .normal)=some r from h)
  exact⟨_,_,by rw[jzu,h1];rfl,h2⟩
 | seq a b iha ihb=>
  intro s k h
  obtain⟨e,s1,h1,h2⟩:=iha (show runX pg an a s _=some r from h)
  rw[jzw,h1]
  cases e with
  |normal=>
   obtain⟨e2,s2,h3,h4⟩:=ihb (show runX pg an b s1 k=some r from h2)
   exact⟨e2,s2,h3,h4⟩
  |exit i=>exact⟨_,_,rfl,h2⟩
  |ret=>exact⟨_,_,rfl,h2⟩
 | cond x a b iha ihb=>
  intro s k h
  simp only[runX,evX_eq] at h
  split at h
  ·rename_i v hv
   obtain⟨c,rfl,h2⟩:=jv3 h
   rw[jzv,hv]
   cases c with
   |true=>exact iha h2
   |false=>exact ihb h2
  ·cases h
 | block id a iha=>
  intro s k h
  obtain⟨e,s1,h1,h2⟩:=iha (show runX pg an a s _=some r from h)
  rw[jsq,h1]
  cases e with
  |normal=>exact⟨_,_,rfl,h2⟩
  | exit i=>
   simp only[bk] at h2
   simp only
   by_cases hi:i=id
   ·subst hi
    rw[if_pos rfl];simp only[Nat.beq_refl,br] at h2;exact⟨_,_,rfl,h2⟩
   ·have:Nat.beq i id=false:=jv1 hi
    rw[this] at h2
    rw[if_neg hi];exact⟨_,_,rfl,h2⟩
  |ret=>exact⟨_,_,rfl,h2⟩
 |loop a _=>intro s k h;exact kR_inv (show kR (runL pg (.loop a) s) k=some r from h)
 |exit i=>intro s k h;exact⟨_,_,jzs pg s i,h⟩
 |ret=>intro s k h;exact⟨_,_,jzt pg s,h⟩
 | post a ks nl iha=>
  intro s k h
  obtain⟨e,s1,h1,h2⟩:=iha (show runX pg an a s _=some r from h)
  rw[jsr,h1]
  cases e with
  |normal=>
   simp only[po,jv2] at h2
   exact⟨_,_,rfl,jv7 h2⟩
  |exit i=>exact⟨_,_,rfl,h2⟩
  |ret=>exact⟨_,_,rfl,h2⟩
 |bad=>
  intro s k h
  exact absurd (show (none:Option _)=some r from h) (by simp)
 |cut a _=>
  intro s k h
  rw[jzx]
  exact kR_inv (show kR (runL pg a s) k=some r from h)
theorem jqr {pg:Prg} (an:Tr) {c:ICode} {s:St} {e:IExit} {s':St} (h:runX pg an c s (fun e s=>some (e,s))=some (e,s')):runL pg c s=some (e,s'):=by
 obtain⟨e1,s1,h1,h2⟩:=j14c h
 cases h2;exact h1
end
end Go.Lw
end
