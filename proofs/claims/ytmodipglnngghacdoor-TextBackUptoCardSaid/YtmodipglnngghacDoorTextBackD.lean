/-
  The texts that the proof stands on, part 4.
-/
import Derived.Test.YtmodipglnngghacDoorTextBackC
set_option linter.unusedVariables false
set_option linter.unusedSimpArgs false
set_option linter.unnecessarySimpa false

/-! What is read off the machine's code is what it comes to. -/
section
set_option maxHeartbeats 1000000
namespace Go.Lw
open Go
section
variable {R:Type} {α:Type} {r:R}
theorem ob_inv {x:Option α} {f:α→Option R} (h:ob x f=some r):∃a,x=some a∧f a=some r:=by
 cases x with
 |none=>cases h
 |some a=>exact⟨a,rfl,h⟩
theorem gd_inv {b:Bool} {x:Option R} (h:gd b x=some r):b=true∧x=some r:=by
 cases b with
 |false=>cases h
 |true=>exact⟨rfl,h⟩
theorem gb_inv {b:Bool} {x:Option R} (h:gb b x=some r):b=true∧x=some r:=by
 cases b with
 |false=>cases h
 |true=>exact⟨rfl,h⟩
theorem kE_inv {k k':IntKind} {x:Option R} (h:kE k k' x=some r):k=k'∧x=some r:=by
 obtain⟨h1,h2⟩:=gb_inv h
 refine⟨?_,h2⟩
 cases k<;>cases k'<;>simp[kIdx] at h1 ⊢
theorem jm6 {k:IntKind} {v:PV} {f:Int→Option R} (h:unI k v f=some r):∃n,v= .int k n∧f n=some r:=by
 cases v<;>simp only[unI] at h<;>try (cases h;done)
 obtain⟨rfl,h2⟩:=kE_inv h
 exact⟨_,rfl,h2⟩
theorem je6 {a b:Nat} (h:¬a=b):Nat.beq a b=false:=by
 cases hb:Nat.beq a b with
 |true=>exact absurd (Nat.eq_of_beq_eq_true hb) h
 |false=>rfl
theorem jaj:∀(e:List (Nat×PV)) (t:Nat),getX e t=get e t
 |[],_=>rfl
 | (a,v)::l,t=>by
  simp only[getX,get]
  by_cases h:a=t
  ·subst h;simp
  ·have:Nat.beq a t=false:=je6 h
   rw[this,if_neg h];exact jaj l t
theorem jak:∀(e:List (Nat×PV)) (t:Nat) (v:PV) (k:List (Nat×PV)→Option R),putK e t v k=k (Lw.put e t v)
 |[],_,_,_=>rfl
 | (a,u)::l,t,v,k=>by
  simp only[putK,Lw.put]
  by_cases h:a=t
  ·subst h;simp
  ·have:Nat.beq a t=false:=je6 h
   rw[this,if_neg h];exact jak l t v _
theorem jao:∀(l:List α) (v:α) (k:List α→Option R),snocK l v k=k (l++[v])
 |[],_,_=>rfl
 |u::l,v,k=>jao l v fun l=>k (u::l)
theorem jap:∀(l:List α) (i:Nat) (v:α) (k:List α→Option R),setK l i v k=k (l.set i v)
 |[],_,_,_=>rfl
 |_::_,0,_,_=>rfl
 |u::l,i+1,v,k=>jap l i v fun l=>k (u::l)
theorem jal:∀(l:List α) (i:Nat),nthX l i=l[i]?
 |[],_=>rfl
 |_::_,0=>rfl
 |_::l,i+1=>by rw[nthX,jal l i];rfl
theorem je7:∀(n:Nat) (l:List α) (k:List α→Option R),takeK n l k=k (l.take n)
 |0,_,_=>by simp[takeK]
 |n+1,[],k=>by simp[takeK]
 |n+1,u::l,k=>je7 n l fun l=>k (u::l)
theorem evX_eq (e:List (Nat×PV)) (x:IX):evX e x=evalX e x:=by
 cases x<;>simp only[evX,evalX]
 rw[jaj];cases get e _<;>rfl
theorem evK_eq (e:List (Nat×PV)) (x:IX):evK e x=evalK e x:=by
 cases x<;>simp only[evK,evalK]
 rw[jaj];cases get e _<;>rfl
theorem jc8 {e:List (Nat×PV)}:∀{l:List IX} {k:List PV→Option R},evXs e l k=some r→∃vs,evalXs e l=some vs∧k vs=some r
 |[],k,h=>⟨[],rfl,h⟩
 | x::l,k,h=>by
  simp only[evXs,evX_eq] at h
  split at h
  ·rename_i v hv
   obtain⟨vs,h1,h2⟩:=jc8 h
   exact⟨v::vs,by simp[evalXs,hv,h1],h2⟩
  ·cases h
theorem jcy {e:List (Nat×PV)} {x:IX} {k:PV→List (Nat×PV)→Option R} (h:tkX e x k=some r):∃v e',takeX e x=some (v,e')∧k v e'=some r:=by
 cases x with
 | t n=>
  simp only[tkX,jaj] at h
  split at h
  ·rename_i v hv
   rw[jak] at h
   exact⟨v,_,by simp[takeX,hv],h⟩
  ·cases h
 |c v=>exact⟨v,e,rfl,h⟩
 |f id=>exact⟨_,e,rfl,h⟩
theorem jam (s:St) (d:Nat) (v:PV) (k:St→Option R):putS s d v k=k (s.put d v):=by
 unfold putS;rw[jak];rfl
theorem jaq (s:St) (d:Nat) (g:Bool) (cs:List PV) (k:St→Option R):newX s d g cs k=k (putNew s d g cs):=by
 cases g<;>simp[newX,jak,jao,putNew,St.newBox,St.put]
theorem jm7 {op:BinOp} {a b:PV} {f:PV→Option R} (h:binX op a b f=some r):∃v,binPV op a b=some v∧f v=some r:=by
 unfold binX at h
 split at h
 ·rename_i k x k' y
  cases op<;>simp only at h
  case shl=>
   obtain⟨h1,h2⟩:=gd_inv h
   simp only[decide_eq_true_eq] at h1
   exact⟨_,by simp only[binPV];rw[if_neg (by omega)];rfl,h2⟩
  case shr=>
   obtain⟨h1,h2⟩:=gd_inv h
   simp only[decide_eq_true_eq] at h1
   exact⟨_,by simp only[binPV];rw[if_neg (by omega)];rfl,h2⟩
  case quo=>
   obtain⟨rfl,h'⟩:=kE_inv h
   obtain⟨h1,h2⟩:=gd_inv h'
   simp only[decide_eq_true_eq] at h1
   exact⟨_,by simp only[binPV,if_true];rw[if_neg h1],h2⟩
  case rem=>
   obtain⟨rfl,h'⟩:=kE_inv h
   obtain⟨h1,h2⟩:=gd_inv h'
   simp only[decide_eq_true_eq] at h1
   exact⟨_,by simp only[binPV,if_true];rw[if_neg h1],h2⟩
  all_goals first
   |exact ob_inv h
   | (obtain⟨rfl,h2⟩:=kE_inv h
      exact⟨_,by simp only[binPV,if_true,iAnd,iOr,iXor],h2⟩)
 ·cases op<;>simp only at h
  case eql=>exact⟨_,rfl,h⟩
  case neq=>exact⟨_,rfl,h⟩
  all_goals exact ob_inv h
 ·cases h
theorem jm8 {op:UnOp} {a:PV} {f:PV→Option R} (h:unX op a f=some r):∃v,unPV op a=some v∧f v=some r:=by
 unfold unX at h
 split at h
 ·exact⟨_,rfl,h⟩
 ·exact⟨_,rfl,h⟩
 ·exact⟨_,rfl,h⟩
 ·cases h
theorem je8 {v:PV} {f:Int→Option R} (h:anyI v f=some r):∃k n,v= .int k n∧f n=some r:=by
 cases v<;>simp only[anyI] at h<;>try (cases h;done)
 exact⟨_,_,rfl,h⟩
theorem je9 {v:PV} {f:Bool→Option R} (h:unB v f=some r):∃n,v= .bool n∧f n=some r:=by
 cases v<;>simp only[unB] at h<;>try (cases h;done)
 exact⟨_,rfl,h⟩
theorem jgm {v:PV} {f:ByteArray→Option R} (h:unS v f=some r):∃n,v= .str n∧f n=some r:=by
 cases v<;>simp only[unS] at h<;>try (cases h;done)
 exact⟨_,rfl,h⟩
theorem jm9 {v:PV} {f:Nat→Nat→Option R} (h:unG v f=some r):∃b o,v= .ptr true b o∧f b o=some r:=by
 unfold unG at h
 split at h
 ·exact⟨_,_,rfl,h⟩
 ·cases h
theorem jma {z:Nat} {v:PV} {f:List PV→Option R} (h:unO z v f=some r):∃xs,v= .sl true z xs∧f xs=some r:=by
 unfold unO at h
 split at h
 ·obtain⟨hz,h2⟩:=gb_inv h
  have hz:=Nat.eq_of_beq_eq_true hz
  subst hz;exact⟨_,rfl,h2⟩
 ·cases h
theorem jmb {v:PV} {f:Bool→Option R} (h:nilB v f=some r):(v= .nilI∧f true=some r)∨(v= .someI∧f false=some r):=by
 cases v<;>simp only[nilB] at h<;>try (cases h;done)
 ·exact .inl ⟨rfl,h⟩
 ·exact .inr ⟨rfl,h⟩
theorem jea:∀{n:Nat} {l:List PV} {g:List PV→Option R},unN n l (curry n g)=some r→g l=some r
 |0,[],_,h=>h
 |0,_::_,_,h=>nomatch (show (none:Option R)=some r from h)
 |n+1,[],_,h=>nomatch (show (none:Option R)=some r from h)
 |n+1,c::l,g,h=>jea (n:=n) (l:=l) (g:=fun l=>g (c::l)) h
theorem jmc {n:Nat} {v:PV} {g:List PV→Option R} (h:unA n v (curry n g)=some r):∃cs,v= .agg cs∧g cs=some r:=by
 unfold unA at h
 split at h
 ·exact⟨_,rfl,jea h⟩
 ·cases h
theorem jmd {n:Nat} {v:PV} {g:List PV→Option R} (h:unT n v (curry n g)=some r):∃cs,v= .tup cs∧g cs=some r:=by
 unfold unT at h
 split at h
 ·exact⟨_,rfl,jea h⟩
 ·cases h
theorem jgn {v:PV} {x:Option R} (h:isC v x=some r):v.cells=[v]∧x=some r:=by
 cases v<;>simp[isC,PV.cells] at * <;>exact h
theorem jme {v:PV} {x:Option R} (h:onK v x=some r):v.one=true∧x=some r:=by
 cases v with
 |agg cs=>cases h
 |und=>cases h
 |tup=>cases h
 |arr z n=>cases h
 |junk=>cases h
 |ptr g b o=>cases g with
  |true=>exact⟨rfl,h⟩
  |false=>cases h
 |bs g b o n z=>cases g with
  |true=>exact⟨rfl,h⟩
  |false=>cases h
 |_=>exact⟨rfl,h⟩
theorem jcz:∀{l:List PV} {x:Option R},arL l x=some r→l.all PV.one=true∧x=some r
 |[],x,h=>⟨rfl,h⟩
 |c::l,x,h=>by
  obtain⟨h1,h2⟩:=jme (show onK c (arL l x)=some r from h)
  obtain⟨h3,h4⟩:=jcz h2
  exact⟨by simp[h1,h3],h4⟩
theorem jbb {v:PV} {x:Option R} (h:arK v x=some r):argOk v=true∧x=some r:=by
 cases v with
 |agg cs=>exact jcz h
 |und=>cases h
 |tup=>cases h
 |arr z n=>cases h
 |junk=>cases h
 |ptr g b o=>cases g with
  |true=>exact⟨rfl,h⟩
  |false=>cases h
 |bs g b o n z=>cases g with
  |true=>exact⟨rfl,h⟩
  |false=>cases h
 |_=>exact⟨rfl,h⟩
theorem jc9:∀{l:List PV} {x:Option R},allK l x=some r→l.all argOk=true∧x=some r
 |[],x,h=>⟨rfl,h⟩
 |c::l,x,h=>by
  obtain⟨h1,h2⟩:=jbb (show arK c (allK l x)=some r from h)
  obtain⟨h3,h4⟩:=jc9 h2
  exact⟨by simp[h1,h3],h4⟩
theorem lenB_eq:∀(l:List PV) (n:Nat),lenB l n=decide (l.length=n)
 |[],0=>rfl
 |[],n+1=>by simp[lenB]
 |_::_,0=>by simp[lenB]
 |_::l,n+1=>by simp[lenB,lenB_eq l n]
theorem geB_eq:∀(l:List PV) (n:Nat),geB l n=decide (n≤l.length)
 |[],0=>by simp[geB]
 |_::_,0=>by simp[geB]
 |[],n+1=>by simp[geB]
 |_::l,n+1=>by simp[geB,geB_eq l n]
theorem stOk_iff {k off:Nat} {cs old:List PV}:stOk k off cs old=true↔cs.length=k∧off+k≤old.length:=by
 simp[stOk,lenB_eq,geB_eq]
theorem jmf {z:Nat} {v:PV} {x:Option R} (h:lnK z v x=some r):v.cells.length=z∧x=some r:=by
 cases v with
 |agg cs=>
  obtain⟨h1,h2⟩:=gb_inv (show gb (lenB cs z) x=some r from h)
  rw[lenB_eq] at h1
  exact⟨by simpa [PV.cells] using h1,h2⟩
 |_=>
  obtain⟨h1,h2⟩:=gb_inv (show gb (Nat.beq 1 z) x=some r from h)
  exact⟨by simpa [PV.cells] using Nat.eq_of_beq_eq_true h1,h2⟩
theorem jgo {z:Nat}:∀{l:List PV} {x:Option R},slK z l x=some r→(l.all fun v=>argOk v&&v.cells.length==z)=true∧x=some r
 |[],x,h=>⟨rfl,h⟩
 |c::l,x,h=>by
  obtain⟨h1,h2⟩:=jbb (show arK c (lnK z c (slK z l x))=some r from h)
  obtain⟨h3,h4⟩:=jmf h2
  obtain⟨h5,h6⟩:=jgo h4
  exact⟨by simp only[List.all_cons,h1,h3,beq_self_eq_true,Bool.and_self,h5],h6⟩
theorem jmg {nl:Nat} {v:PV} {x:Option R} (h:stK nl v x=some r):stays nl v=true∧x=some r:=by
 cases v with
 | ptr g b o=>cases g with
  |true=>exact⟨rfl,h⟩
  |false=>
   obtain⟨h1,h2⟩:=gb_inv (show gb (Nat.ble (b+1) nl) x=some r from h)
   exact⟨by simp only[stays,decide_eq_true_eq];exact Nat.le_of_ble_eq_true h1,h2⟩
 | bs g b o n z=>cases g with
  |true=>exact⟨rfl,h⟩
  |false=>
   obtain⟨h1,h2⟩:=gb_inv (show gb (Nat.ble (b+1) nl) x=some r from h)
   exact⟨by simp only[stays,decide_eq_true_eq];exact Nat.le_of_ble_eq_true h1,h2⟩
 |_=>exact⟨rfl,h⟩
theorem jgp {c:Ce} {v:PV} {f:PV→Option R} (h:castC c v f=some r):f v=some r:=by
 cases c<;>simp only[castC] at h
 ·exact h
 ·exact (jgn h).2
 ·obtain⟨n,e,h2⟩:=jm6 h;rw[e];exact h2
 ·obtain⟨n,e,h2⟩:=je9 h;rw[e];exact h2
 ·obtain⟨n,e,h2⟩:=jgm h;rw[e];exact h2
 ·obtain⟨n,o,e,h2⟩:=jm9 h;rw[e];exact h2
 ·obtain⟨n,e,h2⟩:=jma h;rw[e];exact h2
theorem jgq:∀{cs:List Ce} {vs:List PV} {f:List PV→Option R},castL cs vs f=some r→f vs=some r
 |[],[],_,h=>h
 |[],_::_,_,h=>by simp[castL] at h
 |_::_,[],_,h=>by simp[castL] at h
 |c::cs,v::vs,f,h=>jgq (cs:=cs) (vs:=vs) (f:=fun vs=>f (v::vs)) (jgp h)
theorem jmh {h:Sh} {v:PV} {f:PV→Option R} (hh:cast h v f=some r):f v=some r:=by
 cases h with
 |raw=>exact hh
 |ce c=>exact jgp hh
 |agg l=>
  obtain⟨cs,rfl,h2⟩:=jmc hh
  exact jgq h2
 |tup n=>
  obtain⟨cs,rfl,h2⟩:=jmd hh
  exact h2
theorem jbu {h:Sh} {v:PV} {f:List PV→Option R} (hh:cellsX h v f=some r):f v.cells=some r:=by
 cases h<;>simp only[cellsX] at hh<;>try exact hh
 obtain⟨h1,h2⟩:=jgn hh
 rw[h1];exact h2
theorem jau {an:Tr} {s:St} {d:Nat} {v:PV} {k:St→Option R} (h:setX an s d v k=some r):k (s.put d v)=some r:=by
 have:=jmh h
 rwa [jam] at this
theorem jgr {an:Tr} {s:St} {d:Option Nat} {v:PV} {k:St→Option R} (h:setO an s d v k=some r):k ⟨putO s.env d v,s.lh,s.gh⟩=some r:=by
 cases d with
 |none=>exact h
 |some d=>exact jau h
theorem jeb {gh:List GObj} {b:Nat} {cs:List PV} (h:ghCells gh b=some cs):gh[b]?=some (.cells cs):=by
 unfold ghCells at h
 split at h
 ·rename_i hg;cases h;exact hg
 ·cases h
theorem jec {gh:List GObj} {b:Nat} {cs:List (PV×PV)} (h:ghMap gh b=some cs):gh[b]?=some (.map cs):=by
 unfold ghMap at h
 split at h
 ·rename_i hg;cases h;exact hg
 ·cases h
theorem jmi {s:St} {agg:Bool} {k:Nat} {p:PV} {f:PV→Option R} (h:ldX s.lh s.gh agg k p f=some r) :
  (∃g b off cs v,p= .ptr g b off∧s.cellsAt g b=some cs∧grab agg k off cs=some v∧f (degr v)=some r)∨(∃e off v,p= .ep e off∧grab agg k off e.cells=some v∧f v=some r):=by
 unfold ldX at h
 simp only[jal] at h
 split at h
 ·split at h
  ·rename_i cs hc
   split at h
   ·rename_i v h1
    exact .inl ⟨_,_,_,cs,v,rfl,by simp[St.cellsAt,hc],h1,h⟩
   ·cases h
  ·cases h
 ·obtain⟨cs,h1,h2⟩:=ob_inv h
  obtain⟨v,h3,h4⟩:=ob_inv h2
  exact .inl ⟨_,_,_,cs,v,rfl,by simp[St.cellsAt,jeb h1],h3,h4⟩
 ·obtain⟨v,h3,h4⟩:=ob_inv h
  exact .inr ⟨_,_,v,rfl,h3,h4⟩
 ·cases h
theorem jgs {s:St} {p:PV} {kk:Nat} {cs:List PV} {k:St→Option R} (h:stoX s p kk cs k=some r) :
  ∃g b off old,p= .ptr g b off∧s.cellsAt g b=some old∧(cs.length=kk∧off+kk≤old.length)∧k (s.setCells g b (spliceAt old off cs))=some r:=by
 unfold stoX at h
 simp only[jal,jap] at h
 split at h
 ·split at h
  ·rename_i old hc
   obtain⟨h1,h2⟩:=gb_inv h
   exact⟨_,_,_,old,rfl,by simp[St.cellsAt,hc],stOk_iff.1 h1,by simpa [St.setCells] using h2⟩
  ·cases h
 ·obtain⟨old,h1,h2⟩:=ob_inv h
  obtain⟨h3,h4⟩:=gb_inv h2
  exact⟨_,_,_,old,rfl,by simp[St.cellsAt,jeb h1],stOk_iff.1 h3,by simpa [St.setCells] using h4⟩
 ·cases h
theorem jgt {an:Tr} {e:List (Nat×PV)}:∀{ps:List (Nat×Nat×IX)} {z:List PV} {f:List PV→Option R},psX an e ps z f=some r→
  ∃vs cs,evalPs e ps=some vs∧(vs.all fun p=>argOk p.2.2)=true∧fillAt z vs=some cs∧f cs=some r
 |[],z,f,h=>⟨[],z,rfl,rfl,rfl,h⟩
 | (off,k,x)::l,z,f,h=>by
  simp only[psX,evX_eq] at h
  split at h
  ·rename_i v hv
   obtain⟨h1,h2⟩:=jbb h
   obtain⟨h3,h4⟩:=gb_inv (jbu h2)
   obtain⟨vs,cs,e1,e2,e3,e4⟩:=jgt h4
   refine⟨(off,k,v)::vs,cs,by simp[evalPs,hv,e1],by simp only[List.all_cons,h1,e2,Bool.and_self],?_,e4⟩
   simp only[fillAt]
   rw[if_pos (stOk_iff.1 h3)];exact e3
  ·cases h
theorem jgu {an:Tr}:∀{ps:List (Nat×Nat×IX)} {e:List (Nat×PV)} {z:List PV} {f:List (Nat×PV)→List PV→Option R},psT an e ps z f=some r→
  ∃vs e' cs,takePs e ps=some (vs,e')∧(vs.all fun p=>argOk p.2.2)=true∧fillAt z vs=some cs∧f e' cs=some r
 |[],e,z,f,h=>⟨[],e,z,rfl,rfl,rfl,h⟩
 |(off,k,x)::l,e,z,f,h=>by
  simp only[psT] at h
  obtain⟨v,e1,hv,h⟩:=jcy h
  obtain⟨h1,h2⟩:=jbb h
  obtain⟨h3,h4⟩:=gb_inv (jbu h2)
  obtain⟨vs,e',cs,e1,e2,e3,e4⟩:=jgu h4
  refine⟨(off,k,v)::vs,e',cs,by simp[takePs,hv,e1],by simp only[List.all_cons,h1,e2,Bool.and_self],?_,e4⟩
  simp only[fillAt]
  rw[if_pos (stOk_iff.1 h3)];exact e3
theorem jgv {e:List (Nat×PV)} {x:Option IX} {f:Option Int→Option R} (h:boX e x f=some r):∃i,f i=some r∧∀(d n:Nat),(∃g,bd (R:=Nat) d i g=some n∧g=some)→sliceBd e d x=some n:=by
 cases x with
 |none=>
  refine⟨none,h,?_⟩
  rintro d n ⟨g,hg,rfl⟩
  simp only[bd] at hg
  exact hg
 | some x=>
  simp only[boX,evX_eq] at h
  split at h
  ·rename_i v hv
   obtain⟨k,i,rfl,h2⟩:=je8 h
   refine⟨some i,h2,?_⟩
   rintro d n ⟨g,hg,rfl⟩
   simp only[bd] at hg
   obtain⟨h3,h4⟩:=gd_inv hg
   simp only[decide_eq_true_eq] at h3
   simp only[sliceBd,hv,if_pos h3];exact h4
  ·cases h
theorem bd_inv {d:Nat} {x:Option Int} {f:Nat→Option R} (h:bd d x f=some r):∃n,f n=some r∧bd d x (some:Nat→Option Nat)=some n:=by
 cases x with
 |none=>exact⟨d,h,rfl⟩
 |some i=>
  obtain⟨h1,h2⟩:=gd_inv (b:=decide (0≤i)) h
  exact⟨_,h2,by simp only[bd,h1,gd0]⟩
theorem jgw {gh:List GObj} {q:Bool} {x:Option (PV×List GObj)} {f:PV→List GObj→Option R} (h:callR gh q x f=some r):∃v gh',x=some (v,gh')∧(q=true→gh'=gh)∧f v gh'=some r:=by
 unfold callR at h
 split at h
 ·rename_i v gh'
  split at h
  ·split at h
   ·rename_i hg;exact⟨v,gh',rfl,fun _=>hg,by rw[hg];exact h⟩
   ·cases h
  ·exact⟨v,gh',rfl,⟨(fun hh=>nomatch hh),h⟩⟩
 ·cases h
theorem jmj {v:PV} {f:Nat→List PV→Option R} (h:fnX v f=some r):∃i cs,v= .fn i cs∧f i cs=some r:=by
 cases v<;>simp only[fnX] at h<;>try (cases h;done)
 exact⟨_,_,rfl,h⟩
theorem jgx {cf:CallF} {s:St} {d:Option Nat} {q:Bool} {f:Nat} {vs:List PV} {v:PV} {gh':List GObj} (h1:vs.all argOk=true) (h2:cf f vs s.gh=some (v,gh')) (h3:q=true→gh'=s.gh) :
  doCall cf s d q f vs=some ⟨putO s.env d v,s.lh,gh'⟩:=by
 unfold doCall
 rw[if_pos h1,h2]
 simp only
 cases q with
 |true=>rw[h3 rfl];simp
 |false=>simp
theorem jed {cf:CallF} {an:Tr} {s:St} {o:IOp} {k:St→Option R} (h:opX cf an s o k=some r):∃s',opStep cf s o=some s'∧k s'=some r:=by
 cases o with
 |callP=>simp[opX] at h
 |callR=>simp[opX] at h
 |appendE=>simp[opX] at h
 |loadKB=>simp[opX] at h
 |loadTB=>simp[opX] at h
 |loadB=>simp[opX] at h
 |loadJ=>simp[opX] at h
 |appendP=>simp[opX] at h
 |mkarr=>simp[opX] at h
 |buildA=>simp[opX] at h
 |boxSl=>simp[opX] at h
 |mv d x=>
  simp only[opX,q7r,jaj,evX_eq,evK_eq,jak,jam,jaq,jal,jap,jao] at h
  split at h
  ·rename_i v hv;exact⟨_,by simp[opStep,hv],jau h⟩
  ·cases h
 |tk d n=>
  simp only[opX,q7s,jaj,evX_eq,evK_eq,jak,jam,jaq,jal,jap,jao] at h
  split at h
  ·rename_i v hv;exact⟨_,by simp[opStep,hv],h⟩
  ·cases h
 | pick d c x y=>
  simp only[opX,q7t,jaj,evX_eq,evK_eq,jak,jam,jaq,jal,jap,jao] at h
  split at h
  ·rename_i c' v w hc hv hw
   obtain⟨b,rfl,h⟩:=je9 h
   cases b with
   |true=>exact⟨_,by simp[opStep,hc,hv],jau h⟩
   |false=>exact⟨_,by simp[opStep,hc,hw],jau h⟩
  ·cases h
 | box d g tk x=>
  cases tk with
  |true=>
   simp only[opX,q4v,q4w,jaj,evX_eq,evK_eq,jak,jam,jaq,jal,jap,jao] at h
   obtain⟨v,e,hv,h⟩:=jcy h
   obtain⟨h1,h2⟩:=jbb h
   exact⟨_,by simp[opStep,hv,h1],jbu h2⟩
  | false=>
   simp only[opX,q4v,q4w,jaj,evX_eq,evK_eq,jak,jam,jaq,jal,jap,jao] at h
   split at h
   ·rename_i v hv
    obtain⟨h1,h2⟩:=jbb h
    exact⟨_,by simp[opStep,hv,h1],jbu h2⟩
   ·cases h
 |alloc d g z=>
  simp only[opX,q7u,jaj,evX_eq,evK_eq,jak,jam,jaq,jal,jap,jao] at h
  obtain⟨h1,h2⟩:=jbb h
  exact⟨_,by simp[opStep,h1],h2⟩
 |build d z ps=>
  simp only[opX,q7v,jaj,evX_eq,evK_eq,jak,jam,jaq,jal,jap,jao] at h
  obtain⟨h1,h2⟩:=jcz h
  obtain⟨vs,cs,e1,e2,e3,e4⟩:=jgt h2
  refine⟨_,?_,e4⟩
  simp only[opStep,e1,Option.bind_some]
  rw[if_pos ⟨e2,h1⟩,e3];rfl
 |buildT d z ps=>
  simp only[opX,q7w,jaj,evX_eq,evK_eq,jak,jam,jaq,jal,jap,jao] at h
  obtain⟨h1,h2⟩:=jcz h
  obtain⟨vs,e',cs,e1,e2,e3,e4⟩:=jgu h2
  refine⟨_,?_,e4⟩
  simp only[opStep,e1,Option.bind_some]
  rw[if_pos ⟨e2,h1⟩,e3];rfl
 |buildSl d z els=>
  simp only[opX,q7x,jaj,evX_eq,evK_eq,jak,jam,jaq,jal,jap,jao] at h
  obtain⟨vs,hv,h⟩:=jc8 h
  obtain⟨h1,h2⟩:=jgo h
  refine⟨_,?_,h2⟩
  simp only[opStep,hv,Option.bind_some]
  rw[if_pos h1]
 | load d agg kk a=>
  simp only[opX,q7y,jaj,evX_eq,evK_eq,jak,jam,jaq,jal,jap,jao] at h
  split at h
  ·rename_i p hp
   rcases jmi h with ⟨g,b,off,cs,v,rfl,h1,h2,h3⟩|⟨e,off,v,rfl,h1,h2⟩
   ·exact⟨_,by simp[opStep,hp,h1,h2],jau h3⟩
   ·exact⟨_,by simp[opStep,hp,h1],jau h2⟩
  ·cases h
 | loadT d a=>
  simp only[opX,q7z,jaj,evX_eq,evK_eq,jak,jam,jaq,jal,jap,jao] at h
  split at h
  ·rename_i b off hp
   split at h
   ·rename_i cs hc
    obtain⟨v,h1,h2⟩:=ob_inv h
    exact⟨_,by simp[opStep,hp,St.cellsAt,hc,h1,St.setCells,St.put],h2⟩
   ·cases h
  ·rename_i b off hp
   obtain⟨cs,h0,h⟩:=ob_inv h
   obtain⟨v,h1,h2⟩:=ob_inv h
   exact⟨_,by simp[opStep,hp,St.cellsAt,jeb h0,h1,St.setCells,St.put],h2⟩
  ·cases h
 |loadL=>simp[opX] at h
 | store tk kk a x=>
  cases tk with
  | true=>
   simp only[opX,q4x,q4y,jaj,evX_eq,evK_eq,jak,jam,jaq,jal,jap,jao] at h
   split at h
   ·rename_i p hp
    obtain⟨v,e,hv,h⟩:=jcy h
    obtain⟨h1,h2⟩:=jbb h
    obtain⟨g,b,off,old,rfl,h3,h4,h5⟩:=jgs (jbu h2)
    refine⟨_,?_,h5⟩
    simp only[opStep,hp,if_true,hv,Option.bind_some,h3]
    rw[if_pos ⟨h4.1,h4.2,h1⟩]
   ·cases h
  | false=>
   simp only[opX,q4x,q4y,jaj,evX_eq,evK_eq,jak,jam,jaq,jal,jap,jao] at h
   split at h
   ·rename_i p v hp hv
    obtain⟨h1,h2⟩:=jbb h
    obtain⟨g,b,off,old,rfl,h3,h4,h5⟩:=jgs (jbu h2)
    refine⟨_,?_,h5⟩
    simp only[opStep,hp,Bool.false_eq_true,if_false,hv,Option.bind_some,h3]
    rw[if_pos ⟨h4.1,h4.2,h1⟩]
   ·cases h
 | nilc d x=>
  simp only[opX,q80,jaj,evX_eq,evK_eq,jak,jam,jaq,jal,jap,jao] at h
  split at h
  ·rename_i p hp
   obtain⟨h1,h2⟩:=gd_inv h
   refine⟨_,?_,jau h2⟩
   cases p<;>simp[isPtr] at h1<;>simp[opStep,hp]
  ·cases h
 | bin d op x y=>
  simp only[opX,q81,jaj,evX_eq,evK_eq,jak,jam,jaq,jal,jap,jao] at h
  split at h
  ·rename_i a b ha hb
   obtain⟨v,h1,h2⟩:=jm7 h
   exact⟨_,by simp[opStep,ha,hb,h1],jau h2⟩
  ·cases h
 | eqa d neg ks x y=>
  simp only[opX,q82,jaj,evX_eq,evK_eq,jak,jam,jaq,jal,jap,jao] at h
  split at h
  ·rename_i a b ha hb
   obtain⟨v,h1,h2⟩:=ob_inv h
   refine⟨s.put d (.bool (if neg then !v else v)),by simp only[opStep,ha,hb,h1,Option.map_some],?_⟩
   cases neg<;>exact h2
  ·cases h
 |eqb=>simp[opX] at h
 | eqn d neg x=>
  simp only[opX,q83,jaj,evX_eq,evK_eq,jak,jam,jaq,jal,jap,jao] at h
  split at h
  ·rename_i v hv
   rcases jmb h with ⟨rfl,h2⟩|⟨rfl,h2⟩
   ·refine⟨s.put d (.bool (!neg)),by simp only[opStep,hv],?_⟩
    cases neg<;>exact h2
   ·refine⟨s.put d (.bool neg),by simp only[opStep,hv],?_⟩
    cases neg<;>exact h2
  ·cases h
 | un d op x=>
  simp only[opX,q84,jaj,evX_eq,evK_eq,jak,jam,jaq,jal,jap,jao] at h
  split at h
  ·rename_i a ha
   obtain⟨v,h1,h2⟩:=jm8 h
   exact⟨_,by simp[opStep,ha,h1],jau h2⟩
  ·cases h
 |conv=>simp[opX] at h
 |mkfn d f caps=>
  simp only[opX,q85,jaj,evX_eq,evK_eq,jak,jam,jaq,jal,jap,jao] at h
  obtain⟨vs,hv,h⟩:=jc8 h
  obtain⟨h1,h2⟩:=jc9 h
  refine⟨_,?_,h2⟩
  simp only[opStep,hv,Option.bind_some]
  rw[if_pos h1]
 |loadG d ss=>
  simp only[opX,q86,jak] at h
  exact⟨_,rfl,h⟩
 | boxB d x=>
  simp only[opX,q87,jak,evX_eq] at h
  split at h
  ·rename_i hv
   exact⟨_,by simp only[opStep,hv],h⟩
  ·cases h
 |mkbld=>simp[opX] at h
 |mkmap d=>
  simp only[opX,q88,jak] at h
  exact⟨_,rfl,h⟩
 |mksl=>simp[opX] at h
 | slice d z x lo hi=>
  simp only[opX,q89,jaj,evX_eq,evK_eq,jak,jam,jaq,jal,jap,jao] at h
  split at h
  ·rename_i v hv
   obtain⟨i,h,hlo⟩:=jgv h
   obtain⟨j,h,hhi⟩:=jgv h
   unfold slX at h
   split at h
   ·rename_i o z' xs
    obtain⟨m,h,h1⟩:=bd_inv h
    obtain⟨l,h,h2⟩:=bd_inv h
    obtain⟨h3,h4⟩:=gd_inv h
    refine⟨_,?_,jau h4⟩
    simp only[opStep,hv,hhi _ _ ⟨_,h1,rfl⟩,hlo _ _ ⟨_,h2,rfl⟩,Option.bind_some]
    rw[if_pos (by simpa only[decide_eq_true_eq] using h3)]
   ·rename_i g b off n z'
    obtain⟨m,h,h1⟩:=bd_inv h
    obtain⟨l,h,h2⟩:=bd_inv h
    obtain⟨h3,h4⟩:=gd_inv h
    refine⟨_,?_,jau h4⟩
    simp only[opStep,hv,hhi _ _ ⟨_,h1,rfl⟩,hlo _ _ ⟨_,h2,rfl⟩,Option.bind_some]
    rw[if_pos (by simpa only[decide_eq_true_eq] using h3)]
   ·rename_i b gen n
    split at h
    ·obtain⟨m,h,h1⟩:=bd_inv h
     obtain⟨h3,h4⟩:=gd_inv h
     refine⟨_,?_,jau h4⟩
     have hlo0:lo.isNone=true:=by
      cases lo with
      |none=>rfl
      |some y=>
       have q1:=hlo 0 0 ⟨_,rfl,rfl⟩
       have q2:sliceBd s.env 0 (some y)=some 1:=hlo 1 1 ⟨_,rfl,rfl⟩
       rw[q1] at q2;cases q2
     simp only[opStep,hv,hhi _ _ ⟨_,h1,rfl⟩,hlo0,Option.bind_some,if_true]
     rw[if_pos (by simpa only[decide_eq_true_eq] using h3)]
    ·obtain⟨m,h,h1⟩:=bd_inv h
     obtain⟨l,h,h2⟩:=bd_inv h
     obtain⟨h3,h4⟩:=gd_inv h
     refine⟨_,?_,jau h4⟩
     have e1:=hlo _ _ ⟨_,h2,rfl⟩
     have hlo0:lo.isNone=false:=by
      cases lo with
      |some y=>rfl
      |none=>
       exfalso
       have h2':bd 1 (some _) _=some _:=h2
       have e2:sliceBd s.env 1 none=some l:=hlo 1 l ⟨_,h2',rfl⟩
       simp only[sliceBd] at e1 e2
       rw[←e1] at e2;cases e2
     simp only[opStep,hv,hhi _ _ ⟨_,h1,rfl⟩,e1,hlo0,Option.bind_some]
     rw[if_neg (by decide)]
     rw[if_pos (by simpa only[decide_eq_true_eq] using h3)]
   ·rename_i b gen off n
    obtain⟨m,h,h1⟩:=bd_inv h
    obtain⟨l,h,h2⟩:=bd_inv h
    obtain⟨h3,h4⟩:=gd_inv h
    refine⟨_,?_,jau h4⟩
    simp only[opStep,hv,hhi _ _ ⟨_,h1,rfl⟩,hlo _ _ ⟨_,h2,rfl⟩,Option.bind_some]
    rw[if_pos (by simpa only[decide_eq_true_eq] using h3)]
   ·cases h
  ·cases h
 |sliceS=>simp[opX] at h
 | faddr d x off=>
  simp only[opX,q8a,jaj,evX_eq,evK_eq,jak,jam,jaq,jal,jap,jao] at h
  split at h
  ·rename_i p hp
   unfold faX at h
   split at h
   ·exact⟨_,by simp only[opStep,hp],jau h⟩
   ·exact⟨_,by simp only[opStep,hp],jau h⟩
   ·cases h
  ·cases h
 |field=>simp[opX] at h
 | iaddr d z arr x i=>
  simp only[opX,q8b,jaj,evX_eq,evK_eq,jak,jam,jaq,jal,jap,jao] at h
  split at h
  ·rename_i iv v hi hv
   obtain⟨k',n,rfl,h⟩:=je8 h
   unfold idX at h
   split at h
   ·obtain⟨h1,h2⟩:=gd_inv h
    obtain⟨e,h3,h4⟩:=ob_inv h2
    refine⟨_,?_,jau h4⟩
    simp only[opStep,hi,hv]
    rw[if_pos (by simpa only[decide_eq_true_eq] using h1),h3];rfl
   ·obtain⟨h1,h2⟩:=gd_inv h
    refine⟨_,?_,jau h2⟩
    simp only[opStep,hi,hv]
    rw[if_pos (by simpa only[decide_eq_true_eq] using h1)]
   ·obtain⟨h1,h2⟩:=gd_inv h
    refine⟨_,?_,jau h2⟩
    simp only[opStep,hi,hv]
    rw[if_pos (by simpa only[decide_eq_true_eq] using h1)]
   ·obtain⟨h1,h2⟩:=gd_inv h
    refine⟨_,?_,jau h2⟩
    simp only[opStep,hi,hv]
    rw[if_pos (by simpa only[decide_eq_true_eq] using h1)]
   ·obtain⟨h1,h2⟩:=gd_inv h
    refine⟨_,?_,jau h2⟩
    simp only[opStep,hi,hv]
    rw[if_pos (by simpa only[decide_eq_true_eq] using h1)]
   ·obtain⟨h1,h2⟩:=gd_inv h
    refine⟨_,?_,jau h2⟩
    simp only[opStep,hi,hv]
    rw[if_pos (by simpa only[decide_eq_true_eq] using h1)]
   ·cases h
  ·cases h
 | index d z arr agg x i=>
  simp only[opX,q8c,jaj,evX_eq,evK_eq,jak,jam,jaq,jal,jap,jao] at h
  split at h
  ·rename_i iv v hi hv
   obtain⟨k',n,rfl,h⟩:=je8 h
   unfold ixX at h
   split at h
   ·obtain⟨h1,h2⟩:=gd_inv h
    obtain⟨e,h3,h4⟩:=ob_inv h2
    refine⟨_,?_,jau h4⟩
    simp only[opStep,hi,hv]
    rw[if_pos (by simpa only[decide_eq_true_eq] using h1),h3];rfl
   ·cases h
  ·cases h
 |indexS=>simp[opX] at h
 | lookup d kn m kx ok zero=>
  simp only[opX,q8d,jaj,evX_eq,evK_eq,jak,jam,jaq,jal,jap,jao] at h
  split at h
  ·rename_i mv kv hm hk
   unfold lkX at h
   split at h
   ·rename_i b
    obtain⟨es,h1,h⟩:=ob_inv h
    obtain⟨h2,h⟩:=gd_inv h
    obtain⟨u,h3,h⟩:=ob_inv h
    have h1':=jec h1
    cases u with
    |none=>
     refine⟨_,?_,jau h⟩
     simp only[opStep,hm,hk,h1',h2,h3,Bool.true_eq_false,if_false]
     cases ok<;>rfl
    |some u=>
     refine⟨_,?_,jau h⟩
     simp only[opStep,hm,hk,h1',h2,h3,Bool.true_eq_false,if_false]
     cases ok<;>rfl
   ·cases h
  ·cases h
 | mupd kn m kx x=>
  simp only[opX,q8e,jaj,evX_eq,evK_eq,jak,jam,jaq,jal,jap,jao] at h
  split at h
  ·rename_i mv kv v hm hk hv
   unfold muX at h
   split at h
   ·rename_i b
    obtain⟨es,h1,h⟩:=ob_inv h
    obtain⟨h2,h⟩:=gd_inv h
    obtain⟨u,h3,h⟩:=ob_inv h
    have h1':=jec h1
    simp only[Bool.and_eq_true] at h2
    refine⟨_,?_,h⟩
    simp only[opStep,hm,hk,hv,h1']
    rw[if_pos ⟨h2.1,h2.2.1,h2.2.2⟩,h3];rfl
   ·cases h
  ·cases h
 |call d q f xs=>
  simp only[opX,q8f] at h
  obtain⟨vs,hv,h⟩:=jc8 h
  obtain⟨h1,h⟩:=jc9 h
  obtain⟨v,gh',h2,h3,h4⟩:=jgw h
  refine⟨_,?_,jgr h4⟩
  simp only[opStep,hv,Option.bind_some]
  exact jgx h1 h2 h3
 | callv d q fv xs=>
  simp only[opX,q8g,jaj,evX_eq,evK_eq,jak,jam,jaq,jal,jap,jao] at h
  split at h
  ·rename_i w hw
   obtain⟨vs,hv,h⟩:=jc8 h
   obtain⟨f,caps,rfl,h⟩:=jmj h
   obtain⟨h1,h⟩:=jc9 h
   obtain⟨h1',h⟩:=jc9 h
   obtain⟨v,gh',h2,h3,h4⟩:=jgw h
   refine⟨_,?_,jgr h4⟩
   simp only[opStep,hw,hv,Option.bind_some]
   exact jgx (by rw[List.all_append,h1,h1'];rfl) h2 h3
  ·cases h
 |callF=>simp[opX] at h
 |callE=>simp[opX] at h
 |loadN=>simp[opX] at h
 | len d kd x=>
  match kd with
  | 0=>
   simp only[opX,q2m,q2n,q2o,jaj,evX_eq,evK_eq,jak,jam,jaq,jal,jap,jao] at h
   split at h
   ·rename_i v hv
    unfold lenS at h
    split at h
    ·exact⟨_,by simp only[opStep,hv],h⟩
    ·exact⟨_,by simp only[opStep,hv],h⟩
    ·exact⟨_,by simp only[opStep,hv],h⟩
    ·exact⟨_,by simp only[opStep,hv],h⟩
    ·exact⟨_,by simp only[opStep,hv],h⟩
    ·cases h
   ·cases h
  | 1=>
   simp only[opX,q2m,q2n,q2o,jaj,evX_eq,evK_eq,jak,jam,jaq,jal,jap,jao] at h
   split at h
   ·rename_i v hv
    obtain⟨b,rfl,h⟩:=jgm h
    exact⟨_,by simp only[opStep,hv],h⟩
   ·cases h
  | 2=>
   simp only[opX,q2m,q2n,q2o,jaj,evX_eq,evK_eq,jak,jam,jaq,jal,jap,jao] at h
   split at h
   ·rename_i v hv
    unfold lenM at h
    split at h
    ·obtain⟨es,h1,h⟩:=ob_inv h
     exact⟨_,by simp only[opStep,hv,jec h1],h⟩
    ·cases h
   ·cases h
  |n+3=>simp[opX] at h
 | append d z bytes sx x=>
  simp only[opX,q8h,jaj,evX_eq,evK_eq,jak,jam,jaq,jal,jap,jao] at h
  split at h
  ·rename_i w hw
   obtain⟨v,e,hv,h⟩:=jcy h
   unfold apX at h
   split at h
   ·obtain⟨h1,h2⟩:=gd_inv h
    refine⟨_,?_,h2⟩
    simp only[opStep,hw,hv,Option.bind_some]
    rw[if_pos (by simpa only[decide_eq_true_eq] using h1)]
   ·cases h
  ·cases h
 |appendK=>simp[opX] at h
 |storeK=>simp[opX] at h
 |clearK=>simp[opX] at h
 |mkbf=>simp[opX] at h
 |appendN=>simp[opX] at h
 |loadH=>simp[opX] at h
 |loadK=>simp[opX] at h
 |buildSlK=>simp[opX] at h
 |maxi=>simp[opX] at h
 | extract d x i=>
  simp only[opX,q8i,jaj,evX_eq,evK_eq,jak,jam,jaq,jal,jap,jao] at h
  split at h
  ·rename_i v hv
   unfold exX at h
   split at h
   ·obtain⟨u,h1,h2⟩:=ob_inv h
    exact⟨_,by simp[opStep,hv,h1],jau h2⟩
   ·cases h
  ·cases h
theorem skX_eq (s:St) (o:IOp) (k:St→Option R):skX s o k=k (skipped s o):=by
 unfold skX skipped
 cases opDst o with
 |none=>rfl
 |some d=>simp only[jam]
theorem jbi {cf:CallF} {an:Tr}:∀{l:List IOpG} {s:St} {k:St→Option R},opsX cf an l s k=some r→∃s',opsRun cf l s=some s'∧k s'=some r
 |[],s,k,h=>⟨s,rfl,h⟩
 |⟨o,none⟩::l,s,k,h=>by
  simp only[opsX] at h
  obtain⟨s1,h1,h2⟩:=jed h
  obtain⟨s2,h3,h4⟩:=jbi h2
  exact⟨s2,by simp only[opsRun,h1,Option.bind_some];exact h3,h4⟩
 | ⟨o,some (g,want)⟩::l,s,k,h=>by
  have key:∀b,get s.env g=some (.bool b)→s.put g (.bool b)=s:=by
   intro b hb
   have:∀(e:List (Nat×PV)),get e g=some (.bool b)→Lw.put e g (.bool b)=e:=by
    intro e
    induction e with
    |nil=>intro h;simp[get] at h
    |cons a e ih=>
     obtain⟨x,v⟩:=a
     intro h
     simp only[get] at h
     simp only[Lw.put]
     split at h
     ·rename_i hx;cases h;rw[if_pos hx,hx]
     ·rename_i hx;rw[if_neg hx,ih h]
   simp only[St.put,this s.env hb]
  simp only[opsX,jaj,skX_eq] at h
  simp only[opsRun]
  split at h
  ·rename_i b hb
   cases b with
   | true=>
    simp only[br,jam] at h
    rw[key true hb] at h
    cases want with
    |true=>
     simp only at h
     obtain⟨s1,h1,h2⟩:=jed h
     obtain⟨s2,h3,h4⟩:=jbi h2
     exact⟨s2,by simp only[hb,if_true,h1,Option.bind_some];exact h3,h4⟩
    |false=>
     simp only at h
     obtain⟨s2,h3,h4⟩:=jbi h
     exact⟨s2,by simp only[hb,Bool.true_eq_false,if_false];exact h3,h4⟩
   | false=>
    simp only[br,jam] at h
    rw[key false hb] at h
    cases want with
    |true=>
     simp only at h
     obtain⟨s2,h3,h4⟩:=jbi h
     exact⟨s2,by simp only[hb,Bool.false_eq_true,if_false];exact h3,h4⟩
    |false=>
     simp only at h
     obtain⟨s1,h1,h2⟩:=jed h
     obtain⟨s2,h3,h4⟩:=jbi h2
     exact⟨s2,by simp only[hb,if_true,h1,Option.bind_some];exact h3,h4⟩
  ·rename_i hb
   obtain⟨s2,h3,h4⟩:=jbi h
   exact⟨s2,by simp only[hb];exact h3,h4⟩
  ·cases h
theorem jee {nl:Nat}:∀{ks:List Nat} {e:List (Nat×PV)} {f:List (Nat×PV)→Option R},keepX nl ks e f=some r→f (keep nl ks e)=some r
 |[],_,_,h=>h
 | t::l,e,f,h=>by
  simp only[keepX,jaj] at h
  simp only[keep]
  split at h
  ·rename_i v hv
   obtain⟨h1,h2⟩:=jmg h
   simp only[hv,h1,if_true]
   exact jee (f:=fun e'=>f ((t,v)::e')) h2
  ·rename_i hv
   simp only[hv]
   exact jee h
theorem kR_inv {x:Option (IExit×St)} {k:IExit→St→Option R} (h:kR x k=some r):∃e s,x=some (e,s)∧k e s=some r:=by
 unfold kR at h
 split at h
 ·exact⟨_,_,rfl,h⟩
 ·cases h
theorem jmk {pg:Prg} {an:Tr}:∀{c:ICode} {s:St} {k:IExit→St→Option R},runX pg an c s k=some r→∃e s',runL pg c s=some (e,s')∧k e s'=some r:=by
 intro c
 induction c with
 |skip=>intro s k h;exact⟨_,_,jj1 pg s,h⟩
 |region ops d=>
  intro s k h
  obtain⟨s',h1,h2⟩:=jbi (show opsX (callL pg) an ops s (k .normal)=some r from h)
  exact⟨_,_,by rw[jj4,h1];rfl,h2⟩
 | seq a b iha ihb=>
  intro s k h
  obtain⟨e,s1,h1,h2⟩:=iha (show runX pg an a s _=some r from h)
  rw[jj6,h1]
  cases e with
  |normal=>
   obtain⟨e2,s2,h3,h4⟩:=ihb (show runX pg an b s1 k=some r from h2)
   exact⟨e2,s2,h3,h4⟩
  |exit i=>exact⟨_,_,rfl,h2⟩
  |ret=>exact⟨_,_,rfl,h2⟩
 | cond x a b iha ihb=>
  intro s k h
  simp only[runX,evX_eq] at h
  split at h
  ·rename_i v hv
   obtain⟨c,rfl,h2⟩:=je9 h
   rw[jj5,hv]
   cases c with
   |true=>exact iha h2
   |false=>exact ihb h2
  ·cases h
 | block id a iha=>
  intro s k h
  obtain⟨e,s1,h1,h2⟩:=iha (show runX pg an a s _=some r from h)
  rw[jbz,h1]
  cases e with
  |normal=>exact⟨_,_,rfl,h2⟩
  | exit i=>
   simp only[bk] at h2
   simp only
   by_cases hi:i=id
   ·subst hi
    rw[if_pos rfl];simp only[Nat.beq_refl,br] at h2;exact⟨_,_,rfl,h2⟩
   ·have:Nat.beq i id=false:=je6 hi
    rw[this] at h2
    rw[if_neg hi];exact⟨_,_,rfl,h2⟩
  |ret=>exact⟨_,_,rfl,h2⟩
 |loop a _=>intro s k h;exact kR_inv (show kR (runL pg (.loop a) s) k=some r from h)
 |exit i=>intro s k h;exact⟨_,_,jj2 pg s i,h⟩
 |ret=>intro s k h;exact⟨_,_,jj3 pg s,h⟩
 | post a ks nl iha=>
  intro s k h
  obtain⟨e,s1,h1,h2⟩:=iha (show runX pg an a s _=some r from h)
  rw[jc0,h1]
  cases e with
  |normal=>
   simp only[po,je7] at h2
   exact⟨_,_,rfl,jee h2⟩
  |exit i=>exact⟨_,_,rfl,h2⟩
  |ret=>exact⟨_,_,rfl,h2⟩
 |bad=>
  intro s k h
  exact absurd (show (none:Option _)=some r from h) (by simp)
 |cut a _=>
  intro s k h
  rw[jj7]
  exact kR_inv (show kR (runL pg a s) k=some r from h)
theorem jae {pg:Prg} (an:Tr) {c:ICode} {s:St} {e:IExit} {s':St} (h:runX pg an c s (fun e s=>some (e,s))=some (e,s')):runL pg c s=some (e,s'):=by
 obtain⟨e1,s1,h1,h2⟩:=jmk h
 cases h2;exact h1
end
end Go.Lw
end
