/-
  The texts that the proof stands on, part 4.
-/
import Derived.Test.YtmodipglnngghabExploreAllsC
set_option linter.unusedVariables false
set_option linter.unusedSimpArgs false
set_option linter.unnecessarySimpa false

set_option maxRecDepth 100000
set_option maxHeartbeats 4000000
namespace Go.Lw
open Go
section
variable {R:Type} {α:Type} {r:R}
theorem ed {x:Option α} {f:α->Option R} (h:ob x f=some r):∃a,x=some a/\f a=some r:=by
 cases x with
 |none=>cases h
 |some a=>exact⟨a,rfl,h⟩
theorem dG {b:Bool} {x:Option R} (h:gd b x=some r):b=true/\x=some r:=by
 cases b with
 |false=>cases h
 |true=>exact⟨rfl,h⟩
theorem gm {b:Bool} {x:Option R} (h:gb b x=some r):b=true/\x=some r:=by
 cases b with
 |false=>cases h
 |true=>exact⟨rfl,h⟩
theorem lI {k k':IntKind} {x:Option R} (h:kE k k' x=some r):k=k'/\x=some r:=by obtain⟨h1,h2⟩:=gm h;refine⟨?_,h2⟩;cases k<;>cases k'<;>simp[nn] at h1 ⊢
theorem zA {k:IntKind} {v:PV} {f:Int->Option R} (h:unI k v f=some r):∃n,v= .int k n/\f n=some r:=by
 cases v<;>simp only[unI] at h<;>try (cases h;done)
 obtain⟨rfl,h2⟩:=lI h;exact⟨_,rfl,h2⟩
theorem nu {a b:Nat} (h:¬a=b):Nat.beq a b=false:=by
 cases hb:Nat.beq a b with
 |true=>exact absurd (Nat.eq_of_beq_eq_true hb) h
 |false=>rfl
theorem ck:∀(e:List (Nat×PV)) (t:Nat),fE e t=get e t
 |[],_=>rfl
 | (a,v)::l,t=>by
  simp only[fE,get];by_cases h:a=t
  ·subst h;simp
  ·have:Nat.beq a t=false:=nu h
   rw[this,if_neg h];exact ck l t
theorem co:∀(e:List (Nat×PV)) (t:Nat) (v:PV) (k:List (Nat×PV)->Option R),eq e t v k=k (Lw.put e t v)
 |[],_,_,_=>rfl
 | (a,u)::l,t,v,k=>by
  simp only[eq,Lw.put];by_cases h:a=t
  ·subst h;simp
  ·have:Nat.beq a t=false:=nu h
   rw[this,if_neg h];exact co l t v _
theorem cW:∀(l:List α) (v:α) (k:List α->Option R),nq l v k=k (l++[v])
 |[],_,_=>rfl
 |u::l,v,k=>cW l v λl=>k (u::l)
theorem cX:∀(l:List α) (i:Nat) (v:α) (k:List α->Option R),lF l i v k=k (l.set i v)
 |[],_,_,_=>rfl
 |_::_,0,_,_=>rfl
 |u::l,i+1,v,k=>cX l i v λl=>k (u::l)
theorem cu:∀(l:List α) (i:Nat),jd l i=l[i]?
 |[],_=>rfl
 |_::_,0=>rfl
 |_::l,i+1=>by rw[jd,cu l i];rfl
theorem lJ:∀(n:Nat) (l:List α) (k:List α->Option R),jJ n l k=k (l.take n)
 |0,_,_=>by simp[jJ]
 |n+1,[],k=>by simp[jJ]
 |n+1,u::l,k=>lJ n l λl=>k (u::l)
theorem cq (e:List (Nat×PV)) (x:IX):evX e x=al e x:=by cases x<;>simp only[evX,al];rw[ck];cases get e _<;>rfl
theorem da (e:List (Nat×PV)) (x:IX):evK e x=gv e x:=by cases x<;>simp only[evK,gv];rw[ck];cases get e _<;>rfl
theorem jL {e:List (Nat×PV)}:∀{l:List IX} {k:List PV->Option R},iB e l k=some r->∃vs,dm e l=some vs/\k vs=some r
 |[],k,h=>⟨[],rfl,h⟩
 | x::l,k,h=>by
  simp only[iB,cq] at h;split at h
  ·rename_i v hv
   obtain⟨vs,h1,h2⟩:=jL h;exact⟨v::vs,by simp[dm,hv,h1],h2⟩
  ·cases h
theorem kC {e:List (Nat×PV)} {x:IX} {k:PV->List (Nat×PV)->Option R} (h:tkX e x k=some r):∃v e',dV e x=some (v,e')/\k v e'=some r:=by
 cases x with
 | t n=>
  simp only[tkX,ck] at h;split at h
  ·rename_i v hv
   rw[co] at h;exact⟨v,_,by simp[dV,hv],h⟩
  ·cases h
 |c v=>exact⟨v,e,rfl,h⟩
 |f id=>exact⟨_,e,rfl,h⟩
theorem cT (s:St) (d:Nat) (v:PV) (k:St->Option R):fm s d v k=k (s.put d v):=by unfold fm;rw[co];rfl
theorem db (s:St) (d:Nat) (g:Bool) (cs:List PV) (k:St->Option R):kB s d g cs k=k (gV s d g cs):=by cases g<;>simp[kB,co,cW,gV,St.newBox,St.put]
theorem zB {op:BinOp} {a b:PV} {f:PV->Option R} (h:nt op a b f=some r):∃v,fX op a b=some v/\f v=some r:=by
 unfold nt at h;split at h
 ·rename_i k x k' y
  cases op<;>simp only at h
  case shl=>
   obtain⟨h1,h2⟩:=dG h;simp only[aH] at h1;exact⟨_,by simp only[fX];rw[if_neg (by omega)];rfl,h2⟩
  case shr=>
   obtain⟨h1,h2⟩:=dG h;simp only[aH] at h1;exact⟨_,by simp only[fX];rw[if_neg (by omega)];rfl,h2⟩
  case quo=>
   obtain⟨rfl,h'⟩:=lI h;obtain⟨h1,h2⟩:=dG h';simp only[aH] at h1;exact⟨_,by simp only[fX,if_true];rw[if_neg h1],h2⟩
  case rem=>
   obtain⟨rfl,h'⟩:=lI h;obtain⟨h1,h2⟩:=dG h';simp only[aH] at h1;exact⟨_,by simp only[fX,if_true];rw[if_neg h1],h2⟩
  all_goals first
   |exact ed h
   | (obtain⟨rfl,h2⟩:=lI h
      exact⟨_,by simp only[fX,if_true,fP,iOr,jc],h2⟩)
 ·cases op<;>simp only at h
  case eql=>exact⟨_,rfl,h⟩
  case neq=>exact⟨_,rfl,h⟩
  all_goals exact ed h
 ·cases h
theorem zC {op:UnOp} {a:PV} {f:PV->Option R} (h:unX op a f=some r):∃v,la op a=some v/\f v=some r:=by
 unfold unX at h;split at h
 ·exact⟨_,rfl,h⟩
 ·exact⟨_,rfl,h⟩
 ·exact⟨_,rfl,h⟩
 ·cases h
theorem lK {v:PV} {f:Int->Option R} (h:jI v f=some r):∃k n,v= .int k n/\f n=some r:=by
 cases v<;>simp only[jI] at h<;>try (cases h;done)
 exact⟨_,_,rfl,h⟩
theorem kD {v:PV} {f:Bool->Option R} (h:unB v f=some r):∃n,v= .bool n/\f n=some r:=by
 cases v<;>simp only[unB] at h<;>try (cases h;done)
 exact⟨_,rfl,h⟩
theorem sb {v:PV} {f:ByteArray->Option R} (h:unS v f=some r):∃n,v= .str n/\f n=some r:=by
 cases v<;>simp only[unS] at h<;>try (cases h;done)
 exact⟨_,rfl,h⟩
theorem zD {v:PV} {f:Nat->Nat->Option R} (h:unG v f=some r):∃b o,v= .ptr true b o/\f b o=some r:=by
 unfold unG at h;split at h
 ·exact⟨_,_,rfl,h⟩
 ·cases h
theorem zE {z:Nat} {v:PV} {f:List PV->Option R} (h:unO z v f=some r):∃xs,v= .sl true z xs/\f xs=some r:=by
 unfold unO at h;split at h
 ·obtain⟨hz,h2⟩:=gm h
  have hz:=Nat.eq_of_beq_eq_true hz;subst hz;exact⟨_,rfl,h2⟩
 ·cases h
theorem nv:∀{n:Nat} {l:List PV} {g:List PV->Option R},unN n l (jH n g)=some r->g l=some r
 |0,[],_,h=>h
 |0,_::_,_,h=>nomatch (show (none:Option R)=some r from h)
 |n+1,[],_,h=>nomatch (show (none:Option R)=some r from h)
 |n+1,c::l,g,h=>nv (n:=n) (l:=l) (g:=λl=>g (c::l)) h
theorem zF {n:Nat} {v:PV} {g:List PV->Option R} (h:unA n v (jH n g)=some r):∃cs,v= .agg cs/\g cs=some r:=by
 unfold unA at h;split at h
 ·exact⟨_,rfl,nv h⟩
 ·cases h
theorem zG {n:Nat} {v:PV} {g:List PV->Option R} (h:unT n v (jH n g)=some r):∃cs,v= .tup cs/\g cs=some r:=by
 unfold unT at h;split at h
 ·exact⟨_,rfl,nv h⟩
 ·cases h
theorem sc {v:PV} {x:Option R} (h:isC v x=some r):v.cells=[v]/\x=some r:=by cases v<;>simp[isC,PV.cells] at * <;>exact h
theorem zH {v:PV} {x:Option R} (h:onK v x=some r):v.one=true/\x=some r:=by
 cases v with
 |agg cs=>cases h
 |und=>cases h
 |tup=>cases h
 |arr z n=>cases h
 |junk=>cases h
 |ptr g b o=>cases g with
  |true=>exact⟨rfl,h⟩
  |false=>cases h
 |bs g b o n z=>cases g with
  |true=>exact⟨rfl,h⟩
  |false=>cases h
 |_=>exact⟨rfl,h⟩
theorem lL:∀{l:List PV} {x:Option R},arL l x=some r->l.all PV.one=true/\x=some r
 |[],x,h=>⟨rfl,h⟩
 |c::l,x,h=>by obtain⟨h1,h2⟩:=zH (show onK c (arL l x)=some r from h);obtain⟨h3,h4⟩:=lL h2;exact⟨by simp[h1,h3],h4⟩
theorem gn {v:PV} {x:Option R} (h:arK v x=some r):aj v=true/\x=some r:=by
 cases v with
 |agg cs=>exact lL h
 |und=>cases h
 |tup=>cases h
 |arr z n=>cases h
 |junk=>cases h
 |ptr g b o=>cases g with
  |true=>exact⟨rfl,h⟩
  |false=>cases h
 |bs g b o n z=>cases g with
  |true=>exact⟨rfl,h⟩
  |false=>cases h
 |_=>exact⟨rfl,h⟩
theorem hU:∀{l:List PV} {x:Option R},ec l x=some r->l.all aj=true/\x=some r
 |[],x,h=>⟨rfl,h⟩
 |c::l,x,h=>by obtain⟨h1,h2⟩:=gn (show arK c (ec l x)=some r from h);obtain⟨h3,h4⟩:=hU h2;exact⟨by simp[h1,h3],h4⟩
theorem lenB_eq:∀(l:List PV) (n:Nat),gG l n=decide (l.length=n)
 |[],0=>rfl
 |[],n+1=>by simp[gG]
 |_::_,0=>by simp[gG]
 |_::l,n+1=>by simp[gG,lenB_eq l n]
theorem sd:∀(l:List PV) (n:Nat),geB l n=decide (n<=l.length)
 |[],0=>by simp[geB]
 |_::_,0=>by simp[geB]
 |[],n+1=>by simp[geB]
 |_::l,n+1=>by simp[geB,sd l n]
theorem stOk_iff {k off:Nat} {cs old:List PV}:du k off cs old=true↔cs.length=k/\off+k<=old.length:=by simp[du,lenB_eq,sd]
theorem zI {z:Nat} {v:PV} {x:Option R} (h:lnK z v x=some r):v.cells.length=z/\x=some r:=by
 cases v with
 |agg cs=>
  obtain⟨h1,h2⟩:=gm (show gb (gG cs z) x=some r from h);rw[lenB_eq] at h1;exact⟨by simpa [PV.cells] using h1,h2⟩
 |_=>
  obtain⟨h1,h2⟩:=gm (show gb (Nat.beq 1 z) x=some r from h);exact⟨by simpa [PV.cells] using Nat.eq_of_beq_eq_true h1,h2⟩
theorem se {z:Nat}:∀{l:List PV} {x:Option R},slK z l x=some r->(l.all λv=>aj v&&v.cells.length==z)=true/\x=some r
 |[],x,h=>⟨rfl,h⟩
 |c::l,x,h=>by obtain⟨h1,h2⟩:=gn (show arK c (lnK z c (slK z l x))=some r from h);obtain⟨h3,h4⟩:=zI h2;obtain⟨h5,h6⟩:=se h4;exact⟨by simp only[List.all_cons,h1,h3,beq_self_eq_true,Bool.and_self,h5],h6⟩
theorem zJ {nl:Nat} {v:PV} {x:Option R} (h:stK nl v x=some r):bf nl v=true/\x=some r:=by
 cases v with
 | ptr g b o=>cases g with
  |true=>exact⟨rfl,h⟩
  |false=>
   obtain⟨h1,h2⟩:=gm (show gb (Nat.ble (b+1) nl) x=some r from h);exact⟨by simp only[bf,aH];exact Nat.le_of_ble_eq_true h1,h2⟩
 | bs g b o n z=>cases g with
  |true=>exact⟨rfl,h⟩
  |false=>
   obtain⟨h1,h2⟩:=gm (show gb (Nat.ble (b+1) nl) x=some r from h);exact⟨by simp only[bf,aH];exact Nat.le_of_ble_eq_true h1,h2⟩
 |_=>exact⟨rfl,h⟩
theorem sg {c:Ce} {v:PV} {f:PV->Option R} (h:lD c v f=some r):f v=some r:=by
 cases c<;>simp only[lD] at h
 ·exact h
 ·exact (sc h).2
 ·obtain⟨n,e,h2⟩:=zA h;rw[e];exact h2
 ·obtain⟨n,e,h2⟩:=kD h;rw[e];exact h2
 ·obtain⟨n,e,h2⟩:=sb h;rw[e];exact h2
 ·obtain⟨n,o,e,h2⟩:=zD h;rw[e];exact h2
 ·obtain⟨n,e,h2⟩:=zE h;rw[e];exact h2
theorem sh:∀{cs:List Ce} {vs:List PV} {f:List PV->Option R},kA cs vs f=some r->f vs=some r
 |[],[],_,h=>h
 |[],_::_,_,h=>by simp[kA] at h
 |_::_,[],_,h=>by simp[kA] at h
 |c::cs,v::vs,f,h=>sh (cs:=cs) (vs:=vs) (f:=λvs=>f (v::vs)) (sg h)
theorem zK {h:Sh} {v:PV} {f:PV->Option R} (hh:cast h v f=some r):f v=some r:=by
 cases h with
 |raw=>exact hh
 |ce c=>exact sg hh
 |agg l=>
  obtain⟨cs,rfl,h2⟩:=zF hh;exact sh h2
 |tup n=>
  obtain⟨cs,rfl,h2⟩:=zG hh;exact h2
theorem iD {h:Sh} {v:PV} {f:List PV->Option R} (hh:iC h v f=some r):f v.cells=some r:=by
 cases h<;>simp only[iC] at hh<;>try exact hh
 obtain⟨h1,h2⟩:=sc hh;rw[h1];exact h2
theorem dy {an:Tr} {s:St} {d:Nat} {v:PV} {k:St->Option R} (h:eV an s d v k=some r):k (s.put d v)=some r:=by
 have:=zK h
 rwa [cT] at this
theorem lM {an:Tr} {s:St} {d:Option Nat} {v:PV} {k:St->Option R} (h:je an s d v k=some r):k ⟨fg s.env d v,s.lh,s.gh⟩=some r:=by
 cases d with
 |none=>exact h
 |some d=>exact dy h
theorem lN {gh:List GObj} {b:Nat} {cs:List PV} (h:av gh b=some cs):gh[b]?=some (.cells cs):=by
 unfold av at h;split at h
 ·rename_i hg;cases h;exact hg
 ·cases h
theorem nw {gh:List GObj} {b:Nat} {cs:List (PV×PV)} (h:hJ gh b=some cs):gh[b]?=some (.map cs):=by
 unfold hJ at h;split at h
 ·rename_i hg;cases h;exact hg
 ·cases h
theorem zL {s:St} {agg:Bool} {k:Nat} {p:PV} {f:PV->Option R} (h:ldX s.lh s.gh agg k p f=some r) :
  (∃g b off cs v,p= .ptr g b off/\s.cellsAt g b=some cs/\ar agg k off cs=some v/\f (degr v)=some r)\/(∃e off v,p= .ep e off/\ar agg k off e.cells=some v/\f v=some r):=by
 unfold ldX at h;simp only[cu] at h;split at h
 ·split at h
  ·rename_i cs hc
   split at h
   ·rename_i v h1
    exact .inl ⟨_,_,_,cs,v,rfl,by simp[St.cellsAt,hc],h1,h⟩
   ·cases h
  ·cases h
 ·obtain⟨cs,h1,h2⟩:=ed h
  obtain⟨v,h3,h4⟩:=ed h2;exact .inl ⟨_,_,_,cs,v,rfl,by simp[St.cellsAt,lN h1],h3,h4⟩
 ·obtain⟨v,h3,h4⟩:=ed h
  exact .inr ⟨_,_,v,rfl,h3,h4⟩
 ·cases h
theorem lO {s:St} {p:PV} {kk:Nat} {cs:List PV} {k:St->Option R} (h:lG s p kk cs k=some r) :
  ∃g b off old,p= .ptr g b off/\s.cellsAt g b=some old/\(cs.length=kk/\off+kk<=old.length)/\k (s.setCells g b (ax old off cs))=some r:=by
 unfold lG at h;simp only[cu,cX] at h;split at h
 ·split at h
  ·rename_i old hc
   obtain⟨h1,h2⟩:=gm h;exact⟨_,_,_,old,rfl,by simp[St.cellsAt,hc],stOk_iff.1 h1,by simpa [St.setCells] using h2⟩
  ·cases h
 ·obtain⟨old,h1,h2⟩:=ed h
  obtain⟨h3,h4⟩:=gm h2;exact⟨_,_,_,old,rfl,by simp[St.cellsAt,lN h1],stOk_iff.1 h3,by simpa [St.setCells] using h4⟩
 ·cases h
theorem si {an:Tr} {e:List (Nat×PV)}:∀{ps:List (Nat×Nat×IX)} {z:List PV} {f:List PV->Option R},psX an e ps z f=some r->
  ∃vs cs,fK e ps=some vs/\(vs.all λp=>aj p.2.2)=true/\fY z vs=some cs/\f cs=some r
 |[],z,f,h=>⟨[],z,rfl,rfl,rfl,h⟩
 | (off,k,x)::l,z,f,h=>by
  simp only[psX,cq] at h;split at h
  ·rename_i v hv
   obtain⟨h1,h2⟩:=gn h;obtain⟨h3,h4⟩:=gm (iD h2);obtain⟨vs,cs,e1,e2,e3,e4⟩:=si h4;refine⟨(off,k,v)::vs,cs,by simp[fK,hv,e1],by simp only[List.all_cons,h1,e2,Bool.and_self],?_,e4⟩;simp only[fY];rw[if_pos (stOk_iff.1 h3)];exact e3
  ·cases h
theorem sj {an:Tr}:∀{ps:List (Nat×Nat×IX)} {e:List (Nat×PV)} {z:List PV} {f:List (Nat×PV)->List PV->Option R},psT an e ps z f=some r->
  ∃vs e' cs,fZ e ps=some (vs,e')/\(vs.all λp=>aj p.2.2)=true/\fY z vs=some cs/\f e' cs=some r
 |[],e,z,f,h=>⟨[],e,z,rfl,rfl,rfl,h⟩
 |(off,k,x)::l,e,z,f,h=>by simp only[psT] at h;obtain⟨v,e1,hv,h⟩:=kC h;obtain⟨h1,h2⟩:=gn h;obtain⟨h3,h4⟩:=gm (iD h2);obtain⟨vs,e',cs,e1,e2,e3,e4⟩:=sj h4;refine⟨(off,k,v)::vs,e',cs,by simp[fZ,hv,e1],by simp only[List.all_cons,h1,e2,Bool.and_self],?_,e4⟩;simp only[fY];rw[if_pos (stOk_iff.1 h3)];exact e3
theorem sk {e:List (Nat×PV)} {x:Option IX} {f:Option Int->Option R} (h:boX e x f=some r):∃i,f i=some r/\∀(d n:Nat),(∃g,bd (R:=Nat) d i g=some n/\g=some)->dD e d x=some n:=by
 cases x with
 |none=>
  refine⟨none,h,?_⟩;rintro d n ⟨g,hg,rfl⟩;simp only[bd] at hg;exact hg
 | some x=>
  simp only[boX,cq] at h;split at h
  ·rename_i v hv
   obtain⟨k,i,rfl,h2⟩:=lK h;refine⟨some i,h2,?_⟩;rintro d n ⟨g,hg,rfl⟩;simp only[bd] at hg;obtain⟨h3,h4⟩:=dG hg;simp only[aH] at h3;simp only[dD,hv,if_pos h3];exact h4
  ·cases h
theorem hZ {d:Nat} {x:Option Int} {f:Nat->Option R} (h:bd d x f=some r):∃n,f n=some r/\bd d x (some:Nat->Option Nat)=some n:=by
 cases x with
 |none=>exact⟨d,h,rfl⟩
 |some i=>
  obtain⟨h1,h2⟩:=dG (b:=decide (0<=i)) h;exact⟨_,h2,by simp only[bd,h1,gd0]⟩
theorem ny {gh:List GObj} {q:Bool} {x:Option (PV×List GObj)} {f:PV->List GObj->Option R} (h:callR gh q x f=some r):∃v gh',x=some (v,gh')/\(q=true->gh'=gh)/\f v gh'=some r:=by
 unfold callR at h;split at h
 ·rename_i v gh'
  split at h
  ·split at h
   ·rename_i hg;exact⟨v,gh',rfl,λ_=>hg,by rw[hg];exact h⟩
   ·cases h
  ·exact⟨v,gh',rfl,⟨(λhh=>nomatch hh),h⟩⟩
 ·cases h
theorem zM {v:PV} {f:Nat->List PV->(List PV->List PV)->Option R} (h:fnY v f=some r):∃i cs,(v= .fn i cs/\f i cs (λvs=>vs++cs)=some r)\/(v= .bfn i cs/\f i cs (λvs=>cs++vs)=some r):=by
 cases v<;>simp only[fnY] at h<;>try (cases h;done)
 ·exact⟨_,_,.inl ⟨rfl,h⟩⟩
 ·exact⟨_,_,.inr ⟨rfl,h⟩⟩
theorem nz {cf:CallF} {s:St} {d:Option Nat} {q:Bool} {f:Nat} {vs:List PV} {v:PV} {gh':List GObj} (h1:vs.all aj=true) (h2:cf f vs s.gh=some (v,gh')) (h3:q=true->gh'=s.gh) :
  eg cf s d q f vs=some ⟨fg s.env d v,s.lh,gh'⟩:=by
 unfold eg;rw[if_pos h1,h2];simp only;cases q with
 |true=>rw[h3 rfl];simp
 |false=>simp
theorem zN {gh gh':List GObj} {v:PV} {x:Option R} (h:kbX gh gh' v x=some r):((∃o z l,v= .sl o z l)\/∃b,((∃o,v= .ptr true b o)\/(∃g i,v= .pstk b g i)\/(∃g n,v= .stk b g n))/\(b<gh.length/\gh'[b]?=gh[b]?))/\x=some r:=by
 unfold kbX at h;split at h
 all_goals first
  | (split at h
     ·rename_i hb
      first
      |exact⟨.inr ⟨_,.inl ⟨_,rfl⟩,hb⟩,h⟩
      |exact⟨.inr ⟨_,.inr (.inl ⟨_,_,rfl⟩),hb⟩,h⟩
      |exact⟨.inr ⟨_,.inr (.inr ⟨_,_,rfl⟩),hb⟩,h⟩
     ·cases h)
  |exact⟨.inl ⟨_,_,_,rfl⟩,h⟩
  |cases h
theorem sn {e:List (Nat×PV)} {gh gh':List GObj} {x:Option R}:∀{ns:List Nat},kpX e gh gh' ns x=some r->(∀n∈ns,keptB e gh gh' n)/\x=some r
 |[],h=>⟨nofun,h⟩
 | n::l,h=>by
  simp only[kpX,ck] at h;split at h
  ·rename_i v hv
   obtain⟨hs,h⟩:=zN h;obtain⟨h1,h2⟩:=sn h;refine⟨?_,h2⟩;intro m hm;rcases List.mem_cons.mp hm with rfl|hm
   ·unfold keptB
    rw[hv];rcases hs with ⟨_,_,_,rfl⟩|⟨b,hs,hb⟩
    ·trivial
    ·rcases hs with ⟨o,rfl⟩|⟨g,i,rfl⟩|⟨g,i,rfl⟩<;>exact hb
   ·exact h1 m hm
  ·cases h
theorem zO {cf:CallF} {an:Tr} {s:St} {k:St->Option R} {tk:Bool} {kk:Nat} {a x:IX} (h:(match tk with|true=>q1p cf an s k kk a x|false=>q1q cf an s k kk a x)=some r):∃s',ae cf s (.store tk kk a x)=some s'/\k s'=some r:=by
 cases tk with
 | true=>
  simp only[q1p,cq] at h;split at h
  ·rename_i p hp
   obtain⟨v,e,hv,h⟩:=kC h;obtain⟨h1,h2⟩:=gn h;obtain⟨g,b,off,old,rfl,h3,h4,h5⟩:=lO (iD h2);refine⟨_,?_,h5⟩;simp only[ae,hp,if_true,hv,cB,h3];rw[if_pos ⟨h4.1,h4.2,h1⟩]
  ·cases h
 | false=>
  simp only[q1q,cq] at h;split at h
  ·rename_i p v hp hv
   obtain⟨h1,h2⟩:=gn h;obtain⟨g,b,off,old,rfl,h3,h4,h5⟩:=lO (iD h2);refine⟨_,?_,h5⟩;simp only[ae,hp,bO,if_false,hv,cB,h3];rw[if_pos ⟨h4.1,h4.2,h1⟩]
  ·cases h
theorem zP {cf:CallF} {an:Tr} {s:St} {k:St->Option R} {tk:Bool} {kk:Nat} {a x:IX} {ns:List Nat} (h:qas cf an s k tk kk a x ns=some r):∃s',ae cf s (.storeP tk kk a x ns)=some s'/\k s'=some r:=by obtain⟨s',h1,h2⟩:=zO (tk:=tk) h;obtain⟨h5,h6⟩:=sn h2;refine⟨s',?_,h6⟩;have h1':pK s tk kk a x=some s':=h1;simp only[ae,h1',cB];rw[if_pos h5]
theorem zQ {cf:CallF} {an:Tr} {s:St} {k:St->Option R} {d:Nat} {agg:Bool} {kk:Nat} {a:IX} {n:Nat} (h:q5b cf an s k d agg kk a n=some r):∃s',ae cf s (.loadB d agg kk a n)=some s'/\k s'=some r:=by
 simp only[q5b,cq,ck] at h;split at h
 ·rename_i p q hp hq
  unfold lbX at h;split at h
  ·obtain⟨h1,h⟩:=dG h
   obtain⟨cs,h2,h⟩:=ed h;obtain⟨v,h3,h4⟩:=ed h;refine⟨_,?_,dy h4⟩;simp only[ae,hp,hq];rw[if_pos (by simpa only[aH] using h1)];simp[St.cellsAt,lN h2,h3]
  ·obtain⟨v,h3,h4⟩:=ed h
   refine⟨_,?_,dy h4⟩;simp only[ae,hp,hq];simp[h3]
  ·cases h
 ·cases h
theorem nA {cf:CallF} {an:Tr} {s:St} {o:IOp} {k:St->Option R} (h:opX cf an s o k=some r):∃s',ae cf s o=some s'/\k s'=some r:=by
 cases o with
 |callP=>simp[opX] at h
 |storeP=>exact zP h
 |callR=>simp[opX] at h
 |appendE=>simp[opX] at h
 |loadKB=>simp[opX] at h
 |loadTB=>simp[opX] at h
 |loadB=>exact zQ h
 |loadJ=>simp[opX] at h
 |appendP=>simp[opX] at h
 |mkarr=>simp[opX] at h
 |buildA=>simp[opX] at h
 |boxSl=>simp[opX] at h
 |mv d x=>
  simp only[opX,q9z,ck,cq,da,co,cT,db,cu,cX,cW] at h;split at h
  ·rename_i v hv;exact⟨_,by simp[ae,hv],dy h⟩
  ·cases h
 | tkS d n lo=>
  simp only[opX,qa1,ck,cq,da,co,cT,db,cu,cX,cW] at h;split at h
  ·rename_i v hv
   unfold lH at h;simp only at h;split at h
   ·rename_i xs
    split at h
    ·rename_i hlo
     exact⟨_,by simp only[ae,hv];rw[if_pos hlo],by simpa only[co] using h⟩
    ·cases h
   ·cases h
  ·cases h
 |tk d n=>
  simp only[opX,qa0,ck,cq,da,co,cT,db,cu,cX,cW] at h;split at h
  ·rename_i v hv;exact⟨_,by simp[ae,hv],h⟩
  ·cases h
 | pick d c x y=>
  simp only[opX,qa2,ck,cq,da,co,cT,db,cu,cX,cW] at h;split at h
  ·rename_i c' v w hc hv hw
   obtain⟨b,rfl,h⟩:=kD h;cases b with
   |true=>exact⟨_,by simp[ae,hc,hv],dy h⟩
   |false=>exact⟨_,by simp[ae,hc,hw],dy h⟩
  ·cases h
 | box d g tk x=>
  cases tk with
  |true=>
   simp only[opX,q59,q5a,ck,cq,da,co,cT,db,cu,cX,cW] at h;obtain⟨v,e,hv,h⟩:=kC h;obtain⟨h1,h2⟩:=gn h;exact⟨_,by simp[ae,hv,h1],iD h2⟩
  | false=>
   simp only[opX,q59,q5a,ck,cq,da,co,cT,db,cu,cX,cW] at h;split at h
   ·rename_i v hv
    obtain⟨h1,h2⟩:=gn h;exact⟨_,by simp[ae,hv,h1],iD h2⟩
   ·cases h
 |alloc d g z=>
  simp only[opX,qa3,ck,cq,da,co,cT,db,cu,cX,cW] at h;obtain⟨h1,h2⟩:=gn h;exact⟨_,by simp[ae,h1],h2⟩
 |build d z ps=>
  simp only[opX,qa4,ck,cq,da,co,cT,db,cu,cX,cW] at h;obtain⟨h1,h2⟩:=lL h;obtain⟨vs,cs,e1,e2,e3,e4⟩:=si h2;refine⟨_,?_,e4⟩;simp only[ae,e1,cB];rw[if_pos ⟨e2,h1⟩,e3];rfl
 |buildT d z ps=>
  simp only[opX,qa5,ck,cq,da,co,cT,db,cu,cX,cW] at h;obtain⟨h1,h2⟩:=lL h;obtain⟨vs,e',cs,e1,e2,e3,e4⟩:=sj h2;refine⟨_,?_,e4⟩;simp only[ae,e1,cB];rw[if_pos ⟨e2,h1⟩,e3];rfl
 |buildSl d z els=>
  simp only[opX,qa6,ck,cq,da,co,cT,db,cu,cX,cW] at h;obtain⟨vs,hv,h⟩:=jL h;obtain⟨h1,h2⟩:=se h;refine⟨_,?_,h2⟩;simp only[ae,hv,cB];rw[if_pos h1]
 | load d agg kk a=>
  simp only[opX,qa7,ck,cq,da,co,cT,db,cu,cX,cW] at h;split at h
  ·rename_i p hp
   rcases zL h with ⟨g,b,off,cs,v,rfl,h1,h2,h3⟩|⟨e,off,v,rfl,h1,h2⟩
   ·exact⟨_,by simp[ae,hp,h1,h2],dy h3⟩
   ·exact⟨_,by simp[ae,hp,h1],dy h2⟩
  ·cases h
 | loadT d a=>
  simp only[opX,qa8,ck,cq,da,co,cT,db,cu,cX,cW] at h;split at h
  ·rename_i b off hp
   split at h
   ·rename_i cs hc
    obtain⟨v,h1,h2⟩:=ed h;exact⟨_,by simp[ae,hp,St.cellsAt,hc,h1,St.setCells,St.put],h2⟩
   ·cases h
  ·rename_i b off hp
   obtain⟨cs,h0,h⟩:=ed h;obtain⟨v,h1,h2⟩:=ed h;exact⟨_,by simp[ae,hp,St.cellsAt,lN h0,h1,St.setCells,St.put],h2⟩
  ·cases h
 |loadL=>simp[opX] at h
 | store tk kk a x=>
  cases tk with
  | true=>
   simp only[opX,q1p,q1q,ck,cq,da,co,cT,db,cu,cX,cW] at h;split at h
   ·rename_i p hp
    obtain⟨v,e,hv,h⟩:=kC h;obtain⟨h1,h2⟩:=gn h;obtain⟨g,b,off,old,rfl,h3,h4,h5⟩:=lO (iD h2);refine⟨_,?_,h5⟩;simp only[ae,hp,if_true,hv,cB,h3];rw[if_pos ⟨h4.1,h4.2,h1⟩]
   ·cases h
  | false=>
   simp only[opX,q1p,q1q,ck,cq,da,co,cT,db,cu,cX,cW] at h;split at h
   ·rename_i p v hp hv
    obtain⟨h1,h2⟩:=gn h;obtain⟨g,b,off,old,rfl,h3,h4,h5⟩:=lO (iD h2);refine⟨_,?_,h5⟩;simp only[ae,hp,bO,if_false,hv,cB,h3];rw[if_pos ⟨h4.1,h4.2,h1⟩]
   ·cases h
 | nilc d x=>
  simp only[opX,qa9,ck,cq,da,co,cT,db,cu,cX,cW] at h;split at h
  ·rename_i p hp
   obtain⟨h1,h2⟩:=dG h;refine⟨_,?_,dy h2⟩;cases p<;>simp[sa] at h1<;>simp[ae,hp]
  ·cases h
 | bin d op x y=>
  simp only[opX,qaa,ck,cq,da,co,cT,db,cu,cX,cW] at h;split at h
  ·rename_i a b ha hb
   obtain⟨v,h1,h2⟩:=zB h;exact⟨_,by simp[ae,ha,hb,h1],dy h2⟩
  ·cases h
 | eqa d neg ks x y=>
  simp only[opX,qab,ck,cq,da,co,cT,db,cu,cX,cW] at h;split at h
  ·rename_i a b ha hb
   obtain⟨v,h1,h2⟩:=ed h;refine⟨s.put d (.bool (if neg then !v else v)),by simp only[ae,ha,hb,h1,cC],?_⟩;cases neg<;>exact h2
  ·cases h
 | eqb d neg x y=>
  simp only[opX,qac,ck,cq,da,co,cT,db,cu,cX,cW] at h;split at h
  ·rename_i a b ha hb
   obtain⟨a',rfl,h2⟩:=kD h;obtain⟨b',rfl,h3⟩:=kD h2;refine⟨s.put d (.bool (if neg then a' !=b' else a'==b')),by simp only[ae,ha,hb],?_⟩;cases neg<;>exact h3
  ·cases h
 |eqn=>simp[opX] at h
 | un d op x=>
  simp only[opX,qad,ck,cq,da,co,cT,db,cu,cX,cW] at h;split at h
  ·rename_i a ha
   obtain⟨v,h1,h2⟩:=zC h;exact⟨_,by simp[ae,ha,h1],dy h2⟩
  ·cases h
 |conv=>simp[opX] at h
 |mkfn d f caps=>
  simp only[opX,qae,ck,cq,da,co,cT,db,cu,cX,cW] at h;obtain⟨vs,hv,h⟩:=jL h;obtain⟨h1,h2⟩:=hU h;refine⟨_,?_,h2⟩;simp only[ae,hv,cB];rw[if_pos h1]
 |loadG=>simp[opX] at h
 |boxB=>simp[opX] at h
 |mkbld=>simp[opX] at h
 |mkmap d=>
  simp only[opX,qaf,co] at h;exact⟨_,rfl,h⟩
 | mksl d g z bytes zero l=>
  simp only[opX,qag,ck,cq,da,co,cT,db,cu,cX,cW] at h;split at h
  ·rename_i v hv
   obtain⟨k',n,rfl,h⟩:=lK h;obtain⟨h1,h2⟩:=dG h;cases g with
   |true=>
    refine⟨_,by simp only[ae,hv];rw[if_pos (by simpa only[eN,aH] using h1)],?_⟩;exact h2
   | false=>
    obtain⟨h3,h4⟩:=dG h2;refine⟨s.put d (.sl true z (List.replicate n.toNat zero)),?_,?_⟩
    ·simp only[ae,hv]
     rw[if_pos (by simpa only[eN,aH] using h1)];simp only[if_pos h3]
    ·exact h4
  ·cases h
 | slice d z x lo hi=>
  simp only[opX,qah,ck,cq,da,co,cT,db,cu,cX,cW] at h;split at h
  ·rename_i v hv
   obtain⟨i,h,hlo⟩:=sk h;obtain⟨j,h,hhi⟩:=sk h;unfold slX at h;split at h
   ·rename_i o z' xs
    obtain⟨m,h,h1⟩:=hZ h;obtain⟨l,h,h2⟩:=hZ h;obtain⟨h3,h4⟩:=dG h;refine⟨_,?_,dy h4⟩;simp only[ae,hv,hhi _ _ ⟨_,h1,rfl⟩,hlo _ _ ⟨_,h2,rfl⟩,cB];rw[if_pos (by simpa only[aH] using h3)]
   ·rename_i g b off n z'
    obtain⟨m,h,h1⟩:=hZ h;obtain⟨l,h,h2⟩:=hZ h;obtain⟨h3,h4⟩:=dG h;refine⟨_,?_,dy h4⟩;simp only[ae,hv,hhi _ _ ⟨_,h1,rfl⟩,hlo _ _ ⟨_,h2,rfl⟩,cB];rw[if_pos (by simpa only[aH] using h3)]
   ·rename_i b gen n
    split at h
    ·obtain⟨m,h,h1⟩:=hZ h
     obtain⟨h3,h4⟩:=dG h;refine⟨_,?_,dy h4⟩;have hlo0:lo.isNone=true:=by
      cases lo with
      |none=>rfl
      |some y=>
       have q1:=hlo 0 0 ⟨_,rfl,rfl⟩;have q2:dD s.env 0 (some y)=some 1:=hlo 1 1 ⟨_,rfl,rfl⟩;rw[q1] at q2;cases q2
     simp only[ae,hv,hhi _ _ ⟨_,h1,rfl⟩,hlo0,cB,if_true];rw[if_pos (by simpa only[aH] using h3)]
    ·obtain⟨m,h,h1⟩:=hZ h
     obtain⟨l,h,h2⟩:=hZ h;obtain⟨h3,h4⟩:=dG h;refine⟨_,?_,dy h4⟩;have e1:=hlo _ _ ⟨_,h2,rfl⟩;have hlo0:lo.isNone=false:=by
      cases lo with
      |some y=>rfl
      |none=>
       exfalso;have h2':bd 1 (some _) _=some _:=h2;have e2:dD s.env 1 none=some l:=hlo 1 l ⟨_,h2',rfl⟩;simp only[dD] at e1 e2;rw[<-e1] at e2;cases e2
     simp only[ae,hv,hhi _ _ ⟨_,h1,rfl⟩,e1,hlo0,cB];rw[if_neg (by decide)];rw[if_pos (by simpa only[aH] using h3)]
   ·rename_i b gen off n
    obtain⟨m,h,h1⟩:=hZ h;obtain⟨l,h,h2⟩:=hZ h;obtain⟨h3,h4⟩:=dG h;refine⟨_,?_,dy h4⟩;simp only[ae,hv,hhi _ _ ⟨_,h1,rfl⟩,hlo _ _ ⟨_,h2,rfl⟩,cB];rw[if_pos (by simpa only[aH] using h3)]
   ·cases h
  ·cases h
 |sliceS=>simp[opX] at h
 | faddr d x off=>
  simp only[opX,qai,ck,cq,da,co,cT,db,cu,cX,cW] at h;split at h
  ·rename_i p hp
   unfold faX at h;split at h
   ·exact⟨_,by simp only[ae,hp],dy h⟩
   ·exact⟨_,by simp only[ae,hp],dy h⟩
   ·cases h
  ·cases h
 |field=>simp[opX] at h
 | iaddr d z arr x i=>
  simp only[opX,qaj,ck,cq,da,co,cT,db,cu,cX,cW] at h;split at h
  ·rename_i iv v hi hv
   obtain⟨k',n,rfl,h⟩:=lK h;unfold idX at h;split at h
   ·obtain⟨h1,h2⟩:=dG h
    obtain⟨e,h3,h4⟩:=ed h2;refine⟨_,?_,dy h4⟩;simp only[ae,hi,hv];rw[if_pos (by simpa only[aH] using h1),h3];rfl
   ·obtain⟨h1,h2⟩:=dG h
    refine⟨_,?_,dy h2⟩;simp only[ae,hi,hv];rw[if_pos (by simpa only[aH] using h1)]
   ·obtain⟨h1,h2⟩:=dG h
    refine⟨_,?_,dy h2⟩;simp only[ae,hi,hv];rw[if_pos (by simpa only[aH] using h1)]
   ·obtain⟨h1,h2⟩:=dG h
    refine⟨_,?_,dy h2⟩;simp only[ae,hi,hv];rw[if_pos (by simpa only[aH] using h1)]
   ·obtain⟨h1,h2⟩:=dG h
    refine⟨_,?_,dy h2⟩;simp only[ae,hi,hv];rw[if_pos (by simpa only[aH] using h1)]
   ·obtain⟨h1,h2⟩:=dG h
    refine⟨_,?_,dy h2⟩;simp only[ae,hi,hv];rw[if_pos (by simpa only[aH] using h1)]
   ·cases h
  ·cases h
 | index d z arr agg x i=>
  simp only[opX,qak,ck,cq,da,co,cT,db,cu,cX,cW] at h;split at h
  ·rename_i iv v hi hv
   obtain⟨k',n,rfl,h⟩:=lK h;unfold ixX at h;split at h
   ·obtain⟨h1,h2⟩:=dG h
    obtain⟨e,h3,h4⟩:=ed h2;refine⟨_,?_,dy h4⟩;simp only[ae,hi,hv];rw[if_pos (by simpa only[aH] using h1),h3];rfl
   ·cases h
  ·cases h
 |indexS=>simp[opX] at h
 | lookup d kn m kx ok zero=>
  simp only[opX,qal,ck,cq,da,co,cT,db,cu,cX,cW] at h;split at h
  ·rename_i mv kv hm hk
   unfold lkX at h;split at h
   ·rename_i b
    obtain⟨es,h1,h⟩:=ed h;obtain⟨h2,h⟩:=dG h;obtain⟨u,h3,h⟩:=ed h;have h1':=nw h1;cases u with
    |none=>
     refine⟨_,?_,dy h⟩;simp only[ae,hm,hk,h1',h2,h3,Bool.true_eq_false,if_false];cases ok<;>rfl
    |some u=>
     refine⟨_,?_,dy h⟩;simp only[ae,hm,hk,h1',h2,h3,Bool.true_eq_false,if_false];cases ok<;>rfl
   ·cases h
  ·cases h
 | mupd kn m kx x=>
  simp only[opX,qam,ck,cq,da,co,cT,db,cu,cX,cW] at h;split at h
  ·rename_i mv kv v hm hk hv
   unfold muX at h;split at h
   ·rename_i b
    obtain⟨es,h1,h⟩:=ed h;obtain⟨h2,h⟩:=dG h;obtain⟨u,h3,h⟩:=ed h;have h1':=nw h1;simp only[aX] at h2;refine⟨_,?_,h⟩;simp only[ae,hm,hk,hv,h1'];rw[if_pos ⟨h2.1,h2.2.1,h2.2.2⟩,h3];rfl
   ·cases h
  ·cases h
 |call d q f xs=>
  simp only[opX,qan] at h;obtain⟨vs,hv,h⟩:=jL h;obtain⟨h1,h⟩:=hU h;obtain⟨v,gh',h2,h3,h4⟩:=ny h;refine⟨_,?_,lM h4⟩;simp only[ae,hv,cB];exact nz h1 h2 h3
 | cally d x xs=>
  simp only[opX,qap,ck,cq,da,co,cT,db,cu,cX,cW] at h;split at h
  ·rename_i w hw
   obtain⟨vs,hv,h⟩:=jL h;unfold ylC at h;simp only at h;split at h
   ·rename_i b
    split at h
    ·rename_i y caps hb
     obtain⟨h1,h⟩:=hU h;obtain⟨h2,h⟩:=hU h;split at h
     ·rename_i gh' hc
      refine⟨_,?_,lM h⟩;simp only[ae,hw,hv,cB,doY,hb];rw[if_pos (by rw[List.all_append,h1,h2];rfl),hc]
     ·cases h
    ·cases h
   ·cases h
  ·cases h
 | callv d q fv xs=>
  simp only[opX,qao,ck,cq,da,co,cT,db,cu,cX,cW] at h;split at h
  ·rename_i w hw
   obtain⟨vs,hv,h⟩:=jL h;obtain⟨f,caps,⟨rfl,h⟩|⟨rfl,h⟩⟩:=zM h
   ·obtain⟨h1,h⟩:=hU h
    obtain⟨h1',h⟩:=hU h;obtain⟨v,gh',h2,h3,h4⟩:=ny h;refine⟨_,?_,lM h4⟩;simp only[ae,hw,hv,cB];exact nz (by rw[List.all_append,h1,h1'];rfl) h2 h3
   ·obtain⟨h1,h⟩:=hU h
    obtain⟨h1',h⟩:=hU h;obtain⟨v,gh',h2,h3,h4⟩:=ny h;refine⟨_,?_,lM h4⟩;simp only[ae,hw,hv,cB];exact nz (by rw[List.all_append,h1,h1'];rfl) h2 h3
  ·cases h
 |callF=>simp[opX] at h
 |callE=>simp[opX] at h
 |loadN=>simp[opX] at h
 | len d kd x=>
  match kd with
  | 0=>
   simp only[opX,q3k,q3l,q3m,ck,cq,da,co,cT,db,cu,cX,cW] at h;split at h
   ·rename_i v hv
    unfold az at h;split at h
    ·exact⟨_,by simp only[ae,hv],h⟩
    ·exact⟨_,by simp only[ae,hv],h⟩
    ·exact⟨_,by simp only[ae,hv],h⟩
    ·exact⟨_,by simp only[ae,hv],h⟩
    ·exact⟨_,by simp only[ae,hv],h⟩
    ·cases h
   ·cases h
  | 1=>
   simp only[opX,q3k,q3l,q3m,ck,cq,da,co,cT,db,cu,cX,cW] at h;split at h
   ·rename_i v hv
    obtain⟨b,rfl,h⟩:=sb h;exact⟨_,by simp only[ae,hv],h⟩
   ·cases h
  | 2=>
   simp only[opX,q3k,q3l,q3m,ck,cq,da,co,cT,db,cu,cX,cW] at h;split at h
   ·rename_i v hv
    unfold jK at h;split at h
    ·obtain⟨es,h1,h⟩:=ed h
     exact⟨_,by simp only[ae,hv,nw h1],h⟩
    ·cases h
   ·cases h
  |n+3=>simp[opX] at h
 | append d z bytes sx x=>
  simp only[opX,qaq,ck,cq,da,co,cT,db,cu,cX,cW] at h;split at h
  ·rename_i w hw
   obtain⟨v,e,hv,h⟩:=kC h;unfold apX at h;split at h
   ·obtain⟨h1,h2⟩:=dG h
    refine⟨_,?_,h2⟩;simp only[ae,hw,hv,cB];rw[if_pos (by simpa only[aH] using h1)]
   ·cases h
  ·cases h
 |appendK=>simp[opX] at h
 |storeK=>simp[opX] at h
 |clearK=>simp[opX] at h
 |mkbf=>simp[opX] at h
 |appendN=>simp[opX] at h
 |loadH=>simp[opX] at h
 |loadK=>simp[opX] at h
 |buildSlK=>simp[opX] at h
 |maxi=>simp[opX] at h
 | extract d x i=>
  simp only[opX,qar,ck,cq,da,co,cT,db,cu,cX,cW] at h;split at h
  ·rename_i v hv
   unfold exX at h;split at h
   ·obtain⟨u,h1,h2⟩:=ed h
    exact⟨_,by simp[ae,hv,h1],dy h2⟩
   ·cases h
  ·cases h
theorem zR (s:St) (o:IOp) (k:St->Option R):skX s o k=k (dX s o):=by
 unfold skX dX;cases bw o with
 |none=>rfl
 |some d=>simp only[cT]
theorem jf {cf:CallF} {an:Tr}:∀{l:List IOpG} {s:St} {k:St->Option R},gk cf an l s k=some r->∃s',dn cf l s=some s'/\k s'=some r
 |[],s,k,h=>⟨s,rfl,h⟩
 |⟨o,none⟩::l,s,k,h=>by simp only[gk] at h;obtain⟨s1,h1,h2⟩:=nA h;obtain⟨s2,h3,h4⟩:=jf h2;exact⟨s2,by simp only[dn,h1,cB];exact h3,h4⟩
 | ⟨o,some (g,want)⟩::l,s,k,h=>by
  have key:∀b,get s.env g=some (.bool b)->s.put g (.bool b)=s:=by
   intro b hb;have:∀(e:List (Nat×PV)),get e g=some (.bool b)->Lw.put e g (.bool b)=e:=by
    intro e
    induction e with
    |nil=>intro h;simp[get] at h
    |cons a e ih=>
     obtain⟨x,v⟩:=a;intro h;simp only[get] at h;simp only[Lw.put];split at h
     ·rename_i hx;cases h;rw[if_pos hx,hx]
     ·rename_i hx;rw[if_neg hx,ih h]
   simp only[St.put,this s.env hb]
  simp only[gk,ck,zR] at h;simp only[dn];split at h
  ·rename_i b hb
   cases b with
   | true=>
    simp only[br,cT] at h;rw[key true hb] at h;cases want with
    |true=>
     simp only at h;obtain⟨s1,h1,h2⟩:=nA h;obtain⟨s2,h3,h4⟩:=jf h2;exact⟨s2,by simp only[hb,if_true,h1,cB];exact h3,h4⟩
    |false=>
     simp only at h;obtain⟨s2,h3,h4⟩:=jf h;exact⟨s2,by simp only[hb,Bool.true_eq_false,if_false];exact h3,h4⟩
   | false=>
    simp only[br,cT] at h;rw[key false hb] at h;cases want with
    |true=>
     simp only at h;obtain⟨s2,h3,h4⟩:=jf h;exact⟨s2,by simp only[hb,bO,if_false];exact h3,h4⟩
    |false=>
     simp only at h;obtain⟨s1,h1,h2⟩:=nA h;obtain⟨s2,h3,h4⟩:=jf h2;exact⟨s2,by simp only[hb,if_true,h1,cB];exact h3,h4⟩
  ·rename_i hb
   obtain⟨s2,h3,h4⟩:=jf h;exact⟨s2,by simp only[hb];exact h3,h4⟩
  ·cases h
theorem lP {nl:Nat}:∀{ks:List Nat} {e:List (Nat×PV)} {f:List (Nat×PV)->Option R},fQ nl ks e f=some r->f (keep nl ks e)=some r
 |[],_,_,h=>h
 | t::l,e,f,h=>by
  simp only[fQ,ck] at h;simp only[keep];split at h
  ·rename_i v hv
   obtain⟨h1,h2⟩:=zJ h;simp only[hv,h1,if_true];exact lP (f:=λe'=>f ((t,v)::e')) h2
  ·rename_i hv
   simp only[hv];exact lP h
theorem nB {x:Option (ag×St)} {k:ag->St->Option R} (h:kR x k=some r):∃e s,x=some (e,s)/\k e s=some r:=by
 unfold kR at h;split at h
 ·exact⟨_,_,rfl,h⟩
 ·cases h
theorem zS {pg:Prg} {an:Tr}:∀{c:ICode} {s:St} {k:ag->St->Option R},e9 pg an c s k=some r->∃e s',ab pg c s=some (e,s')/\k e s'=some r:=by
 intro c
 induction c with
 |skip=>intro s k h;exact⟨_,_,vz pg s,h⟩
 |region ops d=>
  intro s k h;obtain⟨s',h1,h2⟩:=jf (show gk (ac pg) an ops s (k .normal)=some r from h);exact⟨_,_,by rw[vC,h1];rfl,h2⟩
 | seq a b iha ihb=>
  intro s k h;obtain⟨e,s1,h1,h2⟩:=iha (show e9 pg an a s _=some r from h);rw[vE,h1];cases e with
  |normal=>
   obtain⟨e2,s2,h3,h4⟩:=ihb (show e9 pg an b s1 k=some r from h2);exact⟨e2,s2,h3,h4⟩
  |exit i=>exact⟨_,_,rfl,h2⟩
  |ret=>exact⟨_,_,rfl,h2⟩
 | cond x a b iha ihb=>
  intro s k h;simp only[e9,cq] at h;split at h
  ·rename_i v hv
   obtain⟨c,rfl,h2⟩:=kD h;rw[vD,hv];cases c with
   |true=>exact iha h2
   |false=>exact ihb h2
  ·cases h
 | block id a iha=>
  intro s k h;obtain⟨e,s1,h1,h2⟩:=iha (show e9 pg an a s _=some r from h);rw[j9,h1];cases e with
  |normal=>exact⟨_,_,rfl,h2⟩
  | exit i=>
   simp only[bk] at h2;simp only;by_cases hi:i=id
   ·subst hi
    rw[if_pos rfl];simp only[Nat.beq_refl,br] at h2;exact⟨_,_,rfl,h2⟩
   ·have:Nat.beq i id=false:=nu hi
    rw[this] at h2;rw[if_neg hi];exact⟨_,_,rfl,h2⟩
  |ret=>exact⟨_,_,rfl,h2⟩
 |loop a _=>intro s k h;exact nB (show kR (ab pg (.loop a) s) k=some r from h)
 |rangeF g y ks=>intro s k h;exact nB (show kR (ab pg (.rangeF g y ks) s) k=some r from h)
 |exit i=>intro s k h;exact⟨_,_,vA pg s i,h⟩
 |ret=>intro s k h;exact⟨_,_,vB pg s,h⟩
 | post a ks nl iha=>
  intro s k h;obtain⟨e,s1,h1,h2⟩:=iha (show e9 pg an a s _=some r from h);rw[iV,h1];cases e with
  |normal=>
   simp only[po,lJ] at h2;exact⟨_,_,rfl,lP h2⟩
  |exit i=>exact⟨_,_,rfl,h2⟩
  |ret=>exact⟨_,_,rfl,h2⟩
 | lift a ks t iha=>
  intro s k h;obtain⟨e,s1,h1,h2⟩:=iha (show e9 pg an a s _=some r from h);rw[vF,h1];cases e with
  | normal=>
   simp only[lfK,ck,cu,lJ,co] at h2;split at h2
   ·rename_i b hb
    split at h2
    ·rename_i cs hcs
     obtain⟨h3,h4⟩:=gm h2;exact⟨_,_,by simp only[j7,hb,hcs];rw[if_pos (Nat.eq_of_beq_eq_true h3)];rfl,lP h4⟩
    ·cases h2
   ·cases h2
  |exit i=>exact⟨_,_,rfl,h2⟩
  |ret=>exact⟨_,_,rfl,h2⟩
 |bad=>
  intro s k h;exact absurd (show (none:Option _)=some r from h) (by simp)
 |cut a _=>
  intro s k h;rw[vH];exact nB (show kR (ab pg a s) k=some r from h)
theorem af {pg:Prg} (an:Tr) {c:ICode} {s:St} {e:ag} {s':St} (h:e9 pg an c s (λe s=>some (e,s))=some (e,s')):ab pg c s=some (e,s'):=by obtain⟨e1,s1,h1,h2⟩:=zS h;cases h2;exact h1
theorem KR {pg:Prg} (an:Tr) {c:ICode} {s:St} {D:DR} {e:ag} {s':St} (h:D=some (e,s')) (k:e9 pg an c s (λe s=>some (e,s))=D):ab pg c s=some (e,s'):=af an (k.trans h)
end
end Go.Lw