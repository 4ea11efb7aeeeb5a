/-
  The texts that the proof stands on, part 4.
-/
import Derived.Test.YtmodipglnngghabBlastTellsC
set_option linter.unusedVariables false
set_option linter.unusedSimpArgs false
set_option linter.unnecessarySimpa false

set_option maxRecDepth 100000
set_option maxHeartbeats 4000000
namespace Go.Lw
open Go
section
variable {b z n off d kk:Nat} {v p:PV} {a:IX} {e:List (Nat×PV)} {cs vs:List PV} {h:Sh} {an:Tr} {s:St} {gh gh':List GObj} {xs:List IX} {q:Bool} {cf:CallF}
section
variable {R:Type} {α:Type} {r:R}
theorem dY {x:Option α} {f:α->Option R} (h:ob x f=some r):∃a,x=some a/\f a=some r:=by
 cases x with
 |none=>cases h
 |some a=>exact⟨a,rfl,h⟩
theorem dN {b:Bool} {x:Option R} (h:gd b x=some r):b=true/\x=some r:=by
 cases b with
 |false=>cases h
 |true=>exact⟨rfl,h⟩
theorem iE {b:Bool} {x:Option R} (h:gb b x=some r):b=true/\x=some r:=by
 cases b with
 |false=>cases h
 |true=>exact⟨rfl,h⟩
theorem nK {k k':IntKind} {x:Option R} (h:kE k k' x=some r):k=k'/\x=some r:=by obtain⟨h1,h2⟩:=iE h;refine⟨?_,h2⟩;cases k<;>cases k'<;>simp[rn] at h1 ⊢
theorem Dz {k:IntKind} {f:Int->Option R} (h:unI k v f=some r):∃n,v= .int k n/\f n=some r:=by
 cases v<;>simp only[unI] at h<;>try (cases h;done)
 obtain⟨rfl,h2⟩:=nK h;exact⟨_,rfl,h2⟩
theorem rt {a:Nat} (h:¬a=b):Nat.beq a b=false:=by
 cases hb:Nat.beq a b with
 |true=>exact absurd (Nat.eq_of_beq_eq_true hb) h
 |false=>rfl
theorem da:∀(e:List (Nat×PV)) (t:Nat),gv e t=get e t
 |[],_=>rfl
 | (a,v)::l,t=>by
  simp only[gv,get];by_cases h:a=t
  ·subst h;simp
  ·have:Nat.beq a t=false:=rt h
   rw[this,if_neg h];exact da l t
theorem dk:∀(e:List (Nat×PV)) (t:Nat) (v:PV) (k:List (Nat×PV)->Option R),fg e t v k=k (Lw.put e t v)
 |[],_,_,_=>rfl
 | (a,u)::l,t,v,k=>by
  simp only[fg,Lw.put];by_cases h:a=t
  ·subst h;simp
  ·have:Nat.beq a t=false:=rt h
   rw[this,if_neg h];exact dk l t v _
theorem dv:∀(l:List α) (v:α) (k:List α->Option R),ro l v k=k (l++[v])
 |[],_,_=>rfl
 |u::l,v,k=>dv l v λl=>k (u::l)
theorem dy:∀(l:List α) (i:Nat) (v:α) (k:List α->Option R),lW l i v k=k (l.set i v)
 |[],_,_,_=>rfl
 |_::_,0,_,_=>rfl
 |u::l,i+1,v,k=>dy l i v λl=>k (u::l)
theorem dn:∀(l:List α) (i:Nat),jv l i=l[i]?
 |[],_=>rfl
 |_::_,0=>rfl
 |_::l,i+1=>by rw[jv,dn l i];rfl
theorem ru:∀(n:Nat) (l:List α) (k:List α->Option R),ma n l k=k (l.take n)
 |0,_,_=>by simp[ma]
 |n+1,[],k=>by simp[ma]
 |n+1,u::l,k=>ru n l λl=>k (u::l)
theorem dc (e:List (Nat×PV)) (x:IX):evX e x=ah e x:=by cases x<;>simp only[evX,ah];rw[da];cases get e _<;>rfl
theorem dD (e:List (Nat×PV)) (x:IX):evK e x=go e x:=by cases x<;>simp only[evK,go];rw[da];cases get e _<;>rfl
theorem iF {e:List (Nat×PV)}:∀{l:List IX} {k:List PV->Option R},gG e l k=some r->∃vs,cZ e l=some vs/\k vs=some r
 |[],k,h=>⟨[],rfl,h⟩
 | x::l,k,h=>by
  simp only[gG,dc] at h;split at h
  ·rename_i v hv
   obtain⟨vs,h1,h2⟩:=iF h;exact⟨v::vs,by simp[cZ,hv,h1],h2⟩
  ·cases h
theorem md {x:IX} {k:PV->List (Nat×PV)->Option R} (h:tkX e x k=some r):∃v e',eY e x=some (v,e')/\k v e'=some r:=by
 cases x with
 | t n=>
  simp only[tkX,da] at h;split at h
  ·rename_i v hv
   rw[dk] at h;exact⟨v,_,by simp[eY,hv],h⟩
  ·cases h
 |c v=>exact⟨v,e,rfl,h⟩
 |f id=>exact⟨_,e,rfl,h⟩
theorem dp (s:St) (d:Nat) (v:PV) (k:St->Option R):fR s d v k=k (s.put d v):=by unfold fR;rw[dk];rfl
theorem dE (s:St) (d:Nat) (g:Bool) (cs:List PV) (k:St->Option R):mc s d g cs k=k (iP s d g cs):=by cases g<;>simp[mc,dk,dv,iP,St.newBox,St.put]
theorem DA {op:BinOp} {a b:PV} {f:PV->Option R} (h:rq op a b f=some r):∃v,gU op a b=some v/\f v=some r:=by
 unfold rq at h;split at h
 ·rename_i k x k' y
  cases op<;>simp only at h
  case shl=>
   obtain⟨h1,h2⟩:=dN h;simp only[aH] at h1;exact⟨_,by simp only[gU];rw[if_neg (by omega)];rfl,h2⟩
  case shr=>
   obtain⟨h1,h2⟩:=dN h;simp only[aH] at h1;exact⟨_,by simp only[gU];rw[if_neg (by omega)];rfl,h2⟩
  case quo=>
   obtain⟨rfl,h'⟩:=nK h;obtain⟨h1,h2⟩:=dN h';simp only[aH] at h1;exact⟨_,by simp only[gU,if_true];rw[if_neg h1],h2⟩
  case rem=>
   obtain⟨rfl,h'⟩:=nK h;obtain⟨h1,h2⟩:=dN h';simp only[aH] at h1;exact⟨_,by simp only[gU,if_true];rw[if_neg h1],h2⟩
  all_goals first
   |exact dY h
   | (obtain⟨rfl,h2⟩:=nK h
      exact⟨_,by simp only[gU,if_true,fG,iOr,fH],h2⟩)
 ·cases op<;>simp only at h
  case eql=>exact⟨_,rfl,h⟩
  case neq=>exact⟨_,rfl,h⟩
  all_goals exact dY h
 ·cases h
theorem DB {op:UnOp} {a:PV} {f:PV->Option R} (h:unX op a f=some r):∃v,na op a=some v/\f v=some r:=by
 unfold unX at h;split at h
 ·exact⟨_,rfl,h⟩
 ·exact⟨_,rfl,h⟩
 ·exact⟨_,rfl,h⟩
 ·cases h
theorem nL {f:Int->Option R} (h:kU v f=some r):∃k n,v= .int k n/\f n=some r:=by
 cases v<;>simp only[kU] at h<;>try (cases h;done)
 exact⟨_,_,rfl,h⟩
theorem me {f:Bool->Option R} (h:unB v f=some r):∃n,v= .bool n/\f n=some r:=by
 cases v<;>simp only[unB] at h<;>try (cases h;done)
 exact⟨_,rfl,h⟩
theorem vr {f:ByteArray->Option R} (h:unS v f=some r):∃n,v= .str n/\f n=some r:=by
 cases v<;>simp only[unS] at h<;>try (cases h;done)
 exact⟨_,rfl,h⟩
theorem DC {f:Nat->Nat->Option R} (h:unG v f=some r):∃b o,v= .ptr true b o/\f b o=some r:=by
 unfold unG at h;split at h
 ·exact⟨_,_,rfl,h⟩
 ·cases h
theorem DD {f:List PV->Option R} (h:unO z v f=some r):∃xs,v= .sl true z xs/\f xs=some r:=by
 unfold unO at h;split at h
 ·obtain⟨hz,h2⟩:=iE h
  have hz:=Nat.eq_of_beq_eq_true hz;subst hz;exact⟨_,rfl,h2⟩
 ·cases h
theorem rv:∀{n:Nat} {l:List PV} {g:List PV->Option R},unN n l (kT n g)=some r->g l=some r
 |0,[],_,h=>h
 |0,_::_,_,h=>nomatch (show (none:Option R)=some r from h)
 |n+1,[],_,h=>nomatch (show (none:Option R)=some r from h)
 |n+1,c::l,g,h=>rv (n:=n) (l:=l) (g:=λl=>g (c::l)) h
theorem DE {g:List PV->Option R} (h:unA n v (kT n g)=some r):∃cs,v= .agg cs/\g cs=some r:=by
 unfold unA at h;split at h
 ·exact⟨_,rfl,rv h⟩
 ·cases h
theorem DF {g:List PV->Option R} (h:unT n v (kT n g)=some r):∃cs,v= .tup cs/\g cs=some r:=by
 unfold unT at h;split at h
 ·exact⟨_,rfl,rv h⟩
 ·cases h
theorem vt {x:Option R} (h:isC v x=some r):v.cells=[v]/\x=some r:=by cases v<;>simp[isC,PV.cells] at * <;>exact h
theorem DG {x:Option R} (h:onK v x=some r):v.one=true/\x=some r:=by
 cases v with
 |agg cs=>cases h
 |und=>cases h
 |tup=>cases h
 |arr z n=>cases h
 |junk=>cases h
 |ptr g b o=>cases g with
  |true=>exact⟨rfl,h⟩
  |false=>cases h
 |bs g b o n z=>cases g with
  |true=>exact⟨rfl,h⟩
  |false=>cases h
 |_=>exact⟨rfl,h⟩
theorem nM:∀{l:List PV} {x:Option R},arL l x=some r->l.all PV.one=true/\x=some r
 |[],x,h=>⟨rfl,h⟩
 |c::l,x,h=>by obtain⟨h1,h2⟩:=DG (show onK c (arL l x)=some r from h);obtain⟨h3,h4⟩:=nM h2;exact⟨by simp[h1,h3],h4⟩
theorem iY {x:Option R} (h:arK v x=some r):ar v=true/\x=some r:=by
 cases v with
 |agg cs=>exact nM h
 |und=>cases h
 |tup=>cases h
 |arr z n=>cases h
 |junk=>cases h
 |ptr g b o=>cases g with
  |true=>exact⟨rfl,h⟩
  |false=>cases h
 |bs g b o n z=>cases g with
  |true=>exact⟨rfl,h⟩
  |false=>cases h
 |_=>exact⟨rfl,h⟩
theorem ib:∀{l:List PV} {x:Option R},eS l x=some r->l.all ar=true/\x=some r
 |[],x,h=>⟨rfl,h⟩
 |c::l,x,h=>by obtain⟨h1,h2⟩:=iY (show arK c (eS l x)=some r from h);obtain⟨h3,h4⟩:=ib h2;exact⟨by simp[h1,h3],h4⟩
theorem lenB_eq:∀(l:List PV) (n:Nat),iD l n=decide (l.length=n)
 |[],0=>rfl
 |[],n+1=>by simp[iD]
 |_::_,0=>by simp[iD]
 |_::l,n+1=>by simp[iD,lenB_eq l n]
theorem vu:∀(l:List PV) (n:Nat),geB l n=decide (n<=l.length)
 |[],0=>by simp[geB]
 |_::_,0=>by simp[geB]
 |[],n+1=>by simp[geB]
 |_::l,n+1=>by simp[geB,vu l n]
theorem stOk_iff {k:Nat} {old:List PV}:eU k off cs old=true↔cs.length=k/\off+k<=old.length:=by simp[eU,lenB_eq,vu]
theorem DH {x:Option R} (h:lnK z v x=some r):v.cells.length=z/\x=some r:=by
 cases v with
 |agg cs=>
  obtain⟨h1,h2⟩:=iE (show gb (iD cs z) x=some r from h);rw[lenB_eq] at h1;exact⟨by simpa [PV.cells] using h1,h2⟩
 |_=>
  obtain⟨h1,h2⟩:=iE (show gb (Nat.beq 1 z) x=some r from h);exact⟨by simpa [PV.cells] using Nat.eq_of_beq_eq_true h1,h2⟩
theorem vv {z:Nat}:∀{l:List PV} {x:Option R},slK z l x=some r->(l.all λv=>ar v&&v.cells.length==z)=true/\x=some r
 |[],x,h=>⟨rfl,h⟩
 |c::l,x,h=>by obtain⟨h1,h2⟩:=iY (show arK c (lnK z c (slK z l x))=some r from h);obtain⟨h3,h4⟩:=DH h2;obtain⟨h5,h6⟩:=vv h4;exact⟨by simp only[List.all_cons,h1,h3,beq_self_eq_true,Bool.and_self,h5],h6⟩
theorem DI {nl:Nat} {x:Option R} (h:stK nl v x=some r):co nl v=true/\x=some r:=by
 cases v with
 | ptr g b o=>cases g with
  |true=>exact⟨rfl,h⟩
  |false=>
   obtain⟨h1,h2⟩:=iE (show gb (Nat.ble (b+1) nl) x=some r from h);exact⟨by simp only[co,aH];exact Nat.le_of_ble_eq_true h1,h2⟩
 | bs g b o n z=>cases g with
  |true=>exact⟨rfl,h⟩
  |false=>
   obtain⟨h1,h2⟩:=iE (show gb (Nat.ble (b+1) nl) x=some r from h);exact⟨by simp only[co,aH];exact Nat.le_of_ble_eq_true h1,h2⟩
 |_=>exact⟨rfl,h⟩
theorem vw {c:Ce} {f:PV->Option R} (h:nG c v f=some r):f v=some r:=by
 cases c<;>simp only[nG] at h
 ·exact h
 ·exact (vt h).2
 ·obtain⟨n,e,h2⟩:=Dz h;rw[e];exact h2
 ·obtain⟨n,e,h2⟩:=me h;rw[e];exact h2
 ·obtain⟨n,e,h2⟩:=vr h;rw[e];exact h2
 ·obtain⟨n,o,e,h2⟩:=DC h;rw[e];exact h2
 ·obtain⟨n,e,h2⟩:=DD h;rw[e];exact h2
theorem vx:∀{cs:List Ce} {vs:List PV} {f:List PV->Option R},lV cs vs f=some r->f vs=some r
 |[],[],_,h=>h
 |[],_::_,_,h=>by simp[lV] at h
 |_::_,[],_,h=>by simp[lV] at h
 |c::cs,v::vs,f,h=>vx (cs:=cs) (vs:=vs) (f:=λvs=>f (v::vs)) (vw h)
theorem DJ {f:PV->Option R} (hh:cast h v f=some r):f v=some r:=by
 cases h with
 |raw=>exact hh
 |ce c=>exact vw hh
 |agg l=>
  obtain⟨cs,rfl,h2⟩:=DE hh;exact vx h2
 |tup n=>
  obtain⟨cs,rfl,h2⟩:=DF hh;exact h2
theorem kX {f:List PV->Option R} (hh:jw h v f=some r):f v.cells=some r:=by
 cases h<;>simp only[jw] at hh<;>try exact hh
 obtain⟨h1,h2⟩:=vt hh;rw[h1];exact h2
theorem dZ {k:St->Option R} (h:fo an s d v k=some r):k (s.put d v)=some r:=by
 have:=DJ h
 rwa [dp] at this
theorem kY {d:Option Nat} {k:St->Option R} (h:iX an s d v k=some r):k ⟨eu s.env d v,s.lh,s.gh⟩=some r:=by
 cases d with
 |none=>exact h
 |some d=>exact dZ h
theorem mf (h:ci gh b=some cs):gh[b]?=some (.cells cs):=by
 unfold ci at h;split at h
 ·rename_i hg;cases h;exact hg
 ·cases h
theorem rz {cs:List (PV×PV)} (h:iW gh b=some cs):gh[b]?=some (.map cs):=by
 unfold iW at h;split at h
 ·rename_i hg;cases h;exact hg
 ·cases h
theorem rA {g:Nat} {xs:List PV} (h:jx gh b=some (g,xs)):gh[b]?=some (.stk g xs):=by
 unfold jx at h;split at h
 ·rename_i hg;cases h;exact hg
 ·cases h
theorem DK {agg:Bool} {k:Nat} {f:PV->Option R} (h:ldX s.lh s.gh agg k p f=some r) :
  (∃g b off cs v,p= .ptr g b off/\s.cellsAt g b=some cs/\bp agg k off cs=some v/\f (degr v)=some r)\/(∃e off v,p= .ep e off/\bp agg k off e.cells=some v/\f v=some r):=by
 unfold ldX at h;simp only[dn] at h;split at h
 ·split at h
  ·rename_i cs hc
   split at h
   ·rename_i v h1
    exact .inl ⟨_,_,_,cs,v,rfl,by simp[St.cellsAt,hc],h1,h⟩
   ·cases h
  ·cases h
 ·obtain⟨cs,h1,h2⟩:=dY h
  obtain⟨v,h3,h4⟩:=dY h2;exact .inl ⟨_,_,_,cs,v,rfl,by simp[St.cellsAt,mf h1],h3,h4⟩
 ·obtain⟨v,h3,h4⟩:=dY h
  exact .inr ⟨_,_,v,rfl,h3,h4⟩
 ·cases h
theorem vz {k:St->Option R} (h:nJ s p kk cs k=some r) :
  ∃g b off old,p= .ptr g b off/\s.cellsAt g b=some old/\(cs.length=kk/\off+kk<=old.length)/\k (s.setCells g b (bj old off cs))=some r:=by
 unfold nJ at h;simp only[dn,dy] at h;split at h
 ·split at h
  ·rename_i old hc
   obtain⟨h1,h2⟩:=iE h;exact⟨_,_,_,old,rfl,by simp[St.cellsAt,hc],stOk_iff.1 h1,by simpa [St.setCells] using h2⟩
  ·cases h
 ·obtain⟨old,h1,h2⟩:=dY h
  obtain⟨h3,h4⟩:=iE h2;exact⟨_,_,_,old,rfl,by simp[St.cellsAt,mf h1],stOk_iff.1 h3,by simpa [St.setCells] using h4⟩
 ·cases h
theorem vA {an:Tr} {e:List (Nat×PV)}:∀{ps:List (Nat×Nat×IX)} {z:List PV} {f:List PV->Option R},psX an e ps z f=some r->
  ∃vs cs,gB e ps=some vs/\(vs.all λp=>ar p.2.2)=true/\gW z vs=some cs/\f cs=some r
 |[],z,f,h=>⟨[],z,rfl,rfl,rfl,h⟩
 | (off,k,x)::l,z,f,h=>by
  simp only[psX,dc] at h;split at h
  ·rename_i v hv
   obtain⟨h1,h2⟩:=iY h;obtain⟨h3,h4⟩:=iE (kX h2);obtain⟨vs,cs,e1,e2,e3,e4⟩:=vA h4;refine⟨(off,k,v)::vs,cs,by simp[gB,hv,e1],by simp only[List.all_cons,h1,e2,Bool.and_self],?_,e4⟩;simp only[gW];rw[if_pos (stOk_iff.1 h3)];exact e3
  ·cases h
theorem vB {an:Tr}:∀{ps:List (Nat×Nat×IX)} {e:List (Nat×PV)} {z:List PV} {f:List (Nat×PV)->List PV->Option R},psT an e ps z f=some r->
  ∃vs e' cs,gX e ps=some (vs,e')/\(vs.all λp=>ar p.2.2)=true/\gW z vs=some cs/\f e' cs=some r
 |[],e,z,f,h=>⟨[],e,z,rfl,rfl,rfl,h⟩
 |(off,k,x)::l,e,z,f,h=>by simp only[psT] at h;obtain⟨v,e1,hv,h⟩:=md h;obtain⟨h1,h2⟩:=iY h;obtain⟨h3,h4⟩:=iE (kX h2);obtain⟨vs,e',cs,e1,e2,e3,e4⟩:=vB h4;refine⟨(off,k,v)::vs,e',cs,by simp[gX,hv,e1],by simp only[List.all_cons,h1,e2,Bool.and_self],?_,e4⟩;simp only[gW];rw[if_pos (stOk_iff.1 h3)];exact e3
theorem vC {x:Option IX} {f:Option Int->Option R} (h:boX e x f=some r):∃i,f i=some r/\∀(d n:Nat),(∃g,bd (R:=Nat) d i g=some n/\g=some)->eD e d x=some n:=by
 cases x with
 |none=>
  refine⟨none,h,?_⟩;rintro d n ⟨g,hg,rfl⟩;simp only[bd] at hg;exact hg
 | some x=>
  simp only[boX,dc] at h;split at h
  ·rename_i v hv
   obtain⟨k,i,rfl,h2⟩:=nL h;refine⟨some i,h2,?_⟩;rintro d n ⟨g,hg,rfl⟩;simp only[bd] at hg;obtain⟨h3,h4⟩:=dN hg;simp only[aH] at h3;simp only[eD,hv,if_pos h3];exact h4
  ·cases h
theorem iZ {x:Option Int} {f:Nat->Option R} (h:bd d x f=some r):∃n,f n=some r/\bd d x (some:Nat->Option Nat)=some n:=by
 cases x with
 |none=>exact⟨d,h,rfl⟩
 |some i=>
  obtain⟨h1,h2⟩:=dN (b:=decide (0<=i)) h;exact⟨_,h2,by simp only[bd,h1,gd0]⟩
theorem mg {x:Option (PV×List GObj)} {f:PV->List GObj->Option R} (h:callR gh q x f=some r):∃v gh',x=some (v,gh')/\(q=true->gh'=gh)/\f v gh'=some r:=by
 unfold callR at h;split at h
 ·rename_i v gh'
  split at h
  ·split at h
   ·rename_i hg;exact⟨v,gh',rfl,λ_=>hg,by rw[hg];exact h⟩
   ·cases h
  ·exact⟨v,gh',rfl,⟨(λhh=>nomatch hh),h⟩⟩
 ·cases h
theorem DL {x:Option (PV×List GObj)} {f:PV->Option R} (h:jZ vs x f=some r):dL vs=true/\∃v,x=some (v,[])/\v.noG=true/\f v=some r:=by
 unfold jZ at h;obtain⟨h1,h2⟩:=dN h;refine⟨h1,?_⟩;split at h2
 ·rename_i v
  obtain⟨h3,h4⟩:=dN h2;exact⟨v,rfl,h3,h4⟩
 ·cases h2
theorem DM {f:Nat->List PV->(List PV->List PV)->Option R} (h:fnY v f=some r):∃i cs,(v= .fn i cs/\f i cs (λvs=>vs++cs)=some r)\/(v= .bfn i cs/\f i cs (λvs=>cs++vs)=some r):=by
 cases v<;>simp only[fnY] at h<;>try (cases h;done)
 ·exact⟨_,_,.inl ⟨rfl,h⟩⟩
 ·exact⟨_,_,.inr ⟨rfl,h⟩⟩
theorem mh {d:Option Nat} {f:Nat} (h1:vs.all ar=true) (h2:cf f vs s.gh=some (v,gh')) (h3:q=true->gh'=s.gh) :
  dV cf s d q f vs=some ⟨eu s.env d v,s.lh,gh'⟩:=by
 unfold dV;rw[if_pos h1,h2];simp only;cases q with
 |true=>rw[h3 rfl];simp
 |false=>simp
theorem DN {x:Option R} (h:kbX gh gh' v x=some r):∃b,((∃o,v= .ptr true b o)\/(∃g i,v= .pstk b g i)\/(∃g n,v= .stk b g n))/\(b<gh.length/\gh'[b]?=gh[b]?)/\x=some r:=by
 unfold kbX at h;split at h
 all_goals first
  | (split at h
     ·rename_i hb
      first
      |exact⟨_,.inl ⟨_,rfl⟩,hb,h⟩
      |exact⟨_,.inr (.inl ⟨_,_,rfl⟩),hb,h⟩
      |exact⟨_,.inr (.inr ⟨_,_,rfl⟩),hb,h⟩
     ·cases h)
  |cases h
theorem vD {e:List (Nat×PV)} {gh gh':List GObj} {x:Option R}:∀{ns:List Nat},kpX e gh gh' ns x=some r->(∀n∈ns,keptB e gh gh' n)/\x=some r
 |[],h=>⟨nofun,h⟩
 | n::l,h=>by
  simp only[kpX,da] at h;split at h
  ·rename_i v hv
   obtain⟨b,hs,hb,h⟩:=DN h;obtain⟨h1,h2⟩:=vD h;refine⟨?_,h2⟩;intro m hm;rcases List.mem_cons.mp hm with rfl|hm
   ·unfold keptB
    rw[hv];rcases hs with ⟨o,rfl⟩|⟨g,i,rfl⟩|⟨g,i,rfl⟩<;>exact hb
   ·exact h1 m hm
  ·cases h
theorem DO {c:List GObj->Option (PV×List GObj)} {x:Option R} (h:rtK c gh v off x=some r):∃b o,v= .ptr true b o/\rtP c gh b (o+off)/\x=some r:=by
 unfold rtK at h;split at h
 ·split at h
  ·rename_i hp;exact⟨_,_,rfl,hp,h⟩
  ·cases h
 ·cases h
theorem DP {k:St->Option R} {x:IX} (h:q9p cf an s k a x=some r):∃s',ae cf s (.storeK a x)=some s'/\k s'=some r:=by
 simp only[q9p,dc] at h;split at h
 ·rename_i v w hv hw
  unfold skK at h;split at h
  ·obtain⟨⟨g,xs⟩,hg,h⟩:=dY h
   obtain⟨h1,h2⟩:=dN h;refine⟨_,?_,h2⟩;simp only[ae,hv,hw,rA hg];rw[if_pos (by simpa only[aH] using h1)]
  ·cases h
 ·cases h
theorem DQ {k:St->Option R} {x:IX} (h:q9q cf an s k x=some r):∃s',ae cf s (.clearK x)=some s'/\k s'=some r:=by
 simp only[q9q,dc] at h;split at h
 ·rename_i v hv
  unfold ckK at h;split at h
  ·obtain⟨⟨g,xs⟩,hg,h⟩:=dY h
   obtain⟨h1,h2⟩:=dN h;simp only[aH] at h1;obtain⟨h3,h4⟩:=h1;refine⟨_,?_,h2⟩;simp only[ae,hv,rA hg];rw[if_pos ⟨h3,h4⟩]
  ·cases h
 ·cases h
theorem DS {k:St->Option R} {f:Nat} {fs:List IX} (h:q9r cf an s k d f fs=some r):∃s',ae cf s (.mkbf d f fs)=some s'/\k s'=some r:=by simp only[q9r,dp] at h;obtain⟨vs,hv,h⟩:=iF h;obtain⟨h1,h2⟩:=ib h;refine⟨_,?_,h2⟩;simp only[ae,hv,cC];rw[if_pos h1]
theorem DT {k:St->Option R} {d:Option Nat} {f:Nat} {ns:List Nat} (h:q9s cf an s k d f xs ns=some r):∃s',ae cf s (.callP d f xs ns)=some s'/\k s'=some r:=by simp only[q9s] at h;obtain⟨vs,hv,h⟩:=iF h;obtain⟨h1,h⟩:=ib h;obtain⟨v,gh',h2,h3,h4⟩:=mg h;obtain⟨h5,h6⟩:=vD h4;refine⟨_,?_,kY h6⟩;simp only[ae,hv,cC];rw[mh (q:=false) h1 h2 (by nofun)];simp only[cC];rw[if_pos h5]
theorem DU {k:St->Option R} {d:Option Nat} {f:Nat} (h:q9t cf an s k d f xs n off=some r):∃s',ae cf s (.callR d f xs n off)=some s'/\k s'=some r:=by
 simp only[q9t,da] at h;obtain⟨vs,hv,h⟩:=iF h;split at h
 ·rename_i w hw
  obtain⟨h1,h⟩:=ib h;obtain⟨v,gh',h2,h3,h4⟩:=mg h;obtain⟨b,o,rfl,⟨g1,g2,r1,r2,e1,e2,e3,e4,e5⟩,h6⟩:=DO h4;refine⟨_,?_,kY h6⟩;simp only[ae,hv,cC,hw,fX];rw[mh (q:=false) h1 h2 (by nofun)];simp only[cC,e1,e2,e3,e4];rw[if_pos e5]
 ·cases h
theorem DV {k:St->Option R} {bytes:Nat} {sx x:IX} (h:q9u cf an s k d bytes sx x=some r):∃s',ae cf s (.appendE d bytes sx x)=some s'/\k s'=some r:=by
 simp only[q9u,dc,dk] at h;split at h
 ·rename_i w hw
  obtain⟨v,e,ht,h⟩:=md h;unfold aeX at h;split at h
  ·obtain⟨ys,hys,h⟩:=dY h
   obtain⟨h1,h2⟩:=dN h;refine⟨_,?_,h2⟩;simp only[ae,hw,hys,ht,cC];rw[if_pos (by simpa only[aH] using h1)]
  ·cases h
 ·cases h
theorem DW {k:St->Option R} {o2:Nat} (h:q9v cf an s k d a n o2=some r):∃s',ae cf s (.loadTB d a n o2)=some s'/\k s'=some r:=by
 simp only[q9v,dc,da,dk] at h;split at h
 ·rename_i p q hp hq
  unfold kW at h;split at h
  ·obtain⟨h1,h⟩:=dN h
   obtain⟨cs,h2,h⟩:=dY h;obtain⟨v,h3,h4⟩:=dY h;refine⟨_,?_,h4⟩;simp only[ae,hp,hq];rw[if_pos (by simpa only[aH] using h1)];simp[St.cellsAt,mf h2,h3,St.setCells,St.put]
  ·cases h
 ·cases h
theorem DX {k:St->Option R} {agg:Bool} (h:q9w cf an s k d agg kk a n=some r):∃s',ae cf s (.loadB d agg kk a n)=some s'/\k s'=some r:=by
 simp only[q9w,dc,da] at h;split at h
 ·rename_i p q hp hq
  unfold lbX at h;split at h
  ·obtain⟨h1,h⟩:=dN h
   obtain⟨cs,h2,h⟩:=dY h;obtain⟨v,h3,h4⟩:=dY h;refine⟨_,?_,dZ h4⟩;simp only[ae,hp,hq];rw[if_pos (by simpa only[aH] using h1)];simp[St.cellsAt,mf h2,h3]
  ·cases h
 ·cases h
theorem DY {k:St->Option R} {agg:Bool} (h:q9x cf an s k d agg kk a=some r):∃s',ae cf s (.loadJ d agg kk a)=some s'/\k s'=some r:=by
 simp only[q9x,dc,dn] at h;split at h
 ·rename_i b off hp
  split at h
  ·rename_i cs hc
   obtain⟨v,h1,h2⟩:=dY h;exact⟨_,by simp[ae,hp,hc,h1,St.cellsAt],dZ h2⟩
  ·cases h
 ·cases h
theorem rC {o:IOp} {k:St->Option R} (h:opX cf an s o k=some r):∃s',ae cf s o=some s'/\k s'=some r:=by
 cases o with
 |callP=>exact DT h
 |callR=>exact DU h
 |appendE=>exact DV (an:=an) h
 |loadKB=>simp[opX] at h
 |loadTB=>exact DW (an:=an) h
 |loadB=>exact DX h
 |loadJ=>exact DY h
 |appendP=>simp[opX] at h
 |mkarr=>simp[opX] at h
 |buildA=>simp[opX] at h
 |boxSl=>simp[opX] at h
 |mv d x=>
  simp only[opX,qfg,da,dc,dD,dk,dp,dE,dn,dy,dv] at h;split at h
  ·rename_i v hv;exact⟨_,by simp[ae,hv],dZ h⟩
  ·cases h
 |tk d n=>
  simp only[opX,qfh,da,dc,dD,dk,dp,dE,dn,dy,dv] at h;split at h
  ·rename_i v hv;exact⟨_,by simp[ae,hv],h⟩
  ·cases h
 | pick d c x y=>
  simp only[opX,qfi,da,dc,dD,dk,dp,dE,dn,dy,dv] at h;split at h
  ·rename_i c' v w hc hv hw
   obtain⟨b,rfl,h⟩:=me h;cases b with
   |true=>exact⟨_,by simp[ae,hc,hv],dZ h⟩
   |false=>exact⟨_,by simp[ae,hc,hw],dZ h⟩
  ·cases h
 | box d g tk x=>
  cases tk with
  |true=>
   simp only[opX,q9l,q9m,da,dc,dD,dk,dp,dE,dn,dy,dv] at h;obtain⟨v,e,hv,h⟩:=md h;obtain⟨h1,h2⟩:=iY h;exact⟨_,by simp[ae,hv,h1],kX h2⟩
  | false=>
   simp only[opX,q9l,q9m,da,dc,dD,dk,dp,dE,dn,dy,dv] at h;split at h
   ·rename_i v hv
    obtain⟨h1,h2⟩:=iY h;exact⟨_,by simp[ae,hv,h1],kX h2⟩
   ·cases h
 |alloc d g z=>
  simp only[opX,qfj,da,dc,dD,dk,dp,dE,dn,dy,dv] at h;obtain⟨h1,h2⟩:=iY h;exact⟨_,by simp[ae,h1],h2⟩
 |build d z ps=>
  simp only[opX,qfk,da,dc,dD,dk,dp,dE,dn,dy,dv] at h;obtain⟨h1,h2⟩:=nM h;obtain⟨vs,cs,e1,e2,e3,e4⟩:=vA h2;refine⟨_,?_,e4⟩;simp only[ae,e1,cC];rw[if_pos ⟨e2,h1⟩,e3];rfl
 |buildT d z ps=>
  simp only[opX,qfl,da,dc,dD,dk,dp,dE,dn,dy,dv] at h;obtain⟨h1,h2⟩:=nM h;obtain⟨vs,e',cs,e1,e2,e3,e4⟩:=vB h2;refine⟨_,?_,e4⟩;simp only[ae,e1,cC];rw[if_pos ⟨e2,h1⟩,e3];rfl
 |buildSl d z els=>
  simp only[opX,qfm,da,dc,dD,dk,dp,dE,dn,dy,dv] at h;obtain⟨vs,hv,h⟩:=iF h;obtain⟨h1,h2⟩:=vv h;refine⟨_,?_,h2⟩;simp only[ae,hv,cC];rw[if_pos h1]
 | load d agg kk a=>
  simp only[opX,qfn,da,dc,dD,dk,dp,dE,dn,dy,dv] at h;split at h
  ·rename_i p hp
   rcases DK h with ⟨g,b,off,cs,v,rfl,h1,h2,h3⟩|⟨e,off,v,rfl,h1,h2⟩
   ·exact⟨_,by simp[ae,hp,h1,h2],dZ h3⟩
   ·exact⟨_,by simp[ae,hp,h1],dZ h2⟩
  ·cases h
 | loadT d a=>
  simp only[opX,qfo,da,dc,dD,dk,dp,dE,dn,dy,dv] at h;split at h
  ·rename_i b off hp
   split at h
   ·rename_i cs hc
    obtain⟨v,h1,h2⟩:=dY h;exact⟨_,by simp[ae,hp,St.cellsAt,hc,h1,St.setCells,St.put],h2⟩
   ·cases h
  ·rename_i b off hp
   obtain⟨cs,h0,h⟩:=dY h;obtain⟨v,h1,h2⟩:=dY h;exact⟨_,by simp[ae,hp,St.cellsAt,mf h0,h1,St.setCells,St.put],h2⟩
  ·cases h
 | loadL d a=>
  simp only[opX,qfp,da,dc,dD,dk,dp,dE,dn,dy,dv] at h;split at h
  ·rename_i b off hp
   split at h
   ·rename_i cs hc
    obtain⟨v,h1,h2⟩:=dY h;exact⟨_,by simp[ae,hp,hc,h1,St.put],h2⟩
   ·cases h
  ·cases h
 | store tk kk a x=>
  cases tk with
  | true=>
   simp only[opX,q9n,q9o,da,dc,dD,dk,dp,dE,dn,dy,dv] at h;split at h
   ·rename_i p hp
    obtain⟨v,e,hv,h⟩:=md h;obtain⟨h1,h2⟩:=iY h;obtain⟨g,b,off,old,rfl,h3,h4,h5⟩:=vz (kX h2);refine⟨_,?_,h5⟩;simp only[ae,hp,if_true,hv,cC,h3];rw[if_pos ⟨h4.1,h4.2,h1⟩]
   ·cases h
  | false=>
   simp only[opX,q9n,q9o,da,dc,dD,dk,dp,dE,dn,dy,dv] at h;split at h
   ·rename_i p v hp hv
    obtain⟨h1,h2⟩:=iY h;obtain⟨g,b,off,old,rfl,h3,h4,h5⟩:=vz (kX h2);refine⟨_,?_,h5⟩;simp only[ae,hp,bP,if_false,hv,cC,h3];rw[if_pos ⟨h4.1,h4.2,h1⟩]
   ·cases h
 | nilc d x=>
  simp only[opX,qfq,da,dc,dD,dk,dp,dE,dn,dy,dv] at h;split at h
  ·rename_i p hp
   obtain⟨h1,h2⟩:=dN h;refine⟨_,?_,dZ h2⟩;cases p<;>simp[vq] at h1<;>simp[ae,hp]
  ·cases h
 | bin d op x y=>
  simp only[opX,qfr,da,dc,dD,dk,dp,dE,dn,dy,dv] at h;split at h
  ·rename_i a b ha hb
   obtain⟨v,h1,h2⟩:=DA h;exact⟨_,by simp[ae,ha,hb,h1],dZ h2⟩
  ·cases h
 | eqa d neg ks x y=>
  simp only[opX,qfs,da,dc,dD,dk,dp,dE,dn,dy,dv] at h;split at h
  ·rename_i a b ha hb
   obtain⟨v,h1,h2⟩:=dY h;refine⟨s.put d (.bool (if neg then !v else v)),by simp only[ae,ha,hb,h1,cD],?_⟩;cases neg<;>exact h2
  ·cases h
 | eqb d neg x y=>
  simp only[opX,qft,da,dc,dD,dk,dp,dE,dn,dy,dv] at h;split at h
  ·rename_i a b ha hb
   obtain⟨a',rfl,h2⟩:=me h;obtain⟨b',rfl,h3⟩:=me h2;refine⟨s.put d (.bool (if neg then a' !=b' else a'==b')),by simp only[ae,ha,hb],?_⟩;cases neg<;>exact h3
  ·cases h
 |eqn=>simp[opX] at h
 | un d op x=>
  simp only[opX,qfu,da,dc,dD,dk,dp,dE,dn,dy,dv] at h;split at h
  ·rename_i a ha
   obtain⟨v,h1,h2⟩:=DB h;exact⟨_,by simp[ae,ha,h1],dZ h2⟩
  ·cases h
 |conv=>simp[opX] at h
 |mkfn d f caps=>
  simp only[opX,qfv,da,dc,dD,dk,dp,dE,dn,dy,dv] at h;obtain⟨vs,hv,h⟩:=iF h;obtain⟨h1,h2⟩:=ib h;refine⟨_,?_,h2⟩;simp only[ae,hv,cC];rw[if_pos h1]
 |loadG=>simp[opX] at h
 |boxB=>simp[opX] at h
 |mkbld=>simp[opX] at h
 |mkmap d=>
  simp only[opX,qfw,dk] at h;exact⟨_,rfl,h⟩
 | mksl d g z bytes zero l=>
  simp only[opX,qfx,da,dc,dD,dk,dp,dE,dn,dy,dv] at h;split at h
  ·rename_i v hv
   obtain⟨k',n,rfl,h⟩:=nL h;obtain⟨h1,h2⟩:=dN h;cases g with
   |true=>
    refine⟨_,by simp only[ae,hv];rw[if_pos (by simpa only[fp,aH] using h1)],?_⟩;exact h2
   | false=>
    obtain⟨h3,h4⟩:=dN h2;refine⟨s.put d (.sl true z (List.replicate n.toNat zero)),?_,?_⟩
    ·simp only[ae,hv]
     rw[if_pos (by simpa only[fp,aH] using h1)];simp only[if_pos h3]
    ·exact h4
  ·cases h
 | slice d z x lo hi=>
  simp only[opX,qfy,da,dc,dD,dk,dp,dE,dn,dy,dv] at h;split at h
  ·rename_i v hv
   obtain⟨i,h,hlo⟩:=vC h;obtain⟨j,h,hhi⟩:=vC h;unfold slX at h;split at h
   ·rename_i o z' xs
    obtain⟨m,h,h1⟩:=iZ h;obtain⟨l,h,h2⟩:=iZ h;obtain⟨h3,h4⟩:=dN h;refine⟨_,?_,dZ h4⟩;simp only[ae,hv,hhi _ _ ⟨_,h1,rfl⟩,hlo _ _ ⟨_,h2,rfl⟩,cC];rw[if_pos (by simpa only[aH] using h3)]
   ·rename_i g b off n z'
    obtain⟨m,h,h1⟩:=iZ h;obtain⟨l,h,h2⟩:=iZ h;obtain⟨h3,h4⟩:=dN h;refine⟨_,?_,dZ h4⟩;simp only[ae,hv,hhi _ _ ⟨_,h1,rfl⟩,hlo _ _ ⟨_,h2,rfl⟩,cC];rw[if_pos (by simpa only[aH] using h3)]
   ·rename_i b gen n
    split at h
    ·obtain⟨m,h,h1⟩:=iZ h
     obtain⟨h3,h4⟩:=dN h;refine⟨_,?_,dZ h4⟩;have hlo0:lo.isNone=true:=by
      cases lo with
      |none=>rfl
      |some y=>
       have q1:=hlo 0 0 ⟨_,rfl,rfl⟩;have q2:eD s.env 0 (some y)=some 1:=hlo 1 1 ⟨_,rfl,rfl⟩;rw[q1] at q2;cases q2
     simp only[ae,hv,hhi _ _ ⟨_,h1,rfl⟩,hlo0,cC,if_true];rw[if_pos (by simpa only[aH] using h3)]
    ·obtain⟨m,h,h1⟩:=iZ h
     obtain⟨l,h,h2⟩:=iZ h;obtain⟨h3,h4⟩:=dN h;refine⟨_,?_,dZ h4⟩;have e1:=hlo _ _ ⟨_,h2,rfl⟩;have hlo0:lo.isNone=false:=by
      cases lo with
      |some y=>rfl
      |none=>
       exfalso;have h2':bd 1 (some _) _=some _:=h2;have e2:eD s.env 1 none=some l:=hlo 1 l ⟨_,h2',rfl⟩;simp only[eD] at e1 e2;rw[<-e1] at e2;cases e2
     simp only[ae,hv,hhi _ _ ⟨_,h1,rfl⟩,e1,hlo0,cC];rw[if_neg (by decide)];rw[if_pos (by simpa only[aH] using h3)]
   ·rename_i b gen off n
    obtain⟨m,h,h1⟩:=iZ h;obtain⟨l,h,h2⟩:=iZ h;obtain⟨h3,h4⟩:=dN h;refine⟨_,?_,dZ h4⟩;simp only[ae,hv,hhi _ _ ⟨_,h1,rfl⟩,hlo _ _ ⟨_,h2,rfl⟩,cC];rw[if_pos (by simpa only[aH] using h3)]
   ·cases h
  ·cases h
 |sliceS=>simp[opX] at h
 | faddr d x off=>
  simp only[opX,qfz,da,dc,dD,dk,dp,dE,dn,dy,dv] at h;split at h
  ·rename_i p hp
   unfold faX at h;split at h
   ·exact⟨_,by simp only[ae,hp],dZ h⟩
   ·exact⟨_,by simp only[ae,hp],dZ h⟩
   ·cases h
  ·cases h
 |field=>simp[opX] at h
 | iaddr d z arr x i=>
  simp only[opX,qg0,da,dc,dD,dk,dp,dE,dn,dy,dv] at h;split at h
  ·rename_i iv v hi hv
   obtain⟨k',n,rfl,h⟩:=nL h;unfold idX at h;split at h
   ·obtain⟨h1,h2⟩:=dN h
    obtain⟨e,h3,h4⟩:=dY h2;refine⟨_,?_,dZ h4⟩;simp only[ae,hi,hv];rw[if_pos (by simpa only[aH] using h1),h3];rfl
   ·obtain⟨h1,h2⟩:=dN h
    refine⟨_,?_,dZ h2⟩;simp only[ae,hi,hv];rw[if_pos (by simpa only[aH] using h1)]
   ·obtain⟨h1,h2⟩:=dN h
    refine⟨_,?_,dZ h2⟩;simp only[ae,hi,hv];rw[if_pos (by simpa only[aH] using h1)]
   ·obtain⟨h1,h2⟩:=dN h
    refine⟨_,?_,dZ h2⟩;simp only[ae,hi,hv];rw[if_pos (by simpa only[aH] using h1)]
   ·obtain⟨h1,h2⟩:=dN h
    refine⟨_,?_,dZ h2⟩;simp only[ae,hi,hv];rw[if_pos (by simpa only[aH] using h1)]
   ·obtain⟨h1,h2⟩:=dN h
    refine⟨_,?_,dZ h2⟩;simp only[ae,hi,hv];rw[if_pos (by simpa only[aH] using h1)]
   ·cases h
  ·cases h
 | index d z arr agg x i=>
  simp only[opX,qg1,da,dc,dD,dk,dp,dE,dn,dy,dv] at h;split at h
  ·rename_i iv v hi hv
   obtain⟨k',n,rfl,h⟩:=nL h;unfold ixX at h;split at h
   ·obtain⟨h1,h2⟩:=dN h
    obtain⟨e,h3,h4⟩:=dY h2;refine⟨_,?_,dZ h4⟩;simp only[ae,hi,hv];rw[if_pos (by simpa only[aH] using h1),h3];rfl
   ·cases h
  ·cases h
 |indexS=>simp[opX] at h
 | lookup d kn m kx ok zero=>
  simp only[opX,qg2,da,dc,dD,dk,dp,dE,dn,dy,dv] at h;split at h
  ·rename_i mv kv hm hk
   unfold lkX at h;split at h
   ·rename_i b
    obtain⟨es,h1,h⟩:=dY h;obtain⟨h2,h⟩:=dN h;obtain⟨u,h3,h⟩:=dY h;have h1':=rz h1;cases u with
    |none=>
     refine⟨_,?_,dZ h⟩;simp only[ae,hm,hk,h1',h2,h3,Bool.true_eq_false,if_false];cases ok<;>rfl
    |some u=>
     refine⟨_,?_,dZ h⟩;simp only[ae,hm,hk,h1',h2,h3,Bool.true_eq_false,if_false];cases ok<;>rfl
   ·cases h
  ·cases h
 | mupd kn m kx x=>
  simp only[opX,qg3,da,dc,dD,dk,dp,dE,dn,dy,dv] at h;split at h
  ·rename_i mv kv v hm hk hv
   unfold muX at h;split at h
   ·rename_i b
    obtain⟨es,h1,h⟩:=dY h;obtain⟨h2,h⟩:=dN h;obtain⟨u,h3,h⟩:=dY h;have h1':=rz h1;simp only[aY] at h2;refine⟨_,?_,h⟩;simp only[ae,hm,hk,hv,h1'];rw[if_pos ⟨h2.1,h2.2.1,h2.2.2⟩,h3];rfl
   ·cases h
  ·cases h
 |call d q f xs=>
  simp only[opX,qg4] at h;obtain⟨vs,hv,h⟩:=iF h;obtain⟨h1,h⟩:=ib h;obtain⟨v,gh',h2,h3,h4⟩:=mg h;refine⟨_,?_,kY h4⟩;simp only[ae,hv,cC];exact mh h1 h2 h3
 | callv d q fv xs=>
  simp only[opX,qg5,da,dc,dD,dk,dp,dE,dn,dy,dv] at h;split at h
  ·rename_i w hw
   obtain⟨vs,hv,h⟩:=iF h;obtain⟨f,caps,⟨rfl,h⟩|⟨rfl,h⟩⟩:=DM h
   ·obtain⟨h1,h⟩:=ib h
    obtain⟨h1',h⟩:=ib h;obtain⟨v,gh',h2,h3,h4⟩:=mg h;refine⟨_,?_,kY h4⟩;simp only[ae,hw,hv,cC];exact mh (by rw[List.all_append,h1,h1'];rfl) h2 h3
   ·obtain⟨h1,h⟩:=ib h
    obtain⟨h1',h⟩:=ib h;obtain⟨v,gh',h2,h3,h4⟩:=mg h;refine⟨_,?_,kY h4⟩;simp only[ae,hw,hv,cC];exact mh (by rw[List.all_append,h1,h1'];rfl) h2 h3
  ·cases h
 |callF d f xs=>
  simp only[opX,qg6,da,dc,dD,dk,dp,dE,dn,dy,dv] at h;obtain⟨vs,hv,h⟩:=iF h;obtain⟨h0,h⟩:=ib h;obtain⟨h1,v,h2,h3,h4⟩:=DL h;refine⟨_,?_,kY h4⟩;simp only[ae,hv,cC,ix];rw[if_pos ⟨h0,h1⟩,h2];simp only;rw[if_pos h3]
 |callE=>simp[opX] at h
 |loadN=>simp[opX] at h
 | len d kd x=>
  match kd with
  | 0=>
   simp only[opX,q4p,q4q,q4r,da,dc,dD,dk,dp,dE,dn,dy,dv] at h;split at h
   ·rename_i v hv
    unfold bg at h;split at h
    ·exact⟨_,by simp only[ae,hv],h⟩
    ·exact⟨_,by simp only[ae,hv],h⟩
    ·exact⟨_,by simp only[ae,hv],h⟩
    ·exact⟨_,by simp only[ae,hv],h⟩
    ·exact⟨_,by simp only[ae,hv],h⟩
    ·cases h
   ·cases h
  | 1=>
   simp only[opX,q4p,q4q,q4r,da,dc,dD,dk,dp,dE,dn,dy,dv] at h;split at h
   ·rename_i v hv
    obtain⟨b,rfl,h⟩:=vr h;exact⟨_,by simp only[ae,hv],h⟩
   ·cases h
  | 2=>
   simp only[opX,q4p,q4q,q4r,da,dc,dD,dk,dp,dE,dn,dy,dv] at h;split at h
   ·rename_i v hv
    unfold kV at h;split at h
    ·obtain⟨es,h1,h⟩:=dY h
     exact⟨_,by simp only[ae,hv,rz h1],h⟩
    ·cases h
   ·cases h
  |n+3=>simp[opX] at h
 | append d z bytes sx x=>
  simp only[opX,qg7,da,dc,dD,dk,dp,dE,dn,dy,dv] at h;split at h
  ·rename_i w hw
   obtain⟨v,e,hv,h⟩:=md h;unfold apX at h;split at h
   ·obtain⟨h1,h2⟩:=dN h
    refine⟨_,?_,h2⟩;simp only[ae,hw,hv,cC];rw[if_pos (by simpa only[aH] using h1)]
   ·cases h
  ·cases h
 | appendK d bytes sx x=>
  simp only[opX,qg8,da,dc,dD,dk,dp,dE,dn,dy,dv] at h;split at h
  ·rename_i w v hw hv
   unfold akX at h;obtain⟨ys,hys,h⟩:=dY h;split at h
   ·rename_i b gen n
    obtain⟨⟨g,xs⟩,hg,h⟩:=dY h;obtain⟨h1,h2⟩:=dN h;refine⟨_,?_,dZ h2⟩;simp only[ae,hw,hv,hys,cC,rA hg];rw[if_pos (by simpa only[aH] using h1)]
   ·cases h
  ·cases h
 |storeK a x=>exact DP (an:=an) h
 |clearK x=>exact DQ (an:=an) h
 |mkbf d f fs=>exact DS (an:=an) h
 |appendN=>simp[opX] at h
 |loadH=>simp[opX] at h
 | loadK d a=>
  simp only[opX,qg9,da,dc,dD,dk,dp,dE,dn,dy,dv] at h;split at h
  ·rename_i v hv
   unfold lkK at h;split at h
   ·obtain⟨u,h1,h2⟩:=dY h
    exact⟨_,by simp[ae,hv,h1],dZ h2⟩
   ·cases h
  ·cases h
 |buildSlK d els=>
  simp only[opX,qga,da,dc,dD,dk,dp,dE,dn,dy,dv] at h;obtain⟨vs,hv,h⟩:=iF h;obtain⟨h1,h2⟩:=dN h;refine⟨_,?_,h2⟩;simp only[ae,hv,cC];rw[if_pos h1];rfl
 |maxi=>simp[opX] at h
 | extract d x i=>
  simp only[opX,qgb,da,dc,dD,dk,dp,dE,dn,dy,dv] at h;split at h
  ·rename_i v hv
   unfold exX at h;split at h
   ·obtain⟨u,h1,h2⟩:=dY h
    exact⟨_,by simp[ae,hv,h1],dZ h2⟩
   ·cases h
  ·cases h
theorem DZ (s:St) (o:IOp) (k:St->Option R):skX s o k=k (eF s o):=by
 unfold skX eF;cases cg o with
 |none=>rfl
 |some d=>simp only[dp]
theorem j0 {cf:CallF} {an:Tr}:∀{l:List IOpG} {s:St} {k:St->Option R},hZ cf an l s k=some r->∃s',dF cf l s=some s'/\k s'=some r
 |[],s,k,h=>⟨s,rfl,h⟩
 |⟨o,none⟩::l,s,k,h=>by simp only[hZ] at h;obtain⟨s1,h1,h2⟩:=rC h;obtain⟨s2,h3,h4⟩:=j0 h2;exact⟨s2,by simp only[dF,h1,cC];exact h3,h4⟩
 | ⟨o,some (g,want)⟩::l,s,k,h=>by
  have key:∀b,get s.env g=some (.bool b)->s.put g (.bool b)=s:=by
   intro b hb;have:∀(e:List (Nat×PV)),get e g=some (.bool b)->Lw.put e g (.bool b)=e:=by
    intro e
    induction e with
    |nil=>intro h;simp[get] at h
    |cons a e ih=>
     obtain⟨x,v⟩:=a;intro h;simp only[get] at h;simp only[Lw.put];split at h
     ·rename_i hx;cases h;rw[if_pos hx,hx]
     ·rename_i hx;rw[if_neg hx,ih h]
   simp only[St.put,this s.env hb]
  simp only[hZ,da,DZ] at h;simp only[dF];split at h
  ·rename_i b hb
   cases b with
   | true=>
    simp only[br,dp] at h;rw[key true hb] at h;cases want with
    |true=>
     simp only at h;obtain⟨s1,h1,h2⟩:=rC h;obtain⟨s2,h3,h4⟩:=j0 h2;exact⟨s2,by simp only[hb,if_true,h1,cC];exact h3,h4⟩
    |false=>
     simp only at h;obtain⟨s2,h3,h4⟩:=j0 h;exact⟨s2,by simp only[hb,Bool.true_eq_false,if_false];exact h3,h4⟩
   | false=>
    simp only[br,dp] at h;rw[key false hb] at h;cases want with
    |true=>
     simp only at h;obtain⟨s2,h3,h4⟩:=j0 h;exact⟨s2,by simp only[hb,bP,if_false];exact h3,h4⟩
    |false=>
     simp only at h;obtain⟨s1,h1,h2⟩:=rC h;obtain⟨s2,h3,h4⟩:=j0 h2;exact⟨s2,by simp only[hb,if_true,h1,cC];exact h3,h4⟩
  ·rename_i hb
   obtain⟨s2,h3,h4⟩:=j0 h;exact⟨s2,by simp only[hb];exact h3,h4⟩
  ·cases h
theorem rD {nl:Nat}:∀{ks:List Nat} {e:List (Nat×PV)} {f:List (Nat×PV)->Option R},ia nl ks e f=some r->f (keep nl ks e)=some r
 |[],_,_,h=>h
 | t::l,e,f,h=>by
  simp only[ia,da] at h;simp only[keep];split at h
  ·rename_i v hv
   obtain⟨h1,h2⟩:=DI h;simp only[hv,h1,if_true];exact rD (f:=λe'=>f ((t,v)::e')) h2
  ·rename_i hv
   simp only[hv];exact rD h
theorem vE {x:Option (ag×St)} {k:ag->St->Option R} (h:kR x k=some r):∃e s,x=some (e,s)/\k e s=some r:=by
 unfold kR at h;split at h
 ·exact⟨_,_,rfl,h⟩
 ·cases h
theorem D0 {pg:Prg}:∀{c:ICode} {s:St} {k:ag->St->Option R},gx pg an c s k=some r->∃e s',ab pg c s=some (e,s')/\k e s'=some r:=by
 intro c
 induction c with
 |skip=>intro s k h;exact⟨_,_,zC pg s,h⟩
 |region ops d=>
  intro s k h;obtain⟨s',h1,h2⟩:=j0 (show hZ (ac pg) an ops s (k .normal)=some r from h);exact⟨_,_,by rw[zF,h1];rfl,h2⟩
 | seq a b iha ihb=>
  intro s k h;obtain⟨e,s1,h1,h2⟩:=iha (show gx pg an a s _=some r from h);rw[zH,h1];cases e with
  |normal=>
   obtain⟨e2,s2,h3,h4⟩:=ihb (show gx pg an b s1 k=some r from h2);exact⟨e2,s2,h3,h4⟩
  |exit i=>exact⟨_,_,rfl,h2⟩
  |ret=>exact⟨_,_,rfl,h2⟩
 | cond x a b iha ihb=>
  intro s k h;simp only[gx,dc] at h;split at h
  ·rename_i v hv
   obtain⟨c,rfl,h2⟩:=me h;rw[zG,hv];cases c with
   |true=>exact iha h2
   |false=>exact ihb h2
  ·cases h
 | block id a iha=>
  intro s k h;obtain⟨e,s1,h1,h2⟩:=iha (show gx pg an a s _=some r from h);rw[lA,h1];cases e with
  |normal=>exact⟨_,_,rfl,h2⟩
  | exit i=>
   simp only[bk] at h2;simp only;by_cases hi:i=id
   ·subst hi
    rw[if_pos rfl];simp only[Nat.beq_refl,br] at h2;exact⟨_,_,rfl,h2⟩
   ·have:Nat.beq i id=false:=rt hi
    rw[this] at h2;rw[if_neg hi];exact⟨_,_,rfl,h2⟩
  |ret=>exact⟨_,_,rfl,h2⟩
 |loop a _=>intro s k h;exact vE (show kR (ab pg (.loop a) s) k=some r from h)
 |exit i=>intro s k h;exact⟨_,_,zD pg s i,h⟩
 |ret=>intro s k h;exact⟨_,_,zE pg s,h⟩
 | post a ks nl iha=>
  intro s k h;obtain⟨e,s1,h1,h2⟩:=iha (show gx pg an a s _=some r from h);rw[lB,h1];cases e with
  |normal=>
   simp only[po,ru] at h2;exact⟨_,_,rfl,rD h2⟩
  |exit i=>exact⟨_,_,rfl,h2⟩
  |ret=>exact⟨_,_,rfl,h2⟩
 |bad=>
  intro s k h;exact absurd (show (none:Option _)=some r from h) (by simp)
 |cut a _=>
  intro s k h;rw[zI];exact vE (show kR (ab pg a s) k=some r from h)
theorem af {pg:Prg} (an:Tr) {c:ICode} {e:ag} {s':St} (h:gx pg an c s (λe s=>some (e,s))=some (e,s')):ab pg c s=some (e,s'):=by obtain⟨e1,s1,h1,h2⟩:=D0 h;cases h2;exact h1
theorem KR {pg:Prg} (an:Tr) {c:ICode} {s:St} {D:DR} {e:ag} {s':St} (h:D=some (e,s')) (k:gx pg an c s (λe s=>some (e,s))=D):ab pg c s=some (e,s'):=af an (k.trans h)
end
end
end Go.Lw