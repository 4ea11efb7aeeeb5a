/-
  The texts that the proof stands on, part 2.
-/
import Derived.Test.YtmodipglnngghabExploreAllsA
set_option linter.unusedVariables false
set_option linter.unusedSimpArgs false
set_option linter.unnecessarySimpa false

set_option maxRecDepth 100000
set_option maxHeartbeats 4000000
namespace Go.Lw
open Go
section
open Classical
def Le (cf cf':CallF):Prop:=∀f vs gh r,cf f vs gh=some r->cf' f vs gh=some r
theorem mU {cf cf':CallF} (h:Le cf cf') {s s':St} {d:Option Nat} {q:Bool} {f:Nat} {vs:List PV} (hh:eh cf s d q f vs=some s') :
  eh cf' s d q f vs=some s':=by
 unfold eh at *;split at hh
 ·rename_i ha
  rw[if_pos ha];cases hc:cf f vs s.gh with
  |none=>simp[hc] at hh
  |some r=>rw[h _ _ _ _ hc];rw[hc] at hh;exact hh
 ·cases hh
theorem vT {cf cf':CallF} (h:Le cf cf') {s s':St} {d:Option Nat} {b:Nat} {vs:List PV} (hh:doY cf s d b vs=some s'):doY cf' s d b vs=some s':=by
 unfold doY at *;split at hh
 ·split at hh
  ·rename_i ha
   rw[if_pos ha];split at hh
   ·rename_i hc;rw[h _ _ _ _ hc];exact hh
   ·cases hh
  ·cases hh
 ·cases hh
theorem qF {cf cf':CallF} (h:Le cf cf') {s s':St} {g:IX} {y:Nat} {ks:List Nat} (hh:fO cf s g y ks=some s'):fO cf' s g y ks=some s':=by
 unfold fO at *;split at hh
 ·simp only[aC] at *
  obtain⟨vs,hv,hh⟩:=hh;refine⟨vs,hv,?_⟩;split at hh
  ·rename_i ha
   rw[if_pos ha];split at hh
   ·rename_i hc;rw[h _ _ _ _ hc];exact hh
   ·cases hh
  ·cases hh
 ·cases hh
theorem mV {cf cf':CallF} (h:Le cf cf') {s s':St} {o:IOp} (hh:ae cf s o=some s'):ae cf' s o=some s':=by
 cases o with
 |call d q f xs=>
  simp only[ae,aC] at *;obtain⟨vs,hv,hc⟩:=hh;exact⟨vs,hv,mU h hc⟩
 | callv d q fv xs=>
  simp only[ae] at *;split at hh
  ·simp only[aC] at *
   obtain⟨vs,hv,hc⟩:=hh;exact⟨vs,hv,mU h hc⟩
  ·simp only[aC] at *
   obtain⟨vs,hv,hc⟩:=hh;exact⟨vs,hv,mU h hc⟩
  ·cases hh
 |callP=>simp[ae] at hh
 |callR=>simp[ae] at hh
 |callF=>simp[ae] at hh
 |callE=>simp[ae] at hh
 | cally d x xs=>
  simp only[ae] at *;split at hh
  ·simp only[aC] at *
   obtain⟨vs,hv,hc⟩:=hh;exact⟨vs,hv,vT h hc⟩
  ·cases hh
 |_=>exact hh
theorem iY {cf cf':CallF} (h:Le cf cf'):∀{l:List IOpG} {s s':St},dp cf l s=some s'->dp cf' l s=some s'
 |[],s,s',hh=>hh
 | o ::l,s,s',hh=>by
  simp only[dp] at *;split at hh
  ·simp only[aC] at *
   obtain⟨s1,h1,h2⟩:=hh;exact⟨s1,mV h h1,iY h h2⟩
  ·split at hh
   ·split at hh
    ·rename_i hb
     simp only[hb,if_true,aC] at *;obtain⟨s1,h1,h2⟩:=hh;exact⟨s1,mV h h1,iY h h2⟩
    ·rename_i hb
     rw[if_neg hb];exact iY h hh
   ·exact iY h hh
   ·cases hh
theorem vU {run run':ICode->St->Option (ag×St)} (h:∀c s r,run c s=some r->run' c s=some r) {Y:IYl} {y:Nat} {vs:List PV} {gh:List GObj} {r:PV×List GObj} (hh:ix run Y y vs gh=some r):ix run' Y y vs gh=some r:=by
 unfold ix at *;split at hh
 ·split at hh
  ·rename_i hl
   rw[if_pos hl];split at hh
   ·rename_i s1 h1
    simp only[h _ _ _ h1];split at hh
    ·rename_i hg1
     rw[if_pos hg1];split at hh
     ·rename_i s2 h2
      simp only[h _ _ _ h2];exact hh
     ·cases hh
    ·cases hh
   ·cases hh
  ·cases hh
 ·cases hh
theorem kh {run run':ICode->St->Option (ag×St)} {pg:Prg} (h:∀c s r,run c s=some r->run' c s=some r):Le (du run pg) (du run' pg):=by
 intro f vs gh r hh;unfold du at *;cases hp:pg f with
 |none=>simp[hp] at hh
 | some df=>
  cases df with
  |lib F=>simp only[hp] at *;exact hh
  |yl Y=>simp only[hp] at *;exact vU h hh
  | code fn=>
   simp only[hp] at *;split at hh
   ·rename_i hl
    rw[if_pos hl];simp only[aC] at *;obtain⟨r1,h1,h2⟩:=hh;exact⟨r1,h _ _ _ h1,h2⟩
   ·cases hh
theorem vV (pg:Prg):∀(n:Nat) (c:ICode) (s:St) (r:ag×St),au pg n c s=some r->au pg (n+1) c s=some r:=by
 intro n
 induction n with
 |zero=>intro c s r h;simp[au] at h
 | succ n ih=>
  intro c s r h;cases c with
  |skip=>simpa [au] using h
  |region ops d=>
   simp only[au,aE] at *;obtain⟨s',h1,h2⟩:=h;exact⟨s',iY (kh ih) h1,h2⟩
  | seq a b=>
   rw[au] at h ⊢;cases ha:au pg n a s with
   |none=>simp[ha] at h
   |some x=>
    rw[ih _ _ _ ha];rw[ha] at h;obtain⟨e,s'⟩:=x;cases e<;>simp only at * <;>first|exact ih _ _ _ h|exact h
  |cond x a b=>
   rw[au] at h ⊢;split at h
   ·exact ih _ _ _ h
   ·exact ih _ _ _ h
   ·cases h
  |block id a=>
   rw[au] at h ⊢;cases ha:au pg n a s with
   |none=>simp[ha] at h
   |some x=>rw[ih _ _ _ ha];rw[ha] at h;exact h
  | loop a=>
   rw[au] at h ⊢;cases ha:au pg n a s with
   |none=>simp[ha] at h
   |some x=>
    rw[ih _ _ _ ha];rw[ha] at h;obtain⟨e,s'⟩:=x;cases e<;>simp only at * <;>first|exact ih _ _ _ h|exact h
  |exit i=>simpa [au] using h
  |ret=>simpa [au] using h
  |post a ks nl=>
   rw[au] at h ⊢;cases ha:au pg n a s with
   |none=>simp[ha] at h
   |some x=>rw[ih _ _ _ ha];rw[ha] at h;exact h
  |lift a ks t=>
   rw[au] at h ⊢;cases ha:au pg n a s with
   |none=>simp[ha] at h
   |some x=>rw[ih _ _ _ ha];rw[ha] at h;exact h
  |cut a=>rw[au] at h ⊢;exact ih _ _ _ h
  |rangeF g y ks=>
   simp only[au,aE] at *;obtain⟨s',h1,h2⟩:=h;exact⟨s',qF (kh ih) h1,h2⟩
  |bad=>simp[au] at h
theorem gi (pg:Prg) {n m:Nat} (h:n<=m) {c:ICode} {s:St} {r:ag×St} (hr:au pg n c s=some r):au pg m c s=some r:=by
 induction h with
 |refl=>exact hr
 |step _ ih=>exact vV pg _ _ _ _ ih
noncomputable def ab (pg:Prg) (c:ICode) (s:St):Option (ag×St):=
 if h:∃r n,au pg n c s=some r then some h.choose else none
theorem da (pg:Prg) (c:ICode) (s:St) (r:ag×St):ab pg c s=some r↔∃n,au pg n c s=some r:=by
 unfold ab;constructor
 ·intro h
  split at h
  ·rename_i hx
   obtain⟨n,hn⟩:=hx.choose_spec;cases h;exact⟨n,hn⟩
  ·cases h
 ·rintro⟨n,hn⟩
  have hx:∃r n,au pg n c s=some r:=⟨r,n,hn⟩
  rw[dif_pos hx];obtain⟨m,hm⟩:=hx.choose_spec;have h1:=gi pg (Nat.le_max_left n m) hn;have h2:=gi pg (Nat.le_max_right n m) hm;rw[h1] at h2;exact h2.symm
noncomputable def ac (pg:Prg):CallF:=du (ab pg) pg
theorem qG (pg:Prg) (n:Nat):Le (du (au pg n) pg) (ac pg):=
 kh λc s r h=>(da pg c s r).2 ⟨n,h⟩
theorem ll (pg:Prg) {f:Nat} {vs:List PV} {gh:List GObj} {r:PV×List GObj} (h:ac pg f vs gh=some r) :
  ∃n,du (au pg n) pg f vs gh=some r:=by
 unfold ac du at h;cases hp:pg f with
 |none=>simp[hp] at h
 | some df=>
  cases df with
  |lib F=>exact⟨0,by unfold du;simp only[hp] at h ⊢;exact h⟩
  | yl Y=>
   simp only[hp] at h;unfold ix at h;split at h
   ·rename_i b hb
    split at h
    ·rename_i hl
     split at h
     ·rename_i s1 h1
      split at h
      ·rename_i hg1
       split at h
       ·rename_i s2 h2
        obtain⟨n1,hn1⟩:=(da _ _ _ _).1 h1;obtain⟨n2,hn2⟩:=(da _ _ _ _).1 h2;refine⟨max n1 n2,?_⟩;unfold du;simp only[hp];unfold ix;simp only[hb,if_pos hl,gi pg (Nat.le_max_left n1 n2) hn1,if_pos hg1,gi pg (Nat.le_max_right n1 n2) hn2];exact h
       ·cases h
      ·cases h
     ·cases h
    ·cases h
   ·cases h
  | code fn=>
   simp only[hp] at h;split at h
   ·rename_i hl
    simp only[aC] at h;obtain⟨r1,h1,h2⟩:=h;obtain⟨n,hn⟩:=(da _ _ _ _).1 h1;refine⟨n,?_⟩;unfold du;simp only[hp,if_pos hl,hn,cB,h2]
   ·cases h
theorem vW (pg:Prg) {s s':St} {d:Option Nat} {b:Nat} {vs:List PV} (h:doY (ac pg) s d b vs=some s'):∃n,doY (du (au pg n) pg) s d b vs=some s':=by
 unfold doY at h;split at h
 ·rename_i y caps hb
  split at h
  ·rename_i ha
   split at h
   ·rename_i gh' hc
    obtain⟨n,hn⟩:=ll pg hc;refine⟨n,?_⟩;unfold doY;simp only[hb,if_pos ha,hn];exact h
   ·cases h
  ·cases h
 ·cases h
theorem vX (pg:Prg) {s s':St} {g:IX} {y:Nat} {ks:List Nat} (h:fO (ac pg) s g y ks=some s'):∃n,fO (du (au pg n) pg) s g y ks=some s':=by
 unfold fO at h;split at h
 ·rename_i F caps hg
  simp only[aC] at h;obtain⟨vs,hv,h⟩:=h;split at h
  ·rename_i ha
   split at h
   ·rename_i gh' hc
    obtain⟨n,hn⟩:=ll pg hc;refine⟨n,?_⟩;unfold fO;simp only[hg,hv,cB,if_pos ha,hn];exact h
   ·cases h
  ·cases h
 ·cases h
theorem vY (pg:Prg) {s s':St} {o:IOp} (h:ae (ac pg) s o=some s'):∃n,ae (du (au pg n) pg) s o=some s':=by
 have key1:∀d q f vs s',eh (ac pg) s d q f vs=some s'->∃n,eh (du (au pg n) pg) s d q f vs=some s':=by
  intro d q f vs s' hd;unfold eh at hd;split at hd
  ·rename_i ha
   cases hc:ac pg f vs s.gh with
   |none=>simp[hc] at hd
   |some r=>
    obtain⟨n,hn⟩:=ll pg hc;refine⟨n,?_⟩;unfold eh;rw[if_pos ha,hn];rw[hc] at hd;exact hd
  ·cases hd
 have key:∀d q f vs,eh (ac pg) s d q f vs=some s'->∃n,eh (du (au pg n) pg) s d q f vs=some s':=λd q f vs=>key1 d q f vs s'
 cases o with
 |call d q f xs=>
  simp only[ae,aC] at *;obtain⟨vs,hv,hc⟩:=h;obtain⟨n,hn⟩:=key _ _ _ _ hc;exact⟨n,vs,hv,hn⟩
 | callv d q fv xs=>
  simp only[ae] at *;split at h
  ·simp only[aC] at *
   obtain⟨vs,hv,hc⟩:=h;obtain⟨n,hn⟩:=key _ _ _ _ hc;exact⟨n,vs,hv,hn⟩
  ·simp only[aC] at *
   obtain⟨vs,hv,hc⟩:=h;obtain⟨n,hn⟩:=key _ _ _ _ hc;exact⟨n,vs,hv,hn⟩
  ·cases h
 |callP=>simp[ae] at h
 |callR=>simp[ae] at h
 |callF=>simp[ae] at h
 |callE=>simp[ae] at h
 | cally d x xs=>
  simp only[ae] at *;split at h
  ·simp only[aC] at *
   obtain⟨vs,hv,hd⟩:=h;obtain⟨n,hn⟩:=vW pg hd;exact⟨n,vs,hv,hn⟩
  ·cases h
 |_=>exact⟨0,h⟩
theorem lm (pg:Prg):∀{l:List IOpG} {s s':St},dp (ac pg) l s=some s'->∃n,dp (du (au pg n) pg) l s=some s'
 |[],s,s',h=>⟨0,h⟩
 | o ::l,s,s',h=>by
  have both:∀s s1 s',ae (ac pg) s o.op=some s1->dp (ac pg) l s1=some s'->
    ∃n,ae (du (au pg n) pg) s o.op=some s1/\dp (du (au pg n) pg) l s1=some s':=by
   intro s s1 s' h1 h2;obtain⟨n,hn⟩:=vY pg h1;obtain⟨m,hm⟩:=lm pg h2
   exact⟨max n m,mV (kh λc s r h=>gi pg (Nat.le_max_left n m) h) hn,
    iY (kh λc s r h=>gi pg (Nat.le_max_right n m) h) hm⟩
  simp only[dp] at *;split at h
  ·simp only[aC] at *
   obtain⟨s1,h1,h2⟩:=h;obtain⟨n,a,b⟩:=both _ _ _ h1 h2;exact⟨n,s1,a,b⟩
  ·split at h
   ·split at h
    ·rename_i hb
     simp only[aC] at h;obtain⟨s1,h1,h2⟩:=h;obtain⟨n,a,b⟩:=both _ _ _ h1 h2;exact⟨n,by rw[if_pos hb,aC];exact⟨s1,a,b⟩⟩
    ·rename_i hb
     obtain⟨n,hn⟩:=lm pg h;exact⟨n,by rw[if_neg hb];exact hn⟩
   ·exact lm pg h
   ·cases h
section
variable (pg:Prg) (s:St)
theorem qH (f:Nat) (vs:List PV) (gh:List GObj):ac pg f vs gh=du (ab pg) pg f vs gh:=rfl
theorem vZ:ab pg .skip s=some (.normal,s):=(da ..).2 ⟨1,rfl⟩
theorem wa (i:Nat):ab pg (.exit i) s=some (.exit i,s):=(da ..).2 ⟨1,rfl⟩
theorem wb:ab pg .ret s=some (.ret,s):=(da ..).2 ⟨1,rfl⟩
theorem wc (ops:List IOpG) (d:Bool):ab pg (.region ops d) s=(dp (ac pg) ops s).map λs'=>(.normal,s'):=by
 refine Option.ext λr=>?_
 rw[da,aE];constructor
 ·rintro⟨n,hn⟩
  cases n with
  |zero=>simp[au] at hn
  |succ n=>
   simp only[au,aE] at hn;obtain⟨s',h1,h2⟩:=hn;exact⟨s',iY (qG pg n) h1,h2⟩
 ·rintro⟨s',h1,h2⟩
  obtain⟨n,hn⟩:=lm pg h1;exact⟨n+1,by simp only[au,aE];exact⟨s',hn,h2⟩⟩
theorem we (x:IX) (a b:ICode):ab pg (.cond x a b) s=match aj s.env x with
  |some (.bool true)=>ab pg a s
  |some (.bool false)=>ab pg b s
  |_=>none:=by
 refine Option.ext λr=>?_
 rw[da];constructor
 ·rintro⟨n,hn⟩
  cases n with
  |zero=>simp[au] at hn
  |succ n=>
   rw[au] at hn;split at hn
   ·rename_i hx;rw[hx];exact (da ..).2 ⟨n,hn⟩
   ·rename_i hx;rw[hx];exact (da ..).2 ⟨n,hn⟩
   ·cases hn
 ·intro h
  split at h
  ·rename_i hx
   obtain⟨n,hn⟩:=(da ..).1 h;exact⟨n+1,by rw[au,hx];exact hn⟩
  ·rename_i hx
   obtain⟨n,hn⟩:=(da ..).1 h;exact⟨n+1,by rw[au,hx];exact hn⟩
  ·cases h
theorem wg (a b:ICode):ab pg (.seq a b) s=match ab pg a s with
  |some (.normal,s')=>ab pg b s'
  |r=>r:=by
 refine Option.ext λr=>?_
 rw[da];constructor
 ·rintro⟨n,hn⟩
  cases n with
  |zero=>simp[au] at hn
  | succ n=>
   rw[au] at hn;cases ha:au pg n a s with
   |none=>simp[ha] at hn
   |some x=>
    rw[(da ..).2 ⟨n,ha⟩];rw[ha] at hn;obtain⟨e,s'⟩:=x;cases e<;>simp only at * <;>first|exact (da ..).2 ⟨n,hn⟩|exact hn
 ·intro h
  cases ha:ab pg a s with
  |none=>simp[ha] at h
  | some x=>
   obtain⟨n,hn⟩:=(da ..).1 ha;rw[ha] at h;obtain⟨e,s'⟩:=x;cases e with
   |normal=>
    obtain⟨m,hm⟩:=(da ..).1 h;exact⟨max n m+1,by rw[au,gi pg (Nat.le_max_left n m) hn];exact gi pg (Nat.le_max_right n m) hm⟩
   |exit i=>exact⟨n+1,by rw[au,hn];exact h⟩
   |ret=>exact⟨n+1,by rw[au,hn];exact h⟩
theorem mW (a:ICode):ab pg (.loop a) s=match ab pg a s with
  |some (.normal,s')=>ab pg (.loop a) s'
  |r=>r:=by
 refine Option.ext λr=>?_
 rw[da];constructor
 ·rintro⟨n,hn⟩
  cases n with
  |zero=>simp[au] at hn
  | succ n=>
   rw[au] at hn;cases ha:au pg n a s with
   |none=>simp[ha] at hn
   |some x=>
    rw[(da ..).2 ⟨n,ha⟩];rw[ha] at hn;obtain⟨e,s'⟩:=x;cases e<;>simp only at * <;>first|exact (da ..).2 ⟨n,hn⟩|exact hn
 ·intro h
  cases ha:ab pg a s with
  |none=>simp[ha] at h
  | some x=>
   obtain⟨n,hn⟩:=(da ..).1 ha;rw[ha] at h;obtain⟨e,s'⟩:=x;cases e with
   |normal=>
    obtain⟨m,hm⟩:=(da ..).1 h;exact⟨max n m+1,by rw[au,gi pg (Nat.le_max_left n m) hn];exact gi pg (Nat.le_max_right n m) hm⟩
   |exit i=>exact⟨n+1,by rw[au,hn];exact h⟩
   |ret=>exact⟨n+1,by rw[au,hn];exact h⟩
theorem ki (id:Nat) (a:ICode):ab pg (.block id a) s=match ab pg a s with
  |some (.exit i,s')=>if i=id then some (.normal,s') else some (.exit i,s')
  |r=>r:=by
 refine Option.ext λr=>?_
 rw[da];constructor
 ·rintro⟨n,hn⟩
  cases n with
  |zero=>simp[au] at hn
  |succ n=>
   rw[au] at hn;cases ha:au pg n a s with
   |none=>simp[ha] at hn
   |some x=>rw[(da ..).2 ⟨n,ha⟩];rw[ha] at hn;exact hn
 ·intro h
  cases ha:ab pg a s with
  |none=>simp[ha] at h
  |some x=>
   obtain⟨n,hn⟩:=(da ..).1 ha;exact⟨n+1,by rw[au,hn];rw[ha] at h;exact h⟩
theorem iZ (a:ICode) (ks:List Nat) (nl:Nat):ab pg (.post a ks nl) s=match ab pg a s with
  |some (.normal,s')=>some (.normal,⟨keep nl ks s'.env,s'.lh.take nl,s'.gh⟩)
  |r=>r:=by
 refine Option.ext λr=>?_
 rw[da];constructor
 ·rintro⟨n,hn⟩
  cases n with
  |zero=>simp[au] at hn
  |succ n=>
   rw[au] at hn;cases ha:au pg n a s with
   |none=>simp[ha] at hn
   |some x=>rw[(da ..).2 ⟨n,ha⟩];rw[ha] at hn;exact hn
 ·intro h
  cases ha:ab pg a s with
  |none=>simp[ha] at h
  |some x=>
   obtain⟨n,hn⟩:=(da ..).1 ha;exact⟨n+1,by rw[au,hn];rw[ha] at h;exact h⟩
theorem wh (a:ICode) (ks:List Nat) (t:Nat):ab pg (.lift a ks t) s=match ab pg a s with
  |some (.normal,s')=>(kg ks t s').map λs'=>(.normal,s')
  |r=>r:=by
 refine Option.ext λr=>?_
 rw[da];constructor
 ·rintro⟨n,hn⟩
  cases n with
  |zero=>simp[au] at hn
  |succ n=>
   rw[au] at hn;cases ha:au pg n a s with
   |none=>simp[ha] at hn
   |some x=>rw[(da ..).2 ⟨n,ha⟩];rw[ha] at hn;exact hn
 ·intro h
  cases ha:ab pg a s with
  |none=>simp[ha] at h
  |some x=>
   obtain⟨n,hn⟩:=(da ..).1 ha;exact⟨n+1,by rw[au,hn];rw[ha] at h;exact h⟩
theorem wi (g:IX) (y:Nat) (ks:List Nat):ab pg (.rangeF g y ks) s=(fO (ac pg) s g y ks).map λs'=>(.normal,s'):=by
 refine Option.ext λr=>?_
 rw[da,aE];constructor
 ·rintro⟨n,hn⟩
  cases n with
  |zero=>simp[au] at hn
  |succ n=>
   simp only[au,aE] at hn;obtain⟨s',h1,h2⟩:=hn;exact⟨s',qF (qG pg n) h1,h2⟩
 ·rintro⟨s',h1,h2⟩
  obtain⟨n,hn⟩:=vX pg h1;exact⟨n+1,by simp only[au,aE];exact⟨s',hn,h2⟩⟩
theorem wj (a:ICode):ab pg (.cut a) s=ab pg a s:=by
 refine Option.ext λr=>?_
 rw[da,da];constructor
 ·rintro⟨n,hn⟩
  cases n with
  |zero=>simp[au] at hn
  |succ n=>exact⟨n,hn⟩
 ·rintro⟨n,hn⟩
  exact⟨n+1,hn⟩
end
end
end Go.Lw