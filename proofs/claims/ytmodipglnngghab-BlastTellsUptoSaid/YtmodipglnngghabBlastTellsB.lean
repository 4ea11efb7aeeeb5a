/-
  The texts that the proof stands on, part 2.
-/
import Derived.Test.YtmodipglnngghabBlastTellsA
set_option linter.unusedVariables false
set_option linter.unusedSimpArgs false
set_option linter.unnecessarySimpa false

set_option maxRecDepth 100000
set_option maxHeartbeats 4000000
namespace Go.Lw
open Go
section
open Classical
variable {cf cf':CallF} {d:Option Nat} {f:Nat} {vs:List PV} {o:IOp}
def Le (cf cf':CallF):Prop:=∀f vs gh r,cf f vs gh=some r->cf' f vs gh=some r
theorem kq (h:Le cf cf') {s s':St} {q:Bool} (hh:dV cf s d q f vs=some s') :
  dV cf' s d q f vs=some s':=by
 unfold dV at *;split at hh
 ·rename_i ha
  rw[if_pos ha];cases hc:cf f vs s.gh with
  |none=>simp[hc] at hh
  |some r=>rw[h _ _ _ _ hc];rw[hc] at hh;exact hh
 ·cases hh
theorem zw (h:Le cf cf') {s s':St} (hh:ix cf s d f vs=some s') :
  ix cf' s d f vs=some s':=by
 unfold ix at *;split at hh
 ·rename_i ha
  rw[if_pos ha];cases hc:cf f vs [] with
  |none=>simp[hc] at hh
  |some r=>rw[h _ _ _ _ hc];rw[hc] at hh;exact hh
 ·cases hh
theorem zx (h:Le cf cf') {s s':St} {b off:Nat} (hh:fX cf s d f vs b off=some s') :
  fX cf' s d f vs b off=some s':=by
 unfold fX at *;simp only[aC] at *;obtain⟨s1,h1,g1,h2,g2,h3,r1,h4,r2,h5,h6⟩:=hh;exact⟨s1,kq h h1,g1,h2,g2,h3,r1,h _ _ _ _ h4,r2,h _ _ _ _ h5,h6⟩
theorem nb (h:Le cf cf') {s s':St} (hh:ae cf s o=some s'):ae cf' s o=some s':=by
 cases o with
 |call d q f xs=>
  simp only[ae,aC] at *;obtain⟨vs,hv,hc⟩:=hh;exact⟨vs,hv,kq h hc⟩
 | callv d q fv xs=>
  simp only[ae] at *;split at hh
  ·simp only[aC] at *
   obtain⟨vs,hv,hc⟩:=hh;exact⟨vs,hv,kq h hc⟩
  ·simp only[aC] at *
   obtain⟨vs,hv,hc⟩:=hh;exact⟨vs,hv,kq h hc⟩
  ·cases hh
 |callP d f xs ns=>
  simp only[ae,aC] at *;obtain⟨vs,hv,s1,hc,hk⟩:=hh;exact⟨vs,hv,s1,kq h hc,hk⟩
 |callR d f xs n off=>
  simp only[ae,aC] at *;obtain⟨vs,hv,hc⟩:=hh;refine⟨vs,hv,?_⟩;split at hc
  ·exact zx h hc
  ·cases hc
 |callF d f xs=>
  simp only[ae,aC] at *;obtain⟨vs,hv,hc⟩:=hh;exact⟨vs,hv,zw h hc⟩
 |callE=>simp[ae] at hh
 |_=>exact hh
theorem jO {cf cf':CallF} (h:Le cf cf'):∀{l:List IOpG} {s s':St},dF cf l s=some s'->dF cf' l s=some s'
 |[],s,s',hh=>hh
 | o ::l,s,s',hh=>by
  simp only[dF] at *;split at hh
  ·simp only[aC] at *
   obtain⟨s1,h1,h2⟩:=hh;exact⟨s1,nb h h1,jO h h2⟩
  ·split at hh
   ·split at hh
    ·rename_i hb
     simp only[hb,if_true,aC] at *;obtain⟨s1,h1,h2⟩:=hh;exact⟨s1,nb h h1,jO h h2⟩
    ·rename_i hb
     rw[if_neg hb];exact jO h hh
   ·exact jO h hh
   ·cases hh
theorem jP {run run':ICode->St->Option (ag×St)} {pg:Prg} (h:∀c s r,run c s=some r->run' c s=some r):Le (dG run pg) (dG run' pg):=by
 intro f vs gh r hh;unfold dG at *;cases hp:pg f with
 |none=>simp[hp] at hh
 | some df=>
  cases df with
  |lib F=>simp only[hp] at *;exact hh
  | code fn=>
   simp only[hp] at *;split at hh
   ·rename_i hl
    rw[if_pos hl];simp only[aC] at *;obtain⟨r1,h1,h2⟩:=hh;exact⟨r1,h _ _ _ h1,h2⟩
   ·cases hh
theorem zy (pg:Prg):∀(n:Nat) (c:ICode) (s:St) (r:ag×St),aw pg n c s=some r->aw pg (n+1) c s=some r:=by
 intro n
 induction n with
 |zero=>intro c s r h;simp[aw] at h
 | succ n ih=>
  intro c s r h;cases c with
  |skip=>simpa [aw] using h
  |region ops d=>
   simp only[aw,aE] at *;obtain⟨s',h1,h2⟩:=h;exact⟨s',jO (jP ih) h1,h2⟩
  | seq a b=>
   rw[aw] at h ⊢;cases ha:aw pg n a s with
   |none=>simp[ha] at h
   |some x=>
    rw[ih _ _ _ ha];rw[ha] at h;obtain⟨e,s'⟩:=x;cases e<;>simp only at * <;>first|exact ih _ _ _ h|exact h
  |cond x a b=>
   rw[aw] at h ⊢;split at h
   ·exact ih _ _ _ h
   ·exact ih _ _ _ h
   ·cases h
  |block id a=>
   rw[aw] at h ⊢;cases ha:aw pg n a s with
   |none=>simp[ha] at h
   |some x=>rw[ih _ _ _ ha];rw[ha] at h;exact h
  | loop a=>
   rw[aw] at h ⊢;cases ha:aw pg n a s with
   |none=>simp[ha] at h
   |some x=>
    rw[ih _ _ _ ha];rw[ha] at h;obtain⟨e,s'⟩:=x;cases e<;>simp only at * <;>first|exact ih _ _ _ h|exact h
  |exit i=>simpa [aw] using h
  |ret=>simpa [aw] using h
  |post a ks nl=>
   rw[aw] at h ⊢;cases ha:aw pg n a s with
   |none=>simp[ha] at h
   |some x=>rw[ih _ _ _ ha];rw[ha] at h;exact h
  |cut a=>rw[aw] at h ⊢;exact ih _ _ _ h
  |bad=>simp[aw] at h
theorem fl (pg:Prg) {n m:Nat} (h:n<=m) {c:ICode} {s:St} {r:ag×St} (hr:aw pg n c s=some r):aw pg m c s=some r:=by
 induction h with
 |refl=>exact hr
 |step _ ih=>exact zy pg _ _ _ _ ih
noncomputable def ab (pg:Prg) (c:ICode) (s:St):Option (ag×St):=
 if h:∃r n,aw pg n c s=some r then some h.choose else none
theorem ec (pg:Prg) (c:ICode) (s:St) (r:ag×St):ab pg c s=some r↔∃n,aw pg n c s=some r:=by
 unfold ab;constructor
 ·intro h
  split at h
  ·rename_i hx
   obtain⟨n,hn⟩:=hx.choose_spec;cases h;exact⟨n,hn⟩
  ·cases h
 ·rintro⟨n,hn⟩
  have hx:∃r n,aw pg n c s=some r:=⟨r,n,hn⟩
  rw[dif_pos hx];obtain⟨m,hm⟩:=hx.choose_spec;have h1:=fl pg (Nat.le_max_left n m) hn;have h2:=fl pg (Nat.le_max_right n m) hm;rw[h1] at h2;exact h2.symm
noncomputable def ac (pg:Prg):CallF:=dG (ab pg) pg
theorem tL (pg:Prg) (n:Nat):Le (dG (aw pg n) pg) (ac pg):=
 jP λc s r h=>(ec pg c s r).2 ⟨n,h⟩
theorem lz (pg:Prg) {gh:List GObj} {r:PV×List GObj} (h:ac pg f vs gh=some r) :
  ∃n,dG (aw pg n) pg f vs gh=some r:=by
 unfold ac dG at h;cases hp:pg f with
 |none=>simp[hp] at h
 | some df=>
  cases df with
  |lib F=>exact⟨0,by unfold dG;simp only[hp] at h ⊢;exact h⟩
  | code fn=>
   simp only[hp] at h;split at h
   ·rename_i hl
    simp only[aC] at h;obtain⟨r1,h1,h2⟩:=h;obtain⟨n,hn⟩:=(ec _ _ _ _).1 h1;refine⟨n,?_⟩;unfold dG;simp only[hp,if_pos hl,hn,cC,h2]
   ·cases h
theorem zz (pg:Prg) {s s':St} (h:ae (ac pg) s o=some s'):∃n,ae (dG (aw pg n) pg) s o=some s':=by
 have key1:∀d q f vs s',dV (ac pg) s d q f vs=some s'->∃n,dV (dG (aw pg n) pg) s d q f vs=some s':=by
  intro d q f vs s' hd;unfold dV at hd;split at hd
  ·rename_i ha
   cases hc:ac pg f vs s.gh with
   |none=>simp[hc] at hd
   |some r=>
    obtain⟨n,hn⟩:=lz pg hc;refine⟨n,?_⟩;unfold dV;rw[if_pos ha,hn];rw[hc] at hd;exact hd
  ·cases hd
 have key:∀d q f vs,dV (ac pg) s d q f vs=some s'->∃n,dV (dG (aw pg n) pg) s d q f vs=some s':=λd q f vs=>key1 d q f vs s'
 cases o with
 |call d q f xs=>
  simp only[ae,aC] at *;obtain⟨vs,hv,hc⟩:=h;obtain⟨n,hn⟩:=key _ _ _ _ hc;exact⟨n,vs,hv,hn⟩
 | callv d q fv xs=>
  simp only[ae] at *;split at h
  ·simp only[aC] at *
   obtain⟨vs,hv,hc⟩:=h;obtain⟨n,hn⟩:=key _ _ _ _ hc;exact⟨n,vs,hv,hn⟩
  ·simp only[aC] at *
   obtain⟨vs,hv,hc⟩:=h;obtain⟨n,hn⟩:=key _ _ _ _ hc;exact⟨n,vs,hv,hn⟩
  ·cases h
 |callP d f xs ns=>
  simp only[ae,aC] at *;obtain⟨vs,hv,s1,hc,hk⟩:=h;obtain⟨n,hn⟩:=key1 _ _ _ _ _ hc;exact⟨n,vs,hv,s1,hn,hk⟩
 | callR d f xs t o2=>
  simp only[ae,aC] at *;obtain⟨vs,hv,hc⟩:=h;split at hc
  ·rename_i b off hg
   unfold fX at hc;simp only[aC] at hc;obtain⟨s1,h1,g1,h2,g2,h3,r1,h4,r2,h5,h6⟩:=hc;obtain⟨n1,k1⟩:=key1 _ _ _ _ _ h1;obtain⟨n2,k2⟩:=lz pg h4;obtain⟨n3,k3⟩:=lz pg h5;have m1:Le (dG (aw pg n1) pg) (dG (aw pg (max n1 (max n2 n3))) pg):=jP λc s r h=>fl pg (Nat.le_max_left _ _) h
   have m2:Le (dG (aw pg n2) pg) (dG (aw pg (max n1 (max n2 n3))) pg):=jP λc s r h=>fl pg (by omega) h
   have m3:Le (dG (aw pg n3) pg) (dG (aw pg (max n1 (max n2 n3))) pg):=jP λc s r h=>fl pg (by omega) h
   refine⟨max n1 (max n2 n3),vs,hv,?_⟩;unfold fX;simp only[aC];exact⟨s1,kq m1 k1,g1,h2,g2,h3,r1,m2 _ _ _ _ k2,r2,m3 _ _ _ _ k3,h6⟩
  ·cases hc
 | callF d f xs=>
  simp only[ae,aC] at *;obtain⟨vs,hv,hd⟩:=h;unfold ix at hd;split at hd
  ·rename_i ha
   cases hc:ac pg f vs [] with
   |none=>simp[hc] at hd
   |some r=>
    obtain⟨n,hn⟩:=lz pg hc;refine⟨n,vs,hv,?_⟩;unfold ix;rw[if_pos ha,hn];rw[hc] at hd;exact hd
  ·cases hd
 |callE=>simp[ae] at h
 |_=>exact⟨0,h⟩
theorem nc (pg:Prg):∀{l:List IOpG} {s s':St},dF (ac pg) l s=some s'->∃n,dF (dG (aw pg n) pg) l s=some s'
 |[],s,s',h=>⟨0,h⟩
 | o ::l,s,s',h=>by
  have both:∀s s1 s',ae (ac pg) s o.op=some s1->dF (ac pg) l s1=some s'->
    ∃n,ae (dG (aw pg n) pg) s o.op=some s1/\dF (dG (aw pg n) pg) l s1=some s':=by
   intro s s1 s' h1 h2;obtain⟨n,hn⟩:=zz pg h1;obtain⟨m,hm⟩:=nc pg h2
   exact⟨max n m,nb (jP λc s r h=>fl pg (Nat.le_max_left n m) h) hn,
    jO (jP λc s r h=>fl pg (Nat.le_max_right n m) h) hm⟩
  simp only[dF] at *;split at h
  ·simp only[aC] at *
   obtain⟨s1,h1,h2⟩:=h;obtain⟨n,a,b⟩:=both _ _ _ h1 h2;exact⟨n,s1,a,b⟩
  ·split at h
   ·split at h
    ·rename_i hb
     simp only[aC] at h;obtain⟨s1,h1,h2⟩:=h;obtain⟨n,a,b⟩:=both _ _ _ h1 h2;exact⟨n,by rw[if_pos hb,aC];exact⟨s1,a,b⟩⟩
    ·rename_i hb
     obtain⟨n,hn⟩:=nc pg h;exact⟨n,by rw[if_neg hb];exact hn⟩
   ·exact nc pg h
   ·cases h
section
variable (pg:Prg) (s:St)
theorem zA (f:Nat) (vs:List PV) (gh:List GObj):ac pg f vs gh=dG (ab pg) pg f vs gh:=rfl
theorem zC:ab pg .skip s=some (.normal,s):=(ec ..).2 ⟨1,rfl⟩
theorem zD (i:Nat):ab pg (.exit i) s=some (.exit i,s):=(ec ..).2 ⟨1,rfl⟩
theorem zE:ab pg .ret s=some (.ret,s):=(ec ..).2 ⟨1,rfl⟩
theorem zF (ops:List IOpG) (d:Bool):ab pg (.region ops d) s=(dF (ac pg) ops s).map λs'=>(.normal,s'):=by
 refine Option.ext λr=>?_
 rw[ec,aE];constructor
 ·rintro⟨n,hn⟩
  cases n with
  |zero=>simp[aw] at hn
  |succ n=>
   simp only[aw,aE] at hn;obtain⟨s',h1,h2⟩:=hn;exact⟨s',jO (tL pg n) h1,h2⟩
 ·rintro⟨s',h1,h2⟩
  obtain⟨n,hn⟩:=nc pg h1;exact⟨n+1,by simp only[aw,aE];exact⟨s',hn,h2⟩⟩
theorem zG (x:IX) (a b:ICode):ab pg (.cond x a b) s=match ah s.env x with
  |some (.bool true)=>ab pg a s
  |some (.bool false)=>ab pg b s
  |_=>none:=by
 refine Option.ext λr=>?_
 rw[ec];constructor
 ·rintro⟨n,hn⟩
  cases n with
  |zero=>simp[aw] at hn
  |succ n=>
   rw[aw] at hn;split at hn
   ·rename_i hx;rw[hx];exact (ec ..).2 ⟨n,hn⟩
   ·rename_i hx;rw[hx];exact (ec ..).2 ⟨n,hn⟩
   ·cases hn
 ·intro h
  split at h
  ·rename_i hx
   obtain⟨n,hn⟩:=(ec ..).1 h;exact⟨n+1,by rw[aw,hx];exact hn⟩
  ·rename_i hx
   obtain⟨n,hn⟩:=(ec ..).1 h;exact⟨n+1,by rw[aw,hx];exact hn⟩
  ·cases h
theorem zH (a b:ICode):ab pg (.seq a b) s=match ab pg a s with
  |some (.normal,s')=>ab pg b s'
  |r=>r:=by
 refine Option.ext λr=>?_
 rw[ec];constructor
 ·rintro⟨n,hn⟩
  cases n with
  |zero=>simp[aw] at hn
  | succ n=>
   rw[aw] at hn;cases ha:aw pg n a s with
   |none=>simp[ha] at hn
   |some x=>
    rw[(ec ..).2 ⟨n,ha⟩];rw[ha] at hn;obtain⟨e,s'⟩:=x;cases e<;>simp only at * <;>first|exact (ec ..).2 ⟨n,hn⟩|exact hn
 ·intro h
  cases ha:ab pg a s with
  |none=>simp[ha] at h
  | some x=>
   obtain⟨n,hn⟩:=(ec ..).1 ha;rw[ha] at h;obtain⟨e,s'⟩:=x;cases e with
   |normal=>
    obtain⟨m,hm⟩:=(ec ..).1 h;exact⟨max n m+1,by rw[aw,fl pg (Nat.le_max_left n m) hn];exact fl pg (Nat.le_max_right n m) hm⟩
   |exit i=>exact⟨n+1,by rw[aw,hn];exact h⟩
   |ret=>exact⟨n+1,by rw[aw,hn];exact h⟩
theorem pO (a:ICode):ab pg (.loop a) s=match ab pg a s with
  |some (.normal,s')=>ab pg (.loop a) s'
  |r=>r:=by
 refine Option.ext λr=>?_
 rw[ec];constructor
 ·rintro⟨n,hn⟩
  cases n with
  |zero=>simp[aw] at hn
  | succ n=>
   rw[aw] at hn;cases ha:aw pg n a s with
   |none=>simp[ha] at hn
   |some x=>
    rw[(ec ..).2 ⟨n,ha⟩];rw[ha] at hn;obtain⟨e,s'⟩:=x;cases e<;>simp only at * <;>first|exact (ec ..).2 ⟨n,hn⟩|exact hn
 ·intro h
  cases ha:ab pg a s with
  |none=>simp[ha] at h
  | some x=>
   obtain⟨n,hn⟩:=(ec ..).1 ha;rw[ha] at h;obtain⟨e,s'⟩:=x;cases e with
   |normal=>
    obtain⟨m,hm⟩:=(ec ..).1 h;exact⟨max n m+1,by rw[aw,fl pg (Nat.le_max_left n m) hn];exact fl pg (Nat.le_max_right n m) hm⟩
   |exit i=>exact⟨n+1,by rw[aw,hn];exact h⟩
   |ret=>exact⟨n+1,by rw[aw,hn];exact h⟩
theorem lA (id:Nat) (a:ICode):ab pg (.block id a) s=match ab pg a s with
  |some (.exit i,s')=>if i=id then some (.normal,s') else some (.exit i,s')
  |r=>r:=by
 refine Option.ext λr=>?_
 rw[ec];constructor
 ·rintro⟨n,hn⟩
  cases n with
  |zero=>simp[aw] at hn
  |succ n=>
   rw[aw] at hn;cases ha:aw pg n a s with
   |none=>simp[ha] at hn
   |some x=>rw[(ec ..).2 ⟨n,ha⟩];rw[ha] at hn;exact hn
 ·intro h
  cases ha:ab pg a s with
  |none=>simp[ha] at h
  |some x=>
   obtain⟨n,hn⟩:=(ec ..).1 ha;exact⟨n+1,by rw[aw,hn];rw[ha] at h;exact h⟩
theorem lB (a:ICode) (ks:List Nat) (nl:Nat):ab pg (.post a ks nl) s=match ab pg a s with
  |some (.normal,s')=>some (.normal,⟨keep nl ks s'.env,s'.lh.take nl,s'.gh⟩)
  |r=>r:=by
 refine Option.ext λr=>?_
 rw[ec];constructor
 ·rintro⟨n,hn⟩
  cases n with
  |zero=>simp[aw] at hn
  |succ n=>
   rw[aw] at hn;cases ha:aw pg n a s with
   |none=>simp[ha] at hn
   |some x=>rw[(ec ..).2 ⟨n,ha⟩];rw[ha] at hn;exact hn
 ·intro h
  cases ha:ab pg a s with
  |none=>simp[ha] at h
  |some x=>
   obtain⟨n,hn⟩:=(ec ..).1 ha;exact⟨n+1,by rw[aw,hn];rw[ha] at h;exact h⟩
theorem zI (a:ICode):ab pg (.cut a) s=ab pg a s:=by
 refine Option.ext λr=>?_
 rw[ec,ec];constructor
 ·rintro⟨n,hn⟩
  cases n with
  |zero=>simp[aw] at hn
  |succ n=>exact⟨n,hn⟩
 ·rintro⟨n,hn⟩
  exact⟨n+1,hn⟩
end
end
end Go.Lw