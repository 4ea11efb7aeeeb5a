/-
  The texts that the proof stands on, part 2.
-/
import Derived.Test.YtmodipglnngghacDoorTextBackA
set_option linter.unusedVariables false
set_option linter.unusedSimpArgs false
set_option linter.unnecessarySimpa false

/-! What the machine comes to, with no bound on its steps: equations. -/
section
namespace Go.Lw
open Go
open Classical
def Le (cf cf':CallF):Prop:=∀f vs gh r,cf f vs gh=some r→cf' f vs gh=some r
theorem jdo {cf cf':CallF} (h:Le cf cf') {s s':St} {d:Option Nat} {q:Bool} {f:Nat} {vs:List PV} (hh:doCall cf s d q f vs=some s') :
  doCall cf' s d q f vs=some s':=by
 unfold doCall at *
 split at hh
 ·rename_i ha
  rw[if_pos ha]
  cases hc:cf f vs s.gh with
  |none=>simp[hc] at hh
  |some r=>rw[h _ _ _ _ hc];rw[hc] at hh;exact hh
 ·cases hh
theorem jcl {cf cf':CallF} (h:Le cf cf') {s s':St} {o:IOp} (hh:opStep cf s o=some s'):opStep cf' s o=some s':=by
 cases o with
 |call d q f xs=>
  simp only[opStep,Option.bind_eq_some_iff] at *
  obtain⟨vs,hv,hc⟩:=hh
  exact⟨vs,hv,jdo h hc⟩
 | callv d q fv xs=>
  simp only[opStep] at *
  split at hh
  ·simp only[Option.bind_eq_some_iff] at *
   obtain⟨vs,hv,hc⟩:=hh
   exact⟨vs,hv,jdo h hc⟩
  ·simp only[Option.bind_eq_some_iff] at *
   obtain⟨vs,hv,hc⟩:=hh
   exact⟨vs,hv,jdo h hc⟩
  ·cases hh
 |callP=>simp[opStep] at hh
 |callR=>simp[opStep] at hh
 |callF=>simp[opStep] at hh
 |callE=>simp[opStep] at hh
 |_=>exact hh
theorem jbg {cf cf':CallF} (h:Le cf cf'):∀{l:List IOpG} {s s':St},opsRun cf l s=some s'→opsRun cf' l s=some s'
 |[],s,s',hh=>hh
 | o ::l,s,s',hh=>by
  simp only[opsRun] at *
  split at hh
  ·simp only[Option.bind_eq_some_iff] at *
   obtain⟨s1,h1,h2⟩:=hh
   exact⟨s1,jcl h h1,jbg h h2⟩
  ·split at hh
   ·split at hh
    ·rename_i hb
     simp only[hb,if_true,Option.bind_eq_some_iff] at *
     obtain⟨s1,h1,h2⟩:=hh
     exact⟨s1,jcl h h1,jbg h h2⟩
    ·rename_i hb
     rw[if_neg hb];exact jbg h hh
   ·exact jbg h hh
   ·cases hh
theorem jcm {run run':ICode→St→Option (IExit×St)} {pg:Prg} (h:∀c s r,run c s=some r→run' c s=some r):Le (callBy run pg) (callBy run' pg):=by
 intro f vs gh r hh
 unfold callBy at *
 cases hp:pg f with
 |none=>simp[hp] at hh
 | some df=>
  cases df with
  |lib F=>simp only[hp] at *;exact hh
  | code fn=>
   simp only[hp] at *
   split at hh
   ·rename_i hl
    rw[if_pos hl]
    simp only[Option.bind_eq_some_iff] at *
    obtain⟨r1,h1,h2⟩:=hh
    exact⟨r1,h _ _ _ h1,h2⟩
   ·cases hh
theorem jiy (pg:Prg):∀(n:Nat) (c:ICode) (s:St) (r:IExit×St),irun pg n c s=some r→irun pg (n+1) c s=some r:=by
 intro n
 induction n with
 |zero=>intro c s r h;simp[irun] at h
 | succ n ih=>
  intro c s r h
  cases c with
  |skip=>simpa [irun] using h
  |region ops d=>
   simp only[irun,Option.map_eq_some_iff] at *
   obtain⟨s',h1,h2⟩:=h
   exact⟨s',jbg (jcm ih) h1,h2⟩
  | seq a b=>
   rw[irun] at h ⊢
   cases ha:irun pg n a s with
   |none=>simp[ha] at h
   |some x=>
    rw[ih _ _ _ ha];rw[ha] at h
    obtain⟨e,s'⟩:=x
    cases e<;>simp only at * <;>first|exact ih _ _ _ h|exact h
  |cond x a b=>
   rw[irun] at h ⊢
   split at h
   ·exact ih _ _ _ h
   ·exact ih _ _ _ h
   ·cases h
  |block id a=>
   rw[irun] at h ⊢
   cases ha:irun pg n a s with
   |none=>simp[ha] at h
   |some x=>rw[ih _ _ _ ha];rw[ha] at h;exact h
  | loop a=>
   rw[irun] at h ⊢
   cases ha:irun pg n a s with
   |none=>simp[ha] at h
   |some x=>
    rw[ih _ _ _ ha];rw[ha] at h
    obtain⟨e,s'⟩:=x
    cases e<;>simp only at * <;>first|exact ih _ _ _ h|exact h
  |exit i=>simpa [irun] using h
  |ret=>simpa [irun] using h
  |post a ks nl=>
   rw[irun] at h ⊢
   cases ha:irun pg n a s with
   |none=>simp[ha] at h
   |some x=>rw[ih _ _ _ ha];rw[ha] at h;exact h
  |cut a=>rw[irun] at h ⊢;exact ih _ _ _ h
  |bad=>simp[irun] at h
theorem jb6 (pg:Prg) {n m:Nat} (h:n≤m) {c:ICode} {s:St} {r:IExit×St} (hr:irun pg n c s=some r):irun pg m c s=some r:=by
 induction h with
 |refl=>exact hr
 |step _ ih=>exact jiy pg _ _ _ _ ih
noncomputable def runL (pg:Prg) (c:ICode) (s:St):Option (IExit×St):=
 if h:∃r n,irun pg n c s=some r then some h.choose else none
theorem jar (pg:Prg) (c:ICode) (s:St) (r:IExit×St):runL pg c s=some r↔∃n,irun pg n c s=some r:=by
 unfold runL
 constructor
 ·intro h
  split at h
  ·rename_i hx
   obtain⟨n,hn⟩:=hx.choose_spec
   cases h
   exact⟨n,hn⟩
  ·cases h
 ·rintro⟨n,hn⟩
  have hx:∃r n,irun pg n c s=some r:=⟨r,n,hn⟩
  rw[dif_pos hx]
  obtain⟨m,hm⟩:=hx.choose_spec
  have h1:=jb6 pg (Nat.le_max_left n m) hn
  have h2:=jb6 pg (Nat.le_max_right n m) hm
  rw[h1] at h2
  exact h2.symm
noncomputable def callL (pg:Prg):CallF:=callBy (runL pg) pg
theorem jfb (pg:Prg) (n:Nat):Le (callBy (irun pg n) pg) (callL pg):=
 jcm fun c s r h=>(jar pg c s r).2 ⟨n,h⟩
theorem jfc (pg:Prg) {f:Nat} {vs:List PV} {gh:List GObj} {r:PV×List GObj} (h:callL pg f vs gh=some r) :
  ∃n,callBy (irun pg n) pg f vs gh=some r:=by
 unfold callL callBy at h
 cases hp:pg f with
 |none=>simp[hp] at h
 | some df=>
  cases df with
  |lib F=>exact⟨0,by unfold callBy;simp only[hp] at h ⊢;exact h⟩
  | code fn=>
   simp only[hp] at h
   split at h
   ·rename_i hl
    simp only[Option.bind_eq_some_iff] at h
    obtain⟨r1,h1,h2⟩:=h
    obtain⟨n,hn⟩:=(jar _ _ _ _).1 h1
    refine⟨n,?_⟩
    unfold callBy
    simp only[hp,if_pos hl,hn,Option.bind_some,h2]
   ·cases h
theorem jiz (pg:Prg) {s s':St} {o:IOp} (h:opStep (callL pg) s o=some s'):∃n,opStep (callBy (irun pg n) pg) s o=some s':=by
 have key1:∀d q f vs s',doCall (callL pg) s d q f vs=some s'→∃n,doCall (callBy (irun pg n) pg) s d q f vs=some s':=by
  intro d q f vs s' hd
  unfold doCall at hd
  split at hd
  ·rename_i ha
   cases hc:callL pg f vs s.gh with
   |none=>simp[hc] at hd
   |some r=>
    obtain⟨n,hn⟩:=jfc pg hc
    refine⟨n,?_⟩
    unfold doCall
    rw[if_pos ha,hn];rw[hc] at hd;exact hd
  ·cases hd
 have key:∀d q f vs,doCall (callL pg) s d q f vs=some s'→∃n,doCall (callBy (irun pg n) pg) s d q f vs=some s':=fun d q f vs=>key1 d q f vs s'
 cases o with
 |call d q f xs=>
  simp only[opStep,Option.bind_eq_some_iff] at *
  obtain⟨vs,hv,hc⟩:=h
  obtain⟨n,hn⟩:=key _ _ _ _ hc
  exact⟨n,vs,hv,hn⟩
 | callv d q fv xs=>
  simp only[opStep] at *
  split at h
  ·simp only[Option.bind_eq_some_iff] at *
   obtain⟨vs,hv,hc⟩:=h
   obtain⟨n,hn⟩:=key _ _ _ _ hc
   exact⟨n,vs,hv,hn⟩
  ·simp only[Option.bind_eq_some_iff] at *
   obtain⟨vs,hv,hc⟩:=h
   obtain⟨n,hn⟩:=key _ _ _ _ hc
   exact⟨n,vs,hv,hn⟩
  ·cases h
 |callP=>simp[opStep] at h
 |callR=>simp[opStep] at h
 |callF=>simp[opStep] at h
 |callE=>simp[opStep] at h
 |_=>exact⟨0,h⟩
theorem jcn (pg:Prg):∀{l:List IOpG} {s s':St},opsRun (callL pg) l s=some s'→∃n,opsRun (callBy (irun pg n) pg) l s=some s'
 |[],s,s',h=>⟨0,h⟩
 | o ::l,s,s',h=>by
  have both:∀s s1 s',opStep (callL pg) s o.op=some s1→opsRun (callL pg) l s1=some s'→
    ∃n,opStep (callBy (irun pg n) pg) s o.op=some s1∧opsRun (callBy (irun pg n) pg) l s1=some s':=by
   intro s s1 s' h1 h2
   obtain⟨n,hn⟩:=jiz pg h1
   obtain⟨m,hm⟩:=jcn pg h2
   exact⟨max n m,jcl (jcm fun c s r h=>jb6 pg (Nat.le_max_left n m) h) hn,
    jbg (jcm fun c s r h=>jb6 pg (Nat.le_max_right n m) h) hm⟩
  simp only[opsRun] at *
  split at h
  ·simp only[Option.bind_eq_some_iff] at *
   obtain⟨s1,h1,h2⟩:=h
   obtain⟨n,a,b⟩:=both _ _ _ h1 h2
   exact⟨n,s1,a,b⟩
  ·split at h
   ·split at h
    ·rename_i hb
     simp only[Option.bind_eq_some_iff] at h
     obtain⟨s1,h1,h2⟩:=h
     obtain⟨n,a,b⟩:=both _ _ _ h1 h2
     exact⟨n,by rw[if_pos hb,Option.bind_eq_some_iff];exact⟨s1,a,b⟩⟩
    ·rename_i hb
     obtain⟨n,hn⟩:=jcn pg h
     exact⟨n,by rw[if_neg hb];exact hn⟩
   ·exact jcn pg h
   ·cases h
section
variable (pg:Prg) (s:St)
theorem jj0 (f:Nat) (vs:List PV) (gh:List GObj):callL pg f vs gh=callBy (runL pg) pg f vs gh:=rfl
theorem jj1:runL pg .skip s=some (.normal,s):=(jar ..).2 ⟨1,rfl⟩
theorem jj2 (i:Nat):runL pg (.exit i) s=some (.exit i,s):=(jar ..).2 ⟨1,rfl⟩
theorem jj3:runL pg .ret s=some (.ret,s):=(jar ..).2 ⟨1,rfl⟩
theorem jj4 (ops:List IOpG) (d:Bool):runL pg (.region ops d) s=(opsRun (callL pg) ops s).map fun s'=>(.normal,s'):=by
 refine Option.ext fun r=>?_
 rw[jar,Option.map_eq_some_iff]
 constructor
 ·rintro⟨n,hn⟩
  cases n with
  |zero=>simp[irun] at hn
  |succ n=>
   simp only[irun,Option.map_eq_some_iff] at hn
   obtain⟨s',h1,h2⟩:=hn
   exact⟨s',jbg (jfb pg n) h1,h2⟩
 ·rintro⟨s',h1,h2⟩
  obtain⟨n,hn⟩:=jcn pg h1
  exact⟨n+1,by simp only[irun,Option.map_eq_some_iff];exact⟨s',hn,h2⟩⟩
theorem jj5 (x:IX) (a b:ICode):runL pg (.cond x a b) s=match evalX s.env x with
  |some (.bool true)=>runL pg a s
  |some (.bool false)=>runL pg b s
  |_=>none:=by
 refine Option.ext fun r=>?_
 rw[jar]
 constructor
 ·rintro⟨n,hn⟩
  cases n with
  |zero=>simp[irun] at hn
  |succ n=>
   rw[irun] at hn
   split at hn
   ·rename_i hx;rw[hx];exact (jar ..).2 ⟨n,hn⟩
   ·rename_i hx;rw[hx];exact (jar ..).2 ⟨n,hn⟩
   ·cases hn
 ·intro h
  split at h
  ·rename_i hx
   obtain⟨n,hn⟩:=(jar ..).1 h
   exact⟨n+1,by rw[irun,hx];exact hn⟩
  ·rename_i hx
   obtain⟨n,hn⟩:=(jar ..).1 h
   exact⟨n+1,by rw[irun,hx];exact hn⟩
  ·cases h
theorem jj6 (a b:ICode):runL pg (.seq a b) s=match runL pg a s with
  |some (.normal,s')=>runL pg b s'
  |r=>r:=by
 refine Option.ext fun r=>?_
 rw[jar]
 constructor
 ·rintro⟨n,hn⟩
  cases n with
  |zero=>simp[irun] at hn
  | succ n=>
   rw[irun] at hn
   cases ha:irun pg n a s with
   |none=>simp[ha] at hn
   |some x=>
    rw[(jar ..).2 ⟨n,ha⟩]
    rw[ha] at hn
    obtain⟨e,s'⟩:=x
    cases e<;>simp only at * <;>first|exact (jar ..).2 ⟨n,hn⟩|exact hn
 ·intro h
  cases ha:runL pg a s with
  |none=>simp[ha] at h
  | some x=>
   obtain⟨n,hn⟩:=(jar ..).1 ha
   rw[ha] at h
   obtain⟨e,s'⟩:=x
   cases e with
   |normal=>
    obtain⟨m,hm⟩:=(jar ..).1 h
    exact⟨max n m+1,by rw[irun,jb6 pg (Nat.le_max_left n m) hn];exact jb6 pg (Nat.le_max_right n m) hm⟩
   |exit i=>exact⟨n+1,by rw[irun,hn];exact h⟩
   |ret=>exact⟨n+1,by rw[irun,hn];exact h⟩
theorem jdp (a:ICode):runL pg (.loop a) s=match runL pg a s with
  |some (.normal,s')=>runL pg (.loop a) s'
  |r=>r:=by
 refine Option.ext fun r=>?_
 rw[jar]
 constructor
 ·rintro⟨n,hn⟩
  cases n with
  |zero=>simp[irun] at hn
  | succ n=>
   rw[irun] at hn
   cases ha:irun pg n a s with
   |none=>simp[ha] at hn
   |some x=>
    rw[(jar ..).2 ⟨n,ha⟩]
    rw[ha] at hn
    obtain⟨e,s'⟩:=x
    cases e<;>simp only at * <;>first|exact (jar ..).2 ⟨n,hn⟩|exact hn
 ·intro h
  cases ha:runL pg a s with
  |none=>simp[ha] at h
  | some x=>
   obtain⟨n,hn⟩:=(jar ..).1 ha
   rw[ha] at h
   obtain⟨e,s'⟩:=x
   cases e with
   |normal=>
    obtain⟨m,hm⟩:=(jar ..).1 h
    exact⟨max n m+1,by rw[irun,jb6 pg (Nat.le_max_left n m) hn];exact jb6 pg (Nat.le_max_right n m) hm⟩
   |exit i=>exact⟨n+1,by rw[irun,hn];exact h⟩
   |ret=>exact⟨n+1,by rw[irun,hn];exact h⟩
theorem jbz (id:Nat) (a:ICode):runL pg (.block id a) s=match runL pg a s with
  |some (.exit i,s')=>if i=id then some (.normal,s') else some (.exit i,s')
  |r=>r:=by
 refine Option.ext fun r=>?_
 rw[jar]
 constructor
 ·rintro⟨n,hn⟩
  cases n with
  |zero=>simp[irun] at hn
  |succ n=>
   rw[irun] at hn
   cases ha:irun pg n a s with
   |none=>simp[ha] at hn
   |some x=>rw[(jar ..).2 ⟨n,ha⟩];rw[ha] at hn;exact hn
 ·intro h
  cases ha:runL pg a s with
  |none=>simp[ha] at h
  |some x=>
   obtain⟨n,hn⟩:=(jar ..).1 ha
   exact⟨n+1,by rw[irun,hn];rw[ha] at h;exact h⟩
theorem jc0 (a:ICode) (ks:List Nat) (nl:Nat):runL pg (.post a ks nl) s=match runL pg a s with
  |some (.normal,s')=>some (.normal,⟨keep nl ks s'.env,s'.lh.take nl,s'.gh⟩)
  |r=>r:=by
 refine Option.ext fun r=>?_
 rw[jar]
 constructor
 ·rintro⟨n,hn⟩
  cases n with
  |zero=>simp[irun] at hn
  |succ n=>
   rw[irun] at hn
   cases ha:irun pg n a s with
   |none=>simp[ha] at hn
   |some x=>rw[(jar ..).2 ⟨n,ha⟩];rw[ha] at hn;exact hn
 ·intro h
  cases ha:runL pg a s with
  |none=>simp[ha] at h
  |some x=>
   obtain⟨n,hn⟩:=(jar ..).1 ha
   exact⟨n+1,by rw[irun,hn];rw[ha] at h;exact h⟩
theorem jj7 (a:ICode):runL pg (.cut a) s=runL pg a s:=by
 refine Option.ext fun r=>?_
 rw[jar,jar]
 constructor
 ·rintro⟨n,hn⟩
  cases n with
  |zero=>simp[irun] at hn
  |succ n=>exact⟨n,hn⟩
 ·rintro⟨n,hn⟩
  exact⟨n+1,hn⟩
end
end Go.Lw
end
