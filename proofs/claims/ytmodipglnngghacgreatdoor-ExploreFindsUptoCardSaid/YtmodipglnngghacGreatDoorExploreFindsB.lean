/-
  The texts that the proof stands on, part 2.
-/
import Derived.Test.YtmodipglnngghacGreatDoorExploreFindsA
set_option linter.unusedVariables false
set_option linter.unusedSimpArgs false
set_option linter.unnecessarySimpa false

set_option maxRecDepth 100000
set_option maxHeartbeats 4000000
namespace Go.Lw
open Go
section
open Classical
def Le (cf cf':CallF):Prop:=∀f vs gh r,cf f vs gh=some r->cf' f vs gh=some r
theorem lR {cf cf':CallF} (h:Le cf cf') {s s':St} {d:Option Nat} {q:Bool} {f:Nat} {vs:List PV} (hh:dF cf s d q f vs=some s') :
  dF cf' s d q f vs=some s':=by
 unfold dF at *;split at hh
 ·rename_i ha
  rw[if_pos ha];cases hc:cf f vs s.gh with
  |none=>simp[hc] at hh
  |some r=>rw[h _ _ _ _ hc];rw[hc] at hh;exact hh
 ·cases hh
theorem uh {cf cf':CallF} (h:Le cf cf') {s s':St} {d:Option Nat} {b:Nat} {vs:List PV} (hh:doY cf s d b vs=some s'):doY cf' s d b vs=some s':=by
 unfold doY at *;split at hh
 ·split at hh
  ·rename_i ha
   rw[if_pos ha];split at hh
   ·rename_i hc;rw[h _ _ _ _ hc];exact hh
   ·cases hh
  ·cases hh
 ·cases hh
theorem oH {cf cf':CallF} (h:Le cf cf') {s s':St} {g:IX} {y:Nat} {ks:List Nat} (hh:fc cf s g y ks=some s'):fc cf' s g y ks=some s':=by
 unfold fc at *;split at hh
 ·simp only[aC] at *
  obtain⟨vs,hv,hh⟩:=hh;refine⟨vs,hv,?_⟩;split at hh
  ·rename_i ha
   rw[if_pos ha];split at hh
   ·rename_i hc;rw[h _ _ _ _ hc];exact hh
   ·cases hh
  ·cases hh
 ·cases hh
theorem kg {cf cf':CallF} (h:Le cf cf') {s s':St} {o:IOp} (hh:ae cf s o=some s'):ae cf' s o=some s':=by
 cases o with
 |call d q f xs=>
  simp only[ae,aC] at *;obtain⟨vs,hv,hc⟩:=hh;exact⟨vs,hv,lR h hc⟩
 | callv d q fv xs=>
  simp only[ae] at *;split at hh
  ·simp only[aC] at *
   obtain⟨vs,hv,hc⟩:=hh;exact⟨vs,hv,lR h hc⟩
  ·simp only[aC] at *
   obtain⟨vs,hv,hc⟩:=hh;exact⟨vs,hv,lR h hc⟩
  ·cases hh
 |callP=>simp[ae] at hh
 |callR=>simp[ae] at hh
 |callF=>simp[ae] at hh
 |callE=>simp[ae] at hh
 | cally d x xs=>
  simp only[ae] at *;split at hh
  ·simp only[aC] at *
   obtain⟨vs,hv,hc⟩:=hh;exact⟨vs,hv,uh h hc⟩
  ·cases hh
 |_=>exact hh
theorem ii {cf cf':CallF} (h:Le cf cf'):∀{l:List IOpG} {s s':St},cw cf l s=some s'->cw cf' l s=some s'
 |[],s,s',hh=>hh
 | o ::l,s,s',hh=>by
  simp only[cw] at *;split at hh
  ·simp only[aC] at *
   obtain⟨s1,h1,h2⟩:=hh;exact⟨s1,kg h h1,ii h h2⟩
  ·split at hh
   ·split at hh
    ·rename_i hb
     simp only[hb,if_true,aC] at *;obtain⟨s1,h1,h2⟩:=hh;exact⟨s1,kg h h1,ii h h2⟩
    ·rename_i hb
     rw[if_neg hb];exact ii h hh
   ·exact ii h hh
   ·cases hh
theorem ui {run run':ICode->St->Option (ag×St)} (h:∀c s r,run c s=some r->run' c s=some r) {Y:IYl} {y:Nat} {vs:List PV} {gh:List GObj} {r:PV×List GObj} (hh:gG run Y y vs gh=some r):gG run' Y y vs gh=some r:=by
 unfold gG at *;split at hh
 ·split at hh
  ·rename_i hl
   rw[if_pos hl];split at hh
   ·rename_i s1 h1
    simp only[h _ _ _ h1];split at hh
    ·rename_i hg1
     rw[if_pos hg1];split at hh
     ·rename_i s2 h2
      simp only[h _ _ _ h2];exact hh
     ·cases hh
    ·cases hh
   ·cases hh
  ·cases hh
 ·cases hh
theorem jw {run run':ICode->St->Option (ag×St)} {pg:Prg} (h:∀c s r,run c s=some r->run' c s=some r):Le (cV run pg) (cV run' pg):=by
 intro f vs gh r hh;unfold cV at *;cases hp:pg f with
 |none=>simp[hp] at hh
 | some df=>
  cases df with
  |lib F=>simp only[hp] at *;exact hh
  |yl Y=>simp only[hp] at *;exact ui h hh
  | code fn=>
   simp only[hp] at *;split at hh
   ·rename_i hl
    rw[if_pos hl];simp only[aC] at *;obtain⟨r1,h1,h2⟩:=hh;exact⟨r1,h _ _ _ h1,h2⟩
   ·cases hh
theorem uj (pg:Prg):∀(n:Nat) (c:ICode) (s:St) (r:ag×St),ak pg n c s=some r->ak pg (n+1) c s=some r:=by
 intro n
 induction n with
 |zero=>intro c s r h;simp[ak] at h
 | succ n ih=>
  intro c s r h;cases c with
  |skip=>simpa [ak] using h
  |region ops d=>
   simp only[ak,aE] at *;obtain⟨s',h1,h2⟩:=h;exact⟨s',ii (jw ih) h1,h2⟩
  | seq a b=>
   rw[ak] at h ⊢;cases ha:ak pg n a s with
   |none=>simp[ha] at h
   |some x=>
    rw[ih _ _ _ ha];rw[ha] at h;obtain⟨e,s'⟩:=x;cases e<;>simp only at * <;>first|exact ih _ _ _ h|exact h
  |cond x a b=>
   rw[ak] at h ⊢;split at h
   ·exact ih _ _ _ h
   ·exact ih _ _ _ h
   ·cases h
  |block id a=>
   rw[ak] at h ⊢;cases ha:ak pg n a s with
   |none=>simp[ha] at h
   |some x=>rw[ih _ _ _ ha];rw[ha] at h;exact h
  | loop a=>
   rw[ak] at h ⊢;cases ha:ak pg n a s with
   |none=>simp[ha] at h
   |some x=>
    rw[ih _ _ _ ha];rw[ha] at h;obtain⟨e,s'⟩:=x;cases e<;>simp only at * <;>first|exact ih _ _ _ h|exact h
  |exit i=>simpa [ak] using h
  |ret=>simpa [ak] using h
  |post a ks nl=>
   rw[ak] at h ⊢;cases ha:ak pg n a s with
   |none=>simp[ha] at h
   |some x=>rw[ih _ _ _ ha];rw[ha] at h;exact h
  |lift a ks t=>
   rw[ak] at h ⊢;cases ha:ak pg n a s with
   |none=>simp[ha] at h
   |some x=>rw[ih _ _ _ ha];rw[ha] at h;exact h
  |cut a=>rw[ak] at h ⊢;exact ih _ _ _ h
  |rangeF g y ks=>
   simp only[ak,aE] at *;obtain⟨s',h1,h2⟩:=h;exact⟨s',oH (jw ih) h1,h2⟩
  |bad=>simp[ak] at h
theorem fw (pg:Prg) {n m:Nat} (h:n<=m) {c:ICode} {s:St} {r:ag×St} (hr:ak pg n c s=some r):ak pg m c s=some r:=by
 induction h with
 |refl=>exact hr
 |step _ ih=>exact uj pg _ _ _ _ ih
noncomputable def ac (pg:Prg) (c:ICode) (s:St):Option (ag×St):=
 if h:∃r n,ak pg n c s=some r then some h.choose else none
theorem cq (pg:Prg) (c:ICode) (s:St) (r:ag×St):ac pg c s=some r↔∃n,ak pg n c s=some r:=by
 unfold ac;constructor
 ·intro h
  split at h
  ·rename_i hx
   obtain⟨n,hn⟩:=hx.choose_spec;cases h;exact⟨n,hn⟩
  ·cases h
 ·rintro⟨n,hn⟩
  have hx:∃r n,ak pg n c s=some r:=⟨r,n,hn⟩
  rw[dif_pos hx];obtain⟨m,hm⟩:=hx.choose_spec;have h1:=fw pg (Nat.le_max_left n m) hn;have h2:=fw pg (Nat.le_max_right n m) hm;rw[h1] at h2;exact h2.symm
noncomputable def af (pg:Prg):CallF:=cV (ac pg) pg
theorem lS (pg:Prg) (n:Nat):Le (cV (ak pg n) pg) (af pg):=
 jw λc s r h=>(cq pg c s r).2 ⟨n,h⟩
theorem kh (pg:Prg) {f:Nat} {vs:List PV} {gh:List GObj} {r:PV×List GObj} (h:af pg f vs gh=some r) :
  ∃n,cV (ak pg n) pg f vs gh=some r:=by
 unfold af cV at h;cases hp:pg f with
 |none=>simp[hp] at h
 | some df=>
  cases df with
  |lib F=>exact⟨0,by unfold cV;simp only[hp] at h ⊢;exact h⟩
  | yl Y=>
   simp only[hp] at h;unfold gG at h;split at h
   ·rename_i b hb
    split at h
    ·rename_i hl
     split at h
     ·rename_i s1 h1
      split at h
      ·rename_i hg1
       split at h
       ·rename_i s2 h2
        obtain⟨n1,hn1⟩:=(cq _ _ _ _).1 h1;obtain⟨n2,hn2⟩:=(cq _ _ _ _).1 h2;refine⟨max n1 n2,?_⟩;unfold cV;simp only[hp];unfold gG;simp only[hb,if_pos hl,fw pg (Nat.le_max_left n1 n2) hn1,if_pos hg1,fw pg (Nat.le_max_right n1 n2) hn2];exact h
       ·cases h
      ·cases h
     ·cases h
    ·cases h
   ·cases h
  | code fn=>
   simp only[hp] at h;split at h
   ·rename_i hl
    simp only[aC] at h;obtain⟨r1,h1,h2⟩:=h;obtain⟨n,hn⟩:=(cq _ _ _ _).1 h1;refine⟨n,?_⟩;unfold cV;simp only[hp,if_pos hl,hn,cC,h2]
   ·cases h
theorem uk (pg:Prg) {s s':St} {d:Option Nat} {b:Nat} {vs:List PV} (h:doY (af pg) s d b vs=some s'):∃n,doY (cV (ak pg n) pg) s d b vs=some s':=by
 unfold doY at h;split at h
 ·rename_i y caps hb
  split at h
  ·rename_i ha
   split at h
   ·rename_i gh' hc
    obtain⟨n,hn⟩:=kh pg hc;refine⟨n,?_⟩;unfold doY;simp only[hb,if_pos ha,hn];exact h
   ·cases h
  ·cases h
 ·cases h
theorem ul (pg:Prg) {s s':St} {g:IX} {y:Nat} {ks:List Nat} (h:fc (af pg) s g y ks=some s'):∃n,fc (cV (ak pg n) pg) s g y ks=some s':=by
 unfold fc at h;split at h
 ·rename_i F caps hg
  simp only[aC] at h;obtain⟨vs,hv,h⟩:=h;split at h
  ·rename_i ha
   split at h
   ·rename_i gh' hc
    obtain⟨n,hn⟩:=kh pg hc;refine⟨n,?_⟩;unfold fc;simp only[hg,hv,cC,if_pos ha,hn];exact h
   ·cases h
  ·cases h
 ·cases h
theorem um (pg:Prg) {s s':St} {o:IOp} (h:ae (af pg) s o=some s'):∃n,ae (cV (ak pg n) pg) s o=some s':=by
 have key1:∀d q f vs s',dF (af pg) s d q f vs=some s'->∃n,dF (cV (ak pg n) pg) s d q f vs=some s':=by
  intro d q f vs s' hd;unfold dF at hd;split at hd
  ·rename_i ha
   cases hc:af pg f vs s.gh with
   |none=>simp[hc] at hd
   |some r=>
    obtain⟨n,hn⟩:=kh pg hc;refine⟨n,?_⟩;unfold dF;rw[if_pos ha,hn];rw[hc] at hd;exact hd
  ·cases hd
 have key:∀d q f vs,dF (af pg) s d q f vs=some s'->∃n,dF (cV (ak pg n) pg) s d q f vs=some s':=λd q f vs=>key1 d q f vs s'
 cases o with
 |call d q f xs=>
  simp only[ae,aC] at *;obtain⟨vs,hv,hc⟩:=h;obtain⟨n,hn⟩:=key _ _ _ _ hc;exact⟨n,vs,hv,hn⟩
 | callv d q fv xs=>
  simp only[ae] at *;split at h
  ·simp only[aC] at *
   obtain⟨vs,hv,hc⟩:=h;obtain⟨n,hn⟩:=key _ _ _ _ hc;exact⟨n,vs,hv,hn⟩
  ·simp only[aC] at *
   obtain⟨vs,hv,hc⟩:=h;obtain⟨n,hn⟩:=key _ _ _ _ hc;exact⟨n,vs,hv,hn⟩
  ·cases h
 |callP=>simp[ae] at h
 |callR=>simp[ae] at h
 |callF=>simp[ae] at h
 |callE=>simp[ae] at h
 | cally d x xs=>
  simp only[ae] at *;split at h
  ·simp only[aC] at *
   obtain⟨vs,hv,hd⟩:=h;obtain⟨n,hn⟩:=uk pg hd;exact⟨n,vs,hv,hn⟩
  ·cases h
 |_=>exact⟨0,h⟩
theorem ki (pg:Prg):∀{l:List IOpG} {s s':St},cw (af pg) l s=some s'->∃n,cw (cV (ak pg n) pg) l s=some s'
 |[],s,s',h=>⟨0,h⟩
 | o ::l,s,s',h=>by
  have both:∀s s1 s',ae (af pg) s o.op=some s1->cw (af pg) l s1=some s'->
    ∃n,ae (cV (ak pg n) pg) s o.op=some s1/\cw (cV (ak pg n) pg) l s1=some s':=by
   intro s s1 s' h1 h2;obtain⟨n,hn⟩:=um pg h1;obtain⟨m,hm⟩:=ki pg h2
   exact⟨max n m,kg (jw λc s r h=>fw pg (Nat.le_max_left n m) h) hn,
    ii (jw λc s r h=>fw pg (Nat.le_max_right n m) h) hm⟩
  simp only[cw] at *;split at h
  ·simp only[aC] at *
   obtain⟨s1,h1,h2⟩:=h;obtain⟨n,a,b⟩:=both _ _ _ h1 h2;exact⟨n,s1,a,b⟩
  ·split at h
   ·split at h
    ·rename_i hb
     simp only[aC] at h;obtain⟨s1,h1,h2⟩:=h;obtain⟨n,a,b⟩:=both _ _ _ h1 h2;exact⟨n,by rw[if_pos hb,aC];exact⟨s1,a,b⟩⟩
    ·rename_i hb
     obtain⟨n,hn⟩:=ki pg h;exact⟨n,by rw[if_neg hb];exact hn⟩
   ·exact ki pg h
   ·cases h
section
variable (pg:Prg) (s:St)
theorem oI (f:Nat) (vs:List PV) (gh:List GObj):af pg f vs gh=cV (ac pg) pg f vs gh:=rfl
theorem uo:ac pg .skip s=some (.normal,s):=(cq ..).2 ⟨1,rfl⟩
theorem up (i:Nat):ac pg (.exit i) s=some (.exit i,s):=(cq ..).2 ⟨1,rfl⟩
theorem uq:ac pg .ret s=some (.ret,s):=(cq ..).2 ⟨1,rfl⟩
theorem ur (ops:List IOpG) (d:Bool):ac pg (.region ops d) s=(cw (af pg) ops s).map λs'=>(.normal,s'):=by
 refine Option.ext λr=>?_
 rw[cq,aE];constructor
 ·rintro⟨n,hn⟩
  cases n with
  |zero=>simp[ak] at hn
  |succ n=>
   simp only[ak,aE] at hn;obtain⟨s',h1,h2⟩:=hn;exact⟨s',ii (lS pg n) h1,h2⟩
 ·rintro⟨s',h1,h2⟩
  obtain⟨n,hn⟩:=ki pg h1;exact⟨n+1,by simp only[ak,aE];exact⟨s',hn,h2⟩⟩
theorem ut (x:IX) (a b:ICode):ac pg (.cond x a b) s=match ai s.env x with
  |some (.bool true)=>ac pg a s
  |some (.bool false)=>ac pg b s
  |_=>none:=by
 refine Option.ext λr=>?_
 rw[cq];constructor
 ·rintro⟨n,hn⟩
  cases n with
  |zero=>simp[ak] at hn
  |succ n=>
   rw[ak] at hn;split at hn
   ·rename_i hx;rw[hx];exact (cq ..).2 ⟨n,hn⟩
   ·rename_i hx;rw[hx];exact (cq ..).2 ⟨n,hn⟩
   ·cases hn
 ·intro h
  split at h
  ·rename_i hx
   obtain⟨n,hn⟩:=(cq ..).1 h;exact⟨n+1,by rw[ak,hx];exact hn⟩
  ·rename_i hx
   obtain⟨n,hn⟩:=(cq ..).1 h;exact⟨n+1,by rw[ak,hx];exact hn⟩
  ·cases h
theorem uu (a b:ICode):ac pg (.seq a b) s=match ac pg a s with
  |some (.normal,s')=>ac pg b s'
  |r=>r:=by
 refine Option.ext λr=>?_
 rw[cq];constructor
 ·rintro⟨n,hn⟩
  cases n with
  |zero=>simp[ak] at hn
  | succ n=>
   rw[ak] at hn;cases ha:ak pg n a s with
   |none=>simp[ha] at hn
   |some x=>
    rw[(cq ..).2 ⟨n,ha⟩];rw[ha] at hn;obtain⟨e,s'⟩:=x;cases e<;>simp only at * <;>first|exact (cq ..).2 ⟨n,hn⟩|exact hn
 ·intro h
  cases ha:ac pg a s with
  |none=>simp[ha] at h
  | some x=>
   obtain⟨n,hn⟩:=(cq ..).1 ha;rw[ha] at h;obtain⟨e,s'⟩:=x;cases e with
   |normal=>
    obtain⟨m,hm⟩:=(cq ..).1 h;exact⟨max n m+1,by rw[ak,fw pg (Nat.le_max_left n m) hn];exact fw pg (Nat.le_max_right n m) hm⟩
   |exit i=>exact⟨n+1,by rw[ak,hn];exact h⟩
   |ret=>exact⟨n+1,by rw[ak,hn];exact h⟩
theorem lT (a:ICode):ac pg (.loop a) s=match ac pg a s with
  |some (.normal,s')=>ac pg (.loop a) s'
  |r=>r:=by
 refine Option.ext λr=>?_
 rw[cq];constructor
 ·rintro⟨n,hn⟩
  cases n with
  |zero=>simp[ak] at hn
  | succ n=>
   rw[ak] at hn;cases ha:ak pg n a s with
   |none=>simp[ha] at hn
   |some x=>
    rw[(cq ..).2 ⟨n,ha⟩];rw[ha] at hn;obtain⟨e,s'⟩:=x;cases e<;>simp only at * <;>first|exact (cq ..).2 ⟨n,hn⟩|exact hn
 ·intro h
  cases ha:ac pg a s with
  |none=>simp[ha] at h
  | some x=>
   obtain⟨n,hn⟩:=(cq ..).1 ha;rw[ha] at h;obtain⟨e,s'⟩:=x;cases e with
   |normal=>
    obtain⟨m,hm⟩:=(cq ..).1 h;exact⟨max n m+1,by rw[ak,fw pg (Nat.le_max_left n m) hn];exact fw pg (Nat.le_max_right n m) hm⟩
   |exit i=>exact⟨n+1,by rw[ak,hn];exact h⟩
   |ret=>exact⟨n+1,by rw[ak,hn];exact h⟩
theorem jx (id:Nat) (a:ICode):ac pg (.block id a) s=match ac pg a s with
  |some (.exit i,s')=>if i=id then some (.normal,s') else some (.exit i,s')
  |r=>r:=by
 refine Option.ext λr=>?_
 rw[cq];constructor
 ·rintro⟨n,hn⟩
  cases n with
  |zero=>simp[ak] at hn
  |succ n=>
   rw[ak] at hn;cases ha:ak pg n a s with
   |none=>simp[ha] at hn
   |some x=>rw[(cq ..).2 ⟨n,ha⟩];rw[ha] at hn;exact hn
 ·intro h
  cases ha:ac pg a s with
  |none=>simp[ha] at h
  |some x=>
   obtain⟨n,hn⟩:=(cq ..).1 ha;exact⟨n+1,by rw[ak,hn];rw[ha] at h;exact h⟩
theorem ij (a:ICode) (ks:List Nat) (nl:Nat):ac pg (.post a ks nl) s=match ac pg a s with
  |some (.normal,s')=>some (.normal,⟨keep nl ks s'.env,s'.lh.take nl,s'.gh⟩)
  |r=>r:=by
 refine Option.ext λr=>?_
 rw[cq];constructor
 ·rintro⟨n,hn⟩
  cases n with
  |zero=>simp[ak] at hn
  |succ n=>
   rw[ak] at hn;cases ha:ak pg n a s with
   |none=>simp[ha] at hn
   |some x=>rw[(cq ..).2 ⟨n,ha⟩];rw[ha] at hn;exact hn
 ·intro h
  cases ha:ac pg a s with
  |none=>simp[ha] at h
  |some x=>
   obtain⟨n,hn⟩:=(cq ..).1 ha;exact⟨n+1,by rw[ak,hn];rw[ha] at h;exact h⟩
theorem uv (a:ICode) (ks:List Nat) (t:Nat):ac pg (.lift a ks t) s=match ac pg a s with
  |some (.normal,s')=>(jv ks t s').map λs'=>(.normal,s')
  |r=>r:=by
 refine Option.ext λr=>?_
 rw[cq];constructor
 ·rintro⟨n,hn⟩
  cases n with
  |zero=>simp[ak] at hn
  |succ n=>
   rw[ak] at hn;cases ha:ak pg n a s with
   |none=>simp[ha] at hn
   |some x=>rw[(cq ..).2 ⟨n,ha⟩];rw[ha] at hn;exact hn
 ·intro h
  cases ha:ac pg a s with
  |none=>simp[ha] at h
  |some x=>
   obtain⟨n,hn⟩:=(cq ..).1 ha;exact⟨n+1,by rw[ak,hn];rw[ha] at h;exact h⟩
theorem uw (g:IX) (y:Nat) (ks:List Nat):ac pg (.rangeF g y ks) s=(fc (af pg) s g y ks).map λs'=>(.normal,s'):=by
 refine Option.ext λr=>?_
 rw[cq,aE];constructor
 ·rintro⟨n,hn⟩
  cases n with
  |zero=>simp[ak] at hn
  |succ n=>
   simp only[ak,aE] at hn;obtain⟨s',h1,h2⟩:=hn;exact⟨s',oH (lS pg n) h1,h2⟩
 ·rintro⟨s',h1,h2⟩
  obtain⟨n,hn⟩:=ul pg h1;exact⟨n+1,by simp only[ak,aE];exact⟨s',hn,h2⟩⟩
theorem ux (a:ICode):ac pg (.cut a) s=ac pg a s:=by
 refine Option.ext λr=>?_
 rw[cq,cq];constructor
 ·rintro⟨n,hn⟩
  cases n with
  |zero=>simp[ak] at hn
  |succ n=>exact⟨n,hn⟩
 ·rintro⟨n,hn⟩
  exact⟨n+1,hn⟩
end
end
end Go.Lw