/-
  The texts that the proof stands on, part 9.
-/
import Derived.Test.YtmodipglnngghabGreatDoorDecideTextsH
import Derived.Tactics
set_option linter.unusedVariables false
set_option linter.unusedSimpArgs false
set_option linter.unnecessarySimpa false

set_option maxRecDepth 100000
set_option maxHeartbeats 4000000
namespace Go.Lw
open Go
section
open Go.RowKit
section
variable {fi:FI} {M M':Mem} {w w':World} {P:Program} {s s':St} {a:Act} {cf:CallF}
def eG (P:Program) (c:FI) (F:Nat) (f:Ok) (g:Ol) (r:PV) (d:Ol):Prop:=
  ∀ (M:Mem) (w:World) (a:Ou),GI c M w g->M.lb=[]->(∀b l,M.own b=some l->∃i j,l= .gh i j)->a.length=f.length->
    (∀(i:Nat) (p:PV) (v:Value),f[i]?=some p->a[i]?=some v->RepP c M w p v)->
    Calls P F a.toArray w λe w'=>∃v M',e= .returned v/\GI c M' w' d/\M'.lb=[]/\af r=true/\RepAt c M' w' Loc.res r v/\Kp M w M' w'
def ii (P:Program) (g:FI) (h:CallF):Prop:=
  ∀ f b e r a F,h f b e=some (r,a)->(∀p∈b,az p=true)->g f=some F->
    (∃ d c, P.funcs[F]? = some d ∧ (d.name == "runtime.NumGoroutine") = false ∧ d.body = some c) ∧ eG P g F b e r a
def cj (P:Program) (b:FI) (i:IOp) (op:Op):Bool:=
  match i,op with
  | .call _ _ f c,.call {callee:= .value (.func F),args,.. }| .callP _ f c _,.call {callee:= .value (.func F),args,.. }| .callR _ f c _ _,.call {callee:= .value (.func F),args,.. }| .callF _ f c,.call {callee:= .value (.func F),args,.. }=>b f==some F&&mXs b c args.toList
  | .callv _ _ e c,.call {callee:= .value y,args,.. }| .callE _ e c,.call {callee:= .value y,args,.. }=>mX b e y&&mXs b c args.toList
  | .loadN d agg k x _,op=>mOp P b (.load d agg k x) op
  | .loadL d x,op=>mOp P b (.loadT d x) op
  | .appendE d a y x,op=>mOp P b (.append d 1 a y x) op
  | .loadKB d x _,op=>mOp P b (.load d false 1 x) op
  | .loadTB d x _ _,op=>mOp P b (.loadT d x) op
  | .loadB d agg k x _,op=>mOp P b (.load d agg k x) op
  | .loadJ d agg k x,op=>mOp P b (.load d agg k x) op
  | .appendP d a y x _,op=>mOp P b (.append d 1 a y x) op
  | .mkarr d z a zero l,op=>mOp P b (.mksl d true z a zero l) op
  | .buildA d z g,op=>mOp P b (.buildT d z g) op
  | .appendK d a y x,op=>mOp P b (.append d 1 a y x) op
  | .appendN d a y x,op=>mOp P b (.append d 1 a y x) op
  | .buildSlK d els,op=>mOp P b (.buildSl d 1 els) op
  | .boxSl d z els,op=>mOp P b (.buildSl d z els) op
  | .loadK d x,op=>mOp P b (.load d false 1 x) op
  | .loadH d x,op=>mOp P b (.load d false 1 x) op
  | .storeP tk k y x _,op=>mOp P b (.store tk k y x) op
  | .storeK y x,op=>mOp P b (.store false 1 y x) op
  |i,op=>mOp P b i op
def IOp.isY:IOp->Bool
  |_=>false
theorem nV {F : Nat} {b : Func} {c : Code} (d : P.funcs[F]? = some b) (hn : (b.name == "runtime.NumGoroutine") = false) (e : b.body = some c) (a : Array Value) (w : World) :
    (callFunc F a).run P w= .ok (.enter F a) w:=by
  have f : b.name ≠ "runtime.NumGoroutine" := by simpa using hn
  simp[callFunc,d,f,e]
theorem RepE.fnInv {f:Nat} {cs:Ok} {v:Value} (h:RepE fi M w (.fn f cs) v):∃F a,fi f=some F/\v= .func (.func F) #[] (a:Ou).toArray/\a.length=cs.length/\cs.all az=true/\
    ∀(i:Nat) (c:PV) (u:Value),cs[i]?=some c->a[i]?=some u->RepP fi M w c u:=by
  cases (show RepP fi M w (.fn f cs) v from h) with
  |fn _ F _ a d b g e=>exact⟨F,a,d,rfl,b,g,e⟩
theorem RepE.bfnInv {f:Nat} {cs:Ok} {v:Value} (h:RepE fi M w (.bfn f cs) v):∃F a,fi f=some F/\v= .func (.func F) (a:Ou).toArray #[]/\a.length=cs.length/\cs.all az=true/\
    ∀(i:Nat) (c:PV) (u:Value),cs[i]?=some c->a[i]?=some u->RepP fi M w c u:=by
  cases (show RepP fi M w (.bfn f cs) v from h) with
  |bfn _ F _ a d b g e=>exact⟨F,a,d,rfl,b,g,e⟩
theorem EV {g:Bool} {p:PV} {v:Value} (h:RepP fi M w p v) (b:g=false->p.noG=true):RepP fi (M.callee g) w p v:=by
  cases a:g with
  |true=>subst a;exact h.mono (show Ext M w (M.callee true) w from⟨λ_ _ h=>h,λ_ _ h=>h,λ_ _ _=>rfl,λ_ _=>⟨cU _,λ_=>rfl⟩⟩)
  | false=>
    subst a;exact (h.noG [] M.st (b rfl)).mono (show Ext {M with gb:=[],st:=M.st } w (M.callee false) w from⟨λ_ _ h=>h,λ_ _ h=>h,λ_ _ _=>rfl,λ_ _=>⟨cU _,λ_=>rfl⟩⟩)
def EW:Option Nat->Nat->Loc
  |some d=>Loc.env d
  |none=>Loc.lim
theorem nW (z:Inv fi M w s a) {o:Oper} {F:Nat} {args:Ou} {vs:Ok} {g:Bool} {r:PV} {gh':Ol} (c:(execOp a.eval o).run P w= .ok (.enter F args.toArray) w)
    (l:eG P fi F vs (if g then s.gh else []) r gh') (B:args.length=vs.length) (hr:∀(i:Nat) (p:PV) (v:Value),vs[i]?=some p->args[i]?=some v->RepP fi M w p v) (y:g=false->dr vs=true/\r.noG=true)
    (m:∀d,o.dst=some d->d<a.tmps.size) {b:Act->World->Prop} {Q:Exit->Act->World->Prop}
    (hn:∀u M' w',Inv fi M' w' ⟨eO s.env o.dst r,s.lh,if g then gh' else s.gh⟩ u->Kp M w M' w'->u.tmps.size=a.tmps.size->b u w'):o.wp P a w b Q:=by
  unfold Oper.wp;rw[c,Oper.upon_enter];obtain⟨H,G,E⟩:=z.callee g;refine Calls.mono (l (M.callee g) w args H G E B (λi p v x A=>EV (hr i p v x A) (λe=>iZ (y e).1 x))) ?_;rintro e I ⟨v,L,rfl,D,n,f,h,C⟩;obtain⟨k,j,t⟩:=z.back g (EW o.dst) (λi=>by cases o.dst<;>rfl) D n C h (λe=>(y e).2) f;simp only;cases q:o.dst with
  | none=>
    rw[q] at k j t hn;exact hn _ _ _ k j rfl
  | some d=>
    rw[q] at k j t hn;exact hn _ _ _ (k.put (m d q) t) j (by simp[Act.put])
theorem Sim.wp {o:Oper} (h:Sim P fi o M w s' a) {b:Act->World->Prop} {Q:Exit->Act->World->Prop}
    (hn:∀c M' w',Inv fi M' w' s' c->Kp M w M' w'->c.tmps.size=a.tmps.size->b c w'):o.wp P a w b Q:=by
  obtain⟨n,v,M',w',i,g,f,e⟩:=h;unfold Oper.wp;rw[i];have d:(a.put o.dst v).tmps.size=a.tmps.size:=by cases o.dst<;>simp[Act.put]
  rcases g with rfl|⟨rfl,rfl⟩
  · exact hn _ _ _ f e d
  · exact hn _ _ _ f e d
theorem sim_load' {o:Oper} {d:Nat} {agg:Bool} {k:Nat} {x:IX} (A:dv P fi M w s a o (.load d agg k x)) (h:ae cf s (.load d agg k x)=some s'):Sim P fi o M w s' a:=sim_load A h
def Mem.reads (M:Mem):Mem:={lb:=[],gb:=[],imm:=λb k=>M.imm b k\/b∈M.gb,own:=λ_=>none,st:=M.st }
theorem Inv.reads (c:Inv fi M w s a):GI fi M.reads w []:=
  ⟨λt v h=>by simp[get] at h,rfl,rfl,rfl,by simp[Mem.reads],λi cs d h=>by simp at h,λi o d g j=>by simp at g,
    λx e=>⟨.inl (c.gl x e).1,(c.gl x e).2⟩,λb k h=>h.elim (c.immlt b k) (c.gblt b),λb l h=>by simp[Mem.reads] at h,λb f=>by simp[Mem.reads] at f⟩
theorem xn (x:ii P fi cf) (L:Inv fi M w s a) {o:Oper} {d:Option Nat} {f F:Nat} {E:List IX} {args:Array Operand} {C:Array TypeId} (I:o.op= .call ⟨.value (.func F),args,C⟩) (S:fi f=some F) (k:mXs fi E args.toList=true)
    (T:o.dst=d) (e:∀d,o.dst=some d->d<a.tmps.size) {vs:Ok} (l:ct s.env E=some vs) (h:dN cf s d false f vs=some s')
    {c:Act->World->Prop} {Q:Exit->Act->World->Prop} (hn:∀D M' w',Inv fi M' w' s' D->Kp M w M' w'->D.tmps.size=a.tmps.size->c D w'):o.wp P a w c Q:=by
  obtain⟨B,op,ty,O,ad,gd⟩:=o;simp only at I;subst I;unfold dN at h;split at h
  · rename_i b
    simp only[bV] at b;obtain⟨X,U⟩:=i8 L k l;cases z:cf f vs s.gh with
    |none=>simp[z] at h
    | some N=>
      obtain⟨r,gh'⟩:=N;simp only[z] at h;obtain⟨⟨fn,cd,t,q,A⟩,n⟩:=x f vs s.gh r gh' F z b S;have m:s'=⟨eO s.env d r,s.lh,gh'⟩:=by simp at h;exact h.symm
      subst m;refine nW (g:=true) (args:=args.toList.map a.eval) (vs:=vs) (F:=F) (r:=r) (gh':=gh') L ?_ n (by simpa using X) (λi p v H G=>?_) NX e ?_
      · have j:args.map a.eval=(List.map a.eval args.toList).toArray:=by apply Array.ext';simp
        have u:a.eval (.func F)= .func (.func F) #[] #[]:=rfl;simp[execOp,resolve,Deferred.ofValue,invoke,u,j,nV t q A]
      · simp only[aB,aE] at G
        obtain⟨y,R,rfl⟩:=G;refine (U i p y H R).repP ?_;exact b p (aL H)
      · rw[show B=d from T];exact hn
  · cases h
theorem xp (O :ii P fi cf) {i:IOp} (aH:i.isY=false) (j:Inv fi M w s a) {o:Oper} (e:cj P fi i o.op=true) (l:o.dst=bq i) (b:∀d,bq i=some d->d<a.tmps.size) (h:ae cf s i=some s')
    {ad:Act->World->Prop} {Q:Exit->Act->World->Prop} (hn:∀a' M' w',Inv fi M' w' s' a'->Kp M w M' w'->a'.tmps.size=a.tmps.size->ad a' w'):o.wp P a w ad Q:=by
  have D:∀d,o.dst=some d->d<a.tmps.size:=λd h=>b d (by rw[<-l];exact h)
  cases i with
  | call d q f xs=>
    obtain⟨E,op,ty,T,X,gd⟩:=o;cases op<;>simp[cj,mOp] at e;rename_i c;obtain⟨callee,args,U⟩:=c;cases callee with
    | value y =>
      cases y<;>simp at e;rename_i F;obtain⟨hf,N⟩:=e;simp only[ae,aC] at h;obtain⟨vs,z,h⟩:=h;unfold dN at h;split at h
      · rename_i m
        simp only[bV] at m;obtain⟨e1,e2⟩:=i8 j N z;cases R:cf f vs s.gh with
        |none=>simp[R] at h
        | some rg=>
          obtain⟨r,gh'⟩:=rg;simp only[R] at h;obtain⟨⟨fn,cd,I,H,L⟩,G⟩:=O f vs s.gh r gh' F R m hf;have S:s'=⟨eO s.env d r,s.lh,gh'⟩:=by
            split at h
            · split at h
              · rename_i he;cases h;rw[he]
              · cases h
            · cases h;rfl
          subst S;refine nW (g:=true) (args:=args.toList.map a.eval) (vs:=vs) (F:=F) (r:=r) (gh':=gh') j ?_ G (by simpa using e1) (λi p v t B=>?_) NX D ?_
          · have A:args.map a.eval=(List.map a.eval args.toList).toArray:=by apply Array.ext';simp
            have an:a.eval (.func F)= .func (.func F) #[] #[]:=rfl;simp[execOp,resolve,Deferred.ofValue,invoke,an,A,nV I H L]
          · simp only[aB,aE] at B
            obtain⟨y,hy,rfl⟩:=B;refine (e2 i p y t hy).repP ?_;exact m p (aL t)
          · rw[show E=d from l];exact hn
      · cases h
    |_=>simp at e
  | callv d q fv xs=>
    obtain⟨E,op,ty,T,X,gd⟩:=o;cases op<;>simp[cj,mOp] at e;rename_i c;obtain⟨callee,args,U⟩:=c;cases callee with
    | value y =>
      simp at e;obtain⟨ax,N⟩:=e;simp only[ae] at h;split at h
      · rename_i f u ao
        simp only[aC] at h;obtain⟨vs,z,h⟩:=h;obtain⟨F,us,hf,B,av,aA,al⟩:=(bt j ax ao).fnInv;unfold dN at h;split at h
        · rename_i m
          simp only[bV] at m;obtain⟨e1,e2⟩:=i8 j N z;cases R:cf f (vs++u) s.gh with
          |none=>simp[R] at h
          | some rg=>
            obtain⟨r,gh'⟩:=rg;simp only[R] at h;obtain⟨⟨fn,cd,I,H,L⟩,G⟩:=O f (vs++u) s.gh r gh' F R m hf;have S:s'=⟨eO s.env d r,s.lh,gh'⟩:=by
              split at h
              · split at h
                · rename_i he;cases h;rw[he]
                · cases h
              · cases h;rfl
            subst S;have ap:(args.toList.map a.eval).length=vs.length:=by simpa using e1
            refine nW (g:=true) (args:=args.toList.map a.eval++us) (vs:=vs++u) (F:=F) (r:=r) (gh':=gh') j ?_ G (by simp only[aQ];omega) (λi p v t B=>?_) NX D ?_
            · have A:args.map a.eval=(List.map a.eval args.toList).toArray:=by apply Array.ext';simp
              simp[execOp,resolve,Deferred.ofValue,invoke,B,A,nV I H L]
            · by_cases hi:i<vs.length
              · rw[aI hi] at t
                rw[aI NW] at B;simp only[aB,aE] at B;obtain⟨y,hy,rfl⟩:=B;exact (e2 i p y t hy).repP (m p (aX _ (aL t)))
              · rw[aN NW] at t
                rw[aN NW,ap] at B;exact al _ p v t B
            · rw[show E=d from l];exact hn
        · cases h
      · rename_i f u ao
        simp only[aC] at h;obtain⟨vs,z,h⟩:=h;obtain⟨F,us,hf,B,av,aA,al⟩:=(bt j ax ao).bfnInv;unfold dN at h;split at h
        · rename_i m
          simp only[bV] at m;obtain⟨e1,e2⟩:=i8 j N z;cases R:cf f (u++vs) s.gh with
          |none=>simp[R] at h
          | some rg=>
            obtain⟨r,gh'⟩:=rg;simp only[R] at h;obtain⟨⟨fn,cd,I,H,L⟩,G⟩:=O f (u++vs) s.gh r gh' F R m hf;have S:s'=⟨eO s.env d r,s.lh,gh'⟩:=by
              split at h
              · split at h
                · rename_i he;cases h;rw[he]
                · cases h
              · cases h;rfl
            subst S;have ap:(args.toList.map a.eval).length=vs.length:=by simpa using e1
            refine nW (g:=true) (args:=us++args.toList.map a.eval) (vs:=u++vs) (F:=F) (r:=r) (gh':=gh') j ?_ G (by simp only[aQ];omega) (λi p v t B=>?_) NX D ?_
            · have A:args.map a.eval=(List.map a.eval args.toList).toArray:=by apply Array.ext';simp
              simp[execOp,resolve,Deferred.ofValue,invoke,B,A,nV I H L]
            · by_cases hi:i<u.length
              · rw[aI hi] at t
                rw[aI NW] at B;exact al _ p v t B
              · rw[aN NW] at t
                rw[aN NW,av] at B;simp only[aB,aE] at B;obtain⟨y,hy,rfl⟩:=B;exact (e2 _ p y t hy).repP (m p (aY _ (aL t)))
            · rw[show E=d from l];exact hn
        · cases h
      · cases h
    |_=>simp at e
  |callE=>simp[ae] at h
  | callF d f xs=>
    obtain⟨E,op,ty,T,X,gd⟩:=o;cases op<;>simp[cj,mOp] at e;rename_i c;obtain⟨callee,args,U⟩:=c;cases callee with
    | value y =>
      cases y<;>simp at e;rename_i F;obtain⟨hf,N⟩:=e;simp only[ae,aC] at h;obtain⟨vs,z,h⟩:=h;unfold jC at h;split at h
      · rename_i m
        obtain⟨m,aF⟩:=m;simp only[bV] at m;obtain⟨e1,e2⟩:=i8 j N z;split at h
        · rename_i r R
          split at h
          · rename_i aD
            cases h;obtain⟨⟨fn,cd,I,H,L⟩,G⟩:=O f vs [] r [] F R m hf;refine nW (g:=false) (args:=args.toList.map a.eval) (vs:=vs) (F:=F) (r:=r) (gh':=[]) j ?_ G (by simpa using e1) (λi p v t B=>?_) (λ_=>⟨aF,aD⟩) D ?_
            · have A:args.map a.eval=(List.map a.eval args.toList).toArray:=by apply Array.ext';simp
              have an:a.eval (.func F)= .func (.func F) #[] #[]:=rfl;simp[execOp,resolve,Deferred.ofValue,invoke,an,A,nV I H L]
            · simp only[aB,aE] at B
              obtain⟨y,hy,rfl⟩:=B;refine (e2 i p y t hy).repP ?_;exact m p (aL t)
            · rw[show E=d from l];exact hn
          · cases h
        · cases h
      · cases h
    |_=>simp at e
  | callP d f xs ns=>
    obtain⟨E,op,ty,T,X,gd⟩:=o;cases op<;>simp[cj,mOp] at e;rename_i c;obtain⟨callee,args,U⟩:=c;cases callee with
    | value y=>
      cases y<;>simp at e;rename_i F;simp only[ae,aC] at h;obtain⟨vs,z,s1,h1,C⟩:=h;split at C
      · cases C
        exact xn O j rfl e.1 e.2 l D z h1 hn
      · cases C
    |_=>simp at e
  | callR d f xs n o2=>
    obtain⟨E,op,ty,T,X,gd⟩:=o;cases op<;>simp[cj,mOp] at e;rename_i c;obtain⟨callee,args,U⟩:=c;cases callee with
    | value y=>
      cases y<;>simp at e;rename_i F;simp only[ae,aC] at h;obtain⟨vs,z,h⟩:=h;split at h
      · unfold fV at h
        simp only[aC] at h;obtain⟨s1,h1,_,_,_,_,_,_,_,_,C⟩:=h;split at C
        · cases C
          exact xn O j rfl e.1 e.2 l D z h1 hn
        · cases C
      · cases h
    |_=>simp at e
  |appendE=>simp[ae] at h
  | loadKB d x n=>
    have C:ae cf s (.loadK d x)=some s':=by
      simp only[ae] at h ⊢;split at h
      · rename_i t _
        split at h
        · rw[t];exact h
        · cases h
      · cases h
    exact (xk (cf:=cf) j (by simpa [cj] using e) l (b _ rfl) C).wp hn
  | loadTB d x n o2=>
    have C:ae cf s (.loadT d x)=some s':=by
      simp only[ae] at h ⊢;split at h
      · rename_i t _
        split at h
        · rw[t];exact h
        · cases h
      · cases h
    exact (sI (cf:=cf) ⟨j,by simpa [cj] using e,l,b⟩ C).wp hn
  | loadB d agg k x n=>
    have C:ae cf s (.load d agg k x)=some s':=by
      simp only[ae] at h ⊢;split at h
      · rename_i t _
        split at h
        · rw[t];exact h
        · cases h
      · rename_i t _
        rw[t];exact h
      · cases h
    exact (sim_load' (cf:=cf) ⟨j,by simpa [cj] using e,l,b⟩ C).wp hn
  | loadJ d agg k x=>
    have C:ae cf s (.load d agg k x)=some s':=by
      simp only[ae] at h ⊢;split at h
      · rename_i t
        rw[t];exact h
      · cases h
    exact (sim_load' (cf:=cf) ⟨j,by simpa [cj] using e,l,b⟩ C).wp hn
  | appendP d aG y x ns=>
    simp only[ae,aC] at h;obtain⟨s1,h1,C⟩:=h;split at C
    · cases C
      exact (xj (cf:=cf) j (by simpa [cj] using e) l (b _ rfl) h1).wp hn
    · cases C
  |storeP=>simp[ae] at h
  |mkarr=>exact (ET (cf:=cf) j (by simpa [cj] using e) l (b _ rfl) h).wp hn
  |buildA=>exact (EU (cf:=cf) j (by simpa [cj] using e) l b h).wp hn
  |boxSl=>simp[ae] at h
  |loadN=>simp[ae] at h
  | loadL d x=>
    have C:ae cf s (.loadT d x)=some s':=by
      simp only[ae] at h ⊢;split at h
      · rename_i t
        rw[t];exact h
      · cases h
    exact (sI (cf:=cf) ⟨j,by simpa [cj] using e,l,b⟩ C).wp hn
  |mv=>exact (D7 ⟨j,by simpa [cj] using e,l,b⟩ h).wp hn
  |tkS=>simp[ae] at h
  |tk=>exact (D8 ⟨j,by simpa [cj] using e,l,b⟩ h).wp hn
  |pick=>exact (D9 ⟨j,by simpa [cj] using e,l,b⟩ h).wp hn
  |box=>exact (Ea ⟨j,by simpa [cj] using e,l,b⟩ h).wp hn
  |alloc=>exact (Eb ⟨j,by simpa [cj] using e,l,b⟩ h).wp hn
  |build=>exact (EI ⟨j,by simpa [cj] using e,l,b⟩ h).wp hn
  |buildT=>exact (xf ⟨j,by simpa [cj] using e,l,b⟩ h).wp hn
  |buildSl=>exact (EK ⟨j,by simpa [cj] using e,l,b⟩ h).wp hn
  |load=>exact (sim_load ⟨j,by simpa [cj] using e,l,b⟩ h).wp hn
  |loadT=>exact (sI ⟨j,by simpa [cj] using e,l,b⟩ h).wp hn
  |store=>exact (Ee ⟨j,by simpa [cj] using e,l,b⟩ h).wp hn
  |nilc=>exact (Ef ⟨j,by simpa [cj] using e,l,b⟩ h).wp hn
  |bin=>exact (Eg ⟨j,by simpa [cj] using e,l,b⟩ h).wp hn
  |eqa=>exact (Eh ⟨j,by simpa [cj] using e,l,b⟩ h).wp hn
  |eqb=>simp[ae] at h
  |eqn=>exact (Ei ⟨j,by simpa [cj] using e,l,b⟩ h).wp hn
  |un=>exact (Ej ⟨j,by simpa [cj] using e,l,b⟩ h).wp hn
  |conv=>exact (Ek ⟨j,by simpa [cj] using e,l,b⟩ h).wp hn
  |mkfn=>exact (El ⟨j,by simpa [cj] using e,l,b⟩ h).wp hn
  |mkbf=>exact (Em ⟨j,by simpa [cj] using e,l,b⟩ h).wp hn
  |storeK=>exact (EP j (by simpa [cj] using e) l h).wp hn
  |clearK=>simp[ae] at h
  |loadG=>exact (Ed ⟨j,by simpa [cj] using e,l,b⟩ h).wp hn
  |boxB=>exact (Ep ⟨j,by simpa [cj] using e,l,b⟩ h).wp hn
  |mkbld=>simp[ae] at h
  |mkmap=>exact (En ⟨j,by simpa [cj] using e,l,b⟩ h).wp hn
  |mksl=>exact (EE ⟨j,by simpa [cj] using e,l,b⟩ h).wp hn
  |slice=>exact (Er ⟨j,by simpa [cj] using e,l,b⟩ h).wp hn
  |sliceS=>exact (Es ⟨j,by simpa [cj] using e,l,b⟩ h).wp hn
  |faddr=>exact (Et ⟨j,by simpa [cj] using e,l,b⟩ h).wp hn
  |field=>exact (Eu ⟨j,by simpa [cj] using e,l,b⟩ h).wp hn
  |iaddr=>exact (Ev ⟨j,by simpa [cj] using e,l,b⟩ h).wp hn
  |index=>exact (Ew ⟨j,by simpa [cj] using e,l,b⟩ h).wp hn
  |indexS=>exact (Ex ⟨j,by simpa [cj] using e,l,b⟩ h).wp hn
  |lookup=>exact (Ey ⟨j,by simpa [cj] using e,l,b⟩ h).wp hn
  |mupd=>exact (Ez ⟨j,by simpa [cj] using e,l,b⟩ h).wp hn
  |len=>exact (EA ⟨j,by simpa [cj] using e,l,b⟩ h).wp hn
  |append=>exact (EB ⟨j,by simpa [cj] using e,l,b⟩ h).wp hn
  |appendK=>exact (EM j (by simpa [cj] using e) l (b _ rfl) h).wp hn
  |appendN=>exact (xj j (by simpa [cj] using e) l (b _ rfl) h).wp hn
  |loadH=>simp[ae] at h
  |loadK=>exact (xk j (by simpa [cj] using e) l (b _ rfl) h).wp hn
  |buildSlK=>exact (EO j (by simpa [cj] using e) l (b _ rfl) h).wp hn
  |maxi=>exact (ED ⟨j,by simpa [cj] using e,l,b⟩ h).wp hn
  |extract=>exact (EC ⟨j,by simpa [cj] using e,l,b⟩ h).wp hn
end
end
end Go.Lw