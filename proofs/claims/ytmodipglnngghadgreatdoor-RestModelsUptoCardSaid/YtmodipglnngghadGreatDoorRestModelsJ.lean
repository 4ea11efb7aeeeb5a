/-
  The texts that the proof stands on, part 10.
-/
import Derived.Test.YtmodipglnngghadGreatDoorRestModelsI
import Derived.Tactics
set_option linter.unusedVariables false
set_option linter.unusedSimpArgs false
set_option linter.unnecessarySimpa false

set_option maxRecDepth 100000
set_option maxHeartbeats 4000000
namespace Go.Lw
open Go
section
open Go.RowKit
section
variable {fi:FI} {M M':Mem} {w w':World} {P:Program} {s s':St} {a:Act} {cf:CallF}
def eG (P:Program) (c:FI) (F:Nat) (f:fw) (g:fB) (r:PV) (d:fB):Prop:=
  ∀ (M:Mem) (w:World) (a:gA),GI c M w g->M.lb=[]->(∀b l,M.own b=some l->∃i j,l= .gh i j)->a.length=f.length->
    (∀(i:Nat) (p:PV) (v:Value),f[i]?=some p->a[i]?=some v->RepP c M w p v)->
    Calls P F a.toArray w λe w'=>∃v M',e= .returned v/\GI c M' w' d/\M'.lb=[]/\af r=true/\RepAt c M' w' Loc.res r v/\Kp M w M' w'
def ii (P:Program) (g:FI) (h:CallF):Prop:=
  ∀ f b e r a F,h f b e=some (r,a)->(∀p∈b,az p=true)->g f=some F->
    (∃ d c, P.funcs[F]? = some d ∧ (d.name == "runtime.NumGoroutine") = false ∧ d.body = some c) ∧ eG P g F b e r a
def cj (P:Program) (b:FI) (i:IOp) (op:Op):Bool:=
  match i,op with
  | .call _ _ f e,.call {callee:= .value (.func F),args,.. }| .callP _ f e _,.call {callee:= .value (.func F),args,.. }| .callR _ f e _ _,.call {callee:= .value (.func F),args,.. }| .callF _ f e,.call {callee:= .value (.func F),args,.. }=>b f==some F&&mXs b e args.toList
  | .callv _ _ g e,.call {callee:= .value y,args,.. }| .callE _ g e,.call {callee:= .value y,args,.. }=>mX b g y&&mXs b e args.toList
  | .loadN d agg k x _,op=>mOp P b (.load d agg k x) op
  | .loadL d x,op=>mOp P b (.loadT d x) op
  | .appendE d a y x,op=>mOp P b (.append d 1 a y x) op
  | .loadKB d x _,op=>mOp P b (.load d false 1 x) op
  | .loadTB d x _ _,op=>mOp P b (.loadT d x) op
  | .loadB d agg k x _,op=>mOp P b (.load d agg k x) op
  | .loadJ d agg k x,op=>mOp P b (.load d agg k x) op
  | .appendP d a y x _,op=>mOp P b (.append d 1 a y x) op
  | .mkarr d z a zero l,op=>mOp P b (.mksl d true z a zero l) op
  | .buildA d z h,op=>mOp P b (.buildT d z h) op
  | .appendK d a y x,op=>mOp P b (.append d 1 a y x) op
  | .appendN d a y x,op=>mOp P b (.append d 1 a y x) op
  | .buildSlK d c,op=>mOp P b (.buildSl d 1 c) op
  | .boxSl d z c,op=>mOp P b (.buildSl d z c) op
  | .buildSlF d z c,op=>mOp P b (.buildSl d z c) op
  | .loadM d agg k x,op=>mOp P b (.load d agg k x) op
  | .loadS d agg k x,op=>mOp P b (.load d agg k x) op
  | .mvS d x,op=>mOp P b (.mv d x) op
  | .loadK d x,op=>mOp P b (.load d false 1 x) op
  | .loadH d x,op=>mOp P b (.load d false 1 x) op
  | .storeP tk k y x _,op=>mOp P b (.store tk k y x) op
  | .storeK y x,op=>mOp P b (.store false 1 y x) op
  | .lenD d x,op=>mOp P b (.len d 0 x) op
  | .iaddrD d z x i,op=>mOp P b (.iaddr d z none x i) op
  | .faddrD d x k,op=>mOp P b (.faddr d x k) op
  | .paddrD d n x i,op=>mOp P b (.iaddr d 1 (some n) x i) op
  | .storeD y x,op=>mOp P b (.store false 1 y x) op
  |i,op=>mOp P b i op
def IOp.isY:IOp->Bool
  |_=>false
theorem nV {F : Nat} {b : Func} {c : Code} (d : P.funcs[F]? = some b) (hn : (b.name == "runtime.NumGoroutine") = false) (e : b.body = some c) (a : Array Value) (w : World) :
    (callFunc F a).run P w= .ok (.enter F a) w:=by
  have f : b.name ≠ "runtime.NumGoroutine" := by simpa using hn
  simp[callFunc,d,f,e]
theorem RepE.fnInv {f:Nat} {b:fw} {v:Value} (h:RepE fi M w (.fn f b) v):∃F a,fi f=some F/\v= .func (.func F) #[] (a:gA).toArray/\a.length=b.length/\b.all az=true/\
    ∀(i:Nat) (c:PV) (u:Value),b[i]?=some c->a[i]?=some u->RepP fi M w c u:=by
  cases (show RepP fi M w (.fn f b) v from h) with
  |fn _ F _ a e d j g=>exact⟨F,a,e,rfl,d,j,g⟩
theorem RepE.bfnInv {f:Nat} {b:fw} {v:Value} (h:RepE fi M w (.bfn f b) v):∃F a,fi f=some F/\v= .func (.func F) (a:gA).toArray #[]/\a.length=b.length/\b.all az=true/\
    ∀(i:Nat) (c:PV) (u:Value),b[i]?=some c->a[i]?=some u->RepP fi M w c u:=by
  cases (show RepP fi M w (.bfn f b) v from h) with
  |bfn _ F _ a e d j g=>exact⟨F,a,e,rfl,d,j,g⟩
theorem EV {g:Bool} {p:PV} {v:Value} (h:RepP fi M w p v) (b:g=false->p.noG=true):RepP fi (M.callee g) w p v:=by
  cases a:g with
  |true=>subst a;exact h.mono (show Ext M w (M.callee true) w from⟨λ_ _ h=>h,λ_ _ h=>h,λ_ _ _=>rfl,λ_ _=>⟨cW _,λ_=>rfl⟩,λ_ _ _=>rfl⟩)
  | false=>
    subst a;exact (h.noG [] M.st (b rfl)).mono (show Ext {M with gb:=[],st:=M.st } w (M.callee false) w from⟨λ_ _ h=>h,λ_ _ h=>h,λ_ _ _=>rfl,λ_ _=>⟨cW _,λ_=>rfl⟩,λ_ _ _=>rfl⟩)
def EW:Option Nat->Nat->Loc
  |some d=>Loc.env d
  |none=>Loc.lim
theorem nW (z:Inv fi M w s a) {o:Oper} {F:Nat} {args:gA} {vs:fw} {g:Bool} {r:PV} {gh':fB} (c:(execOp a.eval o).run P w= .ok (.enter F args.toArray) w)
    (l:eG P fi F vs (if g then s.gh else []) r gh') (B:args.length=vs.length) (hr:∀(i:Nat) (p:PV) (v:Value),vs[i]?=some p->args[i]?=some v->RepP fi M w p v) (y:g=false->eg vs=true/\r.noG=true)
    (m:∀d,o.dst=some d->d<a.tmps.size) {b:Act->World->Prop} {Q:Exit->Act->World->Prop}
    (hn:∀u M' w',Inv fi M' w' ⟨eO s.env o.dst r,s.lh,if g then gh' else s.gh⟩ u->Kp M w M' w'->u.tmps.size=a.tmps.size->b u w'):o.wp P a w b Q:=by
  unfold Oper.wp;rw[c,Oper.upon_enter];obtain⟨H,G,E⟩:=z.callee g;refine Calls.mono (l (M.callee g) w args H G E B (λi p v x A=>EV (hr i p v x A) (λe=>iZ (y e).1 x))) ?_;rintro e I ⟨v,L,rfl,D,n,f,h,C⟩;obtain⟨k,j,t⟩:=z.back g (EW o.dst) (λi=>by cases o.dst<;>rfl) D n C h (λe=>(y e).2) f;simp only;cases q:o.dst with
  | none=>
    rw[q] at k j t hn;exact hn _ _ _ k j rfl
  | some d=>
    rw[q] at k j t hn;exact hn _ _ _ (k.put (m d q) t) j (by simp[Act.put])
theorem Sim.wp {o:Oper} (h:Sim P fi o M w s' a) {b:Act->World->Prop} {Q:Exit->Act->World->Prop}
    (hn:∀c M' w',Inv fi M' w' s' c->Kp M w M' w'->c.tmps.size=a.tmps.size->b c w'):o.wp P a w b Q:=by
  obtain⟨n,v,M',w',i,g,f,e⟩:=h;unfold Oper.wp;rw[i];have d:(a.put o.dst v).tmps.size=a.tmps.size:=by cases o.dst<;>simp[Act.put]
  rcases g with rfl|⟨rfl,rfl⟩
  · exact hn _ _ _ f e d
  · exact hn _ _ _ f e d
theorem sim_load' {o:Oper} {d:Nat} {agg:Bool} {k:Nat} {x:IX} (A:dv P fi M w s a o (.load d agg k x)) (h:ae cf s (.load d agg k x)=some s'):Sim P fi o M w s' a:=sim_load A h
theorem Inv.still (c:Inv fi M w s a) (d:w.heap.size<=w'.heap.size) (m:∀k,k<w.heap.size->w'.heap[k]?=w.heap[k]?) (x:w'.os=w.os) (v:w'.tape=w.tape) (r:w'.output=w.output):Inv fi M w' s a/\Kp M w M w':=by
  have e:Ext M w M w':=⟨λ_ _ h=>h,λ_ _ h=>h,λb k h=>World.cell?_of_block (w:=w) (m b (c.immlt b k h)),λ_ _=>⟨cW _,λ_=>rfl⟩,λb k h=>m8 (m b (c.immlt b k h))⟩
  have G:Good M w M w' (λ_=>False) (λ_=>False):=
    ⟨e,d,λ_ _ h=>h,λb l h _=>⟨h,m b (c.ownlt b l h),λ_ h=>h,λh=>h,λh=>h⟩,λb f _ h=>⟨m b f,λ_ h=>h,h⟩,λ_ _=>rfl⟩
  exact⟨⟨λt u q=>⟨(c.env t u q).1,(c.env t u q).2.good G (λi h=>h)⟩,c.defers,c.lbl,c.gbl,c.nodup,λi y g p n=>(c.lh i y g p n).good G (λh=>h) (λi h=>h),
    λi o g p n=>(c.gh i o g p n).good G (λh=>h) (λj h=>h),e.gl c.gl,λb k h=>aO (c.immlt b k h) d,λb l h=>aO (c.ownlt b l h) d,λb h=>aO (c.gblt b h) d⟩,
    ⟨x,v,r,d,e,λk f _ _ _=>m k f,λ_ h=> .inl h,λ_ h=> .inl h,λ_ _ h=>h,λ_ _ h=> .inl h,.same rfl⟩⟩
def Mem.reads (M:Mem):Mem:={lb:=[],gb:=[],imm:=λb k=>M.imm b k\/b∈M.gb,own:=λ_=>none,st:=M.st }
theorem Inv.reads (c:Inv fi M w s a):GI fi M.reads w []:=
  ⟨λt v h=>by simp[get] at h,rfl,rfl,rfl,by simp[Mem.reads],λi m d h=>by simp at h,λi o d g j=>by simp at g,
    λx e=>⟨.inl (c.gl x e).1,(c.gl x e).2⟩,λb k h=>h.elim (c.immlt b k) (c.gblt b),λb l h=>by simp[Mem.reads] at h,λb f=>by simp[Mem.reads] at f⟩
theorem Pb {p:PV} {v:Value} (h:RepP fi M w p v) (a:p.noG=true):RepP fi M.reads w p v:=
  (h.noG [] M.st a).mono (show Ext {M with gb:=[],st:=M.st } w M.reads w from⟨λ_ _ h=>h,λ_ _ h=> .inl h,λ_ _ _=>rfl,λ_ _=>⟨cW _,λ_=>rfl⟩,λ_ _ _=>rfl⟩)
theorem Rg (y:Inv fi M w s a) {p u:PV} {v:Value} (h:RepP fi M w p v) (f:elP s.gh p=some u) (q:u.noG=true):RepP fi M.reads w u v:=by
  unfold elP at f;split at f
  · rename_i b l
    split at f
    · rename_i g x
      split at f
      · rename_i n
        cases f;cases h with
        | ptr _ _ d r=>
          obtain⟨G,F,E,D,e,T,B,C,A⟩:RepBox fi M w (Loc.gh b) d g:=y.gh b _ d x r;have o:eg (g.map aw)=true:=by simpa [PV.noG] using q
          have i:∀j,j<e.length->w.cell? ⟨d,0+j,none⟩=some (e.getD j undef):=by intro j k;simp[World.cell?,B,k]
          have:=RepP.ep (fi:=fi) (M:=M.reads) (w:=w) (.agg (g.map aw)) l d 0 (λj=>e.getD j undef) n
            (λj p m=>by
              have c:(g.map aw)[j]?=some p:=m;have k:j<e.length:=by have:=(aD.1 c).1;simp at this;omega
              exact⟨.inr (aL r),i j k⟩)
            (λj p m=>by
              have c:(g.map aw)[j]?=some p:=m;have k:j<g.length:=by have:=(aD.1 c).1;simpa using this
              have t:p=aw g[j]:=by rw[aB,aA k] at c;simpa using c.symm
              have z:e.getD j undef=e[j]:=by simp[List.getD,aA (show j<e.length by omega)]
              have hr:=(A j g[j] e[j] (aA k) (aA aj)).degr1;rw[t,z];exact Pb hr (by rw[<-t];exact iZ o c))
          rw[cX] at this;exact this
      · cases f
    · cases f
  · cases f
    exact Pb h q
theorem Pc {d:fB}:∀{b a:fw},nN d b=some a->a.length=b.length/\∀(i:Nat) (u:PV),a[i]?=some u->∃v,b[i]?=some v/\elP d v=some u
  | [],a,h=>by simp[nN] at h;subst h;exact⟨rfl,λi u h=>by simp at h⟩
  | v::l,a,h=>by
    simp only[nN,aC,aE] at h;obtain⟨u,k,e,j,rfl⟩:=h;obtain⟨g,f⟩:=Pc j;refine⟨by simp[g],λi x c=>?_⟩;cases i with
    |zero=>simp at c;subst c;exact⟨v,rfl,k⟩
    |succ i=>simpa using f i x (by simpa using c)
theorem Rh (A:Inv fi M w s a) {o:Oper} {F:Nat} {args:gA} {vs us:fw} {r:PV} (g:(execOp a.eval o).run P w= .ok (.enter F args.toArray) w)
    (q:eG P fi F us [] r []) (X:args.length=vs.length) (hr:∀(i:Nat) (p:PV) (v:Value),vs[i]?=some p->args[i]?=some v->RepP fi M w p v) (N:nN s.gh vs=some us) (t:eg us=true) (R:co r=true)
    (x:∀d,o.dst=some d->d<a.tmps.size) {c:Act->World->Prop} {Q:Exit->Act->World->Prop}
    (hn:∀B M' w',Inv fi M' w' ⟨eO s.env o.dst r,s.lh,s.gh⟩ B->Kp M w M' w'->B.tmps.size=a.tmps.size->c B w'):o.wp P a w c Q:=by
  unfold Oper.wp;rw[g,Oper.upon_enter];obtain⟨L,n⟩:=Pc N;refine Calls.mono (q M.reads w args A.reads rfl (λb l h=>by simp[Mem.reads] at h) aj (λi u v D I=>?_)) ?_
  · obtain⟨p,T,S⟩:=n i u D
    exact Rg A (hr i p v T I) S (iZ t D)
  rintro e m ⟨v,H,rfl,hG,O,C,f,j⟩;obtain⟨G,E⟩:=A.still j.size (λk y=>j.block k y (by simp[Mem.reads]) (by simp[Mem.reads]) rfl) j.os j.tape j.output;have U:∀d,RepAt fi M m (Loc.env d) r v:=by
    intro d;cases r<;>simp[co] at R
    · cases (show RepP fi H m (.int _ _) v from f);exact RepP.repE (.int _ _)
    · cases (show RepP fi H m (.bool _) v from f);exact RepP.repE (.bool _)
  simp only;cases z:o.dst with
  | none=>
    rw[z] at hn;exact hn _ _ _ G E rfl
  | some d=>
    rw[z] at hn;exact hn _ _ _ (G.put (x d z) (U d)) E (by simp[Act.put])
theorem xn (x:ii P fi cf) (L:Inv fi M w s a) {o:Oper} {d:Option Nat} {f F:Nat} {E:List IX} {args:Array Operand} {C:Array TypeId} (I:o.op= .call ⟨.value (.func F),args,C⟩) (S:fi f=some F) (k:mXs fi E args.toList=true)
    (T:o.dst=d) (e:∀d,o.dst=some d->d<a.tmps.size) {vs:fw} (l:ei s.env E=some vs) (h:dN cf s d false f vs=some s')
    {c:Act->World->Prop} {Q:Exit->Act->World->Prop} (hn:∀D M' w',Inv fi M' w' s' D->Kp M w M' w'->D.tmps.size=a.tmps.size->c D w'):o.wp P a w c Q:=by
  obtain⟨B,op,ty,O,aa,gd⟩:=o;simp only at I;subst I;unfold dN at h;split at h
  · rename_i b
    simp only[bV] at b;obtain⟨X,U⟩:=i8 L k l;cases z:cf f vs s.gh with
    |none=>simp[z] at h
    | some N=>
      obtain⟨r,gh'⟩:=N;simp only[z] at h;obtain⟨⟨fn,cd,t,q,A⟩,n⟩:=x f vs s.gh r gh' F z b S;have m:s'=⟨eO s.env d r,s.lh,gh'⟩:=by simp at h;exact h.symm
      subst m;refine nW (g:=true) (args:=args.toList.map a.eval) (vs:=vs) (F:=F) (r:=r) (gh':=gh') L ?_ n (by simpa using X) (λi p v H G=>?_) bh e ?_
      · have j:args.map a.eval=(List.map a.eval args.toList).toArray:=by apply Array.ext';simp
        have u:a.eval (.func F)= .func (.func F) #[] #[]:=rfl;simp[execOp,resolve,Deferred.ofValue,invoke,u,j,nV t q A]
      · simp only[aB,aE] at G
        obtain⟨y,R,rfl⟩:=G;refine (U i p y H R).repP ?_;exact b p (aL H)
      · rw[show B=d from T];exact hn
  · cases h
theorem Fq {d:Nat} {x:IX} {n a:Nat} (h:ae cf s (.loadTB d x n a)=some s'):ae cf s (.loadT d x)=some s':=by
  simp only[ae] at h ⊢;split at h
  · rename_i c _
    split at h
    · rw[c]
      simp only[aC] at h;obtain⟨g,e,h⟩:=h;split at h
      · rename_i q z f b
        cases h;simp[e,b,aw]
      · cases h
    · cases h
  · cases h
theorem xp (N : ii P fi cf) {i:IOp} (aH:i.isY=false) (j:Inv fi M w s a) {o:Oper} (e:cj P fi i o.op=true) (m:o.dst=bq i) (b:∀d,bq i=some d->d<a.tmps.size) (h:ae cf s i=some s')
    {ao:Act->World->Prop} {Q:Exit->Act->World->Prop} (hn:∀a' M' w',Inv fi M' w' s' a'->Kp M w M' w'->a'.tmps.size=a.tmps.size->ao a' w'):o.wp P a w ao Q:=by
  have C:∀d,o.dst=some d->d<a.tmps.size:=λd h=>b d (by rw[<-m];exact h)
  cases i with
  | call d q f xs=>
    obtain⟨D,op,ty,S,ad,gd⟩:=o;cases op<;>simp[cj,mOp] at e;rename_i c;obtain⟨callee,args,ab⟩:=c;cases callee with
    | value y =>
      cases y<;>simp at e;rename_i F;obtain⟨hf,L⟩:=e;simp only[ae,aC] at h;obtain⟨vs,B,h⟩:=h;unfold dN at h;split at h
      · rename_i l
        simp only[bV] at l;obtain⟨e1,e2⟩:=i8 j L B;cases O:cf f vs s.gh with
        |none=>simp[O] at h
        | some rg=>
          obtain⟨r,gh'⟩:=rg;simp only[O] at h;obtain⟨⟨fn,cd,H,G,I⟩,E⟩:=N f vs s.gh r gh' F O l hf;have U:s'=⟨eO s.env d r,s.lh,gh'⟩:=by
            split at h
            · split at h
              · rename_i he;cases h;rw[he]
              · cases h
            · cases h;rfl
          subst U;refine nW (g:=true) (args:=args.toList.map a.eval) (vs:=vs) (F:=F) (r:=r) (gh':=gh') j ?_ E (by simpa using e1) (λi p v u z=>?_) bh C ?_
          · have A:args.map a.eval=(List.map a.eval args.toList).toArray:=by apply Array.ext';simp
            have aA:a.eval (.func F)= .func (.func F) #[] #[]:=rfl;simp[execOp,resolve,Deferred.ofValue,invoke,aA,A,nV H G I]
          · simp only[aB,aE] at z
            obtain⟨y,hy,rfl⟩:=z;refine (e2 i p y u hy).repP ?_;exact l p (aL u)
          · rw[show D=d from m];exact hn
      · cases h
    |_=>simp at e
  | callv d q fv xs=>
    obtain⟨D,op,ty,S,ad,gd⟩:=o;cases op<;>simp[cj,mOp] at e;rename_i c;obtain⟨callee,args,ab⟩:=c;cases callee with
    | value y =>
      simp at e;obtain⟨an,L⟩:=e;simp only[ae] at h;split at h
      · rename_i f t X
        simp only[aC] at h;obtain⟨vs,B,h⟩:=h;obtain⟨F,us,hf,z,av,ap,T⟩:=(bt j an X).fnInv;unfold dN at h;split at h
        · rename_i l
          simp only[bV] at l;obtain⟨e1,e2⟩:=i8 j L B;cases O:cf f (vs++t) s.gh with
          |none=>simp[O] at h
          | some rg=>
            obtain⟨r,gh'⟩:=rg;simp only[O] at h;obtain⟨⟨fn,cd,H,G,I⟩,E⟩:=N f (vs++t) s.gh r gh' F O l hf;have U:s'=⟨eO s.env d r,s.lh,gh'⟩:=by
              split at h
              · split at h
                · rename_i he;cases h;rw[he]
                · cases h
              · cases h;rfl
            subst U;have al:(args.toList.map a.eval).length=vs.length:=by simpa using e1
            refine nW (g:=true) (args:=args.toList.map a.eval++us) (vs:=vs++t) (F:=F) (r:=r) (gh':=gh') j ?_ E (by simp only[aQ];omega) (λi p v u z=>?_) bh C ?_
            · have A:args.map a.eval=(List.map a.eval args.toList).toArray:=by apply Array.ext';simp
              simp[execOp,resolve,Deferred.ofValue,invoke,z,A,nV H G I]
            · by_cases hi:i<vs.length
              · rw[aI hi] at u
                rw[aI aj] at z;simp only[aB,aE] at z;obtain⟨y,hy,rfl⟩:=z;exact (e2 i p y u hy).repP (l p (aX _ (aL u)))
              · rw[aN aj] at u
                rw[aN aj,al] at z;exact T _ p v u z
            · rw[show D=d from m];exact hn
        · cases h
      · rename_i f t X
        simp only[aC] at h;obtain⟨vs,B,h⟩:=h;obtain⟨F,us,hf,z,av,ap,T⟩:=(bt j an X).bfnInv;unfold dN at h;split at h
        · rename_i l
          simp only[bV] at l;obtain⟨e1,e2⟩:=i8 j L B;cases O:cf f (t++vs) s.gh with
          |none=>simp[O] at h
          | some rg=>
            obtain⟨r,gh'⟩:=rg;simp only[O] at h;obtain⟨⟨fn,cd,H,G,I⟩,E⟩:=N f (t++vs) s.gh r gh' F O l hf;have U:s'=⟨eO s.env d r,s.lh,gh'⟩:=by
              split at h
              · split at h
                · rename_i he;cases h;rw[he]
                · cases h
              · cases h;rfl
            subst U;have al:(args.toList.map a.eval).length=vs.length:=by simpa using e1
            refine nW (g:=true) (args:=us++args.toList.map a.eval) (vs:=t++vs) (F:=F) (r:=r) (gh':=gh') j ?_ E (by simp only[aQ];omega) (λi p v u z=>?_) bh C ?_
            · have A:args.map a.eval=(List.map a.eval args.toList).toArray:=by apply Array.ext';simp
              simp[execOp,resolve,Deferred.ofValue,invoke,z,A,nV H G I]
            · by_cases hi:i<t.length
              · rw[aI hi] at u
                rw[aI aj] at z;exact T _ p v u z
              · rw[aN aj] at u
                rw[aN aj,av] at z;simp only[aB,aE] at z;obtain⟨y,hy,rfl⟩:=z;exact (e2 _ p y u hy).repP (l p (aY _ (aL u)))
            · rw[show D=d from m];exact hn
        · cases h
      · cases h
    |_=>simp at e
  | callE d fv xs =>
    obtain⟨D,op,ty,S,ad,gd⟩:=o;cases op<;>simp[cj,mOp] at e;rename_i c;obtain⟨callee,args,ab⟩:=c;cases callee with
    | value y =>
      simp at e;obtain⟨an,L⟩:=e;simp only[ae] at h;split at h
      · rename_i f t X
        simp only[aC] at h;obtain⟨vs,B,h⟩:=h;obtain⟨F,us,hf,z,av,ap,T⟩:=(bt j an X).fnInv;unfold qh at h;simp only[aC] at h;obtain⟨ws,aD,h⟩:=h;split at h
        · rename_i l
          obtain⟨aa,l,ax⟩:=l;simp only[bV] at l aa;obtain⟨e1,e2⟩:=i8 j L B;split at h
          · rename_i r O
            split at h
            · rename_i aG
              cases h;obtain⟨⟨fn,cd,H,G,I⟩,E⟩:=N f ws [] r [] F O l hf;have al:(args.toList.map a.eval).length=vs.length:=by simpa using e1
              refine Rh (args:=args.toList.map a.eval++us) (vs:=vs++t) (us:=ws) (F:=F) (r:=r) j ?_ E (by simp only[aQ];omega) (λi p v u z=>?_) aD ax aG C ?_
              · have A:args.map a.eval=(List.map a.eval args.toList).toArray:=by apply Array.ext';simp
                simp[execOp,resolve,Deferred.ofValue,invoke,z,A,nV H G I]
              · by_cases hi:i<vs.length
                · rw[aI hi] at u
                  rw[aI aj] at z;simp only[aB,aE] at z;obtain⟨y,hy,rfl⟩:=z;exact (e2 i p y u hy).repP (aa p (aX _ (aL u)))
                · rw[aN aj] at u
                  rw[aN aj,al] at z;exact T _ p v u z
              · rw[show D=d from m];exact hn
            · cases h
          · cases h
        · cases h
      · cases h
    |_=>simp at e
  | callF d f xs=>
    obtain⟨D,op,ty,S,ad,gd⟩:=o;cases op<;>simp[cj,mOp] at e;rename_i c;obtain⟨callee,args,ab⟩:=c;cases callee with
    | value y =>
      cases y<;>simp at e;rename_i F;obtain⟨hf,L⟩:=e;simp only[ae,aC] at h;obtain⟨vs,B,h⟩:=h;unfold jC at h;split at h
      · rename_i l
        obtain⟨l,ax⟩:=l;simp only[bV] at l;obtain⟨e1,e2⟩:=i8 j L B;split at h
        · rename_i r O
          split at h
          · rename_i aF
            cases h;obtain⟨⟨fn,cd,H,G,I⟩,E⟩:=N f vs [] r [] F O l hf;refine nW (g:=false) (args:=args.toList.map a.eval) (vs:=vs) (F:=F) (r:=r) (gh':=[]) j ?_ E (by simpa using e1) (λi p v u z=>?_) (λ_=>⟨ax,aF⟩) C ?_
            · have A:args.map a.eval=(List.map a.eval args.toList).toArray:=by apply Array.ext';simp
              have aA:a.eval (.func F)= .func (.func F) #[] #[]:=rfl;simp[execOp,resolve,Deferred.ofValue,invoke,aA,A,nV H G I]
            · simp only[aB,aE] at z
              obtain⟨y,hy,rfl⟩:=z;refine (e2 i p y u hy).repP ?_;exact l p (aL u)
            · rw[show D=d from m];exact hn
          · cases h
        · cases h
      · cases h
    |_=>simp at e
  | callP d f xs ns=>
    obtain⟨D,op,ty,S,ad,gd⟩:=o;cases op<;>simp[cj,mOp] at e;rename_i c;obtain⟨callee,args,ab⟩:=c;cases callee with
    | value y=>
      cases y<;>simp at e;rename_i F;simp only[ae,aC] at h;obtain⟨vs,B,s1,h1,R⟩:=h;split at R
      · cases R
        exact xn N j rfl e.1 e.2 m C B h1 hn
      · cases R
    |_=>simp at e
  | callR d f xs n o2=>
    obtain⟨D,op,ty,S,ad,gd⟩:=o;cases op<;>simp[cj,mOp] at e;rename_i c;obtain⟨callee,args,ab⟩:=c;cases callee with
    | value y=>
      cases y<;>simp at e;rename_i F;simp only[ae,aC] at h;obtain⟨vs,B,h⟩:=h;split at h
      · unfold fV at h
        simp only[aC] at h;obtain⟨s1,h1,_,_,_,_,_,_,_,_,R⟩:=h;split at R
        · cases R
          exact xn N j rfl e.1 e.2 m C B h1 hn
        · cases R
      · cases h
    |_=>simp at e
  |appendE=>exact (Rf (cf:=cf) j (by simpa [cj] using e) m (b _ rfl) h).wp hn
  |loadKB=>simp[ae] at h
  |loadTB d x n o2=>exact (sI (cf:=cf) ⟨j,by simpa [cj] using e,m,b⟩ (Fq h)).wp hn
  | loadB d agg k x n=>
    have R:ae cf s (.load d agg k x)=some s':=by
      simp only[ae] at h ⊢;split at h
      · rename_i u _
        split at h
        · rw[u];exact h
        · cases h
      · rename_i u _
        rw[u];exact h
      · cases h
    exact (sim_load' (cf:=cf) ⟨j,by simpa [cj] using e,m,b⟩ R).wp hn
  | loadJ d agg k x=>
    have R:ae cf s (.load d agg k x)=some s':=by
      simp only[ae] at h ⊢;split at h
      · rename_i u
        rw[u];exact h
      · cases h
    exact (sim_load' (cf:=cf) ⟨j,by simpa [cj] using e,m,b⟩ R).wp hn
  |appendP=>simp[ae] at h
  |storeP=>simp[ae] at h
  |mkarr=>simp[ae] at h
  |buildA=>simp[ae] at h
  |boxSl=>simp[ae] at h
  |loadN=>simp[ae] at h
  | loadL d x=>
    have R:ae cf s (.loadT d x)=some s':=by
      simp only[ae] at h ⊢;split at h
      · rename_i u
        rw[u];exact h
      · cases h
    exact (sI (cf:=cf) ⟨j,by simpa [cj] using e,m,b⟩ R).wp hn
  |mvF=>exact (QZ ⟨j,by simpa [cj] using e,m,b⟩ h).wp hn
  |loadM=>exact (Q5 (cf:=cf) ⟨j,by simpa [cj] using e,m,b⟩ h).wp hn
  |loadS=>exact (Q4 (cf:=cf) ⟨j,by simpa [cj] using e,m,b⟩ h).wp hn
  |mvS=>exact (Q3 (cf:=cf) ⟨j,by simpa [cj] using e,m,b⟩ h).wp hn
  |mv=>exact (D7 ⟨j,by simpa [cj] using e,m,b⟩ h).wp hn
  |tkS=>simp[ae] at h
  |tk=>exact (D8 ⟨j,by simpa [cj] using e,m,b⟩ h).wp hn
  |pick=>exact (D9 ⟨j,by simpa [cj] using e,m,b⟩ h).wp hn
  |box=>exact (Ea ⟨j,by simpa [cj] using e,m,b⟩ h).wp hn
  |alloc=>exact (Eb ⟨j,by simpa [cj] using e,m,b⟩ h).wp hn
  |build=>exact (EI ⟨j,by simpa [cj] using e,m,b⟩ h).wp hn
  |buildT=>exact (xf ⟨j,by simpa [cj] using e,m,b⟩ h).wp hn
  |buildSlF=>exact (Q9 (cf:=cf) j (by simpa [cj] using e) m (b _ rfl) h).wp hn
  |buildSl=>exact (EK ⟨j,by simpa [cj] using e,m,b⟩ h).wp hn
  |load=>exact (sim_load ⟨j,by simpa [cj] using e,m,b⟩ h).wp hn
  |loadT=>exact (sI ⟨j,by simpa [cj] using e,m,b⟩ h).wp hn
  |store=>exact (Ee ⟨j,by simpa [cj] using e,m,b⟩ h).wp hn
  |nilc=>exact (Ef ⟨j,by simpa [cj] using e,m,b⟩ h).wp hn
  |bin=>exact (Eg ⟨j,by simpa [cj] using e,m,b⟩ h).wp hn
  |eqa=>exact (Eh ⟨j,by simpa [cj] using e,m,b⟩ h).wp hn
  |eqb=>exact (Q6 ⟨j,by simpa [cj] using e,m,b⟩ h).wp hn
  |eqn=>exact (Ei ⟨j,by simpa [cj] using e,m,b⟩ h).wp hn
  |un=>exact (Ej ⟨j,by simpa [cj] using e,m,b⟩ h).wp hn
  |conv=>exact (Ek ⟨j,by simpa [cj] using e,m,b⟩ h).wp hn
  |mkfn=>exact (El ⟨j,by simpa [cj] using e,m,b⟩ h).wp hn
  |mkbf=>exact (Em ⟨j,by simpa [cj] using e,m,b⟩ h).wp hn
  |lenD=>exact (Ra j (by simpa [cj] using e) m (b _ rfl) h).wp hn
  |iaddrD=>exact (Rb j (by simpa [cj] using e) m (b _ rfl) h).wp hn
  |faddrD=>exact (Rc j (by simpa [cj] using e) m (b _ rfl) h).wp hn
  |paddrD=>exact (Rd j (by simpa [cj] using e) m (b _ rfl) h).wp hn
  |storeD=>exact (Re j (by simpa [cj] using e) m h).wp hn
  |storeK=>exact (EP j (by simpa [cj] using e) m h).wp hn
  |clearK=>exact (Q8 j (by simpa [cj] using e) m h).wp hn
  |loadG=>exact (Ed ⟨j,by simpa [cj] using e,m,b⟩ h).wp hn
  |boxB=>exact (Ep ⟨j,by simpa [cj] using e,m,b⟩ h).wp hn
  |mkbld=>simp[ae] at h
  |mkmap=>exact (En ⟨j,by simpa [cj] using e,m,b⟩ h).wp hn
  |mksl=>exact (EE ⟨j,by simpa [cj] using e,m,b⟩ h).wp hn
  |slice=>exact (Er ⟨j,by simpa [cj] using e,m,b⟩ h).wp hn
  |sliceS=>exact (Es ⟨j,by simpa [cj] using e,m,b⟩ h).wp hn
  |faddr=>exact (Et ⟨j,by simpa [cj] using e,m,b⟩ h).wp hn
  |field=>simp[ae] at h
  |iaddr=>exact (Ev ⟨j,by simpa [cj] using e,m,b⟩ h).wp hn
  |index=>exact (Ew ⟨j,by simpa [cj] using e,m,b⟩ h).wp hn
  |indexS=>exact (Ex ⟨j,by simpa [cj] using e,m,b⟩ h).wp hn
  |lookup=>exact (Ey ⟨j,by simpa [cj] using e,m,b⟩ h).wp hn
  |mupd=>exact (Ez ⟨j,by simpa [cj] using e,m,b⟩ h).wp hn
  |len=>exact (EA ⟨j,by simpa [cj] using e,m,b⟩ h).wp hn
  |append=>exact (EB ⟨j,by simpa [cj] using e,m,b⟩ h).wp hn
  |appendK=>exact (EM j (by simpa [cj] using e) m (b _ rfl) h).wp hn
  |appendN=>simp[ae] at h
  |loadH=>simp[ae] at h
  |loadK=>exact (xk j (by simpa [cj] using e) m (b _ rfl) h).wp hn
  |buildSlK=>exact (EO j (by simpa [cj] using e) m (b _ rfl) h).wp hn
  |maxi=>simp[ae] at h
  |extract=>exact (EC ⟨j,by simpa [cj] using e,m,b⟩ h).wp hn
end
end
end Go.Lw