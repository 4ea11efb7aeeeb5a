/-
  The texts that the proof stands on, part 13.
-/
import Derived.Test.YtmodipglnngghabExploreAllsL
import Derived.Tactics
set_option linter.unusedVariables false
set_option linter.unusedSimpArgs false
set_option linter.unnecessarySimpa false

set_option maxRecDepth 100000
set_option maxHeartbeats 4000000
namespace Go.Lw
open Go
section
open Go.RowKit
section
variable {fi:FI} {M M':Mem} {w w':World} {P:Program} {s s':St} {a:Act} {cf:CallF}
def fQ (P:Program) (fi:FI) (F:Nat) (vs:List PV) (gh:List GObj) (r:PV) (gh':List GObj):Prop:=
  ∀ (M:Mem) (w:World) (args:List Value),GI fi M w gh->M.lb=[]->(∀b l,M.own b=some l->∃i j,l= .gh i j)->args.length=vs.length->
    (∀(i:Nat) (p:PV) (v:Value),vs[i]?=some p->args[i]?=some v->RepP fi M w p v)->
    Calls P F args.toArray w λe w'=>∃v M',e= .returned v/\GI fi M' w' gh'/\M'.lb=[]/\ai r=true/\RepAt fi M' w' Loc.res r v/\Kp M w M' w'
def hU (P:Program) (fi:FI) (cf:CallF):Prop:=
  ∀ f vs gh r gh' F,cf f vs gh=some (r,gh')->(∀p∈vs,ak p=true)->fi f=some F->
    (∃ fn c, P.funcs[F]? = some fn ∧ (fn.name == "runtime.NumGoroutine") = false ∧ fn.body = some c) ∧ fQ P fi F vs gh r gh'
def ck (P:Program) (fi:FI) (i:IOp) (op:Op):Bool:=
  match i,op with
  | .call _ _ f xs,.call {callee:= .value (.func F),args,.. }| .callP _ f xs _,.call {callee:= .value (.func F),args,.. }| .callR _ f xs _ _,.call {callee:= .value (.func F),args,.. }| .callF _ f xs,.call {callee:= .value (.func F),args,.. }=>fi f==some F&&mXs fi xs args.toList
  | .callv _ _ fv xs,.call {callee:= .value y,args,.. }| .callE _ fv xs,.call {callee:= .value y,args,.. }=>mX fi fv y&&mXs fi xs args.toList
  | .loadN d agg k x _,op=>mOp P fi (.load d agg k x) op
  | .loadL d x,op=>mOp P fi (.loadT d x) op
  | .appendE d bytes y x,op=>mOp P fi (.append d 1 bytes y x) op
  | .loadKB d x _,op=>mOp P fi (.load d false 1 x) op
  | .loadTB d x _ _,op=>mOp P fi (.loadT d x) op
  | .loadB d agg k x _,op=>mOp P fi (.load d agg k x) op
  | .loadJ d agg k x,op=>mOp P fi (.load d agg k x) op
  | .appendP d bytes y x _,op=>mOp P fi (.append d 1 bytes y x) op
  | .mkarr d z bytes zero l,op=>mOp P fi (.mksl d true z bytes zero l) op
  | .buildA d z ps,op=>mOp P fi (.buildT d z ps) op
  | .appendK d bytes y x,op=>mOp P fi (.append d 1 bytes y x) op
  | .appendN d bytes y x,op=>mOp P fi (.append d 1 bytes y x) op
  | .buildSlK d els,op=>mOp P fi (.buildSl d 1 els) op
  | .boxSl d z els,op=>mOp P fi (.buildSl d z els) op
  | .loadK d x,op=>mOp P fi (.load d false 1 x) op
  | .loadH d x,op=>mOp P fi (.load d false 1 x) op
  | .storeP tk k y x _,op=>mOp P fi (.store tk k y x) op
  | .storeK y x,op=>mOp P fi (.store false 1 y x) op
  | .cally _ fv xs,.call {callee:= .value y,args,.. }=>mX fi fv y&&mXs fi xs args.toList
  |i,op=>mOp P fi i op
def IOp.isY:IOp->Bool
  | .cally _ _ _=>true
  |_=>false
theorem lx {F : Nat} {fn : Func} {c : Code} (hf : P.funcs[F]? = some fn) (hn : (fn.name == "runtime.NumGoroutine") = false) (hb : fn.body = some c) (args : Array Value) (w : World) :
    (callFunc F args).run P w= .ok (.enter F args) w:=by
  have h1 : fn.name ≠ "runtime.NumGoroutine" := by simpa using hn
  simp[callFunc,hf,h1,hb]
theorem RepE.fnInv {f:Nat} {cs:List PV} {v:Value} (h:RepE fi M w (.fn f cs) v):∃F vs,fi f=some F/\v= .func (.func F) #[] (vs:List Value).toArray/\vs.length=cs.length/\cs.all ak=true/\
    ∀(i:Nat) (c:PV) (u:Value),cs[i]?=some c->vs[i]?=some u->RepP fi M w c u:=by
  cases (show RepP fi M w (.fn f cs) v from h) with
  |fn _ F _ vs hf hl h1 h2=>exact⟨F,vs,hf,rfl,hl,h1,h2⟩
theorem RepE.bfnInv {f:Nat} {cs:List PV} {v:Value} (h:RepE fi M w (.bfn f cs) v):∃F vs,fi f=some F/\v= .func (.func F) (vs:List Value).toArray #[]/\vs.length=cs.length/\cs.all ak=true/\
    ∀(i:Nat) (c:PV) (u:Value),cs[i]?=some c->vs[i]?=some u->RepP fi M w c u:=by
  cases (show RepP fi M w (.bfn f cs) v from h) with
  |bfn _ F _ vs hf hl h1 h2=>exact⟨F,vs,hf,rfl,hl,h1,h2⟩
theorem nh {g:Bool} {p:PV} {v:Value} (h:RepP fi M w p v) (hg:g=false->p.noG=true):RepP fi (M.callee g) w p v:=by
  cases hgb:g with
  |true=>subst hgb;exact h.mono (show Ext M w (M.callee true) w from⟨λ_ _ h=>h,λ_ _ h=>h,λ_ _ _=>rfl,λ_ _=>⟨cM _,λ_=>rfl⟩⟩)
  | false=>
    subst hgb;exact (h.noG [] M.st (hg rfl)).mono (show Ext {M with gb:=[],st:=M.st } w (M.callee false) w from⟨λ_ _ h=>h,λ_ _ h=>h,λ_ _ _=>rfl,λ_ _=>⟨cM _,λ_=>rfl⟩⟩)
def ro:Option Nat->Nat->Loc
  |some d=>Loc.env d
  |none=>Loc.lim
theorem ni (hI:Inv fi M w s a) {o:Oper} {F:Nat} {args:List Value} {vs:List PV} {g:Bool} {r:PV} {gh':List GObj} (hrun:(execOp a.eval o).run P w= .ok (.enter F args.toArray) w)
    (hok:fQ P fi F vs (if g then s.gh else []) r gh') (hl:args.length=vs.length) (hr:∀(i:Nat) (p:PV) (v:Value),vs[i]?=some p->args[i]?=some v->RepP fi M w p v) (hg:g=false->dj vs=true/\r.noG=true)
    (hlt:∀d,o.dst=some d->d<a.tmps.size) {next:Act->World->Prop} {Q:Exit->Act->World->Prop}
    (hn:∀a' M' w',Inv fi M' w' ⟨fj s.env o.dst r,s.lh,if g then gh' else s.gh⟩ a'->Kp M w M' w'->a'.tmps.size=a.tmps.size->next a' w'):o.wp P a w next Q:=by
  unfold Oper.wp;rw[hrun,Oper.upon_enter];obtain⟨c1,c2,c3⟩:=hI.callee g;refine Calls.mono (hok (M.callee g) w args c1 c2 c3 hl (λi p v hp hv=>nh (hr i p v hp hv) (λe=>gj (hg e).1 hp))) ?_;rintro e w2 ⟨v,M2,rfl,hG,hlb,hrok,hrep,hk⟩;obtain⟨b1,b2,b3⟩:=hI.back g (ro o.dst) (λi=>by cases o.dst<;>rfl) hG hlb hk hrep (λe=>(hg e).2) hrok;simp only;cases hd:o.dst with
  | none=>
    rw[hd] at b1 b2 b3 hn;exact hn _ _ _ b1 b2 rfl
  | some d=>
    rw[hd] at b1 b2 b3 hn;exact hn _ _ _ (b1.put (hlt d hd) b3) b2 (by simp[Act.put])
theorem Sim.wp {o:Oper} (h:Sim P fi o M w s' a) {next:Act->World->Prop} {Q:Exit->Act->World->Prop}
    (hn:∀a' M' w',Inv fi M' w' s' a'->Kp M w M' w'->a'.tmps.size=a.tmps.size->next a' w'):o.wp P a w next Q:=by
  obtain⟨n,v,M',w',h1,h2,h3,h4⟩:=h;unfold Oper.wp;rw[h1];have hs:(a.put o.dst v).tmps.size=a.tmps.size:=by cases o.dst<;>simp[Act.put]
  rcases h2 with rfl|⟨rfl,rfl⟩
  · exact hn _ _ _ h3 h4 hs
  · exact hn _ _ _ h3 h4 hs
theorem sim_load' {o:Oper} {d:Nat} {agg:Bool} {k:Nat} {x:IX} (A:dr P fi M w s a o (.load d agg k x)) (h:ae cf s (.load d agg k x)=some s'):Sim P fi o M w s' a:=sim_load A h
theorem Inv.still (hI:Inv fi M w s a) (hsz:w.heap.size<=w'.heap.size) (hb:∀k,k<w.heap.size->w'.heap[k]?=w.heap[k]?) (h1:w'.os=w.os) (h2:w'.tape=w.tape) (h3:w'.output=w.output):Inv fi M w' s a/\Kp M w M w':=by
  have hext:Ext M w M w':=⟨λ_ _ h=>h,λ_ _ h=>h,λb k h=>World.cell?_of_block (w:=w) (hb b (hI.immlt b k h)),λ_ _=>⟨cM _,λ_=>rfl⟩⟩
  have G:Good M w M w' (λ_=>False) (λ_=>False):=
    ⟨hext,hsz,λ_ _ h=>h,λb l h _=>⟨h,hb b (hI.ownlt b l h),λ_ h=>h,λh=>h,λh=>h⟩,λb hlt _ h=>⟨hb b hlt,λ_ h=>h,h⟩,λ_ _=>rfl⟩
  exact⟨⟨λt u hu=>⟨(hI.env t u hu).1,(hI.env t u hu).2.good G (λi h=>h)⟩,hI.defers,hI.lbl,hI.gbl,hI.nodup,λi cs blk g1 g2=>(hI.lh i cs blk g1 g2).good G (λh=>h) (λi h=>h),
    λi o blk g1 g2=>(hI.gh i o blk g1 g2).good G (λh=>h) (λj h=>h),hext.gl hI.gl,λb k h=>aS (hI.immlt b k h) hsz,λb l h=>aS (hI.ownlt b l h) hsz,λb h=>aS (hI.gblt b h) hsz⟩,
    ⟨h1,h2,h3,hsz,hext,λk hlt _ _ _=>hb k hlt,λ_ h=> .inl h,λ_ h=> .inl h,λ_ _ h=>h,λ_ _ h=> .inl h,.same rfl⟩⟩
theorem xF (hcf :hU P fi cf) {i:IOp} (hny:i.isY=false) (hI:Inv fi M w s a) {o:Oper} (hm:ck P fi i o.op=true) (hd:o.dst=bi i) (hlt:∀d,bi i=some d->d<a.tmps.size) (h:ae cf s i=some s')
    {next:Act->World->Prop} {Q:Exit->Act->World->Prop} (hn:∀a' M' w',Inv fi M' w' s' a'->Kp M w M' w'->a'.tmps.size=a.tmps.size->next a' w'):o.wp P a w next Q:=by
  have hlt':∀d,o.dst=some d->d<a.tmps.size:=λd h=>hlt d (by rw[<-hd];exact h)
  cases i with
  | call d q f xs=>
    obtain⟨dst,op,ty,pos,aft,gd⟩:=o;cases op<;>simp[ck,mOp] at hm;rename_i c;obtain⟨callee,args,ats⟩:=c;cases callee with
    | value y =>
      cases y<;>simp at hm;rename_i F;obtain⟨hf,hxs⟩:=hm;simp only[ae,aC] at h;obtain⟨vs,hvs,h⟩:=h;unfold eh at h;split at h
      · rename_i hall
        simp only[bR] at hall;obtain⟨e1,e2⟩:=i9 hI hxs hvs;cases hc:cf f vs s.gh with
        |none=>simp[hc] at h
        | some rg=>
          obtain⟨r,gh'⟩:=rg;simp only[hc] at h;obtain⟨⟨fn,cd,hfn,hnm,hbd⟩,hok⟩:=hcf f vs s.gh r gh' F hc hall hf;have hs':s'=⟨fj s.env d r,s.lh,gh'⟩:=by
            split at h
            · split at h
              · rename_i he;cases h;rw[he]
              · cases h
            · cases h;rfl
          subst hs';refine ni (g:=true) (args:=args.toList.map a.eval) (vs:=vs) (F:=F) (r:=r) (gh':=gh') hI ?_ hok (by simpa using e1) (λi p v hp hv=>?_) (by simp) hlt' ?_
          · have hcap:args.map a.eval=(List.map a.eval args.toList).toArray:=by apply Array.ext';simp
            have hev:a.eval (.func F)= .func (.func F) #[] #[]:=rfl;simp[execOp,resolve,Deferred.ofValue,invoke,hev,hcap,lx hfn hnm hbd]
          · simp only[aB,aE] at hv
            obtain⟨y,hy,rfl⟩:=hv;refine (e2 i p y hp hy).repP ?_;exact hall p (aP hp)
          · rw[show dst=d from hd];exact hn
      · cases h
    |_=>simp at hm
  | callv d q fv xs=>
    obtain⟨dst,op,ty,pos,aft,gd⟩:=o;cases op<;>simp[ck,mOp] at hm;rename_i c;obtain⟨callee,args,ats⟩:=c;cases callee with
    | value y =>
      simp at hm;obtain⟨hfv,hxs⟩:=hm;simp only[ae] at h;split at h
      · rename_i f caps hcl
        simp only[aC] at h;obtain⟨vs,hvs,h⟩:=h;obtain⟨F,us,hf,hv,hul,hcok,hur⟩:=(bj hI hfv hcl).fnInv;unfold eh at h;split at h
        · rename_i hall
          simp only[bR] at hall;obtain⟨e1,e2⟩:=i9 hI hxs hvs;cases hc:cf f (vs++caps) s.gh with
          |none=>simp[hc] at h
          | some rg=>
            obtain⟨r,gh'⟩:=rg;simp only[hc] at h;obtain⟨⟨fn,cd,hfn,hnm,hbd⟩,hok⟩:=hcf f (vs++caps) s.gh r gh' F hc hall hf;have hs':s'=⟨fj s.env d r,s.lh,gh'⟩:=by
              split at h
              · split at h
                · rename_i he;cases h;rw[he]
                · cases h
              · cases h;rfl
            subst hs';have hvl:(args.toList.map a.eval).length=vs.length:=by simpa using e1
            refine ni (g:=true) (args:=args.toList.map a.eval++us) (vs:=vs++caps) (F:=F) (r:=r) (gh':=gh') hI ?_ hok (by simp only[aV];omega) (λi p v hp hv=>?_) (by simp) hlt' ?_
            · have hcap:args.map a.eval=(List.map a.eval args.toList).toArray:=by apply Array.ext';simp
              simp[execOp,resolve,Deferred.ofValue,invoke,hv,hcap,lx hfn hnm hbd]
            · by_cases hi:i<vs.length
              · rw[aJ hi] at hp
                rw[aJ (by omega)] at hv;simp only[aB,aE] at hv;obtain⟨y,hy,rfl⟩:=hv;exact (e2 i p y hp hy).repP (hall p (bC _ (aP hp)))
              · rw[aR (by omega)] at hp
                rw[aR (by omega),hvl] at hv;exact hur _ p v hp hv
            · rw[show dst=d from hd];exact hn
        · cases h
      · rename_i f caps hcl
        simp only[aC] at h;obtain⟨vs,hvs,h⟩:=h;obtain⟨F,us,hf,hv,hul,hcok,hur⟩:=(bj hI hfv hcl).bfnInv;unfold eh at h;split at h
        · rename_i hall
          simp only[bR] at hall;obtain⟨e1,e2⟩:=i9 hI hxs hvs;cases hc:cf f (caps++vs) s.gh with
          |none=>simp[hc] at h
          | some rg=>
            obtain⟨r,gh'⟩:=rg;simp only[hc] at h;obtain⟨⟨fn,cd,hfn,hnm,hbd⟩,hok⟩:=hcf f (caps++vs) s.gh r gh' F hc hall hf;have hs':s'=⟨fj s.env d r,s.lh,gh'⟩:=by
              split at h
              · split at h
                · rename_i he;cases h;rw[he]
                · cases h
              · cases h;rfl
            subst hs';have hvl:(args.toList.map a.eval).length=vs.length:=by simpa using e1
            refine ni (g:=true) (args:=us++args.toList.map a.eval) (vs:=caps++vs) (F:=F) (r:=r) (gh':=gh') hI ?_ hok (by simp only[aV];omega) (λi p v hp hv=>?_) (by simp) hlt' ?_
            · have hcap:args.map a.eval=(List.map a.eval args.toList).toArray:=by apply Array.ext';simp
              simp[execOp,resolve,Deferred.ofValue,invoke,hv,hcap,lx hfn hnm hbd]
            · by_cases hi:i<caps.length
              · rw[aJ hi] at hp
                rw[aJ (by omega)] at hv;exact hur _ p v hp hv
              · rw[aR (by omega)] at hp
                rw[aR (by omega),hul] at hv;simp only[aB,aE] at hv;obtain⟨y,hy,rfl⟩:=hv;exact (e2 _ p y hp hy).repP (hall p (bD _ (aP hp)))
            · rw[show dst=d from hd];exact hn
        · cases h
      · cases h
    |_=>simp at hm
  |callE=>simp[ae] at h
  |callF=>simp[ae] at h
  |callP=>simp[ae] at h
  |callR=>simp[ae] at h
  |cally=>cases hny
  |appendE=>simp[ae] at h
  |loadKB=>simp[ae] at h
  |loadTB=>simp[ae] at h
  | loadB d agg k x n=>
    have h2:ae cf s (.load d agg k x)=some s':=by
      simp only[ae] at h ⊢;split at h
      · rename_i hp _
        split at h
        · rw[hp];exact h
        · cases h
      · rename_i hp _
        rw[hp];exact h
      · cases h
    exact (sim_load' (cf:=cf) ⟨hI,by simpa [ck] using hm,hd,hlt⟩ h2).wp hn
  |loadJ=>simp[ae] at h
  |appendP=>simp[ae] at h
  | storeP tk k y x ns=>
    simp only[ae,aC] at h;obtain⟨s1,h1,h2⟩:=h;split at h2
    · cases h2
      exact (ra (cf:=cf) (s':=s') ⟨hI,by simpa [ck] using hm,hd,hlt⟩ h1).wp hn
    · cases h2
  |mkarr=>simp[ae] at h
  |buildA=>simp[ae] at h
  |boxSl=>simp[ae] at h
  |loadN=>simp[ae] at h
  |loadL=>simp[ae] at h
  |mv=>exact (wV ⟨hI,by simpa [ck] using hm,hd,hlt⟩ h).wp hn
  |tkS=>exact (xE ⟨hI,by simpa [ck] using hm,hd,hlt⟩ h).wp hn
  |tk=>exact (wW ⟨hI,by simpa [ck] using hm,hd,hlt⟩ h).wp hn
  |pick=>exact (wX ⟨hI,by simpa [ck] using hm,hd,hlt⟩ h).wp hn
  |box=>exact (wY ⟨hI,by simpa [ck] using hm,hd,hlt⟩ h).wp hn
  |alloc=>exact (wZ ⟨hI,by simpa [ck] using hm,hd,hlt⟩ h).wp hn
  |build=>exact (xx ⟨hI,by simpa [ck] using hm,hd,hlt⟩ h).wp hn
  |buildT=>exact (xz ⟨hI,by simpa [ck] using hm,hd,hlt⟩ h).wp hn
  |buildSl=>exact (xA ⟨hI,by simpa [ck] using hm,hd,hlt⟩ h).wp hn
  |load=>exact (sim_load ⟨hI,by simpa [ck] using hm,hd,hlt⟩ h).wp hn
  |loadT=>exact (w4 ⟨hI,by simpa [ck] using hm,hd,hlt⟩ h).wp hn
  |store=>exact (ra ⟨hI,by simpa [ck] using hm,hd,hlt⟩ h).wp hn
  |nilc=>exact (w6 ⟨hI,by simpa [ck] using hm,hd,hlt⟩ h).wp hn
  |bin=>exact (w7 ⟨hI,by simpa [ck] using hm,hd,hlt⟩ h).wp hn
  |eqa=>exact (w8 ⟨hI,by simpa [ck] using hm,hd,hlt⟩ h).wp hn
  |eqb=>exact (w9 ⟨hI,by simpa [ck] using hm,hd,hlt⟩ h).wp hn
  |eqn=>simp[ae] at h
  |un=>exact (xa ⟨hI,by simpa [ck] using hm,hd,hlt⟩ h).wp hn
  |conv=>simp[ae] at h
  |mkfn=>exact (xc ⟨hI,by simpa [ck] using hm,hd,hlt⟩ h).wp hn
  |mkbf=>simp[ae] at h
  |storeK=>simp[ae] at h
  |clearK=>simp[ae] at h
  |loadG=>simp[ae] at h
  |boxB=>simp[ae] at h
  |mkbld=>simp[ae] at h
  |mkmap=>exact (xd ⟨hI,by simpa [ck] using hm,hd,hlt⟩ h).wp hn
  |mksl=>exact (xr ⟨hI,by simpa [ck] using hm,hd,hlt⟩ h).wp hn
  |slice=>exact (xe ⟨hI,by simpa [ck] using hm,hd,hlt⟩ h).wp hn
  |sliceS=>simp[ae] at h
  |faddr=>exact (xf ⟨hI,by simpa [ck] using hm,hd,hlt⟩ h).wp hn
  |field=>simp[ae] at h
  |iaddr=>exact (xh ⟨hI,by simpa [ck] using hm,hd,hlt⟩ h).wp hn
  |index=>exact (xi ⟨hI,by simpa [ck] using hm,hd,hlt⟩ h).wp hn
  |indexS=>simp[ae] at h
  |lookup=>exact (xj ⟨hI,by simpa [ck] using hm,hd,hlt⟩ h).wp hn
  |mupd=>exact (xk ⟨hI,by simpa [ck] using hm,hd,hlt⟩ h).wp hn
  |len=>exact (xm ⟨hI,by simpa [ck] using hm,hd,hlt⟩ h).wp hn
  |append=>exact (xn ⟨hI,by simpa [ck] using hm,hd,hlt⟩ h).wp hn
  |appendK=>simp[ae] at h
  |appendN=>simp[ae] at h
  |loadH=>simp[ae] at h
  |loadK=>simp[ae] at h
  |buildSlK=>simp[ae] at h
  |maxi=>simp[ae] at h
  |extract=>exact (xp ⟨hI,by simpa [ck] using hm,hd,hlt⟩ h).wp hn
end
end
def eH:List (Int×Int):=[(4,1),(5,1),(6,2),(7,2),(8,2),(9,2),(10,2),(11,2),(12,2),(13,2),(14,2),(15,2),(16,3),(17,3),(18,3),(19,4),(20,5),(21,6),(22,7),(23,7)]
theorem gP (gh:List GObj):ac pg 61 [] gh=some (.mp gh.length,gh++[.map (bn eH)]):=by
 refine ao (fn:=q8o) (s:=⟨[(0,.mp gh.length)],[],gh++[.map (bn eH)]⟩) rfl rfl (qg5 ?h) ?r
 case h=>
  rw[show ([.map []]:List GObj)=[.map (bn [])] from rfl]
  repeat rw[nX]
  rfl
 case r=>simp[al,results,q8o,am,aq,ai]
def eI (k:Int):Option Int:=
 if k<4 then none else if k<6 then some 1 else if k<16 then some 2 else if k<19 then some 3 else if k=19 then some 4 else if k=20 then some 5
 else if k=21 then some 6 else if k<24 then some 7 else none
theorem tb (k:Int):bq eH k=eI k:=by
 by_cases h:4<=k/\k<24
 ·obtain⟨n,rfl⟩:∃n:Fin 20,k=4+(n.val:Int):=⟨⟨(k-4).toNat,by omega⟩,by simp;omega⟩
  revert n;decide
 ·have:∀l:List (Int×Int),(∀x∈l,4<=x.1/\x.1<24)->bq l k=none:=by
   intro l
   induction l with
   |nil=>intro;rfl
   |cons x l ih=>
    intro hx;have h1:=hx x (by simp);have h2:=ih λy hy=>hx y (by simp[hy])
    obtain⟨a,u⟩:=x;rw[bq,if_neg,h2];rintro rfl;exact h h1
  rw[this _ (by decide),eI];split
  ·rfl
  ·repeat rw[if_neg (by omega)]
def ba (k:Int):Int:=
 if k<4 then 0 else if k<6 then 1 else if k<19 then 2 else if k=19 then 3 else if k=20 then 2 else if k<24 then 1 else 0
theorem gt (k:Int) (gh:List GObj):ac pg 63 [I k] gh=some (I (ba k),gh):=by
 have hk:ac pg 63 [I k] gh=some (I (let n:=(eI k).getD 0;if n=0 then 0 else if n=1\/n=6\/n=7 then 1 else if n=4 then 3 else 2),gh):=by
  have hf:=tb k;cases hs:eI k with
  |none=>
   rw[hs] at hf;refine ao (fn:=qk) (s:=?s0) rfl rfl (q38 ?h0) ?r0
   case h0=>simp[gP,hf];rfl
   case r0=>simp[al,results,qk,am,aq,ai]
  | some n=>
   rw[hs] at hf;by_cases h0:n=0
   ·refine ao (fn:=qk) (s:=?s1) rfl rfl (q38 ?h1) ?r1
    case h1=>simp[gP,hf,h0];rfl
    case r1=>simp[al,results,qk,am,aq,ai,h0]
   by_cases h1:n=1\/n=6\/n=7
   ·refine ao (fn:=qk) (s:=⟨[(2,I 1)],[],gh++[.map (bn eH)]⟩) rfl rfl (q38 ?h2) ?r2
    case h2=>
     have:=q8u (pg:=pg) (gh:=gh++[.map (bn eH)]) (x5:=n) (b8:=true) (e:= .ret) (s:=⟨[(2,I 1)],[],gh++[.map (bn eH)]⟩) rfl;rcases h1 with rfl|rfl|rfl<;>simp[gP,hf,this]
    case r2=>simp[al,results,qk,am,aq,ai,h0,h1]
   ·by_cases h4:n=4
    ·refine ao (fn:=qk) (s:=⟨[(2,I 3)],[],gh++[.map (bn eH)]⟩) rfl rfl (q38 ?h3) ?r3
     case h3=>
      subst h4;have:=q8u (pg:=pg) (gh:=gh++[.map (bn eH)]) (x5:=4) (b8:=false) (e:= .ret) (s:=⟨[(2,I 3)],[],gh++[.map (bn eH)]⟩) rfl;simp[gP,hf,this]
     case r3=>simp[al,results,qk,am,aq,ai,h0,h4]
    ·simp only[not_or] at h1
     refine ao (fn:=qk) (s:=⟨[(2,I 2)],[],gh++[.map (bn eH)]⟩) rfl rfl (q38 ?h5) ?r5
     case h5=>
      have:=q8u (pg:=pg) (gh:=gh++[.map (bn eH)]) (x5:=n) (b8:=false) (e:= .normal) (s:=⟨[(12,B false)],[],gh++[.map (bn eH)]⟩) (by simp[h4]);have h2:=qg1 (pg:=pg) (gh:=gh++[.map (bn eH)]) (b12:=false) (e:= .ret) (s:=⟨[(2,I 2)],[],gh++[.map (bn eH)]⟩) rfl;simp[gP,hf,h0,h1,this,h2]
     case r5=>simp[al,results,qk,am,aq,ai,h0,h1,h4]
 rw[hk]
 congr 3
 simp only[eI,ba]
 repeat' split
 all_goals first|rfl|omega|simp_all
theorem iK (w:Int) (gh:List GObj):ac pg 62 [I w] gh=some (B (decide (1<=w/\w<=8)),gh):=by
 by_cases h:1<=w
 ·refine ao (fn:=q31) (s:=?s1) rfl rfl (qej ?h1) ?r1
  case h1=>simp[h];rfl
  case r1=>simp[al,results,q31,am,aq,ai,h]
 ·refine ao (fn:=q31) (s:=?s2) rfl rfl (qej ?h2) ?r2
  case h2=>simp[h];rfl
  case r2=>simp[al,results,q31,am,aq,ai,h]
def dq (s width n w0 w1 w2:Int):Bool:=
 if n≠0/\s≠6 then false
 else if s=1 then w0=width
 else if s=2 then w0=width/\w1=width
 else if s=3 then w0=w1/\width=1
 else if s=4 then w0=1/\w1=width/\w2=width
 else if s=5 then WI.wrap (w0+w1)=width
 else if s=6 then 0<=n/\n<=WI.wrap (w0-width)
 else w0<=width
theorem tc (s width n w0 w1 w2:Int) (gh:List GObj):ac pg 64 [I s,I width,I n,.agg [I w0,I w1,I w2]] gh=some (B (dq s width n w0 w1 w2),gh):=by
 have h:ql pg s width n w0 w1 w2 gh=some (.ret,⟨[(8,B (dq s width n w0 w1 w2))],[],gh⟩):=by
  by_cases hn:n=0
  ·by_cases h1:s=1
   ·simp[ql,dq,hn,h1]
   by_cases h2:s=2
   ·by_cases h:w0=width<;>simp[ql,dq,hn,h2,h]
   by_cases h3:s=3
   ·by_cases h:w0=w1<;>simp[ql,dq,hn,h3,h]
   by_cases h4:s=4
   ·by_cases h:w0=1<;>by_cases h':w1=width<;>simp[ql,dq,hn,h4,h,h']
   by_cases h5:s=5
   ·simp[ql,dq,hn,h5]
   by_cases h6:s=6
   ·simp[ql,dq,hn,h6]
   simp[ql,dq,hn,h1,h2,h3,h4,h5,h6]
  ·by_cases h6:s=6
   ·by_cases h:0<=n<;>simp[ql,dq,hn,h6,h]
   ·simp[ql,dq,hn,h6]
 refine ao (fn:=q8p) rfl rfl (ql_ h) ?r;simp[al,results,q8p,am,aq,ai]
def wOk (k i w:Int):Prop:=if i<ba k then 1<=w/\w<=8 else w=0
instance (k i w:Int):Decidable (wOk k i w):=inferInstanceAs (Decidable (if i<ba k then 1<=w/\w<=8 else w=0))
theorem nZ (k width n s w0 w1 w2 i w:Int) (gh:List GObj) (hi:(i=0/\w=w0)\/(i=1/\w=w1)\/(i=2/\w=w2)) :
  q12 pg k width n s w0 w1 w2 i w0 w1 w2 gh=if wOk k i w then some (.normal,⟨[(0,I k),(1,I width),(2,I n),(7,.ptr false 0 0),(9,I s),(24,.agg [I w0,I w1,I w2]),(25,I (i+1))],[[I w0,I w1,I w2]],gh⟩)
   else some (.ret,⟨[(8,I 3)],[],gh⟩):=by
 have hw:(WI.wrap (i+1))=i+1:=az (by omega) (by omega);by_cases hk:i<ba k
 ·have hk':=Int.not_le.2 hk
  by_cases h1:1<=w
  ·by_cases h2:w<=8
   ·rcases hi with ⟨rfl,rfl⟩|⟨rfl,rfl⟩|⟨rfl,rfl⟩<;>simp[q12,gt,iK,hk,hk',wOk,h1,h2]<;>exact hw
   ·rcases hi with ⟨rfl,rfl⟩|⟨rfl,rfl⟩|⟨rfl,rfl⟩<;>simp[q12,gt,iK,hk,wOk,h1,h2]
  ·rcases hi with ⟨rfl,rfl⟩|⟨rfl,rfl⟩|⟨rfl,rfl⟩<;>simp[q12,gt,iK,hk,wOk,h1]
 ·have hk':=Int.not_lt.1 hk
  by_cases h2:w=0
  ·rcases hi with ⟨rfl,rfl⟩|⟨rfl,rfl⟩|⟨rfl,rfl⟩<;>simp[q12,gt,hk,hk',wOk,h2]<;>exact hw
  ·rcases hi with ⟨rfl,rfl⟩|⟨rfl,rfl⟩|⟨rfl,rfl⟩<;>simp[q12,gt,hk,hk',wOk,h2]
theorem AA (k width n s w0 w1 w2:Int) (gh:List GObj) :
  ab pg q8m ⟨[(0,I k),(1,I width),(2,I n),(7,.ptr false 0 0),(9,I s),(24,.agg [I w0,I w1,I w2]),(25,I 0)],[[I w0,I w1,I w2]],gh⟩=
   if wOk k 0 w0/\wOk k 1 w1/\wOk k 2 w2 then some (.normal,⟨[(1,I width),(2,I n),(7,.ptr false 0 0),(9,I s)],[[I w0,I w1,I w2]],gh⟩) else some (.ret,⟨[(8,I 3)],[],gh⟩):=by
 have b0:=nZ k width n s w0 w1 w2 0 w0 gh (by simp);have b1:=nZ k width n s w0 w1 w2 1 w1 gh (by simp);have b2:=nZ k width n s w0 w1 w2 2 w2 gh (by simp);by_cases h0:wOk k 0 w0
 ·rw[if_pos h0] at b0
  refine bc (q12_ b0) ?_;by_cases h1:wOk k 1 w1
  ·rw[if_pos h1] at b1
   refine bc (q12_ b1) ?_;by_cases h2:wOk k 2 w2
   ·rw[if_pos h2] at b2
    refine bc (q12_ b2) ?_;rw[if_pos ⟨h0,h1,h2⟩];refine (bm (s1:=?s1) (q12_ ?h1)).trans ?r1
    case h1=>simp[q12];rfl
    case r1=>simp[keep]
   ·rw[if_neg h2] at b2
    rw[if_neg (λh=>h2 h.2.2)];exact dl (q12_ b2)
  ·rw[if_neg h1] at b1
   rw[if_neg (λh=>h1 h.2.1)];exact dl (q12_ b1)
 ·rw[if_neg h0] at b0
  rw[if_neg (λh=>h0 h.1)];exact dl (q12_ b0)
def fq (k width n w0 w1 w2:Int):Int:=
 match eI k with
 |none=>7
 |some s=>if ¬(1<=width/\width<=8) then 3 else if ¬(wOk k 0 w0/\wOk k 1 w1/\wOk k 2 w2) then 3 else if dq s width n w0 w1 w2 then 0 else 1
theorem AB (k width n w0 w1 w2:Int) (gh:List GObj):ac pg 22 [I k,I width,I n,.agg [I w0,I w1,I w2]] gh=some (I (fq k width n w0 w1 w2),gh):=by
 have hf:=tb k;simp only[fq];cases hs:eI k with
 |none=>
  rw[hs] at hf;refine ao (fn:=qj) (s:=?s0) rfl rfl (q37 ?h0) ?r0
  case h0=>simp[gP,hf];rfl
  case r0=>simp[al,results,qj,am,aq,ai]
 | some s=>
  rw[hs] at hf;by_cases hw:1<=width/\width<=8
  ·have hl:=AA k width n s w0 w1 w2 (gh++[.map (bn eH)])
   simp only[hw,not_true,if_false,and_self];by_cases ho:wOk k 0 w0/\wOk k 1 w1/\wOk k 2 w2
   ·rw[if_pos ho] at hl
    simp only[ho,not_true,if_false,and_self];have hk:∀e s1,q4p pg width n s w0 w1 w2 (gh++[.map (bn eH)])=some (e,s1)->_:=λe s1 h=>q4p_ h
    by_cases hb:dq s width n w0 w1 w2
    ·have:=hk .ret ⟨[(8,I 0)],[],gh++[.map (bn eH)]⟩ (by simp[q4p,tc,hb])
     refine ao (fn:=qj) (s:=?s1) rfl rfl (q37 ?h1) ?r1
     case h1=>simp[gP,hf,iK,hw,hl,this];rfl
     case r1=>simp[al,results,qj,am,aq,ai,hb]
    ·have:=hk .ret ⟨[(8,I 1)],[],gh++[.map (bn eH)]⟩ (by simp[q4p,tc,hb])
     refine ao (fn:=qj) (s:=?s2) rfl rfl (q37 ?h2) ?r2
     case h2=>simp[gP,hf,iK,hw,hl,this];rfl
     case r2=>simp[al,results,qj,am,aq,ai,hb]
   ·rw[if_neg ho] at hl
    refine ao (fn:=qj) (s:=?s3) rfl rfl (q37 ?h3) ?r3
    case h3=>simp[gP,hf,iK,hw,hl];rfl
    case r3=>simp[al,results,qj,am,aq,ai,ho]
  ·refine ao (fn:=qj) (s:=?s4) rfl rfl (q37 ?h4) ?r4
   case h4=>simp[gP,hf,iK,hw];rfl
   case r4=>simp[al,results,qj,am,aq,ai,hw]
theorem od (b:Bool) (gh:List GObj):ac pg 114 [B b] gh=some (I (if b then 1 else 0),gh):=by
 cases b
 ·refine ao (fn:=q35) (s:=?s1) rfl rfl (qek ?h1) ?r1
  case h1=>simp;rfl
  case r1=>simp[al,results,q35,am,aq,ai]
 ·refine ao (fn:=q35) (s:=?s2) rfl rfl (qek ?h2) ?r2
  case h2=>simp;rfl
  case r2=>simp[al,results,q35,am,aq,ai]
def ek (n w:Int):Int:=if cT .i64 1 (w-1)<=n then WI.wrap (n-cT .i64 1 w) else n
theorem oe (n w:Int) (hw:1<=w/\w<=8) (gh:List GObj):ac pg 115 [I n,I w] gh=some (I (ek n w),gh):=by
 have e:WI.wrap (w-1)=w-1:=az (by omega) (by omega);have h2:0<=w:=by omega
 by_cases h:cT .i64 1 (w-1)<=n
 ·refine ao (fn:=q36) (s:=?s1) rfl rfl (qel ?h1) ?r1
  case h1=>simp[e,hw.1,h2,h];rfl
  case r1=>simp[al,results,q36,am,aq,ai,ek,h]
 ·refine ao (fn:=q36) (s:=?s2) rfl rfl (qel ?h2) ?r2
  case h2=>simp[e,hw.1,h];rfl
  case r2=>simp[al,results,q36,am,aq,ai,ek,h]
theorem td (n w:Int) (hw:0<=w) (gh:List GObj):ac pg 65 [I n,I w] gh=some (B (decide (0<=n/\n<cT .i64 1 w)),gh):=by
 by_cases h:0<=n
 ·refine ao (fn:=q34) (s:=?s1) rfl rfl (qem ?h1) ?r1
  case h1=>simp[hw,h];rfl
  case r1=>simp[al,results,q34,am,aq,ai,h]
 ·refine ao (fn:=q34) (s:=?s2) rfl rfl (qem ?h2) ?r2
  case h2=>simp[h];rfl
  case r2=>simp[al,results,q34,am,aq,ai,h]
def ch (k a b c n w0 w1:Int):Int:=
 if k=4 then jN .i64 a else if k=5 then WI.wrap (0-a) else if k=6 then fS .i64 a b else if k=7 then iOr .i64 a b else if k=8 then jg .i64 a b
 else if k=9 then WI.wrap (a+b) else if k=10 then WI.wrap (a-b) else if k=11 then WI.wrap (a*b) else if k=14 then cT .i64 a b else if k=15 then eW .i64 a b
 else if k=16 then (if a=b then 1 else 0) else if k=17 then (if a<b then 1 else 0) else if k=18 then (if ek a w0<ek b w1 then 1 else 0)
 else if k=20 then iOr .i64 (cT .i64 a w1) b else if k=21 then eW .i64 a n else if k=23 then ek a w0 else if k=19 then (if a=1 then b else c)
 else if k=12 then (if b=0 then -1 else WI.wrap (Int.tdiv a b)) else if k=13 then (if b=0 then a else Int.tmod a b) else a
theorem AC (width a b c n w0 w1 w2:Int) (gh:List GObj):qa pg 4 width a b c n w0 w1 w2 gh=some (.ret,⟨[(14,I (ch 4 a b c n w0 w1))],[],gh⟩):=rfl
theorem AD (width a b c n w0 w1 w2:Int) (gh:List GObj):qa pg 5 width a b c n w0 w1 w2 gh=some (.ret,⟨[(14,I (ch 5 a b c n w0 w1))],[],gh⟩):=rfl
theorem AE (width a b c n w0 w1 w2:Int) (gh:List GObj):qa pg 6 width a b c n w0 w1 w2 gh=some (.ret,⟨[(14,I (ch 6 a b c n w0 w1))],[],gh⟩):=rfl
theorem AF (width a b c n w0 w1 w2:Int) (gh:List GObj):qa pg 7 width a b c n w0 w1 w2 gh=some (.ret,⟨[(14,I (ch 7 a b c n w0 w1))],[],gh⟩):=rfl
theorem AG (width a b c n w0 w1 w2:Int) (gh:List GObj):qa pg 8 width a b c n w0 w1 w2 gh=some (.ret,⟨[(14,I (ch 8 a b c n w0 w1))],[],gh⟩):=rfl
theorem AH (width a b c n w0 w1 w2:Int) (gh:List GObj):qa pg 9 width a b c n w0 w1 w2 gh=some (.ret,⟨[(14,I (ch 9 a b c n w0 w1))],[],gh⟩):=rfl
theorem AI (width a b c n w0 w1 w2:Int) (gh:List GObj):qa pg 10 width a b c n w0 w1 w2 gh=some (.ret,⟨[(14,I (ch 10 a b c n w0 w1))],[],gh⟩):=rfl
theorem AJ (width a b c n w0 w1 w2:Int) (gh:List GObj):qa pg 11 width a b c n w0 w1 w2 gh=some (.ret,⟨[(14,I (ch 11 a b c n w0 w1))],[],gh⟩):=rfl
theorem AK (width a b c n w0 w1 w2:Int) (gh:List GObj):qa pg 12 width a b c n w0 w1 w2 gh=some (.ret,⟨[(14,I (ch 12 a b c n w0 w1))],[],gh⟩):=by
 have e1:qa pg 12 width a b c n w0 w1 w2 gh=br 116 (b==0) (some (.ret,⟨[(14,I (-1))],[],gh⟩)) (gd (decide (b≠0)) (some (.ret,⟨[(14,I (WI.wrap (Int.tdiv a b)))],[],gh⟩))):=rfl;have e2:ch 12 a b c n w0 w1=if b=0 then -1 else WI.wrap (Int.tdiv a b):=rfl
 rw[e1,e2];by_cases h:b=0<;>simp[h]
theorem AL (width a b c n w0 w1 w2:Int) (gh:List GObj):qa pg 13 width a b c n w0 w1 w2 gh=some (.ret,⟨[(14,I (ch 13 a b c n w0 w1))],[],gh⟩):=by
 have e1:qa pg 13 width a b c n w0 w1 w2 gh=br 123 (b==0) (some (.ret,⟨[(14,I (a))],[],gh⟩)) (gd (decide (b≠0)) (some (.ret,⟨[(14,I (Int.tmod a b))],[],gh⟩))):=rfl;have e2:ch 13 a b c n w0 w1=if b=0 then a else Int.tmod a b:=rfl
 rw[e1,e2];by_cases h:b=0<;>simp[h]
theorem AM (width a b c n w0 w1 w2:Int) (gh:List GObj) (hb:0<=b):qa pg 14 width a b c n w0 w1 w2 gh=some (.ret,⟨[(14,I (ch 14 a b c n w0 w1))],[],gh⟩):=by have e1:qa pg 14 width a b c n w0 w1 w2 gh=gd (decide ((0:Int)<=b)) (some (.ret,⟨[(14,I (cT .i64 a b))],[],gh⟩)):=rfl;have e2:ch 14 a b c n w0 w1=cT .i64 a b:=rfl;rw[e1,e2];simp[hb]
theorem AN (width a b c n w0 w1 w2:Int) (gh:List GObj) (hb:0<=b):qa pg 15 width a b c n w0 w1 w2 gh=some (.ret,⟨[(14,I (ch 15 a b c n w0 w1))],[],gh⟩):=by have e1:qa pg 15 width a b c n w0 w1 w2 gh=gd (decide ((0:Int)<=b)) (some (.ret,⟨[(14,I (eW .i64 a b))],[],gh⟩)):=rfl;have e2:ch 15 a b c n w0 w1=eW .i64 a b:=rfl;rw[e1,e2];simp[hb]
theorem AO (width a b c n w0 w1 w2:Int) (gh:List GObj):qa pg 16 width a b c n w0 w1 w2 gh=some (.ret,⟨[(14,I (ch 16 a b c n w0 w1))],[],gh⟩):=by
 have e1:qa pg 16 width a b c n w0 w1 w2 gh=callR gh true (ac pg 114 [B (a==b)] gh) λr1 gh2=>unI .i64 r1 λn3=>some (.ret,⟨[(14,I n3)],[],gh2⟩):=rfl
 have e2:ch 16 a b c n w0 w1=if a=b then 1 else 0:=rfl
 rw[e1,e2];simp[od]
theorem AP (width a b c n w0 w1 w2:Int) (gh:List GObj):qa pg 17 width a b c n w0 w1 w2 gh=some (.ret,⟨[(14,I (ch 17 a b c n w0 w1))],[],gh⟩):=by
 have e1:qa pg 17 width a b c n w0 w1 w2 gh=callR gh true (ac pg 114 [B (decide (a<b))] gh) λr1 gh2=>unI .i64 r1 λn3=>some (.ret,⟨[(14,I n3)],[],gh2⟩):=rfl
 have e2:ch 17 a b c n w0 w1=if a<b then 1 else 0:=rfl
 rw[e1,e2];simp[od]
theorem AQ (width a b c n w0 w1 w2:Int) (gh:List GObj) (h0:1<=w0/\w0<=8) (h1:1<=w1/\w1<=8):qa pg 18 width a b c n w0 w1 w2 gh=some (.ret,⟨[(14,I (ch 18 a b c n w0 w1))],[],gh⟩):=by
 have e1:qa pg 18 width a b c n w0 w1 w2 gh=callR gh true (ac pg 115 [I a,I w0] gh) λr7 gh8=>unI .i64 r7 λn9=>callR gh8 true (ac pg 115 [I b,I w1] gh8) λr10 gh11=>unI .i64 r10 λn12=>callR gh11 true (ac pg 114 [B (decide (n9<n12))] gh11) λr13 gh14=>unI .i64 r13 λn15=>some (.ret,⟨[(14,I n15)],[],gh14⟩):=rfl
 have e2:ch 18 a b c n w0 w1=if ek a w0<ek b w1 then 1 else 0:=rfl
 rw[e1,e2];simp[od,oe a w0 h0,oe b w1 h1]
theorem AR (width a b c n w0 w1 w2:Int) (gh:List GObj):qa pg 19 width a b c n w0 w1 w2 gh=some (.ret,⟨[(14,I (ch 19 a b c n w0 w1))],[],gh⟩):=by
 have e1:qa pg 19 width a b c n w0 w1 w2 gh=br 110 (a==1) (some (.ret,⟨[(14,I (b))],[],gh⟩)) (some (.ret,⟨[(14,I (c))],[],gh⟩)):=rfl;have e2:ch 19 a b c n w0 w1=if a=1 then b else c:=rfl
 rw[e1,e2];by_cases h:a=1<;>simp[h]
theorem AS (width a b c n w0 w1 w2:Int) (gh:List GObj) (h1:0<=w1):qa pg 20 width a b c n w0 w1 w2 gh=some (.ret,⟨[(14,I (ch 20 a b c n w0 w1))],[],gh⟩):=by have e1:qa pg 20 width a b c n w0 w1 w2 gh=gd (decide ((0:Int)<=w1)) (some (.ret,⟨[(14,I (iOr .i64 (cT .i64 a w1) b))],[],gh⟩)):=rfl;have e2:ch 20 a b c n w0 w1=iOr .i64 (cT .i64 a w1) b:=rfl;rw[e1,e2];simp[h1]
theorem AT (width a b c n w0 w1 w2:Int) (gh:List GObj) (hn:0<=n):qa pg 21 width a b c n w0 w1 w2 gh=some (.ret,⟨[(14,I (ch 21 a b c n w0 w1))],[],gh⟩):=by have e1:qa pg 21 width a b c n w0 w1 w2 gh=gd (decide ((0:Int)<=n)) (some (.ret,⟨[(14,I (eW .i64 a n))],[],gh⟩)):=rfl;have e2:ch 21 a b c n w0 w1=eW .i64 a n:=rfl;rw[e1,e2];simp[hn]
theorem AU (width a b c n w0 w1 w2:Int) (gh:List GObj):qa pg 22 width a b c n w0 w1 w2 gh=some (.ret,⟨[(14,I (ch 22 a b c n w0 w1))],[],gh⟩):=rfl
theorem AV (width a b c n w0 w1 w2:Int) (gh:List GObj) (h0:1<=w0/\w0<=8):qa pg 23 width a b c n w0 w1 w2 gh=some (.ret,⟨[(14,I (ch 23 a b c n w0 w1))],[],gh⟩):=by
 have e1:qa pg 23 width a b c n w0 w1 w2 gh=callR gh true (ac pg 115 [I a,I w0] gh) λr1 gh2=>unI .i64 r1 λn3=>some (.ret,⟨[(14,I n3)],[],gh2⟩):=rfl
 have e2:ch 23 a b c n w0 w1=ek a w0:=rfl;rw[e1,e2];simp[oe a w0 h0]
theorem AW (k width a b c n w0 w1 w2:Int) (hk:4<=k/\k<24) (hb:0<=b) (hn:k=21->0<=n) (h0:1<=w0/\w0<=8) (h1:k=18\/k=20->1<=w1/\w1<=8) (gh:List GObj) :
  ac pg 96 [I k,I width,I a,I b,I c,I n,.agg [I w0,I w1,I w2]] gh=some (I (ch k a b c n w0 w1),gh):=by
 have hd:qa pg k width a b c n w0 w1 w2 gh=some (.ret,⟨[(14,I (ch k a b c n w0 w1))],[],gh⟩):=by
  have:k=4\/k=5\/k=6\/k=7\/k=8\/k=9\/k=10\/k=11\/k=12\/k=13\/k=14\/k=15\/k=16\/k=17\/k=18\/k=19\/k=20\/k=21\/k=22\/k=23:=by omega
  rcases this with rfl|rfl|rfl|rfl|rfl|rfl|rfl|rfl|rfl|rfl|rfl|rfl|rfl|rfl|rfl|rfl|rfl|rfl|rfl|rfl
  ·exact AC width a b c n w0 w1 w2 gh
  ·exact AD width a b c n w0 w1 w2 gh
  ·exact AE width a b c n w0 w1 w2 gh
  ·exact AF width a b c n w0 w1 w2 gh
  ·exact AG width a b c n w0 w1 w2 gh
  ·exact AH width a b c n w0 w1 w2 gh
  ·exact AI width a b c n w0 w1 w2 gh
  ·exact AJ width a b c n w0 w1 w2 gh
  ·exact AK width a b c n w0 w1 w2 gh
  ·exact AL width a b c n w0 w1 w2 gh
  ·exact AM width a b c n w0 w1 w2 gh hb
  ·exact AN width a b c n w0 w1 w2 gh hb
  ·exact AO width a b c n w0 w1 w2 gh
  ·exact AP width a b c n w0 w1 w2 gh
  ·exact AQ width a b c n w0 w1 w2 gh h0 (h1 (.inl rfl))
  ·exact AR width a b c n w0 w1 w2 gh
  ·exact AS width a b c n w0 w1 w2 gh (by have:=h1 (.inr rfl);omega)
  ·exact AT width a b c n w0 w1 w2 gh (hn rfl)
  ·exact AU width a b c n w0 w1 w2 gh
  ·exact AV width a b c n w0 w1 w2 gh h0
 refine ao (fn:=q8r) rfl rfl (qa_ hd) ?r1;simp[al,results,q8r,am,aq,ai]
def ij (k width a b c n w0 w1:Int):Int:=fS .i64 (ch k a b c n w0 w1) (WI.wrap (cT .i64 1 width-1))
theorem AX (k width a b c n w0 w1 w2:Int) (hk:4<=k/\k<24) (hb:0<=b) (hn:k=21->0<=n) (h0:1<=w0/\w0<=8) (h1:k=18\/k=20->1<=w1/\w1<=8) (hw:0<=width) (gh:List GObj) :
  ac pg 66 [I k,I width,I a,I b,I c,I n,.agg [I w0,I w1,I w2]] gh=some (I (ij k width a b c n w0 w1),gh):=by
 refine ao (fn:=q8q) (s:=?s1) rfl rfl (qg8 ?h1) ?r1
 case h1=>simp[AW k width a b c n w0 w1 w2 hk hb hn h0 h1,hw];rfl
 case r1=>simp[al,results,q8q,am,aq,ai,ij]
def AY (k i x w:Int):Prop:=if i<ba k then 0<=x/\x<cT .i64 1 w else x=0
instance (k i x w:Int):Decidable (AY k i x w):=inferInstanceAs (Decidable (if i<ba k then 0<=x/\x<cT .i64 1 w else x=0))
theorem kM {k width n w0 w1 w2:Int} (h:fq k width n w0 w1 w2=0):(4<=k/\k<24)/\(1<=width/\width<=8)/\wOk k 0 w0/\wOk k 1 w1/\wOk k 2 w2/\∃s,eI k=some s/\dq s width n w0 w1 w2=true:=by
 unfold fq at h;cases hs:eI k with
 |none=>rw[hs] at h;cases h
 | some s=>
  rw[hs] at h;simp only at h;by_cases h1:1<=width/\width<=8
  ·by_cases h2:wOk k 0 w0/\wOk k 1 w1/\wOk k 2 w2
   ·simp only[h1,h2,and_self,not_true,if_false] at h
    refine⟨?_,h1,h2.1,h2.2.1,h2.2.2,s,rfl,?_⟩
    ·simp only[eI] at hs
     repeat' split at hs
     all_goals first|(exfalso;cases hs;done)|omega
    ·cases hf:dq s width n w0 w1 w2 with
     |true=>rfl
     |false=>rw[hf] at h;cases h
   ·simp only[h1,and_self,not_true,if_false,h2,not_false_iff,if_true] at h;cases h
  ·simp only[h1,not_false_iff,if_true] at h;cases h
theorem me {k:Int} (h:4<=k/\k<24):0<ba k:=by
 simp only[ba]
 repeat' split
 all_goals omega
theorem dS (n a b:Int) (gh:List GObj):ac pg 50 [I n,I a,I b] gh=some (B (decide (a<=n/\n<=b)),gh):=by
 by_cases h:a<=n
 ·refine ao (fn:=q2p) (s:=?s1) rfl rfl (qeo ?h1) ?r1
  case h1=>simp[h];rfl
  case r1=>simp[al,results,q2p,am,aq,ai,h]
 ·refine ao (fn:=q2p) (s:=?s2) rfl rfl (qeo ?h2) ?r2
  case h2=>simp[h];rfl
  case r2=>simp[al,results,q2p,am,aq,ai,h]
theorem fU (k:Int) (gh:List GObj):ac pg 26 [I k] gh=some (I (ba k),gh):=by
 by_cases h1:k=4\/k=5\/k=21\/k=22\/k=23
 ·refine ao (fn:=qu) (s:=⟨[(2,I 1)],[],gh⟩) rfl rfl (q4s ?h1) ?r1
  case h1=>
   have:=q8w (pg:=pg) (gh:=gh) (x0:=k) (x3:=k) (b4:=true) (e:= .ret) (s:=⟨[(2,I 1)],[],gh⟩) rfl;rcases h1 with rfl|rfl|rfl|rfl|rfl<;>simp[this]
  case r1=>
   rcases h1 with rfl|rfl|rfl|rfl|rfl<;>simp[al,results,qu,am,aq,ai]<;>rfl
 simp only[not_or] at h1;by_cases h2:k=19
 ·refine ao (fn:=qu) (s:=⟨[(2,I 3)],[],gh⟩) rfl rfl (q4s ?h2) ?r2
  case h2=>
   subst h2;have:=q8w (pg:=pg) (gh:=gh) (x0:=19) (x3:=19) (b4:=false) (e:= .ret) (s:=⟨[(2,I 3)],[],gh⟩) rfl;simp[this]
  case r2=>subst h2;simp[al,results,qu,am,aq,ai];rfl
 have hk1:=q8w (pg:=pg) (gh:=gh) (x0:=k) (x3:=k) (b4:=false) (e:= .normal) (s:=⟨[(0,I k),(10,B false)],[],gh⟩) (by simp[h2]);by_cases h3:6<=k/\k<=20
 ·refine ao (fn:=qu) (s:=⟨[(2,I 2)],[],gh⟩) rfl rfl (q4s ?h3) ?r3
  case h3=>
   have hk2:=qen (pg:=pg) (gh:=gh) (x0:=k) (b10:=false) (e:= .ret) (s:=⟨[(2,I 2)],[],gh⟩) (by simp[dS,h3]);simp[h1,hk1,hk2]
  case r3=>
   have:ba k=2:=by simp only[ba];repeat' split<;>first|omega|rfl
   simp[al,results,qu,am,aq,ai,this]
 ·refine ao (fn:=qu) (s:=⟨[(2,I 0)],[],gh⟩) rfl rfl (q4s ?h4) ?r4
  case h4=>
   have hk2:=qen (pg:=pg) (gh:=gh) (x0:=k) (b10:=false) (e:= .ret) (s:=⟨[(2,I 0)],[],gh⟩) (by simp[dS,h3]);simp[h1,hk1,hk2]
  case r4=>
   have:ba k=0:=by simp only[ba];repeat' split<;>first|omega|rfl
   simp[al,results,qu,am,aq,ai,this]
theorem og (k width n w0 w1 w2 i w:Int) (gh:List GObj) (hi:(i=0/\w=w0)\/(i=1/\w=w1)\/(i=2/\w=w2)) :
  q13 pg k width n (ba k) i w0 w1 w2 gh=if wOk k i w then some (.normal,⟨[(0,I k),(1,I width),(2,I n),(7,.ptr false 0 0),(9,I (ba k)),(10,I (i+1))],[[I w0,I w1,I w2]],gh⟩)
   else some (.ret,⟨[(8,I 3)],[],gh⟩):=by
 have hw:(WI.wrap (i+1))=i+1:=az (by omega) (by omega);by_cases hk:i<ba k
 ·have hk':=Int.not_le.2 hk
  by_cases h1:1<=w
  ·by_cases h2:w<=8
   ·rcases hi with ⟨rfl,rfl⟩|⟨rfl,rfl⟩|⟨rfl,rfl⟩<;>simp[q13,dS,hk,hk',wOk,h1,h2]<;>exact hw
   ·rcases hi with ⟨rfl,rfl⟩|⟨rfl,rfl⟩|⟨rfl,rfl⟩<;>simp[q13,dS,hk,wOk,h1,h2]
  ·rcases hi with ⟨rfl,rfl⟩|⟨rfl,rfl⟩|⟨rfl,rfl⟩<;>simp[q13,dS,hk,wOk,h1]
 ·have hk':=Int.not_lt.1 hk
  by_cases h2:w=0
  ·rcases hi with ⟨rfl,rfl⟩|⟨rfl,rfl⟩|⟨rfl,rfl⟩<;>simp[q13,hk,hk',wOk,h2]<;>exact hw
  ·rcases hi with ⟨rfl,rfl⟩|⟨rfl,rfl⟩|⟨rfl,rfl⟩<;>simp[q13,hk,hk',wOk,h2]
theorem AZ (k width n w0 w1 w2:Int) (gh:List GObj) :
  ab pg q73 ⟨[(0,I k),(1,I width),(2,I n),(7,.ptr false 0 0),(9,I (ba k)),(10,I 0)],[[I w0,I w1,I w2]],gh⟩=
   if wOk k 0 w0/\wOk k 1 w1/\wOk k 2 w2 then some (.normal,⟨[(0,I k),(1,I width),(2,I n),(7,.ptr false 0 0)],[[I w0,I w1,I w2]],gh⟩) else some (.ret,⟨[(8,I 3)],[],gh⟩):=by
 have b0:=og k width n w0 w1 w2 0 w0 gh (by simp);have b1:=og k width n w0 w1 w2 1 w1 gh (by simp);have b2:=og k width n w0 w1 w2 2 w2 gh (by simp);by_cases h0:wOk k 0 w0
 ·rw[if_pos h0] at b0
  refine bc (q13_ b0) ?_;by_cases h1:wOk k 1 w1
  ·rw[if_pos h1] at b1
   refine bc (q13_ b1) ?_;by_cases h2:wOk k 2 w2
   ·rw[if_pos h2] at b2
    refine bc (q13_ b2) ?_;rw[if_pos ⟨h0,h1,h2⟩];refine (bm (s1:=?s1) (q13_ ?h1)).trans ?r1
    case h1=>simp[q13];rfl
    case r1=>simp[keep]
   ·rw[if_neg h2] at b2
    rw[if_neg (λh=>h2 h.2.2)];exact dl (q13_ b2)
  ·rw[if_neg h1] at b1
   rw[if_neg (λh=>h1 h.2.1)];exact dl (q13_ b1)
 ·rw[if_neg h0] at b0
  rw[if_neg (λh=>h0 h.1)];exact dl (q13_ b0)
theorem gu (k n:Int) (b:Bool) (gh:List GObj) :
  ab pg qg ⟨[(0,I k),(2,I n),(11,B b)],[],gh⟩=some (.ret,⟨[(8,I (if b=false\/(k≠21/\n≠0) then 1 else 0))],[],gh⟩):=by
 refine qgc ?_;cases b
 ·simp
 ·by_cases h1:k=21
  ·simp[h1]
  ·by_cases h2:n=0<;>simp[h1,h2]
theorem A5 (k width n w0 w1 w2 s:Int) (gh:List GObj) (hs:eI k=some s) (hw:1<=width/\width<=8) (h0:wOk k 0 w0) (h1:wOk k 1 w1) :
  ab pg q46 ⟨[(0,I k),(1,I width),(2,I n),(7,.ptr false 0 0)],[[I w0,I w1,I w2]],gh⟩=some (.ret,⟨[(8,I (if dq s width n w0 w1 w2 then 0 else 1))],[],gh⟩):=by
 refine qgd ?_;by_cases c1:k=4
 ·subst c1;cases hs
  simp[gu,dq];by_cases hn:n=0<;>by_cases hh:w0=width<;>simp[hn,hh]
 by_cases c2:k=5
 ·subst c2;cases hs
  simp[gu,dq];by_cases hn:n=0<;>by_cases hh:w0=width<;>simp[hn,hh]
 by_cases c3:6<=k/\k<=15
 ·have:s=2:=by
   simp only[eI] at hs;rw[if_neg (by omega),if_neg (by omega),if_pos (by omega)] at hs;cases hs;rfl
  subst this;have hk:k≠21:=by omega
  by_cases hn:n=0<;>by_cases hh:w0=width<;>by_cases hh2:w1=width<;>simp[gu,dS,dq,c1,c2,c3,hk,hn,hh,hh2]
 by_cases c4:16<=k/\k<=18
 ·have:s=3:=by
   simp only[eI] at hs;rw[if_neg (by omega),if_neg (by omega),if_neg (by omega),if_pos (by omega)] at hs;cases hs;rfl
  subst this;have hk:k≠21:=by omega
  by_cases hn:n=0<;>by_cases hh:w0=w1<;>by_cases hh2:width=1<;>simp[gu,dS,dq,c1,c2,c3,c4,hk,hn,hh,hh2]
 by_cases c5:k=19
 ·subst c5;cases hs
  by_cases hn:n=0<;>by_cases hh:w0=1<;>by_cases hh2:w1=width<;>by_cases hh3:w2=width<;>simp[gu,dS,dq,hn,hh,hh2,hh3]
 by_cases c6:k=20
 ·subst c6;cases hs
  by_cases hn:n=0<;>by_cases hh:WI.wrap (w0+w1)=width<;>simp[gu,dS,dq,hn,hh]
 by_cases c7:k=21
 ·subst c7;cases hs
  have hw0:1<=w0/\w0<=8:=h0;have e1:WI.wrap (w0-width)=w0-width:=az (by omega) (by omega);by_cases hn:0<=n
  ·by_cases hn2:n<=8
   ·have e2:WI.wrap (n+width)=n+width:=az (by omega) (by omega)
    by_cases hh:n+width<=w0
    ·simp[gu,dS,dq,hn,hn2,e1,e2,hh,show n<=w0-width by omega]
    ·simp[gu,dS,dq,hn,hn2,e1,e2,hh,show ¬n<=w0-width by omega]
   ·simp[gu,dS,dq,hn,hn2,e1,show ¬n<=w0-width by omega]
  ·simp[gu,dS,dq,hn]
 ·have:s=7:=by
   simp only[eI] at hs
   repeat' split at hs
   all_goals first|(exfalso;omega)|(cases hs;done)|(cases hs;rfl)
  subst this;by_cases hn:n=0<;>by_cases hh:w0<=width<;>simp[gu,dS,dq,c1,c2,c3,c4,c5,c6,c7,hn,hh]
theorem te (k:Int):ba k=0↔eI k=none:=by
 simp only[ba,eI];constructor
 ·intro h;repeat' split
  all_goals first|rfl|(exfalso;revert h;repeat' split)<;>omega
 ·intro h;repeat' split
  all_goals first|rfl|(exfalso;revert h;repeat' split)<;>first|omega|simp
theorem A6 (k width n w0 w1 w2:Int) (gh:List GObj):ac pg 23 [I k,I width,I n,.agg [I w0,I w1,I w2]] gh=some (I (fq k width n w0 w1 w2),gh):=by
 simp only[fq];cases hs:eI k with
 |none=>
  refine ao (fn:=qt) (s:=?s0) rfl rfl (q4r ?h0) ?r0
  case h0=>simp[fU,(te k).2 hs];rfl
  case r0=>simp[al,results,qt,am,aq,ai]
 | some s=>
  have ht:ba k≠0:=λh=>by rw[te,hs] at h;cases h
  by_cases hw:1<=width/\width<=8
  ·have hl:=AZ k width n w0 w1 w2 gh
   simp only[hw,not_true,if_false,and_self];by_cases ho:wOk k 0 w0/\wOk k 1 w1/\wOk k 2 w2
   ·rw[if_pos ho] at hl
    have hk:=A5 k width n w0 w1 w2 s gh hs hw ho.1 ho.2.1;simp only[ho,not_true,if_false,and_self];refine ao (fn:=qt) (s:=?s1) rfl rfl (q4r ?h1) ?r1
    case h1=>simp[fU,ht,dS,hw,hl,hk];rfl
    case r1=>simp[al,results,qt,am,aq,ai]
   ·rw[if_neg ho] at hl
    refine ao (fn:=qt) (s:=?s3) rfl rfl (q4r ?h3) ?r3
    case h3=>simp[fU,ht,dS,hw,hl];rfl
    case r3=>simp[al,results,qt,am,aq,ai,ho]
  ·refine ao (fn:=qt) (s:=?s4) rfl rfl (q4r ?h4) ?r4
   case h4=>simp[fU,ht,dS,hw];rfl
   case r4=>simp[al,results,qt,am,aq,ai,hw]
theorem iM (k:Nat):((2^k:Nat):Int)=2^k:=Int.natCast_pow 2 k
theorem ti {k:Nat} (hk:k<=61) (gh:List GObj):∀m i,i+m=k->ab pg q47 ⟨[(0,I k),(3,I ((2^i:Nat):Int)),(4,I i)],[],gh⟩=some (.normal,⟨[(3,I ((2^k:Nat):Int))],[],gh⟩)
 |0,i,h=>by
  obtain rfl:i=k:=by omega
  refine (bm (s1:=?s1) (qep ?h1)).trans ?r1
  case h1=>simp;rfl
  case r1=>simp[keep]
 | m+1,i,h=>by
  have hlt:(i:Int)<(k:Int):=by omega
  have h1:2^i<=2^60:=bN (by decide) (by omega);have e1:WI.wrap (2*((2^i:Nat):Int))=((2^(i+1):Nat):Int):=by rw[Nat.pow_succ];generalize 2^i=q at h1;rw[az (by omega) (by omega)];omega
  have e2:WI.wrap ((i:Int)+1)=((i+1:Nat):Int):=by rw[az (by omega) (by omega)];omega
  refine bc (s1:=⟨[(0,I k),(3,I ((2^(i+1):Nat):Int)),(4,I ((i+1:Nat):Int))],[],gh⟩) (qep ?h2) ?r2
  case h2=>rw[e1,e2,aG hlt];rfl
  case r2=>exact ti hk gh m (i+1) (by omega)
theorem ff {k:Nat} (hk:k<=61) (gh:List GObj):ac pg 27 [I k] gh=some (I ((2^k:Nat):Int),gh):=by
 have hl:=ti hk gh k 0 (by omega);have hk1:=qgf (pg:=pg) (gh:=gh) (x3:=((2^k:Nat):Int)) (e:= .ret) (s:=⟨[(2,I ((2^k:Nat):Int))],[],gh⟩) rfl;refine ao (fn:=q75) (s:=⟨[(2,I ((2^k:Nat):Int))],[],gh⟩) rfl rfl (qgg ?h1) ?r1
 case h1=>
  have hl':ab pg q47 ⟨[(0,I k),(3,I 1),(4,I 0)],[],gh⟩=some (.normal,⟨[(3,I ((2^k:Nat):Int))],[],gh⟩):=hl;rw[hl',l9,sU,hk1,l9]
 case r1=>simp[al,results,q75,am,aq,ai]
theorem mg {A i:Nat} (hA:A<65536) (hi:i<=61) (gh:List GObj):ac pg 97 [I A,I i] gh=some (I ((A/2^i%2:Nat):Int),gh):=by
 have h0:(2:Nat)^i≠0:=by have:=Nat.one_le_two_pow (n:=i);omega
 have h1:A/2^i<=A:=Nat.div_le_self _ _;have e1:Int.tmod (WI.wrap (Int.tdiv (A:Int) ((2^i:Nat):Int))) 2=((A/2^i%2:Nat):Int):=by have e0:Int.tdiv (A:Int) ((2^i:Nat):Int)=((A/2^i:Nat):Int):=(Int.ofNat_tdiv _ _).symm;rw[e0];generalize A/2^i=q at h1;rw[az (by omega) (by omega)];exact (Int.ofNat_tmod _ 2).symm
 have h2:(((2^i:Nat):Int)≠0):=by omega
 refine ao (fn:=q7q) (s:=⟨[(4,I ((A/2^i%2:Nat):Int))],[],gh⟩) rfl rfl (qgi ?h1) ?r1
 case h1=>
  rw[ff hi gh,cz,cy,aG h2,e1];rfl
 case r1=>simp[al,results,q7q,am,aq,ai]
theorem oj (b:Bool) (gh:List GObj):ac pg 68 [B b] gh=some (I (if b then 1 else 0),gh):=by
 cases b
 ·refine ao (fn:=q2q) (s:=?s1) rfl rfl (qer ?h1) ?r1
  case h1=>simp;rfl
  case r1=>simp[al,results,q2q,am,aq,ai]
 ·refine ao (fn:=q2q) (s:=?s2) rfl rfl (qer ?h2) ?r2
  case h2=>simp;rfl
  case r2=>simp[al,results,q2q,am,aq,ai]
theorem kN {w:Nat} (hw:1<=w/\w<=8):w=1\/w=2\/w=3\/w=4\/w=5\/w=6\/w=7\/w=8:=by omega
theorem Be {A w:Nat} (hw:1<=w/\w<=8) (hA:A<2^w):A/2^(w-1)%2=if 2^(w-1)<=A then 1 else 0:=by rcases kN hw with rfl|rfl|rfl|rfl|rfl|rfl|rfl|rfl<;>simp at hA ⊢ <;>split<;>omega
theorem tj {A w:Nat} (hw:1<=w/\w<=8) (hA:A<2^w):ek A w=if 2^(w-1)<=A then (A:Int)-((2^w:Nat):Int) else A:=by
 have h1:=ef hw.2;have e0:((w:Int)-1)=((w-1:Nat):Int):=by omega
 rw[ek,e0,oi (by omega),oi hw.2,<-iM,<-iM,az (by omega) (by omega)];by_cases h:2^(w-1)<=A
 ·rw[if_pos h,if_pos (by omega)]
 ·rw[if_neg h,if_neg (by omega)]
theorem om {A w:Nat} (hw:1<=w/\w<=8) (hA:A<2^w) (gh:List GObj):ac pg 69 [I A,I w] gh=some (I (ek A w),gh):=by
 have h1:=ef hw.2;have e0:WI.wrap ((w:Int)-1)=((w-1:Nat):Int):=by rw[az (by omega) (by omega)];omega
 have hs:=tj hw hA;have hb:=Be hw hA;have ew:WI.wrap ((A:Int)-((2^w:Nat):Int))=(A:Int)-((2^w:Nat):Int):=az (by omega) (by omega);by_cases h:2^(w-1)<=A
 ·rw[if_pos h] at hs hb
  refine ao (fn:=q2r) (s:=⟨[(4,I (ek A w))],[],gh⟩) rfl rfl (qeq ?h1) ?r1
  case h1=>
   rw[e0,mg (by omega) (by omega),cz,cy,hb,show (((1:Nat):Int)==1)=true from rfl,gO,ff (by omega),cz,cy,ew,hs]
  case r1=>simp[al,results,q2r,am,aq,ai]
 ·rw[if_neg h] at hs hb
  refine ao (fn:=q2r) (s:=⟨[(4,I (ek A w))],[],gh⟩) rfl rfl (qeq ?h2) ?r2
  case h2=>
   rw[e0,mg (by omega) (by omega),cz,cy,hb,hs,show (((0:Nat):Int)==1)=false from rfl,dK]
  case r2=>simp[al,results,q2r,am,aq,ai]
def tbl (t0 t1 t2 t3:Int) (x y:Nat):Int:=if x=0 then (if y=0 then t0 else t1) else (if y=0 then t2 else t3)
theorem Bg {A B i w:Nat} (t0 t1 t2 t3:Int) (s:Int) (hA:A<65536) (hB:B<65536) (hi:i<w) (hw:w<=8) (gh:List GObj) :
  q4t pg A B w s i t0 t1 t2 t3 gh=some (.normal,⟨[(0,I A),(1,I B),(2,I w),(7,.ptr false 0 0),(9,I (WI.wrap (s+WI.wrap (tbl t0 t1 t2 t3 (A/2^i%2) (B/2^i%2)*((2^i:Nat):Int))))),(10,I ((i+1:Nat):Int))],[[I t0,I t1,I t2,I t3]],gh⟩):=by
 have hlt:(i:Int)<(w:Int):=by omega
 have e2:WI.wrap ((i:Int)+1)=((i+1:Nat):Int):=by rw[az (by omega) (by omega)];omega
 have hx:A/2^i%2=0\/A/2^i%2=1:=by omega
 have hy:B/2^i%2=0\/B/2^i%2=1:=by omega
 rw[q4t,e2,aG hlt,gO,mg hA (by omega),cz,cy,mg hB (by omega),cz,cy];rcases hx with hx|hx<;>rcases hy with hy|hy<;>rw[hx,hy]
 ·rw[show WI.wrap (WI.wrap (2*((0:Nat):Int))+((0:Nat):Int))=0 by decide]
  have:=ff (show i<=61 by omega) gh;rw[iM] at this;simp[this,tbl]
 ·rw[show WI.wrap (WI.wrap (2*((0:Nat):Int))+((1:Nat):Int))=1 by decide]
  have:=ff (show i<=61 by omega) gh;rw[iM] at this;simp[this,tbl]
 ·rw[show WI.wrap (WI.wrap (2*((1:Nat):Int))+((0:Nat):Int))=2 by decide]
  have:=ff (show i<=61 by omega) gh;rw[iM] at this;simp[this,tbl]
 ·rw[show WI.wrap (WI.wrap (2*((1:Nat):Int))+((1:Nat):Int))=3 by decide]
  have:=ff (show i<=61 by omega) gh;rw[iM] at this;simp[this,tbl]
theorem tl {A B w R:Nat} (t0 t1 t2 t3:Int) (hA:A<65536) (hB:B<65536) (hw:w<=8) (hR:∀i,tbl t0 t1 t2 t3 (A/2^i%2) (B/2^i%2)=((R/2^i%2:Nat):Int)) (gh:List GObj) :
  ∀m i,i+m=w->ab pg q7g ⟨[(0,I A),(1,I B),(2,I w),(7,.ptr false 0 0),(9,I ((R%2^i:Nat):Int)),(10,I i)],[[I t0,I t1,I t2,I t3]],gh⟩=some (.normal,⟨[(9,I ((R%2^w:Nat):Int))],[],gh⟩)
 |0,i,h=>by
  obtain rfl:i=w:=by omega
  refine (bm (s1:=?s1) (q4t_ ?h1)).trans ?r1
  case h1=>simp only[q4t,Int.lt_irrefl,decide_false,dK];rfl
  case r1=>rfl
 | m+1,i,h=>by
  refine bc (q4t_ (Bg t0 t1 t2 t3 _ hA hB (by omega) hw gh)) ?r2;have e:WI.wrap (((R%2^i:Nat):Int)+WI.wrap (tbl t0 t1 t2 t3 (A/2^i%2) (B/2^i%2)*((2^i:Nat):Int)))=((R%2^(i+1):Nat):Int):=by have h1:=ef (show i<=8 by omega);have h2:R%2^i<2^i:=Nat.mod_lt _ (by have:=Nat.one_le_two_pow (n:=i);omega);rw[hR i,<-Int.natCast_mul,Nat.mod_pow_succ,Nat.mul_comm (R/2^i%2)];have h3:2^i*(R/2^i%2)<=256*1:=Nat.mul_le_mul h1 (by omega);generalize R%2^i=x at h2 ⊢;generalize 2^i*(R/2^i%2)=y at h3 ⊢;generalize 2^i=q at h1 h2;rw[az (n:=(y:Int)) (by omega) (by omega),az (by omega) (by omega)];omega
  rw[e];exact tl t0 t1 t2 t3 hA hB hw hR gh m (i+1) (by omega)
theorem oo {A B w R:Nat} (t0 t1 t2 t3:Int) (hA:A<65536) (hB:B<65536) (hw:w<=8) (hR:∀i,tbl t0 t1 t2 t3 (A/2^i%2) (B/2^i%2)=((R/2^i%2:Nat):Int)) (gh:List GObj) :
  ac pg 67 [I A,I B,I w,.agg [I t0,I t1,I t2,I t3]] gh=some (I ((R%2^w:Nat):Int),gh):=by
 have hl:=tl t0 t1 t2 t3 hA hB hw hR gh w 0 (by omega);rw[Nat.pow_zero,Nat.mod_one] at hl;have hk1:=qgl (pg:=pg) (gh:=gh) (x9:=((R%2^w:Nat):Int)) (e:= .ret) (s:=⟨[(8,I ((R%2^w:Nat):Int))],[],gh⟩) rfl;refine ao (fn:=q7i) (s:=⟨[(8,I ((R%2^w:Nat):Int))],[],gh⟩) rfl rfl (qes_ ?h1) ?r1
 case h1=>
  rw[qes]
  erw [hl]
  rw[l9,sU,hk1,l9]
 case r1=>simp[al,results,q7i,am,aq,ai]
theorem Bh (A B i:Nat):tbl 0 0 0 1 (A/2^i%2) (B/2^i%2)=(((A &&&B)/2^i%2:Nat):Int):=by rw[<-Nat.toNat_testBit,<-Nat.toNat_testBit,<-Nat.toNat_testBit,Nat.testBit_and];cases A.testBit i<;>cases B.testBit i<;>rfl
theorem Bi (A B i:Nat):tbl 0 1 1 1 (A/2^i%2) (B/2^i%2)=(((A |||B)/2^i%2:Nat):Int):=by rw[<-Nat.toNat_testBit,<-Nat.toNat_testBit,<-Nat.toNat_testBit,Nat.testBit_or];cases A.testBit i<;>cases B.testBit i<;>rfl
theorem Bj (A B i:Nat):tbl 0 1 1 0 (A/2^i%2) (B/2^i%2)=(((A ^^^B)/2^i%2:Nat):Int):=by rw[<-Nat.toNat_testBit,<-Nat.toNat_testBit,<-Nat.toNat_testBit,Nat.testBit_xor];cases A.testBit i<;>cases B.testBit i<;>rfl
theorem tm {xs:List Int} {c:Nat} {caps:List PV} {gh:List GObj} {p:Int->Bool} (hc:∀x∈xs,ac pg c (I x::caps) gh=some (B (p x),gh)) (hcap:caps.all ak=true) (hs:Sz xs.length) :
  ∀k i,i+k=xs.length->ab pg q6d ⟨[(0,LI xs),(1,.fn c caps),(7,I xs.length),(8,I i)],[],gh⟩=
   match (xs.drop i).findIdx? p with
   |some j=>some (.ret,⟨[(4,I ((i+j:Nat)))],[],gh⟩)
   |none=>some (.normal,⟨[],[],gh⟩)
 |0,i,h=>by
  rw[aQ (by omega)];refine (bm (s1:=?s1) (q90 ?h1)).trans ?r1
  case h1=>simp[show i=xs.length by omega];rfl
  case r1=>simp[keep]
 | k+1,i,h=>by
  have hlt:i<xs.length:=by omega
  have hx:xs[i]?=some xs[i]:=aA hlt;rw[aL hlt,List.findIdx?_cons];cases hp:p xs[i] with
  |true=>
   refine (dl (s1:=?s2) (q90 ?h2)).trans ?r2
   case h2=>simp[hlt,hx,md hcap,hc xs[i] (bX hlt),hp];rfl
   case r2=>simp
  | false=>
   refine bc (s1:=?s3) (q90 ?h3) ?r3
   case h3=>simp[hlt,hx,md hcap,hc xs[i] (bX hlt),hp];rfl
   case r3=>
    rw[fH (by omega)];refine (tm hc hcap hs k (i+1) (by omega)).trans ?_;cases (xs.drop (i+1)).findIdx? p<;>simp;omega
theorem Bk {xs:List Int} {c:Nat} {caps:List PV} {gh:List GObj} {p:Int->Bool} (hc:∀x∈xs,ac pg c (I x::caps) gh=some (B (p x),gh)) (hcap:caps.all ak=true) (hs:Sz xs.length) :
  ac pg 111 [LI xs,.fn c caps] gh=some (I (match xs.findIdx? p with|some j=>(j:Int)|none=> -1),gh):=by
 have hl:=tm hc hcap hs xs.length 0 (by omega);simp only[bK,cN,aW] at hl;cases hf:xs.findIdx? p with
 |some j=>
  rw[hf] at hl;refine ao (fn:=q29) (s:=?s4) rfl rfl (qet ?h4) ?r4
  case h4=>simp[hl];rfl
  case r4=>simp[al,results,q29,am,aq,ai,ak,PV.one,PV.noG]
 |none=>
  rw[hf] at hl;refine ao (fn:=q29) (s:=?s5) rfl rfl (qet ?h5) ?r5
  case h5=>simp[hl,qgp (s:=⟨[(4,I (-1))],[],gh⟩) (e:= .ret) rfl];rfl
  case r5=>simp[al,results,q29,am,aq,ai,ak,PV.one,PV.noG]
theorem tp {xs:List Int} {c:Nat} {caps:List PV} {gh:List GObj} {p:Int->Bool} (hc:∀x∈xs,ac pg c (I x::caps) gh=some (B (p x),gh)) (hcap:caps.all ak=true) (hs:Sz xs.length) :
  ac pg 86 [LI xs,.fn c caps] gh=some (B (xs.any p),gh):=by
 refine ao (fn:=q67) (s:=?s6) rfl rfl (qgo ?h6) ?r6
 case h6=>simp[Bk hc hcap hs];rfl
 case r6=>
  have:(decide (0<=(match xs.findIdx? p with|some j=>(j:Int)|none=> -1)))=xs.any p:=by
   cases hf:xs.findIdx? p with
   |some j=>
    have:=List.findIdx?_eq_some_iff_getElem.1 hf;obtain⟨hj,hpj,_⟩:=this;simp only[Int.natCast_nonneg,decide_true];exact (List.any_eq_true.2 ⟨_,bX hj,hpj⟩).symm
   |none=>
    have:=List.findIdx?_eq_none_iff.1 hf;simp only[show decide ((0:Int)<= -1)=false by decide];exact (List.any_eq_false.2 λx hx=>by simp[this x hx]).symm
  simp[al,results,q67,am,aq,ai,ak,PV.one,PV.noG,this]
theorem gQ (x:Int×Int):bv x= .agg [I x.1,I x.2]:=rfl
def Bl (ins:Int) (i:Nat) (x:Int×Int):Prop:=x.2<=x.1\/x.1<2\/2*(1+ins+i)<=x.2\/x.1/2=x.2/2
instance (ins:Int) (i:Nat) (x:Int×Int):Decidable (Bl ins i x):=inferInstanceAs (Decidable (_\/_))
section
variable {ins:Int} {ands:List (Int×Int)} {gh:List GObj}
def RA (ands:List (Int×Int)):Prop:=∀x∈ands,(-9223372036854775808<=x.1/\x.1<=9223372036854775807)/\(-9223372036854775808<=x.2/\x.2<=9223372036854775807)
end
theorem eQ (l:List Int):dj (l.map I)=true:=by
 induction l with
 |nil=>rfl
 |cons x l ih=>simp[ih]
section
variable {gh:List GObj} {x y:GObj}
end
section
variable {ins:Int} {ands:List (Int×Int)} {gh:List GObj}
def SL (cls:List (List Int)):Prop:=∀l∈cls,Sz l.length
end
structure Nd where
 k:Int
 w:Int
 a:Int
 b:Int
 c:Int
 n:Int
 deriving Inhabited
def bp (x:Nd):PV:= .agg [I x.k,I x.w,I x.a,I x.b,I x.c,I x.n]
theorem cV (x:Nd):bp x= .agg [I x.k,I x.w,I x.a,I x.b,I x.c,I x.n]:=rfl
abbrev LN (l:List Nd):PV:= .sl false 6 (l.map bp)
theorem jm (k:Int):ba k=0\/ba k=1\/ba k=2\/ba k=3:=by
 unfold ba
 repeat' split
 all_goals simp
theorem Bm {k:Int} (h:1<=k/\k<=3):ba k=0:=by unfold ba;rw[if_pos (by omega)]
def eA (x:Nd):List Int:=[x.a,x.b,x.c].take (ba x.k).toNat
theorem tq (x:Nd) (gh:List GObj):ac pg 81 [bp x] gh=some (LI (eA x),gh):=by
 unfold bp eA;have ht:=gt x.k gh;rcases jm x.k with h|h|h|h<;>rw[h] at ht ⊢
 ·refine ao (fn:=qr) (s:=?s0) rfl rfl (q4u ?h0) ?r0
  case h0=>simp[ht];rfl
  case r0=>simp[al,results,qr,ai,get]
 ·refine ao (fn:=qr) (s:=?s1) rfl rfl (q4u ?h1) ?r1
  case h1=>simp[ht];rfl
  case r1=>simp[al,results,qr,ai,get]
 ·refine ao (fn:=qr) (s:=?s2) rfl rfl (q4u ?h2) ?r2
  case h2=>simp[ht];rfl
  case r2=>simp[al,results,qr,ai,get]
 ·refine ao (fn:=qr) (s:=?s3) rfl rfl (q4u ?h3) ?r3
  case h3=>simp[ht];rfl
  case r3=>simp[al,results,qr,ai,get]
theorem Bn (k:Int) (gh:List GObj):ac pg 103 [I k] gh=some (B (decide (1<=k/\k<=3)),gh):=by
 by_cases h:1<=k
 ·refine ao (fn:=q2d) (s:=?s1) rfl rfl (qeu ?h1) ?r1
  case h1=>simp[h];rfl
  case r1=>simp[al,results,q2d,am,aq,ai,h]
 ·refine ao (fn:=q2d) (s:=?s2) rfl rfl (qeu ?h2) ?r2
  case h2=>simp[h];rfl
  case r2=>simp[al,results,q2d,am,aq,ai,h]
def wAt (l:List Nd) (a:Int):Int:=(l.getD a.toNat default).w
def ci (l:List Nd) (a:Int):Prop:=0<=a/\a.toNat<l.length
instance (l:List Nd) (a:Int):Decidable (ci l a):=inferInstanceAs (Decidable (_/\_))
theorem eJ {l:List Nd} {a:Int} (h:ci l a):(l.map bp)[a.toNat]?=some (bp (l.getD a.toNat default)):=by rw[aB,aA h.2];simp[aM,aA h.2]
def kO (l:List Nd) (x:Nd) (w0 w1 w2:Int) (xs:List Int) (i:Int) (gh:List GObj):St:=
 ⟨[(0,LN l),(4,.ptr false 1 0),(5,.ptr false 2 0),(9,LI xs),(10,I xs.length),(11,I i)],[[I x.k,I x.w,I x.a,I x.b,I x.c,I x.n],[I 0,I 0,I 0],[I w0,I w1,I w2]],gh⟩
theorem jU {l:List Nd} {x:Nd} {w0 w1 w2 a i:Int} {xs:List Int} {gh:List GObj} (hi:i=0\/i=1\/i=2) (hx:xs[i.toNat]?=some a) (ha:ci l a) :
  q22 pg (LN l) (LI xs) xs.length i x.k x.w x.a x.b x.c x.n 0 0 0 w0 w1 w2 gh=
   some (.normal,kO l x (if i=0 then wAt l a else w0) (if i=1 then wAt l a else w1) (if i=2 then wAt l a else w2) xs (i+1) gh):=by
 have hlt:=(aD.1 hx).1;have hltI:i<(xs.length:Int):=by omega
 have hm:(xs.map I)[i.toNat]?=some (I a):=by rw[aB,hx];rfl
 have hn:=eJ ha;have h0:=ha.1;have hw:WI.wrap (i+1)=i+1:=az (by omega) (by omega);generalize hd:l.getD a.toNat default=d at hn;have hwa:wAt l a=d.w:=by unfold wAt;rw[hd]
 rw[hwa];rw[cV d] at hn;unfold kO;have h5:0<xs.length:=by omega
 rcases hi with rfl|rfl|rfl
 ·have e0:xs[0]=a:=(aD.1 hx).2
  rw[Int.zero_add] at hw;simp[q22,h5,e0,hn,h0,hw,ay,-List.getElem?_map]
 ·have hm0:(xs.map I)[1]?=some (I a):=hm
  simp[q22,hltI,hm0,hn,h0,ay,-List.getElem?_map];exact hw
 ·have hm0:(xs.map I)[2]?=some (I a):=hm
  simp[q22,hltI,hm0,hn,h0,ay,-List.getElem?_map];exact hw
def wdJ (l:List Nd) (k j a:Int):Int:=if j<ba k then wAt l a else 0
structure kP (l:List Nd) (x:Nd):Prop where
 a:0<ba x.k->ci l x.a
 b:1<ba x.k->ci l x.b
 c:2<ba x.k->ci l x.c
def gR (l:List Nd) (x:Nd):PV:= .agg [I (wdJ l x.k 0 x.a),I (wdJ l x.k 1 x.b),I (wdJ l x.k 2 x.c)]
theorem mh {l:List Nd} {x:Nd} {w0 w1 w2:Int} {xs:List Int} {gh:List GObj}:ab pg q45 (kO l x w0 w1 w2 xs xs.length gh)=
  some (.normal,⟨[(4,.ptr false 1 0),(5,.ptr false 2 0)],[[I x.k,I x.w,I x.a,I x.b,I x.c,I x.n],[I 0,I 0,I 0],[I w0,I w1,I w2]],gh⟩):=by
 refine (bm (s1:=?s1) (q22_ ?h1)).trans ?r1
 case h1=>simp[q22];rfl
 case r1=>simp[keep,bh]
theorem Bo {l:List Nd} {x:Nd} {gh:List GObj} (h:kP l x):ab pg q45 (kO l x 0 0 0 (eA x) 0 gh)=
  some (.normal,⟨[(4,.ptr false 1 0),(5,.ptr false 2 0)],[[I x.k,I x.w,I x.a,I x.b,I x.c,I x.n],[I 0,I 0,I 0],[I (wdJ l x.k 0 x.a),I (wdJ l x.k 1 x.b),I (wdJ l x.k 2 x.c)]],gh⟩):=by
 unfold eA wdJ;rcases jm x.k with ht|ht|ht|ht<;>rw[ht]
 ·exact mh (xs:=[])
 ·refine bc (q22_ (jU (a:=x.a) (.inl rfl) rfl (h.a (by omega)))) ?_
  exact mh (xs:=[x.a])
 ·refine bc (q22_ (jU (a:=x.a) (.inl rfl) rfl (h.a (by omega)))) ?_
  refine bc (q22_ (jU (a:=x.b) (.inr (.inl rfl)) rfl (h.b (by omega)))) ?_;exact mh (xs:=[x.a,x.b])
 ·refine bc (q22_ (jU (a:=x.a) (.inl rfl) rfl (h.a (by omega)))) ?_
  refine bc (q22_ (jU (a:=x.b) (.inr (.inl rfl)) rfl (h.b (by omega)))) ?_;refine bc (q22_ (jU (a:=x.c) (.inr (.inr rfl)) rfl (h.c (by omega)))) ?_;exact mh (xs:=[x.a,x.b,x.c])
theorem tr {l:List Nd} {x:Nd} {gh:List GObj} (h:kP l x):ac pg 104 [LN l,bp x] gh=some (gR l x,gh):=by
 have hA:=tq x gh;have hl:=Bo (gh:=gh) h;unfold kO at hl;have hk:=qgs (pg:=pg) (gh:=gh) (K0:=x.k) (K1:=x.w) (K2:=x.a) (K3:=x.b) (K4:=x.c) (K5:=x.n) (L0:=0) (L1:=0) (L2:=0) (M0:=wdJ l x.k 0 x.a) (M1:=wdJ l x.k 1 x.b) (M2:=wdJ l x.k 2 x.c) rfl;unfold bp at hA;have hlen:((eA x).map I).length=(eA x).length:=by simp
 refine ao (fn:=q6w) (s:=?s1) rfl rfl (qgt ?h1) ?r1
 case h1=>simp[hA,hl,hk];rfl
 case r1=>simp[al,results,q6w,am,aq,St.cellsAt,ai,gR]
theorem tt {l:List Nd} {x:Nd} {gh:List GObj} (h:kP l x):ac pg 102 [LN l,bp x] gh=some (gR l x,gh):=by
 have ht:=fU x.k gh
 have k3:∀(w0 w1 w2:Int),ab pg q2t ⟨[(4,.ptr false 1 0),(5,.ptr false 2 0)],[[I x.k,I x.w,I x.a,I x.b,I x.c,I x.n],[I 0,I 0,I 0],[I w0,I w1,I w2]],gh⟩=
   some (.ret,⟨[(4,.ptr false 1 0)],[[I x.k,I x.w,I x.a,I x.b,I x.c,I x.n],[I w0,I w1,I w2]],gh⟩):=λw0 w1 w2=>qgy rfl
 have k2:∀(w0 w1:Int),ab pg q2u ⟨[(0,LN l),(3,.ptr false 0 0),(4,.ptr false 1 0),(5,.ptr false 2 0),(6,I (ba x.k))],[[I x.k,I x.w,I x.a,I x.b,I x.c,I x.n],[I 0,I 0,I 0],[I w0,I w1,I 0]],gh⟩=
   some (.ret,⟨[(4,.ptr false 1 0)],[[I x.k,I x.w,I x.a,I x.b,I x.c,I x.n],[I w0,I w1,I (wdJ l x.k 2 x.c)]],gh⟩):=λw0 w1=>by
  refine qgz ?_;unfold wdJ;by_cases h2:2<ba x.k
  ·have hn:=eJ (h.c h2)
   have h0:=(h.c h2).1;unfold wAt;generalize l.getD x.c.toNat default=d at *;rw[cV d] at hn;simp[h2,hn,h0,k3,-List.getElem?_map]
  ·simp[h2,k3]
 have k1:∀(w0:Int),ab pg q2v ⟨[(0,LN l),(3,.ptr false 0 0),(4,.ptr false 1 0),(5,.ptr false 2 0),(6,I (ba x.k))],[[I x.k,I x.w,I x.a,I x.b,I x.c,I x.n],[I 0,I 0,I 0],[I w0,I 0,I 0]],gh⟩=
   some (.ret,⟨[(4,.ptr false 1 0)],[[I x.k,I x.w,I x.a,I x.b,I x.c,I x.n],[I w0,I (wdJ l x.k 1 x.b),I (wdJ l x.k 2 x.c)]],gh⟩):=λw0=>by
  refine qh0 ?_;by_cases h2:1<ba x.k
  ·have hn:=eJ (h.b h2)
   have h0:=(h.b h2).1;have e:wdJ l x.k 1 x.b=(l.getD x.b.toNat default).w:=by unfold wdJ wAt;rw[if_pos h2]
   rw[e];generalize l.getD x.b.toNat default=d at *;rw[cV d] at hn;simp[h2,hn,h0,k2,-List.getElem?_map]
  ·have e:wdJ l x.k 1 x.b=0:=by unfold wdJ;rw[if_neg h2]
   rw[e];simp[h2,k2]
 unfold gR;refine ao (fn:=q7r) (s:=⟨[(4,.ptr false 1 0)],[[I x.k,I x.w,I x.a,I x.b,I x.c,I x.n],[I (wdJ l x.k 0 x.a),I (wdJ l x.k 1 x.b),I (wdJ l x.k 2 x.c)]],gh⟩) rfl rfl (qh1 ?h1) ?r1
 case h1=>
  by_cases h2:0<ba x.k
  ·have hn:=eJ (h.a h2)
   have h0:=(h.a h2).1;have e:wdJ l x.k 0 x.a=(l.getD x.a.toNat default).w:=by unfold wdJ wAt;rw[if_pos h2]
   rw[e];generalize l.getD x.a.toNat default=d at *;rw[cV d] at hn;simp[ht,h2,hn,h0,k1,-List.getElem?_map]
  ·have e:wdJ l x.k 0 x.a=0:=by unfold wdJ;rw[if_neg h2]
   rw[e];simp[ht,h2,k1]
 case r1=>simp[al,results,q7r,am,aq,St.cellsAt,ai]
def dM (idx k j a:Int):Prop:=if j<ba k then a<0\/idx<=a else a≠0
instance (idx k j a:Int):Decidable (dM idx k j a):=inferInstanceAs (Decidable (if j<ba k then a<0\/idx<=a else a≠0))
def ft (idx:Int) (x:Nd):Prop:=dM idx x.k 0 x.a\/dM idx x.k 1 x.b\/dM idx x.k 2 x.c
instance (idx:Int) (x:Nd):Decidable (ft idx x):=inferInstanceAs (Decidable (_\/_))
def dw (l:List Nd) (idx:Int) (x:Nd):Int:=
 if x.k<1\/24<=x.k then 7 else if ¬(1<=x.w/\x.w<=8) then 3
 else if x.k<=3 then (if x.k=1/\¬(0<=x.n/\x.n<((2^x.w.toNat:Nat):Int)) then 3 else if (x.k≠1/\x.n≠0)\/x.a≠0\/x.b≠0\/x.c≠0 then 1 else 0)
 else if ft idx x then 4 else fq x.k x.w x.n (wdJ l x.k 0 x.a) (wdJ l x.k 1 x.b) (wdJ l x.k 2 x.c)
theorem oq {l:List Nd} {idx:Nat} {x:Nd} (hi:idx<=l.length) (h:¬ft idx x):kP l x:=by
 unfold ft dM at h;simp only[not_or] at h;obtain⟨h0,h1,h2⟩:=h;refine⟨λq=>?_,λq=>?_,λq=>?_⟩
 ·rw[if_pos q] at h0
  exact⟨by omega,by omega⟩
 ·rw[if_pos q] at h1
  exact⟨by omega,by omega⟩
 ·rw[if_pos q] at h2
  exact⟨by omega,by omega⟩
section
variable {l:List Nd} {x:Nd} {gh:List GObj}
def kQ (l:List Nd) (idx:Int) (x:Nd) (j:Int) (gh:List GObj):St:=
 ⟨[(0,LN l),(1,I idx),(5,.ptr false 0 0),(67,.sl true 1 [I x.a,I x.b,I x.c]),(68,I 3),(69,I j)],[[I x.k,I x.w,I x.a,I x.b,I x.c,I x.n]],gh⟩
theorem ot {idx j a:Int} (hj:(j=0/\a=x.a)\/(j=1/\a=x.b)\/(j=2/\a=x.c)) :
  q14 pg (LN l) idx (.sl true 1 [I x.a,I x.b,I x.c]) 3 j x.k x.w x.a x.b x.c x.n gh=if dM idx x.k j a then some (.ret,⟨[(4,I 4)],[],gh⟩) else some (.normal,kQ l idx x (j+1) gh):=by
 have hw:(WI.wrap (j+1))=j+1:=az (by omega) (by omega);by_cases hk:j<ba x.k
 ·have hk':=Int.not_le.2 hk
  by_cases h1:a<0
  ·rw[if_pos (by unfold dM;rw[if_pos hk];exact .inl h1)]
   rcases hj with ⟨rfl,rfl⟩|⟨rfl,rfl⟩|⟨rfl,rfl⟩<;>simp[q14,gt,hk,h1]
  ·by_cases h2:idx<=a
   ·rw[if_pos (by unfold dM;rw[if_pos hk];exact .inr h2)]
    rcases hj with ⟨rfl,rfl⟩|⟨rfl,rfl⟩|⟨rfl,rfl⟩<;>simp[q14,gt,hk,h1,h2]
   ·rw[if_neg (by unfold dM;rw[if_pos hk];rintro (h|h)<;>contradiction)]
    unfold kQ;rcases hj with ⟨rfl,rfl⟩|⟨rfl,rfl⟩|⟨rfl,rfl⟩<;>simp[q14,gt,hk,hk',h1,h2]<;>exact hw
 ·have hk':=Int.not_lt.1 hk
  by_cases h2:a=0
  ·rw[if_neg (by unfold dM;rw[if_neg hk];exact λh=>h h2)]
   unfold kQ;rcases hj with ⟨rfl,rfl⟩|⟨rfl,rfl⟩|⟨rfl,rfl⟩<;>simp[q14,gt,hk,hk',h2]<;>exact hw
  ·rw[if_pos (by unfold dM;rw[if_neg hk];exact h2)]
   rcases hj with ⟨rfl,rfl⟩|⟨rfl,rfl⟩|⟨rfl,rfl⟩<;>simp[q14,gt,hk,hk',h2]
theorem Bp {idx:Int}:ab pg q6g (kQ l idx x 0 gh)=
  if ft idx x then some (.ret,⟨[(4,I 4)],[],gh⟩) else some (.normal,⟨[(0,LN l),(5,.ptr false 0 0)],[[I x.k,I x.w,I x.a,I x.b,I x.c,I x.n]],gh⟩):=by
 have b0:=ot (l:=l) (x:=x) (gh:=gh) (idx:=idx) (j:=0) (a:=x.a) (by simp);have b1:=ot (l:=l) (x:=x) (gh:=gh) (idx:=idx) (j:=1) (a:=x.b) (by simp);have b2:=ot (l:=l) (x:=x) (gh:=gh) (idx:=idx) (j:=2) (a:=x.c) (by simp);by_cases h0:dM idx x.k 0 x.a
 ·rw[if_pos h0] at b0
  rw[if_pos (.inl h0)];exact dl (q14_ b0)
 rw[if_neg h0] at b0;refine bc (q14_ b0) ?_;by_cases h1:dM idx x.k 1 x.b
 ·rw[if_pos h1] at b1
  rw[if_pos (.inr (.inl h1))];exact dl (q14_ b1)
 rw[if_neg h1] at b1;refine bc (q14_ b1) ?_;by_cases h2:dM idx x.k 2 x.c
 ·rw[if_pos h2] at b2
  rw[if_pos (.inr (.inr h2))];exact dl (q14_ b2)
 rw[if_neg h2] at b2;refine bc (q14_ b2) ?_;rw[if_neg (by rintro (h|h|h)<;>contradiction)];refine (bm (s1:=?s1) (q14_ ?h1)).trans ?r1
 case h1=>simp[q14];rfl
 case r1=>simp[keep,bh]
theorem Bq {idx:Nat} (hi:idx<=l.length) (b:Bool):ab pg qb ⟨[(0,LN l),(1,I idx),(5,.ptr false 0 0),(26,B b)],[[I x.k,I x.w,I x.a,I x.b,I x.c,I x.n]],gh⟩=
  some (.ret,⟨[(4,I (if ft idx x then 4 else fq x.k x.w x.n (wdJ l x.k 0 x.a) (wdJ l x.k 1 x.b) (wdJ l x.k 2 x.c)))],[],gh⟩):=by
 refine qgw ?_;have hl:=Bp (l:=l) (x:=x) (gh:=gh) (idx:=idx);unfold kQ at hl;by_cases hb:ft idx x
 ·rw[if_pos hb] at hl
  simp[hl,hb]
 ·rw[if_neg hb] at hl
  have hW:=tr (gh:=gh) (oq hi hb);have hF:=AB x.k x.w x.n (wdJ l x.k 0 x.a) (wdJ l x.k 1 x.b) (wdJ l x.k 2 x.c) gh;unfold gR at hW;rw[cV x] at hW
  have hk:=qgv (pg:=pg) (gh:=gh) (v0:=LN l) (K0:=x.k) (K1:=x.w) (K2:=x.a) (K3:=x.b) (K4:=x.c) (K5:=x.n) (e:= .ret)
   (s:=⟨[(4,I (fq x.k x.w x.n (wdJ l x.k 0 x.a) (wdJ l x.k 1 x.b) (wdJ l x.k 2 x.c)))],[],gh⟩) (by
   simp[hW,hF])
  simp[hl,hb,hk]
theorem tu {w:Int} (h:1<=w/\w<=8):cT .i64 1 w=((2^w.toNat:Nat):Int):=by
 obtain⟨h1,h2⟩:=h;have:w=1\/w=2\/w=3\/w=4\/w=5\/w=6\/w=7\/w=8:=by omega
 rcases this with rfl|rfl|rfl|rfl|rfl|rfl|rfl|rfl<;>decide +kernel
theorem Br {idx:Nat} (hx:l[idx]?=some x):ac pg 76 [LN l,I idx] gh=some (I (dw l idx x),gh):=by
 have hlt:=(aD.1 hx).1;have hg:(l.map bp)[idx]?=some (bp x):=by rw[aB,hx];rfl
 rw[cV x] at hg;have k3:=Bq (l:=l) (x:=x) (gh:=gh) (idx:=idx) (by omega);have hw:=iK x.w gh;have hlf:=Bn x.k gh;have k1t:ab pg qe ⟨[(39,B true)],[],gh⟩=some (.ret,⟨[(4,I 1)],[],gh⟩):=qev rfl;have k1f:ab pg qe ⟨[(39,B false)],[],gh⟩=some (.normal,⟨[(39,B false)],[],gh⟩):=qev rfl;have k2:ab pg qf ⟨[(39,B false)],[],gh⟩=some (.ret,⟨[(4,I 0)],[],gh⟩):=qgu rfl;unfold dw;refine ao (fn:=q6i) (s:=⟨[(4,I (dw l idx x))],[],gh⟩) rfl rfl (qgx ?h1) ?r1
 case r1=>simp[al,results,q6i,am,aq,ai,dw]
 case h1=>
  unfold dw;by_cases h1:x.k<1
  ·simp[hg,h1,-List.getElem?_map]
  by_cases h2:24<=x.k
  ·simp[hg,h1,h2,-List.getElem?_map]
  by_cases h3:1<=x.w/\x.w<=8
  ·rw [aG h3] at hw
   by_cases h4:x.k<=3
   ·rw [aG ⟨by omega,h4⟩] at hlf
    by_cases h5:x.k=1
    ·have hI:=td x.n x.w (by omega) gh
     rw[tu h3] at hI;generalize ((2^x.w.toNat:Nat):Int)=T at *;by_cases h6:0<=x.n/\x.n<T
     ·rw[aG h6] at hI
      rw[h5] at hg hlf;by_cases ha:x.a=0
      ·by_cases hb:x.b=0
       ·by_cases hc:x.c=0
        ·simp[hg,h3,hw,hlf,h5,hI,h6,ha,hb,hc,k1f,k2,-List.getElem?_map]
        ·simp[hg,h3,hw,hlf,h5,hI,h6,ha,hb,hc,k1t,-List.getElem?_map]
       ·simp[hg,h3,hw,hlf,h5,hI,h6,ha,hb,k1t,-List.getElem?_map]
      ·simp[hg,h3,hw,hlf,h5,hI,h6,ha,k1t,-List.getElem?_map]
     ·rw[aF h6] at hI
      rw[h5] at hg hlf;simp[hg,h3,hw,hlf,h5,hI,h6,-List.getElem?_map]
    ·by_cases hn:x.n=0
     ·by_cases ha:x.a=0
      ·by_cases hb:x.b=0
       ·by_cases hc:x.c=0
        ·simp[hg,h1,h2,h3,hw,h4,hlf,h5,hn,ha,hb,hc,k1f,k2,-List.getElem?_map]
        ·simp[hg,h1,h2,h3,hw,h4,hlf,h5,hn,ha,hb,hc,k1t,-List.getElem?_map]
       ·simp[hg,h1,h2,h3,hw,h4,hlf,h5,hn,ha,hb,k1t,-List.getElem?_map]
      ·simp[hg,h1,h2,h3,hw,h4,hlf,h5,hn,ha,k1t,-List.getElem?_map]
     ·simp[hg,h1,h2,h3,hw,h4,hlf,h5,hn,k1t,-List.getElem?_map]
   ·rw[aF (λh=>h4 h.2)] at hlf
    have k3':=k3 false;simp[hg,h1,h2,h3,hw,h4,hlf,k3',-List.getElem?_map]
  ·rw[aF h3] at hw
   simp[hg,h1,h2,h3,hw,-List.getElem?_map]
def kS (l:List Nd) (idx:Int) (x:Nd) (j:Int) (gh:List GObj):St:=
 ⟨[(0,LN l),(1,I idx),(5,.ptr false 0 0),(6,.sl true 1 [I x.a,I x.b,I x.c]),(7,I j)],[[I x.k,I x.w,I x.a,I x.b,I x.c,I x.n]],gh⟩
theorem ou {idx j a:Int} (hix:0<=idx/\idx<=1000000) (hj:(j=0/\a=x.a)\/(j=1/\a=x.b)\/(j=2/\a=x.c)) :
  q1k pg (LN l) idx (.sl true 1 [I x.a,I x.b,I x.c]) j x.k x.w x.a x.b x.c x.n gh=if dM idx x.k j a then some (.ret,⟨[(4,I 4)],[],gh⟩) else some (.normal,kS l idx x (j+1) gh):=by
 have hw:(WI.wrap (j+1))=j+1:=az (by omega) (by omega);have hm:WI.wrap (idx-1)=idx-1:=az (by omega) (by omega);have hbt:=dS a 0 (idx-1) gh;by_cases hk:j<ba x.k
 ·have hk':=Int.not_le.2 hk
  by_cases h1:0<=a/\a<=idx-1
  ·rw[aG h1] at hbt
   rw[if_neg (by unfold dM;rw[if_pos hk];omega)];unfold kS;rcases hj with ⟨rfl,rfl⟩|⟨rfl,rfl⟩|⟨rfl,rfl⟩<;>simp[q1k,fU,hk,hk',hm,hbt]<;>exact hw
  ·rw[aF h1] at hbt
   rw[if_pos (by unfold dM;rw[if_pos hk];omega)];rcases hj with ⟨rfl,rfl⟩|⟨rfl,rfl⟩|⟨rfl,rfl⟩<;>simp[q1k,fU,hk,hm,hbt]
 ·have hk':=Int.not_lt.1 hk
  by_cases h2:a=0
  ·rw[if_neg (by unfold dM;rw[if_neg hk];exact λh=>h h2)]
   unfold kS;rcases hj with ⟨rfl,rfl⟩|⟨rfl,rfl⟩|⟨rfl,rfl⟩<;>simp[q1k,fU,hk,hk',h2]<;>exact hw
  ·rw[if_pos (by unfold dM;rw[if_neg hk];exact h2)]
   rcases hj with ⟨rfl,rfl⟩|⟨rfl,rfl⟩|⟨rfl,rfl⟩<;>simp[q1k,fU,hk,hk',h2]
theorem Bs {idx:Int} (hix:0<=idx/\idx<=1000000):ab pg qy (kS l idx x 0 gh)=
  if ft idx x then some (.ret,⟨[(4,I 4)],[],gh⟩) else some (.normal,⟨[(0,LN l),(5,.ptr false 0 0)],[[I x.k,I x.w,I x.a,I x.b,I x.c,I x.n]],gh⟩):=by
 have b0:=ou (l:=l) (x:=x) (gh:=gh) (idx:=idx) (j:=0) (a:=x.a) hix (by simp);have b1:=ou (l:=l) (x:=x) (gh:=gh) (idx:=idx) (j:=1) (a:=x.b) hix (by simp);have b2:=ou (l:=l) (x:=x) (gh:=gh) (idx:=idx) (j:=2) (a:=x.c) hix (by simp);by_cases h0:dM idx x.k 0 x.a
 ·rw[if_pos h0] at b0
  rw[if_pos (.inl h0)];exact dl (q1k_ b0)
 rw[if_neg h0] at b0;refine bc (q1k_ b0) ?_;by_cases h1:dM idx x.k 1 x.b
 ·rw[if_pos h1] at b1
  rw[if_pos (.inr (.inl h1))];exact dl (q1k_ b1)
 rw[if_neg h1] at b1;refine bc (q1k_ b1) ?_;by_cases h2:dM idx x.k 2 x.c
 ·rw[if_pos h2] at b2
  rw[if_pos (.inr (.inr h2))];exact dl (q1k_ b2)
 rw[if_neg h2] at b2;refine bc (q1k_ b2) ?_;rw[if_neg (by rintro (h|h|h)<;>contradiction)];refine (bm (s1:=?s1) (q1k_ ?h1)).trans ?r1
 case h1=>simp[q1k];rfl
 case r1=>simp[keep,bh]
theorem Bt {idx:Nat} (hi:idx<=l.length) (hb:¬ft idx x):ab pg qw ⟨[(0,LN l),(5,.ptr false 0 0)],[[I x.k,I x.w,I x.a,I x.b,I x.c,I x.n]],gh⟩=
  some (.ret,⟨[(4,I (fq x.k x.w x.n (wdJ l x.k 0 x.a) (wdJ l x.k 1 x.b) (wdJ l x.k 2 x.c)))],[],gh⟩):=by
 have hW:=tt (gh:=gh) (oq hi hb);have hF:=A6 x.k x.w x.n (wdJ l x.k 0 x.a) (wdJ l x.k 1 x.b) (wdJ l x.k 2 x.c) gh;unfold gR at hW;rw[cV x] at hW;refine qh2 ?_;simp[hW,hF]
theorem Bu {idx:Nat} (hx:l[idx]?=some x) (hlen:l.length<=1000000):ac pg 72 [LN l,I idx] gh=some (I (dw l idx x),gh):=by
 have hlt:=(aD.1 hx).1;have hg:(l.map bp)[idx]?=some (bp x):=by rw[aB,hx];rfl
 rw[cV x] at hg;have b1:=dS x.k 1 23 gh;have b2:=dS x.w 1 8 gh;have hl:=Bs (l:=l) (x:=x) (gh:=gh) (idx:=idx) (by omega);unfold kS at hl;refine ao (fn:=q7j) (s:=⟨[(4,I (dw l idx x))],[],gh⟩) rfl rfl (qh3 ?h1) ?r1
 case r1=>simp[al,results,q7j,am,aq,ai]
 case h1 =>
  unfold dw;by_cases h12:1<=x.k/\x.k<=23
  ·rw [aG h12] at b1
   have h1:¬x.k<1:=by omega
   have h2:¬24<=x.k:=by omega
   by_cases h3:1<=x.w/\x.w<=8
   ·rw [aG h3] at b2
    by_cases h4:x.k<=3
    ·by_cases h5:x.k=1
     ·obtain⟨T,hTT,hT,e1⟩:∃T:Int,((2^x.w.toNat:Nat):Int)=T/\ac pg 27 [I x.w] gh=some (I T,gh)/\WI.wrap (T-1)=T-1:=by
       have hT:=ff (k:=x.w.toNat) (by omega) gh;have hp:2^x.w.toNat<=2^8:=bN (by decide) (by omega);rw[show ((x.w.toNat:Nat):Int)=x.w by omega] at hT;generalize 2^x.w.toNat=T at *;exact⟨T,rfl,hT,az (by omega) (by omega)⟩
      rw[hTT];have hB:=dS x.n 0 (T-1) gh;have d5:decide (x.k=1)=true:=aG h5;have d4:decide (x.k<=3)=true:=aG h4;have d7:decide (1<x.k)=false:=aF (by omega)
      have ev:∀r:Int,(if x.k<1\/24<=x.k then 7 else if ¬(1<=x.w/\x.w<=8) then 3
        else if x.k<=3 then (if x.k=1/\¬(0<=x.n/\x.n<T) then 3 else if (x.k≠1/\x.n≠0)\/x.a≠0\/x.b≠0\/x.c≠0 then 1 else 0)
        else if ft idx x then 4 else fq x.k x.w x.n (wdJ l x.k 0 x.a) (wdJ l x.k 1 x.b) (wdJ l x.k 2 x.c))=r->
       (if x.k<1\/24<=x.k then 7 else if ¬(1<=x.w/\x.w<=8) then 3
        else if x.k<=3 then (if x.k=1/\¬(0<=x.n/\x.n<T) then 3 else if (x.k≠1/\x.n≠0)\/x.a≠0\/x.b≠0\/x.c≠0 then 1 else 0)
        else if ft idx x then 4 else fq x.k x.w x.n (wdJ l x.k 0 x.a) (wdJ l x.k 1 x.b) (wdJ l x.k 2 x.c))=r:=λ_ h=>h
      by_cases h6:0<=x.n/\x.n<T
      ·rw [aG ⟨h6.1,by omega⟩] at hB
       by_cases ha:x.a=0
       ·by_cases hb:x.b=0
        ·by_cases hc:x.c=0
         ·rw[ev 0 (by simp[h5,h3,h6,ha,hb,hc])]
          simp[hg,b1,b2,d5,d4,d7,hT,e1,hB,ha,hb,hc,-List.getElem?_map]
         ·rw[ev 1 (by simp[h5,h3,h6,ha,hb,hc])]
          simp[hg,b1,b2,d5,d4,d7,hT,e1,hB,ha,hb,hc,-List.getElem?_map]
        ·rw[ev 1 (by simp[h5,h3,h6,ha,hb])]
         simp[hg,b1,b2,d5,d4,d7,hT,e1,hB,ha,hb,-List.getElem?_map]
       ·rw[ev 1 (by simp[h5,h3,h6,ha])]
        simp[hg,b1,b2,d5,d4,d7,hT,e1,hB,ha,-List.getElem?_map]
      ·rw[aF (by omega)] at hB
       rw[ev 3 (by simp[h5,h3,h6])];simp[hg,b1,b2,d5,hT,e1,hB,-List.getElem?_map]
     ·have h7:1<x.k:=by omega
      by_cases hn:x.n=0
      ·by_cases ha:x.a=0
       ·by_cases hb:x.b=0
        ·by_cases hc:x.c=0
         ·simp[hg,h1,h2,h3,b1,b2,h4,h5,h7,hn,ha,hb,hc,-List.getElem?_map]
         ·simp[hg,h1,h2,h3,b1,b2,h4,h5,h7,hn,ha,hb,hc,-List.getElem?_map]
        ·simp[hg,h1,h2,h3,b1,b2,h4,h5,h7,hn,ha,hb,-List.getElem?_map]
       ·simp[hg,h1,h2,h3,b1,b2,h4,h5,h7,hn,ha,-List.getElem?_map]
      ·simp[hg,h1,h2,h3,b1,b2,h4,h5,h7,hn,-List.getElem?_map]
    ·have h5:x.k≠1:=by omega
     by_cases hb:ft idx x
     ·rw[if_pos hb] at hl
      simp[hg,h1,h2,h3,b1,b2,h4,h5,hb,hl,-List.getElem?_map]
     ·rw[if_neg hb] at hl
      have hk:=Bt (l:=l) (gh:=gh) (idx:=idx) (by omega) hb;simp[hg,h1,h2,h3,b1,b2,h4,h5,hb,hl,hk,-List.getElem?_map]
   ·rw[aF h3] at b2
    simp[hg,h1,h2,h3,b1,b2,-List.getElem?_map]
  ·rw[aF h12] at b1
   have h1:x.k<1\/24<=x.k:=by omega
   simp[hg,h1,b1,-List.getElem?_map]
end
theorem tv (v:List Bool):dj (v.map B)=true:=by
 induction v with
 |nil=>rfl
 |cons x l ih=>simp[ih]
@[simp] theorem noG_ep (e : PV) (o : Nat) : PV.noG (.ep e o) = e.noG := rfl
section
variable {gh:List GObj}
end
structure Md where
 nodes:List Nd
 inits:List (Int×Int)
 nexts:List (Int×Int)
 bads:List Int
 holds:List Int
abbrev LP (l:List (Int×Int)):PV:= .sl false 2 (l.map bv)
def de (m:Md):PV:= .agg [LN m.nodes,LP m.inits,LP m.nexts,LI m.bads,LI m.holds]
theorem bz (m:Md):de m= .agg [LN m.nodes,LP m.inits,LP m.nexts,LI m.bads,LI m.holds]:=rfl
def cW (kind:Int):Nat->List Nd->List Int
 |_,[]=>[]
 |i,x::l=>if x.k=kind then (i:Int)::cW kind (i+1) l else cW kind (i+1) l
def ah (l:List Nd) (kind:Int):List Int:=cW kind 0 l
theorem mi (kind:Int):∀(i:Nat) (l:List Nd),(cW kind i l).length<=l.length
 |_,[]=>cM _
 |i,x::l=>by have:=mi kind (i+1) l;rw[cW];split<;>simp<;>omega
theorem kindF_mem {kind:Int}:∀{i:Nat} {l:List Nd} {a:Int},a∈cW kind i l↔∃j,j<l.length/\a=((i+j:Nat):Int)/\(l[j]?.map (·.k))=some kind
 |i,[],a=>by simp[cW]
 | i,x::l,a=>by
  have ih:=kindF_mem (kind:=kind) (i:=i+1) (l:=l) (a:=a);rw[cW];constructor
  ·intro h
   split at h
   ·rename_i hk
    rcases List.mem_cons.1 h with h|h
    ·exact⟨0,by simp,by simpa using h,by simp[hk]⟩
    ·obtain⟨j,h1,h2,h3⟩:=ih.1 h
     exact⟨j+1,by simp;omega,by rw[h2];omega,by simpa using h3⟩
   ·obtain⟨j,h1,h2,h3⟩:=ih.1 h
    exact⟨j+1,by simp;omega,by rw[h2];omega,by simpa using h3⟩
  ·rintro⟨j,h1,h2,h3⟩
   cases j with
   |zero=>
    simp at h3;rw[if_pos h3];exact List.mem_cons.2 (.inl (by simpa using h2))
   |succ j=>
    have:=ih.2 ⟨j,by simpa using h1,by rw[h2];omega,by simpa using h3⟩;split
    ·exact bF _ this
    ·exact this
section
variable {m:Md} {gh:List GObj}
def iN (l:List Nd) (kind:Int) (acc:List Int) (i:Nat) (gh:List GObj):St:=
 ⟨[(1,I kind),(5,.sl true 1 (acc.map I)),(9,LN l),(10,I l.length),(11,I (i:Int))],[],gh⟩
theorem tw {l:List Nd} {kind:Int} {acc:List Int} {i:Nat} (hi:i<=100000):ab pg q2c ⟨[(1,I kind),(5,.sl true 1 (acc.map I)),(9,LN l),(10,I l.length),(11,I (i:Int))],[],gh⟩=some (.normal,iN l kind acc (i+1) gh):=by
 have e2:WI.wrap ((i:Int)+1)=((i+1:Nat):Int):=by rw[az (by omega) (by omega)];omega
 refine qh4 ?_;simp[e2,iN]
theorem ov {l:List Nd} {kind:Int} (hl:l.length<=1000):∀k i (acc:List Int),i+k=l.length->acc.length<=i->
  ab pg q6s (iN l kind acc i gh)=some (.normal,⟨[(5,.sl true 1 ((acc++cW kind i (l.drop i)).map I))],[],gh⟩)
 |0,i,acc,h,_=>by
  rw[aQ (by omega)];have hlt:¬(i:Int)<(l.length:Int):=by omega
  refine (bm (s1:=?s1) (q93 ?h1)).trans ?r1
  case h1=>simp only[aF hlt,dK];rfl
  case r1=>simp[keep,cW,bh]
 | k+1,i,acc,h,ha=>by
  have hlt:i<l.length:=by omega
  have hltI:(i:Int)<(l.length:Int):=by omega
  have hx:(l.map bp)[i]?=some (bp l[i]):=by simp[aA hlt]
  rw[cV l[i]] at hx;have hmx:(acc.length+1)*8<=maxBytes:=by have:=MB;omega
  rw[aL hlt,cW];generalize l[i]=x at *;by_cases hk:x.k=kind
  ·rw[if_pos hk]
   have hk1:=tw (gh:=gh) (l:=l) (kind:=kind) (acc:=acc++[(i:Int)]) (i:=i) (by omega);have e:acc++(i:Int)::cW kind (i+1) (l.drop (i+1))=(acc++[(i:Int)])++cW kind (i+1) (l.drop (i+1)):=by simp
   rw[e];refine bc (s1:=iN l kind (acc++[(i:Int)]) (i+1) gh) (q93 ?_) (ov hl k (i+1) _ (by omega) (by simp;omega));have hal:(acc.map I).length=acc.length:=by simp
   unfold iN at *;simp only[bJ,bP,bQ] at hk1 ⊢;generalize acc.map I=A at *;simp[hltI,hx,hk,hal,hmx,hk1,-List.getElem?_map]
  ·rw[if_neg hk]
   have hk1:=tw (gh:=gh) (l:=l) (kind:=kind) (acc:=acc) (i:=i) (by omega);refine bc (s1:=iN l kind acc (i+1) gh) (q93 ?_) (ov hl k (i+1) _ (by omega) (by omega));unfold iN at *;generalize acc.map I=A at *;simp[hltI,hx,hk,hk1,-List.getElem?_map]
theorem ik {kind:Int} (hl:m.nodes.length<=1000):ac pg 101 [de m,I kind] gh=some (LI (ah m.nodes kind),gh):=by
 have h:=ov (gh:=gh) (l:=m.nodes) (kind:=kind) hl m.nodes.length 0 [] (by omega) (by simp);rw[bK,bH] at h;unfold iN at h;simp only[bQ,aW] at h;have hn:=eQ (cW kind 0 m.nodes);have hln:(m.nodes.map bp).length=m.nodes.length:=by simp
 have hk:=qh5 (pg:=pg) (gh:=gh) (v5:= .sl true 1 ((cW kind 0 m.nodes).map I)) (e:= .ret) (s:=⟨[(4,.sl false 1 ((cW kind 0 m.nodes).map I))],[],gh⟩) (by simp);unfold ah;simp only[LI];generalize (cW kind 0 m.nodes).map I=K at *;rw[bz];refine ao (fn:=q6u) (s:=⟨[(4,.sl false 1 K)],[],gh⟩) rfl rfl (qh6 ?h1) ?r1
 case h1=>simp[h,hk]
 case r1=>simp[al,results,q6u,am,aq,ai,hn]
def jn (s:Int) (x:Nd):Int:=WI.wrap (s+x.w)
def dZ (l:List Nd) (kind:Int):Int:=(l.filter λx=>decide (x.k=kind)).foldl jn 0
theorem mj (L:List Nd) (kind:Int):∀(i:Nat) (l:List Nd) (s:Int),l=L.drop i->(cW kind i l).foldl (λs a=>WI.wrap (s+wAt L a)) s=(l.filter λx=>decide (x.k=kind)).foldl jn s
 |_,[],_,_=>rfl
 | i,x::l,s,h=>by
  have hi:L[i]?=some x:=by have:=congrArg (·[0]?) h;simpa using this.symm
  have hd:l=L.drop (i+1):=by have:=congrArg List.tail h;rw[List.tail_drop] at this;exact this
  have hw:wAt L (i:Int)=x.w:=by unfold wAt;simp[aM,hi]
  rw[cW,List.filter_cons];by_cases hk:x.k=kind
  ·rw[if_pos hk,if_pos (by simpa using hk),List.foldl_cons,List.foldl_cons,hw]
   exact mj L kind (i+1) l _ hd
  ·rw[if_neg hk,if_neg (by simpa using hk)]
   exact mj L kind (i+1) l s hd
def ml (m:Md) (xs:List Int) (s:Int) (i:Nat) (gh:List GObj):St:=
 ⟨[(2,.ptr false 0 0),(5,I s),(8,LI xs),(9,I xs.length),(10,I (i:Int))],[[LN m.nodes,LP m.inits,LP m.nexts,LI m.bads,LI m.holds]],gh⟩
theorem tx {xs:List Int} (hx:∀a∈xs,ci m.nodes a) (hl:xs.length<=1000):∀k i s,i+k=xs.length->
  ab pg q6x (ml m xs s i gh)=some (.normal,⟨[(5,I ((xs.drop i).foldl (λs a=>WI.wrap (s+wAt m.nodes a)) s))],[],gh⟩)
 |0,i,s,h=>by
  rw[aQ (by omega)];have hlt:¬(i:Int)<(xs.length:Int):=by omega
  refine (bm (s1:=?s1) (qew ?h1)).trans ?r1
  case h1=>simp only[aF hlt,dK];rfl
  case r1=>simp[keep,bh]
 |k+1,i,s,h=>by
  have hlt:i<xs.length:=by omega
  have hltI:(i:Int)<(xs.length:Int):=by omega
  have e2:WI.wrap ((i:Int)+1)=((i+1:Nat):Int):=by rw[az (by omega) (by omega)];omega
  have hg:(xs.map I)[i]?=some (I xs[i]):=by simp[aA hlt]
  have hno:=hx _ (bX hlt);have hn:=eJ hno;have h0:=hno.1;rw[aL hlt,List.foldl_cons];generalize xs[i]=a at *;refine bc (s1:=ml m xs (WI.wrap (s+wAt m.nodes a)) (i+1) gh) (qew ?_) (tx hx hl k (i+1) _ (by omega));unfold ml wAt;generalize m.nodes.getD a.toNat default=d at *;rw[cV d] at hn;simp[hltI,hg,h0,hn,e2,-List.getElem?_map]
theorem Bv {xs:List Int} (hx:∀a∈xs,ci m.nodes a) (hl:xs.length<=1000):ac pg 105 [de m,LI xs] gh=some (I (xs.foldl (λs a=>WI.wrap (s+wAt m.nodes a)) 0),gh):=by
 have h:=tx (gh:=gh) hx hl xs.length 0 0 (by omega);rw[bK] at h;unfold ml at h;simp only[aW] at h;generalize xs.foldl (λs a=>WI.wrap (s+wAt m.nodes a)) 0=r at *;have hk:=qh9 (pg:=pg) (gh:=gh) (x5:=r) rfl;rw[bz];refine ao (fn:=q6z) (s:=⟨[(4,I r)],[],gh⟩) rfl rfl (qha ?h1) ?r1
 case h1=>simp[h,hk]
 case r1=>simp[al,results,q6z,am,aq,ai]
theorem tz {l:List Nd} {kind a:Int} (h:a∈ah l kind):ci l a:=by obtain⟨j,h1,h2,-⟩:=kindF_mem.1 h;exact⟨by omega,by omega⟩
theorem Bw (hl:m.nodes.length<=1000):ac pg 77 [de m] gh=some (.tup [I (dZ m.nodes 2),I (dZ m.nodes 3)],gh):=by
 have b:∀kind,ac pg 105 [de m,LI (ah m.nodes kind)] gh=some (I (dZ m.nodes kind),gh):=λkind=>by have h:=Bv (m:=m) (gh:=gh) (xs:=ah m.nodes kind) (λa ha=>tz ha) (bW (mi kind 0 m.nodes) hl);have e:=mj m.nodes kind 0 m.nodes 0 rfl;unfold ah at h ⊢;rw[e] at h;exact h
 have o2:=ik (m:=m) (gh:=gh) (kind:=2) hl;have o3:=ik (m:=m) (gh:=gh) (kind:=3) hl;have b2:=b 2;have b3:=b 3;rw[bz] at *;refine ao (fn:=q6j) (s:=⟨[(2,I (dZ m.nodes 2)),(3,I (dZ m.nodes 3))],[],gh⟩) rfl rfl (qh8 ?h1) ?r1
 case h1=>simp[o2,o3,b2,b3]
 case r1=>simp[al,results,q6j,am,aq,ai]
def kT (f:List Bool) (x:Nd):Bool:=decide (x.k=2\/x.k=3)||(eA x).any λa=>f.getD a.toNat false
def dt:List Bool->List Nd->List Bool
 |f,[]=>f
 |f,x::l=>dt (f++[kT f x]) l
theorem ox:∀(f:List Bool) (l:List Nd),(dt f l).length=f.length+l.length
 |f,[]=>rfl
 |f,x::l=>by rw[dt,ox];simp;omega
def jV (l:List Nd):Prop:=∀(i:Nat) (x:Nd),l[i]?=some x->∀a∈eA x,0<=a/\a<i
def ckG (gh:List GObj) (m:Md) (f:List Bool):List GObj:=gh++[.cells [LN m.nodes,LP m.inits,LP m.nexts,LI m.bads,LI m.holds,.sl true 1 (f.map B)]]
theorem jW {f:List Bool} {a:Int} (h:a.toNat<f.length):(f.map B)[a.toNat]?=some (B (f.getD a.toNat false)):=by rw[aB,aA h];simp[aM,aA h]
def kU (m:Md) (f:List Bool) (xs:List Int) (b:Bool) (i j:Nat) (gh:List GObj):St:=
 ⟨[(0,.ptr true gh.length 0),(4,B b),(11,LN m.nodes),(12,I m.nodes.length),(13,I (i:Int)),(26,LI xs),(27,I xs.length),(28,I (j:Int))],[],ckG gh m f⟩
theorem tA {f:List Bool} {xs:List Int} {i:Nat} (hx:∀a∈xs,0<=a/\a.toNat<f.length) (hl:xs.length<=1000):∀k j b,j+k=xs.length->
  ab pg q2a (kU m f xs b i j gh)=some (.normal,⟨[(0,.ptr true gh.length 0),(4,B (b||(xs.drop j).any λa=>f.getD a.toNat false)),(11,LN m.nodes),(12,I m.nodes.length),(13,I (i:Int))],[],ckG gh m f⟩)
 |0,j,b,h=>by
  rw[aQ (by omega)];have hlt:¬(j:Int)<(xs.length:Int):=by omega
  refine (bm (s1:=?s1) (qex ?h1)).trans ?r1
  case h1=>simp only[aF hlt,dK];rfl
  case r1=>simp[keep,bh]
 |k+1,j,b,h=>by
  have hlt:j<xs.length:=by omega
  have hltI:(j:Int)<(xs.length:Int):=by omega
  have e2:WI.wrap ((j:Int)+1)=((j+1:Nat):Int):=by rw[az (by omega) (by omega)];omega
  have hg:(xs.map I)[j]?=some (I xs[j]):=by simp[aA hlt]
  obtain⟨h0,h1⟩:=hx _ (bX hlt);rw[aL hlt,List.any_cons,<-Bool.or_assoc];generalize xs[j]=a at *;have hfr:=jW h1;generalize f.getD a.toNat false=c at *;refine bc (s1:=kU m f xs (b||c) i (j+1) gh) (qex ?_) (tA hx hl k (j+1) _ (by omega));unfold kU ckG;cases b with
  |true=>simp[hltI,hg,e2,-List.getElem?_map]
  |false=>simp[hltI,hg,h0,hfr,e2,-List.getElem?_map]
def jX (m:Md) (f:List Bool) (i:Nat) (gh:List GObj):St:=
 ⟨[(0,.ptr true gh.length 0),(11,LN m.nodes),(12,I m.nodes.length),(13,I (i:Int))],[],ckG gh m f⟩
theorem tC (hA:jV m.nodes) (hl:m.nodes.length<=1000):∀k i f,i+k=m.nodes.length->f.length=i->
  ab pg q6k (jX m f i gh)=some (.normal,⟨[],[],ckG gh m (dt f (m.nodes.drop i))⟩)
 |0,i,f,h,_=>by
  rw[aQ (by omega)];have hlt:¬(i:Int)<(m.nodes.length:Int):=by omega
  refine (bm (s1:=?s1) (qey ?h1)).trans ?r1
  case h1=>simp only[aF hlt,dK];rfl
  case r1=>simp[keep,dt]
 | k+1,i,f,h,hf=>by
  have hlt:i<m.nodes.length:=by omega
  have hltI:(i:Int)<(m.nodes.length:Int):=by omega
  have e2:WI.wrap ((i:Int)+1)=((i+1:Nat):Int):=by rw[az (by omega) (by omega)];omega
  have hx:(m.nodes.map bp)[i]?=some (bp m.nodes[i]):=by simp[aA hlt]
  have hah:=hA i _ (aA hlt);rw[aL hlt,dt];generalize m.nodes[i]=x at *;rw[cV x] at hx;have hArg:=tq x (ckG gh m f);rw[cV x] at hArg;have hal:(eA x).length<=3:=by unfold eA;simp;omega
  have hl2:∀b,ab pg q2a (kU m f (eA x) b i 0 gh)=_:=λb=>tA (i:=i) (λa ha=>⟨(hah a ha).1,by have:=hah a ha;omega⟩) (by omega) (eA x).length 0 b (by omega)
  rw[bK] at hl2;generalize hany:((eA x).any λa=>f.getD a.toNat false)=c at *;have hB:kT f x=(decide (x.k=2\/x.k=3)||c):=by unfold kT;rw[hany]
  rw[hB];have hmx:f.length+1<=maxBytes:=by have:=MB;omega
  refine bc (s1:=jX m (f++[decide (x.k=2\/x.k=3)||c]) (i+1) gh) (qey ?_) (tC hA hl k (i+1) _ (by omega) (by simp;omega));have hk1:∀b,ab pg q2b ⟨[(0,.ptr true gh.length 0),(4,B b),(11,LN m.nodes),(12,I m.nodes.length),(13,I (i:Int))],[],ckG gh m f⟩=some (.normal,⟨[(0,.ptr true gh.length 0),(11,LN m.nodes),(12,I m.nodes.length),(13,I (i:Int))],[],ckG gh m (f++[b])⟩):=λb=>by refine qhb ?_;simp[ckG,ay,hmx]
  have hk2:∀b,ab pg q1e ⟨[(0,.ptr true gh.length 0),(11,LN m.nodes),(12,I m.nodes.length),(13,I (i:Int))],[],ckG gh m (f++[b])⟩=some (.normal,jX m (f++[b]) (i+1) gh):=λb=>by refine qhc ?_;simp[e2,jX]
  unfold kU at hl2;simp only[aW] at hl2;unfold jX at *;generalize ckG gh m f=g0 at *;by_cases h2:x.k=2
  ·have hd:decide (x.k=2\/x.k=3)=true:=aG (.inl h2)
   have d2:decide (x.k=2)=true:=aG h2;rw[hd];have:=hl2 true;have k1':=hk1 (true||c);have k2':=hk2 (true||c);generalize ckG gh m (f++[true||c])=g1 at *;simp only[Bool.true_or] at this k1' k2';simp[hltI,hx,d2,hArg,this,k1',k2',-List.getElem?_map]
  ·have d2:decide (x.k=2)=false:=aF h2
   have hd:decide (x.k=2\/x.k=3)=decide (x.k=3):=by simp[h2]
   rw[hd];have:=hl2 (decide (x.k=3));have k1':=hk1 (decide (x.k=3)||c);have k2':=hk2 (decide (x.k=3)||c);generalize ckG gh m (f++[decide (x.k=3)||c])=g1 at *;simp[hltI,hx,d2,hArg,this,k1',k2',-List.getElem?_map]
theorem Bx (hA:jV m.nodes) (hl:m.nodes.length<=1000):ac pg 78 [.ptr true gh.length 0] (ckG gh m [])=some (.tup [],ckG gh m (dt [] m.nodes)):=by have h:=tC (gh:=gh) hA hl m.nodes.length 0 [] (by omega) rfl;rw[bK] at h;unfold jX at h;simp only[aW] at h;generalize ckG gh m (dt [] m.nodes)=g1 at *;have h1:=qhd (pg:=pg) (g0:=gh.length) (o0:=0) (gh:=ckG gh m []) (e:= .normal) (s:=⟨[],[],g1⟩) (by unfold ckG at h ⊢;simp at h ⊢;simp[h]);rw[jT (fn:=q6l) rfl rfl h1];simp[al,results,q6l,am,ai]
theorem oy {f:List Bool} {n:Int} {g:List GObj} {b:Nat} (hb:g[b]?=some (.cells [LN m.nodes,LP m.inits,LP m.nexts,LI m.bads,LI m.holds,.sl true 1 (f.map B)])):ac pg 118 [.ptr true b 0,I n] g=some (B (decide (ci m.nodes n)),g):=by
 by_cases h:0<=n
 ·have e:decide (ci m.nodes n)=decide (n<(m.nodes.length:Int)):=decide_eq_decide.2 ⟨λh2=>by have:=h2.2;omega,λh2=>⟨h,by omega⟩⟩
  rw[e];refine ao (fn:=q2e) (s:=?s1) rfl rfl (qez ?h1) ?r1
  case h1=>simp[h,hb];rfl
  case r1=>simp[al,results,q2e,am,aq,ai]
 ·have e:decide (ci m.nodes n)=false:=aF λh2=>h h2.1
  rw[e];refine ao (fn:=q2e) (s:=?s2) rfl rfl (qez ?h2) ?r2
  case h2=>simp[h];rfl
  case r2=>simp[al,results,q2e,am,aq,ai]
def dN (l:List Nd) (f:List Bool) (init:Bool) (p:Int×Int):Int:=
 if ¬ci l p.1\/¬ci l p.2\/(l.getD p.1.toNat default).k≠3 then 5 else if wAt l p.1≠wAt l p.2 then 1 else if init=true/\f.getD p.2.toNat false=true then 4 else 0
theorem By {f:List Bool} {init:Bool} {p:Int×Int} {g:List GObj} {b:Nat} (hf:f.length=m.nodes.length) (hb:g[b]?=some (.cells [LN m.nodes,LP m.inits,LP m.nexts,LI m.bads,LI m.holds,.sl true 1 (f.map B)])) :
  ac pg 106 [.ptr true b 0,bv p,B init] g=some (I (dN m.nodes f init p),g):=by
 obtain⟨s,n⟩:=p;have i1:=oy (n:=s) hb;have i2:=oy (n:=n) hb;rw[gQ];unfold dN wAt;simp only;refine ao (fn:=q70) (s:=⟨[(6,I (dN m.nodes f init (s,n)))],[],g⟩) rfl rfl (qhg ?h1) ?r1
 case r1=>simp[al,results,q70,am,aq,ai,dN,wAt]
 case h1=>
  unfold dN wAt;simp only;by_cases h1:ci m.nodes s
  ·rw [aG h1] at i1
   by_cases h2:ci m.nodes n
   ·rw [aG h2] at i2
    have n1:=eJ h1;have n2:=eJ h2;have z1:=h1.1;have z2:=h2.1;have hfr:=jW (f:=f) (a:=n) (by rw[hf];exact h2.2);generalize m.nodes.getD s.toNat default=d1 at *;generalize m.nodes.getD n.toNat default=d2 at *;generalize f.getD n.toNat false=c at *;rw[cV d1] at n1;rw[cV d2] at n2;by_cases h3:d1.k=3
    ·have d3:decide (d1.k=3)=true:=aG h3
     by_cases h4:d1.w=d2.w
     ·rw[if_neg (by rintro (h|h|h)<;>contradiction),if_neg (λh=>h h4)]
      cases init with
      |true=>cases c with
       |true=>simp[i1,i2,hb,z1,z2,n1,n2,d3,h4,hfr,-List.getElem?_map]
       |false=>simp[i1,i2,hb,z1,z2,n1,n2,d3,h4,hfr,-List.getElem?_map]
      |false=>simp[i1,i2,hb,z1,z2,n1,n2,d3,h4,-List.getElem?_map]
     ·rw[if_neg (by rintro (h|h|h)<;>contradiction),if_pos h4]
      simp[i1,i2,hb,z1,z2,n1,n2,d3,h4,-List.getElem?_map]
    ·rw[if_pos (.inr (.inr h3))]
     simp[i1,i2,hb,z1,n1,h3,-List.getElem?_map]
   ·rw[aF h2] at i2
    rw[if_pos (.inr (.inl h2))];simp[i1,i2]
  ·rw[aF h1] at i1
   rw[if_pos (.inl h1)];simp[i1]
end
section
variable {m:Md} {gh:List GObj}
theorem Bz {n:Nat} (h:n*8<=maxBytes):ac pg 119 [.nils,I n] gh=some (.sl true 1 [],gh):=by have:ac pg 119 [.nils,I n] gh=iI 1 8 [.nils,I n] gh:=rfl;rw[this,iI,if_pos ⟨by omega,by simpa using h⟩]
theorem BA {X Y:List PV} (hX:dj X=true) (hY:dj Y=true) (h:(X.length+Y.length)*8<=maxBytes):ac pg 107 [.sl false 1 [.sl false 1 X,.sl false 1 Y]] gh=some (.sl false 1 (X++Y),gh):=by
 have hm:=MB;have w1:WI.wrap (X.length:Int)=X.length:=az (by omega) (by omega);have w2:WI.wrap ((X.length:Int)+(Y.length:Int))=((X.length+Y.length:Nat):Int):=by rw[az (by omega) (by omega)];omega
 have w3:WI.wrap (0+1)=1:=by decide
 have w5:WI.wrap 2=2:=by decide
 have n1:¬((X.length:Int)<0):=by omega
 have hl1:ab pg q68 ⟨[(0,.sl false 1 [.sl false 1 X,.sl false 1 Y]),(3,I 0),(9,.sl false 1 [.sl false 1 X,.sl false 1 Y]),(10,I 2),(11,I 0)],[],gh⟩=
   some (.normal,⟨[(0,.sl false 1 [.sl false 1 X,.sl false 1 Y]),(3,I ((X.length+Y.length:Nat):Int))],[],gh⟩):=by
  refine bc (s1:=⟨[(0,.sl false 1 [.sl false 1 X,.sl false 1 Y]),(3,I X.length),(9,.sl false 1 [.sl false 1 X,.sl false 1 Y]),(10,I 2),(11,I 1)],[],gh⟩) (q4x_ ?_) ?_
  ·simp[q4x,w1,n1];exact w3
  refine bc (s1:=⟨[(0,.sl false 1 [.sl false 1 X,.sl false 1 Y]),(3,I ((X.length+Y.length:Nat):Int)),(9,.sl false 1 [.sl false 1 X,.sl false 1 Y]),(10,I 2),(11,I 2)],[],gh⟩) (q4x_ ?_) ?_
  ·simp only[q4x]
   have n2':decide ((X.length:Int)+(Y.length:Int)<0)=false:=aF (by omega);simp[w2,n2'];exact w5
  refine (bm (s1:=?s1) (q4x_ ?h1)).trans ?r1
  case h1=>simp[q4x];rfl
  case r1=>simp[keep,bh]
 have hl2:ab pg q69 ⟨[(6,.sl true 1 []),(25,.sl false 1 [.sl false 1 X,.sl false 1 Y]),(26,I 2),(27,I 0)],[],gh⟩=some (.normal,⟨[(6,.sl true 1 (X++Y))],[],gh⟩):=by
  refine bc (s1:=⟨[(6,.sl true 1 X),(25,.sl false 1 [.sl false 1 X,.sl false 1 Y]),(26,I 2),(27,I 1)],[],gh⟩) (q9b ?_) ?_
  ·have:X.length*8<=maxBytes:=by omega
   simp[this];exact w3
  refine bc (s1:=⟨[(6,.sl true 1 (X++Y)),(25,.sl false 1 [.sl false 1 X,.sl false 1 Y]),(26,I 2),(27,I 2)],[],gh⟩) (q9b ?_) ?_
  ·simp[h];exact w5
  refine (bm (s1:=?s2) (q9b ?h2)).trans ?r2
  case h2=>simp;rfl
  case r2=>simp[keep,bh]
 have hg:=Bz (gh:=gh) h;have k2:=qhr (pg:=pg) (gh:=gh) (v6:= .sl true 1 (X++Y)) (e:= .ret) (s:=⟨[(2,.sl false 1 (X++Y))],[],gh⟩) (by simp);have k1:=qhs (pg:=pg) (gh:=gh) (v0:= .sl false 1 [.sl false 1 X,.sl false 1 Y]) (x3:=((X.length+Y.length:Nat):Int)) (e:= .ret) (s:=⟨[(2,.sl false 1 (X++Y))],[],gh⟩) (by generalize X.length+Y.length=n at *;simp[hg,hl2,k2]);have hn:dj (X++Y)=true:=by
  have:∀(A B:List PV),dj A=true->dj B=true->dj (A++B)=true:=by
   intro A B
   induction A with
   |nil=>intro _ h;exact h
   |cons a A ih=>
    intro h1 h2;simp only[nW,aX] at h1;simp[h1.1,ih h1.2 h2]
  exact this X Y hX hY
 refine ao (fn:=q6c) (s:=⟨[(2,.sl false 1 (X++Y))],[],gh⟩) rfl rfl (qht ?h1) ?r1
 case h1=>
  generalize X.length+Y.length=n at *;simp[hl1,k1]
 case r1=>simp[al,results,q6c,ai,hn,get]
def cv (l:List Nd) (f:List Bool) (init:Bool):List (Int×Int)->Int
 |[]=>0
 |p::r=>if dN l f init p=0 then cv l f init r else dN l f init p
theorem oz {f:List Bool}:(ckG gh m f)[gh.length]?=some (.cells [LN m.nodes,LP m.inits,LP m.nexts,LI m.bads,LI m.holds,.sl true 1 (f.map B)]):=by simp[ckG]
abbrev eR (m:Md):PV:= .sl true 1 [LP m.inits,LP m.nexts]
def mm (m:Md) (f:List Bool) (ps:List (Int×Int)) (k j:Nat) (gh:List GObj):St:=
 ⟨[(0,.ptr true gh.length 0),(3,I (k:Int)),(23,eR m),(24,I 2),(25,I (k:Int)),(30,LP ps),(31,I ps.length),(32,I (j:Int))],[],ckG gh m f⟩
theorem oH {f:List Bool} {ps:List (Int×Int)} {k:Nat} (hf:f.length=m.nodes.length) (hs:Sz ps.length):∀n j,j+n=ps.length->
  ab pg q6m (mm m f ps k j gh)=if cv m.nodes f (decide (k=0)) (ps.drop j)=0 then some (.normal,⟨[(0,.ptr true gh.length 0),(23,eR m),(24,I 2),(25,I (k:Int))],[],ckG gh m f⟩)
   else some (.ret,⟨[(2,I (cv m.nodes f (decide (k=0)) (ps.drop j)))],[],ckG gh m f⟩)
 |0,j,h=>by
  rw[aQ (by omega),cv,if_pos rfl];have hlt:¬(j:Int)<(ps.length:Int):=by omega
  refine (bm (s1:=?s1) (q95 ?h1)).trans ?r1
  case h1=>simp only[aF hlt,dK];rfl
  case r1=>simp[keep,bh]
 | n+1,j,h=>by
  have hlt:j<ps.length:=by omega
  have hltI:(j:Int)<(ps.length:Int):=by omega
  have e2:WI.wrap ((j:Int)+1)=((j+1:Nat):Int):=fH (by simp only[Sz] at hs ⊢;omega);have hx:(ps.map bv)[j]?=some (bv ps[j]):=by simp[aA hlt]
  rw[gQ] at hx;have hp:=By (m:=m) (f:=f) (init:=decide (k=0)) (p:=ps[j]) hf (oz (gh:=gh));rw[gQ] at hp;rw[aL hlt,cv];generalize ps[j]=p at *;obtain⟨a,b⟩:=p;simp only at hx hp;have hk0:((k:Int)==0)=decide (k=0):=by rw[s9];exact decide_eq_decide.2 (by omega)
  obtain⟨ini,hini⟩:∃ini,decide (k=0)=ini:=⟨_,rfl⟩
  rw[hini] at hk0 hp ⊢;by_cases he:dN m.nodes f ini (a,b)=0
  ·rw[if_pos he]
   rw[he] at hp;refine bc (s1:=mm m f ps k (j+1) gh) (q95 ?_) ?_
   ·unfold mm
    generalize ckG gh m f=g0 at *;simp only[hk0];simp[hltI,hx,hp,e2,-List.getElem?_map]
   ·rw[<-hini]
    exact oH hf hs n (j+1) (by omega)
  ·rw[if_neg he,if_neg he]
   refine dl (q95 ?_);generalize ckG gh m f=g0 at *;simp only[hk0];simp[hltI,hx,hp,he,-List.getElem?_map]
end
def dO (l:List Int):List (PV×PV):=l.map λa=>(I a,B true)
def fg (l:List Int) (k:Int):List Int:=if k∈l then l else l++[k]
theorem BB (l:List Int) (k:Int):eM 0 (dO l) (I k) (B true)=some (dO (fg l k)):=by
 induction l with
 |nil=>rfl
 | cons a l ih=>
  by_cases h:k=a
  ·simp[dO,fg,eM,dJ,h]
  ·have ih':eM 0 (l.map λa=>(I a,B true)) (I k) (B true)=some (dO (fg l k)):=ih
   by_cases h2:k∈l
   ·simp[dO,fg,eM,dJ,aZ h,h,h2] at ih' ⊢
    exact ih'
   ·simp[dO,fg,eM,dJ,aZ h,h,h2] at ih' ⊢
    exact ih'
def eS (l:List Int) (xs:List Int):List Int:=xs.foldl fg l
theorem BC (l:List Int) (k:Int):(fg l k).length=if k∈l then l.length else l.length+1:=by unfold fg;split<;>simp
theorem BD {l:List Int} {k a:Int}:a∈fg l k↔a∈l\/a=k:=by
 unfold fg;split
 ·rename_i h
  exact⟨.inl,λh2=>h2.elim id λe=>e▸h⟩
 ·simp
theorem tD:∀(xs l:List Int),(eS l xs).length<=l.length+xs.length/\((eS l xs).length=l.length+xs.length↔(xs.Nodup/\∀a∈xs,a∉l))
 |[],l=>by simp[eS]
 | x::xs,l=>by
  have ih:=tD xs (fg l x);have e:eS l (x::xs)=eS (fg l x) xs:=rfl;rw[e];have hl:=BC l x;by_cases h:x∈l
  ·rw[if_pos h] at hl
   rw[hl] at ih;refine⟨by simp;omega,⟨λhe=>by simp at he;omega,λ⟨_,h2⟩=>absurd h (h2 x (by simp))⟩⟩
  ·rw[if_neg h] at hl
   rw[hl] at ih;refine⟨by simp;omega,?_⟩;have e2:(x::xs).length=xs.length+1:=rfl;rw[e2,show l.length+(xs.length+1)=l.length+1+xs.length by omega,ih.2];simp only[List.nodup_cons,List.mem_cons,BD];constructor
   ·rintro⟨h1,h2⟩
    refine⟨⟨λhx=>(h2 x hx) (.inr rfl),h1⟩,?_⟩;rintro a (rfl|ha)
    ·exact h
    ·exact λhal=>h2 a ha (.inl hal)
   ·rintro⟨⟨h1,h2⟩,h3⟩
    refine⟨h2,λa ha=>?_⟩;rintro (h4|rfl)
    ·exact h3 a (.inr ha) h4
    ·exact h1 ha
def dh (ps:List (Int×Int)):Prop:=¬(ps.map (·.1)).Nodup
instance (ps:List (Int×Int)):Decidable (dh ps):=by unfold dh;exact inferInstance
theorem tE (ps:List (Int×Int)):((eS [] (ps.map (·.1))).length<ps.length)↔dh ps:=by have:=tD (ps.map (·.1)) [];simp at this;unfold dh;rw[<-this.2];omega
section
variable {m:Md} {gh:List GObj}
theorem tF {ps:List (Int×Int)} {k:Nat} (hs:Sz ps.length):∀n j (acc:List Int),j+n=ps.length->
  ab pg q6o ⟨[(9,LP ps),(10,.mp gh.length),(56,eR m),(57,I 2),(58,I (k:Int)),(63,LP ps),(64,I ps.length),(65,I (j:Int))],[],gh++[.map (dO acc)]⟩=
   some (.normal,⟨[(9,LP ps),(10,.mp gh.length),(56,eR m),(57,I 2),(58,I (k:Int))],[],gh++[.map (dO (eS acc ((ps.drop j).map (·.1))))]⟩)
 |0,j,acc,h=>by
  rw[aQ (by omega)];have hlt:¬(j:Int)<(ps.length:Int):=by omega
  refine (bm (s1:=?s1) (qf0 ?h1)).trans ?r1
  case h1=>simp only[aF hlt,dK];rfl
  case r1=>simp[keep,bh,eS]
 |n+1,j,acc,h=>by
  have hlt:j<ps.length:=by omega
  have hltI:(j:Int)<(ps.length:Int):=by omega
  have e2:WI.wrap ((j:Int)+1)=((j+1:Nat):Int):=fH (by simp only[Sz] at hs ⊢;omega);have hx:(ps.map bv)[j]?=some (bv ps[j]):=by simp[aA hlt]
  rw[gQ] at hx;rw[aL hlt];generalize ps[j]=p at *;obtain⟨a,b⟩:=p;simp only[bP] at hx ⊢;have hin:eS acc (a::(ps.drop (j+1)).map (·.1))=eS (fg acc a) ((ps.drop (j+1)).map (·.1)):=rfl;rw[hin];have hm:=BB acc a;refine bc (s1:=⟨[(9,LP ps),(10,.mp gh.length),(56,eR m),(57,I 2),(58,I (k:Int)),(63,LP ps),(64,I ps.length),(65,I ((j+1:Nat):Int))],[],gh++[GObj.map (dO (fg acc a))]⟩) (qf0 ?_) (tF (k:=k) hs n (j+1) (fg acc a) (by omega));simp[hltI,hx,e2,hm,-List.getElem?_map]
theorem tH {ps:List (Int×Int)} {k:Nat} (hk:(k=0/\ps=m.inits)\/(k=1/\ps=m.nexts)) (hs:Sz ps.length) :
  ab pg q6q ⟨[(56,eR m),(57,I 2),(58,I (k:Int))],[],gh⟩=
   if dh ps then some (.ret,⟨[(2,I 6)],[],gh++[.map (dO (eS [] (ps.map (·.1))))]⟩)
   else some (.normal,⟨[(56,eR m),(57,I 2),(58,I ((k+1:Nat):Int))],[],gh++[.map (dO (eS [] (ps.map (·.1))))]⟩):=by
 have h4:=tF (m:=m) (gh:=gh) (k:=k) hs ps.length 0 [] (by omega);rw[bK] at h4;simp only[aW] at h4;have hml:∀l,(dO l).length=l.length:=λl=>by simp[dO]
 have hlt:decide (((eS [] (ps.map (·.1))).length:Int)<(ps.length:Int))=decide (dh ps):=by have:=tE ps;exact decide_eq_decide.2 (by rw[<-this];omega)
 have hltN:decide ((eS [] (ps.map (·.1))).length<ps.length)=decide (dh ps):=decide_eq_decide.2 (tE ps);have hmb:dO []=[]:=rfl;rw[hmb] at h4;have e2:WI.wrap ((k:Int)+1)=((k+1:Nat):Int):=by rcases hk with ⟨rfl,_⟩|⟨rfl,_⟩<;>decide
 have hix:([LP m.inits,LP m.nexts]:List PV)[k]?=some (LP ps):=by rcases hk with ⟨rfl,rfl⟩|⟨rfl,rfl⟩<;>rfl
 have hk2:(k:Int)<2:=by omega
 generalize hA:eS [] (ps.map (·.1))=A at *
 have k3:=qhi (pg:=pg) (gh:=gh++[.map (dO A)]) (v9:=LP ps) (v10:= .mp gh.length) (v56:=eR m) (x57:=2) (x58:=k)
  (e:=if dh ps then .ret else .normal) (s:=if dh ps then ⟨[(2,I 6)],[],gh++[.map (dO A)]⟩ else ⟨[(56,eR m),(57,I 2),(58,I (k:Int)),(77,B false)],[],gh++[.map (dO A)]⟩)
  (by simp[hml,hltN];by_cases ht:dh ps<;>simp[ht])
 have k4:=qhj (pg:=pg) (gh:=gh++[.map (dO A)]) (v56:=eR m) (x57:=2) (x58:=k) (b77:=false) (e:= .normal) (s:=⟨[(56,eR m),(57,I 2),(58,I ((k+1:Nat):Int))],[],gh++[.map (dO A)]⟩) (by simp[e2]);by_cases ht:dh ps
 ·rw[if_pos ht] at k3 ⊢
  rw[if_pos ht] at k3;refine q96 ?_;simp[hk2,hix,h4,k3]
 ·rw[if_neg ht] at k3 ⊢
  rw[if_neg ht] at k3;refine q96 ?_;simp[hk2,hix,h4,k3,k4]
end
def fI (m:Md) (f:List Bool):Int:=
 if cv m.nodes f true m.inits≠0 then cv m.nodes f true m.inits else if cv m.nodes f false m.nexts≠0 then cv m.nodes f false m.nexts
 else if dh m.inits\/dh m.nexts then 6 else 0
section
variable {m:Md} {gh:List GObj}
theorem BE {f:List Bool} (hf:f.length=m.nodes.length) (h1:Sz m.inits.length) (h2:Sz m.nexts.length) :
  ab pg q6n ⟨[(0,.ptr true gh.length 0),(23,eR m),(24,I 2),(25,I 0)],[],ckG gh m f⟩=
   if cv m.nodes f true m.inits≠0 then some (.ret,⟨[(2,I (cv m.nodes f true m.inits))],[],ckG gh m f⟩)
   else if cv m.nodes f false m.nexts≠0 then some (.ret,⟨[(2,I (cv m.nodes f false m.nexts))],[],ckG gh m f⟩)
   else some (.normal,⟨[(0,.ptr true gh.length 0)],[],ckG gh m f⟩):=by
 have l1:=oH (gh:=gh) (m:=m) (ps:=m.inits) (k:=0) hf h1 m.inits.length 0 (by omega);have l2:=oH (gh:=gh) (m:=m) (ps:=m.nexts) (k:=1) hf h2 m.nexts.length 0 (by omega);rw[bK] at l1 l2;unfold mm at l1 l2;simp only[aW,decide_true] at l1 l2;rw[show decide (1=0)=false from rfl] at l2;simp only[Int.natCast_one] at l1 l2;have w1:WI.wrap (0+1)=1:=by decide
 have w2:WI.wrap (1+1)=2:=by decide
 have k1:∀x,ab pg q41 ⟨[(0,.ptr true gh.length 0),(23,eR m),(24,I 2),(25,I x)],[],ckG gh m f⟩=some (.normal,⟨[(0,.ptr true gh.length 0),(23,eR m),(24,I 2),(25,I (WI.wrap (x+1)))],[],ckG gh m f⟩):=λx=>by refine qhh ?_;simp
 generalize ckG gh m f=g0 at *;by_cases e1:cv m.nodes f true m.inits=0
 ·rw[if_pos e1] at l1
  rw[if_neg (λh=>h e1)];have k10:=k1 0;rw[w1] at k10;refine bc (s1:=⟨[(0,.ptr true gh.length 0),(23,eR m),(24,I 2),(25,I 1)],[],g0⟩) (q3a (by simp[l1,k10])) ?_;by_cases e2:cv m.nodes f false m.nexts=0
  ·rw[if_pos e2] at l2
   rw[if_neg (λh=>h e2)];have k11:=k1 1;rw[w2] at k11;refine bc (s1:=⟨[(0,.ptr true gh.length 0),(23,eR m),(24,I 2),(25,I 2)],[],g0⟩) (q3a (by simp[l2,k11])) ?_;refine (bm (s1:=?s1) (q3a ?h1)).trans ?r1
   case h1=>simp;rfl
   case r1=>simp[keep,bh]
  ·rw[if_neg e2] at l2
   rw[if_pos e2];refine dl (q3a ?_);simp[l2]
 ·rw[if_neg e1] at l1
  rw[if_pos e1];refine dl (q3a ?_);simp[l1]
theorem BF (h1:Sz m.inits.length) (h2:Sz m.nexts.length):∃g2,
  ab pg q6r ⟨[(56,eR m),(57,I 2),(58,I 0)],[],gh⟩=
   if dh m.inits\/dh m.nexts then some (.ret,⟨[(2,I 6)],[],gh++g2⟩) else some (.normal,⟨[],[],gh++g2⟩):=by
 have b1:=tH (gh:=gh) (m:=m) (ps:=m.inits) (k:=0) (.inl ⟨rfl,rfl⟩) h1;have b2:=λg=>tH (gh:=g) (m:=m) (ps:=m.nexts) (k:=1) (.inr ⟨rfl,rfl⟩) h2
 simp only[aW,Int.natCast_one,cN,show ((1+1:Nat):Int)=2 from rfl] at b1 b2;generalize eS [] (m.inits.map (·.1))=A at *;generalize eS [] (m.nexts.map (·.1))=B at *;by_cases t1:dh m.inits
 ·rw[if_pos t1] at b1
  exact⟨_,by rw[if_pos (.inl t1)];exact dl b1⟩
 ·rw[if_neg t1] at b1
  have b2:=b2 (gh++[.map (dO A)]);by_cases t2:dh m.nexts
  ·rw[if_pos t2] at b2
   refine⟨[.map (dO A)]++[.map (dO B)],?_⟩;rw[if_pos (.inr t2),<-aY];exact bc b1 (dl b2)
  ·rw[if_neg t2] at b2
   refine⟨[.map (dO A)]++[.map (dO B)],?_⟩;rw[if_neg (by rintro (h|h)<;>contradiction),<-aY];refine bc b1 (bc b2 ((bm (s1:=?s1) (q96 ?h1)).trans ?r1))
   case h1=>simp;rfl
   case r1=>simp[keep]
theorem BG {f:List Bool} (hf:f.length=m.nodes.length) (h1:Sz m.inits.length) (h2:Sz m.nexts.length) :
  ac pg 79 [.ptr true gh.length 0] (ckG gh m f)=some (I (fI m f),ckG gh m f):=by
 have l1:=BE (gh:=gh) hf h1 h2;obtain⟨g2,l3⟩:=BF (m:=m) (gh:=ckG gh m f) h1 h2;have hg:=oz (gh:=gh) (m:=m) (f:=f);unfold fI;have k5:∀g,ab pg q43 ⟨[],[],g⟩=some (.ret,⟨[(2,I 0)],[],g⟩):=λg=>qhk rfl
 have k2:ab pg q44 ⟨[(0,.ptr true gh.length 0)],[],ckG gh m f⟩=some (.ret,⟨[(2,I (if dh m.inits\/dh m.nexts then 6 else 0))],[],ckG gh m f++g2⟩):=by
  refine qhl ?_;generalize ckG gh m f=g0 at *;have k5:=k5 (g0++g2);by_cases t:dh m.inits\/dh m.nexts
  ·rw[if_pos t] at l3
   simp[hg,l3,t]
  ·rw[if_neg t] at l3
   simp[hg,l3,t,k5]
 generalize (if dh m.inits\/dh m.nexts then (6:Int) else 0)=r at *;generalize ckG gh m f=g0 at *;by_cases e1:cv m.nodes f true m.inits=0
 ·rw[if_neg (λh=>h e1)] at l1 ⊢
  by_cases e2:cv m.nodes f false m.nexts=0
  ·rw[if_neg (λh=>h e2)] at l1 ⊢
   refine ao (fn:=q1f) (s:=?s1) rfl rfl (q97 ?h1) ?r1
   case h1=>simp[hg,l1,k2];rfl
   case r1=>simp[al,results,q1f,am,aq,ai]
  ·rw[if_pos e2] at l1 ⊢
   refine ao (fn:=q1f) (s:=?s2) rfl rfl (q97 ?h2) ?r2
   case h2=>simp[hg,l1];rfl
   case r2=>simp[al,results,q1f,am,aq,ai]
 ·rw[if_pos e1] at l1 ⊢
  refine ao (fn:=q1f) (s:=?s3) rfl rfl (q97 ?h3) ?r3
  case h3=>simp[hg,l1];rfl
  case r3=>simp[al,results,q1f,am,aq,ai]
def gS (m:Md):Int:=
 if m.nexts.length<(ah m.nodes 3).length then 5 else if (m.bads++m.holds).any (λa=> !decide (ci m.nodes a)) then 5
 else if (m.bads++m.holds).any (λa=> !decide (wAt m.nodes a=1)) then 1 else 0
theorem BH {f:List Bool} {n:Int} {g:List GObj} {b c:Nat} (hb:g[b]?=some (.cells [LN m.nodes,LP m.inits,LP m.nexts,LI m.bads,LI m.holds,.sl true 1 (f.map B)])) (hc:g[c]?=some (.cells [.ptr true b 0])) :
  ac pg 108 [I n,.ptr true c 0] g=some (B (!decide (ci m.nodes n)),g):=by
 have i1:=oy (n:=n) hb;generalize decide (ci m.nodes n)=d at *;refine ao (fn:=q71) (s:=?s1) rfl rfl (qho ?h1) ?r1
 case h1=>simp[hc,i1];rfl
 case r1=>simp[al,results,q71,am,aq,ai]
theorem BI {f:List Bool} {n:Int} {g:List GObj} {b c:Nat} (hb:g[b]?=some (.cells [LN m.nodes,LP m.inits,LP m.nexts,LI m.bads,LI m.holds,.sl true 1 (f.map B)])) (hc:g[c]?=some (.cells [.ptr true b 0])) (hn:ci m.nodes n) :
  ac pg 109 [I n,.ptr true c 0] g=some (B (!decide (wAt m.nodes n=1)),g):=by
 have n1:=eJ hn;have h0:=hn.1;unfold wAt;generalize m.nodes.getD n.toNat default=d1 at *;rw[cV d1] at n1;refine ao (fn:=q72) (s:=?s1) rfl rfl (qhq ?h1) ?r1
 case h1=>simp[hb,hc,h0,n1,-List.getElem?_map];rfl
 case r1=>simp[al,results,q72,am,aq,ai]
theorem BJ {f:List Bool} (hl:m.nodes.length<=1000) (h1:m.bads.length<=100) (h2:m.holds.length<=100) :
  ac pg 80 [.ptr true gh.length 0] (ckG gh m f)=some (I (gS m),ckG gh m f):=by
 have hg:=oz (gh:=gh) (m:=m) (f:=f);have hlen:(ckG gh m f).length=gh.length+1:=by simp[ckG]
 generalize ckG gh m f=g0 at *;obtain⟨g1,hg1⟩:∃g1,g1=g0++[GObj.cells [.ptr true gh.length 0]]:=⟨_,rfl⟩
 have htk:g1.take g0.length=g0:=by rw[hg1];simp
 have hb:g1[gh.length]?=some (.cells [LN m.nodes,LP m.inits,LP m.nexts,LI m.bads,LI m.holds,.sl true 1 (f.map B)]):=by rw[hg1,aJ (by omega)];exact hg
 have hc:g1[g0.length]?=some (.cells [.ptr true gh.length 0]):=by rw[hg1];simp
 have ho:=ik (m:=m) (gh:=g1) (kind:=3) hl;rw[bz] at ho;have hmx:((m.bads.map I).length+(m.holds.map I).length)*8<=maxBytes:=by have:=MB;simp;omega
 have hsz:Sz (m.bads++m.holds).length:=by simp only[Sz,aV];omega
 have hcc:=BA (gh:=g1) (X:=m.bads.map I) (Y:=m.holds.map I) (eQ _) (eQ _) hmx;rw[<-bJ] at hcc;have c1:=tp (xs:=m.bads++m.holds) (c:=108) (caps:=[.ptr true g0.length 0]) (gh:=g1) (λx _=>BH (n:=x) hb hc) rfl hsz;have c2:(∀a∈m.bads++m.holds,ci m.nodes a)->_:=λhn=>tp (xs:=m.bads++m.holds) (c:=109) (caps:=[.ptr true g0.length 0]) (gh:=g1) (λx hx=>BI hb hc (hn x hx)) rfl hsz
 have hnb:(m.bads++m.holds).any (λa=> !decide (ci m.nodes a))=false->∀a∈m.bads++m.holds,ci m.nodes a:=λh a ha=>by have:=List.any_eq_false.1 h a ha;simpa using this
 unfold gS;generalize (m.bads++m.holds).any (λa=> !decide (ci m.nodes a))=p1 at *;generalize (m.bads++m.holds).any (λa=> !decide (wAt m.nodes a=1))=p2 at *;generalize hK:ah m.nodes 3=K at *;have hKl:(K.map I).length=K.length:=by simp
 have hXl:(m.nexts.map bv).length=m.nexts.length:=by simp
 simp only[LI] at *;generalize (m.bads++m.holds).map I=M at *;generalize m.bads.map I=M1 at *;generalize m.holds.map I=M2 at *;generalize K.map I=K' at *;generalize m.nexts.map bv=X' at *;by_cases e1:m.nexts.length<K.length
 ·rw[if_pos e1]
  refine ao (fn:=qq) (s:=⟨[(2,I 5)],[],g1⟩) rfl rfl (q3b_ ?h1) ?r1
  case h1=>simp only[q3b];rw[<-hg1];simp[hb,hc,ho,hKl,e1]
  case r1=>simp[al,results,qq,am,aq,ai,htk]
 ·rw[if_neg e1]
  cases p1 with
  |true=>
   rw[if_pos rfl];refine ao (fn:=qq) (s:=⟨[(2,I 5)],[],g1⟩) rfl rfl (q3b_ ?h2) ?r2
   case h2=>simp only[q3b];rw[<-hg1];simp[hb,hc,ho,hKl,e1,hcc,c1]
   case r2=>simp[al,results,qq,am,aq,ai,htk]
  | false=>
   rw[if_neg (by simp)];have c2:=c2 (hnb rfl);cases p2 with
   |true=>
    rw[if_pos rfl];refine ao (fn:=qq) (s:=⟨[(2,I 1)],[],g1⟩) rfl rfl (q3b_ ?h3) ?r3
    case h3=>simp only[q3b];rw[<-hg1];simp[hb,hc,ho,hKl,e1,hcc,c1,c2]
    case r3=>simp[al,results,qq,am,aq,ai,htk]
   |false=>
    rw[if_neg (by simp)];refine ao (fn:=qq) (s:=⟨[(2,I 0)],[],g1⟩) rfl rfl (q3b_ ?h4) ?r4
    case h4=>simp only[q3b];rw[<-hg1];simp[hb,hc,ho,hKl,e1,hcc,c1,c2]
    case r4=>simp[al,results,qq,am,aq,ai,htk]
def eg (L:List Nd):Nat->List Nd->Int
 |_,[]=>0
 |i,x::l=>if dw L i x=0 then eg L (i+1) l else dw L i x
def aw (m:Md):Int:=
 if m.nodes.length>80\/m.bads.length>8\/m.holds.length>8 then 2
 else if eg m.nodes 0 m.nodes≠0 then eg m.nodes 0 m.nodes
 else if dZ m.nodes 2>6\/dZ m.nodes 3>10 then 2
 else if fI m (dt [] m.nodes)≠0 then fI m (dt [] m.nodes) else gS m
theorem mn {L:List Nd}:∀{i:Nat} {l:List Nd},eg L i l=0->∀j x,l[j]?=some x->dw L ((i+j:Nat):Int) x=0
 |i,y::l,h,0,x,hx=>by
  rw[eg] at h;simp at hx;subst hx;split at h
  ·assumption
  ·contradiction
 | i,y::l,h,j+1,x,hx=>by
  rw[eg] at h;split at h
  ·have:=mn h j x (by simpa using hx)
   rw[show i+(j+1)=i+1+j by omega];exact this
  ·contradiction
theorem oI {L:List Nd} (h:eg L 0 L=0):jV L:=by
 intro i x hx a ha;have h0:=mn h i x hx;rw[cN] at h0;unfold dw at h0;split at h0
 ·omega
 rename_i hk;split at h0
 ·omega
 split at h0
 ·rename_i hk3
  unfold eA at ha;rw[Bm ⟨by omega,hk3⟩] at ha;simp at ha
 split at h0
 ·omega
 rename_i hb;unfold ft dM at hb;simp only[not_or] at hb;obtain⟨b0,b1,b2⟩:=hb;unfold eA at ha;rcases jm x.k with ht|ht|ht|ht<;>rw[ht] at ha b0 b1 b2<;>simp at ha b0 b1 b2
 ·subst ha;exact⟨by omega,by omega⟩
 ·rcases ha with rfl|rfl<;>exact⟨by omega,by omega⟩
 ·rcases ha with rfl|rfl|rfl<;>exact⟨by omega,by omega⟩
theorem tJ (hl:m.nodes.length<=1000):∀k i,i+k=m.nodes.length->
  ab pg q6f ⟨[(1,.ptr false 0 0),(27,I m.nodes.length),(28,I (i:Int))],[[LN m.nodes,LP m.inits,LP m.nexts,LI m.bads,LI m.holds]],gh⟩=
   if eg m.nodes i (m.nodes.drop i)=0 then some (.normal,⟨[(1,.ptr false 0 0)],[[LN m.nodes,LP m.inits,LP m.nexts,LI m.bads,LI m.holds]],gh⟩)
   else some (.ret,⟨[(2,I (eg m.nodes i (m.nodes.drop i)))],[],gh⟩)
 |0,i,h=>by
  rw[aQ (by omega),eg,if_pos rfl];have hlt:¬(i:Int)<(m.nodes.length:Int):=by omega
  refine (bm (s1:=?s1) (q99 ?h1)).trans ?r1
  case h1=>simp only[aF hlt,dK];rfl
  case r1=>simp[keep,bh]
 | k+1,i,h=>by
  have hlt:i<m.nodes.length:=by omega
  have hltI:(i:Int)<(m.nodes.length:Int):=by omega
  have e2:WI.wrap ((i:Int)+1)=((i+1:Nat):Int):=by rw[az (by omega) (by omega)];omega
  have hn:=Br (l:=m.nodes) (gh:=gh) (idx:=i) (aA hlt);rw[aL hlt,eg];generalize dw m.nodes (i:Int) m.nodes[i]=r at *;by_cases he:r=0
  ·rw[if_pos he]
   refine bc (s1:=⟨[(1,.ptr false 0 0),(27,I m.nodes.length),(28,I ((i+1:Nat):Int))],[[LN m.nodes,LP m.inits,LP m.nexts,LI m.bads,LI m.holds]],gh⟩) (q99 ?_) (tJ hl k (i+1) (by omega));simp[hltI,hn,he,e2]
  ·rw[if_neg he,if_neg he]
   refine dl (q99 ?_);simp[hltI,hn,he]
theorem tK (h1:Sz m.inits.length) (h2:Sz m.nexts.length):ac pg 38 [de m] gh=some (I (aw m),gh):=by
 unfold aw;have hNl:(m.nodes.map bp).length=m.nodes.length:=by simp
 have hBl:(m.bads.map I).length=m.bads.length:=by simp
 have hHl:(m.holds.map I).length=m.holds.length:=by simp
 rw[bz];by_cases c1:m.nodes.length>80\/m.bads.length>8\/m.holds.length>8
 ·rw [if_pos c1]
  refine ao (fn:=qi) (s:=⟨[(2,I 2)],[],gh⟩) rfl rfl (q3c ?h1) ?r1
  case r1=>simp[al,results,qi,am,aq,ai]
  case h1=>
   by_cases d1:(80:Int)<(m.nodes.length:Int)
   ·simp[d1]
   ·by_cases d2:(8:Int)<(m.bads.length:Int)
    ·simp[d1,d2]
    ·have d3:(8:Int)<(m.holds.length:Int):=by omega
     simp[d1,d2,d3]
 ·rw [if_neg c1]
  have d1:¬(80:Int)<(m.nodes.length:Int):=by omega
  have d2:¬(8:Int)<(m.bads.length:Int):=by omega
  have d3:¬(8:Int)<(m.holds.length:Int):=by omega
  have hl:=tJ (m:=m) (gh:=gh) (by omega) m.nodes.length 0 (by omega);rw[bK] at hl;simp only[aW] at hl;by_cases hn:eg m.nodes 0 m.nodes=0
  ·rw [if_neg (λh=>h hn)]
   rw[if_pos hn] at hl;have hb:=Bw (m:=m) (gh:=gh) (by omega);rw[bz] at hb;have hlen:=Bx (m:=m) (gh:=gh) (oI hn) (by omega);have hf:(dt [] m.nodes).length=m.nodes.length:=by simpa using ox [] m.nodes
   have hp:=BG (gh:=gh) hf h1 h2;have hm:=BJ (m:=m) (gh:=gh) (f:=dt [] m.nodes) (by omega) (by omega) (by omega);have htk:(ckG gh m (dt [] m.nodes)).take gh.length=gh:=by simp[ckG]
   have hck:ckG gh m []=gh++[GObj.cells [LN m.nodes,LP m.inits,LP m.nexts,LI m.bads,LI m.holds,.sl true 1 []]]:=rfl;generalize ckG gh m (dt [] m.nodes)=g1 at *;generalize fI m (dt [] m.nodes)=r at *;rw[hck] at hlen;by_cases hbt:dZ m.nodes 2>6\/dZ m.nodes 3>10
   ·rw[if_pos hbt]
    have k1:ab pg q1t ⟨[(1,.ptr false 0 0)],[[LN m.nodes,LP m.inits,LP m.nexts,LI m.bads,LI m.holds]],gh⟩=some (.ret,⟨[(2,I 2)],[],gh⟩):=by
     refine q9a ?_;by_cases b1:6<dZ m.nodes 2
     ·simp[hb,b1]
     ·have b2:10<dZ m.nodes 3:=by omega
      simp[hb,b1,b2]
    refine ao (fn:=qi) (s:=⟨[(2,I 2)],[],gh⟩) rfl rfl (q3c ?h2) ?r2
    case r2=>simp[al,results,qi,am,aq,ai]
    case h2=>simp[d1,d2,d3,hl,k1]
   ·rw[if_neg hbt]
    have b1:¬6<dZ m.nodes 2:=by omega
    have b2:¬10<dZ m.nodes 3:=by omega
    by_cases hr:r=0
    ·rw[if_neg (λh=>h hr)]
     have k1:ab pg q1t ⟨[(1,.ptr false 0 0)],[[LN m.nodes,LP m.inits,LP m.nexts,LI m.bads,LI m.holds]],gh⟩=some (.ret,⟨[(2,I (gS m))],[],g1⟩):=by refine q9a ?_;simp[hb,b1,b2,hlen,hp,hr,hm]
     refine ao (fn:=qi) (s:=⟨[(2,I (gS m))],[],g1⟩) rfl rfl (q3c ?h3) ?r3
     case r3=>simp[al,results,qi,am,aq,ai,htk]
     case h3=>simp[d1,d2,d3,hl,k1]
    ·rw[if_pos hr]
     have k1:ab pg q1t ⟨[(1,.ptr false 0 0)],[[LN m.nodes,LP m.inits,LP m.nexts,LI m.bads,LI m.holds]],gh⟩=some (.ret,⟨[(2,I r)],[],g1⟩):=by refine q9a ?_;simp[hb,b1,b2,hlen,hp,hr]
     refine ao (fn:=qi) (s:=⟨[(2,I r)],[],g1⟩) rfl rfl (q3c ?h4) ?r4
     case r4=>simp[al,results,qi,am,aq,ai,htk]
     case h4=>simp[d1,d2,d3,hl,k1]
  ·rw[if_pos hn]
   rw[if_neg hn] at hl;generalize eg m.nodes 0 m.nodes=r at *;refine ao (fn:=qi) (s:=⟨[(2,I r)],[],gh⟩) rfl rfl (q3c ?h5) ?r5
   case r5=>simp[al,results,qi,am,aq,ai]
   case h5=>simp[d1,d2,d3,hl]
end
@[simp] theorem ble11 : Nat.ble 1 1 = true := rfl
section
variable {m:Md} {gh:List GObj}
theorem oJ {kind:Int} (hl:m.nodes.length*8<=140737488355328):∀k i (acc:List Int),i+k=m.nodes.length->acc.length<=i->
  ab pg q7d ⟨[(1,I kind),(2,.ptr false 0 0),(5,.sl true 1 (acc.map I)),(6,I (i:Int))],[[LN m.nodes,LP m.inits,LP m.nexts,LI m.bads,LI m.holds]],gh⟩=
   some (.normal,⟨[(5,.sl true 1 ((acc++cW kind i (m.nodes.drop i)).map I))],[],gh⟩)
 |0,i,acc,h,_=>by
  rw[aQ (by omega)];have hlt:¬i<m.nodes.length:=by omega
  refine (bm (s1:=?s1) (q9c ?h1)).trans ?r1
  case h1=>simp[hlt];rfl
  case r1=>simp[keep,cW,bh]
 | k+1,i,acc,h,ha=>by
  have hlt:i<m.nodes.length:=by omega
  have hltD:decide (i<m.nodes.length)=true:=aG hlt;have hltI:(i:Int)<(m.nodes.length:Int):=by omega
  have e2:WI.wrap ((i:Int)+1)=((i+1:Nat):Int):=fH (by simp only[Sz];omega);have hx:(m.nodes.map bp)[i]?=some (bp m.nodes[i]):=by simp[aA hlt]
  rw[cV m.nodes[i]] at hx;have hmx:(acc.length+1)*8<=maxBytes:=by have:=MB;omega
  rw[aL hlt,cW];generalize m.nodes[i]=x at *;have hk1:∀acc':List PV,ab pg q2o ⟨[(1,I kind),(2,.ptr false 0 0),(5,.sl true 1 acc'),(6,I (i:Int))],[[LN m.nodes,LP m.inits,LP m.nexts,LI m.bads,LI m.holds]],gh⟩=some (.normal,⟨[(1,I kind),(2,.ptr false 0 0),(5,.sl true 1 acc'),(6,I ((i+1:Nat):Int))],[[LN m.nodes,LP m.inits,LP m.nexts,LI m.bads,LI m.holds]],gh⟩):=λacc'=>by refine qhu ?_;simp[e2]
  by_cases hk:x.k=kind
  ·rw[if_pos hk]
   have e:acc++(i:Int)::cW kind (i+1) (m.nodes.drop (i+1))=(acc++[(i:Int)])++cW kind (i+1) (m.nodes.drop (i+1)):=by simp
   rw[e];have hk1:=hk1 (acc.map I++[I (i:Int)]);refine bc (s1:=⟨[(1,I kind),(2,.ptr false 0 0),(5,.sl true 1 ((acc++[(i:Int)]).map I)),(6,I ((i+1:Nat):Int))],[[LN m.nodes,LP m.inits,LP m.nexts,LI m.bads,LI m.holds]],gh⟩) (q9c ?_) (oJ hl k (i+1) _ (by omega) (by simp;omega));have hal:(acc.map I).length=acc.length:=by simp
   simp only[bJ,bP,bQ] at hk1 ⊢;generalize acc.map I=A at *;simp[hltD,hx,hk,hal,hmx,hk1,-List.getElem?_map]
  ·rw[if_neg hk]
   have hk1:=hk1 (acc.map I);refine bc (s1:=⟨[(1,I kind),(2,.ptr false 0 0),(5,.sl true 1 (acc.map I)),(6,I ((i+1:Nat):Int))],[[LN m.nodes,LP m.inits,LP m.nexts,LI m.bads,LI m.holds]],gh⟩) (q9c ?_) (oJ hl k (i+1) _ (by omega) (by omega));generalize acc.map I=A at *;simp[hltD,hx,hk,hk1,-List.getElem?_map]
theorem jo {kind:Int} (hl:m.nodes.length*8<=140737488355328):ac pg 39 [de m,I kind] gh=some (LI (ah m.nodes kind),gh):=by
 have h:=oJ (gh:=gh) (kind:=kind) hl m.nodes.length 0 [] (by omega) (by simp);rw[bK,bH] at h;simp only[bQ,aW] at h;have hn:=eQ (cW kind 0 m.nodes);have hk:=qhv (pg:=pg) (gh:=gh) (v5:= .sl true 1 ((cW kind 0 m.nodes).map I)) (e:= .ret) (s:=⟨[(4,.sl false 1 ((cW kind 0 m.nodes).map I))],[],gh⟩) (by simp);unfold ah;simp only[LI] at *;generalize (cW kind 0 m.nodes).map I=K at *;rw[bz];refine ao (fn:=q7f) (s:=⟨[(4,.sl false 1 K)],[],gh⟩) rfl rfl (qhw ?h1) ?r1
 case h1=>simp[h,hk]
 case r1=>simp[al,results,q7f,am,aq,ai,hn]
theorem oO {kind:Int} (hl:m.nodes.length*8<=140737488355328):∀k i s,i+k=m.nodes.length->
  ab pg q7k ⟨[(1,I kind),(2,.ptr false 0 0),(5,I s),(6,I (i:Int))],[[LN m.nodes,LP m.inits,LP m.nexts,LI m.bads,LI m.holds]],gh⟩=
   some (.normal,⟨[(5,I (((m.nodes.drop i).filter λx=>decide (x.k=kind)).foldl jn s))],[],gh⟩)
 |0,i,s,h=>by
  rw[aQ (by omega)];have hlt:¬i<m.nodes.length:=by omega
  refine (bm (s1:=?s1) (q9d ?h1)).trans ?r1
  case h1=>simp[hlt];rfl
  case r1=>simp[keep,bh]
 | k+1,i,s,h=>by
  have hlt:i<m.nodes.length:=by omega
  have hltD:decide (i<m.nodes.length)=true:=aG hlt;have hltI:(i:Int)<(m.nodes.length:Int):=by omega
  have e2:WI.wrap ((i:Int)+1)=((i+1:Nat):Int):=fH (by simp only[Sz];omega);have hx:(m.nodes.map bp)[i]?=some (bp m.nodes[i]):=by simp[aA hlt]
  rw[cV m.nodes[i]] at hx;rw[aL hlt,List.filter_cons];generalize m.nodes[i]=x at *;have hk1:∀s',ab pg q2s ⟨[(1,I kind),(2,.ptr false 0 0),(5,I s'),(6,I (i:Int))],[[LN m.nodes,LP m.inits,LP m.nexts,LI m.bads,LI m.holds]],gh⟩=some (.normal,⟨[(1,I kind),(2,.ptr false 0 0),(5,I s'),(6,I ((i+1:Nat):Int))],[[LN m.nodes,LP m.inits,LP m.nexts,LI m.bads,LI m.holds]],gh⟩):=λs'=>by refine qhx ?_;simp[e2]
  by_cases hk:x.k=kind
  ·rw[if_pos (by simpa using hk),List.foldl_cons]
   have hk1:=hk1 (WI.wrap (s+x.w));refine bc (s1:=⟨[(1,I kind),(2,.ptr false 0 0),(5,I (jn s x)),(6,I ((i+1:Nat):Int))],[[LN m.nodes,LP m.inits,LP m.nexts,LI m.bads,LI m.holds]],gh⟩) (q9d ?_) (oO hl k (i+1) _ (by omega));unfold jn;simp[hltD,hx,hk,hk1,-List.getElem?_map]
  ·rw[if_neg (by simpa using hk)]
   have hk1:=hk1 s;refine bc (s1:=⟨[(1,I kind),(2,.ptr false 0 0),(5,I s),(6,I ((i+1:Nat):Int))],[[LN m.nodes,LP m.inits,LP m.nexts,LI m.bads,LI m.holds]],gh⟩) (q9d ?_) (oO hl k (i+1) _ (by omega));simp[hltD,hx,hk,hk1,-List.getElem?_map]
theorem oQ {kind:Int} (hl:m.nodes.length*8<=140737488355328):ac pg 73 [de m,I kind] gh=some (I (dZ m.nodes kind),gh):=by
 have h:=oO (gh:=gh) (kind:=kind) hl m.nodes.length 0 0 (by omega);rw[bK] at h;simp only[aW] at h;unfold dZ;generalize (m.nodes.filter λx=>decide (x.k=kind)).foldl jn 0=r at *;have hk:=qhy (pg:=pg) (gh:=gh) (x5:=r) rfl;rw[bz];refine ao (fn:=q7m) (s:=⟨[(4,I r)],[],gh⟩) rfl rfl (qhz ?h1) ?r1
 case h1=>simp[h,hk]
 case r1=>simp[al,results,q7m,am,aq,ai]
end
section
variable {m:Md} {gh:List GObj}
def eB (on:Prop) [Decidable on] (f:List Bool) (b:Bool) (a:Int):Bool:=if on then b||f.getD a.toNat false else b
theorem BK (f:List Bool) (x:Nd):kT f x=eB (2<ba x.k) f (eB (1<ba x.k) f (eB (0<ba x.k) f (decide (x.k=2\/x.k=3)) x.a) x.b) x.c:=by unfold kT eA eB;rcases jm x.k with h|h|h|h<;>rw[h]<;>simp[Bool.or_assoc]
abbrev bf (m:Md):List PV:=[LN m.nodes,LP m.inits,LP m.nexts,LI m.bads,LI m.holds]
theorem BL {f:List Bool} {i:Int} {b:Bool} (hf:f.length<=1000) :
  ab pg q1u ⟨[(1,.ptr false 0 0),(3,.sl true 1 (f.map B)),(4,I i),(6,B b)],[bf m],gh⟩=some (.normal,⟨[(1,.ptr false 0 0),(3,.sl true 1 ((f++[b]).map B)),(4,I i)],[bf m],gh⟩):=by
 have hmx:f.length+1<=maxBytes:=by have:=MB;omega
 refine qi0 ?_;simp[hmx]
theorem BM {f:List Bool} {i:Int} {b:Bool} {x:Nd} (hf:f.length<=1000) (hc:2<ba x.k->0<=x.c/\x.c.toNat<f.length) :
  ab pg q1v ⟨[(1,.ptr false 0 0),(3,.sl true 1 (f.map B)),(4,I i),(5,.ptr false 1 0),(6,B b)],[bf m,[I x.k,I x.w,I x.a,I x.b,I x.c,I x.n]],gh⟩=
   some (.normal,⟨[(1,.ptr false 0 0),(3,.sl true 1 ((f++[eB (2<ba x.k) f b x.c]).map B)),(4,I i)],[bf m],gh⟩):=by
 have ht:=fU x.k gh;have k3:=λb'=>BL (m:=m) (gh:=gh) (i:=i) (b:=b') hf
 unfold eB;refine qi1 ?_;by_cases h:2<ba x.k
 ·obtain⟨h0,h1⟩:=hc h
  have hfr:=jW h1;rw[if_pos h];generalize f.getD x.c.toNat false=c at *;generalize ba x.k=t at *;cases b with
  |true=>
   have k3:=k3 true;simp only[bf] at *;simp[ht,h,k3]
  |false=>
   have k3:=k3 c;simp only[bf,Bool.false_or] at *;generalize (f++[c]).map B=F2 at *;generalize f.map B=F at *;simp[ht,h,h0,hfr,k3]
 ·rw[if_neg h]
  have k3:=k3 b;generalize ba x.k=t at *;simp only[bf] at *;generalize (f++[b]).map B=F2 at *;generalize f.map B=F at *;simp[ht,h,k3]
theorem BN {f:List Bool} {i:Int} {b:Bool} {x:Nd} (hf:f.length<=1000) (hb:1<ba x.k->0<=x.b/\x.b.toNat<f.length) (hc:2<ba x.k->0<=x.c/\x.c.toNat<f.length) :
  ab pg qz ⟨[(1,.ptr false 0 0),(3,.sl true 1 (f.map B)),(4,I i),(5,.ptr false 1 0),(6,B b)],[bf m,[I x.k,I x.w,I x.a,I x.b,I x.c,I x.n]],gh⟩=
   some (.normal,⟨[(1,.ptr false 0 0),(3,.sl true 1 ((f++[eB (2<ba x.k) f (eB (1<ba x.k) f b x.b) x.c]).map B)),(4,I i)],[bf m],gh⟩):=by
 have ht:=fU x.k gh;have k2:=λb'=>BM (m:=m) (gh:=gh) (i:=i) (b:=b') hf hc
 have e:∀c,eB (1<ba x.k) f b c=if 1<ba x.k then b||f.getD c.toNat false else b:=λ_=>rfl
 rw[e];refine qi2 ?_;by_cases h:1<ba x.k
 ·obtain⟨h0,h1⟩:=hb h
  have hfr:=jW h1;rw[if_pos h];generalize f.getD x.b.toNat false=c at *;cases b with
  |true=>
   have k2:=k2 true;rw[Bool.true_or];generalize eB (2<ba x.k) f true x.c=r at *;simp only[bf] at *;generalize ba x.k=t at *;generalize (f++[r]).map B=F2 at *;generalize f.map B=F at *;simp[ht,h,k2]
  |false=>
   have k2:=k2 c;rw[Bool.false_or];simp only[bf] at *;generalize eB (2<ba x.k) f c x.c=r at *;generalize ba x.k=t at *;generalize (f++[r]).map B=F2 at *;generalize f.map B=F at *;simp[ht,h,h0,hfr,k2]
 ·rw[if_neg h]
  have k2:=k2 b;generalize eB (2<ba x.k) f b x.c=r at *;generalize ba x.k=t at *;simp only[bf] at *;generalize (f++[r]).map B=F2 at *;generalize f.map B=F at *;simp[ht,h,k2]
theorem tL (hA:jV m.nodes) (hl:m.nodes.length<=1000):∀k i (f:List Bool),i+k=m.nodes.length->f.length=i->
  ab pg q7n ⟨[(1,.ptr false 0 0),(3,.sl true 1 (f.map B)),(4,I (i:Int))],[bf m],gh⟩=some (.normal,⟨[(3,.sl true 1 ((dt f (m.nodes.drop i)).map B))],[],gh⟩)
 |0,i,f,h,_=>by
  rw[aQ (by omega)];have hlt:¬i<m.nodes.length:=by omega
  refine (bm (s1:=?s1) (qf1 ?h1)).trans ?r1
  case h1=>simp[hlt];rfl
  case r1=>simp[keep,dt,bh]
 | k +1,i,f,h,hf=>by
  have hlt:i<m.nodes.length:=by omega
  have hltD:decide (i<m.nodes.length)=true:=aG hlt;have e2:WI.wrap ((i:Int)+1)=((i+1:Nat):Int):=by rw[az (by omega) (by omega)];omega
  have hx:(m.nodes.map bp)[i]?=some (bp m.nodes[i]):=by simp[aA hlt]
  have hah:=hA i _ (aA hlt);rw[aL hlt,dt,BK];generalize m.nodes[i]=x at *;rw[cV x] at hx;have ha:0<ba x.k->0<=x.a/\x.a.toNat<f.length:=λht=>by have:=hah x.a (by unfold eA;rcases jm x.k with h|h|h|h<;>rw[h] at ht ⊢ <;>simp at ht ⊢);omega
  have hb:1<ba x.k->0<=x.b/\x.b.toNat<f.length:=λht=>by have:=hah x.b (by unfold eA;rcases jm x.k with h|h|h|h<;>rw[h] at ht ⊢ <;>simp at ht ⊢);omega
  have hc:2<ba x.k->0<=x.c/\x.c.toNat<f.length:=λht=>by have:=hah x.c (by unfold eA;rcases jm x.k with h|h|h|h<;>rw[h] at ht ⊢ <;>simp at ht ⊢);omega
  have k1:=λb'=>BN (m:=m) (gh:=gh) (i:=(i:Int)) (b:=b') (by omega:f.length<=1000) hb hc
  have k4:∀f':List PV,ab pg q11 ⟨[(1,.ptr false 0 0),(3,.sl true 1 f'),(4,I (i:Int))],[bf m],gh⟩=some (.normal,⟨[(1,.ptr false 0 0),(3,.sl true 1 f'),(4,I ((i+1:Nat):Int))],[bf m],gh⟩):=λf'=>by refine qi3 ?_;simp[e2]
  have ht:=fU x.k gh;refine bc (qf1 ?_) (tL hA hl k (i+1) _ (by omega) (by simp;omega));have e0:∀b,eB (0<ba x.k) f b x.a=if 0<ba x.k then b||f.getD x.a.toNat false else b:=λ_=>rfl
  rw[e0];simp only[bf] at *;by_cases h2:x.k=2
  ·have d2:decide (x.k=2)=true:=aG h2
   have hd:decide (x.k=2\/x.k=3)=true:=aG (.inl h2);rw[hd];have hif:(if 0<ba x.k then true||f.getD x.a.toNat false else true)=true:=by split<;>simp
   rw[hif];have k1:=k1 true;generalize eB (2<ba x.k) f (eB (1<ba x.k) f true x.b) x.c=r at *;have k4:=k4 ((f++[r]).map B);generalize ba x.k=t at *;generalize (f++[r]).map B=F2 at *;generalize f.map B=F at *;by_cases h0:0<t
   ·simp[hltD,hx,d2,ht,h0,k1,k4,-List.getElem?_map]
   ·simp[hltD,hx,d2,ht,h0,k1,k4,-List.getElem?_map]
  ·have d2:decide (x.k=2)=false:=aF h2
   have hd:decide (x.k=2\/x.k=3)=decide (x.k=3):=by simp[h2]
   rw[hd];by_cases h0:0<ba x.k
   ·rw[if_pos h0]
    obtain⟨ha0,ha1⟩:=ha h0;have hfr:=jW ha1;generalize f.getD x.a.toNat false=c at *;have k1:=k1 (decide (x.k=3)||c);generalize hb3:decide (x.k=3)=b3 at *;generalize eB (2<ba x.k) f (eB (1<ba x.k) f (b3||c) x.b) x.c=r at *;have k4:=k4 ((f++[r]).map B);generalize ba x.k=t at *;generalize (f++[r]).map B=F2 at *;generalize f.map B=F at *;cases b3 with
    |true=>
     rw[Bool.true_or] at k1;simp[hltD,hx,d2,ht,h0,hb3,k1,k4,-List.getElem?_map]
    |false=>
     rw[Bool.false_or] at k1;simp[hltD,hx,d2,ht,h0,hb3,ha0,hfr,k1,k4,-List.getElem?_map]
   ·rw[if_neg h0]
    have k1:=k1 (decide (x.k=3));generalize hb3:decide (x.k=3)=b3 at *;generalize eB (2<ba x.k) f (eB (1<ba x.k) f b3 x.b) x.c=r at *;have k4:=k4 ((f++[r]).map B);generalize ba x.k=t at *;generalize (f++[r]).map B=F2 at *;generalize f.map B=F at *;simp[hltD,hx,d2,ht,h0,hb3,k1,k4,-List.getElem?_map]
theorem BO (hA:jV m.nodes) (hl:m.nodes.length<=1000):ac pg 74 [de m] gh=some (.sl false 1 ((dt [] m.nodes).map B),gh):=by
 have h:=tL (gh:=gh) hA hl m.nodes.length 0 [] (by omega) rfl;rw[bK] at h;simp only[bQ,aW,bf] at h;have hn:dj ((dt [] m.nodes).map B)=true:=by
  generalize dt [] m.nodes=l
  induction l with
  |nil=>rfl
  |cons a l ih=>simpa using ih
 generalize (dt [] m.nodes).map B=K at *;have hk:=qi4 (pg:=pg) (gh:=gh) (v3:= .sl true 1 K) (e:= .ret) (s:=⟨[(2,.sl false 1 K)],[],gh⟩) (by simp);rw[bz];refine ao (fn:=q7p) (s:=⟨[(2,.sl false 1 K)],[],gh⟩) rfl rfl (qi5 ?h1) ?r1
 case h1=>simp[h,hk]
 case r1=>simp[al,results,q7p,am,aq,ai,hn]
end
def gU:List (Int×Int)->List (Int×Int)->Bool
 |_,[]=>false
 |pre,p::l=>pre.any (λq=>decide (p.1=q.1))||gU (pre++[p]) l
theorem tM:∀{pre l:List (Int×Int)},gU pre l=false↔((l.map (·.1)).Nodup/\∀p∈l,∀q∈pre,p.1≠q.1)
 |pre,[]=>by simp[gU]
 | pre,p::l=>by
  rw[gU,Bool.or_eq_false_iff,tM (pre:=pre++[p]) (l:=l)];simp only[List.any_eq_false,bP,List.nodup_cons,List.mem_cons,bY,List.not_mem_nil,or_false,aH];constructor
  ·rintro⟨h1,h2,h3⟩
   refine⟨⟨λhm=>?_,h2⟩,?_⟩
   ·obtain⟨q,hq,he⟩:=List.mem_map.1 hm
    exact h3 q hq p (.inr rfl) he
   ·rintro a (rfl|ha) q hq
    ·exact h1 q hq
    ·exact h3 a ha q (.inl hq)
  ·rintro⟨⟨h1,h2⟩,h3⟩
   refine⟨λq hq=>h3 p (.inl rfl) q hq,h2,λa ha q hq=>?_⟩;rcases hq with hq|rfl
   ·exact h3 a (.inr ha) q hq
   ·exact λhe=>h1 (he▸List.mem_map_of_mem ha)
theorem BP (l:List (Int×Int)):gU [] l=decide (dh l):=by
 have h:=tM (pre:=[]) (l:=l);unfold dh;cases hd:gU [] l with
 |false=>exact (aF λhn=>hn (h.1 hd).1).symm
 |true=>
  have:¬gU [] l=false:=by simp[hd]
  rw[h] at this;exact (aG (p:=¬(l.map (·.1)).Nodup) λhn=>this ⟨hn,by simp⟩).symm
section
variable {m:Md} {gh:List GObj}
theorem tN (hl:m.nodes.length<=1000):∀k i,i+k=m.nodes.length->
  ab pg q77 ⟨[(1,.ptr false 0 0),(3,I (i:Int))],[bf m],gh⟩=
   if eg m.nodes i (m.nodes.drop i)=0 then some (.normal,⟨[(1,.ptr false 0 0)],[bf m],gh⟩)
   else some (.ret,⟨[(2,I (eg m.nodes i (m.nodes.drop i)))],[],gh⟩)
 |0,i,h=>by
  rw[aQ (by omega),eg,if_pos rfl];have hlt:¬i<m.nodes.length:=by omega
  refine (bm (s1:=?s1) (q9e ?h1)).trans ?r1
  case h1=>simp[hlt];rfl
  case r1=>simp[keep,bh]
 | k+1,i,h=>by
  have hlt:i<m.nodes.length:=by omega
  have hltD:decide (i<m.nodes.length)=true:=aG hlt;have e2:WI.wrap ((i:Int)+1)=((i+1:Nat):Int):=by rw[az (by omega) (by omega)];omega
  have hn:=Bu (l:=m.nodes) (gh:=gh) (idx:=i) (aA hlt) (by omega);rw[aL hlt,eg];generalize dw m.nodes (i:Int) m.nodes[i]=r at *;by_cases he:r=0
  ·rw[if_pos he]
   refine bc (s1:=⟨[(1,.ptr false 0 0),(3,I ((i+1:Nat):Int))],[bf m],gh⟩) (q9e ?_) (tN hl k (i+1) (by omega));simp[hltD,hn,he,e2]
  ·rw[if_neg he,if_neg he]
   refine dl (q9e ?_);simp[hltD,hn,he]
theorem oR (hl:m.nodes.length<=1000) (n:Int):ac pg 50 [I n,I 0,I (WI.wrap ((m.nodes.length:Int)-1))] gh=some (B (decide (ci m.nodes n)),gh):=by have e:WI.wrap ((m.nodes.length:Int)-1)=(m.nodes.length:Int)-1:=az (by omega) (by omega);rw[e,dS];have:decide (0<=n/\n<=(m.nodes.length:Int)-1)=decide (ci m.nodes n):=decide_eq_decide.2 ⟨λh=>⟨h.1,by omega⟩,λh=>⟨h.1,by have:=h.2;have:=h.1;omega⟩⟩;rw[this]
theorem oU {f:List Bool} {ps:List (Int×Int)} {k:Nat} (hf:f.length=m.nodes.length) (hl:m.nodes.length<=1000) (hs:Sz ps.length):∀n j,j+n=ps.length->
  ab pg q2f ⟨[(1,.ptr false 0 0),(5,.sl false 1 (f.map B)),(6,I (k:Int)),(7,LP ps),(8,I (j:Int))],[bf m],gh⟩=
   if cv m.nodes f (decide (k=0)) (ps.drop j)=0 then some (.normal,⟨[(1,.ptr false 0 0),(5,.sl false 1 (f.map B)),(6,I (k:Int))],[bf m],gh⟩)
   else some (.ret,⟨[(2,I (cv m.nodes f (decide (k=0)) (ps.drop j)))],[],gh⟩)
 |0,j,h=>by
  rw[aQ (by omega),cv,if_pos rfl];have hlt:¬j<ps.length:=by omega
  refine (bm (s1:=?s1) (qx_ ?h1)).trans ?r1
  case h1=>simp only[qx];simp[hlt];rfl
  case r1=>simp[keep,bh]
 | n + 1,j,h=>by
  have hlt:j<ps.length:=by omega
  have hltD:decide (j<ps.length)=true:=aG hlt;have hltI:(j:Int)<(ps.length:Int):=by omega
  have e2:WI.wrap ((j:Int)+1)=((j+1:Nat):Int):=fH (by simp only[Sz] at hs ⊢;omega);have hx:(ps.map bv)[j]?=some (bv ps[j]):=by simp[aA hlt]
  rw[gQ] at hx;rw[aL hlt,cv];generalize ps[j]=p at *;obtain⟨a,b⟩:=p;simp only at hx;have hk0:((k:Int)==0)=decide (k=0):=by rw[s9];exact decide_eq_decide.2 (by omega)
  obtain⟨ini,hini⟩:∃ini,decide (k=0)=ini:=⟨_,rfl⟩
  rw[hini] at hk0 ⊢;have i1:=oR (m:=m) (gh:=gh) hl a;have i2:=oR (m:=m) (gh:=gh) hl b;have hNl:(m.nodes.map bp).length=m.nodes.length:=by simp
  generalize hw:WI.wrap ((m.nodes.length:Int)-1)=w at *
  have hret:∀r,r≠0->dN m.nodes f ini (a,b)=r->qx pg (.sl false 1 (f.map B)) k (LP ps) j (LN m.nodes) (LP m.inits) (LP m.nexts) (LI m.bads) (LI m.holds) gh=some (.ret,⟨[(2,I r)],[],gh⟩)->
    ab pg q2f ⟨[(1,.ptr false 0 0),(5,.sl false 1 (f.map B)),(6,I (k:Int)),(7,LP ps),(8,I (j:Int))],[bf m],gh⟩=
   if (if dN m.nodes f ini (a,b)=0 then cv m.nodes f ini (ps.drop (j+1)) else dN m.nodes f ini (a,b))=0 then some (.normal,⟨[(1,.ptr false 0 0),(5,.sl false 1 (f.map B)),(6,I (k:Int))],[bf m],gh⟩)
   else some (.ret,⟨[(2,I (if dN m.nodes f ini (a,b)=0 then cv m.nodes f ini (ps.drop (j+1)) else dN m.nodes f ini (a,b)))],[],gh⟩):=by
   intro r hr he hD;rw[he,if_neg hr,if_neg hr];exact dl (qx_ hD)
  by_cases h1:ci m.nodes a
  ·rw [aG h1] at i1
   by_cases h2:ci m.nodes b
   ·rw [aG h2] at i2
    have n1:=eJ h1;have n2:=eJ h2;have z1:=h1.1;have z2:=h2.1;have hfr:=jW (f:=f) (a:=b) (by rw[hf];exact h2.2);by_cases h3:(m.nodes.getD a.toNat default).k=3
    ·by_cases h4:wAt m.nodes a=wAt m.nodes b
     ·by_cases h5:ini=true/\f.getD b.toNat false=true
      ·refine hret 4 (by decide) (by simp only[dN];rw[if_neg (by rintro (h|h|h)<;>contradiction),if_neg (λh=>h h4),if_pos h5]) ?_
       obtain⟨rfl,h5⟩:=h5;rw[h5] at hfr;unfold wAt at h4;generalize m.nodes.getD a.toNat default=d1 at *;generalize m.nodes.getD b.toNat default=d2 at *;rw[cV d1] at n1;rw[cV d2] at n2;have d3:decide (d1.k=3)=true:=aG h3;simp only[qx,hk0];simp[hltD,hx,hw,i1,i2,z1,z2,n1,n2,d3,h4,hfr,-List.getElem?_map]
      ·have he:dN m.nodes f ini (a,b)=0:=by simp only[dN];rw[if_neg (by rintro (h|h|h)<;>contradiction),if_neg (λh=>h h4),if_neg h5]
       rw[he,if_pos rfl];refine bc (s1:=⟨[(1,.ptr false 0 0),(5,.sl false 1 (f.map B)),(6,I (k:Int)),(7,LP ps),(8,I ((j+1:Nat):Int))],[bf m],gh⟩) (qx_ ?_) ?_
       ·unfold wAt at h4
        generalize m.nodes.getD a.toNat default=d1 at *;generalize m.nodes.getD b.toNat default=d2 at *;rw[cV d1] at n1;rw[cV d2] at n2;have d3:decide (d1.k=3)=true:=aG h3;simp only[qx,hk0];cases ini with
        |true=>
         have h5:f.getD b.toNat false=false:=by simpa using h5
         rw[h5] at hfr;generalize f.map B=F at *;simp[hltD,hx,hw,i1,i2,z1,z2,n1,n2,d3,h4,hfr,e2,-List.getElem?_map]
        |false=>
         generalize f.map B=F at *;simp[hltD,hx,hw,i1,i2,z1,z2,n1,n2,d3,h4,e2,-List.getElem?_map]
       ·rw[<-hini]
        exact oU hf hl hs n (j+1) (by omega)
     ·refine hret 1 (by decide) (by simp only[dN];rw[if_neg (by rintro (h|h|h)<;>contradiction),if_pos h4]) ?_
      unfold wAt at h4;generalize m.nodes.getD a.toNat default=d1 at *;generalize m.nodes.getD b.toNat default=d2 at *;rw[cV d1] at n1;rw[cV d2] at n2;have d3:decide (d1.k=3)=true:=aG h3;simp only[qx,hk0];simp[hltD,hx,hw,i1,i2,z1,z2,n1,n2,d3,h4,-List.getElem?_map]
    ·refine hret 5 (by decide) (by simp only[dN];rw[if_pos (.inr (.inr h3))]) ?_
     generalize m.nodes.getD a.toNat default=d1 at *;rw[cV d1] at n1;have d3:decide (d1.k=3)=false:=aF h3;simp only[qx,hk0];simp[hltD,hx,hw,i1,i2,z1,n1,d3,-List.getElem?_map]
   ·rw[aF h2] at i2
    refine hret 5 (by decide) (by simp only[dN];rw[if_pos (.inr (.inl h2))]) ?_;simp only[qx,hk0];simp[hltD,hx,hw,i1,i2,-List.getElem?_map]
  ·rw[aF h1] at i1
   refine hret 5 (by decide) (by simp only[dN];rw[if_pos (.inl h1)]) ?_;simp only[qx,hk0];simp[hltD,hx,hw,i1,-List.getElem?_map]
theorem tP {ps:List (Int×Int)} {k i:Nat} {s w:Int} (hs:Sz ps.length) (hi:ps[i]?=some (s,w)):∀n j,j+n=i->
  ab pg q79 ⟨[(1,.ptr false 0 0),(10,I (k:Int)),(11,LP ps),(12,I (i:Int)),(13,I (j:Int))],[bf m],gh⟩=
   if ((ps.take i).drop j).any (λq=>decide (s=q.1))=true then some (.ret,⟨[(2,I 6)],[],gh⟩)
   else some (.normal,⟨[(1,.ptr false 0 0),(10,I (k:Int)),(11,LP ps),(12,I (i:Int))],[bf m],gh⟩)
 |0,j,h=>by
  have hil:=(aD.1 hi).1;rw[aQ (by simp;omega),List.any_nil,if_neg (by simp)];have hlt:¬(j:Int)<(i:Int):=by omega
  refine (bm (s1:=?s1) (q9f ?h1)).trans ?r1
  case h1=>simp only[aF hlt,dK];simp;rfl
  case r1=>simp[keep,bh]
 | n+1,j,h=>by
  have hil:=(aD.1 hi).1;have hlt:(j:Int)<(i:Int):=by omega
  have hltD:decide ((j:Int)<(i:Int))=true:=aG hlt;have e2:WI.wrap ((j:Int)+1)=((j+1:Nat):Int):=fH (by simp only[Sz] at hs ⊢;omega);have hj:j<(ps.take i).length:=by simp;omega
  have hx:(ps.map bv)[j]?=some (bv (ps.take i)[j]):=by simp[aA (show j<ps.length by omega)]
  have hy:(ps.map bv)[i]?=some (bv (s,w)):=by simp[hi]
  rw[gQ] at hx hy;rw[aL hj,List.any_cons];generalize (ps.take i)[j]=q at *;obtain⟨a,b⟩:=q;simp only at hx hy ⊢;by_cases he:s=a
  ·rw[aG he,Bool.true_or,if_pos rfl]
   refine dl (q9f ?_);simp only[hltD];simp[hx,hy,he,-List.getElem?_map]
  ·rw[aF he,Bool.false_or]
   refine bc (s1:=⟨[(1,.ptr false 0 0),(10,I (k:Int)),(11,LP ps),(12,I (i:Int)),(13,I ((j+1:Nat):Int))],[bf m],gh⟩) (q9f ?_) (tP hs hi n (j+1) (by omega));simp only[hltD];simp[hx,hy,he,e2,-List.getElem?_map]
theorem oV {ps:List (Int×Int)} {k:Nat} (hs:Sz ps.length):∀n i,i+n=ps.length->
  ab pg q49 ⟨[(1,.ptr false 0 0),(10,I (k:Int)),(11,LP ps),(12,I (i:Int))],[bf m],gh⟩=
   if gU (ps.take i) (ps.drop i)=true then some (.ret,⟨[(2,I 6)],[],gh⟩) else some (.normal,⟨[(1,.ptr false 0 0),(10,I (k:Int))],[bf m],gh⟩)
 |0,i,h=>by
  rw[aQ (by omega),gU,if_neg (by simp)];have hlt:¬i<ps.length:=by omega
  refine (bm (s1:=?s1) (q50_ ?h1)).trans ?r1
  case h1=>simp only[q50];simp[hlt];rfl
  case r1=>simp[keep,bh]
 | n+1,i,h=>by
  have hlt:i<ps.length:=by omega
  have hltD:decide (i<ps.length)=true:=aG hlt;have e2:WI.wrap ((i:Int)+1)=((i+1:Nat):Int):=fH (by simp only[Sz] at hs ⊢;omega);have hg:ps[i]?=some (ps[i].1,ps[i].2):=aA hlt;have h6:=tP (m:=m) (gh:=gh) (k:=k) hs hg i 0 (by omega);rw[bK] at h6;simp only[aW] at h6;have htk:ps.take i++[ps[i]]=ps.take (i+1):=by simp
  have hPl:(ps.map bv).length=ps.length:=by simp
  rw[aL hlt,gU,htk];have k6:ab pg q48 ⟨[(1,.ptr false 0 0),(10,I (k:Int)),(11,LP ps),(12,I (i:Int))],[bf m],gh⟩=some (.normal,⟨[(1,.ptr false 0 0),(10,I (k:Int)),(11,LP ps),(12,I ((i+1:Nat):Int))],[bf m],gh⟩):=by refine qi8 ?_;simp[e2]
  have hrec:=oV (k:=k) hs n (i+1) (by omega);cases hd:(ps.take i).any (λq=>decide (ps[i].1=q.1)) with
  |true=>
   rw[hd,if_pos rfl] at h6;rw[Bool.true_or,if_pos rfl];refine dl (q50_ ?_);simp only[bf] at *;simp only[q50];simp[hltD,h6]
  |false=>
   rw[hd,if_neg (by simp)] at h6;rw[Bool.false_or];refine bc (s1:=⟨[(1,.ptr false 0 0),(10,I (k:Int)),(11,LP ps),(12,I ((i+1:Nat):Int))],[bf m],gh⟩) (q50_ ?_) hrec;simp only[bf] at *;simp only[q50];simp[hltD,h6,k6]
theorem tQ {xs:List Int} (hl:m.nodes.length<=1000) (hs:Sz xs.length):∀n i,i+n=xs.length->
  ab pg q7b ⟨[(1,.ptr false 0 0),(14,.sl true 1 (xs.map I)),(15,I (i:Int))],[bf m],gh⟩=
   if (xs.drop i).any (λa=> !decide (ci m.nodes a))=true then some (.ret,⟨[(2,I 5)],[],gh⟩) else some (.normal,⟨[(1,.ptr false 0 0),(14,.sl true 1 (xs.map I))],[bf m],gh⟩)
 |0,i,h=>by
  rw[aQ (by omega),List.any_nil,if_neg (by simp)];have hlt:¬i<xs.length:=by omega
  refine (bm (s1:=?s1) (q51_ ?h1)).trans ?r1
  case h1=>simp only[q51];simp[hlt];rfl
  case r1=>simp[keep,bh]
 | n+1,i,h=>by
  have hlt:i<xs.length:=by omega
  have hltD:decide (i<xs.length)=true:=aG hlt;have e2:WI.wrap ((i:Int)+1)=((i+1:Nat):Int):=fH (by simp only[Sz] at hs ⊢;omega);have hg:(xs.map I)[i]?=some (I xs[i]):=by simp[aA hlt]
  have hb:=oR (m:=m) (gh:=gh) hl xs[i];generalize hw:WI.wrap ((m.nodes.length:Int)-1)=w at *;have hrec:=tQ hl hs n (i+1) (by omega);rw[aL hlt,List.any_cons];generalize xs[i]=a at *;by_cases hn:ci m.nodes a
  ·rw[aG hn] at hb ⊢
   rw[Bool.not_true,Bool.false_or];refine bc (s1:=⟨[(1,.ptr false 0 0),(14,.sl true 1 (xs.map I)),(15,I ((i+1:Nat):Int))],[bf m],gh⟩) (q51_ ?_) hrec;simp only[q51];simp[hltD,hg,hw,hb,e2,-List.getElem?_map]
  ·rw[aF hn] at hb ⊢
   rw[Bool.not_false,Bool.true_or,if_pos rfl];refine dl (q51_ ?_);simp only[q51];simp[hltD,hg,hw,hb,-List.getElem?_map]
theorem tR {xs:List Int} (hn:∀a∈xs,ci m.nodes a) (hs:Sz xs.length):∀n i,i+n=xs.length->
  ab pg q2k ⟨[(1,.ptr false 0 0),(14,.sl true 1 (xs.map I)),(16,I (i:Int))],[bf m],gh⟩=
   if (xs.drop i).any (λa=> !decide (wAt m.nodes a=1))=true then some (.ret,⟨[(2,I 1)],[],gh⟩) else some (.normal,⟨[],[],gh⟩)
 |0,i,h=>by
  rw[aQ (by omega),List.any_nil,if_neg (by simp)];have hlt:¬i<xs.length:=by omega
  refine (bm (s1:=?s1) (q52_ ?h1)).trans ?r1
  case h1=>simp only[q52];simp[hlt];rfl
  case r1=>simp[keep]
 | n+1,i,h=>by
  have hlt:i<xs.length:=by omega
  have hltD:decide (i<xs.length)=true:=aG hlt;have e2:WI.wrap ((i:Int)+1)=((i+1:Nat):Int):=fH (by simp only[Sz] at hs ⊢;omega);have hg:(xs.map I)[i]?=some (I xs[i]):=by simp[aA hlt]
  have hno:=hn _ (bX hlt);have hn1:=eJ hno;have h0:=hno.1;have hrec:=tR hn hs n (i+1) (by omega);rw[aL hlt,List.any_cons];generalize xs[i]=a at *;unfold wAt at hrec ⊢;generalize m.nodes.getD a.toNat default=d at *;rw[cV d] at hn1;by_cases hw:d.w=1
  ·rw[aG hw,Bool.not_true,Bool.false_or]
   refine bc (s1:=⟨[(1,.ptr false 0 0),(14,.sl true 1 (xs.map I)),(16,I ((i+1:Nat):Int))],[bf m],gh⟩) (q52_ ?_) hrec;simp only[q52];simp[hltD,hg,h0,hn1,hw,e2,-List.getElem?_map]
  ·rw[aF hw,Bool.not_false,Bool.true_or,if_pos rfl]
   refine dl (q52_ ?_);simp only[q52];simp[hltD,hg,h0,hn1,hw,-List.getElem?_map]
end
section
variable {m:Md} {gh:List GObj}
theorem BQ {f:List Bool} (hf:f.length=m.nodes.length) (hl:m.nodes.length<=1000) (h1:Sz m.inits.length) (h2:Sz m.nexts.length) :
  ab pg q78 ⟨[(1,.ptr false 0 0),(5,.sl false 1 (f.map B)),(6,I 0)],[bf m],gh⟩=
   if cv m.nodes f true m.inits≠0 then some (.ret,⟨[(2,I (cv m.nodes f true m.inits))],[],gh⟩)
   else if cv m.nodes f false m.nexts≠0 then some (.ret,⟨[(2,I (cv m.nodes f false m.nexts))],[],gh⟩)
   else some (.normal,⟨[(1,.ptr false 0 0)],[bf m],gh⟩):=by
 have l1:=oU (gh:=gh) (m:=m) (ps:=m.inits) (k:=0) hf hl h1 m.inits.length 0 (by omega);have l2:=oU (gh:=gh) (m:=m) (ps:=m.nexts) (k:=1) hf hl h2 m.nexts.length 0 (by omega);rw[bK] at l1 l2;simp only[aW,decide_true] at l1 l2;rw[show decide (1=0)=false from rfl] at l2;simp only[Int.natCast_one] at l1 l2;have w1:WI.wrap (0+1)=1:=by decide
 have w2:WI.wrap (1+1)=2:=by decide
 generalize f.map B=F at *;have k3:∀x,ab pg q2h ⟨[(1,.ptr false 0 0),(5,.sl false 1 F),(6,I x)],[bf m],gh⟩=some (.normal,⟨[(1,.ptr false 0 0),(5,.sl false 1 F),(6,I (WI.wrap (x+1)))],[bf m],gh⟩):=λx=>by refine qi7 ?_;simp
 have k2:∀x ps e s,ab pg q2f ⟨[(1,.ptr false 0 0),(5,.sl false 1 F),(6,I x),(7,LP ps),(8,I 0)],[bf m],gh⟩=some (e,s)->ab pg q2g ⟨[(1,.ptr false 0 0),(5,.sl false 1 F),(6,I x),(7,LP ps)],[bf m],gh⟩=some (e,s):=λx ps e s h=>by refine qi6 ?_;simp only[bf] at *;simp[h]
 by_cases e1:cv m.nodes f true m.inits=0
 ·rw[if_pos e1] at l1
  rw[if_neg (λh=>h e1)];have k30:=k3 0;rw[w1] at k30;have k20:=k2 _ _ _ _ l1;refine bc (s1:=⟨[(1,.ptr false 0 0),(5,.sl false 1 F),(6,I 1)],[bf m],gh⟩) (q3e (by simp only[bf] at *;simp[k20,k30])) ?_;by_cases e2:cv m.nodes f false m.nexts=0
  ·rw[if_pos e2] at l2
   rw[if_neg (λh=>h e2)];have k31:=k3 1;rw[w2] at k31;have k21:=k2 _ _ _ _ l2;refine bc (s1:=⟨[(1,.ptr false 0 0),(5,.sl false 1 F),(6,I 2)],[bf m],gh⟩) (q3e (by simp only[bf] at *;simp[k21,k31])) ?_;refine (bm (s1:=?s1) (q3e ?h1)).trans ?r1
   case h1=>simp;rfl
   case r1=>simp[keep,bh]
  ·rw[if_neg e2] at l2
   rw[if_pos e2];have k21:=k2 _ _ _ _ l2;refine dl (q3e ?_);simp only[bf] at *;simp[k21]
 ·rw[if_neg e1] at l1
  rw[if_pos e1];have k20:=k2 _ _ _ _ l1;refine dl (q3e ?_);simp only[bf] at *;simp[k20]
theorem BR (h1:Sz m.inits.length) (h2:Sz m.nexts.length) :
  ab pg q7a ⟨[(1,.ptr false 0 0),(10,I 0)],[bf m],gh⟩=
   if dh m.inits\/dh m.nexts then some (.ret,⟨[(2,I 6)],[],gh⟩) else some (.normal,⟨[(1,.ptr false 0 0)],[bf m],gh⟩):=by
 have l1:=oV (gh:=gh) (m:=m) (ps:=m.inits) (k:=0) h1 m.inits.length 0 (by omega);have l2:=oV (gh:=gh) (m:=m) (ps:=m.nexts) (k:=1) h2 m.nexts.length 0 (by omega);rw[bK,List.take_zero,BP] at l1 l2;simp only[aW,Int.natCast_one,aH] at l1 l2;have w1:WI.wrap (0+1)=1:=by decide
 have w2:WI.wrap (1+1)=2:=by decide
 have k7:∀x,ab pg q2j ⟨[(1,.ptr false 0 0),(10,I x)],[bf m],gh⟩=some (.normal,⟨[(1,.ptr false 0 0),(10,I (WI.wrap (x+1)))],[bf m],gh⟩):=λx=>by refine qia ?_;simp
 have k5:∀x ps e s,ab pg q49 ⟨[(1,.ptr false 0 0),(10,I x),(11,LP ps),(12,I 0)],[bf m],gh⟩=some (e,s)->ab pg q2i ⟨[(1,.ptr false 0 0),(10,I x),(11,LP ps)],[bf m],gh⟩=some (e,s):=λx ps e s h=>by refine qi9 ?_;simp only[bf] at *;simp[h]
 by_cases t1:dh m.inits
 ·rw[if_pos t1] at l1
  rw[if_pos (.inl t1)];have k50:=k5 _ _ _ _ l1;refine dl (q3f ?_);simp only[bf] at *;simp[k50]
 ·rw[if_neg t1] at l1
  have k50:=k5 _ _ _ _ l1;have k70:=k7 0;rw[w1] at k70;refine bc (s1:=⟨[(1,.ptr false 0 0),(10,I 1)],[bf m],gh⟩) (q3f (by simp only[bf] at *;simp[k50,k70])) ?_;by_cases t2:dh m.nexts
  ·rw[if_pos t2] at l2
   rw[if_pos (.inr t2)];have k51:=k5 _ _ _ _ l2;refine dl (q3f ?_);simp only[bf] at *;simp[k51]
  ·rw[if_neg t2] at l2
   rw[if_neg (by rintro (h|h)<;>contradiction)];have k51:=k5 _ _ _ _ l2;have k71:=k7 1;rw[w2] at k71;refine bc (s1:=⟨[(1,.ptr false 0 0),(10,I 2)],[bf m],gh⟩) (q3f (by simp only[bf] at *;simp[k51,k71])) ?_;refine (bm (s1:=?s1) (q3f ?h1)).trans ?r1
   case h1=>simp;rfl
   case r1=>simp[keep,bh]
def kV (m:Md):Int:=
 if m.nexts.length≠(ah m.nodes 3).length then 5 else if (m.bads++m.holds).any (λa=> !decide (ci m.nodes a)) then 5
 else if (m.bads++m.holds).any (λa=> !decide (wAt m.nodes a=1)) then 1 else 0
theorem BS (hl:m.nodes.length<=1000) (h1:m.bads.length<=100) (h2:m.holds.length<=100) :
  ab pg q4a ⟨[(1,.ptr false 0 0)],[bf m],gh⟩=some (.ret,⟨[(2,I (kV m))],[],gh⟩):=by
 have ho:=jo (m:=m) (gh:=gh) (kind:=3) (by omega);rw[bz] at ho;have hm:=MB;have hm1:m.bads.length*8<=maxBytes:=by omega
 have hm2:(m.bads.length+m.holds.length)*8<=maxBytes:=by omega
 have hsz:Sz (m.bads++m.holds).length:=by simp only[Sz,aV];omega
 have l7:=tQ (m:=m) (gh:=gh) (xs:=m.bads++m.holds) hl hsz (m.bads++m.holds).length 0 (by omega);have l8:(∀a∈m.bads++m.holds,ci m.nodes a)->_:=λhn=>tR (m:=m) (gh:=gh) (xs:=m.bads++m.holds) hn hsz (m.bads++m.holds).length 0 (by omega)
 rw[bK] at l7;rw[bK] at l8;simp only[aW] at l7 l8;have hnb:(m.bads++m.holds).any (λa=> !decide (ci m.nodes a))=false->∀a∈m.bads++m.holds,ci m.nodes a:=λh a ha=>by have:=List.any_eq_false.1 h a ha;simpa using this
 unfold kV;generalize (m.bads++m.holds).any (λa=> !decide (ci m.nodes a))=p1 at *;generalize (m.bads++m.holds).any (λa=> !decide (wAt m.nodes a=1))=p2 at *;generalize hK:ah m.nodes 3=K at *;have hKl:(K.map I).length=K.length:=by simp
 have hXl:(m.nexts.map bv).length=m.nexts.length:=by simp
 have hBl:(m.bads.map I).length=m.bads.length:=by simp
 have hHl:(m.holds.map I).length=m.holds.length:=by simp
 have k10:=qib (pg:=pg) (gh:=gh) (e:= .ret) (s:=⟨[(2,I 0)],[],gh⟩) rfl;have k9r:∀M s,ab pg q2k ⟨[(1,.ptr false 0 0),(14,.sl true 1 M),(16,I 0)],[bf m],gh⟩=some (.ret,s)->ab pg q2l ⟨[(1,.ptr false 0 0),(14,.sl true 1 M)],[bf m],gh⟩=some (.ret,s):=λM s h=>by simp only[bf] at *;refine qf2 ?_;simp[h]
 have k9n:∀M,ab pg q2k ⟨[(1,.ptr false 0 0),(14,.sl true 1 M),(16,I 0)],[bf m],gh⟩=some (.normal,⟨[],[],gh⟩)->ab pg q2l ⟨[(1,.ptr false 0 0),(14,.sl true 1 M)],[bf m],gh⟩=some (.ret,⟨[(2,I 0)],[],gh⟩):=λM h=>by simp only[bf] at *;refine qf2 ?_;simp[h,k10]
 refine qic ?_;simp only[bJ] at l7 l8;simp only[LI,bf] at *;generalize m.bads.map I=M1 at *;generalize m.holds.map I=M2 at *;generalize K.map I=K' at *;generalize m.nexts.map bv=X' at *;by_cases e1:m.nexts.length=K.length
 ·rw[if_neg (λh=>h e1)]
  cases p1 with
  |true=>
   rw[if_pos rfl] at l7 ⊢;simp[ho,hKl,hXl,e1,hBl,hHl,hm1,hm2,l7]
  | false=>
   rw[if_neg (by simp)] at l7 ⊢;have l8:=l8 (hnb rfl);cases p2 with
   |true=>
    rw[if_pos rfl] at l8 ⊢;have k9:=k9r _ _ l8;simp[ho,hKl,hXl,e1,hBl,hHl,hm1,hm2,l7,k9]
   |false=>
    rw[if_neg (by simp)] at l8 ⊢;have k9:=k9n _ l8;simp[ho,hKl,hXl,e1,hBl,hHl,hm1,hm2,l7,k9]
 ·rw[if_pos e1]
  have e1':¬(m.nexts.length:Int)=(K.length:Int):=by omega
  simp[ho,hKl,hXl,e1']
theorem BT {f:List Bool} (h:fI m f=0):kV m=gS m:=by
 unfold fI at h;split at h
 ·contradiction
 split at h
 ·contradiction
 rename_i h1 h2;split at h
 ·contradiction
 rename_i h3;have hd:(m.nexts.map (·.1)).Nodup:=by
  have:=λh=>h3 (.inr h)
  unfold dh at this;exact aU this
 have hz:∀(l:List (Int×Int)),cv m.nodes f false l=0->∀p∈l,p.1∈ah m.nodes 3:=by
  intro l
  induction l with
  |nil=>intro _ p hp;simp at hp
  | cons q l ih=>
   intro hq p hp;rw[cv] at hq;split at hq
   ·rename_i hq0
    rcases List.mem_cons.1 hp with rfl|hp
    ·unfold dN at hq0
     split at hq0
     ·contradiction
     rename_i hn;have hi:ci m.nodes p.1:=aU λh=>hn (.inl h)
     have hk:(m.nodes.getD p.1.toNat default).k=3:=aU λh=>hn (.inr (.inr h))
     refine kindF_mem.2 ⟨p.1.toNat,hi.2,?_,?_⟩
     ·have:=hi.1;omega
     ·rw[aM,aA hi.2] at hk
      rw[aA hi.2];simpa using hk
    ·exact ih hq p hp
   ·contradiction
 have hle:m.nexts.length<=(ah m.nodes 3).length:=by have:=List.Nodup.length_le_of_subset hd (l₂:=ah m.nodes 3) (λa ha=>by obtain⟨p,hp,rfl⟩:=List.mem_map.1 ha;exact hz _ (by simpa using h2) p hp);simpa using this
 unfold kV gS;by_cases he:m.nexts.length=(ah m.nodes 3).length
 ·rw[if_neg (c:=m.nexts.length≠_) (λh=>h he),if_neg (c:=m.nexts.length<_) (by omega)]
 ·rw[if_pos he,if_pos (by omega)]
theorem BU (h1:Sz m.inits.length) (h2:Sz m.nexts.length):ac pg 36 [de m] gh=some (I (aw m),gh):=by
 unfold aw;have hNl:(m.nodes.map bp).length=m.nodes.length:=by simp
 have hBl:(m.bads.map I).length=m.bads.length:=by simp
 have hHl:(m.holds.map I).length=m.holds.length:=by simp
 rw[bz];by_cases c1:m.nodes.length>80\/m.bads.length>8\/m.holds.length>8
 ·rw [if_pos c1]
  refine ao (fn:=qv) (s:=⟨[(2,I 2)],[],gh⟩) rfl rfl (q53 ?h1) ?r1
  case r1=>simp[al,results,qv,am,aq,ai]
  case h1=>
   by_cases d1:(80:Int)<(m.nodes.length:Int)
   ·simp[d1]
   ·by_cases d2:(8:Int)<(m.bads.length:Int)
    ·simp[d1,d2]
    ·have d3:(8:Int)<(m.holds.length:Int):=by omega
     simp[d1,d2,d3]
 ·rw [if_neg c1]
  have d1:¬(80:Int)<(m.nodes.length:Int):=by omega
  have d2:¬(8:Int)<(m.bads.length:Int):=by omega
  have d3:¬(8:Int)<(m.holds.length:Int):=by omega
  have hl:=tN (m:=m) (gh:=gh) (by omega) m.nodes.length 0 (by omega);rw[bK] at hl;simp only[aW,bf] at hl;by_cases hn:eg m.nodes 0 m.nodes=0
  ·rw [if_neg (λh=>h hn)]
   rw[if_pos hn] at hl;have hb2:=oQ (m:=m) (gh:=gh) (kind:=2) (by omega);have hb3:=oQ (m:=m) (gh:=gh) (kind:=3) (by omega);have hlen:=BO (m:=m) (gh:=gh) (oI hn) (by omega);rw[bz] at hb2 hb3 hlen;have hf:(dt [] m.nodes).length=m.nodes.length:=by simpa using ox [] m.nodes
   have l2:=BQ (gh:=gh) hf (by omega) h1 h2;have l4:=BR (m:=m) (gh:=gh) h1 h2;have k8:=BS (m:=m) (gh:=gh) (by omega) (by omega) (by omega);have hme:=BT (m:=m) (f:=dt [] m.nodes);unfold fI at hme ⊢;simp only[bf] at *;generalize (dt [] m.nodes).map B=F at *;generalize cv m.nodes (dt [] m.nodes) true m.inits=r1 at *;generalize cv m.nodes (dt [] m.nodes) false m.nexts=r2 at *;by_cases hbt:dZ m.nodes 2>6\/dZ m.nodes 3>10
   ·rw[if_pos hbt]
    have k1:ab pg q2n ⟨[(1,.ptr false 0 0)],[[LN m.nodes,LP m.inits,LP m.nexts,LI m.bads,LI m.holds]],gh⟩=some (.ret,⟨[(2,I 2)],[],gh⟩):=by
     refine q3g ?_;by_cases b1:6<dZ m.nodes 2
     ·simp[hb2,b1]
     ·have b2:10<dZ m.nodes 3:=by omega
      simp[hb2,hb3,b1,b2]
    refine ao (fn:=qv) (s:=⟨[(2,I 2)],[],gh⟩) rfl rfl (q53 ?h2) ?r2
    case r2=>simp[al,results,qv,am,aq,ai]
    case h2=>simp[d1,d2,d3,hl,k1]
   ·rw [if_neg hbt]
    have b1:¬6<dZ m.nodes 2:=by omega
    have b2:¬10<dZ m.nodes 3:=by omega
    have fin:∀r,ab pg q2n ⟨[(1,.ptr false 0 0)],[[LN m.nodes,LP m.inits,LP m.nexts,LI m.bads,LI m.holds]],gh⟩=some (.ret,⟨[(2,I r)],[],gh⟩)->ac pg 36 [.agg [LN m.nodes,LP m.inits,LP m.nexts,LI m.bads,LI m.holds]] gh=some (I r,gh):=λr k1=>by
     refine ao (fn:=qv) (s:=⟨[(2,I r)],[],gh⟩) rfl rfl (q53 ?h3) ?r3
     case r3=>simp[al,results,qv,am,aq,ai]
     case h3=>simp[d1,d2,d3,hl,k1]
    by_cases e1:r1=0
    ·rw [if_neg (λh=>h e1)] at l2
     by_cases e2:r2=0
     ·rw[if_neg (λh=>h e2)] at l2
      by_cases ht:dh m.inits\/dh m.nexts
      ·rw[if_pos ht] at l4
       have k4:ab pg q2m ⟨[(1,.ptr false 0 0)],[[LN m.nodes,LP m.inits,LP m.nexts,LI m.bads,LI m.holds]],gh⟩=some (.ret,⟨[(2,I 6)],[],gh⟩):=by refine qf3 ?_;simp[l4]
       simp only[e1,e2,ht,if_true,ne_eq,not_true,if_false];refine fin 6 (q3g ?_);simp[hb2,hb3,b1,b2,hlen,l2,k4]
      ·rw[if_neg ht] at l4
       have k4:ab pg q2m ⟨[(1,.ptr false 0 0)],[[LN m.nodes,LP m.inits,LP m.nexts,LI m.bads,LI m.holds]],gh⟩=some (.ret,⟨[(2,I (kV m))],[],gh⟩):=by refine qf3 ?_;simp[l4,k8]
       simp only[e1,e2,ht,if_true,ne_eq,not_true,if_false] at hme ⊢;rw[<-hme trivial];refine fin _ (q3g ?_);simp[hb2,hb3,b1,b2,hlen,l2,k4]
     ·rw[if_pos e2] at l2
      simp only[e1,e2,ne_eq,not_true,not_false_iff,if_false,if_true];refine fin _ (q3g ?_);simp[hb2,hb3,b1,b2,hlen,l2]
    ·rw[if_pos e1] at l2
     simp only[e1,ne_eq,not_true,not_false_iff,if_true];refine fin _ (q3g ?_);simp[hb2,hb3,b1,b2,hlen,l2]
  ·rw[if_pos hn]
   rw[if_neg hn] at hl;generalize eg m.nodes 0 m.nodes=r at *;refine ao (fn:=qv) (s:=⟨[(2,I r)],[],gh⟩) rfl rfl (q53 ?h5) ?r5
   case r5=>simp[al,results,qv,am,aq,ai]
   case h5=>simp[d1,d2,d3,hl]
end
theorem BZ (W A B C N W0 W1 W2:Nat) (gh:List GObj):qc pg 4 W A B C N W0 W1 W2 gh=callR gh true (ac pg 27 [I W] gh) (λr1 gh2=>unI .i64 r1 λn3=>(some (.ret,⟨[(14,(.int .i64 (WI.wrap ((WI.wrap (n3-1))-(A:Int)))))],[],gh2⟩))):=rfl
theorem B2 (W A B C N W0 W1 W2:Nat) (gh:List GObj):qc pg 5 W A B C N W0 W1 W2 gh=callR gh true (ac pg 27 [I W] gh) (λr1 gh2=>unI .i64 r1 λn3=>(gd (decide ((n3:Int)≠0)) (some (.ret,⟨[(14,(.int .i64 (Int.tmod (WI.wrap (n3-(A:Int))) n3)))],[],gh2⟩)))):=rfl
theorem B3 (W A B C N W0 W1 W2:Nat) (gh:List GObj):qc pg 6 W A B C N W0 W1 W2 gh=callR gh true (ac pg 27 [I W] gh) (λr1 gh2=>unI .i64 r1 λn3=>(callR gh2 true (ac pg 67 [(.int .i64 (A:Int)),(.int .i64 (B:Int)),(.int .i64 (W:Int)),(.agg [(.int .i64 0),(.int .i64 0),(.int .i64 0),(.int .i64 1)])] gh2) λr4 gh5=>unI .i64 r4 λn6=>some (.ret,⟨[(14,(.int .i64 n6))],[],gh5⟩))):=rfl
theorem B4 (W A B C N W0 W1 W2:Nat) (gh:List GObj):qc pg 7 W A B C N W0 W1 W2 gh=callR gh true (ac pg 27 [I W] gh) (λr1 gh2=>unI .i64 r1 λn3=>(callR gh2 true (ac pg 67 [(.int .i64 (A:Int)),(.int .i64 (B:Int)),(.int .i64 (W:Int)),(.agg [(.int .i64 0),(.int .i64 1),(.int .i64 1),(.int .i64 1)])] gh2) λr7 gh8=>unI .i64 r7 λn9=>some (.ret,⟨[(14,(.int .i64 n9))],[],gh8⟩))):=rfl
theorem B5 (W A B C N W0 W1 W2:Nat) (gh:List GObj):qc pg 8 W A B C N W0 W1 W2 gh=callR gh true (ac pg 27 [I W] gh) (λr1 gh2=>unI .i64 r1 λn3=>(callR gh2 true (ac pg 67 [(.int .i64 (A:Int)),(.int .i64 (B:Int)),(.int .i64 (W:Int)),(.agg [(.int .i64 0),(.int .i64 1),(.int .i64 1),(.int .i64 0)])] gh2) λr10 gh11=>unI .i64 r10 λn12=>some (.ret,⟨[(14,(.int .i64 n12))],[],gh11⟩))):=rfl
theorem B6 (W A B C N W0 W1 W2:Nat) (gh:List GObj):qc pg 9 W A B C N W0 W1 W2 gh=callR gh true (ac pg 27 [I W] gh) (λr1 gh2=>unI .i64 r1 λn3=>(gd (decide ((n3:Int)≠0)) (some (.ret,⟨[(14,(.int .i64 (Int.tmod (WI.wrap ((A:Int)+(B:Int))) n3)))],[],gh2⟩)))):=rfl
theorem B7 (W A B C N W0 W1 W2:Nat) (gh:List GObj):qc pg 10 W A B C N W0 W1 W2 gh=callR gh true (ac pg 27 [I W] gh) (λr1 gh2=>unI .i64 r1 λn3=>(gd (decide ((n3:Int)≠0)) (some (.ret,⟨[(14,(.int .i64 (Int.tmod (WI.wrap ((WI.wrap ((A:Int)+n3))-(B:Int))) n3)))],[],gh2⟩)))):=rfl
theorem B8 (W A B C N W0 W1 W2:Nat) (gh:List GObj):qc pg 11 W A B C N W0 W1 W2 gh=callR gh true (ac pg 27 [I W] gh) (λr1 gh2=>unI .i64 r1 λn3=>(gd (decide ((n3:Int)≠0)) (some (.ret,⟨[(14,(.int .i64 (Int.tmod (WI.wrap ((A:Int)*(B:Int))) n3)))],[],gh2⟩)))):=rfl
theorem B9 (W A B C N W0 W1 W2:Nat) (gh:List GObj):qc pg 12 W A B C N W0 W1 W2 gh=callR gh true (ac pg 27 [I W] gh) (λr1 gh2=>unI .i64 r1 λn3=>(br 79 ((B:Int)==0) (some (.ret,⟨[(14,(.int .i64 (WI.wrap (n3-1))))],[],gh2⟩)) (gd (decide (((B:Int):Int)≠0)) (some (.ret,⟨[(14,(.int .i64 (WI.wrap (Int.tdiv (A:Int) (B:Int)))))],[],gh2⟩))))):=rfl
theorem Ca (W A B C N W0 W1 W2:Nat) (gh:List GObj):qc pg 13 W A B C N W0 W1 W2 gh=callR gh true (ac pg 27 [I W] gh) (λr1 gh2=>unI .i64 r1 λn3=>(br 88 ((B:Int)==0) (some (.ret,⟨[(14,(.int .i64 (A:Int)))],[],gh2⟩)) (gd (decide (((B:Int):Int)≠0)) (some (.ret,⟨[(14,(.int .i64 (Int.tmod (A:Int) (B:Int))))],[],gh2⟩))))):=rfl
theorem Cb (W A B C N W0 W1 W2:Nat) (gh:List GObj):qc pg 14 W A B C N W0 W1 W2 gh=callR gh true (ac pg 27 [I W] gh) (λr1 gh2=>unI .i64 r1 λn3=>(br 97 (decide ((W:Int)<=(B:Int))) (some (.ret,⟨[(14,(.int .i64 0))],[],gh2⟩)) (callR gh2 true (ac pg 27 [(.int .i64 (B:Int))] gh2) λr13 gh14=>unI .i64 r13 λn15=>gd (decide ((n3:Int)≠0)) (some (.ret,⟨[(14,(.int .i64 (Int.tmod (WI.wrap ((A:Int)*n15)) n3)))],[],gh14⟩))))):=rfl
theorem Cc (W A B C N W0 W1 W2:Nat) (gh:List GObj):qc pg 15 W A B C N W0 W1 W2 gh=callR gh true (ac pg 27 [I W] gh) (λr1 gh2=>unI .i64 r1 λn3=>(br 108 (decide ((W:Int)<=(B:Int))) (some (.ret,⟨[(14,(.int .i64 0))],[],gh2⟩)) (callR gh2 true (ac pg 27 [(.int .i64 (B:Int))] gh2) λr16 gh17=>unI .i64 r16 λn18=>gd (decide ((n18:Int)≠0)) (some (.ret,⟨[(14,(.int .i64 (WI.wrap (Int.tdiv (A:Int) n18))))],[],gh17⟩))))):=rfl
theorem Cd (W A B C N W0 W1 W2:Nat) (gh:List GObj):qc pg 16 W A B C N W0 W1 W2 gh=callR gh true (ac pg 27 [I W] gh) (λr1 gh2=>unI .i64 r1 λn3=>(callR gh2 true (ac pg 68 [(.bool ((A:Int)==(B:Int)))] gh2) λr19 gh20=>unI .i64 r19 λn21=>some (.ret,⟨[(14,(.int .i64 n21))],[],gh20⟩))):=rfl
theorem Cf (W A B C N W0 W1 W2:Nat) (gh:List GObj):qc pg 17 W A B C N W0 W1 W2 gh=callR gh true (ac pg 27 [I W] gh) (λr1 gh2=>unI .i64 r1 λn3=>(callR gh2 true (ac pg 68 [(.bool (decide ((A:Int)<(B:Int))))] gh2) λr22 gh23=>unI .i64 r22 λn24=>some (.ret,⟨[(14,(.int .i64 n24))],[],gh23⟩))):=rfl
theorem Cg (W A B C N W0 W1 W2:Nat) (gh:List GObj):qc pg 18 W A B C N W0 W1 W2 gh=callR gh true (ac pg 27 [I W] gh) (λr1 gh2=>unI .i64 r1 λn3=>(callR gh2 true (ac pg 69 [(.int .i64 (A:Int)),(.int .i64 (W0:Int))] gh2) λr25 gh26=>unI .i64 r25 λn27=>callR gh26 true (ac pg 69 [(.int .i64 (B:Int)),(.int .i64 (W1:Int))] gh26) λr28 gh29=>unI .i64 r28 λn30=>callR gh29 true (ac pg 68 [(.bool (decide (n27<n30)))] gh29) λr31 gh32=>unI .i64 r31 λn33=>some (.ret,⟨[(14,(.int .i64 n33))],[],gh32⟩))):=rfl
theorem Ch (W A B C N W0 W1 W2:Nat) (gh:List GObj):qc pg 19 W A B C N W0 W1 W2 gh=callR gh true (ac pg 27 [I W] gh) (λr1 gh2=>unI .i64 r1 λn3=>(br 140 ((A:Int)==1) (some (.ret,⟨[(14,(.int .i64 (B:Int)))],[],gh2⟩)) (some (.ret,⟨[(14,(.int .i64 (C:Int)))],[],gh2⟩)))):=rfl
theorem Ci (W A B C N W0 W1 W2:Nat) (gh:List GObj):qc pg 20 W A B C N W0 W1 W2 gh=callR gh true (ac pg 27 [I W] gh) (λr1 gh2=>unI .i64 r1 λn3=>(callR gh2 true (ac pg 27 [(.int .i64 (W1:Int))] gh2) λr34 gh35=>unI .i64 r34 λn36=>some (.ret,⟨[(14,(.int .i64 (WI.wrap ((WI.wrap ((A:Int)*n36))+(B:Int)))))],[],gh35⟩))):=rfl
theorem Cj (W A B C N W0 W1 W2:Nat) (gh:List GObj):qc pg 21 W A B C N W0 W1 W2 gh=callR gh true (ac pg 27 [I W] gh) (λr1 gh2=>unI .i64 r1 λn3=>(callR gh2 true (ac pg 27 [(.int .i64 (N:Int))] gh2) λr37 gh38=>unI .i64 r37 λn39=>gd (decide ((n39:Int)≠0)) (gd (decide ((n3:Int)≠0)) (some (.ret,⟨[(14,(.int .i64 (Int.tmod (WI.wrap (Int.tdiv (A:Int) n39)) n3)))],[],gh38⟩))))):=rfl
theorem Ck (W A B C N W0 W1 W2:Nat) (gh:List GObj):qc pg 23 W A B C N W0 W1 W2 gh=callR gh true (ac pg 27 [I W] gh) (λr1 gh2=>unI .i64 r1 λn3=>(callR gh2 true (ac pg 69 [(.int .i64 (A:Int)),(.int .i64 (W0:Int))] gh2) λr40 gh41=>unI .i64 r40 λn42=>gd (decide ((n3:Int)≠0)) (some (.ret,⟨[(14,(.int .i64 (Int.tmod (WI.wrap (n42+n3)) n3)))],[],gh41⟩)))):=rfl
theorem Cl (W A B C N W0 W1 W2:Nat) (gh:List GObj):qc pg 22 W A B C N W0 W1 W2 gh=callR gh true (ac pg 27 [I W] gh) (λr1 gh2=>unI .i64 r1 λn3=>some (.ret,⟨[(14,(.int .i64 (A:Int)))],[],gh2⟩)):=rfl
theorem tU (k a b c n w0 w1:Int) {W:Nat} (hW:W<=8):ij k W a b c n w0 w1=ch k a b c n w0 w1%((2^W:Nat):Int):=by unfold ij;rw[tg hW,tf _ hW,iM]
theorem jp (x:Int) (p:Nat) (h:0<=x):Int.tmod x (p:Int)=x%(p:Int):=Int.tmod_eq_emod_of_nonneg h
theorem Cm {W A:Nat} (hW:1<=W/\W<=8) (hA:A<2^W):WI.wrap (WI.wrap (((2^W:Nat):Int)-1)-(A:Int))=jN .i64 A%((2^W:Nat):Int):=by have h1:=ef hW.2;rw[Bb (by omega),az (n:=((2^W:Nat):Int)-1) (by omega) (by omega),az (by omega) (by omega)];rcases kN hW with rfl|rfl|rfl|rfl|rfl|rfl|rfl|rfl<;>simp at hA ⊢ <;>omega
theorem Cn {W A:Nat} (hW:1<=W/\W<=8) (hA:A<2^W):Int.tmod (WI.wrap (((2^W:Nat):Int)-(A:Int))) ((2^W:Nat):Int)=WI.wrap (0-(A:Int))%((2^W:Nat):Int):=by have h1:=ef hW.2;rw[az (by omega) (by omega),az (by omega) (by omega),jp _ _ (by omega)];rcases kN hW with rfl|rfl|rfl|rfl|rfl|rfl|rfl|rfl<;>simp at hA ⊢ <;>omega
theorem Co {W A B:Nat} (hW:1<=W/\W<=8) (hA:A<2^W) (hB:B<2^W):Int.tmod (WI.wrap ((A:Int)+B)) ((2^W:Nat):Int)=WI.wrap ((A:Int)+B)%((2^W:Nat):Int):=by have h1:=ef hW.2;rw[az (by omega) (by omega),jp _ _ (by omega)]
theorem Cp {W A B:Nat} (hW:1<=W/\W<=8) (hA:A<2^W) (hB:B<2^W):Int.tmod (WI.wrap (WI.wrap ((A:Int)+((2^W:Nat):Int))-B)) ((2^W:Nat):Int)=WI.wrap ((A:Int)-B)%((2^W:Nat):Int):=by have h1:=ef hW.2;rw[az (n:=(A:Int)+((2^W:Nat):Int)) (by omega) (by omega),az (by omega) (by omega),az (by omega) (by omega),jp _ _ (by omega)];rcases kN hW with rfl|rfl|rfl|rfl|rfl|rfl|rfl|rfl<;>simp at hA hB ⊢ <;>omega
theorem Cq {W A B:Nat} (hW:1<=W/\W<=8) (hA:A<2^W) (hB:B<2^W):Int.tmod (WI.wrap ((A:Int)*B)) ((2^W:Nat):Int)=WI.wrap ((A:Int)*B)%((2^W:Nat):Int):=by
 have h1:=ef hW.2;have h2:A*B<=256*256:=Nat.mul_le_mul (by omega) (by omega);have e:(A:Int)*B=((A*B:Nat):Int):=by simp
 rw[e,az (by omega) (by omega),jp _ _ (by omega)]
theorem iO {W:Nat} {x:Int} (h0:0<=x) (h:x<((2^W:Nat):Int)):x%((2^W:Nat):Int)=x:=Int.emod_eq_of_lt h0 h
theorem Cr {W:Nat} (hW:1<=W/\W<=8):WI.wrap (((2^W:Nat):Int)-1)=(-1)%((2^W:Nat):Int):=by rcases kN hW with rfl|rfl|rfl|rfl|rfl|rfl|rfl|rfl<;>decide
theorem Cs {W A B:Nat} (hW:1<=W/\W<=8) (hA:A<2^W):WI.wrap (Int.tdiv (A:Int) B)=WI.wrap (Int.tdiv (A:Int) B)%((2^W:Nat):Int):=by have h1:=ef hW.2;have e0:Int.tdiv (A:Int) (B:Int)=((A/B:Nat):Int):=(Int.ofNat_tdiv _ _).symm;have h2:A/B<=A:=Nat.div_le_self _ _;rw[e0];generalize A/B=q at h2;rw[az (by omega) (by omega),iO (by omega) (by omega)]
theorem Ct {W A B:Nat} (hA:A<2^W):Int.tmod (A:Int) B=Int.tmod (A:Int) B%((2^W:Nat):Int):=by have e0:Int.tmod (A:Int) (B:Int)=((A%B:Nat):Int):=(Int.ofNat_tmod _ _).symm;have h2:A%B<=A:=Nat.mod_le _ _;rw[e0];generalize A%B=q at h2;rw[iO (by omega) (by omega)]
theorem Cu {W A B:Nat} (hW:1<=W/\W<=8) (hA:A<2^W) (hB:B<W):Int.tmod (WI.wrap ((A:Int)*((2^B:Nat):Int))) ((2^W:Nat):Int)=cT .i64 A B%((2^W:Nat):Int):=by have h1:=ef hW.2;have h2:=ef (show B<=8 by omega);have h3:A*2^B<=256*256:=Nat.mul_le_mul (by omega) h2;rw[th (by omega) (by omega),<-Int.natCast_mul];generalize A*2^B=q at h3;rw[az (by omega) (by omega),jp _ _ (by omega)]
theorem Cv {W A B:Nat} (hW:1<=W/\W<=8) (hA:A<2^W):WI.wrap (Int.tdiv (A:Int) ((2^B:Nat):Int))=eW .i64 A B%((2^W:Nat):Int):=by have h1:=ef hW.2;have h2:A/2^B<=A:=Nat.div_le_self _ _;have e0:Int.tdiv (A:Int) ((2^B:Nat):Int)=((A/2^B:Nat):Int):=(Int.ofNat_tdiv _ _).symm;rw[mf _ _ (by omega),e0];generalize A/2^B=q at h2;rw[az (by omega) (by omega),iO (by omega) (by omega)]
theorem Cw {W A B:Nat} (hA:A<2^W) (hW:W<=8) (hB:W<=B):eW .i64 A B%((2^W:Nat):Int)=0:=by have h1:=ef hW;rw[mf _ _ (by omega),Nat.div_eq_of_lt (aS hA (bN (by decide) hB))];simp
theorem Cx {A B W0 W1:Nat} (hA:A<2^W0) (hB:B<2^W1) (h0:W0+W1<=8):WI.wrap (WI.wrap ((A:Int)*((2^W1:Nat):Int))+B)=iOr .i64 (cT .i64 A W1) B%((2^(W0+W1):Nat):Int):=by
 have h1:=ef (show W1<=8 by omega);have h2:=ef (show W0<=8 by omega);have h3:=ef h0;have h4:(A+1)*2^W1<=2^W0*2^W1:=cO _ hA;rw[<-Nat.pow_add,Nat.succ_mul] at h4;rw[th (by omega) (by omega),oh (by omega) (by omega),<-Int.natCast_mul];have e:A*2^W1 |||B=A*2^W1+B:=by rw[Nat.mul_comm,Nat.two_pow_add_eq_or_of_lt hB]
 rw[e];generalize A*2^W1=q at h4;rw[az (n:=(q:Int)) (by omega) (by omega),az (by omega) (by omega),iO (by omega) (by omega)];omega
theorem Cy {W A N:Nat} (hW:1<=W/\W<=8) (hA:A<256):Int.tmod (WI.wrap (Int.tdiv (A:Int) ((2^N:Nat):Int))) ((2^W:Nat):Int)=eW .i64 A N%((2^W:Nat):Int):=by have h2:A/2^N<=A:=Nat.div_le_self _ _;have e0:Int.tdiv (A:Int) ((2^N:Nat):Int)=((A/2^N:Nat):Int):=(Int.ofNat_tdiv _ _).symm;rw[mf _ _ (by omega),e0];generalize A/2^N=q at h2;rw[az (by omega) (by omega),jp _ _ (by omega)]
theorem Cz {W A W0:Nat} (hW:1<=W/\W<=8) (h0:1<=W0/\W0<=W) (hA:A<2^W0):Int.tmod (WI.wrap (ek A W0+((2^W:Nat):Int))) ((2^W:Nat):Int)=ek A W0%((2^W:Nat):Int):=by have h1:=ef hW.2;have h2:2^W0<=2^W:=bN (by decide) h0.2;rw[tj (by omega) hA];split<;>rw[az (by omega) (by omega),jp _ _ (by omega),Int.add_emod_right]
theorem pb (W:Nat):(((2^W:Nat):Int)≠0):=by have:=Nat.one_le_two_pow (n:=W);omega
theorem CA {k:Int} {W A B C N W0 W1 W2:Nat} {gh:List GObj} {s:Int} (hk:4<=k/\k<24) (hs:eI k=some s) (hf:dq s W N W0 W1 W2=true) (hW:1<=W/\W<=8) (h0:1<=W0/\W0<=8) (h1:1<ba k->1<=W1/\W1<=8)
  (hA:A<2^W0) (hB:1<ba k->B<2^W1) (hC:2<ba k->C<2^W2) :
  qc pg k W A B C N W0 W1 W2 gh=some (.ret,⟨[(14,I (ij k W A B C N W0 W1))],[],gh⟩):=by
 rw[tU _ _ _ _ _ _ _ hW.2];have hT:=ff (show W<=61 by omega) gh;have hz:=pb W;have hzd:decide (((2^W:Nat):Int)≠0)=true:=aG hz;have hp:=ef hW.2;have hp0:=ef h0.2;have:k=4\/k=5\/k=6\/k=7\/k=8\/k=9\/k=10\/k=11\/k=12\/k=13\/k=14\/k=15\/k=16\/k=17\/k=18\/k=19\/k=20\/k=21\/k=22\/k=23:=by omega
 rcases this with rfl|rfl|rfl|rfl|rfl|rfl|rfl|rfl|rfl|rfl|rfl|rfl|rfl|rfl|rfl|rfl|rfl|rfl|rfl|rfl
 all_goals cases hs
 all_goals simp[dq] at hf
 ·rw[BZ,hT,cz,cy]
  obtain rfl:W0=W:=by omega
  rw[Cm hW hA];rfl
 ·rw[B2,hT,cz,cy,hzd]
  obtain rfl:W0=W:=by omega
  rw[Cn hW hA];rfl
 ·obtain⟨-,e0,e1⟩:=hf
  obtain rfl:W0=W:=by omega
  obtain rfl:W1=W0:=by omega
  have hB:=hB (by decide);rw[B3,hT,cz,cy,oo 0 0 0 1 (by omega) (by omega) hW.2 (Bh A B),cz,cy];rw[show ch 6 A B C N W1 W1=fS .i64 A B from rfl,A8 (by omega) (by omega),Int.natCast_emod]
 ·obtain⟨-,e0,e1⟩:=hf
  obtain rfl:W0=W:=by omega
  obtain rfl:W1=W0:=by omega
  have hB:=hB (by decide);rw[B4,hT,cz,cy,oo 0 1 1 1 (by omega) (by omega) hW.2 (Bi A B),cz,cy];rw[show ch 7 A B C N W1 W1=iOr .i64 A B from rfl,oh (by omega) (by omega),Int.natCast_emod]
 ·obtain⟨-,e0,e1⟩:=hf
  obtain rfl:W0=W:=by omega
  obtain rfl:W1=W0:=by omega
  have hB:=hB (by decide);rw[B5,hT,cz,cy,oo 0 1 1 0 (by omega) (by omega) hW.2 (Bj A B),cz,cy];rw[show ch 8 A B C N W1 W1=jg .i64 A B from rfl,A9 (by omega) (by omega),Int.natCast_emod]
 ·obtain⟨-,e0,e1⟩:=hf
  obtain rfl:W0=W:=by omega
  obtain rfl:W1=W0:=by omega
  rw[B6,hT,cz,cy,hzd,Co hW hA (hB (by decide))];rfl
 ·obtain⟨-,e0,e1⟩:=hf
  obtain rfl:W0=W:=by omega
  obtain rfl:W1=W0:=by omega
  rw[B7,hT,cz,cy,hzd,Cp hW hA (hB (by decide))];rfl
 ·obtain⟨-,e0,e1⟩:=hf
  obtain rfl:W0=W:=by omega
  obtain rfl:W1=W0:=by omega
  rw[B8,hT,cz,cy,hzd,Cq hW hA (hB (by decide))];rfl
 ·obtain⟨-,e0,e1⟩:=hf
  obtain rfl:W0=W:=by omega
  obtain rfl:W1=W0:=by omega
  rw[B9,hT,cz,cy];by_cases hb:B=0
  ·subst hb
   rw[Cr hW];rfl
  ·rw[show ch 12 A B C N W1 W1=if (B:Int)=0 then -1 else WI.wrap (Int.tdiv A B) from rfl,if_neg (by omega),<-Cs hW hA]
   simp[hb]
 ·obtain⟨-,e0,e1⟩:=hf
  obtain rfl:W0=W:=by omega
  obtain rfl:W1=W0:=by omega
  rw[Ca,hT,cz,cy];by_cases hb:B=0
  ·subst hb
   rw[show ch 13 A ((0:Nat):Int) C N W1 W1=A from rfl,iO (by omega) (by omega)];rfl
  ·rw[show ch 13 A B C N W1 W1=if (B:Int)=0 then (A:Int) else Int.tmod A B from rfl,if_neg (by omega),<-Ct hA]
   simp[hb]
 ·obtain⟨-,e0,e1⟩:=hf
  obtain rfl:W0=W:=by omega
  obtain rfl:W1=W0:=by omega
  rw[Cb,hT,cz,cy,show ch 14 A B C N W1 W1=cT .i64 A B from rfl];by_cases hb:W1<=B
  ·rw[aG (by omega),iM,Bd hW.2 hb];rfl
  ·rw[aF (by omega),dK,ff (by omega),cz,cy,hzd,Cu hW hA (by omega)];rfl
 ·obtain⟨-,e0,e1⟩:=hf
  obtain rfl:W0=W:=by omega
  obtain rfl:W1=W0:=by omega
  rw[Cc,hT,cz,cy,show ch 15 A B C N W1 W1=eW .i64 A B from rfl];by_cases hb:W1<=B
  ·rw[aG (by omega),Cw hA hW.2 hb];rfl
  ·rw[aF (by omega),dK,ff (by omega),cz,cy,aG (pb B),Cv hW hA];rfl
 ·obtain⟨-,e0,e1⟩:=hf
  obtain rfl:W=1:=by omega
  rw[Cd,hT,cz,cy,oj,cz,cy,show ch 16 A B C N W0 W1=if (A:Int)=B then 1 else 0 from rfl];by_cases h:(A:Int)=B<;>simp[h]
 ·obtain⟨-,e0,e1⟩:=hf
  obtain rfl:W=1:=by omega
  rw[Cf,hT,cz,cy,oj,cz,cy,show ch 17 A B C N W0 W1=if (A:Int)<B then 1 else 0 from rfl];by_cases h:(A:Int)<B
  ·rw[aG h];simp[h]
  ·rw[aF h];simp[h]
 ·obtain⟨-,e0,e1⟩:=hf
  obtain rfl:W=1:=by omega
  rw[Cg,hT,cz,cy,om h0 hA,cz,cy,om (h1 (by decide)) (hB (by decide)),cz,cy,oj,cz,cy,show ch 18 A B C N W0 W1=if ek A W0<ek B W1 then 1 else 0 from rfl];by_cases h:ek A W0<ek B W1
  ·rw[aG h];simp[h]
  ·rw[aF h];simp[h]
 ·obtain⟨-,e0,e1,e2⟩:=hf
  obtain rfl:W1=W:=by omega
  obtain rfl:W2=W1:=by omega
  have hB:=hB (by decide);have hC:=hC (by decide);rw[Ch,hT,cz,cy,show ch 19 A B C N W0 W2=if (A:Int)=1 then (B:Int) else C from rfl];by_cases h:(A:Int)=1
  ·rw[if_pos h,iO (by omega) (by omega)];simp[h]
  ·rw[if_neg h,iO (by omega) (by omega)];simp[h]
 ·obtain⟨-,e0⟩:=hf
  have g1:=h1 (by decide);rw[az (by omega) (by omega)] at e0;obtain rfl:W=W0+W1:=by omega
  rw[Ci,hT,cz,cy,ff (by omega),cz,cy,Cx hA (hB (by decide)) hW.2];rfl
 ·rw[az (by omega) (by omega)] at hf
  rw[Cj,hT,cz,cy,ff (by omega),cz,cy,aG (pb N),hzd,Cy hW (by omega)];rfl
 ·obtain⟨-,e0⟩:=hf
  have h2:2^W0<=2^W:=bN (by decide) (by omega);rw[Cl,hT,cz,cy,show ch 22 A B C N W0 W1=A from rfl,iO (by omega) (by omega)]
 ·obtain⟨-,e0⟩:=hf
  rw[Ck,hT,cz,cy,om h0 hA,cz,cy,hzd,Cz hW (by omega) hA];rfl
end Go.Lw