/-
  The texts that the proof stands on, part 13.
-/
import Derived.Test.YtmodipglnngghabBlastTellsL
import Derived.Tactics
set_option linter.unusedVariables false
set_option linter.unusedSimpArgs false
set_option linter.unnecessarySimpa false

set_option maxRecDepth 100000
set_option maxHeartbeats 4000000
namespace Go.Lw
open Go
section
open Go.RowKit
section
variable {fi:FI} {M M':Mem} {w w':World} {P:Program} {s s':St} {a:Act} {cf:CallF}
def fO (P:Program) (fi:FI) (F:Nat) (vs:List PV) (gh:List GObj) (r:PV) (gh':List GObj):Prop:=
  ∀ (M:Mem) (w:World) (args:List Value),GI fi M w gh->M.lb=[]->(∀b l,M.own b=some l->∃i j,l= .gh i j)->args.length=vs.length->
    (∀(i:Nat) (p:PV) (v:Value),vs[i]?=some p->args[i]?=some v->RepP fi M w p v)->
    Calls P F args.toArray w λe w'=>∃v M',e= .returned v/\GI fi M' w' gh'/\M'.lb=[]/\ai r=true/\RepAt fi M' w' Loc.res r v/\Kp M w M' w'
def hJ (P:Program) (fi:FI) (cf:CallF):Prop:=
  ∀ f vs gh r gh' F,cf f vs gh=some (r,gh')->(∀p∈vs,ar p=true)->fi f=some F->
    (∃ fn c, P.funcs[F]? = some fn ∧ (fn.name == "runtime.NumGoroutine") = false ∧ fn.body = some c) ∧ fO P fi F vs gh r gh'
def db (P:Program) (fi:FI) (i:IOp) (op:Op):Bool:=
  match i,op with
  | .call _ _ f xs,.call {callee:= .value (.func F),args,.. }| .callP _ f xs _,.call {callee:= .value (.func F),args,.. }| .callR _ f xs _ _,.call {callee:= .value (.func F),args,.. }| .callF _ f xs,.call {callee:= .value (.func F),args,.. }=>fi f==some F&&mXs fi xs args.toList
  | .callv _ _ fv xs,.call {callee:= .value y,args,.. }| .callE _ fv xs,.call {callee:= .value y,args,.. }=>mX fi fv y&&mXs fi xs args.toList
  | .loadN d agg k x _,op=>mOp P fi (.load d agg k x) op
  | .loadL d x,op=>mOp P fi (.loadT d x) op
  | .appendE d bytes y x,op=>mOp P fi (.append d 1 bytes y x) op
  | .loadKB d x _,op=>mOp P fi (.load d false 1 x) op
  | .loadTB d x _ _,op=>mOp P fi (.loadT d x) op
  | .loadB d agg k x _,op=>mOp P fi (.load d agg k x) op
  | .loadJ d agg k x,op=>mOp P fi (.load d agg k x) op
  | .appendP d bytes y x _,op=>mOp P fi (.append d 1 bytes y x) op
  | .mkarr d z bytes zero l,op=>mOp P fi (.mksl d true z bytes zero l) op
  | .buildA d z ps,op=>mOp P fi (.buildT d z ps) op
  | .appendK d bytes y x,op=>mOp P fi (.append d 1 bytes y x) op
  | .appendN d bytes y x,op=>mOp P fi (.append d 1 bytes y x) op
  | .buildSlK d els,op=>mOp P fi (.buildSl d 1 els) op
  | .boxSl d z els,op=>mOp P fi (.buildSl d z els) op
  | .loadK d x,op=>mOp P fi (.load d false 1 x) op
  | .loadH d x,op=>mOp P fi (.load d false 1 x) op
  | .storeK y x,op=>mOp P fi (.store false 1 y x) op
  |i,op=>mOp P fi i op
theorem lJ {F : Nat} {fn : Func} {c : Code} (hf : P.funcs[F]? = some fn) (hn : (fn.name == "runtime.NumGoroutine") = false) (hb : fn.body = some c) (args : Array Value) (w : World) :
    (callFunc F args).run P w= .ok (.enter F args) w:=by
  have h1 : fn.name ≠ "runtime.NumGoroutine" := by simpa using hn
  simp[callFunc,hf,h1,hb]
theorem RepE.fnInv {f:Nat} {cs:List PV} {v:Value} (h:RepE fi M w (.fn f cs) v):∃F vs,fi f=some F/\v= .func (.func F) #[] (vs:List Value).toArray/\vs.length=cs.length/\cs.all ar=true/\
    ∀(i:Nat) (c:PV) (u:Value),cs[i]?=some c->vs[i]?=some u->RepP fi M w c u:=by
  cases (show RepP fi M w (.fn f cs) v from h) with
  |fn _ F _ vs hf hl h1 h2=>exact⟨F,vs,hf,rfl,hl,h1,h2⟩
theorem RepE.bfnInv {f:Nat} {cs:List PV} {v:Value} (h:RepE fi M w (.bfn f cs) v):∃F vs,fi f=some F/\v= .func (.func F) (vs:List Value).toArray #[]/\vs.length=cs.length/\cs.all ar=true/\
    ∀(i:Nat) (c:PV) (u:Value),cs[i]?=some c->vs[i]?=some u->RepP fi M w c u:=by
  cases (show RepP fi M w (.bfn f cs) v from h) with
  |bfn _ F _ vs hf hl h1 h2=>exact⟨F,vs,hf,rfl,hl,h1,h2⟩
theorem AY {g:Bool} {p:PV} {v:Value} (h:RepP fi M w p v) (hg:g=false->p.noG=true):RepP fi (M.callee g) w p v:=by
  cases hgb:g with
  |true=>subst hgb;exact h.mono (show Ext M w (M.callee true) w from⟨λ_ _ h=>h,λ_ _ h=>h,λ_ _ _=>rfl,λ_ _=>⟨cQ _,λ_=>rfl⟩⟩)
  | false=>
    subst hgb;exact (h.noG [] M.st (hg rfl)).mono (show Ext {M with gb:=[],st:=M.st } w (M.callee false) w from⟨λ_ _ h=>h,λ_ _ h=>h,λ_ _ _=>rfl,λ_ _=>⟨cQ _,λ_=>rfl⟩⟩)
def AZ:Option Nat->Nat->Loc
  |some d=>Loc.env d
  |none=>Loc.lim
theorem lK (hI:Inv fi M w s a) {o:Oper} {F:Nat} {args:List Value} {vs:List PV} {g:Bool} {r:PV} {gh':List GObj} (hrun:(execOp a.eval o).run P w= .ok (.enter F args.toArray) w)
    (hok:fO P fi F vs (if g then s.gh else []) r gh') (hl:args.length=vs.length) (hr:∀(i:Nat) (p:PV) (v:Value),vs[i]?=some p->args[i]?=some v->RepP fi M w p v) (hg:g=false->dL vs=true/\r.noG=true)
    (hlt:∀d,o.dst=some d->d<a.tmps.size) {next:Act->World->Prop} {Q:Exit->Act->World->Prop}
    (hn:∀a' M' w',Inv fi M' w' ⟨eu s.env o.dst r,s.lh,if g then gh' else s.gh⟩ a'->Kp M w M' w'->a'.tmps.size=a.tmps.size->next a' w'):o.wp P a w next Q:=by
  unfold Oper.wp;rw[hrun,Oper.upon_enter];obtain⟨c1,c2,c3⟩:=hI.callee g;refine Calls.mono (hok (M.callee g) w args c1 c2 c3 hl (λi p v hp hv=>AY (hr i p v hp hv) (λe=>gZ (hg e).1 hp))) ?_;rintro e w2 ⟨v,M2,rfl,hG,hlb,hrok,hrep,hk⟩;obtain⟨b1,b2,b3⟩:=hI.back g (AZ o.dst) (λi=>by cases o.dst<;>rfl) hG hlb hk hrep (λe=>(hg e).2) hrok;simp only;cases hd:o.dst with
  | none=>
    rw[hd] at b1 b2 b3 hn;exact hn _ _ _ b1 b2 rfl
  | some d=>
    rw[hd] at b1 b2 b3 hn;exact hn _ _ _ (b1.put (hlt d hd) b3) b2 (by simp[Act.put])
theorem Sim.wp {o:Oper} (h:Sim P fi o M w s' a) {next:Act->World->Prop} {Q:Exit->Act->World->Prop}
    (hn:∀a' M' w',Inv fi M' w' s' a'->Kp M w M' w'->a'.tmps.size=a.tmps.size->next a' w'):o.wp P a w next Q:=by
  obtain⟨n,v,M',w',h1,h2,h3,h4⟩:=h;unfold Oper.wp;rw[h1];have hs:(a.put o.dst v).tmps.size=a.tmps.size:=by cases o.dst<;>simp[Act.put]
  rcases h2 with rfl|⟨rfl,rfl⟩
  · exact hn _ _ _ h3 h4 hs
  · exact hn _ _ _ h3 h4 hs
theorem sim_load' {o:Oper} {d:Nat} {agg:Bool} {k:Nat} {x:IX} (A:dW P fi M w s a o (.load d agg k x)) (h:ae cf s (.load d agg k x)=some s'):Sim P fi o M w s' a:=sim_load A h
theorem uq (hcf:hJ P fi cf) (hI:Inv fi M w s a) {o:Oper} {d:Option Nat} {f F:Nat} {xs:List IX} {args:Array Operand} {ats:Array TypeId} (ho:o.op= .call ⟨.value (.func F),args,ats⟩) (hf:fi f=some F) (hxs:mXs fi xs args.toList=true)
    (hd:o.dst=d) (hlt':∀d,o.dst=some d->d<a.tmps.size) {vs:List PV} (hvs:cZ s.env xs=some vs) (h:dV cf s d false f vs=some s')
    {next:Act->World->Prop} {Q:Exit->Act->World->Prop} (hn:∀a' M' w',Inv fi M' w' s' a'->Kp M w M' w'->a'.tmps.size=a.tmps.size->next a' w'):o.wp P a w next Q:=by
  obtain⟨dst,op,ty,pos,aft,gd⟩:=o;simp only at ho;subst ho;unfold dV at h;split at h
  · rename_i hall
    simp only[bS] at hall;obtain⟨e1,e2⟩:=iy hI hxs hvs;cases hc:cf f vs s.gh with
    |none=>simp[hc] at h
    | some rg=>
      obtain⟨r,gh'⟩:=rg;simp only[hc] at h;obtain⟨⟨fn,cd,hfn,hnm,hbd⟩,hok⟩:=hcf f vs s.gh r gh' F hc hall hf;have hs':s'=⟨eu s.env d r,s.lh,gh'⟩:=by simp at h;exact h.symm
      subst hs';refine lK (g:=true) (args:=args.toList.map a.eval) (vs:=vs) (F:=F) (r:=r) (gh':=gh') hI ?_ hok (by simpa using e1) (λi p v hp hv=>?_) (by simp) hlt' ?_
      · have hcap:args.map a.eval=(List.map a.eval args.toList).toArray:=by apply Array.ext';simp
        have hev:a.eval (.func F)= .func (.func F) #[] #[]:=rfl;simp[execOp,resolve,Deferred.ofValue,invoke,hev,hcap,lJ hfn hnm hbd]
      · simp only[aB,aE] at hv
        obtain⟨y,hy,rfl⟩:=hv;refine (e2 i p y hp hy).repP ?_;exact hall p (aP hp)
      · rw[show dst=d from hd];exact hn
  · cases h
theorem ur (hcf :hJ P fi cf) (hI:Inv fi M w s a) {o:Oper} {i:IOp} (hm:db P fi i o.op=true) (hd:o.dst=cg i) (hlt:∀d,cg i=some d->d<a.tmps.size) (h:ae cf s i=some s')
    {next:Act->World->Prop} {Q:Exit->Act->World->Prop} (hn:∀a' M' w',Inv fi M' w' s' a'->Kp M w M' w'->a'.tmps.size=a.tmps.size->next a' w'):o.wp P a w next Q:=by
  have hlt':∀d,o.dst=some d->d<a.tmps.size:=λd h=>hlt d (by rw[<-hd];exact h)
  cases i with
  | call d q f xs=>
    obtain⟨dst,op,ty,pos,aft,gd⟩:=o;cases op<;>simp[db,mOp] at hm;rename_i c;obtain⟨callee,args,ats⟩:=c;cases callee with
    | value y =>
      cases y<;>simp at hm;rename_i F;obtain⟨hf,hxs⟩:=hm;simp only[ae,aC] at h;obtain⟨vs,hvs,h⟩:=h;unfold dV at h;split at h
      · rename_i hall
        simp only[bS] at hall;obtain⟨e1,e2⟩:=iy hI hxs hvs;cases hc:cf f vs s.gh with
        |none=>simp[hc] at h
        | some rg=>
          obtain⟨r,gh'⟩:=rg;simp only[hc] at h;obtain⟨⟨fn,cd,hfn,hnm,hbd⟩,hok⟩:=hcf f vs s.gh r gh' F hc hall hf;have hs':s'=⟨eu s.env d r,s.lh,gh'⟩:=by
            split at h
            · split at h
              · rename_i he;cases h;rw[he]
              · cases h
            · cases h;rfl
          subst hs';refine lK (g:=true) (args:=args.toList.map a.eval) (vs:=vs) (F:=F) (r:=r) (gh':=gh') hI ?_ hok (by simpa using e1) (λi p v hp hv=>?_) (by simp) hlt' ?_
          · have hcap:args.map a.eval=(List.map a.eval args.toList).toArray:=by apply Array.ext';simp
            have hev:a.eval (.func F)= .func (.func F) #[] #[]:=rfl;simp[execOp,resolve,Deferred.ofValue,invoke,hev,hcap,lJ hfn hnm hbd]
          · simp only[aB,aE] at hv
            obtain⟨y,hy,rfl⟩:=hv;refine (e2 i p y hp hy).repP ?_;exact hall p (aP hp)
          · rw[show dst=d from hd];exact hn
      · cases h
    |_=>simp at hm
  | callv d q fv xs=>
    obtain⟨dst,op,ty,pos,aft,gd⟩:=o;cases op<;>simp[db,mOp] at hm;rename_i c;obtain⟨callee,args,ats⟩:=c;cases callee with
    | value y =>
      simp at hm;obtain⟨hfv,hxs⟩:=hm;simp only[ae] at h;split at h
      · rename_i f caps hcl
        simp only[aC] at h;obtain⟨vs,hvs,h⟩:=h;obtain⟨F,us,hf,hv,hul,hcok,hur⟩:=(cj hI hfv hcl).fnInv;unfold dV at h;split at h
        · rename_i hall
          simp only[bS] at hall;obtain⟨e1,e2⟩:=iy hI hxs hvs;cases hc:cf f (vs++caps) s.gh with
          |none=>simp[hc] at h
          | some rg=>
            obtain⟨r,gh'⟩:=rg;simp only[hc] at h;obtain⟨⟨fn,cd,hfn,hnm,hbd⟩,hok⟩:=hcf f (vs++caps) s.gh r gh' F hc hall hf;have hs':s'=⟨eu s.env d r,s.lh,gh'⟩:=by
              split at h
              · split at h
                · rename_i he;cases h;rw[he]
                · cases h
              · cases h;rfl
            subst hs';have hvl:(args.toList.map a.eval).length=vs.length:=by simpa using e1
            refine lK (g:=true) (args:=args.toList.map a.eval++us) (vs:=vs++caps) (F:=F) (r:=r) (gh':=gh') hI ?_ hok (by simp only[aW];omega) (λi p v hp hv=>?_) (by simp) hlt' ?_
            · have hcap:args.map a.eval=(List.map a.eval args.toList).toArray:=by apply Array.ext';simp
              simp[execOp,resolve,Deferred.ofValue,invoke,hv,hcap,lJ hfn hnm hbd]
            · by_cases hi:i<vs.length
              · rw[aJ hi] at hp
                rw[aJ (by omega)] at hv;simp only[aB,aE] at hv;obtain⟨y,hy,rfl⟩:=hv;exact (e2 i p y hp hy).repP (hall p (bD _ (aP hp)))
              · rw[aR (by omega)] at hp
                rw[aR (by omega),hvl] at hv;exact hur _ p v hp hv
            · rw[show dst=d from hd];exact hn
        · cases h
      · rename_i f caps hcl
        simp only[aC] at h;obtain⟨vs,hvs,h⟩:=h;obtain⟨F,us,hf,hv,hul,hcok,hur⟩:=(cj hI hfv hcl).bfnInv;unfold dV at h;split at h
        · rename_i hall
          simp only[bS] at hall;obtain⟨e1,e2⟩:=iy hI hxs hvs;cases hc:cf f (caps++vs) s.gh with
          |none=>simp[hc] at h
          | some rg=>
            obtain⟨r,gh'⟩:=rg;simp only[hc] at h;obtain⟨⟨fn,cd,hfn,hnm,hbd⟩,hok⟩:=hcf f (caps++vs) s.gh r gh' F hc hall hf;have hs':s'=⟨eu s.env d r,s.lh,gh'⟩:=by
              split at h
              · split at h
                · rename_i he;cases h;rw[he]
                · cases h
              · cases h;rfl
            subst hs';have hvl:(args.toList.map a.eval).length=vs.length:=by simpa using e1
            refine lK (g:=true) (args:=us++args.toList.map a.eval) (vs:=caps++vs) (F:=F) (r:=r) (gh':=gh') hI ?_ hok (by simp only[aW];omega) (λi p v hp hv=>?_) (by simp) hlt' ?_
            · have hcap:args.map a.eval=(List.map a.eval args.toList).toArray:=by apply Array.ext';simp
              simp[execOp,resolve,Deferred.ofValue,invoke,hv,hcap,lJ hfn hnm hbd]
            · by_cases hi:i<caps.length
              · rw[aJ hi] at hp
                rw[aJ (by omega)] at hv;exact hur _ p v hp hv
              · rw[aR (by omega)] at hp
                rw[aR (by omega),hul] at hv;simp only[aB,aE] at hv;obtain⟨y,hy,rfl⟩:=hv;exact (e2 _ p y hp hy).repP (hall p (bE _ (aP hp)))
            · rw[show dst=d from hd];exact hn
        · cases h
      · cases h
    |_=>simp at hm
  |callE=>simp[ae] at h
  | callF d f xs=>
    obtain⟨dst,op,ty,pos,aft,gd⟩:=o;cases op<;>simp[db,mOp] at hm;rename_i c;obtain⟨callee,args,ats⟩:=c;cases callee with
    | value y =>
      cases y<;>simp at hm;rename_i F;obtain⟨hf,hxs⟩:=hm;simp only[ae,aC] at h;obtain⟨vs,hvs,h⟩:=h;unfold ix at h;split at h
      · rename_i hall
        obtain⟨hall,hng⟩:=hall;simp only[bS] at hall;obtain⟨e1,e2⟩:=iy hI hxs hvs;split at h
        · rename_i r hc
          split at h
          · rename_i hrg
            cases h;obtain⟨⟨fn,cd,hfn,hnm,hbd⟩,hok⟩:=hcf f vs [] r [] F hc hall hf;refine lK (g:=false) (args:=args.toList.map a.eval) (vs:=vs) (F:=F) (r:=r) (gh':=[]) hI ?_ hok (by simpa using e1) (λi p v hp hv=>?_) (λ_=>⟨hng,hrg⟩) hlt' ?_
            · have hcap:args.map a.eval=(List.map a.eval args.toList).toArray:=by apply Array.ext';simp
              have hev:a.eval (.func F)= .func (.func F) #[] #[]:=rfl;simp[execOp,resolve,Deferred.ofValue,invoke,hev,hcap,lJ hfn hnm hbd]
            · simp only[aB,aE] at hv
              obtain⟨y,hy,rfl⟩:=hv;refine (e2 i p y hp hy).repP ?_;exact hall p (aP hp)
            · rw[show dst=d from hd];exact hn
          · cases h
        · cases h
      · cases h
    |_=>simp at hm
  | callP d f xs ns=>
    obtain⟨dst,op,ty,pos,aft,gd⟩:=o;cases op<;>simp[db,mOp] at hm;rename_i c;obtain⟨callee,args,ats⟩:=c;cases callee with
    | value y=>
      cases y<;>simp at hm;rename_i F;simp only[ae,aC] at h;obtain⟨vs,hvs,s1,h1,h2⟩:=h;split at h2
      · cases h2
        exact uq hcf hI rfl hm.1 hm.2 hd hlt' hvs h1 hn
      · cases h2
    |_=>simp at hm
  | callR d f xs n o2=>
    obtain⟨dst,op,ty,pos,aft,gd⟩:=o;cases op<;>simp[db,mOp] at hm;rename_i c;obtain⟨callee,args,ats⟩:=c;cases callee with
    | value y=>
      cases y<;>simp at hm;rename_i F;simp only[ae,aC] at h;obtain⟨vs,hvs,h⟩:=h;split at h
      · unfold fX at h
        simp only[aC] at h;obtain⟨s1,h1,_,_,_,_,_,_,_,_,h2⟩:=h;split at h2
        · cases h2
          exact uq hcf hI rfl hm.1 hm.2 hd hlt' hvs h1 hn
        · cases h2
      · cases h
    |_=>simp at hm
  |appendE=>exact (AX (cf:=cf) hI (by simpa [db] using hm) hd (hlt _ rfl) h).wp hn
  |loadKB=>simp[ae] at h
  | loadTB d x n o2=>
    have h2:ae cf s (.loadT d x)=some s':=by
      simp only[ae] at h ⊢;split at h
      · rename_i hp _
        split at h
        · rw[hp];exact h
        · cases h
      · cases h
    exact (pY (cf:=cf) ⟨hI,by simpa [db] using hm,hd,hlt⟩ h2).wp hn
  | loadB d agg k x n=>
    have h2:ae cf s (.load d agg k x)=some s':=by
      simp only[ae] at h ⊢;split at h
      · rename_i hp _
        split at h
        · rw[hp];exact h
        · cases h
      · cases h
    exact (sim_load' (cf:=cf) ⟨hI,by simpa [db] using hm,hd,hlt⟩ h2).wp hn
  | loadJ d agg k x=>
    have h2:ae cf s (.load d agg k x)=some s':=by
      simp only[ae] at h ⊢;split at h
      · rename_i hp
        rw[hp];exact h
      · cases h
    exact (sim_load' (cf:=cf) ⟨hI,by simpa [db] using hm,hd,hlt⟩ h2).wp hn
  |appendP=>simp[ae] at h
  |mkarr=>simp[ae] at h
  |buildA=>simp[ae] at h
  |boxSl=>simp[ae] at h
  |loadN=>simp[ae] at h
  | loadL d x=>
    have h2:ae cf s (.loadT d x)=some s':=by
      simp only[ae] at h ⊢;split at h
      · rename_i hp
        rw[hp];exact h
      · cases h
    exact (pY (cf:=cf) ⟨hI,by simpa [db] using hm,hd,hlt⟩ h2).wp hn
  |mv=>exact (Ae ⟨hI,by simpa [db] using hm,hd,hlt⟩ h).wp hn
  |tk=>exact (Af ⟨hI,by simpa [db] using hm,hd,hlt⟩ h).wp hn
  |pick=>exact (Ag ⟨hI,by simpa [db] using hm,hd,hlt⟩ h).wp hn
  |box=>exact (Ah ⟨hI,by simpa [db] using hm,hd,hlt⟩ h).wp hn
  |alloc=>exact (Ai ⟨hI,by simpa [db] using hm,hd,hlt⟩ h).wp hn
  |build=>exact (AK ⟨hI,by simpa [db] using hm,hd,hlt⟩ h).wp hn
  |buildT=>exact (AN ⟨hI,by simpa [db] using hm,hd,hlt⟩ h).wp hn
  |buildSl=>exact (AO ⟨hI,by simpa [db] using hm,hd,hlt⟩ h).wp hn
  |load=>exact (sim_load ⟨hI,by simpa [db] using hm,hd,hlt⟩ h).wp hn
  |loadT=>exact (pY ⟨hI,by simpa [db] using hm,hd,hlt⟩ h).wp hn
  |store=>exact (Ak ⟨hI,by simpa [db] using hm,hd,hlt⟩ h).wp hn
  |nilc=>exact (Al ⟨hI,by simpa [db] using hm,hd,hlt⟩ h).wp hn
  |bin=>exact (Am ⟨hI,by simpa [db] using hm,hd,hlt⟩ h).wp hn
  |eqa=>exact (Ao ⟨hI,by simpa [db] using hm,hd,hlt⟩ h).wp hn
  |eqb=>exact (Ap ⟨hI,by simpa [db] using hm,hd,hlt⟩ h).wp hn
  |eqn=>simp[ae] at h
  |un=>exact (Aq ⟨hI,by simpa [db] using hm,hd,hlt⟩ h).wp hn
  |conv=>simp[ae] at h
  |mkfn=>exact (Ar ⟨hI,by simpa [db] using hm,hd,hlt⟩ h).wp hn
  |mkbf=>exact (At ⟨hI,by simpa [db] using hm,hd,hlt⟩ h).wp hn
  |storeK=>exact (AS hI (by simpa [db] using hm) hd h).wp hn
  |clearK=>exact (AT hI (by simpa [db] using hm) hd h).wp hn
  |loadG=>simp[ae] at h
  |boxB=>simp[ae] at h
  |mkbld=>simp[ae] at h
  |mkmap=>exact (Au ⟨hI,by simpa [db] using hm,hd,hlt⟩ h).wp hn
  |mksl=>exact (AG ⟨hI,by simpa [db] using hm,hd,hlt⟩ h).wp hn
  |slice=>exact (Av ⟨hI,by simpa [db] using hm,hd,hlt⟩ h).wp hn
  |sliceS=>simp[ae] at h
  |faddr=>exact (Aw ⟨hI,by simpa [db] using hm,hd,hlt⟩ h).wp hn
  |field=>simp[ae] at h
  |iaddr=>exact (Ax ⟨hI,by simpa [db] using hm,hd,hlt⟩ h).wp hn
  |index=>exact (Ay ⟨hI,by simpa [db] using hm,hd,hlt⟩ h).wp hn
  |indexS=>simp[ae] at h
  |lookup=>exact (Az ⟨hI,by simpa [db] using hm,hd,hlt⟩ h).wp hn
  |mupd=>exact (AA ⟨hI,by simpa [db] using hm,hd,hlt⟩ h).wp hn
  |len=>exact (AB ⟨hI,by simpa [db] using hm,hd,hlt⟩ h).wp hn
  |append=>exact (AD ⟨hI,by simpa [db] using hm,hd,hlt⟩ h).wp hn
  |appendK=>exact (AQ hI (by simpa [db] using hm) hd (hlt _ rfl) h).wp hn
  |appendN=>simp[ae] at h
  |loadH=>simp[ae] at h
  |loadK=>exact (AU hI (by simpa [db] using hm) hd (hlt _ rfl) h).wp hn
  |buildSlK=>exact (AR hI (by simpa [db] using hm) hd (hlt _ rfl) h).wp hn
  |maxi=>simp[ae] at h
  |extract=>exact (AE ⟨hI,by simpa [db] using hm,hd,hlt⟩ h).wp hn
end
end
section
open Go.RowKit
section
variable {fi:FI} {M M':Mem} {w w':World} {P:Program} {s s':St} {a:Act} {cf:CallF}
def lL (ops:Array Oper):Option (Nat×Bool)->Option (Nat×Bool)->Bool
 |none,none=>true
 |some (t,want),some (g,want')=>((ops[g]?).bind (·.dst)==some t)&&(want==want')
 |_,_=>false
def kB (P:Program) (fi:FI) (N:Nat) (ops:Array Oper) (i:IOpG) (o:Oper):Bool:=
 db P fi i.op o.op&&(o.dst==cg i.op)&&(match cg i.op with|some d=>decide (d<N)|none=>true)&&lL ops i.guard o.guard
def gE (P:Program) (fi:FI) (N:Nat) (ops:Array Oper):List IOpG->List Oper->Bool
 |[],[]=>true
 |i::is,o::os=>kB P fi N ops i o&&gE P fi N ops is os
 |_,_=>false
theorem A8 {N:Nat} {ops:Array Oper} {i:IOpG} {o:Oper} (h:kB P fi N ops i o=true) :
  db P fi i.op o.op=true/\o.dst=cg i.op/\(∀d,cg i.op=some d->d<N)/\lL ops i.guard o.guard=true:=by
 simp only[kB,aY,cX] at h;obtain⟨⟨⟨h1,h2⟩,h3⟩,h4⟩:=h;refine⟨h1,h2,λd hd=>?_,h4⟩;rw[hd] at h3;simpa using h3
noncomputable def opG (cf:CallF) (i:IOpG) (s:St):Option St:=
 match i.guard with
 |none=>ae cf s i.op
 |some (g,want)=>match get s.env g with
  |some (.bool b)=>if b=want then ae cf s i.op else some (eF s i.op)
  |some .und=>some (eF s i.op)
  |_=>none
theorem kC (i:IOpG) (l:List IOpG) (s:St):dF cf (i::l) s=(opG cf i s).bind (dF cf l):=by
 obtain⟨op,gd⟩:=i;cases gd with
 |none=>rfl
 | some q=>
  obtain⟨g,want⟩:=q;simp only[dF,opG];cases hg:get s.env g with
  |none=>rfl
  |some v=>
   cases v<;>simp only[Option.bind_none,cC];split<;>simp
theorem A9 (hI:Inv fi M w s a) {i:IOp} (hlt:∀d,cg i=some d->d<a.tmps.size):Inv fi M w (eF s i) (a.put (cg i) undef):=by
 unfold eF;cases hd:cg i with
 |none=>exact hI
 |some d=>exact hI.put (hlt d hd) (RepP.repE .und).repAt
theorem lM (hcf:hJ P fi cf) (hI:Inv fi M w s a) {N:Nat} {ops:Array Oper} {i:IOpG} {o:Oper} (hm:kB P fi N ops i o=true) (hN:N<=a.tmps.size) (h:opG cf i s=some s')
  {next:Act->World->Prop} {Q:Exit->Act->World->Prop} (hn:∀a' M' w',Inv fi M' w' s' a'->Kp M w M' w'->a'.tmps.size=a.tmps.size->next a' w') :
  if Region.wanted o (yielded ops a.tmps) then o.wp P a w next Q else next (a.put o.dst undef) w:=by
 obtain⟨h1,h2,h3,h4⟩:=A8 hm;have hlt:∀d,cg i.op=some d->d<a.tmps.size:=λd hd=>aU (h3 d hd) hN
 have hskip:next (a.put o.dst undef) w\/s'≠eF s i.op:=by
  by_cases hs:s'=eF s i.op
  ·left
   subst hs;rw[h2];exact hn _ M w (A9 hI hlt) (Kp.refl M w) (by cases cg i.op<;>simp[Act.put])
  ·exact .inr hs
 unfold opG at h;unfold Region.wanted;cases hg:i.guard with
 |none=>
  rw[hg] at h h4;cases hog:o.guard with
  |none=>simp only[if_true];exact ur hcf hI h1 h2 hlt h hn
  |some q=>rw[hog] at h4;simp[lL] at h4
 | some q=>
  obtain⟨g,want⟩:=q;rw[hg] at h h4;cases hog:o.guard with
  |none=>rw[hog] at h4;simp[lL] at h4
  | some q'=>
   obtain⟨j,want'⟩:=q';rw[hog] at h4;simp only[lL,aY,cX] at h4;obtain⟨hdj,rfl⟩:=h4;simp only at h;have hy:∀v,get s.env g=some v->yielded ops a.tmps j=(match a.tmps.getD g undef with| .bool b=>some b|_=>none):=by intro v hv;have hlt:=(hI.env g v hv).1;simp only[yielded,hdj,cC];simp only[cL,Array.getElem?_eq_getElem hlt,Option.getD_some];split<;>split<;>simp_all
   split at h
   ·rename_i b hb
    have hv:a.tmps.getD g undef= .bool b:=RepE.bool (hI.env g _ hb).2;simp only[hy _ hb,hv];split at h
    ·rename_i hbw
     subst hbw;simp only[beq_self_eq_true,if_true];exact ur hcf hI h1 h2 hlt h hn
    ·rename_i hbw
     cases h;rw[if_neg (by simpa using hbw)];exact hskip.resolve_right (by simp)
   ·rename_i hb
    cases h;have hv:a.tmps.getD g undef=undef:=by have:=(hI.env g _ hb).2;generalize a.tmps.getD g undef=u at this;cases (show RepP fi M w .und u from this);rfl
    simp only[hy _ hb,hv];rw[if_neg (by simp[undef])];exact hskip.resolve_right (by simp)
   ·cases h
theorem ut (hcf:hJ P fi cf) {N:Nat} {ops:Array Oper} {Q:Exit->Act->World->Prop}:∀{is:List IOpG} {os:List Oper} {M:Mem} {w:World} {s:St} {a:Act},gE P fi N ops is os=true->Inv fi M w s a->N<=a.tmps.size->dF cf is s=some s'->
  (∀a' M' w',Inv fi M' w' s' a'->Kp M w M' w'->a'.tmps.size=a.tmps.size->Q .normal a' w')->wpList P ops Q os a w
 |[],[],M,w,s,a,_,hI,_,h,hn=>by simp[dF] at h;subst h;exact hn a M w hI (Kp.refl M w) rfl
 |[],_::_,_,_,_,_,hm,_,_,_,_=>by simp[gE] at hm
 |_::_,[],_,_,_,_,hm,_,_,_,_=>by simp[gE] at hm
 | i::is,o::os,M,w,s,a,hm,hI,hN,h,hn=>by
  simp only[gE,aY] at hm;rw[kC,aC] at h;obtain⟨s1,h1,h2⟩:=h
  have:=lM (Q:=Q) (next:=wpList P ops Q os) hcf hI hm.1 hN h1 (λa' M' w' hI' hk hs=>
   ut hcf hm.2 hI' (by omega) h2 (λa2 M2 w2 hI2 hk2 hs2=>hn a2 M2 w2 hI2 (hk.trans hk2) (hs2.trans hs)))
  unfold wpList;split
  ·rename_i hw;rw[if_pos hw] at this;exact .inl this
  ·rename_i hw;rw[if_neg hw] at this;exact this
end
end
section
open Go.RowKit
variable {e e2:List (Nat×PV)} {x:IX}
def rdX:IX->List Nat
 | .t n=>[n]
 |_=>[]
def kD (xs:List IX):List Nat:=xs.flatMap rdX
def rdO:Option IX->List Nat
 |some x=>rdX x
 |none=>[]
def hQ (ps:List (Nat×Nat×IX)):List Nat:=ps.flatMap λp=>rdX p.2.2
def rd:IOp->List Nat
 | .mv _ x| .clearK x| .box _ _ _ x| .load _ _ _ x| .loadK _ x| .loadH _ x| .loadT _ x| .loadL _ x| .nilc _ x| .eqn _ _ x| .un _ _ x| .conv _ _ x| .faddr _ x _| .field _ _ _ _ x| .len _ _ x| .extract _ x _| .mksl _ _ _ _ _ x| .mkarr _ _ _ _ x| .loadJ _ _ _ x| .boxB _ x=>rdX x
 | .tk _ n=>[n]
 | .pick _ c x y=>rdX c++(rdX x++rdX y)
 | .alloc _ _ _| .mkmap _| .mkbld _| .loadG _ _=>[]
 | .build _ _ ps| .buildT _ _ ps| .buildA _ _ ps=>hQ ps
 | .buildSl _ _ xs| .boxSl _ _ xs| .buildSlK _ xs| .mkfn _ _ xs| .mkbf _ _ xs| .maxi _ xs| .call _ _ _ xs| .callF _ _ xs=>kD xs
 | .store _ _ x y| .bin _ _ x y| .eqa _ _ _ x y| .eqb _ _ x y| .iaddr _ _ _ x y| .index _ _ _ _ x y| .indexS _ x y| .lookup _ _ x y _ _| .append _ _ _ x y| .appendN _ _ x y| .appendK _ _ x y| .appendE _ _ x y| .storeK x y=>rdX x++rdX y
 | .slice _ _ x lo hi| .sliceS _ x lo hi=>rdX x++(rdO lo++rdO hi)
 | .mupd _ m k x=>rdX m++(rdX k++rdX x)
 | .callv _ _ f xs| .callE _ f xs=>rdX f++kD xs
 | .loadN _ _ _ x n| .loadB _ _ _ x n| .loadKB _ x n| .loadTB _ x n _=>n::rdX x
 | .callP _ _ xs ns=>ns++kD xs
 | .callR _ _ xs n _=>n::kD xs
 | .appendP _ _ x y ns=>ns++(rdX x++rdX y)
def wr (i:IOp):List Nat:=
 (cg i).toList++match i with
  | .tk _ n=>[n]
  | .box _ _ true x| .store true _ _ x| .append _ _ _ x _| .appendE _ _ x _=>rdX x
  | .buildT _ _ ps| .buildA _ _ ps=>hQ ps
  |_=>[]
def cls:IOp->Nat
 | .box _ false _ _| .alloc _ false _=>3
 | .box _ true _ _| .alloc _ true _| .mksl _ true _ _ _ _=>5
 | .mkmap _| .mkbld _| .boxB _ _| .buildSlK _ _=>4
 | .load _ _ _ _| .loadN _ _ _ _ _| .loadB _ _ _ _ _| .loadJ _ _ _ _| .lookup _ _ _ _ _ _| .callE _ _ _=>2
 | .len _ kd _=>if kd=2 then 2 else 0
 | .loadK _ _| .loadKB _ _ _| .appendE _ _ _ _=>1
 | .callP _ _ _ _| .callR _ _ _ _ _| .buildA _ _ _| .boxSl _ _ _=>5
 | .call _ q _ _| .callv _ q _ _=>if q then 1 else 5
 | .loadL _ _=>6
 | .loadH _ _=>8
 | .loadT _ _| .loadTB _ _ _ _| .appendK _ _ _ _=>7
 | .appendN _ _ _ _| .appendP _ _ _ _ _=>9
 | .store _ _ _ _| .mupd _ _ _ _| .storeK _ _| .clearK _=>5
 |_=>0
def GObj.deg:GObj->GObj
 | .cells cs=> .cells (cs.map aa)
 | .map es=> .map es
 | .stk _ _=> .stk 0 []
 | .bld s=> .bld s
def HOk (c:Nat) (s s2:St):Prop:=
 match c with
 |0=>True
 |1=>s2.gh=s.gh
 |2=>(∀(b:Nat) (cs:List PV),s.lh[b]?=some cs->∃cs2,s2.lh[b]?=some cs2/\cs2.map aa=cs.map aa)/\∀(b:Nat) (o:GObj),s.gh[b]?=some o->∃o2,s2.gh[b]?=some o2/\o2.deg=o.deg
 |8=>s2.lh=s.lh
 |_=>s2.lh=s.lh/\s2.gh=s.gh
def HRes (c:Nat) (s s' s2 s2':St):Prop:=
 match c with
 |0|1|2|8=>s'.lh=s.lh/\s'.gh=s.gh/\s2'.lh=s2.lh/\s2'.gh=s2.gh
 |3=>(∃cs,s'.lh=s.lh++[cs])/\s'.gh=s.gh/\s2'.lh=s'.lh/\s2'.gh=s'.gh
 |4=>s'.lh=s.lh/\(∃o,s'.gh=s.gh++[o])/\s2'.lh=s'.lh/\s2'.gh=s'.gh
 |6=>s'.lh.map (List.map aa)=s.lh.map (List.map aa)/\s'.gh=s.gh/\s2'.lh=s'.lh/\s2'.gh=s'.gh
 |7=>s'.lh.map (List.map aa)=s.lh.map (List.map aa)/\s'.gh.map GObj.deg=s.gh.map GObj.deg/\s2'.lh=s'.lh/\s2'.gh=s'.gh
 |9=>s'.lh=s.lh/\(∀(b:Nat) (o:GObj),s.gh[b]?=some o->∃o2,s'.gh[b]?=some o2/\o2.deg=o.deg)/\s2'.lh=s'.lh/\s2'.gh=s'.gh
 |_=>s2'.lh=s'.lh/\s2'.gh=s'.gh
section
variable {s s' s2:St} {cf:CallF}
theorem cr (h:∀t∈rdX x,get e2 t=get e t):ah e2 x=ah e x:=by cases x<;>simp[ah];rw[h _ (by simp[rdX])]
theorem Ba (h:∀t∈rdX x,get e2 t=get e t):go e2 x=go e x:=by cases x<;>simp[go];rw[h _ (by simp[rdX])]
theorem hU {e e2:List (Nat×PV)}:∀{xs:List IX},(∀t∈kD xs,get e2 t=get e t)->cZ e2 xs=cZ e xs
 |[],_=>rfl
 |x::l,h=>by simp only[kD,cO,bY] at h;simp only[cZ];rw[cr (λt ht=>h t (.inl ht)),hU (xs:=l) (λt ht=>h t (.inr ht))]
theorem uu {e e2:List (Nat×PV)}:∀{ps:List (Nat×Nat×IX)},(∀t∈hQ ps,get e2 t=get e t)->gB e2 ps=gB e ps
 |[],_=>rfl
 |(o,k,x)::l,h=>by simp only[hQ,cO,bY] at h;simp only[gB];rw[cr (λt ht=>h t (.inl ht)),uu (ps:=l) (λt ht=>h t (.inr ht))]
theorem uv {d:Nat} {x:Option IX} (h:∀t∈rdO x,get e2 t=get e t):eD e2 d x=eD e d x:=by
 cases x with
 |none=>rfl
 |some x=>simp only[eD];rw[cr h]
def EnvR (W:List Nat) (e' e2 e2':List (Nat×PV)):Prop:=∀t,get e2' t=if t∈W then get e' t else get e2 t
theorem EnvR.put {e e2:List (Nat×PV)} {d:Nat} {v:PV} {W:List Nat} (h:∀t,t∈W↔t=d):EnvR W (put e d v) e2 (put e2 d v):=by
 intro t;rw[eg,eg];by_cases hd:d=t
 ·subst hd;simp[(h d).2 rfl]
 ·have:t∉W:=λhw=>hd ((h t).1 hw).symm
  simp[hd,this]
theorem EnvR.refl {e' e2:List (Nat×PV)} {W:List Nat} (h:∀t,t∉W):EnvR W e' e2 e2:=λt=>by simp[h t]
theorem kF {e':List (Nat×PV)} {v:PV} (h:∀t∈rdX x,get e2 t=get e t) (ht:eY e x=some (v,e')) :
  ∃e2',eY e2 x=some (v,e2')/\EnvR (rdX x) e' e2 e2':=by
 cases x with
 |t n=>
  simp only[eY,aE,bV] at ht ⊢;obtain⟨v',hv,rfl,rfl⟩:=ht;rw[h n (by simp[rdX])];exact⟨_,⟨v',hv,rfl,rfl⟩,EnvR.put (by simp[rdX])⟩
 |c p=>
  simp only[eY,bU,bV] at ht ⊢;obtain⟨rfl,rfl⟩:=ht;exact⟨_,⟨rfl,rfl⟩,EnvR.refl (by simp[rdX])⟩
 |f id=>
  simp only[eY,bU,bV] at ht ⊢;obtain⟨rfl,rfl⟩:=ht;exact⟨_,⟨rfl,rfl⟩,EnvR.refl (by simp[rdX])⟩
theorem EnvR.trans {W W2:List Nat} {e' e2 e2' e'' e2'':List (Nat×PV)} (h:EnvR W e' e2 e2') (h2:EnvR W2 e'' e2' e2'') (hf:∀t,t∉W2->get e'' t=get e' t):EnvR (W++W2) e'' e2 e2'':=by
 intro t;rw[h2 t,h t];simp only[bY];by_cases hw2:t∈W2
 ·simp[hw2]
 ·by_cases hw:t∈W
  ·simp[hw,hw2,hf t hw2]
  ·simp[hw,hw2]
theorem uw:∀{ps:List (Nat×Nat×IX)} {e e2 e':List (Nat×PV)} {vs:List (Nat×Nat×PV)},(∀t∈hQ ps,get e2 t=get e t)->gX e ps=some (vs,e')->
  ∃e2',gX e2 ps=some (vs,e2')/\EnvR (hQ ps) e' e2 e2'/\∀t,t∉hQ ps->get e' t=get e t
 |[],e,e2,e',vs,_,ht=>by simp only[gX,bU,bV] at ht ⊢;obtain⟨rfl,rfl⟩:=ht;exact⟨_,⟨rfl,rfl⟩,EnvR.refl (by simp[hQ]),λ_ _=>rfl⟩
 | (o,k,x)::l,e,e2,e',vs,h,ht=>by
  simp only[hQ,cO,bY] at h;simp only[gX,aC,aE,Prod.exists,bV] at ht ⊢;obtain⟨v,e1,h1,vs',e'',h2,rfl,rfl⟩:=ht;obtain⟨e3,t1,t2⟩:=kF (e2:=e2) (λt ht=>h t (.inl ht)) h1;obtain⟨e5,u1,u2⟩:=kF (e2:=e) (λt ht=>rfl) h1;rw[h1] at u1;simp only[bU,bV,true_and] at u1;subst u1;obtain⟨e4,t3,t4,t5⟩:=uw (ps:=l) (e2:=e3) (λt ht=>by
   rw[t2 t];split
   ·rfl
   ·rename_i hx
    rw[u2 t,if_neg hx];exact h t (.inr ht)) h2
  refine⟨e4,⟨v,e3,t1,vs',e4,t3,rfl,rfl⟩,?_,λt ht=>?_⟩
  ·simp only[hQ,cO]
   exact t2.trans t4 t5
  ·simp only[hQ,cO,bY,not_or] at ht
   rw[t5 t ht.2,u2 t,if_neg ht.1]
end
end
section
open Go.RowKit
section
variable {s s' s2:St} {cf:CallF}
def Fills (cf:CallF) (i:IOp) (d:Nat):Prop:=
 ∀s s2:St,(∀t∈rd i,get s2.env t=get s.env t)->∀s',ae cf s i=some s'->∃v,s'=s.put d v/\ae cf s2 i=some (s2.put d v)
theorem fills_mv {d x}:Fills cf (.mv d x) d:=by intro s s2 ha s' h;have h1:go s2.env x=go s.env x:=Ba (λt ht=>ha t (by simp[rd,ht]));simp only[ae,h1] at h ⊢;simp only[aE] at h ⊢;obtain⟨v,hv,rfl⟩:=h;exact⟨v,rfl,v,hv,rfl⟩
theorem fills_pick {d c x y}:Fills cf (.pick d c x y) d:=by
 intro s s2 ha s' h;have h1:ah s2.env c=ah s.env c:=cr (λt ht=>ha t (by simp[rd,ht]));have h2:ah s2.env x=ah s.env x:=cr (λt ht=>ha t (by simp[rd,ht]));have h3:ah s2.env y=ah s.env y:=cr (λt ht=>ha t (by simp[rd,ht]));simp only[ae,h1,h2,h3] at h ⊢
 repeat' split at h
 all_goals first
  |(cases h;done)
  |(cases h;exact⟨_,rfl,by simp[*]⟩)
  |(simp only[aE] at h;obtain⟨v,hv,rfl⟩:=h;exact⟨_,rfl,by simp[*]⟩)
  | (simp only[aC] at h;obtain⟨p,hp,q,hq,h⟩:=h;split at h
     ·rename_i hc;cases h;exact⟨_,rfl,by simp[*]⟩
     ·cases h)
theorem fills_build {d z ps}:Fills cf (.build d z ps) d:=by
 intro s s2 ha s' h;have h1:gB s2.env ps=gB s.env ps:=uu (λt ht=>ha t (by simp[rd,ht]));simp only[ae,h1] at h ⊢;simp only[aC] at h ⊢;obtain⟨p,hp,h⟩:=h;split at h
 ·rename_i hc
  simp only[aE] at h;obtain⟨v,hv,rfl⟩:=h;exact⟨_,rfl,p,hp,by rw[if_pos hc,hv];rfl⟩
 ·cases h
theorem fills_buildSl {d z els}:Fills cf (.buildSl d z els) d:=by
 intro s s2 ha s' h;have h1:cZ s2.env els=cZ s.env els:=hU (λt ht=>ha t (by simp[rd,ht]));simp only[ae,h1] at h ⊢;simp only[aC] at h ⊢;obtain⟨p,hp,h⟩:=h;split at h
 ·rename_i hc;cases h;exact⟨_,rfl,p,hp,by rw[if_pos hc]⟩
 ·cases h
theorem fills_mksl {d z bytes zero l}:Fills cf (.mksl d false z bytes zero l) d:=by
 intro s s2 ha s' h;have h1:ah s2.env l=ah s.env l:=cr (λt ht=>ha t (by simp[rd,ht]));simp only[ae,h1] at h ⊢;split at h
 ·rename_i k n hp
  split at h
  ·rename_i hc
   split at h<;>try (cases h;done)
   rename_i hf;cases h;exact⟨_,rfl,by rw[if_pos hc];simp only[if_pos hf]⟩
  ·cases h
 ·cases h
theorem fills_nilc {d x}:Fills cf (.nilc d x) d:=by
 intro s s2 ha s' h;have h1:ah s2.env x=ah s.env x:=cr (λt ht=>ha t (by simp[rd,ht]));simp only[ae,h1] at h ⊢
 repeat' split at h
 all_goals first
  |(cases h;done)
  |(cases h;exact⟨_,rfl,by simp[*]⟩)
  |(simp only[aE] at h;obtain⟨v,hv,rfl⟩:=h;exact⟨_,rfl,by simp[*]⟩)
  | (simp only[aC] at h;obtain⟨p,hp,q,hq,h⟩:=h;split at h
     ·rename_i hc;cases h;exact⟨_,rfl,by simp[*]⟩
     ·cases h)
theorem fills_bin {d op x y}:Fills cf (.bin d op x y) d:=by intro s s2 ha s' h;have h1:ah s2.env x=ah s.env x:=cr (λt ht=>ha t (by simp[rd,ht]));have h2:ah s2.env y=ah s.env y:=cr (λt ht=>ha t (by simp[rd,ht]));simp only[ae,h1,h2] at h ⊢;simp only[aC,aE] at h ⊢;obtain⟨p,hp,q,hq,v,hv,rfl⟩:=h;exact⟨v,rfl,p,hp,q,hq,v,hv,rfl⟩
theorem fills_eqa {d neg ks x y}:Fills cf (.eqa d neg ks x y) d:=by
 intro s s2 ha s' h;have h1:ah s2.env x=ah s.env x:=cr (λt ht=>ha t (by simp[rd,ht]));have h2:ah s2.env y=ah s.env y:=cr (λt ht=>ha t (by simp[rd,ht]));simp only[ae,h1,h2] at h ⊢
 repeat' split at h
 all_goals first
  |(cases h;done)
  |(cases h;exact⟨_,rfl,by simp[*]⟩)
  |(simp only[aE] at h;obtain⟨v,hv,rfl⟩:=h;exact⟨_,rfl,by simp[*]⟩)
  | (simp only[aC] at h;obtain⟨p,hp,q,hq,h⟩:=h;split at h
     ·rename_i hc;cases h;exact⟨_,rfl,by simp[*]⟩
     ·cases h)
theorem fills_eqb {d neg x y}:Fills cf (.eqb d neg x y) d:=by
 intro s s2 ha s' h;have h1:ah s2.env x=ah s.env x:=cr (λt ht=>ha t (by simp[rd,ht]));have h2:ah s2.env y=ah s.env y:=cr (λt ht=>ha t (by simp[rd,ht]));simp only[ae,h1,h2] at h ⊢
 repeat' split at h
 all_goals first
  |(cases h;done)
  |(cases h;exact⟨_,rfl,by simp[*]⟩)
  |(simp only[aE] at h;obtain⟨v,hv,rfl⟩:=h;exact⟨_,rfl,by simp[*]⟩)
  | (simp only[aC] at h;obtain⟨p,hp,q,hq,h⟩:=h;split at h
     ·rename_i hc;cases h;exact⟨_,rfl,by simp[*]⟩
     ·cases h)
theorem fills_un {d op x}:Fills cf (.un d op x) d:=by intro s s2 ha s' h;have h1:ah s2.env x=ah s.env x:=cr (λt ht=>ha t (by simp[rd,ht]));simp only[ae,h1] at h ⊢;simp only[aC,aE] at h ⊢;obtain⟨p,hp,v,hv,rfl⟩:=h;exact⟨v,rfl,p,hp,v,hv,rfl⟩
theorem fills_mkfn {d f caps}:Fills cf (.mkfn d f caps) d:=by
 intro s s2 ha s' h;have h1:cZ s2.env caps=cZ s.env caps:=hU (λt ht=>ha t (by simp[rd,ht]));simp only[ae,h1] at h ⊢;simp only[aC] at h ⊢;obtain⟨p,hp,h⟩:=h;split at h
 ·rename_i hc;cases h;exact⟨_,rfl,p,hp,by rw[if_pos hc]⟩
 ·cases h
theorem fills_mkbf {d f caps}:Fills cf (.mkbf d f caps) d:=by
 intro s s2 ha s' h;have h1:cZ s2.env caps=cZ s.env caps:=hU (λt ht=>ha t (by simp[rd,ht]));simp only[ae,h1] at h ⊢;simp only[aC] at h ⊢;obtain⟨p,hp,h⟩:=h;split at h
 ·rename_i hc;cases h;exact⟨_,rfl,p,hp,by rw[if_pos hc]⟩
 ·cases h
theorem fills_slice {d z x lo hi}:Fills cf (.slice d z x lo hi) d:=by
 intro s s2 ha s' h;have h1:ah s2.env x=ah s.env x:=cr (λt ht=>ha t (by simp[rd,ht]));have h2:∀n,eD s2.env n lo=eD s.env n lo:=λn=>uv (λt ht=>ha t (by simp[rd,ht]))
 have h3:∀n,eD s2.env n hi=eD s.env n hi:=λn=>uv (λt ht=>ha t (by simp[rd,ht]))
 simp only[ae,h1,h2,h3] at h ⊢
 repeat' split at h
 all_goals first
  |(cases h;done)
  |(cases h;exact⟨_,rfl,by simp[*]⟩)
  |(simp only[aE] at h;obtain⟨v,hv,rfl⟩:=h;exact⟨_,rfl,by simp[*]⟩)
  | (simp only[aC] at h;obtain⟨p,hp,q,hq,h⟩:=h;split at h
     ·rename_i hc;cases h;exact⟨_,rfl,by simp[*]⟩
     ·cases h)
  | (simp only[aC] at h;obtain⟨p,hp,h⟩:=h;split at h
     ·rename_i hc;cases h;exact⟨_,rfl,by simp[*]⟩
     ·cases h)
theorem fills_faddr {d x off}:Fills cf (.faddr d x off) d:=by
 intro s s2 ha s' h;have h1:ah s2.env x=ah s.env x:=cr (λt ht=>ha t (by simp[rd,ht]));simp only[ae,h1] at h ⊢
 repeat' split at h
 all_goals first
  |(cases h;done)
  |(cases h;exact⟨_,rfl,by simp[*]⟩)
  |(simp only[aE] at h;obtain⟨v,hv,rfl⟩:=h;exact⟨_,rfl,by simp[*]⟩)
  | (simp only[aC] at h;obtain⟨p,hp,q,hq,h⟩:=h;split at h
     ·rename_i hc;cases h;exact⟨_,rfl,by simp[*]⟩
     ·cases h)
theorem fills_iaddr {d z arr x i}:Fills cf (.iaddr d z arr x i) d:=by
 intro s s2 ha s' h;have h1:ah s2.env x=ah s.env x:=cr (λt ht=>ha t (by simp[rd,ht]));have h2:ah s2.env i=ah s.env i:=cr (λt ht=>ha t (by simp[rd,ht]));simp only[ae,h1,h2] at h ⊢
 repeat' split at h
 all_goals first
  |(cases h;done)
  |(cases h;exact⟨_,rfl,by simp[*]⟩)
  |(simp only[aE] at h;obtain⟨v,hv,rfl⟩:=h;exact⟨_,rfl,by simp[*]⟩)
  | (simp only[aC] at h;obtain⟨p,hp,q,hq,h⟩:=h;split at h
     ·rename_i hc;cases h;exact⟨_,rfl,by simp[*]⟩
     ·cases h)
theorem fills_index {d z arr agg x i}:Fills cf (.index d z arr agg x i) d:=by
 intro s s2 ha s' h;have h1:ah s2.env x=ah s.env x:=cr (λt ht=>ha t (by simp[rd,ht]));have h2:ah s2.env i=ah s.env i:=cr (λt ht=>ha t (by simp[rd,ht]));simp only[ae,h1,h2] at h ⊢
 repeat' split at h
 all_goals first
  |(cases h;done)
  |(cases h;exact⟨_,rfl,by simp[*]⟩)
  |(simp only[aE] at h;obtain⟨v,hv,rfl⟩:=h;exact⟨_,rfl,by simp[*]⟩)
  | (simp only[aC] at h;obtain⟨p,hp,q,hq,h⟩:=h;split at h
     ·rename_i hc;cases h;exact⟨_,rfl,by simp[*]⟩
     ·cases h)
theorem fills_extract {d x i}:Fills cf (.extract d x i) d:=by
 intro s s2 ha s' h;have h1:ah s2.env x=ah s.env x:=cr (λt ht=>ha t (by simp[rd,ht]));simp only[ae,h1] at h ⊢
 repeat' split at h
 all_goals first
  |(cases h;done)
  |(cases h;exact⟨_,rfl,by simp[*]⟩)
  |(simp only[aE] at h;obtain⟨v,hv,rfl⟩:=h;exact⟨_,rfl,by simp[*]⟩)
  | (simp only[aC] at h;obtain⟨p,hp,q,hq,h⟩:=h;split at h
     ·rename_i hc;cases h;exact⟨_,rfl,by simp[*]⟩
     ·cases h)
end
end
section
open Go.RowKit
variable {d n z b k off kn bytes f o2:Nat} {tk q:Bool} {x m sx y:IX} {cs:List PV} {v zero:PV} {gh:List GObj} {xs:List IX} {e e2:List (Nat×PV)}
section
variable {s s' s2:St} {cf:CallF}
def dX (cf:CallF) (i:IOp):Prop:=
 ∀s s2:St,(∀t∈rd i,get s2.env t=get s.env t)->HOk (cls i) s s2->∀s',ae cf s i=some s'->
  ∃s2',ae cf s2 i=some s2'/\EnvR (wr i) s'.env s2.env s2'.env/\HRes (cls i) s s' s2 s2'
theorem EnvR.congr {W W2:List Nat} {e' e2 e2':List (Nat×PV)} (h:EnvR W e' e2 e2') (hw:∀t,t∈W↔t∈W2):EnvR W2 e' e2 e2':=λt=>by
 rw[h t];by_cases ht:t∈W
 ·simp[ht,(hw t).1 ht]
 ·have:t∉W2:=λh2=>ht ((hw t).2 h2)
  simp[ht,this]
theorem EnvR.put1 {e e2:List (Nat×PV)} (d:Nat) (v:PV):EnvR [d] (Lw.put e d v) e2 (Lw.put e2 d v):=EnvR.put (by simp)
theorem EnvR.thenPut {W:List Nat} {e' e2 e2':List (Nat×PV)} (h:EnvR W e' e2 e2') (d:Nat) (v:PV):EnvR (W++[d]) (Lw.put e' d v) e2 (Lw.put e2' d v):=
 h.trans (EnvR.put1 d v) (λt ht=>by rw[eg];simp at ht;simp[Ne.symm ht])
theorem Fills.local {i:IOp} {d:Nat} (h:Fills cf i d) (hc:cls i=0) (hw:wr i=[d]):dX cf i:=by intro s s2 ha _ s' hs;obtain⟨v,rfl,h2⟩:=h s s2 ha s' hs;refine⟨_,h2,by rw[hw];exact EnvR.put1 d v,?_⟩;rw[hc];exact⟨rfl,rfl,rfl,rfl⟩
theorem Bb:dX cf (.tk d n):=by intro s s2 ha _ s' h;simp only[ae,aE] at h ⊢;obtain⟨v,hv,rfl⟩:=h;refine⟨_,⟨v,by rw[ha n (by simp[rd])];exact hv,rfl⟩,?_,rfl,rfl,rfl,rfl⟩;exact ((EnvR.put1 (e:=s.env) (e2:=s2.env) n (degr v)).thenPut d v).congr (λt=>by simp[wr,cg];exact or_comm)
theorem Bc {g:Bool}:dX cf (.box d g tk x):=by
 intro s s2 ha hh s' h;obtain⟨e2,l2,g2⟩:=s2;have hh':l2=s.lh/\g2=s.gh:=by cases g<;>exact hh
 obtain⟨rfl,rfl⟩:=hh';simp only[ae] at h ⊢;split at h
 ·rename_i htk
  subst htk;simp only[aC,Prod.exists] at h;obtain⟨v,e1,hv,h⟩:=h;split at h
  ·rename_i hok
   cases h;obtain⟨e3,t1,t2⟩:=kF (e2:=e2) (λt ht=>ha t (by simp[rd,ht])) hv;refine⟨iP ⟨e3,s.lh,s.gh⟩ d g v.cells,by simp[t1,hok],?_,?_⟩
   ·cases g
    ·exact (t2.thenPut d _).congr (λt=>by simp[wr,cg];exact or_comm)
    ·exact (t2.thenPut d _).congr (λt=>by simp[wr,cg];exact or_comm)
   ·cases g
    ·exact⟨⟨v.cells,rfl⟩,rfl,rfl,rfl⟩
    ·exact⟨rfl,rfl⟩
  ·cases h
 ·rename_i htk
  simp only[Bool.not_eq_true] at htk;subst htk;simp only[aC] at h;obtain⟨v,hv,h⟩:=h;split at h
  ·rename_i hok
   cases h;have h1:ah e2 x=some v:=by rw[<-hv];exact cr (λt ht=>ha t (by simp[rd,ht]))
   refine⟨iP ⟨e2,s.lh,s.gh⟩ d g v.cells,by simp[h1,hok],?_,?_⟩
   ·cases g
    ·exact (EnvR.put1 d _).congr (λt=>by simp[wr,cg])
    ·exact (EnvR.put1 d _).congr (λt=>by simp[wr,cg])
   ·cases g
    ·exact⟨⟨v.cells,rfl⟩,rfl,rfl,rfl⟩
    ·exact⟨rfl,rfl⟩
  ·cases h
theorem Bd {g:Bool} {z:PV}:dX cf (.alloc d g z):=by
 intro s s2 ha hh s' h;obtain⟨e2,l2,g2⟩:=s2;have hh':l2=s.lh/\g2=s.gh:=by cases g<;>exact hh
 obtain⟨rfl,rfl⟩:=hh';simp only[ae] at h ⊢;split at h
 ·rename_i hok
  cases h;refine⟨iP ⟨e2,s.lh,s.gh⟩ d g z.cells,by rw[if_pos hok],?_,?_⟩
  ·cases g
   ·exact (EnvR.put1 d _).congr (λt=>by simp[wr,cg])
   ·exact (EnvR.put1 d _).congr (λt=>by simp[wr,cg])
  ·cases g
   ·exact⟨⟨z.cells,rfl⟩,rfl,rfl,rfl⟩
   ·exact⟨rfl,rfl⟩
 ·cases h
theorem Be {z:List PV} {ps:List (Nat×Nat×IX)}:dX cf (.buildT d z ps):=by
 intro s s2 ha _ s' h;simp only[ae,aC,Prod.exists] at h;obtain⟨vs,e1,hv,h⟩:=h;split at h
 ·rename_i hc
  simp only[aE] at h;obtain⟨cs,hcs,rfl⟩:=h;obtain⟨e3,t1,t2,_⟩:=uw (e2:=s2.env) (λt ht=>ha t (by simp[rd,ht])) hv;refine⟨⟨Lw.put e3 d (.agg cs),s2.lh,s2.gh⟩,?_,?_,rfl,rfl,rfl,rfl⟩
  ·simp only[ae,t1,cC]
   rw[if_pos hc,hcs];rfl
  ·exact (t2.thenPut d _).congr (λt=>by simp[wr,cg];exact or_comm)
 ·cases h
theorem qH {g:Bool} (hh:HOk 2 s s2) (h:s.cellsAt g b=some cs):∃cs2,s2.cellsAt g b=some cs2/\cs2.map aa=cs.map aa:=by
 unfold St.cellsAt at *;split at h
 ·rename_i hg
  simp only[hg,if_true];split at h
  ·rename_i cs' hc
   cases h;obtain⟨o2,h1,h2⟩:=hh.2 b _ hc;cases o2 with
   |cells cs2=>
    simp only[GObj.deg,GObj.cells.injEq] at h2;exact⟨cs2,by rw[h1],h2⟩
   |map es=>simp[GObj.deg] at h2
   |stk g xs=>simp[GObj.deg] at h2
   |bld t=>simp[GObj.deg] at h2
  ·cases h
 ·rename_i hg
  simp only[hg,bP,if_false];exact hh.1 b cs h
theorem ux {es:List (PV×PV)} (hh:HOk 2 s s2) (h:s.gh[b]?=some (.map es)):s2.gh[b]?=some (.map es):=by
 obtain⟨o2,h1,h2⟩:=hh.2 b _ h;cases o2 with
 |cells cs=>simp[GObj.deg] at h2
 |map es2=>simp only[GObj.deg,GObj.map.injEq] at h2;rw[h1,h2]
 |stk g xs=>simp[GObj.deg] at h2
 |bld t=>simp[GObj.deg] at h2
theorem uy (v:PV):degr (aa v)=degr v:=by cases v<;>rfl
theorem qJ {agg:Bool} {cs2:List PV} (he:cs2.map aa=cs.map aa) (h:bp agg k off cs=some v):∃v2,bp agg k off cs2=some v2/\degr v2=degr v:=by
 have hl:cs2.length=cs.length:=by rw[<-bC (f:=aa) (as:=cs2),he,bC]
 unfold bp at h ⊢;cases agg with
 | true=>
  simp only[if_true] at h ⊢;split at h
  ·rename_i hk
   cases h;rw[hl,if_pos hk];refine⟨_,rfl,?_⟩;simp only[degr,PV.agg.injEq];rw[List.map_take,List.map_drop,he,List.map_take,List.map_drop]
  ·cases h
 |false=>
  simp only[bP,if_false] at h ⊢;have h1:(cs2.map aa)[off]?=(cs.map aa)[off]?:=by rw[he]
  rw[aB,aB,h] at h1;simp only[cD,aE] at h1;obtain⟨v2,h2,h3⟩:=h1;exact⟨v2,h2,by rw[<-uy v2,h3,uy]⟩
theorem Bf {agg:Bool}:dX cf (.load d agg k x):=by
 intro s s2 ha hh s' h;have h1:ah s2.env x=ah s.env x:=cr (λt ht=>ha t (by simp[rd,ht]));simp only[ae,h1] at h ⊢;have fin:∀v,s'=s.put d v->∀o,o=some (s2.put d v)->∃s2',o=some s2'/\EnvR (wr (.load d agg k x)) s'.env s2.env s2'.env/\HRes 2 s s' s2 s2':=by rintro v rfl o rfl;exact⟨_,rfl,(EnvR.put1 d v).congr (λt=>by simp[wr,cg]),rfl,rfl,rfl,rfl⟩
 split at h
 ·rename_i g b off hp
  simp only[aC,aE] at h;obtain⟨cs,hc,v,hv,rfl⟩:=h;obtain⟨cs2,hc2,he⟩:=qH hh hc;obtain⟨v2,hv2,he2⟩:=qJ he hv;exact fin _ rfl _ (by simp[hc2,hv2,he2])
 ·rename_i e off hp
  simp only[aE] at h;obtain⟨v,hv,rfl⟩:=h;exact fin _ rfl _ (by simp[hv])
 ·cases h
theorem Bg {k:IX} {ok:Bool}:dX cf (.lookup d kn m k ok zero):=by
 intro s s2 ha hh s' h;have h1:ah s2.env m=ah s.env m:=cr (λt ht=>ha t (by simp[rd,ht]));have h2:ah s2.env k=ah s.env k:=cr (λt ht=>ha t (by simp[rd,ht]));simp only[ae,h1,h2] at h ⊢;have fin:∀v,s'=s.put d v->∀o,o=some (s2.put d v)->∃s2',o=some s2'/\EnvR (wr (.lookup d kn m k ok zero)) s'.env s2.env s2'.env/\HRes 2 s s' s2 s2':=by rintro v rfl o rfl;exact⟨_,rfl,(EnvR.put1 d v).congr (λt=>by simp[wr,cg]),rfl,rfl,rfl,rfl⟩
 split at h
 ·rename_i b kv hp hkv
  split at h
  ·rename_i es hes
   have hes2:=ux hh hes;split at h
   ·cases h
   ·rename_i hki
    split at h
    ·rename_i v hf
     cases h;exact fin _ rfl _ (by simp[hes2,hki,hf])
    ·rename_i hf
     cases h;exact fin _ rfl _ (by simp[hes2,hki,hf])
    ·cases h
  ·cases h
 ·cases h
theorem Bh {kd:Nat}:dX cf (.len d kd x):=by
 intro s s2 ha hh s' h;have h1:ah s2.env x=ah s.env x:=cr (λt ht=>ha t (by simp[rd,ht]));simp only[ae,h1] at h ⊢;have fin:∀v,s'=s.put d v->∀o,o=some (s2.put d v)->∃s2',o=some s2'/\EnvR (wr (.len d kd x)) s'.env s2.env s2'.env/\HRes (if kd=2 then 2 else 0) s s' s2 s2':=by rintro v rfl o rfl;refine⟨_,rfl,(EnvR.put1 d v).congr (λt=>by simp[wr,cg]),?_⟩;split<;>exact⟨rfl,rfl,rfl,rfl⟩
 split at h
 ·rename_i hp;cases h;exact fin _ rfl _ (by simp)
 ·rename_i hp;cases h;exact fin _ rfl _ (by simp)
 ·rename_i hp;cases h;exact fin _ rfl _ (by simp)
 ·rename_i hp;cases h;exact fin _ rfl _ (by simp)
 ·rename_i hp;cases h;exact fin _ rfl _ (by simp)
 ·rename_i hp;cases h;exact fin _ rfl _ (by simp)
 ·rename_i b hp
  split at h
  ·rename_i es hes
   cases h;exact fin _ rfl _ (by simp[ux (show HOk 2 s s2 from hh) hes])
  ·cases h
 ·cases h
theorem Bi:dX cf (.mkmap d):=by intro s s2 ha hh s' h;obtain⟨e2,l2,g2⟩:=s2;obtain⟨rfl,rfl⟩:=hh;simp only[ae,bU] at h;subst h;exact⟨_,rfl,(EnvR.put1 d _).congr (λt=>by simp[wr,cg]),rfl,⟨_,rfl⟩,rfl,rfl⟩
theorem Bj {els:List IX}:dX cf (.buildSlK d els):=by
 intro s s2 ha hh s' h;obtain⟨e2,l2,g2⟩:=s2;obtain⟨rfl,rfl⟩:=hh;have h1:cZ e2 els=cZ s.env els:=hU (λt ht=>ha t (by simp[rd,ht]));simp only[ae,h1,aC] at h ⊢;obtain⟨vs,hvs,h⟩:=h;split at h
 ·rename_i hc
  cases h;refine⟨(⟨e2,s.lh,s.gh++[.stk 0 vs]⟩:St).put d (.stk s.gh.length 0 vs.length),⟨vs,hvs,by rw[if_pos hc]⟩,?_,rfl,⟨_,rfl⟩,rfl,rfl⟩;exact (EnvR.put1 d (.stk s.gh.length 0 vs.length)).congr (λt=>by simp[wr,cg])
 ·cases h
theorem Bk {g g2:Nat} {xs ys:List PV} (h:gh[b]?=some (.stk g xs)):(gh.set b (.stk g2 ys)).map GObj.deg=gh.map GObj.deg:=by
 apply List.ext_getElem?;intro j;rw[aB,aB,cF];by_cases hj:b=j
 ·subst hj
  have hl:=(aD.1 h).1;rw[if_pos rfl,if_pos hl,h];rfl
 ·simp[hj]
theorem Bl:dX cf (.appendK d bytes sx x):=by
 intro s s2 ha hh s' h;obtain⟨e2,l2,g2⟩:=s2;obtain⟨rfl,rfl⟩:=hh;have h1:ah e2 x=ah s.env x:=cr (λt ht=>ha t (by simp[rd,ht]));have h2:ah e2 sx=ah s.env sx:=cr (λt ht=>ha t (by simp[rd,ht]));simp only[ae,h1,h2,aC] at h ⊢;obtain⟨xv,hxv,ys,hys,h⟩:=h;split at h
 ·rename_i b gen n hsv
  split at h
  ·rename_i g xs hg
   split at h
   ·rename_i hc
    cases h;refine⟨(⟨e2,s.lh,s.gh.set b (.stk (g+1) (xs.take n++ys))⟩:St).put d (.stk b (g+1) (n+ys.length)),⟨xv,hxv,ys,hys,by rw[if_pos hc]⟩,(EnvR.put1 d (.stk b (g+1) (n+ys.length))).congr (λt=>by simp[wr,cg]),rfl,Bk hg,rfl,rfl⟩
   ·cases h
  ·cases h
 ·cases h
theorem Bm:dX cf (.loadK d x):=by
 intro s s2 ha hh s' h;obtain⟨e2,l2,g2⟩:=s2;obtain rfl:g2=s.gh:=hh;have h1:ah e2 x=ah s.env x:=cr (λt ht=>ha t (by simp[rd,ht]));simp only[ae,h1] at h ⊢;split at h
 ·simp only[aE] at h
  obtain⟨v,hv,rfl⟩:=h;exact⟨(⟨e2,l2,s.gh⟩:St).put d v,by simp[hv],(EnvR.put1 d v).congr (λt=>by simp[wr,cg]),rfl,rfl,rfl,rfl⟩
 ·cases h
theorem Bn {g:Bool} {l:IX}:dX cf (.mksl d g z bytes zero l):=by
 cases g with
 |false=>exact fills_mksl.local rfl rfl
 | true=>
  intro s s2 ha hh s' h;obtain⟨e2,l2,g2⟩:=s2;obtain⟨rfl,rfl⟩:=hh;have h1:ah e2 l=ah s.env l:=cr (λt ht=>ha t (by simp[rd,ht]));simp only[ae,h1] at h ⊢;split at h
  ·rename_i k n hp
   split at h
   ·rename_i hc
    cases h;refine⟨_,by rw[if_pos hc],?_,?_⟩
    ·exact (EnvR.put1 d _).congr (λt=>by simp[wr,cg])
    ·exact⟨rfl,rfl⟩
   ·cases h
  ·cases h
theorem kG (s:St) (g:Bool) (b:Nat) (cs:List PV):(s.setCells g b cs).env=s.env:=by cases g<;>rfl
theorem qK (h:cs[off]?=some v):(bj cs off [aa v]).map aa=cs.map aa:=by
 have hlt:=(aD.1 h).1;apply List.ext_getElem?;intro i;rw[aB,aB,bj,gq _ _ _ _ (by simp;omega)];by_cases h1:i<off
 ·rw[if_pos h1]
 ·rw[if_neg h1]
  by_cases h2:i=off
  ·subst h2
   have hd:aa (aa v)=aa v:=by cases v<;>rfl
   simp[h,hd]
  ·rw[if_neg (by simp;omega)]
theorem qL {α β:Type} (f:α->β) {l:List α} {x y:α} (h:l[b]?=some x) (he:f y=f x):(l.set b y).map f=l.map f:=by
 apply List.ext_getElem?;intro k;rw[aB,aB,cF];by_cases hk:b=k
 ·subst hk
  obtain⟨this,rfl⟩:=aD.1 h;simp[this,he]
 ·simp[hk]
theorem uz:dX cf (.loadT d x):=by
 intro s s2 ha hh s' h;obtain⟨e2,l2,g2⟩:=s2;obtain⟨rfl,rfl⟩:=hh;have h1:ah e2 x=ah s.env x:=cr (λt ht=>ha t (by simp[rd,ht]));simp only[ae,h1] at h ⊢;split at h
 ·rename_i g b off hp
  simp only[aC,aE] at h;obtain⟨cs,hc,v,hv,rfl⟩:=h;have hc2:St.cellsAt ⟨e2,s.lh,s.gh⟩ g b=some cs:=hc;refine⟨(St.setCells ⟨e2,s.lh,s.gh⟩ g b (bj cs off [aa v])).put d v,by simp[hc2,hv],?_,?_⟩
  ·simp only[St.put,kG]
   exact (EnvR.put1 d v).congr (λt=>by simp[wr,cg])
  ·cases g with
   |false=>exact⟨qL (List.map aa) (show s.lh[b]?=some cs from hc) (qK hv),rfl,rfl,rfl⟩
   | true=>
    have hg:s.gh[b]?=some (.cells cs):=by
     simp only[St.cellsAt,if_true] at hc;split at hc
     ·rename_i hx;cases hc;exact hx
     ·cases hc
    exact⟨rfl,qL GObj.deg hg (by simp[GObj.deg,qK hv]),rfl,rfl⟩
 ·cases h
theorem Bo:dX cf (.loadL d x):=by
 intro s s2 ha hh s' h;obtain⟨e2,l2,g2⟩:=s2;obtain⟨rfl,rfl⟩:=hh;have h1:ah e2 x=ah s.env x:=cr (λt ht=>ha t (by simp[rd,ht]));simp only[ae,h1] at h ⊢;split at h
 ·rename_i b off hp
  simp only[aC,aE] at h;obtain⟨cs,hc,v,hv,rfl⟩:=h;refine⟨(⟨e2,s.lh.set b (bj cs off [aa v]),s.gh⟩:St).put d v,by simp[hc,hv],(EnvR.put1 d v).congr (λt=>by simp[wr,cg]),qL (List.map aa) hc (qK hv),rfl,rfl,rfl⟩
 ·cases h
theorem Bp:dX cf (.store tk k x y):=by
 intro s s2 ha hh s' h;obtain⟨e2,l2,g2⟩:=s2;obtain⟨rfl,rfl⟩:=hh;have h1:ah e2 x=ah s.env x:=cr (λt ht=>ha t (by simp[rd,ht]));have h2:ah e2 y=ah s.env y:=cr (λt ht=>ha t (by simp[rd,ht]));simp only[ae,h1,h2] at h ⊢;split at h
 ·rename_i g b off hp
  split at h
  ·rename_i htk
   subst htk;simp only[aC,Prod.exists] at h;obtain⟨v,e1,hv,cs,hc,h⟩:=h;split at h
   ·rename_i hk
    cases h;obtain⟨e3,t1,t2⟩:=kF (e2:=e2) (λt ht=>ha t (by simp[rd,ht])) hv;have hc2:St.cellsAt ⟨e3,s.lh,s.gh⟩ g b=some cs:=hc;refine⟨St.setCells ⟨e3,s.lh,s.gh⟩ g b (bj cs off v.cells),by simp[t1,hc2,hk],?_,?_⟩
    ·simp only[kG]
     exact t2.congr (λt=>by simp[wr,cg])
    ·cases g<;>exact⟨rfl,rfl⟩
   ·cases h
  ·rename_i htk
   simp only[Bool.not_eq_true] at htk;subst htk;simp only[aC] at h;obtain⟨v,hv,cs,hc,h⟩:=h;split at h
   ·rename_i hk
    cases h;have hc2:St.cellsAt ⟨e2,s.lh,s.gh⟩ g b=some cs:=hc;refine⟨St.setCells ⟨e2,s.lh,s.gh⟩ g b (bj cs off v.cells),by simp[hv,hc2,hk],?_,?_⟩
    ·simp only[kG]
     exact EnvR.refl (λt=>by simp[wr,cg])
    ·cases g<;>exact⟨rfl,rfl⟩
   ·cases h
 ·cases h
theorem Bq {k:IX}:dX cf (.mupd kn m k x):=by
 intro s s2 ha hh s' h;obtain⟨e2,l2,g2⟩:=s2;obtain⟨rfl,rfl⟩:=hh;have h1:ah e2 m=ah s.env m:=cr (λt ht=>ha t (by simp[rd,ht]));have h2:ah e2 k=ah s.env k:=cr (λt ht=>ha t (by simp[rd,ht]));have h3:ah e2 x=ah s.env x:=cr (λt ht=>ha t (by simp[rd,ht]));simp only[ae,h1,h2,h3] at h ⊢;split at h
 ·rename_i b kv v hp hkv hv
  split at h
  ·rename_i es hes
   split at h
   ·rename_i hc
    simp only[aE] at h;obtain⟨es',hs,rfl⟩:=h;refine⟨⟨e2,s.lh,s.gh.set b (.map es')⟩,?_,EnvR.refl (λt=>by simp[wr,cg]),rfl,rfl⟩;rw[if_pos hc,hs];rfl
   ·cases h
  ·cases h
 ·cases h
theorem qM (d:Option Nat) (v:PV):EnvR d.toList (eu e d v) e2 (eu e2 d v):=by
 cases d with
 |none=>exact EnvR.refl (by simp)
 |some d=>exact EnvR.put (by simp)
theorem lN {d:Option Nat} {vs:List PV} (hh:HOk (if q then 1 else 5) s s2) (h:dV cf s d q f vs=some s') :
  ∃s2',dV cf s2 d q f vs=some s2'/\EnvR d.toList s'.env s2.env s2'.env/\HRes (if q then 1 else 5) s s' s2 s2':=by
 have hgh:s2.gh=s.gh:=by
  cases q
  ·exact hh.2
  ·exact hh
 unfold dV at h ⊢;split at h
 ·rename_i hok
  rw[if_pos hok,hgh];split at h
  ·rename_i r gh' hc
   split at h
   ·rename_i hq
    subst hq;split at h
    ·rename_i he
     cases h;refine⟨⟨eu s2.env d r,s2.lh,s2.gh⟩,by simp[he,hgh],qM d r,rfl,rfl,rfl,rfl⟩
    ·cases h
   ·rename_i hq
    simp only[Bool.not_eq_true] at hq;subst hq;cases h;exact⟨⟨eu s2.env d r,s2.lh,gh'⟩,by simp,qM d r,hh.1,rfl⟩
  ·cases h
 ·cases h
theorem Br {d:Option Nat}:dX cf (.call d q f xs):=by intro s s2 ha hh s' h;have h1:cZ s2.env xs=cZ s.env xs:=hU (λt ht=>ha t (by simp[rd,ht]));simp only[ae,h1,aC] at h ⊢;obtain⟨vs,hv,h⟩:=h;obtain⟨s2',c1,c2,c3⟩:=lN (s2:=s2) hh h;exact⟨s2',⟨vs,hv,c1⟩,by simpa [wr,cg] using c2,c3⟩
theorem Bs {d:Option Nat} {f:IX}:dX cf (.callv d q f xs):=by
 intro s s2 ha hh s' h;have h0:ah s2.env f=ah s.env f:=cr (λt ht=>ha t (by simp[rd,ht]));have h1:cZ s2.env xs=cZ s.env xs:=hU (λt ht=>ha t (by simp[rd,ht]));simp only[ae,h0,h1] at h ⊢;split at h
 ·rename_i f caps hp
  simp only[aC] at h;obtain⟨vs,hv,h⟩:=h;obtain⟨s2',c1,c2,c3⟩:=lN (s2:=s2) hh h;exact⟨s2',by simp[hv,c1],by simpa [wr,cg] using c2,c3⟩
 ·rename_i f caps hp
  simp only[aC] at h;obtain⟨vs,hv,h⟩:=h;obtain⟨s2',c1,c2,c3⟩:=lN (s2:=s2) hh h;exact⟨s2',by simp[hv,c1],by simpa [wr,cg] using c2,c3⟩
 ·cases h
theorem Bt:dX cf (.storeK y x):=by
 intro s s2 ha hh s' h;obtain⟨e2,l2,g2⟩:=s2;obtain⟨rfl,rfl⟩:=hh;have h1:ah e2 y=ah s.env y:=cr (λt ht=>ha t (by simp[rd,ht]));have h2:ah e2 x=ah s.env x:=cr (λt ht=>ha t (by simp[rd,ht]));simp only[ae,h1,h2] at h ⊢;split at h
 ·rename_i b gen i v _ _
  split at h
  ·rename_i g xs hg
   split at h
   ·rename_i hc
    cases h;exact⟨⟨e2,s.lh,s.gh.set b (.stk g (xs.set i v))⟩,by rw[if_pos hc],EnvR.refl (λt=>by simp[wr,cg]),rfl,rfl⟩
   ·cases h
  ·cases h
 ·cases h
theorem Bu:dX cf (.clearK x):=by
 intro s s2 ha hh s' h;obtain⟨e2,l2,g2⟩:=s2;obtain⟨rfl,rfl⟩:=hh;have h1:ah e2 x=ah s.env x:=cr (λt ht=>ha t (by simp[rd,ht]));simp only[ae,h1] at h ⊢;split at h
 ·rename_i b gen off n _
  split at h
  ·rename_i g xs hg
   split at h
   ·rename_i hc
    cases h;exact⟨⟨e2,s.lh,s.gh.set b (.stk g (xs.take off++List.replicate n (.int .i64 0)++xs.drop (off+n)))⟩,by rw[if_pos hc],EnvR.refl (λt=>by simp[wr,cg]),rfl,rfl⟩
   ·cases h
  ·cases h
 ·cases h
theorem Bv {d:Option Nat}:dX cf (.callF d f xs):=by
 intro s s2 ha hh s' h;have h1:cZ s2.env xs=cZ s.env xs:=hU (λt ht=>ha t (by simp[rd,ht]));simp only[ae,h1,aC] at h ⊢;obtain⟨vs,hv,h⟩:=h;unfold ix at h;split at h
 ·rename_i hok
  split at h
  ·rename_i r hc
   split at h
   ·rename_i hr
    cases h;refine⟨⟨eu s2.env d r,s2.lh,s2.gh⟩,⟨vs,hv,?_⟩,by simpa [wr,cg] using qM (e:=s.env) (e2:=s2.env) d r,rfl,rfl,rfl,rfl⟩;unfold ix;rw[if_pos hok,hc];simp[hr]
   ·cases h
  ·cases h
 ·cases h
theorem Bw:dX cf (.append d z bytes sx x):=by
 intro s s2 ha hh s' h;have h1:ah s2.env x=ah s.env x:=cr (λt ht=>ha t (by simp[rd,ht]));simp only[ae,h1,aC] at h ⊢;obtain⟨xv,hxv,h⟩:=h;cases xv with
 | sl o2 z2 ys=>
  simp only[aC,Prod.exists] at h;obtain⟨v,e1,hv,h⟩:=h;cases v with
  | sl o z1 xs=>
   simp only at h;split at h
   ·rename_i hc
    cases h;obtain⟨e3,t1,t2⟩:=kF (e2:=s2.env) (λt ht=>ha t (by simp[rd,ht])) hv;refine⟨⟨Lw.put e3 d (.sl true z (xs++ys)),s2.lh,s2.gh⟩,⟨_,hxv,by simp only[t1,cC];rw[if_pos hc]⟩,?_,rfl,rfl,rfl,rfl⟩;exact (t2.thenPut d _).congr (λt=>by simp[wr,cg];exact or_comm)
   ·cases h
  |_=>cases h
 |_=>cases h
theorem kH {gh':List GObj} (h:get e2 n=get e n) (hk:keptB e gh gh' n):keptB e2 gh gh' n:=by unfold keptB at *;rw[h];exact hk
theorem Bx {d:Option Nat} {ns:List Nat}:dX cf (.callP d f xs ns):=by
 intro s s2 ha hh s' h;have h1:cZ s2.env xs=cZ s.env xs:=hU (λt ht=>ha t (by simp[rd,ht]));have hg:s2.gh=s.gh:=hh.2;simp only[ae,h1,aC] at h ⊢;obtain⟨vs,hv,s1,h2,h3⟩:=h;split at h3
 ·rename_i hk
  cases h3;obtain⟨s2',c1,c2,c3⟩:=lN (q:=false) (s2:=s2) hh h2;refine⟨s2',⟨vs,hv,s2',c1,?_⟩,by simpa [wr,cg] using c2,c3⟩;have hg':s2'.gh=s'.gh:=c3.2;rw[if_pos (λn hn=>by rw[hg,hg'];exact kH (ha n (by simp[rd,hn])) (hk n hn))]
 ·cases h3
theorem By {d:Option Nat}:dX cf (.callR d f xs n o2):=by
 intro s s2 ha hh s' h;have h1:cZ s2.env xs=cZ s.env xs:=hU (λt ht=>ha t (by simp[rd,ht]));have h2:get s2.env n=get s.env n:=ha n (by simp[rd]);have hg:s2.gh=s.gh:=hh.2;simp only[ae,h1,h2,aC] at h ⊢;obtain⟨vs,hv,h⟩:=h;split at h
 ·rename_i b off hp
  unfold fX at h ⊢;simp only[aC,hg] at h ⊢;obtain⟨s1,h3,g1,h4,g2,h5,r1,h6,r2,h7,h8⟩:=h;split at h8
  ·rename_i hk
   cases h8;obtain⟨s2',c1,c2,c3⟩:=lN (q:=false) (s2:=s2) hh h3;exact⟨s2',⟨vs,hv,s2',c1,g1,h4,g2,h5,r1,h6,r2,h7,by rw[if_pos hk]⟩,by simpa [wr,cg] using c2,c3⟩
  ·cases h8
 ·cases h
theorem Bz:dX cf (.appendE d bytes sx x):=by
 intro s s2 ha hh s' h;obtain⟨e2,l2,g2⟩:=s2;obtain rfl:g2=s.gh:=hh;have h1:ah e2 x=ah s.env x:=cr (λt ht=>ha t (by simp[rd,ht]));simp only[ae,h1,aC,Prod.exists] at h ⊢;obtain⟨xv,hxv,ys,hys,v,e1,hv,h⟩:=h;cases v with
 | sl o z1 xs=>
  simp only at h;split at h
  ·rename_i hc
   cases h;obtain⟨e3,t1,t2⟩:=kF (e2:=e2) (λt ht=>ha t (by simp[rd,ht])) hv;refine⟨⟨Lw.put e3 d (.sl true 1 (xs++ys)),l2,s.gh⟩,⟨xv,hxv,ys,hys,_,_,t1,by simp only;rw[if_pos hc]⟩,?_,rfl,rfl,rfl,rfl⟩;exact (t2.thenPut d _).congr (λt=>by simp[wr,cg];exact or_comm)
  ·cases h
 |_=>cases h
theorem BA (h:ae cf s (.loadTB d x n o2)=some s'):ae cf s (.loadT d x)=some s':=by
 simp only[ae] at h ⊢;split at h
 ·rename_i hp _
  split at h
  ·rw[hp];exact h
  ·cases h
 ·cases h
theorem BE:dX cf (.loadTB d x n o2):=by
 intro s s2 ha hh s' h;have h1:ah s2.env x=ah s.env x:=cr (λt ht=>ha t (by simp[rd,ht]));have h2:get s2.env n=get s.env n:=ha n (by simp[rd]);obtain⟨s2',c1,c2,c3⟩:=uz (cf:=cf) (d:=d) (x:=x) s s2 (λt ht=>ha t (by simp only[rd,List.mem_cons] at ht ⊢;exact .inr ht)) hh s' (BA h);refine⟨s2',?_,c2,c3⟩;simp only[ae,h1,h2] at h c1 ⊢;split at h
 ·rename_i hp _
  split at h
  ·rename_i hb
   rw[if_pos hb];rw[hp] at c1;exact c1
  ·cases h
 ·cases h
theorem BF {agg:Bool}:dX cf (.loadB d agg k x n):=by
 intro s s2 ha hh s' h;have h1:ah s2.env x=ah s.env x:=cr (λt ht=>ha t (by simp[rd,ht]));have h2:get s2.env n=get s.env n:=ha n (by simp[rd]);simp only[ae,h1,h2] at h ⊢;split at h
 ·rename_i b off b' o' hp hq
  split at h
  ·rename_i hne
   simp only[aC,aE] at h;obtain⟨cs,hc,v,hv,rfl⟩:=h;obtain⟨cs2,hc2,he⟩:=qH hh hc;obtain⟨v2,hv2,he2⟩:=qJ he hv;refine⟨s2.put d (degr v),by simp[hne,hc2,hv2,he2]<;>(subst hne;simp[hc2,hv2,he2]),(EnvR.put1 d _).congr (λt=>by simp[wr,cg]),rfl,rfl,rfl,rfl⟩
  ·cases h
 ·cases h
theorem BG {agg:Bool}:dX cf (.loadJ d agg k x):=by
 intro s s2 ha hh s' h;have h1:ah s2.env x=ah s.env x:=cr (λt ht=>ha t (by simp[rd,ht]));simp only[ae,h1] at h ⊢;split at h
 ·rename_i b off hp
  simp only[aC,aE] at h;obtain⟨cs,hc,v,hv,rfl⟩:=h;obtain⟨cs2,hc2,he⟩:=qH hh hc;obtain⟨v2,hv2,he2⟩:=qJ he hv;exact⟨s2.put d (degr v),by simp[hc2,hv2,he2],(EnvR.put1 d _).congr (λt=>by simp[wr,cg]),rfl,rfl,rfl,rfl⟩
 ·cases h
theorem qN (i:IOp):dX cf i:=by
 cases i with
 |callP=>exact Bx
 |callR=>exact By
 |loadB=>exact BF
 |appendE=>exact Bz
 |loadKB=>exact λ_ _ _ _ _ h=>by simp[ae] at h
 |loadTB=>exact BE
 |loadJ=>exact BG
 |appendP=>exact λ_ _ _ _ _ h=>by simp[ae] at h
 |mkarr=>exact λ_ _ _ _ _ h=>by simp[ae] at h
 |buildA=>exact λ_ _ _ _ _ h=>by simp[ae] at h
 |boxSl=>exact λ_ _ _ _ _ h=>by simp[ae] at h
 |tk=>exact Bb
 |box=>exact Bc
 |alloc=>exact Bd
 |buildT=>exact Be
 |load=>exact Bf
 |loadN=>exact λ_ _ _ _ _ h=>by simp[ae] at h
 |lookup=>exact Bg
 |len=>exact Bh
 |mkmap=>exact Bi
 |mkbld=>exact λ_ _ _ _ _ h=>by simp[ae] at h
 |boxB=>exact λ_ _ _ _ _ h=>by simp[ae] at h
 |mksl=>exact Bn
 |loadT=>exact uz
 |loadL=>exact Bo
 |store=>exact Bp
 |mupd=>exact Bq
 |call=>exact Br
 |callv=>exact Bs
 |callF=>exact Bv
 |callE=>exact λ_ _ _ _ _ h=>by simp[ae] at h
 |append=>exact Bw
 |appendK=>exact Bl
 |appendN=>exact λ_ _ _ _ _ h=>by simp[ae] at h
 |buildSlK=>exact Bj
 |loadK=>exact Bm
 |loadH=>exact λ_ _ _ _ _ h=>by simp[ae] at h
 |mv=>exact fills_mv.local rfl rfl
 |loadG=>exact λ_ _ _ _ _ h=>by simp[ae] at h
 |pick=>exact fills_pick.local rfl rfl
 |build=>exact fills_build.local rfl rfl
 |buildSl=>exact fills_buildSl.local rfl rfl
 |nilc=>exact fills_nilc.local rfl rfl
 |bin=>exact fills_bin.local rfl rfl
 |eqa=>exact fills_eqa.local rfl rfl
 |eqb=>exact fills_eqb.local rfl rfl
 |eqn=>exact λ_ _ _ _ _ h=>by simp[ae] at h
 |un=>exact fills_un.local rfl rfl
 |conv=>exact λ_ _ _ _ _ h=>by simp[ae] at h
 |mkfn=>exact fills_mkfn.local rfl rfl
 |mkbf=>exact fills_mkbf.local rfl rfl
 |storeK=>exact Bt
 |clearK=>exact Bu
 |slice=>exact fills_slice.local rfl rfl
 |sliceS=>exact λ_ _ _ _ _ h=>by simp[ae] at h
 |faddr=>exact fills_faddr.local rfl rfl
 |field=>exact λ_ _ _ _ _ h=>by simp[ae] at h
 |iaddr=>exact fills_iaddr.local rfl rfl
 |index=>exact fills_index.local rfl rfl
 |indexS=>exact λ_ _ _ _ _ h=>by simp[ae] at h
 |maxi=>exact λ_ _ _ _ _ h=>by simp[ae] at h
 |extract=>exact fills_extract.local rfl rfl
end
end
section
open Go.RowKit
variable {t c:Nat}
section
variable {s s' s1 s2 t1 t2:St} {cf:CallF}
def jU (c:Nat) (s s' s2 s2':St):Prop:=
 match c with
 |0|1|2|8=>s'.lh=s.lh/\s'.gh=s.gh/\s2'.lh=s2.lh/\s2'.gh=s2.gh
 |3=>(∀(b:Nat) (cs:List PV),s.lh[b]?=some cs->s'.lh[b]?=some cs)/\s'.gh=s.gh/\s2'.lh=s'.lh/\s2'.gh=s'.gh
 |4=>s'.lh=s.lh/\(∀(b:Nat) (o:GObj),s.gh[b]?=some o->s'.gh[b]?=some o)/\s2'.lh=s'.lh/\s2'.gh=s'.gh
 |6=>s'.lh.map (List.map aa)=s.lh.map (List.map aa)/\s'.gh=s.gh/\s2'.lh=s'.lh/\s2'.gh=s'.gh
 |7=>s'.lh.map (List.map aa)=s.lh.map (List.map aa)/\s'.gh.map GObj.deg=s.gh.map GObj.deg/\s2'.lh=s'.lh/\s2'.gh=s'.gh
 |9=>s'.lh=s.lh/\(∀(b:Nat) (o:GObj),s.gh[b]?=some o->∃o2,s'.gh[b]?=some o2/\o2.deg=o.deg)/\s2'.lh=s'.lh/\s2'.gh=s'.gh
 |_=>s2'.lh=s'.lh/\s2'.gh=s'.gh
theorem HRes.two {c:Nat} (h:HRes c s s' s2 s1):jU c s s' s2 s1:=by
 match c,h with
 |0,h=>exact h
 |1,h=>exact h
 |2,h=>exact h
 |3,⟨⟨cs,h1⟩,h2⟩=>exact⟨λb cs' hb=>by rw[h1,aJ (aD.1 hb).1];exact hb,h2⟩
 |4,⟨h0,⟨o,h1⟩,h2⟩=>exact⟨h0,λb o' hb=>by rw[h1,aJ (aD.1 hb).1];exact hb,h2⟩
 |5,h=>exact h
 |6,h=>exact h
 |7,h=>exact h
 |8,h=>exact h
 |9,h=>exact h
 |n+10,h=>exact h
def rdG (i:IOpG):List Nat:=(match i.guard with|some (g,_)=>[g]|none=>[])++rd i.op
theorem uA {i:IOp} (h:t∈wr i):cg i=some t\/t∈rd i:=by
 simp only[wr,bY,Option.mem_toList] at h;rcases h with h|h
 ·exact .inl h
 ·right
  split at h<;>first|(simp at h;done)|(simpa [rd] using h)|(simp[rd];first|exact .inl h|exact .inr h|exact h)
theorem lO (i:IOpG) (ha:∀t∈rdG i,get s2.env t=get s.env t) (hh:HOk (cls i.op) s s2) (h:opG cf i s=some s') :
  ∃s2',opG cf i s2=some s2'/\EnvR (wr i.op) s'.env s2.env s2'.env/\jU (cls i.op) s s' s2 s2':=by
 have hstep:∀s',ae cf s i.op=some s'->∃s2',ae cf s2 i.op=some s2'/\EnvR (wr i.op) s'.env s2.env s2'.env/\jU (cls i.op) s s' s2 s2':=λs' hs=>by obtain⟨s2',h1,h2,h3⟩:=qN i.op s s2 (λt ht=>ha t (by simp[rdG,ht])) hh s' hs;exact⟨s2',h1,h2,h3.two⟩
 have hskip:EnvR (wr i.op) (eF s i.op).env s2.env (eF s2 i.op).env/\jU (cls i.op) s (eF s i.op) s2 (eF s2 i.op):=by
  refine⟨λt=>?_,?_⟩
  ·by_cases ht:t∈wr i.op
   ·rw[if_pos ht]
    unfold eF;cases hd:cg i.op with
    |none=>
     have:=(uA ht).resolve_left (by simp[hd]);exact ha t (by simp[rdG,this])
    | some d=>
     simp only[St.put,eg];by_cases hdt:d=t
     ·simp[hdt]
     ·have:=(uA ht).resolve_left (by simp[hd,hdt])
      simp only[hdt,if_false];exact ha t (by simp[rdG,this])
   ·rw[if_neg ht]
    unfold eF;cases hd:cg i.op with
    |none=>rfl
    |some d=>
     have:d≠t:=λe=>ht (by subst e;simp[wr,hd])
     simp[St.put,eg,this]
  ·have e1:(eF s i.op).lh=s.lh/\(eF s i.op).gh=s.gh:=by unfold eF;cases cg i.op<;>exact⟨rfl,rfl⟩
   have e2:(eF s2 i.op).lh=s2.lh/\(eF s2 i.op).gh=s2.gh:=by unfold eF;cases cg i.op<;>exact⟨rfl,rfl⟩
   generalize cls i.op=c at hh
   match c,hh with
   |0,_=>exact⟨e1.1,e1.2,e2.1,e2.2⟩
   |1,_=>exact⟨e1.1,e1.2,e2.1,e2.2⟩
   |2,_=>exact⟨e1.1,e1.2,e2.1,e2.2⟩
   |3,⟨h1,h2⟩=>exact⟨λb cs hb=>by rw[e1.1];exact hb,e1.2,by rw[e1.1,e2.1,h1],by rw[e1.2,e2.2,h2]⟩
   |4,⟨h1,h2⟩=>exact⟨e1.1,λb cs hb=>by rw[e1.2];exact hb,by rw[e1.1,e2.1,h1],by rw[e1.2,e2.2,h2]⟩
   |5,⟨h1,h2⟩=>exact⟨by rw[e1.1,e2.1,h1],by rw[e1.2,e2.2,h2]⟩
   |6,⟨h1,h2⟩=>exact⟨by rw[e1.1],e1.2,by rw[e1.1,e2.1,h1],by rw[e1.2,e2.2,h2]⟩
   |7,⟨h1,h2⟩=>exact⟨by rw[e1.1],by rw[e1.2],by rw[e1.1,e2.1,h1],by rw[e1.2,e2.2,h2]⟩
   |8,_=>exact⟨e1.1,e1.2,e2.1,e2.2⟩
   |9,⟨h1,h2⟩=>exact⟨e1.1,λb o hb=>⟨o,by rw[e1.2];exact hb,rfl⟩,by rw[e1.1,e2.1,h1],by rw[e1.2,e2.2,h2]⟩
   |n+10,⟨h1,h2⟩=>exact⟨by rw[e1.1,e2.1,h1],by rw[e1.2,e2.2,h2]⟩
 unfold opG at h ⊢;cases hg:i.guard with
 |none=>rw[hg] at h;exact hstep s' h
 | some q=>
  obtain⟨g,want⟩:=q;rw[hg] at h;have hgg:get s2.env g=get s.env g:=ha g (by simp[rdG,hg]);simp only at h ⊢;rw[hgg];split at h
  ·split at h
   ·rename_i hw
    simp only[hw,if_true];exact hstep s' h
   ·rename_i hw
    cases h;simp only[if_neg hw];exact⟨_,rfl,hskip⟩
  ·cases h
   exact⟨_,rfl,hskip⟩
  ·cases h
theorem kI (i:IOpG) (h:opG cf i s=some s') (ht:t∉wr i.op):get s'.env t=get s.env t:=by
 have hh:HOk (cls i.op) s s:=by
  generalize cls i.op=c
  match c with
  |0=>trivial
  |1=>rfl
  |2=>exact⟨λ_ cs h=>⟨cs,h,rfl⟩,λ_ o h=>⟨o,h,rfl⟩⟩
  |3|4|5|6|7=>exact⟨rfl,rfl⟩
  |8=>exact (rfl:s.lh=s.lh)
  |9=>exact⟨rfl,rfl⟩
  |n+10=>exact⟨rfl,rfl⟩
 obtain⟨s2',h1,h2,_⟩:=lO (s2:=s) i (λ_ _=>rfl) hh h;rw[h] at h1;cases h1;have:=h2 t
 rwa [if_neg ht] at this
theorem BH (i:IOpG) (h:opG cf i s=some s'):jU (cls i.op) s s' s s':=by
 have hh:HOk (cls i.op) s s:=by
  generalize cls i.op=c
  match c with
  |0=>trivial
  |1=>rfl
  |2=>exact⟨λ_ cs h=>⟨cs,h,rfl⟩,λ_ o h=>⟨o,h,rfl⟩⟩
  |3|4|5|6|7=>exact⟨rfl,rfl⟩
  |8=>exact (rfl:s.lh=s.lh)
  |9=>exact⟨rfl,rfl⟩
  |n+10=>exact⟨rfl,rfl⟩
 obtain⟨s2',h1,_,h3⟩:=lO (s2:=s) i (λ_ _=>rfl) hh h;rw[h] at h1;cases h1;exact h3
def nn (p x:Nat):Bool:=p==0||(x==0||((decide (p<=2)&&decide (x<=2))||((p==1&&x==3)||((p==2&&x==3)||((p==2&&x==4)||((p==3&&x==1)||((p==1&&x==6)||((p==6&&x==1)||((p==2&&x==6)||((p==2&&x==7)||((p==6&&x==2)||((p==7&&x==2)||((p==4&&x==8)||((p==8&&x==8)||(p==2&&x==9)))))))))))))))
def gr (p x:IOpG):Bool:=(wr p.op).all (λt=> !(rdG x).contains t&& !(wr x.op).contains t)&&(wr x.op).all (λt=> !(rdG p).contains t)
def Eqv (s s2:St):Prop:=(∀t,get s2.env t=get s.env t)/\s2.lh=s.lh/\s2.gh=s.gh
theorem qO {p x:Nat} (h:nn p x=true):(p=0)\/(x=0)\/(p<=2/\x<=2)\/(p=1/\x=3)\/(p=2/\x=3)\/(p=2/\x=4)\/(p=3/\x=1)\/(p=1/\x=6)\/(p=6/\x=1)\/(p=2/\x=6)\/(p=2/\x=7)\/(p=6/\x=2)\/(p=7/\x=2)\/(p=4/\x=8)\/(p=8/\x=8)\/(p=2/\x=9):=by simpa only[nn,Bool.or_eq_true,aY,cX,aH] using h
theorem dj (hc:c<=2) (h:jU c s s' s2 s1):s'.lh=s.lh/\s'.gh=s.gh/\s1.lh=s2.lh/\s1.gh=s2.gh:=by
 match c,hc,h with
 |0,_,h=>exact h
 |1,_,h=>exact h
 |2,_,h=>exact h
theorem fm (h:jU c s s' s2 s1) (e1:s2.lh=s.lh) (e2:s2.gh=s.gh):s1.lh=s'.lh/\s1.gh=s'.gh:=by
 match c,h with
 |0,h=>exact⟨by rw[h.2.2.1,e1,h.1],by rw[h.2.2.2,e2,h.2.1]⟩
 |1,h=>exact⟨by rw[h.2.2.1,e1,h.1],by rw[h.2.2.2,e2,h.2.1]⟩
 |2,h=>exact⟨by rw[h.2.2.1,e1,h.1],by rw[h.2.2.2,e2,h.2.1]⟩
 |3,h=>exact h.2.2
 |4,h=>exact h.2.2
 |5,h=>exact h
 |6,h=>exact h.2.2
 |7,h=>exact h.2.2
 |8,h=>exact⟨by rw[h.2.2.1,e1,h.1],by rw[h.2.2.2,e2,h.2.1]⟩
 |9,h=>exact h.2.2
 |n+10,h=>exact h
theorem fe (e1:s2.lh=s.lh) (e2:s2.gh=s.gh):HOk c s s2:=by
 match c with
 |0=>trivial
 |1=>exact e2
 |2=>exact⟨λb cs h=>⟨cs,by rw[e1];exact h,rfl⟩,λb o h=>⟨o,by rw[e2];exact h,rfl⟩⟩
 |3|4|5|6|7=>exact⟨e1,e2⟩
 |8=>exact e1
 |9=>exact⟨e1,e2⟩
 |n+10=>exact⟨e1,e2⟩
theorem kJ {α β:Type} (f:α->β) {l l':List α} (h:l'.map f=l.map f) {b:Nat} {x:α} (hx:l[b]?=some x):∃y,l'[b]?=some y/\f y=f x:=by
 have h1:(l'.map f)[b]?=(l.map f)[b]?:=by rw[h]
 rw[aB,aB,hx] at h1;simpa using h1
theorem BI {p x:IOpG} (ha:gr p x=true) (hc:nn (cls p.op) (cls x.op)=true) (h1:opG cf p s=some s1) (h2:opG cf x s1=some s2) :
  ∃t1 t2,opG cf x s=some t1/\opG cf p t1=some t2/\Eqv s2 t2:=by
 simp only[gr,aY,bS,Bool.not_eq_true',List.contains_eq_mem,decide_eq_false_iff_not] at ha;obtain⟨a1,a2⟩:=ha;have r1:=BH p h1;have f1:=λt ht=>kI (t:=t) p h1 ht
 have f2:=λt ht=>kI (t:=t) x h2 ht
 have hx:HOk (cls x.op) s1 s:=by
  rcases qO hc with e|e|⟨e,_⟩|⟨e,_⟩|⟨e,_⟩|⟨e,_⟩|⟨e,e'⟩|⟨e,_⟩|⟨e,e'⟩|⟨e,_⟩|⟨e,_⟩|⟨e,e'⟩|⟨e,e'⟩|⟨e,e'⟩|⟨e,e'⟩|⟨e,e'⟩
  ·have:=dj (by omega) r1;exact fe this.1.symm this.2.1.symm
  ·rw[e];trivial
  ·have:=dj (by omega) r1;exact fe this.1.symm this.2.1.symm
  ·have:=dj (by omega) r1;exact fe this.1.symm this.2.1.symm
  ·have:=dj (by omega) r1;exact fe this.1.symm this.2.1.symm
  ·have:=dj (by omega) r1;exact fe this.1.symm this.2.1.symm
  ·rw[e] at r1;rw[e'];exact r1.2.1.symm
  ·have:=dj (by omega) r1;exact fe this.1.symm this.2.1.symm
  ·rw[e] at r1;rw[e'];exact r1.2.1.symm
  ·have:=dj (by omega) r1;exact fe this.1.symm this.2.1.symm
  ·have:=dj (by omega) r1;exact fe this.1.symm this.2.1.symm
  ·rw[e] at r1;rw[e'];exact⟨λb cs=>kJ _ r1.1.symm,λb o hb=>⟨o,by rw[<-r1.2.1];exact hb,rfl⟩⟩
  ·rw[e] at r1;rw[e'];exact⟨λb cs=>kJ _ r1.1.symm,λb o=>kJ _ r1.2.1.symm⟩
  ·rw[e] at r1;rw[e'];exact r1.1.symm
  ·rw[e] at r1;rw[e'];exact r1.1.symm
  ·have:=dj (by omega) r1;exact fe this.1.symm this.2.1.symm
 obtain⟨t1,g1,g2,g3⟩:=lO (s2:=s) x (λt ht=>(f1 t (λhw=>(a1 t hw).1 ht)).symm) hx h2;have hp:HOk (cls p.op) s t1:=by
  rcases qO hc with e|e|⟨e,e'⟩|⟨e,e'⟩|⟨e,e'⟩|⟨e,e'⟩|⟨e,e'⟩|⟨e,e'⟩|⟨e,e'⟩|⟨e,e'⟩|⟨e,e'⟩|⟨e,e'⟩|⟨e,e'⟩|⟨e,e'⟩|⟨e,e'⟩|⟨e,e'⟩
  ·rw[e];trivial
  ·have:=dj (by omega) g3;exact fe this.2.2.1 this.2.2.2
  ·have:=dj (by omega) g3;exact fe this.2.2.1 this.2.2.2
  ·rw[e'] at g3
   have:=dj (by omega) r1;rw[e];exact g3.2.2.2.trans (g3.2.1.trans this.2.1)
  ·rw[e'] at g3
   have:=dj (by omega) r1;rw[e];exact⟨λb cs hb=>⟨cs,by rw[g3.2.2.1];exact g3.1 b cs (by rw[this.1];exact hb),rfl⟩,λb o hb=>⟨o,by rw[g3.2.2.2,g3.2.1,this.2.1];exact hb,rfl⟩⟩
  ·rw[e'] at g3
   have:=dj (by omega) r1;rw[e];exact⟨λb cs hb=>⟨cs,by rw[g3.2.2.1,g3.1,this.1];exact hb,rfl⟩,λb o hb=>⟨o,by rw[g3.2.2.2];exact g3.2.1 b o (by rw[this.2.1];exact hb),rfl⟩⟩
  ·have:=dj (by omega) g3;exact fe this.2.2.1 this.2.2.2
  ·rw[e'] at g3
   have:=dj (by omega) r1;rw[e];exact g3.2.2.2.trans (g3.2.1.trans this.2.1)
  ·have:=dj (by omega) g3;exact fe this.2.2.1 this.2.2.2
  ·rw[e'] at g3
   have:=dj (by omega) r1;rw[e];refine⟨λb cs hb=>?_,λb o hb=>⟨o,by rw[g3.2.2.2,g3.2.1,this.2.1];exact hb,rfl⟩⟩;rw[g3.2.2.1];exact kJ _ g3.1 (by rw[this.1];exact hb)
  ·rw[e'] at g3
   have:=dj (by omega) r1;rw[e];refine⟨λb cs hb=>?_,λb o hb=>?_⟩
   ·rw[g3.2.2.1];exact kJ _ g3.1 (by rw[this.1];exact hb)
   ·rw[g3.2.2.2];exact kJ _ g3.2.1 (by rw[this.2.1];exact hb)
  ·have:=dj (by omega) g3;exact fe this.2.2.1 this.2.2.2
  ·have:=dj (by omega) g3;exact fe this.2.2.1 this.2.2.2
  ·rw[e'] at g3;exact fe g3.2.2.1 g3.2.2.2
  ·rw[e'] at g3;exact fe g3.2.2.1 g3.2.2.2
  ·rw[e'] at g3
   have:=dj (by omega) r1;rw[e];exact⟨λb cs hb=>⟨cs,by rw[g3.2.2.1,g3.1,this.1];exact hb,rfl⟩,λb o hb=>by rw[g3.2.2.2];exact g3.2.1 b o (by rw[this.2.1];exact hb)⟩
 obtain⟨t2,k1,k2,k3⟩:=lO (s2:=t1) p (λt ht=>by rw[g2 t,if_neg (λhw=>a2 t hw ht)]) hp h1;refine⟨t1,t2,g1,k1,λt=>?_,?_⟩
 ·rw[k2 t]
  by_cases hw:t∈wr p.op
  ·rw[if_pos hw,f2 t (a1 t hw).2]
  ·rw[if_neg hw,g2 t]
   by_cases hw2:t∈wr x.op
   ·rw[if_pos hw2]
   ·rw[if_neg hw2,f2 t hw2,f1 t hw]
 · -- the boxes
  rcases qO hc with e|e|⟨e,e'⟩|⟨e,e'⟩|⟨e,e'⟩|⟨e,e'⟩|⟨e,e'⟩|⟨e,e'⟩|⟨e,e'⟩|⟨e,e'⟩|⟨e,e'⟩|⟨e,e'⟩|⟨e,e'⟩|⟨e,e'⟩|⟨e,e'⟩|⟨e,e'⟩
  ·have q1:=dj (by omega) r1
   have q2:=dj (by omega) k3;have q3:=fm g3 q1.1.symm q1.2.1.symm;exact⟨q2.2.2.1.trans q3.1,q2.2.2.2.trans q3.2⟩
  ·have q2:=dj (by omega) g3
   have q3:=fm k3 q2.2.2.1 q2.2.2.2;exact⟨q3.1.trans q2.1.symm,q3.2.trans q2.2.1.symm⟩
  ·have q2:=dj (by omega) g3
   have q3:=fm k3 q2.2.2.1 q2.2.2.2;exact⟨q3.1.trans q2.1.symm,q3.2.trans q2.2.1.symm⟩
  ·have q1:=dj (by omega) r1
   have q2:=dj (by omega) k3;have q3:=fm g3 q1.1.symm q1.2.1.symm;exact⟨q2.2.2.1.trans q3.1,q2.2.2.2.trans q3.2⟩
  ·have q1:=dj (by omega) r1
   have q2:=dj (by omega) k3;have q3:=fm g3 q1.1.symm q1.2.1.symm;exact⟨q2.2.2.1.trans q3.1,q2.2.2.2.trans q3.2⟩
  ·have q1:=dj (by omega) r1
   have q2:=dj (by omega) k3;have q3:=fm g3 q1.1.symm q1.2.1.symm;exact⟨q2.2.2.1.trans q3.1,q2.2.2.2.trans q3.2⟩
  ·have q2:=dj (by omega) g3
   have q3:=fm k3 q2.2.2.1 q2.2.2.2;exact⟨q3.1.trans q2.1.symm,q3.2.trans q2.2.1.symm⟩
  ·have q1:=dj (by omega) r1
   have q2:=dj (by omega) k3;have q3:=fm g3 q1.1.symm q1.2.1.symm;exact⟨q2.2.2.1.trans q3.1,q2.2.2.2.trans q3.2⟩
  ·have q2:=dj (by omega) g3
   have q3:=fm k3 q2.2.2.1 q2.2.2.2;exact⟨q3.1.trans q2.1.symm,q3.2.trans q2.2.1.symm⟩
  ·have q1:=dj (by omega) r1
   have q2:=dj (by omega) k3;have q3:=fm g3 q1.1.symm q1.2.1.symm;exact⟨q2.2.2.1.trans q3.1,q2.2.2.2.trans q3.2⟩
  ·have q1:=dj (by omega) r1
   have q2:=dj (by omega) k3;have q3:=fm g3 q1.1.symm q1.2.1.symm;exact⟨q2.2.2.1.trans q3.1,q2.2.2.2.trans q3.2⟩
  ·have q2:=dj (by omega) g3
   have q3:=fm k3 q2.2.2.1 q2.2.2.2;exact⟨q3.1.trans q2.1.symm,q3.2.trans q2.2.1.symm⟩
  ·have q2:=dj (by omega) g3
   have q3:=fm k3 q2.2.2.1 q2.2.2.2;exact⟨q3.1.trans q2.1.symm,q3.2.trans q2.2.1.symm⟩
  ·have q2:=g3
   rw[e'] at q2;have q3:=fm k3 q2.2.2.1 q2.2.2.2;exact⟨q3.1.trans q2.1.symm,q3.2.trans q2.2.1.symm⟩
  ·have q2:=g3
   rw[e'] at q2;have q3:=fm k3 q2.2.2.1 q2.2.2.2;exact⟨q3.1.trans q2.1.symm,q3.2.trans q2.2.1.symm⟩
  ·have q1:=dj (by omega) r1
   have q2:=dj (by omega) k3;have q3:=fm g3 q1.1.symm q1.2.1.symm;exact⟨q2.2.2.1.trans q3.1,q2.2.2.2.trans q3.2⟩
end
end
section
variable {xs:List Int} {c:Nat} {caps:List PV} {gh:List GObj} {p:Int->Bool}
theorem Ea (ins:Int) (ands:List (Int×Int)) (gh:List GObj):ac pg 88 [fq ins ands] gh=some (I (WI.wrap (WI.wrap (1+ins)+ands.length)),gh):=by rw[rF (fn:=q6u) (s:=⟨[(2,I (WI.wrap (WI.wrap (1+ins)+ands.length)))],[],gh⟩) (e:= .ret) rfl rfl (qiq (by simp))];simp[am,results,q6u,ao,au,ai,ar,PV.one,PV.noG]
theorem vK {xs:List Int} {c:Nat} {caps:List PV} {gh:List GObj} {p:Int->Bool} (hc:∀x∈xs,ac pg c (I x::caps) gh=some (B (p x),gh)) (hcap:caps.all ar=true) (hs:Sz xs.length) :
  ∀k i,i+k=xs.length->ab pg q75 ⟨[(0,LI xs),(1,.fn c caps),(7,I xs.length),(8,I i)],[],gh⟩=
   match (xs.drop i).findIdx? p with
   |some j=>some (.ret,⟨[(4,I ((i+j:Nat)))],[],gh⟩)
   |none=>some (.normal,⟨[],[],gh⟩)
 |0,i,h=>by
  rw[aQ (by omega)];refine (cm (s1:=?s1) (q9z ?h1)).trans ?r1
  case h1=>simp[show i=xs.length by omega];rfl
  case r1=>simp[keep]
 | k+1,i,h=>by
  have hlt:i<xs.length:=by omega
  have hx:xs[i]?=some xs[i]:=aA hlt;rw[aL hlt,List.findIdx?_cons];cases hp:p xs[i] with
  |true=>
   refine (dJ (s1:=?s2) (q9z ?h2)).trans ?r2
   case h2=>simp[hlt,hx,kZ hcap,hc xs[i] (bX hlt),hp];rfl
   case r2=>simp
  | false=>
   refine bh (s1:=?s3) (q9z ?h3) ?r3
   case h3=>simp[hlt,hx,kZ hcap,hc xs[i] (bX hlt),hp];rfl
   case r3=>
    rw[gg (by omega)];refine (vK hc hcap hs k (i+1) (by omega)).trans ?_;cases (xs.drop (i+1)).findIdx? p<;>simp;omega
theorem Eb (hc:∀x∈xs,ac pg c (I x::caps) gh=some (B (p x),gh)) (hcap:caps.all ar=true) (hs:Sz xs.length) :
  ac pg 111 [LI xs,.fn c caps] gh=some (I (match xs.findIdx? p with|some j=>(j:Int)|none=> -1),gh):=by
 have hl:=vK hc hcap hs xs.length 0 (by omega);simp only[bL,cR,aX] at hl;cases hf:xs.findIdx? p with
 |some j=>
  rw[hf] at hl;refine aq (fn:=q1z) (s:=?s4) rfl rfl (qgc ?h4) ?r4
  case h4=>simp[hl];rfl
  case r4=>simp[am,results,q1z,ao,au,ai,ar,PV.one,PV.noG]
 |none=>
  rw[hf] at hl;refine aq (fn:=q1z) (s:=?s5) rfl rfl (qgc ?h5) ?r5
  case h5=>simp[hl,qit (s:=⟨[(4,I (-1))],[],gh⟩) (e:= .ret) rfl];rfl
  case r5=>simp[am,results,q1z,ao,au,ai,ar,PV.one,PV.noG]
theorem vL (hc:∀x∈xs,ac pg c (I x::caps) gh=some (B (p x),gh)) (hcap:caps.all ar=true) (hs:Sz xs.length) :
  ac pg 86 [LI xs,.fn c caps] gh=some (B (xs.any p),gh):=by
 refine aq (fn:=q6z) (s:=?s6) rfl rfl (qis ?h6) ?r6
 case h6=>simp[Eb hc hcap hs];rfl
 case r6=>
  have:(decide (0<=(match xs.findIdx? p with|some j=>(j:Int)|none=> -1)))=xs.any p:=by
   cases hf:xs.findIdx? p with
   |some j=>
    have:=List.findIdx?_eq_some_iff_getElem.1 hf;obtain⟨hj,hpj,_⟩:=this;simp only[Int.natCast_nonneg,decide_true];exact (List.any_eq_true.2 ⟨_,bX hj,hpj⟩).symm
   |none=>
    have:=List.findIdx?_eq_none_iff.1 hf;simp only[show decide ((0:Int)<= -1)=false by decide];exact (List.any_eq_false.2 λx hx=>by simp[this x hx]).symm
  simp[am,results,q6z,ao,au,ai,ar,PV.one,PV.noG,this]
end
theorem fz (x:Int×Int):aj x= .agg [I x.1,I x.2]:=rfl
def fT (l:List ((Int×Int)×PV)):List (PV×PV):=l.map λe=>(aj e.1,e.2)
def ij:List ((Int×Int)×PV)->Int×Int->PV->List ((Int×Int)×PV)
 |[],k,v=>[(k,v)]
 |(a,u)::l,k,v=>if k=a then (k,v)::l else (a,u)::ij l k v
def i9:List ((Int×Int)×PV)->Int×Int->Option PV
 |[],_=>none
 |(a,u)::l,k=>if k=a then some u else i9 l k
theorem nP (x y:Int×Int):eo 2 (aj x) (aj y)=some (decide (x=y)):=by
 obtain⟨a,b⟩:=x;obtain⟨c,d⟩:=y;by_cases h1:a=c
 ·by_cases h2:b=d<;>simp[eo,aj,eq,gV,h1,h2,List.replicate]
 ·simp[eo,aj,eq,gV,h1,List.replicate]
theorem Ej (l:List ((Int×Int)×PV)) (k:Int×Int) (v:PV):eZ 2 (fT l) (aj k) v=some (fT (ij l k v)):=by
 induction l with
 |nil=>rfl
 | cons x l ih=>
  obtain⟨a,u⟩:=x;by_cases h:k=a
  ·simp[fT,ij,eZ,nP,h]
  ·have:eZ 2 (l.map λe=>(aj e.1,e.2)) (aj k) v=some (fT (ij l k v)):=ih
   simp[fT,ij,eZ,nP,h,this]
theorem Ek (l:List ((Int×Int)×PV)) (k:Int×Int):fu 2 (fT l) (aj k)=some (i9 l k):=by
 induction l with
 |nil=>rfl
 |cons x l ih=>
  obtain⟨a,u⟩:=x;have:fu 2 (l.map λe=>(aj e.1,e.2)) (aj k)=some (i9 l k):=ih;by_cases h:k=a
  ·simp[fT,i9,fu,nP,h]
  ·simp[fT,i9,fu,nP,h,this]
theorem vP {l:List ((Int×Int)×PV)} {k:Int×Int} {v:PV} (h:k∉l.map (·.1)):ij l k v=l++[(k,v)]:=by
 induction l with
 |nil=>rfl
 |cons x l ih=>
  obtain⟨a,u⟩:=x;simp only[bQ,List.mem_cons,not_or] at h;rw[ij,if_neg h.1,ih h.2];rfl
def fJ (ins:Int) (i:Nat) (x:Int×Int):Prop:=x.2<=x.1\/x.1<2\/2*(1+ins+i)<=x.2\/x.1/2=x.2/2
instance (ins:Int) (i:Nat) (x:Int×Int):Decidable (fJ ins i x):=inferInstanceAs (Decidable (_\/_))
def okA (ins:Int):Nat->List (Int×Int)->Bool
 |_,[]=>true
 |i,x::l=>if fJ ins i x then false else okA ins (i+1) l
def bq (ins:Int) (ands:List (Int×Int)):Int:=
 if ¬(0<=ins/\ins<=1000) then 3 else if 1000000<ands.length then 2 else if okA ins 0 ands then (if ands.Nodup then 0 else 6) else 4
theorem rJ {a:Int} (h:0<=a):Int.tdiv a 2=a/2:=Int.tdiv_eq_ediv_of_nonneg h
section
variable {ins:Int} {ands:List (Int×Int)} {gh:List GObj}
def RA (ands:List (Int×Int)):Prop:=∀x∈ands,(-9223372036854775808<=x.1/\x.1<=9223372036854775807)/\(-9223372036854775808<=x.2/\x.2<=9223372036854775807)
theorem dK (h:bq ins ands=0):(0<=ins/\ins<=1000)/\ands.length<=1000000/\okA ins 0 ands=true/\ands.Nodup:=by
 unfold bq at h
 repeat' split at h
 all_goals first|(cases h;done)|skip
 rename_i h1 h2 h3 h4;exact⟨Classical.not_not.1 h1,by omega,h3,h4⟩
def eG (ins:Int) (ands:List (Int×Int)):Int:=1+ins+ands.length
theorem El (hi:0<=ins/\ins<=1000) (hl:ands.length<=1000001):ac pg 88 [fq ins ands] gh=some (I (eG ins ands),gh):=by rw[Ea,a9 (n:=1+ins) (by omega) (by omega),a9 (by omega) (by omega)];rfl
def dt (ins:Int) (ands:List (Int×Int)) (n:Int):Bool:=decide (0<=n/\n<2*eG ins ands)
end
def atA:List (Int×Int)->Int×Int->Option Nat
 |[],_=>none
 |y::l,x=>if x=y then some 0 else (atA l x).map (· +1)
theorem atA_none {l:List (Int×Int)} {x:Int×Int}:atA l x=none↔x∉l:=by
 induction l with
 |nil=>simp[atA]
 | cons y l ih=>
  rw[atA];split
  ·rename_i h;subst h;simp
  ·rename_i h
   simp[ih,h]
theorem Em {l:List (Int×Int)} {x:Int×Int} {i:Nat} (h:atA l x=some i):i<l.length/\l[i]?=some x:=by
 induction l generalizing i with
 |nil=>simp[atA] at h
 | cons y l ih=>
  rw[atA] at h;split at h
  ·rename_i hx;cases h;subst hx;simp
  ·simp only[aE] at h
   obtain⟨j,hj,rfl⟩:=h;obtain⟨h1,h2⟩:=ih hj;exact⟨by simp;omega,by simpa using h2⟩
def byL (ins:Int):Nat->List (Int×Int)->List ((Int×Int)×PV)
 |_,[]=>[]
 |i,x::l=>(x,I (2*(1+ins+i)))::byL ins (i+1) l
theorem rK (ins:Int):∀(i:Nat) (l:List (Int×Int)),(byL ins i l).map (·.1)=l
 |_,[]=>rfl
 |i,x::l=>by simp[byL,rK ins (i+1) l]
theorem vQ (ins:Int) (x:Int×Int):∀(i:Nat) (l:List (Int×Int)),i9 (byL ins i l) x=(atA l x).map λj=>I (2*(1+ins+((i+j:Nat):Int)))
 |_,[]=>rfl
 | i,y::l=>by
  rw[byL,i9,atA];split
  ·simp
  ·rw[vQ ins x (i+1) l]
   cases atA l x with
   |none=>rfl
   |some j=>simp;omega
theorem rL (l:List (Int×Int)):dL (l.map aj)=true:=by
 induction l with
 |nil=>rfl
 |cons x l ih=>simp[aj,ih]
section
variable {gh:List GObj} {x y z:GObj}
theorem En:(gh++[x,y])[gh.length]?=some x:=by simp
theorem Eo:(gh++[x,y])[gh.length+1]?=some y:=by simp
theorem Ep:(gh++[x,y]).set gh.length z=gh++[z,y]:=by simp
end
def mkG (gh:List GObj) (ins:Int) (ands:List (Int×Int)) (m:List ((Int×Int)×PV)):List GObj:=gh++[.map (fT m),.cells [I ins,.sl true 2 (ands.map aj),.mp gh.length]]
theorem vR {m:List ((Int×Int)×PV)} {a b:Int} {v:PV}:eZ 2 (fT m) (.agg [I a,I b]) v=some (fT (ij m (a,b) v)):=Ej m (a,b) v
theorem vT {m:List ((Int×Int)×PV)} {a b:Int}:fu 2 (fT m) (.agg [I a,I b])=some (i9 m (a,b)):=Ek m (a,b)
section
variable {ins:Int} {ands:List (Int×Int)} {gh:List GObj}
def nQ (gh:List GObj) (ins:Int) (ands:List (Int×Int)) (m:List ((Int×Int)×PV)) (i:Nat):St:=
 ⟨[(1,.ptr false 0 0),(3,.ptr true (gh.length+1) 0),(16,.sl false 2 (ands.map aj)),(17,I ands.length),(18,I (i:Int))],[[I ins,.sl false 2 (ands.map aj)]],mkG gh ins ands m⟩
theorem Er (hi:0<=ins/\ins<=1000) (hl:ands.length<=1000000) {i:Nat} (hlt:i<ands.length) (m:List ((Int×Int)×PV)) :
  q4s pg (gh.length+1) 0 (.sl false 2 (ands.map aj)) ands.length i ins (.sl false 2 (ands.map aj)) (mkG gh ins ands m)=some (.normal,nQ gh ins ands (ij m ands[i] (I (2*(1+ins+i)))) (i+1)):=by
 have e2:WI.wrap ((i:Int)+1)=((i+1:Nat):Int):=by rw[a9 (by omega) (by omega)];omega
 have hx:(ands.map aj)[i]?=some (.agg [I ands[i].1,I ands[i].2]):=by simp[aA hlt,aj]
 generalize hy:ands[i]=x at *;obtain⟨a,b⟩:=x;simp only at hx;have eN:WI.wrap (2*WI.wrap (WI.wrap (1+ins)+(i:Int)))=2*(1+ins+i):=by rw[a9 (n:=1+ins) (by omega) (by omega),a9 (n:=1+ins+i) (by omega) (by omega),a9 (by omega) (by omega)]
 have hltI:(i:Int)<(ands.length:Int):=by omega
 simp[q4s,hltI,hx,eN,e2,mkG,nQ,vR,-List.getElem?_map,En,Eo,Ep]
theorem vU (hi:0<=ins/\ins<=1000) (hl:ands.length<=1000000) (hnd:ands.Nodup):∀k i,i+k=ands.length->
  ab pg q6r (nQ gh ins ands (byL ins 0 (ands.take i)) i)=some (.normal,⟨[(3,.ptr true (gh.length+1) 0)],[],mkG gh ins ands (byL ins 0 ands)⟩)
 |0,i,h=>by
  rw[bM (by omega)];have hlt:¬(i:Int)<(ands.length:Int):=by omega
  refine (cm (s1:=?s1) (q4s_ ?h1)).trans ?r1
  case h1=>simp only[q4s,aF hlt,dq];rfl
  case r1=>rfl
 | k +1,i,h=>by
  have hlt:i<ands.length:=by omega
  refine bh (q4s_ (Er hi hl hlt _)) ?_;have hnk:ands[i]∉(byL ins 0 (ands.take i)).map (·.1):=by
   rw[rK];intro hm;obtain⟨j,hj,he⟩:=List.getElem_of_mem hm;rw[List.getElem_take] at he;have hji:j<i:=by simp at hj;omega
   have:=(List.nodup_iff_pairwise_ne.1 hnd)
   have:=List.pairwise_iff_getElem.1 this j i (by omega) hlt hji;exact this he
  have hstep:ij (byL ins 0 (ands.take i)) ands[i] (I (2*(1+ins+i)))=byL ins 0 (ands.take (i+1)):=by
   rw[vP hnk,List.take_add_one,aA hlt];have:∀(j:Nat) (l:List (Int×Int)) (x:Int×Int),byL ins j l++[(x,I (2*(1+ins+((j+l.length:Nat):Int))))]=byL ins j (l++[x]):=by
    intro j l
    induction l generalizing j with
    |nil=>intro x;simp[byL]
    |cons y l ih=>
     intro x;have:=ih (j+1) x;rw[show j+1+l.length=j+(y::l).length by simp;omega] at this;simp only[byL,bJ,this]
   have h2:=this 0 (ands.take i) ands[i];rw[cK,Nat.min_eq_left (by omega),cR] at h2;simpa using h2
  rw[hstep];exact vU hi hl hnd k (i+1) (by omega)
theorem Es {o:Bool} {xs:List PV} (h:xs.length*16<=maxBytes):ac pg 87 [.sl o 2 xs] gh=some (.sl true 2 xs,gh):=by have:ac pg 87 [.sl o 2 xs] gh=gf 2 16 [.sl o 2 xs] gh:=rfl;rw[this,gf,if_pos ⟨rfl,h⟩]
theorem Et (hi:0<=ins/\ins<=1000) (hl:ands.length<=1000000) (hnd:ands.Nodup):ac pg 48 [fq ins ands] gh=some (.ptr true (gh.length+1) 0,mkG gh ins ands (byL ins 0 ands)):=by
 have hmx:=MB;have hc:ac pg 87 [.sl false 2 (ands.map aj)] []=some (.sl true 2 (ands.map aj),[]):=Es (by simp;omega);have hl1:=vU (gh:=gh) hi hl hnd ands.length 0 (by omega);unfold nQ mkG at hl1;have e0:fT (byL ins 0 (ands.take 0))=[]:=rfl;rw[e0] at hl1;simp only[aX] at hl1;have hk:=qiu (pg:=pg) (gh:=mkG gh ins ands (byL ins 0 ands)) (g3:=gh.length+1) (o3:=0) (e:= .ret) (s:=⟨[(2,.ptr true (gh.length+1) 0)],[],mkG gh ins ands (byL ins 0 ands)⟩) rfl;unfold mkG at hk
 refine aq (fn:=q6t) (s:=⟨[(2,.ptr true (gh.length+1) 0)],[],mkG gh ins ands (byL ins 0 ands)⟩) rfl rfl (qiv ?h1) ?r1
 case h1=>simp[hc,rL,hl1,hk,mkG]
 case r1=>simp[am,results,q6t,ao,au,ai]
def eV (ins:Int) (ands:List (Int×Int)) (a b:Int):List (Int×Int)×Int:=
 if a=0\/(a/2=b/2/\a≠b) then (ands,0) else if a=1\/a=b then (ands,b)
 else match atA ands (a,b) with
  |some i=>(ands,2*(1+ins+i))
  |none=>(ands++[(a,b)],2*eG ins ands)
def fb (ins:Int) (ands:List (Int×Int)) (a b:Int):List (Int×Int)×Int:=if b<a then eV ins ands b a else eV ins ands a b
theorem nR {a b:Int} (ha:0<=a/\a<2002002) (hb:0<=b):(fH .i64 a 1=b)↔(a/2=b/2/\a≠b):=by
 obtain⟨A,rfl⟩:∃n:Nat,a=n:=⟨a.toNat,by omega⟩
 obtain⟨B',rfl⟩:∃n:Nat,b=n:=⟨b.toNat,by omega⟩
 rw[Ee (by omega)];omega
theorem Eu (hi:0<=ins/\ins<=1000) (hl:ands.length<=1000000) {n:Int} (h:dt ins ands n=true):0<=n/\n<2002002:=by unfold dt eG at h;rw[aH] at h;omega
end
abbrev LB (v:List Bool):PV:= .sl false 1 (v.map B)
def cu (v:List Bool) (n:Int):Bool:=(v.getD (n/2).toNat false) !=decide (n%2=1)
def bt:List Bool->List (Int×Int)->List Bool
 |v,[]=>v
 |v,x::l=>bt (v++[cu v x.1&&cu v x.2]) l
theorem nT:∀(v:List Bool) (l:List (Int×Int)),(bt v l).length=v.length+l.length
 |v,[]=>rfl
 |v,x::l=>by rw[bt,nT];simp;omega
theorem vV {v:List Bool} {n:Int} (h:(n/2).toNat<v.length):(v.map B)[(n/2).toNat]?=some (B (v.getD (n/2).toNat false)):=by rw[aB,aA h];simp[List.getD,aA h]
theorem vW (v:List Bool):dL (v.map B)=true:=by
 induction v with
 |nil=>rfl
 |cons x l ih=>simp[ih]
@[simp] theorem noG_ep (e : PV) (o : Nat) : PV.noG (.ep e o) = e.noG := rfl
section
variable {gh:List GObj}
def k0 (x:Int×Int) (n:Nat):Prop:=(0<=x.1/\x.1<=9223372036854775807/\(x.1/2).toNat<n)/\(0<=x.2/\x.2<=9223372036854775807/\(x.2/2).toNat<n)
theorem nU {ins:Int}:∀{i:Nat} {l:List (Int×Int)} {j:Nat} (_:okA ins i l=true) (hj:j<l.length),¬fJ ins (i+j) l[j]
 |i,x::l,0,h,_=>by
  rw[okA] at h;split at h
  ·cases h
  ·simpa
 | i,x::l,j+1,h,hj=>by
  rw[okA] at h;split at h
  ·cases h
  ·have:=nU (j:=j) h (by simpa using hj)
   rw[show i+1+j=i+(j+1) by omega] at this;simpa using this
theorem vX {ins:Int} (hi:0<=ins/\ins<=1000) {x:Int×Int} {j n:Nat} (h:¬fJ ins j x) (hj:j<=1000000) (hn:(n:Int)=1+ins+j):k0 x n:=by unfold fJ at h;simp only[not_or] at h;unfold k0;omega
end
def fx:List (Int×Int):=[(4,1),(5,1),(6,2),(7,2),(8,2),(9,2),(10,2),(11,2),(12,2),(13,2),(14,2),(15,2),(16,3),(17,3),(18,3),(19,4),(20,5),(21,6),(22,7),(23,7)]
theorem iG (gh:List GObj):ac pg 61 [] gh=some (.mp gh.length,gh++[.map (ay fx)]):=by
 refine aq (fn:=q9h) (s:=⟨[(0,.mp gh.length)],[],gh++[.map (ay fx)]⟩) rfl rfl (qj0 ?h) ?r
 case h=>
  rw[show ([.map []]:List GObj)=[.map (ay [])] from rfl]
  repeat rw[rH]
  rfl
 case r=>simp[am,results,q9h,ao,au,ai]
def ct (k:Int):Option Int:=
 if k<4 then none else if k<6 then some 1 else if k<16 then some 2 else if k<19 then some 3 else if k=19 then some 4 else if k=20 then some 5
 else if k=21 then some 6 else if k<24 then some 7 else none
theorem vY (k:Int):fS fx k=ct k:=by
 by_cases h:4<=k/\k<24
 ·obtain⟨n,rfl⟩:∃n:Fin 20,k=4+(n.val:Int):=⟨⟨(k-4).toNat,by omega⟩,by simp;omega⟩
  revert n;decide
 ·have:∀l:List (Int×Int),(∀x∈l,4<=x.1/\x.1<24)->fS l k=none:=by
   intro l
   induction l with
   |nil=>intro;rfl
   |cons x l ih=>
    intro hx;have h1:=hx x (by simp);have h2:=ih λy hy=>hx y (by simp[hy])
    obtain⟨a,u⟩:=x;rw[fS,if_neg,h2];rintro rfl;exact h h1
  rw[this _ (by decide),ct];split
  ·rfl
  ·repeat rw[if_neg (by omega)]
def az (k:Int):Int:=
 if k<4 then 0 else if k<6 then 1 else if k<19 then 2 else if k=19 then 3 else if k=20 then 2 else if k<24 then 1 else 0
theorem ik (k:Int) (gh:List GObj):ac pg 63 [I k] gh=some (I (az k),gh):=by
 have hk:ac pg 63 [I k] gh=some (I (let n:=(ct k).getD 0;if n=0 then 0 else if n=1\/n=6\/n=7 then 1 else if n=4 then 3 else 2),gh):=by
  have hf:=vY k;cases hs:ct k with
  |none=>
   rw[hs] at hf;refine aq (fn:=qi) (s:=?s0) rfl rfl (q30 ?h0) ?r0
   case h0=>simp[iG,hf];rfl
   case r0=>simp[am,results,qi,ao,au,ai]
  | some n=>
   rw[hs] at hf;by_cases h0:n=0
   ·refine aq (fn:=qi) (s:=?s1) rfl rfl (q30 ?h1) ?r1
    case h1=>simp[iG,hf,h0];rfl
    case r1=>simp[am,results,qi,ao,au,ai,h0]
   by_cases h1:n=1\/n=6\/n=7
   ·refine aq (fn:=qi) (s:=⟨[(2,I 1)],[],gh++[.map (ay fx)]⟩) rfl rfl (q30 ?h2) ?r2
    case h2=>
     have:=qa3 (pg:=pg) (gh:=gh++[.map (ay fx)]) (x5:=n) (b8:=true) (e:= .ret) (s:=⟨[(2,I 1)],[],gh++[.map (ay fx)]⟩) rfl;rcases h1 with rfl|rfl|rfl<;>simp[iG,hf,this]
    case r2=>simp[am,results,qi,ao,au,ai,h0,h1]
   ·by_cases h4:n=4
    ·refine aq (fn:=qi) (s:=⟨[(2,I 3)],[],gh++[.map (ay fx)]⟩) rfl rfl (q30 ?h3) ?r3
     case h3=>
      subst h4;have:=qa3 (pg:=pg) (gh:=gh++[.map (ay fx)]) (x5:=4) (b8:=false) (e:= .ret) (s:=⟨[(2,I 3)],[],gh++[.map (ay fx)]⟩) rfl;simp[iG,hf,this]
     case r3=>simp[am,results,qi,ao,au,ai,h0,h4]
    ·simp only[not_or] at h1
     refine aq (fn:=qi) (s:=⟨[(2,I 2)],[],gh++[.map (ay fx)]⟩) rfl rfl (q30 ?h5) ?r5
     case h5=>
      have:=qa3 (pg:=pg) (gh:=gh++[.map (ay fx)]) (x5:=n) (b8:=false) (e:= .normal) (s:=⟨[(12,B false)],[],gh++[.map (ay fx)]⟩) (by simp[h4]);have h2:=qiw (pg:=pg) (gh:=gh++[.map (ay fx)]) (b12:=false) (e:= .ret) (s:=⟨[(2,I 2)],[],gh++[.map (ay fx)]⟩) rfl;simp[iG,hf,h0,h1,this,h2]
     case r5=>simp[am,results,qi,ao,au,ai,h0,h1,h4]
 rw[hk]
 congr 3
 simp only[ct,az]
 repeat' split
 all_goals first|rfl|omega|simp_all
theorem jA (w:Int) (gh:List GObj):ac pg 62 [I w] gh=some (B (decide (1<=w/\w<=8)),gh):=by
 by_cases h:1<=w
 ·refine aq (fn:=q2t) (s:=?s1) rfl rfl (qgf ?h1) ?r1
  case h1=>simp[h];rfl
  case r1=>simp[am,results,q2t,ao,au,ai,h]
 ·refine aq (fn:=q2t) (s:=?s2) rfl rfl (qgf ?h2) ?r2
  case h2=>simp[h];rfl
  case r2=>simp[am,results,q2t,ao,au,ai,h]
def ck (s width n w0 w1 w2:Int):Bool:=
 if n≠0/\s≠6 then false
 else if s=1 then w0=width
 else if s=2 then w0=width/\w1=width
 else if s=3 then w0=w1/\width=1
 else if s=4 then w0=1/\w1=width/\w2=width
 else if s=5 then WI.wrap (w0+w1)=width
 else if s=6 then 0<=n/\n<=WI.wrap (w0-width)
 else w0<=width
theorem vZ (s width n w0 w1 w2:Int) (gh:List GObj):ac pg 64 [I s,I width,I n,.agg [I w0,I w1,I w2]] gh=some (B (ck s width n w0 w1 w2),gh):=by
 have h:qj pg s width n w0 w1 w2 gh=some (.ret,⟨[(8,B (ck s width n w0 w1 w2))],[],gh⟩):=by
  by_cases hn:n=0
  ·by_cases h1:s=1
   ·simp[qj,ck,hn,h1]
   by_cases h2:s=2
   ·by_cases h:w0=width<;>simp[qj,ck,hn,h2,h]
   by_cases h3:s=3
   ·by_cases h:w0=w1<;>simp[qj,ck,hn,h3,h]
   by_cases h4:s=4
   ·by_cases h:w0=1<;>by_cases h':w1=width<;>simp[qj,ck,hn,h4,h,h']
   by_cases h5:s=5
   ·simp[qj,ck,hn,h5]
   by_cases h6:s=6
   ·simp[qj,ck,hn,h6]
   simp[qj,ck,hn,h1,h2,h3,h4,h5,h6]
  ·by_cases h6:s=6
   ·by_cases h:0<=n<;>simp[qj,ck,hn,h6,h]
   ·simp[qj,ck,hn,h6]
 refine aq (fn:=q9i) rfl rfl (qj_ h) ?r;simp[am,results,q9i,ao,au,ai]
def wOk (k i w:Int):Prop:=if i<az k then 1<=w/\w<=8 else w=0
instance (k i w:Int):Decidable (wOk k i w):=inferInstanceAs (Decidable (if i<az k then 1<=w/\w<=8 else w=0))
theorem rM (k width n s w0 w1 w2 i w:Int) (gh:List GObj) (hi:(i=0/\w=w0)\/(i=1/\w=w1)\/(i=2/\w=w2)) :
  q11 pg k width n s w0 w1 w2 i w0 w1 w2 gh=if wOk k i w then some (.normal,⟨[(0,I k),(1,I width),(2,I n),(7,.ptr false 0 0),(9,I s),(24,.agg [I w0,I w1,I w2]),(25,I (i+1))],[[I w0,I w1,I w2]],gh⟩)
   else some (.ret,⟨[(8,I 3)],[],gh⟩):=by
 have hw:(WI.wrap (i+1))=i+1:=a9 (by omega) (by omega);by_cases hk:i<az k
 ·have hk':=Int.not_le.2 hk
  by_cases h1:1<=w
  ·by_cases h2:w<=8
   ·rcases hi with ⟨rfl,rfl⟩|⟨rfl,rfl⟩|⟨rfl,rfl⟩<;>simp[q11,ik,jA,hk,hk',wOk,h1,h2]<;>exact hw
   ·rcases hi with ⟨rfl,rfl⟩|⟨rfl,rfl⟩|⟨rfl,rfl⟩<;>simp[q11,ik,jA,hk,wOk,h1,h2]
  ·rcases hi with ⟨rfl,rfl⟩|⟨rfl,rfl⟩|⟨rfl,rfl⟩<;>simp[q11,ik,jA,hk,wOk,h1]
 ·have hk':=Int.not_lt.1 hk
  by_cases h2:w=0
  ·rcases hi with ⟨rfl,rfl⟩|⟨rfl,rfl⟩|⟨rfl,rfl⟩<;>simp[q11,ik,hk,hk',wOk,h2]<;>exact hw
  ·rcases hi with ⟨rfl,rfl⟩|⟨rfl,rfl⟩|⟨rfl,rfl⟩<;>simp[q11,ik,hk,hk',wOk,h2]
theorem Ev (k width n s w0 w1 w2:Int) (gh:List GObj) :
  ab pg q9f ⟨[(0,I k),(1,I width),(2,I n),(7,.ptr false 0 0),(9,I s),(24,.agg [I w0,I w1,I w2]),(25,I 0)],[[I w0,I w1,I w2]],gh⟩=
   if wOk k 0 w0/\wOk k 1 w1/\wOk k 2 w2 then some (.normal,⟨[(1,I width),(2,I n),(7,.ptr false 0 0),(9,I s)],[[I w0,I w1,I w2]],gh⟩) else some (.ret,⟨[(8,I 3)],[],gh⟩):=by
 have b0:=rM k width n s w0 w1 w2 0 w0 gh (by simp);have b1:=rM k width n s w0 w1 w2 1 w1 gh (by simp);have b2:=rM k width n s w0 w1 w2 2 w2 gh (by simp);by_cases h0:wOk k 0 w0
 ·rw[if_pos h0] at b0
  refine bh (q11_ b0) ?_;by_cases h1:wOk k 1 w1
  ·rw[if_pos h1] at b1
   refine bh (q11_ b1) ?_;by_cases h2:wOk k 2 w2
   ·rw[if_pos h2] at b2
    refine bh (q11_ b2) ?_;rw[if_pos ⟨h0,h1,h2⟩];refine (cm (s1:=?s1) (q11_ ?h1)).trans ?r1
    case h1=>simp[q11];rfl
    case r1=>simp[keep]
   ·rw[if_neg h2] at b2
    rw[if_neg (λh=>h2 h.2.2)];exact dJ (q11_ b2)
  ·rw[if_neg h1] at b1
   rw[if_neg (λh=>h1 h.2.1)];exact dJ (q11_ b1)
 ·rw[if_neg h0] at b0
  rw[if_neg (λh=>h0 h.1)];exact dJ (q11_ b0)
def gi (k width n w0 w1 w2:Int):Int:=
 match ct k with
 |none=>7
 |some s=>if ¬(1<=width/\width<=8) then 3 else if ¬(wOk k 0 w0/\wOk k 1 w1/\wOk k 2 w2) then 3 else if ck s width n w0 w1 w2 then 0 else 1
theorem Ew (k width n w0 w1 w2:Int) (gh:List GObj):ac pg 22 [I k,I width,I n,.agg [I w0,I w1,I w2]] gh=some (I (gi k width n w0 w1 w2),gh):=by
 have hf:=vY k;simp only[gi];cases hs:ct k with
 |none=>
  rw[hs] at hf;refine aq (fn:=qh) (s:=?s0) rfl rfl (q2z ?h0) ?r0
  case h0=>simp[iG,hf];rfl
  case r0=>simp[am,results,qh,ao,au,ai]
 | some s=>
  rw[hs] at hf;by_cases hw:1<=width/\width<=8
  ·have hl:=Ev k width n s w0 w1 w2 (gh++[.map (ay fx)])
   simp only[hw,not_true,if_false,and_self];by_cases ho:wOk k 0 w0/\wOk k 1 w1/\wOk k 2 w2
   ·rw[if_pos ho] at hl
    simp only[ho,not_true,if_false,and_self];have hk:∀e s1,q4t pg width n s w0 w1 w2 (gh++[.map (ay fx)])=some (e,s1)->_:=λe s1 h=>q4t_ h
    by_cases hb:ck s width n w0 w1 w2
    ·have:=hk .ret ⟨[(8,I 0)],[],gh++[.map (ay fx)]⟩ (by simp[q4t,vZ,hb])
     refine aq (fn:=qh) (s:=?s1) rfl rfl (q2z ?h1) ?r1
     case h1=>simp[iG,hf,jA,hw,hl,this];rfl
     case r1=>simp[am,results,qh,ao,au,ai,hb]
    ·have:=hk .ret ⟨[(8,I 1)],[],gh++[.map (ay fx)]⟩ (by simp[q4t,vZ,hb])
     refine aq (fn:=qh) (s:=?s2) rfl rfl (q2z ?h2) ?r2
     case h2=>simp[iG,hf,jA,hw,hl,this];rfl
     case r2=>simp[am,results,qh,ao,au,ai,hb]
   ·rw[if_neg ho] at hl
    refine aq (fn:=qh) (s:=?s3) rfl rfl (q2z ?h3) ?r3
    case h3=>simp[iG,hf,jA,hw,hl];rfl
    case r3=>simp[am,results,qh,ao,au,ai,ho]
  ·refine aq (fn:=qh) (s:=?s4) rfl rfl (q2z ?h4) ?r4
   case h4=>simp[iG,hf,jA,hw];rfl
   case r4=>simp[am,results,qh,ao,au,ai,hw]
theorem ei (n a b:Int) (gh:List GObj):ac pg 50 [I n,I a,I b] gh=some (B (decide (a<=n/\n<=b)),gh):=by
 by_cases h:a<=n
 ·refine aq (fn:=q2j) (s:=?s1) rfl rfl (qgh ?h1) ?r1
  case h1=>simp[h];rfl
  case r1=>simp[am,results,q2j,ao,au,ai,h]
 ·refine aq (fn:=q2j) (s:=?s2) rfl rfl (qgh ?h2) ?r2
  case h2=>simp[h];rfl
  case r2=>simp[am,results,q2j,ao,au,ai,h]
theorem gH (k:Int) (gh:List GObj):ac pg 26 [I k] gh=some (I (az k),gh):=by
 by_cases h1:k=4\/k=5\/k=21\/k=22\/k=23
 ·refine aq (fn:=qt) (s:=⟨[(2,I 1)],[],gh⟩) rfl rfl (q4w ?h1) ?r1
  case h1=>
   have:=qa5 (pg:=pg) (gh:=gh) (x0:=k) (x3:=k) (b4:=true) (e:= .ret) (s:=⟨[(2,I 1)],[],gh⟩) rfl;rcases h1 with rfl|rfl|rfl|rfl|rfl<;>simp[this]
  case r1=>
   rcases h1 with rfl|rfl|rfl|rfl|rfl<;>simp[am,results,qt,ao,au,ai]<;>rfl
 simp only[not_or] at h1;by_cases h2:k=19
 ·refine aq (fn:=qt) (s:=⟨[(2,I 3)],[],gh⟩) rfl rfl (q4w ?h2) ?r2
  case h2=>
   subst h2;have:=qa5 (pg:=pg) (gh:=gh) (x0:=19) (x3:=19) (b4:=false) (e:= .ret) (s:=⟨[(2,I 3)],[],gh⟩) rfl;simp[this]
  case r2=>subst h2;simp[am,results,qt,ao,au,ai];rfl
 have hk1:=qa5 (pg:=pg) (gh:=gh) (x0:=k) (x3:=k) (b4:=false) (e:= .normal) (s:=⟨[(0,I k),(10,B false)],[],gh⟩) (by simp[h2]);by_cases h3:6<=k/\k<=20
 ·refine aq (fn:=qt) (s:=⟨[(2,I 2)],[],gh⟩) rfl rfl (q4w ?h3) ?r3
  case h3=>
   have hk2:=qgg (pg:=pg) (gh:=gh) (x0:=k) (b10:=false) (e:= .ret) (s:=⟨[(2,I 2)],[],gh⟩) (by simp[ei,h3]);simp[h1,hk1,hk2]
  case r3=>
   have:az k=2:=by simp only[az];repeat' split<;>first|omega|rfl
   simp[am,results,qt,ao,au,ai,this]
 ·refine aq (fn:=qt) (s:=⟨[(2,I 0)],[],gh⟩) rfl rfl (q4w ?h4) ?r4
  case h4=>
   have hk2:=qgg (pg:=pg) (gh:=gh) (x0:=k) (b10:=false) (e:= .ret) (s:=⟨[(2,I 0)],[],gh⟩) (by simp[ei,h3]);simp[h1,hk1,hk2]
  case r4=>
   have:az k=0:=by simp only[az];repeat' split<;>first|omega|rfl
   simp[am,results,qt,ao,au,ai,this]
theorem rN (k width n w0 w1 w2 i w:Int) (gh:List GObj) (hi:(i=0/\w=w0)\/(i=1/\w=w1)\/(i=2/\w=w2)) :
  q12 pg k width n (az k) i w0 w1 w2 gh=if wOk k i w then some (.normal,⟨[(0,I k),(1,I width),(2,I n),(7,.ptr false 0 0),(9,I (az k)),(10,I (i+1))],[[I w0,I w1,I w2]],gh⟩)
   else some (.ret,⟨[(8,I 3)],[],gh⟩):=by
 have hw:(WI.wrap (i+1))=i+1:=a9 (by omega) (by omega);by_cases hk:i<az k
 ·have hk':=Int.not_le.2 hk
  by_cases h1:1<=w
  ·by_cases h2:w<=8
   ·rcases hi with ⟨rfl,rfl⟩|⟨rfl,rfl⟩|⟨rfl,rfl⟩<;>simp[q12,ei,hk,hk',wOk,h1,h2]<;>exact hw
   ·rcases hi with ⟨rfl,rfl⟩|⟨rfl,rfl⟩|⟨rfl,rfl⟩<;>simp[q12,ei,hk,wOk,h1,h2]
  ·rcases hi with ⟨rfl,rfl⟩|⟨rfl,rfl⟩|⟨rfl,rfl⟩<;>simp[q12,ei,hk,wOk,h1]
 ·have hk':=Int.not_lt.1 hk
  by_cases h2:w=0
  ·rcases hi with ⟨rfl,rfl⟩|⟨rfl,rfl⟩|⟨rfl,rfl⟩<;>simp[q12,hk,hk',wOk,h2]<;>exact hw
  ·rcases hi with ⟨rfl,rfl⟩|⟨rfl,rfl⟩|⟨rfl,rfl⟩<;>simp[q12,hk,hk',wOk,h2]
theorem Ex (k width n w0 w1 w2:Int) (gh:List GObj) :
  ab pg q88 ⟨[(0,I k),(1,I width),(2,I n),(7,.ptr false 0 0),(9,I (az k)),(10,I 0)],[[I w0,I w1,I w2]],gh⟩=
   if wOk k 0 w0/\wOk k 1 w1/\wOk k 2 w2 then some (.normal,⟨[(0,I k),(1,I width),(2,I n),(7,.ptr false 0 0)],[[I w0,I w1,I w2]],gh⟩) else some (.ret,⟨[(8,I 3)],[],gh⟩):=by
 have b0:=rN k width n w0 w1 w2 0 w0 gh (by simp);have b1:=rN k width n w0 w1 w2 1 w1 gh (by simp);have b2:=rN k width n w0 w1 w2 2 w2 gh (by simp);by_cases h0:wOk k 0 w0
 ·rw[if_pos h0] at b0
  refine bh (q12_ b0) ?_;by_cases h1:wOk k 1 w1
  ·rw[if_pos h1] at b1
   refine bh (q12_ b1) ?_;by_cases h2:wOk k 2 w2
   ·rw[if_pos h2] at b2
    refine bh (q12_ b2) ?_;rw[if_pos ⟨h0,h1,h2⟩];refine (cm (s1:=?s1) (q12_ ?h1)).trans ?r1
    case h1=>simp[q12];rfl
    case r1=>simp[keep]
   ·rw[if_neg h2] at b2
    rw[if_neg (λh=>h2 h.2.2)];exact dJ (q12_ b2)
  ·rw[if_neg h1] at b1
   rw[if_neg (λh=>h1 h.2.1)];exact dJ (q12_ b1)
 ·rw[if_neg h0] at b0
  rw[if_neg (λh=>h0 h.1)];exact dJ (q12_ b0)
theorem il (k n:Int) (b:Bool) (gh:List GObj) :
  ab pg qd ⟨[(0,I k),(2,I n),(11,B b)],[],gh⟩=some (.ret,⟨[(8,I (if b=false\/(k≠21/\n≠0) then 1 else 0))],[],gh⟩):=by
 refine qj1 ?_;cases b
 ·simp
 ·by_cases h1:k=21
  ·simp[h1]
  ·by_cases h2:n=0<;>simp[h1,h2]
theorem Ey (k width n w0 w1 w2 s:Int) (gh:List GObj) (hs:ct k=some s) (hw:1<=width/\width<=8) (h0:wOk k 0 w0) (h1:wOk k 1 w1) :
  ab pg q4d ⟨[(0,I k),(1,I width),(2,I n),(7,.ptr false 0 0)],[[I w0,I w1,I w2]],gh⟩=some (.ret,⟨[(8,I (if ck s width n w0 w1 w2 then 0 else 1))],[],gh⟩):=by
 refine qj2 ?_;by_cases c1:k=4
 ·subst c1;cases hs
  simp[il,ck];by_cases hn:n=0<;>by_cases hh:w0=width<;>simp[hn,hh]
 by_cases c2:k=5
 ·subst c2;cases hs
  simp[il,ck];by_cases hn:n=0<;>by_cases hh:w0=width<;>simp[hn,hh]
 by_cases c3:6<=k/\k<=15
 ·have:s=2:=by
   simp only[ct] at hs;rw[if_neg (by omega),if_neg (by omega),if_pos (by omega)] at hs;cases hs;rfl
  subst this;have hk:k≠21:=by omega
  by_cases hn:n=0<;>by_cases hh:w0=width<;>by_cases hh2:w1=width<;>simp[il,ei,ck,c1,c2,c3,hk,hn,hh,hh2]
 by_cases c4:16<=k/\k<=18
 ·have:s=3:=by
   simp only[ct] at hs;rw[if_neg (by omega),if_neg (by omega),if_neg (by omega),if_pos (by omega)] at hs;cases hs;rfl
  subst this;have hk:k≠21:=by omega
  by_cases hn:n=0<;>by_cases hh:w0=w1<;>by_cases hh2:width=1<;>simp[il,ei,ck,c1,c2,c3,c4,hk,hn,hh,hh2]
 by_cases c5:k=19
 ·subst c5;cases hs
  by_cases hn:n=0<;>by_cases hh:w0=1<;>by_cases hh2:w1=width<;>by_cases hh3:w2=width<;>simp[il,ei,ck,hn,hh,hh2,hh3]
 by_cases c6:k=20
 ·subst c6;cases hs
  by_cases hn:n=0<;>by_cases hh:WI.wrap (w0+w1)=width<;>simp[il,ei,ck,hn,hh]
 by_cases c7:k=21
 ·subst c7;cases hs
  have hw0:1<=w0/\w0<=8:=h0;have e1:WI.wrap (w0-width)=w0-width:=a9 (by omega) (by omega);by_cases hn:0<=n
  ·by_cases hn2:n<=8
   ·have e2:WI.wrap (n+width)=n+width:=a9 (by omega) (by omega)
    by_cases hh:n+width<=w0
    ·simp[il,ei,ck,hn,hn2,e1,e2,hh,show n<=w0-width by omega]
    ·simp[il,ei,ck,hn,hn2,e1,e2,hh,show ¬n<=w0-width by omega]
   ·simp[il,ei,ck,hn,hn2,e1,show ¬n<=w0-width by omega]
  ·simp[il,ei,ck,hn]
 ·have:s=7:=by
   simp only[ct] at hs
   repeat' split at hs
   all_goals first|(exfalso;omega)|(cases hs;done)|(cases hs;rfl)
  subst this;by_cases hn:n=0<;>by_cases hh:w0<=width<;>simp[il,ei,ck,c1,c2,c3,c4,c5,c6,c7,hn,hh]
theorem wa (k:Int):az k=0↔ct k=none:=by
 simp only[az,ct];constructor
 ·intro h;repeat' split
  all_goals first|rfl|(exfalso;revert h;repeat' split)<;>omega
 ·intro h;repeat' split
  all_goals first|rfl|(exfalso;revert h;repeat' split)<;>first|omega|simp
theorem Ez (k width n w0 w1 w2:Int) (gh:List GObj):ac pg 23 [I k,I width,I n,.agg [I w0,I w1,I w2]] gh=some (I (gi k width n w0 w1 w2),gh):=by
 simp only[gi];cases hs:ct k with
 |none=>
  refine aq (fn:=qr) (s:=?s0) rfl rfl (q4v ?h0) ?r0
  case h0=>simp[gH,(wa k).2 hs];rfl
  case r0=>simp[am,results,qr,ao,au,ai]
 | some s=>
  have ht:az k≠0:=λh=>by rw[wa,hs] at h;cases h
  by_cases hw:1<=width/\width<=8
  ·have hl:=Ex k width n w0 w1 w2 gh
   simp only[hw,not_true,if_false,and_self];by_cases ho:wOk k 0 w0/\wOk k 1 w1/\wOk k 2 w2
   ·rw[if_pos ho] at hl
    have hk:=Ey k width n w0 w1 w2 s gh hs hw ho.1 ho.2.1;simp only[ho,not_true,if_false,and_self];refine aq (fn:=qr) (s:=?s1) rfl rfl (q4v ?h1) ?r1
    case h1=>simp[gH,ht,ei,hw,hl,hk];rfl
    case r1=>simp[am,results,qr,ao,au,ai]
   ·rw[if_neg ho] at hl
    refine aq (fn:=qr) (s:=?s3) rfl rfl (q4v ?h3) ?r3
    case h3=>simp[gH,ht,ei,hw,hl];rfl
    case r3=>simp[am,results,qr,ao,au,ai,ho]
  ·refine aq (fn:=qr) (s:=?s4) rfl rfl (q4v ?h4) ?r4
   case h4=>simp[gH,ht,ei,hw];rfl
   case r4=>simp[am,results,qr,ao,au,ai,hw]
section
variable {ins:Int} {ands:List (Int×Int)} {gh:List GObj}
theorem wb (x:Int×Int) (a b:Int):eq [false,false] [I x.1,I x.2] [I a,I b]=some (decide (x=(a,b))):=by
 obtain⟨c,d⟩:=x;by_cases h1:c=a
 ·by_cases h2:d=b<;>simp[eq,gV,h1,h2]
 ·simp[eq,gV,h1]
theorem wc {a b:Int} {f:Nat} (hf:f<=ands.length) (hl:ands.length<=1000000):∀k i,i+k=f->
  ab pg q8l ⟨[(1,I f),(3,.ptr false 0 0),(5,.ptr false 1 0),(7,I (i:Int))],[[I ins,.sl false 2 (ands.map aj)],[I a,I b]],gh⟩=
   match atA ((ands.take f).drop i) (a,b) with
   |some j=>some (.ret,⟨[(6,I ((i+j:Nat):Int))],[],gh⟩)
   |none=>some (.normal,⟨[],[],gh⟩)
 |0,i,h=>by
  rw[aQ (by simp;omega)];have hlt:¬(i:Int)<(f:Int):=by omega
  refine (cm (s1:=?s1) (qa8 ?h1)).trans ?r1
  case h1=>simp only[aF hlt,dq];rfl
  case r1=>rfl
 | k+1,i,h=>by
  have hlt:i<ands.length:=by omega
  have hltf:i<(ands.take f).length:=by simp;omega
  have hltI:(i:Int)<(f:Int):=by omega
  have e2:WI.wrap ((i:Int)+1)=((i+1:Nat):Int):=by rw[a9 (by omega) (by omega)];omega
  have hg:(ands.map aj)[i]?=some (.agg [I ands[i].1,I ands[i].2]):=by simp[aA hlt,aj]
  rw[aL hltf,atA,List.getElem_take];have hfl:=wb ands[i] a b;by_cases hx:(a,b)=ands[i]
  ·rw[if_pos hx]
   rw[aG hx.symm] at hfl;refine dJ (qa8 ?_);simp[hltI,hg,hfl,-List.getElem?_map]
  ·rw[if_neg hx]
   rw[aF (λh=>hx h.symm)] at hfl;refine bh (s1:=⟨[(1,I f),(3,.ptr false 0 0),(5,.ptr false 1 0),(7,I ((i+1:Nat):Int))],[[I ins,.sl false 2 (ands.map aj)],[I a,I b]],gh⟩) (qa8 ?_) ?_
   ·simp[hltI,hg,hfl,e2,-List.getElem?_map]
   ·refine (wc hf hl k (i+1) (by omega)).trans ?_
    cases atA ((ands.take f).drop (i+1)) (a,b) with
    |none=>rfl
    |some j=>simp;omega
theorem EA {a b:Int} {f:Nat} (hf:f<=ands.length) (hl:ands.length<=1000000):ac pg 51 [fq ins ands,I f,.agg [I a,I b]] gh=some (I (match atA (ands.take f) (a,b) with|some j=>(j:Int)|none=> -1),gh):=by
 have hlp:=wc (ins:=ins) (gh:=gh) (a:=a) (b:=b) hf hl f 0 (by omega);rw[bL] at hlp;simp only[cR,aX] at hlp;cases hat:atA (ands.take f) (a,b) with
 |some j=>
  rw[hat] at hlp;refine aq (fn:=q2k) (s:=?s1) rfl rfl (qgj ?h1) ?r1
  case h1=>simp[hlp];rfl
  case r1=>simp[am,results,q2k,ao,au,ai]
 |none=>
  rw[hat] at hlp;have hk:=qj5 (pg:=pg) (gh:=gh) (e:= .ret) (s:=⟨[(6,I (-1))],[],gh⟩) rfl;refine aq (fn:=q2k) (s:=?s2) rfl rfl (qgj ?h2) ?r2
  case h2=>simp[hlp,hk];rfl
  case r2=>simp[am,results,q2k,ao,au,ai]
theorem EB (hi:0<=ins/\ins<=1000) (hl:ands.length<=1000000) {i:Nat} (hlt:i<ands.length) (hr: -9223372036854775808<=ands[i].1/\ands[i].1<=9223372036854775807) (hr2: -9223372036854775808<=ands[i].2/\ands[i].2<=9223372036854775807) :
  q13 pg i ins (.sl false 2 (ands.map aj)) gh=
   if fJ ins i ands[i] then some (.ret,⟨[(2,I 4)],[],gh⟩)
   else some (.normal,⟨[(1,.ptr false 0 0),(3,I ((i+1:Nat):Int))],[[I ins,.sl false 2 (ands.map aj)]],gh⟩):=by
 have e2:WI.wrap ((i:Int)+1)=((i+1:Nat):Int):=by rw[a9 (by omega) (by omega)];omega
 have hx:(ands.map aj)[i]?=some (.agg [I ands[i].1,I ands[i].2]):=by simp[aA hlt,aj]
 generalize hy:ands[i]=x at *;obtain⟨a,b⟩:=x;simp only at hr hr2 hx;have eN:WI.wrap (2*WI.wrap (WI.wrap (1+ins)+(i:Int)))=2*(1+ins+i):=by rw[a9 (n:=1+ins) (by omega) (by omega),a9 (n:=1+ins+i) (by omega) (by omega),a9 (by omega) (by omega)]
 have hltI:(i:Int)<(ands.length:Int):=by omega
 by_cases h1:b<=a
 ·rw[if_pos (show fJ ins i (a,b) from .inl h1)]
  simp[q13,hlt,hx,hy,fz,h1,-List.getElem?_map]
 by_cases h2:a<2
 ·rw[if_pos (show fJ ins i (a,b) from .inr (.inl h2))]
  simp[q13,hlt,hx,hy,fz,h1,h2,-List.getElem?_map]
 have ea:WI.wrap (Int.tdiv a 2)=a/2:=by rw[rJ (by omega),a9 (by omega) (by omega)]
 have eb:WI.wrap (Int.tdiv b 2)=b/2:=by rw[rJ (by omega),a9 (by omega) (by omega)]
 by_cases h3:2*(1+ins+i)<=b
 ·rw[if_pos (show fJ ins i (a,b) from .inr (.inr (.inl h3)))]
  simp[q13,hlt,hx,hy,fz,h1,h2,eN,h3,-List.getElem?_map]
 by_cases h4:a/2=b/2
 ·rw[if_pos (show fJ ins i (a,b) from .inr (.inr (.inr h4)))]
  simp[q13,hlt,hx,hy,fz,h1,h2,eN,ea,eb,h3,h4,-List.getElem?_map]
 ·rw[if_neg (show ¬fJ ins i (a,b) by rintro (h|h|h|h)<;>contradiction)]
  simp[q13,hlt,hx,hy,fz,h1,h2,eN,ea,eb,h3,h4,e2,-List.getElem?_map]
theorem we (hi:0<=ins/\ins<=1000) (hl:ands.length<=1000000) (hr:RA ands):∀k i,i+k=ands.length->
  ab pg q7v ⟨[(1,.ptr false 0 0),(3,I (i:Int))],[[I ins,.sl false 2 (ands.map aj)]],gh⟩=
  if okA ins i (ands.drop i) then some (.normal,⟨[(1,.ptr false 0 0)],[[I ins,.sl false 2 (ands.map aj)]],gh⟩) else some (.ret,⟨[(2,I 4)],[],gh⟩)
 |0,i,h=>by
  rw[aQ (by omega),okA,if_pos rfl];have hlt:¬i<ands.length:=by omega
  refine (cm (s1:=?s1) (q13_ ?h1)).trans ?r1
  case h1=>simp[q13,hlt];rfl
  case r1=>simp[keep]
 | k+1,i,h=>by
  have hlt:i<ands.length:=by omega
  have hx:=hr ands[i] (bX hlt);have hb:=EB (gh:=gh) hi hl hlt hx.1 hx.2;rw[aL hlt,okA];by_cases hbad:fJ ins i ands[i]
  ·rw[if_pos hbad] at hb ⊢
   exact dJ (q13_ hb)
  ·rw[if_neg hbad] at hb ⊢
   exact bh (q13_ hb) (we hi hl hr k (i+1) (by omega))
theorem wg (hl:ands.length<=1000000):∀k i,i+k=ands.length->(ands.take i).Nodup->
  ab pg q7w ⟨[(1,.ptr false 0 0),(6,I (i:Int))],[[I ins,.sl false 2 (ands.map aj)]],gh⟩=
  if ands.Nodup then some (.normal,⟨[],[],gh⟩) else some (.ret,⟨[(2,I 6)],[],gh⟩)
 |0,i,h,hn=>by
  rw[bM (by omega)] at hn;rw[if_pos hn];have hlt:¬i<ands.length:=by omega
  refine (cm (s1:=?s1) (qa6 ?h1)).trans ?r1
  case h1=>simp[hlt];rfl
  case r1=>simp[keep]
 | k+1,i,h,hn=>by
  have hlt:i<ands.length:=by omega
  have e2:WI.wrap ((i:Int)+1)=((i+1:Nat):Int):=by rw[a9 (by omega) (by omega)];omega
  have hx:(ands.map aj)[i]?=some (.agg [I ands[i].1,I ands[i].2]):=by simp[aA hlt,aj]
  have hat:=EA (ins:=ins) (gh:=gh) (a:=ands[i].1) (b:=ands[i].2) (f:=i) (by omega) hl;unfold fq at hat;have htake:ands.take (i+1)=ands.take i++[ands[i]]:=by rw[List.take_add_one,aA hlt];rfl
  cases hf:atA (ands.take i) (ands[i].1,ands[i].2) with
  | some j=>
   rw[hf] at hat;have hmem:ands[i]∈ands.take i:=by apply aV;intro hm;rw[atA_none.2 (show (ands[i].1,ands[i].2)∉ands.take i from hm)] at hf;cases hf
   have hnd:¬ands.Nodup:=by intro hnd;have:=hnd.sublist (List.take_sublist (i+1) ands);rw[htake,cM] at this;exact this.2.2 _ hmem _ (by simp) rfl
   rw[if_neg hnd];have hj:(0:Int)<=(j:Int):=by omega
   refine dJ (qa6 ?_);simp[hlt,hx,fz,hat,-List.getElem?_map]
  | none=>
   rw[hf] at hat;have hmem:ands[i]∉ands.take i:=atA_none.1 hf;refine bh (s1:=⟨[(1,.ptr false 0 0),(6,I ((i+1:Nat):Int))],[[I ins,.sl false 2 (ands.map aj)]],gh⟩) (qa6 ?_) (wg hl k (i+1) (by omega) ?_)
   ·simp[hlt,hx,fz,hat,e2,-List.getElem?_map]
   ·rw[htake,cM]
    exact⟨hn,by simp,λx hx y hy hxy=>by simp at hy;subst hy;subst hxy;exact hmem hx⟩
theorem EC (hr:RA ands):ac pg 2 [fq ins ands] gh=some (I (bq ins ands),gh):=by
 by_cases hi:0<=ins/\ins<=1000
 ·by_cases h3:1000000<ands.length
  ·have h3':(1000000:Int)<(ands.length:Int):=by omega
   have e:bq ins ands=2:=by unfold bq;rw[if_neg (λh=>h hi),if_pos h3]
   refine aq (fn:=qg) (s:=?s3) rfl rfl (q32 ?h3) ?r3
   case h3=>simp[ei,hi,h3'];rfl
   case r3=>simp[am,results,qg,ao,au,ai,e]
  ·have h3':¬(1000000:Int)<(ands.length:Int):=by omega
   have g1:=we (gh:=gh) hi (by omega) hr ands.length 0 (by omega);rw[bL] at g1;simp only[aX] at g1;cases hok:okA ins 0 ands with
   |false=>
    rw[hok] at g1;have e:bq ins ands=4:=by unfold bq;rw[if_neg (λh=>h hi),if_neg h3,hok];rfl
    refine aq (fn:=qg) (s:=?s4) rfl rfl (q32 ?h4) ?r4
    case h4=>simp[ei,hi,h3',g1];rfl
    case r4=>simp[am,results,qg,ao,au,ai,e]
   | true=>
    rw[hok,if_pos rfl] at g1;have g2:=wg (ins:=ins) (gh:=gh) (show ands.length<=1000000 by omega) ands.length 0 (by omega) (by simp);simp only[aX] at g2;have hk2:=qj4 (pg:=pg) (gh:=gh) (e:= .ret) (s:=⟨[(2,I 0)],[],gh⟩) rfl;by_cases hnd:ands.Nodup
    ·rw[if_pos hnd] at g2
     have e:bq ins ands=0:=by unfold bq;rw[if_neg (λh=>h hi),if_neg h3,hok,if_pos rfl,if_pos hnd]
     have hk1:=qgi (pg:=pg) (gh:=gh) (K0:=ins) (A1:= .sl false 2 (ands.map aj)) (e:= .ret) (s:=⟨[(2,I 0)],[],gh⟩) (by simp[g2,hk2]);refine aq (fn:=qg) (s:=?s5) rfl rfl (q32 ?h5) ?r5
     case h5=>simp[ei,hi,h3',g1,hk1];rfl
     case r5=>simp[am,results,qg,ao,au,ai,e]
    ·rw[if_neg hnd] at g2
     have e:bq ins ands=6:=by unfold bq;rw[if_neg (λh=>h hi),if_neg h3,hok,if_pos rfl,if_neg hnd]
     have hk1:=qgi (pg:=pg) (gh:=gh) (K0:=ins) (A1:= .sl false 2 (ands.map aj)) (e:= .ret) (s:=⟨[(2,I 6)],[],gh⟩) (by simp[g2]);refine aq (fn:=qg) (s:=?s6) rfl rfl (q32 ?h6) ?r6
     case h6=>simp[ei,hi,h3',g1,hk1];rfl
     case r6=>simp[am,results,qg,ao,au,ai,e]
 ·have e:bq ins ands=3:=by unfold bq;rw[if_pos hi]
  refine aq (fn:=qg) (s:=?s1) rfl rfl (q32 ?h1) ?r1
  case h1=>simp[ei,hi];rfl
  case r1=>simp[am,results,qg,ao,au,ai,e]
theorem wh (hi:0<=ins/\ins<=1000) (hl:ands.length<=1000000) (n:Int):ac pg 3 [fq ins ands,I n] gh=some (B (dt ins ands n),gh):=by
 have ew:WI.wrap (WI.wrap (2*WI.wrap (WI.wrap (1+ins)+(ands.length:Int)))-1)=2*eG ins ands-1:=by unfold eG;rw[a9 (n:=1+ins) (by omega) (by omega),a9 (n:=1+ins+ands.length) (by omega) (by omega),a9 (n:=2*(1+ins+ands.length)) (by omega) (by omega),a9 (by omega) (by omega)]
 have e:(decide (0<=n/\n<=2*eG ins ands-1))=dt ins ands n:=by unfold dt;rw[Bool.eq_iff_iff,aH,aH];omega
 have hb:=ei n 0 (2*eG ins ands-1) gh;rw[e] at hb;refine aq (fn:=q7z) (s:=⟨[(4,B (dt ins ands n))],[],gh⟩) rfl rfl (qj7 ?h1) ?r1
 case h1=>simp[ew,hb]
 case r1=>simp[am,results,q7z,ao,au,ai]
end
theorem rT (b:Bool) (gh:List GObj):ac pg 114 [B b] gh=some (I (if b then 1 else 0),gh):=by
 cases b
 ·refine aq (fn:=q2x) (s:=?s1) rfl rfl (qgn ?h1) ?r1
  case h1=>simp;rfl
  case r1=>simp[am,results,q2x,ao,au,ai]
 ·refine aq (fn:=q2x) (s:=?s2) rfl rfl (qgn ?h2) ?r2
  case h2=>simp;rfl
  case r2=>simp[am,results,q2x,ao,au,ai]
def eH (n w:Int):Int:=if dH .i64 1 (w-1)<=n then WI.wrap (n-dH .i64 1 w) else n
theorem rU (n w:Int) (hw:1<=w/\w<=8) (gh:List GObj):ac pg 115 [I n,I w] gh=some (I (eH n w),gh):=by
 have e:WI.wrap (w-1)=w-1:=a9 (by omega) (by omega);have h2:0<=w:=by omega
 by_cases h:dH .i64 1 (w-1)<=n
 ·refine aq (fn:=q2y) (s:=?s1) rfl rfl (qgo ?h1) ?r1
  case h1=>simp[e,hw.1,h2,h];rfl
  case r1=>simp[am,results,q2y,ao,au,ai,eH,h]
 ·refine aq (fn:=q2y) (s:=?s2) rfl rfl (qgo ?h2) ?r2
  case h2=>simp[e,hw.1,h];rfl
  case r2=>simp[am,results,q2y,ao,au,ai,eH,h]
theorem EJ (n w:Int) (hw:0<=w) (gh:List GObj):ac pg 65 [I n,I w] gh=some (B (decide (0<=n/\n<dH .i64 1 w)),gh):=by
 by_cases h:0<=n
 ·refine aq (fn:=q2w) (s:=?s1) rfl rfl (qgp ?h1) ?r1
  case h1=>simp[hw,h];rfl
  case r1=>simp[am,results,q2w,ao,au,ai,h]
 ·refine aq (fn:=q2w) (s:=?s2) rfl rfl (qgp ?h2) ?r2
  case h2=>simp[h];rfl
  case r2=>simp[am,results,q2w,ao,au,ai,h]
def cn (k a b c n w0 w1:Int):Int:=
 if k=4 then jY .i64 a else if k=5 then WI.wrap (0-a) else if k=6 then fG .i64 a b else if k=7 then iOr .i64 a b else if k=8 then fH .i64 a b
 else if k=9 then WI.wrap (a+b) else if k=10 then WI.wrap (a-b) else if k=11 then WI.wrap (a*b) else if k=14 then dH .i64 a b else if k=15 then fa .i64 a b
 else if k=16 then (if a=b then 1 else 0) else if k=17 then (if a<b then 1 else 0) else if k=18 then (if eH a w0<eH b w1 then 1 else 0)
 else if k=20 then iOr .i64 (dH .i64 a w1) b else if k=21 then fa .i64 a n else if k=23 then eH a w0 else if k=19 then (if a=1 then b else c)
 else if k=12 then (if b=0 then -1 else WI.wrap (Int.tdiv a b)) else if k=13 then (if b=0 then a else Int.tmod a b) else a
theorem EK (width a b c n w0 w1 w2:Int) (gh:List GObj):q4 pg 4 width a b c n w0 w1 w2 gh=some (.ret,⟨[(14,I (cn 4 a b c n w0 w1))],[],gh⟩):=rfl
theorem EL (width a b c n w0 w1 w2:Int) (gh:List GObj):q4 pg 5 width a b c n w0 w1 w2 gh=some (.ret,⟨[(14,I (cn 5 a b c n w0 w1))],[],gh⟩):=rfl
theorem EM (width a b c n w0 w1 w2:Int) (gh:List GObj):q4 pg 6 width a b c n w0 w1 w2 gh=some (.ret,⟨[(14,I (cn 6 a b c n w0 w1))],[],gh⟩):=rfl
theorem EN (width a b c n w0 w1 w2:Int) (gh:List GObj):q4 pg 7 width a b c n w0 w1 w2 gh=some (.ret,⟨[(14,I (cn 7 a b c n w0 w1))],[],gh⟩):=rfl
theorem EO (width a b c n w0 w1 w2:Int) (gh:List GObj):q4 pg 8 width a b c n w0 w1 w2 gh=some (.ret,⟨[(14,I (cn 8 a b c n w0 w1))],[],gh⟩):=rfl
theorem EP (width a b c n w0 w1 w2:Int) (gh:List GObj):q4 pg 9 width a b c n w0 w1 w2 gh=some (.ret,⟨[(14,I (cn 9 a b c n w0 w1))],[],gh⟩):=rfl
theorem EQ (width a b c n w0 w1 w2:Int) (gh:List GObj):q4 pg 10 width a b c n w0 w1 w2 gh=some (.ret,⟨[(14,I (cn 10 a b c n w0 w1))],[],gh⟩):=rfl
theorem ER (width a b c n w0 w1 w2:Int) (gh:List GObj):q4 pg 11 width a b c n w0 w1 w2 gh=some (.ret,⟨[(14,I (cn 11 a b c n w0 w1))],[],gh⟩):=rfl
theorem ES (width a b c n w0 w1 w2:Int) (gh:List GObj):q4 pg 12 width a b c n w0 w1 w2 gh=some (.ret,⟨[(14,I (cn 12 a b c n w0 w1))],[],gh⟩):=by
 have e1:q4 pg 12 width a b c n w0 w1 w2 gh=br 116 (b==0) (some (.ret,⟨[(14,I (-1))],[],gh⟩)) (gd (decide (b≠0)) (some (.ret,⟨[(14,I (WI.wrap (Int.tdiv a b)))],[],gh⟩))):=rfl;have e2:cn 12 a b c n w0 w1=if b=0 then -1 else WI.wrap (Int.tdiv a b):=rfl
 rw[e1,e2];by_cases h:b=0<;>simp[h]
theorem ET (width a b c n w0 w1 w2:Int) (gh:List GObj):q4 pg 13 width a b c n w0 w1 w2 gh=some (.ret,⟨[(14,I (cn 13 a b c n w0 w1))],[],gh⟩):=by
 have e1:q4 pg 13 width a b c n w0 w1 w2 gh=br 123 (b==0) (some (.ret,⟨[(14,I (a))],[],gh⟩)) (gd (decide (b≠0)) (some (.ret,⟨[(14,I (Int.tmod a b))],[],gh⟩))):=rfl;have e2:cn 13 a b c n w0 w1=if b=0 then a else Int.tmod a b:=rfl
 rw[e1,e2];by_cases h:b=0<;>simp[h]
theorem EU (width a b c n w0 w1 w2:Int) (gh:List GObj) (hb:0<=b):q4 pg 14 width a b c n w0 w1 w2 gh=some (.ret,⟨[(14,I (cn 14 a b c n w0 w1))],[],gh⟩):=by have e1:q4 pg 14 width a b c n w0 w1 w2 gh=gd (decide ((0:Int)<=b)) (some (.ret,⟨[(14,I (dH .i64 a b))],[],gh⟩)):=rfl;have e2:cn 14 a b c n w0 w1=dH .i64 a b:=rfl;rw[e1,e2];simp[hb]
theorem EV (width a b c n w0 w1 w2:Int) (gh:List GObj) (hb:0<=b):q4 pg 15 width a b c n w0 w1 w2 gh=some (.ret,⟨[(14,I (cn 15 a b c n w0 w1))],[],gh⟩):=by have e1:q4 pg 15 width a b c n w0 w1 w2 gh=gd (decide ((0:Int)<=b)) (some (.ret,⟨[(14,I (fa .i64 a b))],[],gh⟩)):=rfl;have e2:cn 15 a b c n w0 w1=fa .i64 a b:=rfl;rw[e1,e2];simp[hb]
theorem EW (width a b c n w0 w1 w2:Int) (gh:List GObj):q4 pg 16 width a b c n w0 w1 w2 gh=some (.ret,⟨[(14,I (cn 16 a b c n w0 w1))],[],gh⟩):=by
 have e1:q4 pg 16 width a b c n w0 w1 w2 gh=callR gh true (ac pg 114 [B (a==b)] gh) λr1 gh2=>unI .i64 r1 λn3=>some (.ret,⟨[(14,I n3)],[],gh2⟩):=rfl
 have e2:cn 16 a b c n w0 w1=if a=b then 1 else 0:=rfl
 rw[e1,e2];simp[rT]
theorem EY (width a b c n w0 w1 w2:Int) (gh:List GObj):q4 pg 17 width a b c n w0 w1 w2 gh=some (.ret,⟨[(14,I (cn 17 a b c n w0 w1))],[],gh⟩):=by
 have e1:q4 pg 17 width a b c n w0 w1 w2 gh=callR gh true (ac pg 114 [B (decide (a<b))] gh) λr1 gh2=>unI .i64 r1 λn3=>some (.ret,⟨[(14,I n3)],[],gh2⟩):=rfl
 have e2:cn 17 a b c n w0 w1=if a<b then 1 else 0:=rfl
 rw[e1,e2];simp[rT]
theorem EZ (width a b c n w0 w1 w2:Int) (gh:List GObj) (h0:1<=w0/\w0<=8) (h1:1<=w1/\w1<=8):q4 pg 18 width a b c n w0 w1 w2 gh=some (.ret,⟨[(14,I (cn 18 a b c n w0 w1))],[],gh⟩):=by
 have e1:q4 pg 18 width a b c n w0 w1 w2 gh=callR gh true (ac pg 115 [I a,I w0] gh) λr7 gh8=>unI .i64 r7 λn9=>callR gh8 true (ac pg 115 [I b,I w1] gh8) λr10 gh11=>unI .i64 r10 λn12=>callR gh11 true (ac pg 114 [B (decide (n9<n12))] gh11) λr13 gh14=>unI .i64 r13 λn15=>some (.ret,⟨[(14,I n15)],[],gh14⟩):=rfl
 have e2:cn 18 a b c n w0 w1=if eH a w0<eH b w1 then 1 else 0:=rfl
 rw[e1,e2];simp[rT,rU a w0 h0,rU b w1 h1]
theorem E0 (width a b c n w0 w1 w2:Int) (gh:List GObj):q4 pg 19 width a b c n w0 w1 w2 gh=some (.ret,⟨[(14,I (cn 19 a b c n w0 w1))],[],gh⟩):=by
 have e1:q4 pg 19 width a b c n w0 w1 w2 gh=br 110 (a==1) (some (.ret,⟨[(14,I (b))],[],gh⟩)) (some (.ret,⟨[(14,I (c))],[],gh⟩)):=rfl;have e2:cn 19 a b c n w0 w1=if a=1 then b else c:=rfl
 rw[e1,e2];by_cases h:a=1<;>simp[h]
theorem E1 (width a b c n w0 w1 w2:Int) (gh:List GObj) (h1:0<=w1):q4 pg 20 width a b c n w0 w1 w2 gh=some (.ret,⟨[(14,I (cn 20 a b c n w0 w1))],[],gh⟩):=by have e1:q4 pg 20 width a b c n w0 w1 w2 gh=gd (decide ((0:Int)<=w1)) (some (.ret,⟨[(14,I (iOr .i64 (dH .i64 a w1) b))],[],gh⟩)):=rfl;have e2:cn 20 a b c n w0 w1=iOr .i64 (dH .i64 a w1) b:=rfl;rw[e1,e2];simp[h1]
theorem E2 (width a b c n w0 w1 w2:Int) (gh:List GObj) (hn:0<=n):q4 pg 21 width a b c n w0 w1 w2 gh=some (.ret,⟨[(14,I (cn 21 a b c n w0 w1))],[],gh⟩):=by have e1:q4 pg 21 width a b c n w0 w1 w2 gh=gd (decide ((0:Int)<=n)) (some (.ret,⟨[(14,I (fa .i64 a n))],[],gh⟩)):=rfl;have e2:cn 21 a b c n w0 w1=fa .i64 a n:=rfl;rw[e1,e2];simp[hn]
theorem E3 (width a b c n w0 w1 w2:Int) (gh:List GObj):q4 pg 22 width a b c n w0 w1 w2 gh=some (.ret,⟨[(14,I (cn 22 a b c n w0 w1))],[],gh⟩):=rfl
theorem E4 (width a b c n w0 w1 w2:Int) (gh:List GObj) (h0:1<=w0/\w0<=8):q4 pg 23 width a b c n w0 w1 w2 gh=some (.ret,⟨[(14,I (cn 23 a b c n w0 w1))],[],gh⟩):=by
 have e1:q4 pg 23 width a b c n w0 w1 w2 gh=callR gh true (ac pg 115 [I a,I w0] gh) λr1 gh2=>unI .i64 r1 λn3=>some (.ret,⟨[(14,I n3)],[],gh2⟩):=rfl
 have e2:cn 23 a b c n w0 w1=eH a w0:=rfl;rw[e1,e2];simp[rU a w0 h0]
theorem E5 (k width a b c n w0 w1 w2:Int) (hk:4<=k/\k<24) (hb:0<=b) (hn:k=21->0<=n) (h0:1<=w0/\w0<=8) (h1:k=18\/k=20->1<=w1/\w1<=8) (gh:List GObj) :
  ac pg 96 [I k,I width,I a,I b,I c,I n,.agg [I w0,I w1,I w2]] gh=some (I (cn k a b c n w0 w1),gh):=by
 have hd:q4 pg k width a b c n w0 w1 w2 gh=some (.ret,⟨[(14,I (cn k a b c n w0 w1))],[],gh⟩):=by
  have:k=4\/k=5\/k=6\/k=7\/k=8\/k=9\/k=10\/k=11\/k=12\/k=13\/k=14\/k=15\/k=16\/k=17\/k=18\/k=19\/k=20\/k=21\/k=22\/k=23:=by omega
  rcases this with rfl|rfl|rfl|rfl|rfl|rfl|rfl|rfl|rfl|rfl|rfl|rfl|rfl|rfl|rfl|rfl|rfl|rfl|rfl|rfl
  ·exact EK width a b c n w0 w1 w2 gh
  ·exact EL width a b c n w0 w1 w2 gh
  ·exact EM width a b c n w0 w1 w2 gh
  ·exact EN width a b c n w0 w1 w2 gh
  ·exact EO width a b c n w0 w1 w2 gh
  ·exact EP width a b c n w0 w1 w2 gh
  ·exact EQ width a b c n w0 w1 w2 gh
  ·exact ER width a b c n w0 w1 w2 gh
  ·exact ES width a b c n w0 w1 w2 gh
  ·exact ET width a b c n w0 w1 w2 gh
  ·exact EU width a b c n w0 w1 w2 gh hb
  ·exact EV width a b c n w0 w1 w2 gh hb
  ·exact EW width a b c n w0 w1 w2 gh
  ·exact EY width a b c n w0 w1 w2 gh
  ·exact EZ width a b c n w0 w1 w2 gh h0 (h1 (.inl rfl))
  ·exact E0 width a b c n w0 w1 w2 gh
  ·exact E1 width a b c n w0 w1 w2 gh (by have:=h1 (.inr rfl);omega)
  ·exact E2 width a b c n w0 w1 w2 gh (hn rfl)
  ·exact E3 width a b c n w0 w1 w2 gh
  ·exact E4 width a b c n w0 w1 w2 gh h0
 refine aq (fn:=q9k) rfl rfl (q4_ hd) ?r1;simp[am,results,q9k,ao,au,ai]
def cz (k width a b c n w0 w1:Int):Int:=fG .i64 (cn k a b c n w0 w1) (WI.wrap (dH .i64 1 width-1))
theorem E6 (k width a b c n w0 w1 w2:Int) (hk:4<=k/\k<24) (hb:0<=b) (hn:k=21->0<=n) (h0:1<=w0/\w0<=8) (h1:k=18\/k=20->1<=w1/\w1<=8) (hw:0<=width) (gh:List GObj) :
  ac pg 66 [I k,I width,I a,I b,I c,I n,.agg [I w0,I w1,I w2]] gh=some (I (cz k width a b c n w0 w1),gh):=by
 refine aq (fn:=q9j) (s:=?s1) rfl rfl (qjg ?h1) ?r1
 case h1=>simp[E5 k width a b c n w0 w1 w2 hk hb hn h0 h1,hw];rfl
 case r1=>simp[am,results,q9j,ao,au,ai,cz]
def E7 (k i x w:Int):Prop:=if i<az k then 0<=x/\x<dH .i64 1 w else x=0
instance (k i x w:Int):Decidable (E7 k i x w):=inferInstanceAs (Decidable (if i<az k then 0<=x/\x<dH .i64 1 w else x=0))
theorem la {k width n w0 w1 w2:Int} (h:gi k width n w0 w1 w2=0):(4<=k/\k<24)/\(1<=width/\width<=8)/\wOk k 0 w0/\wOk k 1 w1/\wOk k 2 w2/\∃s,ct k=some s/\ck s width n w0 w1 w2=true:=by
 unfold gi at h;cases hs:ct k with
 |none=>rw[hs] at h;cases h
 | some s=>
  rw[hs] at h;simp only at h;by_cases h1:1<=width/\width<=8
  ·by_cases h2:wOk k 0 w0/\wOk k 1 w1/\wOk k 2 w2
   ·simp only[h1,h2,and_self,not_true,if_false] at h
    refine⟨?_,h1,h2.1,h2.2.1,h2.2.2,s,rfl,?_⟩
    ·simp only[ct] at hs
     repeat' split at hs
     all_goals first|(exfalso;cases hs;done)|omega
    ·cases hf:ck s width n w0 w1 w2 with
     |true=>rfl
     |false=>rw[hf] at h;cases h
   ·simp only[h1,and_self,not_true,if_false,h2,not_false_iff,if_true] at h;cases h
  ·simp only[h1,not_false_iff,if_true] at h;cases h
theorem mm {k:Int} (h:4<=k/\k<24):0<az k:=by
 simp only[az]
 repeat' split
 all_goals omega
section
variable {A i w:Nat}
theorem jB (k:Nat):((2^k:Nat):Int)=2^k:=Int.natCast_pow 2 k
theorem wn {k:Nat} (hk:k<=61) (gh:List GObj):∀m i,i+m=k->ab pg q4e ⟨[(0,I k),(3,I ((2^i:Nat):Int)),(4,I i)],[],gh⟩=some (.normal,⟨[(3,I ((2^k:Nat):Int))],[],gh⟩)
 |0,i,h=>by
  obtain rfl:i=k:=by omega
  refine (cm (s1:=?s1) (qgq ?h1)).trans ?r1
  case h1=>simp;rfl
  case r1=>simp[keep]
 | m+1,i,h=>by
  have hlt:(i:Int)<(k:Int):=by omega
  have h1:2^i<=2^60:=bO (by decide) (by omega);have e1:WI.wrap (2*((2^i:Nat):Int))=((2^(i+1):Nat):Int):=by rw[Nat.pow_succ];generalize 2^i=q at h1;rw[a9 (by omega) (by omega)];omega
  have e2:WI.wrap ((i:Int)+1)=((i+1:Nat):Int):=by rw[a9 (by omega) (by omega)];omega
  refine bh (s1:=⟨[(0,I k),(3,I ((2^(i+1):Nat):Int)),(4,I ((i+1:Nat):Int))],[],gh⟩) (qgq ?h2) ?r2
  case h2=>rw[e1,e2,aG hlt];rfl
  case r2=>exact wn hk gh m (i+1) (by omega)
theorem fU {k:Nat} (hk:k<=61) (gh:List GObj):ac pg 27 [I k] gh=some (I ((2^k:Nat):Int),gh):=by
 have hl:=wn hk gh k 0 (by omega);have hk1:=qjk (pg:=pg) (gh:=gh) (x3:=((2^k:Nat):Int)) (e:= .ret) (s:=⟨[(2,I ((2^k:Nat):Int))],[],gh⟩) rfl;refine aq (fn:=q8a) (s:=⟨[(2,I ((2^k:Nat):Int))],[],gh⟩) rfl rfl (qjl ?h1) ?r1
 case h1=>
  have hl':ab pg q4e ⟨[(0,I k),(3,I 1),(4,I 0)],[],gh⟩=some (.normal,⟨[(3,I ((2^k:Nat):Int))],[],gh⟩):=hl;rw[hl',jy,vF,hk1,jy]
 case r1=>simp[am,results,q8a,ao,au,ai]
theorem mn (hA:A<65536) (hi:i<=61) (gh:List GObj):ac pg 97 [I A,I i] gh=some (I ((A/2^i%2:Nat):Int),gh):=by
 have h0:(2:Nat)^i≠0:=by have:=Nat.one_le_two_pow (n:=i);omega
 have h1:A/2^i<=A:=Nat.div_le_self _ _;have e1:Int.tmod (WI.wrap (Int.tdiv (A:Int) ((2^i:Nat):Int))) 2=((A/2^i%2:Nat):Int):=by have e0:Int.tdiv (A:Int) ((2^i:Nat):Int)=((A/2^i:Nat):Int):=(Int.ofNat_tdiv _ _).symm;rw[e0];generalize A/2^i=q at h1;rw[a9 (by omega) (by omega)];exact (Int.ofNat_tmod _ 2).symm
 have h2:(((2^i:Nat):Int)≠0):=by omega
 refine aq (fn:=q8x) (s:=⟨[(4,I ((A/2^i%2:Nat):Int))],[],gh⟩) rfl rfl (qjn ?h1) ?r1
 case h1=>
  rw[fU hi gh,dA,dz,aG h2,e1];rfl
 case r1=>simp[am,results,q8x,ao,au,ai]
theorem rV (b:Bool) (gh:List GObj):ac pg 68 [B b] gh=some (I (if b then 1 else 0),gh):=by
 cases b
 ·refine aq (fn:=q2l) (s:=?s1) rfl rfl (qgs ?h1) ?r1
  case h1=>simp;rfl
  case r1=>simp[am,results,q2l,ao,au,ai]
 ·refine aq (fn:=q2l) (s:=?s2) rfl rfl (qgs ?h2) ?r2
  case h2=>simp;rfl
  case r2=>simp[am,results,q2l,ao,au,ai]
theorem mo (hw:1<=w/\w<=8):w=1\/w=2\/w=3\/w=4\/w=5\/w=6\/w=7\/w=8:=by omega
theorem E8 (hw:1<=w/\w<=8) (hA:A<2^w):A/2^(w-1)%2=if 2^(w-1)<=A then 1 else 0:=by rcases mo hw with rfl|rfl|rfl|rfl|rfl|rfl|rfl|rfl<;>simp at hA ⊢ <;>split<;>omega
theorem rW (hw:1<=w/\w<=8) (hA:A<2^w):eH A w=if 2^(w-1)<=A then (A:Int)-((2^w:Nat):Int) else A:=by
 have h1:=fh hw.2;have e0:((w:Int)-1)=((w-1:Nat):Int):=by omega
 rw[eH,e0,nO (by omega),nO hw.2,<-jB,<-jB,a9 (by omega) (by omega)];by_cases h:2^(w-1)<=A
 ·rw[if_pos h,if_pos (by omega)]
 ·rw[if_neg h,if_neg (by omega)]
theorem rX (hw:1<=w/\w<=8) (hA:A<2^w) (gh:List GObj):ac pg 69 [I A,I w] gh=some (I (eH A w),gh):=by
 have h1:=fh hw.2;have e0:WI.wrap ((w:Int)-1)=((w-1:Nat):Int):=by rw[a9 (by omega) (by omega)];omega
 have hs:=rW hw hA;have hb:=E8 hw hA;have ew:WI.wrap ((A:Int)-((2^w:Nat):Int))=(A:Int)-((2^w:Nat):Int):=a9 (by omega) (by omega);by_cases h:2^(w-1)<=A
 ·rw[if_pos h] at hs hb
  refine aq (fn:=q2m) (s:=⟨[(4,I (eH A w))],[],gh⟩) rfl rfl (qgr ?h1) ?r1
  case h1=>
   rw[e0,mn (by omega) (by omega),dA,dz,hb,show (((1:Nat):Int)==1)=true from rfl,dO,fU (by omega),dA,dz,ew,hs]
  case r1=>simp[am,results,q2m,ao,au,ai]
 ·rw[if_neg h] at hs hb
  refine aq (fn:=q2m) (s:=⟨[(4,I (eH A w))],[],gh⟩) rfl rfl (qgr ?h2) ?r2
  case h2=>
   rw[e0,mn (by omega) (by omega),dA,dz,hb,hs,show (((0:Nat):Int)==1)=false from rfl,dq]
  case r2=>simp[am,results,q2m,ao,au,ai]
def tbl (t0 t1 t2 t3:Int) (x y:Nat):Int:=if x=0 then (if y=0 then t0 else t1) else (if y=0 then t2 else t3)
theorem E9 {B:Nat} (t0 t1 t2 t3:Int) (s:Int) (hA:A<65536) (hB:B<65536) (hi:i<w) (hw:w<=8) (gh:List GObj) :
  q4x pg A B w s i t0 t1 t2 t3 gh=some (.normal,⟨[(0,I A),(1,I B),(2,I w),(7,.ptr false 0 0),(9,I (WI.wrap (s+WI.wrap (tbl t0 t1 t2 t3 (A/2^i%2) (B/2^i%2)*((2^i:Nat):Int))))),(10,I ((i+1:Nat):Int))],[[I t0,I t1,I t2,I t3]],gh⟩):=by
 have hlt:(i:Int)<(w:Int):=by omega
 have e2:WI.wrap ((i:Int)+1)=((i+1:Nat):Int):=by rw[a9 (by omega) (by omega)];omega
 have hx:A/2^i%2=0\/A/2^i%2=1:=by omega
 have hy:B/2^i%2=0\/B/2^i%2=1:=by omega
 rw[q4x,e2,aG hlt,dO,mn hA (by omega),dA,dz,mn hB (by omega),dA,dz];rcases hx with hx|hx<;>rcases hy with hy|hy<;>rw[hx,hy]
 ·rw[show WI.wrap (WI.wrap (2*((0:Nat):Int))+((0:Nat):Int))=0 by decide]
  have:=fU (show i<=61 by omega) gh;rw[jB] at this;simp[this,tbl]
 ·rw[show WI.wrap (WI.wrap (2*((0:Nat):Int))+((1:Nat):Int))=1 by decide]
  have:=fU (show i<=61 by omega) gh;rw[jB] at this;simp[this,tbl]
 ·rw[show WI.wrap (WI.wrap (2*((1:Nat):Int))+((0:Nat):Int))=2 by decide]
  have:=fU (show i<=61 by omega) gh;rw[jB] at this;simp[this,tbl]
 ·rw[show WI.wrap (WI.wrap (2*((1:Nat):Int))+((1:Nat):Int))=3 by decide]
  have:=fU (show i<=61 by omega) gh;rw[jB] at this;simp[this,tbl]
theorem wo {A B w R:Nat} (t0 t1 t2 t3:Int) (hA:A<65536) (hB:B<65536) (hw:w<=8) (hR:∀i,tbl t0 t1 t2 t3 (A/2^i%2) (B/2^i%2)=((R/2^i%2:Nat):Int)) (gh:List GObj) :
  ∀m i,i+m=w->ab pg q8n ⟨[(0,I A),(1,I B),(2,I w),(7,.ptr false 0 0),(9,I ((R%2^i:Nat):Int)),(10,I i)],[[I t0,I t1,I t2,I t3]],gh⟩=some (.normal,⟨[(9,I ((R%2^w:Nat):Int))],[],gh⟩)
 |0,i,h=>by
  obtain rfl:i=w:=by omega
  refine (cm (s1:=?s1) (q4x_ ?h1)).trans ?r1
  case h1=>simp only[q4x,Int.lt_irrefl,decide_false,dq];rfl
  case r1=>rfl
 | m+1,i,h=>by
  refine bh (q4x_ (E9 t0 t1 t2 t3 _ hA hB (by omega) hw gh)) ?r2;have e:WI.wrap (((R%2^i:Nat):Int)+WI.wrap (tbl t0 t1 t2 t3 (A/2^i%2) (B/2^i%2)*((2^i:Nat):Int)))=((R%2^(i+1):Nat):Int):=by have h1:=fh (show i<=8 by omega);have h2:R%2^i<2^i:=Nat.mod_lt _ (by have:=Nat.one_le_two_pow (n:=i);omega);rw[hR i,<-Int.natCast_mul,Nat.mod_pow_succ,Nat.mul_comm (R/2^i%2)];have h3:2^i*(R/2^i%2)<=256*1:=Nat.mul_le_mul h1 (by omega);generalize R%2^i=x at h2 ⊢;generalize 2^i*(R/2^i%2)=y at h3 ⊢;generalize 2^i=q at h1 h2;rw[a9 (n:=(y:Int)) (by omega) (by omega),a9 (by omega) (by omega)];omega
  rw[e];exact wo t0 t1 t2 t3 hA hB hw hR gh m (i+1) (by omega)
theorem rY {B R:Nat} (t0 t1 t2 t3:Int) (hA:A<65536) (hB:B<65536) (hw:w<=8) (hR:∀i,tbl t0 t1 t2 t3 (A/2^i%2) (B/2^i%2)=((R/2^i%2:Nat):Int)) (gh:List GObj) :
  ac pg 67 [I A,I B,I w,.agg [I t0,I t1,I t2,I t3]] gh=some (I ((R%2^w:Nat):Int),gh):=by
 have hl:=wo t0 t1 t2 t3 hA hB hw hR gh w 0 (by omega);rw[Nat.pow_zero,Nat.mod_one] at hl;have hk1:=qjq (pg:=pg) (gh:=gh) (x9:=((R%2^w:Nat):Int)) (e:= .ret) (s:=⟨[(8,I ((R%2^w:Nat):Int))],[],gh⟩) rfl;refine aq (fn:=q8p) (s:=⟨[(8,I ((R%2^w:Nat):Int))],[],gh⟩) rfl rfl (qgt_ ?h1) ?r1
 case h1=>
  rw[qgt]
  erw [hl]
  rw[jy,vF,hk1,jy]
 case r1=>simp[am,results,q8p,ao,au,ai]
theorem Fa (A B i:Nat):tbl 0 0 0 1 (A/2^i%2) (B/2^i%2)=(((A &&&B)/2^i%2:Nat):Int):=by rw[<-Nat.toNat_testBit,<-Nat.toNat_testBit,<-Nat.toNat_testBit,Nat.testBit_and];cases A.testBit i<;>cases B.testBit i<;>rfl
theorem Fb (A B i:Nat):tbl 0 1 1 1 (A/2^i%2) (B/2^i%2)=(((A |||B)/2^i%2:Nat):Int):=by rw[<-Nat.toNat_testBit,<-Nat.toNat_testBit,<-Nat.toNat_testBit,Nat.testBit_or];cases A.testBit i<;>cases B.testBit i<;>rfl
theorem Fc (A B i:Nat):tbl 0 1 1 0 (A/2^i%2) (B/2^i%2)=(((A ^^^B)/2^i%2:Nat):Int):=by rw[<-Nat.toNat_testBit,<-Nat.toNat_testBit,<-Nat.toNat_testBit,Nat.testBit_xor];cases A.testBit i<;>cases B.testBit i<;>rfl
end
section
variable {W A W0:Nat}
theorem Fd (W A B C N W0 W1 W2:Nat) (gh:List GObj):q7 pg 4 W A B C N W0 W1 W2 gh=callR gh true (ac pg 27 [I W] gh) (λr1 gh2=>unI .i64 r1 λn3=>(some (.ret,⟨[(14,(.int .i64 (WI.wrap ((WI.wrap (n3-1))-(A:Int)))))],[],gh2⟩))):=rfl
theorem Fe (W A B C N W0 W1 W2:Nat) (gh:List GObj):q7 pg 5 W A B C N W0 W1 W2 gh=callR gh true (ac pg 27 [I W] gh) (λr1 gh2=>unI .i64 r1 λn3=>(gd (decide ((n3:Int)≠0)) (some (.ret,⟨[(14,(.int .i64 (Int.tmod (WI.wrap (n3-(A:Int))) n3)))],[],gh2⟩)))):=rfl
theorem Ff (W A B C N W0 W1 W2:Nat) (gh:List GObj):q7 pg 6 W A B C N W0 W1 W2 gh=callR gh true (ac pg 27 [I W] gh) (λr1 gh2=>unI .i64 r1 λn3=>(callR gh2 true (ac pg 67 [(.int .i64 (A:Int)),(.int .i64 (B:Int)),(.int .i64 (W:Int)),(.agg [(.int .i64 0),(.int .i64 0),(.int .i64 0),(.int .i64 1)])] gh2) λr4 gh5=>unI .i64 r4 λn6=>some (.ret,⟨[(14,(.int .i64 n6))],[],gh5⟩))):=rfl
theorem Fg (W A B C N W0 W1 W2:Nat) (gh:List GObj):q7 pg 7 W A B C N W0 W1 W2 gh=callR gh true (ac pg 27 [I W] gh) (λr1 gh2=>unI .i64 r1 λn3=>(callR gh2 true (ac pg 67 [(.int .i64 (A:Int)),(.int .i64 (B:Int)),(.int .i64 (W:Int)),(.agg [(.int .i64 0),(.int .i64 1),(.int .i64 1),(.int .i64 1)])] gh2) λr7 gh8=>unI .i64 r7 λn9=>some (.ret,⟨[(14,(.int .i64 n9))],[],gh8⟩))):=rfl
theorem Fh (W A B C N W0 W1 W2:Nat) (gh:List GObj):q7 pg 8 W A B C N W0 W1 W2 gh=callR gh true (ac pg 27 [I W] gh) (λr1 gh2=>unI .i64 r1 λn3=>(callR gh2 true (ac pg 67 [(.int .i64 (A:Int)),(.int .i64 (B:Int)),(.int .i64 (W:Int)),(.agg [(.int .i64 0),(.int .i64 1),(.int .i64 1),(.int .i64 0)])] gh2) λr10 gh11=>unI .i64 r10 λn12=>some (.ret,⟨[(14,(.int .i64 n12))],[],gh11⟩))):=rfl
theorem Fi (W A B C N W0 W1 W2:Nat) (gh:List GObj):q7 pg 9 W A B C N W0 W1 W2 gh=callR gh true (ac pg 27 [I W] gh) (λr1 gh2=>unI .i64 r1 λn3=>(gd (decide ((n3:Int)≠0)) (some (.ret,⟨[(14,(.int .i64 (Int.tmod (WI.wrap ((A:Int)+(B:Int))) n3)))],[],gh2⟩)))):=rfl
theorem Fj (W A B C N W0 W1 W2:Nat) (gh:List GObj):q7 pg 10 W A B C N W0 W1 W2 gh=callR gh true (ac pg 27 [I W] gh) (λr1 gh2=>unI .i64 r1 λn3=>(gd (decide ((n3:Int)≠0)) (some (.ret,⟨[(14,(.int .i64 (Int.tmod (WI.wrap ((WI.wrap ((A:Int)+n3))-(B:Int))) n3)))],[],gh2⟩)))):=rfl
theorem Fk (W A B C N W0 W1 W2:Nat) (gh:List GObj):q7 pg 11 W A B C N W0 W1 W2 gh=callR gh true (ac pg 27 [I W] gh) (λr1 gh2=>unI .i64 r1 λn3=>(gd (decide ((n3:Int)≠0)) (some (.ret,⟨[(14,(.int .i64 (Int.tmod (WI.wrap ((A:Int)*(B:Int))) n3)))],[],gh2⟩)))):=rfl
theorem Fl (W A B C N W0 W1 W2:Nat) (gh:List GObj):q7 pg 12 W A B C N W0 W1 W2 gh=callR gh true (ac pg 27 [I W] gh) (λr1 gh2=>unI .i64 r1 λn3=>(br 79 ((B:Int)==0) (some (.ret,⟨[(14,(.int .i64 (WI.wrap (n3-1))))],[],gh2⟩)) (gd (decide (((B:Int):Int)≠0)) (some (.ret,⟨[(14,(.int .i64 (WI.wrap (Int.tdiv (A:Int) (B:Int)))))],[],gh2⟩))))):=rfl
theorem Fm (W A B C N W0 W1 W2:Nat) (gh:List GObj):q7 pg 13 W A B C N W0 W1 W2 gh=callR gh true (ac pg 27 [I W] gh) (λr1 gh2=>unI .i64 r1 λn3=>(br 88 ((B:Int)==0) (some (.ret,⟨[(14,(.int .i64 (A:Int)))],[],gh2⟩)) (gd (decide (((B:Int):Int)≠0)) (some (.ret,⟨[(14,(.int .i64 (Int.tmod (A:Int) (B:Int))))],[],gh2⟩))))):=rfl
theorem Fo (W A B C N W0 W1 W2:Nat) (gh:List GObj):q7 pg 14 W A B C N W0 W1 W2 gh=callR gh true (ac pg 27 [I W] gh) (λr1 gh2=>unI .i64 r1 λn3=>(br 97 (decide ((W:Int)<=(B:Int))) (some (.ret,⟨[(14,(.int .i64 0))],[],gh2⟩)) (callR gh2 true (ac pg 27 [(.int .i64 (B:Int))] gh2) λr13 gh14=>unI .i64 r13 λn15=>gd (decide ((n3:Int)≠0)) (some (.ret,⟨[(14,(.int .i64 (Int.tmod (WI.wrap ((A:Int)*n15)) n3)))],[],gh14⟩))))):=rfl
theorem Fp (W A B C N W0 W1 W2:Nat) (gh:List GObj):q7 pg 15 W A B C N W0 W1 W2 gh=callR gh true (ac pg 27 [I W] gh) (λr1 gh2=>unI .i64 r1 λn3=>(br 108 (decide ((W:Int)<=(B:Int))) (some (.ret,⟨[(14,(.int .i64 0))],[],gh2⟩)) (callR gh2 true (ac pg 27 [(.int .i64 (B:Int))] gh2) λr16 gh17=>unI .i64 r16 λn18=>gd (decide ((n18:Int)≠0)) (some (.ret,⟨[(14,(.int .i64 (WI.wrap (Int.tdiv (A:Int) n18))))],[],gh17⟩))))):=rfl
theorem Fq (W A B C N W0 W1 W2:Nat) (gh:List GObj):q7 pg 16 W A B C N W0 W1 W2 gh=callR gh true (ac pg 27 [I W] gh) (λr1 gh2=>unI .i64 r1 λn3=>(callR gh2 true (ac pg 68 [(.bool ((A:Int)==(B:Int)))] gh2) λr19 gh20=>unI .i64 r19 λn21=>some (.ret,⟨[(14,(.int .i64 n21))],[],gh20⟩))):=rfl
theorem Fr (W A B C N W0 W1 W2:Nat) (gh:List GObj):q7 pg 17 W A B C N W0 W1 W2 gh=callR gh true (ac pg 27 [I W] gh) (λr1 gh2=>unI .i64 r1 λn3=>(callR gh2 true (ac pg 68 [(.bool (decide ((A:Int)<(B:Int))))] gh2) λr22 gh23=>unI .i64 r22 λn24=>some (.ret,⟨[(14,(.int .i64 n24))],[],gh23⟩))):=rfl
theorem Fs (W A B C N W0 W1 W2:Nat) (gh:List GObj):q7 pg 18 W A B C N W0 W1 W2 gh=callR gh true (ac pg 27 [I W] gh) (λr1 gh2=>unI .i64 r1 λn3=>(callR gh2 true (ac pg 69 [(.int .i64 (A:Int)),(.int .i64 (W0:Int))] gh2) λr25 gh26=>unI .i64 r25 λn27=>callR gh26 true (ac pg 69 [(.int .i64 (B:Int)),(.int .i64 (W1:Int))] gh26) λr28 gh29=>unI .i64 r28 λn30=>callR gh29 true (ac pg 68 [(.bool (decide (n27<n30)))] gh29) λr31 gh32=>unI .i64 r31 λn33=>some (.ret,⟨[(14,(.int .i64 n33))],[],gh32⟩))):=rfl
theorem Ft (W A B C N W0 W1 W2:Nat) (gh:List GObj):q7 pg 19 W A B C N W0 W1 W2 gh=callR gh true (ac pg 27 [I W] gh) (λr1 gh2=>unI .i64 r1 λn3=>(br 140 ((A:Int)==1) (some (.ret,⟨[(14,(.int .i64 (B:Int)))],[],gh2⟩)) (some (.ret,⟨[(14,(.int .i64 (C:Int)))],[],gh2⟩)))):=rfl
theorem Fu (W A B C N W0 W1 W2:Nat) (gh:List GObj):q7 pg 20 W A B C N W0 W1 W2 gh=callR gh true (ac pg 27 [I W] gh) (λr1 gh2=>unI .i64 r1 λn3=>(callR gh2 true (ac pg 27 [(.int .i64 (W1:Int))] gh2) λr34 gh35=>unI .i64 r34 λn36=>some (.ret,⟨[(14,(.int .i64 (WI.wrap ((WI.wrap ((A:Int)*n36))+(B:Int)))))],[],gh35⟩))):=rfl
theorem Fv (W A B C N W0 W1 W2:Nat) (gh:List GObj):q7 pg 21 W A B C N W0 W1 W2 gh=callR gh true (ac pg 27 [I W] gh) (λr1 gh2=>unI .i64 r1 λn3=>(callR gh2 true (ac pg 27 [(.int .i64 (N:Int))] gh2) λr37 gh38=>unI .i64 r37 λn39=>gd (decide ((n39:Int)≠0)) (gd (decide ((n3:Int)≠0)) (some (.ret,⟨[(14,(.int .i64 (Int.tmod (WI.wrap (Int.tdiv (A:Int) n39)) n3)))],[],gh38⟩))))):=rfl
theorem Fw (W A B C N W0 W1 W2:Nat) (gh:List GObj):q7 pg 23 W A B C N W0 W1 W2 gh=callR gh true (ac pg 27 [I W] gh) (λr1 gh2=>unI .i64 r1 λn3=>(callR gh2 true (ac pg 69 [(.int .i64 (A:Int)),(.int .i64 (W0:Int))] gh2) λr40 gh41=>unI .i64 r40 λn42=>gd (decide ((n3:Int)≠0)) (some (.ret,⟨[(14,(.int .i64 (Int.tmod (WI.wrap (n42+n3)) n3)))],[],gh41⟩)))):=rfl
theorem Fx (W A B C N W0 W1 W2:Nat) (gh:List GObj):q7 pg 22 W A B C N W0 W1 W2 gh=callR gh true (ac pg 27 [I W] gh) (λr1 gh2=>unI .i64 r1 λn3=>some (.ret,⟨[(14,(.int .i64 (A:Int)))],[],gh2⟩)):=rfl
theorem e7 (k a b c n w0 w1:Int) (hW:W<=8):cz k W a b c n w0 w1=cn k a b c n w0 w1%((2^W:Nat):Int):=by unfold cz;rw[Ei hW,Ef _ hW,jB]
theorem j5 (x:Int) (p:Nat) (h:0<=x):Int.tmod x (p:Int)=x%(p:Int):=Int.tmod_eq_emod_of_nonneg h
theorem wq (hW:1<=W/\W<=8) (hA:A<2^W):WI.wrap (WI.wrap (((2^W:Nat):Int)-1)-(A:Int))=jY .i64 A%((2^W:Nat):Int):=by have h1:=fh hW.2;rw[Eg (by omega),a9 (n:=((2^W:Nat):Int)-1) (by omega) (by omega),a9 (by omega) (by omega)];rcases mo hW with rfl|rfl|rfl|rfl|rfl|rfl|rfl|rfl<;>simp at hA ⊢ <;>omega
theorem wt (hW:1<=W/\W<=8) (hA:A<2^W):Int.tmod (WI.wrap (((2^W:Nat):Int)-(A:Int))) ((2^W:Nat):Int)=WI.wrap (0-(A:Int))%((2^W:Nat):Int):=by have h1:=fh hW.2;rw[a9 (by omega) (by omega),a9 (by omega) (by omega),j5 _ _ (by omega)];rcases mo hW with rfl|rfl|rfl|rfl|rfl|rfl|rfl|rfl<;>simp at hA ⊢ <;>omega
theorem Fy {B:Nat} (hW:1<=W/\W<=8) (hA:A<2^W) (hB:B<2^W):Int.tmod (WI.wrap ((A:Int)+B)) ((2^W:Nat):Int)=WI.wrap ((A:Int)+B)%((2^W:Nat):Int):=by have h1:=fh hW.2;rw[a9 (by omega) (by omega),j5 _ _ (by omega)]
theorem wu {B:Nat} (hW:1<=W/\W<=8) (hA:A<2^W) (hB:B<2^W):Int.tmod (WI.wrap (WI.wrap ((A:Int)+((2^W:Nat):Int))-B)) ((2^W:Nat):Int)=WI.wrap ((A:Int)-B)%((2^W:Nat):Int):=by have h1:=fh hW.2;rw[a9 (n:=(A:Int)+((2^W:Nat):Int)) (by omega) (by omega),a9 (by omega) (by omega),a9 (by omega) (by omega),j5 _ _ (by omega)];rcases mo hW with rfl|rfl|rfl|rfl|rfl|rfl|rfl|rfl<;>simp at hA hB ⊢ <;>omega
theorem Fz {B:Nat} (hW:1<=W/\W<=8) (hA:A<2^W) (hB:B<2^W):Int.tmod (WI.wrap ((A:Int)*B)) ((2^W:Nat):Int)=WI.wrap ((A:Int)*B)%((2^W:Nat):Int):=by
 have h1:=fh hW.2;have h2:A*B<=256*256:=Nat.mul_le_mul (by omega) (by omega);have e:(A:Int)*B=((A*B:Nat):Int):=by simp
 rw[e,a9 (by omega) (by omega),j5 _ _ (by omega)]
theorem jC {x:Int} (h0:0<=x) (h:x<((2^W:Nat):Int)):x%((2^W:Nat):Int)=x:=Int.emod_eq_of_lt h0 h
theorem ww (hW:1<=W/\W<=8):WI.wrap (((2^W:Nat):Int)-1)=(-1)%((2^W:Nat):Int):=by rcases mo hW with rfl|rfl|rfl|rfl|rfl|rfl|rfl|rfl<;>decide
theorem wx {B:Nat} (hW:1<=W/\W<=8) (hA:A<2^W):WI.wrap (Int.tdiv (A:Int) B)=WI.wrap (Int.tdiv (A:Int) B)%((2^W:Nat):Int):=by have h1:=fh hW.2;have e0:Int.tdiv (A:Int) (B:Int)=((A/B:Nat):Int):=(Int.ofNat_tdiv _ _).symm;have h2:A/B<=A:=Nat.div_le_self _ _;rw[e0];generalize A/B=q at h2;rw[a9 (by omega) (by omega),jC (by omega) (by omega)]
theorem wy {B:Nat} (hA:A<2^W):Int.tmod (A:Int) B=Int.tmod (A:Int) B%((2^W:Nat):Int):=by have e0:Int.tmod (A:Int) (B:Int)=((A%B:Nat):Int):=(Int.ofNat_tmod _ _).symm;have h2:A%B<=A:=Nat.mod_le _ _;rw[e0];generalize A%B=q at h2;rw[jC (by omega) (by omega)]
theorem wz {B:Nat} (hW:1<=W/\W<=8) (hA:A<2^W) (hB:B<W):Int.tmod (WI.wrap ((A:Int)*((2^B:Nat):Int))) ((2^W:Nat):Int)=dH .i64 A B%((2^W:Nat):Int):=by have h1:=fh hW.2;have h2:=fh (show B<=8 by omega);have h3:A*2^B<=256*256:=Nat.mul_le_mul (by omega) h2;rw[vO (by omega) (by omega),<-Int.natCast_mul];generalize A*2^B=q at h3;rw[a9 (by omega) (by omega),j5 _ _ (by omega)]
theorem FA {B:Nat} (hW:1<=W/\W<=8) (hA:A<2^W):WI.wrap (Int.tdiv (A:Int) ((2^B:Nat):Int))=fa .i64 A B%((2^W:Nat):Int):=by have h1:=fh hW.2;have h2:A/2^B<=A:=Nat.div_le_self _ _;have e0:Int.tdiv (A:Int) ((2^B:Nat):Int)=((A/2^B:Nat):Int):=(Int.ofNat_tdiv _ _).symm;rw[j3 _ _ (by omega),e0];generalize A/2^B=q at h2;rw[a9 (by omega) (by omega),jC (by omega) (by omega)]
theorem FC {B:Nat} (hA:A<2^W) (hW:W<=8) (hB:W<=B):fa .i64 A B%((2^W:Nat):Int)=0:=by have h1:=fh hW;rw[j3 _ _ (by omega),Nat.div_eq_of_lt (aU hA (bO (by decide) hB))];simp
theorem wA {B W1:Nat} (hA:A<2^W0) (hB:B<2^W1) (h0:W0+W1<=8):WI.wrap (WI.wrap ((A:Int)*((2^W1:Nat):Int))+B)=iOr .i64 (dH .i64 A W1) B%((2^(W0+W1):Nat):Int):=by
 have h1:=fh (show W1<=8 by omega);have h2:=fh (show W0<=8 by omega);have h3:=fh h0;have h4:(A+1)*2^W1<=2^W0*2^W1:=cU _ hA;rw[<-Nat.pow_add,Nat.succ_mul] at h4;rw[vO (by omega) (by omega),rI (by omega) (by omega),<-Int.natCast_mul];have e:A*2^W1 |||B=A*2^W1+B:=by rw[Nat.mul_comm,Nat.two_pow_add_eq_or_of_lt hB]
 rw[e];generalize A*2^W1=q at h4;rw[a9 (n:=(q:Int)) (by omega) (by omega),a9 (by omega) (by omega),jC (by omega) (by omega)];omega
theorem FD {N:Nat} (hW:1<=W/\W<=8) (hA:A<256):Int.tmod (WI.wrap (Int.tdiv (A:Int) ((2^N:Nat):Int))) ((2^W:Nat):Int)=fa .i64 A N%((2^W:Nat):Int):=by have h2:A/2^N<=A:=Nat.div_le_self _ _;have e0:Int.tdiv (A:Int) ((2^N:Nat):Int)=((A/2^N:Nat):Int):=(Int.ofNat_tdiv _ _).symm;rw[j3 _ _ (by omega),e0];generalize A/2^N=q at h2;rw[a9 (by omega) (by omega),j5 _ _ (by omega)]
theorem FE (hW:1<=W/\W<=8) (h0:1<=W0/\W0<=W) (hA:A<2^W0):Int.tmod (WI.wrap (eH A W0+((2^W:Nat):Int))) ((2^W:Nat):Int)=eH A W0%((2^W:Nat):Int):=by have h1:=fh hW.2;have h2:2^W0<=2^W:=bO (by decide) h0.2;rw[rW (by omega) hA];split<;>rw[a9 (by omega) (by omega),j5 _ _ (by omega),Int.add_emod_right]
theorem rZ (W:Nat):(((2^W:Nat):Int)≠0):=by have:=Nat.one_le_two_pow (n:=W);omega
theorem FF {k:Int} {W A B C N W0 W1 W2:Nat} {gh:List GObj} {s:Int} (hk:4<=k/\k<24) (hs:ct k=some s) (hf:ck s W N W0 W1 W2=true) (hW:1<=W/\W<=8) (h0:1<=W0/\W0<=8) (h1:1<az k->1<=W1/\W1<=8)
  (hA:A<2^W0) (hB:1<az k->B<2^W1) (hC:2<az k->C<2^W2) :
  q7 pg k W A B C N W0 W1 W2 gh=some (.ret,⟨[(14,I (cz k W A B C N W0 W1))],[],gh⟩):=by
 rw[e7 _ _ _ _ _ _ _ hW.2];have hT:=fU (show W<=61 by omega) gh;have hz:=rZ W;have hzd:decide (((2^W:Nat):Int)≠0)=true:=aG hz;have hp:=fh hW.2;have hp0:=fh h0.2;have:k=4\/k=5\/k=6\/k=7\/k=8\/k=9\/k=10\/k=11\/k=12\/k=13\/k=14\/k=15\/k=16\/k=17\/k=18\/k=19\/k=20\/k=21\/k=22\/k=23:=by omega
 rcases this with rfl|rfl|rfl|rfl|rfl|rfl|rfl|rfl|rfl|rfl|rfl|rfl|rfl|rfl|rfl|rfl|rfl|rfl|rfl|rfl
 all_goals cases hs
 all_goals simp[ck] at hf
 ·rw[Fd,hT,dA,dz]
  obtain rfl:W0=W:=by omega
  rw[wq hW hA];rfl
 ·rw[Fe,hT,dA,dz,hzd]
  obtain rfl:W0=W:=by omega
  rw[wt hW hA];rfl
 ·obtain⟨-,e0,e1⟩:=hf
  obtain rfl:W0=W:=by omega
  obtain rfl:W1=W0:=by omega
  have hB:=hB (by decide);rw[Ff,hT,dA,dz,rY 0 0 0 1 (by omega) (by omega) hW.2 (Fa A B),dA,dz];rw[show cn 6 A B C N W1 W1=fG .i64 A B from rfl,nN (by omega) (by omega),Int.natCast_emod]
 ·obtain⟨-,e0,e1⟩:=hf
  obtain rfl:W0=W:=by omega
  obtain rfl:W1=W0:=by omega
  have hB:=hB (by decide);rw[Fg,hT,dA,dz,rY 0 1 1 1 (by omega) (by omega) hW.2 (Fb A B),dA,dz];rw[show cn 7 A B C N W1 W1=iOr .i64 A B from rfl,rI (by omega) (by omega),Int.natCast_emod]
 ·obtain⟨-,e0,e1⟩:=hf
  obtain rfl:W0=W:=by omega
  obtain rfl:W1=W0:=by omega
  have hB:=hB (by decide);rw[Fh,hT,dA,dz,rY 0 1 1 0 (by omega) (by omega) hW.2 (Fc A B),dA,dz];rw[show cn 8 A B C N W1 W1=fH .i64 A B from rfl,vM (by omega) (by omega),Int.natCast_emod]
 ·obtain⟨-,e0,e1⟩:=hf
  obtain rfl:W0=W:=by omega
  obtain rfl:W1=W0:=by omega
  rw[Fi,hT,dA,dz,hzd,Fy hW hA (hB (by decide))];rfl
 ·obtain⟨-,e0,e1⟩:=hf
  obtain rfl:W0=W:=by omega
  obtain rfl:W1=W0:=by omega
  rw[Fj,hT,dA,dz,hzd,wu hW hA (hB (by decide))];rfl
 ·obtain⟨-,e0,e1⟩:=hf
  obtain rfl:W0=W:=by omega
  obtain rfl:W1=W0:=by omega
  rw[Fk,hT,dA,dz,hzd,Fz hW hA (hB (by decide))];rfl
 ·obtain⟨-,e0,e1⟩:=hf
  obtain rfl:W0=W:=by omega
  obtain rfl:W1=W0:=by omega
  rw[Fl,hT,dA,dz];by_cases hb:B=0
  ·subst hb
   rw[ww hW];rfl
  ·rw[show cn 12 A B C N W1 W1=if (B:Int)=0 then -1 else WI.wrap (Int.tdiv A B) from rfl,if_neg (by omega),<-wx hW hA]
   simp[hb]
 ·obtain⟨-,e0,e1⟩:=hf
  obtain rfl:W0=W:=by omega
  obtain rfl:W1=W0:=by omega
  rw[Fm,hT,dA,dz];by_cases hb:B=0
  ·subst hb
   rw[show cn 13 A ((0:Nat):Int) C N W1 W1=A from rfl,jC (by omega) (by omega)];rfl
  ·rw[show cn 13 A B C N W1 W1=if (B:Int)=0 then (A:Int) else Int.tmod A B from rfl,if_neg (by omega),<-wy hA]
   simp[hb]
 ·obtain⟨-,e0,e1⟩:=hf
  obtain rfl:W0=W:=by omega
  obtain rfl:W1=W0:=by omega
  rw[Fo,hT,dA,dz,show cn 14 A B C N W1 W1=dH .i64 A B from rfl];by_cases hb:W1<=B
  ·rw[aG (by omega),jB,vN hW.2 hb];rfl
  ·rw[aF (by omega),dq,fU (by omega),dA,dz,hzd,wz hW hA (by omega)];rfl
 ·obtain⟨-,e0,e1⟩:=hf
  obtain rfl:W0=W:=by omega
  obtain rfl:W1=W0:=by omega
  rw[Fp,hT,dA,dz,show cn 15 A B C N W1 W1=fa .i64 A B from rfl];by_cases hb:W1<=B
  ·rw[aG (by omega),FC hA hW.2 hb];rfl
  ·rw[aF (by omega),dq,fU (by omega),dA,dz,aG (rZ B),FA hW hA];rfl
 ·obtain⟨-,e0,e1⟩:=hf
  obtain rfl:W=1:=by omega
  rw[Fq,hT,dA,dz,rV,dA,dz,show cn 16 A B C N W0 W1=if (A:Int)=B then 1 else 0 from rfl];by_cases h:(A:Int)=B<;>simp[h]
 ·obtain⟨-,e0,e1⟩:=hf
  obtain rfl:W=1:=by omega
  rw[Fr,hT,dA,dz,rV,dA,dz,show cn 17 A B C N W0 W1=if (A:Int)<B then 1 else 0 from rfl];by_cases h:(A:Int)<B
  ·rw[aG h];simp[h]
  ·rw[aF h];simp[h]
 ·obtain⟨-,e0,e1⟩:=hf
  obtain rfl:W=1:=by omega
  rw[Fs,hT,dA,dz,rX h0 hA,dA,dz,rX (h1 (by decide)) (hB (by decide)),dA,dz,rV,dA,dz,show cn 18 A B C N W0 W1=if eH A W0<eH B W1 then 1 else 0 from rfl];by_cases h:eH A W0<eH B W1
  ·rw[aG h];simp[h]
  ·rw[aF h];simp[h]
 ·obtain⟨-,e0,e1,e2⟩:=hf
  obtain rfl:W1=W:=by omega
  obtain rfl:W2=W1:=by omega
  have hB:=hB (by decide);have hC:=hC (by decide);rw[Ft,hT,dA,dz,show cn 19 A B C N W0 W2=if (A:Int)=1 then (B:Int) else C from rfl];by_cases h:(A:Int)=1
  ·rw[if_pos h,jC (by omega) (by omega)];simp[h]
  ·rw[if_neg h,jC (by omega) (by omega)];simp[h]
 ·obtain⟨-,e0⟩:=hf
  have g1:=h1 (by decide);rw[a9 (by omega) (by omega)] at e0;obtain rfl:W=W0+W1:=by omega
  rw[Fu,hT,dA,dz,fU (by omega),dA,dz,wA hA (hB (by decide)) hW.2];rfl
 ·rw[a9 (by omega) (by omega)] at hf
  rw[Fv,hT,dA,dz,fU (by omega),dA,dz,aG (rZ N),hzd,FD hW (by omega)];rfl
 ·obtain⟨-,e0⟩:=hf
  have h2:2^W0<=2^W:=bO (by decide) (by omega);rw[Fx,hT,dA,dz,show cn 22 A B C N W0 W1=A from rfl,jC (by omega) (by omega)]
 ·obtain⟨-,e0⟩:=hf
  rw[Fw,hT,dA,dz,rX h0 hA,dA,dz,hzd,FE hW (by omega) hA];rfl
end
section
variable {xs ys x y:List Bool} {i n:Nat}
def num:List Bool->Nat
 |[]=>0
 |b::l=>(if b then 1 else 0)+2*num l
theorem de:∀l:List Bool,num l<2^l.length
 |[]=>by simp[num]
 |b::l=>by have:=de l;rw[num,bB,Nat.pow_succ];split<;>omega
theorem iH:∀l m:List Bool,num (l++m)=num l+2^l.length*num m
 |[],m=>by simp[num]
 |b::l,m=>by rw[bJ,num,num,iH l m,bB,Nat.pow_succ,Nat.mul_comm (2^l.length) 2,Nat.mul_assoc];omega
theorem gI:∀n:Nat,num (List.replicate n false)=0
 |0=>rfl
 |n+1=>by rw[List.replicate_succ,num,gI n];simp
theorem wB:∀{l m:List Bool},l.length=m.length->num l=num m->l=m
 |[],[],_,_=>rfl
 |a::l,b::m,h,e=>by
  rw[num,num] at e;have h1:l.length=m.length:=by simpa using h
  have h2:num l=num m:=by revert e;cases a<;>cases b<;>simp<;>omega
  have h3:a=b:=by revert e;cases a<;>cases b<;>simp<;>omega
  rw[h3,wB h1 h2]
theorem mq:∀l:List Bool,num (l.map (!·))+num l+1=2^l.length
 |[]=>rfl
 |b::l=>by have:=mq l;rw[bQ,num,num,bB,Nat.pow_succ];cases b<;>simp<;>omega
theorem nV (l:List Bool) (k:Nat):num (l.take k)=num l%2^k:=by
 by_cases h:k<=l.length
 ·have e:num l=num (l.take k)+2^k*num (l.drop k):=by
   have:=iH (l.take k) (l.drop k);rw[List.take_append_drop,cK,Nat.min_eq_left h] at this;exact this
  have h2:=de (l.take k);rw[cK,Nat.min_eq_left h] at h2;rw[e,Nat.add_mul_mod_self_left,cP h2]
 ·rw[bM (by omega)]
  have:=de l;have h2:2^l.length<=2^k:=bO (by decide) (by omega);rw[cP (by omega)]
theorem wC (l:List Bool) (k:Nat):num (l.drop k)=num l/2^k:=by
 by_cases h:k<=l.length
 ·have e:num l=num (l.take k)+2^k*num (l.drop k):=by
   have:=iH (l.take k) (l.drop k);rw[List.take_append_drop,cK,Nat.min_eq_left h] at this;exact this
  have h2:=de (l.take k);rw[cK,Nat.min_eq_left h] at h2;rw[e,Nat.add_mul_div_left _ _ (Nat.pow_pos (by decide)),Nat.div_eq_of_lt h2,cR]
 ·rw[aQ (by omega)]
  have:=de l;have h2:2^l.length<=2^k:=bO (by decide) (by omega);rw[Nat.div_eq_of_lt (by omega)];rfl
theorem sa:∀(l:List Bool) (i:Nat),(l.getD i false=true)↔num l/2^i%2=1
 |[],i=>by simp[num]
 |b::l,0=>by rw[num];cases b<;>simp<;>omega
 |b::l,i+1=>by
  have:=sa l i;rw[num,Nat.pow_succ,Nat.mul_comm (2^i) 2,<-Nat.div_div_eq_div_mul];have e:((if b then 1 else 0)+2*num l)/2=num l:=by cases b<;>simp<;>omega
  rw[e,<-this];rfl
def ee:List Bool->List Bool->Bool->List Bool×Bool
 |x::xs,y::ys,c=>(((x ^^y) ^^c)::(ee xs ys ((x&&y)||((x ^^y)&&c))).1,(ee xs ys ((x&&y)||((x ^^y)&&c))).2)
 |_,_,c=>([],c)
theorem jD:∀{xs ys:List Bool} {c:Bool},xs.length=ys.length->(ee xs ys c).1.length=xs.length
 |[],[],c,_=>rfl
 |x::xs,y::ys,c,h=>by rw[ee,bB,bB,jD (by simpa using h)]
theorem nW:∀{xs ys:List Bool} {c:Bool},xs.length=ys.length->num (ee xs ys c).1+2^xs.length*(if (ee xs ys c).2 then 1 else 0)=num xs+num ys+(if c then 1 else 0)
 |[],[],c,_=>by cases c<;>simp[ee,num]
 |x::xs,y::ys,c,h=>by have:=nW (xs:=xs) (ys:=ys) (c:=(x&&y)||((x ^^y)&&c)) (by simpa using h);rw[ee,num,num,num,bB,Nat.pow_succ];simp only;generalize num (ee xs ys ((x&&y)||((x ^^y)&&c))).1=S at *;generalize (ee xs ys ((x&&y)||((x ^^y)&&c))).2=C at *;generalize 2^xs.length=P at *;revert this;cases x<;>cases y<;>cases c<;>cases C<;>simp<;>omega
def gJ (xs ys:List Bool):Bool:= !(ee xs (ys.map (!·)) true).2
def jE (xs ys:List Bool):List Bool:=(ee xs (ys.map (!·)) true).1
theorem sc (h:xs.length=ys.length):gJ xs ys=decide (num xs<num ys):=by
 have h1:=nW (xs:=xs) (ys:=ys.map (!·)) (c:=true) (by simpa using h);have h2:=mq ys;have h3:=de (ee xs (ys.map (!·)) true).1;rw[jD (by simpa using h)] at h3;rw[h] at h1 h3;unfold gJ;cases hc:(ee xs (ys.map (!·)) true).2 with
 |false=>
  rw[hc] at h1;simp at h1;rw[aG (by omega)];rfl
 |true=>
  rw[hc] at h1;simp at h1;rw[aF (by omega)];rfl
theorem n0 (h:xs.length=ys.length):(jE xs ys).length=xs.length:=jD (by simpa using h)
theorem sd (h:xs.length=ys.length):num (jE xs ys)=(num xs+2^xs.length-num ys)%2^xs.length:=by
 have h1:=nW (xs:=xs) (ys:=ys.map (!·)) (c:=true) (by simpa using h);have h2:=mq ys;have h3:=de (ee xs (ys.map (!·)) true).1;rw[jD (by simpa using h)] at h3;have h4:=de ys;have h5:=de xs;unfold jE;rw[<-h] at h2 h4;generalize 2^xs.length=P at *;cases hc:(ee xs (ys.map (!·)) true).2 with
 |false=>
  rw[hc] at h1;simp at h1;rw[cP (by omega)];omega
 |true=>
  rw[hc] at h1;simp at h1;have e:num xs+P-num ys=num (ee xs (ys.map (!·)) true).1+P:=by omega
  rw[e,Nat.add_mod_right,cP h3]
theorem wD (h:xs.length=ys.length):num (ee xs ys false).1=(num xs+num ys)%2^xs.length:=by
 have h1:=nW (xs:=xs) (ys:=ys) (c:=false) h;have h3:=de (ee xs ys false).1;rw[jD h] at h3;generalize 2^xs.length=P at *;cases hc:(ee xs ys false).2 with
 |false=>
  rw[hc] at h1;simp at h1;rw[<-h1,cP h3]
 |true=>
  rw[hc] at h1;simp at h1;rw[<-h1,Nat.add_mod_right,cP h3]
def zB (n:Nat):List Bool:=List.replicate n false
def d9 (c:Bool) (xs ys:List Bool):List Bool:=if c then xs else ys
def im (x:List Bool) (i:Nat):List Bool:=zB i++x.take (x.length-i)
def io (x:List Bool):Nat->List Bool->List Bool->List Bool
 |_,[],out=>out
 |i,c::y,out=>io x (i+1) y (ee out (d9 c (im x i) (zB x.length)) false).1
theorem wE (h:i<=x.length):(im x i).length=x.length:=by simp[im,zB];omega
theorem wF (h:i<=x.length):num (im x i)=(2^i*num x)%2^x.length:=by unfold im zB;rw[iH,gI,bN,cR,nV];rw[show x.length=i+(x.length-i) by omega,Nat.pow_add,Nat.add_sub_cancel_left,Nat.mul_mod_mul_left]
theorem se {x:List Bool}:∀{y:List Bool} {i:Nat} {out:List Bool},out.length=x.length->i+y.length<=x.length->
  (io x i y out).length=x.length/\num (io x i y out)=(num out+2^i*(num x*num y))%2^x.length
 |[],i,out,h,_=>by refine⟨h,?_⟩;have:=de out;rw[h] at this;simp[io,num,cP this]
 | c::y,i,out,h,hl=>by
  rw[bB] at hl;have hp:(d9 c (im x i) (zB x.length)).length=x.length:=by
   unfold d9;cases c
   ·simp[zB]
   ·simp only[if_true];exact wE (by omega)
  have hq:num (d9 c (im x i) (zB x.length))=(if c then 2^i*num x else 0)%2^x.length:=by
   unfold d9;cases c
   ·simp[zB,gI]
   ·simp only[if_true];exact wF (by omega)
  have hs:(ee out (d9 c (im x i) (zB x.length)) false).1.length=x.length:=by rw[jD (by rw[h,hp]),h]
  obtain⟨h1,h2⟩:=se (x:=x) (y:=y) (i:=i+1) hs (by omega);refine⟨h1,?_⟩;rw[io,h2,wD (by rw[h,hp]),h,hq,Nat.mod_add_mod,Nat.add_assoc,Nat.add_comm (num out),Nat.add_assoc,Nat.mod_add_mod];rw[num]
  congr 1
  cases c
  ·simp[Nat.pow_succ,Nat.mul_assoc,Nat.mul_comm,Nat.mul_left_comm];omega
  ·simp only[if_true]
   rw[Nat.mul_add,Nat.mul_add,Nat.mul_one,Nat.pow_succ];have:2^i*2*(num x*num y)=2^i*(num x*(2*num y)):=by rw[Nat.mul_assoc,Nat.mul_left_comm 2 (num x)]
   omega
theorem FG (h:y.length=x.length):num (io x 0 y (zB x.length))=(num x*num y)%2^x.length:=by rw[(se (x:=x) (y:=y) (i:=0) (out:=zB x.length) (by simp[zB]) (by omega)).2];simp[zB,gI]
theorem FJ (h:y.length=x.length):(io x 0 y (zB x.length)).length=x.length:=
 (se (x:=x) (y:=y) (i:=0) (out:=zB x.length) (by simp[zB]) (by omega)).1
def ovS (n:Nat) (w:List Bool) (b:Bool) (left:List Bool):List Bool×Bool:=
 (d9 (!gJ (b::left.take n) w) (jE (b::left.take n) w) (b::left.take n),!gJ (b::left.take n) w)
def ovB (n:Nat) (w:List Bool):List Bool->List Bool×List Bool
 |[]=>(zB (n+1),[])
 |b::x=>((ovS n w b (ovB n w x).1).1,(ovS n w b (ovB n w x).1).2::(ovB n w x).2)
theorem od {n:Nat} {w:List Bool} (hw:w.length=n+1):∀x:List Bool,(ovB n w x).1.length=n+1/\(ovB n w x).2.length=x.length
 |[]=>by simp[ovB,zB]
 |b::x=>by
  obtain⟨h1,h2⟩:=od hw x;have hl:(b::(ovB n w x).1.take n).length=n+1:=by simp[h1]
  refine⟨?_,by simp[ovB,h2]⟩;rw[ovB,ovS];simp only;unfold d9;split
  ·rw[n0 (by rw[hl,hw]),hl]
  ·exact hl
theorem sg {n:Nat} {y:List Bool} (hy:y.length=n) (h0:0<num y):∀x:List Bool,num (ovB n (y++[false]) x).1=num x%num y/\num (ovB n (y++[false]) x).2=num x/num y
 |[]=>by simp[ovB,zB,gI,num]
 | b::x=>by
  obtain⟨h1,h2⟩:=sg hy h0 x;have hw:(y++[false]).length=n+1:=by simp[hy]
  have hwn:num (y++[false])=num y:=by rw[iH];simp[num]
  obtain⟨l1,l2⟩:=od hw x;have hyl:=de y;rw[hy] at hyl;have hm:num x%num y<num y:=Nat.mod_lt _ h0;have ht:num ((ovB n (y++[false]) x).1.take n)=num x%num y:=by rw[nV,h1,cP (by omega)]
  have hl:(b::(ovB n (y++[false]) x).1.take n).length=n+1:=by simp[l1]
  have hv:num (b::(ovB n (y++[false]) x).1.take n)=(if b then 1 else 0)+2*(num x%num y):=by rw[num,ht]
  have hlb:(if b then 1 else 0:Nat)<=1:=by cases b<;>simp
  have hdm:=Nat.div_add_mod (num x) (num y);rw[ovB,ovS];simp only;rw[num,sc (by rw[hl,hw]),hwn,hv,num,h2];generalize hB:(if b then 1 else 0:Nat)=β at *;generalize hr:num x%num y=r at *;generalize hq:num x/num y=q at *;by_cases hc:β+2*r<num y
  ·rw[aG hc]
   have e:β+2*num x=num y*(2*q)+(β+2*r):=by rw[<-hdm,Nat.mul_left_comm];omega
   refine⟨?_,?_⟩
   ·simp only[d9,Bool.not_true,bP,if_false]
    rw[hv,e,Nat.mul_add_mod,cP hc]
   ·rw[e,Nat.mul_add_div h0,Nat.div_eq_of_lt hc];simp
  ·rw[aF hc]
   have e:β+2*num x=num y*(2*q+1)+(β+2*r-num y):=by
    have e1:num y*(2*q+1)=num y*(2*q)+num y:=by rw[Nat.mul_add,Nat.mul_one]
    rw[<-hdm,Nat.mul_add,Nat.mul_left_comm,e1];omega
   refine⟨?_,?_⟩
   ·simp only[d9,Bool.not_false,if_true]
    rw[sd (by rw[hl,hw]),hv,hwn,hl,e,Nat.mul_add_mod,cP (a:=β+2*r-num y) (by omega)];have:2^(n+1)=2*2^n:=by rw[Nat.pow_succ,Nat.mul_comm]
    rw[show β+2*r+2^(n+1)-num y=(β+2*r-num y)+2^(n+1) by omega,Nat.add_mod_right,cP (by omega)]
   ·rw[e,Nat.mul_add_div h0,Nat.div_eq_of_lt (by omega)];simp;omega
def ja (up:Bool) (x:List Bool) (n:Nat):List Bool:=if n<x.length then (if up then zB n++x.take (x.length-n) else x.drop n++zB n) else zB x.length
def shB (up:Bool):Nat->List Bool->List Bool->List Bool
 |_,[],x=>x
 |i,c::y,x=>shB up (i+1) y (d9 c (ja up x (2^i)) x)
theorem sh {up:Bool}:(ja up x n).length=x.length:=by
 unfold ja;split
 ·cases up
  ·simp[zB];omega
  ·simp[zB];omega
 ·simp[zB]
theorem FK:num (ja true x n)=(num x*2^n)%2^x.length:=by
 unfold ja;split
 ·rename_i h
  have:=wF (x:=x) (i:=n) (by omega);rw[Nat.mul_comm];exact this
 ·rename_i h
  rw[zB,gI];rw[show n=x.length+(n-x.length) by omega,Nat.pow_add,<-Nat.mul_assoc,Nat.mul_right_comm,Nat.mul_mod_left]
theorem FM:num (ja false x n)=num x/2^n:=by
 unfold ja;have hx:=de x;split
 ·rename_i h
  simp only[bP,if_false];rw[iH,zB,gI,Nat.mul_zero,cA,wC]
 ·rename_i h
  rw[zB,gI,Nat.div_eq_of_lt];exact aU hx (bO (by decide) (by omega))
theorem si {up:Bool}:∀{y:List Bool} {i:Nat} {x:List Bool},(shB up i y x).length=x.length
 |[],i,x=>rfl
 |c::y,i,x=>by
  rw[shB,si];unfold d9;split
  ·exact sh
  ·rfl
theorem wG:∀{y:List Bool} {i:Nat} {x:List Bool},num (shB true i y x)=(num x*2^(2^i*num y))%2^x.length
 |[],i,x=>by simp[shB,num,cP (de x)]
 | c::y,i,x=>by
  rw[shB,wG,num];have e:2^i*((if c then 1 else 0)+2*num y)=(if c then 2^i else 0)+2^(i+1)*num y:=by rw[Nat.mul_add,Nat.pow_succ,Nat.mul_assoc];cases c<;>simp
  rw[e];cases c
  ·simp[d9]
  ·simp only[d9,if_true]
   rw[sh,FK,Nat.pow_add 2 (2^i),Nat.mod_mul_mod,Nat.mul_assoc]
theorem wH:∀{y:List Bool} {i:Nat} {x:List Bool},num (shB false i y x)=num x/2^(2^i*num y)
 |[],i,x=>by simp[shB,num]
 | c::y,i,x=>by
  rw[shB,wH,num];have e:2^i*((if c then 1 else 0)+2*num y)=(if c then 2^i else 0)+2^(i+1)*num y:=by rw[Nat.mul_add,Nat.pow_succ,Nat.mul_assoc];cases c<;>simp
  rw[e];cases c
  ·simp[d9]
  ·simp only[d9,if_true]
   rw[FM,Nat.pow_add 2 (2^i),Nat.div_div_eq_div_mul]
end
theorem jF (l:List Int):dL (l.map I)=true:=by
 induction l with
 |nil=>rfl
 |cons x l ih=>simp[ih]
section
variable {gh:List GObj} {x y:GObj}
end
section
variable {ins:Int} {ands:List (Int×Int)} {gh:List GObj}
end
section
variable {a w0 w1 w2:Int} {xs:List Int} {gh:List GObj}
structure Nd where
 k:Int
 w:Int
 a:Int
 b:Int
 c:Int
 n:Int
 deriving Inhabited
def bm (x:Nd):PV:= .agg [I x.k,I x.w,I x.a,I x.b,I x.c,I x.n]
theorem dQ (x:Nd):bm x= .agg [I x.k,I x.w,I x.a,I x.b,I x.c,I x.n]:=rfl
abbrev LN (l:List Nd):PV:= .sl false 6 (l.map bm)
theorem jG (k:Int):az k=0\/az k=1\/az k=2\/az k=3:=by
 unfold az
 repeat' split
 all_goals simp
theorem w8 {k:Int} (h:1<=k/\k<=3):az k=0:=by unfold az;rw[if_pos (by omega)]
def dM (x:Nd):List Int:=[x.a,x.b,x.c].take (az x.k).toNat
theorem su (x:Nd) (gh:List GObj):ac pg 81 [bm x] gh=some (LI (dM x),gh):=by
 unfold bm dM;have ht:=ik x.k gh;rcases jG x.k with h|h|h|h<;>rw[h] at ht ⊢
 ·refine aq (fn:=qq) (s:=?s0) rfl rfl (q52 ?h0) ?r0
  case h0=>simp[ht];rfl
  case r0=>simp[am,results,qq,ai,get]
 ·refine aq (fn:=qq) (s:=?s1) rfl rfl (q52 ?h1) ?r1
  case h1=>simp[ht];rfl
  case r1=>simp[am,results,qq,ai,get]
 ·refine aq (fn:=qq) (s:=?s2) rfl rfl (q52 ?h2) ?r2
  case h2=>simp[ht];rfl
  case r2=>simp[am,results,qq,ai,get]
 ·refine aq (fn:=qq) (s:=?s3) rfl rfl (q52 ?h3) ?r3
  case h3=>simp[ht];rfl
  case r3=>simp[am,results,qq,ai,get]
theorem Gg (k:Int) (gh:List GObj):ac pg 103 [I k] gh=some (B (decide (1<=k/\k<=3)),gh):=by
 by_cases h:1<=k
 ·refine aq (fn:=q25) (s:=?s1) rfl rfl (qgv ?h1) ?r1
  case h1=>simp[h];rfl
  case r1=>simp[am,results,q25,ao,au,ai,h]
 ·refine aq (fn:=q25) (s:=?s2) rfl rfl (qgv ?h2) ?r2
  case h2=>simp[h];rfl
  case r2=>simp[am,results,q25,ao,au,ai,h]
def wAt (l:List Nd) (a:Int):Int:=(l.getD a.toNat default).w
def dh (l:List Nd) (a:Int):Prop:=0<=a/\a.toNat<l.length
instance (l:List Nd) (a:Int):Decidable (dh l a):=inferInstanceAs (Decidable (_/\_))
theorem iq {l:List Nd} (h:dh l a):(l.map bm)[a.toNat]?=some (bm (l.getD a.toNat default)):=by rw[aB,aA h.2];simp[aM,aA h.2]
def mw (l:List Nd) (x:Nd) (w0 w1 w2:Int) (xs:List Int) (i:Int) (gh:List GObj):St:=
 ⟨[(0,LN l),(4,.ptr false 1 0),(5,.ptr false 2 0),(9,LI xs),(10,I xs.length),(11,I i)],[[I x.k,I x.w,I x.a,I x.b,I x.c,I x.n],[I 0,I 0,I 0],[I w0,I w1,I w2]],gh⟩
theorem lf {l:List Nd} {x:Nd} {i:Int} (hi:i=0\/i=1\/i=2) (hx:xs[i.toNat]?=some a) (ha:dh l a) :
  q1l pg (LN l) (LI xs) xs.length i x.k x.w x.a x.b x.c x.n 0 0 0 w0 w1 w2 gh=
   some (.normal,mw l x (if i=0 then wAt l a else w0) (if i=1 then wAt l a else w1) (if i=2 then wAt l a else w2) xs (i+1) gh):=by
 have hlt:=(aD.1 hx).1;have hltI:i<(xs.length:Int):=by omega
 have hm:(xs.map I)[i.toNat]?=some (I a):=by rw[aB,hx];rfl
 have hn:=iq ha;have h0:=ha.1;have hw:WI.wrap (i+1)=i+1:=a9 (by omega) (by omega);generalize hd:l.getD a.toNat default=d at hn;have hwa:wAt l a=d.w:=by unfold wAt;rw[hd]
 rw[hwa];rw[dQ d] at hn;unfold mw;have h5:0<xs.length:=by omega
 rcases hi with rfl|rfl|rfl
 ·have e0:xs[0]=a:=(aD.1 hx).2
  rw[Int.zero_add] at hw;simp[q1l,h5,e0,hn,h0,hw,bj,-List.getElem?_map]
 ·have hm0:(xs.map I)[1]?=some (I a):=hm
  simp[q1l,hltI,hm0,hn,h0,bj,-List.getElem?_map];exact hw
 ·have hm0:(xs.map I)[2]?=some (I a):=hm
  simp[q1l,hltI,hm0,hn,h0,bj,-List.getElem?_map];exact hw
def wdJ (l:List Nd) (k j a:Int):Int:=if j<az k then wAt l a else 0
structure mB (l:List Nd) (x:Nd):Prop where
 a:0<az x.k->dh l x.a
 b:1<az x.k->dh l x.b
 c:2<az x.k->dh l x.c
def iJ (l:List Nd) (x:Nd):PV:= .agg [I (wdJ l x.k 0 x.a),I (wdJ l x.k 1 x.b),I (wdJ l x.k 2 x.c)]
theorem ou {l:List Nd} {x:Nd}:ab pg q4c (mw l x w0 w1 w2 xs xs.length gh)=
  some (.normal,⟨[(4,.ptr false 1 0),(5,.ptr false 2 0)],[[I x.k,I x.w,I x.a,I x.b,I x.c,I x.n],[I 0,I 0,I 0],[I w0,I w1,I w2]],gh⟩):=by
 refine (cm (s1:=?s1) (q1l_ ?h1)).trans ?r1
 case h1=>simp[q1l];rfl
 case r1=>simp[keep,co]
theorem Gh {l:List Nd} {x:Nd} (h:mB l x):ab pg q4c (mw l x 0 0 0 (dM x) 0 gh)=
  some (.normal,⟨[(4,.ptr false 1 0),(5,.ptr false 2 0)],[[I x.k,I x.w,I x.a,I x.b,I x.c,I x.n],[I 0,I 0,I 0],[I (wdJ l x.k 0 x.a),I (wdJ l x.k 1 x.b),I (wdJ l x.k 2 x.c)]],gh⟩):=by
 unfold dM wdJ;rcases jG x.k with ht|ht|ht|ht<;>rw[ht]
 ·exact ou (xs:=[])
 ·refine bh (q1l_ (lf (a:=x.a) (.inl rfl) rfl (h.a (by omega)))) ?_
  exact ou (xs:=[x.a])
 ·refine bh (q1l_ (lf (a:=x.a) (.inl rfl) rfl (h.a (by omega)))) ?_
  refine bh (q1l_ (lf (a:=x.b) (.inr (.inl rfl)) rfl (h.b (by omega)))) ?_;exact ou (xs:=[x.a,x.b])
 ·refine bh (q1l_ (lf (a:=x.a) (.inl rfl) rfl (h.a (by omega)))) ?_
  refine bh (q1l_ (lf (a:=x.b) (.inr (.inl rfl)) rfl (h.b (by omega)))) ?_;refine bh (q1l_ (lf (a:=x.c) (.inr (.inr rfl)) rfl (h.c (by omega)))) ?_;exact ou (xs:=[x.a,x.b,x.c])
theorem w9 {l:List Nd} {x:Nd} (h:mB l x):ac pg 104 [LN l,bm x] gh=some (iJ l x,gh):=by
 have hA:=su x gh;have hl:=Gh (gh:=gh) h;unfold mw at hl;have hk:=ql3 (pg:=pg) (gh:=gh) (K0:=x.k) (K1:=x.w) (K2:=x.a) (K3:=x.b) (K4:=x.c) (K5:=x.n) (L0:=0) (L1:=0) (L2:=0) (M0:=wdJ l x.k 0 x.a) (M1:=wdJ l x.k 1 x.b) (M2:=wdJ l x.k 2 x.c) rfl;unfold bm at hA;have hlen:((dM x).map I).length=(dM x).length:=by simp
 refine aq (fn:=q7o) (s:=?s1) rfl rfl (ql4 ?h1) ?r1
 case h1=>simp[hA,hl,hk];rfl
 case r1=>simp[am,results,q7o,ao,au,St.cellsAt,ai,iJ]
theorem xa {l:List Nd} {x:Nd} (h:mB l x):ac pg 102 [LN l,bm x] gh=some (iJ l x,gh):=by
 have ht:=gH x.k gh
 have k3:∀(w0 w1 w2:Int),ab pg q2o ⟨[(4,.ptr false 1 0),(5,.ptr false 2 0)],[[I x.k,I x.w,I x.a,I x.b,I x.c,I x.n],[I 0,I 0,I 0],[I w0,I w1,I w2]],gh⟩=
   some (.ret,⟨[(4,.ptr false 1 0)],[[I x.k,I x.w,I x.a,I x.b,I x.c,I x.n],[I w0,I w1,I w2]],gh⟩):=λw0 w1 w2=>ql9 rfl
 have k2:∀(w0 w1:Int),ab pg q2p ⟨[(0,LN l),(3,.ptr false 0 0),(4,.ptr false 1 0),(5,.ptr false 2 0),(6,I (az x.k))],[[I x.k,I x.w,I x.a,I x.b,I x.c,I x.n],[I 0,I 0,I 0],[I w0,I w1,I 0]],gh⟩=
   some (.ret,⟨[(4,.ptr false 1 0)],[[I x.k,I x.w,I x.a,I x.b,I x.c,I x.n],[I w0,I w1,I (wdJ l x.k 2 x.c)]],gh⟩):=λw0 w1=>by
  refine qla ?_;unfold wdJ;by_cases h2:2<az x.k
  ·have hn:=iq (h.c h2)
   have h0:=(h.c h2).1;unfold wAt;generalize l.getD x.c.toNat default=d at *;rw[dQ d] at hn;simp[h2,hn,h0,k3,-List.getElem?_map]
  ·simp[h2,k3]
 have k1:∀(w0:Int),ab pg q2q ⟨[(0,LN l),(3,.ptr false 0 0),(4,.ptr false 1 0),(5,.ptr false 2 0),(6,I (az x.k))],[[I x.k,I x.w,I x.a,I x.b,I x.c,I x.n],[I 0,I 0,I 0],[I w0,I 0,I 0]],gh⟩=
   some (.ret,⟨[(4,.ptr false 1 0)],[[I x.k,I x.w,I x.a,I x.b,I x.c,I x.n],[I w0,I (wdJ l x.k 1 x.b),I (wdJ l x.k 2 x.c)]],gh⟩):=λw0=>by
  refine qlb ?_;by_cases h2:1<az x.k
  ·have hn:=iq (h.b h2)
   have h0:=(h.b h2).1;have e:wdJ l x.k 1 x.b=(l.getD x.b.toNat default).w:=by unfold wdJ wAt;rw[if_pos h2]
   rw[e];generalize l.getD x.b.toNat default=d at *;rw[dQ d] at hn;simp[h2,hn,h0,k2,-List.getElem?_map]
  ·have e:wdJ l x.k 1 x.b=0:=by unfold wdJ;rw[if_neg h2]
   rw[e];simp[h2,k2]
 unfold iJ;refine aq (fn:=q8y) (s:=⟨[(4,.ptr false 1 0)],[[I x.k,I x.w,I x.a,I x.b,I x.c,I x.n],[I (wdJ l x.k 0 x.a),I (wdJ l x.k 1 x.b),I (wdJ l x.k 2 x.c)]],gh⟩) rfl rfl (qlc ?h1) ?r1
 case h1=>
  by_cases h2:0<az x.k
  ·have hn:=iq (h.a h2)
   have h0:=(h.a h2).1;have e:wdJ l x.k 0 x.a=(l.getD x.a.toNat default).w:=by unfold wdJ wAt;rw[if_pos h2]
   rw[e];generalize l.getD x.a.toNat default=d at *;rw[dQ d] at hn;simp[ht,h2,hn,h0,k1,-List.getElem?_map]
  ·have e:wdJ l x.k 0 x.a=0:=by unfold wdJ;rw[if_neg h2]
   rw[e];simp[ht,h2,k1]
 case r1=>simp[am,results,q8y,ao,au,St.cellsAt,ai]
end
section
variable {idx:Nat} {j a:Int}
def eJ (idx k j a:Int):Prop:=if j<az k then a<0\/idx<=a else a≠0
instance (idx k j a:Int):Decidable (eJ idx k j a):=inferInstanceAs (Decidable (if j<az k then a<0\/idx<=a else a≠0))
def gj (idx:Int) (x:Nd):Prop:=eJ idx x.k 0 x.a\/eJ idx x.k 1 x.b\/eJ idx x.k 2 x.c
instance (idx:Int) (x:Nd):Decidable (gj idx x):=inferInstanceAs (Decidable (_\/_))
def dU (l:List Nd) (idx:Int) (x:Nd):Int:=
 if x.k<1\/24<=x.k then 7 else if ¬(1<=x.w/\x.w<=8) then 3
 else if x.k<=3 then (if x.k=1/\¬(0<=x.n/\x.n<((2^x.w.toNat:Nat):Int)) then 3 else if (x.k≠1/\x.n≠0)\/x.a≠0\/x.b≠0\/x.c≠0 then 1 else 0)
 else if gj idx x then 4 else gi x.k x.w x.n (wdJ l x.k 0 x.a) (wdJ l x.k 1 x.b) (wdJ l x.k 2 x.c)
theorem sv {l:List Nd} {x:Nd} (hi:idx<=l.length) (h:¬gj idx x):mB l x:=by
 unfold gj eJ at h;simp only[not_or] at h;obtain⟨h0,h1,h2⟩:=h;refine⟨λq=>?_,λq=>?_,λq=>?_⟩
 ·rw[if_pos q] at h0
  exact⟨by omega,by omega⟩
 ·rw[if_pos q] at h1
  exact⟨by omega,by omega⟩
 ·rw[if_pos q] at h2
  exact⟨by omega,by omega⟩
section
variable {l:List Nd} {x:Nd} {gh:List GObj}
def mC (l:List Nd) (idx:Int) (x:Nd) (j:Int) (gh:List GObj):St:=
 ⟨[(0,LN l),(1,I idx),(5,.ptr false 0 0),(67,.sl true 1 [I x.a,I x.b,I x.c]),(68,I 3),(69,I j)],[[I x.k,I x.w,I x.a,I x.b,I x.c,I x.n]],gh⟩
theorem sy {idx:Int} (hj:(j=0/\a=x.a)\/(j=1/\a=x.b)\/(j=2/\a=x.c)) :
  q14 pg (LN l) idx (.sl true 1 [I x.a,I x.b,I x.c]) 3 j x.k x.w x.a x.b x.c x.n gh=if eJ idx x.k j a then some (.ret,⟨[(4,I 4)],[],gh⟩) else some (.normal,mC l idx x (j+1) gh):=by
 have hw:(WI.wrap (j+1))=j+1:=a9 (by omega) (by omega);by_cases hk:j<az x.k
 ·have hk':=Int.not_le.2 hk
  by_cases h1:a<0
  ·rw[if_pos (by unfold eJ;rw[if_pos hk];exact .inl h1)]
   rcases hj with ⟨rfl,rfl⟩|⟨rfl,rfl⟩|⟨rfl,rfl⟩<;>simp[q14,ik,hk,h1]
  ·by_cases h2:idx<=a
   ·rw[if_pos (by unfold eJ;rw[if_pos hk];exact .inr h2)]
    rcases hj with ⟨rfl,rfl⟩|⟨rfl,rfl⟩|⟨rfl,rfl⟩<;>simp[q14,ik,hk,h1,h2]
   ·rw[if_neg (by unfold eJ;rw[if_pos hk];rintro (h|h)<;>contradiction)]
    unfold mC;rcases hj with ⟨rfl,rfl⟩|⟨rfl,rfl⟩|⟨rfl,rfl⟩<;>simp[q14,ik,hk,hk',h1,h2]<;>exact hw
 ·have hk':=Int.not_lt.1 hk
  by_cases h2:a=0
  ·rw[if_neg (by unfold eJ;rw[if_neg hk];exact λh=>h h2)]
   unfold mC;rcases hj with ⟨rfl,rfl⟩|⟨rfl,rfl⟩|⟨rfl,rfl⟩<;>simp[q14,ik,hk,hk',h2]<;>exact hw
  ·rw[if_pos (by unfold eJ;rw[if_neg hk];exact h2)]
   rcases hj with ⟨rfl,rfl⟩|⟨rfl,rfl⟩|⟨rfl,rfl⟩<;>simp[q14,ik,hk,hk',h2]
theorem Gi {idx:Int}:ab pg q78 (mC l idx x 0 gh)=
  if gj idx x then some (.ret,⟨[(4,I 4)],[],gh⟩) else some (.normal,⟨[(0,LN l),(5,.ptr false 0 0)],[[I x.k,I x.w,I x.a,I x.b,I x.c,I x.n]],gh⟩):=by
 have b0:=sy (l:=l) (x:=x) (gh:=gh) (idx:=idx) (j:=0) (a:=x.a) (by simp);have b1:=sy (l:=l) (x:=x) (gh:=gh) (idx:=idx) (j:=1) (a:=x.b) (by simp);have b2:=sy (l:=l) (x:=x) (gh:=gh) (idx:=idx) (j:=2) (a:=x.c) (by simp);by_cases h0:eJ idx x.k 0 x.a
 ·rw[if_pos h0] at b0
  rw[if_pos (.inl h0)];exact dJ (q14_ b0)
 rw[if_neg h0] at b0;refine bh (q14_ b0) ?_;by_cases h1:eJ idx x.k 1 x.b
 ·rw[if_pos h1] at b1
  rw[if_pos (.inr (.inl h1))];exact dJ (q14_ b1)
 rw[if_neg h1] at b1;refine bh (q14_ b1) ?_;by_cases h2:eJ idx x.k 2 x.c
 ·rw[if_pos h2] at b2
  rw[if_pos (.inr (.inr h2))];exact dJ (q14_ b2)
 rw[if_neg h2] at b2;refine bh (q14_ b2) ?_;rw[if_neg (by rintro (h|h|h)<;>contradiction)];refine (cm (s1:=?s1) (q14_ ?h1)).trans ?r1
 case h1=>simp[q14];rfl
 case r1=>simp[keep,co]
theorem Gj (hi:idx<=l.length) (b:Bool):ab pg q5 ⟨[(0,LN l),(1,I idx),(5,.ptr false 0 0),(26,B b)],[[I x.k,I x.w,I x.a,I x.b,I x.c,I x.n]],gh⟩=
  some (.ret,⟨[(4,I (if gj idx x then 4 else gi x.k x.w x.n (wdJ l x.k 0 x.a) (wdJ l x.k 1 x.b) (wdJ l x.k 2 x.c)))],[],gh⟩):=by
 refine ql7 ?_;have hl:=Gi (l:=l) (x:=x) (gh:=gh) (idx:=idx);unfold mC at hl;by_cases hb:gj idx x
 ·rw[if_pos hb] at hl
  simp[hl,hb]
 ·rw[if_neg hb] at hl
  have hW:=w9 (gh:=gh) (sv hi hb);have hF:=Ew x.k x.w x.n (wdJ l x.k 0 x.a) (wdJ l x.k 1 x.b) (wdJ l x.k 2 x.c) gh;unfold iJ at hW;rw[dQ x] at hW
  have hk:=ql6 (pg:=pg) (gh:=gh) (v0:=LN l) (K0:=x.k) (K1:=x.w) (K2:=x.a) (K3:=x.b) (K4:=x.c) (K5:=x.n) (e:= .ret)
   (s:=⟨[(4,I (gi x.k x.w x.n (wdJ l x.k 0 x.a) (wdJ l x.k 1 x.b) (wdJ l x.k 2 x.c)))],[],gh⟩) (by
   simp[hW,hF])
  simp[hl,hb,hk]
theorem Gk {w:Int} (h:1<=w/\w<=8):dH .i64 1 w=((2^w.toNat:Nat):Int):=by
 obtain⟨h1,h2⟩:=h;have:w=1\/w=2\/w=3\/w=4\/w=5\/w=6\/w=7\/w=8:=by omega
 rcases this with rfl|rfl|rfl|rfl|rfl|rfl|rfl|rfl<;>decide +kernel
theorem Gl (hx:l[idx]?=some x):ac pg 76 [LN l,I idx] gh=some (I (dU l idx x),gh):=by
 have hlt:=(aD.1 hx).1;have hg:(l.map bm)[idx]?=some (bm x):=by rw[aB,hx];rfl
 rw[dQ x] at hg;have k3:=Gj (l:=l) (x:=x) (gh:=gh) (idx:=idx) (by omega);have hw:=jA x.w gh;have hlf:=Gg x.k gh;have k1t:ab pg qb ⟨[(39,B true)],[],gh⟩=some (.ret,⟨[(4,I 1)],[],gh⟩):=qgw rfl;have k1f:ab pg qb ⟨[(39,B false)],[],gh⟩=some (.normal,⟨[(39,B false)],[],gh⟩):=qgw rfl;have k2:ab pg qc ⟨[(39,B false)],[],gh⟩=some (.ret,⟨[(4,I 0)],[],gh⟩):=ql5 rfl;unfold dU;refine aq (fn:=q7a) (s:=⟨[(4,I (dU l idx x))],[],gh⟩) rfl rfl (ql8 ?h1) ?r1
 case r1=>simp[am,results,q7a,ao,au,ai,dU]
 case h1=>
  unfold dU;by_cases h1:x.k<1
  ·simp[hg,h1,-List.getElem?_map]
  by_cases h2:24<=x.k
  ·simp[hg,h1,h2,-List.getElem?_map]
  by_cases h3:1<=x.w/\x.w<=8
  ·rw [aG h3] at hw
   by_cases h4:x.k<=3
   ·rw [aG ⟨by omega,h4⟩] at hlf
    by_cases h5:x.k=1
    ·have hI:=EJ x.n x.w (by omega) gh
     rw[Gk h3] at hI;generalize ((2^x.w.toNat:Nat):Int)=T at *;by_cases h6:0<=x.n/\x.n<T
     ·rw[aG h6] at hI
      rw[h5] at hg hlf;by_cases ha:x.a=0
      ·by_cases hb:x.b=0
       ·by_cases hc:x.c=0
        ·simp[hg,h3,hw,hlf,h5,hI,h6,ha,hb,hc,k1f,k2,-List.getElem?_map]
        ·simp[hg,h3,hw,hlf,h5,hI,h6,ha,hb,hc,k1t,-List.getElem?_map]
       ·simp[hg,h3,hw,hlf,h5,hI,h6,ha,hb,k1t,-List.getElem?_map]
      ·simp[hg,h3,hw,hlf,h5,hI,h6,ha,k1t,-List.getElem?_map]
     ·rw[aF h6] at hI
      rw[h5] at hg hlf;simp[hg,h3,hw,hlf,h5,hI,h6,-List.getElem?_map]
    ·by_cases hn:x.n=0
     ·by_cases ha:x.a=0
      ·by_cases hb:x.b=0
       ·by_cases hc:x.c=0
        ·simp[hg,h1,h2,h3,hw,h4,hlf,h5,hn,ha,hb,hc,k1f,k2,-List.getElem?_map]
        ·simp[hg,h1,h2,h3,hw,h4,hlf,h5,hn,ha,hb,hc,k1t,-List.getElem?_map]
       ·simp[hg,h1,h2,h3,hw,h4,hlf,h5,hn,ha,hb,k1t,-List.getElem?_map]
      ·simp[hg,h1,h2,h3,hw,h4,hlf,h5,hn,ha,k1t,-List.getElem?_map]
     ·simp[hg,h1,h2,h3,hw,h4,hlf,h5,hn,k1t,-List.getElem?_map]
   ·rw[aF (λh=>h4 h.2)] at hlf
    have k3':=k3 false;simp[hg,h1,h2,h3,hw,h4,hlf,k3',-List.getElem?_map]
  ·rw[aF h3] at hw
   simp[hg,h1,h2,h3,hw,-List.getElem?_map]
def mD (l:List Nd) (idx:Int) (x:Nd) (j:Int) (gh:List GObj):St:=
 ⟨[(0,LN l),(1,I idx),(5,.ptr false 0 0),(6,.sl true 1 [I x.a,I x.b,I x.c]),(7,I j)],[[I x.k,I x.w,I x.a,I x.b,I x.c,I x.n]],gh⟩
theorem sA {idx:Int} (hix:0<=idx/\idx<=1000000) (hj:(j=0/\a=x.a)\/(j=1/\a=x.b)\/(j=2/\a=x.c)) :
  q1e pg (LN l) idx (.sl true 1 [I x.a,I x.b,I x.c]) j x.k x.w x.a x.b x.c x.n gh=if eJ idx x.k j a then some (.ret,⟨[(4,I 4)],[],gh⟩) else some (.normal,mD l idx x (j+1) gh):=by
 have hw:(WI.wrap (j+1))=j+1:=a9 (by omega) (by omega);have hm:WI.wrap (idx-1)=idx-1:=a9 (by omega) (by omega);have hbt:=ei a 0 (idx-1) gh;by_cases hk:j<az x.k
 ·have hk':=Int.not_le.2 hk
  by_cases h1:0<=a/\a<=idx-1
  ·rw[aG h1] at hbt
   rw[if_neg (by unfold eJ;rw[if_pos hk];omega)];unfold mD;rcases hj with ⟨rfl,rfl⟩|⟨rfl,rfl⟩|⟨rfl,rfl⟩<;>simp[q1e,gH,hk,hk',hm,hbt]<;>exact hw
  ·rw[aF h1] at hbt
   rw[if_pos (by unfold eJ;rw[if_pos hk];omega)];rcases hj with ⟨rfl,rfl⟩|⟨rfl,rfl⟩|⟨rfl,rfl⟩<;>simp[q1e,gH,hk,hm,hbt]
 ·have hk':=Int.not_lt.1 hk
  by_cases h2:a=0
  ·rw[if_neg (by unfold eJ;rw[if_neg hk];exact λh=>h h2)]
   unfold mD;rcases hj with ⟨rfl,rfl⟩|⟨rfl,rfl⟩|⟨rfl,rfl⟩<;>simp[q1e,gH,hk,hk',h2]<;>exact hw
  ·rw[if_pos (by unfold eJ;rw[if_neg hk];exact h2)]
   rcases hj with ⟨rfl,rfl⟩|⟨rfl,rfl⟩|⟨rfl,rfl⟩<;>simp[q1e,gH,hk,hk',h2]
theorem Gm {idx:Int} (hix:0<=idx/\idx<=1000000):ab pg qy (mD l idx x 0 gh)=
  if gj idx x then some (.ret,⟨[(4,I 4)],[],gh⟩) else some (.normal,⟨[(0,LN l),(5,.ptr false 0 0)],[[I x.k,I x.w,I x.a,I x.b,I x.c,I x.n]],gh⟩):=by
 have b0:=sA (l:=l) (x:=x) (gh:=gh) (idx:=idx) (j:=0) (a:=x.a) hix (by simp);have b1:=sA (l:=l) (x:=x) (gh:=gh) (idx:=idx) (j:=1) (a:=x.b) hix (by simp);have b2:=sA (l:=l) (x:=x) (gh:=gh) (idx:=idx) (j:=2) (a:=x.c) hix (by simp);by_cases h0:eJ idx x.k 0 x.a
 ·rw[if_pos h0] at b0
  rw[if_pos (.inl h0)];exact dJ (q1e_ b0)
 rw[if_neg h0] at b0;refine bh (q1e_ b0) ?_;by_cases h1:eJ idx x.k 1 x.b
 ·rw[if_pos h1] at b1
  rw[if_pos (.inr (.inl h1))];exact dJ (q1e_ b1)
 rw[if_neg h1] at b1;refine bh (q1e_ b1) ?_;by_cases h2:eJ idx x.k 2 x.c
 ·rw[if_pos h2] at b2
  rw[if_pos (.inr (.inr h2))];exact dJ (q1e_ b2)
 rw[if_neg h2] at b2;refine bh (q1e_ b2) ?_;rw[if_neg (by rintro (h|h|h)<;>contradiction)];refine (cm (s1:=?s1) (q1e_ ?h1)).trans ?r1
 case h1=>simp[q1e];rfl
 case r1=>simp[keep,co]
theorem Gn (hi:idx<=l.length) (hb:¬gj idx x):ab pg qv ⟨[(0,LN l),(5,.ptr false 0 0)],[[I x.k,I x.w,I x.a,I x.b,I x.c,I x.n]],gh⟩=
  some (.ret,⟨[(4,I (gi x.k x.w x.n (wdJ l x.k 0 x.a) (wdJ l x.k 1 x.b) (wdJ l x.k 2 x.c)))],[],gh⟩):=by
 have hW:=xa (gh:=gh) (sv hi hb);have hF:=Ez x.k x.w x.n (wdJ l x.k 0 x.a) (wdJ l x.k 1 x.b) (wdJ l x.k 2 x.c) gh;unfold iJ at hW;rw[dQ x] at hW;refine qld ?_;simp[hW,hF]
theorem Gp (hx:l[idx]?=some x) (hlen:l.length<=1000000):ac pg 72 [LN l,I idx] gh=some (I (dU l idx x),gh):=by
 have hlt:=(aD.1 hx).1;have hg:(l.map bm)[idx]?=some (bm x):=by rw[aB,hx];rfl
 rw[dQ x] at hg;have b1:=ei x.k 1 23 gh;have b2:=ei x.w 1 8 gh;have hl:=Gm (l:=l) (x:=x) (gh:=gh) (idx:=idx) (by omega);unfold mD at hl;refine aq (fn:=q8q) (s:=⟨[(4,I (dU l idx x))],[],gh⟩) rfl rfl (qle ?h1) ?r1
 case r1=>simp[am,results,q8q,ao,au,ai]
 case h1 =>
  unfold dU;by_cases h12:1<=x.k/\x.k<=23
  ·rw [aG h12] at b1
   have h1:¬x.k<1:=by omega
   have h2:¬24<=x.k:=by omega
   by_cases h3:1<=x.w/\x.w<=8
   ·rw [aG h3] at b2
    by_cases h4:x.k<=3
    ·by_cases h5:x.k=1
     ·obtain⟨T,hTT,hT,e1⟩:∃T:Int,((2^x.w.toNat:Nat):Int)=T/\ac pg 27 [I x.w] gh=some (I T,gh)/\WI.wrap (T-1)=T-1:=by
       have hT:=fU (k:=x.w.toNat) (by omega) gh;have hp:2^x.w.toNat<=2^8:=bO (by decide) (by omega);rw[show ((x.w.toNat:Nat):Int)=x.w by omega] at hT;generalize 2^x.w.toNat=T at *;exact⟨T,rfl,hT,a9 (by omega) (by omega)⟩
      rw[hTT];have hB:=ei x.n 0 (T-1) gh;have d5:decide (x.k=1)=true:=aG h5;have d4:decide (x.k<=3)=true:=aG h4;have d7:decide (1<x.k)=false:=aF (by omega)
      have ev:∀r:Int,(if x.k<1\/24<=x.k then 7 else if ¬(1<=x.w/\x.w<=8) then 3
        else if x.k<=3 then (if x.k=1/\¬(0<=x.n/\x.n<T) then 3 else if (x.k≠1/\x.n≠0)\/x.a≠0\/x.b≠0\/x.c≠0 then 1 else 0)
        else if gj idx x then 4 else gi x.k x.w x.n (wdJ l x.k 0 x.a) (wdJ l x.k 1 x.b) (wdJ l x.k 2 x.c))=r->
       (if x.k<1\/24<=x.k then 7 else if ¬(1<=x.w/\x.w<=8) then 3
        else if x.k<=3 then (if x.k=1/\¬(0<=x.n/\x.n<T) then 3 else if (x.k≠1/\x.n≠0)\/x.a≠0\/x.b≠0\/x.c≠0 then 1 else 0)
        else if gj idx x then 4 else gi x.k x.w x.n (wdJ l x.k 0 x.a) (wdJ l x.k 1 x.b) (wdJ l x.k 2 x.c))=r:=λ_ h=>h
      by_cases h6:0<=x.n/\x.n<T
      ·rw [aG ⟨h6.1,by omega⟩] at hB
       by_cases ha:x.a=0
       ·by_cases hb:x.b=0
        ·by_cases hc:x.c=0
         ·rw[ev 0 (by simp[h5,h3,h6,ha,hb,hc])]
          simp[hg,b1,b2,d5,d4,d7,hT,e1,hB,ha,hb,hc,-List.getElem?_map]
         ·rw[ev 1 (by simp[h5,h3,h6,ha,hb,hc])]
          simp[hg,b1,b2,d5,d4,d7,hT,e1,hB,ha,hb,hc,-List.getElem?_map]
        ·rw[ev 1 (by simp[h5,h3,h6,ha,hb])]
         simp[hg,b1,b2,d5,d4,d7,hT,e1,hB,ha,hb,-List.getElem?_map]
       ·rw[ev 1 (by simp[h5,h3,h6,ha])]
        simp[hg,b1,b2,d5,d4,d7,hT,e1,hB,ha,-List.getElem?_map]
      ·rw[aF (by omega)] at hB
       rw[ev 3 (by simp[h5,h3,h6])];simp[hg,b1,b2,d5,hT,e1,hB,-List.getElem?_map]
     ·have h7:1<x.k:=by omega
      by_cases hn:x.n=0
      ·by_cases ha:x.a=0
       ·by_cases hb:x.b=0
        ·by_cases hc:x.c=0
         ·simp[hg,h1,h2,h3,b1,b2,h4,h5,h7,hn,ha,hb,hc,-List.getElem?_map]
         ·simp[hg,h1,h2,h3,b1,b2,h4,h5,h7,hn,ha,hb,hc,-List.getElem?_map]
        ·simp[hg,h1,h2,h3,b1,b2,h4,h5,h7,hn,ha,hb,-List.getElem?_map]
       ·simp[hg,h1,h2,h3,b1,b2,h4,h5,h7,hn,ha,-List.getElem?_map]
      ·simp[hg,h1,h2,h3,b1,b2,h4,h5,h7,hn,-List.getElem?_map]
    ·have h5:x.k≠1:=by omega
     by_cases hb:gj idx x
     ·rw[if_pos hb] at hl
      simp[hg,h1,h2,h3,b1,b2,h4,h5,hb,hl,-List.getElem?_map]
     ·rw[if_neg hb] at hl
      have hk:=Gn (l:=l) (gh:=gh) (idx:=idx) (by omega) hb;simp[hg,h1,h2,h3,b1,b2,h4,h5,hb,hl,hk,-List.getElem?_map]
   ·rw[aF h3] at b2
    simp[hg,h1,h2,h3,b1,b2,-List.getElem?_map]
  ·rw[aF h12] at b1
   have h1:x.k<1\/24<=x.k:=by omega
   simp[hg,h1,b1,-List.getElem?_map]
end
end
section
variable {kind a:Int} {b:Nat}
structure Md where
 nodes:List Nd
 inits:List (Int×Int)
 nexts:List (Int×Int)
 bads:List Int
 holds:List Int
abbrev LP (l:List (Int×Int)):PV:= .sl false 2 (l.map aj)
def e8 (m:Md):PV:= .agg [LN m.nodes,LP m.inits,LP m.nexts,LI m.bads,LI m.holds]
theorem en (m:Md):e8 m= .agg [LN m.nodes,LP m.inits,LP m.nexts,LI m.bads,LI m.holds]:=rfl
def di (kind:Int):Nat->List Nd->List Int
 |_,[]=>[]
 |i,x::l=>if x.k=kind then (i:Int)::di kind (i+1) l else di kind (i+1) l
def ak (l:List Nd) (kind:Int):List Int:=di kind 0 l
theorem sC (kind:Int):∀(i:Nat) (l:List Nd),(di kind i l).length<=l.length
 |_,[]=>cQ _
 |i,x::l=>by have:=sC kind (i+1) l;rw[di];split<;>simp<;>omega
theorem kindF_mem {kind:Int}:∀{i:Nat} {l:List Nd} {a:Int},a∈di kind i l↔∃j,j<l.length/\a=((i+j:Nat):Int)/\(l[j]?.map (·.k))=some kind
 |i,[],a=>by simp[di]
 | i,x::l,a=>by
  have ih:=kindF_mem (kind:=kind) (i:=i+1) (l:=l) (a:=a);rw[di];constructor
  ·intro h
   split at h
   ·rename_i hk
    rcases List.mem_cons.1 h with h|h
    ·exact⟨0,by simp,by simpa using h,by simp[hk]⟩
    ·obtain⟨j,h1,h2,h3⟩:=ih.1 h
     exact⟨j+1,by simp;omega,by rw[h2];omega,by simpa using h3⟩
   ·obtain⟨j,h1,h2,h3⟩:=ih.1 h
    exact⟨j+1,by simp;omega,by rw[h2];omega,by simpa using h3⟩
  ·rintro⟨j,h1,h2,h3⟩
   cases j with
   |zero=>
    simp at h3;rw[if_pos h3];exact List.mem_cons.2 (.inl (by simpa using h2))
   |succ j=>
    have:=ih.2 ⟨j,by simpa using h1,by rw[h2];omega,by simpa using h3⟩;split
    ·exact bG _ this
    ·exact this
section
variable {m:Md} {gh:List GObj}
def jH (l:List Nd) (kind:Int) (acc:List Int) (i:Nat) (gh:List GObj):St:=
 ⟨[(1,I kind),(5,.sl true 1 (acc.map I)),(9,LN l),(10,I l.length),(11,I (i:Int))],[],gh⟩
theorem xc {l:List Nd} {acc:List Int} {i:Nat} (hi:i<=100000):ab pg q24 ⟨[(1,I kind),(5,.sl true 1 (acc.map I)),(9,LN l),(10,I l.length),(11,I (i:Int))],[],gh⟩=some (.normal,jH l kind acc (i+1) gh):=by
 have e2:WI.wrap ((i:Int)+1)=((i+1:Nat):Int):=by rw[a9 (by omega) (by omega)];omega
 refine qlf ?_;simp[e2,jH]
theorem sD {l:List Nd} {kind:Int} (hl:l.length<=1000):∀k i (acc:List Int),i+k=l.length->acc.length<=i->
  ab pg q7k (jH l kind acc i gh)=some (.normal,⟨[(5,.sl true 1 ((acc++di kind i (l.drop i)).map I))],[],gh⟩)
 |0,i,acc,h,_=>by
  rw[aQ (by omega)];have hlt:¬(i:Int)<(l.length:Int):=by omega
  refine (cm (s1:=?s1) (qal ?h1)).trans ?r1
  case h1=>simp only[aF hlt,dq];rfl
  case r1=>simp[keep,di,co]
 | k+1,i,acc,h,ha=>by
  have hlt:i<l.length:=by omega
  have hltI:(i:Int)<(l.length:Int):=by omega
  have hx:(l.map bm)[i]?=some (bm l[i]):=by simp[aA hlt]
  rw[dQ l[i]] at hx;have hmx:(acc.length+1)*8<=maxBytes:=by have:=MB;omega
  rw[aL hlt,di];generalize l[i]=x at *;by_cases hk:x.k=kind
  ·rw[if_pos hk]
   have hk1:=xc (gh:=gh) (l:=l) (kind:=kind) (acc:=acc++[(i:Int)]) (i:=i) (by omega);have e:acc++(i:Int)::di kind (i+1) (l.drop (i+1))=(acc++[(i:Int)])++di kind (i+1) (l.drop (i+1)):=by simp
   rw[e];refine bh (s1:=jH l kind (acc++[(i:Int)]) (i+1) gh) (qal ?_) (sD hl k (i+1) _ (by omega) (by simp;omega));have hal:(acc.map I).length=acc.length:=by simp
   unfold jH at *;simp only[bK,bQ,bR] at hk1 ⊢;generalize acc.map I=A at *;simp[hltI,hx,hk,hal,hmx,hk1,-List.getElem?_map]
  ·rw[if_neg hk]
   have hk1:=xc (gh:=gh) (l:=l) (kind:=kind) (acc:=acc) (i:=i) (by omega);refine bh (s1:=jH l kind acc (i+1) gh) (qal ?_) (sD hl k (i+1) _ (by omega) (by omega));unfold jH at *;generalize acc.map I=A at *;simp[hltI,hx,hk,hk1,-List.getElem?_map]
theorem mE (hl:m.nodes.length<=1000):ac pg 101 [e8 m,I kind] gh=some (LI (ak m.nodes kind),gh):=by
 have h:=sD (gh:=gh) (l:=m.nodes) (kind:=kind) hl m.nodes.length 0 [] (by omega) (by simp);rw[bL,bI] at h;unfold jH at h;simp only[bR,aX] at h;have hn:=jF (di kind 0 m.nodes);have hln:(m.nodes.map bm).length=m.nodes.length:=by simp
 have hk:=qlg (pg:=pg) (gh:=gh) (v5:= .sl true 1 ((di kind 0 m.nodes).map I)) (e:= .ret) (s:=⟨[(4,.sl false 1 ((di kind 0 m.nodes).map I))],[],gh⟩) (by simp);unfold ak;simp only[LI];generalize (di kind 0 m.nodes).map I=K at *;rw[en];refine aq (fn:=q7m) (s:=⟨[(4,.sl false 1 K)],[],gh⟩) rfl rfl (qlh ?h1) ?r1
 case h1=>simp[h,hk]
 case r1=>simp[am,results,q7m,ao,au,ai,hn]
def j7 (s:Int) (x:Nd):Int:=WI.wrap (s+x.w)
def bu (l:List Nd) (kind:Int):Int:=(l.filter λx=>decide (x.k=kind)).foldl j7 0
theorem ov (L:List Nd) (kind:Int):∀(i:Nat) (l:List Nd) (s:Int),l=L.drop i->(di kind i l).foldl (λs a=>WI.wrap (s+wAt L a)) s=(l.filter λx=>decide (x.k=kind)).foldl j7 s
 |_,[],_,_=>rfl
 | i,x::l,s,h=>by
  have hi:L[i]?=some x:=by have:=congrArg (·[0]?) h;simpa using this.symm
  have hd:l=L.drop (i+1):=by have:=congrArg List.tail h;rw[List.tail_drop] at this;exact this
  have hw:wAt L (i:Int)=x.w:=by unfold wAt;simp[aM,hi]
  rw[di,List.filter_cons];by_cases hk:x.k=kind
  ·rw[if_pos hk,if_pos (by simpa using hk),List.foldl_cons,List.foldl_cons,hw]
   exact ov L kind (i+1) l _ hd
  ·rw[if_neg hk,if_neg (by simpa using hk)]
   exact ov L kind (i+1) l s hd
def ox (m:Md) (xs:List Int) (s:Int) (i:Nat) (gh:List GObj):St:=
 ⟨[(2,.ptr false 0 0),(5,I s),(8,LI xs),(9,I xs.length),(10,I (i:Int))],[[LN m.nodes,LP m.inits,LP m.nexts,LI m.bads,LI m.holds]],gh⟩
theorem xd {xs:List Int} (hx:∀a∈xs,dh m.nodes a) (hl:xs.length<=1000):∀k i s,i+k=xs.length->
  ab pg q7p (ox m xs s i gh)=some (.normal,⟨[(5,I ((xs.drop i).foldl (λs a=>WI.wrap (s+wAt m.nodes a)) s))],[],gh⟩)
 |0,i,s,h=>by
  rw[aQ (by omega)];have hlt:¬(i:Int)<(xs.length:Int):=by omega
  refine (cm (s1:=?s1) (qgx ?h1)).trans ?r1
  case h1=>simp only[aF hlt,dq];rfl
  case r1=>simp[keep,co]
 |k+1,i,s,h=>by
  have hlt:i<xs.length:=by omega
  have hltI:(i:Int)<(xs.length:Int):=by omega
  have e2:WI.wrap ((i:Int)+1)=((i+1:Nat):Int):=by rw[a9 (by omega) (by omega)];omega
  have hg:(xs.map I)[i]?=some (I xs[i]):=by simp[aA hlt]
  have hno:=hx _ (bX hlt);have hn:=iq hno;have h0:=hno.1;rw[aL hlt,List.foldl_cons];generalize xs[i]=a at *;refine bh (s1:=ox m xs (WI.wrap (s+wAt m.nodes a)) (i+1) gh) (qgx ?_) (xd hx hl k (i+1) _ (by omega));unfold ox wAt;generalize m.nodes.getD a.toNat default=d at *;rw[dQ d] at hn;simp[hltI,hg,h0,hn,e2,-List.getElem?_map]
theorem Gq {xs:List Int} (hx:∀a∈xs,dh m.nodes a) (hl:xs.length<=1000):ac pg 105 [e8 m,LI xs] gh=some (I (xs.foldl (λs a=>WI.wrap (s+wAt m.nodes a)) 0),gh):=by
 have h:=xd (gh:=gh) hx hl xs.length 0 0 (by omega);rw[bL] at h;unfold ox at h;simp only[aX] at h;generalize xs.foldl (λs a=>WI.wrap (s+wAt m.nodes a)) 0=r at *;have hk:=qlk (pg:=pg) (gh:=gh) (x5:=r) rfl;rw[en];refine aq (fn:=q7r) (s:=⟨[(4,I r)],[],gh⟩) rfl rfl (qll ?h1) ?r1
 case h1=>simp[h,hk]
 case r1=>simp[am,results,q7r,ao,au,ai]
theorem xe {l:List Nd} (h:a∈ak l kind):dh l a:=by obtain⟨j,h1,h2,-⟩:=kindF_mem.1 h;exact⟨by omega,by omega⟩
theorem xf (hl:m.nodes.length<=1000):ac pg 77 [e8 m] gh=some (.tup [I (bu m.nodes 2),I (bu m.nodes 3)],gh):=by
 have b:∀kind,ac pg 105 [e8 m,LI (ak m.nodes kind)] gh=some (I (bu m.nodes kind),gh):=λkind=>by have h:=Gq (m:=m) (gh:=gh) (xs:=ak m.nodes kind) (λa ha=>xe ha) (bW (sC kind 0 m.nodes) hl);have e:=ov m.nodes kind 0 m.nodes 0 rfl;unfold ak at h ⊢;rw[e] at h;exact h
 have o2:=mE (m:=m) (gh:=gh) (kind:=2) hl;have o3:=mE (m:=m) (gh:=gh) (kind:=3) hl;have b2:=b 2;have b3:=b 3;rw[en] at *;refine aq (fn:=q7b) (s:=⟨[(2,I (bu m.nodes 2)),(3,I (bu m.nodes 3))],[],gh⟩) rfl rfl (qlj ?h1) ?r1
 case h1=>simp[o2,o3,b2,b3]
 case r1=>simp[am,results,q7b,ao,au,ai]
def mF (f:List Bool) (x:Nd):Bool:=decide (x.k=2\/x.k=3)||(dM x).any λa=>f.getD a.toNat false
def dR:List Bool->List Nd->List Bool
 |f,[]=>f
 |f,x::l=>dR (f++[mF f x]) l
theorem sF:∀(f:List Bool) (l:List Nd),(dR f l).length=f.length+l.length
 |f,[]=>rfl
 |f,x::l=>by rw[dR,sF];simp;omega
def lg (l:List Nd):Prop:=∀(i:Nat) (x:Nd),l[i]?=some x->∀a∈dM x,0<=a/\a<i
def ckG (gh:List GObj) (m:Md) (f:List Bool):List GObj:=gh++[.cells [LN m.nodes,LP m.inits,LP m.nexts,LI m.bads,LI m.holds,.sl true 1 (f.map B)]]
theorem li {f:List Bool} (h:a.toNat<f.length):(f.map B)[a.toNat]?=some (B (f.getD a.toNat false)):=by rw[aB,aA h];simp[aM,aA h]
def mG (m:Md) (f:List Bool) (xs:List Int) (b:Bool) (i j:Nat) (gh:List GObj):St:=
 ⟨[(0,.ptr true gh.length 0),(4,B b),(11,LN m.nodes),(12,I m.nodes.length),(13,I (i:Int)),(26,LI xs),(27,I xs.length),(28,I (j:Int))],[],ckG gh m f⟩
theorem xh {f:List Bool} {xs:List Int} {i:Nat} (hx:∀a∈xs,0<=a/\a.toNat<f.length) (hl:xs.length<=1000):∀k j b,j+k=xs.length->
  ab pg q22 (mG m f xs b i j gh)=some (.normal,⟨[(0,.ptr true gh.length 0),(4,B (b||(xs.drop j).any λa=>f.getD a.toNat false)),(11,LN m.nodes),(12,I m.nodes.length),(13,I (i:Int))],[],ckG gh m f⟩)
 |0,j,b,h=>by
  rw[aQ (by omega)];have hlt:¬(j:Int)<(xs.length:Int):=by omega
  refine (cm (s1:=?s1) (qgy ?h1)).trans ?r1
  case h1=>simp only[aF hlt,dq];rfl
  case r1=>simp[keep,co]
 |k+1,j,b,h=>by
  have hlt:j<xs.length:=by omega
  have hltI:(j:Int)<(xs.length:Int):=by omega
  have e2:WI.wrap ((j:Int)+1)=((j+1:Nat):Int):=by rw[a9 (by omega) (by omega)];omega
  have hg:(xs.map I)[j]?=some (I xs[j]):=by simp[aA hlt]
  obtain⟨h0,h1⟩:=hx _ (bX hlt);rw[aL hlt,List.any_cons,<-Bool.or_assoc];generalize xs[j]=a at *;have hfr:=li h1;generalize f.getD a.toNat false=c at *;refine bh (s1:=mG m f xs (b||c) i (j+1) gh) (qgy ?_) (xh hx hl k (j+1) _ (by omega));unfold mG ckG;cases b with
  |true=>simp[hltI,hg,e2,-List.getElem?_map]
  |false=>simp[hltI,hg,h0,hfr,e2,-List.getElem?_map]
def lj (m:Md) (f:List Bool) (i:Nat) (gh:List GObj):St:=
 ⟨[(0,.ptr true gh.length 0),(11,LN m.nodes),(12,I m.nodes.length),(13,I (i:Int))],[],ckG gh m f⟩
theorem xi (hA:lg m.nodes) (hl:m.nodes.length<=1000):∀k i f,i+k=m.nodes.length->f.length=i->
  ab pg q7c (lj m f i gh)=some (.normal,⟨[],[],ckG gh m (dR f (m.nodes.drop i))⟩)
 |0,i,f,h,_=>by
  rw[aQ (by omega)];have hlt:¬(i:Int)<(m.nodes.length:Int):=by omega
  refine (cm (s1:=?s1) (qgz ?h1)).trans ?r1
  case h1=>simp only[aF hlt,dq];rfl
  case r1=>simp[keep,dR]
 | k+1,i,f,h,hf=>by
  have hlt:i<m.nodes.length:=by omega
  have hltI:(i:Int)<(m.nodes.length:Int):=by omega
  have e2:WI.wrap ((i:Int)+1)=((i+1:Nat):Int):=by rw[a9 (by omega) (by omega)];omega
  have hx:(m.nodes.map bm)[i]?=some (bm m.nodes[i]):=by simp[aA hlt]
  have hah:=hA i _ (aA hlt);rw[aL hlt,dR];generalize m.nodes[i]=x at *;rw[dQ x] at hx;have hArg:=su x (ckG gh m f);rw[dQ x] at hArg;have hal:(dM x).length<=3:=by unfold dM;simp;omega
  have hl2:∀b,ab pg q22 (mG m f (dM x) b i 0 gh)=_:=λb=>xh (i:=i) (λa ha=>⟨(hah a ha).1,by have:=hah a ha;omega⟩) (by omega) (dM x).length 0 b (by omega)
  rw[bL] at hl2;generalize hany:((dM x).any λa=>f.getD a.toNat false)=c at *;have hB:mF f x=(decide (x.k=2\/x.k=3)||c):=by unfold mF;rw[hany]
  rw[hB];have hmx:f.length+1<=maxBytes:=by have:=MB;omega
  refine bh (s1:=lj m (f++[decide (x.k=2\/x.k=3)||c]) (i+1) gh) (qgz ?_) (xi hA hl k (i+1) _ (by omega) (by simp;omega));have hk1:∀b,ab pg q23 ⟨[(0,.ptr true gh.length 0),(4,B b),(11,LN m.nodes),(12,I m.nodes.length),(13,I (i:Int))],[],ckG gh m f⟩=some (.normal,⟨[(0,.ptr true gh.length 0),(11,LN m.nodes),(12,I m.nodes.length),(13,I (i:Int))],[],ckG gh m (f++[b])⟩):=λb=>by refine qlm ?_;simp[ckG,bj,hmx]
  have hk2:∀b,ab pg q19 ⟨[(0,.ptr true gh.length 0),(11,LN m.nodes),(12,I m.nodes.length),(13,I (i:Int))],[],ckG gh m (f++[b])⟩=some (.normal,lj m (f++[b]) (i+1) gh):=λb=>by refine qln ?_;simp[e2,lj]
  unfold mG at hl2;simp only[aX] at hl2;unfold lj at *;generalize ckG gh m f=g0 at *;by_cases h2:x.k=2
  ·have hd:decide (x.k=2\/x.k=3)=true:=aG (.inl h2)
   have d2:decide (x.k=2)=true:=aG h2;rw[hd];have:=hl2 true;have k1':=hk1 (true||c);have k2':=hk2 (true||c);generalize ckG gh m (f++[true||c])=g1 at *;simp only[Bool.true_or] at this k1' k2';simp[hltI,hx,d2,hArg,this,k1',k2',-List.getElem?_map]
  ·have d2:decide (x.k=2)=false:=aF h2
   have hd:decide (x.k=2\/x.k=3)=decide (x.k=3):=by simp[h2]
   rw[hd];have:=hl2 (decide (x.k=3));have k1':=hk1 (decide (x.k=3)||c);have k2':=hk2 (decide (x.k=3)||c);generalize ckG gh m (f++[decide (x.k=3)||c])=g1 at *;simp[hltI,hx,d2,hArg,this,k1',k2',-List.getElem?_map]
theorem Gr (hA:lg m.nodes) (hl:m.nodes.length<=1000):ac pg 78 [.ptr true gh.length 0] (ckG gh m [])=some (.tup [],ckG gh m (dR [] m.nodes)):=by have h:=xi (gh:=gh) hA hl m.nodes.length 0 [] (by omega) rfl;rw[bL] at h;unfold lj at h;simp only[aX] at h;generalize ckG gh m (dR [] m.nodes)=g1 at *;have h1:=qlo (pg:=pg) (g0:=gh.length) (o0:=0) (gh:=ckG gh m []) (e:= .normal) (s:=⟨[],[],g1⟩) (by unfold ckG at h ⊢;simp at h ⊢;simp[h]);rw[rF (fn:=q7d) rfl rfl h1];simp[am,results,q7d,ao,ai]
theorem sG {f:List Bool} {n:Int} {g:List GObj} (hb:g[b]?=some (.cells [LN m.nodes,LP m.inits,LP m.nexts,LI m.bads,LI m.holds,.sl true 1 (f.map B)])):ac pg 118 [.ptr true b 0,I n] g=some (B (decide (dh m.nodes n)),g):=by
 by_cases h:0<=n
 ·have e:decide (dh m.nodes n)=decide (n<(m.nodes.length:Int)):=decide_eq_decide.2 ⟨λh2=>by have:=h2.2;omega,λh2=>⟨h,by omega⟩⟩
  rw[e];refine aq (fn:=q26) (s:=?s1) rfl rfl (qh0 ?h1) ?r1
  case h1=>simp[h,hb];rfl
  case r1=>simp[am,results,q26,ao,au,ai]
 ·have e:decide (dh m.nodes n)=false:=aF λh2=>h h2.1
  rw[e];refine aq (fn:=q26) (s:=?s2) rfl rfl (qh0 ?h2) ?r2
  case h2=>simp[h];rfl
  case r2=>simp[am,results,q26,ao,au,ai]
def eK (l:List Nd) (f:List Bool) (init:Bool) (p:Int×Int):Int:=
 if ¬dh l p.1\/¬dh l p.2\/(l.getD p.1.toNat default).k≠3 then 5 else if wAt l p.1≠wAt l p.2 then 1 else if init=true/\f.getD p.2.toNat false=true then 4 else 0
theorem Gs {f:List Bool} {init:Bool} {p:Int×Int} {g:List GObj} (hf:f.length=m.nodes.length) (hb:g[b]?=some (.cells [LN m.nodes,LP m.inits,LP m.nexts,LI m.bads,LI m.holds,.sl true 1 (f.map B)])) :
  ac pg 106 [.ptr true b 0,aj p,B init] g=some (I (eK m.nodes f init p),g):=by
 obtain⟨s,n⟩:=p;have i1:=sG (n:=s) hb;have i2:=sG (n:=n) hb;rw[fz];unfold eK wAt;simp only;refine aq (fn:=q7s) (s:=⟨[(6,I (eK m.nodes f init (s,n)))],[],g⟩) rfl rfl (qlr ?h1) ?r1
 case r1=>simp[am,results,q7s,ao,au,ai,eK,wAt]
 case h1=>
  unfold eK wAt;simp only;by_cases h1:dh m.nodes s
  ·rw [aG h1] at i1
   by_cases h2:dh m.nodes n
   ·rw [aG h2] at i2
    have n1:=iq h1;have n2:=iq h2;have z1:=h1.1;have z2:=h2.1;have hfr:=li (f:=f) (a:=n) (by rw[hf];exact h2.2);generalize m.nodes.getD s.toNat default=d1 at *;generalize m.nodes.getD n.toNat default=d2 at *;generalize f.getD n.toNat false=c at *;rw[dQ d1] at n1;rw[dQ d2] at n2;by_cases h3:d1.k=3
    ·have d3:decide (d1.k=3)=true:=aG h3
     by_cases h4:d1.w=d2.w
     ·rw[if_neg (by rintro (h|h|h)<;>contradiction),if_neg (λh=>h h4)]
      cases init with
      |true=>cases c with
       |true=>simp[i1,i2,hb,z1,z2,n1,n2,d3,h4,hfr,-List.getElem?_map]
       |false=>simp[i1,i2,hb,z1,z2,n1,n2,d3,h4,hfr,-List.getElem?_map]
      |false=>simp[i1,i2,hb,z1,z2,n1,n2,d3,h4,-List.getElem?_map]
     ·rw[if_neg (by rintro (h|h|h)<;>contradiction),if_pos h4]
      simp[i1,i2,hb,z1,z2,n1,n2,d3,h4,-List.getElem?_map]
    ·rw[if_pos (.inr (.inr h3))]
     simp[i1,i2,hb,z1,n1,h3,-List.getElem?_map]
   ·rw[aF h2] at i2
    rw[if_pos (.inr (.inl h2))];simp[i1,i2]
  ·rw[aF h1] at i1
   rw[if_pos (.inl h1)];simp[i1]
end
end
section
variable {m:Md} {gh:List GObj}
theorem Gt {n:Nat} (h:n*8<=maxBytes):ac pg 119 [.nils,I n] gh=some (.sl true 1 [],gh):=by have:ac pg 119 [.nils,I n] gh=ju 1 8 [.nils,I n] gh:=rfl;rw[this,ju,if_pos ⟨by omega,by simpa using h⟩]
theorem xj {X Y:List PV} (hX:dL X=true) (hY:dL Y=true) (h:(X.length+Y.length)*8<=maxBytes):ac pg 107 [.sl false 1 [.sl false 1 X,.sl false 1 Y]] gh=some (.sl false 1 (X++Y),gh):=by
 have hm:=MB;have w1:WI.wrap (X.length:Int)=X.length:=a9 (by omega) (by omega);have w2:WI.wrap ((X.length:Int)+(Y.length:Int))=((X.length+Y.length:Nat):Int):=by rw[a9 (by omega) (by omega)];omega
 have w3:WI.wrap (0+1)=1:=by decide
 have w5:WI.wrap 2=2:=by decide
 have n1:¬((X.length:Int)<0):=by omega
 have hl1:ab pg q70 ⟨[(0,.sl false 1 [.sl false 1 X,.sl false 1 Y]),(3,I 0),(9,.sl false 1 [.sl false 1 X,.sl false 1 Y]),(10,I 2),(11,I 0)],[],gh⟩=
   some (.normal,⟨[(0,.sl false 1 [.sl false 1 X,.sl false 1 Y]),(3,I ((X.length+Y.length:Nat):Int))],[],gh⟩):=by
  refine bh (s1:=⟨[(0,.sl false 1 [.sl false 1 X,.sl false 1 Y]),(3,I X.length),(9,.sl false 1 [.sl false 1 X,.sl false 1 Y]),(10,I 2),(11,I 1)],[],gh⟩) (q55_ ?_) ?_
  ·simp[q55,w1,n1];exact w3
  refine bh (s1:=⟨[(0,.sl false 1 [.sl false 1 X,.sl false 1 Y]),(3,I ((X.length+Y.length:Nat):Int)),(9,.sl false 1 [.sl false 1 X,.sl false 1 Y]),(10,I 2),(11,I 2)],[],gh⟩) (q55_ ?_) ?_
  ·simp only[q55]
   have n2':decide ((X.length:Int)+(Y.length:Int)<0)=false:=aF (by omega);simp[w2,n2'];exact w5
  refine (cm (s1:=?s1) (q55_ ?h1)).trans ?r1
  case h1=>simp[q55];rfl
  case r1=>simp[keep,co]
 have hl2:ab pg q71 ⟨[(6,.sl true 1 []),(25,.sl false 1 [.sl false 1 X,.sl false 1 Y]),(26,I 2),(27,I 0)],[],gh⟩=some (.normal,⟨[(6,.sl true 1 (X++Y))],[],gh⟩):=by
  refine bh (s1:=⟨[(6,.sl true 1 X),(25,.sl false 1 [.sl false 1 X,.sl false 1 Y]),(26,I 2),(27,I 1)],[],gh⟩) (qat ?_) ?_
  ·have:X.length*8<=maxBytes:=by omega
   simp[this];exact w3
  refine bh (s1:=⟨[(6,.sl true 1 (X++Y)),(25,.sl false 1 [.sl false 1 X,.sl false 1 Y]),(26,I 2),(27,I 2)],[],gh⟩) (qat ?_) ?_
  ·simp[h];exact w5
  refine (cm (s1:=?s2) (qat ?h2)).trans ?r2
  case h2=>simp;rfl
  case r2=>simp[keep,co]
 have hg:=Gt (gh:=gh) h;have k2:=qm2 (pg:=pg) (gh:=gh) (v6:= .sl true 1 (X++Y)) (e:= .ret) (s:=⟨[(2,.sl false 1 (X++Y))],[],gh⟩) (by simp);have k1:=qm3 (pg:=pg) (gh:=gh) (v0:= .sl false 1 [.sl false 1 X,.sl false 1 Y]) (x3:=((X.length+Y.length:Nat):Int)) (e:= .ret) (s:=⟨[(2,.sl false 1 (X++Y))],[],gh⟩) (by generalize X.length+Y.length=n at *;simp[hg,hl2,k2]);have hn:dL (X++Y)=true:=by
  have:∀(A B:List PV),dL A=true->dL B=true->dL (A++B)=true:=by
   intro A B
   induction A with
   |nil=>intro _ h;exact h
   |cons a A ih=>
    intro h1 h2;simp only[D9,aY] at h1;simp[h1.1,ih h1.2 h2]
  exact this X Y hX hY
 refine aq (fn:=q74) (s:=⟨[(2,.sl false 1 (X++Y))],[],gh⟩) rfl rfl (qm4 ?h1) ?r1
 case h1=>
  generalize X.length+Y.length=n at *;simp[hl1,k1]
 case r1=>simp[am,results,q74,ai,hn,get]
def dr (l:List Nd) (f:List Bool) (init:Bool):List (Int×Int)->Int
 |[]=>0
 |p::r=>if eK l f init p=0 then dr l f init r else eK l f init p
theorem sH {f:List Bool}:(ckG gh m f)[gh.length]?=some (.cells [LN m.nodes,LP m.inits,LP m.nexts,LI m.bads,LI m.holds,.sl true 1 (f.map B)]):=by simp[ckG]
abbrev fC (m:Md):PV:= .sl true 1 [LP m.inits,LP m.nexts]
def oy (m:Md) (f:List Bool) (ps:List (Int×Int)) (k j:Nat) (gh:List GObj):St:=
 ⟨[(0,.ptr true gh.length 0),(3,I (k:Int)),(23,fC m),(24,I 2),(25,I (k:Int)),(30,LP ps),(31,I ps.length),(32,I (j:Int))],[],ckG gh m f⟩
theorem sJ {f:List Bool} {ps:List (Int×Int)} {k:Nat} (hf:f.length=m.nodes.length) (hs:Sz ps.length):∀n j,j+n=ps.length->
  ab pg q7e (oy m f ps k j gh)=if dr m.nodes f (decide (k=0)) (ps.drop j)=0 then some (.normal,⟨[(0,.ptr true gh.length 0),(23,fC m),(24,I 2),(25,I (k:Int))],[],ckG gh m f⟩)
   else some (.ret,⟨[(2,I (dr m.nodes f (decide (k=0)) (ps.drop j)))],[],ckG gh m f⟩)
 |0,j,h=>by
  rw[aQ (by omega),dr,if_pos rfl];have hlt:¬(j:Int)<(ps.length:Int):=by omega
  refine (cm (s1:=?s1) (qan ?h1)).trans ?r1
  case h1=>simp only[aF hlt,dq];rfl
  case r1=>simp[keep,co]
 | n+1,j,h=>by
  have hlt:j<ps.length:=by omega
  have hltI:(j:Int)<(ps.length:Int):=by omega
  have e2:WI.wrap ((j:Int)+1)=((j+1:Nat):Int):=gg (by simp only[Sz] at hs ⊢;omega);have hx:(ps.map aj)[j]?=some (aj ps[j]):=by simp[aA hlt]
  rw[fz] at hx;have hp:=Gs (m:=m) (f:=f) (init:=decide (k=0)) (p:=ps[j]) hf (sH (gh:=gh));rw[fz] at hp;rw[aL hlt,dr];generalize ps[j]=p at *;obtain⟨a,b⟩:=p;simp only at hx hp;have hk0:((k:Int)==0)=decide (k=0):=by rw[vI];exact decide_eq_decide.2 (by omega)
  obtain⟨ini,hini⟩:∃ini,decide (k=0)=ini:=⟨_,rfl⟩
  rw[hini] at hk0 hp ⊢;by_cases he:eK m.nodes f ini (a,b)=0
  ·rw[if_pos he]
   rw[he] at hp;refine bh (s1:=oy m f ps k (j+1) gh) (qan ?_) ?_
   ·unfold oy
    generalize ckG gh m f=g0 at *;simp only[hk0];simp[hltI,hx,hp,e2,-List.getElem?_map]
   ·rw[<-hini]
    exact sJ hf hs n (j+1) (by omega)
  ·rw[if_neg he,if_neg he]
   refine dJ (qan ?_);generalize ckG gh m f=g0 at *;simp only[hk0];simp[hltI,hx,hp,he,-List.getElem?_map]
end
theorem je (l:List Bool) (i:Nat):(num l).testBit i=l.getD i false:=by
 rw[Nat.testBit_eq_decide_div_mod_eq];cases h:l.getD i false with
 |true=>exact aG ((sa l i).1 h)
 |false=>exact aF (λe=>by rw[(sa l i).2 e] at h;cases h)
theorem oH (op:Bool->Bool->Bool) (h0:op false false=false):∀{xs ys:List Bool},xs.length=ys.length->∀i,(List.zipWith op xs ys).getD i false=op (xs.getD i false) (ys.getD i false)
 |[],[],_,i=>by simp[h0]
 |x::xs,y::ys,h,0=>rfl
 |x::xs,y::ys,h,i+1=>oH op h0 (xs:=xs) (ys:=ys) (by simpa using h) i
theorem lk {op:Bool->Bool->Bool} {xs ys:List Bool} (h:xs.length=ys.length):(List.zipWith op xs ys).length=xs.length:=by simp[h]
theorem GV {xs ys:List Bool} (h:xs.length=ys.length):num (List.zipWith (· && ·) xs ys)=num xs &&&num ys:=
 Nat.eq_of_testBit_eq λi=>by rw[je,oH _ rfl h,Nat.testBit_and,je,je]
theorem GW {xs ys:List Bool} (h:xs.length=ys.length):num (List.zipWith (· || ·) xs ys)=num xs |||num ys:=
 Nat.eq_of_testBit_eq λi=>by rw[je,oH _ rfl h,Nat.testBit_or,je,je]
theorem GX {xs ys:List Bool} (h:xs.length=ys.length):num (List.zipWith (· ^^ ·) xs ys)=num xs ^^^num ys:=
 Nat.eq_of_testBit_eq λi=>by rw[je,oH _ rfl h,Nat.testBit_xor,je,je]
def eqB:List Bool->List Bool->Bool->Bool
 |x::xs,y::ys,c=>eqB xs ys (c&& !(x ^^y))
 |_,_,c=>c
theorem xq:∀{xs ys:List Bool} {c:Bool},xs.length=ys.length->eqB xs ys c=(c&&decide (num xs=num ys))
 |[],[],c,_=>by simp[eqB]
 | x::xs,y::ys,c,h=>by
  rw[eqB,xq (by simpa using h),num,num];have e:decide ((if x then 1 else 0)+2*num xs=(if y then 1 else 0)+2*num ys)=(!(x ^^y)&&decide (num xs=num ys)):=by
   by_cases h:num xs=num ys
   ·rw[h,aG (p:=num ys=num ys) rfl]
    cases x<;>cases y<;>simp<;>omega
   ·rw[aF h,Bool.and_false]
    exact aF (by cases x<;>cases y<;>simp<;>omega)
  rw[e];cases c<;>cases (x ^^y)<;>simp
def fK (x:List Bool):List Bool:=x.set (x.length-1) (!x.getD (x.length-1) false)
theorem sK (x:List Bool):(fK x).length=x.length:=by simp[fK]
theorem xr {x:List Bool} {n:Nat} (h:x.length=n+1):num x=num (x.take n)+2^n*(if x.getD n false then 1 else 0)/\num (fK x)=num (x.take n)+2^n*(if x.getD n false then 0 else 1):=by
 have e:∀y:List Bool,y.length=n+1->num y=num (y.take n)+2^n*(if y.getD n false then 1 else 0):=by
  intro y hy;have:=iH (y.take n) (y.drop n);rw[List.take_append_drop,cK,hy,Nat.min_eq_left (by omega)] at this;rw[this];have hd:y.drop n=[y.getD n false]:=by rw[aL (by omega),aQ (by omega),aM,aA (by omega)];rfl
  rw[hd];cases y.getD n false<;>simp[num]
 refine⟨e x h,?_⟩;have h2:=e (fK x) (by rw[sK,h]);have hu:fK x=x.set n (!x.getD n false):=by unfold fK;rw[h,Nat.add_sub_cancel]
 rw[hu] at h2 ⊢;rw[h2,List.take_set_of_le (cQ n),aM (l:=x.set n _),List.getElem?_set_self (by omega)];cases x.getD n false<;>rfl
theorem sL {x:List Bool} {n:Nat} (h:x.length=n+1) (h8:n+1<=8):eH (num x) (n+1:Nat)=(num (fK x):Int)-((2^n:Nat):Int):=by
 have hx:=de x;rw[h] at hx;rw[rW ⟨by omega,h8⟩ hx];obtain⟨e1,e2⟩:=xr h;have ht:num (x.take n)<2^n:=by have:=de (x.take n);rw[cK,h,Nat.min_eq_left (by omega)] at this;exact this
 have hp:(2:Nat)^(n+1)=2*2^n:=by rw[Nat.pow_succ,Nat.mul_comm]
 rw[Nat.add_sub_cancel];rw[e1,e2,hp];generalize (2:Nat)^n=P at *;cases x.getD n false
 ·simp;omega
 ·simp;omega
section
variable {W:Nat} {x y z:List Bool} {b c n w0 w1:Int}
theorem fj (hW:W<=8):2^W<=256:=bO (n:=2) (by decide) hW
theorem v4 (hW:1<=W/\W<=8) (hx:x.length=W):(num (x.map (!·)):Int)=cz 4 W (num x) b c n w0 w1:=by have h:=de x;have h2:=mq x;have hp:=fj hW.2;rw[hx] at h h2;rw[e7 _ _ _ _ _ _ _ hW.2,show cn 4 (num x) b c n w0 w1=jY .i64 (num x) from rfl,<-wq hW h];generalize 2^W=P at *;rw[a9 (n:=(P:Int)-1) (by omega) (by omega),a9 (by omega) (by omega)];omega
theorem v5 (hW:1<=W/\W<=8) (hx:x.length=W):(num (jE (zB W) x):Int)=cz 5 W (num x) b c n w0 w1:=by have h:=de x;have hp:=fj hW.2;rw[hx] at h;rw[e7 _ _ _ _ _ _ _ hW.2,show cn 5 (num x) b c n w0 w1=WI.wrap (0-(num x:Int)) from rfl,<-wt hW h];rw[sd (by simp[zB,hx]),show (zB W).length=W by simp[zB],show num (zB W)=0 from gI W];generalize 2^W=P at *;rw[a9 (by omega) (by omega),Int.tmod_eq_emod_of_nonneg (by omega),<-(show ((0+P-num x:Nat):Int)=(P:Int)-num x by omega)];exact Int.natCast_emod _ _
theorem v6 (hW:1<=W/\W<=8) (hx:x.length=W) (hy:y.length=W):(num (List.zipWith (· && ·) x y):Int)=cz 6 W (num x) (num y) c n w0 w1:=by have h:=de x;have h':=de y;have h2:=de (List.zipWith (· && ·) x y);have hp:=fj hW.2;rw[lk (by omega)] at h2;rw[hx] at h h2;rw[hy] at h';rw[e7 _ _ _ _ _ _ _ hW.2,show cn 6 (num x) (num y) c n w0 w1=fG .i64 (num x) (num y) from rfl,nN (by omega) (by omega),<-GV (by omega)];exact (Int.emod_eq_of_lt (by omega) (by omega)).symm
theorem v7 (hW:1<=W/\W<=8) (hx:x.length=W) (hy:y.length=W):(num (List.zipWith (· || ·) x y):Int)=cz 7 W (num x) (num y) c n w0 w1:=by have h:=de x;have h':=de y;have h2:=de (List.zipWith (· || ·) x y);have hp:=fj hW.2;rw[lk (by omega)] at h2;rw[hx] at h h2;rw[hy] at h';rw[e7 _ _ _ _ _ _ _ hW.2,show cn 7 (num x) (num y) c n w0 w1=iOr .i64 (num x) (num y) from rfl,rI (by omega) (by omega),<-GW (by omega)];exact (Int.emod_eq_of_lt (by omega) (by omega)).symm
theorem v8 (hW:1<=W/\W<=8) (hx:x.length=W) (hy:y.length=W):(num (List.zipWith (· ^^ ·) x y):Int)=cz 8 W (num x) (num y) c n w0 w1:=by have h:=de x;have h':=de y;have h2:=de (List.zipWith (· ^^ ·) x y);have hp:=fj hW.2;rw[lk (by omega)] at h2;rw[hx] at h h2;rw[hy] at h';rw[e7 _ _ _ _ _ _ _ hW.2,show cn 8 (num x) (num y) c n w0 w1=fH .i64 (num x) (num y) from rfl,vM (by omega) (by omega),<-GX (by omega)];exact (Int.emod_eq_of_lt (by omega) (by omega)).symm
theorem v9 (hW:1<=W/\W<=8) (hx:x.length=W) (hy:y.length=W):(num (ee x y false).1:Int)=cz 9 W (num x) (num y) c n w0 w1:=by have h:=de x;have h':=de y;have hp:=fj hW.2;rw[hx] at h;rw[hy] at h';rw[e7 _ _ _ _ _ _ _ hW.2,show cn 9 (num x) (num y) c n w0 w1=WI.wrap ((num x:Int)+num y) from rfl,wD (by omega),hx,a9 (by omega) (by omega),<-Int.natCast_add];exact Int.natCast_emod _ _
theorem v10 (hW:1<=W/\W<=8) (hx:x.length=W) (hy:y.length=W):(num (jE x y):Int)=cz 10 W (num x) (num y) c n w0 w1:=by have h:=de x;have h':=de y;have hp:=fj hW.2;rw[hx] at h;rw[hy] at h';rw[e7 _ _ _ _ _ _ _ hW.2,show cn 10 (num x) (num y) c n w0 w1=WI.wrap ((num x:Int)-num y) from rfl,<-wu hW h h',sd (by omega),hx];generalize 2^W=P at *;rw[a9 (n:=(num x:Int)+P) (by omega) (by omega),a9 (by omega) (by omega),Int.tmod_eq_emod_of_nonneg (by omega),<-(show ((num x+P-num y:Nat):Int)=(num x:Int)+P-num y by omega)];exact Int.natCast_emod _ _
theorem v11 (hW:1<=W/\W<=8) (hx:x.length=W) (hy:y.length=W):(num (io x 0 y (zB x.length)):Int)=cz 11 W (num x) (num y) c n w0 w1:=by
 have h:=de x;have h':=de y;have hp:=fj hW.2;rw[hx] at h;rw[hy] at h';have hm:num x*num y<=256*256:=Nat.mul_le_mul (by omega) (by omega);rw[e7 _ _ _ _ _ _ _ hW.2,show cn 11 (num x) (num y) c n w0 w1=WI.wrap ((num x:Int)*num y) from rfl,FG (by omega),hx];have e:((num x:Int)*num y)=((num x*num y:Nat):Int):=by simp
 rw[e,a9 (by omega) (by omega)];exact Int.natCast_emod _ _
theorem v12 (hW:1<=W/\W<=8) (hx:x.length=W) (hy:y.length=W) (q:Nat) (hq:q=if num y=0 then 2^x.length-1 else num x/num y):(q:Int)=cz 12 W (num x) (num y) c n w0 w1:=by
 have h:=de x;have hp:=fj hW.2;rw[hx] at h hq;rw[e7 _ _ _ _ _ _ _ hW.2,show cn 12 (num x) (num y) c n w0 w1=(if (num y:Int)=0 then -1 else WI.wrap (Int.tdiv (num x) (num y))) from rfl];have h1:1<=2^W:=Nat.one_le_two_pow;by_cases h0:num y=0
 ·rw[if_pos h0] at hq
  rw[if_pos (by omega),<-ww hW,hq];generalize 2^W=P at *;rw[a9 (by omega) (by omega)];omega
 ·rw[if_neg h0] at hq
  rw[if_neg (by omega),<-wx hW h,hq];have hd:num x/num y<=num x:=Nat.div_le_self _ _;have e:Int.tdiv (num x:Int) (num y)=((num x/num y:Nat):Int):=by rw[Int.tdiv_eq_ediv_of_nonneg (by omega)];simp
  rw[e,a9 (by omega) (by omega)]
theorem v13 (hW:1<=W/\W<=8) (hx:x.length=W) (hy:y.length=W) (q:Nat) (hq:q=if num y=0 then num x else num x%num y):(q:Int)=cz 13 W (num x) (num y) c n w0 w1:=by
 have h:=de x;have hp:=fj hW.2;rw[hx] at h;rw[e7 _ _ _ _ _ _ _ hW.2,show cn 13 (num x) (num y) c n w0 w1=(if (num y:Int)=0 then (num x:Int) else Int.tmod (num x) (num y)) from rfl];by_cases h0:num y=0
 ·rw[if_pos h0] at hq
  rw[if_pos (by omega),hq];exact (Int.emod_eq_of_lt (by omega) (by omega)).symm
 ·rw[if_neg h0] at hq
  rw[if_neg (by omega),<-wy h,hq];rw[Int.tmod_eq_emod_of_nonneg (by omega)];simp
theorem v14 (hW:1<=W/\W<=8) (hx:x.length=W):(num (shB true 0 y x):Int)=cz 14 W (num x) (num y) c n w0 w1:=by
 have h:=de x;have hp:=fj hW.2;rw[hx] at h;rw[e7 _ _ _ _ _ _ _ hW.2,show cn 14 (num x) (num y) c n w0 w1=dH .i64 (num x) (num y) from rfl,wG,hx,Nat.pow_zero,Nat.one_mul];by_cases hb:W<=num y
 ·rw[Int.natCast_pow 2 W]
  have:=vN (A:=num x) (b:=num y) hW.2 hb;rw[show ((2:Nat):Int)=2 from rfl,this,show num y=W+(num y-W) by omega,Nat.pow_add,<-Nat.mul_assoc,Nat.mul_right_comm,Nat.mul_mod_left];rfl
 ·have hq:2^num y<=256:=fj (W:=num y) (by omega)
  have hm:num x*2^num y<=256*256:=Nat.mul_le_mul (by omega) hq;rw[<-wz hW h (by omega)];have e:((num x:Int)*((2^num y:Nat):Int))=((num x*2^num y:Nat):Int):=by simp
  rw[e,a9 (by omega) (by omega),Int.tmod_eq_emod_of_nonneg (by omega)];exact Int.natCast_emod _ _
theorem v15 (hW:1<=W/\W<=8) (hx:x.length=W):(num (shB false 0 y x):Int)=cz 15 W (num x) (num y) c n w0 w1:=by have h:=de x;have hp:=fj hW.2;rw[hx] at h;have hd:num x/2^num y<=num x:=Nat.div_le_self _ _;rw[e7 _ _ _ _ _ _ _ hW.2,show cn 15 (num x) (num y) c n w0 w1=fa .i64 (num x) (num y) from rfl,wH,Nat.pow_zero,Nat.one_mul,j3 _ _ (by omega)];generalize num x/2^num y=q at *;exact (Int.emod_eq_of_lt (by omega) (by omega)).symm
theorem mH (b:Bool):(num [b]:Int)=if b then 1 else 0:=by cases b<;>rfl
theorem v16 (hl:x.length=y.length):(num [eqB x y true]:Int)=cz 16 (1:Nat) (num x) (num y) c n w0 w1:=by
 rw[e7 _ _ _ _ _ _ _ (by decide),show cn 16 (num x) (num y) c n w0 w1=(if (num x:Int)=num y then 1 else 0) from rfl,xq hl,Bool.true_and,mH];by_cases h:num x=num y
 ·rw[aG h,if_pos rfl,if_pos (by omega)];rfl
 ·rw[aF h,if_neg (by simp),if_neg (by omega)];rfl
theorem v17 (hl:x.length=y.length):(num [gJ x y]:Int)=cz 17 (1:Nat) (num x) (num y) c n w0 w1:=by
 rw[e7 _ _ _ _ _ _ _ (by decide),show cn 17 (num x) (num y) c n w0 w1=(if (num x:Int)<num y then 1 else 0) from rfl,sc hl,mH];by_cases h:num x<num y
 ·rw[aG h,if_pos rfl,if_pos (by omega)];rfl
 ·rw[aF h,if_neg (by simp),if_neg (by omega)];rfl
theorem v18 (hx:1<=x.length/\x.length<=8) (hl:x.length=y.length):(num [gJ (fK x) (fK y)]:Int)=cz 18 (1:Nat) (num x) (num y) c n (x.length:Nat) (y.length:Nat):=by
 obtain⟨m,hm⟩:∃m,x.length=m+1:=⟨x.length-1,by omega⟩
 have hm2:y.length=m+1:=by omega
 rw[e7 _ _ _ _ _ _ _ (by decide),show cn 18 (num x) (num y) c n (x.length:Nat) (y.length:Nat)=(if eH (num x) (x.length:Nat)<eH (num y) (y.length:Nat) then 1 else 0) from rfl,sc (by rw[sK,sK,hl]),mH,hm,hm2,sL hm (by omega),sL hm2 (by omega)];by_cases h:num (fK x)<num (fK y)
 ·rw[aG h,if_pos rfl,if_pos (by omega)];rfl
 ·rw[aF h,if_neg (by simp),if_neg (by omega)];rfl
theorem v19 (hW:1<=W/\W<=8) (hx:x.length=1) (hy:y.length=W) (hz:z.length=W):(num (d9 (x.getD 0 false) y z):Int)=cz 19 W (num x) (num y) (num z) n w0 w1:=by
 have h:=de y;have h':=de z;rw[hy] at h;rw[hz] at h';rw[e7 _ _ _ _ _ _ _ hW.2,show cn 19 (num x) (num y) (num z) n w0 w1=(if (num x:Int)=1 then (num y:Int) else num z) from rfl]
 match x,hx with
 | [b],_=>
  rw[mH];cases b
  ·show ((num z:Nat):Int)=((num z:Nat):Int)%_
   exact (Int.emod_eq_of_lt (by omega) (by omega)).symm
  ·show ((num y:Nat):Int)=((num y:Nat):Int)%_
   exact (Int.emod_eq_of_lt (by omega) (by omega)).symm
theorem v20 (hW:1<=W/\W<=8) (hl:x.length+y.length=W):(num (y++x):Int)=cz 20 W (num x) (num y) c n w0 (y.length:Nat):=by
 have h:=de x;have h':=de y;have hs:=de (y++x);have hp:=fj hW.2;rw[aW,Nat.add_comm,hl] at hs;subst hl;rw[e7 _ _ _ _ _ _ _ hW.2,show cn 20 (num x) (num y) c n w0 (y.length:Nat)=iOr .i64 (dH .i64 (num x) (y.length:Nat)) (num y) from rfl,<-wA h h' hW.2];rw[iH] at hs ⊢;have e:(num x:Int)*((2^y.length:Nat):Int)=((2^y.length*num x:Nat):Int):=by rw[Nat.mul_comm];simp
 rw[e,a9 (n:=((2^y.length*num x:Nat):Int)) (by omega) (by omega),a9 (by omega) (by omega)];omega
theorem v21 {N:Nat} (hW:1<=W/\W<=8) (hx:x.length<=8):(num ((x.drop N).take W):Int)=cz 21 W (num x) b c (N:Nat) w0 w1:=by have h:=de x;have hp:=fj hx;rw[e7 _ _ _ _ _ _ _ hW.2,show cn 21 (num x) b c (N:Nat) w0 w1=fa .i64 (num x) (N:Nat) from rfl,j3 _ _ (by omega),nV,wC];exact Int.natCast_emod _ _
theorem v22 (hW:1<=W/\W<=8) (hx:x.length<=W):(num (x++List.replicate (W-x.length) false):Int)=cz 22 W (num x) b c n w0 w1:=by have h:=de x;have h2:2^x.length<=2^W:=bO (by decide) hx;rw[e7 _ _ _ _ _ _ _ hW.2,show cn 22 (num x) b c n w0 w1=(num x:Int) from rfl,iH,gI];rw[Nat.mul_zero,cA];exact (Int.emod_eq_of_lt (by omega) (by omega)).symm
theorem xt:∀n:Nat,num (List.replicate n true)+1=2^n
 |0=>rfl
 |n+1=>by have:=xt n;rw[List.replicate_succ,num,Nat.pow_succ];simp;omega
theorem v23 (hW:1<=W/\W<=8) (hx:1<=x.length/\x.length<=W):(num (x++List.replicate (W-x.length) (x.getD (x.length-1) false)):Int)=cz 23 W (num x) b c n (x.length:Nat) w1:=by
 obtain⟨m,hm⟩:∃m,x.length=m+1:=⟨x.length-1,by omega⟩
 have h:=de x;have hp:=fj hW.2;obtain⟨e1,e2⟩:=xr hm;have ht:num (x.take m)<2^m:=by have:=de (x.take m);rw[cK,hm,Nat.min_eq_left (by omega)] at this;exact this
 rw[e7 _ _ _ _ _ _ _ hW.2,show cn 23 (num x) b c n (x.length:Nat) w1=eH (num x) (x.length:Nat) from rfl,iH,hm,sL hm (by omega),Nat.add_sub_cancel];have hpw:2^(m+1)*2^(W-(m+1))=2^W:=by rw[<-Nat.pow_add];congr 1;omega
 have hm1:(2:Nat)^(m+1)=2*2^m:=by rw[Nat.pow_succ,Nat.mul_comm]
 have hle:2^(m+1)<=2^W:=bO (by decide) (by omega);have h1:1<=2^m:=Nat.one_le_two_pow;cases hb:x.getD m false with
 |false=>
  rw[hb] at e1 e2;simp at e1 e2;rw[gI,Nat.mul_zero,cA,e1,e2];generalize 2^W=P at *;rw[show ((num (x.take m)+2^m:Nat):Int)-((2^m:Nat):Int)=(num (x.take m):Int) by omega];exact (Int.emod_eq_of_lt (by omega) (by omega)).symm
 | true=>
  rw[hb] at e1 e2;simp at e1 e2;have hn:=xt (W-(m+1));have hmul:2^(m+1)*num (List.replicate (W-(m+1)) true)+2^(m+1)=2^W:=by rw[<-hpw,<-hn,Nat.mul_add,Nat.mul_one]
  rw[e1,e2];generalize 2^(m+1)*num (List.replicate (W-(m+1)) true)=Q at *;generalize 2^W=P at *;generalize 2^m=M at *;rw[<-Int.add_emod_right ((num (x.take m):Int)-(M:Int)) (P:Int)];rw[Int.emod_eq_of_lt (by omega) (by omega)];omega
end
def eL (l:List Int):List (PV×PV):=l.map λa=>(I a,B true)
def fV (l:List Int) (k:Int):List Int:=if k∈l then l else l++[k]
theorem GY (l:List Int) (k:Int):eZ 0 (eL l) (I k) (B true)=some (eL (fV l k)):=by
 induction l with
 |nil=>rfl
 | cons a l ih=>
  by_cases h:k=a
  ·simp[eL,fV,eZ,eo,h]
  ·have ih':eZ 0 (l.map λa=>(I a,B true)) (I k) (B true)=some (eL (fV l k)):=ih
   by_cases h2:k∈l
   ·simp[eL,fV,eZ,eo,bA h,h,h2] at ih' ⊢
    exact ih'
   ·simp[eL,fV,eZ,eo,bA h,h,h2] at ih' ⊢
    exact ih'
def fD (l:List Int) (xs:List Int):List Int:=xs.foldl fV l
theorem GZ (l:List Int) (k:Int):(fV l k).length=if k∈l then l.length else l.length+1:=by unfold fV;split<;>simp
theorem G9 {l:List Int} {k a:Int}:a∈fV l k↔a∈l\/a=k:=by
 unfold fV;split
 ·rename_i h
  exact⟨.inl,λh2=>h2.elim id λe=>e▸h⟩
 ·simp
theorem xu:∀(xs l:List Int),(fD l xs).length<=l.length+xs.length/\((fD l xs).length=l.length+xs.length↔(xs.Nodup/\∀a∈xs,a∉l))
 |[],l=>by simp[fD]
 | x::xs,l=>by
  have ih:=xu xs (fV l x);have e:fD l (x::xs)=fD (fV l x) xs:=rfl;rw[e];have hl:=GZ l x;by_cases h:x∈l
  ·rw[if_pos h] at hl
   rw[hl] at ih;refine⟨by simp;omega,⟨λhe=>by simp at he;omega,λ⟨_,h2⟩=>absurd h (h2 x (by simp))⟩⟩
  ·rw[if_neg h] at hl
   rw[hl] at ih;refine⟨by simp;omega,?_⟩;have e2:(x::xs).length=xs.length+1:=rfl;rw[e2,show l.length+(xs.length+1)=l.length+1+xs.length by omega,ih.2];simp only[List.nodup_cons,List.mem_cons,G9];constructor
   ·rintro⟨h1,h2⟩
    refine⟨⟨λhx=>(h2 x hx) (.inr rfl),h1⟩,?_⟩;rintro a (rfl|ha)
    ·exact h
    ·exact λhal=>h2 a ha (.inl hal)
   ·rintro⟨⟨h1,h2⟩,h3⟩
    refine⟨h2,λa ha=>?_⟩;rintro (h4|rfl)
    ·exact h3 a (.inr ha) h4
    ·exact h1 ha
def dP (ps:List (Int×Int)):Prop:=¬(ps.map (·.1)).Nodup
instance (ps:List (Int×Int)):Decidable (dP ps):=by unfold dP;exact inferInstance
theorem xw (ps:List (Int×Int)):((fD [] (ps.map (·.1))).length<ps.length)↔dP ps:=by have:=xu (ps.map (·.1)) [];simp at this;unfold dP;rw[<-this.2];omega
section
variable {m:Md} {gh:List GObj}
theorem xx {ps:List (Int×Int)} {k:Nat} (hs:Sz ps.length):∀n j (acc:List Int),j+n=ps.length->
  ab pg q7g ⟨[(9,LP ps),(10,.mp gh.length),(56,fC m),(57,I 2),(58,I (k:Int)),(63,LP ps),(64,I ps.length),(65,I (j:Int))],[],gh++[.map (eL acc)]⟩=
   some (.normal,⟨[(9,LP ps),(10,.mp gh.length),(56,fC m),(57,I 2),(58,I (k:Int))],[],gh++[.map (eL (fD acc ((ps.drop j).map (·.1))))]⟩)
 |0,j,acc,h=>by
  rw[aQ (by omega)];have hlt:¬(j:Int)<(ps.length:Int):=by omega
  refine (cm (s1:=?s1) (qh1 ?h1)).trans ?r1
  case h1=>simp only[aF hlt,dq];rfl
  case r1=>simp[keep,co,fD]
 |n+1,j,acc,h=>by
  have hlt:j<ps.length:=by omega
  have hltI:(j:Int)<(ps.length:Int):=by omega
  have e2:WI.wrap ((j:Int)+1)=((j+1:Nat):Int):=gg (by simp only[Sz] at hs ⊢;omega);have hx:(ps.map aj)[j]?=some (aj ps[j]):=by simp[aA hlt]
  rw[fz] at hx;rw[aL hlt];generalize ps[j]=p at *;obtain⟨a,b⟩:=p;simp only[bQ] at hx ⊢;have hin:fD acc (a::(ps.drop (j+1)).map (·.1))=fD (fV acc a) ((ps.drop (j+1)).map (·.1)):=rfl;rw[hin];have hm:=GY acc a;refine bh (s1:=⟨[(9,LP ps),(10,.mp gh.length),(56,fC m),(57,I 2),(58,I (k:Int)),(63,LP ps),(64,I ps.length),(65,I ((j+1:Nat):Int))],[],gh++[GObj.map (eL (fV acc a))]⟩) (qh1 ?_) (xx (k:=k) hs n (j+1) (fV acc a) (by omega));simp[hltI,hx,e2,hm,-List.getElem?_map]
theorem xy {ps:List (Int×Int)} {k:Nat} (hk:(k=0/\ps=m.inits)\/(k=1/\ps=m.nexts)) (hs:Sz ps.length) :
  ab pg q7i ⟨[(56,fC m),(57,I 2),(58,I (k:Int))],[],gh⟩=
   if dP ps then some (.ret,⟨[(2,I 6)],[],gh++[.map (eL (fD [] (ps.map (·.1))))]⟩)
   else some (.normal,⟨[(56,fC m),(57,I 2),(58,I ((k+1:Nat):Int))],[],gh++[.map (eL (fD [] (ps.map (·.1))))]⟩):=by
 have h4:=xx (m:=m) (gh:=gh) (k:=k) hs ps.length 0 [] (by omega);rw[bL] at h4;simp only[aX] at h4;have hml:∀l,(eL l).length=l.length:=λl=>by simp[eL]
 have hlt:decide (((fD [] (ps.map (·.1))).length:Int)<(ps.length:Int))=decide (dP ps):=by have:=xw ps;exact decide_eq_decide.2 (by rw[<-this];omega)
 have hltN:decide ((fD [] (ps.map (·.1))).length<ps.length)=decide (dP ps):=decide_eq_decide.2 (xw ps);have hmb:eL []=[]:=rfl;rw[hmb] at h4;have e2:WI.wrap ((k:Int)+1)=((k+1:Nat):Int):=by rcases hk with ⟨rfl,_⟩|⟨rfl,_⟩<;>decide
 have hix:([LP m.inits,LP m.nexts]:List PV)[k]?=some (LP ps):=by rcases hk with ⟨rfl,rfl⟩|⟨rfl,rfl⟩<;>rfl
 have hk2:(k:Int)<2:=by omega
 generalize hA:fD [] (ps.map (·.1))=A at *
 have k3:=qlt (pg:=pg) (gh:=gh++[.map (eL A)]) (v9:=LP ps) (v10:= .mp gh.length) (v56:=fC m) (x57:=2) (x58:=k)
  (e:=if dP ps then .ret else .normal) (s:=if dP ps then ⟨[(2,I 6)],[],gh++[.map (eL A)]⟩ else ⟨[(56,fC m),(57,I 2),(58,I (k:Int)),(77,B false)],[],gh++[.map (eL A)]⟩)
  (by simp[hml,hltN];by_cases ht:dP ps<;>simp[ht])
 have k4:=qlu (pg:=pg) (gh:=gh++[.map (eL A)]) (v56:=fC m) (x57:=2) (x58:=k) (b77:=false) (e:= .normal) (s:=⟨[(56,fC m),(57,I 2),(58,I ((k+1:Nat):Int))],[],gh++[.map (eL A)]⟩) (by simp[e2]);by_cases ht:dP ps
 ·rw[if_pos ht] at k3 ⊢
  rw[if_pos ht] at k3;refine qao ?_;simp[hk2,hix,h4,k3]
 ·rw[if_neg ht] at k3 ⊢
  rw[if_neg ht] at k3;refine qao ?_;simp[hk2,hix,h4,k3,k4]
end
def gy (m:Md) (f:List Bool):Int:=
 if dr m.nodes f true m.inits≠0 then dr m.nodes f true m.inits else if dr m.nodes f false m.nexts≠0 then dr m.nodes f false m.nexts
 else if dP m.inits\/dP m.nexts then 6 else 0
section
variable {m:Md} {gh:List GObj}
theorem Ha {f:List Bool} (hf:f.length=m.nodes.length) (h1:Sz m.inits.length) (h2:Sz m.nexts.length) :
  ab pg q7f ⟨[(0,.ptr true gh.length 0),(23,fC m),(24,I 2),(25,I 0)],[],ckG gh m f⟩=
   if dr m.nodes f true m.inits≠0 then some (.ret,⟨[(2,I (dr m.nodes f true m.inits))],[],ckG gh m f⟩)
   else if dr m.nodes f false m.nexts≠0 then some (.ret,⟨[(2,I (dr m.nodes f false m.nexts))],[],ckG gh m f⟩)
   else some (.normal,⟨[(0,.ptr true gh.length 0)],[],ckG gh m f⟩):=by
 have l1:=sJ (gh:=gh) (m:=m) (ps:=m.inits) (k:=0) hf h1 m.inits.length 0 (by omega);have l2:=sJ (gh:=gh) (m:=m) (ps:=m.nexts) (k:=1) hf h2 m.nexts.length 0 (by omega);rw[bL] at l1 l2;unfold oy at l1 l2;simp only[aX,decide_true] at l1 l2;rw[show decide (1=0)=false from rfl] at l2;simp only[Int.natCast_one] at l1 l2;have w1:WI.wrap (0+1)=1:=by decide
 have w2:WI.wrap (1+1)=2:=by decide
 have k1:∀x,ab pg q48 ⟨[(0,.ptr true gh.length 0),(23,fC m),(24,I 2),(25,I x)],[],ckG gh m f⟩=some (.normal,⟨[(0,.ptr true gh.length 0),(23,fC m),(24,I 2),(25,I (WI.wrap (x+1)))],[],ckG gh m f⟩):=λx=>by refine qls ?_;simp
 generalize ckG gh m f=g0 at *;by_cases e1:dr m.nodes f true m.inits=0
 ·rw[if_pos e1] at l1
  rw[if_neg (λh=>h e1)];have k10:=k1 0;rw[w1] at k10;refine bh (s1:=⟨[(0,.ptr true gh.length 0),(23,fC m),(24,I 2),(25,I 1)],[],g0⟩) (q38 (by simp[l1,k10])) ?_;by_cases e2:dr m.nodes f false m.nexts=0
  ·rw[if_pos e2] at l2
   rw[if_neg (λh=>h e2)];have k11:=k1 1;rw[w2] at k11;refine bh (s1:=⟨[(0,.ptr true gh.length 0),(23,fC m),(24,I 2),(25,I 2)],[],g0⟩) (q38 (by simp[l2,k11])) ?_;refine (cm (s1:=?s1) (q38 ?h1)).trans ?r1
   case h1=>simp;rfl
   case r1=>simp[keep,co]
  ·rw[if_neg e2] at l2
   rw[if_pos e2];refine dJ (q38 ?_);simp[l2]
 ·rw[if_neg e1] at l1
  rw[if_pos e1];refine dJ (q38 ?_);simp[l1]
theorem Hb (h1:Sz m.inits.length) (h2:Sz m.nexts.length):∃g2,
  ab pg q7j ⟨[(56,fC m),(57,I 2),(58,I 0)],[],gh⟩=
   if dP m.inits\/dP m.nexts then some (.ret,⟨[(2,I 6)],[],gh++g2⟩) else some (.normal,⟨[],[],gh++g2⟩):=by
 have b1:=xy (gh:=gh) (m:=m) (ps:=m.inits) (k:=0) (.inl ⟨rfl,rfl⟩) h1;have b2:=λg=>xy (gh:=g) (m:=m) (ps:=m.nexts) (k:=1) (.inr ⟨rfl,rfl⟩) h2
 simp only[aX,Int.natCast_one,cR,show ((1+1:Nat):Int)=2 from rfl] at b1 b2;generalize fD [] (m.inits.map (·.1))=A at *;generalize fD [] (m.nexts.map (·.1))=B at *;by_cases t1:dP m.inits
 ·rw[if_pos t1] at b1
  exact⟨_,by rw[if_pos (.inl t1)];exact dJ b1⟩
 ·rw[if_neg t1] at b1
  have b2:=b2 (gh++[.map (eL A)]);by_cases t2:dP m.nexts
  ·rw[if_pos t2] at b2
   refine⟨[.map (eL A)]++[.map (eL B)],?_⟩;rw[if_pos (.inr t2),<-aZ];exact bh b1 (dJ b2)
  ·rw[if_neg t2] at b2
   refine⟨[.map (eL A)]++[.map (eL B)],?_⟩;rw[if_neg (by rintro (h|h)<;>contradiction),<-aZ];refine bh b1 (bh b2 ((cm (s1:=?s1) (qao ?h1)).trans ?r1))
   case h1=>simp;rfl
   case r1=>simp[keep]
theorem Hc {f:List Bool} (hf:f.length=m.nodes.length) (h1:Sz m.inits.length) (h2:Sz m.nexts.length) :
  ac pg 79 [.ptr true gh.length 0] (ckG gh m f)=some (I (gy m f),ckG gh m f):=by
 have l1:=Ha (gh:=gh) hf h1 h2;obtain⟨g2,l3⟩:=Hb (m:=m) (gh:=ckG gh m f) h1 h2;have hg:=sH (gh:=gh) (m:=m) (f:=f);unfold gy;have k5:∀g,ab pg q4a ⟨[],[],g⟩=some (.ret,⟨[(2,I 0)],[],g⟩):=λg=>qlv rfl
 have k2:ab pg q4b ⟨[(0,.ptr true gh.length 0)],[],ckG gh m f⟩=some (.ret,⟨[(2,I (if dP m.inits\/dP m.nexts then 6 else 0))],[],ckG gh m f++g2⟩):=by
  refine qlw ?_;generalize ckG gh m f=g0 at *;have k5:=k5 (g0++g2);by_cases t:dP m.inits\/dP m.nexts
  ·rw[if_pos t] at l3
   simp[hg,l3,t]
  ·rw[if_neg t] at l3
   simp[hg,l3,t,k5]
 generalize (if dP m.inits\/dP m.nexts then (6:Int) else 0)=r at *;generalize ckG gh m f=g0 at *;by_cases e1:dr m.nodes f true m.inits=0
 ·rw[if_neg (λh=>h e1)] at l1 ⊢
  by_cases e2:dr m.nodes f false m.nexts=0
  ·rw[if_neg (λh=>h e2)] at l1 ⊢
   refine aq (fn:=q1a) (s:=?s1) rfl rfl (qap ?h1) ?r1
   case h1=>simp[hg,l1,k2];rfl
   case r1=>simp[am,results,q1a,ao,au,ai]
  ·rw[if_pos e2] at l1 ⊢
   refine aq (fn:=q1a) (s:=?s2) rfl rfl (qap ?h2) ?r2
   case h2=>simp[hg,l1];rfl
   case r2=>simp[am,results,q1a,ao,au,ai]
 ·rw[if_pos e1] at l1 ⊢
  refine aq (fn:=q1a) (s:=?s3) rfl rfl (qap ?h3) ?r3
  case h3=>simp[hg,l1];rfl
  case r3=>simp[am,results,q1a,ao,au,ai]
def ir (m:Md):Int:=
 if m.nexts.length<(ak m.nodes 3).length then 5 else if (m.bads++m.holds).any (λa=> !decide (dh m.nodes a)) then 5
 else if (m.bads++m.holds).any (λa=> !decide (wAt m.nodes a=1)) then 1 else 0
theorem Hd {f:List Bool} {n:Int} {g:List GObj} {b c:Nat} (hb:g[b]?=some (.cells [LN m.nodes,LP m.inits,LP m.nexts,LI m.bads,LI m.holds,.sl true 1 (f.map B)])) (hc:g[c]?=some (.cells [.ptr true b 0])) :
  ac pg 108 [I n,.ptr true c 0] g=some (B (!decide (dh m.nodes n)),g):=by
 have i1:=sG (n:=n) hb;generalize decide (dh m.nodes n)=d at *;refine aq (fn:=q7t) (s:=?s1) rfl rfl (qlz ?h1) ?r1
 case h1=>simp[hc,i1];rfl
 case r1=>simp[am,results,q7t,ao,au,ai]
theorem He {f:List Bool} {n:Int} {g:List GObj} {b c:Nat} (hb:g[b]?=some (.cells [LN m.nodes,LP m.inits,LP m.nexts,LI m.bads,LI m.holds,.sl true 1 (f.map B)])) (hc:g[c]?=some (.cells [.ptr true b 0])) (hn:dh m.nodes n) :
  ac pg 109 [I n,.ptr true c 0] g=some (B (!decide (wAt m.nodes n=1)),g):=by
 have n1:=iq hn;have h0:=hn.1;unfold wAt;generalize m.nodes.getD n.toNat default=d1 at *;rw[dQ d1] at n1;refine aq (fn:=q7u) (s:=?s1) rfl rfl (qm1 ?h1) ?r1
 case h1=>simp[hb,hc,h0,n1,-List.getElem?_map];rfl
 case r1=>simp[am,results,q7u,ao,au,ai]
theorem Hf {f:List Bool} (hl:m.nodes.length<=1000) (h1:m.bads.length<=100) (h2:m.holds.length<=100) :
  ac pg 80 [.ptr true gh.length 0] (ckG gh m f)=some (I (ir m),ckG gh m f):=by
 have hg:=sH (gh:=gh) (m:=m) (f:=f);have hlen:(ckG gh m f).length=gh.length+1:=by simp[ckG]
 generalize ckG gh m f=g0 at *;obtain⟨g1,hg1⟩:∃g1,g1=g0++[GObj.cells [.ptr true gh.length 0]]:=⟨_,rfl⟩
 have htk:g1.take g0.length=g0:=by rw[hg1];simp
 have hb:g1[gh.length]?=some (.cells [LN m.nodes,LP m.inits,LP m.nexts,LI m.bads,LI m.holds,.sl true 1 (f.map B)]):=by rw[hg1,aJ (by omega)];exact hg
 have hc:g1[g0.length]?=some (.cells [.ptr true gh.length 0]):=by rw[hg1];simp
 have ho:=mE (m:=m) (gh:=g1) (kind:=3) hl;rw[en] at ho;have hmx:((m.bads.map I).length+(m.holds.map I).length)*8<=maxBytes:=by have:=MB;simp;omega
 have hsz:Sz (m.bads++m.holds).length:=by simp only[Sz,aW];omega
 have hcc:=xj (gh:=g1) (X:=m.bads.map I) (Y:=m.holds.map I) (jF _) (jF _) hmx;rw[<-bK] at hcc;have c1:=vL (xs:=m.bads++m.holds) (c:=108) (caps:=[.ptr true g0.length 0]) (gh:=g1) (λx _=>Hd (n:=x) hb hc) rfl hsz;have c2:(∀a∈m.bads++m.holds,dh m.nodes a)->_:=λhn=>vL (xs:=m.bads++m.holds) (c:=109) (caps:=[.ptr true g0.length 0]) (gh:=g1) (λx hx=>He hb hc (hn x hx)) rfl hsz
 have hnb:(m.bads++m.holds).any (λa=> !decide (dh m.nodes a))=false->∀a∈m.bads++m.holds,dh m.nodes a:=λh a ha=>by have:=List.any_eq_false.1 h a ha;simpa using this
 unfold ir;generalize (m.bads++m.holds).any (λa=> !decide (dh m.nodes a))=p1 at *;generalize (m.bads++m.holds).any (λa=> !decide (wAt m.nodes a=1))=p2 at *;generalize hK:ak m.nodes 3=K at *;have hKl:(K.map I).length=K.length:=by simp
 have hXl:(m.nexts.map aj).length=m.nexts.length:=by simp
 simp only[LI] at *;generalize (m.bads++m.holds).map I=M at *;generalize m.bads.map I=M1 at *;generalize m.holds.map I=M2 at *;generalize K.map I=K' at *;generalize m.nexts.map aj=X' at *;by_cases e1:m.nexts.length<K.length
 ·rw[if_pos e1]
  refine aq (fn:=qp) (s:=⟨[(2,I 5)],[],g1⟩) rfl rfl (q39_ ?h1) ?r1
  case h1=>simp only[q39];rw[<-hg1];simp[hb,hc,ho,hKl,e1]
  case r1=>simp[am,results,qp,ao,au,ai,htk]
 ·rw[if_neg e1]
  cases p1 with
  |true=>
   rw[if_pos rfl];refine aq (fn:=qp) (s:=⟨[(2,I 5)],[],g1⟩) rfl rfl (q39_ ?h2) ?r2
   case h2=>simp only[q39];rw[<-hg1];simp[hb,hc,ho,hKl,e1,hcc,c1]
   case r2=>simp[am,results,qp,ao,au,ai,htk]
  | false=>
   rw[if_neg (by simp)];have c2:=c2 (hnb rfl);cases p2 with
   |true=>
    rw[if_pos rfl];refine aq (fn:=qp) (s:=⟨[(2,I 1)],[],g1⟩) rfl rfl (q39_ ?h3) ?r3
    case h3=>simp only[q39];rw[<-hg1];simp[hb,hc,ho,hKl,e1,hcc,c1,c2]
    case r3=>simp[am,results,qp,ao,au,ai,htk]
   |false=>
    rw[if_neg (by simp)];refine aq (fn:=qp) (s:=⟨[(2,I 0)],[],g1⟩) rfl rfl (q39_ ?h4) ?r4
    case h4=>simp only[q39];rw[<-hg1];simp[hb,hc,ho,hKl,e1,hcc,c1,c2]
    case r4=>simp[am,results,qp,ao,au,ai,htk]
def fk (L:List Nd):Nat->List Nd->Int
 |_,[]=>0
 |i,x::l=>if dU L i x=0 then fk L (i+1) l else dU L i x
def cY (m:Md):Int:=
 if m.nodes.length>80\/m.bads.length>8\/m.holds.length>8 then 2
 else if fk m.nodes 0 m.nodes≠0 then fk m.nodes 0 m.nodes
 else if bu m.nodes 2>6\/bu m.nodes 3>10 then 2
 else if gy m (dR [] m.nodes)≠0 then gy m (dR [] m.nodes) else ir m
theorem sM {L:List Nd}:∀{i:Nat} {l:List Nd},fk L i l=0->∀j x,l[j]?=some x->dU L ((i+j:Nat):Int) x=0
 |i,y::l,h,0,x,hx=>by
  rw[fk] at h;simp at hx;subst hx;split at h
  ·assumption
  ·contradiction
 | i,y::l,h,j+1,x,hx=>by
  rw[fk] at h;split at h
  ·have:=sM h j x (by simpa using hx)
   rw[show i+(j+1)=i+1+j by omega];exact this
  ·contradiction
theorem sN {L:List Nd} (h:fk L 0 L=0):lg L:=by
 intro i x hx a ha;have h0:=sM h i x hx;rw[cR] at h0;unfold dU at h0;split at h0
 ·omega
 rename_i hk;split at h0
 ·omega
 split at h0
 ·rename_i hk3
  unfold dM at ha;rw[w8 ⟨by omega,hk3⟩] at ha;simp at ha
 split at h0
 ·omega
 rename_i hb;unfold gj eJ at hb;simp only[not_or] at hb;obtain⟨b0,b1,b2⟩:=hb;unfold dM at ha;rcases jG x.k with ht|ht|ht|ht<;>rw[ht] at ha b0 b1 b2<;>simp at ha b0 b1 b2
 ·subst ha;exact⟨by omega,by omega⟩
 ·rcases ha with rfl|rfl<;>exact⟨by omega,by omega⟩
 ·rcases ha with rfl|rfl|rfl<;>exact⟨by omega,by omega⟩
theorem xz (hl:m.nodes.length<=1000):∀k i,i+k=m.nodes.length->
  ab pg q77 ⟨[(1,.ptr false 0 0),(27,I m.nodes.length),(28,I (i:Int))],[[LN m.nodes,LP m.inits,LP m.nexts,LI m.bads,LI m.holds]],gh⟩=
   if fk m.nodes i (m.nodes.drop i)=0 then some (.normal,⟨[(1,.ptr false 0 0)],[[LN m.nodes,LP m.inits,LP m.nexts,LI m.bads,LI m.holds]],gh⟩)
   else some (.ret,⟨[(2,I (fk m.nodes i (m.nodes.drop i)))],[],gh⟩)
 |0,i,h=>by
  rw[aQ (by omega),fk,if_pos rfl];have hlt:¬(i:Int)<(m.nodes.length:Int):=by omega
  refine (cm (s1:=?s1) (qar ?h1)).trans ?r1
  case h1=>simp only[aF hlt,dq];rfl
  case r1=>simp[keep,co]
 | k+1,i,h=>by
  have hlt:i<m.nodes.length:=by omega
  have hltI:(i:Int)<(m.nodes.length:Int):=by omega
  have e2:WI.wrap ((i:Int)+1)=((i+1:Nat):Int):=by rw[a9 (by omega) (by omega)];omega
  have hn:=Gl (l:=m.nodes) (gh:=gh) (idx:=i) (aA hlt);rw[aL hlt,fk];generalize dU m.nodes (i:Int) m.nodes[i]=r at *;by_cases he:r=0
  ·rw[if_pos he]
   refine bh (s1:=⟨[(1,.ptr false 0 0),(27,I m.nodes.length),(28,I ((i+1:Nat):Int))],[[LN m.nodes,LP m.inits,LP m.nexts,LI m.bads,LI m.holds]],gh⟩) (qar ?_) (xz hl k (i+1) (by omega));simp[hltI,hn,he,e2]
  ·rw[if_neg he,if_neg he]
   refine dJ (qar ?_);simp[hltI,hn,he]
theorem xA (h1:Sz m.inits.length) (h2:Sz m.nexts.length):ac pg 38 [e8 m] gh=some (I (cY m),gh):=by
 unfold cY;have hNl:(m.nodes.map bm).length=m.nodes.length:=by simp
 have hBl:(m.bads.map I).length=m.bads.length:=by simp
 have hHl:(m.holds.map I).length=m.holds.length:=by simp
 rw[en];by_cases c1:m.nodes.length>80\/m.bads.length>8\/m.holds.length>8
 ·rw [if_pos c1]
  refine aq (fn:=qf) (s:=⟨[(2,I 2)],[],gh⟩) rfl rfl (q3a ?h1) ?r1
  case r1=>simp[am,results,qf,ao,au,ai]
  case h1=>
   by_cases d1:(80:Int)<(m.nodes.length:Int)
   ·simp[d1]
   ·by_cases d2:(8:Int)<(m.bads.length:Int)
    ·simp[d1,d2]
    ·have d3:(8:Int)<(m.holds.length:Int):=by omega
     simp[d1,d2,d3]
 ·rw [if_neg c1]
  have d1:¬(80:Int)<(m.nodes.length:Int):=by omega
  have d2:¬(8:Int)<(m.bads.length:Int):=by omega
  have d3:¬(8:Int)<(m.holds.length:Int):=by omega
  have hl:=xz (m:=m) (gh:=gh) (by omega) m.nodes.length 0 (by omega);rw[bL] at hl;simp only[aX] at hl;by_cases hn:fk m.nodes 0 m.nodes=0
  ·rw [if_neg (λh=>h hn)]
   rw[if_pos hn] at hl;have hb:=xf (m:=m) (gh:=gh) (by omega);rw[en] at hb;have hlen:=Gr (m:=m) (gh:=gh) (sN hn) (by omega);have hf:(dR [] m.nodes).length=m.nodes.length:=by simpa using sF [] m.nodes
   have hp:=Hc (gh:=gh) hf h1 h2;have hm:=Hf (m:=m) (gh:=gh) (f:=dR [] m.nodes) (by omega) (by omega) (by omega);have htk:(ckG gh m (dR [] m.nodes)).take gh.length=gh:=by simp[ckG]
   have hck:ckG gh m []=gh++[GObj.cells [LN m.nodes,LP m.inits,LP m.nexts,LI m.bads,LI m.holds,.sl true 1 []]]:=rfl;generalize ckG gh m (dR [] m.nodes)=g1 at *;generalize gy m (dR [] m.nodes)=r at *;rw[hck] at hlen;by_cases hbt:bu m.nodes 2>6\/bu m.nodes 3>10
   ·rw[if_pos hbt]
    have k1:ab pg q1h ⟨[(1,.ptr false 0 0)],[[LN m.nodes,LP m.inits,LP m.nexts,LI m.bads,LI m.holds]],gh⟩=some (.ret,⟨[(2,I 2)],[],gh⟩):=by
     refine qas ?_;by_cases b1:6<bu m.nodes 2
     ·simp[hb,b1]
     ·have b2:10<bu m.nodes 3:=by omega
      simp[hb,b1,b2]
    refine aq (fn:=qf) (s:=⟨[(2,I 2)],[],gh⟩) rfl rfl (q3a ?h2) ?r2
    case r2=>simp[am,results,qf,ao,au,ai]
    case h2=>simp[d1,d2,d3,hl,k1]
   ·rw[if_neg hbt]
    have b1:¬6<bu m.nodes 2:=by omega
    have b2:¬10<bu m.nodes 3:=by omega
    by_cases hr:r=0
    ·rw[if_neg (λh=>h hr)]
     have k1:ab pg q1h ⟨[(1,.ptr false 0 0)],[[LN m.nodes,LP m.inits,LP m.nexts,LI m.bads,LI m.holds]],gh⟩=some (.ret,⟨[(2,I (ir m))],[],g1⟩):=by refine qas ?_;simp[hb,b1,b2,hlen,hp,hr,hm]
     refine aq (fn:=qf) (s:=⟨[(2,I (ir m))],[],g1⟩) rfl rfl (q3a ?h3) ?r3
     case r3=>simp[am,results,qf,ao,au,ai,htk]
     case h3=>simp[d1,d2,d3,hl,k1]
    ·rw[if_pos hr]
     have k1:ab pg q1h ⟨[(1,.ptr false 0 0)],[[LN m.nodes,LP m.inits,LP m.nexts,LI m.bads,LI m.holds]],gh⟩=some (.ret,⟨[(2,I r)],[],g1⟩):=by refine qas ?_;simp[hb,b1,b2,hlen,hp,hr]
     refine aq (fn:=qf) (s:=⟨[(2,I r)],[],g1⟩) rfl rfl (q3a ?h4) ?r4
     case r4=>simp[am,results,qf,ao,au,ai,htk]
     case h4=>simp[d1,d2,d3,hl,k1]
  ·rw[if_pos hn]
   rw[if_neg hn] at hl;generalize fk m.nodes 0 m.nodes=r at *;refine aq (fn:=qf) (s:=⟨[(2,I r)],[],gh⟩) rfl rfl (q3a ?h5) ?r5
   case r5=>simp[am,results,qf,ao,au,ai]
   case h5=>simp[d1,d2,d3,hl]
end
@[simp] theorem ble11 : Nat.ble 1 1 = true := rfl
section
variable {m:Md} {gh:List GObj}
theorem sO {kind:Int} (hl:m.nodes.length*8<=140737488355328):∀k i (acc:List Int),i+k=m.nodes.length->acc.length<=i->
  ab pg q8i ⟨[(1,I kind),(2,.ptr false 0 0),(5,.sl true 1 (acc.map I)),(6,I (i:Int))],[[LN m.nodes,LP m.inits,LP m.nexts,LI m.bads,LI m.holds]],gh⟩=
   some (.normal,⟨[(5,.sl true 1 ((acc++di kind i (m.nodes.drop i)).map I))],[],gh⟩)
 |0,i,acc,h,_=>by
  rw[aQ (by omega)];have hlt:¬i<m.nodes.length:=by omega
  refine (cm (s1:=?s1) (qau ?h1)).trans ?r1
  case h1=>simp[hlt];rfl
  case r1=>simp[keep,di,co]
 | k+1,i,acc,h,ha=>by
  have hlt:i<m.nodes.length:=by omega
  have hltD:decide (i<m.nodes.length)=true:=aG hlt;have hltI:(i:Int)<(m.nodes.length:Int):=by omega
  have e2:WI.wrap ((i:Int)+1)=((i+1:Nat):Int):=gg (by simp only[Sz];omega);have hx:(m.nodes.map bm)[i]?=some (bm m.nodes[i]):=by simp[aA hlt]
  rw[dQ m.nodes[i]] at hx;have hmx:(acc.length+1)*8<=maxBytes:=by have:=MB;omega
  rw[aL hlt,di];generalize m.nodes[i]=x at *;have hk1:∀acc':List PV,ab pg q2i ⟨[(1,I kind),(2,.ptr false 0 0),(5,.sl true 1 acc'),(6,I (i:Int))],[[LN m.nodes,LP m.inits,LP m.nexts,LI m.bads,LI m.holds]],gh⟩=some (.normal,⟨[(1,I kind),(2,.ptr false 0 0),(5,.sl true 1 acc'),(6,I ((i+1:Nat):Int))],[[LN m.nodes,LP m.inits,LP m.nexts,LI m.bads,LI m.holds]],gh⟩):=λacc'=>by refine qm9 ?_;simp[e2]
  by_cases hk:x.k=kind
  ·rw[if_pos hk]
   have e:acc++(i:Int)::di kind (i+1) (m.nodes.drop (i+1))=(acc++[(i:Int)])++di kind (i+1) (m.nodes.drop (i+1)):=by simp
   rw[e];have hk1:=hk1 (acc.map I++[I (i:Int)]);refine bh (s1:=⟨[(1,I kind),(2,.ptr false 0 0),(5,.sl true 1 ((acc++[(i:Int)]).map I)),(6,I ((i+1:Nat):Int))],[[LN m.nodes,LP m.inits,LP m.nexts,LI m.bads,LI m.holds]],gh⟩) (qau ?_) (sO hl k (i+1) _ (by omega) (by simp;omega));have hal:(acc.map I).length=acc.length:=by simp
   simp only[bK,bQ,bR] at hk1 ⊢;generalize acc.map I=A at *;simp[hltD,hx,hk,hal,hmx,hk1,-List.getElem?_map]
  ·rw[if_neg hk]
   have hk1:=hk1 (acc.map I);refine bh (s1:=⟨[(1,I kind),(2,.ptr false 0 0),(5,.sl true 1 (acc.map I)),(6,I ((i+1:Nat):Int))],[[LN m.nodes,LP m.inits,LP m.nexts,LI m.bads,LI m.holds]],gh⟩) (qau ?_) (sO hl k (i+1) _ (by omega) (by omega));generalize acc.map I=A at *;simp[hltD,hx,hk,hk1,-List.getElem?_map]
theorem j8 {kind:Int} (hl:m.nodes.length*8<=140737488355328):ac pg 39 [e8 m,I kind] gh=some (LI (ak m.nodes kind),gh):=by
 have h:=sO (gh:=gh) (kind:=kind) hl m.nodes.length 0 [] (by omega) (by simp);rw[bL,bI] at h;simp only[bR,aX] at h;have hn:=jF (di kind 0 m.nodes);have hk:=qma (pg:=pg) (gh:=gh) (v5:= .sl true 1 ((di kind 0 m.nodes).map I)) (e:= .ret) (s:=⟨[(4,.sl false 1 ((di kind 0 m.nodes).map I))],[],gh⟩) (by simp);unfold ak;simp only[LI] at *;generalize (di kind 0 m.nodes).map I=K at *;rw[en];refine aq (fn:=q8k) (s:=⟨[(4,.sl false 1 K)],[],gh⟩) rfl rfl (qmb ?h1) ?r1
 case h1=>simp[h,hk]
 case r1=>simp[am,results,q8k,ao,au,ai,hn]
theorem sP {kind:Int} (hl:m.nodes.length*8<=140737488355328):∀k i s,i+k=m.nodes.length->
  ab pg q8r ⟨[(1,I kind),(2,.ptr false 0 0),(5,I s),(6,I (i:Int))],[[LN m.nodes,LP m.inits,LP m.nexts,LI m.bads,LI m.holds]],gh⟩=
   some (.normal,⟨[(5,I (((m.nodes.drop i).filter λx=>decide (x.k=kind)).foldl j7 s))],[],gh⟩)
 |0,i,s,h=>by
  rw[aQ (by omega)];have hlt:¬i<m.nodes.length:=by omega
  refine (cm (s1:=?s1) (qav ?h1)).trans ?r1
  case h1=>simp[hlt];rfl
  case r1=>simp[keep,co]
 | k+1,i,s,h=>by
  have hlt:i<m.nodes.length:=by omega
  have hltD:decide (i<m.nodes.length)=true:=aG hlt;have hltI:(i:Int)<(m.nodes.length:Int):=by omega
  have e2:WI.wrap ((i:Int)+1)=((i+1:Nat):Int):=gg (by simp only[Sz];omega);have hx:(m.nodes.map bm)[i]?=some (bm m.nodes[i]):=by simp[aA hlt]
  rw[dQ m.nodes[i]] at hx;rw[aL hlt,List.filter_cons];generalize m.nodes[i]=x at *;have hk1:∀s',ab pg q2n ⟨[(1,I kind),(2,.ptr false 0 0),(5,I s'),(6,I (i:Int))],[[LN m.nodes,LP m.inits,LP m.nexts,LI m.bads,LI m.holds]],gh⟩=some (.normal,⟨[(1,I kind),(2,.ptr false 0 0),(5,I s'),(6,I ((i+1:Nat):Int))],[[LN m.nodes,LP m.inits,LP m.nexts,LI m.bads,LI m.holds]],gh⟩):=λs'=>by refine qmc ?_;simp[e2]
  by_cases hk:x.k=kind
  ·rw[if_pos (by simpa using hk),List.foldl_cons]
   have hk1:=hk1 (WI.wrap (s+x.w));refine bh (s1:=⟨[(1,I kind),(2,.ptr false 0 0),(5,I (j7 s x)),(6,I ((i+1:Nat):Int))],[[LN m.nodes,LP m.inits,LP m.nexts,LI m.bads,LI m.holds]],gh⟩) (qav ?_) (sP hl k (i+1) _ (by omega));unfold j7;simp[hltD,hx,hk,hk1,-List.getElem?_map]
  ·rw[if_neg (by simpa using hk)]
   have hk1:=hk1 s;refine bh (s1:=⟨[(1,I kind),(2,.ptr false 0 0),(5,I s),(6,I ((i+1:Nat):Int))],[[LN m.nodes,LP m.inits,LP m.nexts,LI m.bads,LI m.holds]],gh⟩) (qav ?_) (sP hl k (i+1) _ (by omega));simp[hltD,hx,hk,hk1,-List.getElem?_map]
theorem oI {kind:Int} (hl:m.nodes.length*8<=140737488355328):ac pg 73 [e8 m,I kind] gh=some (I (bu m.nodes kind),gh):=by
 have h:=sP (gh:=gh) (kind:=kind) hl m.nodes.length 0 0 (by omega);rw[bL] at h;simp only[aX] at h;unfold bu;generalize (m.nodes.filter λx=>decide (x.k=kind)).foldl j7 0=r at *;have hk:=qmd (pg:=pg) (gh:=gh) (x5:=r) rfl;rw[en];refine aq (fn:=q8t) (s:=⟨[(4,I r)],[],gh⟩) rfl rfl (qme ?h1) ?r1
 case h1=>simp[h,hk]
 case r1=>simp[am,results,q8t,ao,au,ai]
end
section
variable {i:Int} {b:Bool} {x:Nd}
section
variable {m:Md} {gh:List GObj}
def ft (on:Prop) [Decidable on] (f:List Bool) (b:Bool) (a:Int):Bool:=if on then b||f.getD a.toNat false else b
theorem Hg (f:List Bool) (x:Nd):mF f x=ft (2<az x.k) f (ft (1<az x.k) f (ft (0<az x.k) f (decide (x.k=2\/x.k=3)) x.a) x.b) x.c:=by unfold mF dM ft;rcases jG x.k with h|h|h|h<;>rw[h]<;>simp[Bool.or_assoc]
abbrev bz (m:Md):List PV:=[LN m.nodes,LP m.inits,LP m.nexts,LI m.bads,LI m.holds]
theorem Hh {f:List Bool} (hf:f.length<=1000) :
  ab pg q1i ⟨[(1,.ptr false 0 0),(3,.sl true 1 (f.map B)),(4,I i),(6,B b)],[bz m],gh⟩=some (.normal,⟨[(1,.ptr false 0 0),(3,.sl true 1 ((f++[b]).map B)),(4,I i)],[bz m],gh⟩):=by
 have hmx:f.length+1<=maxBytes:=by have:=MB;omega
 refine qmf ?_;simp[hmx]
theorem Hi {f:List Bool} (hf:f.length<=1000) (hc:2<az x.k->0<=x.c/\x.c.toNat<f.length) :
  ab pg q1j ⟨[(1,.ptr false 0 0),(3,.sl true 1 (f.map B)),(4,I i),(5,.ptr false 1 0),(6,B b)],[bz m,[I x.k,I x.w,I x.a,I x.b,I x.c,I x.n]],gh⟩=
   some (.normal,⟨[(1,.ptr false 0 0),(3,.sl true 1 ((f++[ft (2<az x.k) f b x.c]).map B)),(4,I i)],[bz m],gh⟩):=by
 have ht:=gH x.k gh;have k3:=λb'=>Hh (m:=m) (gh:=gh) (i:=i) (b:=b') hf
 unfold ft;refine qmg ?_;by_cases h:2<az x.k
 ·obtain⟨h0,h1⟩:=hc h
  have hfr:=li h1;rw[if_pos h];generalize f.getD x.c.toNat false=c at *;generalize az x.k=t at *;cases b with
  |true=>
   have k3:=k3 true;simp only[bz] at *;simp[ht,h,k3]
  |false=>
   have k3:=k3 c;simp only[bz,Bool.false_or] at *;generalize (f++[c]).map B=F2 at *;generalize f.map B=F at *;simp[ht,h,h0,hfr,k3]
 ·rw[if_neg h]
  have k3:=k3 b;generalize az x.k=t at *;simp only[bz] at *;generalize (f++[b]).map B=F2 at *;generalize f.map B=F at *;simp[ht,h,k3]
theorem Hj {f:List Bool} (hf:f.length<=1000) (hb:1<az x.k->0<=x.b/\x.b.toNat<f.length) (hc:2<az x.k->0<=x.c/\x.c.toNat<f.length) :
  ab pg qz ⟨[(1,.ptr false 0 0),(3,.sl true 1 (f.map B)),(4,I i),(5,.ptr false 1 0),(6,B b)],[bz m,[I x.k,I x.w,I x.a,I x.b,I x.c,I x.n]],gh⟩=
   some (.normal,⟨[(1,.ptr false 0 0),(3,.sl true 1 ((f++[ft (2<az x.k) f (ft (1<az x.k) f b x.b) x.c]).map B)),(4,I i)],[bz m],gh⟩):=by
 have ht:=gH x.k gh;have k2:=λb'=>Hi (m:=m) (gh:=gh) (i:=i) (b:=b') hf hc
 have e:∀c,ft (1<az x.k) f b c=if 1<az x.k then b||f.getD c.toNat false else b:=λ_=>rfl
 rw[e];refine qmh ?_;by_cases h:1<az x.k
 ·obtain⟨h0,h1⟩:=hb h
  have hfr:=li h1;rw[if_pos h];generalize f.getD x.b.toNat false=c at *;cases b with
  |true=>
   have k2:=k2 true;rw[Bool.true_or];generalize ft (2<az x.k) f true x.c=r at *;simp only[bz] at *;generalize az x.k=t at *;generalize (f++[r]).map B=F2 at *;generalize f.map B=F at *;simp[ht,h,k2]
  |false=>
   have k2:=k2 c;rw[Bool.false_or];simp only[bz] at *;generalize ft (2<az x.k) f c x.c=r at *;generalize az x.k=t at *;generalize (f++[r]).map B=F2 at *;generalize f.map B=F at *;simp[ht,h,h0,hfr,k2]
 ·rw[if_neg h]
  have k2:=k2 b;generalize ft (2<az x.k) f b x.c=r at *;generalize az x.k=t at *;simp only[bz] at *;generalize (f++[r]).map B=F2 at *;generalize f.map B=F at *;simp[ht,h,k2]
theorem xB (hA:lg m.nodes) (hl:m.nodes.length<=1000):∀k i (f:List Bool),i+k=m.nodes.length->f.length=i->
  ab pg q8u ⟨[(1,.ptr false 0 0),(3,.sl true 1 (f.map B)),(4,I (i:Int))],[bz m],gh⟩=some (.normal,⟨[(3,.sl true 1 ((dR f (m.nodes.drop i)).map B))],[],gh⟩)
 |0,i,f,h,_=>by
  rw[aQ (by omega)];have hlt:¬i<m.nodes.length:=by omega
  refine (cm (s1:=?s1) (qh3 ?h1)).trans ?r1
  case h1=>simp[hlt];rfl
  case r1=>simp[keep,dR,co]
 | k +1,i,f,h,hf=>by
  have hlt:i<m.nodes.length:=by omega
  have hltD:decide (i<m.nodes.length)=true:=aG hlt;have e2:WI.wrap ((i:Int)+1)=((i+1:Nat):Int):=by rw[a9 (by omega) (by omega)];omega
  have hx:(m.nodes.map bm)[i]?=some (bm m.nodes[i]):=by simp[aA hlt]
  have hah:=hA i _ (aA hlt);rw[aL hlt,dR,Hg];generalize m.nodes[i]=x at *;rw[dQ x] at hx;have ha:0<az x.k->0<=x.a/\x.a.toNat<f.length:=λht=>by have:=hah x.a (by unfold dM;rcases jG x.k with h|h|h|h<;>rw[h] at ht ⊢ <;>simp at ht ⊢);omega
  have hb:1<az x.k->0<=x.b/\x.b.toNat<f.length:=λht=>by have:=hah x.b (by unfold dM;rcases jG x.k with h|h|h|h<;>rw[h] at ht ⊢ <;>simp at ht ⊢);omega
  have hc:2<az x.k->0<=x.c/\x.c.toNat<f.length:=λht=>by have:=hah x.c (by unfold dM;rcases jG x.k with h|h|h|h<;>rw[h] at ht ⊢ <;>simp at ht ⊢);omega
  have k1:=λb'=>Hj (m:=m) (gh:=gh) (i:=(i:Int)) (b:=b') (by omega:f.length<=1000) hb hc
  have k4:∀f':List PV,ab pg q10 ⟨[(1,.ptr false 0 0),(3,.sl true 1 f'),(4,I (i:Int))],[bz m],gh⟩=some (.normal,⟨[(1,.ptr false 0 0),(3,.sl true 1 f'),(4,I ((i+1:Nat):Int))],[bz m],gh⟩):=λf'=>by refine qmi ?_;simp[e2]
  have ht:=gH x.k gh;refine bh (qh3 ?_) (xB hA hl k (i+1) _ (by omega) (by simp;omega));have e0:∀b,ft (0<az x.k) f b x.a=if 0<az x.k then b||f.getD x.a.toNat false else b:=λ_=>rfl
  rw[e0];simp only[bz] at *;by_cases h2:x.k=2
  ·have d2:decide (x.k=2)=true:=aG h2
   have hd:decide (x.k=2\/x.k=3)=true:=aG (.inl h2);rw[hd];have hif:(if 0<az x.k then true||f.getD x.a.toNat false else true)=true:=by split<;>simp
   rw[hif];have k1:=k1 true;generalize ft (2<az x.k) f (ft (1<az x.k) f true x.b) x.c=r at *;have k4:=k4 ((f++[r]).map B);generalize az x.k=t at *;generalize (f++[r]).map B=F2 at *;generalize f.map B=F at *;by_cases h0:0<t
   ·simp[hltD,hx,d2,ht,h0,k1,k4,-List.getElem?_map]
   ·simp[hltD,hx,d2,ht,h0,k1,k4,-List.getElem?_map]
  ·have d2:decide (x.k=2)=false:=aF h2
   have hd:decide (x.k=2\/x.k=3)=decide (x.k=3):=by simp[h2]
   rw[hd];by_cases h0:0<az x.k
   ·rw[if_pos h0]
    obtain⟨ha0,ha1⟩:=ha h0;have hfr:=li ha1;generalize f.getD x.a.toNat false=c at *;have k1:=k1 (decide (x.k=3)||c);generalize hb3:decide (x.k=3)=b3 at *;generalize ft (2<az x.k) f (ft (1<az x.k) f (b3||c) x.b) x.c=r at *;have k4:=k4 ((f++[r]).map B);generalize az x.k=t at *;generalize (f++[r]).map B=F2 at *;generalize f.map B=F at *;cases b3 with
    |true=>
     rw[Bool.true_or] at k1;simp[hltD,hx,d2,ht,h0,hb3,k1,k4,-List.getElem?_map]
    |false=>
     rw[Bool.false_or] at k1;simp[hltD,hx,d2,ht,h0,hb3,ha0,hfr,k1,k4,-List.getElem?_map]
   ·rw[if_neg h0]
    have k1:=k1 (decide (x.k=3));generalize hb3:decide (x.k=3)=b3 at *;generalize ft (2<az x.k) f (ft (1<az x.k) f b3 x.b) x.c=r at *;have k4:=k4 ((f++[r]).map B);generalize az x.k=t at *;generalize (f++[r]).map B=F2 at *;generalize f.map B=F at *;simp[hltD,hx,d2,ht,h0,hb3,k1,k4,-List.getElem?_map]
theorem Hk (hA:lg m.nodes) (hl:m.nodes.length<=1000):ac pg 74 [e8 m] gh=some (.sl false 1 ((dR [] m.nodes).map B),gh):=by
 have h:=xB (gh:=gh) hA hl m.nodes.length 0 [] (by omega) rfl;rw[bL] at h;simp only[bR,aX,bz] at h;have hn:dL ((dR [] m.nodes).map B)=true:=by
  generalize dR [] m.nodes=l
  induction l with
  |nil=>rfl
  |cons a l ih=>simpa using ih
 generalize (dR [] m.nodes).map B=K at *;have hk:=qmj (pg:=pg) (gh:=gh) (v3:= .sl true 1 K) (e:= .ret) (s:=⟨[(2,.sl false 1 K)],[],gh⟩) (by simp);rw[en];refine aq (fn:=q8w) (s:=⟨[(2,.sl false 1 K)],[],gh⟩) rfl rfl (qmk ?h1) ?r1
 case h1=>simp[h,hk]
 case r1=>simp[am,results,q8w,ao,au,ai,hn]
end
end
def iK:List (Int×Int)->List (Int×Int)->Bool
 |_,[]=>false
 |pre,p::l=>pre.any (λq=>decide (p.1=q.1))||iK (pre++[p]) l
theorem xC:∀{pre l:List (Int×Int)},iK pre l=false↔((l.map (·.1)).Nodup/\∀p∈l,∀q∈pre,p.1≠q.1)
 |pre,[]=>by simp[iK]
 | pre,p::l=>by
  rw[iK,Bool.or_eq_false_iff,xC (pre:=pre++[p]) (l:=l)];simp only[List.any_eq_false,bQ,List.nodup_cons,List.mem_cons,bY,List.not_mem_nil,or_false,aH];constructor
  ·rintro⟨h1,h2,h3⟩
   refine⟨⟨λhm=>?_,h2⟩,?_⟩
   ·obtain⟨q,hq,he⟩:=List.mem_map.1 hm
    exact h3 q hq p (.inr rfl) he
   ·rintro a (rfl|ha) q hq
    ·exact h1 q hq
    ·exact h3 a ha q (.inl hq)
  ·rintro⟨⟨h1,h2⟩,h3⟩
   refine⟨λq hq=>h3 p (.inl rfl) q hq,h2,λa ha q hq=>?_⟩;rcases hq with hq|rfl
   ·exact h3 a (.inr ha) q hq
   ·exact λhe=>h1 (he▸List.mem_map_of_mem ha)
theorem Hl (l:List (Int×Int)):iK [] l=decide (dP l):=by
 have h:=xC (pre:=[]) (l:=l);unfold dP;cases hd:iK [] l with
 |false=>exact (aF λhn=>hn (h.1 hd).1).symm
 |true=>
  have:¬iK [] l=false:=by simp[hd]
  rw[h] at this;exact (aG (p:=¬(l.map (·.1)).Nodup) λhn=>this ⟨hn,by simp⟩).symm
section
variable {m:Md} {gh:List GObj}
theorem xD (hl:m.nodes.length<=1000):∀k i,i+k=m.nodes.length->
  ab pg q8c ⟨[(1,.ptr false 0 0),(3,I (i:Int))],[bz m],gh⟩=
   if fk m.nodes i (m.nodes.drop i)=0 then some (.normal,⟨[(1,.ptr false 0 0)],[bz m],gh⟩)
   else some (.ret,⟨[(2,I (fk m.nodes i (m.nodes.drop i)))],[],gh⟩)
 |0,i,h=>by
  rw[aQ (by omega),fk,if_pos rfl];have hlt:¬i<m.nodes.length:=by omega
  refine (cm (s1:=?s1) (qaw ?h1)).trans ?r1
  case h1=>simp[hlt];rfl
  case r1=>simp[keep,co]
 | k+1,i,h=>by
  have hlt:i<m.nodes.length:=by omega
  have hltD:decide (i<m.nodes.length)=true:=aG hlt;have e2:WI.wrap ((i:Int)+1)=((i+1:Nat):Int):=by rw[a9 (by omega) (by omega)];omega
  have hn:=Gp (l:=m.nodes) (gh:=gh) (idx:=i) (aA hlt) (by omega);rw[aL hlt,fk];generalize dU m.nodes (i:Int) m.nodes[i]=r at *;by_cases he:r=0
  ·rw[if_pos he]
   refine bh (s1:=⟨[(1,.ptr false 0 0),(3,I ((i+1:Nat):Int))],[bz m],gh⟩) (qaw ?_) (xD hl k (i+1) (by omega));simp[hltD,hn,he,e2]
  ·rw[if_neg he,if_neg he]
   refine dJ (qaw ?_);simp[hltD,hn,he]
theorem sS (hl:m.nodes.length<=1000) (n:Int):ac pg 50 [I n,I 0,I (WI.wrap ((m.nodes.length:Int)-1))] gh=some (B (decide (dh m.nodes n)),gh):=by have e:WI.wrap ((m.nodes.length:Int)-1)=(m.nodes.length:Int)-1:=a9 (by omega) (by omega);rw[e,ei];have:decide (0<=n/\n<=(m.nodes.length:Int)-1)=decide (dh m.nodes n):=decide_eq_decide.2 ⟨λh=>⟨h.1,by omega⟩,λh=>⟨h.1,by have:=h.2;have:=h.1;omega⟩⟩;rw[this]
theorem sT {f:List Bool} {ps:List (Int×Int)} {k:Nat} (hf:f.length=m.nodes.length) (hl:m.nodes.length<=1000) (hs:Sz ps.length):∀n j,j+n=ps.length->
  ab pg q29 ⟨[(1,.ptr false 0 0),(5,.sl false 1 (f.map B)),(6,I (k:Int)),(7,LP ps),(8,I (j:Int))],[bz m],gh⟩=
   if dr m.nodes f (decide (k=0)) (ps.drop j)=0 then some (.normal,⟨[(1,.ptr false 0 0),(5,.sl false 1 (f.map B)),(6,I (k:Int))],[bz m],gh⟩)
   else some (.ret,⟨[(2,I (dr m.nodes f (decide (k=0)) (ps.drop j)))],[],gh⟩)
 |0,j,h=>by
  rw[aQ (by omega),dr,if_pos rfl];have hlt:¬j<ps.length:=by omega
  refine (cm (s1:=?s1) (qw_ ?h1)).trans ?r1
  case h1=>simp only[qw];simp[hlt];rfl
  case r1=>simp[keep,co]
 | n + 1,j,h=>by
  have hlt:j<ps.length:=by omega
  have hltD:decide (j<ps.length)=true:=aG hlt;have hltI:(j:Int)<(ps.length:Int):=by omega
  have e2:WI.wrap ((j:Int)+1)=((j+1:Nat):Int):=gg (by simp only[Sz] at hs ⊢;omega);have hx:(ps.map aj)[j]?=some (aj ps[j]):=by simp[aA hlt]
  rw[fz] at hx;rw[aL hlt,dr];generalize ps[j]=p at *;obtain⟨a,b⟩:=p;simp only at hx;have hk0:((k:Int)==0)=decide (k=0):=by rw[vI];exact decide_eq_decide.2 (by omega)
  obtain⟨ini,hini⟩:∃ini,decide (k=0)=ini:=⟨_,rfl⟩
  rw[hini] at hk0 ⊢;have i1:=sS (m:=m) (gh:=gh) hl a;have i2:=sS (m:=m) (gh:=gh) hl b;have hNl:(m.nodes.map bm).length=m.nodes.length:=by simp
  generalize hw:WI.wrap ((m.nodes.length:Int)-1)=w at *
  have hret:∀r,r≠0->eK m.nodes f ini (a,b)=r->qw pg (.sl false 1 (f.map B)) k (LP ps) j (LN m.nodes) (LP m.inits) (LP m.nexts) (LI m.bads) (LI m.holds) gh=some (.ret,⟨[(2,I r)],[],gh⟩)->
    ab pg q29 ⟨[(1,.ptr false 0 0),(5,.sl false 1 (f.map B)),(6,I (k:Int)),(7,LP ps),(8,I (j:Int))],[bz m],gh⟩=
   if (if eK m.nodes f ini (a,b)=0 then dr m.nodes f ini (ps.drop (j+1)) else eK m.nodes f ini (a,b))=0 then some (.normal,⟨[(1,.ptr false 0 0),(5,.sl false 1 (f.map B)),(6,I (k:Int))],[bz m],gh⟩)
   else some (.ret,⟨[(2,I (if eK m.nodes f ini (a,b)=0 then dr m.nodes f ini (ps.drop (j+1)) else eK m.nodes f ini (a,b)))],[],gh⟩):=by
   intro r hr he hD;rw[he,if_neg hr,if_neg hr];exact dJ (qw_ hD)
  by_cases h1:dh m.nodes a
  ·rw [aG h1] at i1
   by_cases h2:dh m.nodes b
   ·rw [aG h2] at i2
    have n1:=iq h1;have n2:=iq h2;have z1:=h1.1;have z2:=h2.1;have hfr:=li (f:=f) (a:=b) (by rw[hf];exact h2.2);by_cases h3:(m.nodes.getD a.toNat default).k=3
    ·by_cases h4:wAt m.nodes a=wAt m.nodes b
     ·by_cases h5:ini=true/\f.getD b.toNat false=true
      ·refine hret 4 (by decide) (by simp only[eK];rw[if_neg (by rintro (h|h|h)<;>contradiction),if_neg (λh=>h h4),if_pos h5]) ?_
       obtain⟨rfl,h5⟩:=h5;rw[h5] at hfr;unfold wAt at h4;generalize m.nodes.getD a.toNat default=d1 at *;generalize m.nodes.getD b.toNat default=d2 at *;rw[dQ d1] at n1;rw[dQ d2] at n2;have d3:decide (d1.k=3)=true:=aG h3;simp only[qw,hk0];simp[hltD,hx,hw,i1,i2,z1,z2,n1,n2,d3,h4,hfr,-List.getElem?_map]
      ·have he:eK m.nodes f ini (a,b)=0:=by simp only[eK];rw[if_neg (by rintro (h|h|h)<;>contradiction),if_neg (λh=>h h4),if_neg h5]
       rw[he,if_pos rfl];refine bh (s1:=⟨[(1,.ptr false 0 0),(5,.sl false 1 (f.map B)),(6,I (k:Int)),(7,LP ps),(8,I ((j+1:Nat):Int))],[bz m],gh⟩) (qw_ ?_) ?_
       ·unfold wAt at h4
        generalize m.nodes.getD a.toNat default=d1 at *;generalize m.nodes.getD b.toNat default=d2 at *;rw[dQ d1] at n1;rw[dQ d2] at n2;have d3:decide (d1.k=3)=true:=aG h3;simp only[qw,hk0];cases ini with
        |true=>
         have h5:f.getD b.toNat false=false:=by simpa using h5
         rw[h5] at hfr;generalize f.map B=F at *;simp[hltD,hx,hw,i1,i2,z1,z2,n1,n2,d3,h4,hfr,e2,-List.getElem?_map]
        |false=>
         generalize f.map B=F at *;simp[hltD,hx,hw,i1,i2,z1,z2,n1,n2,d3,h4,e2,-List.getElem?_map]
       ·rw[<-hini]
        exact sT hf hl hs n (j+1) (by omega)
     ·refine hret 1 (by decide) (by simp only[eK];rw[if_neg (by rintro (h|h|h)<;>contradiction),if_pos h4]) ?_
      unfold wAt at h4;generalize m.nodes.getD a.toNat default=d1 at *;generalize m.nodes.getD b.toNat default=d2 at *;rw[dQ d1] at n1;rw[dQ d2] at n2;have d3:decide (d1.k=3)=true:=aG h3;simp only[qw,hk0];simp[hltD,hx,hw,i1,i2,z1,z2,n1,n2,d3,h4,-List.getElem?_map]
    ·refine hret 5 (by decide) (by simp only[eK];rw[if_pos (.inr (.inr h3))]) ?_
     generalize m.nodes.getD a.toNat default=d1 at *;rw[dQ d1] at n1;have d3:decide (d1.k=3)=false:=aF h3;simp only[qw,hk0];simp[hltD,hx,hw,i1,i2,z1,n1,d3,-List.getElem?_map]
   ·rw[aF h2] at i2
    refine hret 5 (by decide) (by simp only[eK];rw[if_pos (.inr (.inl h2))]) ?_;simp only[qw,hk0];simp[hltD,hx,hw,i1,i2,-List.getElem?_map]
  ·rw[aF h1] at i1
   refine hret 5 (by decide) (by simp only[eK];rw[if_pos (.inl h1)]) ?_;simp only[qw,hk0];simp[hltD,hx,hw,i1,-List.getElem?_map]
theorem xE {ps:List (Int×Int)} {k i:Nat} {s w:Int} (hs:Sz ps.length) (hi:ps[i]?=some (s,w)):∀n j,j+n=i->
  ab pg q8e ⟨[(1,.ptr false 0 0),(10,I (k:Int)),(11,LP ps),(12,I (i:Int)),(13,I (j:Int))],[bz m],gh⟩=
   if ((ps.take i).drop j).any (λq=>decide (s=q.1))=true then some (.ret,⟨[(2,I 6)],[],gh⟩)
   else some (.normal,⟨[(1,.ptr false 0 0),(10,I (k:Int)),(11,LP ps),(12,I (i:Int))],[bz m],gh⟩)
 |0,j,h=>by
  have hil:=(aD.1 hi).1;rw[aQ (by simp;omega),List.any_nil,if_neg (by simp)];have hlt:¬(j:Int)<(i:Int):=by omega
  refine (cm (s1:=?s1) (qax ?h1)).trans ?r1
  case h1=>simp only[aF hlt,dq];simp;rfl
  case r1=>simp[keep,co]
 | n+1,j,h=>by
  have hil:=(aD.1 hi).1;have hlt:(j:Int)<(i:Int):=by omega
  have hltD:decide ((j:Int)<(i:Int))=true:=aG hlt;have e2:WI.wrap ((j:Int)+1)=((j+1:Nat):Int):=gg (by simp only[Sz] at hs ⊢;omega);have hj:j<(ps.take i).length:=by simp;omega
  have hx:(ps.map aj)[j]?=some (aj (ps.take i)[j]):=by simp[aA (show j<ps.length by omega)]
  have hy:(ps.map aj)[i]?=some (aj (s,w)):=by simp[hi]
  rw[fz] at hx hy;rw[aL hj,List.any_cons];generalize (ps.take i)[j]=q at *;obtain⟨a,b⟩:=q;simp only at hx hy ⊢;by_cases he:s=a
  ·rw[aG he,Bool.true_or,if_pos rfl]
   refine dJ (qax ?_);simp only[hltD];simp[hx,hy,he,-List.getElem?_map]
  ·rw[aF he,Bool.false_or]
   refine bh (s1:=⟨[(1,.ptr false 0 0),(10,I (k:Int)),(11,LP ps),(12,I (i:Int)),(13,I ((j+1:Nat):Int))],[bz m],gh⟩) (qax ?_) (xE hs hi n (j+1) (by omega));simp only[hltD];simp[hx,hy,he,e2,-List.getElem?_map]
theorem sU {ps:List (Int×Int)} {k:Nat} (hs:Sz ps.length):∀n i,i+n=ps.length->
  ab pg q4g ⟨[(1,.ptr false 0 0),(10,I (k:Int)),(11,LP ps),(12,I (i:Int))],[bz m],gh⟩=
   if iK (ps.take i) (ps.drop i)=true then some (.ret,⟨[(2,I 6)],[],gh⟩) else some (.normal,⟨[(1,.ptr false 0 0),(10,I (k:Int))],[bz m],gh⟩)
 |0,i,h=>by
  rw[aQ (by omega),iK,if_neg (by simp)];have hlt:¬i<ps.length:=by omega
  refine (cm (s1:=?s1) (q5a_ ?h1)).trans ?r1
  case h1=>simp only[q5a];simp[hlt];rfl
  case r1=>simp[keep,co]
 | n+1,i,h=>by
  have hlt:i<ps.length:=by omega
  have hltD:decide (i<ps.length)=true:=aG hlt;have e2:WI.wrap ((i:Int)+1)=((i+1:Nat):Int):=gg (by simp only[Sz] at hs ⊢;omega);have hg:ps[i]?=some (ps[i].1,ps[i].2):=aA hlt;have h6:=xE (m:=m) (gh:=gh) (k:=k) hs hg i 0 (by omega);rw[bL] at h6;simp only[aX] at h6;have htk:ps.take i++[ps[i]]=ps.take (i+1):=by simp
  have hPl:(ps.map aj).length=ps.length:=by simp
  rw[aL hlt,iK,htk];have k6:ab pg q4f ⟨[(1,.ptr false 0 0),(10,I (k:Int)),(11,LP ps),(12,I (i:Int))],[bz m],gh⟩=some (.normal,⟨[(1,.ptr false 0 0),(10,I (k:Int)),(11,LP ps),(12,I ((i+1:Nat):Int))],[bz m],gh⟩):=by refine qmn ?_;simp[e2]
  have hrec:=sU (k:=k) hs n (i+1) (by omega);cases hd:(ps.take i).any (λq=>decide (ps[i].1=q.1)) with
  |true=>
   rw[hd,if_pos rfl] at h6;rw[Bool.true_or,if_pos rfl];refine dJ (q5a_ ?_);simp only[bz] at *;simp only[q5a];simp[hltD,h6]
  |false=>
   rw[hd,if_neg (by simp)] at h6;rw[Bool.false_or];refine bh (s1:=⟨[(1,.ptr false 0 0),(10,I (k:Int)),(11,LP ps),(12,I ((i+1:Nat):Int))],[bz m],gh⟩) (q5a_ ?_) hrec;simp only[bz] at *;simp only[q5a];simp[hltD,h6,k6]
theorem xF {xs:List Int} (hl:m.nodes.length<=1000) (hs:Sz xs.length):∀n i,i+n=xs.length->
  ab pg q8g ⟨[(1,.ptr false 0 0),(14,.sl true 1 (xs.map I)),(15,I (i:Int))],[bz m],gh⟩=
   if (xs.drop i).any (λa=> !decide (dh m.nodes a))=true then some (.ret,⟨[(2,I 5)],[],gh⟩) else some (.normal,⟨[(1,.ptr false 0 0),(14,.sl true 1 (xs.map I))],[bz m],gh⟩)
 |0,i,h=>by
  rw[aQ (by omega),List.any_nil,if_neg (by simp)];have hlt:¬i<xs.length:=by omega
  refine (cm (s1:=?s1) (q5b_ ?h1)).trans ?r1
  case h1=>simp only[q5b];simp[hlt];rfl
  case r1=>simp[keep,co]
 | n+1,i,h=>by
  have hlt:i<xs.length:=by omega
  have hltD:decide (i<xs.length)=true:=aG hlt;have e2:WI.wrap ((i:Int)+1)=((i+1:Nat):Int):=gg (by simp only[Sz] at hs ⊢;omega);have hg:(xs.map I)[i]?=some (I xs[i]):=by simp[aA hlt]
  have hb:=sS (m:=m) (gh:=gh) hl xs[i];generalize hw:WI.wrap ((m.nodes.length:Int)-1)=w at *;have hrec:=xF hl hs n (i+1) (by omega);rw[aL hlt,List.any_cons];generalize xs[i]=a at *;by_cases hn:dh m.nodes a
  ·rw[aG hn] at hb ⊢
   rw[Bool.not_true,Bool.false_or];refine bh (s1:=⟨[(1,.ptr false 0 0),(14,.sl true 1 (xs.map I)),(15,I ((i+1:Nat):Int))],[bz m],gh⟩) (q5b_ ?_) hrec;simp only[q5b];simp[hltD,hg,hw,hb,e2,-List.getElem?_map]
  ·rw[aF hn] at hb ⊢
   rw[Bool.not_false,Bool.true_or,if_pos rfl];refine dJ (q5b_ ?_);simp only[q5b];simp[hltD,hg,hw,hb,-List.getElem?_map]
theorem xG {xs:List Int} (hn:∀a∈xs,dh m.nodes a) (hs:Sz xs.length):∀n i,i+n=xs.length->
  ab pg q2e ⟨[(1,.ptr false 0 0),(14,.sl true 1 (xs.map I)),(16,I (i:Int))],[bz m],gh⟩=
   if (xs.drop i).any (λa=> !decide (wAt m.nodes a=1))=true then some (.ret,⟨[(2,I 1)],[],gh⟩) else some (.normal,⟨[],[],gh⟩)
 |0,i,h=>by
  rw[aQ (by omega),List.any_nil,if_neg (by simp)];have hlt:¬i<xs.length:=by omega
  refine (cm (s1:=?s1) (q5c_ ?h1)).trans ?r1
  case h1=>simp only[q5c];simp[hlt];rfl
  case r1=>simp[keep]
 | n+1,i,h=>by
  have hlt:i<xs.length:=by omega
  have hltD:decide (i<xs.length)=true:=aG hlt;have e2:WI.wrap ((i:Int)+1)=((i+1:Nat):Int):=gg (by simp only[Sz] at hs ⊢;omega);have hg:(xs.map I)[i]?=some (I xs[i]):=by simp[aA hlt]
  have hno:=hn _ (bX hlt);have hn1:=iq hno;have h0:=hno.1;have hrec:=xG hn hs n (i+1) (by omega);rw[aL hlt,List.any_cons];generalize xs[i]=a at *;unfold wAt at hrec ⊢;generalize m.nodes.getD a.toNat default=d at *;rw[dQ d] at hn1;by_cases hw:d.w=1
  ·rw[aG hw,Bool.not_true,Bool.false_or]
   refine bh (s1:=⟨[(1,.ptr false 0 0),(14,.sl true 1 (xs.map I)),(16,I ((i+1:Nat):Int))],[bz m],gh⟩) (q5c_ ?_) hrec;simp only[q5c];simp[hltD,hg,h0,hn1,hw,e2,-List.getElem?_map]
  ·rw[aF hw,Bool.not_false,Bool.true_or,if_pos rfl]
   refine dJ (q5c_ ?_);simp only[q5c];simp[hltD,hg,h0,hn1,hw,-List.getElem?_map]
end
end Go.Lw