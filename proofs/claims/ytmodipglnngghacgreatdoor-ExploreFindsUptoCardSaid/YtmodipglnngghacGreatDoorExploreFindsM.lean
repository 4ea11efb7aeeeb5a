/-
  The texts that the proof stands on, part 13.
-/
import Derived.Test.YtmodipglnngghacGreatDoorExploreFindsL
import Derived.Tactics
import Derived.KernelRfl
set_option linter.unusedVariables false
set_option linter.unusedSimpArgs false
set_option linter.unnecessarySimpa false

set_option maxRecDepth 100000
set_option maxHeartbeats 4000000
namespace Go.Lw
open Go
section
open Go.RowKit
section
variable {fi:FI} {M M':Mem} {w w':World} {P:Program} {s s':St} {a:Act} {cf:CallF}
def eq (P:Program) (fi:FI) (F:Nat) (vs:List PV) (gh:List GObj) (r:PV) (gh':List GObj):Prop:=
  ∀ (M:Mem) (w:World) (args:List Value),GI fi M w gh->M.lb=[]->(∀b l,M.own b=some l->∃i j,l= .gh i j)->args.length=vs.length->
    (∀(i:Nat) (p:PV) (v:Value),vs[i]?=some p->args[i]?=some v->RepP fi M w p v)->
    Calls P F args.toArray w λe w'=>∃v M',e= .returned v/\GI fi M' w' gh'/\M'.lb=[]/\al r=true/\RepAt fi M' w' Loc.res r v/\Kp M w M' w'
def go (P:Program) (fi:FI) (cf:CallF):Prop:=
  ∀ f vs gh r gh' F,cf f vs gh=some (r,gh')->(∀p∈vs,ah p=true)->fi f=some F->
    (∃ fn c, P.funcs[F]? = some fn ∧ (fn.name == "runtime.NumGoroutine") = false ∧ fn.body = some c) ∧ eq P fi F vs gh r gh'
def b5 (P:Program) (fi:FI) (i:IOp) (op:Op):Bool:=
  match i,op with
  | .call _ _ f xs,.call {callee:= .value (.func F),args,.. }| .callP _ f xs _,.call {callee:= .value (.func F),args,.. }| .callR _ f xs _ _,.call {callee:= .value (.func F),args,.. }| .callF _ f xs,.call {callee:= .value (.func F),args,.. }=>fi f==some F&&mXs fi xs args.toList
  | .callv _ _ fv xs,.call {callee:= .value y,args,.. }| .callE _ fv xs,.call {callee:= .value y,args,.. }=>mX fi fv y&&mXs fi xs args.toList
  | .loadN d agg k x _,op=>mOp P fi (.load d agg k x) op
  | .loadL d x,op=>mOp P fi (.loadT d x) op
  | .appendE d bytes y x,op=>mOp P fi (.append d 1 bytes y x) op
  | .loadKB d x _,op=>mOp P fi (.load d false 1 x) op
  | .loadTB d x _ _,op=>mOp P fi (.loadT d x) op
  | .loadB d agg k x _,op=>mOp P fi (.load d agg k x) op
  | .loadJ d agg k x,op=>mOp P fi (.load d agg k x) op
  | .appendP d bytes y x _,op=>mOp P fi (.append d 1 bytes y x) op
  | .mkarr d z bytes zero l,op=>mOp P fi (.mksl d true z bytes zero l) op
  | .buildA d z ps,op=>mOp P fi (.buildT d z ps) op
  | .appendK d bytes y x,op=>mOp P fi (.append d 1 bytes y x) op
  | .appendN d bytes y x,op=>mOp P fi (.append d 1 bytes y x) op
  | .buildSlK d els,op=>mOp P fi (.buildSl d 1 els) op
  | .boxSl d z els,op=>mOp P fi (.buildSl d z els) op
  | .loadK d x,op=>mOp P fi (.load d false 1 x) op
  | .loadH d x,op=>mOp P fi (.load d false 1 x) op
  | .storeP tk k y x _,op=>mOp P fi (.store tk k y x) op
  | .storeK y x,op=>mOp P fi (.store false 1 y x) op
  | .cally _ fv xs,.call {callee:= .value y,args,.. }=>mX fi fv y&&mXs fi xs args.toList
  |i,op=>mOp P fi i op
def IOp.isY:IOp->Bool
  | .cally _ _ _=>true
  |_=>false
theorem ky {F : Nat} {fn : Func} {c : Code} (hf : P.funcs[F]? = some fn) (hn : (fn.name == "runtime.NumGoroutine") = false) (hb : fn.body = some c) (args : Array Value) (w : World) :
    (callFunc F args).run P w= .ok (.enter F args) w:=by
  have h1 : fn.name ≠ "runtime.NumGoroutine" := by simpa using hn
  simp[callFunc,hf,h1,hb]
theorem RepE.fnInv {f:Nat} {cs:List PV} {v:Value} (h:RepE fi M w (.fn f cs) v):∃F vs,fi f=some F/\v= .func (.func F) #[] (vs:List Value).toArray/\vs.length=cs.length/\cs.all ah=true/\
    ∀(i:Nat) (c:PV) (u:Value),cs[i]?=some c->vs[i]?=some u->RepP fi M w c u:=by
  cases (show RepP fi M w (.fn f cs) v from h) with
  |fn _ F _ vs hf hl h1 h2=>exact⟨F,vs,hf,rfl,hl,h1,h2⟩
theorem RepE.bfnInv {f:Nat} {cs:List PV} {v:Value} (h:RepE fi M w (.bfn f cs) v):∃F vs,fi f=some F/\v= .func (.func F) (vs:List Value).toArray #[]/\vs.length=cs.length/\cs.all ah=true/\
    ∀(i:Nat) (c:PV) (u:Value),cs[i]?=some c->vs[i]?=some u->RepP fi M w c u:=by
  cases (show RepP fi M w (.bfn f cs) v from h) with
  |bfn _ F _ vs hf hl h1 h2=>exact⟨F,vs,hf,rfl,hl,h1,h2⟩
theorem ma {g:Bool} {p:PV} {v:Value} (h:RepP fi M w p v) (hg:g=false->p.noG=true):RepP fi (M.callee g) w p v:=by
  cases hgb:g with
  |true=>subst hgb;exact h.mono (show Ext M w (M.callee true) w from⟨λ_ _ h=>h,λ_ _ h=>h,λ_ _ _=>rfl,λ_ _=>⟨cN _,λ_=>rfl⟩⟩)
  | false=>
    subst hgb;exact (h.noG [] M.st (hg rfl)).mono (show Ext {M with gb:=[],st:=M.st } w (M.callee false) w from⟨λ_ _ h=>h,λ_ _ h=>h,λ_ _ _=>rfl,λ_ _=>⟨cN _,λ_=>rfl⟩⟩)
def pz:Option Nat->Nat->Loc
  |some d=>Loc.env d
  |none=>Loc.lim
theorem mc (hI:Inv fi M w s a) {o:Oper} {F:Nat} {args:List Value} {vs:List PV} {g:Bool} {r:PV} {gh':List GObj} (hrun:(execOp a.eval o).run P w= .ok (.enter F args.toArray) w)
    (hok:eq P fi F vs (if g then s.gh else []) r gh') (hl:args.length=vs.length) (hr:∀(i:Nat) (p:PV) (v:Value),vs[i]?=some p->args[i]?=some v->RepP fi M w p v) (hg:g=false->cU vs=true/\r.noG=true)
    (hlt:∀d,o.dst=some d->d<a.tmps.size) {next:Act->World->Prop} {Q:Exit->Act->World->Prop}
    (hn:∀a' M' w',Inv fi M' w' ⟨eo s.env o.dst r,s.lh,if g then gh' else s.gh⟩ a'->Kp M w M' w'->a'.tmps.size=a.tmps.size->next a' w'):o.wp P a w next Q:=by
  unfold Oper.wp;rw[hrun,Oper.upon_enter];obtain⟨c1,c2,c3⟩:=hI.callee g;refine Calls.mono (hok (M.callee g) w args c1 c2 c3 hl (λi p v hp hv=>ma (hr i p v hp hv) (λe=>fx (hg e).1 hp))) ?_;rintro e w2 ⟨v,M2,rfl,hG,hlb,hrok,hrep,hk⟩;obtain⟨b1,b2,b3⟩:=hI.back g (pz o.dst) (λi=>by cases o.dst<;>rfl) hG hlb hk hrep (λe=>(hg e).2) hrok;simp only;cases hd:o.dst with
  | none=>
    rw[hd] at b1 b2 b3 hn;exact hn _ _ _ b1 b2 rfl
  | some d=>
    rw[hd] at b1 b2 b3 hn;exact hn _ _ _ (b1.put (hlt d hd) b3) b2 (by simp[Act.put])
theorem Sim.wp {o:Oper} (h:Sim P fi o M w s' a) {next:Act->World->Prop} {Q:Exit->Act->World->Prop}
    (hn:∀a' M' w',Inv fi M' w' s' a'->Kp M w M' w'->a'.tmps.size=a.tmps.size->next a' w'):o.wp P a w next Q:=by
  obtain⟨n,v,M',w',h1,h2,h3,h4⟩:=h;unfold Oper.wp;rw[h1];have hs:(a.put o.dst v).tmps.size=a.tmps.size:=by cases o.dst<;>simp[Act.put]
  rcases h2 with rfl|⟨rfl,rfl⟩
  · exact hn _ _ _ h3 h4 hs
  · exact hn _ _ _ h3 h4 hs
theorem Inv.still (hI:Inv fi M w s a) (hsz:w.heap.size<=w'.heap.size) (hb:∀k,k<w.heap.size->w'.heap[k]?=w.heap[k]?) (h1:w'.os=w.os) (h2:w'.tape=w.tape) (h3:w'.output=w.output):Inv fi M w' s a/\Kp M w M w':=by
  have hext:Ext M w M w':=⟨λ_ _ h=>h,λ_ _ h=>h,λb k h=>World.cell?_of_block (w:=w) (hb b (hI.immlt b k h)),λ_ _=>⟨cN _,λ_=>rfl⟩⟩
  have G:Good M w M w' (λ_=>False) (λ_=>False):=
    ⟨hext,hsz,λ_ _ h=>h,λb l h _=>⟨h,hb b (hI.ownlt b l h),λ_ h=>h,λh=>h,λh=>h⟩,λb hlt _ h=>⟨hb b hlt,λ_ h=>h,h⟩,λ_ _=>rfl⟩
  exact⟨⟨λt u hu=>⟨(hI.env t u hu).1,(hI.env t u hu).2.good G (λi h=>h)⟩,hI.defers,hI.lbl,hI.gbl,hI.nodup,λi cs blk g1 g2=>(hI.lh i cs blk g1 g2).good G (λh=>h) (λi h=>h),
    λi o blk g1 g2=>(hI.gh i o blk g1 g2).good G (λh=>h) (λj h=>h),hext.gl hI.gl,λb k h=>aS (hI.immlt b k h) hsz,λb l h=>aS (hI.ownlt b l h) hsz,λb h=>aS (hI.gblt b h) hsz⟩,
    ⟨h1,h2,h3,hsz,hext,λk hlt _ _ _=>hb k hlt,λ_ h=> .inl h,λ_ h=> .inl h,λ_ _ h=>h,λ_ _ h=> .inl h,.same rfl⟩⟩
def Mem.reads (M:Mem):Mem:={lb:=[],gb:=[],imm:=λb k=>M.imm b k\/b∈M.gb,own:=λ_=>none,st:=M.st }
theorem Inv.reads (hI:Inv fi M w s a):GI fi M.reads w []:=
  ⟨λt v h=>by simp[get] at h,rfl,rfl,rfl,by simp[Mem.reads],λi cs blk h=>by simp at h,λi o blk h1 h2=>by simp at h1,
    λx hx=>⟨.inl (hI.gl x hx).1,(hI.gl x hx).2⟩,λb k h=>h.elim (hI.immlt b k) (hI.gblt b),λb l h=>by simp[Mem.reads] at h,λb hb=>by simp[Mem.reads] at hb⟩
theorem vQ (hcf :go P fi cf) {i:IOp} (hny:i.isY=false) (hI:Inv fi M w s a) {o:Oper} (hm:b5 P fi i o.op=true) (hd:o.dst=ba i) (hlt:∀d,ba i=some d->d<a.tmps.size) (h:ae cf s i=some s')
    {next:Act->World->Prop} {Q:Exit->Act->World->Prop} (hn:∀a' M' w',Inv fi M' w' s' a'->Kp M w M' w'->a'.tmps.size=a.tmps.size->next a' w'):o.wp P a w next Q:=by
  have hlt':∀d,o.dst=some d->d<a.tmps.size:=λd h=>hlt d (by rw[<-hd];exact h)
  cases i with
  | call d q f xs=>
    obtain⟨dst,op,ty,pos,aft,gd⟩:=o;cases op<;>simp[b5,mOp] at hm;rename_i c;obtain⟨callee,args,ats⟩:=c;cases callee with
    | value y =>
      cases y<;>simp at hm;rename_i F;obtain⟨hf,hxs⟩:=hm;simp only[ae,aC] at h;obtain⟨vs,hvs,h⟩:=h;unfold dF at h;split at h
      · rename_i hall
        simp only[bS] at hall;obtain⟨e1,e2⟩:=il hI hxs hvs;cases hc:cf f vs s.gh with
        |none=>simp[hc] at h
        | some rg=>
          obtain⟨r,gh'⟩:=rg;simp only[hc] at h;obtain⟨⟨fn,cd,hfn,hnm,hbd⟩,hok⟩:=hcf f vs s.gh r gh' F hc hall hf;have hs':s'=⟨eo s.env d r,s.lh,gh'⟩:=by
            split at h
            · split at h
              · rename_i he;cases h;rw[he]
              · cases h
            · cases h;rfl
          subst hs';refine mc (g:=true) (args:=args.toList.map a.eval) (vs:=vs) (F:=F) (r:=r) (gh':=gh') hI ?_ hok (by simpa using e1) (λi p v hp hv=>?_) (by simp) hlt' ?_
          · have hcap:args.map a.eval=(List.map a.eval args.toList).toArray:=by apply Array.ext';simp
            have hev:a.eval (.func F)= .func (.func F) #[] #[]:=rfl;simp[execOp,resolve,Deferred.ofValue,invoke,hev,hcap,ky hfn hnm hbd]
          · simp only[aB,aE] at hv
            obtain⟨y,hy,rfl⟩:=hv;refine (e2 i p y hp hy).repP ?_;exact hall p (aP hp)
          · rw[show dst=d from hd];exact hn
      · cases h
    |_=>simp at hm
  | callv d q fv xs=>
    obtain⟨dst,op,ty,pos,aft,gd⟩:=o;cases op<;>simp[b5,mOp] at hm;rename_i c;obtain⟨callee,args,ats⟩:=c;cases callee with
    | value y =>
      simp at hm;obtain⟨hfv,hxs⟩:=hm;simp only[ae] at h;split at h
      · rename_i f caps hcl
        simp only[aC] at h;obtain⟨vs,hvs,h⟩:=h;obtain⟨F,us,hf,hv,hul,hcok,hur⟩:=(bc hI hfv hcl).fnInv;unfold dF at h;split at h
        · rename_i hall
          simp only[bS] at hall;obtain⟨e1,e2⟩:=il hI hxs hvs;cases hc:cf f (vs++caps) s.gh with
          |none=>simp[hc] at h
          | some rg=>
            obtain⟨r,gh'⟩:=rg;simp only[hc] at h;obtain⟨⟨fn,cd,hfn,hnm,hbd⟩,hok⟩:=hcf f (vs++caps) s.gh r gh' F hc hall hf;have hs':s'=⟨eo s.env d r,s.lh,gh'⟩:=by
              split at h
              · split at h
                · rename_i he;cases h;rw[he]
                · cases h
              · cases h;rfl
            subst hs';have hvl:(args.toList.map a.eval).length=vs.length:=by simpa using e1
            refine mc (g:=true) (args:=args.toList.map a.eval++us) (vs:=vs++caps) (F:=F) (r:=r) (gh':=gh') hI ?_ hok (by simp only[aV];omega) (λi p v hp hv=>?_) (by simp) hlt' ?_
            · have hcap:args.map a.eval=(List.map a.eval args.toList).toArray:=by apply Array.ext';simp
              simp[execOp,resolve,Deferred.ofValue,invoke,hv,hcap,ky hfn hnm hbd]
            · by_cases hi:i<vs.length
              · rw[aJ hi] at hp
                rw[aJ (by omega)] at hv;simp only[aB,aE] at hv;obtain⟨y,hy,rfl⟩:=hv;exact (e2 i p y hp hy).repP (hall p (bD _ (aP hp)))
              · rw[aR (by omega)] at hp
                rw[aR (by omega),hvl] at hv;exact hur _ p v hp hv
            · rw[show dst=d from hd];exact hn
        · cases h
      · rename_i f caps hcl
        simp only[aC] at h;obtain⟨vs,hvs,h⟩:=h;obtain⟨F,us,hf,hv,hul,hcok,hur⟩:=(bc hI hfv hcl).bfnInv;unfold dF at h;split at h
        · rename_i hall
          simp only[bS] at hall;obtain⟨e1,e2⟩:=il hI hxs hvs;cases hc:cf f (caps++vs) s.gh with
          |none=>simp[hc] at h
          | some rg=>
            obtain⟨r,gh'⟩:=rg;simp only[hc] at h;obtain⟨⟨fn,cd,hfn,hnm,hbd⟩,hok⟩:=hcf f (caps++vs) s.gh r gh' F hc hall hf;have hs':s'=⟨eo s.env d r,s.lh,gh'⟩:=by
              split at h
              · split at h
                · rename_i he;cases h;rw[he]
                · cases h
              · cases h;rfl
            subst hs';have hvl:(args.toList.map a.eval).length=vs.length:=by simpa using e1
            refine mc (g:=true) (args:=us++args.toList.map a.eval) (vs:=caps++vs) (F:=F) (r:=r) (gh':=gh') hI ?_ hok (by simp only[aV];omega) (λi p v hp hv=>?_) (by simp) hlt' ?_
            · have hcap:args.map a.eval=(List.map a.eval args.toList).toArray:=by apply Array.ext';simp
              simp[execOp,resolve,Deferred.ofValue,invoke,hv,hcap,ky hfn hnm hbd]
            · by_cases hi:i<caps.length
              · rw[aJ hi] at hp
                rw[aJ (by omega)] at hv;exact hur _ p v hp hv
              · rw[aR (by omega)] at hp
                rw[aR (by omega),hul] at hv;simp only[aB,aE] at hv;obtain⟨y,hy,rfl⟩:=hv;exact (e2 _ p y hp hy).repP (hall p (bE _ (aP hp)))
            · rw[show dst=d from hd];exact hn
        · cases h
      · cases h
    |_=>simp at hm
  |callE=>simp[ae] at h
  |callF=>simp[ae] at h
  |callP=>simp[ae] at h
  |callR=>simp[ae] at h
  |cally=>cases hny
  |appendE=>simp[ae] at h
  |loadKB=>simp[ae] at h
  |loadTB=>simp[ae] at h
  |loadB=>simp[ae] at h
  |loadJ=>simp[ae] at h
  |appendP=>simp[ae] at h
  | storeP tk k y x ns=>
    simp only[ae,aC] at h;obtain⟨s1,h1,h2⟩:=h;split at h2
    · cases h2
      exact (pl (cf:=cf) (s':=s') ⟨hI,by simpa [b5] using hm,hd,hlt⟩ h1).wp hn
    · cases h2
  |mkarr=>simp[ae] at h
  |buildA=>simp[ae] at h
  |boxSl=>simp[ae] at h
  |loadN=>simp[ae] at h
  |loadL=>simp[ae] at h
  |mv=>exact (ve ⟨hI,by simpa [b5] using hm,hd,hlt⟩ h).wp hn
  |tkS=>exact (vP ⟨hI,by simpa [b5] using hm,hd,hlt⟩ h).wp hn
  |tk=>exact (vg ⟨hI,by simpa [b5] using hm,hd,hlt⟩ h).wp hn
  |pick=>exact (vh ⟨hI,by simpa [b5] using hm,hd,hlt⟩ h).wp hn
  |box=>exact (vi ⟨hI,by simpa [b5] using hm,hd,hlt⟩ h).wp hn
  |alloc=>exact (vj ⟨hI,by simpa [b5] using hm,hd,hlt⟩ h).wp hn
  |build=>exact (vH ⟨hI,by simpa [b5] using hm,hd,hlt⟩ h).wp hn
  |buildT=>exact (vJ ⟨hI,by simpa [b5] using hm,hd,hlt⟩ h).wp hn
  |buildSl=>exact (vK ⟨hI,by simpa [b5] using hm,hd,hlt⟩ h).wp hn
  |load=>exact (vk ⟨hI,by simpa [b5] using hm,hd,hlt⟩ h).wp hn
  |loadT=>exact (vl ⟨hI,by simpa [b5] using hm,hd,hlt⟩ h).wp hn
  |store=>exact (pl ⟨hI,by simpa [b5] using hm,hd,hlt⟩ h).wp hn
  |nilc=>exact (vm ⟨hI,by simpa [b5] using hm,hd,hlt⟩ h).wp hn
  |bin=>exact (vn ⟨hI,by simpa [b5] using hm,hd,hlt⟩ h).wp hn
  |eqa=>simp[ae] at h
  |eqb=>simp[ae] at h
  |eqn=>exact (vo ⟨hI,by simpa [b5] using hm,hd,hlt⟩ h).wp hn
  |un=>exact (vp ⟨hI,by simpa [b5] using hm,hd,hlt⟩ h).wp hn
  |conv=>simp[ae] at h
  |mkfn=>exact (vq ⟨hI,by simpa [b5] using hm,hd,hlt⟩ h).wp hn
  |mkbf=>simp[ae] at h
  |storeK=>simp[ae] at h
  |clearK=>simp[ae] at h
  |loadG=>simp[ae] at h
  |boxB=>simp[ae] at h
  |mkbld=>simp[ae] at h
  |mkmap=>exact (vr ⟨hI,by simpa [b5] using hm,hd,hlt⟩ h).wp hn
  |mksl=>exact (vD ⟨hI,by simpa [b5] using hm,hd,hlt⟩ h).wp hn
  |slice=>exact (vt ⟨hI,by simpa [b5] using hm,hd,hlt⟩ h).wp hn
  |sliceS=>simp[ae] at h
  |faddr=>exact (vu ⟨hI,by simpa [b5] using hm,hd,hlt⟩ h).wp hn
  |field=>simp[ae] at h
  |iaddr=>exact (vv ⟨hI,by simpa [b5] using hm,hd,hlt⟩ h).wp hn
  |index=>exact (vw ⟨hI,by simpa [b5] using hm,hd,hlt⟩ h).wp hn
  |indexS=>simp[ae] at h
  |lookup=>exact (vx ⟨hI,by simpa [b5] using hm,hd,hlt⟩ h).wp hn
  |mupd=>exact (vy ⟨hI,by simpa [b5] using hm,hd,hlt⟩ h).wp hn
  |len=>exact (vz ⟨hI,by simpa [b5] using hm,hd,hlt⟩ h).wp hn
  |append=>exact (vA ⟨hI,by simpa [b5] using hm,hd,hlt⟩ h).wp hn
  |appendK=>simp[ae] at h
  |appendN=>simp[ae] at h
  |loadH=>simp[ae] at h
  |loadK=>simp[ae] at h
  |buildSlK=>simp[ae] at h
  |maxi=>simp[ae] at h
  |extract=>exact (vB ⟨hI,by simpa [b5] using hm,hd,hlt⟩ h).wp hn
end
end
def dX:List (Int×Int):=[(4,1),(5,1),(6,2),(7,2),(8,2),(9,2),(10,2),(11,2),(12,2),(13,2),(14,2),(15,2),(16,3),(17,3),(18,3),(19,4),(20,5),(21,6),(22,7),(23,7)]
theorem fW (gh:List GObj):af pg 61 [] gh=some (.mp gh.length,gh++[.map (bf dX)]):=by
 refine aw (fn:=q4w) (s:=⟨[(0,.mp gh.length)],[],gh++[.map (bf dX)]⟩) rfl rfl (qaj ?h) ?r
 case h=>
  rw[show ([.map []]:List GObj)=[.map (bf [])] from rfl]
  repeat rw[mY]
  rfl
 case r=>simp[au,results,q4w,av,ay,al]
def fX (k:Int):Option Int:=
 if k<4 then none else if k<6 then some 1 else if k<16 then some 2 else if k<19 then some 3 else if k=19 then some 4 else if k=20 then some 5
 else if k=21 then some 6 else if k<24 then some 7 else none
theorem rG (k:Int):bl dX k=fX k:=by
 by_cases h:4<=k/\k<24
 ·obtain⟨n,rfl⟩:∃n:Fin 20,k=4+(n.val:Int):=⟨⟨(k-4).toNat,by omega⟩,by simp;omega⟩
  revert n;decide
 ·have:∀l:List (Int×Int),(∀x∈l,4<=x.1/\x.1<24)->bl l k=none:=by
   intro l
   induction l with
   |nil=>intro;rfl
   |cons x l ih=>
    intro hx;have h1:=hx x (by simp);have h2:=ih λy hy=>hx y (by simp[hy])
    obtain⟨a,u⟩:=x;rw[bl,if_neg,h2];rintro rfl;exact h h1
  rw[this _ (by decide),fX];split
  ·rfl
  ·repeat rw[if_neg (by omega)]
def dp (k:Int):Int:=
 if k<4 then 0 else if k<6 then 1 else if k<19 then 2 else if k=19 then 3 else if k=20 then 2 else if k<24 then 1 else 0
theorem fF (k:Int) (gh:List GObj):af pg 63 [I k] gh=some (I (dp k),gh):=by
 have hk:af pg 63 [I k] gh=some (I (let n:=(fX k).getD 0;if n=0 then 0 else if n=1\/n=6\/n=7 then 1 else if n=4 then 3 else 2),gh):=by
  have hf:=rG k;cases hs:fX k with
  |none=>
   rw[hs] at hf;refine aw (fn:=qh) (s:=?s0) rfl rfl (q1t ?h0) ?r0
   case h0=>simp[fW,hf];rfl
   case r0=>simp[au,results,qh,av,ay,al]
  | some n=>
   rw[hs] at hf;by_cases h0:n=0
   ·refine aw (fn:=qh) (s:=?s1) rfl rfl (q1t ?h1) ?r1
    case h1=>simp[fW,hf,h0];rfl
    case r1=>simp[au,results,qh,av,ay,al,h0]
   by_cases h1:n=1\/n=6\/n=7
   ·refine aw (fn:=qh) (s:=⟨[(2,I 1)],[],gh++[.map (bf dX)]⟩) rfl rfl (q1t ?h2) ?r2
    case h2=>
     have:=q52 (pg:=pg) (gh:=gh++[.map (bf dX)]) (x5:=n) (b8:=true) (e:= .ret) (s:=⟨[(2,I 1)],[],gh++[.map (bf dX)]⟩) rfl;rcases h1 with rfl|rfl|rfl<;>simp[fW,hf,this]
    case r2=>simp[au,results,qh,av,ay,al,h0,h1]
   ·by_cases h4:n=4
    ·refine aw (fn:=qh) (s:=⟨[(2,I 3)],[],gh++[.map (bf dX)]⟩) rfl rfl (q1t ?h3) ?r3
     case h3=>
      subst h4;have:=q52 (pg:=pg) (gh:=gh++[.map (bf dX)]) (x5:=4) (b8:=false) (e:= .ret) (s:=⟨[(2,I 3)],[],gh++[.map (bf dX)]⟩) rfl;simp[fW,hf,this]
     case r3=>simp[au,results,qh,av,ay,al,h0,h4]
    ·simp only[not_or] at h1
     refine aw (fn:=qh) (s:=⟨[(2,I 2)],[],gh++[.map (bf dX)]⟩) rfl rfl (q1t ?h5) ?r5
     case h5=>
      have:=q52 (pg:=pg) (gh:=gh++[.map (bf dX)]) (x5:=n) (b8:=false) (e:= .normal) (s:=⟨[(12,B false)],[],gh++[.map (bf dX)]⟩) (by simp[h4]);have h2:=qaf (pg:=pg) (gh:=gh++[.map (bf dX)]) (b12:=false) (e:= .ret) (s:=⟨[(2,I 2)],[],gh++[.map (bf dX)]⟩) rfl;simp[fW,hf,h0,h1,this,h2]
     case r5=>simp[au,results,qh,av,ay,al,h0,h1,h4]
 rw[hk]
 congr 3
 simp only[fX,dp]
 repeat' split
 all_goals first|rfl|omega|simp_all
theorem gW (w:Int) (gh:List GObj):af pg 62 [I w] gh=some (B (decide (1<=w/\w<=8)),gh):=by
 by_cases h:1<=w
 ·refine aw (fn:=q1m) (s:=?s1) rfl rfl (q8t ?h1) ?r1
  case h1=>simp[h];rfl
  case r1=>simp[au,results,q1m,av,ay,al,h]
 ·refine aw (fn:=q1m) (s:=?s2) rfl rfl (q8t ?h2) ?r2
  case h2=>simp[h];rfl
  case r2=>simp[au,results,q1m,av,ay,al,h]
def eu (s width n w0 w1 w2:Int):Bool:=
 if n≠0/\s≠6 then false
 else if s=1 then w0=width
 else if s=2 then w0=width/\w1=width
 else if s=3 then w0=w1/\width=1
 else if s=4 then w0=1/\w1=width/\w2=width
 else if s=5 then WI.wrap (w0+w1)=width
 else if s=6 then 0<=n/\n<=WI.wrap (w0-width)
 else w0<=width
theorem rH (s width n w0 w1 w2:Int) (gh:List GObj):af pg 64 [I s,I width,I n,.agg [I w0,I w1,I w2]] gh=some (B (eu s width n w0 w1 w2),gh):=by
 have h:qi pg s width n w0 w1 w2 gh=some (.ret,⟨[(8,B (eu s width n w0 w1 w2))],[],gh⟩):=by
  by_cases hn:n=0
  ·by_cases h1:s=1
   ·simp[qi,eu,hn,h1]
   by_cases h2:s=2
   ·by_cases h:w0=width<;>simp[qi,eu,hn,h2,h]
   by_cases h3:s=3
   ·by_cases h:w0=w1<;>simp[qi,eu,hn,h3,h]
   by_cases h4:s=4
   ·by_cases h:w0=1<;>by_cases h':w1=width<;>simp[qi,eu,hn,h4,h,h']
   by_cases h5:s=5
   ·simp[qi,eu,hn,h5]
   by_cases h6:s=6
   ·simp[qi,eu,hn,h6]
   simp[qi,eu,hn,h1,h2,h3,h4,h5,h6]
  ·by_cases h6:s=6
   ·by_cases h:0<=n<;>simp[qi,eu,hn,h6,h]
   ·simp[qi,eu,hn,h6]
 refine aw (fn:=q4x) rfl rfl (qi_ h) ?r;simp[au,results,q4x,av,ay,al]
def wOk (k i w:Int):Prop:=if i<dp k then 1<=w/\w<=8 else w=0
instance (k i w:Int):Decidable (wOk k i w):=inferInstanceAs (Decidable (if i<dp k then 1<=w/\w<=8 else w=0))
theorem mZ (k width n s w0 w1 w2 i w:Int) (gh:List GObj) (hi:(i=0/\w=w0)\/(i=1/\w=w1)\/(i=2/\w=w2)) :
  qn pg k width n s w0 w1 w2 i w0 w1 w2 gh=if wOk k i w then some (.normal,⟨[(0,I k),(1,I width),(2,I n),(7,.ptr false 0 0),(9,I s),(24,.agg [I w0,I w1,I w2]),(25,I (i+1))],[[I w0,I w1,I w2]],gh⟩)
   else some (.ret,⟨[(8,I 3)],[],gh⟩):=by
 have hw:(WI.wrap (i+1))=i+1:=cS (by omega) (by omega);by_cases hk:i<dp k
 ·have hk':=Int.not_le.2 hk
  by_cases h1:1<=w
  ·by_cases h2:w<=8
   ·rcases hi with ⟨rfl,rfl⟩|⟨rfl,rfl⟩|⟨rfl,rfl⟩<;>simp[qn,fF,gW,hk,hk',wOk,h1,h2]<;>exact hw
   ·rcases hi with ⟨rfl,rfl⟩|⟨rfl,rfl⟩|⟨rfl,rfl⟩<;>simp[qn,fF,gW,hk,wOk,h1,h2]
  ·rcases hi with ⟨rfl,rfl⟩|⟨rfl,rfl⟩|⟨rfl,rfl⟩<;>simp[qn,fF,gW,hk,wOk,h1]
 ·have hk':=Int.not_lt.1 hk
  by_cases h2:w=0
  ·rcases hi with ⟨rfl,rfl⟩|⟨rfl,rfl⟩|⟨rfl,rfl⟩<;>simp[qn,fF,hk,hk',wOk,h2]<;>exact hw
  ·rcases hi with ⟨rfl,rfl⟩|⟨rfl,rfl⟩|⟨rfl,rfl⟩<;>simp[qn,fF,hk,hk',wOk,h2]
theorem y5 (k width n s w0 w1 w2:Int) (gh:List GObj) :
  ac pg q4u ⟨[(0,I k),(1,I width),(2,I n),(7,.ptr false 0 0),(9,I s),(24,.agg [I w0,I w1,I w2]),(25,I 0)],[[I w0,I w1,I w2]],gh⟩=
   if wOk k 0 w0/\wOk k 1 w1/\wOk k 2 w2 then some (.normal,⟨[(1,I width),(2,I n),(7,.ptr false 0 0),(9,I s)],[[I w0,I w1,I w2]],gh⟩) else some (.ret,⟨[(8,I 3)],[],gh⟩):=by
 have b0:=mZ k width n s w0 w1 w2 0 w0 gh (by simp);have b1:=mZ k width n s w0 w1 w2 1 w1 gh (by simp);have b2:=mZ k width n s w0 w1 w2 2 w2 gh (by simp);by_cases h0:wOk k 0 w0
 ·rw[if_pos h0] at b0
  refine bq (qn_ b0) ?_;by_cases h1:wOk k 1 w1
  ·rw[if_pos h1] at b1
   refine bq (qn_ b1) ?_;by_cases h2:wOk k 2 w2
   ·rw[if_pos h2] at b2
    refine bq (qn_ b2) ?_;rw[if_pos ⟨h0,h1,h2⟩];refine (cX (s1:=?s1) (qn_ ?h1)).trans ?r1
    case h1=>simp[qn];rfl
    case r1=>simp[keep]
   ·rw[if_neg h2] at b2
    rw[if_neg (λh=>h2 h.2.2)];exact eF (qn_ b2)
  ·rw[if_neg h1] at b1
   rw[if_neg (λh=>h1 h.2.1)];exact eF (qn_ b1)
 ·rw[if_neg h0] at b0
  rw[if_neg (λh=>h0 h.1)];exact eF (qn_ b0)
def gX (k width n w0 w1 w2:Int):Int:=
 match fX k with
 |none=>7
 |some s=>if ¬(1<=width/\width<=8) then 3 else if ¬(wOk k 0 w0/\wOk k 1 w1/\wOk k 2 w2) then 3 else if eu s width n w0 w1 w2 then 0 else 1
theorem y6 (k width n w0 w1 w2:Int) (gh:List GObj):af pg 22 [I k,I width,I n,.agg [I w0,I w1,I w2]] gh=some (I (gX k width n w0 w1 w2),gh):=by
 have hf:=rG k;simp only[gX];cases hs:fX k with
 |none=>
  rw[hs] at hf;refine aw (fn:=qg) (s:=?s0) rfl rfl (q1s ?h0) ?r0
  case h0=>simp[fW,hf];rfl
  case r0=>simp[au,results,qg,av,ay,al]
 | some s=>
  rw[hs] at hf;by_cases hw:1<=width/\width<=8
  ·have hl:=y5 k width n s w0 w1 w2 (gh++[.map (bf dX)])
   simp only[hw,not_true,if_false,and_self];by_cases ho:wOk k 0 w0/\wOk k 1 w1/\wOk k 2 w2
   ·rw[if_pos ho] at hl
    simp only[ho,not_true,if_false,and_self];have hk:∀e s1,q2q pg width n s w0 w1 w2 (gh++[.map (bf dX)])=some (e,s1)->_:=λe s1 h=>q2q_ h
    by_cases hb:eu s width n w0 w1 w2
    ·have:=hk .ret ⟨[(8,I 0)],[],gh++[.map (bf dX)]⟩ (by simp[q2q,rH,hb])
     refine aw (fn:=qg) (s:=?s1) rfl rfl (q1s ?h1) ?r1
     case h1=>simp[fW,hf,gW,hw,hl,this];rfl
     case r1=>simp[au,results,qg,av,ay,al,hb]
    ·have:=hk .ret ⟨[(8,I 1)],[],gh++[.map (bf dX)]⟩ (by simp[q2q,rH,hb])
     refine aw (fn:=qg) (s:=?s2) rfl rfl (q1s ?h2) ?r2
     case h2=>simp[fW,hf,gW,hw,hl,this];rfl
     case r2=>simp[au,results,qg,av,ay,al,hb]
   ·rw[if_neg ho] at hl
    refine aw (fn:=qg) (s:=?s3) rfl rfl (q1s ?h3) ?r3
    case h3=>simp[fW,hf,gW,hw,hl];rfl
    case r3=>simp[au,results,qg,av,ay,al,ho]
  ·refine aw (fn:=qg) (s:=?s4) rfl rfl (q1s ?h4) ?r4
   case h4=>simp[fW,hf,gW,hw];rfl
   case r4=>simp[au,results,qg,av,ay,al,hw]
theorem m7 (b:Bool) (gh:List GObj):af pg 114 [B b] gh=some (I (if b then 1 else 0),gh):=by
 cases b
 ·refine aw (fn:=q1q) (s:=?s1) rfl rfl (q8u ?h1) ?r1
  case h1=>simp;rfl
  case r1=>simp[au,results,q1q,av,ay,al]
 ·refine aw (fn:=q1q) (s:=?s2) rfl rfl (q8u ?h2) ?r2
  case h2=>simp;rfl
  case r2=>simp[au,results,q1q,av,ay,al]
def gA (n w:Int):Int:=if cW .i64 1 (w-1)<=n then WI.wrap (n-cW .i64 1 w) else n
theorem m8 (n w:Int) (hw:1<=w/\w<=8) (gh:List GObj):af pg 115 [I n,I w] gh=some (I (gA n w),gh):=by
 have e:WI.wrap (w-1)=w-1:=cS (by omega) (by omega);have h2:0<=w:=by omega
 by_cases h:cW .i64 1 (w-1)<=n
 ·refine aw (fn:=q1r) (s:=?s1) rfl rfl (q8v ?h1) ?r1
  case h1=>simp[e,hw.1,h2,h];rfl
  case r1=>simp[au,results,q1r,av,ay,al,gA,h]
 ·refine aw (fn:=q1r) (s:=?s2) rfl rfl (q8v ?h2) ?r2
  case h2=>simp[e,hw.1,h];rfl
  case r2=>simp[au,results,q1r,av,ay,al,gA,h]
theorem rI (n w:Int) (hw:0<=w) (gh:List GObj):af pg 65 [I n,I w] gh=some (B (decide (0<=n/\n<cW .i64 1 w)),gh):=by
 by_cases h:0<=n
 ·refine aw (fn:=q1p) (s:=?s1) rfl rfl (q8w ?h1) ?r1
  case h1=>simp[hw,h];rfl
  case r1=>simp[au,results,q1p,av,ay,al,h]
 ·refine aw (fn:=q1p) (s:=?s2) rfl rfl (q8w ?h2) ?r2
  case h2=>simp[h];rfl
  case r2=>simp[au,results,q1p,av,ay,al,h]
def cu (k a b c n w0 w1:Int):Int:=
 if k=4 then mH .i64 a else if k=5 then WI.wrap (0-a) else if k=6 then gt .i64 a b else if k=7 then iOr .i64 a b else if k=8 then kQ .i64 a b
 else if k=9 then WI.wrap (a+b) else if k=10 then WI.wrap (a-b) else if k=11 then WI.wrap (a*b) else if k=14 then cW .i64 a b else if k=15 then ff .i64 a b
 else if k=16 then (if a=b then 1 else 0) else if k=17 then (if a<b then 1 else 0) else if k=18 then (if gA a w0<gA b w1 then 1 else 0)
 else if k=20 then iOr .i64 (cW .i64 a w1) b else if k=21 then ff .i64 a n else if k=23 then gA a w0 else if k=19 then (if a=1 then b else c)
 else if k=12 then (if b=0 then -1 else WI.wrap (Int.tdiv a b)) else if k=13 then (if b=0 then a else Int.tmod a b) else a
theorem y7 (width a b c n w0 w1 w2:Int) (gh:List GObj):qa pg 4 width a b c n w0 w1 w2 gh=some (.ret,⟨[(14,I (cu 4 a b c n w0 w1))],[],gh⟩):=rfl
theorem y8 (width a b c n w0 w1 w2:Int) (gh:List GObj):qa pg 5 width a b c n w0 w1 w2 gh=some (.ret,⟨[(14,I (cu 5 a b c n w0 w1))],[],gh⟩):=rfl
theorem y9 (width a b c n w0 w1 w2:Int) (gh:List GObj):qa pg 6 width a b c n w0 w1 w2 gh=some (.ret,⟨[(14,I (cu 6 a b c n w0 w1))],[],gh⟩):=rfl
theorem za (width a b c n w0 w1 w2:Int) (gh:List GObj):qa pg 7 width a b c n w0 w1 w2 gh=some (.ret,⟨[(14,I (cu 7 a b c n w0 w1))],[],gh⟩):=rfl
theorem zb (width a b c n w0 w1 w2:Int) (gh:List GObj):qa pg 8 width a b c n w0 w1 w2 gh=some (.ret,⟨[(14,I (cu 8 a b c n w0 w1))],[],gh⟩):=rfl
theorem zc (width a b c n w0 w1 w2:Int) (gh:List GObj):qa pg 9 width a b c n w0 w1 w2 gh=some (.ret,⟨[(14,I (cu 9 a b c n w0 w1))],[],gh⟩):=rfl
theorem zd (width a b c n w0 w1 w2:Int) (gh:List GObj):qa pg 10 width a b c n w0 w1 w2 gh=some (.ret,⟨[(14,I (cu 10 a b c n w0 w1))],[],gh⟩):=rfl
theorem ze (width a b c n w0 w1 w2:Int) (gh:List GObj):qa pg 11 width a b c n w0 w1 w2 gh=some (.ret,⟨[(14,I (cu 11 a b c n w0 w1))],[],gh⟩):=rfl
theorem zf (width a b c n w0 w1 w2:Int) (gh:List GObj):qa pg 12 width a b c n w0 w1 w2 gh=some (.ret,⟨[(14,I (cu 12 a b c n w0 w1))],[],gh⟩):=by
 have e1:qa pg 12 width a b c n w0 w1 w2 gh=br 116 (b==0) (some (.ret,⟨[(14,I (-1))],[],gh⟩)) (gd (decide (b≠0)) (some (.ret,⟨[(14,I (WI.wrap (Int.tdiv a b)))],[],gh⟩))):=rfl;have e2:cu 12 a b c n w0 w1=if b=0 then -1 else WI.wrap (Int.tdiv a b):=rfl
 rw[e1,e2];by_cases h:b=0<;>simp[h]
theorem zg (width a b c n w0 w1 w2:Int) (gh:List GObj):qa pg 13 width a b c n w0 w1 w2 gh=some (.ret,⟨[(14,I (cu 13 a b c n w0 w1))],[],gh⟩):=by
 have e1:qa pg 13 width a b c n w0 w1 w2 gh=br 123 (b==0) (some (.ret,⟨[(14,I (a))],[],gh⟩)) (gd (decide (b≠0)) (some (.ret,⟨[(14,I (Int.tmod a b))],[],gh⟩))):=rfl;have e2:cu 13 a b c n w0 w1=if b=0 then a else Int.tmod a b:=rfl
 rw[e1,e2];by_cases h:b=0<;>simp[h]
theorem zh (width a b c n w0 w1 w2:Int) (gh:List GObj) (hb:0<=b):qa pg 14 width a b c n w0 w1 w2 gh=some (.ret,⟨[(14,I (cu 14 a b c n w0 w1))],[],gh⟩):=by have e1:qa pg 14 width a b c n w0 w1 w2 gh=gd (decide ((0:Int)<=b)) (some (.ret,⟨[(14,I (cW .i64 a b))],[],gh⟩)):=rfl;have e2:cu 14 a b c n w0 w1=cW .i64 a b:=rfl;rw[e1,e2];simp[hb]
theorem zi (width a b c n w0 w1 w2:Int) (gh:List GObj) (hb:0<=b):qa pg 15 width a b c n w0 w1 w2 gh=some (.ret,⟨[(14,I (cu 15 a b c n w0 w1))],[],gh⟩):=by have e1:qa pg 15 width a b c n w0 w1 w2 gh=gd (decide ((0:Int)<=b)) (some (.ret,⟨[(14,I (ff .i64 a b))],[],gh⟩)):=rfl;have e2:cu 15 a b c n w0 w1=ff .i64 a b:=rfl;rw[e1,e2];simp[hb]
theorem zj (width a b c n w0 w1 w2:Int) (gh:List GObj):qa pg 16 width a b c n w0 w1 w2 gh=some (.ret,⟨[(14,I (cu 16 a b c n w0 w1))],[],gh⟩):=by
 have e1:qa pg 16 width a b c n w0 w1 w2 gh=callR gh true (af pg 114 [B (a==b)] gh) λr1 gh2=>unI .i64 r1 λn3=>some (.ret,⟨[(14,I n3)],[],gh2⟩):=rfl
 have e2:cu 16 a b c n w0 w1=if a=b then 1 else 0:=rfl
 rw[e1,e2];simp[m7]
theorem zk (width a b c n w0 w1 w2:Int) (gh:List GObj):qa pg 17 width a b c n w0 w1 w2 gh=some (.ret,⟨[(14,I (cu 17 a b c n w0 w1))],[],gh⟩):=by
 have e1:qa pg 17 width a b c n w0 w1 w2 gh=callR gh true (af pg 114 [B (decide (a<b))] gh) λr1 gh2=>unI .i64 r1 λn3=>some (.ret,⟨[(14,I n3)],[],gh2⟩):=rfl
 have e2:cu 17 a b c n w0 w1=if a<b then 1 else 0:=rfl
 rw[e1,e2];simp[m7]
theorem zl (width a b c n w0 w1 w2:Int) (gh:List GObj) (h0:1<=w0/\w0<=8) (h1:1<=w1/\w1<=8):qa pg 18 width a b c n w0 w1 w2 gh=some (.ret,⟨[(14,I (cu 18 a b c n w0 w1))],[],gh⟩):=by
 have e1:qa pg 18 width a b c n w0 w1 w2 gh=callR gh true (af pg 115 [I a,I w0] gh) λr7 gh8=>unI .i64 r7 λn9=>callR gh8 true (af pg 115 [I b,I w1] gh8) λr10 gh11=>unI .i64 r10 λn12=>callR gh11 true (af pg 114 [B (decide (n9<n12))] gh11) λr13 gh14=>unI .i64 r13 λn15=>some (.ret,⟨[(14,I n15)],[],gh14⟩):=rfl
 have e2:cu 18 a b c n w0 w1=if gA a w0<gA b w1 then 1 else 0:=rfl
 rw[e1,e2];simp[m7,m8 a w0 h0,m8 b w1 h1]
theorem zm (width a b c n w0 w1 w2:Int) (gh:List GObj):qa pg 19 width a b c n w0 w1 w2 gh=some (.ret,⟨[(14,I (cu 19 a b c n w0 w1))],[],gh⟩):=by
 have e1:qa pg 19 width a b c n w0 w1 w2 gh=br 110 (a==1) (some (.ret,⟨[(14,I (b))],[],gh⟩)) (some (.ret,⟨[(14,I (c))],[],gh⟩)):=rfl;have e2:cu 19 a b c n w0 w1=if a=1 then b else c:=rfl
 rw[e1,e2];by_cases h:a=1<;>simp[h]
theorem zn (width a b c n w0 w1 w2:Int) (gh:List GObj) (h1:0<=w1):qa pg 20 width a b c n w0 w1 w2 gh=some (.ret,⟨[(14,I (cu 20 a b c n w0 w1))],[],gh⟩):=by have e1:qa pg 20 width a b c n w0 w1 w2 gh=gd (decide ((0:Int)<=w1)) (some (.ret,⟨[(14,I (iOr .i64 (cW .i64 a w1) b))],[],gh⟩)):=rfl;have e2:cu 20 a b c n w0 w1=iOr .i64 (cW .i64 a w1) b:=rfl;rw[e1,e2];simp[h1]
theorem zo (width a b c n w0 w1 w2:Int) (gh:List GObj) (hn:0<=n):qa pg 21 width a b c n w0 w1 w2 gh=some (.ret,⟨[(14,I (cu 21 a b c n w0 w1))],[],gh⟩):=by have e1:qa pg 21 width a b c n w0 w1 w2 gh=gd (decide ((0:Int)<=n)) (some (.ret,⟨[(14,I (ff .i64 a n))],[],gh⟩)):=rfl;have e2:cu 21 a b c n w0 w1=ff .i64 a n:=rfl;rw[e1,e2];simp[hn]
theorem zp (width a b c n w0 w1 w2:Int) (gh:List GObj):qa pg 22 width a b c n w0 w1 w2 gh=some (.ret,⟨[(14,I (cu 22 a b c n w0 w1))],[],gh⟩):=rfl
theorem zq (width a b c n w0 w1 w2:Int) (gh:List GObj) (h0:1<=w0/\w0<=8):qa pg 23 width a b c n w0 w1 w2 gh=some (.ret,⟨[(14,I (cu 23 a b c n w0 w1))],[],gh⟩):=by
 have e1:qa pg 23 width a b c n w0 w1 w2 gh=callR gh true (af pg 115 [I a,I w0] gh) λr1 gh2=>unI .i64 r1 λn3=>some (.ret,⟨[(14,I n3)],[],gh2⟩):=rfl
 have e2:cu 23 a b c n w0 w1=gA a w0:=rfl;rw[e1,e2];simp[m8 a w0 h0]
theorem zr (k width a b c n w0 w1 w2:Int) (hk:4<=k/\k<24) (hb:0<=b) (hn:k=21->0<=n) (h0:1<=w0/\w0<=8) (h1:k=18\/k=20->1<=w1/\w1<=8) (gh:List GObj) :
  af pg 96 [I k,I width,I a,I b,I c,I n,.agg [I w0,I w1,I w2]] gh=some (I (cu k a b c n w0 w1),gh):=by
 have hd:qa pg k width a b c n w0 w1 w2 gh=some (.ret,⟨[(14,I (cu k a b c n w0 w1))],[],gh⟩):=by
  have:k=4\/k=5\/k=6\/k=7\/k=8\/k=9\/k=10\/k=11\/k=12\/k=13\/k=14\/k=15\/k=16\/k=17\/k=18\/k=19\/k=20\/k=21\/k=22\/k=23:=by omega
  rcases this with rfl|rfl|rfl|rfl|rfl|rfl|rfl|rfl|rfl|rfl|rfl|rfl|rfl|rfl|rfl|rfl|rfl|rfl|rfl|rfl
  ·exact y7 width a b c n w0 w1 w2 gh
  ·exact y8 width a b c n w0 w1 w2 gh
  ·exact y9 width a b c n w0 w1 w2 gh
  ·exact za width a b c n w0 w1 w2 gh
  ·exact zb width a b c n w0 w1 w2 gh
  ·exact zc width a b c n w0 w1 w2 gh
  ·exact zd width a b c n w0 w1 w2 gh
  ·exact ze width a b c n w0 w1 w2 gh
  ·exact zf width a b c n w0 w1 w2 gh
  ·exact zg width a b c n w0 w1 w2 gh
  ·exact zh width a b c n w0 w1 w2 gh hb
  ·exact zi width a b c n w0 w1 w2 gh hb
  ·exact zj width a b c n w0 w1 w2 gh
  ·exact zk width a b c n w0 w1 w2 gh
  ·exact zl width a b c n w0 w1 w2 gh h0 (h1 (.inl rfl))
  ·exact zm width a b c n w0 w1 w2 gh
  ·exact zn width a b c n w0 w1 w2 gh (by have:=h1 (.inr rfl);omega)
  ·exact zo width a b c n w0 w1 w2 gh (hn rfl)
  ·exact zp width a b c n w0 w1 w2 gh
  ·exact zq width a b c n w0 w1 w2 gh h0
 refine aw (fn:=q4z) rfl rfl (qa_ hd) ?r1;simp[au,results,q4z,av,ay,al]
def iB (k width a b c n w0 w1:Int):Int:=gt .i64 (cu k a b c n w0 w1) (WI.wrap (cW .i64 1 width-1))
theorem zt (k width a b c n w0 w1 w2:Int) (hk:4<=k/\k<24) (hb:0<=b) (hn:k=21->0<=n) (h0:1<=w0/\w0<=8) (h1:k=18\/k=20->1<=w1/\w1<=8) (hw:0<=width) (gh:List GObj) :
  af pg 66 [I k,I width,I a,I b,I c,I n,.agg [I w0,I w1,I w2]] gh=some (I (iB k width a b c n w0 w1),gh):=by
 refine aw (fn:=q4y) (s:=?s1) rfl rfl (qam ?h1) ?r1
 case h1=>simp[zr k width a b c n w0 w1 w2 hk hb hn h0 h1,hw];rfl
 case r1=>simp[au,results,q4y,av,ay,al,iB]
def zu (k i x w:Int):Prop:=if i<dp k then 0<=x/\x<cW .i64 1 w else x=0
instance (k i x w:Int):Decidable (zu k i x w):=inferInstanceAs (Decidable (if i<dp k then 0<=x/\x<cW .i64 1 w else x=0))
theorem m9 {k width n w0 w1 w2:Int} (h:gX k width n w0 w1 w2=0):(4<=k/\k<24)/\(1<=width/\width<=8)/\wOk k 0 w0/\wOk k 1 w1/\wOk k 2 w2/\∃s,fX k=some s/\eu s width n w0 w1 w2=true:=by
 unfold gX at h;cases hs:fX k with
 |none=>rw[hs] at h;cases h
 | some s=>
  rw[hs] at h;simp only at h;by_cases h1:1<=width/\width<=8
  ·by_cases h2:wOk k 0 w0/\wOk k 1 w1/\wOk k 2 w2
   ·simp only[h1,h2,and_self,not_true,if_false] at h
    refine⟨?_,h1,h2.1,h2.2.1,h2.2.2,s,rfl,?_⟩
    ·simp only[fX] at hs
     repeat' split at hs
     all_goals first|(exfalso;cases hs;done)|omega
    ·cases hf:eu s width n w0 w1 w2 with
     |true=>rfl
     |false=>rw[hf] at h;cases h
   ·simp only[h1,and_self,not_true,if_false,h2,not_false_iff,if_true] at h;cases h
  ·simp only[h1,not_false_iff,if_true] at h;cases h
theorem rJ {k:Int} (h:4<=k/\k<24):0<dp k:=by
 simp only[dp]
 repeat' split
 all_goals omega
theorem zA (k:Nat):((2^k:Nat):Int)=2^k:=Int.natCast_pow 2 k
theorem rM {xs:List Int} {c:Nat} {caps:List PV} {gh:List GObj} {p:Int->Bool} (hc:∀x∈xs,af pg c (I x::caps) gh=some (B (p x),gh)) (hcap:caps.all ah=true) (hs:Sz xs.length) :
  ∀k i,i+k=xs.length->ac pg q3y ⟨[(0,LI xs),(1,.fn c caps),(7,I xs.length),(8,I i)],[],gh⟩=
   match (xs.drop i).findIdx? p with
   |some j=>some (.ret,⟨[(4,I ((i+j:Nat)))],[],gh⟩)
   |none=>some (.normal,⟨[],[],gh⟩)
 |0,i,h=>by
  rw[aQ (by omega)];refine (cX (s1:=?s1) (q54 ?h1)).trans ?r1
  case h1=>simp[show i=xs.length by omega];rfl
  case r1=>simp[keep]
 | k+1,i,h=>by
  have hlt:i<xs.length:=by omega
  have hx:xs[i]?=some xs[i]:=aA hlt;rw[aL hlt,List.findIdx?_cons];cases hp:p xs[i] with
  |true=>
   refine (eF (s1:=?s2) (q54 ?h2)).trans ?r2
   case h2=>simp[hlt,hx,jQ hcap,hc xs[i] (bY hlt),hp];rfl
   case r2=>simp
  | false=>
   refine bq (s1:=?s3) (q54 ?h3) ?r3
   case h3=>simp[hlt,hx,jQ hcap,hc xs[i] (bY hlt),hp];rfl
   case r3=>
    rw[iA (by omega)];refine (rM hc hcap hs k (i+1) (by omega)).trans ?_;cases (xs.drop (i+1)).findIdx? p<;>simp;omega
theorem zB {xs:List Int} {c:Nat} {caps:List PV} {gh:List GObj} {p:Int->Bool} (hc:∀x∈xs,af pg c (I x::caps) gh=some (B (p x),gh)) (hcap:caps.all ah=true) (hs:Sz xs.length) :
  af pg 111 [LI xs,.fn c caps] gh=some (I (match xs.findIdx? p with|some j=>(j:Int)|none=> -1),gh):=by
 have hl:=rM hc hcap hs xs.length 0 (by omega);simp only[bM,cO,aW] at hl;cases hf:xs.findIdx? p with
 |some j=>
  rw[hf] at hl;refine aw (fn:=q1e) (s:=?s4) rfl rfl (q8x ?h4) ?r4
  case h4=>simp[hl];rfl
  case r4=>simp[au,results,q1e,av,ay,al,ah,PV.one,PV.noG]
 |none=>
  rw[hf] at hl;refine aw (fn:=q1e) (s:=?s5) rfl rfl (q8x ?h5) ?r5
  case h5=>simp[hl,qas (s:=⟨[(4,I (-1))],[],gh⟩) (e:= .ret) rfl];rfl
  case r5=>simp[au,results,q1e,av,ay,al,ah,PV.one,PV.noG]
theorem rN {xs:List Int} {c:Nat} {caps:List PV} {gh:List GObj} {p:Int->Bool} (hc:∀x∈xs,af pg c (I x::caps) gh=some (B (p x),gh)) (hcap:caps.all ah=true) (hs:Sz xs.length) :
  af pg 86 [LI xs,.fn c caps] gh=some (B (xs.any p),gh):=by
 refine aw (fn:=q3s) (s:=?s6) rfl rfl (qar ?h6) ?r6
 case h6=>simp[zB hc hcap hs];rfl
 case r6=>
  have:(decide (0<=(match xs.findIdx? p with|some j=>(j:Int)|none=> -1)))=xs.any p:=by
   cases hf:xs.findIdx? p with
   |some j=>
    have:=List.findIdx?_eq_some_iff_getElem.1 hf;obtain⟨hj,hpj,_⟩:=this;simp only[Int.natCast_nonneg,decide_true];exact (List.any_eq_true.2 ⟨_,bY hj,hpj⟩).symm
   |none=>
    have:=List.findIdx?_eq_none_iff.1 hf;simp only[show decide ((0:Int)<= -1)=false by decide];exact (List.any_eq_false.2 λx hx=>by simp[this x hx]).symm
  simp[au,results,q3s,av,ay,al,ah,PV.one,PV.noG,this]
theorem iC (x:Int×Int):bj x= .agg [I x.1,I x.2]:=rfl
def zC (ins:Int) (i:Nat) (x:Int×Int):Prop:=x.2<=x.1\/x.1<2\/2*(1+ins+i)<=x.2\/x.1/2=x.2/2
instance (ins:Int) (i:Nat) (x:Int×Int):Decidable (zC ins i x):=inferInstanceAs (Decidable (_\/_))
section
variable {ins:Int} {ands:List (Int×Int)} {gh:List GObj}
def RA (ands:List (Int×Int)):Prop:=∀x∈ands,(-9223372036854775808<=x.1/\x.1<=9223372036854775807)/\(-9223372036854775808<=x.2/\x.2<=9223372036854775807)
end
theorem noGs_ints (l:List Int):cU (l.map I)=true:=by
 induction l with
 |nil=>rfl
 |cons x l ih=>simp[ih]
section
variable {gh:List GObj} {x y:GObj}
end
section
variable {ins:Int} {ands:List (Int×Int)} {gh:List GObj}
def SL (cls:List (List Int)):Prop:=∀l∈cls,Sz l.length
end
structure Nd where
 k:Int
 w:Int
 a:Int
 b:Int
 c:Int
 n:Int
 deriving Inhabited
def bu (x:Nd):PV:= .agg [I x.k,I x.w,I x.a,I x.b,I x.c,I x.n]
theorem eg (x:Nd):bu x= .agg [I x.k,I x.w,I x.a,I x.b,I x.c,I x.n]:=rfl
abbrev LN (l:List Nd):PV:= .sl false 6 (l.map bu)
theorem nb (k:Int):dp k=0\/dp k=1\/dp k=2\/dp k=3:=by
 unfold dp
 repeat' split
 all_goals simp
theorem zD {k:Int} (h:1<=k/\k<=3):dp k=0:=by unfold dp;rw[if_pos (by omega)]
def eH (x:Nd):List Int:=[x.a,x.b,x.c].take (dp x.k).toNat
theorem rO (x:Nd) (gh:List GObj):af pg 81 [bu x] gh=some (LI (eH x),gh):=by
 unfold bu eH;have ht:=fF x.k gh;rcases nb x.k with h|h|h|h<;>rw[h] at ht ⊢
 ·refine aw (fn:=qm) (s:=?s0) rfl rfl (q2r ?h0) ?r0
  case h0=>simp[ht];rfl
  case r0=>simp[au,results,qm,al,get]
 ·refine aw (fn:=qm) (s:=?s1) rfl rfl (q2r ?h1) ?r1
  case h1=>simp[ht];rfl
  case r1=>simp[au,results,qm,al,get]
 ·refine aw (fn:=qm) (s:=?s2) rfl rfl (q2r ?h2) ?r2
  case h2=>simp[ht];rfl
  case r2=>simp[au,results,qm,al,get]
 ·refine aw (fn:=qm) (s:=?s3) rfl rfl (q2r ?h3) ?r3
  case h3=>simp[ht];rfl
  case r3=>simp[au,results,qm,al,get]
theorem zE (k:Int) (gh:List GObj):af pg 103 [I k] gh=some (B (decide (1<=k/\k<=3)),gh):=by
 by_cases h:1<=k
 ·refine aw (fn:=q1i) (s:=?s1) rfl rfl (q8y ?h1) ?r1
  case h1=>simp[h];rfl
  case r1=>simp[au,results,q1i,av,ay,al,h]
 ·refine aw (fn:=q1i) (s:=?s2) rfl rfl (q8y ?h2) ?r2
  case h2=>simp[h];rfl
  case r2=>simp[au,results,q1i,av,ay,al,h]
def wAt (l:List Nd) (a:Int):Int:=(l.getD a.toNat default).w
def cz (l:List Nd) (a:Int):Prop:=0<=a/\a.toNat<l.length
instance (l:List Nd) (a:Int):Decidable (cz l a):=inferInstanceAs (Decidable (_/\_))
theorem gB {l:List Nd} {a:Int} (h:cz l a):(l.map bu)[a.toNat]?=some (bu (l.getD a.toNat default)):=by rw[aB,aA h.2];simp[aM,aA h.2]
def jS (l:List Nd) (x:Nd) (w0 w1 w2:Int) (xs:List Int) (i:Int) (gh:List GObj):St:=
 ⟨[(0,LN l),(4,.ptr false 1 0),(5,.ptr false 2 0),(9,LI xs),(10,I xs.length),(11,I i)],[[I x.k,I x.w,I x.a,I x.b,I x.c,I x.n],[I 0,I 0,I 0],[I w0,I w1,I w2]],gh⟩
theorem jl {l:List Nd} {x:Nd} {w0 w1 w2 a i:Int} {xs:List Int} {gh:List GObj} (hi:i=0\/i=1\/i=2) (hx:xs[i.toNat]?=some a) (ha:cz l a) :
  q16 pg (LN l) (LI xs) xs.length i x.k x.w x.a x.b x.c x.n 0 0 0 w0 w1 w2 gh=
   some (.normal,jS l x (if i=0 then wAt l a else w0) (if i=1 then wAt l a else w1) (if i=2 then wAt l a else w2) xs (i+1) gh):=by
 have hlt:=(aD.1 hx).1;have hltI:i<(xs.length:Int):=by omega
 have hm:(xs.map I)[i.toNat]?=some (I a):=by rw[aB,hx];rfl
 have hn:=gB ha;have h0:=ha.1;have hw:WI.wrap (i+1)=i+1:=cS (by omega) (by omega);generalize hd:l.getD a.toNat default=d at hn;have hwa:wAt l a=d.w:=by unfold wAt;rw[hd]
 rw[hwa];rw[eg d] at hn;unfold jS;have h5:0<xs.length:=by omega
 rcases hi with rfl|rfl|rfl
 ·have e0:xs[0]=a:=(aD.1 hx).2
  rw[Int.zero_add] at hw;simp[q16,h5,e0,hn,h0,hw,ar,-List.getElem?_map]
 ·have hm0:(xs.map I)[1]?=some (I a):=hm
  simp[q16,hltI,hm0,hn,h0,ar,-List.getElem?_map];exact hw
 ·have hm0:(xs.map I)[2]?=some (I a):=hm
  simp[q16,hltI,hm0,hn,h0,ar,-List.getElem?_map];exact hw
def wdJ (l:List Nd) (k j a:Int):Int:=if j<dp k then wAt l a else 0
structure ld (l:List Nd) (x:Nd):Prop where
 a:0<dp x.k->cz l x.a
 b:1<dp x.k->cz l x.b
 c:2<dp x.k->cz l x.c
def jT (l:List Nd) (x:Nd):PV:= .agg [I (wdJ l x.k 0 x.a),I (wdJ l x.k 1 x.b),I (wdJ l x.k 2 x.c)]
theorem lf {l:List Nd} {x:Nd} {w0 w1 w2:Int} {xs:List Int} {gh:List GObj}:ac pg q2o (jS l x w0 w1 w2 xs xs.length gh)=
  some (.normal,⟨[(4,.ptr false 1 0),(5,.ptr false 2 0)],[[I x.k,I x.w,I x.a,I x.b,I x.c,I x.n],[I 0,I 0,I 0],[I w0,I w1,I w2]],gh⟩):=by
 refine (cX (s1:=?s1) (q16_ ?h1)).trans ?r1
 case h1=>simp[q16];rfl
 case r1=>simp[keep,bo]
theorem zF {l:List Nd} {x:Nd} {gh:List GObj} (h:ld l x):ac pg q2o (jS l x 0 0 0 (eH x) 0 gh)=
  some (.normal,⟨[(4,.ptr false 1 0),(5,.ptr false 2 0)],[[I x.k,I x.w,I x.a,I x.b,I x.c,I x.n],[I 0,I 0,I 0],[I (wdJ l x.k 0 x.a),I (wdJ l x.k 1 x.b),I (wdJ l x.k 2 x.c)]],gh⟩):=by
 unfold eH wdJ;rcases nb x.k with ht|ht|ht|ht<;>rw[ht]
 ·exact lf (xs:=[])
 ·refine bq (q16_ (jl (a:=x.a) (.inl rfl) rfl (h.a (by omega)))) ?_
  exact lf (xs:=[x.a])
 ·refine bq (q16_ (jl (a:=x.a) (.inl rfl) rfl (h.a (by omega)))) ?_
  refine bq (q16_ (jl (a:=x.b) (.inr (.inl rfl)) rfl (h.b (by omega)))) ?_;exact lf (xs:=[x.a,x.b])
 ·refine bq (q16_ (jl (a:=x.a) (.inl rfl) rfl (h.a (by omega)))) ?_
  refine bq (q16_ (jl (a:=x.b) (.inr (.inl rfl)) rfl (h.b (by omega)))) ?_;refine bq (q16_ (jl (a:=x.c) (.inr (.inr rfl)) rfl (h.c (by omega)))) ?_;exact lf (xs:=[x.a,x.b,x.c])
theorem rP {l:List Nd} {x:Nd} {gh:List GObj} (h:ld l x):af pg 104 [LN l,bu x] gh=some (jT l x,gh):=by
 have hA:=rO x gh;have hl:=zF (gh:=gh) h;unfold jS at hl;have hk:=qav (pg:=pg) (gh:=gh) (K0:=x.k) (K1:=x.w) (K2:=x.a) (K3:=x.b) (K4:=x.c) (K5:=x.n) (L0:=0) (L1:=0) (L2:=0) (M0:=wdJ l x.k 0 x.a) (M1:=wdJ l x.k 1 x.b) (M2:=wdJ l x.k 2 x.c) rfl;unfold bu at hA;have hlen:((eH x).map I).length=(eH x).length:=by simp
 refine aw (fn:=q4h) (s:=?s1) rfl rfl (qaw ?h1) ?r1
 case h1=>simp[hA,hl,hk];rfl
 case r1=>simp[au,results,q4h,av,ay,St.cellsAt,al,jT]
def ew (idx k j a:Int):Prop:=if j<dp k then a<0\/idx<=a else a≠0
instance (idx k j a:Int):Decidable (ew idx k j a):=inferInstanceAs (Decidable (if j<dp k then a<0\/idx<=a else a≠0))
def gC (idx:Int) (x:Nd):Prop:=ew idx x.k 0 x.a\/ew idx x.k 1 x.b\/ew idx x.k 2 x.c
instance (idx:Int) (x:Nd):Decidable (gC idx x):=inferInstanceAs (Decidable (_\/_))
def dH (l:List Nd) (idx:Int) (x:Nd):Int:=
 if x.k<1\/24<=x.k then 7 else if ¬(1<=x.w/\x.w<=8) then 3
 else if x.k<=3 then (if x.k=1/\¬(0<=x.n/\x.n<((2^x.w.toNat:Nat):Int)) then 3 else if (x.k≠1/\x.n≠0)\/x.a≠0\/x.b≠0\/x.c≠0 then 1 else 0)
 else if gC idx x then 4 else gX x.k x.w x.n (wdJ l x.k 0 x.a) (wdJ l x.k 1 x.b) (wdJ l x.k 2 x.c)
theorem rQ {l:List Nd} {idx:Nat} {x:Nd} (hi:idx<=l.length) (h:¬gC idx x):ld l x:=by
 unfold gC ew at h;simp only[not_or] at h;obtain⟨h0,h1,h2⟩:=h;refine⟨λq=>?_,λq=>?_,λq=>?_⟩
 ·rw[if_pos q] at h0
  exact⟨by omega,by omega⟩
 ·rw[if_pos q] at h1
  exact⟨by omega,by omega⟩
 ·rw[if_pos q] at h2
  exact⟨by omega,by omega⟩
section
variable {l:List Nd} {x:Nd} {gh:List GObj}
def jU (l:List Nd) (idx:Int) (x:Nd) (j:Int) (gh:List GObj):St:=
 ⟨[(0,LN l),(1,I idx),(5,.ptr false 0 0),(67,.sl true 1 [I x.a,I x.b,I x.c]),(68,I 3),(69,I j)],[[I x.k,I x.w,I x.a,I x.b,I x.c,I x.n]],gh⟩
theorem nc {idx j a:Int} (hj:(j=0/\a=x.a)\/(j=1/\a=x.b)\/(j=2/\a=x.c)) :
  qo pg (LN l) idx (.sl true 1 [I x.a,I x.b,I x.c]) 3 j x.k x.w x.a x.b x.c x.n gh=if ew idx x.k j a then some (.ret,⟨[(4,I 4)],[],gh⟩) else some (.normal,jU l idx x (j+1) gh):=by
 have hw:(WI.wrap (j+1))=j+1:=cS (by omega) (by omega);by_cases hk:j<dp x.k
 ·have hk':=Int.not_le.2 hk
  by_cases h1:a<0
  ·rw[if_pos (by unfold ew;rw[if_pos hk];exact .inl h1)]
   rcases hj with ⟨rfl,rfl⟩|⟨rfl,rfl⟩|⟨rfl,rfl⟩<;>simp[qo,fF,hk,h1]
  ·by_cases h2:idx<=a
   ·rw[if_pos (by unfold ew;rw[if_pos hk];exact .inr h2)]
    rcases hj with ⟨rfl,rfl⟩|⟨rfl,rfl⟩|⟨rfl,rfl⟩<;>simp[qo,fF,hk,h1,h2]
   ·rw[if_neg (by unfold ew;rw[if_pos hk];rintro (h|h)<;>contradiction)]
    unfold jU;rcases hj with ⟨rfl,rfl⟩|⟨rfl,rfl⟩|⟨rfl,rfl⟩<;>simp[qo,fF,hk,hk',h1,h2]<;>exact hw
 ·have hk':=Int.not_lt.1 hk
  by_cases h2:a=0
  ·rw[if_neg (by unfold ew;rw[if_neg hk];exact λh=>h h2)]
   unfold jU;rcases hj with ⟨rfl,rfl⟩|⟨rfl,rfl⟩|⟨rfl,rfl⟩<;>simp[qo,fF,hk,hk',h2]<;>exact hw
  ·rw[if_pos (by unfold ew;rw[if_neg hk];exact h2)]
   rcases hj with ⟨rfl,rfl⟩|⟨rfl,rfl⟩|⟨rfl,rfl⟩<;>simp[qo,fF,hk,hk',h2]
theorem zG {idx:Int}:ac pg q41 (jU l idx x 0 gh)=
  if gC idx x then some (.ret,⟨[(4,I 4)],[],gh⟩) else some (.normal,⟨[(0,LN l),(5,.ptr false 0 0)],[[I x.k,I x.w,I x.a,I x.b,I x.c,I x.n]],gh⟩):=by
 have b0:=nc (l:=l) (x:=x) (gh:=gh) (idx:=idx) (j:=0) (a:=x.a) (by simp);have b1:=nc (l:=l) (x:=x) (gh:=gh) (idx:=idx) (j:=1) (a:=x.b) (by simp);have b2:=nc (l:=l) (x:=x) (gh:=gh) (idx:=idx) (j:=2) (a:=x.c) (by simp);by_cases h0:ew idx x.k 0 x.a
 ·rw[if_pos h0] at b0
  rw[if_pos (.inl h0)];exact eF (qo_ b0)
 rw[if_neg h0] at b0;refine bq (qo_ b0) ?_;by_cases h1:ew idx x.k 1 x.b
 ·rw[if_pos h1] at b1
  rw[if_pos (.inr (.inl h1))];exact eF (qo_ b1)
 rw[if_neg h1] at b1;refine bq (qo_ b1) ?_;by_cases h2:ew idx x.k 2 x.c
 ·rw[if_pos h2] at b2
  rw[if_pos (.inr (.inr h2))];exact eF (qo_ b2)
 rw[if_neg h2] at b2;refine bq (qo_ b2) ?_;rw[if_neg (by rintro (h|h|h)<;>contradiction)];refine (cX (s1:=?s1) (qo_ ?h1)).trans ?r1
 case h1=>simp[qo];rfl
 case r1=>simp[keep,bo]
theorem zH {idx:Nat} (hi:idx<=l.length) (b:Bool):ac pg qb ⟨[(0,LN l),(1,I idx),(5,.ptr false 0 0),(26,B b)],[[I x.k,I x.w,I x.a,I x.b,I x.c,I x.n]],gh⟩=
  some (.ret,⟨[(4,I (if gC idx x then 4 else gX x.k x.w x.n (wdJ l x.k 0 x.a) (wdJ l x.k 1 x.b) (wdJ l x.k 2 x.c)))],[],gh⟩):=by
 refine qaz ?_;have hl:=zG (l:=l) (x:=x) (gh:=gh) (idx:=idx);unfold jU at hl;by_cases hb:gC idx x
 ·rw[if_pos hb] at hl
  simp[hl,hb]
 ·rw[if_neg hb] at hl
  have hW:=rP (gh:=gh) (rQ hi hb);have hF:=y6 x.k x.w x.n (wdJ l x.k 0 x.a) (wdJ l x.k 1 x.b) (wdJ l x.k 2 x.c) gh;unfold jT at hW;rw[eg x] at hW
  have hk:=qay (pg:=pg) (gh:=gh) (v0:=LN l) (K0:=x.k) (K1:=x.w) (K2:=x.a) (K3:=x.b) (K4:=x.c) (K5:=x.n) (e:= .ret)
   (s:=⟨[(4,I (gX x.k x.w x.n (wdJ l x.k 0 x.a) (wdJ l x.k 1 x.b) (wdJ l x.k 2 x.c)))],[],gh⟩) (by
   simp[hW,hF])
  simp[hl,hb,hk]
theorem rR {w:Int} (h:1<=w/\w<=8):cW .i64 1 w=((2^w.toNat:Nat):Int):=by
 obtain⟨h1,h2⟩:=h;have:w=1\/w=2\/w=3\/w=4\/w=5\/w=6\/w=7\/w=8:=by omega
 rcases this with rfl|rfl|rfl|rfl|rfl|rfl|rfl|rfl<;>decide +kernel
theorem zI {idx:Nat} (hx:l[idx]?=some x):af pg 76 [LN l,I idx] gh=some (I (dH l idx x),gh):=by
 have hlt:=(aD.1 hx).1;have hg:(l.map bu)[idx]?=some (bu x):=by rw[aB,hx];rfl
 rw[eg x] at hg;have k3:=zH (l:=l) (x:=x) (gh:=gh) (idx:=idx) (by omega);have hw:=gW x.w gh;have hlf:=zE x.k gh;have k1t:ac pg qc ⟨[(39,B true)],[],gh⟩=some (.ret,⟨[(4,I 1)],[],gh⟩):=q8z rfl;have k1f:ac pg qc ⟨[(39,B false)],[],gh⟩=some (.normal,⟨[(39,B false)],[],gh⟩):=q8z rfl;have k2:ac pg qd ⟨[(39,B false)],[],gh⟩=some (.ret,⟨[(4,I 0)],[],gh⟩):=qax rfl;unfold dH;refine aw (fn:=q43) (s:=⟨[(4,I (dH l idx x))],[],gh⟩) rfl rfl (qb0 ?h1) ?r1
 case r1=>simp[au,results,q43,av,ay,al,dH]
 case h1=>
  unfold dH;by_cases h1:x.k<1
  ·simp[hg,h1,-List.getElem?_map]
  by_cases h2:24<=x.k
  ·simp[hg,h1,h2,-List.getElem?_map]
  by_cases h3:1<=x.w/\x.w<=8
  ·rw [aG h3] at hw
   by_cases h4:x.k<=3
   ·rw [aG ⟨by omega,h4⟩] at hlf
    by_cases h5:x.k=1
    ·have hI:=rI x.n x.w (by omega) gh
     rw[rR h3] at hI;generalize ((2^x.w.toNat:Nat):Int)=T at *;by_cases h6:0<=x.n/\x.n<T
     ·rw[aG h6] at hI
      rw[h5] at hg hlf;by_cases ha:x.a=0
      ·by_cases hb:x.b=0
       ·by_cases hc:x.c=0
        ·simp[hg,h3,hw,hlf,h5,hI,h6,ha,hb,hc,k1f,k2,-List.getElem?_map]
        ·simp[hg,h3,hw,hlf,h5,hI,h6,ha,hb,hc,k1t,-List.getElem?_map]
       ·simp[hg,h3,hw,hlf,h5,hI,h6,ha,hb,k1t,-List.getElem?_map]
      ·simp[hg,h3,hw,hlf,h5,hI,h6,ha,k1t,-List.getElem?_map]
     ·rw[aF h6] at hI
      rw[h5] at hg hlf;simp[hg,h3,hw,hlf,h5,hI,h6,-List.getElem?_map]
    ·by_cases hn:x.n=0
     ·by_cases ha:x.a=0
      ·by_cases hb:x.b=0
       ·by_cases hc:x.c=0
        ·simp[hg,h1,h2,h3,hw,h4,hlf,h5,hn,ha,hb,hc,k1f,k2,-List.getElem?_map]
        ·simp[hg,h1,h2,h3,hw,h4,hlf,h5,hn,ha,hb,hc,k1t,-List.getElem?_map]
       ·simp[hg,h1,h2,h3,hw,h4,hlf,h5,hn,ha,hb,k1t,-List.getElem?_map]
      ·simp[hg,h1,h2,h3,hw,h4,hlf,h5,hn,ha,k1t,-List.getElem?_map]
     ·simp[hg,h1,h2,h3,hw,h4,hlf,h5,hn,k1t,-List.getElem?_map]
   ·rw[aF (λh=>h4 h.2)] at hlf
    have k3':=k3 false;simp[hg,h1,h2,h3,hw,h4,hlf,k3',-List.getElem?_map]
  ·rw[aF h3] at hw
   simp[hg,h1,h2,h3,hw,-List.getElem?_map]
end
@[simp] theorem noG_ep (e : PV) (o : Nat) : PV.noG (.ep e o) = e.noG := rfl
section
variable {gh:List GObj}
end
structure Md where
 nodes:List Nd
 inits:List (Int×Int)
 nexts:List (Int×Int)
 bads:List Int
 holds:List Int
abbrev LP (l:List (Int×Int)):PV:= .sl false 2 (l.map bj)
def dI (m:Md):PV:= .agg [LN m.nodes,LP m.inits,LP m.nexts,LI m.bads,LI m.holds]
theorem ch (m:Md):dI m= .agg [LN m.nodes,LP m.inits,LP m.nexts,LI m.bads,LI m.holds]:=rfl
def dc (kind:Int):Nat->List Nd->List Int
 |_,[]=>[]
 |i,x::l=>if x.k=kind then (i:Int)::dc kind (i+1) l else dc kind (i+1) l
def am (l:List Nd) (kind:Int):List Int:=dc kind 0 l
theorem jV (kind:Int):∀(i:Nat) (l:List Nd),(dc kind i l).length<=l.length
 |_,[]=>cN _
 |i,x::l=>by have:=jV kind (i+1) l;rw[dc];split<;>simp<;>omega
theorem kindF_mem {kind:Int}:∀{i:Nat} {l:List Nd} {a:Int},a∈dc kind i l↔∃j,j<l.length/\a=((i+j:Nat):Int)/\(l[j]?.map (·.k))=some kind
 |i,[],a=>by simp[dc]
 | i,x::l,a=>by
  have ih:=kindF_mem (kind:=kind) (i:=i+1) (l:=l) (a:=a);rw[dc];constructor
  ·intro h
   split at h
   ·rename_i hk
    rcases List.mem_cons.1 h with h|h
    ·exact⟨0,by simp,by simpa using h,by simp[hk]⟩
    ·obtain⟨j,h1,h2,h3⟩:=ih.1 h
     exact⟨j+1,by simp;omega,by rw[h2];omega,by simpa using h3⟩
   ·obtain⟨j,h1,h2,h3⟩:=ih.1 h
    exact⟨j+1,by simp;omega,by rw[h2];omega,by simpa using h3⟩
  ·rintro⟨j,h1,h2,h3⟩
   cases j with
   |zero=>
    simp at h3;rw[if_pos h3];exact List.mem_cons.2 (.inl (by simpa using h2))
   |succ j=>
    have:=ih.2 ⟨j,by simpa using h1,by rw[h2];omega,by simpa using h3⟩;split
    ·exact bG _ this
    ·exact this
section
variable {m:Md} {gh:List GObj}
def gY (l:List Nd) (kind:Int) (acc:List Int) (i:Nat) (gh:List GObj):St:=
 ⟨[(1,I kind),(5,.sl true 1 (acc.map I)),(9,LN l),(10,I l.length),(11,I (i:Int))],[],gh⟩
theorem rS {l:List Nd} {kind:Int} {acc:List Int} {i:Nat} (hi:i<=100000):ac pg q1h ⟨[(1,I kind),(5,.sl true 1 (acc.map I)),(9,LN l),(10,I l.length),(11,I (i:Int))],[],gh⟩=some (.normal,gY l kind acc (i+1) gh):=by
 have e2:WI.wrap ((i:Int)+1)=((i+1:Nat):Int):=by rw[cS (by omega) (by omega)];omega
 refine qb1 ?_;simp[e2,gY]
theorem nf {l:List Nd} {kind:Int} (hl:l.length<=1000):∀k i (acc:List Int),i+k=l.length->acc.length<=i->
  ac pg q4d (gY l kind acc i gh)=some (.normal,⟨[(5,.sl true 1 ((acc++dc kind i (l.drop i)).map I))],[],gh⟩)
 |0,i,acc,h,_=>by
  rw[aQ (by omega)];have hlt:¬(i:Int)<(l.length:Int):=by omega
  refine (cX (s1:=?s1) (q56 ?h1)).trans ?r1
  case h1=>simp only[aF hlt,dJ];rfl
  case r1=>simp[keep,dc,bo]
 | k+1,i,acc,h,ha=>by
  have hlt:i<l.length:=by omega
  have hltI:(i:Int)<(l.length:Int):=by omega
  have hx:(l.map bu)[i]?=some (bu l[i]):=by simp[aA hlt]
  rw[eg l[i]] at hx;have hmx:(acc.length+1)*8<=maxBytes:=by have:=MB;omega
  rw[aL hlt,dc];generalize l[i]=x at *;by_cases hk:x.k=kind
  ·rw[if_pos hk]
   have hk1:=rS (gh:=gh) (l:=l) (kind:=kind) (acc:=acc++[(i:Int)]) (i:=i) (by omega);have e:acc++(i:Int)::dc kind (i+1) (l.drop (i+1))=(acc++[(i:Int)])++dc kind (i+1) (l.drop (i+1)):=by simp
   rw[e];refine bq (s1:=gY l kind (acc++[(i:Int)]) (i+1) gh) (q56 ?_) (nf hl k (i+1) _ (by omega) (by simp;omega));have hal:(acc.map I).length=acc.length:=by simp
   unfold gY at *;simp only[bK,bQ,bR] at hk1 ⊢;generalize acc.map I=A at *;simp[hltI,hx,hk,hal,hmx,hk1,-List.getElem?_map]
  ·rw[if_neg hk]
   have hk1:=rS (gh:=gh) (l:=l) (kind:=kind) (acc:=acc) (i:=i) (by omega);refine bq (s1:=gY l kind acc (i+1) gh) (q56 ?_) (nf hl k (i+1) _ (by omega) (by omega));unfold gY at *;generalize acc.map I=A at *;simp[hltI,hx,hk,hk1,-List.getElem?_map]
theorem fG {kind:Int} (hl:m.nodes.length<=1000):af pg 101 [dI m,I kind] gh=some (LI (am m.nodes kind),gh):=by
 have h:=nf (gh:=gh) (l:=m.nodes) (kind:=kind) hl m.nodes.length 0 [] (by omega) (by simp);rw[bM,bI] at h;unfold gY at h;simp only[bR,aW] at h;have hn:=noGs_ints (dc kind 0 m.nodes);have hln:(m.nodes.map bu).length=m.nodes.length:=by simp
 have hk:=qb2 (pg:=pg) (gh:=gh) (v5:= .sl true 1 ((dc kind 0 m.nodes).map I)) (e:= .ret) (s:=⟨[(4,.sl false 1 ((dc kind 0 m.nodes).map I))],[],gh⟩) (by simp);unfold am;simp only[LI];generalize (dc kind 0 m.nodes).map I=K at *;rw[ch];refine aw (fn:=q4f) (s:=⟨[(4,.sl false 1 K)],[],gh⟩) rfl rfl (qb3 ?h1) ?r1
 case h1=>simp[h,hk]
 case r1=>simp[au,results,q4f,av,ay,al,hn]
def ng (s:Int) (x:Nd):Int:=WI.wrap (s+x.w)
def eP (l:List Nd) (kind:Int):Int:=(l.filter λx=>decide (x.k=kind)).foldl ng 0
theorem lg (L:List Nd) (kind:Int):∀(i:Nat) (l:List Nd) (s:Int),l=L.drop i->(dc kind i l).foldl (λs a=>WI.wrap (s+wAt L a)) s=(l.filter λx=>decide (x.k=kind)).foldl ng s
 |_,[],_,_=>rfl
 | i,x::l,s,h=>by
  have hi:L[i]?=some x:=by have:=congrArg (·[0]?) h;simpa using this.symm
  have hd:l=L.drop (i+1):=by have:=congrArg List.tail h;rw[List.tail_drop] at this;exact this
  have hw:wAt L (i:Int)=x.w:=by unfold wAt;simp[aM,hi]
  rw[dc,List.filter_cons];by_cases hk:x.k=kind
  ·rw[if_pos hk,if_pos (by simpa using hk),List.foldl_cons,List.foldl_cons,hw]
   exact lg L kind (i+1) l _ hd
  ·rw[if_neg hk,if_neg (by simpa using hk)]
   exact lg L kind (i+1) l s hd
def li (m:Md) (xs:List Int) (s:Int) (i:Nat) (gh:List GObj):St:=
 ⟨[(2,.ptr false 0 0),(5,I s),(8,LI xs),(9,I xs.length),(10,I (i:Int))],[[LN m.nodes,LP m.inits,LP m.nexts,LI m.bads,LI m.holds]],gh⟩
theorem rT {xs:List Int} (hx:∀a∈xs,cz m.nodes a) (hl:xs.length<=1000):∀k i s,i+k=xs.length->
  ac pg q4i (li m xs s i gh)=some (.normal,⟨[(5,I ((xs.drop i).foldl (λs a=>WI.wrap (s+wAt m.nodes a)) s))],[],gh⟩)
 |0,i,s,h=>by
  rw[aQ (by omega)];have hlt:¬(i:Int)<(xs.length:Int):=by omega
  refine (cX (s1:=?s1) (q90 ?h1)).trans ?r1
  case h1=>simp only[aF hlt,dJ];rfl
  case r1=>simp[keep,bo]
 |k+1,i,s,h=>by
  have hlt:i<xs.length:=by omega
  have hltI:(i:Int)<(xs.length:Int):=by omega
  have e2:WI.wrap ((i:Int)+1)=((i+1:Nat):Int):=by rw[cS (by omega) (by omega)];omega
  have hg:(xs.map I)[i]?=some (I xs[i]):=by simp[aA hlt]
  have hno:=hx _ (bY hlt);have hn:=gB hno;have h0:=hno.1;rw[aL hlt,List.foldl_cons];generalize xs[i]=a at *;refine bq (s1:=li m xs (WI.wrap (s+wAt m.nodes a)) (i+1) gh) (q90 ?_) (rT hx hl k (i+1) _ (by omega));unfold li wAt;generalize m.nodes.getD a.toNat default=d at *;rw[eg d] at hn;simp[hltI,hg,h0,hn,e2,-List.getElem?_map]
theorem zJ {xs:List Int} (hx:∀a∈xs,cz m.nodes a) (hl:xs.length<=1000):af pg 105 [dI m,LI xs] gh=some (I (xs.foldl (λs a=>WI.wrap (s+wAt m.nodes a)) 0),gh):=by
 have h:=rT (gh:=gh) hx hl xs.length 0 0 (by omega);rw[bM] at h;unfold li at h;simp only[aW] at h;generalize xs.foldl (λs a=>WI.wrap (s+wAt m.nodes a)) 0=r at *;have hk:=qb6 (pg:=pg) (gh:=gh) (x5:=r) rfl;rw[ch];refine aw (fn:=q4k) (s:=⟨[(4,I r)],[],gh⟩) rfl rfl (qb7 ?h1) ?r1
 case h1=>simp[h,hk]
 case r1=>simp[au,results,q4k,av,ay,al]
theorem rU {l:List Nd} {kind a:Int} (h:a∈am l kind):cz l a:=by obtain⟨j,h1,h2,-⟩:=kindF_mem.1 h;exact⟨by omega,by omega⟩
theorem zK (hl:m.nodes.length<=1000):af pg 77 [dI m] gh=some (.tup [I (eP m.nodes 2),I (eP m.nodes 3)],gh):=by
 have b:∀kind,af pg 105 [dI m,LI (am m.nodes kind)] gh=some (I (eP m.nodes kind),gh):=λkind=>by have h:=zJ (m:=m) (gh:=gh) (xs:=am m.nodes kind) (λa ha=>rU ha) (bX (jV kind 0 m.nodes) hl);have e:=lg m.nodes kind 0 m.nodes 0 rfl;unfold am at h ⊢;rw[e] at h;exact h
 have o2:=fG (m:=m) (gh:=gh) (kind:=2) hl;have o3:=fG (m:=m) (gh:=gh) (kind:=3) hl;have b2:=b 2;have b3:=b 3;rw[ch] at *;refine aw (fn:=q44) (s:=⟨[(2,I (eP m.nodes 2)),(3,I (eP m.nodes 3))],[],gh⟩) rfl rfl (qb5 ?h1) ?r1
 case h1=>simp[o2,o3,b2,b3]
 case r1=>simp[au,results,q44,av,ay,al]
def nh (f:List Bool) (x:Nd):Bool:=decide (x.k=2\/x.k=3)||(eH x).any λa=>f.getD a.toNat false
def dY:List Bool->List Nd->List Bool
 |f,[]=>f
 |f,x::l=>dY (f++[nh f x]) l
theorem rV:∀(f:List Bool) (l:List Nd),(dY f l).length=f.length+l.length
 |f,[]=>rfl
 |f,x::l=>by rw[dY,rV];simp;omega
def lj (l:List Nd):Prop:=∀(i:Nat) (x:Nd),l[i]?=some x->∀a∈eH x,0<=a/\a<i
def ckG (gh:List GObj) (m:Md) (f:List Bool):List GObj:=gh++[.cells [LN m.nodes,LP m.inits,LP m.nexts,LI m.bads,LI m.holds,.sl true 1 (f.map B)]]
theorem rW {f:List Bool} {a:Int} (h:a.toNat<f.length):(f.map B)[a.toNat]?=some (B (f.getD a.toNat false)):=by rw[aB,aA h];simp[aM,aA h]
def jW (m:Md) (f:List Bool) (xs:List Int) (b:Bool) (i j:Nat) (gh:List GObj):St:=
 ⟨[(0,.ptr true gh.length 0),(4,B b),(11,LN m.nodes),(12,I m.nodes.length),(13,I (i:Int)),(26,LI xs),(27,I xs.length),(28,I (j:Int))],[],ckG gh m f⟩
theorem rX {f:List Bool} {xs:List Int} {i:Nat} (hx:∀a∈xs,0<=a/\a.toNat<f.length) (hl:xs.length<=1000):∀k j b,j+k=xs.length->
  ac pg q1f (jW m f xs b i j gh)=some (.normal,⟨[(0,.ptr true gh.length 0),(4,B (b||(xs.drop j).any λa=>f.getD a.toNat false)),(11,LN m.nodes),(12,I m.nodes.length),(13,I (i:Int))],[],ckG gh m f⟩)
 |0,j,b,h=>by
  rw[aQ (by omega)];have hlt:¬(j:Int)<(xs.length:Int):=by omega
  refine (cX (s1:=?s1) (q91 ?h1)).trans ?r1
  case h1=>simp only[aF hlt,dJ];rfl
  case r1=>simp[keep,bo]
 |k+1,j,b,h=>by
  have hlt:j<xs.length:=by omega
  have hltI:(j:Int)<(xs.length:Int):=by omega
  have e2:WI.wrap ((j:Int)+1)=((j+1:Nat):Int):=by rw[cS (by omega) (by omega)];omega
  have hg:(xs.map I)[j]?=some (I xs[j]):=by simp[aA hlt]
  obtain⟨h0,h1⟩:=hx _ (bY hlt);rw[aL hlt,List.any_cons,<-Bool.or_assoc];generalize xs[j]=a at *;have hfr:=rW h1;generalize f.getD a.toNat false=c at *;refine bq (s1:=jW m f xs (b||c) i (j+1) gh) (q91 ?_) (rX hx hl k (j+1) _ (by omega));unfold jW ckG;cases b with
  |true=>simp[hltI,hg,e2,-List.getElem?_map]
  |false=>simp[hltI,hg,h0,hfr,e2,-List.getElem?_map]
def jm (m:Md) (f:List Bool) (i:Nat) (gh:List GObj):St:=
 ⟨[(0,.ptr true gh.length 0),(11,LN m.nodes),(12,I m.nodes.length),(13,I (i:Int))],[],ckG gh m f⟩
theorem rY (hA:lj m.nodes) (hl:m.nodes.length<=1000):∀k i f,i+k=m.nodes.length->f.length=i->
  ac pg q45 (jm m f i gh)=some (.normal,⟨[],[],ckG gh m (dY f (m.nodes.drop i))⟩)
 |0,i,f,h,_=>by
  rw[aQ (by omega)];have hlt:¬(i:Int)<(m.nodes.length:Int):=by omega
  refine (cX (s1:=?s1) (q92 ?h1)).trans ?r1
  case h1=>simp only[aF hlt,dJ];rfl
  case r1=>simp[keep,dY]
 | k+1,i,f,h,hf=>by
  have hlt:i<m.nodes.length:=by omega
  have hltI:(i:Int)<(m.nodes.length:Int):=by omega
  have e2:WI.wrap ((i:Int)+1)=((i+1:Nat):Int):=by rw[cS (by omega) (by omega)];omega
  have hx:(m.nodes.map bu)[i]?=some (bu m.nodes[i]):=by simp[aA hlt]
  have hah:=hA i _ (aA hlt);rw[aL hlt,dY];generalize m.nodes[i]=x at *;rw[eg x] at hx;have hArg:=rO x (ckG gh m f);rw[eg x] at hArg;have hal:(eH x).length<=3:=by unfold eH;simp;omega
  have hl2:∀b,ac pg q1f (jW m f (eH x) b i 0 gh)=_:=λb=>rX (i:=i) (λa ha=>⟨(hah a ha).1,by have:=hah a ha;omega⟩) (by omega) (eH x).length 0 b (by omega)
  rw[bM] at hl2;generalize hany:((eH x).any λa=>f.getD a.toNat false)=c at *;have hB:nh f x=(decide (x.k=2\/x.k=3)||c):=by unfold nh;rw[hany]
  rw[hB];have hmx:f.length+1<=maxBytes:=by have:=MB;omega
  refine bq (s1:=jm m (f++[decide (x.k=2\/x.k=3)||c]) (i+1) gh) (q92 ?_) (rY hA hl k (i+1) _ (by omega) (by simp;omega));have hk1:∀b,ac pg q1g ⟨[(0,.ptr true gh.length 0),(4,B b),(11,LN m.nodes),(12,I m.nodes.length),(13,I (i:Int))],[],ckG gh m f⟩=some (.normal,⟨[(0,.ptr true gh.length 0),(11,LN m.nodes),(12,I m.nodes.length),(13,I (i:Int))],[],ckG gh m (f++[b])⟩):=λb=>by refine qb8 ?_;simp[ckG,ar,hmx]
  have hk2:∀b,ac pg qx ⟨[(0,.ptr true gh.length 0),(11,LN m.nodes),(12,I m.nodes.length),(13,I (i:Int))],[],ckG gh m (f++[b])⟩=some (.normal,jm m (f++[b]) (i+1) gh):=λb=>by refine qb9 ?_;simp[e2,jm]
  unfold jW at hl2;simp only[aW] at hl2;unfold jm at *;generalize ckG gh m f=g0 at *;by_cases h2:x.k=2
  ·have hd:decide (x.k=2\/x.k=3)=true:=aG (.inl h2)
   have d2:decide (x.k=2)=true:=aG h2;rw[hd];have:=hl2 true;have k1':=hk1 (true||c);have k2':=hk2 (true||c);generalize ckG gh m (f++[true||c])=g1 at *;simp only[Bool.true_or] at this k1' k2';simp[hltI,hx,d2,hArg,this,k1',k2',-List.getElem?_map]
  ·have d2:decide (x.k=2)=false:=aF h2
   have hd:decide (x.k=2\/x.k=3)=decide (x.k=3):=by simp[h2]
   rw[hd];have:=hl2 (decide (x.k=3));have k1':=hk1 (decide (x.k=3)||c);have k2':=hk2 (decide (x.k=3)||c);generalize ckG gh m (f++[decide (x.k=3)||c])=g1 at *;simp[hltI,hx,d2,hArg,this,k1',k2',-List.getElem?_map]
theorem zL (hA:lj m.nodes) (hl:m.nodes.length<=1000):af pg 78 [.ptr true gh.length 0] (ckG gh m [])=some (.tup [],ckG gh m (dY [] m.nodes)):=by have h:=rY (gh:=gh) hA hl m.nodes.length 0 [] (by omega) rfl;rw[bM] at h;unfold jm at h;simp only[aW] at h;generalize ckG gh m (dY [] m.nodes)=g1 at *;have h1:=qba (pg:=pg) (g0:=gh.length) (o0:=0) (gh:=ckG gh m []) (e:= .normal) (s:=⟨[],[],g1⟩) (by unfold ckG at h ⊢;simp at h ⊢;simp[h]);rw[gz (fn:=q46) rfl rfl h1];simp[au,results,q46,av,al]
theorem ni {f:List Bool} {n:Int} {g:List GObj} {b:Nat} (hb:g[b]?=some (.cells [LN m.nodes,LP m.inits,LP m.nexts,LI m.bads,LI m.holds,.sl true 1 (f.map B)])):af pg 118 [.ptr true b 0,I n] g=some (B (decide (cz m.nodes n)),g):=by
 by_cases h:0<=n
 ·have e:decide (cz m.nodes n)=decide (n<(m.nodes.length:Int)):=decide_eq_decide.2 ⟨λh2=>by have:=h2.2;omega,λh2=>⟨h,by omega⟩⟩
  rw[e];refine aw (fn:=q1j) (s:=?s1) rfl rfl (q93 ?h1) ?r1
  case h1=>simp[h,hb];rfl
  case r1=>simp[au,results,q1j,av,ay,al]
 ·have e:decide (cz m.nodes n)=false:=aF λh2=>h h2.1
  rw[e];refine aw (fn:=q1j) (s:=?s2) rfl rfl (q93 ?h2) ?r2
  case h2=>simp[h];rfl
  case r2=>simp[au,results,q1j,av,ay,al]
def fH (l:List Nd) (f:List Bool) (init:Bool) (p:Int×Int):Int:=
 if ¬cz l p.1\/¬cz l p.2\/(l.getD p.1.toNat default).k≠3 then 5 else if wAt l p.1≠wAt l p.2 then 1 else if init=true/\f.getD p.2.toNat false=true then 4 else 0
theorem zM {f:List Bool} {init:Bool} {p:Int×Int} {g:List GObj} {b:Nat} (hf:f.length=m.nodes.length) (hb:g[b]?=some (.cells [LN m.nodes,LP m.inits,LP m.nexts,LI m.bads,LI m.holds,.sl true 1 (f.map B)])) :
  af pg 106 [.ptr true b 0,bj p,B init] g=some (I (fH m.nodes f init p),g):=by
 obtain⟨s,n⟩:=p;have i1:=ni (n:=s) hb;have i2:=ni (n:=n) hb;rw[iC];unfold fH wAt;simp only;refine aw (fn:=q4l) (s:=⟨[(6,I (fH m.nodes f init (s,n)))],[],g⟩) rfl rfl (qbd ?h1) ?r1
 case r1=>simp[au,results,q4l,av,ay,al,fH,wAt]
 case h1=>
  unfold fH wAt;simp only;by_cases h1:cz m.nodes s
  ·rw [aG h1] at i1
   by_cases h2:cz m.nodes n
   ·rw [aG h2] at i2
    have n1:=gB h1;have n2:=gB h2;have z1:=h1.1;have z2:=h2.1;have hfr:=rW (f:=f) (a:=n) (by rw[hf];exact h2.2);generalize m.nodes.getD s.toNat default=d1 at *;generalize m.nodes.getD n.toNat default=d2 at *;generalize f.getD n.toNat false=c at *;rw[eg d1] at n1;rw[eg d2] at n2;by_cases h3:d1.k=3
    ·have d3:decide (d1.k=3)=true:=aG h3
     by_cases h4:d1.w=d2.w
     ·rw[if_neg (by rintro (h|h|h)<;>contradiction),if_neg (λh=>h h4)]
      cases init with
      |true=>cases c with
       |true=>simp[i1,i2,hb,z1,z2,n1,n2,d3,h4,hfr,-List.getElem?_map]
       |false=>simp[i1,i2,hb,z1,z2,n1,n2,d3,h4,hfr,-List.getElem?_map]
      |false=>simp[i1,i2,hb,z1,z2,n1,n2,d3,h4,-List.getElem?_map]
     ·rw[if_neg (by rintro (h|h|h)<;>contradiction),if_pos h4]
      simp[i1,i2,hb,z1,z2,n1,n2,d3,h4,-List.getElem?_map]
    ·rw[if_pos (.inr (.inr h3))]
     simp[i1,i2,hb,z1,n1,h3,-List.getElem?_map]
   ·rw[aF h2] at i2
    rw[if_pos (.inr (.inl h2))];simp[i1,i2]
  ·rw[aF h1] at i1
   rw[if_pos (.inl h1)];simp[i1]
end
section
variable {m:Md} {gh:List GObj}
theorem zN {n:Nat} (h:n*8<=maxBytes):af pg 119 [.nils,I n] gh=some (.sl true 1 [],gh):=by have:af pg 119 [.nils,I n] gh=gV 1 8 [.nils,I n] gh:=rfl;rw[this,gV,if_pos ⟨by omega,by simpa using h⟩]
theorem zO {X Y:List PV} (hX:cU X=true) (hY:cU Y=true) (h:(X.length+Y.length)*8<=maxBytes):af pg 107 [.sl false 1 [.sl false 1 X,.sl false 1 Y]] gh=some (.sl false 1 (X++Y),gh):=by
 have hm:=MB;have w1:WI.wrap (X.length:Int)=X.length:=cS (by omega) (by omega);have w2:WI.wrap ((X.length:Int)+(Y.length:Int))=((X.length+Y.length:Nat):Int):=by rw[cS (by omega) (by omega)];omega
 have w3:WI.wrap (0+1)=1:=by decide
 have w5:WI.wrap 2=2:=by decide
 have n1:¬((X.length:Int)<0):=by omega
 have hl1:ac pg q3t ⟨[(0,.sl false 1 [.sl false 1 X,.sl false 1 Y]),(3,I 0),(9,.sl false 1 [.sl false 1 X,.sl false 1 Y]),(10,I 2),(11,I 0)],[],gh⟩=
   some (.normal,⟨[(0,.sl false 1 [.sl false 1 X,.sl false 1 Y]),(3,I ((X.length+Y.length:Nat):Int))],[],gh⟩):=by
  refine bq (s1:=⟨[(0,.sl false 1 [.sl false 1 X,.sl false 1 Y]),(3,I X.length),(9,.sl false 1 [.sl false 1 X,.sl false 1 Y]),(10,I 2),(11,I 1)],[],gh⟩) (q2t_ ?_) ?_
  ·simp[q2t,w1,n1];exact w3
  refine bq (s1:=⟨[(0,.sl false 1 [.sl false 1 X,.sl false 1 Y]),(3,I ((X.length+Y.length:Nat):Int)),(9,.sl false 1 [.sl false 1 X,.sl false 1 Y]),(10,I 2),(11,I 2)],[],gh⟩) (q2t_ ?_) ?_
  ·simp only[q2t]
   have n2':decide ((X.length:Int)+(Y.length:Int)<0)=false:=aF (by omega);simp[w2,n2'];exact w5
  refine (cX (s1:=?s1) (q2t_ ?h1)).trans ?r1
  case h1=>simp[q2t];rfl
  case r1=>simp[keep,bo]
 have hl2:ac pg q3u ⟨[(6,.sl true 1 []),(25,.sl false 1 [.sl false 1 X,.sl false 1 Y]),(26,I 2),(27,I 0)],[],gh⟩=some (.normal,⟨[(6,.sl true 1 (X++Y))],[],gh⟩):=by
  refine bq (s1:=⟨[(6,.sl true 1 X),(25,.sl false 1 [.sl false 1 X,.sl false 1 Y]),(26,I 2),(27,I 1)],[],gh⟩) (q5e ?_) ?_
  ·have:X.length*8<=maxBytes:=by omega
   simp[this];exact w3
  refine bq (s1:=⟨[(6,.sl true 1 (X++Y)),(25,.sl false 1 [.sl false 1 X,.sl false 1 Y]),(26,I 2),(27,I 2)],[],gh⟩) (q5e ?_) ?_
  ·simp[h];exact w5
  refine (cX (s1:=?s2) (q5e ?h2)).trans ?r2
  case h2=>simp;rfl
  case r2=>simp[keep,bo]
 have hg:=zN (gh:=gh) h;have k2:=qbo (pg:=pg) (gh:=gh) (v6:= .sl true 1 (X++Y)) (e:= .ret) (s:=⟨[(2,.sl false 1 (X++Y))],[],gh⟩) (by simp);have k1:=qbp (pg:=pg) (gh:=gh) (v0:= .sl false 1 [.sl false 1 X,.sl false 1 Y]) (x3:=((X.length+Y.length:Nat):Int)) (e:= .ret) (s:=⟨[(2,.sl false 1 (X++Y))],[],gh⟩) (by generalize X.length+Y.length=n at *;simp[hg,hl2,k2]);have hn:cU (X++Y)=true:=by
  have:∀(A B:List PV),cU A=true->cU B=true->cU (A++B)=true:=by
   intro A B
   induction A with
   |nil=>intro _ h;exact h
   |cons a A ih=>
    intro h1 h2;simp only[rE,aX] at h1;simp[h1.1,ih h1.2 h2]
  exact this X Y hX hY
 refine aw (fn:=q3x) (s:=⟨[(2,.sl false 1 (X++Y))],[],gh⟩) rfl rfl (qbq ?h1) ?r1
 case h1=>
  generalize X.length+Y.length=n at *;simp[hl1,k1]
 case r1=>simp[au,results,q3x,al,hn,get]
def du (l:List Nd) (f:List Bool) (init:Bool):List (Int×Int)->Int
 |[]=>0
 |p::r=>if fH l f init p=0 then du l f init r else fH l f init p
theorem nj {f:List Bool}:(ckG gh m f)[gh.length]?=some (.cells [LN m.nodes,LP m.inits,LP m.nexts,LI m.bads,LI m.holds,.sl true 1 (f.map B)]):=by simp[ckG]
abbrev eh (m:Md):PV:= .sl true 1 [LP m.inits,LP m.nexts]
def lk (m:Md) (f:List Bool) (ps:List (Int×Int)) (k j:Nat) (gh:List GObj):St:=
 ⟨[(0,.ptr true gh.length 0),(3,I (k:Int)),(23,eh m),(24,I 2),(25,I (k:Int)),(30,LP ps),(31,I ps.length),(32,I (j:Int))],[],ckG gh m f⟩
theorem nk {f:List Bool} {ps:List (Int×Int)} {k:Nat} (hf:f.length=m.nodes.length) (hs:Sz ps.length):∀n j,j+n=ps.length->
  ac pg q47 (lk m f ps k j gh)=if du m.nodes f (decide (k=0)) (ps.drop j)=0 then some (.normal,⟨[(0,.ptr true gh.length 0),(23,eh m),(24,I 2),(25,I (k:Int))],[],ckG gh m f⟩)
   else some (.ret,⟨[(2,I (du m.nodes f (decide (k=0)) (ps.drop j)))],[],ckG gh m f⟩)
 |0,j,h=>by
  rw[aQ (by omega),du,if_pos rfl];have hlt:¬(j:Int)<(ps.length:Int):=by omega
  refine (cX (s1:=?s1) (q58 ?h1)).trans ?r1
  case h1=>simp only[aF hlt,dJ];rfl
  case r1=>simp[keep,bo]
 | n+1,j,h=>by
  have hlt:j<ps.length:=by omega
  have hltI:(j:Int)<(ps.length:Int):=by omega
  have e2:WI.wrap ((j:Int)+1)=((j+1:Nat):Int):=iA (by simp only[Sz] at hs ⊢;omega);have hx:(ps.map bj)[j]?=some (bj ps[j]):=by simp[aA hlt]
  rw[iC] at hx;have hp:=zM (m:=m) (f:=f) (init:=decide (k=0)) (p:=ps[j]) hf (nj (gh:=gh));rw[iC] at hp;rw[aL hlt,du];generalize ps[j]=p at *;obtain⟨a,b⟩:=p;simp only at hx hp;have hk0:((k:Int)==0)=decide (k=0):=by rw[y2];exact decide_eq_decide.2 (by omega)
  obtain⟨ini,hini⟩:∃ini,decide (k=0)=ini:=⟨_,rfl⟩
  rw[hini] at hk0 hp ⊢;by_cases he:fH m.nodes f ini (a,b)=0
  ·rw[if_pos he]
   rw[he] at hp;refine bq (s1:=lk m f ps k (j+1) gh) (q58 ?_) ?_
   ·unfold lk
    generalize ckG gh m f=g0 at *;simp only[hk0];simp[hltI,hx,hp,e2,-List.getElem?_map]
   ·rw[<-hini]
    exact nk hf hs n (j+1) (by omega)
  ·rw[if_neg he,if_neg he]
   refine eF (q58 ?_);generalize ckG gh m f=g0 at *;simp only[hk0];simp[hltI,hx,hp,he,-List.getElem?_map]
end
def dv (l:List Int):List (PV×PV):=l.map λa=>(I a,B true)
def eI (l:List Int) (k:Int):List Int:=if k∈l then l else l++[k]
theorem zP (l:List Int) (k:Int):eb 0 (dv l) (I k) (B true)=some (dv (eI l k)):=by
 induction l with
 |nil=>rfl
 | cons a l ih=>
  by_cases h:k=a
  ·simp[dv,eI,eb,dq,h]
  ·have ih':eb 0 (l.map λa=>(I a,B true)) (I k) (B true)=some (dv (eI l k)):=ih
   by_cases h2:k∈l
   ·simp[dv,eI,eb,dq,aZ h,h,h2] at ih' ⊢
    exact ih'
   ·simp[dv,eI,eb,dq,aZ h,h,h2] at ih' ⊢
    exact ih'
def ei (l:List Int) (xs:List Int):List Int:=xs.foldl eI l
theorem zQ (l:List Int) (k:Int):(eI l k).length=if k∈l then l.length else l.length+1:=by unfold eI;split<;>simp
theorem zR {l:List Int} {k a:Int}:a∈eI l k↔a∈l\/a=k:=by
 unfold eI;split
 ·rename_i h
  exact⟨.inl,λh2=>h2.elim id λe=>e▸h⟩
 ·simp
theorem rZ:∀(xs l:List Int),(ei l xs).length<=l.length+xs.length/\((ei l xs).length=l.length+xs.length↔(xs.Nodup/\∀a∈xs,a∉l))
 |[],l=>by simp[ei]
 | x::xs,l=>by
  have ih:=rZ xs (eI l x);have e:ei l (x::xs)=ei (eI l x) xs:=rfl;rw[e];have hl:=zQ l x;by_cases h:x∈l
  ·rw[if_pos h] at hl
   rw[hl] at ih;refine⟨by simp;omega,⟨λhe=>by simp at he;omega,λ⟨_,h2⟩=>absurd h (h2 x (by simp))⟩⟩
  ·rw[if_neg h] at hl
   rw[hl] at ih;refine⟨by simp;omega,?_⟩;have e2:(x::xs).length=xs.length+1:=rfl;rw[e2,show l.length+(xs.length+1)=l.length+1+xs.length by omega,ih.2];simp only[List.nodup_cons,List.mem_cons,zR];constructor
   ·rintro⟨h1,h2⟩
    refine⟨⟨λhx=>(h2 x hx) (.inr rfl),h1⟩,?_⟩;rintro a (rfl|ha)
    ·exact h
    ·exact λhal=>h2 a ha (.inl hal)
   ·rintro⟨⟨h1,h2⟩,h3⟩
    refine⟨h2,λa ha=>?_⟩;rintro (h4|rfl)
    ·exact h3 a (.inr ha) h4
    ·exact h1 ha
def dw (ps:List (Int×Int)):Prop:=¬(ps.map (·.1)).Nodup
instance (ps:List (Int×Int)):Decidable (dw ps):=by unfold dw;exact inferInstance
theorem sa (ps:List (Int×Int)):((ei [] (ps.map (·.1))).length<ps.length)↔dw ps:=by have:=rZ (ps.map (·.1)) [];simp at this;unfold dw;rw[<-this.2];omega
section
variable {m:Md} {gh:List GObj}
theorem sb {ps:List (Int×Int)} {k:Nat} (hs:Sz ps.length):∀n j (acc:List Int),j+n=ps.length->
  ac pg q49 ⟨[(9,LP ps),(10,.mp gh.length),(56,eh m),(57,I 2),(58,I (k:Int)),(63,LP ps),(64,I ps.length),(65,I (j:Int))],[],gh++[.map (dv acc)]⟩=
   some (.normal,⟨[(9,LP ps),(10,.mp gh.length),(56,eh m),(57,I 2),(58,I (k:Int))],[],gh++[.map (dv (ei acc ((ps.drop j).map (·.1))))]⟩)
 |0,j,acc,h=>by
  rw[aQ (by omega)];have hlt:¬(j:Int)<(ps.length:Int):=by omega
  refine (cX (s1:=?s1) (q94 ?h1)).trans ?r1
  case h1=>simp only[aF hlt,dJ];rfl
  case r1=>simp[keep,bo,ei]
 |n+1,j,acc,h=>by
  have hlt:j<ps.length:=by omega
  have hltI:(j:Int)<(ps.length:Int):=by omega
  have e2:WI.wrap ((j:Int)+1)=((j+1:Nat):Int):=iA (by simp only[Sz] at hs ⊢;omega);have hx:(ps.map bj)[j]?=some (bj ps[j]):=by simp[aA hlt]
  rw[iC] at hx;rw[aL hlt];generalize ps[j]=p at *;obtain⟨a,b⟩:=p;simp only[bQ] at hx ⊢;have hin:ei acc (a::(ps.drop (j+1)).map (·.1))=ei (eI acc a) ((ps.drop (j+1)).map (·.1)):=rfl;rw[hin];have hm:=zP acc a;refine bq (s1:=⟨[(9,LP ps),(10,.mp gh.length),(56,eh m),(57,I 2),(58,I (k:Int)),(63,LP ps),(64,I ps.length),(65,I ((j+1:Nat):Int))],[],gh++[GObj.map (dv (eI acc a))]⟩) (q94 ?_) (sb (k:=k) hs n (j+1) (eI acc a) (by omega));simp[hltI,hx,e2,hm,-List.getElem?_map]
theorem sc {ps:List (Int×Int)} {k:Nat} (hk:(k=0/\ps=m.inits)\/(k=1/\ps=m.nexts)) (hs:Sz ps.length) :
  ac pg q4b ⟨[(56,eh m),(57,I 2),(58,I (k:Int))],[],gh⟩=
   if dw ps then some (.ret,⟨[(2,I 6)],[],gh++[.map (dv (ei [] (ps.map (·.1))))]⟩)
   else some (.normal,⟨[(56,eh m),(57,I 2),(58,I ((k+1:Nat):Int))],[],gh++[.map (dv (ei [] (ps.map (·.1))))]⟩):=by
 have h4:=sb (m:=m) (gh:=gh) (k:=k) hs ps.length 0 [] (by omega);rw[bM] at h4;simp only[aW] at h4;have hml:∀l,(dv l).length=l.length:=λl=>by simp[dv]
 have hlt:decide (((ei [] (ps.map (·.1))).length:Int)<(ps.length:Int))=decide (dw ps):=by have:=sa ps;exact decide_eq_decide.2 (by rw[<-this];omega)
 have hltN:decide ((ei [] (ps.map (·.1))).length<ps.length)=decide (dw ps):=decide_eq_decide.2 (sa ps);have hmb:dv []=[]:=rfl;rw[hmb] at h4;have e2:WI.wrap ((k:Int)+1)=((k+1:Nat):Int):=by rcases hk with ⟨rfl,_⟩|⟨rfl,_⟩<;>decide
 have hix:([LP m.inits,LP m.nexts]:List PV)[k]?=some (LP ps):=by rcases hk with ⟨rfl,rfl⟩|⟨rfl,rfl⟩<;>rfl
 have hk2:(k:Int)<2:=by omega
 generalize hA:ei [] (ps.map (·.1))=A at *
 have k3:=qbf (pg:=pg) (gh:=gh++[.map (dv A)]) (v9:=LP ps) (v10:= .mp gh.length) (v56:=eh m) (x57:=2) (x58:=k)
  (e:=if dw ps then .ret else .normal) (s:=if dw ps then ⟨[(2,I 6)],[],gh++[.map (dv A)]⟩ else ⟨[(56,eh m),(57,I 2),(58,I (k:Int)),(77,B false)],[],gh++[.map (dv A)]⟩)
  (by simp[hml,hltN];by_cases ht:dw ps<;>simp[ht])
 have k4:=qbg (pg:=pg) (gh:=gh++[.map (dv A)]) (v56:=eh m) (x57:=2) (x58:=k) (b77:=false) (e:= .normal) (s:=⟨[(56,eh m),(57,I 2),(58,I ((k+1:Nat):Int))],[],gh++[.map (dv A)]⟩) (by simp[e2]);by_cases ht:dw ps
 ·rw[if_pos ht] at k3 ⊢
  rw[if_pos ht] at k3;refine q59 ?_;simp[hk2,hix,h4,k3]
 ·rw[if_neg ht] at k3 ⊢
  rw[if_neg ht] at k3;refine q59 ?_;simp[hk2,hix,h4,k3,k4]
end
def fY (m:Md) (f:List Bool):Int:=
 if du m.nodes f true m.inits≠0 then du m.nodes f true m.inits else if du m.nodes f false m.nexts≠0 then du m.nodes f false m.nexts
 else if dw m.inits\/dw m.nexts then 6 else 0
section
variable {m:Md} {gh:List GObj}
theorem zS {f:List Bool} (hf:f.length=m.nodes.length) (h1:Sz m.inits.length) (h2:Sz m.nexts.length) :
  ac pg q48 ⟨[(0,.ptr true gh.length 0),(23,eh m),(24,I 2),(25,I 0)],[],ckG gh m f⟩=
   if du m.nodes f true m.inits≠0 then some (.ret,⟨[(2,I (du m.nodes f true m.inits))],[],ckG gh m f⟩)
   else if du m.nodes f false m.nexts≠0 then some (.ret,⟨[(2,I (du m.nodes f false m.nexts))],[],ckG gh m f⟩)
   else some (.normal,⟨[(0,.ptr true gh.length 0)],[],ckG gh m f⟩):=by
 have l1:=nk (gh:=gh) (m:=m) (ps:=m.inits) (k:=0) hf h1 m.inits.length 0 (by omega);have l2:=nk (gh:=gh) (m:=m) (ps:=m.nexts) (k:=1) hf h2 m.nexts.length 0 (by omega);rw[bM] at l1 l2;unfold lk at l1 l2;simp only[aW,decide_true] at l1 l2;rw[show decide (1=0)=false from rfl] at l2;simp only[Int.natCast_one] at l1 l2;have w1:WI.wrap (0+1)=1:=by decide
 have w2:WI.wrap (1+1)=2:=by decide
 have k1:∀x,ac pg q2k ⟨[(0,.ptr true gh.length 0),(23,eh m),(24,I 2),(25,I x)],[],ckG gh m f⟩=some (.normal,⟨[(0,.ptr true gh.length 0),(23,eh m),(24,I 2),(25,I (WI.wrap (x+1)))],[],ckG gh m f⟩):=λx=>by refine qbe ?_;simp
 generalize ckG gh m f=g0 at *;by_cases e1:du m.nodes f true m.inits=0
 ·rw[if_pos e1] at l1
  rw[if_neg (λh=>h e1)];have k10:=k1 0;rw[w1] at k10;refine bq (s1:=⟨[(0,.ptr true gh.length 0),(23,eh m),(24,I 2),(25,I 1)],[],g0⟩) (q1v (by simp[l1,k10])) ?_;by_cases e2:du m.nodes f false m.nexts=0
  ·rw[if_pos e2] at l2
   rw[if_neg (λh=>h e2)];have k11:=k1 1;rw[w2] at k11;refine bq (s1:=⟨[(0,.ptr true gh.length 0),(23,eh m),(24,I 2),(25,I 2)],[],g0⟩) (q1v (by simp[l2,k11])) ?_;refine (cX (s1:=?s1) (q1v ?h1)).trans ?r1
   case h1=>simp;rfl
   case r1=>simp[keep,bo]
  ·rw[if_neg e2] at l2
   rw[if_pos e2];refine eF (q1v ?_);simp[l2]
 ·rw[if_neg e1] at l1
  rw[if_pos e1];refine eF (q1v ?_);simp[l1]
theorem zT (h1:Sz m.inits.length) (h2:Sz m.nexts.length):∃g2,
  ac pg q4c ⟨[(56,eh m),(57,I 2),(58,I 0)],[],gh⟩=
   if dw m.inits\/dw m.nexts then some (.ret,⟨[(2,I 6)],[],gh++g2⟩) else some (.normal,⟨[],[],gh++g2⟩):=by
 have b1:=sc (gh:=gh) (m:=m) (ps:=m.inits) (k:=0) (.inl ⟨rfl,rfl⟩) h1;have b2:=λg=>sc (gh:=g) (m:=m) (ps:=m.nexts) (k:=1) (.inr ⟨rfl,rfl⟩) h2
 simp only[aW,Int.natCast_one,cO,show ((1+1:Nat):Int)=2 from rfl] at b1 b2;generalize ei [] (m.inits.map (·.1))=A at *;generalize ei [] (m.nexts.map (·.1))=B at *;by_cases t1:dw m.inits
 ·rw[if_pos t1] at b1
  exact⟨_,by rw[if_pos (.inl t1)];exact eF b1⟩
 ·rw[if_neg t1] at b1
  have b2:=b2 (gh++[.map (dv A)]);by_cases t2:dw m.nexts
  ·rw[if_pos t2] at b2
   refine⟨[.map (dv A)]++[.map (dv B)],?_⟩;rw[if_pos (.inr t2),<-aY];exact bq b1 (eF b2)
  ·rw[if_neg t2] at b2
   refine⟨[.map (dv A)]++[.map (dv B)],?_⟩;rw[if_neg (by rintro (h|h)<;>contradiction),<-aY];refine bq b1 (bq b2 ((cX (s1:=?s1) (q59 ?h1)).trans ?r1))
   case h1=>simp;rfl
   case r1=>simp[keep]
theorem zU {f:List Bool} (hf:f.length=m.nodes.length) (h1:Sz m.inits.length) (h2:Sz m.nexts.length) :
  af pg 79 [.ptr true gh.length 0] (ckG gh m f)=some (I (fY m f),ckG gh m f):=by
 have l1:=zS (gh:=gh) hf h1 h2;obtain⟨g2,l3⟩:=zT (m:=m) (gh:=ckG gh m f) h1 h2;have hg:=nj (gh:=gh) (m:=m) (f:=f);unfold fY;have k5:∀g,ac pg q2m ⟨[],[],g⟩=some (.ret,⟨[(2,I 0)],[],g⟩):=λg=>qbh rfl
 have k2:ac pg q2n ⟨[(0,.ptr true gh.length 0)],[],ckG gh m f⟩=some (.ret,⟨[(2,I (if dw m.inits\/dw m.nexts then 6 else 0))],[],ckG gh m f++g2⟩):=by
  refine qbi ?_;generalize ckG gh m f=g0 at *;have k5:=k5 (g0++g2);by_cases t:dw m.inits\/dw m.nexts
  ·rw[if_pos t] at l3
   simp[hg,l3,t]
  ·rw[if_neg t] at l3
   simp[hg,l3,t,k5]
 generalize (if dw m.inits\/dw m.nexts then (6:Int) else 0)=r at *;generalize ckG gh m f=g0 at *;by_cases e1:du m.nodes f true m.inits=0
 ·rw[if_neg (λh=>h e1)] at l1 ⊢
  by_cases e2:du m.nodes f false m.nexts=0
  ·rw[if_neg (λh=>h e2)] at l1 ⊢
   refine aw (fn:=qy) (s:=?s1) rfl rfl (q5a ?h1) ?r1
   case h1=>simp[hg,l1,k2];rfl
   case r1=>simp[au,results,qy,av,ay,al]
  ·rw[if_pos e2] at l1 ⊢
   refine aw (fn:=qy) (s:=?s2) rfl rfl (q5a ?h2) ?r2
   case h2=>simp[hg,l1];rfl
   case r2=>simp[au,results,qy,av,ay,al]
 ·rw[if_pos e1] at l1 ⊢
  refine aw (fn:=qy) (s:=?s3) rfl rfl (q5a ?h3) ?r3
  case h3=>simp[hg,l1];rfl
  case r3=>simp[au,results,qy,av,ay,al]
def gZ (m:Md):Int:=
 if m.nexts.length<(am m.nodes 3).length then 5 else if (m.bads++m.holds).any (λa=> !decide (cz m.nodes a)) then 5
 else if (m.bads++m.holds).any (λa=> !decide (wAt m.nodes a=1)) then 1 else 0
theorem zV {f:List Bool} {n:Int} {g:List GObj} {b c:Nat} (hb:g[b]?=some (.cells [LN m.nodes,LP m.inits,LP m.nexts,LI m.bads,LI m.holds,.sl true 1 (f.map B)])) (hc:g[c]?=some (.cells [.ptr true b 0])) :
  af pg 108 [I n,.ptr true c 0] g=some (B (!decide (cz m.nodes n)),g):=by
 have i1:=ni (n:=n) hb;generalize decide (cz m.nodes n)=d at *;refine aw (fn:=q4m) (s:=?s1) rfl rfl (qbl ?h1) ?r1
 case h1=>simp[hc,i1];rfl
 case r1=>simp[au,results,q4m,av,ay,al]
theorem zW {f:List Bool} {n:Int} {g:List GObj} {b c:Nat} (hb:g[b]?=some (.cells [LN m.nodes,LP m.inits,LP m.nexts,LI m.bads,LI m.holds,.sl true 1 (f.map B)])) (hc:g[c]?=some (.cells [.ptr true b 0])) (hn:cz m.nodes n) :
  af pg 109 [I n,.ptr true c 0] g=some (B (!decide (wAt m.nodes n=1)),g):=by
 have n1:=gB hn;have h0:=hn.1;unfold wAt;generalize m.nodes.getD n.toNat default=d1 at *;rw[eg d1] at n1;refine aw (fn:=q4n) (s:=?s1) rfl rfl (qbn ?h1) ?r1
 case h1=>simp[hb,hc,h0,n1,-List.getElem?_map];rfl
 case r1=>simp[au,results,q4n,av,ay,al]
theorem zX {f:List Bool} (hl:m.nodes.length<=1000) (h1:m.bads.length<=100) (h2:m.holds.length<=100) :
  af pg 80 [.ptr true gh.length 0] (ckG gh m f)=some (I (gZ m),ckG gh m f):=by
 have hg:=nj (gh:=gh) (m:=m) (f:=f);have hlen:(ckG gh m f).length=gh.length+1:=by simp[ckG]
 generalize ckG gh m f=g0 at *;obtain⟨g1,hg1⟩:∃g1,g1=g0++[GObj.cells [.ptr true gh.length 0]]:=⟨_,rfl⟩
 have htk:g1.take g0.length=g0:=by rw[hg1];simp
 have hb:g1[gh.length]?=some (.cells [LN m.nodes,LP m.inits,LP m.nexts,LI m.bads,LI m.holds,.sl true 1 (f.map B)]):=by rw[hg1,aJ (by omega)];exact hg
 have hc:g1[g0.length]?=some (.cells [.ptr true gh.length 0]):=by rw[hg1];simp
 have ho:=fG (m:=m) (gh:=g1) (kind:=3) hl;rw[ch] at ho;have hmx:((m.bads.map I).length+(m.holds.map I).length)*8<=maxBytes:=by have:=MB;simp;omega
 have hsz:Sz (m.bads++m.holds).length:=by simp only[Sz,aV];omega
 have hcc:=zO (gh:=g1) (X:=m.bads.map I) (Y:=m.holds.map I) (noGs_ints _) (noGs_ints _) hmx;rw[<-bK] at hcc;have c1:=rN (xs:=m.bads++m.holds) (c:=108) (caps:=[.ptr true g0.length 0]) (gh:=g1) (λx _=>zV (n:=x) hb hc) rfl hsz;have c2:(∀a∈m.bads++m.holds,cz m.nodes a)->_:=λhn=>rN (xs:=m.bads++m.holds) (c:=109) (caps:=[.ptr true g0.length 0]) (gh:=g1) (λx hx=>zW hb hc (hn x hx)) rfl hsz
 have hnb:(m.bads++m.holds).any (λa=> !decide (cz m.nodes a))=false->∀a∈m.bads++m.holds,cz m.nodes a:=λh a ha=>by have:=List.any_eq_false.1 h a ha;simpa using this
 unfold gZ;generalize (m.bads++m.holds).any (λa=> !decide (cz m.nodes a))=p1 at *;generalize (m.bads++m.holds).any (λa=> !decide (wAt m.nodes a=1))=p2 at *;generalize hK:am m.nodes 3=K at *;have hKl:(K.map I).length=K.length:=by simp
 have hXl:(m.nexts.map bj).length=m.nexts.length:=by simp
 simp only[LI] at *;generalize (m.bads++m.holds).map I=M at *;generalize m.bads.map I=M1 at *;generalize m.holds.map I=M2 at *;generalize K.map I=K' at *;generalize m.nexts.map bj=X' at *;by_cases e1:m.nexts.length<K.length
 ·rw[if_pos e1]
  refine aw (fn:=ql) (s:=⟨[(2,I 5)],[],g1⟩) rfl rfl (q1w_ ?h1) ?r1
  case h1=>simp only[q1w];rw[<-hg1];simp[hb,hc,ho,hKl,e1]
  case r1=>simp[au,results,ql,av,ay,al,htk]
 ·rw[if_neg e1]
  cases p1 with
  |true=>
   rw[if_pos rfl];refine aw (fn:=ql) (s:=⟨[(2,I 5)],[],g1⟩) rfl rfl (q1w_ ?h2) ?r2
   case h2=>simp only[q1w];rw[<-hg1];simp[hb,hc,ho,hKl,e1,hcc,c1]
   case r2=>simp[au,results,ql,av,ay,al,htk]
  | false=>
   rw[if_neg (by simp)];have c2:=c2 (hnb rfl);cases p2 with
   |true=>
    rw[if_pos rfl];refine aw (fn:=ql) (s:=⟨[(2,I 1)],[],g1⟩) rfl rfl (q1w_ ?h3) ?r3
    case h3=>simp only[q1w];rw[<-hg1];simp[hb,hc,ho,hKl,e1,hcc,c1,c2]
    case r3=>simp[au,results,ql,av,ay,al,htk]
   |false=>
    rw[if_neg (by simp)];refine aw (fn:=ql) (s:=⟨[(2,I 0)],[],g1⟩) rfl rfl (q1w_ ?h4) ?r4
    case h4=>simp only[q1w];rw[<-hg1];simp[hb,hc,ho,hKl,e1,hcc,c1,c2]
    case r4=>simp[au,results,ql,av,ay,al,htk]
def eJ (L:List Nd):Nat->List Nd->Int
 |_,[]=>0
 |i,x::l=>if dH L i x=0 then eJ L (i+1) l else dH L i x
def az (m:Md):Int:=
 if m.nodes.length>80\/m.bads.length>8\/m.holds.length>8 then 2
 else if eJ m.nodes 0 m.nodes≠0 then eJ m.nodes 0 m.nodes
 else if eP m.nodes 2>6\/eP m.nodes 3>10 then 2
 else if fY m (dY [] m.nodes)≠0 then fY m (dY [] m.nodes) else gZ m
theorem ll {L:List Nd}:∀{i:Nat} {l:List Nd},eJ L i l=0->∀j x,l[j]?=some x->dH L ((i+j:Nat):Int) x=0
 |i,y::l,h,0,x,hx=>by
  rw[eJ] at h;simp at hx;subst hx;split at h
  ·assumption
  ·contradiction
 | i,y::l,h,j+1,x,hx=>by
  rw[eJ] at h;split at h
  ·have:=ll h j x (by simpa using hx)
   rw[show i+(j+1)=i+1+j by omega];exact this
  ·contradiction
theorem sd {L:List Nd} (h:eJ L 0 L=0):lj L:=by
 intro i x hx a ha;have h0:=ll h i x hx;rw[cO] at h0;unfold dH at h0;split at h0
 ·omega
 rename_i hk;split at h0
 ·omega
 split at h0
 ·rename_i hk3
  unfold eH at ha;rw[zD ⟨by omega,hk3⟩] at ha;simp at ha
 split at h0
 ·omega
 rename_i hb;unfold gC ew at hb;simp only[not_or] at hb;obtain⟨b0,b1,b2⟩:=hb;unfold eH at ha;rcases nb x.k with ht|ht|ht|ht<;>rw[ht] at ha b0 b1 b2<;>simp at ha b0 b1 b2
 ·subst ha;exact⟨by omega,by omega⟩
 ·rcases ha with rfl|rfl<;>exact⟨by omega,by omega⟩
 ·rcases ha with rfl|rfl|rfl<;>exact⟨by omega,by omega⟩
theorem se (hl:m.nodes.length<=1000):∀k i,i+k=m.nodes.length->
  ac pg q40 ⟨[(1,.ptr false 0 0),(27,I m.nodes.length),(28,I (i:Int))],[[LN m.nodes,LP m.inits,LP m.nexts,LI m.bads,LI m.holds]],gh⟩=
   if eJ m.nodes i (m.nodes.drop i)=0 then some (.normal,⟨[(1,.ptr false 0 0)],[[LN m.nodes,LP m.inits,LP m.nexts,LI m.bads,LI m.holds]],gh⟩)
   else some (.ret,⟨[(2,I (eJ m.nodes i (m.nodes.drop i)))],[],gh⟩)
 |0,i,h=>by
  rw[aQ (by omega),eJ,if_pos rfl];have hlt:¬(i:Int)<(m.nodes.length:Int):=by omega
  refine (cX (s1:=?s1) (q5c ?h1)).trans ?r1
  case h1=>simp only[aF hlt,dJ];rfl
  case r1=>simp[keep,bo]
 | k+1,i,h=>by
  have hlt:i<m.nodes.length:=by omega
  have hltI:(i:Int)<(m.nodes.length:Int):=by omega
  have e2:WI.wrap ((i:Int)+1)=((i+1:Nat):Int):=by rw[cS (by omega) (by omega)];omega
  have hn:=zI (l:=m.nodes) (gh:=gh) (idx:=i) (aA hlt);rw[aL hlt,eJ];generalize dH m.nodes (i:Int) m.nodes[i]=r at *;by_cases he:r=0
  ·rw[if_pos he]
   refine bq (s1:=⟨[(1,.ptr false 0 0),(27,I m.nodes.length),(28,I ((i+1:Nat):Int))],[[LN m.nodes,LP m.inits,LP m.nexts,LI m.bads,LI m.holds]],gh⟩) (q5c ?_) (se hl k (i+1) (by omega));simp[hltI,hn,he,e2]
  ·rw[if_neg he,if_neg he]
   refine eF (q5c ?_);simp[hltI,hn,he]
theorem nn (h1:Sz m.inits.length) (h2:Sz m.nexts.length):af pg 38 [dI m] gh=some (I (az m),gh):=by
 unfold az;have hNl:(m.nodes.map bu).length=m.nodes.length:=by simp
 have hBl:(m.bads.map I).length=m.bads.length:=by simp
 have hHl:(m.holds.map I).length=m.holds.length:=by simp
 rw[ch];by_cases c1:m.nodes.length>80\/m.bads.length>8\/m.holds.length>8
 ·rw [if_pos c1]
  refine aw (fn:=qf) (s:=⟨[(2,I 2)],[],gh⟩) rfl rfl (q1x ?h1) ?r1
  case r1=>simp[au,results,qf,av,ay,al]
  case h1=>
   by_cases d1:(80:Int)<(m.nodes.length:Int)
   ·simp[d1]
   ·by_cases d2:(8:Int)<(m.bads.length:Int)
    ·simp[d1,d2]
    ·have d3:(8:Int)<(m.holds.length:Int):=by omega
     simp[d1,d2,d3]
 ·rw [if_neg c1]
  have d1:¬(80:Int)<(m.nodes.length:Int):=by omega
  have d2:¬(8:Int)<(m.bads.length:Int):=by omega
  have d3:¬(8:Int)<(m.holds.length:Int):=by omega
  have hl:=se (m:=m) (gh:=gh) (by omega) m.nodes.length 0 (by omega);rw[bM] at hl;simp only[aW] at hl;by_cases hn:eJ m.nodes 0 m.nodes=0
  ·rw [if_neg (λh=>h hn)]
   rw[if_pos hn] at hl;have hb:=zK (m:=m) (gh:=gh) (by omega);rw[ch] at hb;have hlen:=zL (m:=m) (gh:=gh) (sd hn) (by omega);have hf:(dY [] m.nodes).length=m.nodes.length:=by simpa using rV [] m.nodes
   have hp:=zU (gh:=gh) hf h1 h2;have hm:=zX (m:=m) (gh:=gh) (f:=dY [] m.nodes) (by omega) (by omega) (by omega);have htk:(ckG gh m (dY [] m.nodes)).take gh.length=gh:=by simp[ckG]
   have hck:ckG gh m []=gh++[GObj.cells [LN m.nodes,LP m.inits,LP m.nexts,LI m.bads,LI m.holds,.sl true 1 []]]:=rfl;generalize ckG gh m (dY [] m.nodes)=g1 at *;generalize fY m (dY [] m.nodes)=r at *;rw[hck] at hlen;by_cases hbt:eP m.nodes 2>6\/eP m.nodes 3>10
   ·rw[if_pos hbt]
    have k1:ac pg q15 ⟨[(1,.ptr false 0 0)],[[LN m.nodes,LP m.inits,LP m.nexts,LI m.bads,LI m.holds]],gh⟩=some (.ret,⟨[(2,I 2)],[],gh⟩):=by
     refine q5d ?_;by_cases b1:6<eP m.nodes 2
     ·simp[hb,b1]
     ·have b2:10<eP m.nodes 3:=by omega
      simp[hb,b1,b2]
    refine aw (fn:=qf) (s:=⟨[(2,I 2)],[],gh⟩) rfl rfl (q1x ?h2) ?r2
    case r2=>simp[au,results,qf,av,ay,al]
    case h2=>simp[d1,d2,d3,hl,k1]
   ·rw[if_neg hbt]
    have b1:¬6<eP m.nodes 2:=by omega
    have b2:¬10<eP m.nodes 3:=by omega
    by_cases hr:r=0
    ·rw[if_neg (λh=>h hr)]
     have k1:ac pg q15 ⟨[(1,.ptr false 0 0)],[[LN m.nodes,LP m.inits,LP m.nexts,LI m.bads,LI m.holds]],gh⟩=some (.ret,⟨[(2,I (gZ m))],[],g1⟩):=by refine q5d ?_;simp[hb,b1,b2,hlen,hp,hr,hm]
     refine aw (fn:=qf) (s:=⟨[(2,I (gZ m))],[],g1⟩) rfl rfl (q1x ?h3) ?r3
     case r3=>simp[au,results,qf,av,ay,al,htk]
     case h3=>simp[d1,d2,d3,hl,k1]
    ·rw[if_pos hr]
     have k1:ac pg q15 ⟨[(1,.ptr false 0 0)],[[LN m.nodes,LP m.inits,LP m.nexts,LI m.bads,LI m.holds]],gh⟩=some (.ret,⟨[(2,I r)],[],g1⟩):=by refine q5d ?_;simp[hb,b1,b2,hlen,hp,hr]
     refine aw (fn:=qf) (s:=⟨[(2,I r)],[],g1⟩) rfl rfl (q1x ?h4) ?r4
     case r4=>simp[au,results,qf,av,ay,al,htk]
     case h4=>simp[d1,d2,d3,hl,k1]
  ·rw[if_pos hn]
   rw[if_neg hn] at hl;generalize eJ m.nodes 0 m.nodes=r at *;refine aw (fn:=qf) (s:=⟨[(2,I r)],[],gh⟩) rfl rfl (q1x ?h5) ?r5
   case r5=>simp[au,results,qf,av,ay,al]
   case h5=>simp[d1,d2,d3,hl]
end
@[simp] theorem ble11 : Nat.ble 1 1 = true := rfl
section
variable {m:Md} {gh:List GObj}
end
theorem z8 (k a b c n w0 w1:Int) {W:Nat} (hW:W<=8):iB k W a b c n w0 w1=cu k a b c n w0 w1%((2^W:Nat):Int):=by unfold iB;rw[rL hW,rK _ hW,zA]
section
variable {gh:List GObj}
abbrev ly (l:List Int):Prop:=∀n∈l,-9223372036854775808<=n/\n<=9223372036854775807
end
abbrev LsI (ls:List (List Int)):PV:= .sl false 1 (ls.map λl=>LI l)
abbrev ek (st:List Int) (ins:List (List Int)):PV:= .agg [LI st,LsI ins]
section
variable {gh:List GObj}
end
theorem Bg:af pg 242 [] []=some (.bool true,[]):=Be (n:=2000) (by kernel_rfl)
end Go.Lw